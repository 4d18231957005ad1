/- CSame CLayout, in one text. -/
import Derived.Test.YtdhpmegbmjoekaaGreatDoorGen
import Derived.Test.YtdhpmegbmjoekaaGreatDoorShL
set_option linter.unusedSimpArgs false
set_option linter.unusedVariables false
namespace Go.Proofs.YtdhpmegbmjoekaaGreatDoor.G
open Go Go.Sh
section
end
section
def yK:List Int→Int→Option (List Int×Int)
 |[],e=>some ([],e)
 |n::r,e=>if n>4096-e then none else(yK r ((e+n+3) / 4*4)).map fun x=>(e::x.1,x.2)
def bU(xs:List Int):List Int×Int×Int:=
 if ∃n∈xs,n<0 then([],0,1) else match yK xs 0 with
  |none=>([],0,17)
  |some x=>(x.1,x.2,0)
theorem JT{xs:List Int}{i:Nat}{e:Int}{a:List Int}(hi:i<xs.length)(h:yK xs 0=(yK (xs.drop i) e).map fun x=>(a++x.1,x.2)):
 (xs[i]>4096-e→yK xs 0=none)∧(¬xs[i]>4096-e→yK xs 0=(yK (xs.drop (i+1)) ((e+xs[i]+3) / 4*4)).map fun x=>((a++[e])++x.1,x.2)):=by
 rw[V6 hi]at h;simp only[yK]at h;constructor
 ·intro b;rw[if_pos b]at h;exact h
 ·intro b;rw[if_neg b]at h;rw[h];cases yK (List.drop (i+1) xs) ((e+xs[i]+3) / 4*4)<;>simp
theorem rJ{xs:List Int}{i:Nat}(hi:i<xs.length)(h:xs[i]<0):bU xs=([],0,1):=by
 unfold bU;rw[if_pos ⟨_,VN hi,h⟩]
theorem oI{xs:List Int}(b: ∀n∈xs,0≤n)(h:yK xs 0=none):bU xs=([],0,17):=by
 unfold bU;rw[if_neg (by rintro⟨n,a,c⟩;have:=b n a;omega),h]
theorem oJ{xs:List Int}{x:List Int×Int}(b: ∀n∈xs,0≤n)(h:yK xs 0=some x):bU xs=(x.1,x.2,0):=by
 unfold bU;rw[if_neg (by rintro⟨n,a,c⟩;have:=b n a;omega),h]
theorem AV{xs:List Int}{p:Int→Prop}(h: ∀j (a:j<xs.length),p xs[j]): ∀n∈xs,p n:=by
 intro n b;obtain⟨j,a,rfl⟩:=List.getElem_of_mem b;exact h j a
theorem AW(a b:List Int):az a++az b=az (a++b):=by simp[az]
def LV(xs:List Int)(h:ah)(v:Value)(a:ah):Prop:=
 ∃p l c,v= .tuple #[.slice p l c,.int .i64 (bU xs).2.1,.int .i64 (bU xs).2.2]∧m8 a h.size 1 p l c (az (bU xs).1)∧cd no h a
theorem OK{p:Option Addr}{l c:Nat}{h:ah}{xs:List Int}(D:bD h p (az xs))(Z:xs.length=l)(U:l≤2 ^ 32)(hr: ∀n∈xs,-2 ^ 63≤n∧n<2 ^ 63):
 au P mL #[.slice p l c] h (LV xs h):=by
 refine xV _ _ _ ?_;unfold xU;refine aO (fun m s w=>w=h∧ ∃i:Nat,s=((p,l,c),(p,l,c),(l:Int),(i:Int),())∧i≤l∧m=l-i∧ ∀j (C:j<i) (B:j<xs.length),0≤xs[j]) l ⟨rfl,0,rfl,by omega,by omega,by intro j C;omega⟩ ?_;rintro m s w ⟨rfl,i,rfl,hi,rfl,N⟩;unfold so;dsimp only;refine aq (fun r=> ?_) (fun H=> ?_)
 ·have r:i<l:=by omega
  have f:i<xs.length:=by omega
  obtain⟨a,rfl⟩:=D.some_of (by rw[av];omega);refine aC rfl rfl r ?_;simp only[hC,VO];refine ae (D.cell (aF (bo f))) ?_;refine aq (fun v=> ?_) (fun Q=> ?_)
  ·refine⟨none,0,0,?_,?_,cd.refl _ _⟩
   ·rw[rJ f v]
   ·rw[rJ f v];exact m8.nil _ _ _
  ·rw[al (by omega)];refine⟨l-(i+1),by omega,by trivial,i+1,rfl,by omega,rfl,fun j C B=> ?_⟩;by_cases e:j=i
   ·subst e;omega
   ·exact N j (by omega) B
 ·have t: ∀n∈xs,0≤n:=AV fun j C=>N j (by omega) C
  refine aO (fun m s E=>cd no w E∧ ∃(i:Nat)(q:Option Addr)(k d:Nat)(e:Int)(o:List Int),s=((q,k,d),e,(p,l,c),(l:Int),(i:Int),())∧i≤l∧m=l-i∧k=i∧m8 E w.size 1 q k d (az o)∧
   0≤e∧e≤4096∧yK xs 0=(yK (xs.drop i) e).map fun x=>(o++x.1,x.2)) l ⟨cd.refl _ _,0,none,0,0,0,[],rfl,by omega,by omega,rfl,m8.nil _ _ _,by omega,by omega,by simp⟩ ?_
  rintro m s E ⟨y,i,q,k,d,e,o,rfl,hi,rfl,rfl,O,V,W,g⟩;unfold pK;dsimp only;refine aq (fun r=> ?_) (fun H=> ?_)
  ·have r:k<l:=by omega
   have f:k<xs.length:=by omega
   have M:=D.frame0 y;obtain⟨a,rfl⟩:=D.some_of (by rw[av];omega);refine aC rfl rfl r ?_;simp only[hC,VO];refine ae (M.cell (aF (bo f))) ?_;obtain⟨R,s2⟩:=JT f g;have h0:=t _ (VN f);rw[al (n:=4096-e) (by omega)];refine aq (fun u=> ?_) (fun L=> ?_)
   ·refine⟨none,0,0,?_,?_,y⟩
    ·rw[oI t (R u)]
    ·rw[oI t (R u)];exact m8.nil _ _ _
   ·refine Dv (cs:=[.int .i64 e]) fun b h3 U X F A=> ?_;have J:=O.frame0 A;refine IJ (xs:=az o) (ys:=[.int .i64 e]) J (by have:=y.size;omega) rfl (by omega) (by omega) (bD.of_at F) rfl (by simp[ib]) ?_;intro p' l' S T I K G Y;have z:cd no w T:=(y.trans A).own G (VX _);rw[al (n:=e+_) (by omega),al (n:=_+4) (by omega),al (n:=_-1) (by omega),Xi (by omega),al (n:=_ / 4) (by omega),al (n:=_*4) (by omega),al (n:=(k:Int)+1) (by omega)];refine⟨l-(k+1),by omega,z,k+1,p',l',S,(e+xs[k]+3) / 4*4,o++[e],?_,by omega,rfl,I,?_,by omega,by omega,s2 L⟩
    ·rw[show e+xs[k]+4-1=e+xs[k]+3 by omega];rfl
    ·rw[←AW];exact K
  ·have:k=l:=by omega
   rw[Wj (by omega)]at g;simp only[yK,Option.map_some,Wd]at g;refine⟨q,k,d,?_,?_,y⟩
   ·rw[oJ t g]
   ·rw[oJ t g];exact O
theorem Uh{h:ah}{n:Int}(h0:0≤n)(b:n≤2 ^ 32):au P wJ #[.int .i64 n] h fun v a=>v= .int .i64 ((n+3) / 4*4)∧a=h:=by
 refine EJ _ ?_;unfold H7;rw[al (n:=n+3) (by omega),Xi (by omega),al (n:=_ / 4) (by omega),al (n:=_*4) (by omega)];exact⟨rfl,rfl⟩
def AX(xs:List Int)(h:ah)(v:Value)(a:ah):Prop:=
 ∃p l c,v= .agg #[.slice p l c,.int .i64 (bU xs).2.1,.int .i64 (bU xs).2.2]∧m8 a h.size 1 p l c (az (bU xs).1)∧cd no h a
theorem LW{p:Option Addr}{l c:Nat}{h:ah}{xs:List Int}(hx:bD h p (az xs))(bR:xs.length=l)(Z:l≤2 ^ 32)(hr: ∀n∈xs,-2 ^ 63≤n∧n<2 ^ 63):
 au P mP #[.slice p l c] h (AX xs h):=by
 refine xF _ _ _ ?_;unfold xE;refine Dv (cs:=[.slice none 0 0,.int .i64 0,.int .i64 0]) fun G h1 bg br B ar=> ?_;refine Dv (cs:=[.slice none 0 0,.int .i64 0,.int .i64 0]) fun b2 Q bk bs W A=> ?_;refine kY W (by simp) fun T a1 I t=>kY I (by simp) fun h4 bw X C=>kY X (by simp) fun h5 bH Y ab=> ?_;have B:At h5 G [.slice none 0 0,.int .i64 0,.int .i64 0]:=ab.at (C.at (t.at (A.at0 B) (by omega)) (by omega)) (by omega);have hf:cd no h h5:=(((ar.trans A).one t (by omega)).one C (by omega)).one ab (by omega);refine aO (fun m s h'=>h'=h5∧ ∃i:Nat,s=((p,l,c),⟨G,0,none⟩,⟨b2,0,none⟩,(i:Int),())∧i≤l∧m=l-i∧ ∀j (hj:j<i) (ad:j<xs.length),0≤xs[j]) l ⟨rfl,0,rfl,by omega,by omega,by intro j hj;omega⟩ ?_;rintro m s h' ⟨rfl,i,rfl,hi,rfl,hn⟩;unfold sf;dsimp only;have a3:=hx.frame0 hf;refine aq (fun F=> ?_) (fun aw=> ?_)
 ·have F:i<l:=by omega
  have o:i<xs.length:=by omega
  obtain⟨a,rfl⟩:=hx.some_of (by rw[av];omega);refine aC rfl rfl F ?_;simp only[hC,VO];refine ae (a3.cell (aF (bo o))) ?_;refine aq (fun O=> ?_) (fun ba=> ?_)
  ·refine kY B (by simp) fun h6 ag u D=> ?_;rw[aR];refine kY u (by simp) fun h7 S g r=> ?_;rw[aR];refine kY g (by simp) fun h8 ai f E=> ?_;refine ak (f.cell rfl) (ae (f.cell rfl) (ae (f.cell rfl) ⟨none,0,0,?_,?_,((hf.one D (by omega)).one r (by omega)).one E (by omega)⟩))
   ·rw[rJ o O]
   ·rw[rJ o O];exact m8.nil _ _ _
  ·rw[al (by omega)];refine⟨l-(i+1),by omega,by trivial,i+1,rfl,by omega,rfl,fun j hj ad=> ?_⟩;by_cases e:j=i
   ·subst e;omega
   ·exact hn j (by omega) ad
 ·have L: ∀n∈xs,0≤n:=AV fun j hj=>hn j (by omega) hj
  refine aO (fun m s Q=>cd no h Q∧ ∃(i:Nat)(q:Option Addr)(k d:Nat)(e:Int)(H:List Int),s=((p,l,c),⟨G,0,none⟩,⟨b2,0,none⟩,(i:Int),())∧i≤l∧m=l-i∧k=i∧
   At Q G [.slice none 0 0,.int .i64 0,.int .i64 0]∧At Q b2 [.slice q k d,.int .i64 e,.int .i64 0]∧m8 Q (h.size+2) 1 q k d (az H)∧
   0≤e∧e≤4096∧e % 4=0∧yK xs 0=(yK (xs.drop i) e).map fun x=>(H++x.1,x.2)) l ⟨hf,0,none,0,0,0,[],rfl,by omega,by omega,rfl,B,Y,m8.nil _ _ _,by omega,by omega,by omega,by simp⟩ ?_
  rintro m s Q ⟨A,i,q,k,d,e,H,rfl,hi,rfl,rfl,R,y,ho,bn,bp,bq,w⟩;unfold se;dsimp only;have a8:=y.lt;refine aq (fun F=> ?_) (fun aw=> ?_)
  ·have F:k<l:=by omega
   have o:k<xs.length:=by omega
   have a2:=hx.frame0 A;obtain⟨a,rfl⟩:=hx.some_of (by rw[av];omega);obtain⟨s1,s2⟩:=JT o w;have h0:=L _ (VN o);refine aC rfl rfl F ?_;simp only[hC,VO,aR,SN];refine ae (a2.cell (aF (bo o))) ?_
   have room: ∀(T:ah),cd no h T→At T G [.slice none 0 0,.int .i64 0,.int .i64 0]→yK xs 0=none→
    aQ T ⟨G,0,none⟩ (.slice none 0 0) fun an=>aQ an ⟨G,1,none⟩ (.int .i64 0) fun ao=>aQ ao ⟨G,2,none⟩ (.int .i64 17) fun M=>
     am M ⟨G,0,none⟩ fun a7 a4 aj=>af .i64 M ⟨G,1,none⟩ fun a5=>af .i64 M ⟨G,2,none⟩ fun a6=>
      AX xs h (.agg #[.slice a7 a4 aj,.int .i64 a5,.int .i64 a6]) M:=by
    intro T t ha hn;refine kY ha (by simp) fun h6 ag u D=>kY u (by simp) fun h7 S g r=>kY g (by simp) fun h8 ai f E=> ?_;refine ak (f.cell rfl) (ae (f.cell rfl) (ae (f.cell rfl) ⟨none,0,0,?_,?_,((t.one D (by omega)).one r (by omega)).one E (by omega)⟩))
    ·rw[oI L hn]
    ·rw[oI L hn];exact m8.nil _ _ _
   refine aq (fun aa=> ?_) (fun bL=> ?_)
   ·exact room Q A R (s1 (by omega))
   ·refine ak (y.cell rfl) (ae (y.cell rfl) ?_);refine Dv (cs:=[.int .i64 e]) fun b3 T bm a1 I t=> ?_;refine IJ (xs:=az H) (ys:=[.int .i64 e]) (ho.frame0 t) (by omega) rfl (by omega) (by omega) (bD.of_at I) rfl (by simp[ib]) ?_;intro p' l' c' h4 ax ay C bd;have U:At h4 G _:=C.at (t.at0 R) (by omega);have V:At h4 b2 _:=C.at (t.at0 y) (by omega);refine kY V (by simp) fun ap bb z K=> ?_;have N:=K.at U (by omega);have a0:=ay.frame K (fun b Z _=>by omega);have J:cd no h ap:=((A.trans t).own C (by omega)).one K (by omega);refine aC rfl rfl F ?_;refine ae (z.cell rfl) (ae ((hx.frame0 J).cell (aF (bo o))) ?_);rw[al (n:=e+_) (by omega)];refine(Uh (by omega) (by omega)).mono ?_;rintro v h6 ⟨rfl,rfl⟩;refine⟨_,rfl,z.cell rfl,?_⟩;refine kY z (by simp) fun h7 S g r=> ?_;refine ae (g.cell rfl) ?_;refine aq (fun aa=> ?_) (fun a9=> ?_)
    ·exact room h7 (J.one r (by omega)) (r.at N (by omega)) (s1 (by omega))
    ·rw[al (by omega)];refine⟨l-(k+1),by omega,J.one r (by omega),k+1,p',l',c',(e+xs[k]+3) / 4*4,H++[e],rfl,by omega,rfl,ax,r.at N (by omega),g,?_,by omega,by omega,by omega,s2 (by omega)⟩;rw[←AW];exact a0.frame r (fun b Z _=>by omega)
  ·have:k=l:=by omega
   rw[Wj (by omega)]at w;simp only[yK,Option.map_some,Wd]at w;simp only[aR,SN];refine ak (y.cell rfl) (ae (y.cell rfl) (ae (y.cell rfl) ?_));refine kY R (by simp) fun h6 ag u D=>kY u (by simp) fun h7 S g r=>kY g (by simp) fun h8 ai f E=> ?_;refine ak (f.cell rfl) (ae (f.cell rfl) (ae (f.cell rfl) ⟨q,k,d,?_,?_,((A.one D (by omega)).one r (by omega)).one E (by omega)⟩))
   ·rw[oJ L w]
   ·rw[oJ L w];exact(((ho.frame D (fun b Z _=>by omega)).frame r (fun b Z _=>by omega)).frame E (fun b Z _=>by omega)).mono (by omega)
