/- CGraph CGraph2 CGraph3 CGraph4 CGraph5, in one text. -/
import Derived.Test.YtdhpmegbmjoekaaGreatDoorCKindP3
import Derived.Test.YtdhpmegbmjoekaaGreatDoorShRg
set_option linter.unusedVariables false
set_option linter.unusedSimpArgs false
namespace Go.Proofs.YtdhpmegbmjoekaaGreatDoor.G
open Go Go.Sh
section
def lM (M:Int→Option Int):Int→Option Value:=fun n=>(M n).map (Value.int .i64)
def wy (M:Int→Option Int) (n m:Int):Int→Option Int:=fun k=>if k=n then some m else M k
def Q6 (M:Int→Option Int) (n:Int):Int→Option Int:=fun k=>if k=n then none else M k
theorem vt (M:Int→Option Int) (n m:Int):Q9 (lM M) n (.int .i64 m)=lM (wy M n m):=by
 funext k;unfold Q9 lM wy;split<;>simp
theorem Mp (M:Int→Option Int) (n:Int):Ie (lM M) n=lM (Q6 M n):=by
 funext k;unfold Ie lM Q6;split<;>simp
theorem Ia:(fun _=>none:Int→Option Value)=lM fun _=>none:=rfl
abbrev yr (r:Nat) (M:Int→Option Int):aY:=mp .i64 r (lM M)
theorem iX {h:af} {r:Nat} {M:Int→Option Int} {n z:Int} {K:Value→Bool→Prop} (a:(yr r M).P h) (H:K (.int .i64 ((M n).getD z)) (M n).isSome):nI .i64 (.int .i64 z) (some r) n h K:=by
 refine Pr a ?_;unfold lM;cases h:M n with
 |none=>rw[h] at H;exact H
 |some m=>rw[h] at H;exact H
def Gr.first (g:Gr):Int:=
 if g.nodes.length<1∨12<g.nodes.length then 22
 else if g.width<1∨16<g.width∨g.low>g.high∨g.low< -32768∨g.high>32767∨g.out<1∨g.out>(g.nodes.length:Int) then 1
 else if ∀n∈g.nodes,bv 0 g.nodes.length n.inn then 0 else 1
def jC (a:List Int):List Nd→Nat→Option Int
 |[],_=>none
 |n::r,i=>if((i:Int)+1)∉a∧ ∀j∈n.inn,j∈a then some ((i:Int)+1) else jC a r (i+1)
def kr (ns:List Nd) (a:List Int):List Int:=
 match jC a ns 0 with
 |some i=>a++[i]
 |none=>a
def bK (ns:List Nd):Nat→List Int
 |0=>[0]
 |k+1=>kr ns (bK ns k)
def cC (ns:List Nd):List Int:=(bK ns ns.length).tail
theorem Hb (ns:List Nd): ∀k,∃r,bK ns k=0::r
 |0=>⟨[],rfl⟩
 |k+1=>by
  obtain⟨r,a⟩:=Hb ns k;simp only[bK,kr,a];split
  ·exact⟨_,rfl⟩
  ·exact⟨_,rfl⟩
theorem dM (ns:List Nd) (k:Nat):bK ns k=0::(bK ns k).tail:=by
 obtain⟨r,a⟩:=Hb ns k;rw[a];rfl
theorem lQ (ns:List Nd): ∀k,(bK ns k).tail.length≤k
 |0=>by simp[bK]
 |k+1=>by
  have:=lQ ns k;simp only[bK,kr];split
  ·rw[WA,Rb,Wo];rw[WA] at this;omega
  ·omega
theorem yt {a:List Int}: ∀{ns:List Nd} {i:Nat} {x:Int},jC a ns i=some x→ ∃(k:Nat) (n:Nd),x=((i+k:Nat):Int)+1∧ns[k]? =some n∧x∉a∧ ∀j∈n.inn,j∈a
 |[],i,x,h=>by simp[jC] at h
 |n::r,i,x,h=>by
  unfold jC at h;split at h
  ·rename_i b;simp only[Option.some.injEq] at h;subst h;exact⟨0,n,by simp,rfl,b.1,b.2⟩
  ·obtain⟨k,e,f,c,d⟩:=yt h;exact⟨k+1,e,by omega,by simpa using c,d⟩
section
variable {h:af}
theorem Sr {gv:Gv} (C:gv.ok) (B:bI h gv.p (aF gv.ns)) (hr:(aU gv.ns).P h) (hl:gv.l<2 ^ 56) (hs: ∀n∈gv.ns,n.inn.l<2 ^ 62):au P uy #[gv.v] h fun v V=>v= .int .i64 gv.gr.first∧cp no h V:=by
 refine D6 _ ?_;unfold GB;have I:=C.1;have J:gv.gr.nodes.length=gv.l:=by rw[←I];simp[Gv.gr]
 have S:=((aJ.start h no).read (row gv.p (aF gv.ns)) B).read (aU gv.ns) hr;refine aA (cs:=gv.cells) S fun q t _ S=> ?_;dsimp only[Xj,Xi] at S;refine ak (p:=gv.p) (l:=gv.l) (c:=gv.c) (S.cell 0 rfl rfl) ?_;have F:(gv.gr.nodes.length<1∨12<gv.gr.nodes.length)→ ∀g,aJ h no g [blk q gv.cells] [row gv.p (aF gv.ns),aU gv.ns]→Value.int .i64 22= .int .i64 gv.gr.first∧cp no h g:=fun K g S=>⟨by unfold Gr.first;rw[if_pos K],S.fra⟩;refine⟨fun s g=>s=(⟨q,0,none⟩,(gv.l:Int),())∧ ¬(gv.gr.nodes.length<1∨12<gv.gr.nodes.length)∧aJ h no g [blk q gv.cells] [row gv.p (aF gv.ns),aU gv.ns],?_,am (fun t=>F (by omega) _ S) fun t=>am (fun y=>F (by omega) _ S) fun y=>⟨rfl,by omega,S⟩⟩;rintro s g ⟨rfl,E,S⟩;unfold zh;dsimp only
 have M:gv.gr.first=if gv.gr.nodes.length<1∨12<gv.gr.nodes.length then 22 else if gv.width<1∨16<gv.width∨gv.low>gv.high∨gv.low< -32768∨gv.high>32767∨gv.out<1∨gv.out>(gv.gr.nodes.length:Int) then 1
  else if ∀n∈gv.gr.nodes,bv 0 gv.gr.nodes.length n.inn then 0 else 1:=rfl
 have w:(gv.width<1∨16<gv.width∨gv.low>gv.high∨gv.low< -32768∨gv.high>32767∨gv.out<1∨gv.out>(gv.gr.nodes.length:Int))→ ∀g,aJ h no g [blk q gv.cells] [row gv.p (aF gv.ns),aU gv.ns]→Value.int .i64 1= .int .i64 gv.gr.first∧cp no h g:=
  fun K g S=>⟨by rw[M,if_neg E,if_pos K],S.fra⟩
 refine⟨fun s g=>s=(⟨q,0,none⟩,(gv.l:Int),())∧ ¬(gv.width<1∨16<gv.width∨gv.low>gv.high∨gv.low< -32768∨gv.high>32767∨gv.out<1∨gv.out>(gv.gr.nodes.length:Int))∧aJ h no g [blk q gv.cells] [row gv.p (aF gv.ns),aU gv.ns],?_,?_⟩
 ·rintro s g ⟨rfl,n1,S⟩;unfold zg;simp only[aQ,SI];refine ak (p:=gv.p) (l:=gv.l) (c:=gv.c) (S.cell 0 rfl rfl) ?_;have e:gv.gr.first=if ∀n∈gv.gr.nodes,bv 0 gv.gr.nodes.length n.inn then 0 else 1:=by rw[M,if_neg E,if_neg n1]
  have z:(∃n∈gv.ns,∃j∈n.inn.xs,j<0∨j>(gv.l:Int))→gv.gr.first=1:=by
   rintro⟨n,B,j,O,hb⟩;rw[e,if_neg];intro b;have:=b n.nd (U2 B) j O;omega
  refine aP (fun m s g=> ∃i:Nat,s=((gv.l:Int),(gv.p,gv.l,gv.c),(gv.l:Int),(i:Int),())∧i≤gv.l∧m=gv.l-i∧(∀n∈gv.ns.take i,bv 0 (gv.l:Int) n.inn.xs)∧aJ h no g [blk q gv.cells] [row gv.p (aF gv.ns),aU gv.ns]) gv.l ⟨0,rfl,by omega,rfl,by simp,S⟩ ?_;rintro m s g ⟨i,rfl,hi,rfl,b,S⟩;unfold zf;dsimp only;refine am (fun ad=> ?_) (fun ab=> ?_)
  ·have u:i<gv.ns.length:=by omega
   obtain⟨n,en⟩: ∃n,gv.ns[i]? =some n:=⟨_,aO u⟩;have d:=UR en;have L:=(C.2.2 n d).1;obtain⟨a,ea⟩:=(S.row 0 rfl).some_of (by rw[bW];omega);have D:bI g (some a) (aF gv.ns):=by rw[←ea];exact S.row 0 rfl
   refine aB ea rfl (by omega) ?_;simp only[oe];refine jd D en ?_;refine aA S fun T g2 _ S=> ?_;dsimp only[Xi,Xj] at S;refine cA S 1 rfl rfl (bu rfl) fun U _ S=> ?_;dsimp only[List.set] at S;refine ak (p:=n.inn.p) (l:=n.inn.l) (c:=n.inn.c) (S.cell 1 rfl rfl) ?_;have ag:=hs n d;have R:n.inn.xs.length=n.inn.l:=L.1;refine aP (fun m s G=>G=U∧ ∃j:Nat,s=((gv.l:Int),(gv.p,gv.l,gv.c),(gv.l:Int),(i:Int),(n.inn.p,n.inn.l,n.inn.c),(n.inn.l:Int),(j:Int),())∧j≤n.inn.l∧m=n.inn.l-j∧bv 0 (gv.l:Int) (n.inn.xs.take j)) n.inn.l ⟨rfl,0,rfl,by omega,rfl,by rw[Wf];exact dO _ _⟩ ?_;rintro m s G ⟨rfl,j,rfl,O,rfl,H⟩;unfold xf;dsimp only;refine am (fun Q=> ?_) (fun N=> ?_)
   ·have k:j<n.inn.xs.length:=by omega
    have f:bI G n.inn.p (az n.inn.xs):=S.r 1 _ rfl _ (U2 d) n.inn.row (by simp);obtain⟨aa,A⟩:=f.some_of (by rw[av];omega);rw[A] at f;refine aB A rfl (by omega) ?_;simp only[oe,US];refine ae (f.cell (aI (aO k))) ?_;refine am (fun t=>⟨by rw[z ⟨n,d,_,UU k,.inl t⟩],S.fra⟩) fun t=>am (fun y=>⟨by rw[z ⟨n,d,_,UU k,.inr y⟩],S.fra⟩) fun y=> ?_;rw[al (by omega)];exact⟨n.inn.l-(j+1),by omega,by trivial,j+1,rfl,by omega,rfl,(iJ k).2 ⟨H,by omega,by omega⟩⟩
   ·rw[al (by omega)];refine⟨gv.l-(i+1),by omega,i+1,rfl,by omega,rfl,fun x o=> ?_,S.pw [0]⟩;rw[py u] at o;rcases UX.1 o with o|o
    ·exact b x o
    ·simp only[SH] at o;rw[aO u] at en;cases en;subst o;rw[N6 (by omega)] at H;exact H
  ·rw[N6 (by omega)] at b;refine⟨?_,S.fra⟩;rw[e,if_pos];intro x o;obtain⟨n,B,rfl⟩:=U5.1 o;rw[J];exact b n B
 ·simp only[aQ,SI];refine ae (n:=gv.width) (S.cell 0 rfl rfl) (am (fun t=>w (by omega) _ S) fun t=>ae (n:=gv.width) (S.cell 0 rfl rfl) (am (fun y=>w (by omega) _ S) fun y=> ?_));refine ae (n:=gv.low) (S.cell 0 rfl rfl) (ae (n:=gv.high) (S.cell 0 rfl rfl) (am (fun W=>w (by omega) _ S) fun W=> ?_));refine ae (n:=gv.low) (S.cell 0 rfl rfl) (am (fun X=>w (by omega) _ S) fun X=>ae (n:=gv.high) (S.cell 0 rfl rfl) (am (fun Y=>w (by omega) _ S) fun Y=> ?_));refine ae (n:=gv.out) (S.cell 0 rfl rfl) (am (fun Z=>w (by omega) _ S) fun Z=>ae (n:=gv.out) (S.cell 0 rfl rfl) (am (fun h7=>w (by omega) _ S) fun h7=> ?_));exact⟨by trivial,by omega,S⟩
theorem Ib {a:Addr} {r:Nat} {M:Int→Option Int} (c:aD h a=some (.map (some r))) (d:(yr r M).P h) (j:Int):au P cY #[.int .i64 j,.pointer (some a)] h fun v b=>v= .bool (!(M j).isSome)∧b=h:=by
 refine uT _ _ ?_;unfold td;exact⟨_,c,iX d ⟨_,_,rfl,rfl,rfl⟩⟩
theorem Ic {a:Addr} {r:Nat} {M:Int→Option Int} (o:aD h a=some (.map (some r))) (w:(yr r M).P h) {p:Option Addr} {l c:Nat} {xs:List Int} (n:bI h p (az xs)) (z:xs.length=l) (t:l<2 ^ 62):
 au P cv #[.slice p l c,.func (.func cY) #[] #[.pointer (some a)]] h fun v k=>v= .bool (decide (∃j∈xs,M j=none))∧k=h:=by
 refine ft _ _ _ _ ?_;unfold dp;have I:au P cP #[.slice p l c,.func (.func cY) #[] #[.pointer (some a)]] h fun v k=> ∃i:Int,v= .int .i64 i∧(0≤i↔ ∃j∈xs,M j=none)∧k=h:=by
  refine fQ _ _ _ _ ?_;unfold dC;refine aP (fun m s g=>g=h∧ ∃i:Nat,s=((p,l,c),((),(a,())),(l:Int),(i:Int),())∧i≤l∧m=l-i∧ ∀j∈xs.take i,M j≠none) l ⟨rfl,0,rfl,by omega,rfl,by simp⟩ ?_;rintro m s g ⟨rfl,i,rfl,hi,rfl,b⟩;unfold dn;dsimp only;refine am (fun u=> ?_) (fun q=> ?_)
  ·have f:i<xs.length:=by omega
   obtain⟨x,rfl⟩:=n.some_of (by rw[av];omega);refine aB rfl rfl (by omega) ?_;simp only[oe,US];refine ae (n.cell (aI (aO f))) ?_;refine(Ib o w xs[i]).mono ?_;rintro _ _ ⟨rfl,rfl⟩;refine⟨_,rfl,?_⟩;cases hM:M xs[i] with
   |none=>exact cI rfl ⟨_,rfl,⟨fun _=>⟨_,UU f,hM⟩,fun _=>by omega⟩,rfl⟩
   |some y=>
    refine bQ rfl ?_;rw[al (by omega)];refine⟨l-(i+1),by omega,by trivial,i+1,rfl,by omega,rfl,fun j d=> ?_⟩;rw[py f] at d;rcases UX.1 d with d|d
    ·exact b j d
    ·simp only[SH] at d;subst d;rw[hM];simp
  ·rw[N6 (by omega)] at b;exact⟨_,rfl,⟨fun h=>by omega,fun⟨j,d,e⟩=>absurd e (b j d)⟩,rfl⟩
 refine I.mono ?_;rintro _ _ ⟨i,rfl,hi,rfl⟩;refine⟨_,rfl,?_,rfl⟩;congr 1;rw[decide_eq_decide];exact hi
end
end
section
theorem bA (xs:List Int) (i:Nat) (x:Int):(az xs).set i (.int .i64 x)=az (xs.set i x):=by simp[az,WL]
theorem Ny (xs:List Int) (x:Int):az xs++[Value.int .i64 x]=az (xs++[x]):=by simp[az]
theorem Fc {a:List Int} {ns:List Nd} {i:Nat} (hi:i<ns.length) (b: ¬(((i:Int)+1)∉a∧ ∀j∈ns[i].inn,j∈a)):jC a (ns.drop (i+1)) (i+1)=jC a (ns.drop i) i:=by
 rw[Vb hi]
 conv=>rhs;unfold jC
 rw[if_neg b]
theorem Fd {a:List Int} {ns:List Nd} {i:Nat} (hi:i<ns.length) (b:((i:Int)+1)∉a∧ ∀j∈ns[i].inn,j∈a):jC a (ns.drop i) i=some ((i:Int)+1):=by
 rw[Vb hi];unfold jC;rw[if_pos b]
section
variable {h:af}
theorem Ld {p:Option Addr} {l c:Nat} {ns:List Nv} (hn:bI h p (aF ns)) (hr:(aU ns).P h) (hl:ns.length=l) (aj:l≤2 ^ 20) (V: ∀n∈ns,n.inn.ok) (hs: ∀n∈ns,n.inn.l<2 ^ 62):
 au P lU #[.slice p l c] h fun v h'=> ∃(q:Option Addr) (m d:Nat),v= .tuple #[.slice q m d,.bool (decide ((cC (ns.map Nv.nd)).length=ns.length))]∧(cC (ns.map Nv.nd)).length=m∧aJ h no h' [own 1 q m d (az (cC (ns.map Nv.nd)))] []:=by
 refine xU _ _ _ ?_;unfold xg;have S:=((aJ.start h no).read (row p (aF ns)) hn).read (aU ns) hr;obtain⟨b,o⟩: ∃b,ns.map Nv.nd=b:=⟨_,rfl⟩;have ap:b.length=l:=by rw[←o,UT,hl]
 rw[o];refine Le .i64 S fun C h1 _ S=> ?_;dsimp only[Xj,Xi] at S;refine vu S 0 rfl fun h2 S=> ?_;rw[Ia,vt] at S;dsimp only[List.set] at S;refine aA (cs:=[.map none]) S fun D h3 _ S=> ?_;dsimp only[Xj,Xi] at S;refine aE S 1 rfl (jb rfl) fun h4 _ S=> ?_;replace S:=S.nil 1;dsimp only[List.set,Xj,Xi] at S
 refine aP (fun L s g=> ∃(k:Nat) (q:Option Addr) (m d:Nat) (M:Int→Option Int),s=((p,l,c),⟨D,0,none⟩,(q,m,d),(l:Int),(k:Int),())∧k≤l∧L=l-k∧(bK b k).tail.length=m∧(∀n,(M n).isSome↔n∈bK b k)∧
  aJ h no g [yr C M,blk D [.map (some C)],own 1 q m d (az (bK b k).tail)] [row p (aF ns),aU ns]) l ⟨0,none,0,0,_,rfl,by omega,rfl,rfl,?_,S⟩ ?_
 ·intro n;unfold wy bK;by_cases h0:n=0
  ·simp[h0]
  ·simp[h0]
 clear S;rintro L s g ⟨k,q,m,d,M,rfl,hk,rfl,I,B,S⟩;have ao:m≤k:=by rw[←I];exact lQ b k
 unfold qf;dsimp only;refine am (fun an=> ?_) (fun ag=> ?_)
 ·refine aP (fun L s g=> ∃i:Nat,s=((p,l,c),⟨D,0,none⟩,(q,m,d),(l:Int),(k:Int),(p,l,c),(l:Int),(i:Int),())∧i≤l∧L=l-i∧jC (bK b k) (b.drop i) i=jC (bK b k) b 0∧
   aJ h no g [yr C M,blk D [.map (some C)],own 1 q m d (az (bK b k).tail)] [row p (aF ns),aU ns]) l ⟨0,rfl,by omega,rfl,by rw[Wg],S⟩ ?_
  clear S;rintro L s g ⟨i,rfl,hi,rfl,u,S⟩;unfold qe;dsimp only;refine am (fun aa=> ?_) (fun Z=> ?_)
  ·have H:i<ns.length:=by omega
   have F:i<b.length:=by omega
   obtain⟨n,en⟩: ∃n,ns[i]? =some n:=⟨_,aO H⟩;have t:=UR en;have X:=V n t;have U:=hs n t;have E:b[i]=n.nd:=by
    subst o;rw[aO H] at en;simp only[Option.some.injEq] at en;simp[en]
   obtain⟨a,ea⟩:=(S.row 0 rfl).some_of (by rw[bW];omega);have J:bI g (some a) (aF ns):=by rw[←ea];exact S.row 0 rfl
   refine aB ea rfl (by omega) ?_;simp only[oe];refine jd J en ?_;refine aA S fun ab g2 _ S=> ?_;dsimp only[Xi,Xj] at S;refine cA S 3 rfl rfl (bu rfl) fun g3 _ S=> ?_;dsimp only[List.set] at S;rw[al (n:=(i:Int)+1) (by omega)];refine⟨some C,S.cell 1 rfl rfl,iX (S.w 0 _ rfl) ⟨_,_,rfl,?_⟩⟩;have skip: ¬(((i:Int)+1)∉bK b k∧ ∀j∈b[i].inn,j∈bK b k)→jC (bK b k) (b.drop (i+1)) (i+1)=jC (bK b k) b 0:=fun z=>by rw[Fc F z];exact u
   refine eD (fun R=> ?_) (fun R=> ?_)
   ·exact⟨l-(i+1),by omega,i+1,rfl,by omega,rfl,skip fun z=>z.1 ((B _).1 R),S.pw [0,1,2]⟩
   ·refine ak (p:=n.inn.p) (l:=n.inn.l) (c:=n.inn.c) (S.cell 3 rfl rfl) ?_;have K:bI g3 n.inn.p (az n.inn.xs):=S.r 1 _ rfl _ (U2 t) n.inn.row (by simp);refine(Ic (a:=⟨D,0,none⟩) (S.cell 1 rfl rfl) (S.w 0 _ rfl) K X.1 U).mono ?_;rintro _ _ ⟨rfl,rfl⟩;refine⟨_,rfl,?_⟩;have G:b[i].inn=n.inn.xs:=by rw[E];rfl
    refine am (fun z=> ?_) (fun z=> ?_)
    ·refine⟨l-(i+1),by omega,i+1,rfl,by omega,rfl,skip fun N=> ?_,S.pw [0,1,2]⟩;obtain⟨j,O,e⟩:=z;rw[G] at N;have:=(B j).2 (N.2 j O);rw[e] at this;cases this
    ·have A:((i:Int)+1)∉bK b k∧ ∀j∈b[i].inn,j∈bK b k:=by
      refine⟨fun N=>(by have:=(B _).2 N;rw[R] at this;cases this),fun j O=> ?_⟩;rw[G] at O;refine(B j).1 ?_;cases hMj:M j with
      |none=>exact absurd ⟨j,O,hMj⟩ z
      |some x=>rfl
     rw[Fd F A] at u;have f:bK b (k+1)=bK b k++[(i:Int)+1]:=by
      show kr b (bK b k)=_;unfold kr;rw[←u]
     have y:(bK b (k+1)).tail=(bK b k).tail++[(i:Int)+1]:=by
      rw[f]
      conv=>lhs;rw[dM b k]
      rfl
     refine⟨some C,S.cell 1 rfl rfl,vu S 0 rfl fun g4 S=> ?_⟩;rw[vt] at S;dsimp only[List.set] at S;refine aA S (fun ad _ _ S=> ?_);dsimp only[Xi,Xj] at S;refine cK S 2 rfl rfl (by decide) (by omega) (bI.of_at (S.at 4 rfl)) rfl (by simp[lK]) fun Y W Q g5 el S=> ?_;rw[Ny,←y] at S;dsimp only[List.set] at S;rw[al (by omega)];refine⟨l-(k+1),by omega,k+1,Y,W,Q,_,rfl,by omega,rfl,?_,fun x=> ?_,S.pw [0,1,2]⟩
     ·rw[y,Rb,Wo,I,el]
     ·rw[f,UX,SH,←B x];unfold wy;by_cases hx:x=(i:Int)+1
      ·simp[hx]
      ·simp[hx]
  ·have ai:i=l:=by omega
   rw[Vq (by omega)] at u;have f:bK b (k+1)=bK b k:=by
    show kr b (bK b k)=_;unfold kr;rw[←u];rfl
   rw[al (by omega)];refine⟨l-(k+1),by omega,k+1,q,m,d,M,rfl,by omega,rfl,by rw[f];exact I,fun x=>by rw[f];exact B x,by rw[f];exact S⟩
 ·have T:k=b.length:=by omega
  subst T;refine⟨q,m,d,?_,I,S.pw [2]|>fun S=>⟨S.fra,S.w,by simp,S.ok,S.ww,by simp⟩⟩;have e:((m:Int)==(l:Int))=decide ((cC b).length=ns.length):=by
   rw[VQ,beq_iff_eq,decide_eq_true_iff];have:(cC b).length=m:=I;omega
  rw[e]
def bZ (xs js:List Int):List Int:=js.map fun j=>xs.getD j.toNat 0
theorem Q7 {A:List Int} {m i:Nat} (a:A.length=i) (hi:i<m) (v:Int):(A++List.replicate (m-i) 0).set i v=(A++[v])++List.replicate (m-(i+1)) 0:=by
 have:m-i=(m-(i+1))+1:=by omega
 rw[this,VO,VB _ _ (by omega),a,VJ,Wk];simp
theorem Mq {p q:Option Addr} {l c m d:Nat} {xs js:List Int} (J:bI h p (az xs)) (D:bI h q (az js)) (O:xs.length=l) (Q:js.length=m) (G:m≤2 ^ 40) (x: ∀j∈js,0≤j∧j<(xs.length:Int)):
 au P mt #[.slice p l c,.slice q m d] h fun v B=> ∃b,v= .slice (some ⟨b,0,none⟩) m m∧aJ h no B [blk b (az (bZ xs js))] []:=by
 refine CE _ _ _ _ _ _ ?_;unfold D7;have S:=((aJ.start h no).read (row p (az xs)) J).read (row q (az js)) D;refine dQ S m rfl rfl rfl (by decide) (by omega) (by omega) fun t N _ S=> ?_;dsimp only[Xj,Xi] at S;rw[ib,show List.replicate m (Value.int .i64 0)=az (List.replicate m 0) by simp[az]] at S;simp only[oe]
 refine aP (fun A s g=> ∃i:Nat,s=((p,l,c),(some ⟨t,0,none⟩,m,m),(q,m,d),(m:Int),(i:Int),())∧i≤m∧A=m-i∧
  aJ h no g [blk t (az (bZ xs (js.take i)++List.replicate (m-i) 0))] [row p (az xs),row q (az js)]) m ⟨0,rfl,by omega,rfl,S⟩ ?_
 clear S;rintro A s g ⟨i,rfl,hi,rfl,S⟩;unfold xh;dsimp only;refine am (fun F=> ?_) (fun C=> ?_)
 ·have a:i<js.length:=by omega
  obtain⟨L,f⟩:=(S.row 1 rfl).some_of (by rw[av];omega);have I:bI g (some L) (az js):=by rw[←f];exact S.row 1 rfl
  have E:=x js[i] (UU a);obtain⟨k,z⟩: ∃k:Nat,js[i]=k:=⟨js[i].toNat,by omega⟩;have o:k<xs.length:=by omega
  obtain⟨K,e⟩:=(S.row 0 rfl).some_of (by rw[av];omega);have H:bI g (some K) (az xs):=by rw[←e];exact S.row 0 rfl
  refine aB f rfl (by omega) ?_;simp only[oe,US];refine ae (n:=(k:Int)) (I.cell (aI (by rw[aO a,z]))) (aB e rfl (by omega) ?_);simp only[oe,US];refine ae (n:=xs.getD k 0) (H.cell (aI (by rw[aO o,cH o]))) (aB rfl rfl (by omega) ?_);simp only[aQ,SI];have r:(bZ xs (js.take i)).length=i:=by unfold bZ;rw[UT,U0];omega
  refine aE S 0 rfl (by rw[av,Rb,r,UZ];omega) fun M _ S=> ?_;rw[bA,Q7 r (by omega)] at S;have y:bZ xs (js.take i)++[xs.getD k 0]=bZ xs (js.take (i+1)):=by
   rw[py a];unfold bZ;rw[U4,z];rfl
  rw[y] at S;dsimp only[List.set] at S;rw[al (by omega)];exact⟨m-(i+1),by omega,i+1,rfl,by omega,rfl,S⟩
 ·have u:i=m:=by omega
  subst u;rw[N6 (by omega),VJ,Wt,Vh] at S;exact⟨t,rfl,⟨S.fra,S.w,by simp,S.ok,S.ww,by simp⟩⟩
end
end
section
theorem yu {h0 h:af} {T:Nat→Prop} {W R:List aY} (S:aJ h0 T h W R):aJ h0 T h W []:=⟨S.fra,S.w,by simp,S.ok,S.ww,by simp⟩
section
variable {h:af}
theorem Nz {a:Addr} {r:Int} (c:aD h a=some (.int .i64 r)) (x:Int):au P dI #[.int .i64 x,.pointer (some a)] h fun v b=>v= .bool (x !=r)∧b=h:=by
 refine zn _ _ ?_;unfold zm;exact ae c ⟨rfl,rfl⟩
theorem Id {a:Addr} {r:Int} (q:aD h a=some (.int .i64 r)) {p:Option Addr} {l c:Nat} {xs:List Int} (o:bI h p (az xs)) (y:xs.length=l) (u:l<2 ^ 62):
 au P cv #[.slice p l c,.func (.func dI) #[] #[.pointer (some a)]] h fun v k=>v= .bool (decide (∃j∈xs,j≠r))∧k=h:=by
 refine fR _ _ _ _ ?_;unfold dE;have I:au P cP #[.slice p l c,.func (.func dI) #[] #[.pointer (some a)]] h fun v k=> ∃i:Int,v= .int .i64 i∧(0≤i↔ ∃j∈xs,j≠r)∧k=h:=by
  refine gu _ _ _ _ ?_;unfold dP;refine aP (fun m s g=>g=h∧ ∃i:Nat,s=((p,l,c),((),(a,())),(l:Int),(i:Int),())∧i≤l∧m=l-i∧ ∀j∈xs.take i,j=r) l ⟨rfl,0,rfl,by omega,rfl,by simp⟩ ?_;rintro m s g ⟨rfl,i,rfl,hi,rfl,b⟩;unfold dD;dsimp only;refine am (fun w=> ?_) (fun t=> ?_)
  ·have f:i<xs.length:=by omega
   obtain⟨x,rfl⟩:=o.some_of (by rw[av];omega);refine aB rfl rfl (by omega) ?_;simp only[oe,US];refine ae (o.cell (aI (aO f))) ?_;refine(Nz q xs[i]).mono ?_;rintro _ _ ⟨rfl,rfl⟩;refine⟨_,rfl,?_⟩;refine bh (fun n=>⟨_,rfl,⟨fun _=>⟨_,UU f,n⟩,fun _=>by omega⟩,rfl⟩) (fun n=> ?_);rw[al (by omega)];refine⟨l-(i+1),by omega,by trivial,i+1,rfl,by omega,rfl,fun j d=> ?_⟩;rw[py f] at d;rcases UX.1 d with d|d
   ·exact b j d
   ·simp only[SH] at d;subst d;exact n
  ·rw[N6 (by omega)] at b;exact⟨_,rfl,⟨fun h=>by omega,fun⟨j,d,e⟩=>absurd (b j d) e⟩,rfl⟩
 refine I.mono ?_;rintro _ _ ⟨i,rfl,hi,rfl⟩;refine⟨_,rfl,?_,rfl⟩;congr 1;rw[decide_eq_decide];exact hi
theorem Pq {n:Nd} (h:1<n.span):dW n.kind:=by
 apply Decidable.byContradiction;intro a;have e:n.span=if n.kind=12 then n.size else if dA n.kind then(n.size-1)*n.gap+1 else 1:=rfl
 unfold dW at a;rw[e,if_neg (fun h=>a (.inr h)),if_neg (fun h=>a (.inl h))] at h;omega
theorem Q8 {nv:Nv} (R:KT h) {p:Option Addr} {l c:Nat} {rs:List Int} (hw:bI h p (az rs)) (V:rs.length=l) (Q:1≤l) (W:l<2 ^ 56) (G:0≤rs.getD 0 0∧rs.getD 0 0≤2 ^ 30) (Z:dA nv.kind→0≤nv.step∧nv.step≤2 ^ 20)
 (hk:1≤nv.kind) (hz: -2 ^ 20≤nv.size∧nv.size≤2 ^ 20) (T: -2 ^ 20≤nv.gap∧nv.gap≤2 ^ 20):
 au P qX #[nv.v,.slice p l c] h fun v N=>v= .tuple #[.int .i64 (if bY nv.nd rs<0 then 0 else bY nv.nd rs),.bool (decide (0≤bY nv.nd rs))]∧cp no h N:=by
 refine CH _ _ _ _ ?_;unfold Ee;have S:=((aJ.start h no).read (blk 0 (az bo)) R).read (row p (az rs)) hw;refine aA (cs:=nv.cells) S fun y O _ S=> ?_;dsimp only[Xj,Xi] at S;have A:=S.row 1 rfl;obtain⟨M,z⟩:=A.some_of (by rw[av];omega);have I:bI O (some M) (az rs):=by rw[←z];exact A
 refine aB z (k:=0) rfl (by omega) ?_;refine ae (n:=rs.getD 0 0) (I.cell (i:=0) (aI (by rw[aO (by omega),cH (by omega)]))) ?_;generalize H:rs.getD 0 0=r at G ⊢;refine aA (cs:=[.int .i64 0]) S fun u h2 _ S=> ?_;dsimp only[Xj,Xi] at S;refine aE S 1 rfl (jb rfl) fun h3 _ S=> ?_;dsimp only[List.set] at S;have f:bY nv.nd rs=if ¬ ∀x∈rs,x=r then-1 else if r=0∧(dW nv.kind∨nv.kind=5) then-1 else if nv.kind=5 then 0 else r*cE nv.kind nv.step:=by
  unfold bY;rw[H];rfl
 have q: ∀g,bY nv.nd rs= -1→aJ h no g [blk y nv.cells,blk u [.int .i64 r]] [blk 0 (az bo),row p (az rs)]→
  Value.tuple #[.int .i64 0,.bool false]= .tuple #[.int .i64 (if bY nv.nd rs<0 then 0 else bY nv.nd rs),.bool (decide (0≤bY nv.nd rs))]∧cp no h g:=fun g e S=>⟨by rw[e];rfl,S.fra⟩
 refine⟨fun s g=> ∃b:Bool,s=((p,l,c),⟨y,0,none⟩,⟨u,0,none⟩,b,())∧(b=true↔dW nv.kind)∧aJ h no g [blk y nv.cells,blk u [.int .i64 r]] [blk 0 (az bo),row p (az rs)],?_,?_⟩
 ·rintro s g ⟨b,rfl,L,S⟩;unfold xp;dsimp only;refine⟨fun s g=>s=(⟨y,0,none⟩,⟨u,0,none⟩,())∧(∀x∈rs,x=r)∧ ¬(r=0∧(dW nv.kind∨nv.kind=5))∧aJ h no g [blk y nv.cells,blk u [.int .i64 r]] [blk 0 (az bo),row p (az rs)],?_,?_⟩
  ·rintro s g ⟨rfl,d,Y,S⟩;unfold xn;dsimp only;have J: ¬ ¬ ∀x∈rs,x=r:=fun h=>h d;rw[if_neg J,if_neg Y] at f;refine ae (n:=nv.kind) (S.cell 0 rfl rfl) (aH (fun m=> ?_) (fun m=> ?_))
   ·rw[if_pos m] at f;rw[f];exact⟨rfl,S.fra⟩
   ·rw[if_neg m] at f;refine aN S 0 rfl (x:=nv.t) rfl (ae (n:=r) (S.cell 1 rfl rfl) ?_);refine(QF nv (S.r 0 _ rfl)).mono ?_;rintro _ _ ⟨rfl,F⟩;refine⟨_,rfl,?_⟩;replace S:=S.fra0 F;have o:0≤cE nv.kind nv.step∧cE nv.kind nv.step≤2 ^ 20:=by
     unfold cE;split
     ·rename_i h;exact Z h
     ·decide
    have X:0≤r*cE nv.kind nv.step∧r*cE nv.kind nv.step≤2 ^ 50:=by
     refine⟨Vw G.1 o.1,?_⟩;have:=Vv G.2 o.2 o.1 (by decide);omega
    dsimp only;rw[al (n:=r*cE nv.kind nv.step) (by omega)];refine aX (S.cell 1 rfl rfl) ⟨?_,S.fra⟩;rw[f,if_neg (by omega),decide_eq_true X.1]
  ·refine(Id (a:=⟨u,0,none⟩) (S.cell 1 rfl rfl) (S.row 1 rfl) V (by omega)).mono ?_;rintro _ _ ⟨rfl,rfl⟩;refine⟨_,rfl,?_⟩;refine am (fun D=>q _ ?_ S) (fun D=> ?_)
   ·rw[f,if_pos];intro d;obtain⟨j,U,e⟩:=D;exact e (d j U)
   ·have d: ∀x∈rs,x=r:=fun x A=>Decidable.byContradiction fun e=>D ⟨x,A,e⟩;have J: ¬ ¬ ∀x∈rs,x=r:=fun h=>h d;rw[if_neg J] at f;refine ae (n:=r) (S.cell 1 rfl rfl) (aH (fun h0=>eD (fun C=>q _ ?_ S) (fun B=> ?_)) (fun h0=> ?_))
    ·rw[f,if_pos ⟨h0,.inl (L.1 C)⟩]
    ·have nw: ¬dW nv.kind:=fun w=>by have:=L.2 w;rw[B] at this;cases this
     refine ae (n:=nv.kind) (S.cell 0 rfl rfl) (aH (fun m=>q _ ?_ S) (fun m=> ?_))
     ·rw[f,if_pos ⟨h0,.inr m⟩]
     ·exact⟨rfl,d,fun E=>E.2.elim nw m,S⟩
    ·exact⟨rfl,d,fun E=>h0 E.1,S⟩
 ·refine aN S 0 rfl (x:=nv.t) rfl ?_;refine(zR nv (S.r 0 _ rfl) hz T).mono ?_;rintro _ _ ⟨rfl,F⟩;refine⟨_,rfl,?_⟩;replace S:=S.fra0 F;refine am (fun K=>⟨_,rfl,⟨fun _=>Pq K,fun _=>rfl⟩,S⟩) (fun K=>ae (n:=nv.kind) (S.cell 0 rfl rfl) (am (fun m=>⟨_,rfl,⟨fun _=>by unfold dW dA;omega,fun _=>rfl⟩,S⟩) (fun m=>ae (n:=nv.kind) (S.cell 0 rfl rfl) ⟨_,rfl,?_,S⟩)));rw[beq_iff_eq];unfold dW dA;omega
end
def dq (ns:List Nd):List Int→List Int→List Int→Int×List Int×List Int
 |[],ws,rs=>(0,ws,rs)
 |i::r,ws,rs=>
  match ns[i.toNat-1]? with
  |none=>(0,ws,rs)
  |some n=>
   if n.chk (bZ ws n.inn)≠0 then(n.chk (bZ ws n.inn),ws,rs)
   else if bY n (bZ rs n.inn)<0 then(15,ws,rs)
   else dq ns r (ws.set i.toNat (n.wid (bZ ws n.inn))) (rs.set i.toNat (bY n (bZ rs n.inn)))
structure JJ where
 e:Int
 order:List Int
 widths:List Int
 rates:List Int
def Gr.look (g:Gr):JJ:=
 if g.first≠0 then⟨g.first,[],[],[]⟩
 else if(cC g.nodes).length≠g.nodes.length then⟨13,[],[],[]⟩
 else if(dq g.nodes (cC g.nodes) (g.width::List.replicate g.nodes.length 0) (1::List.replicate g.nodes.length 0)).1≠0 then⟨(dq g.nodes (cC g.nodes) (g.width::List.replicate g.nodes.length 0) (1::List.replicate g.nodes.length 0)).1,[],[],[]⟩
 else⟨0,cC g.nodes,(dq g.nodes (cC g.nodes) (g.width::List.replicate g.nodes.length 0) (1::List.replicate g.nodes.length 0)).2.1,(dq g.nodes (cC g.nodes) (g.width::List.replicate g.nodes.length 0) (1::List.replicate g.nodes.length 0)).2.2⟩
theorem fJ (ns:List Nd): ∀(k:Nat) (x:Int),x∈(bK ns k).tail→1≤x∧x≤(ns.length:Int)
 |0,x,h=>by simp[bK] at h
 |k+1,x,h=>by
  have a:=fJ ns k x;simp only[bK,kr] at h;split at h
  ·rename_i i hi;rw[dM] at h;simp only[Xi,List.tail_cons,UX,SH] at h;rcases h with h|h
   ·exact a h
   ·obtain⟨j,n,c,b,_⟩:=yt hi;have:=(Pt.1 b).1;omega
  ·exact a h
theorem bR {g:Gr} (h:g.first=0):1≤g.nodes.length∧g.nodes.length≤12∧(1≤g.width∧g.width≤16)∧(g.low≤g.high∧ -32768≤g.low∧g.high≤32767)∧(1≤g.out∧g.out≤(g.nodes.length:Int))∧ ∀n∈g.nodes,bv 0 g.nodes.length n.inn:=by
 unfold Gr.first at h;split at h
 ·cases h
 split at h
 ·cases h
 split at h
 ·rename_i b c a;exact⟨by omega,by omega,by omega,by omega,by omega,a⟩
 ·cases h
end
section
def zZ (k:JJ) (h:af) (v:Value) (a:af):Prop:=
 ∃o w r:Sl,v= .tuple #[.agg #[o.v,w.v,r.v],.int .i64 k.e]∧o.xs=k.order∧w.xs=k.widths∧r.xs=k.rates∧o.ok∧w.ok∧r.ok∧aJ h no a [own 1 o.p o.l o.c (az o.xs),own 1 w.p w.l w.c (az w.xs),own 1 r.p r.l r.c (az r.xs)] []
theorem zZ.err {k:JJ} {h a:af} {W R:List aY} (S:aJ h no a W R) {e:Int} (b:k=⟨e,[],[],[]⟩):zZ k h (.tuple #[.agg #[.slice none 0 0,.slice none 0 0,.slice none 0 0],.int .i64 e]) a:=by
 subst b;refine⟨Sl.nil,Sl.nil,Sl.nil,rfl,rfl,rfl,rfl,⟨rfl,U3 _⟩,⟨rfl,U3 _⟩,⟨rfl,U3 _⟩,?_⟩;exact(((yu (S.pw [])).nil 1).nil 1).nil 1
theorem Hc {xs js:List Int} {B:Int} (a: ∀x∈xs,0≤x∧x≤B) (h0:0≤B):0≤(bZ xs js).getD 0 0∧(bZ xs js).getD 0 0≤B:=by
 rw[UV];cases js with
 |nil=>exact⟨WR _,h0⟩
 |cons j r=>
  simp only[bZ,Vg,List.getElem?_cons_zero,WJ];rw[UV];cases hx:xs[j.toNat]? with
  |none=>exact⟨WR _,h0⟩
  |some y=>exact a y (UR hx)
section
variable {h:af}
theorem jX {b1 b3 G E D:Nat} {gv:Gv} {q:Option Addr} {m d:Nat} {g:af} (ag:gv.ok) (y:gv.gr.first=0) (hs: ∀n∈gv.ns,n.inn.l<2 ^ 40∧n.weights.l<2 ^ 62∧n.bias.l<2 ^ 62) (ho:(cC gv.gr.nodes).length=gv.gr.nodes.length) (hm:(cC gv.gr.nodes).length=m)
 (S:aJ h no g [blk b1 gv.cells,blk b3 [.slice none 0 0,.slice none 0 0,.slice none 0 0],blk G [.slice q m d,.slice (some ⟨E,0,none⟩) (gv.l+1) (gv.l+1),.slice (some ⟨D,0,none⟩) (gv.l+1) (gv.l+1)],own 1 q m d (az (cC gv.gr.nodes)),
  blk E (az (gv.width::List.replicate gv.gr.nodes.length 0)),blk D (az (1::List.replicate gv.gr.nodes.length 0))] [blk 0 (az bo),row gv.p (aF gv.ns),aU gv.ns]):
 aZ (fun K1 s h'=>dY (zZ gv.gr.look h) K1 s.1 s.2.1 s.2.2.1 s.2.2.2.1.1 s.2.2.2.1.2.1 s.2.2.2.1.2.2 s.2.2.2.2.1 s.2.2.2.2.2.1 h') (⟨b1,0,none⟩,⟨b3,0,none⟩,⟨G,0,none⟩,(q,m,d),(m:Int),(0:Int),()) g:=by
 have ax:=ag.1;have T:gv.gr.nodes.length=gv.l:=by rw[←ax];simp[Gv.gr]
 obtain⟨_,aw,_,_,_,N⟩:=bR y;obtain⟨u,z⟩: ∃u,gv.gr.nodes=u:=⟨_,rfl⟩;obtain⟨ord,A⟩: ∃ord,cC u=ord:=⟨_,rfl⟩;have V: ∀x∈ord,1≤x∧x≤(u.length:Int):=fun x I=>fJ u u.length x (by rw[←A] at I;exact I);rw[z] at S N aw T ho hm;rw[A] at S ho hm;have w: ∀r,dq u ord (gv.width::List.replicate u.length 0) (1::List.replicate u.length 0)=r→gv.gr.look=if r.1≠0 then⟨r.1,[],[],[]⟩ else⟨0,ord,r.2.1,r.2.2⟩:=by
  intro r hr;unfold Gr.look;rw[if_neg (by rw[y];simp),z,A,if_neg (by rw[ho];simp)];have:gv.gr.width=gv.width:=rfl;rw[this,hr]
 refine aP (fun mm s g=> ∃(i:Nat) (ws rs:List Int),s=(⟨b1,0,none⟩,⟨b3,0,none⟩,⟨G,0,none⟩,(q,m,d),(m:Int),(i:Int),())∧i≤m∧mm=m-i∧ws.length=gv.l+1∧rs.length=gv.l+1∧(∀x∈rs,0≤x∧x≤((4 ^ i:Nat):Int))∧
  dq u (ord.drop i) ws rs=dq u ord (gv.width::List.replicate u.length 0) (1::List.replicate u.length 0)∧
  aJ h no g [blk b1 gv.cells,blk b3 [.slice none 0 0,.slice none 0 0,.slice none 0 0],blk G [.slice q m d,.slice (some ⟨E,0,none⟩) (gv.l+1) (gv.l+1),.slice (some ⟨D,0,none⟩) (gv.l+1) (gv.l+1)],own 1 q m d (az ord),
   blk E (az ws),blk D (az rs)] [blk 0 (az bo),row gv.p (aF gv.ns),aU gv.ns]) m
  ⟨0,_,_,rfl,by omega,rfl,by simp[T],by simp[T],?_,by rw[Wg],S⟩ ?_
 ·intro x I;simp only[U7,List.mem_replicate] at I;rcases I with rfl|⟨_,rfl⟩
  ·decide
  ·decide
 clear S;rintro mm s g ⟨i,ws,rs,rfl,hi,rfl,Z,Y,an,v,S⟩;unfold dY;simp only[aQ,SI];refine am (fun bb=> ?_) (fun a8=> ?_)
 ·have U:i<ord.length:=by omega
  have a4:i<12:=by omega
  obtain⟨qa,ab⟩:=(S.own 3 rfl).row.some_of (by rw[av];omega);have hq:bI g (some qa) (az ord):=by rw[←ab];exact(S.own 3 rfl).row
  have bd:=V _ (UU U);obtain⟨k,ek⟩: ∃k:Nat,ord[i]=((k+1:Nat):Int):=⟨(ord[i]-1).toNat,by omega⟩;rw[Vb U,ek] at v;have ba:k<u.length:=by omega
  have a0:k<gv.ns.length:=by omega
  obtain⟨e,en⟩: ∃n,gv.ns[k]? =some n:=⟨_,aO a0⟩;have B:=UR en;have aa:=ag.2.2 e B;have H:=hs e B;have L:u[k]? =some e.nd:=by rw[←z];simp[Gv.gr,en]
  have ad:e.nd∈u:=UR L;have M:=N e.nd ad;refine aB ab rfl (by omega) ?_;simp only[oe,US];refine ae (n:=((k+1:Nat):Int)) (hq.cell (aI (by rw[aO U,ek]))) ?_;refine ak (p:=gv.p) (l:=gv.l) (c:=gv.c) (S.cell 0 rfl rfl) ?_;have ar:IntKind.wrap .i64 (((k+1:Nat):Int)-1)=(k:Int):=by rw[al (by omega)];omega
  rw[ar];obtain⟨a,ea⟩:=(S.row 1 rfl).some_of (by rw[bW];omega);have aj:bI g (some a) (aF gv.ns):=by rw[←ea];exact S.row 1 rfl
  refine aB ea rfl (by omega) ?_;simp only[oe];refine jd aj en ?_;refine aA S fun a5 g2 _ S=> ?_;dsimp only[Xi,Xj] at S;refine cA S 6 rfl rfl (bu rfl) fun g3 _ S=> ?_;dsimp only[List.set] at S;have C: ∀{g:af} {W:List aY},aJ h no g W [blk 0 (az bo),row gv.p (aF gv.ns),aU gv.ns]→e.rows.P g:=fun S=>S.r 2 _ rfl _ (U2 B);have O: ∀{g:af} {W:List aY},aJ h no g W [blk 0 (az bo),row gv.p (aF gv.ns),aU gv.ns]→bI g e.inn.p (az e.inn.xs):=fun S=>C S e.inn.row (by simp);refine ak (p:=some ⟨E,0,none⟩) (l:=gv.l+1) (c:=gv.l+1) (S.cell 2 rfl rfl) (ak (p:=e.inn.p) (l:=e.inn.l) (c:=e.inn.c) (S.cell 6 rfl rfl) ?_);have ilen:e.inn.xs.length=e.inn.l:=aa.1.1;refine(Mq (bI.of_at (S.at 4 rfl)) (O S) Z ilen (by omega) (fun j hj=>by have:=M j hj;omega)).mono ?_;rintro _ g4 ⟨bp,rfl,S1⟩;replace S:=S.add S1 fun _ _ h=>h;dsimp only[Xi,Xj] at S;refine⟨_,_,_,rfl,?_⟩;refine aN S 6 rfl (x:=e.t) rfl ?_;have X:(bZ ws e.inn.xs).length=e.inn.l:=by unfold bZ;rw[UT,ilen]
  refine(ER aa (C S) (by omega) H.2.1 H.2.2 (S.r 0 _ rfl) (bI.of_at (S.at 7 rfl)) X (by omega)).mono ?_;rintro _ _ ⟨rfl,F⟩;refine⟨_,rfl,?_⟩;replace S:=S.fra0 F
  have R:dq u (((k+1:Nat):Int)::ord.drop (i+1)) ws rs=if e.nd.chk (bZ ws e.inn.xs)≠0 then(e.nd.chk (bZ ws e.inn.xs),ws,rs) else if bY e.nd (bZ rs e.inn.xs)<0 then(15,ws,rs)
   else dq u (ord.drop (i+1)) (ws.set (k+1) (e.nd.wid (bZ ws e.inn.xs))) (rs.set (k+1) (bY e.nd (bZ rs e.inn.xs))):=by
   conv=>lhs;unfold dq
   rw[show(((k+1:Nat):Int)).toNat=k+1 from rfl,Nat.add_sub_cancel,L];rfl
  rw[R] at v;refine bh (fun hc=> ?_) (fun hc=> ?_)
  ·rw[if_pos hc] at v;have K:=w _ v.symm;rw[if_pos hc] at K;refine aE S 1 rfl (jb rfl) fun _ _ S=> ?_;dsimp only[List.set] at S;refine aE S 1 rfl (jb rfl) fun _ _ S=> ?_;dsimp only[List.set] at S;refine aE S 1 rfl (jb rfl) fun _ _ S=> ?_;dsimp only[List.set] at S;refine ak (p:=none) (l:=0) (c:=0) (S.cell 1 rfl rfl) (ak (p:=none) (l:=0) (c:=0) (S.cell 1 rfl rfl) (ak (p:=none) (l:=0) (c:=0) (S.cell 1 rfl rfl) ?_));exact zZ.err S K
  ·rw[if_neg (fun h=>h hc)] at v;obtain⟨c1,c2,c3,c4,c5,c6,c7,c8,c9,ap,_⟩:=dc hc;have ay:1≤e.inn.l:=by have:(bZ ws e.nd.inn).length=e.inn.l:=X;omega
   have Q:=(vB e _).1 ap;refine aN S 6 rfl (x:=e.t) rfl ?_;refine ak (p:=some ⟨D,0,none⟩) (l:=gv.l+1) (c:=gv.l+1) (S.cell 2 rfl rfl) (ak (p:=e.inn.p) (l:=e.inn.l) (c:=e.inn.c) (S.cell 6 rfl rfl) ?_);refine(Mq (bI.of_at (S.at 5 rfl)) (O S) Y ilen (by omega) (fun j hj=>by have:=M j hj;omega)).mono ?_;rintro _ g5 ⟨a6,rfl,S1⟩;replace S:=S.add S1 fun _ _ h=>h;dsimp only[Xi,Xj] at S;refine⟨_,_,_,rfl,?_⟩;refine cR S 6 rfl rfl ?_;have ai:(bZ rs e.inn.xs).length=e.inn.l:=by unfold bZ;rw[UT,ilen]
   have a7:(4 ^ i:Nat)≤4 ^ 12:=VT (by decide) (by omega);have a1:=Hc (js:=e.inn.xs) an (Int.natCast_nonneg _);have J:(-2 ^ 20≤e.size∧e.size≤2 ^ 20)∧(-2 ^ 20≤e.gap∧e.gap≤2 ^ 20)∧(dA e.kind→1≤e.step∧e.step≤4):=by
    have e0:=(Ak e).1 c9;refine⟨?_,?_,fun f=>(Q.2.1 f).1⟩
    ·by_cases hw:dW e.kind
     ·have:=Q.1 hw;omega
     ·have:=e0.2.1 ⟨fun f=>hw (.inl f),fun f=>hw (.inr f)⟩;omega
    ·by_cases hf:dA e.kind
     ·have:=(Q.2.1 hf).2.1;omega
     ·have:=(e0.1 hf).2.1;omega
   refine(Q8 (S.r 0 _ rfl) (bI.of_at (S.at 8 rfl)) ai ay (by omega) (by omega) (fun f=>by have:=J.2.2 f;omega) c4.1 J.1 J.2.1).mono ?_;rintro _ _ ⟨rfl,F⟩;refine⟨_,_,rfl,?_⟩;replace S:=S.fra0 F;refine aX (S.cell 2 rfl rfl) (bG (am (fun a2=> ?_) (fun a2=> ?_)))
   ·have a3: ¬bY e.nd (bZ rs e.inn.xs)<0:=by omega
    rw[if_neg a3] at v ⊢;refine aN S 6 rfl (x:=e.t) rfl ?_;refine ak (p:=some ⟨E,0,none⟩) (l:=gv.l+1) (c:=gv.l+1) (S.cell 2 rfl rfl) (ak (p:=some ⟨D,0,none⟩) (l:=gv.l+1) (c:=gv.l+1) (S.cell 2 rfl rfl) ?_);refine(O4 aa (C S) (by omega) H.2.1 H.2.2 (S.r 0 _ rfl) (bI.of_at (S.at 7 rfl)) X (by omega)).mono ?_;rintro _ _ ⟨rfl,F⟩;refine⟨_,rfl,?_⟩;replace S:=S.fra0 F;refine aX (S.cell 2 rfl rfl) (aX (S.cell 2 rfl rfl) (aB rfl (k:=k+1) rfl (by omega) ?_));simp only[oe,US,aQ,SI];refine aE S 4 rfl (by rw[av];omega) fun g6 _ S=> ?_;rw[bA] at S;dsimp only[List.set] at S;refine aX (S.cell 2 rfl rfl) (aB rfl (k:=k+1) rfl (by omega) ?_);simp only[oe,US,aQ,SI];refine aE S 5 rfl (by rw[av];omega) fun g7 _ S=> ?_;rw[bA] at S;dsimp only[List.set] at S;rw[al (by omega)];refine⟨m-(i+1),by omega,i+1,_,_,rfl,by omega,rfl,by rw[U1];exact Z,by rw[U1];exact Y,fun x I=> ?_,v,S.pw [0,1,2,3,4,5]⟩;have e4:((4 ^ (i+1):Nat):Int)=4*((4 ^ i:Nat):Int):=by rw[Nat.pow_succ];omega
    rcases Wc I with I|rfl
    ·have:=an x I;omega
    ·refine⟨by omega,?_⟩;unfold bY;split
     ·omega
     split
     ·omega
     split
     ·omega
     ·have ao:0≤cE e.nd.kind e.nd.step∧cE e.nd.kind e.nd.step≤4:=by
       unfold cE;split
       ·rename_i h;have:=J.2.2 h;exact⟨by show 0≤e.step;omega,by show e.step≤4;omega⟩
       ·decide
      have:=Vv a1.2 ao.2 ao.1 (by omega);omega
   ·have lt:bY e.nd (bZ rs e.inn.xs)<0:=by omega
    rw[if_pos lt] at v;have K:=w _ v.symm;rw[if_pos (by show(15:Int)≠0;decide)] at K;refine aE S 1 rfl (jb rfl) fun _ _ S=> ?_;dsimp only[List.set] at S;refine aE S 1 rfl (jb rfl) fun _ _ S=> ?_;dsimp only[List.set] at S;refine aE S 1 rfl (jb rfl) fun _ _ S=> ?_;dsimp only[List.set] at S;refine ak (p:=none) (l:=0) (c:=0) (S.cell 1 rfl rfl) (ak (p:=none) (l:=0) (c:=0) (S.cell 1 rfl rfl) (ak (p:=none) (l:=0) (c:=0) (S.cell 1 rfl rfl) ?_));exact zZ.err S K
 ·have a9:i=m:=by omega
  rw[Vq (by omega)] at v;have K:=w _ v.symm;simp only[dq,ne_eq,not_true_eq_false,if_false] at K;refine ak (p:=q) (l:=m) (c:=d) (S.cell 2 rfl rfl) (ak (p:=some ⟨E,0,none⟩) (l:=gv.l+1) (c:=gv.l+1) (S.cell 2 rfl rfl) (ak (p:=some ⟨D,0,none⟩) (l:=gv.l+1) (c:=gv.l+1) (S.cell 2 rfl rfl) ?_));refine aE S 1 rfl (jb rfl) fun _ _ S=> ?_;dsimp only[List.set] at S;refine aE S 1 rfl (jb rfl) fun _ _ S=> ?_;dsimp only[List.set] at S;refine aE S 1 rfl (jb rfl) fun _ _ S=> ?_;dsimp only[List.set] at S;refine ak (p:=q) (l:=m) (c:=d) (S.cell 1 rfl rfl) (ak (p:=some ⟨E,0,none⟩) (l:=gv.l+1) (c:=gv.l+1) (S.cell 1 rfl rfl) (ak (p:=some ⟨D,0,none⟩) (l:=gv.l+1) (c:=gv.l+1) (S.cell 1 rfl rfl) ?_));have o:=(S.own 3 rfl).2.1;rw[K];replace S:=S.toOwn 4 1 (gv.l+1) (gv.l+1) (b:=E) (cs:=az ws) (by rw[av];omega) (U3 _);dsimp only[List.set] at S;replace S:=S.toOwn 5 1 (gv.l+1) (gv.l+1) (b:=D) (cs:=az rs) (by rw[av];omega) (U3 _);dsimp only[List.set] at S;rw[N6 (by rw[av];omega),N6 (by rw[av];omega)] at S;exact⟨⟨q,m,d,ord⟩,⟨some ⟨E,0,none⟩,gv.l+1,gv.l+1,ws⟩,⟨some ⟨D,0,none⟩,gv.l+1,gv.l+1,rs⟩,rfl,rfl,rfl,rfl,⟨hm,o⟩,⟨Z,U3 _⟩,⟨Y,U3 _⟩,yu (S.pw [3,4,5])⟩
end
end
section
section
variable {h:af}
theorem Mr {gv:Gv} (f:gv.ok) (D:bI h gv.p (aF gv.ns)) (hr:(aU gv.ns).P h) (hl:gv.l<2 ^ 20) (z: ∀n∈gv.ns,n.inn.l<2 ^ 40∧n.weights.l<2 ^ 62∧n.bias.l<2 ^ 62) (Z:KT h):
 au P gP #[gv.v] h (zZ gv.gr.look h):=by
 refine CJ _ ?_;unfold Eg;have B:=f.1;have E:gv.gr.nodes.length=gv.l:=by rw[←B];simp[Gv.gr]
 have S:=(((aJ.start h no).read (blk 0 (az bo)) Z).read (row gv.p (aF gv.ns)) D).read (aU gv.ns) hr;refine aA (cs:=gv.cells) S fun T h1 _ S=> ?_;dsimp only[Xj,Xi] at S;refine aA (cs:=[.slice none 0 0,.slice none 0 0,.slice none 0 0]) S fun A h2 _ S=> ?_;dsimp only[Xj,Xi] at S;refine aN S 0 rfl (x:=gv.t) rfl ?_;refine(Sr f (S.row 1 rfl) (S.r 2 _ rfl) (by omega) (fun n D=>by have:=(z n D).1;omega)).mono ?_;rintro _ _ ⟨rfl,F⟩;refine⟨_,rfl,?_⟩;replace S:=S.fra0 F
 have i: ∀{e:Int} {g:af},aJ h no g [blk T gv.cells,blk A [.slice none 0 0,.slice none 0 0,.slice none 0 0]] [blk 0 (az bo),row gv.p (aF gv.ns),aU gv.ns]→gv.gr.look=⟨e,[],[],[]⟩→
  aW g ⟨A,0,none⟩ (.slice none 0 0) fun X=>aW X ⟨A,1,none⟩ (.slice none 0 0) fun Y=>aW Y ⟨A,2,none⟩ (.slice none 0 0) fun w=>aq w ⟨A,0,none⟩ fun N L H=>aq w ⟨A,1,none⟩ fun O l12 I=>aq w ⟨A,2,none⟩ fun Q M J=>
   zZ gv.gr.look h (.tuple #[(.agg #[(.slice N L H),(.slice O l12 I),(.slice Q M J)]),(.int .i64 e)]) w:=by
  intro e g S U;refine aE S 1 rfl (jb rfl) fun _ _ S=> ?_;dsimp only[List.set] at S;refine aE S 1 rfl (jb rfl) fun _ _ S=> ?_;dsimp only[List.set] at S;refine aE S 1 rfl (jb rfl) fun _ _ S=> ?_;dsimp only[List.set] at S;refine ak (p:=none) (l:=0) (c:=0) (S.cell 1 rfl rfl) (ak (p:=none) (l:=0) (c:=0) (S.cell 1 rfl rfl) (ak (p:=none) (l:=0) (c:=0) (S.cell 1 rfl rfl) ?_));exact zZ.err S U
 refine bh (fun s=>i S (by unfold Gr.look;rw[if_pos s])) (fun s=> ?_);have nf: ¬gv.gr.first≠0:=fun h=>h s;refine ak (p:=gv.p) (l:=gv.l) (c:=gv.c) (S.cell 0 rfl rfl) ?_;refine(Ld (S.row 1 rfl) (S.r 2 _ rfl) B (by omega) (fun n D=>(f.2.2 n D).1) (fun n D=>by have:=(z n D).1;omega)).mono ?_;rintro _ g3 ⟨q,m,d,rfl,C,R⟩;replace S:=S.add R fun _ _ h=>h;dsimp only[Xi,Xj] at S;refine⟨_,_,_,_,rfl,?_⟩;have u:gv.ns.map Nv.nd=gv.gr.nodes:=rfl;rw[u] at C S ⊢;have K:gv.ns.length=gv.gr.nodes.length:=by rw[E,B]
 rw[K];refine bG (am (fun y=> ?_) (fun y=>i (S.pw [0,1]) (by unfold Gr.look;rw[if_neg nf,if_pos y])));refine ak (p:=gv.p) (l:=gv.l) (c:=gv.c) (S.cell 0 rfl rfl) (ak (p:=gv.p) (l:=gv.l) (c:=gv.c) (S.cell 0 rfl rfl) ?_);have V:IntKind.wrap .i64 ((gv.l:Int)+1)=((gv.l+1:Nat):Int):=by rw[al (by omega)];omega
 rw[V];simp only[oe];have b: ∀x:Int,(List.replicate (gv.l+1) (0:Int)).set 0 x=x::List.replicate gv.gr.nodes.length 0:=fun x=>by rw[E,VO];rfl
 have a:(List.replicate (gv.l+1) [Value.int .i64 0]).flatten=az (List.replicate (gv.l+1) 0):=by rw[ib];simp[az]
 have W:=(bR s).2.1;refine⟨?_,?_,?_⟩
 ·refine dQ S (gv.l+1) rfl rfl rfl (by decide) (by omega) (by omega) fun o _ _ S=> ?_;rw[a] at S;dsimp only[Xi,Xj] at S;refine aX (S.cell 0 rfl rfl) (aX (S.cell 0 rfl rfl) ?_);refine⟨?_,?_⟩
  ·refine dQ S (gv.l+1) rfl rfl rfl (by decide) (by omega) (by omega) fun j _ _ S=> ?_;rw[a] at S;dsimp only[Xi,Xj] at S;refine aX (S.cell 0 rfl rfl) (aX (S.cell 0 rfl rfl) ?_);refine aA (cs:=[.slice none 0 0,.slice none 0 0,.slice none 0 0]) S fun G _ _ S=> ?_;dsimp only[Xi,Xj] at S;refine aE S 5 rfl (jb rfl) fun _ _ S=> ?_;dsimp only[List.set] at S;refine aE S 5 rfl (jb rfl) fun _ _ S=> ?_;dsimp only[List.set] at S;refine aE S 5 rfl (jb rfl) fun _ _ S=> ?_;dsimp only[List.set] at S;refine ak (p:=some ⟨o,0,none⟩) (l:=gv.l+1) (c:=gv.l+1) (S.cell 5 rfl rfl) (ae (n:=gv.width) (S.cell 0 rfl rfl) (aB rfl (k:=0) rfl (by omega) ?_));refine ak (p:=some ⟨j,0,none⟩) (l:=gv.l+1) (c:=gv.l+1) (S.cell 5 rfl rfl) ?_;simp only[Vi,Nat.zero_mul,aQ,Va];refine aE S 3 rfl (by rw[av,UZ];omega) fun _ _ S=> ?_;rw[bA,b] at S;dsimp only[List.set] at S;refine aX (S.cell 5 rfl rfl) (aB rfl (k:=0) rfl (by omega) ?_);simp only[Vi,Nat.zero_mul,aQ,Va];refine aE S 4 rfl (by rw[av,UZ];omega) fun _ _ S=> ?_;rw[bA,b] at S;dsimp only[List.set] at S;exact jX f s z y C (S.pw [0,1,5,2,3,4])
  ·refine aA (cs:=[.slice none 0 0,.slice none 0 0,.slice none 0 0]) S fun G _ _ S=> ?_;dsimp only[Xi,Xj] at S;refine dQ S (gv.l+1) rfl rfl rfl (by decide) (by omega) (by omega) fun j _ _ S=> ?_;rw[a] at S;dsimp only[Xi,Xj] at S;refine aX (S.cell 0 rfl rfl) (aX (S.cell 0 rfl rfl) ?_);refine aE S 4 rfl (jb rfl) fun _ _ S=> ?_;dsimp only[List.set] at S;refine aE S 4 rfl (jb rfl) fun _ _ S=> ?_;dsimp only[List.set] at S;refine aE S 4 rfl (jb rfl) fun _ _ S=> ?_;dsimp only[List.set] at S;refine ak (p:=some ⟨o,0,none⟩) (l:=gv.l+1) (c:=gv.l+1) (S.cell 4 rfl rfl) (ae (n:=gv.width) (S.cell 0 rfl rfl) (aB rfl (k:=0) rfl (by omega) ?_));refine ak (p:=some ⟨j,0,none⟩) (l:=gv.l+1) (c:=gv.l+1) (S.cell 4 rfl rfl) ?_;simp only[Vi,Nat.zero_mul,aQ,Va];refine aE S 3 rfl (by rw[av,UZ];omega) fun _ _ S=> ?_;rw[bA,b] at S;dsimp only[List.set] at S;refine aX (S.cell 4 rfl rfl) (aB rfl (k:=0) rfl (by omega) ?_);simp only[Vi,Nat.zero_mul,aQ,Va];refine aE S 5 rfl (by rw[av,UZ];omega) fun _ _ S=> ?_;rw[bA,b] at S;dsimp only[List.set] at S;exact jX f s z y C (S.pw [0,1,4,2,3,5])
 ·refine dQ S (gv.l+1) rfl rfl rfl (by decide) (by omega) (by omega) fun j _ _ S=> ?_;rw[a] at S;dsimp only[Xi,Xj] at S;refine aX (S.cell 0 rfl rfl) (aX (S.cell 0 rfl rfl) ?_);refine⟨?_,?_⟩
  ·refine dQ S (gv.l+1) rfl rfl rfl (by decide) (by omega) (by omega) fun o _ _ S=> ?_;rw[a] at S;dsimp only[Xi,Xj] at S;refine aX (S.cell 0 rfl rfl) (aX (S.cell 0 rfl rfl) ?_);refine aA (cs:=[.slice none 0 0,.slice none 0 0,.slice none 0 0]) S fun G _ _ S=> ?_;dsimp only[Xi,Xj] at S;refine aE S 5 rfl (jb rfl) fun _ _ S=> ?_;dsimp only[List.set] at S;refine aE S 5 rfl (jb rfl) fun _ _ S=> ?_;dsimp only[List.set] at S;refine aE S 5 rfl (jb rfl) fun _ _ S=> ?_;dsimp only[List.set] at S;refine ak (p:=some ⟨o,0,none⟩) (l:=gv.l+1) (c:=gv.l+1) (S.cell 5 rfl rfl) (ae (n:=gv.width) (S.cell 0 rfl rfl) (aB rfl (k:=0) rfl (by omega) ?_));refine ak (p:=some ⟨j,0,none⟩) (l:=gv.l+1) (c:=gv.l+1) (S.cell 5 rfl rfl) ?_;simp only[Vi,Nat.zero_mul,aQ,Va];refine aE S 4 rfl (by rw[av,UZ];omega) fun _ _ S=> ?_;rw[bA,b] at S;dsimp only[List.set] at S;refine aX (S.cell 5 rfl rfl) (aB rfl (k:=0) rfl (by omega) ?_);simp only[Vi,Nat.zero_mul,aQ,Va];refine aE S 3 rfl (by rw[av,UZ];omega) fun _ _ S=> ?_;rw[bA,b] at S;dsimp only[List.set] at S;exact jX f s z y C (S.pw [0,1,5,2,4,3])
  ·refine aA (cs:=[.slice none 0 0,.slice none 0 0,.slice none 0 0]) S fun G _ _ S=> ?_;dsimp only[Xi,Xj] at S;refine dQ S (gv.l+1) rfl rfl rfl (by decide) (by omega) (by omega) fun o _ _ S=> ?_;rw[a] at S;dsimp only[Xi,Xj] at S;refine aX (S.cell 0 rfl rfl) (aX (S.cell 0 rfl rfl) ?_);refine aE S 4 rfl (jb rfl) fun _ _ S=> ?_;dsimp only[List.set] at S;refine aE S 4 rfl (jb rfl) fun _ _ S=> ?_;dsimp only[List.set] at S;refine aE S 4 rfl (jb rfl) fun _ _ S=> ?_;dsimp only[List.set] at S;refine ak (p:=some ⟨o,0,none⟩) (l:=gv.l+1) (c:=gv.l+1) (S.cell 4 rfl rfl) (ae (n:=gv.width) (S.cell 0 rfl rfl) (aB rfl (k:=0) rfl (by omega) ?_));refine ak (p:=some ⟨j,0,none⟩) (l:=gv.l+1) (c:=gv.l+1) (S.cell 4 rfl rfl) ?_;simp only[Vi,Nat.zero_mul,aQ,Va];refine aE S 5 rfl (by rw[av,UZ];omega) fun _ _ S=> ?_;rw[bA,b] at S;dsimp only[List.set] at S;refine aX (S.cell 4 rfl rfl) (aB rfl (k:=0) rfl (by omega) ?_);simp only[Vi,Nat.zero_mul,aQ,Va];refine aE S 3 rfl (by rw[av,UZ];omega) fun _ _ S=> ?_;rw[bA,b] at S;dsimp only[List.set] at S;exact jX f s z y C (S.pw [0,1,4,2,5,3])
 ·refine aA (cs:=[.slice none 0 0,.slice none 0 0,.slice none 0 0]) S fun G _ _ S=> ?_;dsimp only[Xi,Xj] at S;refine⟨?_,?_⟩
  ·refine dQ S (gv.l+1) rfl rfl rfl (by decide) (by omega) (by omega) fun o _ _ S=> ?_;rw[a] at S;dsimp only[Xi,Xj] at S;refine aX (S.cell 0 rfl rfl) (aX (S.cell 0 rfl rfl) ?_);refine dQ S (gv.l+1) rfl rfl rfl (by decide) (by omega) (by omega) fun j _ _ S=> ?_;rw[a] at S;dsimp only[Xi,Xj] at S;refine aX (S.cell 0 rfl rfl) (aX (S.cell 0 rfl rfl) ?_);refine aE S 3 rfl (jb rfl) fun _ _ S=> ?_;dsimp only[List.set] at S;refine aE S 3 rfl (jb rfl) fun _ _ S=> ?_;dsimp only[List.set] at S;refine aE S 3 rfl (jb rfl) fun _ _ S=> ?_;dsimp only[List.set] at S;refine ak (p:=some ⟨o,0,none⟩) (l:=gv.l+1) (c:=gv.l+1) (S.cell 3 rfl rfl) (ae (n:=gv.width) (S.cell 0 rfl rfl) (aB rfl (k:=0) rfl (by omega) ?_));refine ak (p:=some ⟨j,0,none⟩) (l:=gv.l+1) (c:=gv.l+1) (S.cell 3 rfl rfl) ?_;simp only[Vi,Nat.zero_mul,aQ,Va];refine aE S 4 rfl (by rw[av,UZ];omega) fun _ _ S=> ?_;rw[bA,b] at S;dsimp only[List.set] at S;refine aX (S.cell 3 rfl rfl) (aB rfl (k:=0) rfl (by omega) ?_);simp only[Vi,Nat.zero_mul,aQ,Va];refine aE S 5 rfl (by rw[av,UZ];omega) fun _ _ S=> ?_;rw[bA,b] at S;dsimp only[List.set] at S;exact jX f s z y C (S.pw [0,1,3,2,4,5])
  ·refine dQ S (gv.l+1) rfl rfl rfl (by decide) (by omega) (by omega) fun j _ _ S=> ?_;rw[a] at S;dsimp only[Xi,Xj] at S;refine aX (S.cell 0 rfl rfl) (aX (S.cell 0 rfl rfl) ?_);refine dQ S (gv.l+1) rfl rfl rfl (by decide) (by omega) (by omega) fun o _ _ S=> ?_;rw[a] at S;dsimp only[Xi,Xj] at S;refine aX (S.cell 0 rfl rfl) (aX (S.cell 0 rfl rfl) ?_);refine aE S 3 rfl (jb rfl) fun _ _ S=> ?_;dsimp only[List.set] at S;refine aE S 3 rfl (jb rfl) fun _ _ S=> ?_;dsimp only[List.set] at S;refine aE S 3 rfl (jb rfl) fun _ _ S=> ?_;dsimp only[List.set] at S;refine ak (p:=some ⟨o,0,none⟩) (l:=gv.l+1) (c:=gv.l+1) (S.cell 3 rfl rfl) (ae (n:=gv.width) (S.cell 0 rfl rfl) (aB rfl (k:=0) rfl (by omega) ?_));refine ak (p:=some ⟨j,0,none⟩) (l:=gv.l+1) (c:=gv.l+1) (S.cell 3 rfl rfl) ?_;simp only[Vi,Nat.zero_mul,aQ,Va];refine aE S 5 rfl (by rw[av,UZ];omega) fun _ _ S=> ?_;rw[bA,b] at S;dsimp only[List.set] at S;refine aX (S.cell 3 rfl rfl) (aB rfl (k:=0) rfl (by omega) ?_);simp only[Vi,Nat.zero_mul,aQ,Va];refine aE S 4 rfl (by rw[av,UZ];omega) fun _ _ S=> ?_;rw[bA,b] at S;dsimp only[List.set] at S;exact jX f s z y C (S.pw [0,1,3,2,5,4])
theorem Hd {gv:Gv} (a:gv.ok) (i:bI h gv.p (aF gv.ns)) (j:(aU gv.ns).P h) (g:gv.l<2 ^ 20) (k: ∀n∈gv.ns,n.inn.l<2 ^ 40∧n.weights.l<2 ^ 62∧n.bias.l<2 ^ 62) (f:KT h):
 au P kQ #[gv.v] h fun v d=>v= .int .i64 gv.gr.look.e∧cp no h d:=by
 refine AH _ ?_;unfold BH;have S:=(((aJ.start h no).read (blk 0 (az bo)) f).read (row gv.p (aF gv.ns)) i).read (aU gv.ns) j;refine aA (cs:=gv.cells) S fun m s _ S=> ?_;dsimp only[Xj,Xi] at S;refine aN S 0 rfl (x:=gv.t) rfl ?_;refine(Mr a (S.row 1 rfl) (S.r 2 _ rfl) g k (S.r 0 _ rfl)).mono ?_;rintro _ q ⟨o,w,r,rfl,_,_,_,_,_,_,b⟩;replace S:=S.add b fun _ _ h=>h;dsimp only[Xi,Xj] at S;refine⟨_,_,_,_,_,_,_,_,_,_,rfl,?_⟩;refine aA (cs:=[.slice none 0 0,.slice none 0 0,.slice none 0 0]) S fun c _ _ S=> ?_;dsimp only[Xi,Xj] at S;refine aE S 4 rfl (jb rfl) fun _ _ S=> ?_;dsimp only[List.set] at S;refine aE S 4 rfl (jb rfl) fun _ _ S=> ?_;dsimp only[List.set] at S;refine aE S 4 rfl (jb rfl) fun _ _ S=> ?_;exact⟨rfl,S.fra⟩
end
end
end Go.Proofs.YtdhpmegbmjoekaaGreatDoor.G

