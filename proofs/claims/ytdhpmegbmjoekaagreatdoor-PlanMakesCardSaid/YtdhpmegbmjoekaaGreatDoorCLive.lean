/- Contracts: the program's fuse: which nodes are live. -/
import Derived.Test.YtdhpmegbmjoekaaGreatDoorCFuse2
namespace Go.Proofs.YtdhpmegbmjoekaaGreatDoor.G
open Go Go.Sh
set_option linter.unusedVariables false
set_option linter.unusedSimpArgs false
def uN(x:Int):List Int→List Int
 |[]=>[x]
 |y::r=>if x≤y then x::y::r else y::uN x r
def km(xs:List Int):List Int:=xs.foldr uN []
theorem AP(x:Int): ∀l,(uN x l).length=l.length+1
 |[]=>rfl
 |y::r=>by unfold uN;split<;>simp[AP x r]
theorem yu: ∀xs:List Int,(km xs).length=xs.length
 |[]=>rfl
 |x::r=>by show(uN x (km r)).length=_;rw[AP,yu r];rfl
theorem yv(x y:Int): ∀l,y∈uN x l↔y=x∨y∈l
 |[]=>by simp[uN]
 |z::r=>by
  unfold uN;split
  ·simp
  ·simp only[V5,yv x y r];constructor
   ·rintro(h|h|h)
    ·exact .inr (.inl h)
    ·exact .inl h
    ·exact .inr (.inr h)
   ·rintro(h|h|h)
    ·exact .inr (.inl h)
    ·exact .inl h
    ·exact .inr (.inr h)
theorem F0(y:Int): ∀xs:List Int,y∈km xs↔y∈xs
 |[]=>by simp[km]
 |x::r=>by show y∈uN x (km r)↔_;rw[yv,F0 y r];simp
theorem Qe(y:Int)(xs:List Int):y∈nA xs↔y∈xs:=by
 have key: ∀(l a:List Int),y∈l.foldl fr a↔y∈a∨y∈l:=by
  intro l
  induction l with
  |nil=>intro a;simp
  |cons x r c=>
   intro a;rw[Wg,c];have:y∈fr a x↔y∈a∨y=x:=by
    unfold fr;split
    ·rename_i h;have b:=List.mem_of_getLast? h;constructor
     ·exact .inl
     ·rintro(h|rfl)
      ·exact h
      ·exact b
    ·simp
   rw[this,V5,or_assoc]
 rw[nA,key];simp
def sd(xs:List Int):List Int:=nA (km xs)
theorem Lw(y:Int)(xs:List Int):y∈sd xs↔y∈xs:=by rw[sd,Qe,F0]
theorem N2(xs:List Int):(sd xs).length≤xs.length:=by have:=Jk (km xs);rw[yu]at this;exact this
abbrev LM:=Int→Option Int
def nN(M:LM)(j:Int):LM:=qh M j (IntKind.wrap .i64 ((M j).getD 0+1))
def innOf(ns:List Nd)(i:Int):List Int:=
 match ns[(i-1).toNat]? with
 |some n=>n.inn
 |none=>[]
def uO(ns:List Nd):Nat→LM→Int→LM
 |0,M,_=>M
 |k+1,M,i=>(sd (innOf ns i)).foldl (fun M j=>if 0<j∧(nN M j j).getD 0=1 then uO ns k (nN M j) j else nN M j) M
def gT(ns:List Nd)(k:Nat)(M:LM)(l:List Int):LM:=l.foldl (fun M j=>if 0<j∧(nN M j j).getD 0=1 then uO ns k (nN M j) j else nN M j) M
theorem D3(ns:List Nd)(k:Nat)(M:LM)(i:Int):uO ns (k+1) M i=gT ns k M (sd (innOf ns i)):=rfl
theorem Jj(ns:List Nd)(k:Nat)(M:LM){l:List Int}{t:Nat}(a:t<l.length):gT ns k M (l.take (t+1))=if 0<l[t]∧(nN (gT ns k M (l.take t)) l[t] l[t]).getD 0=1 then uO ns k (nN (gT ns k M (l.take t)) l[t]) l[t] else nN (gT ns k M (l.take t)) l[t]:=by
 unfold gT;rw[gD a,V7];rfl
def ko(ns:List Nd)(out:Int):LM:=uO ns (ns.length+1) (qh (fun _=>none) out 0) out
def rE:Prop:= ∀(h:ah)(a:Nat)(p:Option Addr)(l c:Nat)(xs:List Int),aB h ⟨a,0,none⟩=some (.slice p l c)→bD h p (az xs)→xs.length=l→l≤12→
 au P i8 #[.func (.func cE) #[] #[.pointer (some ⟨a,0,none⟩)]] h fun v e=> ∃d b,v= .slice d l b∧aG h no e [own 1 d l b (az (km xs))] []
def nz(ns:List Nd)(pos:Int→Nat):Prop:= ∀(i:Nat)(n:Nd),ns[i]? =some n→n.inn.length≤12∧ ∀j∈n.inn,0≤j∧j≤(ns.length:Int)∧(0<j→pos j<pos ((i:Int)+1))
theorem UP{h0 h:ah}{T:Nat→Prop}{W R:List bc}(S:aG h0 T h W R)(R':List bc)(b: ∀(j:Nat) (f:bc),R'[j]? =some f→ ∃i:Nat,R[i]? =some f):aG h0 T h W R':=
 ⟨S.fra,S.w,fun j f a=>by obtain⟨i,hi⟩:=b j f a;exact S.r i f hi,S.ok,S.ww,fun i j f g a c=>by obtain⟨m,d⟩:=b j g c;exact S.wr i m f g a d⟩
theorem F3{P:Program}{f:FuncId}{caps args:List Value}{h:ah}{K:Value→ah→Prop}(H:au P f (args++caps).toArray h K):gS P (.func (.func f) #[] caps.toArray) args h K:=by
 unfold gS;simpa using H
section
theorem RY(hS:rE){gv:Gv}(I:gv.ok)(hl:gv.l<2 ^ 20){pos:Int→Nat}(J:nz gv.gr.nodes pos){b1 y z r:Nat}: ∀(k:Nat)(M:LM)(i:Nat)(h0:ah)(T:Nat→Prop)(h:ah)(X:List bc),i<gv.ns.length→pos ((i:Int)+1)<k→
 aG h0 T h [xm r M,aJ y [.map (some r)],aJ z [.func (.func eZ) #[] #[.pointer (some ⟨b1,0,none⟩),.pointer (some ⟨y,0,none⟩),.pointer (some ⟨z,0,none⟩)]]] (aJ b1 gv.cells::row gv.p (aD gv.ns)::aM gv.ns::X)→
 au P eZ #[.int .i64 ((i:Int)+1),.pointer (some ⟨b1,0,none⟩),.pointer (some ⟨y,0,none⟩),.pointer (some ⟨z,0,none⟩)] h fun v h'=>v= .tuple #[]∧
  aG h0 T h' [xm r (uO gv.gr.nodes k M ((i:Int)+1)),aJ y [.map (some r)],aJ z [.func (.func eZ) #[] #[.pointer (some ⟨b1,0,none⟩),.pointer (some ⟨y,0,none⟩),.pointer (some ⟨z,0,none⟩)]]] (aJ b1 gv.cells::row gv.p (aD gv.ns)::aM gv.ns::X):=by
 have ad:=I.1;have ag:gv.gr.nodes.length=gv.ns.length:=by simp[Gv.gr]
 intro k
 induction k with
 |zero=>intro M i h0 T h X _ hp;omega
 |succ k ih=>
  intro M i h0 T h X hi hp S;refine zu _ _ _ _ ?_;obtain⟨b,N⟩: ∃n,gv.ns[i]? =some n:=⟨_,bo hi⟩;have C:=VL N;have W:=I.2.2 b C;have B:gv.gr.nodes[i]? =some b.nd:=by simp[Gv.gr,N]
  obtain⟨u,V⟩:=J i b.nd B;have u:b.inn.xs.length≤12:=u;have G:innOf gv.gr.nodes ((i:Int)+1)=b.inn.xs:=by
   unfold innOf;rw[show((i:Int)+1-1).toNat=i by omega,B];rfl
  refine ak (p:=gv.p) (l:=gv.l) (c:=gv.c) (S.cellR 0 rfl rfl) ?_;have ew:IntKind.wrap .i64 ((i:Int)+1-1)=(i:Int):=by rw[al (by omega)];omega
  rw[ew];obtain⟨a,ea⟩:=(S.row 1 rfl).some_of (by rw[bE];omega);have K:bD h (some a) (aD gv.ns):=by rw[←ea];exact S.row 1 rfl
  refine aC ea rfl (by omega) ?_;have D:aB h ((a.add (i*15)).add 1)=some b.inn.v:=by
   have:=K.cell (i:=i*15+1) (v:=b.inn.v) (by rw[iu N (by decide)];rfl);rw[mh _ _ (by decide)];exact this
  refine ak (p:=b.inn.p) (l:=b.inn.l) (c:=b.inn.c) D ?_;refine(N4 b.inn.p b.inn.l b.inn.c).mono ?_;rintro _ g1 ⟨bs,rfl,F⟩;replace S:=S.add F fun _ _ h=>h;refine⟨_,rfl,?_⟩;have ilen:b.inn.xs.length=b.inn.l:=W.1.1;refine(hS g1 bs b.inn.p b.inn.l b.inn.c b.inn.xs (S.c 3) (S.r 2 _ rfl _ (V1 C) b.inn.row (by simp)) ilen (by omega)).mono ?_;rintro _ g2 ⟨Y,L,rfl,F⟩;replace S:=S.add F fun _ _ h=>h;refine⟨_,_,_,rfl,?_⟩;refine(N6 S 4 rfl (by omega)).mono ?_;rintro _ g3 ⟨d,rfl,S⟩;refine⟨_,_,_,rfl,?_⟩;have O:nA (km b.inn.xs)=sd b.inn.xs:=rfl;rw[O]at S;rw[D3,G];have aa:(sd b.inn.xs).length=d:=by have:=(S.own 4 rfl).1;rw[av]at this;omega
  have aj:=N2 b.inn.xs
  refine aO (fun mm s g=> ∃(t:Nat),s=(⟨y,0,none⟩,⟨z,0,none⟩,(Y,d,L),(d:Int),(t:Int),())∧t≤d∧mm=d-t∧
   aG h0 T g [xm r (gT gv.gr.nodes k M ((sd b.inn.xs).take t)),aJ y [.map (some r)],aJ z [.func (.func eZ) #[] #[.pointer (some ⟨b1,0,none⟩),.pointer (some ⟨y,0,none⟩),.pointer (some ⟨z,0,none⟩)]],own 1 Y d L (az (sd b.inn.xs))] (aJ b1 gv.cells::row gv.p (aD gv.ns)::aM gv.ns::X)) d
   ⟨0,rfl,by omega,rfl,S.pw [0,1,2,4]⟩ ?_
  rintro mm s g ⟨t,rfl,ht,rfl,S⟩;dsimp only;refine aq (fun ai=> ?_) (fun ab=> ?_)
  ·have E:t<(sd b.inn.xs).length:=by omega
   have e:=Jj gv.gr.nodes k M E;have x:(sd b.inn.xs)[t]∈b.inn.xs:=(Lw _ _).1 (VN E);have hj:=V _ x;generalize R:(sd b.inn.xs)[t]=j at e hj x;obtain⟨pa,H⟩:=(S.own 3 rfl).row.some_of (by rw[av];omega);have U:bD g (some pa) (az (sd b.inn.xs)):=by rw[←H];exact(S.own 3 rfl).row
   refine aC H rfl (by omega) ?_;simp only[hC,VO];refine ae (n:=j) (U.cell (aF (by rw[bo E,R]))) ?_;refine⟨some r,S.c 1,iN (S.w 0 _ rfl) ⟨_,rfl,uQ S 0 rfl fun g4 S=> ?_⟩⟩;rw[uP]at S;have eb:qh (gT gv.gr.nodes k M ((sd b.inn.xs).take t)) j (IntKind.wrap .i64 (((gT gv.gr.nodes k M ((sd b.inn.xs).take t)) j).getD 0+1))=nN (gT gv.gr.nodes k M ((sd b.inn.xs).take t)) j:=rfl;rw[eb]at S;rw[al (n:=(t:Int)+1) (by omega)];refine aq (fun A=> ?_) (fun A=> ?_)
   ·refine⟨some r,S.c 1,iN (S.w 0 _ rfl) ⟨_,rfl,aH (fun Q=> ?_) (fun Q=> ?_)⟩⟩
    ·rw[if_pos ⟨A,Q⟩]at e;refine⟨_,S.c 2,?_⟩;obtain⟨m,Z⟩: ∃m:Nat,j=(m:Int)+1:=⟨(j-1).toNat,by omega⟩;have F:=UP (S.into [0,1,2] [3] [0,1,2]) (aJ b1 gv.cells::row gv.p (aD gv.ns)::aM gv.ns::[own 1 Y d L (az (sd b.inn.xs))]) (fun q f o=>by
      match q,o with
      |0,o=>exact⟨1,o⟩
      |1,o=>exact⟨2,o⟩
      |2,o=>exact⟨3,o⟩
      |3,o=>exact⟨0,o⟩
      |_+4,o=>simp at o)
     have hc:=ih (nN (gT gv.gr.nodes k M ((sd b.inn.xs).take t)) j) m g4 _ g4 _ (by omega) (by rw[←Z];have:=hj.2.2 A;omega) F;rw[←Z]at hc;refine F3 (f:=eZ) (args:=[.int .i64 j]) (caps:=[.pointer (some ⟨b1,0,none⟩),.pointer (some ⟨y,0,none⟩),.pointer (some ⟨z,0,none⟩)]) (au.mono hc ?_);rintro _ g5 ⟨rfl,S2⟩;replace S:=S.back [0,1,2] S2;rw[←e]at S;exact⟨rfl,d-(t+1),by omega,t+1,rfl,by omega,rfl,S⟩
    ·rw[if_neg (fun h=>Q h.2)]at e;rw[←e]at S;exact⟨d-(t+1),by omega,t+1,rfl,by omega,rfl,S⟩
   ·rw[if_neg (fun h=>A h.1)]at e;rw[←e]at S;exact⟨d-(t+1),by omega,t+1,rfl,by omega,rfl,S⟩
  ·rw[py (by omega)]at S;exact⟨rfl,S.pw [0,1,2]⟩
theorem RZ{h:ah}(w:rE){gv:Gv}(a:gv.ok)(A:bD h gv.p (aD gv.ns))(B:(aM gv.ns).P h)(z:gv.l<2 ^ 20){pos:Int→Nat}(b:nz gv.gr.nodes pos)(d: ∀x,pos x≤gv.gr.nodes.length)(J:1≤gv.out∧gv.out≤(gv.l:Int)):
 au P tO #[gv.v] h fun v u=> ∃r,v= .map (some r)∧aG h no u [xm r (ko gv.gr.nodes gv.out)] []:=by
 refine C9 _ ?_;have y:=a.1;have S:=((aG.start h no).read (row gv.p (aD gv.ns)) A).read (aM gv.ns) B;refine aA (cs:=gv.cells) S fun o C _ S=> ?_;refine Ly .i64 S fun e D _ S=> ?_;rw[Ht]at S;refine aA (cs:=[.map none]) S fun q E _ S=> ?_;refine ck S 2 fun F _ S=> ?_;refine aA (cs:=[.nilFunc]) S fun s G _ S=> ?_;refine ck S 3 fun H _ S=> ?_;refine⟨some e,S.c 2,ae (n:=gv.out) (S.c 0) (uQ S 1 rfl fun g S=> ?_)⟩;rw[uP]at S;refine⟨_,S.c 3,ae (n:=gv.out) (S.c 0) ?_⟩;obtain⟨m,t⟩: ∃m:Nat,gv.out=(m:Int)+1:=⟨(gv.out-1).toNat,by omega⟩;have j:=S.into [1,2,3] [0] [0,1];have i:=RY w a z b (gv.gr.nodes.length+1) (qh (fun _=>none) gv.out 0) m g _ g [] (by omega) (by have:=d ((m:Int)+1);omega) j;rw[←t]at i;refine F3 (f:=eZ) (args:=[.int .i64 gv.out]) (caps:=[.pointer (some ⟨o,0,none⟩),.pointer (some ⟨q,0,none⟩),.pointer (some ⟨s,0,none⟩)]) (au.mono i ?_);rintro _ I ⟨rfl,k⟩;replace S:=S.back [1,2,3] k;refine⟨rfl,some e,S.c 2,e,rfl,yy (S.pw [1])⟩
