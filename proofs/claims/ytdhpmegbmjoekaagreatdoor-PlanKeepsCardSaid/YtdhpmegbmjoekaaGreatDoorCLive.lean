/- Contracts: the program's fuse: which nodes are live. -/
import Derived.Test.YtdhpmegbmjoekaaGreatDoorCFuse2
namespace Go.Proofs.YtdhpmegbmjoekaaGreatDoor.G
open Go Go.Sh
set_option linter.unusedVariables false
set_option linter.unusedSimpArgs false
def vq (x:Int):List Int→List Int
 |[]=>[x]
 |y::r=>if x≤y then x::y::r else y::vq x r
def kG (xs:List Int):List Int:=xs.foldr vq []
theorem B0 (x:Int): ∀l,(vq x l).length=l.length+1
 |[]=>rfl
 |y::r=>by unfold vq;split<;>simp[B0 x r]
theorem zW: ∀xs:List Int,(kG xs).length=xs.length
 |[]=>rfl
 |x::r=>by show(vq x (kG r)).length=_;rw[B0,zW r];rfl
theorem zX (x y:Int): ∀l,y∈vq x l↔y=x∨y∈l
 |[]=>by simp[vq]
 |z::r=>by
  unfold vq;split
  ·simp
  ·simp only[U7,zX x y r];constructor
   ·rintro(h|h|h)
    ·exact .inr (.inl h)
    ·exact .inl h
    ·exact .inr (.inr h)
   ·rintro(h|h|h)
    ·exact .inr (.inl h)
    ·exact .inl h
    ·exact .inr (.inr h)
theorem G6 (y:Int): ∀xs:List Int,y∈kG xs↔y∈xs
 |[]=>by simp[kG]
 |x::r=>by show y∈vq x (kG r)↔_;rw[zX,G6 y r];simp
theorem Pk (y:Int) (xs:List Int):y∈nQ xs↔y∈xs:=by
 have key: ∀(l a:List Int),y∈l.foldl fI a↔y∈a∨y∈l:=by
  intro l
  induction l with
  |nil=>intro a;simp
  |cons x r c=>
   intro a;rw[Wb,c];have:y∈fI a x↔y∈a∨y=x:=by
    unfold fI;split
    ·rename_i h;have b:=List.mem_of_getLast? h;constructor
     ·exact .inl
     ·rintro(h|rfl)
      ·exact h
      ·exact b
    ·simp
   rw[this,U7,or_assoc]
 rw[nQ,key];simp
def sd (xs:List Int):List Int:=nQ (kG xs)
theorem Lc (y:Int) (xs:List Int):y∈sd xs↔y∈xs:=by rw[sd,Pk,G6]
theorem Nr (xs:List Int):(sd xs).length≤xs.length:=by have:=JG (kG xs);rw[zW] at this;exact this
abbrev LM:=Int→Option Int
def oc (M:LM) (j:Int):LM:=wy M j (IntKind.wrap .i64 ((M j).getD 0+1))
def innOf (ns:List Nd) (i:Int):List Int:=
 match ns[(i-1).toNat]? with
 |some n=>n.inn
 |none=>[]
def vr (ns:List Nd):Nat→LM→Int→LM
 |0,M,_=>M
 |k+1,M,i=>(sd (innOf ns i)).foldl (fun M j=>if 0<j∧(oc M j j).getD 0=1 then vr ns k (oc M j) j else oc M j) M
def gX (ns:List Nd) (k:Nat) (M:LM) (l:List Int):LM:=l.foldl (fun M j=>if 0<j∧(oc M j j).getD 0=1 then vr ns k (oc M j) j else oc M j) M
theorem Fa (ns:List Nd) (k:Nat) (M:LM) (i:Int):vr ns (k+1) M i=gX ns k M (sd (innOf ns i)):=rfl
theorem JF (ns:List Nd) (k:Nat) (M:LM) {l:List Int} {t:Nat} (a:t<l.length):gX ns k M (l.take (t+1))=if 0<l[t]∧(oc (gX ns k M (l.take t)) l[t] l[t]).getD 0=1 then vr ns k (oc (gX ns k M (l.take t)) l[t]) l[t] else oc (gX ns k M (l.take t)) l[t]:=by
 unfold gX;rw[py a,Vk];rfl
def lP (ns:List Nd) (out:Int):LM:=vr ns (ns.length+1) (wy (fun _=>none) out 0) out
def se:Prop:= ∀(h:af) (a:Nat) (p:Option Addr) (l c:Nat) (xs:List Int),aD h ⟨a,0,none⟩=some (.slice p l c)→bI h p (az xs)→xs.length=l→l≤12→
 au P jg #[.func (.func cB) #[] #[.pointer (some ⟨a,0,none⟩)]] h fun v e=> ∃d b,v= .slice d l b∧aJ h no e [own 1 d l b (az (kG xs))] []
def nP (ns:List Nd) (pos:Int→Nat):Prop:= ∀(i:Nat) (n:Nd),ns[i]? =some n→n.inn.length≤12∧ ∀j∈n.inn,0≤j∧j≤(ns.length:Int)∧(0<j→pos j<pos ((i:Int)+1))
theorem T5 {h0 h:af} {T:Nat→Prop} {W R:List aY} (S:aJ h0 T h W R) (R':List aY) (b: ∀(j:Nat) (f:aY),R'[j]? =some f→ ∃i:Nat,R[i]? =some f):aJ h0 T h W R':=
 ⟨S.fra,S.w,fun j f a=>by obtain⟨i,hi⟩:=b j f a;exact S.r i f hi,S.ok,S.ww,fun i j f g a c=>by obtain⟨m,d⟩:=b j g c;exact S.wr i m f g a d⟩
theorem G7 {P:Program} {f:FuncId} {caps args:List Value} {h:af} {K:Value→af→Prop} (H:au P f (args++caps).toArray h K):gV P (.func (.func f) #[] caps.toArray) args h K:=by
 unfold gV;simpa using H
section
theorem Q1 (hS:se) {gv:Gv} (J:gv.ok) (hl:gv.l<2 ^ 20) {pos:Int→Nat} (K:nP gv.gr.nodes pos) {y z A r:Nat}: ∀(k:Nat) (M:LM) (i:Nat) (h0:af) (T:Nat→Prop) (h:af) (X:List aY),i<gv.ns.length→pos ((i:Int)+1)<k→
 aJ h0 T h [yr r M,blk z [.map (some r)],blk A [.func (.func fg) #[] #[.pointer (some ⟨y,0,none⟩),.pointer (some ⟨z,0,none⟩),.pointer (some ⟨A,0,none⟩)]]] (blk y gv.cells::row gv.p (aF gv.ns)::aU gv.ns::X)→
 au P fg #[.int .i64 ((i:Int)+1),.pointer (some ⟨y,0,none⟩),.pointer (some ⟨z,0,none⟩),.pointer (some ⟨A,0,none⟩)] h fun v h'=>v= .tuple #[]∧
  aJ h0 T h' [yr r (vr gv.gr.nodes k M ((i:Int)+1)),blk z [.map (some r)],blk A [.func (.func fg) #[] #[.pointer (some ⟨y,0,none⟩),.pointer (some ⟨z,0,none⟩),.pointer (some ⟨A,0,none⟩)]]] (blk y gv.cells::row gv.p (aF gv.ns)::aU gv.ns::X):=by
 have ad:=J.1;have ag:gv.gr.nodes.length=gv.ns.length:=by simp[Gv.gr]
 intro k
 induction k with
 |zero=>intro M i h0 T h X _ hp;omega
 |succ k ih=>
  intro M i h0 T h X hi hp S;refine AN _ _ _ _ ?_;unfold BN;simp only[aQ,SI];obtain⟨b,en⟩: ∃n,gv.ns[i]? =some n:=⟨_,aO hi⟩;have D:=UR en;have W:=J.2.2 b D;have C:gv.gr.nodes[i]? =some b.nd:=by simp[Gv.gr,en]
  obtain⟨u,V⟩:=K i b.nd C;have u:b.inn.xs.length≤12:=u;have H:innOf gv.gr.nodes ((i:Int)+1)=b.inn.xs:=by
   unfold innOf;rw[show((i:Int)+1-1).toNat=i by omega,C];rfl
  refine ak (p:=gv.p) (l:=gv.l) (c:=gv.c) (S.cellR 0 rfl rfl) ?_;have ew:IntKind.wrap .i64 ((i:Int)+1-1)=(i:Int):=by rw[al (by omega)];omega
  rw[ew];obtain⟨a,ea⟩:=(S.row 1 rfl).some_of (by rw[bW];omega);have L:bI h (some a) (aF gv.ns):=by rw[←ea];exact S.row 1 rfl
  refine aB ea rfl (by omega) ?_;simp only[oe];have E:aD h ((a.add (i*15)).add 1)=some b.inn.v:=by
   have:=L.cell (i:=i*15+1) (v:=b.inn.v) (by rw[lm en (by decide)];rfl);rw[rW _ _ (by decide)];exact this
  refine ak (p:=b.inn.p) (l:=b.inn.l) (c:=b.inn.c) E ?_;refine(Nt b.inn.p b.inn.l b.inn.c).mono ?_;rintro _ g1 ⟨bs,rfl,G⟩;replace S:=S.add G fun _ _ h=>h;dsimp only[Xj,Xi] at S;refine⟨_,rfl,?_⟩;have ilen:b.inn.xs.length=b.inn.l:=W.1.1;refine(hS g1 bs b.inn.p b.inn.l b.inn.c b.inn.xs (S.cell 3 rfl rfl) (S.r 2 _ rfl _ (U2 D) b.inn.row (by simp)) ilen (by omega)).mono ?_;rintro _ g2 ⟨Y,N,rfl,G⟩;replace S:=S.add G fun _ _ h=>h;dsimp only[Xj,Xi] at S;refine⟨_,_,_,rfl,?_⟩;refine(Nw S 4 rfl (by omega)).mono ?_;rintro _ g3 ⟨d,rfl,S⟩;dsimp only[List.set] at S;refine⟨_,_,_,rfl,?_⟩;have O:nQ (kG b.inn.xs)=sd b.inn.xs:=rfl;rw[O] at S;rw[Fa,H];have aa:(sd b.inn.xs).length=d:=by have:=(S.own 4 rfl).1;rw[av] at this;omega
  have aj:=Nr b.inn.xs
  refine aP (fun mm s g=> ∃(t:Nat),s=(⟨z,0,none⟩,⟨A,0,none⟩,(Y,d,N),(d:Int),(t:Int),())∧t≤d∧mm=d-t∧
   aJ h0 T g [yr r (gX gv.gr.nodes k M ((sd b.inn.xs).take t)),blk z [.map (some r)],blk A [.func (.func fg) #[] #[.pointer (some ⟨y,0,none⟩),.pointer (some ⟨z,0,none⟩),.pointer (some ⟨A,0,none⟩)]],own 1 Y d N (az (sd b.inn.xs))] (blk y gv.cells::row gv.p (aF gv.ns)::aU gv.ns::X)) d
   ⟨0,rfl,by omega,rfl,S.pw [0,1,2,4]⟩ ?_
  clear S;rintro mm s g ⟨t,rfl,ht,rfl,S⟩;unfold u5;dsimp only;refine am (fun ai=> ?_) (fun ab=> ?_)
  ·have F:t<(sd b.inn.xs).length:=by omega
   have e:=JF gv.gr.nodes k M F;have x:(sd b.inn.xs)[t]∈b.inn.xs:=(Lc _ _).1 (UU F);have hj:=V _ x;generalize R:(sd b.inn.xs)[t]=j at e hj x;obtain⟨pa,I⟩:=(S.own 3 rfl).row.some_of (by rw[av];omega);have U:bI g (some pa) (az (sd b.inn.xs)):=by rw[←I];exact(S.own 3 rfl).row
   refine aB I rfl (by omega) ?_;simp only[oe,US];refine ae (n:=j) (U.cell (aI (by rw[aO F,R]))) ?_;refine⟨some r,S.cell 1 rfl rfl,iX (S.w 0 _ rfl) ⟨_,rfl,vu S 0 rfl fun g4 S=> ?_⟩⟩;rw[vt] at S;dsimp only[List.set] at S;have eb:wy (gX gv.gr.nodes k M ((sd b.inn.xs).take t)) j (IntKind.wrap .i64 (((gX gv.gr.nodes k M ((sd b.inn.xs).take t)) j).getD 0+1))=oc (gX gv.gr.nodes k M ((sd b.inn.xs).take t)) j:=rfl;rw[eb] at S;rw[al (n:=(t:Int)+1) (by omega)];refine am (fun B=> ?_) (fun B=> ?_)
   ·refine⟨some r,S.cell 1 rfl rfl,iX (S.w 0 _ rfl) ⟨_,rfl,aH (fun Q=> ?_) (fun Q=> ?_)⟩⟩
    ·rw[if_pos ⟨B,Q⟩] at e;refine⟨_,S.cell 2 rfl rfl,?_⟩;obtain⟨m,Z⟩: ∃m:Nat,j=(m:Int)+1:=⟨(j-1).toNat,by omega⟩;have G:=T5 (S.into [0,1,2] [3] [0,1,2]) (blk y gv.cells::row gv.p (aF gv.ns)::aU gv.ns::[own 1 Y d N (az (sd b.inn.xs))]) (fun q f o=>by
      match q,o with
      |0,o=>exact⟨1,o⟩
      |1,o=>exact⟨2,o⟩
      |2,o=>exact⟨3,o⟩
      |3,o=>exact⟨0,o⟩
      |_+4,o=>simp at o)
     have hc:=ih (oc (gX gv.gr.nodes k M ((sd b.inn.xs).take t)) j) m g4 _ g4 _ (by omega) (by rw[←Z];have:=hj.2.2 B;omega) G;rw[←Z] at hc;refine G7 (f:=fg) (args:=[.int .i64 j]) (caps:=[.pointer (some ⟨y,0,none⟩),.pointer (some ⟨z,0,none⟩),.pointer (some ⟨A,0,none⟩)]) (au.mono hc ?_);rintro _ g5 ⟨rfl,S2⟩;replace S:=S.back [0,1,2] S2;dsimp only[bE,List.set,Xi,Xj] at S;rw[←e] at S;exact⟨rfl,d-(t+1),by omega,t+1,rfl,by omega,rfl,S⟩
    ·rw[if_neg (fun h=>Q h.2)] at e;rw[←e] at S;exact⟨d-(t+1),by omega,t+1,rfl,by omega,rfl,S⟩
   ·rw[if_neg (fun h=>B h.1)] at e;rw[←e] at S;exact⟨d-(t+1),by omega,t+1,rfl,by omega,rfl,S⟩
  ·rw[N6 (by omega)] at S;exact⟨rfl,S.pw [0,1,2]⟩
theorem Q2 {h:af} (u:se) {gv:Gv} (a:gv.ok) (A:bI h gv.p (aF gv.ns)) (B:(aU gv.ns).P h) (z:gv.l<2 ^ 20) {pos:Int→Nat} (b:nP gv.gr.nodes pos) (c: ∀x,pos x≤gv.gr.nodes.length) (J:1≤gv.out∧gv.out≤(gv.l:Int)):
 au P uC #[gv.v] h fun v t=> ∃r,v= .map (some r)∧aJ h no t [yr r (lP gv.gr.nodes gv.out)] []:=by
 refine Er _ ?_;unfold GK;have w:=a.1;have y:gv.gr.nodes.length=gv.ns.length:=by simp[Gv.gr]
 have S:=((aJ.start h no).read (row gv.p (aF gv.ns)) A).read (aU gv.ns) B;refine aA (cs:=gv.cells) S fun k C _ S=> ?_;dsimp only[Xj,Xi] at S;refine Le .i64 S fun d D _ S=> ?_;rw[Ia] at S;dsimp only[Xj,Xi] at S;refine aA (cs:=[.map none]) S fun o E _ S=> ?_;dsimp only[Xj,Xi] at S;refine aE S 2 rfl (jb rfl) fun F _ S=> ?_;dsimp only[List.set] at S;refine aA (cs:=[.nilFunc]) S fun q G _ S=> ?_;dsimp only[Xj,Xi] at S;refine aE S 3 rfl (jb rfl) fun H _ S=> ?_;dsimp only[List.set] at S;refine⟨some d,S.cell 2 rfl rfl,ae (n:=gv.out) (S.cell 0 rfl rfl) (vu S 1 rfl fun e S=> ?_)⟩;rw[vt] at S;dsimp only[List.set] at S;refine⟨_,S.cell 3 rfl rfl,ae (n:=gv.out) (S.cell 0 rfl rfl) ?_⟩;obtain⟨m,s⟩: ∃m:Nat,gv.out=(m:Int)+1:=⟨(gv.out-1).toNat,by omega⟩;have i:=S.into [1,2,3] [0] [0,1];have g:=Q1 u a z b (gv.gr.nodes.length+1) (wy (fun _=>none) gv.out 0) m e _ e [] (by omega) (by have:=c ((m:Int)+1);omega) i;rw[←s] at g;refine G7 (f:=fg) (args:=[.int .i64 gv.out]) (caps:=[.pointer (some ⟨k,0,none⟩),.pointer (some ⟨o,0,none⟩),.pointer (some ⟨q,0,none⟩)]) (au.mono g ?_);rintro _ I ⟨rfl,j⟩;replace S:=S.back [1,2,3] j;dsimp only[bE,List.set,Xi,Xj] at S;refine⟨rfl,some d,S.cell 2 rfl rfl,d,rfl,yu (S.pw [1])⟩
end
end Go.Proofs.YtdhpmegbmjoekaaGreatDoor.G

