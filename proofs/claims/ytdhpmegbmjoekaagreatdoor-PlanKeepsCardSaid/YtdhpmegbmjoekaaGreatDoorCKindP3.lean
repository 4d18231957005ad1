/- CKindP CKindP2 CKindP3, in one text. -/
import Derived.Test.YtdhpmegbmjoekaaGreatDoorCKind14d
set_option linter.unusedVariables false
set_option linter.unusedSimpArgs false
namespace Go.Proofs.YtdhpmegbmjoekaaGreatDoor.G
open Go Go.Sh
section
abbrev bo:List Int:=[0,7,5,1,1,0,6,8,8,32,64,0,16]
abbrev KT (h:af):Prop:=At h 0 (az bo)
def EP (k:Nat) (b c:Bool):Int:=
 let a:=bo.getD k 0
 let a:=if b then FL .i64 a 64 else a
 if c then FL .i64 a 32 else a
def qC (k post a:Int):Prop:=1≤k∧k≤12∧cn .i64 (EP k.toNat (cn .i64 post 1 !=0) (cn .i64 post 2 !=0)) a≠0
instance (k post what:Int):Decidable (qC k post what):=by unfold qC;infer_instance
theorem vh {k post a:Int} {p:Nat→Bool→Bool→Prop} (e: ∀k,k<13→ ∀b1 b2:Bool,(cn .i64 (EP k b1 b2) a≠0↔p k b1 b2)):qC k post a↔1≤k∧k≤12∧p k.toNat (cn .i64 post 1 !=0) (cn .i64 post 2 !=0):=by
 unfold qC;constructor
 ·rintro⟨b,c,d⟩;exact⟨b,c,(e _ (by omega) _ _).1 d⟩
 ·rintro⟨b,c,d⟩;exact⟨b,c,(e _ (by omega) _ _).2 d⟩
theorem H4 {k post:Int}:qC k post 1↔dA k:=by
 rw[vh (p:=fun k _ _=>k=1∨k=2∨k=3∨k=4) (by decide+kernel)];unfold dA;omega
theorem O1 {k post:Int}:qC k post 2↔wide k:=by
 rw[vh (p:=fun k _ _=>k=1∨k=6) (by decide+kernel)];unfold wide;omega
theorem O2 {k post:Int}:qC k post 4↔gY k:=by
 rw[vh (p:=fun k _ _=>k=1∨k=2∨k=6) (by decide+kernel)];unfold gY;omega
theorem QE {k post:Int}:qC k post 8↔cJ k:=by
 rw[vh (p:=fun k _ _=>k=7∨k=8) (by decide+kernel)];unfold cJ;omega
theorem Me {k post:Int}:qC k post 16↔k=12:=by
 rw[vh (p:=fun k _ _=>k=12) (by decide+kernel)];omega
theorem O3 {k post:Int}:qC k post 17↔dW k:=by
 rw[vh (p:=fun k _ _=>k=1∨k=2∨k=3∨k=4∨k=12) (by decide+kernel)];unfold dW dA;omega
theorem T3 (x:Int):cn .i64 x 1=x % 2:=zO x 1 1 rfl (by decide)
theorem T4 (x:Int):cn .i64 x 2=0∨cn .i64 x 2=2:=by
 have f:=zO x 3 2 rfl (by decide);have key: ∀b:Bool,∀c:Bool,True:=fun _ _=>trivial;unfold cn;have e:BitVec.ofInt 64 x&&& BitVec.ofInt 64 2=if(BitVec.ofInt 64 x).getLsbD 1 then 2#64 else 0#64:=by
  apply BitVec.eq_of_getLsbD_eq;intro i hi;rw[BitVec.getLsbD_and];by_cases a:i=1
  ·subst a;cases hb:(BitVec.ofInt 64 x).getLsbD 1<;>simp[hb]
  ·have d:(BitVec.ofInt 64 2).getLsbD i=false:=by
    have:(BitVec.ofInt 64 2)=2#64:=by decide
    rw[this];rw[BitVec.getLsbD_ofNat];have:Nat.testBit 2 i=false:=by
     rw[show(2:Nat)=2 ^ 1 from rfl,Xc];simp;omega
    simp[this]
   rw[d,Bool.and_false];split
   ·rw[BitVec.getLsbD_ofNat];have:Nat.testBit 2 i=false:=by
     rw[show(2:Nat)=2 ^ 1 from rfl,Xc];simp;omega
    simp[this]
   ·simp
 show IntKind.wrap .i64 ((BitVec.ofInt 64 x&&& BitVec.ofInt 64 2).toNat:Int)=0∨IntKind.wrap .i64 ((BitVec.ofInt 64 x&&& BitVec.ofInt 64 2).toNat:Int)=2;rw[e];cases (BitVec.ofInt 64 x).getLsbD 1
 ·left;decide
 ·right;decide
theorem S9 {k post:Int} (h:1≤k∧k≤12):qC k post 32↔Ks k post:=by
 rw[vh (p:=fun k _ a=>k=9∨a=true) (by decide+kernel)];have:=T4 post;unfold Ks;rw[bne_iff_ne];omega
theorem Ta {k post:Int} (h:1≤k∧k≤12):qC k post 64↔IA k post:=by
 rw[vh (p:=fun k a _=>k=10∨a=true) (by decide+kernel)];have:=T3 post;unfold IA;rw[bne_iff_ne];omega
section
variable {h:af}
theorem jO (nv:Nv) (a:Int) (m:KT h):au P cG #[nv.v,.int .i64 a] h fun v l=>v= .bool (decide (qC nv.kind nv.post a))∧cp no h l:=by
 refine FQ _ _ ?_;unfold IQ;have S:=(aJ.start h no).read (blk 0 (az bo)) m;refine aA (cs:=nv.cells) S fun p f _ S=> ?_;dsimp only[Xi,Xj] at S;have e: ¬(1≤nv.kind∧nv.kind≤12)→Value.bool false= .bool (decide (qC nv.kind nv.post a)):=fun o=>by rw[decide_eq_false];rintro⟨f,g,_⟩;exact o ⟨f,g⟩
 refine ae (n:=nv.kind) (S.cell 0 rfl rfl) (am (fun f=>⟨e (by omega),S.fra⟩) fun f=> ?_);refine ae (n:=nv.kind) (S.cell 0 rfl rfl) (am (fun g=>⟨e (by omega),S.fra⟩) fun g=> ?_);refine ae (n:=nv.kind) (S.cell 0 rfl rfl) (jN (by omega) (by omega) ?_);obtain⟨k,j⟩: ∃k:Nat,nv.kind=k:=⟨nv.kind.toNat,by omega⟩;have i:k<bo.length:=by show k<13;omega
 rw[j];simp only[aQ,oe,US,SI];refine ae (n:=bo.getD k 0) (S.cellR 0 rfl (by rw[UV,aO i];exact aI (aO i))) ?_;refine ae (n:=nv.post) (S.cell 0 rfl rfl) ?_;have b: ∀x:Int,x=EP k (cn .i64 nv.post 1 !=0) (cn .i64 nv.post 2 !=0)→Value.bool (cn .i64 x a !=0)= .bool (decide (qC (k:Int) nv.post a)):=by
  rintro x rfl;congr 1;rw[VQ,bne_iff_ne,decide_eq_true_iff];unfold qC;rw[oe];exact⟨fun h=>⟨by omega,by omega,h⟩,fun h=>h.2.2⟩
 refine bh (fun d=> ?_) (fun d=> ?_)
 ·refine ae (n:=nv.post) (S.cell 0 rfl rfl) (bh (fun c=> ?_) (fun c=> ?_))
  ·exact⟨b _ (by unfold EP;rw[bne_iff_ne.2 d,bne_iff_ne.2 c];rfl),S.fra⟩
  ·exact⟨b _ (by unfold EP;rw[bne_iff_ne.2 d,c];rfl),S.fra⟩
 ·refine ae (n:=nv.post) (S.cell 0 rfl rfl) (bh (fun c=> ?_) (fun c=> ?_))
  ·exact⟨b _ (by unfold EP;rw[d,bne_iff_ne.2 c];rfl),S.fra⟩
  ·exact⟨b _ (by unfold EP;rw[d,c];rfl),S.fra⟩
theorem oV (x lo hi:Int):au P dk #[.int .i64 x,.int .i64 lo,.int .i64 hi] h fun v a=>v= .bool (decide (dF x lo hi))∧a=h:=by
 refine HK _ _ _ ?_;unfold LZ;refine am (fun b=>⟨?_,rfl⟩) (fun b=>⟨?_,rfl⟩)
 ·congr 1;rw[decide_eq_decide];omega
 ·rw[decide_eq_false (by omega)]
theorem EQ {p:Option Addr} {l c:Nat} {xs:List Int} (e:bI h p (az xs)) (t:xs.length=l) (o:l<2 ^ 62) (lo hi:Int):
 au P eS #[.slice p l c,.int .i64 lo,.int .i64 hi] h fun v f=>v= .bool (decide (bv lo hi xs))∧f=h:=by
 refine CF _ _ _ _ _ ?_;unfold D8;refine aP (fun m s g=>g=h∧ ∃i:Nat,s=(lo,hi,(p,l,c),(l:Int),(i:Int),())∧i≤l∧m=l-i∧bv lo hi (xs.take i)) l ⟨rfl,0,rfl,by omega,rfl,by rw[Wf];exact dO _ _⟩ ?_;rintro m s g ⟨rfl,i,rfl,n,rfl,d⟩;unfold xi;dsimp only;refine am (fun q=> ?_) (fun k=> ?_)
 ·have a:i<xs.length:=by omega
  obtain⟨r,rfl⟩:=e.some_of (by rw[av];omega);have j:=e.cell (aI (aO a));refine aB rfl rfl (by omega) ?_;simp only[oe,US];refine ae j ?_;refine(oV xs[i] lo hi).mono ?_;rintro _ _ ⟨rfl,rfl⟩;refine⟨_,rfl,?_⟩;refine bG (am (fun b=> ?_) (fun b=> ?_))
  ·rw[al (by omega)];exact⟨l-(i+1),by omega,by trivial,i+1,rfl,by omega,rfl,(iJ a).2 ⟨d,b⟩⟩
  ·exact⟨by rw[decide_eq_false (fun h=>b (h _ (UU a)))],by trivial⟩
 ·rw[N6 (by omega)] at d;exact⟨by rw[decide_eq_true d],by trivial⟩
theorem zR (nv:Nv) (g:KT h) (m: -2 ^ 20≤nv.size∧nv.size≤2 ^ 20) (l: -2 ^ 20≤nv.gap∧nv.gap≤2 ^ 20):au P iK #[nv.v] h fun v f=>v= .int .i64 nv.nd.span∧cp no h f:=by
 refine Ea _ ?_;unfold GD;have S:=(aJ.start h no).read (blk 0 (az bo)) g;refine aA (cs:=nv.cells) S fun j k _ S=> ?_;dsimp only[Xi,Xj] at S;refine aN S 0 rfl (x:=nv.t) rfl ?_;have e:nv.nd.span=if nv.kind=12 then nv.size else if dA nv.kind then(nv.size-1)*nv.gap+1 else 1:=rfl
 rw[e];refine(jO nv 1 (S.r 0 _ rfl)).mono ?_;rintro _ _ ⟨rfl,F⟩;refine⟨_,rfl,?_⟩;replace S:=S.fra0 F;refine am (fun a=> ?_) (fun a=> ?_)
 ·rw[H4] at a;refine ae (n:=nv.size) (S.cell 0 rfl rfl) (ae (n:=nv.gap) (S.cell 0 rfl rfl) ?_);rw[if_neg (by unfold dA at a;omega),if_pos a];have b: -2 ^ 42≤(nv.size-1)*nv.gap∧(nv.size-1)*nv.gap≤2 ^ 42:=by
   have c:(nv.size-1).natAbs≤2 ^ 21:=by omega
   have d:nv.gap.natAbs≤2 ^ 20:=by omega
   have i:((nv.size-1)*nv.gap).natAbs≤2 ^ 21*2 ^ 20:=by rw[Int.natAbs_mul];exact Nat.mul_le_mul c d
   omega
  rw[al (n:=nv.size-1) (by omega),al (n:=(nv.size-1)*nv.gap) (by omega),al (by omega)];exact⟨rfl,S.fra⟩
 ·rw[H4] at a;refine aN S 0 rfl (x:=nv.t) rfl ?_;refine(jO nv 16 (S.r 0 _ rfl)).mono ?_;rintro _ _ ⟨rfl,F⟩;refine⟨_,rfl,?_⟩;replace S:=S.fra0 F;refine am (fun b=> ?_) (fun b=> ?_)
  ·rw[Me] at b;refine ae (n:=nv.size) (S.cell 0 rfl rfl) ?_;rw[if_pos b];exact⟨rfl,S.fra⟩
  ·rw[Me] at b;rw[if_neg b,if_neg a];exact⟨rfl,S.fra⟩
theorem QF (nv:Nv) (c:KT h):au P uz #[nv.v] h fun v b=>v= .int .i64 (cE nv.kind nv.step)∧cp no h b:=by
 refine Ed _ ?_;unfold GF;have S:=(aJ.start h no).read (blk 0 (az bo)) c;refine aA (cs:=nv.cells) S fun d e _ S=> ?_;dsimp only[Xi,Xj] at S;refine aN S 0 rfl (x:=nv.t) rfl ?_;refine(jO nv 1 (S.r 0 _ rfl)).mono ?_;rintro _ _ ⟨rfl,F⟩;refine⟨_,rfl,?_⟩;replace S:=S.fra0 F;unfold cE;refine am (fun a=> ?_) (fun a=> ?_)
 ·rw[H4] at a;refine ae (n:=nv.step) (S.cell 0 rfl rfl) ?_;rw[if_pos a];exact⟨rfl,S.fra⟩
 ·rw[H4] at a;rw[if_neg a];exact⟨rfl,S.fra⟩
end
end
section
section
variable {h:af}
theorem QG {nv:Nv} (J:nv.ok) (hT:KT h) (Q:dF nv.kind 1 12):au P eY #[nv.v] h fun v h'=>v= .bool (decide nv.nd.else0)∧cp no h h':=by
 refine D9 _ ?_;unfold GC;have lw:=J.2.1.1;have lb:=J.2.2.1;have M:=Ak nv;have S:=(aJ.start h no).read (blk 0 (az bo)) hT;refine aA (cs:=nv.cells) S fun q h1 _ S=> ?_;dsimp only[Xi,Xj] at S
 refine⟨fun s g=> ∃t1 t2 t3 f j o:Bool,s=(⟨q,0,none⟩,((1:Int),t1,(17:Int),t2,(2:Int),t3,(4:Int),f,(32:Int),j,(64:Int),o,()),(0:Int),())∧
  (t1=true↔ ¬(nv.step=0∧nv.gap=0∧nv.left=0∧nv.right=0))∧(t2=true↔nv.size≠0)∧(t3=true↔nv.width≠0)∧(f=true↔ ¬(nv.weights.xs.length=0∧nv.bias.xs.length=0))∧
  (j=true↔ ¬(nv.low=0∧nv.high=0))∧(o=true↔ ¬(nv.mult=0∧nv.shift=0))∧aJ h no g [blk q nv.cells] [blk 0 (az bo)],?_,?_⟩
 ·rintro s g ⟨t1,t2,t3,f,j,o,rfl,e1,e2,e3,e4,e5,e6,S⟩;unfold zj;dsimp only;have ew: ∃wl:List (Int×Bool),wl=[(1,t1),(17,t2),(2,t3),(4,f),(32,j),(64,o)]:=⟨_,rfl⟩;obtain⟨wl,w⟩:=ew;have R:wl.length=6:=by rw[w];rfl
  have h0:nv.nd.else0↔ ∀x∈wl,x.2=true→qC nv.kind nv.post x.1:=by
   rw[M,w];simp only[U7,VU,or_false,forall_eq_or_imp,forall_eq,H4,O3,O1,O2,S9 Q,Ta Q,e1,e2,e3,e4,e5,e6];unfold dW;constructor
   ·rintro⟨A,B,C,D,E,G⟩;exact⟨fun x=>Classical.byContradiction fun y=>x (A y),fun x=>Classical.byContradiction fun y=>x (B ⟨fun z=>y (.inl z),fun z=>y (.inr z)⟩),fun x=>Classical.byContradiction fun y=>x (C y),fun x=>Classical.byContradiction fun y=>x (D y),fun x=>G.resolve_right x,fun x=>E.resolve_right x⟩
   ·rintro⟨A,B,C,D,E,G⟩;exact⟨fun x=>Classical.byContradiction fun y=>x (A y),fun x=>Classical.byContradiction fun y=>(B y).elim x.1 x.2,fun x=>Classical.byContradiction fun y=>x (C y),fun x=>Classical.byContradiction fun y=>x (D y),Classical.or_iff_not_imp_right.2 G,Classical.or_iff_not_imp_right.2 E⟩
  refine aP (fun m U O=> ∃i:Nat,U=(⟨q,0,none⟩,((1:Int),t1,(17:Int),t2,(2:Int),t3,(4:Int),f,(32:Int),j,(64:Int),o,()),(i:Int),())∧i≤6∧m=6-i∧(∀x∈wl.take i,x.2=true→qC nv.kind nv.post x.1)∧aJ h no O [blk q nv.cells] [blk 0 (az bo)]) 6 ⟨0,rfl,by omega,rfl,by simp,S⟩ ?_;clear S;rintro m U O ⟨i,rfl,hi,rfl,a,S⟩;unfold zi;dsimp only;refine am (fun ab=> ?_) (fun aa=> ?_)
  ·have I:i<wl.length:=by omega
   obtain⟨n,b,T,d⟩: ∃(n:Int) (b:Bool),wl[i]=(n,b)∧Array.extract (#[(.int .i64 1),(.bool t1),(.int .i64 17),(.bool t2),(.int .i64 2),(.bool t3),(.int .i64 4),(.bool f),(.int .i64 32),(.bool j),(.int .i64 64),(.bool o)]:Array Value) (i*2) (i*2+2)=(#[(.int .i64 n),(.bool b)]:Array Value):=by
    subst w;have:i=0∨i=1∨i=2∨i=3∨i=4∨i=5:=by omega
    rcases this with rfl|rfl|rfl|rfl|rfl|rfl<;>exact⟨_,_,rfl,rfl⟩
   refine jN (by omega) (by omega) ?_;simp only[oe];refine⟨n,b,d,?_⟩;refine aA S (fun b8 _ _ S=> ?_);dsimp only[Xi,Xj] at S;refine aE S 1 rfl (jb rfl) fun _ _ S=> ?_;dsimp only[List.set] at S;refine aE S 1 rfl (jb rfl) fun _ _ S=> ?_;dsimp only[List.set] at S;refine jz (n:=b) (S.cell 1 rfl rfl) ?_;have u:(b=true→qC nv.kind nv.post n)→ ∀x∈wl.take (i+1),x.2=true→qC nv.kind nv.post x.1:=by
    intro H x d;rw[py I] at d;rcases UX.1 d with d|d
    ·exact a x d
    ·simp only[SH] at d;subst d;rw[T];exact H
   refine eD (fun H=> ?_) (fun H=> ?_)
   ·refine aN S 0 rfl (x:=nv.t) rfl (ae (n:=n) (S.cell 1 rfl rfl) ?_);refine(jO nv n (S.r 0 _ rfl)).mono ?_;rintro _ _ ⟨rfl,F⟩;refine⟨_,rfl,?_⟩;replace S:=S.fra0 F;refine bG (am (fun L=> ?_) (fun L=> ?_))
    ·rw[al (by omega)];exact⟨6-(i+1),by omega,i+1,rfl,by omega,rfl,u fun _=>L,S.pw [0]⟩
    ·refine⟨?_,S.fra⟩;rw[decide_eq_false];intro he;have:=h0.1 he wl[i] (UU I);rw[T] at this;exact L (this H)
   ·rw[al (by omega)];exact⟨6-(i+1),by omega,i+1,rfl,by omega,rfl,u (fun h=>by rw[H] at h;cases h),S.pw [0]⟩
  ·rw[N6 (by omega)] at a;exact⟨by rw[decide_eq_true (h0.2 a)],S.fra⟩
 have K: ∀{t1 t2 t3 f j o:Bool} {g:af},aJ h no g [blk q nv.cells] [blk 0 (az bo)]→(t1=true↔ ¬(nv.step=0∧nv.gap=0∧nv.left=0∧nv.right=0))→(t2=true↔nv.size≠0)→(t3=true↔nv.width≠0)→(f=true↔ ¬(nv.weights.xs.length=0∧nv.bias.xs.length=0))→
  (j=true↔ ¬(nv.low=0∧nv.high=0))→(o=true↔ ¬(nv.mult=0∧nv.shift=0))→ ∃V W X Y Z s6:Bool,((⟨q,0,none⟩:Addr),((1:Int),t1,(17:Int),t2,(2:Int),t3,(4:Int),f,(32:Int),j,(64:Int),o,()),(0:Int),())=(⟨q,0,none⟩,((1:Int),V,(17:Int),W,(2:Int),X,(4:Int),Y,(32:Int),Z,(64:Int),s6,()),(0:Int),())∧
  (V=true↔ ¬(nv.step=0∧nv.gap=0∧nv.left=0∧nv.right=0))∧(W=true↔nv.size≠0)∧(X=true↔nv.width≠0)∧(Y=true↔ ¬(nv.weights.xs.length=0∧nv.bias.xs.length=0))∧
  (Z=true↔ ¬(nv.low=0∧nv.high=0))∧(s6=true↔ ¬(nv.mult=0∧nv.shift=0))∧aJ h no g [blk q nv.cells] [blk 0 (az bo)]:=fun S A B C D E G=>⟨_,_,_,_,_,_,rfl,A,B,C,D,E,G,S⟩
 have st:=fun k (v:Value) (e:nv.cells[k]? =some v)=>S.cell 0 (k:=k) (v:=v) rfl e;have N: ∀t1:Bool,(t1=true↔ ¬(nv.step=0∧nv.gap=0∧nv.left=0∧nv.right=0))→(t1=true↔ ¬(nv.step=0∧nv.gap=0∧nv.left=0∧nv.right=0)):=fun _ x=>x;refine ae (n:=nv.step) (S.cell 0 rfl rfl) (bh (fun c1=> ?kxa) (fun c1=> ?kxb))
 case' kxb=>refine ae (n:=nv.gap) (S.cell 0 rfl rfl) (bh (fun c2=> ?kxc) (fun c2=> ?kxd))
 case' kxd=>refine ae (n:=nv.left) (S.cell 0 rfl rfl) (bh (fun c3=> ?kxe) (fun c3=> ?kxf))
 case' kxf=>refine ae (n:=nv.right) (S.cell 0 rfl rfl) ?_
 all_goals
  refine ae (n:=nv.size) (S.cell 0 rfl rfl) (ae (n:=nv.width) (S.cell 0 rfl rfl) (ak (p:=nv.weights.p) (l:=nv.weights.l) (c:=nv.weights.c) (S.cell 0 rfl rfl) (am (fun d1=> ?_) (fun d1=>ak (p:=nv.bias.p) (l:=nv.bias.l) (c:=nv.bias.c) (S.cell 0 rfl rfl) ?_))))
 all_goals
  refine ae (n:=nv.low) (S.cell 0 rfl rfl) (bh (fun l1=> ?_) (fun l1=>ae (n:=nv.high) (S.cell 0 rfl rfl) ?_))
 all_goals
  refine ae (n:=nv.mult) (S.cell 0 rfl rfl) (bh (fun m1=> ?_) (fun m1=>ae (n:=nv.shift) (S.cell 0 rfl rfl) ?_))
 all_goals
  refine K S ?_ ?_ ?_ ?_ ?_ ?_
 all_goals first
  |(simp only[true_iff];omega)
  |(simp only[bne_iff_ne,ne_eq,decide_eq_true_eq];done)
  |(simp only[bne_iff_ne,ne_eq,decide_eq_true_eq];omega)
theorem QH {nv:Nv} (O:nv.ok) (hr:nv.rows.P h) (Y:nv.weights.l<2 ^ 62) (X:nv.bias.l<2 ^ 62) (hT:KT h) {w:Int} (hw:1≤w∧w≤16):au P fe #[nv.v,.int .i64 w] h fun v h'=>v= .bool (decide (nv.nd.sized w))∧cp no h h':=by
 refine Eb _ _ ?_;unfold GE;have R:=O.2.1.1;have Q:=O.2.2.1;have f:=vB nv w;have S:=((aJ.start h no).read (blk 0 (az bo)) hT).read nv.rows hr;refine aA (cs:=nv.cells) S fun m u _ S=> ?_;dsimp only[Xi,Xj] at S;have d: ∀g,aJ h no g [blk m nv.cells] [blk 0 (az bo),nv.rows]→ ¬nv.nd.sized w→Value.bool false= .bool (decide (nv.nd.sized w))∧cp no h g:=fun g S z=>⟨by rw[decide_eq_false z],S.fra⟩;refine⟨fun s g=>s=(w,⟨m,0,none⟩,())∧aJ h no g [blk m nv.cells] [blk 0 (az bo),nv.rows]∧(dW nv.kind→dF nv.size 1 8)∧(wide nv.kind→dF nv.width 1 16),?_,?_⟩
 ·rintro s g ⟨rfl,S,U,W⟩;unfold zl;dsimp only;refine⟨fun s g=>s=(w,⟨m,0,none⟩,())∧aJ h no g [blk m nv.cells] [blk 0 (az bo),nv.rows]∧(dA nv.kind→dF nv.step 1 4∧dF nv.gap 1 4∧(0≤nv.left∧nv.left<nv.nd.span)∧(0≤nv.right∧nv.right<nv.nd.span)),?_,?_⟩
  ·rintro s g ⟨rfl,S,c3⟩;unfold zk;dsimp only
   refine⟨fun s g=>s=(⟨m,0,none⟩,())∧aJ h no g [blk m nv.cells] [blk 0 (az bo),nv.rows]∧
    (gY nv.kind→(nv.weights.xs.length:Int)=nv.nd.wcount w∧(nv.bias.xs.length:Int)=(if nv.kind=2 then w else nv.width)∧bv (-128) 127 nv.weights.xs∧bv (-16777216) 16777216 nv.bias.xs),?_,?_⟩
   ·rintro s g ⟨rfl,S,c4⟩;unfold xj;simp only[aQ,SI];refine ae (n:=nv.mult) (S.cell 0 rfl rfl) ?_;refine(oV nv.mult 0 32767).mono ?_;rintro _ _ ⟨rfl,rfl⟩;refine⟨_,rfl,?_⟩;refine am (fun k=> ?_) (fun k=>d _ S fun i=>k (f.1 i).2.2.2.2.1);refine ae (n:=nv.shift) (S.cell 0 rfl rfl) ?_;refine(oV nv.shift 0 30).mono ?_;rintro _ _ ⟨rfl,rfl⟩;refine⟨_,rfl,?_⟩;refine am (fun q=> ?_) (fun q=>d _ S fun i=>q (f.1 i).2.2.2.2.2.1);refine ae (n:=nv.low) (S.cell 0 rfl rfl) (ae (n:=nv.high) (S.cell 0 rfl rfl) ?_);refine(oV nv.low (-2147483648) nv.high).mono ?_;rintro _ _ ⟨rfl,rfl⟩;refine⟨_,rfl,?_⟩;refine am (fun A=> ?_) (fun A=>d _ S fun i=>A (by have:=(f.1 i).2.2.2.2;unfold gz at this;omega));refine ae (n:=nv.high) (S.cell 0 rfl rfl) (ae (n:=nv.low) (S.cell 0 rfl rfl) ?_);refine(oV nv.high nv.low 2147483647).mono ?_;rintro _ _ ⟨rfl,rfl⟩;refine⟨_,rfl,?_⟩;refine⟨?_,S.fra⟩;congr 1;rw[decide_eq_decide,f];constructor
    ·intro B;exact⟨U,c3,W,c4,k,q,by unfold gz gH;omega,by unfold gz gH;omega,by omega⟩
    ·rintro⟨_,_,_,_,_,_,_,H,f6⟩;unfold gz gH at H;omega
   ·simp only[aQ,SI];refine aN S 0 rfl (x:=nv.t) rfl ?_;refine(jO nv 4 (S.r 0 _ rfl)).mono ?_;rintro _ _ ⟨rfl,F⟩;refine⟨_,rfl,?_⟩;replace S:=S.fra0 F;refine am (fun N=> ?_) (fun N=>⟨by trivial,S,fun z=>absurd (O2.2 z) N⟩);rw[O2] at N;have T: ∀{g:af},aJ h no g [blk m nv.cells] [blk 0 (az bo),nv.rows]→bI g nv.weights.p (az nv.weights.xs):=fun S=>S.r 1 _ rfl nv.weights.row (by simp);have E: ∀{g:af},aJ h no g [blk m nv.cells] [blk 0 (az bo),nv.rows]→bI g nv.bias.p (az nv.bias.xs):=fun S=>S.r 1 _ rfl nv.bias.row (by simp);refine ae (n:=nv.width) (S.cell 0 rfl rfl) (ae (n:=nv.kind) (S.cell 0 rfl rfl) ?_);have j: ¬((nv.weights.xs.length:Int)=nv.nd.wcount w∧(nv.bias.xs.length:Int)=(if nv.kind=2 then w else nv.width)∧bv (-128) 127 nv.weights.xs∧bv (-16777216) 16777216 nv.bias.xs)→ ¬nv.nd.sized w:=fun z i=>z ((f.1 i).2.2.2.1 N);have G:nv.nd.wcount w=if nv.kind=1 then nv.width*nv.size*w else if nv.kind=2 then w*nv.size else nv.width*w:=rfl
    rw[G] at j;refine aH (fun o=> ?o) (fun o=>aH (fun D=> ?D) (fun D=> ?k6))
    case' o=>
     rw[if_neg (by omega),if_pos o,if_pos o] at j;have c:=U (by unfold dW dA;omega);have V:=j4 (a:=w) (b:=nv.size) (x:=16) (y:=8) (by omega) (by omega);refine ae (n:=nv.size) (S.cell 0 rfl rfl) ?_;rw[Int.one_mul,al (n:=nv.size) (by omega),al (n:=w*nv.size) (by omega)]
    case' D=>
     rw[if_pos D,if_neg o] at j;have c:=U (by unfold dW dA;omega);have c':=W (by unfold wide;omega);have V:=j4 (a:=w) (b:=nv.size) (x:=16) (y:=8) (by omega) (by omega);have aa:=j4 (a:=nv.width) (b:=w*nv.size) (x:=16) (y:=128) (by omega) (by omega);have ee:nv.width*nv.size*w=nv.width*(w*nv.size):=by rw[Int.mul_assoc,W0 nv.size w]
     rw[ee] at j;refine ae (n:=nv.size) (S.cell 0 rfl rfl) ?_;rw[al (n:=w*nv.size) (by omega),al (n:=nv.width*(w*nv.size)) (by omega)]
    case' k6=>
     rw[if_neg D,if_neg o,if_neg o] at j;have c':=W (by unfold wide;unfold gY at N;omega);have V:=j4 (a:=nv.width) (b:=w) (x:=16) (y:=16) (by omega) (by omega);rw[al (n:=nv.width*w) (by omega)]
    all_goals
     refine ak (p:=nv.weights.p) (l:=nv.weights.l) (c:=nv.weights.c) (S.cell 0 rfl rfl) (bh (fun J=>d _ S (j fun C=>J (by rw[←R];exact C.1))) fun J=> ?_);refine ak (p:=nv.bias.p) (l:=nv.bias.l) (c:=nv.bias.c) (S.cell 0 rfl rfl) (bh (fun K=>d _ S (j fun C=>K (by rw[←Q];exact C.2.1))) fun K=> ?_);refine ak (p:=nv.weights.p) (l:=nv.weights.l) (c:=nv.weights.c) (S.cell 0 rfl rfl) ?_;refine(EQ (T S) R Y (-128) 127).mono ?_;rintro _ _ ⟨rfl,rfl⟩;refine⟨_,rfl,?_⟩;refine bG (am (fun L=> ?_) (fun L=>d _ S (j fun C=>L C.2.2.1)));refine ak (p:=nv.bias.p) (l:=nv.bias.l) (c:=nv.bias.c) (S.cell 0 rfl rfl) ?_;refine(EQ (E S) Q X (-16777216) 16777216).mono ?_;rintro _ _ ⟨rfl,rfl⟩;refine⟨_,rfl,?_⟩;refine bG (am (fun M=> ?_) (fun M=>d _ S (j fun C=>M C.2.2.2)));refine⟨by trivial,S,fun _=> ?_⟩;rw[G]
    all_goals first
     |(rw[if_pos D,if_neg o,ee];exact⟨by rw[R];exact J,by rw[Q];exact K,L,M⟩)
     |(rw[if_neg D,if_neg o,if_neg o];exact⟨by rw[R];exact J,by rw[Q];exact K,L,M⟩)
     |(rw[if_neg (by omega),if_pos o,if_pos o];exact⟨by rw[R];exact J,by rw[Q];exact K,L,M⟩)
  ·simp only[aQ,SI];refine aN S 0 rfl (x:=nv.t) rfl ?_;refine(jO nv 1 (S.r 0 _ rfl)).mono ?_;rintro _ _ ⟨rfl,F⟩;refine⟨_,rfl,?_⟩;replace S:=S.fra0 F;refine am (fun u=> ?_) (fun u=>⟨by trivial,S,fun z=>absurd (H4.2 z) u⟩);rw[H4] at u;have c:=U (.inl u);refine ae (n:=nv.step) (S.cell 0 rfl rfl) ?_;refine(oV nv.step 1 4).mono ?_;rintro _ _ ⟨rfl,rfl⟩;refine⟨_,rfl,?_⟩;refine am (fun k=> ?_) (fun k=>cI rfl (d _ S fun i=>k ((f.1 i).2.1 u).1));refine ae (n:=nv.gap) (S.cell 0 rfl rfl) ?_;refine(oV nv.gap 1 4).mono ?_;rintro _ _ ⟨rfl,rfl⟩;refine⟨_,rfl,?_⟩;refine am (fun q=> ?_) (fun q=>cI rfl (d _ S fun i=>q ((f.1 i).2.1 u).2.1));have Z:nv.nd.span=(nv.size-1)*nv.gap+1:=by
    have e:nv.nd.span=if nv.kind=12 then nv.size else if dA nv.kind then(nv.size-1)*nv.gap+1 else 1:=rfl
    rw[e,if_neg (by unfold dA at u;omega),if_pos u]
   have V:=j4 (a:=nv.size-1) (b:=nv.gap) (x:=7) (y:=4) (by omega) (by omega);refine ae (n:=nv.left) (S.cell 0 rfl rfl) (aN S 0 rfl (x:=nv.t) rfl ?_);refine(zR nv (S.r 0 _ rfl) (by omega) (by omega)).mono ?_;rintro _ _ ⟨rfl,F⟩;refine⟨_,rfl,?_⟩;replace S:=S.fra0 F;refine aX (S.cell 0 rfl rfl) ?_;rw[al (n:=nv.nd.span-1) (by omega)];refine(oV nv.left 0 (nv.nd.span-1)).mono ?_;rintro _ _ ⟨rfl,rfl⟩;refine⟨_,rfl,?_⟩;refine am (fun A=> ?_) (fun A=>aX (S.cell 0 rfl rfl) (aX (S.cell 0 rfl rfl) (cI rfl (d _ S fun i=>A (by have:=((f.1 i).2.1 u).2.2.1;omega)))));refine ae (n:=nv.right) (S.cell 0 rfl rfl) (aN S 0 rfl (x:=nv.t) rfl ?_);refine(zR nv (S.r 0 _ rfl) (by omega) (by omega)).mono ?_;rintro _ _ ⟨rfl,F⟩;refine⟨_,rfl,?_⟩;replace S:=S.fra0 F;refine aX (S.cell 0 rfl rfl) (aX (S.cell 0 rfl rfl) ?_);rw[al (n:=nv.nd.span-1) (by omega)];refine(oV nv.right 0 (nv.nd.span-1)).mono ?_;rintro _ _ ⟨rfl,rfl⟩;refine⟨_,rfl,?_⟩;refine aX (S.cell 0 rfl rfl) (bG (am (fun B=> ?_) (fun B=>d _ S fun i=>B (by have:=((f.1 i).2.1 u).2.2.2;omega))));exact⟨by trivial,S,fun _=>⟨k,q,by omega,by omega⟩⟩
 ·have I: ∀g,aJ h no g [blk m nv.cells] [blk 0 (az bo),nv.rows]→(dW nv.kind→dF nv.size 1 8)→(wide nv.kind→dF nv.width 1 16)→((w,(⟨m,0,none⟩:Addr),())=(w,⟨m,0,none⟩,())∧aJ h no g [blk m nv.cells] [blk 0 (az bo),nv.rows]∧(dW nv.kind→dF nv.size 1 8)∧(wide nv.kind→dF nv.width 1 16)):=fun g S a b=>⟨rfl,S,a,b⟩;refine aN S 0 rfl (x:=nv.t) rfl ?_;refine(jO nv 17 (S.r 0 _ rfl)).mono ?_;rintro _ _ ⟨rfl,F⟩;refine⟨_,rfl,?_⟩;replace S:=S.fra0 F;refine am (fun k=> ?ka) (fun k=> ?kb)
  case' ka=>
   rw[O3] at k;refine ae (n:=nv.size) (S.cell 0 rfl rfl) ?_;refine(oV nv.size 1 8).mono ?_;rintro _ _ ⟨rfl,rfl⟩;refine⟨_,rfl,?_⟩;refine bG (am (fun q=> ?_) (fun q=>d _ S fun i=>q ((f.1 i).1 k)));have A:dW nv.kind→dF nv.size 1 8:=fun _=>q;clear k q
  case' kb=>
   rw[O3] at k;have A:dW nv.kind→dF nv.size 1 8:=fun z=>absurd z k;clear k
  all_goals
   refine aN S 0 rfl (x:=nv.t) rfl ?_;refine(jO nv 2 (S.r 0 _ rfl)).mono ?_;rintro _ _ ⟨rfl,F⟩;refine⟨_,rfl,?_⟩;replace S:=S.fra0 F;refine am (fun B=> ?_) (fun B=>I _ S A fun z=>absurd (O1.2 z) B);rw[O1] at B;refine ae (n:=nv.width) (S.cell 0 rfl rfl) ?_;refine(oV nv.width 1 16).mono ?_;rintro _ _ ⟨rfl,rfl⟩;refine⟨_,rfl,?_⟩;exact bG (am (fun H=>I _ S A fun _=>H) (fun H=>d _ S fun i=>H ((f.1 i).2.2.1 B)))
end
end
section
section
variable {h:af}
theorem ER {nv:Nv} (B:nv.ok) (hr:nv.rows.P h) (aj:nv.inn.l<2 ^ 62) (W:nv.weights.l<2 ^ 62) (V:nv.bias.l<2 ^ 62) (hT:KT h) {p:Option Addr} {l c:Nat} {ws:List Int} (hw:bI h p (az ws)) (hl:ws.length=l) (ai:l<2 ^ 56):
 au P fZ #[nv.v,.slice p l c] h fun v h'=>v= .int .i64 (nv.nd.chk ws)∧cp no h h':=by
 refine CG _ _ _ _ ?_;unfold Ec;have li:=B.1.1;have ab:nv.nd.inn.length=nv.inn.l:=li;have ek:nv.nd.kind=nv.kind:=rfl;have ep:nv.nd.post=nv.post:=rfl;have S:=(((aJ.start h no).read (blk 0 (az bo)) hT).read nv.rows hr).read (row p (az ws)) hw;refine aA (cs:=nv.cells) S fun E h1 _ S=> ?_;dsimp only[Xj,Xi] at S;have z:(ws.length≠nv.nd.inn.length∨ ¬bv 1 16 ws)→ ∀g,aJ h no g [blk E nv.cells] [blk 0 (az bo),nv.rows,row p (az ws)]→Value.int .i64 1= .int .i64 (nv.nd.chk ws)∧cp no h g:=fun N g S=>⟨by unfold Nd.chk;rw[if_pos N],S.fra⟩
 refine⟨fun s g=>s=((p,l,c),⟨E,0,none⟩,())∧aJ h no g [blk E nv.cells] [blk 0 (az bo),nv.rows,row p (az ws)]∧ ¬(ws.length≠nv.nd.inn.length∨ ¬bv 1 16 ws)∧
  ¬(¬dF nv.nd.kind 1 12∨(cJ nv.nd.kind∧ ¬(2≤ws.length∧ws.length≤4))∨(¬cJ nv.nd.kind∧ws.length≠1)∨ ¬dF nv.nd.post 0 3∨(nv.nd.post≠0∧ ¬gY nv.nd.kind)∨ ¬nv.nd.else0)∧ ¬ ¬nv.nd.sized (ws.getD 0 0)∧1≤ws.length,?_,?_⟩
 ·rintro s g ⟨rfl,S,q,b,d,o⟩;unfold xk;dsimp only;have y:bv 1 16 ws:=by
   apply Decidable.byContradiction;intro h;exact q (.inr h)
  obtain⟨G,rfl⟩:=(S.row 2 rfl).some_of (by rw[av];omega);have L:ws.getD 0 0=ws[0]:=cH o;refine aP (fun m s g=> ∃i:Nat,s=((some G,l,c),⟨E,0,none⟩,hG (ws.take i),(some G,l,c),(l:Int),(i:Int),())∧i≤l∧m=l-i∧(nv.kind=7→ ∀x∈ws.take i,x=ws.getD 0 0)∧aJ h no g [blk E nv.cells] [blk 0 (az bo),nv.rows,row (some G) (az ws)]) l ⟨0,rfl,by omega,rfl,by simp,S⟩ ?_;rintro m s g ⟨i,rfl,ag,rfl,R,S⟩;unfold uU;dsimp only;refine am (fun an=> ?_) (fun ad=> ?_)
  ·have f:i<ws.length:=by omega
   have hc:=(S.row 2 rfl).cell (aI (aO f));have U:aD g (Addr.add G 0)=some (.int .i64 (ws.getD 0 0)):=(S.row 2 rfl).cell (i:=0) (aI (by rw[aO (by omega),L]));refine aB rfl rfl (by omega) ?_;simp only[oe,US];refine ae hc (ae (n:=nv.kind) (S.cell 0 rfl rfl) ?_);have X:=jK (pJ i y);rw[U0] at X;have ao:=y ws[i] (UU f);rw[al (n:=hG (ws.take i)+ws[i]) (by omega),al (n:=(i:Int)+1) (by omega),←pI f];refine aH (fun u=> ?_) (fun u=> ?_)
   ·refine aB rfl (k:=0) rfl (by omega) ?_;refine ae U (bh (fun A=>⟨?_,S.fra⟩) (fun A=> ?_))
    ·have T:nv.nd.kind=7∧ ¬ ∀x∈ws,x=ws.getD 0 0:=⟨u,fun h=>A (h _ (UU f))⟩;unfold Nd.chk;rw[if_neg q,if_neg b,if_neg d,if_pos T]
    ·refine⟨l-(i+1),by omega,i+1,by trivial,by omega,rfl,fun _ x j=> ?_,S⟩;rw[py f] at j;rcases UX.1 j with j|j
     ·exact R u x j
     ·simp only[SH] at j;subst j;exact A
   ·exact⟨l-(i+1),by omega,i+1,rfl,by omega,rfl,fun h=>absurd h u,S⟩
  ·rw[N6 (by omega)] at R ⊢;have D: ¬(nv.nd.kind=7∧ ¬ ∀x∈ws,x=ws.getD 0 0):=fun h=>h.2 (R h.1);refine ae (n:=nv.kind) (S.cell 0 rfl rfl) ?_;refine aH (fun u=>am (fun A=>⟨?_,S.fra⟩) (fun A=>⟨?_,S.fra⟩)) (fun u=>⟨?_,S.fra⟩)
   ·have e:nv.nd.kind=8∧hG ws>16:=⟨u,A⟩;unfold Nd.chk;rw[if_neg q,if_neg b,if_neg d,if_neg D,if_pos e]
   ·have e: ¬(nv.nd.kind=8∧hG ws>16):=fun h=>A h.2;unfold Nd.chk;rw[if_neg q,if_neg b,if_neg d,if_neg D,if_neg e]
   ·have e: ¬(nv.nd.kind=8∧hG ws>16):=fun h=>u h.1;unfold Nd.chk;rw[if_neg q,if_neg b,if_neg d,if_neg D,if_neg e]
 ·refine ak (p:=nv.inn.p) (l:=nv.inn.l) (c:=nv.inn.c) (S.cell 0 rfl rfl) (bh (fun h3=>z (.inl (by omega)) _ S) fun h3=> ?_);refine(EQ (S.row 2 rfl) hl (by omega) 1 16).mono ?_;rintro _ _ ⟨rfl,rfl⟩;refine⟨_,rfl,?_⟩;refine bG (am (fun M=> ?_) (fun M=>z (.inr M) _ S));have q: ¬(ws.length≠nv.nd.inn.length∨ ¬bv 1 16 ws):=by
   rintro(h|h)
   ·omega
   ·exact h M
  have a:(¬dF nv.kind 1 12∨(cJ nv.kind∧ ¬(2≤ws.length∧ws.length≤4))∨(¬cJ nv.kind∧ws.length≠1)∨ ¬dF nv.post 0 3∨(nv.post≠0∧ ¬gY nv.kind)∨ ¬nv.nd.else0)→ ∀g,aJ h no g [blk E nv.cells] [blk 0 (az bo),nv.rows,row p (az ws)]→Value.int .i64 12= .int .i64 (nv.nd.chk ws)∧cp no h g:=
   fun N g S=>⟨by rw[←ek,←ep] at N;unfold Nd.chk;rw[if_neg q,if_pos N],S.fra⟩
  refine ae (n:=nv.kind) (S.cell 0 rfl rfl) ?_;refine(oV nv.kind 1 12).mono ?_;rintro _ _ ⟨rfl,rfl⟩;refine⟨_,rfl,?_⟩;refine bG (am (fun O=> ?_) (fun O=>a (.inl O) _ S));refine ae (n:=nv.post) (S.cell 0 rfl rfl) ?_;refine(oV nv.post 0 3).mono ?_;rintro _ _ ⟨rfl,rfl⟩;refine⟨_,rfl,?_⟩;refine bG (am (fun k4=> ?_) (fun k4=>a (.inr (.inr (.inr (.inl k4)))) _ S));refine ae (n:=nv.post) (S.cell 0 rfl rfl) ?_;refine bh (fun K=> ?ka) (fun K=> ?kb)
  case' ka=>
   refine aN S 0 rfl (x:=nv.t) rfl ?_;refine(jO nv 4 (S.r 0 _ rfl)).mono ?_;rintro _ _ ⟨rfl,F⟩;refine⟨_,rfl,?_⟩;replace S:=S.fra0 F;refine bG (am (fun Q=> ?_) (fun Q=>a (.inr (.inr (.inr (.inr (.inl ⟨K,fun w=>Q (O2.2 w)⟩))))) _ S));have k5:nv.post≠0→gY nv.kind:=fun _=>O2.1 Q;clear K Q
  case' kb=>
   have k5:nv.post≠0→gY nv.kind:=fun n=>absurd K n;clear K
  all_goals
   refine aN S 0 rfl (x:=nv.t) rfl ?_;refine(jO nv 8 (S.r 0 _ rfl)).mono ?_;rintro _ _ ⟨rfl,F⟩;refine⟨_,rfl,?_⟩;replace S:=S.fra0 F;refine am (fun m1=> ?_) (fun m1=> ?_)
   rotate_left;refine aN S 0 rfl (x:=nv.t) rfl ?_;refine(jO nv 8 (S.r 0 _ rfl)).mono ?_;rintro _ _ ⟨rfl,F⟩;refine⟨_,rfl,?_⟩;replace S:=S.fra0 F;refine bG (am (fun C=>absurd C m1) (fun C=> ?_));refine bh (fun J=>a (.inr (.inr (.inl ⟨fun m=>m1 (QE.2 m),by omega⟩))) _ S) (fun J=> ?_);have Y:cJ nv.kind→2≤ws.length∧ws.length≤4:=fun m=>absurd (QE.2 m) m1;have Z: ¬cJ nv.kind→ws.length=1:=fun _=>by omega
   clear C m1 J
   rotate_left;refine(oV (l:Int) 2 4).mono ?_;rintro _ _ ⟨rfl,rfl⟩;refine⟨_,rfl,?_⟩;refine bG (am (fun J=> ?_) (fun J=>a (.inr (.inl ⟨QE.1 m1,by omega⟩)) _ S));refine aN S 0 rfl (x:=nv.t) rfl ?_;refine(jO nv 8 (S.r 0 _ rfl)).mono ?_;rintro _ _ ⟨rfl,F⟩;refine⟨_,rfl,?_⟩;replace S:=S.fra0 F;refine bG (am (fun C=> ?_) (fun C=>absurd m1 C));have Y:cJ nv.kind→2≤ws.length∧ws.length≤4:=fun m=>by omega
   have Z: ¬cJ nv.kind→ws.length=1:=fun n=>absurd (QE.1 m1) n;clear C m1 J
  all_goals
   refine aN S 0 rfl (x:=nv.t) rfl ?_;refine(QG B (S.r 0 _ rfl) O).mono ?_;rintro _ _ ⟨rfl,F⟩;refine⟨_,rfl,?_⟩;replace S:=S.fra0 F;refine bG (am (fun k6=> ?_) (fun k6=>a (.inr (.inr (.inr (.inr (.inr k6))))) _ S));have o:1≤ws.length:=by
    by_cases m:cJ nv.kind
    ·have:=Y m;omega
    ·have:=Z m;omega
   have b: ¬(¬dF nv.nd.kind 1 12∨(cJ nv.nd.kind∧ ¬(2≤ws.length∧ws.length≤4))∨(¬cJ nv.nd.kind∧ws.length≠1)∨ ¬dF nv.nd.post 0 3∨(nv.nd.post≠0∧ ¬gY nv.nd.kind)∨ ¬nv.nd.else0):=by
    rw[ek,ep];rintro(h|h|h|h|h|h)
    ·exact h O
    ·exact h.2 (Y h.1)
    ·exact h.2 (Z h.1)
    ·exact h k4
    ·exact h.2 (k5 h.1)
    ·exact h k6
   have j:=S.row 2 rfl;obtain⟨G,H⟩:=j.some_of (by rw[av];omega);rw[H] at j;refine aB H (k:=0) rfl (by omega) (aN S 0 rfl (x:=nv.t) rfl ?_);have L:ws.getD 0 0=ws[0]:=cH o;refine ae (n:=ws.getD 0 0) (j.cell (i:=0) (aI (by rw[aO (by omega),L]))) ?_;have I:=M ws[0] (UU _);rw[←L] at I;refine(QH B (S.r 1 _ rfl) W V (S.r 0 _ rfl) I).mono ?_;rintro _ _ ⟨rfl,F⟩;refine⟨_,rfl,?_⟩;replace S:=S.fra0 F;exact bG (am (fun k7=>⟨rfl,S,q,b,fun h=>h k7,o⟩) (fun k7=>⟨by unfold Nd.chk;rw[if_neg q,if_neg b,if_pos k7],S.fra⟩))
theorem dc {n:Nd} {ws:List Int} (h:n.chk ws=0):bv 1 16 ws∧1≤ws.length∧ws.length=n.inn.length∧dF n.kind 1 12∧dF n.post 0 3∧(cJ n.kind→2≤ws.length∧ws.length≤4)∧(¬cJ n.kind→ws.length=1)∧(n.post≠0→gY n.kind)∧n.else0∧n.sized (ws.getD 0 0)∧(n.kind=7→ ∀x∈ws,x=ws.getD 0 0)∧(n.kind=8→hG ws≤16):=by
 unfold Nd.chk at h;split at h
 ·cases h
 rename_i d;split at h
 ·cases h
 rename_i a;split at h
 ·cases h
 rename_i j;split at h
 ·cases h
 rename_i l;split at h
 ·cases h
 rename_i o;have e:bv 1 16 ws:=Decidable.byContradiction fun h=>d (.inr h);have f:ws.length=n.inn.length:=Decidable.byContradiction fun h=>d (.inl h);have g:dF n.kind 1 12:=Decidable.byContradiction fun h=>a (.inl h);have i:dF n.post 0 3:=Decidable.byContradiction fun h=>a (.inr (.inr (.inr (.inl h))));have b:cJ n.kind→2≤ws.length∧ws.length≤4:=fun m=>Decidable.byContradiction fun h=>a (.inr (.inl ⟨m,h⟩));have c: ¬cJ n.kind→ws.length=1:=fun m=>Decidable.byContradiction fun h=>a (.inr (.inr (.inl ⟨m,h⟩)));refine⟨e,?_,f,g,i,b,c,fun p=>Decidable.byContradiction fun h=>a (.inr (.inr (.inr (.inr (.inl ⟨p,h⟩))))),Decidable.byContradiction fun h=>a (.inr (.inr (.inr (.inr (.inr h))))),Decidable.byContradiction j,
  fun k=>Decidable.byContradiction fun h=>l ⟨k,h⟩,fun k=>by omega⟩
 by_cases m:cJ n.kind
 ·have:=b m;omega
 ·have:=c m;omega
theorem O4 {nv:Nv} (C:nv.ok) (R:nv.rows.P h) (A:nv.inn.l<2 ^ 62) (B:nv.weights.l<2 ^ 62) (z:nv.bias.l<2 ^ 62) (L:KT h) {p:Option Addr} {l c:Nat} {ws:List Int} (T:bI h p (az ws)) (O:ws.length=l) (y:l<2 ^ 56):
 au P qY #[nv.v,.slice p l c] h fun v K=>v= .int .i64 (nv.nd.wid ws)∧cp no h K:=by
 refine CI _ _ _ _ ?_;unfold Ef;have S:=(((aJ.start h no).read (blk 0 (az bo)) L).read nv.rows R).read (row p (az ws)) T;refine aA (cs:=nv.cells) S fun J V _ S=> ?_;dsimp only[Xj,Xi] at S;have G:nv.nd.kind=nv.kind:=rfl;refine aN S 0 rfl (x:=nv.t) rfl ?_;refine(ER C (S.r 1 _ rfl) A B z (S.r 0 _ rfl) (S.row 2 rfl) O y).mono ?_;rintro _ _ ⟨rfl,F⟩;refine⟨_,rfl,?_⟩;replace S:=S.fra0 F;refine bh (fun j=>⟨by unfold Nd.wid;rw[if_pos j],S.fra⟩) (fun j=> ?_);have o: ¬nv.nd.chk ws≠0:=fun h=>h j;obtain⟨a,e,_⟩:=dc j;refine aN S 0 rfl (x:=nv.t) rfl ?_;refine(jO nv 2 (S.r 0 _ rfl)).mono ?_;rintro _ _ ⟨rfl,F⟩;refine⟨_,rfl,?_⟩;replace S:=S.fra0 F;refine am (fun q=>ae (n:=nv.width) (S.cell 0 rfl rfl) ⟨by unfold Nd.wid;rw[if_neg o,if_pos (by rw[G];exact O1.1 q)];rfl,S.fra⟩) (fun q=> ?_);have E: ¬wide nv.nd.kind:=fun h=>q (O1.2 h);refine ae (n:=nv.kind) (S.cell 0 rfl rfl) (aH (fun u=>⟨by unfold Nd.wid;rw[if_neg o,if_neg E,if_pos (by rw[G];exact u)],S.fra⟩) (fun u=> ?_));have H: ¬nv.nd.kind=11:=u;have f:=S.row 2 rfl;refine ae (n:=nv.kind) (S.cell 0 rfl rfl) (aH (fun w=> ?_) (fun w=> ?_))
 ·refine aP (fun m s g=> ∃i:Nat,s=(hG (ws.take i),(p,l,c),(l:Int),(i:Int),())∧i≤l∧m=l-i∧aJ h no g [blk J nv.cells] [blk 0 (az bo),nv.rows,row p (az ws)]) l ⟨0,rfl,by omega,rfl,S⟩ ?_;rintro m s g ⟨i,rfl,N,rfl,S⟩;unfold uV;dsimp only;refine am (fun Q=> ?_) (fun M=> ?_)
  ·have d:i<ws.length:=by omega
   have f:=S.row 2 rfl;obtain⟨I,rfl⟩:=f.some_of (by rw[av];omega);refine aB rfl rfl (by omega) ?_;simp only[oe,US];refine ae (f.cell (aI (aO d))) ?_;have D:=jK (pJ i a);rw[U0] at D;have U:=a ws[i] (UU d);rw[al (n:=hG (ws.take i)+ws[i]) (by omega),al (n:=(i:Int)+1) (by omega),←pI d];exact⟨l-(i+1),by omega,i+1,rfl,by omega,rfl,S⟩
  ·rw[N6 (by omega)];have b: ¬nv.nd.kind≠8:=fun h=>h w;exact⟨by unfold Nd.wid;rw[if_neg o,if_neg E,if_neg H,if_neg b],S.fra⟩
 ·obtain⟨I,rfl⟩:=f.some_of (by rw[av];omega);refine aB rfl (k:=0) rfl (by omega) ?_;refine ae (n:=ws.getD 0 0) (f.cell (i:=0) (aI (by rw[aO (by omega),cH e]))) ⟨?_,S.fra⟩;have b:nv.nd.kind≠8:=w;unfold Nd.wid;rw[if_neg o,if_neg E,if_neg H,if_pos b]
end
end
end Go.Proofs.YtdhpmegbmjoekaaGreatDoor.G

