/- CKind14 CKind14b CKind14c CKind14d, in one text. -/
import Derived.Test.YtdhpmegbmjoekaaGreatDoorCNode
set_option linter.unusedVariables false
set_option linter.unusedSimpArgs false
namespace Go.Proofs.YtdhpmegbmjoekaaGreatDoor.G
open Go Go.Sh
section
abbrev dA (k:Int):Prop:=k=1∨k=2∨k=3∨k=4
abbrev dW (k:Int):Prop:=dA k∨k=12
abbrev gY (k:Int):Prop:=k=1∨k=2∨k=6
abbrev cJ (k:Int):Prop:=k=7∨k=8
abbrev wide (k:Int):Prop:=k=1∨k=6
abbrev dF (x lo hi:Int):Prop:=lo≤x∧x≤hi
abbrev IA (k post:Int):Prop:=k=10∨cn .i64 post 1=1
abbrev Ks (k post:Int):Prop:=k=9∨cn .i64 post 2=2
def Bn (k size gap:Int):Int:=if k=12 then size else if dA k then(size-1)*gap+1 else 1
def Nd.span (n:Nd):Int:=Bn n.kind n.size n.gap
def cE (k step:Int):Int:=if dA k then step else 1
def Nd.else0 (n:Nd):Prop:=
 (¬dA n.kind→n.step=0∧n.gap=0∧n.left=0∧n.right=0)∧(¬dA n.kind∧n.kind≠12→n.size=0)∧(¬wide n.kind→n.width=0)∧(¬gY n.kind→n.weights.length=0∧n.bias.length=0)∧
  (IA n.kind n.post∨(n.mult=0∧n.shift=0))∧(Ks n.kind n.post∨(n.low=0∧n.high=0))
instance (n:Nd):Decidable n.else0:=by unfold Nd.else0;infer_instance
def Nd.wcount (n:Nd) (w:Int):Int:=if n.kind=1 then n.width*n.size*w else if n.kind=2 then w*n.size else n.width*w
def Nd.sized (n:Nd) (w:Int):Prop:=
 (dW n.kind→dF n.size 1 8)∧(dA n.kind→dF n.step 1 4∧dF n.gap 1 4∧(0≤n.left∧n.left<n.span)∧(0≤n.right∧n.right<n.span))∧(wide n.kind→dF n.width 1 16)∧
  (gY n.kind→(n.weights.length:Int)=n.wcount w∧(n.bias.length:Int)=(if n.kind=2 then w else n.width)∧bv (-128) 127 n.weights∧bv (-16777216) 16777216 n.bias)∧
  (dF n.mult 0 32767∧dF n.shift 0 30∧dF n.low gz gH∧dF n.high gz gH∧n.low≤n.high)
instance (n:Nd) (w:Int):Decidable (n.sized w):=by unfold Nd.sized;infer_instance
def hG:List Int→Int
 |[]=>0
 |x::r=>x+hG r
def Nd.chk (n:Nd) (ws:List Int):Int:=
 if ws.length≠n.inn.length∨ ¬bv 1 16 ws then 1
 else if ¬dF n.kind 1 12∨(cJ n.kind∧ ¬(2≤ws.length∧ws.length≤4))∨(¬cJ n.kind∧ws.length≠1)∨ ¬dF n.post 0 3∨(n.post≠0∧ ¬gY n.kind)∨ ¬n.else0 then 12
 else if ¬n.sized (ws.getD 0 0) then 22
 else if n.kind=7∧ ¬(∀x∈ws,x=ws.getD 0 0) then 14
 else if n.kind=8∧hG ws>16 then 14 else 0
def Nd.wid (n:Nd) (ws:List Int):Int:=
 if n.chk ws≠0 then 0 else if wide n.kind then n.width else if n.kind=11 then 1 else if n.kind≠8 then ws.getD 0 0 else hG ws
theorem pI {xs:List Int} {i:Nat} (hi:i<xs.length):hG (xs.take (i+1))=hG (xs.take i)+xs[i]:=by
 rw[py hi];have: ∀(a:List Int) (x:Int),hG (a++[x])=hG a+x:=by
  intro a x
  induction a with
  |nil=>simp[hG]
  |cons y r b=>simp only[Xi,hG,b];omega
 exact this _ _
theorem jK: ∀{xs:List Int},bv 1 16 xs→0≤hG xs∧hG xs≤16*xs.length
 |[],_=>by simp[hG]
 |x::r,h=>by
  rw[dj] at h;have:=jK h.2;simp only[hG,UY];omega
theorem pJ {lo hi:Int} {xs:List Int} (i:Nat) (h:bv lo hi xs):bv lo hi (xs.take i):=fun x a=>h x (VX a)
section
variable {h:af}
theorem gM (k:Int):au P dr #[.int .i64 k] h fun v a=>v= .bool (decide (dW k))∧a=h:=by
 refine xK _ ?_;unfold wG
 repeat' (first|(first|refine am (fun _=> ?_) (fun _=> ?_)|refine aH (fun _=> ?_) (fun _=> ?_)|refine bh (fun _=> ?_) (fun _=> ?_)|refine bG ?_)|refine And.intro ?_ rfl)
 all_goals first
  |(congr 1;symm;rw[decide_eq_true_iff];omega)
  |(congr 1;rw[VQ,decide_eq_true_iff,beq_iff_eq];omega)
theorem pK (k:Int):au P gT #[.int .i64 k] h fun v a=>v= .bool (decide (dA k))∧a=h:=by
 refine Cb _ ?_;unfold Ds
 repeat' (first|(first|refine am (fun _=> ?_) (fun _=> ?_)|refine aH (fun _=> ?_) (fun _=> ?_)|refine bh (fun _=> ?_) (fun _=> ?_)|refine bG ?_)|refine And.intro ?_ rfl)
 all_goals first
  |(congr 1;symm;rw[decide_eq_true_iff];omega)
  |(congr 1;rw[VQ,decide_eq_true_iff,beq_iff_eq];omega)
theorem tO (k:Int):au P iR #[.int .i64 k] h fun v a=>v= .bool (decide (gY k))∧a=h:=by
 refine yO _ ?_;unfold yN
 repeat' (first|(first|refine am (fun _=> ?_) (fun _=> ?_)|refine aH (fun _=> ?_) (fun _=> ?_)|refine bh (fun _=> ?_) (fun _=> ?_)|refine bG ?_)|refine And.intro ?_ rfl)
 all_goals first
  |(congr 1;symm;rw[decide_eq_true_iff];omega)
  |(congr 1;rw[VQ,decide_eq_true_iff,beq_iff_eq];omega)
theorem Gg (k:Int):au P mz #[.int .i64 k] h fun v a=>v= .bool (decide (cJ k))∧a=h:=by
 refine Ca _ ?_;unfold Dr
 repeat' (first|(first|refine am (fun _=> ?_) (fun _=> ?_)|refine aH (fun _=> ?_) (fun _=> ?_)|refine bh (fun _=> ?_) (fun _=> ?_)|refine bG ?_)|refine And.intro ?_ rfl)
 all_goals first
  |(congr 1;symm;rw[decide_eq_true_iff];omega)
  |(congr 1;rw[VQ,decide_eq_true_iff,beq_iff_eq];omega)
theorem mr (x lo hi:Int):au P fF #[.int .i64 x,.int .i64 lo,.int .i64 hi] h fun v a=>v= .bool (decide (dF x lo hi))∧a=h:=by
 refine FO _ _ _ ?_;unfold IM;refine am (fun b=>⟨?_,rfl⟩) (fun b=>⟨?_,rfl⟩)
 ·congr 1;rw[decide_eq_decide];omega
 ·rw[decide_eq_false (by omega)]
theorem Dj {p:Option Addr} {l c:Nat} {xs:List Int} (f:bI h p (az xs)) (x:xs.length=l) (r:l<2 ^ 62) (lo hi:Int):
 au P lz #[.slice p l c,.int .i64 lo,.int .i64 hi] h fun v j=>v= .bool (decide (bv lo hi xs))∧j=h:=by
 refine Dq _ _ _ _ _ ?_;unfold Gm;refine aP (fun m s g=>g=h∧ ∃i:Nat,s=((p,l,c),lo,hi,(i:Int),())∧i≤l∧m=l-i∧bv lo hi (xs.take i)) l ⟨rfl,0,rfl,by omega,rfl,by rw[Wf];exact dO _ _⟩ ?_;rintro m s g ⟨rfl,i,rfl,q,rfl,d⟩;unfold yM;dsimp only;refine am (fun t=> ?_) (fun o=> ?_)
 ·have a:i<xs.length:=by omega
  obtain⟨w,rfl⟩:=f.some_of (by rw[av];omega);have e:=f.cell (aI (aO a));have b: ¬(lo≤xs[i]∧xs[i]≤hi)→Value.bool false= .bool (decide (bv lo hi xs))∧g=g:=fun u=>⟨by rw[decide_eq_false (fun h=>u (h _ (UU a)))],rfl⟩;refine aB rfl rfl (by omega) ?_;simp only[oe,US];refine ae e (am (fun k=>⟨(b (by omega)).1,by trivial⟩) fun k=>aB rfl rfl (by omega) ?_);refine ae e (am (fun n=>⟨(b (by omega)).1,by trivial⟩) fun n=> ?_);rw[al (by omega)];exact⟨l-(i+1),by omega,by trivial,i+1,rfl,by omega,rfl,(iJ a).2 ⟨d,by omega,by omega⟩⟩
 ·rw[N6 (by omega)] at d;exact⟨by rw[decide_eq_true d],by trivial⟩
theorem pL (nv:Nv) (l: -2 ^ 20≤nv.size∧nv.size≤2 ^ 20) (k: -2 ^ 20≤nv.gap∧nv.gap≤2 ^ 20):au P gS #[nv.v] h fun v d=>v= .int .i64 nv.nd.span∧cp no h d:=by
 refine B8 _ ?_;unfold Do;have S:=aJ.start h no;refine aA (cs:=nv.cells) S fun i a _ S=> ?_
 (repeat (first|((with_reducible refine aV ?_);refine ae (S.cell 0 rfl rfl) ?_)));dsimp only[Nv.t];have e:nv.nd.span=if nv.kind=12 then nv.size else if dA nv.kind then(nv.size-1)*nv.gap+1 else 1:=rfl
 rw[e];refine aH (fun a=> ?_) (fun a=> ?_)
 ·(repeat (first|((with_reducible refine aV ?_);refine ae (S.cell 0 rfl rfl) ?_)));rw[if_pos a];exact⟨rfl,S.fra⟩
 ·(repeat (first|((with_reducible refine aV ?_);refine ae (S.cell 0 rfl rfl) ?_)));dsimp only[Nv.t];refine(gM nv.kind).mono ?_;rintro _ _ ⟨rfl,rfl⟩;refine⟨_,rfl,?_⟩;rw[if_neg a];refine bG (am (fun f=> ?_) (fun f=> ?_))
  ·(repeat (first|((with_reducible refine aV ?_);refine ae (S.cell 0 rfl rfl) ?_)));dsimp only[Nv.t];rw[if_pos (by omega)];have j: -2 ^ 42≤(nv.size-1)*nv.gap∧(nv.size-1)*nv.gap≤2 ^ 42:=by
    have b:(nv.size-1).natAbs≤2 ^ 21:=by omega
    have c:nv.gap.natAbs≤2 ^ 20:=by omega
    have g:((nv.size-1)*nv.gap).natAbs≤2 ^ 21*2 ^ 20:=by rw[Int.natAbs_mul];exact Nat.mul_le_mul b c
    omega
   rw[al (n:=nv.size-1) (by omega),al (n:=(nv.size-1)*nv.gap) (by omega),al (by omega)];exact⟨rfl,S.fra⟩
  ·rw[if_neg (by omega)];exact⟨rfl,S.fra⟩
theorem vA (nv:Nv):au P dT #[nv.v] h fun v b=>v= .int .i64 (cE nv.kind nv.step)∧cp no h b:=by
 refine Cc _ ?_;unfold Dt;have S:=aJ.start h no;refine aA (cs:=nv.cells) S fun c d _ S=> ?_
 (repeat (first|((with_reducible refine aV ?_);refine ae (S.cell 0 rfl rfl) ?_)));dsimp only[Nv.t];refine(pK nv.kind).mono ?_;rintro _ _ ⟨rfl,rfl⟩;refine⟨_,rfl,?_⟩;unfold cE;refine am (fun a=> ?_) (fun a=> ?_)
 ·(repeat (first|((with_reducible refine aV ?_);refine ae (S.cell 0 rfl rfl) ?_)));rw[if_pos a];exact⟨rfl,S.fra⟩
 ·rw[if_neg a];exact⟨rfl,S.fra⟩
theorem j4 {a b:Int} {x y:Nat} (d:0≤a∧a≤x) (c:0≤b∧b≤y):0≤a*b∧a*b≤((x*y:Nat):Int):=by
 refine⟨Vw d.1 c.1,?_⟩;have:=Vv d.2 c.2 c.1 (by omega);simpa using this
theorem HH (nv:Nv) {w:Int} (i:0≤w∧w≤16) (c:nv.kind≠2→0≤nv.width∧nv.width≤16) (b:nv.kind=1∨nv.kind=2→0≤nv.size∧nv.size≤8):au P lY #[nv.v,.int .i64 w] h fun v j=>v= .int .i64 (nv.nd.wcount w)∧cp no h j:=by
 refine xM _ _ ?_;unfold wJ;have S:=aJ.start h no;refine aA (cs:=nv.cells) S fun g l _ S=> ?_
 (repeat (first|((with_reducible refine aV ?_);refine ae (S.cell 0 rfl rfl) ?_)));dsimp only[Nv.t];have e:nv.nd.wcount w=if nv.kind=1 then nv.width*nv.size*w else if nv.kind=2 then w*nv.size else nv.width*w:=rfl
 rw[e];refine aH (fun f=> ?_) (fun f=> ?_)
 ·(repeat (first|((with_reducible refine aV ?_);refine ae (S.cell 0 rfl rfl) ?_)));dsimp only[Nv.t];have g:=j4 (x:=16) (y:=8) (c (by omega)) (b (.inl f));have k:=j4 (x:=128) (y:=16) (a:=nv.width*nv.size) (by omega) i;rw[al (n:=nv.width*nv.size) (by omega),al (by omega),if_pos f];exact⟨rfl,S.fra⟩
 ·(repeat (first|((with_reducible refine aV ?_);refine ae (S.cell 0 rfl rfl) ?_)));dsimp only[Nv.t];rw[if_neg f];refine aH (fun d=> ?_) (fun d=> ?_)
  ·(repeat (first|((with_reducible refine aV ?_);refine ae (S.cell 0 rfl rfl) ?_)));dsimp only[Nv.t];have g:=j4 (x:=16) (y:=8) i (b (.inr d));rw[al (by omega),if_pos d];exact⟨rfl,S.fra⟩
  ·(repeat (first|((with_reducible refine aV ?_);refine ae (S.cell 0 rfl rfl) ?_)));dsimp only[Nv.t];have g:=j4 (x:=16) (y:=16) (c d) i;rw[al (by omega),if_neg d];exact⟨rfl,S.fra⟩
end
end
section
theorem Ak (nv:Nv):nv.nd.else0↔((¬dA nv.kind→nv.step=0∧nv.gap=0∧nv.left=0∧nv.right=0)∧(¬dA nv.kind∧nv.kind≠12→nv.size=0)∧(¬wide nv.kind→nv.width=0)∧(¬gY nv.kind→nv.weights.xs.length=0∧nv.bias.xs.length=0)∧
 (IA nv.kind nv.post∨(nv.mult=0∧nv.shift=0))∧(Ks nv.kind nv.post∨(nv.low=0∧nv.high=0))):=Iff.rfl
theorem vB (nv:Nv) (w:Int):nv.nd.sized w↔((dW nv.kind→dF nv.size 1 8)∧(dA nv.kind→dF nv.step 1 4∧dF nv.gap 1 4∧(0≤nv.left∧nv.left<nv.nd.span)∧(0≤nv.right∧nv.right<nv.nd.span))∧(wide nv.kind→dF nv.width 1 16)∧
 (gY nv.kind→(nv.weights.xs.length:Int)=nv.nd.wcount w∧(nv.bias.xs.length:Int)=(if nv.kind=2 then w else nv.width)∧bv (-128) 127 nv.weights.xs∧bv (-16777216) 16777216 nv.bias.xs)∧
 (dF nv.mult 0 32767∧dF nv.shift 0 30∧dF nv.low gz gH∧dF nv.high gz gH∧nv.low≤nv.high)):=Iff.rfl
section
variable {h:af}
theorem IK {nv:Nv} (u:nv.ok):au P pg #[nv.v] h fun v O=>v= .bool (decide nv.nd.else0)∧cp no h O:=by
 refine Ao _ ?_;unfold Bq;have U:=u.2.1.1;have T:=u.2.2.1;have S:=aJ.start h no;refine aA (cs:=nv.cells) S fun a y _ S=> ?_;dsimp only[Xj] at S;have e: ∀g,aJ h no g [blk a nv.cells] []→ ¬nv.nd.else0→Value.bool false= .bool (decide nv.nd.else0)∧cp no h g:=fun g S R=>⟨by rw[decide_eq_false R],S.fra⟩;have d:=Ak nv
 (repeat (first|((with_reducible refine aV ?_);refine ae (S.cell 0 rfl rfl) ?_)));dsimp only[Nv.t];refine(pK nv.kind).mono ?_;rintro _ _ ⟨rfl,rfl⟩;refine⟨_,rfl,?_⟩
 (repeat (first|((with_reducible refine aV ?_);refine ae (S.cell 0 rfl rfl) ?_)));dsimp only[Nv.t];refine(tO nv.kind).mono ?_;rintro _ _ ⟨rfl,rfl⟩;refine⟨_,rfl,?_⟩;refine⟨fun s g=>s=(⟨a,0,none⟩,decide (dA nv.kind),decide (gY nv.kind),decide (wide nv.kind),())∧aJ h no g [blk a nv.cells] [],?_,?_⟩
 ·rintro s g ⟨rfl,S⟩;unfold ub;dsimp only;refine⟨fun s g=>s=(⟨a,0,none⟩,decide (dA nv.kind),decide (gY nv.kind),decide (wide nv.kind),decide (IA nv.kind nv.post),())∧aJ h no g [blk a nv.cells] [],?_,?_⟩
  ·rintro s g ⟨rfl,S⟩;unfold ua;dsimp only;refine⟨fun s g=>s=(⟨a,0,none⟩,decide (dA nv.kind),decide (gY nv.kind),decide (wide nv.kind),decide (IA nv.kind nv.post),decide (Ks nv.kind nv.post),())∧aJ h no g [blk a nv.cells] [],?_,?_⟩
   ·rintro s g ⟨rfl,S⟩;unfold tZ;dsimp only;refine⟨fun s g=>s=(⟨a,0,none⟩,decide (dA nv.kind),decide (gY nv.kind),decide (wide nv.kind),decide (IA nv.kind nv.post),decide (Ks nv.kind nv.post),())∧aJ h no g [blk a nv.cells] []∧(¬dA nv.kind→nv.step=0∧nv.gap=0∧nv.left=0∧nv.right=0),?_,?_⟩
    ·rintro s g ⟨rfl,S,L⟩;unfold tY;dsimp only;refine⟨fun s g=>s=(⟨a,0,none⟩,decide (gY nv.kind),decide (IA nv.kind nv.post),decide (Ks nv.kind nv.post),())∧aJ h no g [blk a nv.cells] []∧(¬dA nv.kind∧nv.kind≠12→nv.size=0)∧(¬wide nv.kind→nv.width=0),?_,?_⟩
     ·rintro s g ⟨rfl,S,x,M⟩;unfold sB;dsimp only;refine⟨fun s g=>s=(⟨a,0,none⟩,decide (IA nv.kind nv.post),decide (Ks nv.kind nv.post),())∧aJ h no g [blk a nv.cells] []∧(¬gY nv.kind→nv.weights.xs.length=0∧nv.bias.xs.length=0),?_,?_⟩
      ·rintro s g ⟨rfl,S,N⟩;unfold sA;dsimp only;have f:(IA nv.kind nv.post∨(nv.mult=0∧nv.shift=0))→ ∀b,b=decide (Ks nv.kind nv.post∨(nv.low=0∧nv.high=0))→Value.bool b= .bool (decide nv.nd.else0)∧cp no h g:=by
        intro y b Q;refine⟨?_,S.fra⟩;congr 1;rw[Q,decide_eq_decide,d];exact⟨fun r=>⟨L,x,M,N,y,r⟩,fun r=>r.2.2.2.2.2⟩
       have j: ¬(IA nv.kind nv.post∨(nv.mult=0∧nv.shift=0))→Value.bool false= .bool (decide nv.nd.else0)∧cp no h g:=fun y=>e g S fun r=>y (d.1 r).2.2.2.2.1;have B:aD g (Addr.add ⟨a,0,none⟩ 10)=some (.int .i64 nv.mult):=S.cell 0 rfl rfl;have C:aD g (Addr.add ⟨a,0,none⟩ 11)=some (.int .i64 nv.shift):=S.cell 0 rfl rfl;have p:aD g (Addr.add ⟨a,0,none⟩ 12)=some (.int .i64 nv.low):=S.cell 0 rfl rfl;have q:aD g (Addr.add ⟨a,0,none⟩ 13)=some (.int .i64 nv.high):=S.cell 0 rfl rfl;refine am (fun A=>am (fun D=>f (.inl A) _ ?_) fun D=>ae p (aH (fun c=>ae q (f (.inl A) _ ?_)) fun c=>f (.inl A) _ ?_)) fun A=>ae B (aH (fun l=>ae C (aH (fun m=>am (fun D=>f (.inr ⟨l,m⟩) _ ?_) fun D=>ae p (aH (fun c=>ae q (f (.inr ⟨l,m⟩) _ ?_)) fun c=>f (.inr ⟨l,m⟩) _ ?_)) fun m=>j (by omega))) fun l=>j (by omega))
       all_goals first
        |(symm;rw[decide_eq_true_iff];omega)
        |(symm;rw[decide_eq_false_iff_not];omega)
        |(rw[VQ,decide_eq_true_iff,beq_iff_eq];omega)
      ·refine bG (am (fun w=>⟨rfl,S,fun h=>absurd w h⟩) fun w=> ?_)
       (repeat (first|((with_reducible refine cg ?_);refine ak (S.cell 0 rfl rfl) ?_)));dsimp only[Nv.t];refine am (fun c=>e _ S (by rw[d];omega)) fun c=> ?_
       (repeat (first|((with_reducible refine cg ?_);refine ak (S.cell 0 rfl rfl) ?_)));dsimp only[Nv.t];exact am (fun n=>e _ S (by rw[d];omega)) fun n=>⟨rfl,S,fun _=>by omega⟩
     ·have F:aD g (Addr.add ⟨a,0,none⟩ 2)=some (.int .i64 nv.width):=S.cell 0 rfl rfl;have G:aD g (Addr.add ⟨a,0,none⟩ 3)=some (.int .i64 nv.size):=S.cell 0 rfl rfl;have o:aD g ⟨a,0,none⟩=some (.int .i64 nv.kind):=S.cell 0 rfl rfl
      have i:(¬dA nv.kind∧nv.kind≠12→nv.size=0)→aG (!decide (wide nv.kind)) (ah .i64 g (Addr.add ⟨a,0,none⟩ 2) fun E=>aG (E !=0) (Value.bool false= .bool (decide nv.nd.else0)∧cp no h g)
       ((((⟨a,0,none⟩:Addr),decide (gY nv.kind),decide (IA nv.kind nv.post),decide (Ks nv.kind nv.post),()):Addr×Bool×Bool×Bool×Unit)=(⟨a,0,none⟩,decide (gY nv.kind),decide (IA nv.kind nv.post),decide (Ks nv.kind nv.post),())∧aJ h no g [blk a nv.cells] []∧(¬dA nv.kind∧nv.kind≠12→nv.size=0)∧(¬wide nv.kind→nv.width=0)))
       ((((⟨a,0,none⟩:Addr),decide (gY nv.kind),decide (IA nv.kind nv.post),decide (Ks nv.kind nv.post),()):Addr×Bool×Bool×Bool×Unit)=(⟨a,0,none⟩,decide (gY nv.kind),decide (IA nv.kind nv.post),decide (Ks nv.kind nv.post),())∧aJ h no g [blk a nv.cells] []∧(¬dA nv.kind∧nv.kind≠12→nv.size=0)∧(¬wide nv.kind→nv.width=0)):=by
       intro x;refine bG (am (fun w=>⟨rfl,S,x,fun h=>absurd w h⟩) fun w=>ae F (bh (fun c=>e _ S (by rw[d];omega)) fun c=>⟨rfl,S,x,fun _=>c⟩))
      refine bG (am (fun z=>i (by omega)) fun z=>ae o (bh (fun c=>ae G (bh (fun n=>e _ S (by rw[d];omega)) fun n=>i (by omega))) fun c=>i (by omega)))
    ·have H:aD g (Addr.add ⟨a,0,none⟩ 4)=some (.int .i64 nv.step):=S.cell 0 rfl rfl;have I:aD g (Addr.add ⟨a,0,none⟩ 5)=some (.int .i64 nv.gap):=S.cell 0 rfl rfl;have J:aD g (Addr.add ⟨a,0,none⟩ 6)=some (.int .i64 nv.left):=S.cell 0 rfl rfl;have K:aD g (Addr.add ⟨a,0,none⟩ 7)=some (.int .i64 nv.right):=S.cell 0 rfl rfl
     refine bG (am (fun z=>⟨rfl,S,fun h=>absurd z h⟩) fun z=>ae H (bh (fun c=>e _ S (by rw[d];omega)) fun c=>ae I (bh (fun n=>e _ S (by rw[d];omega)) fun n=>ae J (bh (fun l=>e _ S (by rw[d];omega)) fun l=>
      ae K (bh (fun m=>e _ S (by rw[d];omega)) fun m=>⟨rfl,S,fun _=>⟨c,n,l,m⟩⟩)))))
   ·have o:aD g ⟨a,0,none⟩=some (.int .i64 nv.kind):=S.cell 0 rfl rfl;have k:aD g (Addr.add ⟨a,0,none⟩ 14)=some (.int .i64 nv.post):=S.cell 0 rfl rfl;refine ae o (aH (fun c=>⟨?_,S⟩) fun c=>ae k ⟨?_,S⟩)
    ·rw[decide_eq_true (show Ks nv.kind nv.post from .inl c)]
    ·have:decide (Ks nv.kind nv.post)=(cn .i64 nv.post 2==2):=by rw[VQ,decide_eq_true_iff,beq_iff_eq];omega
     rw[this]
  ·have o:aD g ⟨a,0,none⟩=some (.int .i64 nv.kind):=S.cell 0 rfl rfl;have k:aD g (Addr.add ⟨a,0,none⟩ 14)=some (.int .i64 nv.post):=S.cell 0 rfl rfl;refine ae o (aH (fun c=>⟨?_,S⟩) fun c=>ae k ⟨?_,S⟩)
   ·rw[decide_eq_true (show IA nv.kind nv.post from .inl c)]
   ·have:decide (IA nv.kind nv.post)=(cn .i64 nv.post 1==1):=by rw[VQ,decide_eq_true_iff,beq_iff_eq];omega
    rw[this]
 ·(repeat (first|((with_reducible refine aV ?_);refine ae (S.cell 0 rfl rfl) ?_)));dsimp only[Nv.t];refine aH (fun c=>⟨?_,S⟩) fun c=> ?_
  ·rw[decide_eq_true (show wide nv.kind from .inl c)]
  ·(repeat (first|((with_reducible refine aV ?_);refine ae (S.cell 0 rfl rfl) ?_)));dsimp only[Nv.t];have:decide (wide nv.kind)=(nv.kind==6):=by rw[VQ,decide_eq_true_iff,beq_iff_eq];omega
   rw[this];exact⟨rfl,S⟩
end
end
section
section
variable {h:af}
set_option maxHeartbeats 1000000 in
theorem Kt {nv:Nv} (r:nv.ok) (M:nv.rows.P h) (y:nv.weights.l<2 ^ 62) (x:nv.bias.l<2 ^ 62) {w:Int} (N:0≤w∧w≤16):au P ph #[nv.v,.int .i64 w] h fun v H=>v= .bool (decide (nv.nd.sized w))∧cp no h H:=by
 refine Ap _ _ ?_;unfold Br;have Q:=r.2.1.1;have O:=r.2.2.1;have S:=(aJ.start h no).read nv.rows M;refine aA (cs:=nv.cells) S fun i A _ S=> ?_;dsimp only[Xj] at S;have c: ∀g,aJ h no g [blk i nv.cells] [nv.rows]→ ¬nv.nd.sized w→Value.bool false= .bool (decide (nv.nd.sized w))∧cp no h g:=fun g S L=>⟨by rw[decide_eq_false L],S.fra⟩;have a:=vB nv w;have K:gz= -2147483648:=rfl;have J:gH=2147483647:=rfl
 (repeat (first|((with_reducible refine aV ?_);refine ae (S.cell 0 rfl rfl) ?_)))
 try dsimp only[Nv.t]
 refine(pK nv.kind).mono ?_;rintro _ _ ⟨rfl,rfl⟩;refine⟨_,rfl,?_⟩
 (repeat (first|((with_reducible refine aV ?_);refine ae (S.cell 0 rfl rfl) ?_)))
 try dsimp only[Nv.t]
 refine(tO nv.kind).mono ?_;rintro _ _ ⟨rfl,rfl⟩;refine⟨_,rfl,?_⟩
 (repeat (first|((with_reducible refine aV ?_);refine ae (S.cell 0 rfl rfl) ?_)))
 try dsimp only[Nv.t]
 refine(mr nv.size 1 8).mono ?_;rintro _ _ ⟨rfl,rfl⟩;refine⟨_,rfl,?_⟩;refine⟨fun s g=>s=(w,⟨i,0,none⟩,decide (dA nv.kind),decide (gY nv.kind),())∧aJ h no g [blk i nv.cells] [nv.rows]∧(dW nv.kind→dF nv.size 1 8),?_,?_⟩
 ·rintro s g ⟨rfl,S,z⟩;unfold uc;dsimp only
  (repeat (first|((with_reducible refine aV ?_);refine ae (S.cell 0 rfl rfl) ?_)))
  try dsimp only[Nv.t]
  refine(mr nv.step 1 4).mono ?_;rintro _ _ ⟨rfl,rfl⟩;refine⟨_,rfl,?_⟩
  (repeat (first|((with_reducible refine aV ?_);refine ae (S.cell 0 rfl rfl) ?_)))
  try dsimp only[Nv.t]
  refine(mr nv.gap 1 4).mono ?_;rintro _ _ ⟨rfl,rfl⟩;refine⟨_,rfl,?_⟩;refine⟨fun s g=>s=(w,⟨i,0,none⟩,decide (dA nv.kind),decide (gY nv.kind),())∧aJ h no g [blk i nv.cells] [nv.rows]∧(dA nv.kind→dF nv.step 1 4∧dF nv.gap 1 4),?_,?_⟩
  ·rintro s g ⟨rfl,S,u⟩;unfold sG;dsimp only;refine⟨fun s g=>s=(w,⟨i,0,none⟩,decide (gY nv.kind),())∧aJ h no g [blk i nv.cells] [nv.rows]∧(dA nv.kind→(0≤nv.left∧nv.left<nv.nd.span)∧(0≤nv.right∧nv.right<nv.nd.span)),?_,?_⟩
   ·rintro s g ⟨rfl,S,D⟩;unfold sF;dsimp only
    (repeat (first|((with_reducible refine aV ?_);refine ae (S.cell 0 rfl rfl) ?_)))
    try dsimp only[Nv.t]
    refine(mr nv.width 1 16).mono ?_;rintro _ _ ⟨rfl,rfl⟩;refine⟨_,rfl,?_⟩;refine⟨fun s g=>s=(w,⟨i,0,none⟩,decide (gY nv.kind),())∧aJ h no g [blk i nv.cells] [nv.rows]∧(wide nv.kind→dF nv.width 1 16),?_,?_⟩
    ·rintro s g ⟨rfl,S,E⟩;unfold sE;dsimp only;refine⟨fun s g=>s=(⟨i,0,none⟩,())∧aJ h no g [blk i nv.cells] [nv.rows]∧(gY nv.kind→(nv.weights.xs.length:Int)=nv.nd.wcount w∧(nv.bias.xs.length:Int)=(if nv.kind=2 then w else nv.width)∧bv (-128) 127 nv.weights.xs∧bv (-16777216) 16777216 nv.bias.xs),?_,?_⟩
     ·rintro s g ⟨rfl,S,G⟩;unfold sC;dsimp only;have j: ∀b,b=decide (dF nv.mult 0 32767∧dF nv.shift 0 30∧dF nv.low gz gH∧dF nv.high gz gH∧nv.low≤nv.high)→Value.bool b= .bool (decide (nv.nd.sized w))∧cp no h g:=by
       intro b I;refine⟨?_,S.fra⟩;congr 1;rw[I,decide_eq_decide,a];exact⟨fun o=>⟨z,fun h=>⟨(u h).1,(u h).2,D h⟩,E,G,o⟩,fun o=>o.2.2.2.2⟩
      (repeat (first|((with_reducible refine aV ?_);refine ae (S.cell 0 rfl rfl) ?_)))
      try dsimp only[Nv.t]
      refine(mr nv.mult 0 32767).mono ?_;rintro _ _ ⟨rfl,rfl⟩;refine⟨_,rfl,?_⟩
      (repeat (first|((with_reducible refine aV ?_);refine ae (S.cell 0 rfl rfl) ?_)))
      try dsimp only[Nv.t]
      refine(mr nv.shift 0 30).mono ?_;rintro _ _ ⟨rfl,rfl⟩;refine⟨_,rfl,?_⟩
      (repeat (first|((with_reducible refine aV ?_);refine ae (S.cell 0 rfl rfl) ?_)))
      try dsimp only[Nv.t]
      refine(mr nv.low (-2147483648) 2147483647).mono ?_;rintro _ _ ⟨rfl,rfl⟩;refine⟨_,rfl,?_⟩
      (repeat (first|((with_reducible refine aV ?_);refine ae (S.cell 0 rfl rfl) ?_)))
      try dsimp only[Nv.t]
      refine(mr nv.high (-2147483648) 2147483647).mono ?_;rintro _ _ ⟨rfl,rfl⟩;refine⟨_,rfl,?_⟩;refine am (fun A=>am (fun o=>am (fun d=>am (fun e=> ?_) fun e=>j _ ?_) fun d=>j _ ?_) fun o=>j _ ?_) fun A=>j _ ?_
      ·(repeat (first|((with_reducible refine aV ?_);refine ae (S.cell 0 rfl rfl) ?_)))
       try dsimp only[Nv.t]
       exact j _ (VQ.2 ⟨fun h=>decide_eq_true (by have:=of_decide_eq_true h;omega),fun h=>decide_eq_true (by have:=of_decide_eq_true h;omega)⟩)
      all_goals (symm;rw[decide_eq_false_iff_not];omega)
     ·refine am (fun n=> ?_) (fun n=>⟨rfl,S,fun h=>absurd h n⟩)
      (repeat (first|((with_reducible refine aV ?_);refine ae (S.cell 0 rfl rfl) ?_)))
      try dsimp only[Nv.t]
      refine⟨fun s g=>s=(w,⟨i,0,none⟩,(if nv.kind=2 then w else nv.width),())∧aJ h no g [blk i nv.cells] [nv.rows],?_,?_⟩
      ·rintro s g ⟨rfl,S⟩;unfold sD;dsimp only;have R:bI g nv.weights.p (az nv.weights.xs):=S.readF 0 (l:=[nv.inn.row,nv.weights.row,nv.bias.row]) (f:=nv.weights.row) (by simp) rfl;have T:bI g nv.bias.p (az nv.bias.xs):=S.readF 0 (l:=[nv.inn.row,nv.weights.row,nv.bias.row]) (f:=nv.bias.row) (by simp) rfl
       (repeat (first|((with_reducible refine cg ?_);refine ak (S.cell 0 rfl rfl) ?_)))
       try dsimp only[Nv.t]
       refine(Dj R Q y (-128) 127).mono ?_;rintro _ _ ⟨rfl,rfl⟩;refine⟨_,rfl,?_⟩
       (repeat (first|((with_reducible refine cg ?_);refine ak (S.cell 0 rfl rfl) ?_)))
       try dsimp only[Nv.t]
       refine(Dj T O x (-16777216) 16777216).mono ?_;rintro _ _ ⟨rfl,rfl⟩;refine⟨_,rfl,?_⟩
       (repeat (first|((with_reducible refine cg ?_);refine ak (S.cell 0 rfl rfl) ?_)|((with_reducible refine oS ?_);refine aN S 0 rfl rfl ?_)))
       try dsimp only[Nv.t]
       refine(HH nv N (by omega) (by omega)).mono ?_;rintro _ _ ⟨rfl,F⟩;refine⟨_,rfl,?_⟩;replace S:=S.fra0 F
       (repeat (first|((with_reducible refine vg ?_);refine aX (S.cell 0 rfl rfl) ?_)))
       try dsimp only[Nv.t]
       refine bh (fun d=>c _ S (by rw[a];omega)) fun d=> ?_
       (repeat (first|((with_reducible refine cg ?_);refine ak (S.cell 0 rfl rfl) ?_)))
       try dsimp only[Nv.t]
       refine bh (fun e=>c _ S (by rw[a];omega)) fun e=>bG (am (fun k=>bG (am (fun q=>⟨rfl,S,fun _=>⟨by omega,by omega,k,q⟩⟩) fun q=>c _ S (by rw[a];exact fun h=>q (h.2.2.2.1 n).2.2.2))) fun k=>c _ S (by rw[a];exact fun h=>k (h.2.2.2.1 n).2.2.1))
      ·(repeat (first|((with_reducible refine aV ?_);refine ae (S.cell 0 rfl rfl) ?_)))
       try dsimp only[Nv.t]
       refine aH (fun d=>⟨by rw[if_pos d],S⟩) (fun d=>⟨by rw[if_neg d],S⟩)
    ·(repeat (first|((with_reducible refine aV ?_);refine ae (S.cell 0 rfl rfl) ?_)))
     try dsimp only[Nv.t]
     refine aH (fun d=>bG (am (fun e=>⟨rfl,S,fun _=>e⟩) fun e=>c _ S (by rw[a];omega))) (fun d=> ?_)
     (repeat (first|((with_reducible refine aV ?_);refine ae (S.cell 0 rfl rfl) ?_)))
     try dsimp only[Nv.t]
     exact aH (fun k=>bG (am (fun e=>⟨rfl,S,fun _=>e⟩) fun e=>c _ S (by rw[a];omega))) (fun k=>⟨rfl,S,fun h=>by omega⟩)
   ·refine am (fun m=> ?_) (fun m=>⟨rfl,S,fun h=>absurd h m⟩);have B:=z (.inl m);have C:=u m
    (repeat (first|((with_reducible refine aV ?_);refine ae (S.cell 0 rfl rfl) ?_)))
    try dsimp only[Nv.t]
    refine am (fun d=>c _ S (by rw[a];omega)) (fun d=> ?_)
    (repeat (first|((with_reducible refine aV ?_);refine ae (S.cell 0 rfl rfl) ?_)|((with_reducible refine oS ?_);refine aN S 0 rfl rfl ?_)))
    try dsimp only[Nv.t]
    refine(pL nv (by omega) (by omega)).mono ?_;rintro _ _ ⟨rfl,F⟩;refine⟨_,rfl,?_⟩;replace S:=S.fra0 F
    (repeat (first|((with_reducible refine vg ?_);refine aX (S.cell 0 rfl rfl) ?_)))
    try dsimp only[Nv.t]
    refine am (fun e=> ?_) (fun e=> ?_)
    ·(repeat (first|((with_reducible refine vg ?_);refine aX (S.cell 0 rfl rfl) ?_)));exact c _ S (by rw[a];omega)
    ·(repeat (first|((with_reducible refine aV ?_);refine ae (S.cell 0 rfl rfl) ?_)))
     try dsimp only[Nv.t]
     refine am (fun k=> ?_) (fun k=> ?_)
     ·(repeat (first|((with_reducible refine vg ?_);refine aX (S.cell 0 rfl rfl) ?_)));exact c _ S (by rw[a];omega)
     ·(repeat (first|((with_reducible refine aV ?_);refine ae (S.cell 0 rfl rfl) ?_)|((with_reducible refine oS ?_);refine aN S 0 rfl rfl ?_)))
      try dsimp only[Nv.t]
      refine(pL nv (by omega) (by omega)).mono ?_;rintro _ _ ⟨rfl,F⟩;refine⟨_,rfl,?_⟩;replace S:=S.fra0 F
      (repeat (first|((with_reducible refine vg ?_);refine aX (S.cell 0 rfl rfl) ?_)))
      try dsimp only[Nv.t]
      exact am (fun q=>c _ S (by rw[a];omega)) (fun q=>⟨rfl,S,fun _=>by omega⟩)
  ·exact am (fun m=>bG (am (fun d=>bG (am (fun e=>⟨rfl,S,fun _=>⟨d,e⟩⟩) fun e=>c _ S (by rw[a];omega))) fun d=>c _ S (by rw[a];omega))) (fun m=>⟨rfl,S,fun h=>absurd h m⟩)
 ·refine am (fun m=>bG (am (fun d=>⟨rfl,S,fun _=>d⟩) fun d=>c _ S (by rw[a];omega))) (fun m=> ?_)
  (repeat (first|((with_reducible refine aV ?_);refine ae (S.cell 0 rfl rfl) ?_)))
  try dsimp only[Nv.t]
  exact aH (fun k=>bG (am (fun d=>⟨rfl,S,fun _=>d⟩) fun d=>c _ S (by rw[a];omega))) (fun k=>⟨rfl,S,fun h=>by omega⟩)
end
end
section
def bY (n:Nd) (rs:List Int):Int:=
 if ¬(∀x∈rs,x=rs.getD 0 0) then-1 else if rs.getD 0 0=0∧(dW n.kind∨n.kind=5) then-1 else if n.kind=5 then 0 else rs.getD 0 0*cE n.kind n.step
theorem cH {xs:List Int} {i:Nat} (h:i<xs.length):xs.getD i 0=xs[i]:=by rw[UV,aO h];rfl
section
variable {h:af}
theorem xE {nv:Nv} (D:nv.ok) (hr:nv.rows.P h) (ai:nv.inn.l<2 ^ 62) (Q:nv.weights.l<2 ^ 62) (O:nv.bias.l<2 ^ 62) {p:Option Addr} {l c:Nat} {ws:List Int} (hw:bI h p (az ws)) (hl:ws.length=l) (ag:l<2 ^ 56):
 au P jr #[nv.v,.slice p l c] h fun v h'=>v= .int .i64 (nv.nd.chk ws)∧cp no h h':=by
 refine Aq _ _ _ _ ?_;unfold Bs;have li:=D.1.1;have Z:nv.nd.inn.length=nv.inn.l:=li;have S:=((aJ.start h no).read nv.rows hr).read (row p (az ws)) hw;refine aA (cs:=nv.cells) S fun e h1 _ S=> ?_;dsimp only[Xj,Xi] at S;refine(Dj (S.row 1 rfl) hl (by omega) 1 16).mono ?_;rintro _ _ ⟨rfl,rfl⟩;refine⟨_,rfl,?_⟩;have A:(ws.length≠nv.nd.inn.length∨ ¬bv 1 16 ws)→ ∀g,aJ h no g [blk e nv.cells] [nv.rows,row p (az ws)]→Value.int .i64 1= .int .i64 (nv.nd.chk ws)∧cp no h g:=fun R g S=>⟨by unfold Nd.chk;rw[if_pos R],S.fra⟩;refine⟨fun s g=>s=((p,l,c),⟨e,0,none⟩,())∧aJ h no g [blk e nv.cells] [nv.rows,row p (az ws)]∧ ¬(ws.length≠nv.nd.inn.length∨ ¬bv 1 16 ws),?_,?_⟩
 ·rintro s g ⟨rfl,S,E⟩;unfold ue;dsimp only;have o:bv 1 16 ws:=by apply Decidable.byContradiction;intro h;exact E (.inr h)
  have a:(¬dF nv.kind 1 12∨(cJ nv.kind∧ ¬(2≤ws.length∧ws.length≤4))∨(¬cJ nv.kind∧ws.length≠1)∨ ¬dF nv.post 0 3∨(nv.post≠0∧ ¬gY nv.kind)∨ ¬nv.nd.else0)→ ∀g,aJ h no g [blk e nv.cells] [nv.rows,row p (az ws)]→Value.int .i64 12= .int .i64 (nv.nd.chk ws)∧cp no h g:=
   fun R g S=>⟨by unfold Nd.chk;rw[if_neg E];exact congrArg _ (if_pos R).symm,S.fra⟩
  (repeat (first|((with_reducible refine aV ?_);refine ae (S.cell 0 rfl rfl) ?_)))
  try dsimp only[Nv.t]
  refine(mr nv.kind 1 12).mono ?_;rintro _ _ ⟨rfl,rfl⟩;refine⟨_,rfl,?_⟩
  (repeat (first|((with_reducible refine aV ?_);refine ae (S.cell 0 rfl rfl) ?_)))
  try dsimp only[Nv.t]
  refine(Gg nv.kind).mono ?_;rintro _ _ ⟨rfl,rfl⟩;refine⟨_,rfl,?_⟩
  (repeat (first|((with_reducible refine aV ?_);refine ae (S.cell 0 rfl rfl) ?_)))
  try dsimp only[Nv.t]
  refine(tO nv.kind).mono ?_;rintro _ _ ⟨rfl,rfl⟩;refine⟨_,rfl,?_⟩;refine⟨fun s g=>s=((p,l,c),⟨e,0,none⟩,decide (gY nv.kind),())∧aJ h no g [blk e nv.cells] [nv.rows,row p (az ws)]∧dF nv.kind 1 12∧(cJ nv.kind→2≤ws.length∧ws.length≤4)∧(¬cJ nv.kind→ws.length=1),?_,?_⟩
  ·rintro s g ⟨rfl,S,k1,k2,k3⟩;unfold ud;dsimp only;refine⟨fun s g=>s=((p,l,c),⟨e,0,none⟩,())∧aJ h no g [blk e nv.cells] [nv.rows,row p (az ws)]∧dF nv.post 0 3∧(nv.post≠0→gY nv.kind),?_,?_⟩
   ·rintro s g ⟨rfl,S,k4,k5⟩;unfold sI;dsimp only
    (repeat (first|((with_reducible refine oS ?_);refine aN S 0 rfl rfl ?_)));refine(IK D).mono ?_;rintro _ _ ⟨rfl,F⟩;refine⟨_,rfl,?_⟩;replace S:=S.fra0 F;refine bG (am (fun V=> ?_) (fun V=>a (.inr (.inr (.inr (.inr (.inr V))))) _ S));have N:1≤ws.length:=by omega
    have w:=S.row 1 rfl;obtain⟨J,rfl⟩:=w.some_of (by rw[av];omega);refine aB rfl (k:=0) rfl (by omega) ?_
    (repeat (first|((with_reducible refine oS ?_);refine aN S 0 rfl rfl ?_)));have K:ws.getD 0 0=ws[0]:=cH N;refine ae (n:=ws.getD 0 0) (w.cell (i:=0) (aI (by rw[aO (by omega),K]))) ?_;have U:=o ws[0] (UU _);rw[←K] at U;have b: ¬(¬dF nv.nd.kind 1 12∨(cJ nv.nd.kind∧ ¬(2≤ws.length∧ws.length≤4))∨(¬cJ nv.nd.kind∧ws.length≠1)∨ ¬dF nv.nd.post 0 3∨(nv.nd.post≠0∧ ¬gY nv.nd.kind)∨ ¬nv.nd.else0):=by
     have Y:nv.nd.kind=nv.kind:=rfl;have ep:nv.nd.post=nv.post:=rfl;rw[Y,ep];rintro(h|h|h|h|h|h)
     ·exact h k1
     ·exact h.2 (k2 h.1)
     ·exact h.2 (k3 h.1)
     ·exact h k4
     ·exact h.2 (k5 h.1)
     ·exact h V
    refine(Kt D (S.r 0 _ rfl) Q O (by omega)).mono ?_;rintro _ _ ⟨rfl,F⟩;refine⟨_,rfl,?_⟩;replace S:=S.fra0 F;refine bG (am (fun W=> ?_) (fun W=>⟨by unfold Nd.chk;rw[if_neg E,if_neg b,if_pos W],S.fra⟩));have d: ¬ ¬nv.nd.sized (ws.getD 0 0):=fun h=>h W;refine aP (fun m s g=> ∃i:Nat,s=((some J,l,c),⟨e,0,none⟩,hG (ws.take i),(i:Int),())∧i≤l∧m=l-i∧(nv.kind=7→ ∀x∈ws.take i,x=ws.getD 0 0)∧aJ h no g [blk e nv.cells] [nv.rows,row (some J) (az ws)]) l ⟨0,rfl,by omega,rfl,by simp,S⟩ ?_;rintro m s g ⟨i,rfl,ad,rfl,y,S⟩;unfold sH;dsimp only;refine am (fun aj=> ?_) (fun ab=> ?_)
    ·have q:i<ws.length:=by omega
     have X:=(S.row 1 rfl).cell (aI (aO q));have M:aD g (Addr.add J 0)=some (.int .i64 (ws.getD 0 0)):=(S.row 1 rfl).cell (i:=0) (aI (by rw[aO (by omega),K]));refine aB rfl rfl (by omega) ?_;simp only[oe,US];refine ae X ?_
     (repeat (first|((with_reducible refine aV ?_);refine ae (S.cell 0 rfl rfl) ?_)))
     try dsimp only[Nv.t]
     have T:=jK (pJ i o);rw[U0] at T;have an:=o ws[i] (UU q);rw[al (n:=hG (ws.take i)+ws[i]) (by omega),al (n:=(i:Int)+1) (by omega),←pI q];refine aH (fun u=> ?_) (fun u=> ?_)
     ·refine aB rfl rfl (by omega) (aB rfl (k:=0) rfl (by omega) ?_);refine ae X (ae M (bh (fun C=>⟨?_,S.fra⟩) (fun C=> ?_)))
      ·have L:nv.nd.kind=7∧ ¬ ∀x∈ws,x=ws.getD 0 0:=⟨u,fun h=>C (h _ (UU q))⟩;unfold Nd.chk;rw[if_neg E,if_neg b,if_neg d,if_pos L]
      ·refine⟨l-(i+1),by omega,i+1,by trivial,by omega,rfl,fun _ x w=> ?_,S⟩;rw[py q] at w;rcases UX.1 w with w|w
       ·exact y u x w
       ·simp only[SH] at w;subst w;exact C
     ·exact⟨l-(i+1),by omega,i+1,rfl,by omega,rfl,fun h=>absurd h u,S⟩
    ·rw[N6 (by omega)] at y ⊢;have G: ¬(nv.nd.kind=7∧ ¬ ∀x∈ws,x=ws.getD 0 0):=fun h=>h.2 (y h.1)
     (repeat (first|((with_reducible refine aV ?_);refine ae (S.cell 0 rfl rfl) ?_)))
     try dsimp only[Nv.t]
     refine aH (fun u=>am (fun C=>⟨?_,S.fra⟩) (fun C=>⟨?_,S.fra⟩)) (fun u=>⟨?_,S.fra⟩)
     ·have j:nv.nd.kind=8∧hG ws>16:=⟨u,C⟩;unfold Nd.chk;rw[if_neg E,if_neg b,if_neg d,if_neg G,if_pos j]
     ·have j: ¬(nv.nd.kind=8∧hG ws>16):=fun h=>C h.2;unfold Nd.chk;rw[if_neg E,if_neg b,if_neg d,if_neg G,if_neg j]
     ·have j: ¬(nv.nd.kind=8∧hG ws>16):=fun h=>u h.1;unfold Nd.chk;rw[if_neg E,if_neg b,if_neg d,if_neg G,if_neg j]
   ·have B:aD g (Addr.add ⟨e,0,none⟩ 14)=some (.int .i64 nv.post):=S.cell 0 rfl rfl;refine ae B (am (fun z=>a (by omega) _ S) fun z=>ae B (am (fun f=>a (by omega) _ S) fun f=>ae B (bh (fun H=>bG (am (fun I=>⟨rfl,S,by omega,fun _=>I⟩) fun I=>a (by omega) _ S)) fun H=>⟨rfl,S,by omega,fun h=>absurd H h⟩)))
  ·refine bG (am (fun z=> ?_) (fun z=>a (.inl z) _ S))
   refine am (fun f=>am (fun H=>a (by omega) _ S) fun H=>am (fun I=>a (by omega) _ S) fun I=>bG (am (fun y=>⟨rfl,S,z,fun _=>by omega,fun h=>absurd f h⟩) fun y=>absurd f y)) fun f=>
    bG (am (fun y=>absurd y f) fun y=>bh (fun u=>a (by omega) _ S) fun u=>⟨rfl,S,z,fun h=>absurd h f,fun _=>by omega⟩)
 ·(repeat (first|((with_reducible refine cg ?_);refine ak (S.cell 0 rfl rfl) ?_)))
  try dsimp only[Nv.t]
  refine bh (fun z=>A (.inl (by omega)) _ S) (fun z=>bG (am (fun f=>⟨rfl,S,?_⟩) fun f=>A (.inr f) _ S));rintro(h|h)
  ·omega
  ·exact h f
theorem Dk {nv:Nv} (C:nv.ok) (Q:nv.rows.P h) (A:nv.inn.l<2 ^ 62) (B:nv.weights.l<2 ^ 62) (z:nv.bias.l<2 ^ 62) {p:Option Addr} {l c:Nat} {ws:List Int} (R:bI h p (az ws)) (N:ws.length=l) (y:l<2 ^ 56):
 au P kV #[nv.v,.slice p l c] h fun v K=>v= .int .i64 (nv.nd.wid ws)∧cp no h K:=by
 refine Ar _ _ _ _ ?_;unfold Bt;have S:=((aJ.start h no).read nv.rows Q).read (row p (az ws)) R;refine aA (cs:=nv.cells) S fun x U _ S=> ?_;dsimp only[Xj,Xi] at S;have G:nv.nd.kind=nv.kind:=rfl
 (repeat (first|((with_reducible refine oS ?_);refine aN S 0 rfl rfl ?_)));refine(xE C (S.r 0 _ rfl) A B z (S.row 1 rfl) N y).mono ?_;rintro _ _ ⟨rfl,F⟩;refine⟨_,rfl,?_⟩;replace S:=S.fra0 F;refine bh (fun a=>⟨by unfold Nd.wid;rw[if_pos a],S.fra⟩) (fun a=> ?_);have w: ¬nv.nd.chk ws≠0:=fun h=>h a;have b:bv 1 16 ws:=by
  apply Decidable.byContradiction;intro h;unfold Nd.chk at a;rw[if_pos (.inr h)] at a;exact absurd a (by decide)
 have f:1≤ws.length:=by
  apply Decidable.byContradiction;intro h;unfold Nd.chk at a;split at a
  ·exact absurd a (by decide)
  ·rw[if_pos (by
    by_cases H:cJ nv.nd.kind
    ·exact .inr (.inl ⟨H,by omega⟩)
    ·exact .inr (.inr (.inl ⟨H,by omega⟩)))] at a
   exact absurd a (by decide)
 refine⟨fun s g=>s=((p,l,c),⟨x,0,none⟩,())∧aJ h no g [blk x nv.cells] [nv.rows,row p (az ws)]∧ ¬wide nv.nd.kind,?_,?_⟩
 ·rintro s g ⟨rfl,S,E⟩;unfold uf;dsimp only
  (repeat (first|((with_reducible refine aV ?_);refine ae (S.cell 0 rfl rfl) ?_)))
  try dsimp only[Nv.t]
  refine aH (fun j=>⟨by unfold Nd.wid;rw[if_neg w,if_neg E,if_pos (by rw[G];exact j)],S.fra⟩) (fun j=> ?_);have I: ¬nv.nd.kind=11:=j
  (repeat (first|((with_reducible refine aV ?_);refine ae (S.cell 0 rfl rfl) ?_)))
  try dsimp only[Nv.t]
  have q:=S.row 1 rfl;refine bh (fun o=> ?_) (fun o=> ?_)
  ·obtain⟨J,rfl⟩:=q.some_of (by rw[av];omega);refine aB rfl (k:=0) rfl (by omega) ?_;refine ae (n:=ws.getD 0 0) (q.cell (i:=0) (aI (by rw[aO (by omega),cH f]))) ⟨?_,S.fra⟩;have d:nv.nd.kind≠8:=o;unfold Nd.wid;rw[if_neg w,if_neg E,if_neg I,if_pos d]
  ·refine aP (fun m s g=> ∃i:Nat,s=((p,l,c),hG (ws.take i),(i:Int),())∧i≤l∧m=l-i∧aJ h no g [blk x nv.cells] [nv.rows,row p (az ws)]) l ⟨0,rfl,by omega,rfl,S⟩ ?_;rintro m s g ⟨i,rfl,M,rfl,S⟩;unfold sJ;dsimp only;refine am (fun O=> ?_) (fun L=> ?_)
   ·have e:i<ws.length:=by omega
    have q:=S.row 1 rfl;obtain⟨J,rfl⟩:=q.some_of (by rw[av];omega);refine aB rfl rfl (by omega) ?_;simp only[oe,US];refine ae (q.cell (aI (aO e))) ?_;have D:=jK (pJ i b);rw[U0] at D;have T:=b ws[i] (UU e);rw[al (n:=hG (ws.take i)+ws[i]) (by omega),al (n:=(i:Int)+1) (by omega),←pI e];exact⟨l-(i+1),by omega,i+1,rfl,by omega,rfl,S⟩
   ·rw[N6 (by omega)];have d: ¬nv.nd.kind≠8:=fun h=>h o;exact⟨by unfold Nd.wid;rw[if_neg w,if_neg E,if_neg I,if_neg d],S.fra⟩
 ·(repeat (first|((with_reducible refine aV ?_);refine ae (S.cell 0 rfl rfl) ?_)))
  try dsimp only[Nv.t]
  have u:wide nv.nd.kind→Value.int .i64 nv.width= .int .i64 (nv.nd.wid ws):=fun h=>by unfold Nd.wid;rw[if_neg w,if_pos h];rfl
  refine aH (fun j=> ?_) (fun j=> ?_)
  ·(repeat (first|((with_reducible refine aV ?_);refine ae (S.cell 0 rfl rfl) ?_)));exact⟨u (.inl j),S.fra⟩
  ·(repeat (first|((with_reducible refine aV ?_);refine ae (S.cell 0 rfl rfl) ?_)))
   try dsimp only[Nv.t]
   refine aH (fun o=> ?_) (fun o=> ?_)
   ·(repeat (first|((with_reducible refine aV ?_);refine ae (S.cell 0 rfl rfl) ?_)));exact⟨u (.inr o),S.fra⟩
   ·exact⟨rfl,S,by rw[G];omega⟩
theorem MN {nv:Nv} {p:Option Addr} {l c:Nat} {rs:List Int} (O:bI h p (az rs)) (W:rs.length=l) (I:1≤l) (L:l<2 ^ 56) (C:0≤rs.getD 0 0∧rs.getD 0 0≤2 ^ 30) (N:dA nv.kind→0≤nv.step∧nv.step≤2 ^ 20):
 au P q9 #[nv.v,.slice p l c] h fun v H=>v= .int .i64 (bY nv.nd rs)∧cp no h H:=by
 refine Cd _ _ _ _ ?_;unfold Du;have S:=(aJ.start h no).read (row p (az rs)) O;refine aA (cs:=nv.cells) S fun u V _ S=> ?_;dsimp only[Xj,Xi] at S;have a:=S.row 0 rfl;obtain⟨w,rfl⟩:=a.some_of (by rw[av];omega);refine aB rfl (k:=0) rfl (by omega) ?_;refine ae (n:=rs.getD 0 0) (a.cell (i:=0) (aI (by rw[aO (by omega),cH (by omega)]))) ?_;generalize q:rs.getD 0 0=r at C ⊢;have U:nv.nd.kind=nv.kind:=rfl;refine aP (fun m s g=> ∃i:Nat,s=((some w,l,c),⟨u,0,none⟩,r,(i:Int),())∧i≤l∧m=l-i∧(∀x∈rs.take i,x=r)∧aJ h no g [blk u nv.cells] [row (some w) (az rs)]) l ⟨0,rfl,by omega,rfl,by simp,S⟩ ?_;rintro m s g ⟨i,rfl,K,rfl,b,S⟩;unfold wK;dsimp only;refine am (fun M=> ?_) (fun J=> ?_)
 ·have j:i<rs.length:=by omega
  have a:=S.row 0 rfl;refine aB rfl rfl (by omega) ?_;simp only[oe,US];refine ae (a.cell (aI (aO j))) (bh (fun B=>⟨?_,S.fra⟩) (fun B=> ?_))
  ·unfold bY;rw[q,if_pos (fun h=>B (h _ (UU j)))]
  ·rw[al (n:=(i:Int)+1) (by omega)];refine⟨l-(i+1),by omega,i+1,by trivial,by omega,rfl,fun x a=> ?_,S⟩;rw[py j] at a;rcases UX.1 a with a|a
   ·exact b x a
   ·simp only[SH] at a;subst a;exact B
 ·rw[N6 (by omega)] at b;have T: ¬ ¬ ∀x∈rs,x=r:=fun h=>h b
  (repeat (first|((with_reducible refine aV ?_);refine ae (S.cell 0 rfl rfl) ?_)))
  try dsimp only[Nv.t]
  refine(gM nv.kind).mono ?_;rintro _ _ ⟨rfl,rfl⟩;refine⟨_,rfl,?_⟩;have e:bY nv.nd rs=if r=0∧(dW nv.kind∨nv.kind=5) then-1 else if nv.kind=5 then 0 else r*cE nv.kind nv.step:=by
   unfold bY;rw[q,if_neg T];rfl
  rw[e];have o:0≤cE nv.kind nv.step∧cE nv.kind nv.step≤2 ^ 20:=by
   unfold cE;split
   ·rename_i h;exact N h
   ·decide
  have X:0≤r*cE nv.kind nv.step∧r*cE nv.kind nv.step≤2 ^ 50:=by
   refine⟨Vw C.1 o.1,?_⟩;have:=Vv C.2 o.2 o.1 (by decide);omega
  have f: ∀g,aJ h no g [blk u nv.cells] [row (some w) (az rs)]→ ¬(r=0∧(dW nv.kind∨nv.kind=5))→ ¬nv.kind=5→aT cS g ⟨u,0,none⟩ fun E=>aC P .i64 dT #[bB cS E] g fun D y=>(Value.int .i64 (IntKind.wrap .i64 (r*D))= .int .i64 (if r=0∧(dW nv.kind∨nv.kind=5) then-1 else if nv.kind=5 then 0 else r*cE nv.kind nv.step)∧cp no h y):=by
   intro g S Q R
   (repeat (first|((with_reducible refine oS ?_);refine aN S 0 rfl rfl ?_)));refine(vA nv).mono ?_;rintro _ _ ⟨rfl,F⟩;refine⟨_,rfl,?_⟩;replace S:=S.fra0 F;dsimp only;rw[if_neg Q,if_neg R,al (by omega)];exact⟨rfl,S.fra⟩
  refine aH (fun z=>am (fun G=>⟨by rw[if_pos ⟨z,.inl G⟩],S.fra⟩) fun G=> ?_) (fun z=> ?_)
  ·(repeat (first|((with_reducible refine aV ?_);refine ae (S.cell 0 rfl rfl) ?_)))
   try dsimp only[Nv.t]
   refine aH (fun d=>⟨by rw[if_pos ⟨z,.inr d⟩],S.fra⟩) (fun d=> ?_)
   (repeat (first|((with_reducible refine aV ?_);refine ae (S.cell 0 rfl rfl) ?_)))
   try dsimp only[Nv.t]
   refine aH (fun A=>absurd A d) (fun _=> ?_);have:=f _ S (by omega) d;exact this
  ·(repeat (first|((with_reducible refine aV ?_);refine ae (S.cell 0 rfl rfl) ?_)))
   try dsimp only[Nv.t]
   refine aH (fun d=>⟨by rw[if_neg (by omega),if_pos d],S.fra⟩) (fun d=> ?_);have:=f _ S (by omega) d;exact this
end
end
end Go.Proofs.YtdhpmegbmjoekaaGreatDoor.G

