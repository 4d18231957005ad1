/- CKind14 CKind14b CKind14c CKind14d, in one text. -/
import Derived.Test.YtdhpmegbmjoekaaGreatDoorCNode
set_option linter.unusedVariables false
set_option linter.unusedSimpArgs false
namespace Go.Proofs.YtdhpmegbmjoekaaGreatDoor.G
open Go Go.Sh
section
abbrev dp(k:Int):Prop:=k=1∨k=2∨k=3∨k=4
abbrev iK(k:Int):Prop:=dp k∨k=12
abbrev gq(k:Int):Prop:=k=1∨k=2∨k=6
abbrev dm(k:Int):Prop:=k=7∨k=8
abbrev wide(k:Int):Prop:=k=1∨k=6
abbrev dB(x lo hi:Int):Prop:=lo≤x∧x≤hi
abbrev I1(k post:Int):Prop:=k=10∨cF .i64 post 1=1
abbrev Mp(k post:Int):Prop:=k=9∨cF .i64 post 2=2
def wk(k size gap:Int):Int:=if k=12 then size else if dp k then(size-1)*gap+1 else 1
def Nd.span(n:Nd):Int:=wk n.kind n.size n.gap
def dv(k step:Int):Int:=if dp k then step else 1
def Nd.else0(n:Nd):Prop:=
 (¬dp n.kind→n.step=0∧n.gap=0∧n.left=0∧n.right=0)∧(¬dp n.kind∧n.kind≠12→n.size=0)∧(¬wide n.kind→n.width=0)∧(¬gq n.kind→n.weights.length=0∧n.bias.length=0)∧
  (I1 n.kind n.post∨(n.mult=0∧n.shift=0))∧(Mp n.kind n.post∨(n.low=0∧n.high=0))
instance (n:Nd):Decidable n.else0:=by unfold Nd.else0;infer_instance
def Nd.wcount(n:Nd)(w:Int):Int:=if n.kind=1 then n.width*n.size*w else if n.kind=2 then w*n.size else n.width*w
def Nd.sized(n:Nd)(w:Int):Prop:=
 (iK n.kind→dB n.size 1 8)∧(dp n.kind→dB n.step 1 4∧dB n.gap 1 4∧(0≤n.left∧n.left<n.span)∧(0≤n.right∧n.right<n.span))∧(wide n.kind→dB n.width 1 16)∧
  (gq n.kind→(n.weights.length:Int)=n.wcount w∧(n.bias.length:Int)=(if n.kind=2 then w else n.width)∧bv (-128) 127 n.weights∧bv (-16777216) 16777216 n.bias)∧
  (dB n.mult 0 32767∧dB n.shift 0 30∧dB n.low fz fL∧dB n.high fz fL∧n.low≤n.high)
instance (n:Nd) (w:Int):Decidable (n.sized w):=by unfold Nd.sized;infer_instance
def gW:List Int→Int
 |[]=>0
 |x::r=>x+gW r
def Nd.chk(n:Nd)(ws:List Int):Int:=
 if ws.length≠n.inn.length∨ ¬bv 1 16 ws then 1
 else if ¬dB n.kind 1 12∨(dm n.kind∧ ¬(2≤ws.length∧ws.length≤4))∨(¬dm n.kind∧ws.length≠1)∨ ¬dB n.post 0 3∨(n.post≠0∧ ¬gq n.kind)∨ ¬n.else0 then 12
 else if ¬n.sized (ws.getD 0 0) then 22
 else if n.kind=7∧ ¬(∀x∈ws,x=ws.getD 0 0) then 14
 else if n.kind=8∧gW ws>16 then 14 else 0
def Nd.wid(n:Nd)(ws:List Int):Int:=
 if n.chk ws≠0 then 0 else if wide n.kind then n.width else if n.kind=11 then 1 else if n.kind≠8 then ws.getD 0 0 else gW ws
theorem pX{xs:List Int}{i:Nat}(hi:i<xs.length):gW (xs.take (i+1))=gW (xs.take i)+xs[i]:=by
 rw[gD hi];have: ∀(a:List Int)(x:Int),gW (a++[x])=gW a+x:=by
  intro a x
  induction a with
  |nil=>simp[gW]
  |cons y r b=>simp only[Yg,gW,b];omega
 exact this _ _
theorem jD: ∀{xs:List Int},bv 1 16 xs→0≤gW xs∧gW xs≤16*xs.length
 |[],_=>by simp[gW]
 |x::r,h=>by
  rw[cn]at h;have:=jD h.2;simp only[gW,VS];omega
theorem pY{lo hi:Int}{xs:List Int}(i:Nat)(h:bv lo hi xs):bv lo hi (xs.take i):=fun x a=>h x (W9 a)
section
variable {h:ah}
theorem mi(k:Int):au P fH #[.int .i64 k] h fun v a=>v= .bool (decide (iK k))∧a=h:=by
 refine wC _ ?_;unfold vK
 repeat' (first|(first|refine aq (fun _=> ?_) (fun _=> ?_)|refine aH (fun _=> ?_) (fun _=> ?_)|refine bh (fun _=> ?_) (fun _=> ?_)|refine bJ ?_)|refine And.intro ?_ rfl)
 all_goals first
  |(congr 1;symm;rw[decide_eq_true_iff];omega)
  |(congr 1;rw[WF,decide_eq_true_iff,beq_iff_eq];omega)
theorem pZ(k:Int):au P gQ #[.int .i64 k] h fun v a=>v= .bool (decide (dp k))∧a=h:=by
 refine A8 _ ?_;unfold Cm
 repeat' (first|(first|refine aq (fun _=> ?_) (fun _=> ?_)|refine aH (fun _=> ?_) (fun _=> ?_)|refine bh (fun _=> ?_) (fun _=> ?_)|refine bJ ?_)|refine And.intro ?_ rfl)
 all_goals first
  |(congr 1;symm;rw[decide_eq_true_iff];omega)
  |(congr 1;rw[WF,decide_eq_true_iff,beq_iff_eq];omega)
theorem uF(k:Int):au P iD #[.int .i64 k] h fun v a=>v= .bool (decide (gq k))∧a=h:=by
 refine xx _ ?_;unfold xw
 repeat' (first|(first|refine aq (fun _=> ?_) (fun _=> ?_)|refine aH (fun _=> ?_) (fun _=> ?_)|refine bh (fun _=> ?_) (fun _=> ?_)|refine bJ ?_)|refine And.intro ?_ rfl)
 all_goals first
  |(congr 1;symm;rw[decide_eq_true_iff];omega)
  |(congr 1;rw[WF,decide_eq_true_iff,beq_iff_eq];omega)
theorem FT(k:Int):au P lP #[.int .i64 k] h fun v a=>v= .bool (decide (dm k))∧a=h:=by
 refine A7 _ ?_;unfold Cl
 repeat' (first|(first|refine aq (fun _=> ?_) (fun _=> ?_)|refine aH (fun _=> ?_) (fun _=> ?_)|refine bh (fun _=> ?_) (fun _=> ?_)|refine bJ ?_)|refine And.intro ?_ rfl)
 all_goals first
  |(congr 1;symm;rw[decide_eq_true_iff];omega)
  |(congr 1;rw[WF,decide_eq_true_iff,beq_iff_eq];omega)
theorem mj(x lo hi:Int):au P fj #[.int .i64 x,.int .i64 lo,.int .i64 hi] h fun v a=>v= .bool (decide (dB x lo hi))∧a=h:=by
 refine EB _ _ _ ?_;unfold H0;refine aq (fun b=>⟨?_,rfl⟩) (fun b=>⟨?_,rfl⟩)
 ·congr 1;rw[decide_eq_decide];omega
 ·rw[decide_eq_false (by omega)]
theorem DH{p:Option Addr}{l c:Nat}{xs:List Int}(f:bD h p (az xs))(x:xs.length=l)(r:l<2 ^ 62)(lo hi:Int):
 au P kO #[.slice p l c,.int .i64 lo,.int .i64 hi] h fun v j=>v= .bool (decide (bv lo hi xs))∧j=h:=by
 refine Ck _ _ _ _ _ ?_;unfold Fs;refine aO (fun m s g=>g=h∧ ∃i:Nat,s=((p,l,c),lo,hi,(i:Int),())∧i≤l∧m=l-i∧bv lo hi (xs.take i)) l ⟨rfl,0,rfl,by omega,rfl,by rw[WK];exact cK _ _⟩ ?_;rintro m s g ⟨rfl,i,rfl,q,rfl,d⟩;unfold xv;dsimp only;refine aq (fun t=> ?_) (fun o=> ?_)
 ·have a:i<xs.length:=by omega
  obtain⟨w,rfl⟩:=f.some_of (by rw[av];omega);have e:=f.cell (aF (bo a));have b: ¬(lo≤xs[i]∧xs[i]≤hi)→Value.bool false= .bool (decide (bv lo hi xs))∧g=g:=fun u=>⟨by rw[decide_eq_false (fun h=>u (h _ (VN a)))],rfl⟩;refine aC rfl rfl (by omega) ?_;simp only[hC,VO];refine ae e (aq (fun k=>⟨(b (by omega)).1,by trivial⟩) fun k=>aC rfl rfl (by omega) ?_);refine ae e (aq (fun n=>⟨(b (by omega)).1,by trivial⟩) fun n=> ?_);rw[al (by omega)];exact⟨l-(i+1),by omega,by trivial,i+1,rfl,by omega,rfl,(iv a).2 ⟨d,by omega,by omega⟩⟩
 ·rw[py (by omega)]at d;exact⟨by rw[decide_eq_true d],by trivial⟩
theorem mu(nv:Nv)(m: -2 ^ 20≤nv.size∧nv.size≤2 ^ 20)(l: -2 ^ 20≤nv.gap∧nv.gap≤2 ^ 20):au P fT #[nv.v] h fun v f=>v= .int .i64 nv.nd.span∧cd no h f:=by
 refine A0 _ ?_;unfold Ci;have S:=aG.start h no;refine aA (cs:=nv.cells) S fun j a _ S=> ?_
 (repeat (first|((with_reducible refine aV ?_);refine ae (S.c 0) ?_)));dsimp only[Nv.t];have e:nv.nd.span=if nv.kind=12 then nv.size else if dp nv.kind then(nv.size-1)*nv.gap+1 else 1:=rfl
 rw[e];refine aH (fun a=> ?_) (fun a=> ?_)
 ·(repeat (first|((with_reducible refine aV ?_);refine ae (S.c 0) ?_)));rw[if_pos a];exact⟨rfl,S.fra⟩
 ·(repeat (first|((with_reducible refine aV ?_);refine ae (S.c 0) ?_)));dsimp only[Nv.t];refine(mi nv.kind).mono ?_;rintro _ _ ⟨rfl,rfl⟩;refine⟨_,rfl,?_⟩;rw[if_neg a];refine bJ (aq (fun g=> ?_) (fun g=> ?_))
  ·(repeat (first|((with_reducible refine aV ?_);refine ae (S.c 0) ?_)));dsimp only[Nv.t];rw[if_pos (by omega)];have k: -2 ^ 42≤(nv.size-1)*nv.gap∧(nv.size-1)*nv.gap≤2 ^ 42:=by
    have b:(nv.size-1).natAbs≤2 ^ 21:=by omega
    have d:nv.gap.natAbs≤2 ^ 20:=by omega
    have i:((nv.size-1)*nv.gap).natAbs≤2 ^ 21*2 ^ 20:=by rw[Int.natAbs_mul];exact X9 b d
    omega
   rw[al (n:=nv.size-1) (by omega),al (n:=(nv.size-1)*nv.gap) (by omega),al (by omega)];exact⟨rfl,S.fra⟩
  ·rw[if_neg (by omega)];exact⟨rfl,S.fra⟩
theorem FU(nv:Nv):au P fU #[nv.v] h fun v b=>v= .int .i64 (dv nv.kind nv.step)∧cd no h b:=by
 refine A9 _ ?_;unfold Cn;have S:=aG.start h no;refine aA (cs:=nv.cells) S fun d e _ S=> ?_
 (repeat (first|((with_reducible refine aV ?_);refine ae (S.c 0) ?_)));dsimp only[Nv.t];refine(pZ nv.kind).mono ?_;rintro _ _ ⟨rfl,rfl⟩;refine⟨_,rfl,?_⟩;unfold dv;refine aq (fun a=> ?_) (fun a=> ?_)
 ·(repeat (first|((with_reducible refine aV ?_);refine ae (S.c 0) ?_)));rw[if_pos a];exact⟨rfl,S.fra⟩
 ·rw[if_neg a];exact⟨rfl,S.fra⟩
theorem j7{a b:Int}{x y:Nat}(d:0≤a∧a≤x)(c:0≤b∧b≤y):0≤a*b∧a*b≤((x*y:Nat):Int):=by
 refine⟨WA d.1 c.1,?_⟩;have:=Wo d.2 c.2 c.1 (by omega);simpa using this
theorem Hj(nv:Nv){w:Int}(j:0≤w∧w≤16)(d:nv.kind≠2→0≤nv.width∧nv.width≤16)(b:nv.kind=1∨nv.kind=2→0≤nv.size∧nv.size≤8):au P lA #[nv.v,.int .i64 w] h fun v k=>v= .int .i64 (nv.nd.wcount w)∧cd no h k:=by
 refine wE _ _ ?_;unfold vN;have S:=aG.start h no;refine aA (cs:=nv.cells) S fun i m _ S=> ?_
 (repeat (first|((with_reducible refine aV ?_);refine ae (S.c 0) ?_)));dsimp only[Nv.t];have e:nv.nd.wcount w=if nv.kind=1 then nv.width*nv.size*w else if nv.kind=2 then w*nv.size else nv.width*w:=rfl
 rw[e];refine aH (fun g=> ?_) (fun g=> ?_)
 ·(repeat (first|((with_reducible refine aV ?_);refine ae (S.c 0) ?_)));dsimp only[Nv.t];have i:=j7 (x:=16) (y:=8) (d (by omega)) (b (.inl g));have l:=j7 (x:=128) (y:=16) (a:=nv.width*nv.size) (by omega) j;rw[al (n:=nv.width*nv.size) (by omega),al (by omega),if_pos g];exact⟨rfl,S.fra⟩
 ·(repeat (first|((with_reducible refine aV ?_);refine ae (S.c 0) ?_)));dsimp only[Nv.t];rw[if_neg g];refine aH (fun f=> ?_) (fun f=> ?_)
  ·(repeat (first|((with_reducible refine aV ?_);refine ae (S.c 0) ?_)));dsimp only[Nv.t];have i:=j7 (x:=16) (y:=8) j (b (.inr f));rw[al (by omega),if_pos f];exact⟨rfl,S.fra⟩
  ·(repeat (first|((with_reducible refine aV ?_);refine ae (S.c 0) ?_)));dsimp only[Nv.t];have i:=j7 (x:=16) (y:=16) (d f) j;rw[al (by omega),if_neg f];exact⟨rfl,S.fra⟩
end
end
section
theorem zU(nv:Nv):nv.nd.else0↔((¬dp nv.kind→nv.step=0∧nv.gap=0∧nv.left=0∧nv.right=0)∧(¬dp nv.kind∧nv.kind≠12→nv.size=0)∧(¬wide nv.kind→nv.width=0)∧(¬gq nv.kind→nv.weights.xs.length=0∧nv.bias.xs.length=0)∧
 (I1 nv.kind nv.post∨(nv.mult=0∧nv.shift=0))∧(Mp nv.kind nv.post∨(nv.low=0∧nv.high=0))):=Iff.rfl
theorem vg(nv:Nv)(w:Int):nv.nd.sized w↔((iK nv.kind→dB nv.size 1 8)∧(dp nv.kind→dB nv.step 1 4∧dB nv.gap 1 4∧(0≤nv.left∧nv.left<nv.nd.span)∧(0≤nv.right∧nv.right<nv.nd.span))∧(wide nv.kind→dB nv.width 1 16)∧
 (gq nv.kind→(nv.weights.xs.length:Int)=nv.nd.wcount w∧(nv.bias.xs.length:Int)=(if nv.kind=2 then w else nv.width)∧bv (-128) 127 nv.weights.xs∧bv (-16777216) 16777216 nv.bias.xs)∧
 (dB nv.mult 0 32767∧dB nv.shift 0 30∧dB nv.low fz fL∧dB nv.high fz fL∧nv.low≤nv.high)):=Iff.rfl
section
variable {h:ah}
theorem I3{nv:Nv}(w:nv.ok):au P oP #[nv.v] h fun v Q=>v= .bool (decide nv.nd.else0)∧cd no h Q:=by
 refine yR _ ?_;unfold Ao;have V:=w.2.1.1;have U:=w.2.2.1;have S:=aG.start h no;refine aA (cs:=nv.cells) S fun a z _ S=> ?_;dsimp only[Yh]at S;have f: ∀g,aG h no g [aJ a nv.cells] []→ ¬nv.nd.else0→Value.bool false= .bool (decide nv.nd.else0)∧cd no h g:=fun g S T=>⟨by rw[decide_eq_false T],S.fra⟩;have e:=zU nv
 (repeat (first|((with_reducible refine aV ?_);refine ae (S.c 0) ?_)));dsimp only[Nv.t];refine(pZ nv.kind).mono ?_;rintro _ _ ⟨rfl,rfl⟩;refine⟨_,rfl,?_⟩
 (repeat (first|((with_reducible refine aV ?_);refine ae (S.c 0) ?_)));dsimp only[Nv.t];refine(uF nv.kind).mono ?_;rintro _ _ ⟨rfl,rfl⟩;refine⟨_,rfl,?_⟩;refine⟨fun s g=>s=(⟨a,0,none⟩,decide (dp nv.kind),decide (gq nv.kind),decide (wide nv.kind),())∧aG h no g [aJ a nv.cells] [],?_,?_⟩
 ·rintro s g ⟨rfl,S⟩;unfold tf;dsimp only;refine⟨fun s g=>s=(⟨a,0,none⟩,decide (dp nv.kind),decide (gq nv.kind),decide (wide nv.kind),decide (I1 nv.kind nv.post),())∧aG h no g [aJ a nv.cells] [],?_,?_⟩
  ·rintro s g ⟨rfl,S⟩;unfold te;dsimp only;refine⟨fun s g=>s=(⟨a,0,none⟩,decide (dp nv.kind),decide (gq nv.kind),decide (wide nv.kind),decide (I1 nv.kind nv.post),decide (Mp nv.kind nv.post),())∧aG h no g [aJ a nv.cells] [],?_,?_⟩
   ·rintro s g ⟨rfl,S⟩;unfold td;dsimp only;refine⟨fun s g=>s=(⟨a,0,none⟩,decide (dp nv.kind),decide (gq nv.kind),decide (wide nv.kind),decide (I1 nv.kind nv.post),decide (Mp nv.kind nv.post),())∧aG h no g [aJ a nv.cells] []∧(¬dp nv.kind→nv.step=0∧nv.gap=0∧nv.left=0∧nv.right=0),?_,?_⟩
    ·rintro s g ⟨rfl,S,M⟩;unfold tc;dsimp only;refine⟨fun s g=>s=(⟨a,0,none⟩,decide (gq nv.kind),decide (I1 nv.kind nv.post),decide (Mp nv.kind nv.post),())∧aG h no g [aJ a nv.cells] []∧(¬dp nv.kind∧nv.kind≠12→nv.size=0)∧(¬wide nv.kind→nv.width=0),?_,?_⟩
     ·rintro s g ⟨rfl,S,y,N⟩;unfold rP;dsimp only;refine⟨fun s g=>s=(⟨a,0,none⟩,decide (I1 nv.kind nv.post),decide (Mp nv.kind nv.post),())∧aG h no g [aJ a nv.cells] []∧(¬gq nv.kind→nv.weights.xs.length=0∧nv.bias.xs.length=0),?_,?_⟩
      ·rintro s g ⟨rfl,S,O⟩;unfold rO;dsimp only;have i:(I1 nv.kind nv.post∨(nv.mult=0∧nv.shift=0))→ ∀b,b=decide (Mp nv.kind nv.post∨(nv.low=0∧nv.high=0))→Value.bool b= .bool (decide nv.nd.else0)∧cd no h g:=by
        intro z b R;refine⟨?_,S.fra⟩;congr 1;rw[R,decide_eq_decide,e];exact⟨fun u=>⟨M,y,N,O,z,u⟩,fun u=>u.2.2.2.2.2⟩
       have k: ¬(I1 nv.kind nv.post∨(nv.mult=0∧nv.shift=0))→Value.bool false= .bool (decide nv.nd.else0)∧cd no h g:=fun z=>f g S fun u=>z (e.1 u).2.2.2.2.1;have C:aB g (Addr.add ⟨a,0,none⟩ 10)=some (.int .i64 nv.mult):=S.c 0;have D:aB g (Addr.add ⟨a,0,none⟩ 11)=some (.int .i64 nv.shift):=S.c 0;have q:aB g (Addr.add ⟨a,0,none⟩ 12)=some (.int .i64 nv.low):=S.c 0;have r:aB g (Addr.add ⟨a,0,none⟩ 13)=some (.int .i64 nv.high):=S.c 0;refine aq (fun B=>aq (fun E=>i (.inl B) _ ?_) fun E=>ae q (aH (fun d=>ae r (i (.inl B) _ ?_)) fun d=>i (.inl B) _ ?_)) fun B=>ae C (aH (fun m=>ae D (aH (fun n=>aq (fun E=>i (.inr ⟨m,n⟩) _ ?_) fun E=>ae q (aH (fun d=>ae r (i (.inr ⟨m,n⟩) _ ?_)) fun d=>i (.inr ⟨m,n⟩) _ ?_)) fun n=>k (by omega))) fun m=>k (by omega))
       all_goals first
        |(symm;rw[decide_eq_true_iff];omega)
        |(symm;rw[decide_eq_false_iff_not];omega)
        |(rw[WF,decide_eq_true_iff,beq_iff_eq];omega)
      ·refine bJ (aq (fun x=>⟨rfl,S,fun h=>absurd x h⟩) fun x=> ?_)
       (repeat (first|((with_reducible refine cp ?_);refine ak (S.c 0) ?_)));dsimp only[Nv.t];refine aq (fun d=>f _ S (by rw[e];omega)) fun d=> ?_
       (repeat (first|((with_reducible refine cp ?_);refine ak (S.c 0) ?_)));dsimp only[Nv.t];exact aq (fun o=>f _ S (by rw[e];omega)) fun o=>⟨rfl,S,fun _=>by omega⟩
     ·have G:aB g (Addr.add ⟨a,0,none⟩ 2)=some (.int .i64 nv.width):=S.c 0;have H:aB g (Addr.add ⟨a,0,none⟩ 3)=some (.int .i64 nv.size):=S.c 0;have p:aB g ⟨a,0,none⟩=some (.int .i64 nv.kind):=S.c 0
      have j:(¬dp nv.kind∧nv.kind≠12→nv.size=0)→aI (!decide (wide nv.kind)) (af .i64 g (Addr.add ⟨a,0,none⟩ 2) fun F=>aI (F !=0) (Value.bool false= .bool (decide nv.nd.else0)∧cd no h g)
       ((((⟨a,0,none⟩:Addr),decide (gq nv.kind),decide (I1 nv.kind nv.post),decide (Mp nv.kind nv.post),()):Addr×Bool×Bool×Bool×Unit)=(⟨a,0,none⟩,decide (gq nv.kind),decide (I1 nv.kind nv.post),decide (Mp nv.kind nv.post),())∧aG h no g [aJ a nv.cells] []∧(¬dp nv.kind∧nv.kind≠12→nv.size=0)∧(¬wide nv.kind→nv.width=0)))
       ((((⟨a,0,none⟩:Addr),decide (gq nv.kind),decide (I1 nv.kind nv.post),decide (Mp nv.kind nv.post),()):Addr×Bool×Bool×Bool×Unit)=(⟨a,0,none⟩,decide (gq nv.kind),decide (I1 nv.kind nv.post),decide (Mp nv.kind nv.post),())∧aG h no g [aJ a nv.cells] []∧(¬dp nv.kind∧nv.kind≠12→nv.size=0)∧(¬wide nv.kind→nv.width=0)):=by
       intro y;refine bJ (aq (fun x=>⟨rfl,S,y,fun h=>absurd x h⟩) fun x=>ae G (bh (fun d=>f _ S (by rw[e];omega)) fun d=>⟨rfl,S,y,fun _=>d⟩))
      refine bJ (aq (fun A=>j (by omega)) fun A=>ae p (bh (fun d=>ae H (bh (fun o=>f _ S (by rw[e];omega)) fun o=>j (by omega))) fun d=>j (by omega)))
    ·have I:aB g (Addr.add ⟨a,0,none⟩ 4)=some (.int .i64 nv.step):=S.c 0;have J:aB g (Addr.add ⟨a,0,none⟩ 5)=some (.int .i64 nv.gap):=S.c 0;have K:aB g (Addr.add ⟨a,0,none⟩ 6)=some (.int .i64 nv.left):=S.c 0;have L:aB g (Addr.add ⟨a,0,none⟩ 7)=some (.int .i64 nv.right):=S.c 0
     refine bJ (aq (fun A=>⟨rfl,S,fun h=>absurd A h⟩) fun A=>ae I (bh (fun d=>f _ S (by rw[e];omega)) fun d=>ae J (bh (fun o=>f _ S (by rw[e];omega)) fun o=>ae K (bh (fun m=>f _ S (by rw[e];omega)) fun m=>
      ae L (bh (fun n=>f _ S (by rw[e];omega)) fun n=>⟨rfl,S,fun _=>⟨d,o,m,n⟩⟩)))))
   ·have p:aB g ⟨a,0,none⟩=some (.int .i64 nv.kind):=S.c 0;have l:aB g (Addr.add ⟨a,0,none⟩ 14)=some (.int .i64 nv.post):=S.c 0;refine ae p (aH (fun d=>⟨?_,S⟩) fun d=>ae l ⟨?_,S⟩)
    ·rw[decide_eq_true (show Mp nv.kind nv.post from .inl d)]
    ·have:decide (Mp nv.kind nv.post)=(cF .i64 nv.post 2==2):=by rw[WF,decide_eq_true_iff,beq_iff_eq];omega
     rw[this]
  ·have p:aB g ⟨a,0,none⟩=some (.int .i64 nv.kind):=S.c 0;have l:aB g (Addr.add ⟨a,0,none⟩ 14)=some (.int .i64 nv.post):=S.c 0;refine ae p (aH (fun d=>⟨?_,S⟩) fun d=>ae l ⟨?_,S⟩)
   ·rw[decide_eq_true (show I1 nv.kind nv.post from .inl d)]
   ·have:decide (I1 nv.kind nv.post)=(cF .i64 nv.post 1==1):=by rw[WF,decide_eq_true_iff,beq_iff_eq];omega
    rw[this]
 ·(repeat (first|((with_reducible refine aV ?_);refine ae (S.c 0) ?_)));dsimp only[Nv.t];refine aH (fun d=>⟨?_,S⟩) fun d=> ?_
  ·rw[decide_eq_true (show wide nv.kind from .inl d)]
  ·(repeat (first|((with_reducible refine aV ?_);refine ae (S.c 0) ?_)));dsimp only[Nv.t];have:decide (wide nv.kind)=(nv.kind==6):=by rw[WF,decide_eq_true_iff,beq_iff_eq];omega
   rw[this];exact⟨rfl,S⟩
end
end
section
section
variable {h:ah}
set_option maxHeartbeats 1000000 in
theorem Li{nv:Nv}(u:nv.ok)(N:nv.rows.P h)(z:nv.weights.l<2 ^ 62)(y:nv.bias.l<2 ^ 62){w:Int}(O:0≤w∧w≤16):au P oQ #[nv.v,.int .i64 w] h fun v I=>v= .bool (decide (nv.nd.sized w))∧cd no h I:=by
 refine yS _ _ ?_;unfold Ap;have R:=u.2.1.1;have Q:=u.2.2.1;have S:=(aG.start h no).read nv.rows N;refine aA (cs:=nv.cells) S fun j B _ S=> ?_;dsimp only[Yh]at S;have d: ∀g,aG h no g [aJ j nv.cells] [nv.rows]→ ¬nv.nd.sized w→Value.bool false= .bool (decide (nv.nd.sized w))∧cd no h g:=fun g S M=>⟨by rw[decide_eq_false M],S.fra⟩;have a:=vg nv w;have L:fz= -2147483648:=rfl;have K:fL=2147483647:=rfl
 (repeat (first|((with_reducible refine aV ?_);refine ae (S.c 0) ?_)))
 try dsimp only[Nv.t]
 refine(pZ nv.kind).mono ?_;rintro _ _ ⟨rfl,rfl⟩;refine⟨_,rfl,?_⟩
 (repeat (first|((with_reducible refine aV ?_);refine ae (S.c 0) ?_)))
 try dsimp only[Nv.t]
 refine(uF nv.kind).mono ?_;rintro _ _ ⟨rfl,rfl⟩;refine⟨_,rfl,?_⟩
 (repeat (first|((with_reducible refine aV ?_);refine ae (S.c 0) ?_)))
 try dsimp only[Nv.t]
 refine(mj nv.size 1 8).mono ?_;rintro _ _ ⟨rfl,rfl⟩;refine⟨_,rfl,?_⟩;refine⟨fun s g=>s=(w,⟨j,0,none⟩,decide (dp nv.kind),decide (gq nv.kind),())∧aG h no g [aJ j nv.cells] [nv.rows]∧(iK nv.kind→dB nv.size 1 8),?_,?_⟩
 ·rintro s g ⟨rfl,S,A⟩;unfold tg;dsimp only
  (repeat (first|((with_reducible refine aV ?_);refine ae (S.c 0) ?_)))
  try dsimp only[Nv.t]
  refine(mj nv.step 1 4).mono ?_;rintro _ _ ⟨rfl,rfl⟩;refine⟨_,rfl,?_⟩
  (repeat (first|((with_reducible refine aV ?_);refine ae (S.c 0) ?_)))
  try dsimp only[Nv.t]
  refine(mj nv.gap 1 4).mono ?_;rintro _ _ ⟨rfl,rfl⟩;refine⟨_,rfl,?_⟩;refine⟨fun s g=>s=(w,⟨j,0,none⟩,decide (dp nv.kind),decide (gq nv.kind),())∧aG h no g [aJ j nv.cells] [nv.rows]∧(dp nv.kind→dB nv.step 1 4∧dB nv.gap 1 4),?_,?_⟩
  ·rintro s g ⟨rfl,S,x⟩;unfold rU;dsimp only;refine⟨fun s g=>s=(w,⟨j,0,none⟩,decide (gq nv.kind),())∧aG h no g [aJ j nv.cells] [nv.rows]∧(dp nv.kind→(0≤nv.left∧nv.left<nv.nd.span)∧(0≤nv.right∧nv.right<nv.nd.span)),?_,?_⟩
   ·rintro s g ⟨rfl,S,E⟩;unfold rT;dsimp only
    (repeat (first|((with_reducible refine aV ?_);refine ae (S.c 0) ?_)))
    try dsimp only[Nv.t]
    refine(mj nv.width 1 16).mono ?_;rintro _ _ ⟨rfl,rfl⟩;refine⟨_,rfl,?_⟩;refine⟨fun s g=>s=(w,⟨j,0,none⟩,decide (gq nv.kind),())∧aG h no g [aJ j nv.cells] [nv.rows]∧(wide nv.kind→dB nv.width 1 16),?_,?_⟩
    ·rintro s g ⟨rfl,S,G⟩;unfold rS;dsimp only;refine⟨fun s g=>s=(⟨j,0,none⟩,())∧aG h no g [aJ j nv.cells] [nv.rows]∧(gq nv.kind→(nv.weights.xs.length:Int)=nv.nd.wcount w∧(nv.bias.xs.length:Int)=(if nv.kind=2 then w else nv.width)∧bv (-128) 127 nv.weights.xs∧bv (-16777216) 16777216 nv.bias.xs),?_,?_⟩
     ·rintro s g ⟨rfl,S,H⟩;unfold rQ;dsimp only;have k: ∀b,b=decide (dB nv.mult 0 32767∧dB nv.shift 0 30∧dB nv.low fz fL∧dB nv.high fz fL∧nv.low≤nv.high)→Value.bool b= .bool (decide (nv.nd.sized w))∧cd no h g:=by
       intro b J;refine⟨?_,S.fra⟩;congr 1;rw[J,decide_eq_decide,a];exact⟨fun q=>⟨A,fun h=>⟨(x h).1,(x h).2,E h⟩,G,H,q⟩,fun q=>q.2.2.2.2⟩
      (repeat (first|((with_reducible refine aV ?_);refine ae (S.c 0) ?_)))
      try dsimp only[Nv.t]
      refine(mj nv.mult 0 32767).mono ?_;rintro _ _ ⟨rfl,rfl⟩;refine⟨_,rfl,?_⟩
      (repeat (first|((with_reducible refine aV ?_);refine ae (S.c 0) ?_)))
      try dsimp only[Nv.t]
      refine(mj nv.shift 0 30).mono ?_;rintro _ _ ⟨rfl,rfl⟩;refine⟨_,rfl,?_⟩
      (repeat (first|((with_reducible refine aV ?_);refine ae (S.c 0) ?_)))
      try dsimp only[Nv.t]
      refine(mj nv.low (-2147483648) 2147483647).mono ?_;rintro _ _ ⟨rfl,rfl⟩;refine⟨_,rfl,?_⟩
      (repeat (first|((with_reducible refine aV ?_);refine ae (S.c 0) ?_)))
      try dsimp only[Nv.t]
      refine(mj nv.high (-2147483648) 2147483647).mono ?_;rintro _ _ ⟨rfl,rfl⟩;refine⟨_,rfl,?_⟩;refine aq (fun B=>aq (fun q=>aq (fun e=>aq (fun i=> ?_) fun i=>k _ ?_) fun e=>k _ ?_) fun q=>k _ ?_) fun B=>k _ ?_
      ·(repeat (first|((with_reducible refine aV ?_);refine ae (S.c 0) ?_)))
       try dsimp only[Nv.t]
       exact k _ (WF.2 ⟨fun h=>decide_eq_true (by have:=of_decide_eq_true h;omega),fun h=>decide_eq_true (by have:=of_decide_eq_true h;omega)⟩)
      all_goals (symm;rw[decide_eq_false_iff_not];omega)
     ·refine aq (fun o=> ?_) (fun o=>⟨rfl,S,fun h=>absurd h o⟩)
      (repeat (first|((with_reducible refine aV ?_);refine ae (S.c 0) ?_)))
      try dsimp only[Nv.t]
      refine⟨fun s g=>s=(w,⟨j,0,none⟩,(if nv.kind=2 then w else nv.width),())∧aG h no g [aJ j nv.cells] [nv.rows],?_,?_⟩
      ·rintro s g ⟨rfl,S⟩;unfold rR;dsimp only;have T:bD g nv.weights.p (az nv.weights.xs):=S.readF 0 (l:=[nv.inn.row,nv.weights.row,nv.bias.row]) (f:=nv.weights.row) (by simp) rfl;have U:bD g nv.bias.p (az nv.bias.xs):=S.readF 0 (l:=[nv.inn.row,nv.weights.row,nv.bias.row]) (f:=nv.bias.row) (by simp) rfl
       (repeat (first|((with_reducible refine cp ?_);refine ak (S.c 0) ?_)))
       try dsimp only[Nv.t]
       refine(DH T R z (-128) 127).mono ?_;rintro _ _ ⟨rfl,rfl⟩;refine⟨_,rfl,?_⟩
       (repeat (first|((with_reducible refine cp ?_);refine ak (S.c 0) ?_)))
       try dsimp only[Nv.t]
       refine(DH U Q y (-16777216) 16777216).mono ?_;rintro _ _ ⟨rfl,rfl⟩;refine⟨_,rfl,?_⟩
       (repeat (first|((with_reducible refine cp ?_);refine ak (S.c 0) ?_)|((with_reducible refine oy ?_);refine aL S 0 rfl rfl ?_)))
       try dsimp only[Nv.t]
       refine(Hj nv O (by omega) (by omega)).mono ?_;rintro _ _ ⟨rfl,F⟩;refine⟨_,rfl,?_⟩;replace S:=S.fra0 F
       (repeat (first|((with_reducible refine uz ?_);refine aX (S.c 0) ?_)))
       try dsimp only[Nv.t]
       refine bh (fun e=>d _ S (by rw[a];omega)) fun e=> ?_
       (repeat (first|((with_reducible refine cp ?_);refine ak (S.c 0) ?_)))
       try dsimp only[Nv.t]
       refine bh (fun i=>d _ S (by rw[a];omega)) fun i=>bJ (aq (fun m=>bJ (aq (fun r=>⟨rfl,S,fun _=>⟨by omega,by omega,m,r⟩⟩) fun r=>d _ S (by rw[a];exact fun h=>r (h.2.2.2.1 o).2.2.2))) fun m=>d _ S (by rw[a];exact fun h=>m (h.2.2.2.1 o).2.2.1))
      ·(repeat (first|((with_reducible refine aV ?_);refine ae (S.c 0) ?_)))
       try dsimp only[Nv.t]
       refine aH (fun e=>⟨by rw[if_pos e],S⟩) (fun e=>⟨by rw[if_neg e],S⟩)
    ·(repeat (first|((with_reducible refine aV ?_);refine ae (S.c 0) ?_)))
     try dsimp only[Nv.t]
     refine aH (fun e=>bJ (aq (fun i=>⟨rfl,S,fun _=>i⟩) fun i=>d _ S (by rw[a];omega))) (fun e=> ?_)
     (repeat (first|((with_reducible refine aV ?_);refine ae (S.c 0) ?_)))
     try dsimp only[Nv.t]
     exact aH (fun m=>bJ (aq (fun i=>⟨rfl,S,fun _=>i⟩) fun i=>d _ S (by rw[a];omega))) (fun m=>⟨rfl,S,fun h=>by omega⟩)
   ·refine aq (fun n=> ?_) (fun n=>⟨rfl,S,fun h=>absurd h n⟩);have C:=A (.inl n);have D:=x n
    (repeat (first|((with_reducible refine aV ?_);refine ae (S.c 0) ?_)))
    try dsimp only[Nv.t]
    refine aq (fun e=>d _ S (by rw[a];omega)) (fun e=> ?_)
    (repeat (first|((with_reducible refine aV ?_);refine ae (S.c 0) ?_)|((with_reducible refine oy ?_);refine aL S 0 rfl rfl ?_)))
    try dsimp only[Nv.t]
    refine(mu nv (by omega) (by omega)).mono ?_;rintro _ _ ⟨rfl,F⟩;refine⟨_,rfl,?_⟩;replace S:=S.fra0 F
    (repeat (first|((with_reducible refine uz ?_);refine aX (S.c 0) ?_)))
    try dsimp only[Nv.t]
    refine aq (fun i=> ?_) (fun i=> ?_)
    ·(repeat (first|((with_reducible refine uz ?_);refine aX (S.c 0) ?_)));exact d _ S (by rw[a];omega)
    ·(repeat (first|((with_reducible refine aV ?_);refine ae (S.c 0) ?_)))
     try dsimp only[Nv.t]
     refine aq (fun m=> ?_) (fun m=> ?_)
     ·(repeat (first|((with_reducible refine uz ?_);refine aX (S.c 0) ?_)));exact d _ S (by rw[a];omega)
     ·(repeat (first|((with_reducible refine aV ?_);refine ae (S.c 0) ?_)|((with_reducible refine oy ?_);refine aL S 0 rfl rfl ?_)))
      try dsimp only[Nv.t]
      refine(mu nv (by omega) (by omega)).mono ?_;rintro _ _ ⟨rfl,F⟩;refine⟨_,rfl,?_⟩;replace S:=S.fra0 F
      (repeat (first|((with_reducible refine uz ?_);refine aX (S.c 0) ?_)))
      try dsimp only[Nv.t]
      exact aq (fun r=>d _ S (by rw[a];omega)) (fun r=>⟨rfl,S,fun _=>by omega⟩)
  ·exact aq (fun n=>bJ (aq (fun e=>bJ (aq (fun i=>⟨rfl,S,fun _=>⟨e,i⟩⟩) fun i=>d _ S (by rw[a];omega))) fun e=>d _ S (by rw[a];omega))) (fun n=>⟨rfl,S,fun h=>absurd h n⟩)
 ·refine aq (fun n=>bJ (aq (fun e=>⟨rfl,S,fun _=>e⟩) fun e=>d _ S (by rw[a];omega))) (fun n=> ?_)
  (repeat (first|((with_reducible refine aV ?_);refine ae (S.c 0) ?_)))
  try dsimp only[Nv.t]
  exact aH (fun m=>bJ (aq (fun e=>⟨rfl,S,fun _=>e⟩) fun e=>d _ S (by rw[a];omega))) (fun m=>⟨rfl,S,fun h=>by omega⟩)
end
end
section
def cf(n:Nd)(rs:List Int):Int:=
 if ¬(∀x∈rs,x=rs.getD 0 0) then-1 else if rs.getD 0 0=0∧(iK n.kind∨n.kind=5) then-1 else if n.kind=5 then 0 else rs.getD 0 0*dv n.kind n.step
theorem cA{xs:List Int}{i:Nat}(h:i<xs.length):xs.getD i 0=xs[i]:=by rw[VT,bo h];rfl
section
variable {h:ah}
theorem xi{nv:Nv}(C:nv.ok)(hr:nv.rows.P h)(ai:nv.inn.l<2 ^ 62)(O:nv.weights.l<2 ^ 62)(N:nv.bias.l<2 ^ 62){p:Option Addr}{l c:Nat}{ws:List Int}(hw:bD h p (az ws))(hl:ws.length=l)(ag:l<2 ^ 56):
 au P fa #[nv.v,.slice p l c] h fun v h'=>v= .int .i64 (nv.nd.chk ws)∧cd no h h':=by
 refine yT _ _ _ _ ?_;unfold Aq;have li:=C.1.1;have Y:nv.nd.inn.length=nv.inn.l:=li;have S:=((aG.start h no).read nv.rows hr).read (row p (az ws)) hw;refine aA (cs:=nv.cells) S fun e h1 _ S=> ?_;dsimp only[Yh,Yg]at S;refine(DH (S.ro 1) hl (by omega) 1 16).mono ?_;rintro _ _ ⟨rfl,rfl⟩;refine⟨_,rfl,?_⟩;have z:(ws.length≠nv.nd.inn.length∨ ¬bv 1 16 ws)→ ∀g,aG h no g [aJ e nv.cells] [nv.rows,row p (az ws)]→Value.int .i64 1= .int .i64 (nv.nd.chk ws)∧cd no h g:=fun Q g S=>⟨by unfold Nd.chk;rw[if_pos Q],S.fra⟩;refine⟨fun s g=>s=((p,l,c),⟨e,0,none⟩,())∧aG h no g [aJ e nv.cells] [nv.rows,row p (az ws)]∧ ¬(ws.length≠nv.nd.inn.length∨ ¬bv 1 16 ws),?_,?_⟩
 ·rintro s g ⟨rfl,S,D⟩;unfold tj;dsimp only;have o:bv 1 16 ws:=by apply Decidable.byContradiction;intro h;exact D (.inr h)
  have a:(¬dB nv.kind 1 12∨(dm nv.kind∧ ¬(2≤ws.length∧ws.length≤4))∨(¬dm nv.kind∧ws.length≠1)∨ ¬dB nv.post 0 3∨(nv.post≠0∧ ¬gq nv.kind)∨ ¬nv.nd.else0)→ ∀g,aG h no g [aJ e nv.cells] [nv.rows,row p (az ws)]→Value.int .i64 12= .int .i64 (nv.nd.chk ws)∧cd no h g:=
   fun Q g S=>⟨by unfold Nd.chk;rw[if_neg D];exact congrArg _ (if_pos Q).symm,S.fra⟩
  (repeat (first|((with_reducible refine aV ?_);refine ae (S.c 0) ?_)))
  try dsimp only[Nv.t]
  refine(mj nv.kind 1 12).mono ?_;rintro _ _ ⟨rfl,rfl⟩;refine⟨_,rfl,?_⟩
  (repeat (first|((with_reducible refine aV ?_);refine ae (S.c 0) ?_)))
  try dsimp only[Nv.t]
  refine(FT nv.kind).mono ?_;rintro _ _ ⟨rfl,rfl⟩;refine⟨_,rfl,?_⟩
  (repeat (first|((with_reducible refine aV ?_);refine ae (S.c 0) ?_)))
  try dsimp only[Nv.t]
  refine(uF nv.kind).mono ?_;rintro _ _ ⟨rfl,rfl⟩;refine⟨_,rfl,?_⟩;refine⟨fun s g=>s=((p,l,c),⟨e,0,none⟩,decide (gq nv.kind),())∧aG h no g [aJ e nv.cells] [nv.rows,row p (az ws)]∧dB nv.kind 1 12∧(dm nv.kind→2≤ws.length∧ws.length≤4)∧(¬dm nv.kind→ws.length=1),?_,?_⟩
  ·rintro s g ⟨rfl,S,k1,k2,k3⟩;unfold th;dsimp only;refine⟨fun s g=>s=((p,l,c),⟨e,0,none⟩,())∧aG h no g [aJ e nv.cells] [nv.rows,row p (az ws)]∧dB nv.post 0 3∧(nv.post≠0→gq nv.kind),?_,?_⟩
   ·rintro s g ⟨rfl,S,k4,k5⟩;unfold rW;dsimp only
    (repeat (first|((with_reducible refine oy ?_);refine aL S 0 rfl rfl ?_)));refine(I3 C).mono ?_;rintro _ _ ⟨rfl,F⟩;refine⟨_,rfl,?_⟩;replace S:=S.fra0 F;refine bJ (aq (fun U=> ?_) (fun U=>a (.inr (.inr (.inr (.inr (.inr U))))) _ S));have M:1≤ws.length:=by omega
    have u:=S.ro 1;obtain⟨I,rfl⟩:=u.some_of (by rw[av];omega);refine aC rfl (k:=0) rfl (by omega) ?_
    (repeat (first|((with_reducible refine oy ?_);refine aL S 0 rfl rfl ?_)));have J:ws.getD 0 0=ws[0]:=cA M;refine ae (n:=ws.getD 0 0) (u.cell (i:=0) (aF (by rw[bo (by omega),J]))) ?_;have T:=o ws[0] (VN _);rw[←J]at T;have b: ¬(¬dB nv.nd.kind 1 12∨(dm nv.nd.kind∧ ¬(2≤ws.length∧ws.length≤4))∨(¬dm nv.nd.kind∧ws.length≠1)∨ ¬dB nv.nd.post 0 3∨(nv.nd.post≠0∧ ¬gq nv.nd.kind)∨ ¬nv.nd.else0):=by
     have X:nv.nd.kind=nv.kind:=rfl;have Z:nv.nd.post=nv.post:=rfl;rw[X,Z];rintro(h|h|h|h|h|h)
     ·exact h k1
     ·exact h.2 (k2 h.1)
     ·exact h.2 (k3 h.1)
     ·exact h k4
     ·exact h.2 (k5 h.1)
     ·exact h U
    refine(Li C (S.rd 0) O N (by omega)).mono ?_;rintro _ _ ⟨rfl,F⟩;refine⟨_,rfl,?_⟩;replace S:=S.fra0 F;refine bJ (aq (fun V=> ?_) (fun V=>⟨by unfold Nd.chk;rw[if_neg D,if_neg b,if_pos V],S.fra⟩));have d: ¬ ¬nv.nd.sized (ws.getD 0 0):=fun h=>h V;refine aO (fun m s g=> ∃i:Nat,s=((some I,l,c),⟨e,0,none⟩,gW (ws.take i),(i:Int),())∧i≤l∧m=l-i∧(nv.kind=7→ ∀x∈ws.take i,x=ws.getD 0 0)∧aG h no g [aJ e nv.cells] [nv.rows,row (some I) (az ws)]) l ⟨0,rfl,by omega,rfl,by simp,S⟩ ?_;rintro m s g ⟨i,rfl,ad,rfl,w,S⟩;unfold rV;dsimp only;refine aq (fun aj=> ?_) (fun ab=> ?_)
    ·have q:i<ws.length:=by omega
     have W:=(S.ro 1).cell (aF (bo q));have L:aB g (Addr.add I 0)=some (.int .i64 (ws.getD 0 0)):=(S.ro 1).cell (i:=0) (aF (by rw[bo (by omega),J]));refine aC rfl rfl (by omega) ?_;simp only[hC,VO];refine ae W ?_
     (repeat (first|((with_reducible refine aV ?_);refine ae (S.c 0) ?_)))
     try dsimp only[Nv.t]
     have R:=jD (pY i o);rw[VV]at R;have an:=o ws[i] (VN q);rw[al (n:=gW (ws.take i)+ws[i]) (by omega),al (n:=(i:Int)+1) (by omega),←pX q];refine aH (fun r=> ?_) (fun r=> ?_)
     ·refine aC rfl rfl (by omega) (aC rfl (k:=0) rfl (by omega) ?_);refine ae W (ae L (bh (fun B=>⟨?_,S.fra⟩) (fun B=> ?_)))
      ·have K:nv.nd.kind=7∧ ¬ ∀x∈ws,x=ws.getD 0 0:=⟨r,fun h=>B (h _ (VN q))⟩;unfold Nd.chk;rw[if_neg D,if_neg b,if_neg d,if_pos K]
      ·refine⟨l-(i+1),by omega,i+1,by trivial,by omega,rfl,fun _ x u=> ?_,S⟩;rw[gD q]at u;rcases VW.1 u with u|u
       ·exact w r x u
       ·simp only[VK]at u;subst u;exact B
     ·exact⟨l-(i+1),by omega,i+1,rfl,by omega,rfl,fun h=>absurd h r,S⟩
    ·rw[py (by omega)]at w ⊢;have E: ¬(nv.nd.kind=7∧ ¬ ∀x∈ws,x=ws.getD 0 0):=fun h=>h.2 (w h.1)
     (repeat (first|((with_reducible refine aV ?_);refine ae (S.c 0) ?_)))
     try dsimp only[Nv.t]
     refine aH (fun r=>aq (fun B=>⟨?_,S.fra⟩) (fun B=>⟨?_,S.fra⟩)) (fun r=>⟨?_,S.fra⟩)
     ·have j:nv.nd.kind=8∧gW ws>16:=⟨r,B⟩;unfold Nd.chk;rw[if_neg D,if_neg b,if_neg d,if_neg E,if_pos j]
     ·have j: ¬(nv.nd.kind=8∧gW ws>16):=fun h=>B h.2;unfold Nd.chk;rw[if_neg D,if_neg b,if_neg d,if_neg E,if_neg j]
     ·have j: ¬(nv.nd.kind=8∧gW ws>16):=fun h=>r h.1;unfold Nd.chk;rw[if_neg D,if_neg b,if_neg d,if_neg E,if_neg j]
   ·have A:aB g (Addr.add ⟨e,0,none⟩ 14)=some (.int .i64 nv.post):=S.c 0;refine ae A (aq (fun y=>a (by omega) _ S) fun y=>ae A (aq (fun f=>a (by omega) _ S) fun f=>ae A (bh (fun G=>bJ (aq (fun H=>⟨rfl,S,by omega,fun _=>H⟩) fun H=>a (by omega) _ S)) fun G=>⟨rfl,S,by omega,fun h=>absurd G h⟩)))
  ·refine bJ (aq (fun y=> ?_) (fun y=>a (.inl y) _ S))
   refine aq (fun f=>aq (fun G=>a (by omega) _ S) fun G=>aq (fun H=>a (by omega) _ S) fun H=>bJ (aq (fun w=>⟨rfl,S,y,fun _=>by omega,fun h=>absurd f h⟩) fun w=>absurd f w)) fun f=>
    bJ (aq (fun w=>absurd w f) fun w=>bh (fun r=>a (by omega) _ S) fun r=>⟨rfl,S,y,fun h=>absurd h f,fun _=>by omega⟩)
 ·(repeat (first|((with_reducible refine cp ?_);refine ak (S.c 0) ?_)))
  try dsimp only[Nv.t]
  refine bh (fun y=>z (.inl (by omega)) _ S) (fun y=>bJ (aq (fun f=>⟨rfl,S,?_⟩) fun f=>z (.inr f) _ S));rintro(h|h)
  ·omega
  ·exact h f
theorem DI{nv:Nv}(B:nv.ok)(O:nv.rows.P h)(z:nv.inn.l<2 ^ 62)(A:nv.weights.l<2 ^ 62)(y:nv.bias.l<2 ^ 62){p:Option Addr}{l c:Nat}{ws:List Int}(Q:bD h p (az ws))(M:ws.length=l)(x:l<2 ^ 56):
 au P kF #[nv.v,.slice p l c] h fun v J=>v= .int .i64 (nv.nd.wid ws)∧cd no h J:=by
 refine yU _ _ _ _ ?_;unfold Ar;have S:=((aG.start h no).read nv.rows O).read (row p (az ws)) Q;refine aA (cs:=nv.cells) S fun w T _ S=> ?_;dsimp only[Yh,Yg]at S;have E:nv.nd.kind=nv.kind:=rfl
 (repeat (first|((with_reducible refine oy ?_);refine aL S 0 rfl rfl ?_)));refine(xi B (S.rd 0) z A y (S.ro 1) M x).mono ?_;rintro _ _ ⟨rfl,F⟩;refine⟨_,rfl,?_⟩;replace S:=S.fra0 F;refine bh (fun a=>⟨by unfold Nd.wid;rw[if_pos a],S.fra⟩) (fun a=> ?_);have u: ¬nv.nd.chk ws≠0:=fun h=>h a;have b:bv 1 16 ws:=by
  apply Decidable.byContradiction;intro h;unfold Nd.chk at a;rw[if_pos (.inr h)]at a;exact absurd a (by decide)
 have f:1≤ws.length:=by
  apply Decidable.byContradiction;intro h;unfold Nd.chk at a;split at a
  ·exact absurd a (by decide)
  ·rw[if_pos (by
    by_cases G:dm nv.nd.kind
    ·exact .inr (.inl ⟨G,by omega⟩)
    ·exact .inr (.inr (.inl ⟨G,by omega⟩)))]at a
   exact absurd a (by decide)
 refine⟨fun s g=>s=((p,l,c),⟨w,0,none⟩,())∧aG h no g [aJ w nv.cells] [nv.rows,row p (az ws)]∧ ¬wide nv.nd.kind,?_,?_⟩
 ·rintro s g ⟨rfl,S,D⟩;unfold tl;dsimp only
  (repeat (first|((with_reducible refine aV ?_);refine ae (S.c 0) ?_)))
  try dsimp only[Nv.t]
  refine aH (fun j=>⟨by unfold Nd.wid;rw[if_neg u,if_neg D,if_pos (by rw[E];exact j)],S.fra⟩) (fun j=> ?_);have H: ¬nv.nd.kind=11:=j
  (repeat (first|((with_reducible refine aV ?_);refine ae (S.c 0) ?_)))
  try dsimp only[Nv.t]
  have q:=S.ro 1;refine bh (fun o=> ?_) (fun o=> ?_)
  ·obtain⟨I,rfl⟩:=q.some_of (by rw[av];omega);refine aC rfl (k:=0) rfl (by omega) ?_;refine ae (n:=ws.getD 0 0) (q.cell (i:=0) (aF (by rw[bo (by omega),cA f]))) ⟨?_,S.fra⟩;have d:nv.nd.kind≠8:=o;unfold Nd.wid;rw[if_neg u,if_neg D,if_neg H,if_pos d]
  ·refine aO (fun m s g=> ∃i:Nat,s=((p,l,c),gW (ws.take i),(i:Int),())∧i≤l∧m=l-i∧aG h no g [aJ w nv.cells] [nv.rows,row p (az ws)]) l ⟨0,rfl,by omega,rfl,S⟩ ?_;rintro m s g ⟨i,rfl,L,rfl,S⟩;unfold rX;dsimp only;refine aq (fun N=> ?_) (fun K=> ?_)
   ·have e:i<ws.length:=by omega
    have q:=S.ro 1;obtain⟨I,rfl⟩:=q.some_of (by rw[av];omega);refine aC rfl rfl (by omega) ?_;simp only[hC,VO];refine ae (q.cell (aF (bo e))) ?_;have C:=jD (pY i b);rw[VV]at C;have R:=b ws[i] (VN e);rw[al (n:=gW (ws.take i)+ws[i]) (by omega),al (n:=(i:Int)+1) (by omega),←pX e];exact⟨l-(i+1),by omega,i+1,rfl,by omega,rfl,S⟩
   ·rw[py (by omega)];have d: ¬nv.nd.kind≠8:=fun h=>h o;exact⟨by unfold Nd.wid;rw[if_neg u,if_neg D,if_neg H,if_neg d],S.fra⟩
 ·(repeat (first|((with_reducible refine aV ?_);refine ae (S.c 0) ?_)))
  try dsimp only[Nv.t]
  have r:wide nv.nd.kind→Value.int .i64 nv.width= .int .i64 (nv.nd.wid ws):=fun h=>by unfold Nd.wid;rw[if_neg u,if_pos h];rfl
  refine aH (fun j=> ?_) (fun j=> ?_)
  ·(repeat (first|((with_reducible refine aV ?_);refine ae (S.c 0) ?_)));exact⟨r (.inl j),S.fra⟩
  ·(repeat (first|((with_reducible refine aV ?_);refine ae (S.c 0) ?_)))
   try dsimp only[Nv.t]
   refine aH (fun o=> ?_) (fun o=> ?_)
   ·(repeat (first|((with_reducible refine aV ?_);refine ae (S.c 0) ?_)));exact⟨r (.inr o),S.fra⟩
   ·exact⟨rfl,S,by rw[E];omega⟩
theorem NM{nv:Nv}{p:Option Addr}{l c:Nat}{rs:List Int}(O:bD h p (az rs))(W:rs.length=l)(I:1≤l)(L:l<2 ^ 56)(C:0≤rs.getD 0 0∧rs.getD 0 0≤2 ^ 30)(N:dp nv.kind→0≤nv.step∧nv.step≤2 ^ 20):
 au P qz #[nv.v,.slice p l c] h fun v H=>v= .int .i64 (cf nv.nd rs)∧cd no h H:=by
 refine Ba _ _ _ _ ?_;unfold Co;have S:=(aG.start h no).read (row p (az rs)) O;refine aA (cs:=nv.cells) S fun u V _ S=> ?_;dsimp only[Yh,Yg]at S;have a:=S.ro 0;obtain⟨w,rfl⟩:=a.some_of (by rw[av];omega);refine aC rfl (k:=0) rfl (by omega) ?_;refine ae (n:=rs.getD 0 0) (a.cell (i:=0) (aF (by rw[bo (by omega),cA (by omega)]))) ?_;generalize q:rs.getD 0 0=r at C ⊢;have U:nv.nd.kind=nv.kind:=rfl;refine aO (fun m s g=> ∃i:Nat,s=((some w,l,c),⟨u,0,none⟩,r,(i:Int),())∧i≤l∧m=l-i∧(∀x∈rs.take i,x=r)∧aG h no g [aJ u nv.cells] [row (some w) (az rs)]) l ⟨0,rfl,by omega,rfl,by simp,S⟩ ?_;rintro m s g ⟨i,rfl,K,rfl,b,S⟩;unfold vO;dsimp only;refine aq (fun M=> ?_) (fun J=> ?_)
 ·have j:i<rs.length:=by omega
  have a:=S.ro 0;refine aC rfl rfl (by omega) ?_;simp only[hC,VO];refine ae (a.cell (aF (bo j))) (bh (fun B=>⟨?_,S.fra⟩) (fun B=> ?_))
  ·unfold cf;rw[q,if_pos (fun h=>B (h _ (VN j)))]
  ·rw[al (n:=(i:Int)+1) (by omega)];refine⟨l-(i+1),by omega,i+1,by trivial,by omega,rfl,fun x a=> ?_,S⟩;rw[gD j]at a;rcases VW.1 a with a|a
   ·exact b x a
   ·simp only[VK]at a;subst a;exact B
 ·rw[py (by omega)]at b;have T: ¬ ¬ ∀x∈rs,x=r:=fun h=>h b
  (repeat (first|((with_reducible refine aV ?_);refine ae (S.c 0) ?_)))
  try dsimp only[Nv.t]
  refine(mi nv.kind).mono ?_;rintro _ _ ⟨rfl,rfl⟩;refine⟨_,rfl,?_⟩;have e:cf nv.nd rs=if r=0∧(iK nv.kind∨nv.kind=5) then-1 else if nv.kind=5 then 0 else r*dv nv.kind nv.step:=by
   unfold cf;rw[q,if_neg T];rfl
  rw[e];have o:0≤dv nv.kind nv.step∧dv nv.kind nv.step≤2 ^ 20:=by
   unfold dv;split
   ·rename_i h;exact N h
   ·decide
  have X:0≤r*dv nv.kind nv.step∧r*dv nv.kind nv.step≤2 ^ 50:=by
   refine⟨WA C.1 o.1,?_⟩;have:=Wo C.2 o.2 o.1 (by decide);omega
  have f: ∀g,aG h no g [aJ u nv.cells] [row (some w) (az rs)]→ ¬(r=0∧(iK nv.kind∨nv.kind=5))→ ¬nv.kind=5→aT cJ g ⟨u,0,none⟩ fun E=>aE P .i64 fU #[bA cJ E] g fun D y=>(Value.int .i64 (IntKind.wrap .i64 (r*D))= .int .i64 (if r=0∧(iK nv.kind∨nv.kind=5) then-1 else if nv.kind=5 then 0 else r*dv nv.kind nv.step)∧cd no h y):=by
   intro g S Q R
   (repeat (first|((with_reducible refine oy ?_);refine aL S 0 rfl rfl ?_)));refine(FU nv).mono ?_;rintro _ _ ⟨rfl,F⟩;refine⟨_,rfl,?_⟩;replace S:=S.fra0 F;dsimp only;rw[if_neg Q,if_neg R,al (by omega)];exact⟨rfl,S.fra⟩
  refine aH (fun z=>aq (fun G=>⟨by rw[if_pos ⟨z,.inl G⟩],S.fra⟩) fun G=> ?_) (fun z=> ?_)
  ·(repeat (first|((with_reducible refine aV ?_);refine ae (S.c 0) ?_)))
   try dsimp only[Nv.t]
   refine aH (fun d=>⟨by rw[if_pos ⟨z,.inr d⟩],S.fra⟩) (fun d=> ?_)
   (repeat (first|((with_reducible refine aV ?_);refine ae (S.c 0) ?_)))
   try dsimp only[Nv.t]
   refine aH (fun A=>absurd A d) (fun _=> ?_);have:=f _ S (by omega) d;exact this
  ·(repeat (first|((with_reducible refine aV ?_);refine ae (S.c 0) ?_)))
   try dsimp only[Nv.t]
   refine aH (fun d=>⟨by rw[if_neg (by omega),if_pos d],S.fra⟩) (fun d=> ?_);have:=f _ S (by omega) d;exact this
