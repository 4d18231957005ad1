/- CKind14 CKind14b CKind14c CKind14d, in one text. -/
import Derived.Test.YtdhpmegbmjoekaaGreatDoorCNode
section
namespace Go.Proofs.YtdhpmegbmjoekaaGreatDoor.G
open Go Go.Sh
set_option linter.unusedVariables false
set_option linter.unusedSimpArgs false
abbrev four (k:Int):Prop:=k=1∨k=2∨k=3∨k=4
abbrev wins (k:Int):Prop:=four k∨k=12
abbrev wei (k:Int):Prop:=k=1∨k=2∨k=6
abbrev many (k:Int):Prop:=k=7∨k=8
abbrev wide (k:Int):Prop:=k=1∨k=6
abbrev inR (x lo hi:Int):Prop:=lo≤x∧x≤hi
abbrev scl (k post:Int):Prop:=k=10∨andI .i64 post 1=1
abbrev clm (k post:Int):Prop:=k=9∨andI .i64 post 2=2
def spanN (k size gap:Int):Int:=if k=12 then size else if four k then(size-1)*gap+1 else 1
def Nd.span (n:Nd):Int:=spanN n.kind n.size n.gap
def stepN (k step:Int):Int:=if four k then step else 1
def Nd.else0 (n:Nd):Prop:=
 (¬four n.kind→n.step=0∧n.gap=0∧n.left=0∧n.right=0)∧(¬four n.kind∧n.kind≠12→n.size=0)∧(¬wide n.kind→n.width=0)∧(¬wei n.kind→n.weights.length=0∧n.bias.length=0)∧
  (scl n.kind n.post∨(n.mult=0∧n.shift=0))∧(clm n.kind n.post∨(n.low=0∧n.high=0))
instance (n:Nd):Decidable n.else0:=by unfold Nd.else0;infer_instance
def Nd.wcount (n:Nd) (w:Int):Int:=if n.kind=1 then n.width*n.size*w else if n.kind=2 then w*n.size else n.width*w
def Nd.sized (n:Nd) (w:Int):Prop:=
 (wins n.kind→inR n.size 1 8)∧(four n.kind→inR n.step 1 4∧inR n.gap 1 4∧(0≤n.left∧n.left<n.span)∧(0≤n.right∧n.right<n.span))∧(wide n.kind→inR n.width 1 16)∧
  (wei n.kind→(n.weights.length:Int)=n.wcount w∧(n.bias.length:Int)=(if n.kind=2 then w else n.width)∧fitR (-128) 127 n.weights∧fitR (-16777216) 16777216 n.bias)∧
  (inR n.mult 0 32767∧inR n.shift 0 30∧inR n.low lo32 hi32∧inR n.high lo32 hi32∧n.low≤n.high)
instance (n:Nd) (w:Int):Decidable (n.sized w):=by unfold Nd.sized;infer_instance
def sumI:List Int→Int
 |[]=>0
 |x::r=>x+sumI r
def Nd.chk (n:Nd) (ws:List Int):Int:=
 if ws.length≠n.inn.length∨ ¬fitR 1 16 ws then 1
 else if ¬inR n.kind 1 12∨(many n.kind∧ ¬(2≤ws.length∧ws.length≤4))∨(¬many n.kind∧ws.length≠1)∨ ¬inR n.post 0 3∨(n.post≠0∧ ¬wei n.kind)∨ ¬n.else0 then 12
 else if ¬n.sized (ws.getD 0 0) then 22
 else if n.kind=7∧ ¬(∀x∈ws,x=ws.getD 0 0) then 14
 else if n.kind=8∧sumI ws>16 then 14 else 0
def Nd.wid (n:Nd) (ws:List Int):Int:=
 if n.chk ws≠0 then 0 else if wide n.kind then n.width else if n.kind=11 then 1 else if n.kind≠8 then ws.getD 0 0 else sumI ws
theorem sumI_snoc {xs:List Int} {i:Nat} (hi:i<xs.length):sumI (xs.take (i+1))=sumI (xs.take i)+xs[i]:=by
 rw[List.take_succ_eq_append_getElem hi]
 have: ∀(a:List Int) (x:Int),sumI (a++[x])=sumI a+x:=by
  intro a x
  induction a with
  |nil=>simp[sumI]
  |cons y r ih=>simp only[List.cons_append,sumI,ih];omega
 exact this _ _
theorem sumI_range: ∀{xs:List Int},fitR 1 16 xs→0≤sumI xs∧sumI xs≤16*xs.length
 |[],_=>by simp[sumI]
 |x::r,h=>by
  rw[fitR_cons] at h
  have:=sumI_range h.2
  simp only[sumI,List.length_cons];omega
theorem fitR_take {lo hi:Int} {xs:List Int} (i:Nat) (h:fitR lo hi xs):fitR lo hi (xs.take i):=fun x hx=>h x (List.mem_of_mem_take hx)
section
variable {h:Heap}
theorem Windows14_ok (k:Int):callP P n_ref14_Windows #[.int .i64 k] h fun v h'=>v= .bool (decide (wins k))∧h'=h:=by
 refine call_ref14_Windows _ ?_
 unfold ref14_Windows
 repeat' (first|(first|refine ifB_dec (fun _=> ?_) (fun _=> ?_)|refine ifB_beq (fun _=> ?_) (fun _=> ?_)|refine ifB_bne (fun _=> ?_) (fun _=> ?_)|refine ifB_not ?_)|refine And.intro ?_ rfl)
 all_goals first
  |(congr 1;symm;rw[decide_eq_true_iff];omega)
  |(congr 1;rw[Bool.eq_iff_iff,decide_eq_true_iff,beq_iff_eq];omega)
theorem four14_ok (k:Int):callP P n_ref14_four #[.int .i64 k] h fun v h'=>v= .bool (decide (four k))∧h'=h:=by
 refine call_ref14_four _ ?_
 unfold ref14_four
 repeat' (first|(first|refine ifB_dec (fun _=> ?_) (fun _=> ?_)|refine ifB_beq (fun _=> ?_) (fun _=> ?_)|refine ifB_bne (fun _=> ?_) (fun _=> ?_)|refine ifB_not ?_)|refine And.intro ?_ rfl)
 all_goals first
  |(congr 1;symm;rw[decide_eq_true_iff];omega)
  |(congr 1;rw[Bool.eq_iff_iff,decide_eq_true_iff,beq_iff_eq];omega)
theorem weighs14_ok (k:Int):callP P n_ref14_weighs #[.int .i64 k] h fun v h'=>v= .bool (decide (wei k))∧h'=h:=by
 refine call_ref14_weighs _ ?_
 unfold ref14_weighs
 repeat' (first|(first|refine ifB_dec (fun _=> ?_) (fun _=> ?_)|refine ifB_beq (fun _=> ?_) (fun _=> ?_)|refine ifB_bne (fun _=> ?_) (fun _=> ?_)|refine ifB_not ?_)|refine And.intro ?_ rfl)
 all_goals first
  |(congr 1;symm;rw[decide_eq_true_iff];omega)
  |(congr 1;rw[Bool.eq_iff_iff,decide_eq_true_iff,beq_iff_eq];omega)
theorem Many14_ok (k:Int):callP P n_ref14_Many #[.int .i64 k] h fun v h'=>v= .bool (decide (many k))∧h'=h:=by
 refine call_ref14_Many _ ?_
 unfold ref14_Many
 repeat' (first|(first|refine ifB_dec (fun _=> ?_) (fun _=> ?_)|refine ifB_beq (fun _=> ?_) (fun _=> ?_)|refine ifB_bne (fun _=> ?_) (fun _=> ?_)|refine ifB_not ?_)|refine And.intro ?_ rfl)
 all_goals first
  |(congr 1;symm;rw[decide_eq_true_iff];omega)
  |(congr 1;rw[Bool.eq_iff_iff,decide_eq_true_iff,beq_iff_eq];omega)
theorem in14_ok (x lo hi:Int):callP P n_ref14_in #[.int .i64 x,.int .i64 lo,.int .i64 hi] h fun v h'=>v= .bool (decide (inR x lo hi))∧h'=h:=by
 refine call_ref14_in _ _ _ ?_
 unfold ref14_in
 refine ifB_dec (fun h1=>⟨?_,rfl⟩) (fun h1=>⟨?_,rfl⟩)
 ·congr 1;rw[decide_eq_decide];omega
 ·rw[decide_eq_false (by omega)]
theorem all14_ok {p:Option Addr} {l c:Nat} {xs:List Int} (hx:Row h p (ints xs)) (hl:xs.length=l) (hl2:l<2 ^ 62) (lo hi:Int):
 callP P n_ref14_all #[.slice p l c,.int .i64 lo,.int .i64 hi] h fun v h'=>v= .bool (decide (fitR lo hi xs))∧h'=h:=by
 refine call_ref14_all _ _ _ _ _ ?_
 unfold ref14_all
 refine LoopS_i (fun m s g=>g=h∧ ∃i:Nat,s=((p,l,c),lo,hi,(i:Int),())∧i≤l∧m=l-i∧fitR lo hi (xs.take i)) l ⟨rfl,0,rfl,by omega,rfl,by rw[List.take_zero];exact fitR_nil _ _⟩ ?_
 rintro m s g ⟨rfl,i,rfl,hi',rfl,hf⟩
 unfold ref14_all_l2
 dsimp only
 refine ifB_dec (fun hlt=> ?_) (fun hge=> ?_)
 ·have hix:i<xs.length:=by omega
  obtain⟨aa,rfl⟩:=hx.some_of (by rw[ints_length];omega)
  have hc:=hx.cell (ints_get (List.getElem?_eq_getElem hix))
  have bad: ¬(lo≤xs[i]∧xs[i]≤hi)→Value.bool false= .bool (decide (fitR lo hi xs))∧g=g:=fun hn=>⟨by rw[decide_eq_false (fun h=>hn (h _ (List.getElem_mem hix)))],rfl⟩
  refine idxI_i rfl rfl (by omega) ?_
  simp only[Int.toNat_natCast,Nat.mul_one]
  refine ldInt_i hc (ifB_dec (fun h1=>⟨(bad (by omega)).1,by trivial⟩) fun h1=>idxI_i rfl rfl (by omega) ?_)
  refine ldInt_i hc (ifB_dec (fun h2=>⟨(bad (by omega)).1,by trivial⟩) fun h2=> ?_)
  rw[wrap64_in (by omega)]
  exact⟨l-(i+1),by omega,by trivial,i+1,rfl,by omega,rfl,(fitR_take_succ hix).2 ⟨hf,by omega,by omega⟩⟩
 ·rw[List.take_of_length_le (by omega)] at hf
  exact⟨by rw[decide_eq_true hf],by trivial⟩
theorem Span14_ok (nv:Nv) (hs: -2 ^ 20≤nv.size∧nv.size≤2 ^ 20) (hg: -2 ^ 20≤nv.gap∧nv.gap≤2 ^ 20):callP P n_ref14_Span #[nv.v] h fun v h'=>v= .int .i64 nv.nd.span∧Fra no h h':=by
 refine call_ref14_Span _ ?_
 unfold ref14_Span
 have S:=Sep.start h no
 refine newI_S (cs:=nv.cells) S fun b1 h1 _ S=> ?_
 (repeat (first|((with_reducible refine ldInt_id ?_);refine ldInt_i (S.cell 0 rfl rfl) ?_)))
 dsimp only[Nv.t]
 have e:nv.nd.span=if nv.kind=12 then nv.size else if four nv.kind then(nv.size-1)*nv.gap+1 else 1:=rfl
 rw[e]
 refine ifB_beq (fun h1=> ?_) (fun h1=> ?_)
 ·(repeat (first|((with_reducible refine ldInt_id ?_);refine ldInt_i (S.cell 0 rfl rfl) ?_)))
  rw[if_pos h1];exact⟨rfl,S.fra⟩
 ·(repeat (first|((with_reducible refine ldInt_id ?_);refine ldInt_i (S.cell 0 rfl rfl) ?_)))
  dsimp only[Nv.t]
  refine(Windows14_ok nv.kind).mono ?_
  rintro _ _ ⟨rfl,rfl⟩
  refine⟨_,rfl,?_⟩
  rw[if_neg h1]
  refine ifB_not (ifB_dec (fun h2=> ?_) (fun h2=> ?_))
  ·(repeat (first|((with_reducible refine ldInt_id ?_);refine ldInt_i (S.cell 0 rfl rfl) ?_)))
   dsimp only[Nv.t]
   rw[if_pos (by omega)]
   have h3: -2 ^ 42≤(nv.size-1)*nv.gap∧(nv.size-1)*nv.gap≤2 ^ 42:=by
    have a1:(nv.size-1).natAbs≤2 ^ 21:=by omega
    have a2:nv.gap.natAbs≤2 ^ 20:=by omega
    have a3:((nv.size-1)*nv.gap).natAbs≤2 ^ 21*2 ^ 20:=by rw[Int.natAbs_mul];exact Nat.mul_le_mul a1 a2
    omega
   rw[wrap64_in (n:=nv.size-1) (by omega),wrap64_in (n:=(nv.size-1)*nv.gap) (by omega),wrap64_in (by omega)]
   exact⟨rfl,S.fra⟩
  ·rw[if_neg (by omega)];exact⟨rfl,S.fra⟩
theorem Step14_ok (nv:Nv):callP P n_ref14_Step #[nv.v] h fun v h'=>v= .int .i64 (stepN nv.kind nv.step)∧Fra no h h':=by
 refine call_ref14_Step _ ?_
 unfold ref14_Step
 have S:=Sep.start h no
 refine newI_S (cs:=nv.cells) S fun b1 h1 _ S=> ?_
 (repeat (first|((with_reducible refine ldInt_id ?_);refine ldInt_i (S.cell 0 rfl rfl) ?_)))
 dsimp only[Nv.t]
 refine(four14_ok nv.kind).mono ?_
 rintro _ _ ⟨rfl,rfl⟩
 refine⟨_,rfl,?_⟩
 unfold stepN
 refine ifB_dec (fun h2=> ?_) (fun h2=> ?_)
 ·(repeat (first|((with_reducible refine ldInt_id ?_);refine ldInt_i (S.cell 0 rfl rfl) ?_)))
  rw[if_pos h2];exact⟨rfl,S.fra⟩
 ·rw[if_neg h2];exact⟨rfl,S.fra⟩
theorem bd_mul {a b:Int} {x y:Nat} (ha:0≤a∧a≤x) (hb:0≤b∧b≤y):0≤a*b∧a*b≤((x*y:Nat):Int):=by
 refine⟨Int.mul_nonneg ha.1 hb.1,?_⟩
 have:=Int.mul_le_mul ha.2 hb.2 hb.1 (by omega)
 simpa using this
theorem weights14_ok (nv:Nv) {w:Int} (hw:0≤w∧w≤16) (hwd:nv.kind≠2→0≤nv.width∧nv.width≤16) (hsz:nv.kind=1∨nv.kind=2→0≤nv.size∧nv.size≤8):callP P n_ref14_weights #[nv.v,.int .i64 w] h fun v h'=>v= .int .i64 (nv.nd.wcount w)∧Fra no h h':=by
 refine call_ref14_weights _ _ ?_
 unfold ref14_weights
 have S:=Sep.start h no
 refine newI_S (cs:=nv.cells) S fun b1 h1 _ S=> ?_
 (repeat (first|((with_reducible refine ldInt_id ?_);refine ldInt_i (S.cell 0 rfl rfl) ?_)))
 dsimp only[Nv.t]
 have e:nv.nd.wcount w=if nv.kind=1 then nv.width*nv.size*w else if nv.kind=2 then w*nv.size else nv.width*w:=rfl
 rw[e]
 refine ifB_beq (fun k1=> ?_) (fun k1=> ?_)
 ·(repeat (first|((with_reducible refine ldInt_id ?_);refine ldInt_i (S.cell 0 rfl rfl) ?_)))
  dsimp only[Nv.t]
  have b1:=bd_mul (x:=16) (y:=8) (hwd (by omega)) (hsz (.inl k1))
  have b2:=bd_mul (x:=128) (y:=16) (a:=nv.width*nv.size) (by omega) hw
  rw[wrap64_in (n:=nv.width*nv.size) (by omega),wrap64_in (by omega),if_pos k1]
  exact⟨rfl,S.fra⟩
 ·(repeat (first|((with_reducible refine ldInt_id ?_);refine ldInt_i (S.cell 0 rfl rfl) ?_)))
  dsimp only[Nv.t]
  rw[if_neg k1]
  refine ifB_beq (fun k2=> ?_) (fun k2=> ?_)
  ·(repeat (first|((with_reducible refine ldInt_id ?_);refine ldInt_i (S.cell 0 rfl rfl) ?_)))
   dsimp only[Nv.t]
   have b1:=bd_mul (x:=16) (y:=8) hw (hsz (.inr k2))
   rw[wrap64_in (by omega),if_pos k2]
   exact⟨rfl,S.fra⟩
  ·(repeat (first|((with_reducible refine ldInt_id ?_);refine ldInt_i (S.cell 0 rfl rfl) ?_)))
   dsimp only[Nv.t]
   have b1:=bd_mul (x:=16) (y:=16) (hwd k2) hw
   rw[wrap64_in (by omega),if_neg k2]
   exact⟨rfl,S.fra⟩
end
end Go.Proofs.YtdhpmegbmjoekaaGreatDoor.G
end
section
namespace Go.Proofs.YtdhpmegbmjoekaaGreatDoor.G
open Go Go.Sh
set_option linter.unusedVariables false
set_option linter.unusedSimpArgs false
theorem else0_iff (nv:Nv):nv.nd.else0↔((¬four nv.kind→nv.step=0∧nv.gap=0∧nv.left=0∧nv.right=0)∧(¬four nv.kind∧nv.kind≠12→nv.size=0)∧(¬wide nv.kind→nv.width=0)∧(¬wei nv.kind→nv.weights.xs.length=0∧nv.bias.xs.length=0)∧
 (scl nv.kind nv.post∨(nv.mult=0∧nv.shift=0))∧(clm nv.kind nv.post∨(nv.low=0∧nv.high=0))):=Iff.rfl
theorem sized_iff (nv:Nv) (w:Int):nv.nd.sized w↔((wins nv.kind→inR nv.size 1 8)∧(four nv.kind→inR nv.step 1 4∧inR nv.gap 1 4∧(0≤nv.left∧nv.left<nv.nd.span)∧(0≤nv.right∧nv.right<nv.nd.span))∧(wide nv.kind→inR nv.width 1 16)∧
 (wei nv.kind→(nv.weights.xs.length:Int)=nv.nd.wcount w∧(nv.bias.xs.length:Int)=(if nv.kind=2 then w else nv.width)∧fitR (-128) 127 nv.weights.xs∧fitR (-16777216) 16777216 nv.bias.xs)∧
 (inR nv.mult 0 32767∧inR nv.shift 0 30∧inR nv.low lo32 hi32∧inR nv.high lo32 hi32∧nv.low≤nv.high)):=Iff.rfl
section
variable {h:Heap}
theorem else0_14_ok {nv:Nv} (hok:nv.ok):callP P n_ref14_else0 #[nv.v] h fun v h'=>v= .bool (decide nv.nd.else0)∧Fra no h h':=by
 refine call_ref14_else0 _ ?_
 unfold ref14_else0
 have lw:=hok.2.1.1
 have lb:=hok.2.2.1
 have S:=Sep.start h no
 refine newI_S (cs:=nv.cells) S fun b1 h1 _ S=> ?_
 dsimp only[List.nil_append] at S
 have bad: ∀g,Sep h no g [blk b1 nv.cells] []→ ¬nv.nd.else0→Value.bool false= .bool (decide nv.nd.else0)∧Fra no h g:=fun g S hn=>⟨by rw[decide_eq_false hn],S.fra⟩
 have iff:=else0_iff nv
 (repeat (first|((with_reducible refine ldInt_id ?_);refine ldInt_i (S.cell 0 rfl rfl) ?_)))
 dsimp only[Nv.t]
 refine(four14_ok nv.kind).mono ?_
 rintro _ _ ⟨rfl,rfl⟩
 refine⟨_,rfl,?_⟩
 (repeat (first|((with_reducible refine ldInt_id ?_);refine ldInt_i (S.cell 0 rfl rfl) ?_)))
 dsimp only[Nv.t]
 refine(weighs14_ok nv.kind).mono ?_
 rintro _ _ ⟨rfl,rfl⟩
 refine⟨_,rfl,?_⟩
 refine⟨fun s g=>s=(⟨b1,0,none⟩,decide (four nv.kind),decide (wei nv.kind),decide (wide nv.kind),())∧Sep h no g [blk b1 nv.cells] [],?_,?_⟩
 ·rintro s g ⟨rfl,S⟩
  unfold ref14_else0_j4
  dsimp only
  refine⟨fun s g=>s=(⟨b1,0,none⟩,decide (four nv.kind),decide (wei nv.kind),decide (wide nv.kind),decide (scl nv.kind nv.post),())∧Sep h no g [blk b1 nv.cells] [],?_,?_⟩
  ·rintro s g ⟨rfl,S⟩
   unfold ref14_else0_j5
   dsimp only
   refine⟨fun s g=>s=(⟨b1,0,none⟩,decide (four nv.kind),decide (wei nv.kind),decide (wide nv.kind),decide (scl nv.kind nv.post),decide (clm nv.kind nv.post),())∧Sep h no g [blk b1 nv.cells] [],?_,?_⟩
   ·rintro s g ⟨rfl,S⟩
    unfold ref14_else0_j6
    dsimp only
    refine⟨fun s g=>s=(⟨b1,0,none⟩,decide (four nv.kind),decide (wei nv.kind),decide (wide nv.kind),decide (scl nv.kind nv.post),decide (clm nv.kind nv.post),())∧Sep h no g [blk b1 nv.cells] []∧(¬four nv.kind→nv.step=0∧nv.gap=0∧nv.left=0∧nv.right=0),?_,?_⟩
    ·rintro s g ⟨rfl,S,f1⟩
     unfold ref14_else0_j8
     dsimp only
     refine⟨fun s g=>s=(⟨b1,0,none⟩,decide (wei nv.kind),decide (scl nv.kind nv.post),decide (clm nv.kind nv.post),())∧Sep h no g [blk b1 nv.cells] []∧(¬four nv.kind∧nv.kind≠12→nv.size=0)∧(¬wide nv.kind→nv.width=0),?_,?_⟩
     ·rintro s g ⟨rfl,S,f2,f3⟩
      unfold ref14_else0_j10
      dsimp only
      refine⟨fun s g=>s=(⟨b1,0,none⟩,decide (scl nv.kind nv.post),decide (clm nv.kind nv.post),())∧Sep h no g [blk b1 nv.cells] []∧(¬wei nv.kind→nv.weights.xs.length=0∧nv.bias.xs.length=0),?_,?_⟩
      ·rintro s g ⟨rfl,S,f4⟩
       unfold ref14_else0_j12
       dsimp only
       have fin:(scl nv.kind nv.post∨(nv.mult=0∧nv.shift=0))→ ∀b,b=decide (clm nv.kind nv.post∨(nv.low=0∧nv.high=0))→Value.bool b= .bool (decide nv.nd.else0)∧Fra no h g:=by
        intro h1 b hb
        refine⟨?_,S.fra⟩
        congr 1
        rw[hb,decide_eq_decide,iff]
        exact⟨fun h2=>⟨f1,f2,f3,f4,h1,h2⟩,fun h2=>h2.2.2.2.2.2⟩
       have fin2: ¬(scl nv.kind nv.post∨(nv.mult=0∧nv.shift=0))→Value.bool false= .bool (decide nv.nd.else0)∧Fra no h g:=fun h1=>bad g S fun h2=>h1 (iff.1 h2).2.2.2.2.1
       have c10:cellH g (Addr.add ⟨b1,0,none⟩ 10)=some (.int .i64 nv.mult):=S.cell 0 rfl rfl
       have c11:cellH g (Addr.add ⟨b1,0,none⟩ 11)=some (.int .i64 nv.shift):=S.cell 0 rfl rfl
       have c12:cellH g (Addr.add ⟨b1,0,none⟩ 12)=some (.int .i64 nv.low):=S.cell 0 rfl rfl
       have c13:cellH g (Addr.add ⟨b1,0,none⟩ 13)=some (.int .i64 nv.high):=S.cell 0 rfl rfl
       refine ifB_dec (fun hs=>ifB_dec (fun hc=>fin (.inl hs) _ ?_) fun hc=>ldInt_i c12 (ifB_beq (fun h3=>ldInt_i c13 (fin (.inl hs) _ ?_)) fun h3=>fin (.inl hs) _ ?_)) fun hs=>ldInt_i c10 (ifB_beq (fun h5=>ldInt_i c11 (ifB_beq (fun h6=>ifB_dec (fun hc=>fin (.inr ⟨h5,h6⟩) _ ?_) fun hc=>ldInt_i c12 (ifB_beq (fun h3=>ldInt_i c13 (fin (.inr ⟨h5,h6⟩) _ ?_)) fun h3=>fin (.inr ⟨h5,h6⟩) _ ?_)) fun h6=>fin2 (by omega))) fun h5=>fin2 (by omega))
       all_goals first
        |(symm;rw[decide_eq_true_iff];omega)
        |(symm;rw[decide_eq_false_iff_not];omega)
        |(rw[Bool.eq_iff_iff,decide_eq_true_iff,beq_iff_eq];omega)
      ·refine ifB_not (ifB_dec (fun hw=>⟨rfl,S,fun h=>absurd hw h⟩) fun hw=> ?_)
       (repeat (first|((with_reducible refine ldSlice_id ?_);refine ldSlice_i (S.cell 0 rfl rfl) ?_)))
       dsimp only[Nv.t]
       refine ifB_dec (fun h3=>bad _ S (by rw[iff];omega)) fun h3=> ?_
       (repeat (first|((with_reducible refine ldSlice_id ?_);refine ldSlice_i (S.cell 0 rfl rfl) ?_)))
       dsimp only[Nv.t]
       exact ifB_dec (fun h4=>bad _ S (by rw[iff];omega)) fun h4=>⟨rfl,S,fun _=>by omega⟩
     ·have c2:cellH g (Addr.add ⟨b1,0,none⟩ 2)=some (.int .i64 nv.width):=S.cell 0 rfl rfl
      have c3:cellH g (Addr.add ⟨b1,0,none⟩ 3)=some (.int .i64 nv.size):=S.cell 0 rfl rfl
      have c0:cellH g ⟨b1,0,none⟩=some (.int .i64 nv.kind):=S.cell 0 rfl rfl
      have tail:(¬four nv.kind∧nv.kind≠12→nv.size=0)→ifB (!decide (wide nv.kind)) (ldInt .i64 g (Addr.add ⟨b1,0,none⟩ 2) fun n33=>ifB (n33 !=0) (Value.bool false= .bool (decide nv.nd.else0)∧Fra no h g)
       ((((⟨b1,0,none⟩:Addr),decide (wei nv.kind),decide (scl nv.kind nv.post),decide (clm nv.kind nv.post),()):Addr×Bool×Bool×Bool×Unit)=(⟨b1,0,none⟩,decide (wei nv.kind),decide (scl nv.kind nv.post),decide (clm nv.kind nv.post),())∧Sep h no g [blk b1 nv.cells] []∧(¬four nv.kind∧nv.kind≠12→nv.size=0)∧(¬wide nv.kind→nv.width=0)))
       ((((⟨b1,0,none⟩:Addr),decide (wei nv.kind),decide (scl nv.kind nv.post),decide (clm nv.kind nv.post),()):Addr×Bool×Bool×Bool×Unit)=(⟨b1,0,none⟩,decide (wei nv.kind),decide (scl nv.kind nv.post),decide (clm nv.kind nv.post),())∧Sep h no g [blk b1 nv.cells] []∧(¬four nv.kind∧nv.kind≠12→nv.size=0)∧(¬wide nv.kind→nv.width=0)):=by
       intro f2
       refine ifB_not (ifB_dec (fun hw=>⟨rfl,S,f2,fun h=>absurd hw h⟩) fun hw=>ldInt_i c2 (ifB_bne (fun h3=>bad _ S (by rw[iff];omega)) fun h3=>⟨rfl,S,f2,fun _=>h3⟩))
      refine ifB_not (ifB_dec (fun ho=>tail (by omega)) fun ho=>ldInt_i c0 (ifB_bne (fun h3=>ldInt_i c3 (ifB_bne (fun h4=>bad _ S (by rw[iff];omega)) fun h4=>tail (by omega))) fun h3=>tail (by omega)))
    ·have c4:cellH g (Addr.add ⟨b1,0,none⟩ 4)=some (.int .i64 nv.step):=S.cell 0 rfl rfl
     have c5:cellH g (Addr.add ⟨b1,0,none⟩ 5)=some (.int .i64 nv.gap):=S.cell 0 rfl rfl
     have c6:cellH g (Addr.add ⟨b1,0,none⟩ 6)=some (.int .i64 nv.left):=S.cell 0 rfl rfl
     have c7:cellH g (Addr.add ⟨b1,0,none⟩ 7)=some (.int .i64 nv.right):=S.cell 0 rfl rfl
     refine ifB_not (ifB_dec (fun ho=>⟨rfl,S,fun h=>absurd ho h⟩) fun ho=>ldInt_i c4 (ifB_bne (fun h3=>bad _ S (by rw[iff];omega)) fun h3=>ldInt_i c5 (ifB_bne (fun h4=>bad _ S (by rw[iff];omega)) fun h4=>ldInt_i c6 (ifB_bne (fun h5=>bad _ S (by rw[iff];omega)) fun h5=>
      ldInt_i c7 (ifB_bne (fun h6=>bad _ S (by rw[iff];omega)) fun h6=>⟨rfl,S,fun _=>⟨h3,h4,h5,h6⟩⟩)))))
   ·have c0:cellH g ⟨b1,0,none⟩=some (.int .i64 nv.kind):=S.cell 0 rfl rfl
    have c14:cellH g (Addr.add ⟨b1,0,none⟩ 14)=some (.int .i64 nv.post):=S.cell 0 rfl rfl
    refine ldInt_i c0 (ifB_beq (fun h3=>⟨?_,S⟩) fun h3=>ldInt_i c14 ⟨?_,S⟩)
    ·rw[decide_eq_true (show clm nv.kind nv.post from .inl h3)]
    ·have:decide (clm nv.kind nv.post)=(andI .i64 nv.post 2==2):=by rw[Bool.eq_iff_iff,decide_eq_true_iff,beq_iff_eq];omega
     rw[this]
  ·have c0:cellH g ⟨b1,0,none⟩=some (.int .i64 nv.kind):=S.cell 0 rfl rfl
   have c14:cellH g (Addr.add ⟨b1,0,none⟩ 14)=some (.int .i64 nv.post):=S.cell 0 rfl rfl
   refine ldInt_i c0 (ifB_beq (fun h3=>⟨?_,S⟩) fun h3=>ldInt_i c14 ⟨?_,S⟩)
   ·rw[decide_eq_true (show scl nv.kind nv.post from .inl h3)]
   ·have:decide (scl nv.kind nv.post)=(andI .i64 nv.post 1==1):=by rw[Bool.eq_iff_iff,decide_eq_true_iff,beq_iff_eq];omega
    rw[this]
 ·(repeat (first|((with_reducible refine ldInt_id ?_);refine ldInt_i (S.cell 0 rfl rfl) ?_)))
  dsimp only[Nv.t]
  refine ifB_beq (fun h3=>⟨?_,S⟩) fun h3=> ?_
  ·rw[decide_eq_true (show wide nv.kind from .inl h3)]
  ·(repeat (first|((with_reducible refine ldInt_id ?_);refine ldInt_i (S.cell 0 rfl rfl) ?_)))
   dsimp only[Nv.t]
   have:decide (wide nv.kind)=(nv.kind==6):=by rw[Bool.eq_iff_iff,decide_eq_true_iff,beq_iff_eq];omega
   rw[this]
   exact⟨rfl,S⟩
end
end Go.Proofs.YtdhpmegbmjoekaaGreatDoor.G
end
section
namespace Go.Proofs.YtdhpmegbmjoekaaGreatDoor.G
open Go Go.Sh
set_option linter.unusedVariables false
set_option linter.unusedSimpArgs false
section
variable {h:Heap}
set_option maxHeartbeats 1000000 in
theorem sized14_ok {nv:Nv} (hok:nv.ok) (hr:nv.rows.P h) (hlw:nv.weights.l<2 ^ 62) (hlb:nv.bias.l<2 ^ 62) {w:Int} (hw:0≤w∧w≤16):callP P n_ref14_sized #[nv.v,.int .i64 w] h fun v h'=>v= .bool (decide (nv.nd.sized w))∧Fra no h h':=by
 refine call_ref14_sized _ _ ?_
 unfold ref14_sized
 have lw:=hok.2.1.1
 have lb:=hok.2.2.1
 have S:=(Sep.start h no).read nv.rows hr
 refine newI_S (cs:=nv.cells) S fun b1 h1 _ S=> ?_
 dsimp only[List.nil_append] at S
 have bad: ∀g,Sep h no g [blk b1 nv.cells] [nv.rows]→ ¬nv.nd.sized w→Value.bool false= .bool (decide (nv.nd.sized w))∧Fra no h g:=fun g S hn=>⟨by rw[decide_eq_false hn],S.fra⟩
 have iff:=sized_iff nv w
 have hlo:lo32= -2147483648:=rfl
 have hhi:hi32=2147483647:=rfl
 (repeat (first|((with_reducible refine ldInt_id ?_);refine ldInt_i (S.cell 0 rfl rfl) ?_)))
 try dsimp only[Nv.t]
 refine(four14_ok nv.kind).mono ?_
 rintro _ _ ⟨rfl,rfl⟩
 refine⟨_,rfl,?_⟩
 (repeat (first|((with_reducible refine ldInt_id ?_);refine ldInt_i (S.cell 0 rfl rfl) ?_)))
 try dsimp only[Nv.t]
 refine(weighs14_ok nv.kind).mono ?_
 rintro _ _ ⟨rfl,rfl⟩
 refine⟨_,rfl,?_⟩
 (repeat (first|((with_reducible refine ldInt_id ?_);refine ldInt_i (S.cell 0 rfl rfl) ?_)))
 try dsimp only[Nv.t]
 refine(in14_ok nv.size 1 8).mono ?_
 rintro _ _ ⟨rfl,rfl⟩
 refine⟨_,rfl,?_⟩
 refine⟨fun s g=>s=(w,⟨b1,0,none⟩,decide (four nv.kind),decide (wei nv.kind),())∧Sep h no g [blk b1 nv.cells] [nv.rows]∧(wins nv.kind→inR nv.size 1 8),?_,?_⟩
 ·rintro s g ⟨rfl,S,f1⟩
  unfold ref14_sized_j6
  dsimp only
  (repeat (first|((with_reducible refine ldInt_id ?_);refine ldInt_i (S.cell 0 rfl rfl) ?_)))
  try dsimp only[Nv.t]
  refine(in14_ok nv.step 1 4).mono ?_
  rintro _ _ ⟨rfl,rfl⟩
  refine⟨_,rfl,?_⟩
  (repeat (first|((with_reducible refine ldInt_id ?_);refine ldInt_i (S.cell 0 rfl rfl) ?_)))
  try dsimp only[Nv.t]
  refine(in14_ok nv.gap 1 4).mono ?_
  rintro _ _ ⟨rfl,rfl⟩
  refine⟨_,rfl,?_⟩
  refine⟨fun s g=>s=(w,⟨b1,0,none⟩,decide (four nv.kind),decide (wei nv.kind),())∧Sep h no g [blk b1 nv.cells] [nv.rows]∧(four nv.kind→inR nv.step 1 4∧inR nv.gap 1 4),?_,?_⟩
  ·rintro s g ⟨rfl,S,f2⟩
   unfold ref14_sized_j10
   dsimp only
   refine⟨fun s g=>s=(w,⟨b1,0,none⟩,decide (wei nv.kind),())∧Sep h no g [blk b1 nv.cells] [nv.rows]∧(four nv.kind→(0≤nv.left∧nv.left<nv.nd.span)∧(0≤nv.right∧nv.right<nv.nd.span)),?_,?_⟩
   ·rintro s g ⟨rfl,S,f3⟩
    unfold ref14_sized_j12
    dsimp only
    (repeat (first|((with_reducible refine ldInt_id ?_);refine ldInt_i (S.cell 0 rfl rfl) ?_)))
    try dsimp only[Nv.t]
    refine(in14_ok nv.width 1 16).mono ?_
    rintro _ _ ⟨rfl,rfl⟩
    refine⟨_,rfl,?_⟩
    refine⟨fun s g=>s=(w,⟨b1,0,none⟩,decide (wei nv.kind),())∧Sep h no g [blk b1 nv.cells] [nv.rows]∧(wide nv.kind→inR nv.width 1 16),?_,?_⟩
    ·rintro s g ⟨rfl,S,f4⟩
     unfold ref14_sized_j15
     dsimp only
     refine⟨fun s g=>s=(⟨b1,0,none⟩,())∧Sep h no g [blk b1 nv.cells] [nv.rows]∧(wei nv.kind→(nv.weights.xs.length:Int)=nv.nd.wcount w∧(nv.bias.xs.length:Int)=(if nv.kind=2 then w else nv.width)∧fitR (-128) 127 nv.weights.xs∧fitR (-16777216) 16777216 nv.bias.xs),?_,?_⟩
     ·rintro s g ⟨rfl,S,f5⟩
      unfold ref14_sized_j23
      dsimp only
      have fin: ∀b,b=decide (inR nv.mult 0 32767∧inR nv.shift 0 30∧inR nv.low lo32 hi32∧inR nv.high lo32 hi32∧nv.low≤nv.high)→Value.bool b= .bool (decide (nv.nd.sized w))∧Fra no h g:=by
       intro b hb
       refine⟨?_,S.fra⟩
       congr 1
       rw[hb,decide_eq_decide,iff]
       exact⟨fun h2=>⟨f1,fun h=>⟨(f2 h).1,(f2 h).2,f3 h⟩,f4,f5,h2⟩,fun h2=>h2.2.2.2.2⟩
      (repeat (first|((with_reducible refine ldInt_id ?_);refine ldInt_i (S.cell 0 rfl rfl) ?_)))
      try dsimp only[Nv.t]
      refine(in14_ok nv.mult 0 32767).mono ?_
      rintro _ _ ⟨rfl,rfl⟩
      refine⟨_,rfl,?_⟩
      (repeat (first|((with_reducible refine ldInt_id ?_);refine ldInt_i (S.cell 0 rfl rfl) ?_)))
      try dsimp only[Nv.t]
      refine(in14_ok nv.shift 0 30).mono ?_
      rintro _ _ ⟨rfl,rfl⟩
      refine⟨_,rfl,?_⟩
      (repeat (first|((with_reducible refine ldInt_id ?_);refine ldInt_i (S.cell 0 rfl rfl) ?_)))
      try dsimp only[Nv.t]
      refine(in14_ok nv.low (-2147483648) 2147483647).mono ?_
      rintro _ _ ⟨rfl,rfl⟩
      refine⟨_,rfl,?_⟩
      (repeat (first|((with_reducible refine ldInt_id ?_);refine ldInt_i (S.cell 0 rfl rfl) ?_)))
      try dsimp only[Nv.t]
      refine(in14_ok nv.high (-2147483648) 2147483647).mono ?_
      rintro _ _ ⟨rfl,rfl⟩
      refine⟨_,rfl,?_⟩
      refine ifB_dec (fun h1=>ifB_dec (fun h2=>ifB_dec (fun h3=>ifB_dec (fun h4=> ?_) fun h4=>fin _ ?_) fun h3=>fin _ ?_) fun h2=>fin _ ?_) fun h1=>fin _ ?_
      ·(repeat (first|((with_reducible refine ldInt_id ?_);refine ldInt_i (S.cell 0 rfl rfl) ?_)))
       try dsimp only[Nv.t]
       exact fin _ (Bool.eq_iff_iff.2 ⟨fun h=>decide_eq_true (by have:=of_decide_eq_true h;omega),fun h=>decide_eq_true (by have:=of_decide_eq_true h;omega)⟩)
      all_goals (symm;rw[decide_eq_false_iff_not];omega)
     ·refine ifB_dec (fun hwe=> ?_) (fun hwe=>⟨rfl,S,fun h=>absurd h hwe⟩)
      (repeat (first|((with_reducible refine ldInt_id ?_);refine ldInt_i (S.cell 0 rfl rfl) ?_)))
      try dsimp only[Nv.t]
      refine⟨fun s g=>s=(w,⟨b1,0,none⟩,(if nv.kind=2 then w else nv.width),())∧Sep h no g [blk b1 nv.cells] [nv.rows],?_,?_⟩
      ·rintro s g ⟨rfl,S⟩
       unfold ref14_sized_j19
       dsimp only
       have r1:Row g nv.weights.p (ints nv.weights.xs):=S.readF 0 (l:=[nv.inn.row,nv.weights.row,nv.bias.row]) (f:=nv.weights.row) (by simp) rfl
       have r2:Row g nv.bias.p (ints nv.bias.xs):=S.readF 0 (l:=[nv.inn.row,nv.weights.row,nv.bias.row]) (f:=nv.bias.row) (by simp) rfl
       (repeat (first|((with_reducible refine ldSlice_id ?_);refine ldSlice_i (S.cell 0 rfl rfl) ?_)))
       try dsimp only[Nv.t]
       refine(all14_ok r1 lw hlw (-128) 127).mono ?_
       rintro _ _ ⟨rfl,rfl⟩
       refine⟨_,rfl,?_⟩
       (repeat (first|((with_reducible refine ldSlice_id ?_);refine ldSlice_i (S.cell 0 rfl rfl) ?_)))
       try dsimp only[Nv.t]
       refine(all14_ok r2 lb hlb (-16777216) 16777216).mono ?_
       rintro _ _ ⟨rfl,rfl⟩
       refine⟨_,rfl,?_⟩
       (repeat (first|((with_reducible refine ldSlice_id ?_);refine ldSlice_i (S.cell 0 rfl rfl) ?_)|((with_reducible refine ldAg_id ?_);refine ldAg_S S 0 rfl rfl ?_)))
       try dsimp only[Nv.t]
       refine(weights14_ok nv hw (by omega) (by omega)).mono ?_
       rintro _ _ ⟨rfl,F⟩
       refine⟨_,rfl,?_⟩
       replace S:=S.fra0 F
       (repeat (first|((with_reducible refine and_id ?_);refine and_i (S.cell 0 rfl rfl) ?_)))
       try dsimp only[Nv.t]
       refine ifB_bne (fun h3=>bad _ S (by rw[iff];omega)) fun h3=> ?_
       (repeat (first|((with_reducible refine ldSlice_id ?_);refine ldSlice_i (S.cell 0 rfl rfl) ?_)))
       try dsimp only[Nv.t]
       refine ifB_bne (fun h4=>bad _ S (by rw[iff];omega)) fun h4=>ifB_not (ifB_dec (fun h5=>ifB_not (ifB_dec (fun h6=>⟨rfl,S,fun _=>⟨by omega,by omega,h5,h6⟩⟩) fun h6=>bad _ S (by rw[iff];exact fun h=>h6 (h.2.2.2.1 hwe).2.2.2))) fun h5=>bad _ S (by rw[iff];exact fun h=>h5 (h.2.2.2.1 hwe).2.2.1))
      ·(repeat (first|((with_reducible refine ldInt_id ?_);refine ldInt_i (S.cell 0 rfl rfl) ?_)))
       try dsimp only[Nv.t]
       refine ifB_beq (fun h3=>⟨by rw[if_pos h3],S⟩) (fun h3=>⟨by rw[if_neg h3],S⟩)
    ·(repeat (first|((with_reducible refine ldInt_id ?_);refine ldInt_i (S.cell 0 rfl rfl) ?_)))
     try dsimp only[Nv.t]
     refine ifB_beq (fun h3=>ifB_not (ifB_dec (fun h4=>⟨rfl,S,fun _=>h4⟩) fun h4=>bad _ S (by rw[iff];omega))) (fun h3=> ?_)
     (repeat (first|((with_reducible refine ldInt_id ?_);refine ldInt_i (S.cell 0 rfl rfl) ?_)))
     try dsimp only[Nv.t]
     exact ifB_beq (fun h5=>ifB_not (ifB_dec (fun h4=>⟨rfl,S,fun _=>h4⟩) fun h4=>bad _ S (by rw[iff];omega))) (fun h5=>⟨rfl,S,fun h=>by omega⟩)
   ·refine ifB_dec (fun ho=> ?_) (fun ho=>⟨rfl,S,fun h=>absurd h ho⟩)
    have f1':=f1 (.inl ho)
    have f2':=f2 ho
    (repeat (first|((with_reducible refine ldInt_id ?_);refine ldInt_i (S.cell 0 rfl rfl) ?_)))
    try dsimp only[Nv.t]
    refine ifB_dec (fun h3=>bad _ S (by rw[iff];omega)) (fun h3=> ?_)
    (repeat (first|((with_reducible refine ldInt_id ?_);refine ldInt_i (S.cell 0 rfl rfl) ?_)|((with_reducible refine ldAg_id ?_);refine ldAg_S S 0 rfl rfl ?_)))
    try dsimp only[Nv.t]
    refine(Span14_ok nv (by omega) (by omega)).mono ?_
    rintro _ _ ⟨rfl,F⟩
    refine⟨_,rfl,?_⟩
    replace S:=S.fra0 F
    (repeat (first|((with_reducible refine and_id ?_);refine and_i (S.cell 0 rfl rfl) ?_)))
    try dsimp only[Nv.t]
    refine ifB_dec (fun h4=> ?_) (fun h4=> ?_)
    ·(repeat (first|((with_reducible refine and_id ?_);refine and_i (S.cell 0 rfl rfl) ?_)))
     exact bad _ S (by rw[iff];omega)
    ·(repeat (first|((with_reducible refine ldInt_id ?_);refine ldInt_i (S.cell 0 rfl rfl) ?_)))
     try dsimp only[Nv.t]
     refine ifB_dec (fun h5=> ?_) (fun h5=> ?_)
     ·(repeat (first|((with_reducible refine and_id ?_);refine and_i (S.cell 0 rfl rfl) ?_)))
      exact bad _ S (by rw[iff];omega)
     ·(repeat (first|((with_reducible refine ldInt_id ?_);refine ldInt_i (S.cell 0 rfl rfl) ?_)|((with_reducible refine ldAg_id ?_);refine ldAg_S S 0 rfl rfl ?_)))
      try dsimp only[Nv.t]
      refine(Span14_ok nv (by omega) (by omega)).mono ?_
      rintro _ _ ⟨rfl,F⟩
      refine⟨_,rfl,?_⟩
      replace S:=S.fra0 F
      (repeat (first|((with_reducible refine and_id ?_);refine and_i (S.cell 0 rfl rfl) ?_)))
      try dsimp only[Nv.t]
      exact ifB_dec (fun h6=>bad _ S (by rw[iff];omega)) (fun h6=>⟨rfl,S,fun _=>by omega⟩)
  ·exact ifB_dec (fun ho=>ifB_not (ifB_dec (fun h3=>ifB_not (ifB_dec (fun h4=>⟨rfl,S,fun _=>⟨h3,h4⟩⟩) fun h4=>bad _ S (by rw[iff];omega))) fun h3=>bad _ S (by rw[iff];omega))) (fun ho=>⟨rfl,S,fun h=>absurd h ho⟩)
 ·refine ifB_dec (fun ho=>ifB_not (ifB_dec (fun h3=>⟨rfl,S,fun _=>h3⟩) fun h3=>bad _ S (by rw[iff];omega))) (fun ho=> ?_)
  (repeat (first|((with_reducible refine ldInt_id ?_);refine ldInt_i (S.cell 0 rfl rfl) ?_)))
  try dsimp only[Nv.t]
  exact ifB_beq (fun h5=>ifB_not (ifB_dec (fun h3=>⟨rfl,S,fun _=>h3⟩) fun h3=>bad _ S (by rw[iff];omega))) (fun h5=>⟨rfl,S,fun h=>by omega⟩)
end
end Go.Proofs.YtdhpmegbmjoekaaGreatDoor.G
end
section
namespace Go.Proofs.YtdhpmegbmjoekaaGreatDoor.G
open Go Go.Sh
set_option linter.unusedVariables false
set_option linter.unusedSimpArgs false
def rateN (n:Nd) (rs:List Int):Int:=
 if ¬(∀x∈rs,x=rs.getD 0 0) then-1 else if rs.getD 0 0=0∧(wins n.kind∨n.kind=5) then-1 else if n.kind=5 then 0 else rs.getD 0 0*stepN n.kind n.step
theorem getD_eq {xs:List Int} {i:Nat} (h:i<xs.length):xs.getD i 0=xs[i]:=by rw[List.getD_eq_getElem?_getD,List.getElem?_eq_getElem h];rfl
section
variable {h:Heap}
theorem Check14_ok {nv:Nv} (hok:nv.ok) (hr:nv.rows.P h) (hli:nv.inn.l<2 ^ 62) (hlw:nv.weights.l<2 ^ 62) (hlb:nv.bias.l<2 ^ 62) {p:Option Addr} {l c:Nat} {ws:List Int} (hw:Row h p (ints ws)) (hl:ws.length=l) (hl2:l<2 ^ 56):
 callP P n_ref14_Check #[nv.v,.slice p l c] h fun v h'=>v= .int .i64 (nv.nd.chk ws)∧Fra no h h':=by
 refine call_ref14_Check _ _ _ _ ?_
 unfold ref14_Check
 have li:=hok.1.1
 have eli:nv.nd.inn.length=nv.inn.l:=li
 have S:=((Sep.start h no).read nv.rows hr).read (row p (ints ws)) hw
 refine newI_S (cs:=nv.cells) S fun b1 h1 _ S=> ?_
 dsimp only[List.nil_append,List.cons_append] at S
 refine(all14_ok (S.row 1 rfl) hl (by omega) 1 16).mono ?_
 rintro _ _ ⟨rfl,rfl⟩
 refine⟨_,rfl,?_⟩
 have ret1:(ws.length≠nv.nd.inn.length∨ ¬fitR 1 16 ws)→ ∀g,Sep h no g [blk b1 nv.cells] [nv.rows,row p (ints ws)]→Value.int .i64 1= .int .i64 (nv.nd.chk ws)∧Fra no h g:=fun hn g S=>⟨by unfold Nd.chk;rw[if_pos hn],S.fra⟩
 refine⟨fun s g=>s=((p,l,c),⟨b1,0,none⟩,())∧Sep h no g [blk b1 nv.cells] [nv.rows,row p (ints ws)]∧ ¬(ws.length≠nv.nd.inn.length∨ ¬fitR 1 16 ws),?_,?_⟩
 ·rintro s g ⟨rfl,S,n1⟩
  unfold ref14_Check_j4
  dsimp only
  have hfit:fitR 1 16 ws:=by apply Decidable.byContradiction;intro h;exact n1 (.inr h)
  have ret12:(¬inR nv.kind 1 12∨(many nv.kind∧ ¬(2≤ws.length∧ws.length≤4))∨(¬many nv.kind∧ws.length≠1)∨ ¬inR nv.post 0 3∨(nv.post≠0∧ ¬wei nv.kind)∨ ¬nv.nd.else0)→ ∀g,Sep h no g [blk b1 nv.cells] [nv.rows,row p (ints ws)]→Value.int .i64 12= .int .i64 (nv.nd.chk ws)∧Fra no h g:=
   fun hn g S=>⟨by unfold Nd.chk;rw[if_neg n1];exact congrArg _ (if_pos hn).symm,S.fra⟩
  (repeat (first|((with_reducible refine ldInt_id ?_);refine ldInt_i (S.cell 0 rfl rfl) ?_)))
  try dsimp only[Nv.t]
  refine(in14_ok nv.kind 1 12).mono ?_
  rintro _ _ ⟨rfl,rfl⟩
  refine⟨_,rfl,?_⟩
  (repeat (first|((with_reducible refine ldInt_id ?_);refine ldInt_i (S.cell 0 rfl rfl) ?_)))
  try dsimp only[Nv.t]
  refine(Many14_ok nv.kind).mono ?_
  rintro _ _ ⟨rfl,rfl⟩
  refine⟨_,rfl,?_⟩
  (repeat (first|((with_reducible refine ldInt_id ?_);refine ldInt_i (S.cell 0 rfl rfl) ?_)))
  try dsimp only[Nv.t]
  refine(weighs14_ok nv.kind).mono ?_
  rintro _ _ ⟨rfl,rfl⟩
  refine⟨_,rfl,?_⟩
  refine⟨fun s g=>s=((p,l,c),⟨b1,0,none⟩,decide (wei nv.kind),())∧Sep h no g [blk b1 nv.cells] [nv.rows,row p (ints ws)]∧inR nv.kind 1 12∧(many nv.kind→2≤ws.length∧ws.length≤4)∧(¬many nv.kind→ws.length=1),?_,?_⟩
  ·rintro s g ⟨rfl,S,k1,k2,k3⟩
   unfold ref14_Check_j9
   dsimp only
   refine⟨fun s g=>s=((p,l,c),⟨b1,0,none⟩,())∧Sep h no g [blk b1 nv.cells] [nv.rows,row p (ints ws)]∧inR nv.post 0 3∧(nv.post≠0→wei nv.kind),?_,?_⟩
   ·rintro s g ⟨rfl,S,k4,k5⟩
    unfold ref14_Check_j11
    dsimp only
    (repeat (first|((with_reducible refine ldAg_id ?_);refine ldAg_S S 0 rfl rfl ?_)))
    refine(else0_14_ok hok).mono ?_
    rintro _ _ ⟨rfl,F⟩
    refine⟨_,rfl,?_⟩
    replace S:=S.fra0 F
    refine ifB_not (ifB_dec (fun k6=> ?_) (fun k6=>ret12 (.inr (.inr (.inr (.inr (.inr k6))))) _ S))
    have hl1:1≤ws.length:=by omega
    have hx:=S.row 1 rfl
    obtain⟨aa,rfl⟩:=hx.some_of (by rw[ints_length];omega)
    refine idxI_i rfl (k:=0) rfl (by omega) ?_
    (repeat (first|((with_reducible refine ldAg_id ?_);refine ldAg_S S 0 rfl rfl ?_)))
    have e0:ws.getD 0 0=ws[0]:=getD_eq hl1
    refine ldInt_i (n:=ws.getD 0 0) (hx.cell (i:=0) (ints_get (by rw[List.getElem?_eq_getElem (by omega),e0]))) ?_
    have hw0:=hfit ws[0] (List.getElem_mem _)
    rw[←e0] at hw0
    have nk12: ¬(¬inR nv.nd.kind 1 12∨(many nv.nd.kind∧ ¬(2≤ws.length∧ws.length≤4))∨(¬many nv.nd.kind∧ws.length≠1)∨ ¬inR nv.nd.post 0 3∨(nv.nd.post≠0∧ ¬wei nv.nd.kind)∨ ¬nv.nd.else0):=by
     have ek:nv.nd.kind=nv.kind:=rfl
     have ep:nv.nd.post=nv.post:=rfl
     rw[ek,ep]
     rintro(h|h|h|h|h|h)
     ·exact h k1
     ·exact h.2 (k2 h.1)
     ·exact h.2 (k3 h.1)
     ·exact h k4
     ·exact h.2 (k5 h.1)
     ·exact h k6
    refine(sized14_ok hok (S.r 0 _ rfl) hlw hlb (by omega)).mono ?_
    rintro _ _ ⟨rfl,F⟩
    refine⟨_,rfl,?_⟩
    replace S:=S.fra0 F
    refine ifB_not (ifB_dec (fun k7=> ?_) (fun k7=>⟨by unfold Nd.chk;rw[if_neg n1,if_neg nk12,if_pos k7],S.fra⟩))
    have nk22: ¬ ¬nv.nd.sized (ws.getD 0 0):=fun h=>h k7
    refine LoopS_i (fun m s g=> ∃i:Nat,s=((some aa,l,c),⟨b1,0,none⟩,sumI (ws.take i),(i:Int),())∧i≤l∧m=l-i∧(nv.kind=7→ ∀x∈ws.take i,x=ws.getD 0 0)∧Sep h no g [blk b1 nv.cells] [nv.rows,row (some aa) (ints ws)]) l ⟨0,rfl,by omega,rfl,by simp,S⟩ ?_
    rintro m s g ⟨i,rfl,hi',rfl,h7,S⟩
    unfold ref14_Check_l19
    dsimp only
    refine ifB_dec (fun hlt=> ?_) (fun hge=> ?_)
    ·have hix:i<ws.length:=by omega
     have hc:=(S.row 1 rfl).cell (ints_get (List.getElem?_eq_getElem hix))
     have hc0:cellH g (Addr.add aa 0)=some (.int .i64 (ws.getD 0 0)):=(S.row 1 rfl).cell (i:=0) (ints_get (by rw[List.getElem?_eq_getElem (by omega),e0]))
     refine idxI_i rfl rfl (by omega) ?_
     simp only[Int.toNat_natCast,Nat.mul_one]
     refine ldInt_i hc ?_
     (repeat (first|((with_reducible refine ldInt_id ?_);refine ldInt_i (S.cell 0 rfl rfl) ?_)))
     try dsimp only[Nv.t]
     have hsr:=sumI_range (fitR_take i hfit)
     rw[List.length_take] at hsr
     have hxi:=hfit ws[i] (List.getElem_mem hix)
     rw[wrap64_in (n:=sumI (ws.take i)+ws[i]) (by omega),wrap64_in (n:=(i:Int)+1) (by omega),←sumI_snoc hix]
     refine ifB_beq (fun h8=> ?_) (fun h8=> ?_)
     ·refine idxI_i rfl rfl (by omega) (idxI_i rfl (k:=0) rfl (by omega) ?_)
      refine ldInt_i hc (ldInt_i hc0 (ifB_bne (fun h9=>⟨?_,S.fra⟩) (fun h9=> ?_)))
      ·have h77:nv.nd.kind=7∧ ¬ ∀x∈ws,x=ws.getD 0 0:=⟨h8,fun h=>h9 (h _ (List.getElem_mem hix))⟩
       unfold Nd.chk;rw[if_neg n1,if_neg nk12,if_neg nk22,if_pos h77]
      ·refine⟨l-(i+1),by omega,i+1,by trivial,by omega,rfl,fun _ x hx=> ?_,S⟩
       rw[List.take_succ_eq_append_getElem hix] at hx
       rcases List.mem_append.1 hx with hx|hx
       ·exact h7 h8 x hx
       ·simp only[List.mem_singleton] at hx;subst hx;exact h9
     ·exact⟨l-(i+1),by omega,i+1,rfl,by omega,rfl,fun h=>absurd h h8,S⟩
    ·rw[List.take_of_length_le (by omega)] at h7 ⊢
     have n14: ¬(nv.nd.kind=7∧ ¬ ∀x∈ws,x=ws.getD 0 0):=fun h=>h.2 (h7 h.1)
     (repeat (first|((with_reducible refine ldInt_id ?_);refine ldInt_i (S.cell 0 rfl rfl) ?_)))
     try dsimp only[Nv.t]
     refine ifB_beq (fun h8=>ifB_dec (fun h9=>⟨?_,S.fra⟩) (fun h9=>⟨?_,S.fra⟩)) (fun h8=>⟨?_,S.fra⟩)
     ·have h88:nv.nd.kind=8∧sumI ws>16:=⟨h8,h9⟩
      unfold Nd.chk;rw[if_neg n1,if_neg nk12,if_neg nk22,if_neg n14,if_pos h88]
     ·have h88: ¬(nv.nd.kind=8∧sumI ws>16):=fun h=>h9 h.2
      unfold Nd.chk;rw[if_neg n1,if_neg nk12,if_neg nk22,if_neg n14,if_neg h88]
     ·have h88: ¬(nv.nd.kind=8∧sumI ws>16):=fun h=>h8 h.1
      unfold Nd.chk;rw[if_neg n1,if_neg nk12,if_neg nk22,if_neg n14,if_neg h88]
   ·have c14:cellH g (Addr.add ⟨b1,0,none⟩ 14)=some (.int .i64 nv.post):=S.cell 0 rfl rfl
    refine ldInt_i c14 (ifB_dec (fun h3=>ret12 (by omega) _ S) fun h3=>ldInt_i c14 (ifB_dec (fun h4=>ret12 (by omega) _ S) fun h4=>ldInt_i c14 (ifB_bne (fun h5=>ifB_not (ifB_dec (fun h6=>⟨rfl,S,by omega,fun _=>h6⟩) fun h6=>ret12 (by omega) _ S)) fun h5=>⟨rfl,S,by omega,fun h=>absurd h5 h⟩)))
  ·refine ifB_not (ifB_dec (fun h3=> ?_) (fun h3=>ret12 (.inl h3) _ S))
   refine ifB_dec (fun h4=>ifB_dec (fun h5=>ret12 (by omega) _ S) fun h5=>ifB_dec (fun h6=>ret12 (by omega) _ S) fun h6=>ifB_not (ifB_dec (fun h7=>⟨rfl,S,h3,fun _=>by omega,fun h=>absurd h4 h⟩) fun h7=>absurd h4 h7)) fun h4=>
    ifB_not (ifB_dec (fun h7=>absurd h7 h4) fun h7=>ifB_bne (fun h8=>ret12 (by omega) _ S) fun h8=>⟨rfl,S,h3,fun h=>absurd h h4,fun _=>by omega⟩)
 ·(repeat (first|((with_reducible refine ldSlice_id ?_);refine ldSlice_i (S.cell 0 rfl rfl) ?_)))
  try dsimp only[Nv.t]
  refine ifB_bne (fun h3=>ret1 (.inl (by omega)) _ S) (fun h3=>ifB_not (ifB_dec (fun h4=>⟨rfl,S,?_⟩) fun h4=>ret1 (.inr h4) _ S))
  rintro(h|h)
  ·omega
  ·exact h h4
theorem Width14_ok {nv:Nv} (hok:nv.ok) (hr:nv.rows.P h) (hli:nv.inn.l<2 ^ 62) (hlw:nv.weights.l<2 ^ 62) (hlb:nv.bias.l<2 ^ 62) {p:Option Addr} {l c:Nat} {ws:List Int} (hw:Row h p (ints ws)) (hl:ws.length=l) (hl2:l<2 ^ 56):
 callP P n_ref14_Width #[nv.v,.slice p l c] h fun v h'=>v= .int .i64 (nv.nd.wid ws)∧Fra no h h':=by
 refine call_ref14_Width _ _ _ _ ?_
 unfold ref14_Width
 have S:=((Sep.start h no).read nv.rows hr).read (row p (ints ws)) hw
 refine newI_S (cs:=nv.cells) S fun b1 h1 _ S=> ?_
 dsimp only[List.nil_append,List.cons_append] at S
 have ek:nv.nd.kind=nv.kind:=rfl
 (repeat (first|((with_reducible refine ldAg_id ?_);refine ldAg_S S 0 rfl rfl ?_)))
 refine(Check14_ok hok (S.r 0 _ rfl) hli hlw hlb (S.row 1 rfl) hl hl2).mono ?_
 rintro _ _ ⟨rfl,F⟩
 refine⟨_,rfl,?_⟩
 replace S:=S.fra0 F
 refine ifB_bne (fun h3=>⟨by unfold Nd.wid;rw[if_pos h3],S.fra⟩) (fun h3=> ?_)
 have nc: ¬nv.nd.chk ws≠0:=fun h=>h h3
 have hfit:fitR 1 16 ws:=by
  apply Decidable.byContradiction
  intro h
  unfold Nd.chk at h3
  rw[if_pos (.inr h)] at h3
  exact absurd h3 (by decide)
 have hlen1:1≤ws.length:=by
  apply Decidable.byContradiction
  intro h
  unfold Nd.chk at h3
  split at h3
  ·exact absurd h3 (by decide)
  ·rw[if_pos (by
    by_cases hm:many nv.nd.kind
    ·exact .inr (.inl ⟨hm,by omega⟩)
    ·exact .inr (.inr (.inl ⟨hm,by omega⟩)))] at h3
   exact absurd h3 (by decide)
 refine⟨fun s g=>s=((p,l,c),⟨b1,0,none⟩,())∧Sep h no g [blk b1 nv.cells] [nv.rows,row p (ints ws)]∧ ¬wide nv.nd.kind,?_,?_⟩
 ·rintro s g ⟨rfl,S,n1⟩
  unfold ref14_Width_j5
  dsimp only
  (repeat (first|((with_reducible refine ldInt_id ?_);refine ldInt_i (S.cell 0 rfl rfl) ?_)))
  try dsimp only[Nv.t]
  refine ifB_beq (fun h4=>⟨by unfold Nd.wid;rw[if_neg nc,if_neg n1,if_pos (by rw[ek];exact h4)],S.fra⟩) (fun h4=> ?_)
  have n2: ¬nv.nd.kind=11:=h4
  (repeat (first|((with_reducible refine ldInt_id ?_);refine ldInt_i (S.cell 0 rfl rfl) ?_)))
  try dsimp only[Nv.t]
  have hx:=S.row 1 rfl
  refine ifB_bne (fun h5=> ?_) (fun h5=> ?_)
  ·obtain⟨aa,rfl⟩:=hx.some_of (by rw[ints_length];omega)
   refine idxI_i rfl (k:=0) rfl (by omega) ?_
   refine ldInt_i (n:=ws.getD 0 0) (hx.cell (i:=0) (ints_get (by rw[List.getElem?_eq_getElem (by omega),getD_eq hlen1]))) ⟨?_,S.fra⟩
   have h5':nv.nd.kind≠8:=h5
   unfold Nd.wid;rw[if_neg nc,if_neg n1,if_neg n2,if_pos h5']
  ·refine LoopS_i (fun m s g=> ∃i:Nat,s=((p,l,c),sumI (ws.take i),(i:Int),())∧i≤l∧m=l-i∧Sep h no g [blk b1 nv.cells] [nv.rows,row p (ints ws)]) l ⟨0,rfl,by omega,rfl,S⟩ ?_
   rintro m s g ⟨i,rfl,hi',rfl,S⟩
   unfold ref14_Width_l11
   dsimp only
   refine ifB_dec (fun hlt=> ?_) (fun hge=> ?_)
   ·have hix:i<ws.length:=by omega
    have hx:=S.row 1 rfl
    obtain⟨aa,rfl⟩:=hx.some_of (by rw[ints_length];omega)
    refine idxI_i rfl rfl (by omega) ?_
    simp only[Int.toNat_natCast,Nat.mul_one]
    refine ldInt_i (hx.cell (ints_get (List.getElem?_eq_getElem hix))) ?_
    have hsr:=sumI_range (fitR_take i hfit)
    rw[List.length_take] at hsr
    have hxi:=hfit ws[i] (List.getElem_mem hix)
    rw[wrap64_in (n:=sumI (ws.take i)+ws[i]) (by omega),wrap64_in (n:=(i:Int)+1) (by omega),←sumI_snoc hix]
    exact⟨l-(i+1),by omega,i+1,rfl,by omega,rfl,S⟩
   ·rw[List.take_of_length_le (by omega)]
    have h5': ¬nv.nd.kind≠8:=fun h=>h h5
    exact⟨by unfold Nd.wid;rw[if_neg nc,if_neg n1,if_neg n2,if_neg h5'],S.fra⟩
 ·(repeat (first|((with_reducible refine ldInt_id ?_);refine ldInt_i (S.cell 0 rfl rfl) ?_)))
  try dsimp only[Nv.t]
  have yes:wide nv.nd.kind→Value.int .i64 nv.width= .int .i64 (nv.nd.wid ws):=fun h=>by unfold Nd.wid;rw[if_neg nc,if_pos h];rfl
  refine ifB_beq (fun h4=> ?_) (fun h4=> ?_)
  ·(repeat (first|((with_reducible refine ldInt_id ?_);refine ldInt_i (S.cell 0 rfl rfl) ?_)))
   exact⟨yes (.inl h4),S.fra⟩
  ·(repeat (first|((with_reducible refine ldInt_id ?_);refine ldInt_i (S.cell 0 rfl rfl) ?_)))
   try dsimp only[Nv.t]
   refine ifB_beq (fun h5=> ?_) (fun h5=> ?_)
   ·(repeat (first|((with_reducible refine ldInt_id ?_);refine ldInt_i (S.cell 0 rfl rfl) ?_)))
    exact⟨yes (.inr h5),S.fra⟩
   ·exact⟨rfl,S,by rw[ek];omega⟩
theorem rate15_ok {nv:Nv} {p:Option Addr} {l c:Nat} {rs:List Int} (hw:Row h p (ints rs)) (hl:rs.length=l) (h1l:1≤l) (hl2:l<2 ^ 56) (hr:0≤rs.getD 0 0∧rs.getD 0 0≤2 ^ 30) (hs:four nv.kind→0≤nv.step∧nv.step≤2 ^ 20):
 callP P n_ref15_rate #[nv.v,.slice p l c] h fun v h'=>v= .int .i64 (rateN nv.nd rs)∧Fra no h h':=by
 refine call_ref15_rate _ _ _ _ ?_
 unfold ref15_rate
 have S:=(Sep.start h no).read (row p (ints rs)) hw
 refine newI_S (cs:=nv.cells) S fun b1 h1 _ S=> ?_
 dsimp only[List.nil_append,List.cons_append] at S
 have hx:=S.row 0 rfl
 obtain⟨aa,rfl⟩:=hx.some_of (by rw[ints_length];omega)
 refine idxI_i rfl (k:=0) rfl (by omega) ?_
 refine ldInt_i (n:=rs.getD 0 0) (hx.cell (i:=0) (ints_get (by rw[List.getElem?_eq_getElem (by omega),getD_eq (by omega)]))) ?_
 generalize hr0:rs.getD 0 0=r at hr ⊢
 have ek:nv.nd.kind=nv.kind:=rfl
 refine LoopS_i (fun m s g=> ∃i:Nat,s=((some aa,l,c),⟨b1,0,none⟩,r,(i:Int),())∧i≤l∧m=l-i∧(∀x∈rs.take i,x=r)∧Sep h no g [blk b1 nv.cells] [row (some aa) (ints rs)]) l ⟨0,rfl,by omega,rfl,by simp,S⟩ ?_
 rintro m s g ⟨i,rfl,hi',rfl,hall,S⟩
 unfold ref15_rate_l3
 dsimp only
 refine ifB_dec (fun hlt=> ?_) (fun hge=> ?_)
 ·have hix:i<rs.length:=by omega
  have hx:=S.row 0 rfl
  refine idxI_i rfl rfl (by omega) ?_
  simp only[Int.toNat_natCast,Nat.mul_one]
  refine ldInt_i (hx.cell (ints_get (List.getElem?_eq_getElem hix))) (ifB_bne (fun h9=>⟨?_,S.fra⟩) (fun h9=> ?_))
  ·unfold rateN;rw[hr0,if_pos (fun h=>h9 (h _ (List.getElem_mem hix)))]
  ·rw[wrap64_in (n:=(i:Int)+1) (by omega)]
   refine⟨l-(i+1),by omega,i+1,by trivial,by omega,rfl,fun x hx=> ?_,S⟩
   rw[List.take_succ_eq_append_getElem hix] at hx
   rcases List.mem_append.1 hx with hx|hx
   ·exact hall x hx
   ·simp only[List.mem_singleton] at hx;subst hx;exact h9
 ·rw[List.take_of_length_le (by omega)] at hall
  have na: ¬ ¬ ∀x∈rs,x=r:=fun h=>h hall
  (repeat (first|((with_reducible refine ldInt_id ?_);refine ldInt_i (S.cell 0 rfl rfl) ?_)))
  try dsimp only[Nv.t]
  refine(Windows14_ok nv.kind).mono ?_
  rintro _ _ ⟨rfl,rfl⟩
  refine⟨_,rfl,?_⟩
  have e:rateN nv.nd rs=if r=0∧(wins nv.kind∨nv.kind=5) then-1 else if nv.kind=5 then 0 else r*stepN nv.kind nv.step:=by
   unfold rateN;rw[hr0,if_neg na];rfl
  rw[e]
  have hst:0≤stepN nv.kind nv.step∧stepN nv.kind nv.step≤2 ^ 20:=by
   unfold stepN;split
   ·rename_i h;exact hs h
   ·decide
  have hm:0≤r*stepN nv.kind nv.step∧r*stepN nv.kind nv.step≤2 ^ 50:=by
   refine⟨Int.mul_nonneg hr.1 hst.1,?_⟩
   have:=Int.mul_le_mul hr.2 hst.2 hst.1 (by decide)
   omega
  have tail: ∀g,Sep h no g [blk b1 nv.cells] [row (some aa) (ints rs)]→ ¬(r=0∧(wins nv.kind∨nv.kind=5))→ ¬nv.kind=5→ldAg ndSh g ⟨b1,0,none⟩ fun x17=>callInt P .i64 n_ref14_Step #[agS ndSh x17] g fun n19 h18=>(Value.int .i64 (IntKind.wrap .i64 (r*n19))= .int .i64 (if r=0∧(wins nv.kind∨nv.kind=5) then-1 else if nv.kind=5 then 0 else r*stepN nv.kind nv.step)∧Fra no h h18):=by
   intro g S n1 n2
   (repeat (first|((with_reducible refine ldAg_id ?_);refine ldAg_S S 0 rfl rfl ?_)))
   refine(Step14_ok nv).mono ?_
   rintro _ _ ⟨rfl,F⟩
   refine⟨_,rfl,?_⟩
   replace S:=S.fra0 F
   dsimp only
   rw[if_neg n1,if_neg n2,wrap64_in (by omega)]
   exact⟨rfl,S.fra⟩
  refine ifB_beq (fun h3=>ifB_dec (fun h4=>⟨by rw[if_pos ⟨h3,.inl h4⟩],S.fra⟩) fun h4=> ?_) (fun h3=> ?_)
  ·(repeat (first|((with_reducible refine ldInt_id ?_);refine ldInt_i (S.cell 0 rfl rfl) ?_)))
   try dsimp only[Nv.t]
   refine ifB_beq (fun h5=>⟨by rw[if_pos ⟨h3,.inr h5⟩],S.fra⟩) (fun h5=> ?_)
   (repeat (first|((with_reducible refine ldInt_id ?_);refine ldInt_i (S.cell 0 rfl rfl) ?_)))
   try dsimp only[Nv.t]
   refine ifB_beq (fun h5'=>absurd h5' h5) (fun _=> ?_)
   have:=tail _ S (by omega) h5
   exact this
  ·(repeat (first|((with_reducible refine ldInt_id ?_);refine ldInt_i (S.cell 0 rfl rfl) ?_)))
   try dsimp only[Nv.t]
   refine ifB_beq (fun h5=>⟨by rw[if_neg (by omega),if_pos h5],S.fra⟩) (fun h5=> ?_)
   have:=tail _ S (by omega) h5
   exact this
end
end Go.Proofs.YtdhpmegbmjoekaaGreatDoor.G
end
