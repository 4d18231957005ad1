/- CKind14 CKind14b CKind14c CKind14d, in one text. -/
import Derived.Test.YtdhpmegbmjoekaaGreatDoorCNode
section
namespace Go.Proofs.YtdhpmegbmjoekaaGreatDoor.G
open Go Go.Sh
set_option linter.unusedVariables false
set_option linter.unusedSimpArgs false
abbrev dD (k:Int):Prop:=k=1∨k=2∨k=3∨k=4
abbrev iM (k:Int):Prop:=dD k∨k=12
abbrev jb (k:Int):Prop:=k=1∨k=2∨k=6
abbrev dv (k:Int):Prop:=k=7∨k=8
abbrev wide (k:Int):Prop:=k=1∨k=6
abbrev dw (x lo hi:Int):Prop:=lo≤x∧x≤hi
abbrev GP (k post:Int):Prop:=k=10∨cS .i64 post 1=1
abbrev IE (k post:Int):Prop:=k=9∨cS .i64 post 2=2
def zz (k size gap:Int):Int:=if k=12 then size else if dD k then(size-1)*gap+1 else 1
def Nd.span (n:Nd):Int:=zz n.kind n.size n.gap
def fg (k step:Int):Int:=if dD k then step else 1
def Nd.else0 (n:Nd):Prop:=
 (¬dD n.kind→n.step=0∧n.gap=0∧n.left=0∧n.right=0)∧(¬dD n.kind∧n.kind≠12→n.size=0)∧(¬wide n.kind→n.width=0)∧(¬jb n.kind→n.weights.length=0∧n.bias.length=0)∧
  (GP n.kind n.post∨(n.mult=0∧n.shift=0))∧(IE n.kind n.post∨(n.low=0∧n.high=0))
instance (n:Nd):Decidable n.else0:=by unfold Nd.else0;infer_instance
def Nd.wcount (n:Nd) (w:Int):Int:=if n.kind=1 then n.width*n.size*w else if n.kind=2 then w*n.size else n.width*w
def Nd.sized (n:Nd) (w:Int):Prop:=
 (iM n.kind→dw n.size 1 8)∧(dD n.kind→dw n.step 1 4∧dw n.gap 1 4∧(0≤n.left∧n.left<n.span)∧(0≤n.right∧n.right<n.span))∧(wide n.kind→dw n.width 1 16)∧
  (jb n.kind→(n.weights.length:Int)=n.wcount w∧(n.bias.length:Int)=(if n.kind=2 then w else n.width)∧bo (-128) 127 n.weights∧bo (-16777216) 16777216 n.bias)∧
  (dw n.mult 0 32767∧dw n.shift 0 30∧dw n.low fz fD∧dw n.high fz fD∧n.low≤n.high)
instance (n:Nd) (w:Int):Decidable (n.sized w):=by unfold Nd.sized;infer_instance
def gN:List Int→Int
 |[]=>0
 |x::r=>x+gN r
def Nd.chk (n:Nd) (ws:List Int):Int:=
 if ws.length≠n.inn.length∨ ¬bo 1 16 ws then 1
 else if ¬dw n.kind 1 12∨(dv n.kind∧ ¬(2≤ws.length∧ws.length≤4))∨(¬dv n.kind∧ws.length≠1)∨ ¬dw n.post 0 3∨(n.post≠0∧ ¬jb n.kind)∨ ¬n.else0 then 12
 else if ¬n.sized (ws.getD 0 0) then 22
 else if n.kind=7∧ ¬(∀x∈ws,x=ws.getD 0 0) then 14
 else if n.kind=8∧gN ws>16 then 14 else 0
def Nd.wid (n:Nd) (ws:List Int):Int:=
 if n.chk ws≠0 then 0 else if wide n.kind then n.width else if n.kind=11 then 1 else if n.kind≠8 then ws.getD 0 0 else gN ws
theorem oY {xs:List Int} {i:Nat} (hi:i<xs.length):gN (xs.take (i+1))=gN (xs.take i)+xs[i]:=by
 rw[List.take_succ_eq_append_getElem hi]
 have: ∀(a:List Int) (x:Int),gN (a++[x])=gN a+x:=by
  intro a x
  induction a with
  |nil=>simp[gN]
  |cons y r ih=>simp only[List.cons_append,gN,ih];omega
 exact this _ _
theorem jz: ∀{xs:List Int},bo 1 16 xs→0≤gN xs∧gN xs≤16*xs.length
 |[],_=>by simp[gN]
 |x::r,h=>by
  rw[bV] at h
  have:=jz h.2
  simp only[gN,List.length_cons];omega
theorem oZ {lo hi:Int} {xs:List Int} (i:Nat) (h:bo lo hi xs):bo lo hi (xs.take i):=fun x hx=>h x (List.mem_of_mem_take hx)
section
variable {h:ae}
theorem wF (k:Int):aq P gR #[.int .i64 k] h fun v h'=>v= .bool (decide (iM k))∧h'=h:=by
 refine vJ _ ?_
 unfold u5
 repeat' (first|(first|refine au (fun _=> ?_) (fun _=> ?_)|refine aO (fun _=> ?_) (fun _=> ?_)|refine bj (fun _=> ?_) (fun _=> ?_)|refine bN ?_)|refine And.intro ?_ rfl)
 all_goals first
  |(congr 1;symm;rw[decide_eq_true_iff];omega)
  |(congr 1;rw[Bool.eq_iff_iff,decide_eq_true_iff,beq_iff_eq];omega)
theorem yq (k:Int):aq P iQ #[.int .i64 k] h fun v h'=>v= .bool (decide (dD k))∧h'=h:=by
 refine Av _ ?_
 unfold BV
 repeat' (first|(first|refine au (fun _=> ?_) (fun _=> ?_)|refine aO (fun _=> ?_) (fun _=> ?_)|refine bj (fun _=> ?_) (fun _=> ?_)|refine bN ?_)|refine And.intro ?_ rfl)
 all_goals first
  |(congr 1;symm;rw[decide_eq_true_iff];omega)
  |(congr 1;rw[Bool.eq_iff_iff,decide_eq_true_iff,beq_iff_eq];omega)
theorem sq (k:Int):aq P gn #[.int .i64 k] h fun v h'=>v= .bool (decide (jb k))∧h'=h:=by
 refine wY _ ?_
 unfold wX
 repeat' (first|(first|refine au (fun _=> ?_) (fun _=> ?_)|refine aO (fun _=> ?_) (fun _=> ?_)|refine bj (fun _=> ?_) (fun _=> ?_)|refine bN ?_)|refine And.intro ?_ rfl)
 all_goals first
  |(congr 1;symm;rw[decide_eq_true_iff];omega)
  |(congr 1;rw[Bool.eq_iff_iff,decide_eq_true_iff,beq_iff_eq];omega)
theorem KS (k:Int):aq P md #[.int .i64 k] h fun v h'=>v= .bool (decide (dv k))∧h'=h:=by
 refine Au _ ?_
 unfold BT
 repeat' (first|(first|refine au (fun _=> ?_) (fun _=> ?_)|refine aO (fun _=> ?_) (fun _=> ?_)|refine bj (fun _=> ?_) (fun _=> ?_)|refine bN ?_)|refine And.intro ?_ rfl)
 all_goals first
  |(congr 1;symm;rw[decide_eq_true_iff];omega)
  |(congr 1;rw[Bool.eq_iff_iff,decide_eq_true_iff,beq_iff_eq];omega)
theorem lT (x lo hi:Int):aq P eI #[.int .i64 x,.int .i64 lo,.int .i64 hi] h fun v h'=>v= .bool (decide (dw x lo hi))∧h'=h:=by
 refine Ea _ _ _ ?_
 unfold G5
 refine au (fun h1=>⟨?_,rfl⟩) (fun h1=>⟨?_,rfl⟩)
 ·congr 1;rw[decide_eq_decide];omega
 ·rw[decide_eq_false (by omega)]
theorem Bx {p:Option Addr} {l c:Nat} {xs:List Int} (hx:bT h p (az xs)) (hl:xs.length=l) (hl2:l<2 ^ 62) (lo hi:Int):
 aq P jN #[.slice p l c,.int .i64 lo,.int .i64 hi] h fun v h'=>v= .bool (decide (bo lo hi xs))∧h'=h:=by
 refine BS _ _ _ _ _ ?_
 unfold ER
 refine aT (fun m s g=>g=h∧ ∃i:Nat,s=((p,l,c),lo,hi,(i:Int),())∧i≤l∧m=l-i∧bo lo hi (xs.take i)) l ⟨rfl,0,rfl,by omega,rfl,by rw[List.take_zero];exact cD _ _⟩ ?_
 rintro m s g ⟨rfl,i,rfl,hi',rfl,hf⟩
 unfold wW
 dsimp only
 refine au (fun hlt=> ?_) (fun hge=> ?_)
 ·have hix:i<xs.length:=by omega
  obtain⟨aa,rfl⟩:=hx.some_of (by rw[aB];omega)
  have hc:=hx.cell (aN (List.getElem?_eq_getElem hix))
  have bad: ¬(lo≤xs[i]∧xs[i]≤hi)→Value.bool false= .bool (decide (bo lo hi xs))∧g=g:=fun hn=>⟨by rw[decide_eq_false (fun h=>hn (h _ (List.getElem_mem hix)))],rfl⟩
  refine aG rfl rfl (by omega) ?_
  simp only[Int.toNat_natCast,Nat.mul_one]
  refine af hc (au (fun h1=>⟨(bad (by omega)).1,by trivial⟩) fun h1=>aG rfl rfl (by omega) ?_)
  refine af hc (au (fun h2=>⟨(bad (by omega)).1,by trivial⟩) fun h2=> ?_)
  rw[al (by omega)]
  exact⟨l-(i+1),by omega,by trivial,i+1,rfl,by omega,rfl,(iu hix).2 ⟨hf,by omega,by omega⟩⟩
 ·rw[List.take_of_length_le (by omega)] at hf
  exact⟨by rw[decide_eq_true hf],by trivial⟩
theorem tS (nv:Nv) (hs: -2 ^ 20≤nv.size∧nv.size≤2 ^ 20) (hg: -2 ^ 20≤nv.gap∧nv.gap≤2 ^ 20):aq P gI #[nv.v] h fun v h'=>v= .int .i64 nv.nd.span∧cu no h h':=by
 refine Ar _ ?_
 unfold BN
 have S:=aK.start h no
 refine aC (cs:=nv.cells) S fun b1 h1 _ S=> ?_
 (repeat (first|((with_reducible refine aU ?_);refine af (S.cell 0 rfl rfl) ?_)))
 dsimp only[Nv.t]
 have e:nv.nd.span=if nv.kind=12 then nv.size else if dD nv.kind then(nv.size-1)*nv.gap+1 else 1:=rfl
 rw[e]
 refine aO (fun h1=> ?_) (fun h1=> ?_)
 ·(repeat (first|((with_reducible refine aU ?_);refine af (S.cell 0 rfl rfl) ?_)))
  rw[if_pos h1];exact⟨rfl,S.fra⟩
 ·(repeat (first|((with_reducible refine aU ?_);refine af (S.cell 0 rfl rfl) ?_)))
  dsimp only[Nv.t]
  refine(wF nv.kind).mono ?_
  rintro _ _ ⟨rfl,rfl⟩
  refine⟨_,rfl,?_⟩
  rw[if_neg h1]
  refine bN (au (fun h2=> ?_) (fun h2=> ?_))
  ·(repeat (first|((with_reducible refine aU ?_);refine af (S.cell 0 rfl rfl) ?_)))
   dsimp only[Nv.t]
   rw[if_pos (by omega)]
   have h3: -2 ^ 42≤(nv.size-1)*nv.gap∧(nv.size-1)*nv.gap≤2 ^ 42:=by
    have a1:(nv.size-1).natAbs≤2 ^ 21:=by omega
    have a2:nv.gap.natAbs≤2 ^ 20:=by omega
    have a3:((nv.size-1)*nv.gap).natAbs≤2 ^ 21*2 ^ 20:=by rw[Int.natAbs_mul];exact Nat.mul_le_mul a1 a2
    omega
   rw[al (n:=nv.size-1) (by omega),al (n:=(nv.size-1)*nv.gap) (by omega),al (by omega)]
   exact⟨rfl,S.fra⟩
  ·rw[if_neg (by omega)];exact⟨rfl,S.fra⟩
theorem KU (nv:Nv):aq P iR #[nv.v] h fun v h'=>v= .int .i64 (fg nv.kind nv.step)∧cu no h h':=by
 refine AA _ ?_
 unfold BX
 have S:=aK.start h no
 refine aC (cs:=nv.cells) S fun b1 h1 _ S=> ?_
 (repeat (first|((with_reducible refine aU ?_);refine af (S.cell 0 rfl rfl) ?_)))
 dsimp only[Nv.t]
 refine(yq nv.kind).mono ?_
 rintro _ _ ⟨rfl,rfl⟩
 refine⟨_,rfl,?_⟩
 unfold fg
 refine au (fun h2=> ?_) (fun h2=> ?_)
 ·(repeat (first|((with_reducible refine aU ?_);refine af (S.cell 0 rfl rfl) ?_)))
  rw[if_pos h2];exact⟨rfl,S.fra⟩
 ·rw[if_neg h2];exact⟨rfl,S.fra⟩
theorem jW {a b:Int} {x y:Nat} (ha:0≤a∧a≤x) (hb:0≤b∧b≤y):0≤a*b∧a*b≤((x*y:Nat):Int):=by
 refine⟨Int.mul_nonneg ha.1 hb.1,?_⟩
 have:=Int.mul_le_mul ha.2 hb.2 hb.1 (by omega)
 simpa using this
theorem FS (nv:Nv) {w:Int} (hw:0≤w∧w≤16) (hwd:nv.kind≠2→0≤nv.width∧nv.width≤16) (hsz:nv.kind=1∨nv.kind=2→0≤nv.size∧nv.size≤8):aq P jv #[nv.v,.int .i64 w] h fun v h'=>v= .int .i64 (nv.nd.wcount w)∧cu no h h':=by
 refine vL _ _ ?_
 unfold u9
 have S:=aK.start h no
 refine aC (cs:=nv.cells) S fun b1 h1 _ S=> ?_
 (repeat (first|((with_reducible refine aU ?_);refine af (S.cell 0 rfl rfl) ?_)))
 dsimp only[Nv.t]
 have e:nv.nd.wcount w=if nv.kind=1 then nv.width*nv.size*w else if nv.kind=2 then w*nv.size else nv.width*w:=rfl
 rw[e]
 refine aO (fun k1=> ?_) (fun k1=> ?_)
 ·(repeat (first|((with_reducible refine aU ?_);refine af (S.cell 0 rfl rfl) ?_)))
  dsimp only[Nv.t]
  have b1:=jW (x:=16) (y:=8) (hwd (by omega)) (hsz (.inl k1))
  have b2:=jW (x:=128) (y:=16) (a:=nv.width*nv.size) (by omega) hw
  rw[al (n:=nv.width*nv.size) (by omega),al (by omega),if_pos k1]
  exact⟨rfl,S.fra⟩
 ·(repeat (first|((with_reducible refine aU ?_);refine af (S.cell 0 rfl rfl) ?_)))
  dsimp only[Nv.t]
  rw[if_neg k1]
  refine aO (fun k2=> ?_) (fun k2=> ?_)
  ·(repeat (first|((with_reducible refine aU ?_);refine af (S.cell 0 rfl rfl) ?_)))
   dsimp only[Nv.t]
   have b1:=jW (x:=16) (y:=8) hw (hsz (.inr k2))
   rw[al (by omega),if_pos k2]
   exact⟨rfl,S.fra⟩
  ·(repeat (first|((with_reducible refine aU ?_);refine af (S.cell 0 rfl rfl) ?_)))
   dsimp only[Nv.t]
   have b1:=jW (x:=16) (y:=16) (hwd k2) hw
   rw[al (by omega),if_neg k2]
   exact⟨rfl,S.fra⟩
end
end Go.Proofs.YtdhpmegbmjoekaaGreatDoor.G
end
section
namespace Go.Proofs.YtdhpmegbmjoekaaGreatDoor.G
open Go Go.Sh
set_option linter.unusedVariables false
set_option linter.unusedSimpArgs false
theorem yr (nv:Nv):nv.nd.else0↔((¬dD nv.kind→nv.step=0∧nv.gap=0∧nv.left=0∧nv.right=0)∧(¬dD nv.kind∧nv.kind≠12→nv.size=0)∧(¬wide nv.kind→nv.width=0)∧(¬jb nv.kind→nv.weights.xs.length=0∧nv.bias.xs.length=0)∧
 (GP nv.kind nv.post∨(nv.mult=0∧nv.shift=0))∧(IE nv.kind nv.post∨(nv.low=0∧nv.high=0))):=Iff.rfl
theorem yt (nv:Nv) (w:Int):nv.nd.sized w↔((iM nv.kind→dw nv.size 1 8)∧(dD nv.kind→dw nv.step 1 4∧dw nv.gap 1 4∧(0≤nv.left∧nv.left<nv.nd.span)∧(0≤nv.right∧nv.right<nv.nd.span))∧(wide nv.kind→dw nv.width 1 16)∧
 (jb nv.kind→(nv.weights.xs.length:Int)=nv.nd.wcount w∧(nv.bias.xs.length:Int)=(if nv.kind=2 then w else nv.width)∧bo (-128) 127 nv.weights.xs∧bo (-16777216) 16777216 nv.bias.xs)∧
 (dw nv.mult 0 32767∧dw nv.shift 0 30∧dw nv.low fz fD∧dw nv.high fz fD∧nv.low≤nv.high)):=Iff.rfl
section
variable {h:ae}
theorem G2 {nv:Nv} (hok:nv.ok):aq P kR #[nv.v] h fun v h'=>v= .bool (decide nv.nd.else0)∧cu no h h':=by
 refine yG _ ?_
 unfold zJ
 have lw:=hok.2.1.1
 have lb:=hok.2.2.1
 have S:=aK.start h no
 refine aC (cs:=nv.cells) S fun b1 h1 _ S=> ?_
 dsimp only[List.nil_append] at S
 have bad: ∀g,aK h no g [blk b1 nv.cells] []→ ¬nv.nd.else0→Value.bool false= .bool (decide nv.nd.else0)∧cu no h g:=fun g S hn=>⟨by rw[decide_eq_false hn],S.fra⟩
 have iff:=yr nv
 (repeat (first|((with_reducible refine aU ?_);refine af (S.cell 0 rfl rfl) ?_)))
 dsimp only[Nv.t]
 refine(yq nv.kind).mono ?_
 rintro _ _ ⟨rfl,rfl⟩
 refine⟨_,rfl,?_⟩
 (repeat (first|((with_reducible refine aU ?_);refine af (S.cell 0 rfl rfl) ?_)))
 dsimp only[Nv.t]
 refine(sq nv.kind).mono ?_
 rintro _ _ ⟨rfl,rfl⟩
 refine⟨_,rfl,?_⟩
 refine⟨fun s g=>s=(⟨b1,0,none⟩,decide (dD nv.kind),decide (jb nv.kind),decide (wide nv.kind),())∧aK h no g [blk b1 nv.cells] [],?_,?_⟩
 ·rintro s g ⟨rfl,S⟩
  unfold sM
  dsimp only
  refine⟨fun s g=>s=(⟨b1,0,none⟩,decide (dD nv.kind),decide (jb nv.kind),decide (wide nv.kind),decide (GP nv.kind nv.post),())∧aK h no g [blk b1 nv.cells] [],?_,?_⟩
  ·rintro s g ⟨rfl,S⟩
   unfold sL
   dsimp only
   refine⟨fun s g=>s=(⟨b1,0,none⟩,decide (dD nv.kind),decide (jb nv.kind),decide (wide nv.kind),decide (GP nv.kind nv.post),decide (IE nv.kind nv.post),())∧aK h no g [blk b1 nv.cells] [],?_,?_⟩
   ·rintro s g ⟨rfl,S⟩
    unfold sK
    dsimp only
    refine⟨fun s g=>s=(⟨b1,0,none⟩,decide (dD nv.kind),decide (jb nv.kind),decide (wide nv.kind),decide (GP nv.kind nv.post),decide (IE nv.kind nv.post),())∧aK h no g [blk b1 nv.cells] []∧(¬dD nv.kind→nv.step=0∧nv.gap=0∧nv.left=0∧nv.right=0),?_,?_⟩
    ·rintro s g ⟨rfl,S,f1⟩
     unfold sJ
     dsimp only
     refine⟨fun s g=>s=(⟨b1,0,none⟩,decide (jb nv.kind),decide (GP nv.kind nv.post),decide (IE nv.kind nv.post),())∧aK h no g [blk b1 nv.cells] []∧(¬dD nv.kind∧nv.kind≠12→nv.size=0)∧(¬wide nv.kind→nv.width=0),?_,?_⟩
     ·rintro s g ⟨rfl,S,f2,f3⟩
      unfold q7
      dsimp only
      refine⟨fun s g=>s=(⟨b1,0,none⟩,decide (GP nv.kind nv.post),decide (IE nv.kind nv.post),())∧aK h no g [blk b1 nv.cells] []∧(¬jb nv.kind→nv.weights.xs.length=0∧nv.bias.xs.length=0),?_,?_⟩
      ·rintro s g ⟨rfl,S,f4⟩
       unfold q6
       dsimp only
       have fin:(GP nv.kind nv.post∨(nv.mult=0∧nv.shift=0))→ ∀b,b=decide (IE nv.kind nv.post∨(nv.low=0∧nv.high=0))→Value.bool b= .bool (decide nv.nd.else0)∧cu no h g:=by
        intro h1 b hb
        refine⟨?_,S.fra⟩
        congr 1
        rw[hb,decide_eq_decide,iff]
        exact⟨fun h2=>⟨f1,f2,f3,f4,h1,h2⟩,fun h2=>h2.2.2.2.2.2⟩
       have fin2: ¬(GP nv.kind nv.post∨(nv.mult=0∧nv.shift=0))→Value.bool false= .bool (decide nv.nd.else0)∧cu no h g:=fun h1=>bad g S fun h2=>h1 (iff.1 h2).2.2.2.2.1
       have c10:aD g (Addr.add ⟨b1,0,none⟩ 10)=some (.int .i64 nv.mult):=S.cell 0 rfl rfl
       have c11:aD g (Addr.add ⟨b1,0,none⟩ 11)=some (.int .i64 nv.shift):=S.cell 0 rfl rfl
       have c12:aD g (Addr.add ⟨b1,0,none⟩ 12)=some (.int .i64 nv.low):=S.cell 0 rfl rfl
       have c13:aD g (Addr.add ⟨b1,0,none⟩ 13)=some (.int .i64 nv.high):=S.cell 0 rfl rfl
       refine au (fun hs=>au (fun hc=>fin (.inl hs) _ ?_) fun hc=>af c12 (aO (fun h3=>af c13 (fin (.inl hs) _ ?_)) fun h3=>fin (.inl hs) _ ?_)) fun hs=>af c10 (aO (fun h5=>af c11 (aO (fun h6=>au (fun hc=>fin (.inr ⟨h5,h6⟩) _ ?_) fun hc=>af c12 (aO (fun h3=>af c13 (fin (.inr ⟨h5,h6⟩) _ ?_)) fun h3=>fin (.inr ⟨h5,h6⟩) _ ?_)) fun h6=>fin2 (by omega))) fun h5=>fin2 (by omega))
       all_goals first
        |(symm;rw[decide_eq_true_iff];omega)
        |(symm;rw[decide_eq_false_iff_not];omega)
        |(rw[Bool.eq_iff_iff,decide_eq_true_iff,beq_iff_eq];omega)
      ·refine bN (au (fun hw=>⟨rfl,S,fun h=>absurd hw h⟩) fun hw=> ?_)
       (repeat (first|((with_reducible refine bZ ?_);refine am (S.cell 0 rfl rfl) ?_)))
       dsimp only[Nv.t]
       refine au (fun h3=>bad _ S (by rw[iff];omega)) fun h3=> ?_
       (repeat (first|((with_reducible refine bZ ?_);refine am (S.cell 0 rfl rfl) ?_)))
       dsimp only[Nv.t]
       exact au (fun h4=>bad _ S (by rw[iff];omega)) fun h4=>⟨rfl,S,fun _=>by omega⟩
     ·have c2:aD g (Addr.add ⟨b1,0,none⟩ 2)=some (.int .i64 nv.width):=S.cell 0 rfl rfl
      have c3:aD g (Addr.add ⟨b1,0,none⟩ 3)=some (.int .i64 nv.size):=S.cell 0 rfl rfl
      have c0:aD g ⟨b1,0,none⟩=some (.int .i64 nv.kind):=S.cell 0 rfl rfl
      have tail:(¬dD nv.kind∧nv.kind≠12→nv.size=0)→aL (!decide (wide nv.kind)) (ah .i64 g (Addr.add ⟨b1,0,none⟩ 2) fun n33=>aL (n33 !=0) (Value.bool false= .bool (decide nv.nd.else0)∧cu no h g)
       ((((⟨b1,0,none⟩:Addr),decide (jb nv.kind),decide (GP nv.kind nv.post),decide (IE nv.kind nv.post),()):Addr×Bool×Bool×Bool×Unit)=(⟨b1,0,none⟩,decide (jb nv.kind),decide (GP nv.kind nv.post),decide (IE nv.kind nv.post),())∧aK h no g [blk b1 nv.cells] []∧(¬dD nv.kind∧nv.kind≠12→nv.size=0)∧(¬wide nv.kind→nv.width=0)))
       ((((⟨b1,0,none⟩:Addr),decide (jb nv.kind),decide (GP nv.kind nv.post),decide (IE nv.kind nv.post),()):Addr×Bool×Bool×Bool×Unit)=(⟨b1,0,none⟩,decide (jb nv.kind),decide (GP nv.kind nv.post),decide (IE nv.kind nv.post),())∧aK h no g [blk b1 nv.cells] []∧(¬dD nv.kind∧nv.kind≠12→nv.size=0)∧(¬wide nv.kind→nv.width=0)):=by
       intro f2
       refine bN (au (fun hw=>⟨rfl,S,f2,fun h=>absurd hw h⟩) fun hw=>af c2 (bj (fun h3=>bad _ S (by rw[iff];omega)) fun h3=>⟨rfl,S,f2,fun _=>h3⟩))
      refine bN (au (fun ho=>tail (by omega)) fun ho=>af c0 (bj (fun h3=>af c3 (bj (fun h4=>bad _ S (by rw[iff];omega)) fun h4=>tail (by omega))) fun h3=>tail (by omega)))
    ·have c4:aD g (Addr.add ⟨b1,0,none⟩ 4)=some (.int .i64 nv.step):=S.cell 0 rfl rfl
     have c5:aD g (Addr.add ⟨b1,0,none⟩ 5)=some (.int .i64 nv.gap):=S.cell 0 rfl rfl
     have c6:aD g (Addr.add ⟨b1,0,none⟩ 6)=some (.int .i64 nv.left):=S.cell 0 rfl rfl
     have c7:aD g (Addr.add ⟨b1,0,none⟩ 7)=some (.int .i64 nv.right):=S.cell 0 rfl rfl
     refine bN (au (fun ho=>⟨rfl,S,fun h=>absurd ho h⟩) fun ho=>af c4 (bj (fun h3=>bad _ S (by rw[iff];omega)) fun h3=>af c5 (bj (fun h4=>bad _ S (by rw[iff];omega)) fun h4=>af c6 (bj (fun h5=>bad _ S (by rw[iff];omega)) fun h5=>
      af c7 (bj (fun h6=>bad _ S (by rw[iff];omega)) fun h6=>⟨rfl,S,fun _=>⟨h3,h4,h5,h6⟩⟩)))))
   ·have c0:aD g ⟨b1,0,none⟩=some (.int .i64 nv.kind):=S.cell 0 rfl rfl
    have c14:aD g (Addr.add ⟨b1,0,none⟩ 14)=some (.int .i64 nv.post):=S.cell 0 rfl rfl
    refine af c0 (aO (fun h3=>⟨?_,S⟩) fun h3=>af c14 ⟨?_,S⟩)
    ·rw[decide_eq_true (show IE nv.kind nv.post from .inl h3)]
    ·have:decide (IE nv.kind nv.post)=(cS .i64 nv.post 2==2):=by rw[Bool.eq_iff_iff,decide_eq_true_iff,beq_iff_eq];omega
     rw[this]
  ·have c0:aD g ⟨b1,0,none⟩=some (.int .i64 nv.kind):=S.cell 0 rfl rfl
   have c14:aD g (Addr.add ⟨b1,0,none⟩ 14)=some (.int .i64 nv.post):=S.cell 0 rfl rfl
   refine af c0 (aO (fun h3=>⟨?_,S⟩) fun h3=>af c14 ⟨?_,S⟩)
   ·rw[decide_eq_true (show GP nv.kind nv.post from .inl h3)]
   ·have:decide (GP nv.kind nv.post)=(cS .i64 nv.post 1==1):=by rw[Bool.eq_iff_iff,decide_eq_true_iff,beq_iff_eq];omega
    rw[this]
 ·(repeat (first|((with_reducible refine aU ?_);refine af (S.cell 0 rfl rfl) ?_)))
  dsimp only[Nv.t]
  refine aO (fun h3=>⟨?_,S⟩) fun h3=> ?_
  ·rw[decide_eq_true (show wide nv.kind from .inl h3)]
  ·(repeat (first|((with_reducible refine aU ?_);refine af (S.cell 0 rfl rfl) ?_)))
   dsimp only[Nv.t]
   have:decide (wide nv.kind)=(nv.kind==6):=by rw[Bool.eq_iff_iff,decide_eq_true_iff,beq_iff_eq];omega
   rw[this]
   exact⟨rfl,S⟩
end
end Go.Proofs.YtdhpmegbmjoekaaGreatDoor.G
end
section
namespace Go.Proofs.YtdhpmegbmjoekaaGreatDoor.G
open Go Go.Sh
set_option linter.unusedVariables false
set_option linter.unusedSimpArgs false
section
variable {h:ae}
set_option maxHeartbeats 1000000 in
theorem IF {nv:Nv} (hok:nv.ok) (hr:nv.rows.P h) (hlw:nv.weights.l<2 ^ 62) (hlb:nv.bias.l<2 ^ 62) {w:Int} (hw:0≤w∧w≤16):aq P kS #[nv.v,.int .i64 w] h fun v h'=>v= .bool (decide (nv.nd.sized w))∧cu no h h':=by
 refine yH _ _ ?_
 unfold zK
 have lw:=hok.2.1.1
 have lb:=hok.2.2.1
 have S:=(aK.start h no).read nv.rows hr
 refine aC (cs:=nv.cells) S fun b1 h1 _ S=> ?_
 dsimp only[List.nil_append] at S
 have bad: ∀g,aK h no g [blk b1 nv.cells] [nv.rows]→ ¬nv.nd.sized w→Value.bool false= .bool (decide (nv.nd.sized w))∧cu no h g:=fun g S hn=>⟨by rw[decide_eq_false hn],S.fra⟩
 have iff:=yt nv w
 have hlo:fz= -2147483648:=rfl
 have hhi:fD=2147483647:=rfl
 (repeat (first|((with_reducible refine aU ?_);refine af (S.cell 0 rfl rfl) ?_)))
 try dsimp only[Nv.t]
 refine(yq nv.kind).mono ?_
 rintro _ _ ⟨rfl,rfl⟩
 refine⟨_,rfl,?_⟩
 (repeat (first|((with_reducible refine aU ?_);refine af (S.cell 0 rfl rfl) ?_)))
 try dsimp only[Nv.t]
 refine(sq nv.kind).mono ?_
 rintro _ _ ⟨rfl,rfl⟩
 refine⟨_,rfl,?_⟩
 (repeat (first|((with_reducible refine aU ?_);refine af (S.cell 0 rfl rfl) ?_)))
 try dsimp only[Nv.t]
 refine(lT nv.size 1 8).mono ?_
 rintro _ _ ⟨rfl,rfl⟩
 refine⟨_,rfl,?_⟩
 refine⟨fun s g=>s=(w,⟨b1,0,none⟩,decide (dD nv.kind),decide (jb nv.kind),())∧aK h no g [blk b1 nv.cells] [nv.rows]∧(iM nv.kind→dw nv.size 1 8),?_,?_⟩
 ·rintro s g ⟨rfl,S,f1⟩
  unfold sN
  dsimp only
  (repeat (first|((with_reducible refine aU ?_);refine af (S.cell 0 rfl rfl) ?_)))
  try dsimp only[Nv.t]
  refine(lT nv.step 1 4).mono ?_
  rintro _ _ ⟨rfl,rfl⟩
  refine⟨_,rfl,?_⟩
  (repeat (first|((with_reducible refine aU ?_);refine af (S.cell 0 rfl rfl) ?_)))
  try dsimp only[Nv.t]
  refine(lT nv.gap 1 4).mono ?_
  rintro _ _ ⟨rfl,rfl⟩
  refine⟨_,rfl,?_⟩
  refine⟨fun s g=>s=(w,⟨b1,0,none⟩,decide (dD nv.kind),decide (jb nv.kind),())∧aK h no g [blk b1 nv.cells] [nv.rows]∧(dD nv.kind→dw nv.step 1 4∧dw nv.gap 1 4),?_,?_⟩
  ·rintro s g ⟨rfl,S,f2⟩
   unfold rh
   dsimp only
   refine⟨fun s g=>s=(w,⟨b1,0,none⟩,decide (jb nv.kind),())∧aK h no g [blk b1 nv.cells] [nv.rows]∧(dD nv.kind→(0≤nv.left∧nv.left<nv.nd.span)∧(0≤nv.right∧nv.right<nv.nd.span)),?_,?_⟩
   ·rintro s g ⟨rfl,S,f3⟩
    unfold rg
    dsimp only
    (repeat (first|((with_reducible refine aU ?_);refine af (S.cell 0 rfl rfl) ?_)))
    try dsimp only[Nv.t]
    refine(lT nv.width 1 16).mono ?_
    rintro _ _ ⟨rfl,rfl⟩
    refine⟨_,rfl,?_⟩
    refine⟨fun s g=>s=(w,⟨b1,0,none⟩,decide (jb nv.kind),())∧aK h no g [blk b1 nv.cells] [nv.rows]∧(wide nv.kind→dw nv.width 1 16),?_,?_⟩
    ·rintro s g ⟨rfl,S,f4⟩
     unfold re
     dsimp only
     refine⟨fun s g=>s=(⟨b1,0,none⟩,())∧aK h no g [blk b1 nv.cells] [nv.rows]∧(jb nv.kind→(nv.weights.xs.length:Int)=nv.nd.wcount w∧(nv.bias.xs.length:Int)=(if nv.kind=2 then w else nv.width)∧bo (-128) 127 nv.weights.xs∧bo (-16777216) 16777216 nv.bias.xs),?_,?_⟩
     ·rintro s g ⟨rfl,S,f5⟩
      unfold q8
      dsimp only
      have fin: ∀b,b=decide (dw nv.mult 0 32767∧dw nv.shift 0 30∧dw nv.low fz fD∧dw nv.high fz fD∧nv.low≤nv.high)→Value.bool b= .bool (decide (nv.nd.sized w))∧cu no h g:=by
       intro b hb
       refine⟨?_,S.fra⟩
       congr 1
       rw[hb,decide_eq_decide,iff]
       exact⟨fun h2=>⟨f1,fun h=>⟨(f2 h).1,(f2 h).2,f3 h⟩,f4,f5,h2⟩,fun h2=>h2.2.2.2.2⟩
      (repeat (first|((with_reducible refine aU ?_);refine af (S.cell 0 rfl rfl) ?_)))
      try dsimp only[Nv.t]
      refine(lT nv.mult 0 32767).mono ?_
      rintro _ _ ⟨rfl,rfl⟩
      refine⟨_,rfl,?_⟩
      (repeat (first|((with_reducible refine aU ?_);refine af (S.cell 0 rfl rfl) ?_)))
      try dsimp only[Nv.t]
      refine(lT nv.shift 0 30).mono ?_
      rintro _ _ ⟨rfl,rfl⟩
      refine⟨_,rfl,?_⟩
      (repeat (first|((with_reducible refine aU ?_);refine af (S.cell 0 rfl rfl) ?_)))
      try dsimp only[Nv.t]
      refine(lT nv.low (-2147483648) 2147483647).mono ?_
      rintro _ _ ⟨rfl,rfl⟩
      refine⟨_,rfl,?_⟩
      (repeat (first|((with_reducible refine aU ?_);refine af (S.cell 0 rfl rfl) ?_)))
      try dsimp only[Nv.t]
      refine(lT nv.high (-2147483648) 2147483647).mono ?_
      rintro _ _ ⟨rfl,rfl⟩
      refine⟨_,rfl,?_⟩
      refine au (fun h1=>au (fun h2=>au (fun h3=>au (fun h4=> ?_) fun h4=>fin _ ?_) fun h3=>fin _ ?_) fun h2=>fin _ ?_) fun h1=>fin _ ?_
      ·(repeat (first|((with_reducible refine aU ?_);refine af (S.cell 0 rfl rfl) ?_)))
       try dsimp only[Nv.t]
       exact fin _ (Bool.eq_iff_iff.2 ⟨fun h=>decide_eq_true (by have:=of_decide_eq_true h;omega),fun h=>decide_eq_true (by have:=of_decide_eq_true h;omega)⟩)
      all_goals (symm;rw[decide_eq_false_iff_not];omega)
     ·refine au (fun hwe=> ?_) (fun hwe=>⟨rfl,S,fun h=>absurd h hwe⟩)
      (repeat (first|((with_reducible refine aU ?_);refine af (S.cell 0 rfl rfl) ?_)))
      try dsimp only[Nv.t]
      refine⟨fun s g=>s=(w,⟨b1,0,none⟩,(if nv.kind=2 then w else nv.width),())∧aK h no g [blk b1 nv.cells] [nv.rows],?_,?_⟩
      ·rintro s g ⟨rfl,S⟩
       unfold q9
       dsimp only
       have r1:bT g nv.weights.p (az nv.weights.xs):=S.readF 0 (l:=[nv.inn.row,nv.weights.row,nv.bias.row]) (f:=nv.weights.row) (by simp) rfl
       have r2:bT g nv.bias.p (az nv.bias.xs):=S.readF 0 (l:=[nv.inn.row,nv.weights.row,nv.bias.row]) (f:=nv.bias.row) (by simp) rfl
       (repeat (first|((with_reducible refine bZ ?_);refine am (S.cell 0 rfl rfl) ?_)))
       try dsimp only[Nv.t]
       refine(Bx r1 lw hlw (-128) 127).mono ?_
       rintro _ _ ⟨rfl,rfl⟩
       refine⟨_,rfl,?_⟩
       (repeat (first|((with_reducible refine bZ ?_);refine am (S.cell 0 rfl rfl) ?_)))
       try dsimp only[Nv.t]
       refine(Bx r2 lb hlb (-16777216) 16777216).mono ?_
       rintro _ _ ⟨rfl,rfl⟩
       refine⟨_,rfl,?_⟩
       (repeat (first|((with_reducible refine bZ ?_);refine am (S.cell 0 rfl rfl) ?_)|((with_reducible refine oB ?_);refine aQ S 0 rfl rfl ?_)))
       try dsimp only[Nv.t]
       refine(FS nv hw (by omega) (by omega)).mono ?_
       rintro _ _ ⟨rfl,F⟩
       refine⟨_,rfl,?_⟩
       replace S:=S.fra0 F
       (repeat (first|((with_reducible refine tx ?_);refine bf (S.cell 0 rfl rfl) ?_)))
       try dsimp only[Nv.t]
       refine bj (fun h3=>bad _ S (by rw[iff];omega)) fun h3=> ?_
       (repeat (first|((with_reducible refine bZ ?_);refine am (S.cell 0 rfl rfl) ?_)))
       try dsimp only[Nv.t]
       refine bj (fun h4=>bad _ S (by rw[iff];omega)) fun h4=>bN (au (fun h5=>bN (au (fun h6=>⟨rfl,S,fun _=>⟨by omega,by omega,h5,h6⟩⟩) fun h6=>bad _ S (by rw[iff];exact fun h=>h6 (h.2.2.2.1 hwe).2.2.2))) fun h5=>bad _ S (by rw[iff];exact fun h=>h5 (h.2.2.2.1 hwe).2.2.1))
      ·(repeat (first|((with_reducible refine aU ?_);refine af (S.cell 0 rfl rfl) ?_)))
       try dsimp only[Nv.t]
       refine aO (fun h3=>⟨by rw[if_pos h3],S⟩) (fun h3=>⟨by rw[if_neg h3],S⟩)
    ·(repeat (first|((with_reducible refine aU ?_);refine af (S.cell 0 rfl rfl) ?_)))
     try dsimp only[Nv.t]
     refine aO (fun h3=>bN (au (fun h4=>⟨rfl,S,fun _=>h4⟩) fun h4=>bad _ S (by rw[iff];omega))) (fun h3=> ?_)
     (repeat (first|((with_reducible refine aU ?_);refine af (S.cell 0 rfl rfl) ?_)))
     try dsimp only[Nv.t]
     exact aO (fun h5=>bN (au (fun h4=>⟨rfl,S,fun _=>h4⟩) fun h4=>bad _ S (by rw[iff];omega))) (fun h5=>⟨rfl,S,fun h=>by omega⟩)
   ·refine au (fun ho=> ?_) (fun ho=>⟨rfl,S,fun h=>absurd h ho⟩)
    have f1':=f1 (.inl ho)
    have f2':=f2 ho
    (repeat (first|((with_reducible refine aU ?_);refine af (S.cell 0 rfl rfl) ?_)))
    try dsimp only[Nv.t]
    refine au (fun h3=>bad _ S (by rw[iff];omega)) (fun h3=> ?_)
    (repeat (first|((with_reducible refine aU ?_);refine af (S.cell 0 rfl rfl) ?_)|((with_reducible refine oB ?_);refine aQ S 0 rfl rfl ?_)))
    try dsimp only[Nv.t]
    refine(tS nv (by omega) (by omega)).mono ?_
    rintro _ _ ⟨rfl,F⟩
    refine⟨_,rfl,?_⟩
    replace S:=S.fra0 F
    (repeat (first|((with_reducible refine tx ?_);refine bf (S.cell 0 rfl rfl) ?_)))
    try dsimp only[Nv.t]
    refine au (fun h4=> ?_) (fun h4=> ?_)
    ·(repeat (first|((with_reducible refine tx ?_);refine bf (S.cell 0 rfl rfl) ?_)))
     exact bad _ S (by rw[iff];omega)
    ·(repeat (first|((with_reducible refine aU ?_);refine af (S.cell 0 rfl rfl) ?_)))
     try dsimp only[Nv.t]
     refine au (fun h5=> ?_) (fun h5=> ?_)
     ·(repeat (first|((with_reducible refine tx ?_);refine bf (S.cell 0 rfl rfl) ?_)))
      exact bad _ S (by rw[iff];omega)
     ·(repeat (first|((with_reducible refine aU ?_);refine af (S.cell 0 rfl rfl) ?_)|((with_reducible refine oB ?_);refine aQ S 0 rfl rfl ?_)))
      try dsimp only[Nv.t]
      refine(tS nv (by omega) (by omega)).mono ?_
      rintro _ _ ⟨rfl,F⟩
      refine⟨_,rfl,?_⟩
      replace S:=S.fra0 F
      (repeat (first|((with_reducible refine tx ?_);refine bf (S.cell 0 rfl rfl) ?_)))
      try dsimp only[Nv.t]
      exact au (fun h6=>bad _ S (by rw[iff];omega)) (fun h6=>⟨rfl,S,fun _=>by omega⟩)
  ·exact au (fun ho=>bN (au (fun h3=>bN (au (fun h4=>⟨rfl,S,fun _=>⟨h3,h4⟩⟩) fun h4=>bad _ S (by rw[iff];omega))) fun h3=>bad _ S (by rw[iff];omega))) (fun ho=>⟨rfl,S,fun h=>absurd h ho⟩)
 ·refine au (fun ho=>bN (au (fun h3=>⟨rfl,S,fun _=>h3⟩) fun h3=>bad _ S (by rw[iff];omega))) (fun ho=> ?_)
  (repeat (first|((with_reducible refine aU ?_);refine af (S.cell 0 rfl rfl) ?_)))
  try dsimp only[Nv.t]
  exact aO (fun h5=>bN (au (fun h3=>⟨rfl,S,fun _=>h3⟩) fun h3=>bad _ S (by rw[iff];omega))) (fun h5=>⟨rfl,S,fun h=>by omega⟩)
end
end Go.Proofs.YtdhpmegbmjoekaaGreatDoor.G
end
section
namespace Go.Proofs.YtdhpmegbmjoekaaGreatDoor.G
open Go Go.Sh
set_option linter.unusedVariables false
set_option linter.unusedSimpArgs false
def cd (n:Nd) (rs:List Int):Int:=
 if ¬(∀x∈rs,x=rs.getD 0 0) then-1 else if rs.getD 0 0=0∧(iM n.kind∨n.kind=5) then-1 else if n.kind=5 then 0 else rs.getD 0 0*fg n.kind n.step
theorem dK {xs:List Int} {i:Nat} (h:i<xs.length):xs.getD i 0=xs[i]:=by rw[List.getD_eq_getElem?_getD,List.getElem?_eq_getElem h];rfl
section
variable {h:ae}
theorem IG {nv:Nv} (hok:nv.ok) (hr:nv.rows.P h) (hli:nv.inn.l<2 ^ 62) (hlw:nv.weights.l<2 ^ 62) (hlb:nv.bias.l<2 ^ 62) {p:Option Addr} {l c:Nat} {ws:List Int} (hw:bT h p (az ws)) (hl:ws.length=l) (hl2:l<2 ^ 56):
 aq P kU #[nv.v,.slice p l c] h fun v h'=>v= .int .i64 (nv.nd.chk ws)∧cu no h h':=by
 refine yI _ _ _ _ ?_
 unfold zM
 have li:=hok.1.1
 have eli:nv.nd.inn.length=nv.inn.l:=li
 have S:=((aK.start h no).read nv.rows hr).read (row p (az ws)) hw
 refine aC (cs:=nv.cells) S fun b1 h1 _ S=> ?_
 dsimp only[List.nil_append,List.cons_append] at S
 refine(Bx (S.row 1 rfl) hl (by omega) 1 16).mono ?_
 rintro _ _ ⟨rfl,rfl⟩
 refine⟨_,rfl,?_⟩
 have ret1:(ws.length≠nv.nd.inn.length∨ ¬bo 1 16 ws)→ ∀g,aK h no g [blk b1 nv.cells] [nv.rows,row p (az ws)]→Value.int .i64 1= .int .i64 (nv.nd.chk ws)∧cu no h g:=fun hn g S=>⟨by unfold Nd.chk;rw[if_pos hn],S.fra⟩
 refine⟨fun s g=>s=((p,l,c),⟨b1,0,none⟩,())∧aK h no g [blk b1 nv.cells] [nv.rows,row p (az ws)]∧ ¬(ws.length≠nv.nd.inn.length∨ ¬bo 1 16 ws),?_,?_⟩
 ·rintro s g ⟨rfl,S,n1⟩
  unfold sP
  dsimp only
  have hfit:bo 1 16 ws:=by apply Decidable.byContradiction;intro h;exact n1 (.inr h)
  have ret12:(¬dw nv.kind 1 12∨(dv nv.kind∧ ¬(2≤ws.length∧ws.length≤4))∨(¬dv nv.kind∧ws.length≠1)∨ ¬dw nv.post 0 3∨(nv.post≠0∧ ¬jb nv.kind)∨ ¬nv.nd.else0)→ ∀g,aK h no g [blk b1 nv.cells] [nv.rows,row p (az ws)]→Value.int .i64 12= .int .i64 (nv.nd.chk ws)∧cu no h g:=
   fun hn g S=>⟨by unfold Nd.chk;rw[if_neg n1];exact congrArg _ (if_pos hn).symm,S.fra⟩
  (repeat (first|((with_reducible refine aU ?_);refine af (S.cell 0 rfl rfl) ?_)))
  try dsimp only[Nv.t]
  refine(lT nv.kind 1 12).mono ?_
  rintro _ _ ⟨rfl,rfl⟩
  refine⟨_,rfl,?_⟩
  (repeat (first|((with_reducible refine aU ?_);refine af (S.cell 0 rfl rfl) ?_)))
  try dsimp only[Nv.t]
  refine(KS nv.kind).mono ?_
  rintro _ _ ⟨rfl,rfl⟩
  refine⟨_,rfl,?_⟩
  (repeat (first|((with_reducible refine aU ?_);refine af (S.cell 0 rfl rfl) ?_)))
  try dsimp only[Nv.t]
  refine(sq nv.kind).mono ?_
  rintro _ _ ⟨rfl,rfl⟩
  refine⟨_,rfl,?_⟩
  refine⟨fun s g=>s=((p,l,c),⟨b1,0,none⟩,decide (jb nv.kind),())∧aK h no g [blk b1 nv.cells] [nv.rows,row p (az ws)]∧dw nv.kind 1 12∧(dv nv.kind→2≤ws.length∧ws.length≤4)∧(¬dv nv.kind→ws.length=1),?_,?_⟩
  ·rintro s g ⟨rfl,S,k1,k2,k3⟩
   unfold sO
   dsimp only
   refine⟨fun s g=>s=((p,l,c),⟨b1,0,none⟩,())∧aK h no g [blk b1 nv.cells] [nv.rows,row p (az ws)]∧dw nv.post 0 3∧(nv.post≠0→jb nv.kind),?_,?_⟩
   ·rintro s g ⟨rfl,S,k4,k5⟩
    unfold rq
    dsimp only
    (repeat (first|((with_reducible refine oB ?_);refine aQ S 0 rfl rfl ?_)))
    refine(G2 hok).mono ?_
    rintro _ _ ⟨rfl,F⟩
    refine⟨_,rfl,?_⟩
    replace S:=S.fra0 F
    refine bN (au (fun k6=> ?_) (fun k6=>ret12 (.inr (.inr (.inr (.inr (.inr k6))))) _ S))
    have hl1:1≤ws.length:=by omega
    have hx:=S.row 1 rfl
    obtain⟨aa,rfl⟩:=hx.some_of (by rw[aB];omega)
    refine aG rfl (k:=0) rfl (by omega) ?_
    (repeat (first|((with_reducible refine oB ?_);refine aQ S 0 rfl rfl ?_)))
    have e0:ws.getD 0 0=ws[0]:=dK hl1
    refine af (n:=ws.getD 0 0) (hx.cell (i:=0) (aN (by rw[List.getElem?_eq_getElem (by omega),e0]))) ?_
    have hw0:=hfit ws[0] (List.getElem_mem _)
    rw[←e0] at hw0
    have nk12: ¬(¬dw nv.nd.kind 1 12∨(dv nv.nd.kind∧ ¬(2≤ws.length∧ws.length≤4))∨(¬dv nv.nd.kind∧ws.length≠1)∨ ¬dw nv.nd.post 0 3∨(nv.nd.post≠0∧ ¬jb nv.nd.kind)∨ ¬nv.nd.else0):=by
     have ek:nv.nd.kind=nv.kind:=rfl
     have ep:nv.nd.post=nv.post:=rfl
     rw[ek,ep]
     rintro(h|h|h|h|h|h)
     ·exact h k1
     ·exact h.2 (k2 h.1)
     ·exact h.2 (k3 h.1)
     ·exact h k4
     ·exact h.2 (k5 h.1)
     ·exact h k6
    refine(IF hok (S.r 0 _ rfl) hlw hlb (by omega)).mono ?_
    rintro _ _ ⟨rfl,F⟩
    refine⟨_,rfl,?_⟩
    replace S:=S.fra0 F
    refine bN (au (fun k7=> ?_) (fun k7=>⟨by unfold Nd.chk;rw[if_neg n1,if_neg nk12,if_pos k7],S.fra⟩))
    have nk22: ¬ ¬nv.nd.sized (ws.getD 0 0):=fun h=>h k7
    refine aT (fun m s g=> ∃i:Nat,s=((some aa,l,c),⟨b1,0,none⟩,gN (ws.take i),(i:Int),())∧i≤l∧m=l-i∧(nv.kind=7→ ∀x∈ws.take i,x=ws.getD 0 0)∧aK h no g [blk b1 nv.cells] [nv.rows,row (some aa) (az ws)]) l ⟨0,rfl,by omega,rfl,by simp,S⟩ ?_
    rintro m s g ⟨i,rfl,hi',rfl,h7,S⟩
    unfold ri
    dsimp only
    refine au (fun hlt=> ?_) (fun hge=> ?_)
    ·have hix:i<ws.length:=by omega
     have hc:=(S.row 1 rfl).cell (aN (List.getElem?_eq_getElem hix))
     have hc0:aD g (Addr.add aa 0)=some (.int .i64 (ws.getD 0 0)):=(S.row 1 rfl).cell (i:=0) (aN (by rw[List.getElem?_eq_getElem (by omega),e0]))
     refine aG rfl rfl (by omega) ?_
     simp only[Int.toNat_natCast,Nat.mul_one]
     refine af hc ?_
     (repeat (first|((with_reducible refine aU ?_);refine af (S.cell 0 rfl rfl) ?_)))
     try dsimp only[Nv.t]
     have hsr:=jz (oZ i hfit)
     rw[List.length_take] at hsr
     have hxi:=hfit ws[i] (List.getElem_mem hix)
     rw[al (n:=gN (ws.take i)+ws[i]) (by omega),al (n:=(i:Int)+1) (by omega),←oY hix]
     refine aO (fun h8=> ?_) (fun h8=> ?_)
     ·refine aG rfl rfl (by omega) (aG rfl (k:=0) rfl (by omega) ?_)
      refine af hc (af hc0 (bj (fun h9=>⟨?_,S.fra⟩) (fun h9=> ?_)))
      ·have h77:nv.nd.kind=7∧ ¬ ∀x∈ws,x=ws.getD 0 0:=⟨h8,fun h=>h9 (h _ (List.getElem_mem hix))⟩
       unfold Nd.chk;rw[if_neg n1,if_neg nk12,if_neg nk22,if_pos h77]
      ·refine⟨l-(i+1),by omega,i+1,by trivial,by omega,rfl,fun _ x hx=> ?_,S⟩
       rw[List.take_succ_eq_append_getElem hix] at hx
       rcases List.mem_append.1 hx with hx|hx
       ·exact h7 h8 x hx
       ·simp only[List.mem_singleton] at hx;subst hx;exact h9
     ·exact⟨l-(i+1),by omega,i+1,rfl,by omega,rfl,fun h=>absurd h h8,S⟩
    ·rw[List.take_of_length_le (by omega)] at h7 ⊢
     have n14: ¬(nv.nd.kind=7∧ ¬ ∀x∈ws,x=ws.getD 0 0):=fun h=>h.2 (h7 h.1)
     (repeat (first|((with_reducible refine aU ?_);refine af (S.cell 0 rfl rfl) ?_)))
     try dsimp only[Nv.t]
     refine aO (fun h8=>au (fun h9=>⟨?_,S.fra⟩) (fun h9=>⟨?_,S.fra⟩)) (fun h8=>⟨?_,S.fra⟩)
     ·have h88:nv.nd.kind=8∧gN ws>16:=⟨h8,h9⟩
      unfold Nd.chk;rw[if_neg n1,if_neg nk12,if_neg nk22,if_neg n14,if_pos h88]
     ·have h88: ¬(nv.nd.kind=8∧gN ws>16):=fun h=>h9 h.2
      unfold Nd.chk;rw[if_neg n1,if_neg nk12,if_neg nk22,if_neg n14,if_neg h88]
     ·have h88: ¬(nv.nd.kind=8∧gN ws>16):=fun h=>h8 h.1
      unfold Nd.chk;rw[if_neg n1,if_neg nk12,if_neg nk22,if_neg n14,if_neg h88]
   ·have c14:aD g (Addr.add ⟨b1,0,none⟩ 14)=some (.int .i64 nv.post):=S.cell 0 rfl rfl
    refine af c14 (au (fun h3=>ret12 (by omega) _ S) fun h3=>af c14 (au (fun h4=>ret12 (by omega) _ S) fun h4=>af c14 (bj (fun h5=>bN (au (fun h6=>⟨rfl,S,by omega,fun _=>h6⟩) fun h6=>ret12 (by omega) _ S)) fun h5=>⟨rfl,S,by omega,fun h=>absurd h5 h⟩)))
  ·refine bN (au (fun h3=> ?_) (fun h3=>ret12 (.inl h3) _ S))
   refine au (fun h4=>au (fun h5=>ret12 (by omega) _ S) fun h5=>au (fun h6=>ret12 (by omega) _ S) fun h6=>bN (au (fun h7=>⟨rfl,S,h3,fun _=>by omega,fun h=>absurd h4 h⟩) fun h7=>absurd h4 h7)) fun h4=>
    bN (au (fun h7=>absurd h7 h4) fun h7=>bj (fun h8=>ret12 (by omega) _ S) fun h8=>⟨rfl,S,h3,fun h=>absurd h h4,fun _=>by omega⟩)
 ·(repeat (first|((with_reducible refine bZ ?_);refine am (S.cell 0 rfl rfl) ?_)))
  try dsimp only[Nv.t]
  refine bj (fun h3=>ret1 (.inl (by omega)) _ S) (fun h3=>bN (au (fun h4=>⟨rfl,S,?_⟩) fun h4=>ret1 (.inr h4) _ S))
  rintro(h|h)
  ·omega
  ·exact h h4
theorem IH {nv:Nv} (hok:nv.ok) (hr:nv.rows.P h) (hli:nv.inn.l<2 ^ 62) (hlw:nv.weights.l<2 ^ 62) (hlb:nv.bias.l<2 ^ 62) {p:Option Addr} {l c:Nat} {ws:List Int} (hw:bT h p (az ws)) (hl:ws.length=l) (hl2:l<2 ^ 56):
 aq P kV #[nv.v,.slice p l c] h fun v h'=>v= .int .i64 (nv.nd.wid ws)∧cu no h h':=by
 refine yJ _ _ _ _ ?_
 unfold zN
 have S:=((aK.start h no).read nv.rows hr).read (row p (az ws)) hw
 refine aC (cs:=nv.cells) S fun b1 h1 _ S=> ?_
 dsimp only[List.nil_append,List.cons_append] at S
 have ek:nv.nd.kind=nv.kind:=rfl
 (repeat (first|((with_reducible refine oB ?_);refine aQ S 0 rfl rfl ?_)))
 refine(IG hok (S.r 0 _ rfl) hli hlw hlb (S.row 1 rfl) hl hl2).mono ?_
 rintro _ _ ⟨rfl,F⟩
 refine⟨_,rfl,?_⟩
 replace S:=S.fra0 F
 refine bj (fun h3=>⟨by unfold Nd.wid;rw[if_pos h3],S.fra⟩) (fun h3=> ?_)
 have nc: ¬nv.nd.chk ws≠0:=fun h=>h h3
 have hfit:bo 1 16 ws:=by
  apply Decidable.byContradiction
  intro h
  unfold Nd.chk at h3
  rw[if_pos (.inr h)] at h3
  exact absurd h3 (by decide)
 have hlen1:1≤ws.length:=by
  apply Decidable.byContradiction
  intro h
  unfold Nd.chk at h3
  split at h3
  ·exact absurd h3 (by decide)
  ·rw[if_pos (by
    by_cases hm:dv nv.nd.kind
    ·exact .inr (.inl ⟨hm,by omega⟩)
    ·exact .inr (.inr (.inl ⟨hm,by omega⟩)))] at h3
   exact absurd h3 (by decide)
 refine⟨fun s g=>s=((p,l,c),⟨b1,0,none⟩,())∧aK h no g [blk b1 nv.cells] [nv.rows,row p (az ws)]∧ ¬wide nv.nd.kind,?_,?_⟩
 ·rintro s g ⟨rfl,S,n1⟩
  unfold sQ
  dsimp only
  (repeat (first|((with_reducible refine aU ?_);refine af (S.cell 0 rfl rfl) ?_)))
  try dsimp only[Nv.t]
  refine aO (fun h4=>⟨by unfold Nd.wid;rw[if_neg nc,if_neg n1,if_pos (by rw[ek];exact h4)],S.fra⟩) (fun h4=> ?_)
  have n2: ¬nv.nd.kind=11:=h4
  (repeat (first|((with_reducible refine aU ?_);refine af (S.cell 0 rfl rfl) ?_)))
  try dsimp only[Nv.t]
  have hx:=S.row 1 rfl
  refine bj (fun h5=> ?_) (fun h5=> ?_)
  ·obtain⟨aa,rfl⟩:=hx.some_of (by rw[aB];omega)
   refine aG rfl (k:=0) rfl (by omega) ?_
   refine af (n:=ws.getD 0 0) (hx.cell (i:=0) (aN (by rw[List.getElem?_eq_getElem (by omega),dK hlen1]))) ⟨?_,S.fra⟩
   have h5':nv.nd.kind≠8:=h5
   unfold Nd.wid;rw[if_neg nc,if_neg n1,if_neg n2,if_pos h5']
  ·refine aT (fun m s g=> ∃i:Nat,s=((p,l,c),gN (ws.take i),(i:Int),())∧i≤l∧m=l-i∧aK h no g [blk b1 nv.cells] [nv.rows,row p (az ws)]) l ⟨0,rfl,by omega,rfl,S⟩ ?_
   rintro m s g ⟨i,rfl,hi',rfl,S⟩
   unfold ru
   dsimp only
   refine au (fun hlt=> ?_) (fun hge=> ?_)
   ·have hix:i<ws.length:=by omega
    have hx:=S.row 1 rfl
    obtain⟨aa,rfl⟩:=hx.some_of (by rw[aB];omega)
    refine aG rfl rfl (by omega) ?_
    simp only[Int.toNat_natCast,Nat.mul_one]
    refine af (hx.cell (aN (List.getElem?_eq_getElem hix))) ?_
    have hsr:=jz (oZ i hfit)
    rw[List.length_take] at hsr
    have hxi:=hfit ws[i] (List.getElem_mem hix)
    rw[al (n:=gN (ws.take i)+ws[i]) (by omega),al (n:=(i:Int)+1) (by omega),←oY hix]
    exact⟨l-(i+1),by omega,i+1,rfl,by omega,rfl,S⟩
   ·rw[List.take_of_length_le (by omega)]
    have h5': ¬nv.nd.kind≠8:=fun h=>h h5
    exact⟨by unfold Nd.wid;rw[if_neg nc,if_neg n1,if_neg n2,if_neg h5'],S.fra⟩
 ·(repeat (first|((with_reducible refine aU ?_);refine af (S.cell 0 rfl rfl) ?_)))
  try dsimp only[Nv.t]
  have yes:wide nv.nd.kind→Value.int .i64 nv.width= .int .i64 (nv.nd.wid ws):=fun h=>by unfold Nd.wid;rw[if_neg nc,if_pos h];rfl
  refine aO (fun h4=> ?_) (fun h4=> ?_)
  ·(repeat (first|((with_reducible refine aU ?_);refine af (S.cell 0 rfl rfl) ?_)))
   exact⟨yes (.inl h4),S.fra⟩
  ·(repeat (first|((with_reducible refine aU ?_);refine af (S.cell 0 rfl rfl) ?_)))
   try dsimp only[Nv.t]
   refine aO (fun h5=> ?_) (fun h5=> ?_)
   ·(repeat (first|((with_reducible refine aU ?_);refine af (S.cell 0 rfl rfl) ?_)))
    exact⟨yes (.inr h5),S.fra⟩
   ·exact⟨rfl,S,by rw[ek];omega⟩
theorem KV {nv:Nv} {p:Option Addr} {l c:Nat} {rs:List Int} (hw:bT h p (az rs)) (hl:rs.length=l) (h1l:1≤l) (hl2:l<2 ^ 56) (hr:0≤rs.getD 0 0∧rs.getD 0 0≤2 ^ 30) (hs:dD nv.kind→0≤nv.step∧nv.step≤2 ^ 20):
 aq P me #[nv.v,.slice p l c] h fun v h'=>v= .int .i64 (cd nv.nd rs)∧cu no h h':=by
 refine AB _ _ _ _ ?_
 unfold B0
 have S:=(aK.start h no).read (row p (az rs)) hw
 refine aC (cs:=nv.cells) S fun b1 h1 _ S=> ?_
 dsimp only[List.nil_append,List.cons_append] at S
 have hx:=S.row 0 rfl
 obtain⟨aa,rfl⟩:=hx.some_of (by rw[aB];omega)
 refine aG rfl (k:=0) rfl (by omega) ?_
 refine af (n:=rs.getD 0 0) (hx.cell (i:=0) (aN (by rw[List.getElem?_eq_getElem (by omega),dK (by omega)]))) ?_
 generalize hr0:rs.getD 0 0=r at hr ⊢
 have ek:nv.nd.kind=nv.kind:=rfl
 refine aT (fun m s g=> ∃i:Nat,s=((some aa,l,c),⟨b1,0,none⟩,r,(i:Int),())∧i≤l∧m=l-i∧(∀x∈rs.take i,x=r)∧aK h no g [blk b1 nv.cells] [row (some aa) (az rs)]) l ⟨0,rfl,by omega,rfl,by simp,S⟩ ?_
 rintro m s g ⟨i,rfl,hi',rfl,hall,S⟩
 unfold va
 dsimp only
 refine au (fun hlt=> ?_) (fun hge=> ?_)
 ·have hix:i<rs.length:=by omega
  have hx:=S.row 0 rfl
  refine aG rfl rfl (by omega) ?_
  simp only[Int.toNat_natCast,Nat.mul_one]
  refine af (hx.cell (aN (List.getElem?_eq_getElem hix))) (bj (fun h9=>⟨?_,S.fra⟩) (fun h9=> ?_))
  ·unfold cd;rw[hr0,if_pos (fun h=>h9 (h _ (List.getElem_mem hix)))]
  ·rw[al (n:=(i:Int)+1) (by omega)]
   refine⟨l-(i+1),by omega,i+1,by trivial,by omega,rfl,fun x hx=> ?_,S⟩
   rw[List.take_succ_eq_append_getElem hix] at hx
   rcases List.mem_append.1 hx with hx|hx
   ·exact hall x hx
   ·simp only[List.mem_singleton] at hx;subst hx;exact h9
 ·rw[List.take_of_length_le (by omega)] at hall
  have na: ¬ ¬ ∀x∈rs,x=r:=fun h=>h hall
  (repeat (first|((with_reducible refine aU ?_);refine af (S.cell 0 rfl rfl) ?_)))
  try dsimp only[Nv.t]
  refine(wF nv.kind).mono ?_
  rintro _ _ ⟨rfl,rfl⟩
  refine⟨_,rfl,?_⟩
  have e:cd nv.nd rs=if r=0∧(iM nv.kind∨nv.kind=5) then-1 else if nv.kind=5 then 0 else r*fg nv.kind nv.step:=by
   unfold cd;rw[hr0,if_neg na];rfl
  rw[e]
  have hst:0≤fg nv.kind nv.step∧fg nv.kind nv.step≤2 ^ 20:=by
   unfold fg;split
   ·rename_i h;exact hs h
   ·decide
  have hm:0≤r*fg nv.kind nv.step∧r*fg nv.kind nv.step≤2 ^ 50:=by
   refine⟨Int.mul_nonneg hr.1 hst.1,?_⟩
   have:=Int.mul_le_mul hr.2 hst.2 hst.1 (by decide)
   omega
  have tail: ∀g,aK h no g [blk b1 nv.cells] [row (some aa) (az rs)]→ ¬(r=0∧(iM nv.kind∨nv.kind=5))→ ¬nv.kind=5→aX da g ⟨b1,0,none⟩ fun x17=>aI P .i64 iR #[bz da x17] g fun n19 h18=>(Value.int .i64 (IntKind.wrap .i64 (r*n19))= .int .i64 (if r=0∧(iM nv.kind∨nv.kind=5) then-1 else if nv.kind=5 then 0 else r*fg nv.kind nv.step)∧cu no h h18):=by
   intro g S n1 n2
   (repeat (first|((with_reducible refine oB ?_);refine aQ S 0 rfl rfl ?_)))
   refine(KU nv).mono ?_
   rintro _ _ ⟨rfl,F⟩
   refine⟨_,rfl,?_⟩
   replace S:=S.fra0 F
   dsimp only
   rw[if_neg n1,if_neg n2,al (by omega)]
   exact⟨rfl,S.fra⟩
  refine aO (fun h3=>au (fun h4=>⟨by rw[if_pos ⟨h3,.inl h4⟩],S.fra⟩) fun h4=> ?_) (fun h3=> ?_)
  ·(repeat (first|((with_reducible refine aU ?_);refine af (S.cell 0 rfl rfl) ?_)))
   try dsimp only[Nv.t]
   refine aO (fun h5=>⟨by rw[if_pos ⟨h3,.inr h5⟩],S.fra⟩) (fun h5=> ?_)
   (repeat (first|((with_reducible refine aU ?_);refine af (S.cell 0 rfl rfl) ?_)))
   try dsimp only[Nv.t]
   refine aO (fun h5'=>absurd h5' h5) (fun _=> ?_)
   have:=tail _ S (by omega) h5
   exact this
  ·(repeat (first|((with_reducible refine aU ?_);refine af (S.cell 0 rfl rfl) ?_)))
   try dsimp only[Nv.t]
   refine aO (fun h5=>⟨by rw[if_neg (by omega),if_pos h5],S.fra⟩) (fun h5=> ?_)
   have:=tail _ S (by omega) h5
   exact this
end
end Go.Proofs.YtdhpmegbmjoekaaGreatDoor.G
end
