/- How many frames a node tells (earshotref14: Count, Ready): plain, and the contracts; values along an order. -/
import Derived.Test.YtbgplllcjhgdhaaGreatDoorCKeep4
import Derived.Test.YtbgplllcjhgdhaaGreatDoorCGood2
import Derived.Test.YtbgplllcjhgdhaaGreatDoorCRef16c
namespace Go.Proofs.YtbgplllcjhgdhaaGreatDoor.G
open Go Go.Sh
set_option linter.unusedVariables false
set_option linter.unusedSimpArgs false
theorem val_ex {α:Type} {ns:List Nd} (h:(ordG ns).length=ns.length) (v0:α) (F:Nat→Nd→List α→α): ∃V:Int→α,V 0=v0∧ ∀(i:Nat) (n:Nd),ns[i]? =some n→V ((i:Int)+1)=F i n (n.inn.map V):=by
 have key: ∀k,∃V:Int→α,V 0=v0∧ ∀(i:Nat) (n:Nd),ns[i]? =some n→((i:Int)+1)∈ordK ns k→V ((i:Int)+1)=F i n (n.inn.map V):=by
  intro k
  induction k with
  |zero=>exact⟨fun _=>v0,rfl,fun i n _ hi=>by simp[ordK] at hi;omega⟩
  |succ k ih=>
   obtain⟨V,h0,hV⟩:=ih
   rcases stepO_cases ns (ordK ns k) with e|⟨q,m,em,q1,q2,e⟩
   ·rw[show ordK ns (k+1)=ordK ns k from e];exact⟨V,h0,hV⟩
   ·have e:ordK ns (k+1)=ordK ns k++[(q:Int)+1]:=e
    have key2: ∀(v:α) (l:List Int),(∀j∈l,j∈ordK ns k)→l.map (fun x=>if x=(q:Int)+1 then v else V x)=l.map V:=fun v l hl=>List.map_congr_left fun j hj=>if_neg (fun(h:j=(q:Int)+1)=>q1 (h▸hl j hj))
    refine⟨fun x=>if x=(q:Int)+1 then F q m (m.inn.map V) else V x,by dsimp only;rw[if_neg (by omega)];exact h0,fun i n en hi=> ?_⟩
    dsimp only
    rw[e] at hi
    by_cases hk:((i:Int)+1)∈ordK ns k
    ·have hne: ¬((i:Int)+1=(q:Int)+1):=fun h=>q1 (h▸hk)
     rw[key2 _ _ (fun j hj=>(ordK_rank ns k i n en hk j hj).1),if_neg hne]
     exact hV i n en hk
    ·have hiq:i=q:=by
      rcases List.mem_append.1 hi with h|h
      ·exact absurd h hk
      ·simp only[List.mem_singleton] at h;omega
     subst hiq
     rw[em] at en;cases en
     rw[key2 _ _ q2,if_pos rfl]
 obtain⟨V,h0,hV⟩:=key ns.length
 refine⟨V,h0,fun i n en=>hV i n en ?_⟩
 have:=(List.getElem?_eq_some_iff.1 en).1
 rw[ordK_cons]
 exact List.mem_cons_of_mem _ (ordG_all h (by omega) (by omega))
theorem least_mem: ∀(l:List Int) (a:Int),l.foldl (fun x y=>if y<x then y else x) a=a∨l.foldl (fun x y=>if y<x then y else x) a∈l
 |[],a=> .inl rfl
 |y::r,a=>by
  rw[List.foldl_cons]
  rcases least_mem r (if y<a then y else a) with h|h
  ·rw[h]
   split
   ·exact .inr List.mem_cons_self
   ·exact .inl rfl
  ·exact .inr (List.mem_cons_of_mem _ h)
theorem leastL_mem {l:List Int} (h:1≤l.length):leastL l∈l:=by
 have hd:l.getD 0 0∈l:=by rw[getD_eq (by omega)];exact List.getElem_mem _
 rcases least_mem l (l.getD 0 0) with h|h
 ·unfold leastL;rw[h];exact hd
 ·exact h
theorem chk_size {n:Nd} {ws:List Int} (h:n.chk ws=0):(0≤n.size∧n.size≤8)∧(0≤n.gap∧n.gap≤4)∧(0≤n.leftN∧n.leftN≤31)∧(0≤n.span-1-n.leftN∧n.span-1-n.leftN≤31)∧(1≤n.span∧n.span≤32)∧(1≤stepN n.kind n.step∧stepN n.kind n.step≤4):=by
 obtain⟨c1,c2,c3,c4,c5,c6,c7,c8,c9,c10,c11,c12⟩:=chk_ok h
 obtain⟨e1,e2,_⟩:=c9
 obtain⟨s1,s2,_⟩:=c10
 have esp:n.span=if n.kind=12 then n.size else if four n.kind then(n.size-1)*n.gap+1 else 1:=rfl
 unfold Nd.leftN stepN
 rw[esp]
 by_cases h12:n.kind=12
 ·have h4: ¬four n.kind:=by rintro(h|h|h|h)<;>omega
  have:=s1 (.inr h12)
  have:=e1 h4
  rw[if_pos h12,if_pos h12,if_neg h4]
  omega
 ·rw[if_neg h12,if_neg h12]
  by_cases h4:four n.kind
  ·have hs:=s1 (.inl h4)
   have h42:=s2 h4
   rw[esp,if_neg h12,if_pos h4] at h42
   rw[if_pos h4,if_pos h4,if_pos h4]
   obtain⟨⟨a1,a2⟩,⟨b1,b2⟩,⟨d1,d2⟩,_⟩:=h42
   have hg:n.gap=1∨n.gap=2∨n.gap=3∨n.gap=4:=by omega
   rcases hg with g|g|g|g<;>rw[g] at d2 ⊢ <;>omega
  ·have h0:=e2 ⟨h4,h12⟩
   have:=e1 h4
   rw[if_neg h4,if_neg h4,if_neg h4]
   omega
def Nd.rightN (n:Nd):Int:=if four n.kind then n.right else 0
theorem chk_rightN {n:Nd} {ws:List Int} (h:n.chk ws=0):0≤n.rightN∧n.rightN≤31:=by
 have hz:=(chk_size h).2.2.2.2.1
 obtain⟨_,s2,_⟩:=(chk_ok h).2.2.2.2.2.2.2.2.2.1
 unfold Nd.rightN
 split
 ·rename_i h4
  have:=(s2 h4).2.2.2
  omega
 ·omega
def endsN (n:Nd) (t:Int):Int:=if t≤n.span-1-n.leftN then 0 else Int.tdiv (t-1-(n.span-1-n.leftN)) (stepN n.kind n.step)+1
def countN (n:Nd) (cs:List Int):Int:=if wins n.kind∧leastL cs>0 then endsN n (leastL cs+n.rightN) else if n.kind=5∧leastL cs>0 then 1 else leastL cs
def readyN (n:Nd) (cs:List Int):Int:=if wins n.kind∧leastL cs>0 then endsN n (leastL cs) else if n.kind=5 then 0 else leastL cs
theorem tdiv_eq {a b:Int} (h:0≤a):Int.tdiv a b=a / b:=Int.tdiv_eq_ediv_of_nonneg h
theorem ends_range {n:Nd} {ws:List Int} (h:n.chk ws=0) {t:Int} (h0:0≤t):0≤endsN n t∧endsN n t≤t:=by
 obtain⟨_,_,_,hl,_,hs⟩:=chk_size h
 unfold endsN
 split
 ·omega
 ·rw[tdiv_eq (by omega)]
  have h1:=Int.ediv_nonneg (a:=t-1-(n.span-1-n.leftN)) (b:=stepN n.kind n.step) (by omega) (by omega)
  have h2:=Int.ediv_le_self (a:=t-1-(n.span-1-n.leftN)) (stepN n.kind n.step) (by omega)
  omega
theorem ends_mono {n:Nd} {ws:List Int} (h:n.chk ws=0) {t t':Int} (h0:0≤t) (ht:t≤t'):endsN n t≤endsN n t':=by
 by_cases hc:t≤n.span-1-n.leftN
 ·have:=ends_range h (t:=t') (by omega)
  have e:endsN n t=0:=by unfold endsN;rw[if_pos hc]
  omega
 ·obtain⟨_,_,_,hl,_,hs⟩:=chk_size h
  unfold endsN
  rw[if_neg hc,if_neg (by omega),tdiv_eq (by omega),tdiv_eq (by omega)]
  have:=Int.ediv_le_ediv (a:=t-1-(n.span-1-n.leftN)) (b:=t'-1-(n.span-1-n.leftN)) (c:=stepN n.kind n.step) (by omega) (by omega)
  omega
theorem count_range {n:Nd} {ws:List Int} (h:n.chk ws=0) {cs:List Int} {B:Int} (hB:0≤B) (hc: ∀c∈cs,0≤c∧c≤B):(0≤leastL cs∧leastL cs≤B)∧0≤countN n cs∧countN n cs≤B+64∧0≤readyN n cs∧readyN n cs≤B:=by
 have hl:0≤leastL cs∧leastL cs≤B:=by
  cases cs with
  |nil=>show 0≤(0:Int)∧(0:Int)≤B;omega
  |cons a r=>exact hc _ (leastL_mem (by simp))
 have hr:=chk_rightN h
 refine⟨hl,?_⟩
 have e1:=ends_range h (t:=leastL cs+n.rightN) (by omega)
 have e2:=ends_range h (t:=leastL cs) (by omega)
 unfold countN readyN
 refine⟨?_,?_,?_,?_⟩<;>split<;>try omega
 all_goals split<;>omega
theorem least_le: ∀(l:List Int) (a:Int),l.foldl (fun x y=>if y<x then y else x) a≤a∧ ∀y∈l,l.foldl (fun x y=>if y<x then y else x) a≤y
 |[],a=>⟨Int.le_refl _,by simp⟩
 |y::r,a=>by
  rw[List.foldl_cons]
  obtain⟨h1,h2⟩:=least_le r (if y<a then y else a)
  have h3:(if y<a then y else a)≤a∧(if y<a then y else a)≤y:=by split<;>omega
  refine⟨by omega,fun z hz=> ?_⟩
  rcases List.mem_cons.1 hz with rfl|hz
  ·omega
  ·exact h2 z hz
theorem leastL_le {l:List Int} {y:Int} (h:y∈l):leastL l≤y:=(least_le l _).2 y h
theorem leastL_one (x:Int):leastL [x]=x:=by
 show(if x<x then x else x)=x
 split<;>rfl
theorem ready_count {n:Nd} {ws:List Int} (h:n.chk ws=0) {js:List Int} {C D:Int→Int} (hj:1≤js.length) (hcd: ∀j∈js,0≤C j∧C j≤D j):readyN n (js.map C)≤countN n (js.map D):=by
 have hr:=chk_rightN h
 have h1:leastL (js.map C)≤leastL (js.map D)∧0≤leastL (js.map C):=by
  obtain⟨j,hj1,e⟩:=List.mem_map.1 (leastL_mem (l:=js.map D) (by rw[List.length_map];exact hj))
  obtain⟨k,hk1,e2⟩:=List.mem_map.1 (leastL_mem (l:=js.map C) (by rw[List.length_map];exact hj))
  have h1:=leastL_le (List.mem_map_of_mem (f:=C) hj1)
  have h2:=hcd j hj1
  have h3:=hcd k hk1
  omega
 unfold readyN countN
 by_cases hw:wins n.kind
 ·have n5:n.kind≠5:=by rintro h5;rcases hw with (h|h|h|h)|h<;>omega
  by_cases hp:leastL (js.map C)>0
  ·rw[if_pos ⟨hw,hp⟩,if_pos ⟨hw,by omega⟩]
   exact ends_mono h (by omega) (by omega)
  ·rw[if_neg (fun h=>hp h.2),if_neg n5]
   by_cases hp2:leastL (js.map D)>0
   ·rw[if_pos ⟨hw,hp2⟩]
    have:=ends_range h (t:=leastL (js.map D)+n.rightN) (by omega)
    omega
   ·rw[if_neg (fun h=>hp2 h.2),if_neg (fun h=>n5 h.1)];exact h1.1
 ·rw[if_neg (show ¬(wins n.kind∧leastL (js.map C)>0) from fun h=>hw h.1),if_neg (show ¬(wins n.kind∧leastL (js.map D)>0) from fun h=>hw h.1)]
  by_cases h5:n.kind=5
  ·rw[if_pos h5];split<;>omega
  ·rw[if_neg h5,if_neg (fun h=>h5 h.1)];exact h1.1
section
variable {h:Heap}
theorem least14_ok {p:Option Addr} {l c:Nat} {xs:List Int} (hx:Row h p (ints xs)) (hl:xs.length=l) (hb:l<2 ^ 40) (h0: ∀x∈xs,0≤x):callP P n_ref14_least #[.slice p l c] h fun v h'=>v= .int .i64 (leastL xs)∧h'=h:=by
 refine call_ref14_least _ _ _ ?_
 unfold ref14_least
 refine ifB_beq (fun hz=> ?_) (fun hz=> ?_)
 ·have:xs=[]:=List.length_eq_zero_iff.1 (by omega)
  subst this
  exact⟨rfl,rfl⟩
 have hmem:=h0 _ (leastL_mem (l:=xs) (by omega))
 obtain⟨a,ea⟩:=hx.some_of (by rw[ints_length];omega)
 subst ea
 refine idxI_i rfl (k:=0) rfl (by omega) ?_
 refine ldInt_i (n:=xs.getD 0 0) (hx.cell (i:=0) (ints_get (by rw[List.getElem?_eq_getElem (by omega),getD_eq (by omega)]))) ?_
 refine LoopS_i (fun mm s g=>g=h∧ ∃t:Nat,s=((some a,l,c),(xs.take t).foldl (fun x y=>if y<x then y else x) (xs.getD 0 0),(t:Int),())∧t≤l∧mm=l-t) l ⟨rfl,0,rfl,by omega,rfl⟩ ?_
 rintro mm s g ⟨rfl,t,rfl,ht,rfl⟩
 unfold ref14_least_l5
 dsimp only
 refine ifB_dec (fun hlt=> ?_) (fun hge=> ?_)
 ·have htx:t<xs.length:=by omega
  refine idxI_i rfl rfl (by omega) ?_
  simp only[Int.toNat_natCast,Nat.mul_one]
  have ld:=hx.cell (ints_get (List.getElem?_eq_getElem htx))
  refine ldInt_i ld ?_
  have step: ∀v,v=(xs.take (t+1)).foldl (fun x y=>if y<x then y else x) (xs.getD 0 0)→ ∃m',m'<l-t∧(True∧ ∃t2:Nat,(((some a,l,c),v,(IntKind.wrap .i64 ((t:Int)+1)),()):(Option Addr×Nat×Nat)×Int×Int×Unit)=((some a,l,c),(xs.take t2).foldl (fun x y=>if y<x then y else x) (xs.getD 0 0),(t2:Int),())∧t2≤l∧m'=l-t2):=by
   rintro v rfl
   rw[wrap64_in (by omega)]
   exact⟨l-(t+1),by omega,by trivial,t+1,rfl,by omega,rfl⟩
  have e:(xs.take (t+1)).foldl (fun x y=>if y<x then y else x) (xs.getD 0 0)=if xs[t]<(xs.take t).foldl (fun x y=>if y<x then y else x) (xs.getD 0 0) then xs[t] else(xs.take t).foldl (fun x y=>if y<x then y else x) (xs.getD 0 0):=by
   rw[List.take_succ_eq_append_getElem htx,List.foldl_append];rfl
  refine ifB_dec (fun h1=> ?_) (fun h1=> ?_)
  ·refine idxI_i rfl rfl (by omega) ?_
   refine ldInt_i ld (step _ ?_)
   rw[e,if_pos h1]
  ·refine step _ ?_
   rw[e,if_neg h1]
 ·rw[List.take_of_length_le (by omega)]
  have e:xs.foldl (fun x y=>if y<x then y else x) (xs.getD 0 0)=leastL xs:=rfl
  rw[e]
  refine ifB_false (decide_eq_false (by omega)) ⟨rfl,rfl⟩
theorem Right14_ok (nv:Nv):callP P n_ref14_Right #[nv.v] h fun v h'=>v= .int .i64 nv.nd.rightN∧Fra no h h':=by
 refine call_ref14_Right _ ?_
 unfold ref14_Right
 have S:=Sep.start h no
 refine newI_S (cs:=nv.cells) S fun b1 h1 _ S=> ?_
 dsimp only[List.nil_append] at S
 have e:nv.nd.rightN=if four nv.kind then nv.right else 0:=rfl
 rw[e]
 refine ldInt_i (n:=nv.kind) (S.cell 0 rfl rfl) ?_
 refine(four14_ok nv.kind).mono ?_
 rintro _ g2 ⟨rfl,rfl⟩
 refine⟨_,rfl,ifB_dec (fun h4=> ?_) (fun h4=> ?_)⟩
 ·refine ldInt_i (n:=nv.right) (S.cell 0 rfl rfl) ?_
  rw[if_pos h4];exact⟨rfl,S.fra⟩
 ·rw[if_neg h4];exact⟨rfl,S.fra⟩
theorem Left14_ok (nv:Nv) (hs: -2 ^ 20≤nv.size∧nv.size≤2 ^ 20):callP P n_ref14_Left #[nv.v] h fun v h'=>v= .int .i64 nv.nd.leftN∧Fra no h h':=by
 refine call_ref14_Left _ ?_
 unfold ref14_Left
 have S:=Sep.start h no
 refine newI_S (cs:=nv.cells) S fun b1 h1 _ S=> ?_
 dsimp only[List.nil_append] at S
 have e:nv.nd.leftN=if nv.kind=12 then nv.size-1 else if four nv.kind then nv.left else 0:=rfl
 rw[e]
 refine ldInt_i (n:=nv.kind) (S.cell 0 rfl rfl) (ifB_beq (fun h12=> ?_) (fun h12=> ?_))
 ·refine ldInt_i (n:=nv.size) (S.cell 0 rfl rfl) ?_
  rw[wrap64_in (by omega),if_pos h12]
  exact⟨rfl,S.fra⟩
 ·rw[if_neg h12]
  refine ldInt_i (n:=nv.kind) (S.cell 0 rfl rfl) ?_
  refine(four14_ok nv.kind).mono ?_
  rintro _ g2 ⟨rfl,rfl⟩
  refine⟨_,rfl,ifB_dec (fun h4=> ?_) (fun h4=> ?_)⟩
  ·refine ldInt_i (n:=nv.left) (S.cell 0 rfl rfl) ?_
   rw[if_pos h4];exact⟨rfl,S.fra⟩
  ·rw[if_neg h4];exact⟨rfl,S.fra⟩
theorem nv_size {nv:Nv} {ws:List Int} (hc:nv.nd.chk ws=0):(-2 ^ 20≤nv.size∧nv.size≤2 ^ 20)∧(-2 ^ 20≤nv.gap∧nv.gap≤2 ^ 20):=by
 have h1:=chk_size hc
 have h2:0≤nv.size∧nv.size≤8:=h1.1
 have h3:0≤nv.gap∧nv.gap≤4:=h1.2.1
 omega
theorem ends14_ok {nv:Nv} {ws:List Int} (hc:nv.nd.chk ws=0) {t:Int} (ht:0≤t∧t≤2 ^ 60):callP P n_ref14_ends #[nv.v,.int .i64 t] h fun v h'=>v= .int .i64 (endsN nv.nd t)∧Fra no h h':=by
 refine call_ref14_ends _ _ ?_
 unfold ref14_ends
 obtain⟨hs,hg⟩:=nv_size hc
 obtain⟨_,_,h3,h4,h5,h6⟩:=chk_size hc
 have S:=Sep.start h no
 refine newI_S (cs:=nv.cells) S fun b1 h1 _ S=> ?_
 dsimp only[List.nil_append] at S
 refine ldAg_S S 0 rfl (x:=nv.t) rfl (ldAg_S S 0 rfl (x:=nv.t) rfl ?_)
 refine(Span14_ok nv hs hg).mono ?_
 rintro _ g2 ⟨rfl,F⟩
 replace S:=S.fra0 F
 refine⟨_,rfl,holdW_S S 0 rfl rfl ?_⟩
 refine(Left14_ok nv hs).mono ?_
 rintro _ g3 ⟨rfl,F⟩
 replace S:=S.fra0 F
 refine⟨_,rfl,holdW_S S 0 rfl rfl ?_⟩
 rw[wrap64_in (n:=nv.nd.span-1) (by omega),wrap64_in (n:=nv.nd.span-1-nv.nd.leftN) (by omega)]
 have e:endsN nv.nd t=if t≤nv.nd.span-1-nv.nd.leftN then 0 else Int.tdiv (t-1-(nv.nd.span-1-nv.nd.leftN)) (stepN nv.kind nv.step)+1:=rfl
 have h6:1≤stepN nv.kind nv.step∧stepN nv.kind nv.step≤4:=h6
 refine ifB_dec (fun h1=>⟨by rw[e,if_pos h1],S.fra⟩) (fun h1=> ?_)
 refine ldAg_S S 0 rfl (x:=nv.t) rfl ?_
 refine(Step14_ok nv).mono ?_
 rintro _ g4 ⟨rfl,F⟩
 replace S:=S.fra0 F
 refine⟨_,rfl,⟨by omega,?_⟩⟩
 have hd:0≤Int.tdiv (t-1-(nv.nd.span-1-nv.nd.leftN)) (stepN nv.kind nv.step)∧Int.tdiv (t-1-(nv.nd.span-1-nv.nd.leftN)) (stepN nv.kind nv.step)≤2 ^ 60:=by
  rw[tdiv_eq (by omega)]
  have h1:=Int.ediv_nonneg (a:=t-1-(nv.nd.span-1-nv.nd.leftN)) (b:=stepN nv.kind nv.step) (by omega) (by omega)
  have h2:=Int.ediv_le_self (a:=t-1-(nv.nd.span-1-nv.nd.leftN)) (stepN nv.kind nv.step) (by omega)
  omega
 rw[wrap64_in (n:=t-1) (by omega),wrap64_in (n:=t-1-(nv.nd.span-1-nv.nd.leftN)) (by omega),wrap64_in (n:=Int.tdiv _ _) (by omega),wrap64_in (by omega)]
 exact⟨by rw[e,if_neg h1],S.fra⟩
theorem Count14_ok {nv:Nv} {ws:List Int} (hc:nv.nd.chk ws=0) {p:Option Addr} {l c:Nat} {xs:List Int} (hx:Row h p (ints xs)) (hl:xs.length=l) (hb:l<2 ^ 40) (h0: ∀x∈xs,0≤x∧x≤2 ^ 50):
 callP P n_ref14_Count #[nv.v,.slice p l c] h fun v h'=>v= .int .i64 (countN nv.nd xs)∧Fra no h h':=by
 refine call_ref14_Count _ _ _ _ ?_
 unfold ref14_Count
 have hr:=chk_rightN hc
 have hm:=(count_range hc (B:=2 ^ 50) (by decide) h0).1
 have S:=(Sep.start h no).read (row p (ints xs)) hx
 refine newI_S (cs:=nv.cells) S fun b1 h1 _ S=> ?_
 dsimp only[List.nil_append] at S
 refine(least14_ok (S.row 0 rfl) hl hb fun x hx=>(h0 x hx).1).mono ?_
 rintro _ g2 ⟨rfl,hg2⟩
 subst hg2
 refine⟨_,rfl,ldInt_i (n:=nv.kind) (S.cell 0 rfl rfl) ?_⟩
 refine(Windows14_ok nv.kind).mono ?_
 rintro _ g3 ⟨rfl,hg3⟩
 subst hg3
 have e:countN nv.nd xs=if wins nv.kind∧leastL xs>0 then endsN nv.nd (leastL xs+nv.nd.rightN) else if nv.kind=5∧leastL xs>0 then 1 else leastL xs:=rfl
 refine⟨_,rfl,ifB_dec (fun hw=>ifB_dec (fun hp=> ?_) (fun hp=> ?_)) (fun hw=> ?_)⟩
 ·refine ldAg_S S 0 rfl (x:=nv.t) rfl (ldAg_S S 0 rfl (x:=nv.t) rfl ?_)
  refine(Right14_ok nv).mono ?_
  rintro _ g4 ⟨rfl,F⟩
  replace S:=S.fra0 F
  refine⟨_,rfl,holdW_S S 0 rfl rfl ?_⟩
  rw[wrap64_in (by omega)]
  refine(ends14_ok hc (by omega)).mono ?_
  rintro _ g5 ⟨rfl,F⟩
  exact⟨_,rfl,by rw[e,if_pos ⟨hw,hp⟩],(S.fra0 F).fra⟩
 ·rw[if_neg (fun h=>hp h.2),if_neg (fun h=>hp h.2)] at e
  exact ldInt_i (n:=nv.kind) (S.cell 0 rfl rfl) (ifB_beq (fun _=>ifB_dec (fun h=>absurd h hp) (fun _=>⟨by rw[e],S.fra⟩)) (fun _=>⟨by rw[e],S.fra⟩))
 ·rw[if_neg (fun h=>hw h.1)] at e
  refine ldInt_i (n:=nv.kind) (S.cell 0 rfl rfl) (ifB_beq (fun h5=>ifB_dec (fun hp=> ?_) (fun hp=> ?_)) (fun h5=> ?_))
  ·exact⟨by rw[e,if_pos ⟨h5,hp⟩],S.fra⟩
  ·exact⟨by rw[e,if_neg (fun h=>hp h.2)],S.fra⟩
  ·exact⟨by rw[e,if_neg (fun h=>h5 h.1)],S.fra⟩
theorem Ready14_ok {nv:Nv} {ws:List Int} (hc:nv.nd.chk ws=0) {p:Option Addr} {l c:Nat} {xs:List Int} (hx:Row h p (ints xs)) (hl:xs.length=l) (hb:l<2 ^ 40) (h0: ∀x∈xs,0≤x∧x≤2 ^ 50):
 callP P n_ref14_Ready #[nv.v,.slice p l c] h fun v h'=>v= .int .i64 (readyN nv.nd xs)∧Fra no h h':=by
 refine call_ref14_Ready _ _ _ _ ?_
 unfold ref14_Ready
 have hm:=(count_range hc (B:=2 ^ 50) (by decide) h0).1
 have S:=(Sep.start h no).read (row p (ints xs)) hx
 refine newI_S (cs:=nv.cells) S fun b1 h1 _ S=> ?_
 dsimp only[List.nil_append] at S
 refine(least14_ok (S.row 0 rfl) hl hb fun x hx=>(h0 x hx).1).mono ?_
 rintro _ g2 ⟨rfl,hg2⟩
 subst hg2
 refine⟨_,rfl,ldInt_i (n:=nv.kind) (S.cell 0 rfl rfl) ?_⟩
 refine(Windows14_ok nv.kind).mono ?_
 rintro _ g3 ⟨rfl,hg3⟩
 subst hg3
 have e:readyN nv.nd xs=if wins nv.kind∧leastL xs>0 then endsN nv.nd (leastL xs) else if nv.kind=5 then 0 else leastL xs:=rfl
 refine⟨_,rfl,ifB_dec (fun hw=>ifB_dec (fun hp=> ?_) (fun hp=> ?_)) (fun hw=> ?_)⟩
 ·refine ldAg_S S 0 rfl (x:=nv.t) rfl ?_
  refine(ends14_ok hc (by omega)).mono ?_
  rintro _ g5 ⟨rfl,F⟩
  exact⟨_,rfl,by rw[e,if_pos ⟨hw,hp⟩],(S.fra0 F).fra⟩
 ·rw[if_neg (fun h=>hp h.2)] at e
  exact ldInt_i (n:=nv.kind) (S.cell 0 rfl rfl) (ifB_beq (fun h5=>⟨by rw[e,if_pos h5],S.fra⟩) (fun h5=>⟨by rw[e,if_neg h5],S.fra⟩))
 ·rw[if_neg (fun h=>hw h.1)] at e
  exact ldInt_i (n:=nv.kind) (S.cell 0 rfl rfl) (ifB_beq (fun h5=>⟨by rw[e,if_pos h5],S.fra⟩) (fun h5=>⟨by rw[e,if_neg h5],S.fra⟩))
def firstN (n:Nd) (i:Int):Int:=i*stepN n.kind n.step-n.leftN
theorem First14_ok {nv:Nv} {ws:List Int} (hc:nv.nd.chk ws=0) {i:Int} (hi:0≤i∧i≤2 ^ 55):callP P n_ref14_First #[nv.v,.int .i64 i] h fun v h'=>v= .int .i64 (firstN nv.nd i)∧Fra no h h':=by
 refine call_ref14_First _ _ ?_
 unfold ref14_First
 obtain⟨hs,hg⟩:=nv_size hc
 obtain⟨_,_,h3,h4,h5,h6⟩:=chk_size hc
 have h6:1≤stepN nv.kind nv.step∧stepN nv.kind nv.step≤4:=h6
 have S:=Sep.start h no
 refine newI_S (cs:=nv.cells) S fun b1 h1 _ S=> ?_
 dsimp only[List.nil_append] at S
 refine ldAg_S S 0 rfl (x:=nv.t) rfl (ldAg_S S 0 rfl (x:=nv.t) rfl ?_)
 refine(Step14_ok nv).mono ?_
 rintro _ g2 ⟨rfl,F⟩
 replace S:=S.fra0 F
 refine⟨_,rfl,holdW_S S 0 rfl rfl ?_⟩
 refine(Left14_ok nv hs).mono ?_
 rintro _ g3 ⟨rfl,F⟩
 replace S:=S.fra0 F
 refine⟨_,rfl,holdW_S S 0 rfl rfl ?_⟩
 have hm:0≤i*stepN nv.kind nv.step∧i*stepN nv.kind nv.step≤2 ^ 55*4:=⟨Int.mul_nonneg hi.1 (by omega),Int.mul_le_mul hi.2 h6.2 (by omega) (by omega)⟩
 rw[wrap64_in (n:=i*_) (by omega),wrap64_in (by omega)]
 exact⟨rfl,S.fra⟩
def gapN (n:Nd):Int:=if n.kind=12 then 1 else n.gap
theorem gap18_ok (nv:Nv):callP P n_ref18_gap #[nv.v] h fun v h'=>v= .int .i64 (gapN nv.nd)∧Fra no h h':=by
 refine call_ref18_gap _ ?_
 unfold ref18_gap
 have S:=Sep.start h no
 refine newI_S (cs:=nv.cells) S fun b1 h1 _ S=> ?_
 dsimp only[List.nil_append] at S
 have e:gapN nv.nd=if nv.kind=12 then 1 else nv.gap:=rfl
 refine ldInt_i (n:=nv.kind) (S.cell 0 rfl rfl) (ifB_beq (fun h12=>⟨by rw[e,if_pos h12],S.fra⟩) (fun h12=> ?_))
 exact ldInt_i (n:=nv.gap) (S.cell 0 rfl rfl) ⟨by rw[e,if_neg h12],S.fra⟩
end
end Go.Proofs.YtbgplllcjhgdhaaGreatDoor.G
