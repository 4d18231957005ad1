/- Contracts: packages sat and round. -/
import Derived.Test.YtdhpmegbmjoekaaGreatDoorCNum
namespace Go.Proofs.YtdhpmegbmjoekaaGreatDoor.G
open Go Go.Sh
set_option linter.unusedVariables false
set_option linter.unusedSimpArgs false
def partsP (x n:Int):Int×Int:=if Int.tmod x n<0 then(w64 (w64 (Int.tdiv x n)-1),w64 (Int.tmod x n+n)) else(w64 (Int.tdiv x n),Int.tmod x n)
def divP (x n:Int):Int:=if n<1 then 0 else if(partsP x n).2≥w64 (n-(partsP x n).2) then w64 ((partsP x n).1+1) else(partsP x n).1
def halfP (x s:Int):Int:=if s<0 then 0 else if s>62 then 0 else divP x (shlI .i64 1 (min s.toNat 64))
def scaleP (x m s:Int):Int:=
 if 0≤m∧m≤32767∧0≤s∧s≤30 then(if(mulI x m).2=true then sat32 (halfP (mulI x m).1 s) else if x<0 then-2147483648 else 2147483647) else 0
def postP (n:Nd) (x:Int):Int:=
 let z:=if andI .i64 n.post 1≠0 then scaleP (sat32 x) n.mult n.shift else sat32 x
 if andI .i64 n.post 2≠0 then clampI z n.low n.high else z
section
variable {h:Heap}
theorem ends32:shrI (-9223372036854775808:Int) (min (IntKind.wrap .i64 ((64:Int)-32)).toNat 64)= -2147483648:=by decide+kernel
theorem ends32':xorI .i64 (-1) (shrI (-9223372036854775808:Int) (min (IntKind.wrap .i64 ((64:Int)-32)).toNat 64))=2147483647:=by decide+kernel
theorem ends_ok:callP P n_sat_ends #[.int .i64 32] h fun v h'=>v= .tuple #[.int .i64 (-2147483648),.int .i64 2147483647,.bool true]∧h'=h:=by
 refine call_sat_ends _ ?_
 unfold sat_ends
 refine ifB_false (by decide) (ifB_false (by decide) ⟨by decide+kernel,?_⟩)
 rw[ends32',ends32]
 exact⟨rfl,rfl⟩
theorem Clamp_ok (x lo hi:Int):callP P n_sat_Clamp #[.int .i64 x,.int .i64 lo,.int .i64 hi] h fun v h'=>v= .int .i64 (clampI x lo hi)∧h'=h:=by
 refine call_sat_Clamp _ _ _ ?_
 unfold sat_Clamp clampI
 refine ifB_dec (fun h1=>⟨by rw[if_pos h1],rfl⟩) (fun h1=>ifB_dec (fun h2=>⟨by rw[if_neg h1,if_pos h2],rfl⟩) (fun h2=>⟨by rw[if_neg h1,if_neg h2],rfl⟩))
theorem Sat_ok (x:Int):callP P n_sat_Sat #[.int .i64 x,.int .i64 32] h fun v h'=>v= .int .i64 (sat32 x)∧h'=h:=by
 refine call_sat_Sat _ _ ?_
 unfold sat_Sat
 refine ends_ok.mono ?_
 rintro _ _ ⟨rfl,rfl⟩
 refine⟨_,_,_,rfl,ifB_false rfl ?_⟩
 refine(Clamp_ok _ _ _).mono ?_
 rintro _ _ ⟨rfl,rfl⟩
 exact⟨_,rfl,rfl,rfl⟩
theorem Mul_ok (a b:Int):callP P n_sat_Mul #[.int .i64 a,.int .i64 b] h fun v h'=>v= .tuple #[.int .i64 (mulI a b).1,.bool (mulI a b).2]∧h'=h:=by
 refine call_sat_Mul _ _ ?_
 unfold sat_Mul mulI
 refine ifB_beq (fun ha=>⟨by rw[if_pos ha],rfl⟩) (fun ha=> ?_)
 rw[if_neg ha]
 refine ifB_beq (fun hb=>⟨by rw[if_pos hb],rfl⟩) (fun hb=> ?_)
 rw[if_neg hb]
 refine⟨hb,ifB_bne (fun hq=> ?_) (fun hq=> ?_)⟩
 ·refine⟨?_,rfl⟩
  by_cases hm:(a= -1∧b= -9223372036854775808)∨(b= -1∧a= -9223372036854775808)
  ·rw[if_pos hm]
  ·rw[if_neg hm,if_pos hq]
 ·have nq: ¬IntKind.wrap .i64 (Int.tdiv (IntKind.wrap .i64 (a*b)) b)≠a:=fun h=>h hq
  have yes:((a= -1∧b= -9223372036854775808)∨(b= -1∧a= -9223372036854775808))→ ∀{q:Heap},(Value.tuple #[.int .i64 0,.bool false]= .tuple #[.int .i64 (if(a= -1∧b= -9223372036854775808)∨(b= -1∧a= -9223372036854775808) then((0:Int),false) else if w64 (Int.tdiv (w64 (a*b)) b)≠a then(0,false) else(w64 (a*b),true)).1,.bool (if(a= -1∧b= -9223372036854775808)∨(b= -1∧a= -9223372036854775808) then((0:Int),false) else if w64 (Int.tdiv (w64 (a*b)) b)≠a then(0,false) else(w64 (a*b),true)).2])∧q=q:=fun h=>⟨by rw[if_pos h],rfl⟩
  have no:(¬((a= -1∧b= -9223372036854775808)∨(b= -1∧a= -9223372036854775808)))→ ∀{q:Heap},(Value.tuple #[.int .i64 (w64 (a*b)),.bool true]= .tuple #[.int .i64 (if(a= -1∧b= -9223372036854775808)∨(b= -1∧a= -9223372036854775808) then((0:Int),false) else if w64 (Int.tdiv (w64 (a*b)) b)≠a then(0,false) else(w64 (a*b),true)).1,.bool (if(a= -1∧b= -9223372036854775808)∨(b= -1∧a= -9223372036854775808) then((0:Int),false) else if w64 (Int.tdiv (w64 (a*b)) b)≠a then(0,false) else(w64 (a*b),true)).2])∧q=q:=fun h=>⟨by rw[if_neg h,if_neg nq],rfl⟩
  refine ifB_beq (fun h1=>ifB_beq (fun h2=>yes (by omega)) (fun h2=>ifB_beq (fun h3=>ifB_beq (fun h4=>yes (by omega)) (fun h4=>no (by omega))) (fun h3=>no (by omega)))) (fun h1=>ifB_beq (fun h3=>ifB_beq (fun h4=>yes (by omega)) (fun h4=>no (by omega))) (fun h3=>no (by omega)))
theorem Parts_ok (x:Int) {n:Int} (hn:1≤n):callP P n_round_Parts #[.int .i64 x,.int .i64 n] h fun v h'=>v= .tuple #[.int .i64 (partsP x n).1,.int .i64 (partsP x n).2]∧h'=h:=by
 refine call_round_Parts _ _ ?_
 unfold round_Parts partsP
 refine ifB_false (decide_eq_false (by omega)) ⟨by omega,by omega,ifB_dec (fun h1=>⟨by rw[if_pos h1],rfl⟩) (fun h1=>⟨by rw[if_neg h1],rfl⟩)⟩
theorem Div_ok (x:Int) {n:Int} (hn:1≤n):callP P n_round_Div #[.int .i64 x,.int .i64 n] h fun v h'=>v= .int .i64 (divP x n)∧Fra no h h':=by
 refine call_round_Div _ _ ?_
 unfold round_Div divP
 have S:=Sep.start h no
 rw[if_neg (by omega)]
 refine newI_S S (fun b1 _ _ S=> ?_)
 dsimp only[List.nil_append,List.cons_append] at S
 refine ldInt_i (S.cell 0 rfl rfl) ?_
 refine(Parts_ok x hn).mono ?_
 rintro _ _ ⟨rfl,rfl⟩
 refine⟨_,_,rfl,?_⟩
 refine newI_S S (fun b8 _ _ S=> ?_)
 dsimp only[List.nil_append,List.cons_append] at S
 refine stI_S S 1 rfl (Nat.le_of_ble_eq_true rfl) (fun g3 _ S=> ?_)
 dsimp only[List.set] at S
 refine callP.mono (K:=fun v h'=>v= .bool (decide ((partsP x n).2≥w64 (n-(partsP x n).2)))∧h'=g3) (call_round_Div_1 _ _ ?_) ?_
 ·unfold round_Div_1
  refine ldInt_i (S.cell 0 rfl rfl) (ifB_dec (fun h1=> ?_) (fun h1=>absurd hn (by omega)))
  refine ldInt_i (S.cell 1 rfl rfl) (ldInt_i (S.cell 0 rfl rfl) (ldInt_i (S.cell 1 rfl rfl) ⟨rfl,rfl⟩))
 ·rintro _ _ ⟨rfl,rfl⟩
  refine⟨_,rfl,ifB_dec (fun h1=>⟨by rw[if_pos h1],S.fra⟩) (fun h1=>⟨by rw[if_neg h1],S.fra⟩)⟩
theorem shl_pos: ∀n:Nat,n≤62→1≤shlI .i64 1 (min n 64):=by
 have: ∀n∈List.range 63,1≤shlI .i64 1 (min n 64):=by decide+kernel
 intro n hn
 exact this n (List.mem_range.2 (by omega))
theorem Half_ok (x s:Int):callP P n_round_Half #[.int .i64 x,.int .i64 s] h fun v h'=>v= .int .i64 (halfP x s)∧Fra no h h':=by
 refine call_round_Half _ _ ?_
 unfold round_Half halfP
 refine ifB_dec (fun h1=>⟨by rw[if_pos h1],Fra.refl _ _⟩) (fun h1=>ifB_dec (fun h2=>⟨by rw[if_neg h1,if_pos h2],Fra.refl _ _⟩) (fun h2=> ?_))
 rw[if_neg h1,if_neg h2]
 refine⟨by omega,?_⟩
 refine(Div_ok x (shl_pos _ (by omega))).mono ?_
 rintro _ _ ⟨rfl,F⟩
 exact⟨_,rfl,rfl,F⟩
theorem Scale_ok (x m s:Int):callP P n_round_Scale #[.int .i64 x,.int .i64 m,.int .i64 s] h fun v h'=>v= .int .i64 (scaleP x m s)∧Fra no h h':=by
 refine call_round_Scale _ _ _ ?_
 unfold round_Scale
 refine⟨fun t g=>t=(x,m,s,())∧Fra no h g∧0≤m∧m≤32767∧0≤s∧s≤30,?_,?_⟩
 ·rintro t g ⟨rfl,F,hc⟩
  unfold round_Scale_j3 scaleP
  rw[if_pos hc]
  refine(Mul_ok x m).mono ?_
  rintro _ g2 ⟨rfl,rfl⟩
  refine⟨_,_,rfl,?_⟩
  have good:(mulI x m).2=true→ ∀{Q:Int→Heap→Prop},(∀g',Fra no h g'→Q (sat32 (halfP (mulI x m).1 s)) g')→callInt P .i64 n_round_Half #[.int .i64 (mulI x m).1,.int .i64 s] g2 fun n h1=>callInt P .i64 n_sat_Sat #[.int .i64 n,.int .i64 32] h1 fun n2 h2=>Q n2 h2:=by
   intro _ Q H
   refine(Half_ok _ s).mono ?_
   rintro _ _ ⟨rfl,F2⟩
   refine⟨_,rfl,?_⟩
   refine(Sat_ok _).mono ?_
   rintro _ _ ⟨rfl,rfl⟩
   exact⟨_,rfl,H _ (F.trans F2)⟩
  cases hb:(mulI x m).2 with
  |true=>
   rw[if_pos rfl]
   exact ifB_false rfl (ifB_false rfl (good hb fun g' F'=>⟨rfl,F'⟩))
  |false=>
   rw[if_neg (by decide)]
   exact ifB_true rfl (ifB_dec (fun h1=>⟨by rw[if_pos h1],F⟩) (fun h1=>ifB_true rfl ⟨by rw[if_neg h1],F⟩))
 ·have zero: ¬(0≤m∧m≤32767∧0≤s∧s≤30)→Value.int .i64 0= .int .i64 (scaleP x m s)∧Fra no h h:=fun hc=>⟨by unfold scaleP;rw[if_neg hc],Fra.refl _ _⟩
  refine ifB_dec (fun h1=>ifB_dec (fun h2=>ifB_dec (fun h3=>ifB_not (ifB_dec (fun h4=> ?_) (fun h4=>zero (by omega)))) (fun h3=>ifB_true rfl (zero (by omega)))) (fun h2=>ifB_true rfl (zero (by omega)))) (fun h1=>ifB_true rfl (zero (by omega)))
  exact⟨rfl,Fra.refl _ _,by omega,by omega,by omega,by omega⟩
theorem post_ok (nv:Nv) (x:Int):callP P n_bound_post #[nv.v,.int .i64 x] h fun v h'=>v= .int .i64 (postP nv.nd x)∧Fra no h h':=by
 refine call_bound_post _ _ ?_
 unfold bound_post postP
 have S:=Sep.start h no
 refine newI_S (cs:=nv.cells) S (fun b1 _ _ S=> ?_)
 dsimp only[List.nil_append,List.cons_append] at S
 refine(Sat_ok x).mono ?_
 rintro _ _ ⟨rfl,rfl⟩
 refine⟨_,rfl,ldInt_i (n:=nv.post) (S.cell 0 rfl rfl) (ifB_bne (fun h1=> ?_) (fun h1=> ?_))⟩
 ·refine ldInt_i (n:=nv.mult) (S.cell 0 rfl rfl) (ldInt_i (n:=nv.shift) (S.cell 0 rfl rfl) ?_)
  refine(Scale_ok _ _ _).mono ?_
  rintro _ _ ⟨rfl,F⟩
  replace S:=S.fra0 F
  refine⟨_,rfl,ldInt_i (n:=nv.post) (S.cell 0 rfl rfl) (ifB_bne (fun h2=> ?_) (fun h2=> ?_))⟩
  ·refine ldInt_i (n:=nv.low) (S.cell 0 rfl rfl) (ldInt_i (n:=nv.high) (S.cell 0 rfl rfl) ?_)
   refine(Clamp_ok _ _ _).mono ?_
   rintro _ _ ⟨rfl,rfl⟩
   refine⟨_,rfl,?_,S.fra⟩
   rw[if_pos (show andI .i64 nv.nd.post 1≠0 from h1),if_pos (show andI .i64 nv.nd.post 2≠0 from h2)];rfl
  ·refine⟨?_,S.fra⟩
   rw[if_pos (show andI .i64 nv.nd.post 1≠0 from h1),if_neg (show ¬andI .i64 nv.nd.post 2≠0 from fun h=>h h2)];rfl
 ·refine ldInt_i (n:=nv.post) (S.cell 0 rfl rfl) (ifB_bne (fun h2=> ?_) (fun h2=> ?_))
  ·refine ldInt_i (n:=nv.low) (S.cell 0 rfl rfl) (ldInt_i (n:=nv.high) (S.cell 0 rfl rfl) ?_)
   refine(Clamp_ok _ _ _).mono ?_
   rintro _ _ ⟨rfl,rfl⟩
   refine⟨_,rfl,?_,S.fra⟩
   rw[if_neg (show ¬andI .i64 nv.nd.post 1≠0 from fun h=>h h1),if_pos (show andI .i64 nv.nd.post 2≠0 from h2)];rfl
  ·refine⟨?_,S.fra⟩
   rw[if_neg (show ¬andI .i64 nv.nd.post 1≠0 from fun h=>h h1),if_neg (show ¬andI .i64 nv.nd.post 2≠0 from fun h=>h h2)]
theorem Add1_S {T:Nat→Prop} {R:List Fact} {bn bb:Nat} {n:Int} (S:Sep h T h [blk bn [.int .i64 n],blk bb [.int .i64 32]] R) (x:Int):
 callP P n_sat_Add_1 #[.int .i64 x,.pointer (some ⟨bn,0,none⟩),.pointer (some ⟨bb,0,none⟩)] h fun v h'=>v= .tuple #[]∧Sep h T h' [blk bn [.int .i64 (sat32 (plusI n x))],blk bb [.int .i64 32]] R:=by
 refine call_sat_Add_1 _ _ _ ?_
 unfold sat_Add_1
 have last: ∀{y:Int} {g:Heap},Sep h T g [blk bn [.int .i64 y],blk bb [.int .i64 32]] R→y=plusI n x→ldInt .i64 g ⟨bn,0,none⟩ fun n3=>ldInt .i64 g ⟨bb,0,none⟩ fun n4=>callInt P .i64 n_sat_Sat #[.int .i64 n3,.int .i64 n4] g fun n6 h5=>stI h5 ⟨bn,0,none⟩ (.int .i64 n6) fun h7=>Value.tuple #[]= .tuple #[]∧Sep h T h7 [blk bn [.int .i64 (sat32 (plusI n x))],blk bb [.int .i64 32]] R:=by
  intro y g S e
  refine ldInt_i (S.cell 0 rfl rfl) (ldInt_i (S.cell 1 rfl rfl) ?_)
  refine(Sat_ok _).mono ?_
  rintro _ _ ⟨rfl,rfl⟩
  refine⟨_,rfl,?_⟩
  refine stI_S S 0 rfl (Nat.le_of_ble_eq_true rfl) (fun _ _ S=> ?_)
  dsimp only[List.set] at S
  rw[e] at S
  exact⟨rfl,S⟩
 have put: ∀{y:Int},y=plusI n x→stI h ⟨bn,0,none⟩ (.int .i64 y) fun h2=>ldInt .i64 h2 ⟨bn,0,none⟩ fun n3=>ldInt .i64 h2 ⟨bb,0,none⟩ fun n4=>callInt P .i64 n_sat_Sat #[.int .i64 n3,.int .i64 n4] h2 fun n6 h5=>stI h5 ⟨bn,0,none⟩ (.int .i64 n6) fun h7=>Value.tuple #[]= .tuple #[]∧Sep h T h7 [blk bn [.int .i64 (sat32 (plusI n x))],blk bb [.int .i64 32]] R:=by
  intro y e
  refine stI_S S 0 rfl (Nat.le_of_ble_eq_true rfl) (fun _ _ S=> ?_)
  dsimp only[List.set] at S
  exact last S e
 have ld:cellH h ⟨bn,0,none⟩=some (.int .i64 n):=S.cell 0 rfl rfl
 have neg: ¬(x>0∧n>w64 (9223372036854775807-x))→ifB (decide (x<0)) (ldInt .i64 h ⟨bn,0,none⟩ fun n8=>ifB (decide (n8<IntKind.wrap .i64 (-9223372036854775808-x))) (stI h ⟨bn,0,none⟩ (.int .i64 (-9223372036854775808)) fun h2=>ldInt .i64 h2 ⟨bn,0,none⟩ fun n3=>ldInt .i64 h2 ⟨bb,0,none⟩ fun n4=>callInt P .i64 n_sat_Sat #[.int .i64 n3,.int .i64 n4] h2 fun n6 h5=>stI h5 ⟨bn,0,none⟩ (.int .i64 n6) fun h7=>Value.tuple #[]= .tuple #[]∧Sep h T h7 [blk bn [.int .i64 (sat32 (plusI n x))],blk bb [.int .i64 32]] R)
  (ldInt .i64 h ⟨bn,0,none⟩ fun n15=>stI h ⟨bn,0,none⟩ (.int .i64 (IntKind.wrap .i64 (n15+x))) fun h2=>ldInt .i64 h2 ⟨bn,0,none⟩ fun n3=>ldInt .i64 h2 ⟨bb,0,none⟩ fun n4=>callInt P .i64 n_sat_Sat #[.int .i64 n3,.int .i64 n4] h2 fun n6 h5=>stI h5 ⟨bn,0,none⟩ (.int .i64 n6) fun h7=>Value.tuple #[]= .tuple #[]∧Sep h T h7 [blk bn [.int .i64 (sat32 (plusI n x))],blk bb [.int .i64 32]] R))
  (ldInt .i64 h ⟨bn,0,none⟩ fun n15=>stI h ⟨bn,0,none⟩ (.int .i64 (IntKind.wrap .i64 (n15+x))) fun h2=>ldInt .i64 h2 ⟨bn,0,none⟩ fun n3=>ldInt .i64 h2 ⟨bb,0,none⟩ fun n4=>callInt P .i64 n_sat_Sat #[.int .i64 n3,.int .i64 n4] h2 fun n6 h5=>stI h5 ⟨bn,0,none⟩ (.int .i64 n6) fun h7=>Value.tuple #[]= .tuple #[]∧Sep h T h7 [blk bn [.int .i64 (sat32 (plusI n x))],blk bb [.int .i64 32]] R):=by
  intro h1
  refine ifB_dec (fun h2=>ldInt_i ld (ifB_dec (fun h3=>put ?_) (fun h3=>ldInt_i ld (put ?_)))) (fun h2=>ldInt_i ld (put ?_))
  ·unfold plusI;rw[if_neg h1,if_pos ⟨h2,h3⟩]
  ·unfold plusI;rw[if_neg h1,if_neg (fun h=>h3 h.2)]
  ·unfold plusI;rw[if_neg h1,if_neg (fun h=>h2 h.1)]
 refine ifB_dec (fun h1=>ldInt_i ld (ifB_dec (fun h2=>put ?_) (fun h2=>neg (fun h=>h2 h.2)))) (fun h1=>neg (fun h=>h1 h.1))
 unfold plusI;rw[if_pos ⟨h1,h2⟩]
theorem Add_ok {p:Option Addr} {l c:Nat} {xs:List Int} (r:Row h p (ints xs)) (hl:xs.length=l) (hb:l<2 ^ 62):
 callP P n_sat_Add #[.int .i64 32,.slice p l c] h fun v h'=>v= .int .i64 (addI xs)∧Fra no h h':=by
 refine call_sat_Add _ _ _ _ ?_
 unfold sat_Add
 have S:=(Sep.start h no).read (row p (ints xs)) r
 refine newI_S S (fun b1 _ _ S=> ?_)
 dsimp only[List.nil_append,List.cons_append] at S
 refine newI_S S (fun b3 _ _ S=> ?_)
 dsimp only[List.nil_append,List.cons_append] at S
 refine stI_S S 1 rfl (Nat.le_of_ble_eq_true rfl) (fun _ _ S=> ?_)
 dsimp only[List.set] at S
 refine LoopS_i (fun m s g=> ∃i:Nat,s=(⟨b3,0,none⟩,((),(⟨b3,0,none⟩,⟨b1,0,none⟩,())),(p,l,c),(l:Int),(i:Int),())∧i≤l∧m=l-i∧Sep h no g [blk b1 [.int .i64 32],blk b3 [.int .i64 (addI (xs.take i))]] [row p (ints xs)]) l ⟨0,rfl,by omega,by omega,S⟩ ?_
 clear S
 rintro m s g ⟨i,rfl,hi,rfl,S⟩
 unfold sat_Add_l4
 dsimp only
 refine ifB_dec (fun hlt=> ?_) (fun hge=> ?_)
 ·have hlt':i<xs.length:=by omega
  obtain⟨a,ea⟩:=(S.row 0 rfl).some_of (by rw[ints_length];omega)
  refine idxI_i ea (k:=i) rfl (by omega) ?_
  simp only[Int.toNat_natCast,Nat.mul_one]
  refine ldInt_i (n:=xs[i]) (by have:=S.row 0 rfl;rw[ea] at this;exact this.cell (ints_get (List.getElem?_eq_getElem hlt'))) ?_
  refine(Add1_S (S.into [1,0] [] []) _).mono ?_
  rintro _ g2 ⟨rfl,S1⟩
  refine⟨rfl,?_⟩
  replace S:=S.back [1,0] S1
  dsimp only[merge,List.set,List.cons_append,List.nil_append] at S
  rw[wrap64_in (by omega)]
  refine⟨l-(i+1),by omega,i+1,rfl,by omega,rfl,?_⟩
  have e:addI (xs.take (i+1))=sat32 (plusI (addI (xs.take i)) xs[i]):=by
   unfold addI
   rw[List.take_succ_eq_append_getElem hlt',List.foldl_append];rfl
  rw[e]
  exact S
 ·have e:xs.take i=xs:=List.take_of_length_le (by omega)
  rw[e] at S
  exact ldInt_i (S.cell 1 rfl rfl) ⟨rfl,S.fra⟩
end
end Go.Proofs.YtdhpmegbmjoekaaGreatDoor.G
