/- Printed by shp.py out of the program's own print: for each Go function a typed formula over heaps, and the proof that a call does just that. -/
import Derived.Test.YtoobckjlkopikaaProg
import Derived.Test.YtoobckjlkopikaaShW
set_option linter.unusedVariables false
set_option maxRecDepth 100000
namespace Go.Proofs.Ytoobckjlkopikaa.G
open Go Go.Sh
noncomputable abbrev P : Program := Try.prog
theorem mixed : P.follows .mixedOrders = true := by kernel_rfl
abbrev n_wake_Right : FuncId := 16
abbrev n_wake_New : FuncId := 12
abbrev n_wake_Wake_quiet : FuncId := 24
abbrev n_wake_Wake_loud : FuncId := 25
abbrev n_wake_Wake_Push : FuncId := 13
abbrev n_ref25_Same : FuncId := 17
abbrev n_law25_awake : FuncId := 9
abbrev n_law25_watch : FuncId := 10
abbrev n_law25_few : FuncId := 11
abbrev n_wake_Wake_On : FuncId := 14
abbrev n_law25_WakeTurns : FuncId := 3
abbrev n_law25_WakeBetween : FuncId := 4
abbrev n_ref25_Right : FuncId := 15
abbrev n_wake_Wake_Mark : FuncId := 18
abbrev n_law25_WakeCuts : FuncId := 5
abbrev n_ref25_Wake_Push : FuncId := 19
abbrev n_wake_Wake_Count : FuncId := 20
abbrev n_wake_Wake_Reset : FuncId := 21
abbrev n_law25_WakeTells : FuncId := 6
abbrev n_wake_Wake_Set : FuncId := 22
abbrev n_ref25_Wake_May : FuncId := 23
abbrev n_law25_WakeMoves : FuncId := 7
abbrev n_law25_WakeNil : FuncId := 8
/-! ### earshot/wake.Right: function 16 -/
def wake_Right (w_0_0 : Int) (w_0_1 : Int) (w_0_2 : Int) (h : Heap) (Q : Value → Heap → Prop) : Prop :=
  newI h (.cells #[(.int .i64 w_0_0), (.int .i64 w_0_1), (.int .i64 w_0_2)] 26 (0, 0)) fun b1 h2 =>
  ldInt .i64 h2 ⟨b1, 1, none⟩ fun n3 =>
  ldInt .i64 h2 ⟨b1, 0, none⟩ fun n4 =>
  ifB (decide (n3 ≤ n4)) (
    ldInt .i64 h2 ⟨b1, 2, none⟩ fun n5 =>
    ifB (decide (n5 ≥ (1 : Int))) (
      ldInt .i64 h2 ⟨b1, 2, none⟩ fun n6 =>
      Q (.bool (decide (n6 ≤ (255 : Int)))) h2) (
      Q (.bool false) h2)) (
    Q (.bool false) h2)
noncomputable def tab_wake_Right : Tab := { sch := lookT .done [], lp := lookT [] [], jn := lookT none [] }
theorem eq_wake_Right (w_0_0 : Int) (w_0_1 : Int) (w_0_2 : Int) (h : Heap) (Q : Value → Heap → Prop) : fnI P Try.f16 tab_wake_Right [(.agg #[(.int .i64 w_0_0), (.int .i64 w_0_1), (.int .i64 w_0_2)])] h Q = wake_Right w_0_0 w_0_1 w_0_2 h Q := by kernel_rfl
theorem ok_wake_Right : fnOk P Try.f16 tab_wake_Right = true := by kernel_rfl
theorem call_wake_Right (w_0_0 : Int) (w_0_1 : Int) (w_0_2 : Int) {h : Heap} {Q : Value → Heap → Prop} (H : wake_Right w_0_0 w_0_1 w_0_2 h Q) : callP P n_wake_Right #[(.agg #[(.int .i64 w_0_0), (.int .i64 w_0_1), (.int .i64 w_0_2)])] h Q :=
  @callP_of P n_wake_Right Try.f16 tab_wake_Right [(.agg #[(.int .i64 w_0_0), (.int .i64 w_0_1), (.int .i64 w_0_2)])] h Q mixed Try.func16 Try.call16 ok_wake_Right (Eq.mpr (eq_wake_Right w_0_0 w_0_1 w_0_2 h Q) H)

/-! ### earshot/wake.New: function 12 -/
def wake_New (w_0_0 : Int) (w_0_1 : Int) (w_0_2 : Int) (h : Heap) (Q : Value → Heap → Prop) : Prop :=
  newI h (.cells #[(.int .i64 w_0_0), (.int .i64 w_0_1), (.int .i64 w_0_2)] 26 (0, 0)) fun b1 h2 =>
  ldInt .i64 h2 ⟨b1, 0, none⟩ fun n3 =>
  ldInt .i64 h2 ⟨b1, 1, none⟩ fun n4 =>
  ldInt .i64 h2 ⟨b1, 2, none⟩ fun n5 =>
  callBool P n_wake_Right #[(.agg #[(.int .i64 n3), (.int .i64 n4), (.int .i64 n5)])] h2 fun b7 h6 =>
  ifB (!b7) (
    Q (.pointer none) h6) (
    ldInt .i64 h6 ⟨b1, 0, none⟩ fun n8 =>
    ldInt .i64 h6 ⟨b1, 1, none⟩ fun n9 =>
    ldInt .i64 h6 ⟨b1, 2, none⟩ fun n10 =>
    newI h6 (.cells #[(.int .i64 n8), (.int .i64 n9), (.int .i64 n10), (.int .i64 (0 : Int)), (.int .i64 (0 : Int)), (.bool false)] 55 (0, 0)) fun b11 h12 =>
    Q (.pointer (some ⟨b11, 0, none⟩)) h12)
noncomputable def tab_wake_New : Tab := { sch := lookT .done [], lp := lookT [] [], jn := lookT none [] }
theorem eq_wake_New (w_0_0 : Int) (w_0_1 : Int) (w_0_2 : Int) (h : Heap) (Q : Value → Heap → Prop) : fnI P Try.f12 tab_wake_New [(.agg #[(.int .i64 w_0_0), (.int .i64 w_0_1), (.int .i64 w_0_2)])] h Q = wake_New w_0_0 w_0_1 w_0_2 h Q := by kernel_rfl
theorem ok_wake_New : fnOk P Try.f12 tab_wake_New = true := by kernel_rfl
theorem call_wake_New (w_0_0 : Int) (w_0_1 : Int) (w_0_2 : Int) {h : Heap} {Q : Value → Heap → Prop} (H : wake_New w_0_0 w_0_1 w_0_2 h Q) : callP P n_wake_New #[(.agg #[(.int .i64 w_0_0), (.int .i64 w_0_1), (.int .i64 w_0_2)])] h Q :=
  @callP_of P n_wake_New Try.f12 tab_wake_New [(.agg #[(.int .i64 w_0_0), (.int .i64 w_0_1), (.int .i64 w_0_2)])] h Q mixed Try.func12 Try.call12 ok_wake_New (Eq.mpr (eq_wake_New w_0_0 w_0_1 w_0_2 h Q) H)

/-! ### (*earshot/wake.Wake).quiet: function 24 -/
def wake_Wake_quiet (x_0 : Option Addr) (score_1 : Int) (h : Heap) (Q : Value → Heap → Prop) : Prop :=
  nilI x_0 fun a1 =>
  ldInt .i64 h a1 fun n2 =>
  ifB (decide (score_1 < n2)) (
    nilI x_0 fun a3 =>
    stI h (Addr.add a3 4) (.int .i64 (0 : Int)) fun h4 =>
    Q (.bool false) h4) (
    nilI x_0 fun a5 =>
    ldInt .i64 h (Addr.add a5 4) fun n6 =>
    nilI x_0 fun a7 =>
    stI h (Addr.add a7 4) (.int .i64 (IntKind.wrap .i64 (n6 + (1 : Int)))) fun h8 =>
    nilI x_0 fun a9 =>
    nilI x_0 fun a10 =>
    ldInt .i64 h8 (Addr.add a9 4) fun n11 =>
    ldInt .i64 h8 (Addr.add a10 2) fun n12 =>
    Q (.bool (n11 == n12)) h8)
noncomputable def tab_wake_Wake_quiet : Tab := { sch := lookT .done [(5, (.one 0 (.one 1 (.one 2 (.one 3 (.one 5 (.one 6 (.one 7 (.one 8 (.one 4 (.one 9 (.one 10 (.one 11 .done)))))))))))))], lp := lookT [] [], jn := lookT none [] }
theorem eq_wake_Wake_quiet (x_0 : Option Addr) (score_1 : Int) (h : Heap) (Q : Value → Heap → Prop) : fnI P Try.f24 tab_wake_Wake_quiet [(.pointer x_0), (.int .i64 score_1)] h Q = wake_Wake_quiet x_0 score_1 h Q := by kernel_rfl
theorem ok_wake_Wake_quiet : fnOk P Try.f24 tab_wake_Wake_quiet = true := by kernel_rfl
theorem call_wake_Wake_quiet (x_0 : Option Addr) (score_1 : Int) {h : Heap} {Q : Value → Heap → Prop} (H : wake_Wake_quiet x_0 score_1 h Q) : callP P n_wake_Wake_quiet #[(.pointer x_0), (.int .i64 score_1)] h Q :=
  @callP_of P n_wake_Wake_quiet Try.f24 tab_wake_Wake_quiet [(.pointer x_0), (.int .i64 score_1)] h Q mixed Try.func24 Try.call24 ok_wake_Wake_quiet (Eq.mpr (eq_wake_Wake_quiet x_0 score_1 h Q) H)

/-! ### (*earshot/wake.Wake).loud: function 25 -/
def wake_Wake_loud (x_0 : Option Addr) (score_1 : Int) (h : Heap) (Q : Value → Heap → Prop) : Prop :=
  nilI x_0 fun a1 =>
  ldInt .i64 h (Addr.add a1 1) fun n2 =>
  Q (.bool (decide (score_1 < n2))) h
noncomputable def tab_wake_Wake_loud : Tab := { sch := lookT .done [], lp := lookT [] [], jn := lookT none [] }
theorem eq_wake_Wake_loud (x_0 : Option Addr) (score_1 : Int) (h : Heap) (Q : Value → Heap → Prop) : fnI P Try.f25 tab_wake_Wake_loud [(.pointer x_0), (.int .i64 score_1)] h Q = wake_Wake_loud x_0 score_1 h Q := by kernel_rfl
theorem ok_wake_Wake_loud : fnOk P Try.f25 tab_wake_Wake_loud = true := by kernel_rfl
theorem call_wake_Wake_loud (x_0 : Option Addr) (score_1 : Int) {h : Heap} {Q : Value → Heap → Prop} (H : wake_Wake_loud x_0 score_1 h Q) : callP P n_wake_Wake_loud #[(.pointer x_0), (.int .i64 score_1)] h Q :=
  @callP_of P n_wake_Wake_loud Try.f25 tab_wake_Wake_loud [(.pointer x_0), (.int .i64 score_1)] h Q mixed Try.func25 Try.call25 ok_wake_Wake_loud (Eq.mpr (eq_wake_Wake_loud x_0 score_1 h Q) H)

/-! ### (*earshot/wake.Wake).Push: function 13 -/
def wake_Wake_Push_l5 (Q : Value → Heap → Prop) (K1 : (Option Addr × (Option Addr × Nat × Nat) × (Option Addr × Nat × Nat) × Int × Int × Unit) → Heap → Prop) (x_0 : Option Addr) (out_5_p : Option Addr) (out_5_n : Nat) (out_5_c : Nat) (t11_p : Option Addr) (t11_n : Nat) (t11_c : Nat) (t12 : Int) (t13 : Int) (h1 : Heap) : Prop :=
  ifB (decide (t13 < t12)) (
    idxI t11_p t13 t11_n fun a2 =>
    ldInt .i64 h1 (Addr.add a2 (t13.toNat * 1)) fun n3 =>
    nilI x_0 fun a4 =>
    ldBool h1 (Addr.add a4 5) fun b5 =>
    ifB b5 (
      callBool P n_wake_Wake_loud #[(.pointer x_0), (.int .i64 n3)] h1 fun b7 h6 =>
      ifB b7 (
        nilI x_0 fun a8 =>
        ldBool h6 (Addr.add a8 5) fun b9 =>
        nilI x_0 fun a10 =>
        stI h6 (Addr.add a10 5) (.bool (!b9)) fun h11 =>
        nilI x_0 fun a12 =>
        stI h11 (Addr.add a12 4) (.int .i64 (0 : Int)) fun h13 =>
        nilI x_0 fun a14 =>
        nilI x_0 fun a15 =>
        ldInt .i64 h13 (Addr.add a14 3) fun n16 =>
        ldBool h13 (Addr.add a15 5) fun b17 =>
        newI h13 (.cells #[(.int .i64 n16), (.bool b17)] 34 (0, 0)) fun b18 h19 =>
        appI 34 2 16 (.agg #[(.int .i64 (0 : Int)), (.bool false)]) out_5_p out_5_n out_5_c (some ⟨b18, 0, none⟩) 1 h19 fun p20 l20 c20 h21 =>
        cellH h21 (Addr.add a14 3) = some (.int .i64 n16) ∧
        nilI x_0 fun a22 =>
        ldInt .i64 h21 (Addr.add a22 3) fun n23 =>
        nilI x_0 fun a24 =>
        stI h21 (Addr.add a24 3) (.int .i64 (IntKind.wrap .i64 (n23 + (1 : Int)))) fun h25 =>
        K1 (x_0, (p20, l20, c20), (t11_p, t11_n, t11_c), t12, (IntKind.wrap .i64 (t13 + (1 : Int))), ()) h25) (
        nilI x_0 fun a26 =>
        ldInt .i64 h6 (Addr.add a26 3) fun n27 =>
        nilI x_0 fun a28 =>
        stI h6 (Addr.add a28 3) (.int .i64 (IntKind.wrap .i64 (n27 + (1 : Int)))) fun h29 =>
        K1 (x_0, (out_5_p, out_5_n, out_5_c), (t11_p, t11_n, t11_c), t12, (IntKind.wrap .i64 (t13 + (1 : Int))), ()) h29)) (
      callBool P n_wake_Wake_quiet #[(.pointer x_0), (.int .i64 n3)] h1 fun b31 h30 =>
      ifB b31 (
        nilI x_0 fun a32 =>
        ldBool h30 (Addr.add a32 5) fun b33 =>
        nilI x_0 fun a34 =>
        stI h30 (Addr.add a34 5) (.bool (!b33)) fun h35 =>
        nilI x_0 fun a36 =>
        stI h35 (Addr.add a36 4) (.int .i64 (0 : Int)) fun h37 =>
        nilI x_0 fun a38 =>
        nilI x_0 fun a39 =>
        ldInt .i64 h37 (Addr.add a38 3) fun n40 =>
        ldBool h37 (Addr.add a39 5) fun b41 =>
        newI h37 (.cells #[(.int .i64 n40), (.bool b41)] 34 (0, 0)) fun b42 h43 =>
        appI 34 2 16 (.agg #[(.int .i64 (0 : Int)), (.bool false)]) out_5_p out_5_n out_5_c (some ⟨b42, 0, none⟩) 1 h43 fun p44 l44 c44 h45 =>
        cellH h45 (Addr.add a38 3) = some (.int .i64 n40) ∧
        nilI x_0 fun a46 =>
        ldInt .i64 h45 (Addr.add a46 3) fun n47 =>
        nilI x_0 fun a48 =>
        stI h45 (Addr.add a48 3) (.int .i64 (IntKind.wrap .i64 (n47 + (1 : Int)))) fun h49 =>
        K1 (x_0, (p44, l44, c44), (t11_p, t11_n, t11_c), t12, (IntKind.wrap .i64 (t13 + (1 : Int))), ()) h49) (
        nilI x_0 fun a50 =>
        ldInt .i64 h30 (Addr.add a50 3) fun n51 =>
        nilI x_0 fun a52 =>
        stI h30 (Addr.add a52 3) (.int .i64 (IntKind.wrap .i64 (n51 + (1 : Int)))) fun h53 =>
        K1 (x_0, (out_5_p, out_5_n, out_5_c), (t11_p, t11_n, t11_c), t12, (IntKind.wrap .i64 (t13 + (1 : Int))), ()) h53))) (
    Q (.slice out_5_p out_5_n out_5_c) h1)
def wake_Wake_Push (x_0 : Option Addr) (scores_1_p : Option Addr) (scores_1_n : Nat) (scores_1_c : Nat) (h : Heap) (Q : Value → Heap → Prop) : Prop :=
  ifB ((x_0).isNone) (
    Q (.slice none 0 0) h) (
    LoopS (S := (Option Addr × (Option Addr × Nat × Nat) × (Option Addr × Nat × Nat) × Int × Int × Unit)) (fun K1 s h => wake_Wake_Push_l5 Q K1 s.1 s.2.1.1 s.2.1.2.1 s.2.1.2.2 s.2.2.1.1 s.2.2.1.2.1 s.2.2.1.2.2 s.2.2.2.1 s.2.2.2.2.1 h) (x_0, (none, 0, 0), (scores_1_p, scores_1_n, scores_1_c), ((scores_1_n : Nat) : Int), (0 : Int), ()) h)
noncomputable def tab_wake_Wake_Push : Tab := { sch := lookT .done [(12, (.one 0 (.one 1 (.one 2 (.one 3 (.one 4 (.one 6 (.one 7 (.one 8 (.one 9 (.early 5 (.alt 10 (.one 11 (.alt 12 (.alt 13 (.one 14 .done) .stop) .stop)) .stop))))))))))))], lp := lookT [] [(5, [(0, .sc (.ptr)), (5, .sc (.slice)), (11, .sc (.slice)), (12, .sc (.int .i64)), (13, .sc (.int .i64))])], jn := lookT none [] }
theorem eq_wake_Wake_Push (x_0 : Option Addr) (scores_1_p : Option Addr) (scores_1_n : Nat) (scores_1_c : Nat) (h : Heap) (Q : Value → Heap → Prop) : fnI P Try.f13 tab_wake_Wake_Push [(.pointer x_0), (.slice scores_1_p scores_1_n scores_1_c)] h Q = wake_Wake_Push x_0 scores_1_p scores_1_n scores_1_c h Q := by kernel_rfl
theorem ok_wake_Wake_Push : fnOk P Try.f13 tab_wake_Wake_Push = true := by kernel_rfl
theorem call_wake_Wake_Push (x_0 : Option Addr) (scores_1_p : Option Addr) (scores_1_n : Nat) (scores_1_c : Nat) {h : Heap} {Q : Value → Heap → Prop} (H : wake_Wake_Push x_0 scores_1_p scores_1_n scores_1_c h Q) : callP P n_wake_Wake_Push #[(.pointer x_0), (.slice scores_1_p scores_1_n scores_1_c)] h Q :=
  @callP_of P n_wake_Wake_Push Try.f13 tab_wake_Wake_Push [(.pointer x_0), (.slice scores_1_p scores_1_n scores_1_c)] h Q mixed Try.func13 Try.call13 ok_wake_Wake_Push (Eq.mpr (eq_wake_Wake_Push x_0 scores_1_p scores_1_n scores_1_c h Q) H)

/-! ### earshot/earshotref25.Same: function 17 -/
def ref25_Same_l4 (Q : Value → Heap → Prop) (K1 : ((Option Addr × Nat × Nat) × (Option Addr × Nat × Nat) × Int × Unit) → Heap → Prop) (a_0_p : Option Addr) (a_0_n : Nat) (a_0_c : Nat) (b_1_p : Option Addr) (b_1_n : Nat) (b_1_c : Nat) (i_5 : Int) (h1 : Heap) : Prop :=
  ifB (decide (i_5 < ((a_0_n : Nat) : Int))) (
    idxI a_0_p i_5 a_0_n fun a2 =>
    idxI b_1_p i_5 b_1_n fun a3 =>
    ldInt .i64 h1 (Addr.add a2 (i_5.toNat * 2)) fun n4 =>
    ldBool h1 (Addr.add (Addr.add a2 (i_5.toNat * 2)) 1) fun b5 =>
    ldInt .i64 h1 (Addr.add a3 (i_5.toNat * 2)) fun n6 =>
    ldBool h1 (Addr.add (Addr.add a3 (i_5.toNat * 2)) 1) fun b7 =>
    ifB (!((n4 == n6) && ((b5 == b7) && true))) (
      Q (.bool false) h1) (
      K1 ((a_0_p, a_0_n, a_0_c), (b_1_p, b_1_n, b_1_c), (IntKind.wrap .i64 (i_5 + (1 : Int))), ()) h1)) (
    Q (.bool true) h1)
def ref25_Same (a_0_p : Option Addr) (a_0_n : Nat) (a_0_c : Nat) (b_1_p : Option Addr) (b_1_n : Nat) (b_1_c : Nat) (h : Heap) (Q : Value → Heap → Prop) : Prop :=
  ifB (((a_0_n : Nat) : Int) != ((b_1_n : Nat) : Int)) (
    Q (.bool false) h) (
    LoopS (S := ((Option Addr × Nat × Nat) × (Option Addr × Nat × Nat) × Int × Unit)) (fun K1 s h => ref25_Same_l4 Q K1 s.1.1 s.1.2.1 s.1.2.2 s.2.1.1 s.2.1.2.1 s.2.1.2.2 s.2.2.1 h) ((a_0_p, a_0_n, a_0_c), (b_1_p, b_1_n, b_1_c), (0 : Int), ()) h)
noncomputable def tab_ref25_Same : Tab := { sch := lookT .done [(6, (.one 0 (.one 1 (.one 2 (.one 4 (.one 5 (.one 6 (.one 3 (.one 7 (.one 8 .done))))))))))], lp := lookT [] [(4, [(0, .sc (.slice)), (1, .sc (.slice)), (5, .sc (.int .i64))])], jn := lookT none [] }
theorem eq_ref25_Same (a_0_p : Option Addr) (a_0_n : Nat) (a_0_c : Nat) (b_1_p : Option Addr) (b_1_n : Nat) (b_1_c : Nat) (h : Heap) (Q : Value → Heap → Prop) : fnI P Try.f17 tab_ref25_Same [(.slice a_0_p a_0_n a_0_c), (.slice b_1_p b_1_n b_1_c)] h Q = ref25_Same a_0_p a_0_n a_0_c b_1_p b_1_n b_1_c h Q := by kernel_rfl
theorem ok_ref25_Same : fnOk P Try.f17 tab_ref25_Same = true := by kernel_rfl
theorem call_ref25_Same (a_0_p : Option Addr) (a_0_n : Nat) (a_0_c : Nat) (b_1_p : Option Addr) (b_1_n : Nat) (b_1_c : Nat) {h : Heap} {Q : Value → Heap → Prop} (H : ref25_Same a_0_p a_0_n a_0_c b_1_p b_1_n b_1_c h Q) : callP P n_ref25_Same #[(.slice a_0_p a_0_n a_0_c), (.slice b_1_p b_1_n b_1_c)] h Q :=
  @callP_of P n_ref25_Same Try.f17 tab_ref25_Same [(.slice a_0_p a_0_n a_0_c), (.slice b_1_p b_1_n b_1_c)] h Q mixed Try.func17 Try.call17 ok_ref25_Same (Eq.mpr (eq_ref25_Same a_0_p a_0_n a_0_c b_1_p b_1_n b_1_c h Q) H)

/-! ### earshot/earshotlaw25.awake: function 9 -/
def law25_awake (h : Heap) (Q : Value → Heap → Prop) : Prop :=
  callPtr P n_wake_New #[(.agg #[(.int .i64 (5 : Int)), (.int .i64 (3 : Int)), (.int .i64 (2 : Int))])] h fun p2 h1 =>
  newI h1 (.cells #[(.int .i64 (5 : Int)), (.int .i64 (4 : Int)), (.int .i64 (6 : Int)), (.int .i64 (7 : Int)), (.int .i64 (4 : Int)), (.int .i64 (3 : Int)), (.int .i64 (2 : Int))] 3 (0, 0)) fun b3 h4 =>
  callSlice P n_wake_Wake_Push #[(.pointer p2), (.slice (some ⟨b3, 0, none⟩) 7 7)] h4 fun p6 l6 c6 h5 =>
  newI h5 (.cells #[(.int .i64 (3 : Int)), (.bool true), (.int .i64 (6 : Int)), (.bool false)] 34 (0, 0)) fun b7 h8 =>
  callBool P n_ref25_Same #[(.slice p6 l6 c6), (.slice (some ⟨b7, 0, none⟩) 2 2)] h8 fun b10 h9 =>
  Q (.bool b10) h9
noncomputable def tab_law25_awake : Tab := { sch := lookT .done [], lp := lookT [] [], jn := lookT none [] }
theorem eq_law25_awake (h : Heap) (Q : Value → Heap → Prop) : fnI P Try.f9 tab_law25_awake [] h Q = law25_awake  h Q := by kernel_rfl
theorem ok_law25_awake : fnOk P Try.f9 tab_law25_awake = true := by kernel_rfl
theorem call_law25_awake {h : Heap} {Q : Value → Heap → Prop} (H : law25_awake  h Q) : callP P n_law25_awake #[] h Q :=
  @callP_of P n_law25_awake Try.f9 tab_law25_awake [] h Q mixed Try.func9 Try.call9 ok_law25_awake (Eq.mpr (eq_law25_awake  h Q) H)

/-! ### earshot/earshotlaw25.watch: function 10 -/
def law25_watch (q_0_0 : Int) (q_0_1 : Int) (q_0_2 : Int) (h : Heap) (Q : Value → Heap → Prop) : Prop :=
  newI h (.cells #[(.int .i64 q_0_0), (.int .i64 q_0_1), (.int .i64 q_0_2)] 22 (0, 0)) fun b1 h2 =>
  newI h2 (.cells #[(.int .i64 (0 : Int)), (.int .i64 (0 : Int)), (.int .i64 (0 : Int))] 26 (0, 0)) fun b3 h4 =>
  arrI (0 : Int) 3 fun _ =>
  ldInt .i64 h4 (Addr.add ⟨b1, 0, none⟩ ((0 : Int).toNat * 1)) fun n5 =>
  arrI (1 : Int) 3 fun _ =>
  ldInt .i64 h4 (Addr.add ⟨b1, 0, none⟩ ((1 : Int).toNat * 1)) fun n6 =>
  arrI (2 : Int) 3 fun _ =>
  ldInt .i64 h4 (Addr.add ⟨b1, 0, none⟩ ((2 : Int).toNat * 1)) fun n7 =>
  stI h4 ⟨b3, 0, none⟩ (.int .i64 (IntKind.wrap .i64 ((andI .i64 n5 (31 : Int)) - (10 : Int)))) fun h8 =>
  stI h8 ⟨b3, 1, none⟩ (.int .i64 (IntKind.wrap .i64 ((IntKind.wrap .i64 ((andI .i64 n5 (31 : Int)) - (10 : Int))) - (andI .i64 n6 (15 : Int))))) fun h9 =>
  stI h9 ⟨b3, 2, none⟩ (.int .i64 (IntKind.wrap .i64 ((1 : Int) + (andI .i64 n7 (3 : Int))))) fun h10 =>
  ldInt .i64 h10 ⟨b3, 0, none⟩ fun n11 =>
  ldInt .i64 h10 ⟨b3, 1, none⟩ fun n12 =>
  ldInt .i64 h10 ⟨b3, 2, none⟩ fun n13 =>
  Q (.agg #[(.int .i64 n11), (.int .i64 n12), (.int .i64 n13)]) h10
noncomputable def tab_law25_watch : Tab := { sch := lookT .done [], lp := lookT [] [], jn := lookT none [] }
theorem eq_law25_watch (q_0_0 : Int) (q_0_1 : Int) (q_0_2 : Int) (h : Heap) (Q : Value → Heap → Prop) : fnI P Try.f10 tab_law25_watch [(.agg #[(.int .i64 q_0_0), (.int .i64 q_0_1), (.int .i64 q_0_2)])] h Q = law25_watch q_0_0 q_0_1 q_0_2 h Q := by kernel_rfl
theorem ok_law25_watch : fnOk P Try.f10 tab_law25_watch = true := by kernel_rfl
theorem call_law25_watch (q_0_0 : Int) (q_0_1 : Int) (q_0_2 : Int) {h : Heap} {Q : Value → Heap → Prop} (H : law25_watch q_0_0 q_0_1 q_0_2 h Q) : callP P n_law25_watch #[(.agg #[(.int .i64 q_0_0), (.int .i64 q_0_1), (.int .i64 q_0_2)])] h Q :=
  @callP_of P n_law25_watch Try.f10 tab_law25_watch [(.agg #[(.int .i64 q_0_0), (.int .i64 q_0_1), (.int .i64 q_0_2)])] h Q mixed Try.func10 Try.call10 ok_law25_watch (Eq.mpr (eq_law25_watch q_0_0 q_0_1 q_0_2 h Q) H)

/-! ### earshot/earshotlaw25.few: function 11 -/
def law25_few_l3 (Q : Value → Heap → Prop) (K1 : ((Option Addr × Nat × Nat) × (Option Addr × Nat × Nat) × Int × Unit) → Heap → Prop) (xs_0_p : Option Addr) (xs_0_n : Nat) (xs_0_c : Nat) (out_3_p : Option Addr) (out_3_n : Nat) (out_3_c : Nat) (i_4 : Int) (h1 : Heap) : Prop :=
  ifB (decide (i_4 < ((xs_0_n : Nat) : Int))) (
    ifB (decide (i_4 < (60 : Int))) (
      idxI xs_0_p i_4 xs_0_n fun a2 =>
      ldInt .i64 h1 (Addr.add a2 (i_4.toNat * 1)) fun n3 =>
      newI h1 (.cells #[(.int .i64 (IntKind.wrap .i64 ((Int.tmod n3 (40 : Int)) - (10 : Int))))] 3 (0, 0)) fun b4 h5 =>
      appI 3 1 8 (.int .i64 (0 : Int)) out_3_p out_3_n out_3_c (some ⟨b4, 0, none⟩) 1 h5 fun p6 l6 c6 h7 =>
      K1 ((xs_0_p, xs_0_n, xs_0_c), (p6, l6, c6), (IntKind.wrap .i64 (i_4 + (1 : Int))), ()) h7) (
      Q (.slice out_3_p out_3_n out_3_c) h1)) (
    Q (.slice out_3_p out_3_n out_3_c) h1)
def law25_few (xs_0_p : Option Addr) (xs_0_n : Nat) (xs_0_c : Nat) (h : Heap) (Q : Value → Heap → Prop) : Prop :=
  LoopS (S := ((Option Addr × Nat × Nat) × (Option Addr × Nat × Nat) × Int × Unit)) (fun K1 s h => law25_few_l3 Q K1 s.1.1 s.1.2.1 s.1.2.2 s.2.1.1 s.2.1.2.1 s.2.1.2.2 s.2.2.1 h) ((xs_0_p, xs_0_n, xs_0_c), (none, 0, 0), (0 : Int), ()) h
noncomputable def tab_law25_few : Tab := { sch := lookT .done [], lp := lookT [] [(3, [(0, .sc (.slice)), (3, .sc (.slice)), (4, .sc (.int .i64))])], jn := lookT none [] }
theorem eq_law25_few (xs_0_p : Option Addr) (xs_0_n : Nat) (xs_0_c : Nat) (h : Heap) (Q : Value → Heap → Prop) : fnI P Try.f11 tab_law25_few [(.slice xs_0_p xs_0_n xs_0_c)] h Q = law25_few xs_0_p xs_0_n xs_0_c h Q := by kernel_rfl
theorem ok_law25_few : fnOk P Try.f11 tab_law25_few = true := by kernel_rfl
theorem call_law25_few (xs_0_p : Option Addr) (xs_0_n : Nat) (xs_0_c : Nat) {h : Heap} {Q : Value → Heap → Prop} (H : law25_few xs_0_p xs_0_n xs_0_c h Q) : callP P n_law25_few #[(.slice xs_0_p xs_0_n xs_0_c)] h Q :=
  @callP_of P n_law25_few Try.f11 tab_law25_few [(.slice xs_0_p xs_0_n xs_0_c)] h Q mixed Try.func11 Try.call11 ok_law25_few (Eq.mpr (eq_law25_few xs_0_p xs_0_n xs_0_c h Q) H)

/-! ### (*earshot/wake.Wake).On: function 14 -/
def wake_Wake_On (x_0 : Option Addr) (h : Heap) (Q : Value → Heap → Prop) : Prop :=
  ifB (!(x_0).isNone) (
    nilI x_0 fun a1 =>
    ldBool h (Addr.add a1 5) fun b2 =>
    Q (.bool b2) h) (
    Q (.bool false) h)
noncomputable def tab_wake_Wake_On : Tab := { sch := lookT .done [], lp := lookT [] [], jn := lookT none [] }
theorem eq_wake_Wake_On (x_0 : Option Addr) (h : Heap) (Q : Value → Heap → Prop) : fnI P Try.f14 tab_wake_Wake_On [(.pointer x_0)] h Q = wake_Wake_On x_0 h Q := by kernel_rfl
theorem ok_wake_Wake_On : fnOk P Try.f14 tab_wake_Wake_On = true := by kernel_rfl
theorem call_wake_Wake_On (x_0 : Option Addr) {h : Heap} {Q : Value → Heap → Prop} (H : wake_Wake_On x_0 h Q) : callP P n_wake_Wake_On #[(.pointer x_0)] h Q :=
  @callP_of P n_wake_Wake_On Try.f14 tab_wake_Wake_On [(.pointer x_0)] h Q mixed Try.func14 Try.call14 ok_wake_Wake_On (Eq.mpr (eq_wake_Wake_On x_0 h Q) H)

/-! ### earshot/earshotlaw25.WakeTurns: function 3 -/
def law25_WakeTurns_l17 (Q : Value → Heap → Prop) (K1 : (Bool × Addr × (Option Addr × Nat × Nat) × Option Addr × (Option Addr × Nat × Nat) × Bool × Int × Int × Unit) → Heap → Prop) (K2 : (Bool × Addr × (Option Addr × Nat × Nat) × Option Addr × (Option Addr × Nat × Nat) × Bool × Int × Int × Int × Unit) → Heap → Prop) (up_5 : Bool) (w_6 : Addr) (l_7_p : Option Addr) (l_7_n : Nat) (l_7_c : Nat) (x_8 : Option Addr) (e_9_p : Option Addr) (e_9_n : Nat) (e_9_c : Nat) (on_10 : Bool) (last_11 : Int) (i_12 : Int) (k_13 : Int) (h34 : Heap) : Prop :=
  ifB on_10 (
    ldInt .i64 h34 (Addr.add w_6 2) fun n35 =>
    ifB (decide (k_13 < n35)) (
      idxI e_9_p i_12 e_9_n fun a36 =>
      ldInt .i64 h34 (Addr.add a36 (i_12.toNat * 2)) fun n37 =>
      ifB (decide ((IntKind.wrap .i64 (n37 - k_13)) ≤ last_11)) (
        Q (.bool false) h34) (
        idxI e_9_p i_12 e_9_n fun a38 =>
        ldInt .i64 h34 (Addr.add a38 (i_12.toNat * 2)) fun n39 =>
        idxI l_7_p (IntKind.wrap .i64 (n39 - k_13)) l_7_n fun a40 =>
        ldInt .i64 h34 (Addr.add a40 ((IntKind.wrap .i64 (n39 - k_13)).toNat * 1)) fun n41 =>
        ldInt .i64 h34 w_6 fun n42 =>
        ifB (decide (n41 < n42)) (
          Q (.bool false) h34) (
          K2 (up_5, w_6, (l_7_p, l_7_n, l_7_c), x_8, (e_9_p, e_9_n, e_9_c), on_10, last_11, i_12, (IntKind.wrap .i64 (k_13 + (1 : Int))), ()) h34))) (
      idxI e_9_p i_12 e_9_n fun a43 =>
      ldInt .i64 h34 (Addr.add a43 (i_12.toNat * 2)) fun n44 =>
      K1 (up_5, w_6, (l_7_p, l_7_n, l_7_c), x_8, (e_9_p, e_9_n, e_9_c), on_10, n44, (IntKind.wrap .i64 (i_12 + (1 : Int))), ()) h34)) (
    idxI e_9_p i_12 e_9_n fun a45 =>
    ldInt .i64 h34 (Addr.add a45 (i_12.toNat * 2)) fun n46 =>
    K1 (up_5, w_6, (l_7_p, l_7_n, l_7_c), x_8, (e_9_p, e_9_n, e_9_c), on_10, n46, (IntKind.wrap .i64 (i_12 + (1 : Int))), ()) h34)
def law25_WakeTurns_j16 (Q : Value → Heap → Prop) (K1 : (Bool × Addr × (Option Addr × Nat × Nat) × Option Addr × (Option Addr × Nat × Nat) × Bool × Int × Int × Unit) → Heap → Prop) (up_5 : Bool) (w_6 : Addr) (l_7_p : Option Addr) (l_7_n : Nat) (l_7_c : Nat) (x_8 : Option Addr) (e_9_p : Option Addr) (e_9_n : Nat) (e_9_c : Nat) (on_10 : Bool) (last_11 : Int) (i_12 : Int) (h33 : Heap) : Prop :=
  LoopS (S := (Bool × Addr × (Option Addr × Nat × Nat) × Option Addr × (Option Addr × Nat × Nat) × Bool × Int × Int × Int × Unit)) (fun K2 s h => law25_WakeTurns_l17 Q K1 K2 s.1 s.2.1 s.2.2.1.1 s.2.2.1.2.1 s.2.2.1.2.2 s.2.2.2.1 s.2.2.2.2.1.1 s.2.2.2.2.1.2.1 s.2.2.2.2.1.2.2 s.2.2.2.2.2.1 s.2.2.2.2.2.2.1 s.2.2.2.2.2.2.2.1 s.2.2.2.2.2.2.2.2.1 h) (up_5, w_6, (l_7_p, l_7_n, l_7_c), x_8, (e_9_p, e_9_n, e_9_c), on_10, last_11, i_12, (0 : Int), ()) h33
def law25_WakeTurns_j13 (Q : Value → Heap → Prop) (K1 : (Bool × Addr × (Option Addr × Nat × Nat) × Option Addr × (Option Addr × Nat × Nat) × Bool × Int × Int × Unit) → Heap → Prop) (up_5 : Bool) (w_6 : Addr) (l_7_p : Option Addr) (l_7_n : Nat) (l_7_c : Nat) (x_8 : Option Addr) (e_9_p : Option Addr) (e_9_n : Nat) (e_9_c : Nat) (last_11 : Int) (i_12 : Int) (h29 : Heap) : Prop :=
  idxI e_9_p i_12 e_9_n fun a30 =>
  ldBool h29 (Addr.add (Addr.add a30 (i_12.toNat * 2)) 1) fun b31 =>
  ∃ J32 : (Bool × Addr × (Option Addr × Nat × Nat) × Option Addr × (Option Addr × Nat × Nat) × Bool × Int × Int × Unit) → Heap → Prop, (∀ s h, J32 s h → law25_WakeTurns_j16 Q K1 s.1 s.2.1 s.2.2.1.1 s.2.2.1.2.1 s.2.2.1.2.2 s.2.2.2.1 s.2.2.2.2.1.1 s.2.2.2.2.1.2.1 s.2.2.2.2.1.2.2 s.2.2.2.2.2.1 s.2.2.2.2.2.2.1 s.2.2.2.2.2.2.2.1 h) ∧
  ifB (!b31) (
    idxI e_9_p i_12 e_9_n fun a47 =>
    ldInt .i64 h29 (Addr.add a47 (i_12.toNat * 2)) fun n48 =>
    idxI l_7_p n48 l_7_n fun a49 =>
    ldInt .i64 h29 (Addr.add a49 (n48.toNat * 1)) fun n50 =>
    ldInt .i64 h29 (Addr.add w_6 1) fun n51 =>
    ifB (decide (n50 ≥ n51)) (
      Q (.bool false) h29) (
      J32 (up_5, w_6, (l_7_p, l_7_n, l_7_c), x_8, (e_9_p, e_9_n, e_9_c), b31, last_11, i_12, ()) h29)) (
    J32 (up_5, w_6, (l_7_p, l_7_n, l_7_c), x_8, (e_9_p, e_9_n, e_9_c), b31, last_11, i_12, ()) h29)
def law25_WakeTurns_l9 (Q : Value → Heap → Prop) (K1 : (Bool × Addr × (Option Addr × Nat × Nat) × Option Addr × (Option Addr × Nat × Nat) × Bool × Int × Int × Unit) → Heap → Prop) (up_5 : Bool) (w_6 : Addr) (l_7_p : Option Addr) (l_7_n : Nat) (l_7_c : Nat) (x_8 : Option Addr) (e_9_p : Option Addr) (e_9_n : Nat) (e_9_c : Nat) (on_10 : Bool) (last_11 : Int) (i_12 : Int) (h27 : Heap) : Prop :=
  ifB (decide (i_12 < ((e_9_n : Nat) : Int))) (
    ∃ J28 : (Bool × Addr × (Option Addr × Nat × Nat) × Option Addr × (Option Addr × Nat × Nat) × Int × Int × Unit) → Heap → Prop, (∀ s h, J28 s h → law25_WakeTurns_j13 Q K1 s.1 s.2.1 s.2.2.1.1 s.2.2.1.2.1 s.2.2.1.2.2 s.2.2.2.1 s.2.2.2.2.1.1 s.2.2.2.2.1.2.1 s.2.2.2.2.1.2.2 s.2.2.2.2.2.1 s.2.2.2.2.2.2.1 h) ∧
    idxI e_9_p i_12 e_9_n fun a52 =>
    ldBool h27 (Addr.add (Addr.add a52 (i_12.toNat * 2)) 1) fun b53 =>
    ifB (b53 == on_10) (
      Q (.bool false) h27) (
      idxI e_9_p i_12 e_9_n fun a54 =>
      ldInt .i64 h27 (Addr.add a54 (i_12.toNat * 2)) fun n55 =>
      ifB (decide (n55 ≤ last_11)) (
        Q (.bool false) h27) (
        idxI e_9_p i_12 e_9_n fun a56 =>
        ldInt .i64 h27 (Addr.add a56 (i_12.toNat * 2)) fun n57 =>
        ifB (decide (n57 ≥ ((l_7_n : Nat) : Int))) (
          Q (.bool false) h27) (
          J28 (up_5, w_6, (l_7_p, l_7_n, l_7_c), x_8, (e_9_p, e_9_n, e_9_c), last_11, i_12, ()) h27)))) (
    ifB up_5 (
      callBool P n_wake_Wake_On #[(.pointer x_8)] h27 fun b59 h58 =>
      Q (.bool (b59 == on_10)) h58) (
      Q (.bool false) h27))
def law25_WakeTurns (q_0_0 : Int) (q_0_1 : Int) (q_0_2 : Int) (scores_1_p : Option Addr) (scores_1_n : Nat) (scores_1_c : Nat) (h : Heap) (Q : Value → Heap → Prop) : Prop :=
  newI h (.cells #[(.int .i64 q_0_0), (.int .i64 q_0_1), (.int .i64 q_0_2)] 22 (0, 0)) fun b1 h2 =>
  callBool P n_law25_awake #[] h2 fun b4 h3 =>
  ldInt .i64 h3 ⟨b1, 0, none⟩ fun n5 =>
  ldInt .i64 h3 ⟨b1, 1, none⟩ fun n6 =>
  ldInt .i64 h3 ⟨b1, 2, none⟩ fun n7 =>
  callP P n_law25_watch #[(.agg #[(.int .i64 n5), (.int .i64 n6), (.int .i64 n7)])] h3 fun v9 h8 =>
  ∃ n10 : Int, ∃ n11 : Int, ∃ n12 : Int, v9 = (.agg #[(.int .i64 n10), (.int .i64 n11), (.int .i64 n12)]) ∧
  newI h8 (.cells #[(.int .i64 (0 : Int)), (.int .i64 (0 : Int)), (.int .i64 (0 : Int))] 26 (0, 0)) fun b13 h14 =>
  stI h14 ⟨b13, 0, none⟩ (.int .i64 n10) fun h15 =>
  stI h15 ⟨b13, 1, none⟩ (.int .i64 n11) fun h16 =>
  stI h16 ⟨b13, 2, none⟩ (.int .i64 n12) fun h17 =>
  callSlice P n_law25_few #[(.slice scores_1_p scores_1_n scores_1_c)] h17 fun p19 l19 c19 h18 =>
  ldInt .i64 h18 ⟨b13, 0, none⟩ fun n20 =>
  ldInt .i64 h18 ⟨b13, 1, none⟩ fun n21 =>
  ldInt .i64 h18 ⟨b13, 2, none⟩ fun n22 =>
  callPtr P n_wake_New #[(.agg #[(.int .i64 n20), (.int .i64 n21), (.int .i64 n22)])] h18 fun p24 h23 =>
  callSlice P n_wake_Wake_Push #[(.pointer p24), (.slice p19 l19 c19)] h23 fun p26 l26 c26 h25 =>
  LoopS (S := (Bool × Addr × (Option Addr × Nat × Nat) × Option Addr × (Option Addr × Nat × Nat) × Bool × Int × Int × Unit)) (fun K1 s h => law25_WakeTurns_l9 Q K1 s.1 s.2.1 s.2.2.1.1 s.2.2.1.2.1 s.2.2.1.2.2 s.2.2.2.1 s.2.2.2.2.1.1 s.2.2.2.2.1.2.1 s.2.2.2.2.1.2.2 s.2.2.2.2.2.1 s.2.2.2.2.2.2.1 s.2.2.2.2.2.2.2.1 h) (b4, ⟨b13, 0, none⟩, (p19, l19, c19), p24, (p26, l26, c26), false, (-1 : Int), (0 : Int), ()) h25
noncomputable def tab_law25_WakeTurns : Tab := { sch := lookT .done [(14, (.one 0 (.one 1 (.one 2 (.one 3 (.one 4 (.one 5 (.one 6 (.one 7 (.one 11 (.one 8 (.one 9 (.one 10 (.one 12 (.one 13 (.one 14 .done)))))))))))))))), (19, (.one 0 (.one 1 (.one 2 (.one 3 (.one 5 (.one 7 (.one 4 (.one 6 (.one 8 (.one 9 (.one 10 (.one 11 (.one 12 (.one 13 (.one 14 (.one 16 (.one 20 (.one 15 (.one 17 (.one 18 (.one 19 (.one 21 (.one 22 (.one 23 .done)))))))))))))))))))))))))], lp := lookT [] [(9, [(5, .sc (.bool)), (6, .sc (.adr)), (7, .sc (.slice)), (8, .sc (.ptr)), (9, .sc (.slice)), (10, .sc (.bool)), (11, .sc (.int .i64)), (12, .sc (.int .i64))]), (17, [(5, .sc (.bool)), (6, .sc (.adr)), (7, .sc (.slice)), (8, .sc (.ptr)), (9, .sc (.slice)), (10, .sc (.bool)), (11, .sc (.int .i64)), (12, .sc (.int .i64)), (13, .sc (.int .i64))])], jn := lookT none [(13, some [(5, .sc (.bool)), (6, .sc (.adr)), (7, .sc (.slice)), (8, .sc (.ptr)), (9, .sc (.slice)), (11, .sc (.int .i64)), (12, .sc (.int .i64))]), (16, some [(5, .sc (.bool)), (6, .sc (.adr)), (7, .sc (.slice)), (8, .sc (.ptr)), (9, .sc (.slice)), (10, .sc (.bool)), (11, .sc (.int .i64)), (12, .sc (.int .i64))])] }
theorem eq_law25_WakeTurns (q_0_0 : Int) (q_0_1 : Int) (q_0_2 : Int) (scores_1_p : Option Addr) (scores_1_n : Nat) (scores_1_c : Nat) (h : Heap) (Q : Value → Heap → Prop) : fnI P Try.f3 tab_law25_WakeTurns [(.agg #[(.int .i64 q_0_0), (.int .i64 q_0_1), (.int .i64 q_0_2)]), (.slice scores_1_p scores_1_n scores_1_c)] h Q = law25_WakeTurns q_0_0 q_0_1 q_0_2 scores_1_p scores_1_n scores_1_c h Q := by kernel_rfl
theorem ok_law25_WakeTurns : fnOk P Try.f3 tab_law25_WakeTurns = true := by kernel_rfl
theorem call_law25_WakeTurns (q_0_0 : Int) (q_0_1 : Int) (q_0_2 : Int) (scores_1_p : Option Addr) (scores_1_n : Nat) (scores_1_c : Nat) {h : Heap} {Q : Value → Heap → Prop} (H : law25_WakeTurns q_0_0 q_0_1 q_0_2 scores_1_p scores_1_n scores_1_c h Q) : callP P n_law25_WakeTurns #[(.agg #[(.int .i64 q_0_0), (.int .i64 q_0_1), (.int .i64 q_0_2)]), (.slice scores_1_p scores_1_n scores_1_c)] h Q :=
  @callP_of P n_law25_WakeTurns Try.f3 tab_law25_WakeTurns [(.agg #[(.int .i64 q_0_0), (.int .i64 q_0_1), (.int .i64 q_0_2)]), (.slice scores_1_p scores_1_n scores_1_c)] h Q mixed Try.func3 Try.call3 ok_law25_WakeTurns (Eq.mpr (eq_law25_WakeTurns q_0_0 q_0_1 q_0_2 scores_1_p scores_1_n scores_1_c h Q) H)

/-! ### earshot/earshotlaw25.WakeBetween: function 4 -/
def law25_WakeBetween_j22 (Q : Value → Heap → Prop) (K1 : ((Option Addr × Nat × Nat) × Bool × Addr × (Option Addr × Nat × Nat) × Option Addr × (Option Addr × Nat × Nat) × Int × Unit) → Heap → Prop) (up_7 : Bool) (w_8 : Addr) (none_12_p : Option Addr) (none_12_n : Nat) (none_12_c : Nat) (loud_13 : Option Addr) (high_14_p : Option Addr) (high_14_n : Nat) (high_14_c : Nat) (one_16_p : Option Addr) (one_16_n : Nat) (one_16_c : Nat) (h46 : Heap) : Prop :=
  callSlice P n_wake_Wake_Push #[(.pointer loud_13), (.slice high_14_p high_14_n high_14_c)] h46 fun p48 l48 c48 h47 =>
  ifB up_7 (
    ifB (((none_12_n : Nat) : Int) == (0 : Int)) (
      ifB (((one_16_n : Nat) : Int) == (1 : Int)) (
        idxI one_16_p (0 : Int) one_16_n fun a49 =>
        ldInt .i64 h47 (Addr.add a49 ((0 : Int).toNat * 2)) fun n50 =>
        ldBool h47 (Addr.add (Addr.add a49 ((0 : Int).toNat * 2)) 1) fun b51 =>
        ldInt .i64 h47 (Addr.add w_8 2) fun n52 =>
        ifB ((n50 == (IntKind.wrap .i64 (n52 - (1 : Int)))) && ((b51 == true) && true)) (
          ifB (((l48 : Nat) : Int) == (0 : Int)) (
            callBool P n_wake_Wake_On #[(.pointer loud_13)] h47 fun b54 h53 =>
            cellH h53 (Addr.add a49 ((0 : Int).toNat * 2)) = some (.int .i64 n50) ∧
            cellH h53 (Addr.add (Addr.add a49 ((0 : Int).toNat * 2)) 1) = some (.bool b51) ∧
            Q (.bool b54) h53) (
            cellH h47 (Addr.add a49 ((0 : Int).toNat * 2)) = some (.int .i64 n50) ∧
            cellH h47 (Addr.add (Addr.add a49 ((0 : Int).toNat * 2)) 1) = some (.bool b51) ∧
            Q (.bool false) h47)) (
          cellH h47 (Addr.add a49 ((0 : Int).toNat * 2)) = some (.int .i64 n50) ∧
          cellH h47 (Addr.add (Addr.add a49 ((0 : Int).toNat * 2)) 1) = some (.bool b51) ∧
          Q (.bool false) h47)) (
        Q (.bool false) h47)) (
      Q (.bool false) h47)) (
    Q (.bool false) h47)
def law25_WakeBetween_l19 (Q : Value → Heap → Prop) (K1 : ((Option Addr × Nat × Nat) × Bool × Addr × (Option Addr × Nat × Nat) × Option Addr × (Option Addr × Nat × Nat) × Int × Unit) → Heap → Prop) (J45 : (Bool × Addr × (Option Addr × Nat × Nat) × Option Addr × (Option Addr × Nat × Nat) × (Option Addr × Nat × Nat) × Unit) → Heap → Prop) (K2 : ((Option Addr × Nat × Nat) × Bool × Addr × (Option Addr × Nat × Nat) × Option Addr × (Option Addr × Nat × Nat) × (Option Addr × Nat × Nat) × Int × Unit) → Heap → Prop) (scores_2_p : Option Addr) (scores_2_n : Nat) (scores_2_c : Nat) (up_7 : Bool) (w_8 : Addr) (none_12_p : Option Addr) (none_12_n : Nat) (none_12_c : Nat) (loud_13 : Option Addr) (high_14_p : Option Addr) (high_14_n : Nat) (high_14_c : Nat) (one_16_p : Option Addr) (one_16_n : Nat) (one_16_c : Nat) (i_17 : Int) (h55 : Heap) : Prop :=
  ifB (decide (i_17 < ((scores_2_n : Nat) : Int))) (
    ifB (decide (i_17 < (60 : Int))) (
      idxI scores_2_p i_17 scores_2_n fun a56 =>
      ldInt .i64 h55 (Addr.add w_8 1) fun n57 =>
      ldInt .i64 h55 (Addr.add a56 (i_17.toNat * 1)) fun n58 =>
      newI h55 (.cells #[(.int .i64 (IntKind.wrap .i64 (n57 + (andI .i64 n58 (65535 : Int)))))] 3 (0, 0)) fun b59 h60 =>
      appI 3 1 8 (.int .i64 (0 : Int)) high_14_p high_14_n high_14_c (some ⟨b59, 0, none⟩) 1 h60 fun p61 l61 c61 h62 =>
      cellH h62 (Addr.add w_8 1) = some (.int .i64 n57) ∧
      K2 ((scores_2_p, scores_2_n, scores_2_c), up_7, w_8, (none_12_p, none_12_n, none_12_c), loud_13, (p61, l61, c61), (one_16_p, one_16_n, one_16_c), (IntKind.wrap .i64 (i_17 + (1 : Int))), ()) h62) (
      J45 (up_7, w_8, (none_12_p, none_12_n, none_12_c), loud_13, (high_14_p, high_14_n, high_14_c), (one_16_p, one_16_n, one_16_c), ()) h55)) (
    J45 (up_7, w_8, (none_12_p, none_12_n, none_12_c), loud_13, (high_14_p, high_14_n, high_14_c), (one_16_p, one_16_n, one_16_c), ()) h55)
def law25_WakeBetween_l14 (Q : Value → Heap → Prop) (K1 : ((Option Addr × Nat × Nat) × Bool × Addr × (Option Addr × Nat × Nat) × Option Addr × (Option Addr × Nat × Nat) × Int × Unit) → Heap → Prop) (scores_2_p : Option Addr) (scores_2_n : Nat) (scores_2_c : Nat) (up_7 : Bool) (w_8 : Addr) (none_12_p : Option Addr) (none_12_n : Nat) (none_12_c : Nat) (loud_13 : Option Addr) (high_14_p : Option Addr) (high_14_n : Nat) (high_14_c : Nat) (i_15 : Int) (h36 : Heap) : Prop :=
  ldInt .i64 h36 (Addr.add w_8 2) fun n37 =>
  ifB (decide (i_15 < n37)) (
    ldInt .i64 h36 w_8 fun n38 =>
    newI h36 (.cells #[(.int .i64 n38)] 3 (0, 0)) fun b39 h40 =>
    appI 3 1 8 (.int .i64 (0 : Int)) high_14_p high_14_n high_14_c (some ⟨b39, 0, none⟩) 1 h40 fun p41 l41 c41 h42 =>
    K1 ((scores_2_p, scores_2_n, scores_2_c), up_7, w_8, (none_12_p, none_12_n, none_12_c), loud_13, (p41, l41, c41), (IntKind.wrap .i64 (i_15 + (1 : Int))), ()) h42) (
    callSlice P n_wake_Wake_Push #[(.pointer loud_13), (.slice high_14_p high_14_n high_14_c)] h36 fun p44 l44 c44 h43 =>
    ∃ J45 : (Bool × Addr × (Option Addr × Nat × Nat) × Option Addr × (Option Addr × Nat × Nat) × (Option Addr × Nat × Nat) × Unit) → Heap → Prop, (∀ s h, J45 s h → law25_WakeBetween_j22 Q K1 s.1 s.2.1 s.2.2.1.1 s.2.2.1.2.1 s.2.2.1.2.2 s.2.2.2.1 s.2.2.2.2.1.1 s.2.2.2.2.1.2.1 s.2.2.2.2.1.2.2 s.2.2.2.2.2.1.1 s.2.2.2.2.2.1.2.1 s.2.2.2.2.2.1.2.2 h) ∧
    LoopS (S := ((Option Addr × Nat × Nat) × Bool × Addr × (Option Addr × Nat × Nat) × Option Addr × (Option Addr × Nat × Nat) × (Option Addr × Nat × Nat) × Int × Unit)) (fun K2 s h => law25_WakeBetween_l19 Q K1 J45 K2 s.1.1 s.1.2.1 s.1.2.2 s.2.1 s.2.2.1 s.2.2.2.1.1 s.2.2.2.1.2.1 s.2.2.2.1.2.2 s.2.2.2.2.1 s.2.2.2.2.2.1.1 s.2.2.2.2.2.1.2.1 s.2.2.2.2.2.1.2.2 s.2.2.2.2.2.2.1.1 s.2.2.2.2.2.2.1.2.1 s.2.2.2.2.2.2.1.2.2 s.2.2.2.2.2.2.2.1 h) ((scores_2_p, scores_2_n, scores_2_c), up_7, w_8, (none_12_p, none_12_n, none_12_c), loud_13, (high_14_p, high_14_n, high_14_c), (p44, l44, c44), (0 : Int), ()) h43)
def law25_WakeBetween_j10 (Q : Value → Heap → Prop) (scores_2_p : Option Addr) (scores_2_n : Nat) (scores_2_c : Nat) (up_7 : Bool) (w_8 : Addr) (x_9 : Option Addr) (l_10_p : Option Addr) (l_10_n : Nat) (l_10_c : Nat) (h28 : Heap) : Prop :=
  callSlice P n_wake_Wake_Push #[(.pointer x_9), (.slice l_10_p l_10_n l_10_c)] h28 fun p30 l30 c30 h29 =>
  ldInt .i64 h29 w_8 fun n31 =>
  ldInt .i64 h29 (Addr.add w_8 1) fun n32 =>
  ldInt .i64 h29 (Addr.add w_8 2) fun n33 =>
  callPtr P n_wake_New #[(.agg #[(.int .i64 n31), (.int .i64 n32), (.int .i64 n33)])] h29 fun p35 h34 =>
  LoopS (S := ((Option Addr × Nat × Nat) × Bool × Addr × (Option Addr × Nat × Nat) × Option Addr × (Option Addr × Nat × Nat) × Int × Unit)) (fun K1 s h => law25_WakeBetween_l14 Q K1 s.1.1 s.1.2.1 s.1.2.2 s.2.1 s.2.2.1 s.2.2.2.1.1 s.2.2.2.1.2.1 s.2.2.2.1.2.2 s.2.2.2.2.1 s.2.2.2.2.2.1.1 s.2.2.2.2.2.1.2.1 s.2.2.2.2.2.1.2.2 s.2.2.2.2.2.2.1 h) ((scores_2_p, scores_2_n, scores_2_c), up_7, w_8, (p30, l30, c30), p35, (none, 0, 0), (0 : Int), ()) h34
def law25_WakeBetween_j9 (Q : Value → Heap → Prop) (J27 : ((Option Addr × Nat × Nat) × Bool × Addr × Option Addr × (Option Addr × Nat × Nat) × Unit) → Heap → Prop) (K1 : ((Option Addr × Nat × Nat) × Bool × Addr × Option Addr × (Option Addr × Nat × Nat) × Int × Unit) → Heap → Prop) (scores_2_p : Option Addr) (scores_2_n : Nat) (scores_2_c : Nat) (up_7 : Bool) (w_8 : Addr) (x_9 : Option Addr) (l_10_p : Option Addr) (l_10_n : Nat) (l_10_c : Nat) (i_11 : Int) (h65 : Heap) : Prop :=
  idxI scores_2_p i_11 scores_2_n fun a66 =>
  ldInt .i64 h65 (Addr.add w_8 1) fun n67 =>
  ldInt .i64 h65 (Addr.add a66 (i_11.toNat * 1)) fun n68 =>
  ldInt .i64 h65 w_8 fun n69 =>
  ldInt .i64 h65 (Addr.add w_8 1) fun n70 =>
  neI (IntKind.wrap .i64 (n69 - n70)) fun _ =>
  newI h65 (.cells #[(.int .i64 (IntKind.wrap .i64 (n67 + (Int.tmod (andI .i64 n68 (65535 : Int)) (IntKind.wrap .i64 (n69 - n70))))))] 3 (0, 0)) fun b71 h72 =>
  appI 3 1 8 (.int .i64 (0 : Int)) l_10_p l_10_n l_10_c (some ⟨b71, 0, none⟩) 1 h72 fun p73 l73 c73 h74 =>
  cellH h74 w_8 = some (.int .i64 n69) ∧
  cellH h74 (Addr.add a66 (i_11.toNat * 1)) = some (.int .i64 n68) ∧
  cellH h74 (Addr.add w_8 1) = some (.int .i64 n67) ∧
  K1 ((scores_2_p, scores_2_n, scores_2_c), up_7, w_8, x_9, (p73, l73, c73), (IntKind.wrap .i64 (i_11 + (1 : Int))), ()) h74
def law25_WakeBetween_l7 (Q : Value → Heap → Prop) (J27 : ((Option Addr × Nat × Nat) × Bool × Addr × Option Addr × (Option Addr × Nat × Nat) × Unit) → Heap → Prop) (K1 : ((Option Addr × Nat × Nat) × Bool × Addr × Option Addr × (Option Addr × Nat × Nat) × Int × Unit) → Heap → Prop) (scores_2_p : Option Addr) (scores_2_n : Nat) (scores_2_c : Nat) (up_7 : Bool) (w_8 : Addr) (x_9 : Option Addr) (l_10_p : Option Addr) (l_10_n : Nat) (l_10_c : Nat) (i_11 : Int) (h63 : Heap) : Prop :=
  ∃ J64 : ((Option Addr × Nat × Nat) × Bool × Addr × Option Addr × (Option Addr × Nat × Nat) × Int × Unit) → Heap → Prop, (∀ s h, J64 s h → law25_WakeBetween_j9 Q J27 K1 s.1.1 s.1.2.1 s.1.2.2 s.2.1 s.2.2.1 s.2.2.2.1 s.2.2.2.2.1.1 s.2.2.2.2.1.2.1 s.2.2.2.2.1.2.2 s.2.2.2.2.2.1 h) ∧
  ifB (decide (i_11 < ((scores_2_n : Nat) : Int))) (
    ifB (decide (i_11 < (60 : Int))) (
      ldInt .i64 h63 (Addr.add w_8 1) fun n75 =>
      ldInt .i64 h63 w_8 fun n76 =>
      ifB (decide (n75 < n76)) (
        J64 ((scores_2_p, scores_2_n, scores_2_c), up_7, w_8, x_9, (l_10_p, l_10_n, l_10_c), i_11, ()) h63) (
        J27 ((scores_2_p, scores_2_n, scores_2_c), up_7, w_8, x_9, (l_10_p, l_10_n, l_10_c), ()) h63)) (
      J27 ((scores_2_p, scores_2_n, scores_2_c), up_7, w_8, x_9, (l_10_p, l_10_n, l_10_c), ()) h63)) (
    J27 ((scores_2_p, scores_2_n, scores_2_c), up_7, w_8, x_9, (l_10_p, l_10_n, l_10_c), ()) h63)
def law25_WakeBetween (q_0_0 : Int) (q_0_1 : Int) (q_0_2 : Int) (ahead_1_p : Option Addr) (ahead_1_n : Nat) (ahead_1_c : Nat) (scores_2_p : Option Addr) (scores_2_n : Nat) (scores_2_c : Nat) (h : Heap) (Q : Value → Heap → Prop) : Prop :=
  newI h (.cells #[(.int .i64 q_0_0), (.int .i64 q_0_1), (.int .i64 q_0_2)] 22 (0, 0)) fun b1 h2 =>
  callBool P n_law25_awake #[] h2 fun b4 h3 =>
  ldInt .i64 h3 ⟨b1, 0, none⟩ fun n5 =>
  ldInt .i64 h3 ⟨b1, 1, none⟩ fun n6 =>
  ldInt .i64 h3 ⟨b1, 2, none⟩ fun n7 =>
  callP P n_law25_watch #[(.agg #[(.int .i64 n5), (.int .i64 n6), (.int .i64 n7)])] h3 fun v9 h8 =>
  ∃ n10 : Int, ∃ n11 : Int, ∃ n12 : Int, v9 = (.agg #[(.int .i64 n10), (.int .i64 n11), (.int .i64 n12)]) ∧
  newI h8 (.cells #[(.int .i64 (0 : Int)), (.int .i64 (0 : Int)), (.int .i64 (0 : Int))] 26 (0, 0)) fun b13 h14 =>
  stI h14 ⟨b13, 0, none⟩ (.int .i64 n10) fun h15 =>
  stI h15 ⟨b13, 1, none⟩ (.int .i64 n11) fun h16 =>
  stI h16 ⟨b13, 2, none⟩ (.int .i64 n12) fun h17 =>
  ldInt .i64 h17 ⟨b13, 0, none⟩ fun n18 =>
  ldInt .i64 h17 ⟨b13, 1, none⟩ fun n19 =>
  ldInt .i64 h17 ⟨b13, 2, none⟩ fun n20 =>
  callPtr P n_wake_New #[(.agg #[(.int .i64 n18), (.int .i64 n19), (.int .i64 n20)])] h17 fun p22 h21 =>
  callSlice P n_law25_few #[(.slice ahead_1_p ahead_1_n ahead_1_c)] h21 fun p24 l24 c24 h23 =>
  callSlice P n_wake_Wake_Push #[(.pointer p22), (.slice p24 l24 c24)] h23 fun p26 l26 c26 h25 =>
  ∃ J27 : ((Option Addr × Nat × Nat) × Bool × Addr × Option Addr × (Option Addr × Nat × Nat) × Unit) → Heap → Prop, (∀ s h, J27 s h → law25_WakeBetween_j10 Q s.1.1 s.1.2.1 s.1.2.2 s.2.1 s.2.2.1 s.2.2.2.1 s.2.2.2.2.1.1 s.2.2.2.2.1.2.1 s.2.2.2.2.1.2.2 h) ∧
  LoopS (S := ((Option Addr × Nat × Nat) × Bool × Addr × Option Addr × (Option Addr × Nat × Nat) × Int × Unit)) (fun K1 s h => law25_WakeBetween_l7 Q J27 K1 s.1.1 s.1.2.1 s.1.2.2 s.2.1 s.2.2.1 s.2.2.2.1 s.2.2.2.2.1.1 s.2.2.2.2.1.2.1 s.2.2.2.2.1.2.2 s.2.2.2.2.2.1 h) ((scores_2_p, scores_2_n, scores_2_c), b4, ⟨b13, 0, none⟩, p22, (none, 0, 0), (0 : Int), ()) h25
noncomputable def tab_law25_WakeBetween : Tab := { sch := lookT .done [(9, (.one 0 (.one 1 (.one 3 (.one 4 (.one 5 (.one 8 (.one 10 (.early 2 (.early 6 (.one 7 (.early 9 (.alt 11 (.one 12 (.one 13 (.one 14 (.alt 15 (.alt 16 (.one 17 .done) .stop) .stop)))) .stop))))))))))))), (21, (.one 0 (.one 1 (.one 3 (.one 4 (.one 5 (.early 2 (.alt 6 (.one 7 (.one 8 (.alt 9 (.alt 10 (.one 11 .done) .stop) .stop))) .stop)))))))), (23, (.one 0 (.one 1 (.one 2 (.one 3 (.one 4 (.one 5 (.one 6 (.one 7 (.one 8 (.one 9 (.one 10 (.one 11 (.one 12 (.one 13 (.one 15 (.early 14 (.alt 16 (.one 17 (.one 18 (.one 19 (.one 20 (.one 21 (.one 22 (.one 23 (.one 24 (.one 25 (.one 26 (.one 27 (.alt 28 (.one 29 (.one 30 .done)) .stop)))))))))))) .stop))))))))))))))))))], lp := lookT [] [(7, [(2, .sc (.slice)), (7, .sc (.bool)), (8, .sc (.adr)), (9, .sc (.ptr)), (10, .sc (.slice)), (11, .sc (.int .i64))]), (14, [(2, .sc (.slice)), (7, .sc (.bool)), (8, .sc (.adr)), (12, .sc (.slice)), (13, .sc (.ptr)), (14, .sc (.slice)), (15, .sc (.int .i64))]), (19, [(2, .sc (.slice)), (7, .sc (.bool)), (8, .sc (.adr)), (12, .sc (.slice)), (13, .sc (.ptr)), (14, .sc (.slice)), (16, .sc (.slice)), (17, .sc (.int .i64))])], jn := lookT none [(9, some [(2, .sc (.slice)), (7, .sc (.bool)), (8, .sc (.adr)), (9, .sc (.ptr)), (10, .sc (.slice)), (11, .sc (.int .i64))]), (10, some [(2, .sc (.slice)), (7, .sc (.bool)), (8, .sc (.adr)), (9, .sc (.ptr)), (10, .sc (.slice))]), (22, some [(7, .sc (.bool)), (8, .sc (.adr)), (12, .sc (.slice)), (13, .sc (.ptr)), (14, .sc (.slice)), (16, .sc (.slice))])] }
theorem eq_law25_WakeBetween (q_0_0 : Int) (q_0_1 : Int) (q_0_2 : Int) (ahead_1_p : Option Addr) (ahead_1_n : Nat) (ahead_1_c : Nat) (scores_2_p : Option Addr) (scores_2_n : Nat) (scores_2_c : Nat) (h : Heap) (Q : Value → Heap → Prop) : fnI P Try.f4 tab_law25_WakeBetween [(.agg #[(.int .i64 q_0_0), (.int .i64 q_0_1), (.int .i64 q_0_2)]), (.slice ahead_1_p ahead_1_n ahead_1_c), (.slice scores_2_p scores_2_n scores_2_c)] h Q = law25_WakeBetween q_0_0 q_0_1 q_0_2 ahead_1_p ahead_1_n ahead_1_c scores_2_p scores_2_n scores_2_c h Q := by kernel_rfl
theorem ok_law25_WakeBetween : fnOk P Try.f4 tab_law25_WakeBetween = true := by kernel_rfl
theorem call_law25_WakeBetween (q_0_0 : Int) (q_0_1 : Int) (q_0_2 : Int) (ahead_1_p : Option Addr) (ahead_1_n : Nat) (ahead_1_c : Nat) (scores_2_p : Option Addr) (scores_2_n : Nat) (scores_2_c : Nat) {h : Heap} {Q : Value → Heap → Prop} (H : law25_WakeBetween q_0_0 q_0_1 q_0_2 ahead_1_p ahead_1_n ahead_1_c scores_2_p scores_2_n scores_2_c h Q) : callP P n_law25_WakeBetween #[(.agg #[(.int .i64 q_0_0), (.int .i64 q_0_1), (.int .i64 q_0_2)]), (.slice ahead_1_p ahead_1_n ahead_1_c), (.slice scores_2_p scores_2_n scores_2_c)] h Q :=
  @callP_of P n_law25_WakeBetween Try.f4 tab_law25_WakeBetween [(.agg #[(.int .i64 q_0_0), (.int .i64 q_0_1), (.int .i64 q_0_2)]), (.slice ahead_1_p ahead_1_n ahead_1_c), (.slice scores_2_p scores_2_n scores_2_c)] h Q mixed Try.func4 Try.call4 ok_law25_WakeBetween (Eq.mpr (eq_law25_WakeBetween q_0_0 q_0_1 q_0_2 ahead_1_p ahead_1_n ahead_1_c scores_2_p scores_2_n scores_2_c h Q) H)

/-! ### earshot/earshotref25.Right: function 15 -/
def ref25_Right (w_0_0 : Int) (w_0_1 : Int) (w_0_2 : Int) (h : Heap) (Q : Value → Heap → Prop) : Prop :=
  newI h (.cells #[(.int .i64 w_0_0), (.int .i64 w_0_1), (.int .i64 w_0_2)] 26 (0, 0)) fun b1 h2 =>
  ldInt .i64 h2 ⟨b1, 1, none⟩ fun n3 =>
  ldInt .i64 h2 ⟨b1, 0, none⟩ fun n4 =>
  ifB (decide (n3 ≤ n4)) (
    ldInt .i64 h2 ⟨b1, 2, none⟩ fun n5 =>
    ifB (decide (n5 ≥ (1 : Int))) (
      ldInt .i64 h2 ⟨b1, 2, none⟩ fun n6 =>
      Q (.bool (decide (n6 ≤ (255 : Int)))) h2) (
      Q (.bool false) h2)) (
    Q (.bool false) h2)
noncomputable def tab_ref25_Right : Tab := { sch := lookT .done [], lp := lookT [] [], jn := lookT none [] }
theorem eq_ref25_Right (w_0_0 : Int) (w_0_1 : Int) (w_0_2 : Int) (h : Heap) (Q : Value → Heap → Prop) : fnI P Try.f15 tab_ref25_Right [(.agg #[(.int .i64 w_0_0), (.int .i64 w_0_1), (.int .i64 w_0_2)])] h Q = ref25_Right w_0_0 w_0_1 w_0_2 h Q := by kernel_rfl
theorem ok_ref25_Right : fnOk P Try.f15 tab_ref25_Right = true := by kernel_rfl
theorem call_ref25_Right (w_0_0 : Int) (w_0_1 : Int) (w_0_2 : Int) {h : Heap} {Q : Value → Heap → Prop} (H : ref25_Right w_0_0 w_0_1 w_0_2 h Q) : callP P n_ref25_Right #[(.agg #[(.int .i64 w_0_0), (.int .i64 w_0_1), (.int .i64 w_0_2)])] h Q :=
  @callP_of P n_ref25_Right Try.f15 tab_ref25_Right [(.agg #[(.int .i64 w_0_0), (.int .i64 w_0_1), (.int .i64 w_0_2)])] h Q mixed Try.func15 Try.call15 ok_ref25_Right (Eq.mpr (eq_ref25_Right w_0_0 w_0_1 w_0_2 h Q) H)

/-! ### (*earshot/wake.Wake).Mark: function 18 -/
def wake_Wake_Mark (x_0 : Option Addr) (h : Heap) (Q : Value → Heap → Prop) : Prop :=
  newI h (.cells #[(.int .i64 (0 : Int)), (.int .i64 (0 : Int)), (.bool false)] 40 (0, 0)) fun b1 h2 =>
  ifB ((x_0).isNone) (
    stI h2 ⟨b1, 0, none⟩ (.int .i64 (0 : Int)) fun h3 =>
    stI h3 ⟨b1, 1, none⟩ (.int .i64 (0 : Int)) fun h4 =>
    stI h4 ⟨b1, 2, none⟩ (.bool false) fun h5 =>
    ldInt .i64 h5 ⟨b1, 0, none⟩ fun n6 =>
    ldInt .i64 h5 ⟨b1, 1, none⟩ fun n7 =>
    ldBool h5 ⟨b1, 2, none⟩ fun b8 =>
    Q (.agg #[(.int .i64 n6), (.int .i64 n7), (.bool b8)]) h5) (
    nilI x_0 fun a9 =>
    ldInt .i64 h2 (Addr.add a9 3) fun n10 =>
    ldInt .i64 h2 (Addr.add a9 4) fun n11 =>
    ldBool h2 (Addr.add a9 5) fun b12 =>
    stI h2 ⟨b1, 0, none⟩ (.int .i64 n10) fun h13 =>
    stI h13 ⟨b1, 1, none⟩ (.int .i64 n11) fun h14 =>
    stI h14 ⟨b1, 2, none⟩ (.bool b12) fun h15 =>
    ldInt .i64 h15 ⟨b1, 0, none⟩ fun n16 =>
    ldInt .i64 h15 ⟨b1, 1, none⟩ fun n17 =>
    ldBool h15 ⟨b1, 2, none⟩ fun b18 =>
    Q (.agg #[(.int .i64 n16), (.int .i64 n17), (.bool b18)]) h15)
noncomputable def tab_wake_Wake_Mark : Tab := { sch := lookT .done [], lp := lookT [] [], jn := lookT none [] }
theorem eq_wake_Wake_Mark (x_0 : Option Addr) (h : Heap) (Q : Value → Heap → Prop) : fnI P Try.f18 tab_wake_Wake_Mark [(.pointer x_0)] h Q = wake_Wake_Mark x_0 h Q := by kernel_rfl
theorem ok_wake_Wake_Mark : fnOk P Try.f18 tab_wake_Wake_Mark = true := by kernel_rfl
theorem call_wake_Wake_Mark (x_0 : Option Addr) {h : Heap} {Q : Value → Heap → Prop} (H : wake_Wake_Mark x_0 h Q) : callP P n_wake_Wake_Mark #[(.pointer x_0)] h Q :=
  @callP_of P n_wake_Wake_Mark Try.f18 tab_wake_Wake_Mark [(.pointer x_0)] h Q mixed Try.func18 Try.call18 ok_wake_Wake_Mark (Eq.mpr (eq_wake_Wake_Mark x_0 h Q) H)

/-! ### earshot/earshotlaw25.WakeCuts: function 5 -/
def law25_WakeCuts_l12 (Q : Value → Heap → Prop) (K1 : ((Option Addr × Nat × Nat) × Addr × Bool × Option Addr × Option Addr × (Option Addr × Nat × Nat) × (Option Addr × Nat × Nat) × Int × Unit) → Heap → Prop) (scores_1_p : Option Addr) (scores_1_n : Nat) (scores_1_c : Nat) (w_2 : Addr) (up_5 : Bool) (x_6 : Option Addr) (y_8 : Option Addr) (all_9_p : Option Addr) (all_9_n : Nat) (all_9_c : Nat) (one_10_p : Option Addr) (one_10_n : Nat) (one_10_c : Nat) (i_11 : Int) (h29 : Heap) : Prop :=
  ifB (decide (i_11 < ((scores_1_n : Nat) : Int))) (
    idxI scores_1_p i_11 scores_1_n fun a30 =>
    ldInt .i64 h29 (Addr.add a30 (i_11.toNat * 1)) fun n31 =>
    newI h29 (.cells #[(.int .i64 n31)] 3 (0, 0)) fun b32 h33 =>
    callSlice P n_wake_Wake_Push #[(.pointer y_8), (.slice (some ⟨b32, 0, none⟩) 1 1)] h33 fun p35 l35 c35 h34 =>
    appI 34 2 16 (.agg #[(.int .i64 (0 : Int)), (.bool false)]) one_10_p one_10_n one_10_c p35 l35 h34 fun p36 l36 c36 h37 =>
    K1 ((scores_1_p, scores_1_n, scores_1_c), w_2, up_5, x_6, y_8, (all_9_p, all_9_n, all_9_c), (p36, l36, c36), (IntKind.wrap .i64 (i_11 + (1 : Int))), ()) h37) (
    callBool P n_ref25_Same #[(.slice all_9_p all_9_n all_9_c), (.slice one_10_p one_10_n one_10_c)] h29 fun b39 h38 =>
    ifB up_5 (
      ifB b39 (
        ldInt .i64 h38 w_2 fun n40 =>
        ldInt .i64 h38 (Addr.add w_2 1) fun n41 =>
        ldInt .i64 h38 (Addr.add w_2 2) fun n42 =>
        callBool P n_wake_Right #[(.agg #[(.int .i64 n40), (.int .i64 n41), (.int .i64 n42)])] h38 fun b44 h43 =>
        ifB b44 (
          callP P n_wake_Wake_Mark #[(.pointer x_6)] h43 fun v46 h45 =>
          ∃ n47 : Int, ∃ n48 : Int, ∃ b49 : Bool, v46 = (.agg #[(.int .i64 n47), (.int .i64 n48), (.bool b49)]) ∧
          callP P n_wake_Wake_Mark #[(.pointer y_8)] h45 fun v51 h50 =>
          ∃ n52 : Int, ∃ n53 : Int, ∃ b54 : Bool, v51 = (.agg #[(.int .i64 n52), (.int .i64 n53), (.bool b54)]) ∧
          Q (.bool ((n47 == n52) && ((n48 == n53) && ((b49 == b54) && true)))) h50) (
          Q (.bool false) h43)) (
        Q (.bool false) h38)) (
      Q (.bool false) h38))
def law25_WakeCuts_j4 (Q : Value → Heap → Prop) (scores_1_p : Option Addr) (scores_1_n : Nat) (scores_1_c : Nat) (w_2 : Addr) (up_5 : Bool) (h6 : Heap) : Prop :=
  ldInt .i64 h6 w_2 fun n7 =>
  ldInt .i64 h6 (Addr.add w_2 1) fun n8 =>
  ldInt .i64 h6 (Addr.add w_2 2) fun n9 =>
  callPtr P n_wake_New #[(.agg #[(.int .i64 n7), (.int .i64 n8), (.int .i64 n9)])] h6 fun p11 h10 =>
  ldInt .i64 h10 w_2 fun n12 =>
  ldInt .i64 h10 (Addr.add w_2 1) fun n13 =>
  ldInt .i64 h10 (Addr.add w_2 2) fun n14 =>
  callBool P n_ref25_Right #[(.agg #[(.int .i64 n12), (.int .i64 n13), (.int .i64 n14)])] h10 fun b16 h15 =>
  ifB (!b16) (
    ifB up_5 (
      ifB ((p11).isNone) (
        ldInt .i64 h15 w_2 fun n17 =>
        ldInt .i64 h15 (Addr.add w_2 1) fun n18 =>
        ldInt .i64 h15 (Addr.add w_2 2) fun n19 =>
        callBool P n_wake_Right #[(.agg #[(.int .i64 n17), (.int .i64 n18), (.int .i64 n19)])] h15 fun b21 h20 =>
        Q (.bool (!b21)) h20) (
        Q (.bool false) h15)) (
      Q (.bool false) h15)) (
    ldInt .i64 h15 w_2 fun n22 =>
    ldInt .i64 h15 (Addr.add w_2 1) fun n23 =>
    ldInt .i64 h15 (Addr.add w_2 2) fun n24 =>
    callPtr P n_wake_New #[(.agg #[(.int .i64 n22), (.int .i64 n23), (.int .i64 n24)])] h15 fun p26 h25 =>
    callSlice P n_wake_Wake_Push #[(.pointer p11), (.slice scores_1_p scores_1_n scores_1_c)] h25 fun p28 l28 c28 h27 =>
    LoopS (S := ((Option Addr × Nat × Nat) × Addr × Bool × Option Addr × Option Addr × (Option Addr × Nat × Nat) × (Option Addr × Nat × Nat) × Int × Unit)) (fun K1 s h => law25_WakeCuts_l12 Q K1 s.1.1 s.1.2.1 s.1.2.2 s.2.1 s.2.2.1 s.2.2.2.1 s.2.2.2.2.1 s.2.2.2.2.2.1.1 s.2.2.2.2.2.1.2.1 s.2.2.2.2.2.1.2.2 s.2.2.2.2.2.2.1.1 s.2.2.2.2.2.2.1.2.1 s.2.2.2.2.2.2.1.2.2 s.2.2.2.2.2.2.2.1 h) ((scores_1_p, scores_1_n, scores_1_c), w_2, up_5, p11, p26, (p28, l28, c28), (none, 0, 0), (0 : Int), ()) h27)
def law25_WakeCuts (w_0_0 : Int) (w_0_1 : Int) (w_0_2 : Int) (scores_1_p : Option Addr) (scores_1_n : Nat) (scores_1_c : Nat) (h : Heap) (Q : Value → Heap → Prop) : Prop :=
  newI h (.cells #[(.int .i64 w_0_0), (.int .i64 w_0_1), (.int .i64 w_0_2)] 26 (0, 0)) fun b1 h2 =>
  callBool P n_law25_awake #[] h2 fun b4 h3 =>
  ∃ J5 : ((Option Addr × Nat × Nat) × Addr × Bool × Unit) → Heap → Prop, (∀ s h, J5 s h → law25_WakeCuts_j4 Q s.1.1 s.1.2.1 s.1.2.2 s.2.1 s.2.2.1 h) ∧
  ifB (decide (((scores_1_n : Nat) : Int) > (60 : Int))) (
    bndI (60 : Int) scores_1_c fun l55 =>
    J5 (((if scores_1_c = 0 then scores_1_p else Option.map (fun a => a.add (0 * 1)) scores_1_p), (l55 - 0), (scores_1_c - 0)), ⟨b1, 0, none⟩, b4, ()) h3) (
    J5 ((scores_1_p, scores_1_n, scores_1_c), ⟨b1, 0, none⟩, b4, ()) h3)
noncomputable def tab_law25_WakeCuts : Tab := { sch := lookT .done [], lp := lookT [] [(12, [(1, .sc (.slice)), (2, .sc (.adr)), (5, .sc (.bool)), (6, .sc (.ptr)), (8, .sc (.ptr)), (9, .sc (.slice)), (10, .sc (.slice)), (11, .sc (.int .i64))])], jn := lookT none [(4, some [(1, .sc (.slice)), (2, .sc (.adr)), (5, .sc (.bool))])] }
theorem eq_law25_WakeCuts (w_0_0 : Int) (w_0_1 : Int) (w_0_2 : Int) (scores_1_p : Option Addr) (scores_1_n : Nat) (scores_1_c : Nat) (h : Heap) (Q : Value → Heap → Prop) : fnI P Try.f5 tab_law25_WakeCuts [(.agg #[(.int .i64 w_0_0), (.int .i64 w_0_1), (.int .i64 w_0_2)]), (.slice scores_1_p scores_1_n scores_1_c)] h Q = law25_WakeCuts w_0_0 w_0_1 w_0_2 scores_1_p scores_1_n scores_1_c h Q := by kernel_rfl
theorem ok_law25_WakeCuts : fnOk P Try.f5 tab_law25_WakeCuts = true := by kernel_rfl
theorem call_law25_WakeCuts (w_0_0 : Int) (w_0_1 : Int) (w_0_2 : Int) (scores_1_p : Option Addr) (scores_1_n : Nat) (scores_1_c : Nat) {h : Heap} {Q : Value → Heap → Prop} (H : law25_WakeCuts w_0_0 w_0_1 w_0_2 scores_1_p scores_1_n scores_1_c h Q) : callP P n_law25_WakeCuts #[(.agg #[(.int .i64 w_0_0), (.int .i64 w_0_1), (.int .i64 w_0_2)]), (.slice scores_1_p scores_1_n scores_1_c)] h Q :=
  @callP_of P n_law25_WakeCuts Try.f5 tab_law25_WakeCuts [(.agg #[(.int .i64 w_0_0), (.int .i64 w_0_1), (.int .i64 w_0_2)]), (.slice scores_1_p scores_1_n scores_1_c)] h Q mixed Try.func5 Try.call5 ok_law25_WakeCuts (Eq.mpr (eq_law25_WakeCuts w_0_0 w_0_1 w_0_2 scores_1_p scores_1_n scores_1_c h Q) H)

/-! ### (*earshot/earshotref25.Wake).Push: function 19 -/
def ref25_Wake_Push_j17 (Q : Value → Heap → Prop) (K1 : (Option Addr × (Option Addr × Nat × Nat) × (Option Addr × Nat × Nat) × Int × Unit) → Heap → Prop) (x_0 : Option Addr) (scores_1_p : Option Addr) (scores_1_n : Nat) (scores_1_c : Nat) (out_5_p : Option Addr) (out_5_n : Nat) (out_5_c : Nat) (i_6 : Int) (h5 : Heap) : Prop :=
  nilI x_0 fun a6 =>
  ldInt .i64 h5 (Addr.add a6 3) fun n7 =>
  nilI x_0 fun a8 =>
  stI h5 (Addr.add a8 3) (.int .i64 (IntKind.wrap .i64 (n7 + (1 : Int)))) fun h9 =>
  K1 (x_0, (scores_1_p, scores_1_n, scores_1_c), (out_5_p, out_5_n, out_5_c), (IntKind.wrap .i64 (i_6 + (1 : Int))), ()) h9
def ref25_Wake_Push_l3 (Q : Value → Heap → Prop) (K1 : (Option Addr × (Option Addr × Nat × Nat) × (Option Addr × Nat × Nat) × Int × Unit) → Heap → Prop) (x_0 : Option Addr) (scores_1_p : Option Addr) (scores_1_n : Nat) (scores_1_c : Nat) (out_5_p : Option Addr) (out_5_n : Nat) (out_5_c : Nat) (i_6 : Int) (h1 : Heap) : Prop :=
  ifB (decide (i_6 < ((scores_1_n : Nat) : Int))) (
    idxI scores_1_p i_6 scores_1_n fun a2 =>
    ldInt .i64 h1 (Addr.add a2 (i_6.toNat * 1)) fun n3 =>
    ∃ J4 : (Option Addr × (Option Addr × Nat × Nat) × (Option Addr × Nat × Nat) × Int × Unit) → Heap → Prop, (∀ s h, J4 s h → ref25_Wake_Push_j17 Q K1 s.1 s.2.1.1 s.2.1.2.1 s.2.1.2.2 s.2.2.1.1 s.2.2.1.2.1 s.2.2.1.2.2 s.2.2.2.1 h) ∧
    nilI x_0 fun a10 =>
    ldBool h1 (Addr.add a10 5) fun b11 =>
    ifB b11 (
      nilI x_0 fun a12 =>
      ldInt .i64 h1 (Addr.add a12 1) fun n13 =>
      ifB (decide (n3 < n13)) (
        nilI x_0 fun a14 =>
        stI h1 (Addr.add a14 5) (.bool false) fun h15 =>
        nilI x_0 fun a16 =>
        ldInt .i64 h15 (Addr.add a16 3) fun n17 =>
        newI h15 (.cells #[(.int .i64 n17), (.bool false)] 34 (0, 0)) fun b18 h19 =>
        appI 34 2 16 (.agg #[(.int .i64 (0 : Int)), (.bool false)]) out_5_p out_5_n out_5_c (some ⟨b18, 0, none⟩) 1 h19 fun p20 l20 c20 h21 =>
        J4 (x_0, (scores_1_p, scores_1_n, scores_1_c), (p20, l20, c20), i_6, ()) h21) (
        nilI x_0 fun a22 =>
        ldBool h1 (Addr.add a22 5) fun b23 =>
        ifB (!b23) (
          nilI x_0 fun a24 =>
          ldInt .i64 h1 a24 fun n25 =>
          ifB (decide (n3 ≥ n25)) (
            nilI x_0 fun a26 =>
            ldInt .i64 h1 (Addr.add a26 4) fun n27 =>
            nilI x_0 fun a28 =>
            stI h1 (Addr.add a28 4) (.int .i64 (IntKind.wrap .i64 (n27 + (1 : Int)))) fun h29 =>
            nilI x_0 fun a30 =>
            nilI x_0 fun a31 =>
            ldInt .i64 h29 (Addr.add a30 4) fun n32 =>
            ldInt .i64 h29 (Addr.add a31 2) fun n33 =>
            ifB (n32 == n33) (
              nilI x_0 fun a34 =>
              stI h29 (Addr.add a34 4) (.int .i64 (0 : Int)) fun h35 =>
              nilI x_0 fun a36 =>
              stI h35 (Addr.add a36 5) (.bool true) fun h37 =>
              nilI x_0 fun a38 =>
              ldInt .i64 h37 (Addr.add a38 3) fun n39 =>
              newI h37 (.cells #[(.int .i64 n39), (.bool true)] 34 (0, 0)) fun b40 h41 =>
              appI 34 2 16 (.agg #[(.int .i64 (0 : Int)), (.bool false)]) out_5_p out_5_n out_5_c (some ⟨b40, 0, none⟩) 1 h41 fun p42 l42 c42 h43 =>
              J4 (x_0, (scores_1_p, scores_1_n, scores_1_c), (p42, l42, c42), i_6, ()) h43) (
              J4 (x_0, (scores_1_p, scores_1_n, scores_1_c), (out_5_p, out_5_n, out_5_c), i_6, ()) h29)) (
            nilI x_0 fun a44 =>
            ldBool h1 (Addr.add a44 5) fun b45 =>
            ifB (!b45) (
              nilI x_0 fun a46 =>
              stI h1 (Addr.add a46 4) (.int .i64 (0 : Int)) fun h47 =>
              J4 (x_0, (scores_1_p, scores_1_n, scores_1_c), (out_5_p, out_5_n, out_5_c), i_6, ()) h47) (
              J4 (x_0, (scores_1_p, scores_1_n, scores_1_c), (out_5_p, out_5_n, out_5_c), i_6, ()) h1))) (
          nilI x_0 fun a48 =>
          ldBool h1 (Addr.add a48 5) fun b49 =>
          ifB (!b49) (
            nilI x_0 fun a50 =>
            stI h1 (Addr.add a50 4) (.int .i64 (0 : Int)) fun h51 =>
            J4 (x_0, (scores_1_p, scores_1_n, scores_1_c), (out_5_p, out_5_n, out_5_c), i_6, ()) h51) (
            J4 (x_0, (scores_1_p, scores_1_n, scores_1_c), (out_5_p, out_5_n, out_5_c), i_6, ()) h1)))) (
      nilI x_0 fun a52 =>
      ldBool h1 (Addr.add a52 5) fun b53 =>
      ifB (!b53) (
        nilI x_0 fun a54 =>
        ldInt .i64 h1 a54 fun n55 =>
        ifB (decide (n3 ≥ n55)) (
          nilI x_0 fun a56 =>
          ldInt .i64 h1 (Addr.add a56 4) fun n57 =>
          nilI x_0 fun a58 =>
          stI h1 (Addr.add a58 4) (.int .i64 (IntKind.wrap .i64 (n57 + (1 : Int)))) fun h59 =>
          nilI x_0 fun a60 =>
          nilI x_0 fun a61 =>
          ldInt .i64 h59 (Addr.add a60 4) fun n62 =>
          ldInt .i64 h59 (Addr.add a61 2) fun n63 =>
          ifB (n62 == n63) (
            nilI x_0 fun a64 =>
            stI h59 (Addr.add a64 4) (.int .i64 (0 : Int)) fun h65 =>
            nilI x_0 fun a66 =>
            stI h65 (Addr.add a66 5) (.bool true) fun h67 =>
            nilI x_0 fun a68 =>
            ldInt .i64 h67 (Addr.add a68 3) fun n69 =>
            newI h67 (.cells #[(.int .i64 n69), (.bool true)] 34 (0, 0)) fun b70 h71 =>
            appI 34 2 16 (.agg #[(.int .i64 (0 : Int)), (.bool false)]) out_5_p out_5_n out_5_c (some ⟨b70, 0, none⟩) 1 h71 fun p72 l72 c72 h73 =>
            J4 (x_0, (scores_1_p, scores_1_n, scores_1_c), (p72, l72, c72), i_6, ()) h73) (
            J4 (x_0, (scores_1_p, scores_1_n, scores_1_c), (out_5_p, out_5_n, out_5_c), i_6, ()) h59)) (
          nilI x_0 fun a74 =>
          ldBool h1 (Addr.add a74 5) fun b75 =>
          ifB (!b75) (
            nilI x_0 fun a76 =>
            stI h1 (Addr.add a76 4) (.int .i64 (0 : Int)) fun h77 =>
            J4 (x_0, (scores_1_p, scores_1_n, scores_1_c), (out_5_p, out_5_n, out_5_c), i_6, ()) h77) (
            J4 (x_0, (scores_1_p, scores_1_n, scores_1_c), (out_5_p, out_5_n, out_5_c), i_6, ()) h1))) (
        nilI x_0 fun a78 =>
        ldBool h1 (Addr.add a78 5) fun b79 =>
        ifB (!b79) (
          nilI x_0 fun a80 =>
          stI h1 (Addr.add a80 4) (.int .i64 (0 : Int)) fun h81 =>
          J4 (x_0, (scores_1_p, scores_1_n, scores_1_c), (out_5_p, out_5_n, out_5_c), i_6, ()) h81) (
          J4 (x_0, (scores_1_p, scores_1_n, scores_1_c), (out_5_p, out_5_n, out_5_c), i_6, ()) h1)))) (
    Q (.slice out_5_p out_5_n out_5_c) h1)
def ref25_Wake_Push (x_0 : Option Addr) (scores_1_p : Option Addr) (scores_1_n : Nat) (scores_1_c : Nat) (h : Heap) (Q : Value → Heap → Prop) : Prop :=
  LoopS (S := (Option Addr × (Option Addr × Nat × Nat) × (Option Addr × Nat × Nat) × Int × Unit)) (fun K1 s h => ref25_Wake_Push_l3 Q K1 s.1 s.2.1.1 s.2.1.2.1 s.2.1.2.2 s.2.2.1.1 s.2.2.1.2.1 s.2.2.1.2.2 s.2.2.2.1 h) (x_0, (scores_1_p, scores_1_n, scores_1_c), (none, 0, 0), (0 : Int), ()) h
noncomputable def tab_ref25_Wake_Push : Tab := { sch := lookT .done [(11, (.one 0 (.one 1 (.one 2 (.one 3 (.one 5 (.one 6 (.one 7 (.one 8 (.one 4 (.one 9 (.one 10 .done))))))))))))], lp := lookT [] [(3, [(0, .sc (.ptr)), (1, .sc (.slice)), (5, .sc (.slice)), (6, .sc (.int .i64))])], jn := lookT none [(17, some [(0, .sc (.ptr)), (1, .sc (.slice)), (5, .sc (.slice)), (6, .sc (.int .i64))])] }
theorem eq_ref25_Wake_Push (x_0 : Option Addr) (scores_1_p : Option Addr) (scores_1_n : Nat) (scores_1_c : Nat) (h : Heap) (Q : Value → Heap → Prop) : fnI P Try.f19 tab_ref25_Wake_Push [(.pointer x_0), (.slice scores_1_p scores_1_n scores_1_c)] h Q = ref25_Wake_Push x_0 scores_1_p scores_1_n scores_1_c h Q := by kernel_rfl
theorem ok_ref25_Wake_Push : fnOk P Try.f19 tab_ref25_Wake_Push = true := by kernel_rfl
theorem call_ref25_Wake_Push (x_0 : Option Addr) (scores_1_p : Option Addr) (scores_1_n : Nat) (scores_1_c : Nat) {h : Heap} {Q : Value → Heap → Prop} (H : ref25_Wake_Push x_0 scores_1_p scores_1_n scores_1_c h Q) : callP P n_ref25_Wake_Push #[(.pointer x_0), (.slice scores_1_p scores_1_n scores_1_c)] h Q :=
  @callP_of P n_ref25_Wake_Push Try.f19 tab_ref25_Wake_Push [(.pointer x_0), (.slice scores_1_p scores_1_n scores_1_c)] h Q mixed Try.func19 Try.call19 ok_ref25_Wake_Push (Eq.mpr (eq_ref25_Wake_Push x_0 scores_1_p scores_1_n scores_1_c h Q) H)

/-! ### (*earshot/wake.Wake).Count: function 20 -/
def wake_Wake_Count (x_0 : Option Addr) (h : Heap) (Q : Value → Heap → Prop) : Prop :=
  callP P n_wake_Wake_Mark #[(.pointer x_0)] h fun v2 h1 =>
  ∃ n3 : Int, ∃ n4 : Int, ∃ b5 : Bool, v2 = (.agg #[(.int .i64 n3), (.int .i64 n4), (.bool b5)]) ∧
  Q (.int .i64 n3) h1
noncomputable def tab_wake_Wake_Count : Tab := { sch := lookT .done [], lp := lookT [] [], jn := lookT none [] }
theorem eq_wake_Wake_Count (x_0 : Option Addr) (h : Heap) (Q : Value → Heap → Prop) : fnI P Try.f20 tab_wake_Wake_Count [(.pointer x_0)] h Q = wake_Wake_Count x_0 h Q := by kernel_rfl
theorem ok_wake_Wake_Count : fnOk P Try.f20 tab_wake_Wake_Count = true := by kernel_rfl
theorem call_wake_Wake_Count (x_0 : Option Addr) {h : Heap} {Q : Value → Heap → Prop} (H : wake_Wake_Count x_0 h Q) : callP P n_wake_Wake_Count #[(.pointer x_0)] h Q :=
  @callP_of P n_wake_Wake_Count Try.f20 tab_wake_Wake_Count [(.pointer x_0)] h Q mixed Try.func20 Try.call20 ok_wake_Wake_Count (Eq.mpr (eq_wake_Wake_Count x_0 h Q) H)

/-! ### (*earshot/wake.Wake).Reset: function 21 -/
def wake_Wake_Reset (x_0 : Option Addr) (h : Heap) (Q : Value → Heap → Prop) : Prop :=
  ifB (!(x_0).isNone) (
    nilI x_0 fun a1 =>
    stI h (Addr.add a1 3) (.int .i64 (0 : Int)) fun h2 =>
    stI h2 (Addr.add a1 4) (.int .i64 (0 : Int)) fun h3 =>
    stI h3 (Addr.add a1 5) (.bool false) fun h4 =>
    Q (.tuple #[]) h4) (
    Q (.tuple #[]) h)
noncomputable def tab_wake_Wake_Reset : Tab := { sch := lookT .done [], lp := lookT [] [], jn := lookT none [] }
theorem eq_wake_Wake_Reset (x_0 : Option Addr) (h : Heap) (Q : Value → Heap → Prop) : fnI P Try.f21 tab_wake_Wake_Reset [(.pointer x_0)] h Q = wake_Wake_Reset x_0 h Q := by kernel_rfl
theorem ok_wake_Wake_Reset : fnOk P Try.f21 tab_wake_Wake_Reset = true := by kernel_rfl
theorem call_wake_Wake_Reset (x_0 : Option Addr) {h : Heap} {Q : Value → Heap → Prop} (H : wake_Wake_Reset x_0 h Q) : callP P n_wake_Wake_Reset #[(.pointer x_0)] h Q :=
  @callP_of P n_wake_Wake_Reset Try.f21 tab_wake_Wake_Reset [(.pointer x_0)] h Q mixed Try.func21 Try.call21 ok_wake_Wake_Reset (Eq.mpr (eq_wake_Wake_Reset x_0 h Q) H)

/-! ### earshot/earshotlaw25.WakeTells: function 6 -/
def law25_WakeTells_j10 (Q : Value → Heap → Prop) (up_7 : Bool) (l_9_p : Option Addr) (l_9_n : Nat) (l_9_c : Nat) (k_11 : Int) (x_12 : Option Addr) (y_13 : Addr) (one_14 : Bool) (mark_15 : Bool) (h39 : Heap) : Prop :=
  bndI k_11 l_9_n fun l40 =>
  bndI k_11 l_9_n fun l41 =>
  callSlice P n_wake_Wake_Push #[(.pointer x_12), (.slice (if l_9_c = l40 then l_9_p else Option.map (fun a => a.add (l40 * 1)) l_9_p) (l_9_n - l40) (l_9_c - l40))] h39 fun p43 l43 c43 h42 =>
  callSlice P n_ref25_Wake_Push #[(.pointer (some y_13)), (.slice (if l_9_c = l41 then l_9_p else Option.map (fun a => a.add (l41 * 1)) l_9_p) (l_9_n - l41) (l_9_c - l41))] h42 fun p45 l45 c45 h44 =>
  callBool P n_ref25_Same #[(.slice p43 l43 c43), (.slice p45 l45 c45)] h44 fun b47 h46 =>
  nilI (some y_13) fun a48 =>
  ldInt .i64 h46 (Addr.add a48 3) fun n49 =>
  ldInt .i64 h46 (Addr.add a48 4) fun n50 =>
  ldBool h46 (Addr.add a48 5) fun b51 =>
  callP P n_wake_Wake_Mark #[(.pointer x_12)] h46 fun v53 h52 =>
  ∃ n54 : Int, ∃ n55 : Int, ∃ b56 : Bool, v53 = (.agg #[(.int .i64 n54), (.int .i64 n55), (.bool b56)]) ∧
  cellH h52 (Addr.add a48 3) = some (.int .i64 n49) ∧
  cellH h52 (Addr.add a48 4) = some (.int .i64 n50) ∧
  cellH h52 (Addr.add a48 5) = some (.bool b51) ∧
  callUnit P n_wake_Wake_Reset #[(.pointer x_12)] h52 fun h57 =>
  ifB up_7 (
    ifB one_14 (
      ifB mark_15 (
        ifB b47 (
          ifB ((n54 == n49) && ((n55 == n50) && ((b56 == b51) && true))) (
            callP P n_wake_Wake_Mark #[(.pointer x_12)] h57 fun v59 h58 =>
            ∃ n60 : Int, ∃ n61 : Int, ∃ b62 : Bool, v59 = (.agg #[(.int .i64 n60), (.int .i64 n61), (.bool b62)]) ∧
            Q (.bool ((n60 == (0 : Int)) && ((n61 == (0 : Int)) && ((b62 == false) && true)))) h58) (
            Q (.bool false) h57)) (
          Q (.bool false) h57)) (
        Q (.bool false) h57)) (
      Q (.bool false) h57)) (
    Q (.bool false) h57)
def law25_WakeTells (q_0_0 : Int) (q_0_1 : Int) (q_0_2 : Int) (scores_1_p : Option Addr) (scores_1_n : Nat) (scores_1_c : Nat) (cut_2 : Int) (h : Heap) (Q : Value → Heap → Prop) : Prop :=
  newI h (.cells #[(.int .i64 q_0_0), (.int .i64 q_0_1), (.int .i64 q_0_2)] 22 (0, 0)) fun b1 h2 =>
  callBool P n_law25_awake #[] h2 fun b4 h3 =>
  ldInt .i64 h3 ⟨b1, 0, none⟩ fun n5 =>
  ldInt .i64 h3 ⟨b1, 1, none⟩ fun n6 =>
  ldInt .i64 h3 ⟨b1, 2, none⟩ fun n7 =>
  callP P n_law25_watch #[(.agg #[(.int .i64 n5), (.int .i64 n6), (.int .i64 n7)])] h3 fun v9 h8 =>
  ∃ n10 : Int, ∃ n11 : Int, ∃ n12 : Int, v9 = (.agg #[(.int .i64 n10), (.int .i64 n11), (.int .i64 n12)]) ∧
  newI h8 (.cells #[(.int .i64 (0 : Int)), (.int .i64 (0 : Int)), (.int .i64 (0 : Int))] 26 (0, 0)) fun b13 h14 =>
  stI h14 ⟨b13, 0, none⟩ (.int .i64 n10) fun h15 =>
  stI h15 ⟨b13, 1, none⟩ (.int .i64 n11) fun h16 =>
  stI h16 ⟨b13, 2, none⟩ (.int .i64 n12) fun h17 =>
  callSlice P n_law25_few #[(.slice scores_1_p scores_1_n scores_1_c)] h17 fun p19 l19 c19 h18 =>
  neI (IntKind.wrap .i64 (((l19 : Nat) : Int) + (1 : Int))) fun _ =>
  neI (IntKind.wrap .i64 (((l19 : Nat) : Int) + (1 : Int))) fun _ =>
  ldInt .i64 h18 ⟨b13, 0, none⟩ fun n20 =>
  ldInt .i64 h18 ⟨b13, 1, none⟩ fun n21 =>
  ldInt .i64 h18 ⟨b13, 2, none⟩ fun n22 =>
  callPtr P n_wake_New #[(.agg #[(.int .i64 n20), (.int .i64 n21), (.int .i64 n22)])] h18 fun p24 h23 =>
  ldInt .i64 h23 ⟨b13, 0, none⟩ fun n25 =>
  ldInt .i64 h23 ⟨b13, 1, none⟩ fun n26 =>
  ldInt .i64 h23 ⟨b13, 2, none⟩ fun n27 =>
  newI h23 (.cells #[(.int .i64 n25), (.int .i64 n26), (.int .i64 n27), (.int .i64 (0 : Int)), (.int .i64 (0 : Int)), (.bool false)] 45 (0, 0)) fun b28 h29 =>
  bndI (Int.tmod (IntKind.wrap .i64 ((Int.tmod cut_2 (IntKind.wrap .i64 (((l19 : Nat) : Int) + (1 : Int)))) + (IntKind.wrap .i64 (((l19 : Nat) : Int) + (1 : Int))))) (IntKind.wrap .i64 (((l19 : Nat) : Int) + (1 : Int)))) c19 fun l30 =>
  bndI (Int.tmod (IntKind.wrap .i64 ((Int.tmod cut_2 (IntKind.wrap .i64 (((l19 : Nat) : Int) + (1 : Int)))) + (IntKind.wrap .i64 (((l19 : Nat) : Int) + (1 : Int))))) (IntKind.wrap .i64 (((l19 : Nat) : Int) + (1 : Int)))) c19 fun l31 =>
  callSlice P n_wake_Wake_Push #[(.pointer p24), (.slice (if c19 = 0 then p19 else Option.map (fun a => a.add (0 * 1)) p19) (l30 - 0) (c19 - 0))] h29 fun p33 l33 c33 h32 =>
  callSlice P n_ref25_Wake_Push #[(.pointer (some ⟨b28, 0, none⟩)), (.slice (if c19 = 0 then p19 else Option.map (fun a => a.add (0 * 1)) p19) (l31 - 0) (c19 - 0))] h32 fun p35 l35 c35 h34 =>
  callBool P n_ref25_Same #[(.slice p33 l33 c33), (.slice p35 l35 c35)] h34 fun b37 h36 =>
  ∃ J38 : (Bool × (Option Addr × Nat × Nat) × Int × Option Addr × Addr × Bool × Bool × Unit) → Heap → Prop, (∀ s h, J38 s h → law25_WakeTells_j10 Q s.1 s.2.1.1 s.2.1.2.1 s.2.1.2.2 s.2.2.1 s.2.2.2.1 s.2.2.2.2.1 s.2.2.2.2.2.1 s.2.2.2.2.2.2.1 h) ∧
  nilI (some ⟨b28, 0, none⟩) fun a63 =>
  ldInt .i64 h36 (Addr.add a63 3) fun n64 =>
  ldInt .i64 h36 (Addr.add a63 4) fun n65 =>
  ldBool h36 (Addr.add a63 5) fun b66 =>
  callP P n_wake_Wake_Mark #[(.pointer p24)] h36 fun v68 h67 =>
  ∃ n69 : Int, ∃ n70 : Int, ∃ b71 : Bool, v68 = (.agg #[(.int .i64 n69), (.int .i64 n70), (.bool b71)]) ∧
  cellH h67 (Addr.add a63 3) = some (.int .i64 n64) ∧
  cellH h67 (Addr.add a63 4) = some (.int .i64 n65) ∧
  cellH h67 (Addr.add a63 5) = some (.bool b66) ∧
  ifB ((n69 == n64) && ((n70 == n65) && ((b71 == b66) && true))) (
    nilI (some ⟨b28, 0, none⟩) fun a72 =>
    ldBool h67 (Addr.add a72 5) fun b73 =>
    callBool P n_wake_Wake_On #[(.pointer p24)] h67 fun b75 h74 =>
    cellH h74 (Addr.add a72 5) = some (.bool b73) ∧
    cellH h74 (Addr.add a63 3) = some (.int .i64 n64) ∧
    cellH h74 (Addr.add a63 4) = some (.int .i64 n65) ∧
    cellH h74 (Addr.add a63 5) = some (.bool b66) ∧
    ifB (b75 == b73) (
      callInt P .i64 n_wake_Wake_Count #[(.pointer p24)] h74 fun n77 h76 =>
      cellH h76 (Addr.add a72 5) = some (.bool b73) ∧
      cellH h76 (Addr.add a63 3) = some (.int .i64 n64) ∧
      cellH h76 (Addr.add a63 4) = some (.int .i64 n65) ∧
      cellH h76 (Addr.add a63 5) = some (.bool b66) ∧
      J38 (b4, (p19, l19, c19), (Int.tmod (IntKind.wrap .i64 ((Int.tmod cut_2 (IntKind.wrap .i64 (((l19 : Nat) : Int) + (1 : Int)))) + (IntKind.wrap .i64 (((l19 : Nat) : Int) + (1 : Int))))) (IntKind.wrap .i64 (((l19 : Nat) : Int) + (1 : Int)))), p24, ⟨b28, 0, none⟩, b37, (n77 == (Int.tmod (IntKind.wrap .i64 ((Int.tmod cut_2 (IntKind.wrap .i64 (((l19 : Nat) : Int) + (1 : Int)))) + (IntKind.wrap .i64 (((l19 : Nat) : Int) + (1 : Int))))) (IntKind.wrap .i64 (((l19 : Nat) : Int) + (1 : Int))))), ()) h76) (
      cellH h74 (Addr.add a72 5) = some (.bool b73) ∧
      cellH h74 (Addr.add a63 3) = some (.int .i64 n64) ∧
      cellH h74 (Addr.add a63 4) = some (.int .i64 n65) ∧
      cellH h74 (Addr.add a63 5) = some (.bool b66) ∧
      J38 (b4, (p19, l19, c19), (Int.tmod (IntKind.wrap .i64 ((Int.tmod cut_2 (IntKind.wrap .i64 (((l19 : Nat) : Int) + (1 : Int)))) + (IntKind.wrap .i64 (((l19 : Nat) : Int) + (1 : Int))))) (IntKind.wrap .i64 (((l19 : Nat) : Int) + (1 : Int)))), p24, ⟨b28, 0, none⟩, b37, false, ()) h74)) (
    cellH h67 (Addr.add a63 3) = some (.int .i64 n64) ∧
    cellH h67 (Addr.add a63 4) = some (.int .i64 n65) ∧
    cellH h67 (Addr.add a63 5) = some (.bool b66) ∧
    cellH h67 (Addr.add a63 3) = some (.int .i64 n64) ∧
    cellH h67 (Addr.add a63 4) = some (.int .i64 n65) ∧
    cellH h67 (Addr.add a63 5) = some (.bool b66) ∧
    J38 (b4, (p19, l19, c19), (Int.tmod (IntKind.wrap .i64 ((Int.tmod cut_2 (IntKind.wrap .i64 (((l19 : Nat) : Int) + (1 : Int)))) + (IntKind.wrap .i64 (((l19 : Nat) : Int) + (1 : Int))))) (IntKind.wrap .i64 (((l19 : Nat) : Int) + (1 : Int)))), p24, ⟨b28, 0, none⟩, b37, false, ()) h67)
noncomputable def tab_law25_WakeTells : Tab := { sch := lookT .done [(8, (.one 0 (.one 1 (.one 2 (.one 3 (.one 5 (.one 6 (.one 7 (.one 8 (.alt 4 (.alt 9 (.alt 10 (.one 11 .done) .stop) .stop) .stop)))))))))), (9, (.one 0 (.one 2 (.one 3 (.one 4 (.early 5 (.alt 1 (.one 6 (.one 7 (.one 8 (.one 10 (.one 11 (.one 12 (.one 13 (.early 14 (.alt 9 (.one 15 (.one 16 (.one 17 (.one 18 (.one 20 (.alt 19 (.one 21 (.one 22 (.one 23 .done))) .stop)))))) .stop))))))))) .stop))))))), (10, (.one 0 (.one 1 (.one 2 (.one 3 (.one 5 (.one 6 (.one 7 (.one 8 (.alt 4 (.alt 9 (.alt 10 (.one 11 .done) .stop) .stop) .stop)))))))))), (11, (.one 0 (.one 2 (.one 3 (.one 4 (.early 5 (.alt 1 (.one 6 (.one 7 .done)) .stop)))))))], lp := lookT [] [], jn := lookT none [(10, some [(7, .sc (.bool)), (9, .sc (.slice)), (11, .sc (.int .i64)), (12, .sc (.ptr)), (13, .sc (.adr)), (14, .sc (.bool)), (15, .sc (.bool))])] }
theorem eq_law25_WakeTells (q_0_0 : Int) (q_0_1 : Int) (q_0_2 : Int) (scores_1_p : Option Addr) (scores_1_n : Nat) (scores_1_c : Nat) (cut_2 : Int) (h : Heap) (Q : Value → Heap → Prop) : fnI P Try.f6 tab_law25_WakeTells [(.agg #[(.int .i64 q_0_0), (.int .i64 q_0_1), (.int .i64 q_0_2)]), (.slice scores_1_p scores_1_n scores_1_c), (.int .i64 cut_2)] h Q = law25_WakeTells q_0_0 q_0_1 q_0_2 scores_1_p scores_1_n scores_1_c cut_2 h Q := by kernel_rfl
theorem ok_law25_WakeTells : fnOk P Try.f6 tab_law25_WakeTells = true := by kernel_rfl
theorem call_law25_WakeTells (q_0_0 : Int) (q_0_1 : Int) (q_0_2 : Int) (scores_1_p : Option Addr) (scores_1_n : Nat) (scores_1_c : Nat) (cut_2 : Int) {h : Heap} {Q : Value → Heap → Prop} (H : law25_WakeTells q_0_0 q_0_1 q_0_2 scores_1_p scores_1_n scores_1_c cut_2 h Q) : callP P n_law25_WakeTells #[(.agg #[(.int .i64 q_0_0), (.int .i64 q_0_1), (.int .i64 q_0_2)]), (.slice scores_1_p scores_1_n scores_1_c), (.int .i64 cut_2)] h Q :=
  @callP_of P n_law25_WakeTells Try.f6 tab_law25_WakeTells [(.agg #[(.int .i64 q_0_0), (.int .i64 q_0_1), (.int .i64 q_0_2)]), (.slice scores_1_p scores_1_n scores_1_c), (.int .i64 cut_2)] h Q mixed Try.func6 Try.call6 ok_law25_WakeTells (Eq.mpr (eq_law25_WakeTells q_0_0 q_0_1 q_0_2 scores_1_p scores_1_n scores_1_c cut_2 h Q) H)

/-! ### (*earshot/wake.Wake).Set: function 22 -/
def wake_Wake_Set (x_0 : Option Addr) (m_1_0 : Int) (m_1_1 : Int) (m_1_2 : Bool) (h : Heap) (Q : Value → Heap → Prop) : Prop :=
  newI h (.cells #[(.int .i64 m_1_0), (.int .i64 m_1_1), (.bool m_1_2)] 40 (0, 0)) fun b1 h2 =>
  ifB ((x_0).isNone) (
    Q (.int .i64 (1 : Int)) h2) (
    ldInt .i64 h2 ⟨b1, 0, none⟩ fun n3 =>
    ifB (decide (n3 < (0 : Int))) (
      Q (.int .i64 (1 : Int)) h2) (
      ldInt .i64 h2 ⟨b1, 0, none⟩ fun n4 =>
      ifB (decide (n4 > (4611686018427387904 : Int))) (
        Q (.int .i64 (1 : Int)) h2) (
        ldInt .i64 h2 ⟨b1, 1, none⟩ fun n5 =>
        ifB (decide (n5 < (0 : Int))) (
          Q (.int .i64 (1 : Int)) h2) (
          nilI x_0 fun a6 =>
          ldInt .i64 h2 ⟨b1, 1, none⟩ fun n7 =>
          ldInt .i64 h2 (Addr.add a6 2) fun n8 =>
          ifB (decide (n7 ≥ n8)) (
            Q (.int .i64 (1 : Int)) h2) (
            ldInt .i64 h2 ⟨b1, 1, none⟩ fun n9 =>
            ldInt .i64 h2 ⟨b1, 0, none⟩ fun n10 =>
            ifB (decide (n9 > n10)) (
              Q (.int .i64 (1 : Int)) h2) (
              ldBool h2 ⟨b1, 2, none⟩ fun b11 =>
              ifB b11 (
                ldInt .i64 h2 ⟨b1, 1, none⟩ fun n12 =>
                ifB (decide (n12 > (0 : Int))) (
                  Q (.int .i64 (1 : Int)) h2) (
                  nilI x_0 fun a13 =>
                  ldInt .i64 h2 ⟨b1, 0, none⟩ fun n14 =>
                  ldInt .i64 h2 (Addr.add a13 2) fun n15 =>
                  ifB (decide (n14 < n15)) (
                    Q (.int .i64 (1 : Int)) h2) (
                    ldInt .i64 h2 ⟨b1, 0, none⟩ fun n16 =>
                    ldInt .i64 h2 ⟨b1, 1, none⟩ fun n17 =>
                    ldBool h2 ⟨b1, 2, none⟩ fun b18 =>
                    nilI x_0 fun a19 =>
                    stI h2 (Addr.add a19 3) (.int .i64 n16) fun h20 =>
                    stI h20 (Addr.add a19 4) (.int .i64 n17) fun h21 =>
                    stI h21 (Addr.add a19 5) (.bool b18) fun h22 =>
                    Q (.int .i64 (0 : Int)) h22))) (
                ldInt .i64 h2 ⟨b1, 0, none⟩ fun n23 =>
                ldInt .i64 h2 ⟨b1, 1, none⟩ fun n24 =>
                ldBool h2 ⟨b1, 2, none⟩ fun b25 =>
                nilI x_0 fun a26 =>
                stI h2 (Addr.add a26 3) (.int .i64 n23) fun h27 =>
                stI h27 (Addr.add a26 4) (.int .i64 n24) fun h28 =>
                stI h28 (Addr.add a26 5) (.bool b25) fun h29 =>
                Q (.int .i64 (0 : Int)) h29)))))))
noncomputable def tab_wake_Wake_Set : Tab := { sch := lookT .done [(3, (.one 0 (.one 1 (.one 2 (.one 3 (.one 4 (.one 6 (.one 7 (.one 8 (.one 9 (.one 5 (.one 10 (.one 11 (.one 12 (.one 13 (.one 14 (.one 16 (.one 15 (.one 17 (.one 18 (.one 19 (.one 20 .done)))))))))))))))))))))), (4, (.one 0 (.one 1 (.one 2 (.one 3 (.one 4 (.one 5 (.one 6 (.one 7 (.one 9 (.one 10 (.one 11 (.one 12 (.one 8 (.one 13 (.one 14 (.one 15 (.one 16 (.one 17 .done)))))))))))))))))))], lp := lookT [] [], jn := lookT none [] }
theorem eq_wake_Wake_Set (x_0 : Option Addr) (m_1_0 : Int) (m_1_1 : Int) (m_1_2 : Bool) (h : Heap) (Q : Value → Heap → Prop) : fnI P Try.f22 tab_wake_Wake_Set [(.pointer x_0), (.agg #[(.int .i64 m_1_0), (.int .i64 m_1_1), (.bool m_1_2)])] h Q = wake_Wake_Set x_0 m_1_0 m_1_1 m_1_2 h Q := by kernel_rfl
theorem ok_wake_Wake_Set : fnOk P Try.f22 tab_wake_Wake_Set = true := by kernel_rfl
theorem call_wake_Wake_Set (x_0 : Option Addr) (m_1_0 : Int) (m_1_1 : Int) (m_1_2 : Bool) {h : Heap} {Q : Value → Heap → Prop} (H : wake_Wake_Set x_0 m_1_0 m_1_1 m_1_2 h Q) : callP P n_wake_Wake_Set #[(.pointer x_0), (.agg #[(.int .i64 m_1_0), (.int .i64 m_1_1), (.bool m_1_2)])] h Q :=
  @callP_of P n_wake_Wake_Set Try.f22 tab_wake_Wake_Set [(.pointer x_0), (.agg #[(.int .i64 m_1_0), (.int .i64 m_1_1), (.bool m_1_2)])] h Q mixed Try.func22 Try.call22 ok_wake_Wake_Set (Eq.mpr (eq_wake_Wake_Set x_0 m_1_0 m_1_1 m_1_2 h Q) H)

/-! ### (*earshot/earshotref25.Wake).May: function 23 -/
def ref25_Wake_May_j3 (Q : Value → Heap → Prop) (x_0 : Option Addr) (m_3 : Addr) (h4 : Heap) : Prop :=
  ldBool h4 (Addr.add m_3 2) fun b5 =>
  ifB (!b5) (
    Q (.bool true) h4) (
    ldInt .i64 h4 (Addr.add m_3 1) fun n6 =>
    ifB (n6 == (0 : Int)) (
      nilI x_0 fun a7 =>
      ldInt .i64 h4 m_3 fun n8 =>
      ldInt .i64 h4 (Addr.add a7 2) fun n9 =>
      Q (.bool (decide (n8 ≥ n9))) h4) (
      Q (.bool false) h4))
def ref25_Wake_May (x_0 : Option Addr) (m_1_0 : Int) (m_1_1 : Int) (m_1_2 : Bool) (h : Heap) (Q : Value → Heap → Prop) : Prop :=
  newI h (.cells #[(.int .i64 m_1_0), (.int .i64 m_1_1), (.bool m_1_2)] 40 (0, 0)) fun b1 h2 =>
  ∃ J3 : (Option Addr × Addr × Unit) → Heap → Prop, (∀ s h, J3 s h → ref25_Wake_May_j3 Q s.1 s.2.1 h) ∧
  ldInt .i64 h2 ⟨b1, 0, none⟩ fun n10 =>
  ifB (decide (n10 < (0 : Int))) (
    Q (.bool false) h2) (
    ldInt .i64 h2 ⟨b1, 0, none⟩ fun n11 =>
    ifB (decide (n11 > (4611686018427387904 : Int))) (
      Q (.bool false) h2) (
      ldInt .i64 h2 ⟨b1, 1, none⟩ fun n12 =>
      ifB (decide (n12 < (0 : Int))) (
        Q (.bool false) h2) (
        nilI x_0 fun a13 =>
        ldInt .i64 h2 ⟨b1, 1, none⟩ fun n14 =>
        ldInt .i64 h2 (Addr.add a13 2) fun n15 =>
        ifB (decide (n14 ≥ n15)) (
          Q (.bool false) h2) (
          ldInt .i64 h2 ⟨b1, 1, none⟩ fun n16 =>
          ldInt .i64 h2 ⟨b1, 0, none⟩ fun n17 =>
          ifB (decide (n16 > n17)) (
            Q (.bool false) h2) (
            J3 (x_0, ⟨b1, 0, none⟩, ()) h2)))))
noncomputable def tab_ref25_Wake_May : Tab := { sch := lookT .done [(1, (.one 0 (.one 1 (.one 2 (.one 3 (.one 4 (.one 5 (.one 6 (.one 7 (.one 8 (.one 9 (.one 10 (.one 11 (.one 12 (.one 13 (.one 14 (.one 16 (.one 17 (.one 18 (.one 19 (.one 15 (.one 20 (.one 21 (.one 22 (.one 23 (.one 24 (.one 26 (.one 25 (.one 27 (.one 28 (.one 29 .done))))))))))))))))))))))))))))))), (3, (.one 0 (.one 1 (.one 2 (.one 3 (.one 4 (.one 5 (.one 6 (.one 7 (.one 8 (.one 10 (.one 11 (.one 12 (.one 13 (.one 9 (.one 14 (.one 15 (.one 16 (.one 17 (.one 18 .done))))))))))))))))))))], lp := lookT [] [], jn := lookT none [(3, some [(0, .sc (.ptr)), (3, .sc (.adr))])] }
theorem eq_ref25_Wake_May (x_0 : Option Addr) (m_1_0 : Int) (m_1_1 : Int) (m_1_2 : Bool) (h : Heap) (Q : Value → Heap → Prop) : fnI P Try.f23 tab_ref25_Wake_May [(.pointer x_0), (.agg #[(.int .i64 m_1_0), (.int .i64 m_1_1), (.bool m_1_2)])] h Q = ref25_Wake_May x_0 m_1_0 m_1_1 m_1_2 h Q := by kernel_rfl
theorem ok_ref25_Wake_May : fnOk P Try.f23 tab_ref25_Wake_May = true := by kernel_rfl
theorem call_ref25_Wake_May (x_0 : Option Addr) (m_1_0 : Int) (m_1_1 : Int) (m_1_2 : Bool) {h : Heap} {Q : Value → Heap → Prop} (H : ref25_Wake_May x_0 m_1_0 m_1_1 m_1_2 h Q) : callP P n_ref25_Wake_May #[(.pointer x_0), (.agg #[(.int .i64 m_1_0), (.int .i64 m_1_1), (.bool m_1_2)])] h Q :=
  @callP_of P n_ref25_Wake_May Try.f23 tab_ref25_Wake_May [(.pointer x_0), (.agg #[(.int .i64 m_1_0), (.int .i64 m_1_1), (.bool m_1_2)])] h Q mixed Try.func23 Try.call23 ok_ref25_Wake_May (Eq.mpr (eq_ref25_Wake_May x_0 m_1_0 m_1_1 m_1_2 h Q) H)

/-! ### earshot/earshotlaw25.WakeMoves: function 7 -/
def law25_WakeMoves_j15 (Q : Value → Heap → Prop) (up_7 : Bool) (w_8 : Addr) (x_12 : Option Addr) (y_13 : Option Addr) (e_14 : Int) (same_15 : Bool) (t_16 : Addr) (h64 : Heap) : Prop :=
  callP P n_wake_Wake_Mark #[(.pointer y_13)] h64 fun v66 h65 =>
  ∃ n67 : Int, ∃ n68 : Int, ∃ b69 : Bool, v66 = (.agg #[(.int .i64 n67), (.int .i64 n68), (.bool b69)]) ∧
  newI h65 (.cells #[(.int .i64 (0 : Int)), (.int .i64 (0 : Int)), (.bool false)] 40 (0, 0)) fun b70 h71 =>
  stI h71 ⟨b70, 0, none⟩ (.int .i64 n67) fun h72 =>
  stI h72 ⟨b70, 1, none⟩ (.int .i64 n68) fun h73 =>
  stI h73 ⟨b70, 2, none⟩ (.bool b69) fun h74 =>
  ldInt .i64 h74 w_8 fun n75 =>
  ldInt .i64 h74 (Addr.add w_8 1) fun n76 =>
  ldInt .i64 h74 (Addr.add w_8 2) fun n77 =>
  newI h74 (.cells #[(.int .i64 n75), (.int .i64 n76), (.int .i64 n77), (.int .i64 (0 : Int)), (.int .i64 (0 : Int)), (.bool false)] 45 (0, 0)) fun b78 h79 =>
  ldInt .i64 h79 t_16 fun n80 =>
  ldInt .i64 h79 (Addr.add t_16 1) fun n81 =>
  ldBool h79 (Addr.add t_16 2) fun b82 =>
  callBool P n_ref25_Wake_May #[(.pointer (some ⟨b78, 0, none⟩)), (.agg #[(.int .i64 n80), (.int .i64 n81), (.bool b82)])] h79 fun b84 h83 =>
  ldInt .i64 h83 t_16 fun n85 =>
  ldInt .i64 h83 (Addr.add t_16 1) fun n86 =>
  ldBool h83 (Addr.add t_16 2) fun b87 =>
  callInt P .i64 n_wake_Wake_Set #[(.pointer y_13), (.agg #[(.int .i64 n85), (.int .i64 n86), (.bool b87)])] h83 fun n89 h88 =>
  ifB up_7 (
    ifB (e_14 == (0 : Int)) (
      ifB same_15 (
        ldInt .i64 h88 ⟨b70, 0, none⟩ fun n90 =>
        ldInt .i64 h88 ⟨b70, 1, none⟩ fun n91 =>
        ldBool h88 ⟨b70, 2, none⟩ fun b92 =>
        callP P n_wake_Wake_Mark #[(.pointer x_12)] h88 fun v94 h93 =>
        ∃ n95 : Int, ∃ n96 : Int, ∃ b97 : Bool, v94 = (.agg #[(.int .i64 n95), (.int .i64 n96), (.bool b97)]) ∧
        cellH h93 ⟨b70, 0, none⟩ = some (.int .i64 n90) ∧
        cellH h93 ⟨b70, 1, none⟩ = some (.int .i64 n91) ∧
        cellH h93 ⟨b70, 2, none⟩ = some (.bool b92) ∧
        ifB ((n95 == n90) && ((n96 == n91) && ((b97 == b92) && true))) (
          ifB b84 (
            ifB (n89 == (0 : Int)) (
              ldInt .i64 h93 t_16 fun n98 =>
              ldInt .i64 h93 (Addr.add t_16 1) fun n99 =>
              ldBool h93 (Addr.add t_16 2) fun b100 =>
              callP P n_wake_Wake_Mark #[(.pointer y_13)] h93 fun v102 h101 =>
              ∃ n103 : Int, ∃ n104 : Int, ∃ b105 : Bool, v102 = (.agg #[(.int .i64 n103), (.int .i64 n104), (.bool b105)]) ∧
              cellH h101 t_16 = some (.int .i64 n98) ∧
              cellH h101 (Addr.add t_16 1) = some (.int .i64 n99) ∧
              cellH h101 (Addr.add t_16 2) = some (.bool b100) ∧
              cellH h101 ⟨b70, 0, none⟩ = some (.int .i64 n90) ∧
              cellH h101 ⟨b70, 1, none⟩ = some (.int .i64 n91) ∧
              cellH h101 ⟨b70, 2, none⟩ = some (.bool b92) ∧
              ifB ((n103 == n98) && ((n104 == n99) && ((b105 == b100) && true))) (
                cellH h101 t_16 = some (.int .i64 n98) ∧
                cellH h101 (Addr.add t_16 1) = some (.int .i64 n99) ∧
                cellH h101 (Addr.add t_16 2) = some (.bool b100) ∧
                cellH h101 ⟨b70, 0, none⟩ = some (.int .i64 n90) ∧
                cellH h101 ⟨b70, 1, none⟩ = some (.int .i64 n91) ∧
                cellH h101 ⟨b70, 2, none⟩ = some (.bool b92) ∧
                Q (.bool true) h101) (
                ifB (!b84) (
                  ifB (n89 == (1 : Int)) (
                    ldInt .i64 h101 ⟨b70, 0, none⟩ fun n106 =>
                    ldInt .i64 h101 ⟨b70, 1, none⟩ fun n107 =>
                    ldBool h101 ⟨b70, 2, none⟩ fun b108 =>
                    callP P n_wake_Wake_Mark #[(.pointer y_13)] h101 fun v110 h109 =>
                    ∃ n111 : Int, ∃ n112 : Int, ∃ b113 : Bool, v110 = (.agg #[(.int .i64 n111), (.int .i64 n112), (.bool b113)]) ∧
                    cellH h109 ⟨b70, 0, none⟩ = some (.int .i64 n106) ∧
                    cellH h109 ⟨b70, 1, none⟩ = some (.int .i64 n107) ∧
                    cellH h109 ⟨b70, 2, none⟩ = some (.bool b108) ∧
                    cellH h109 t_16 = some (.int .i64 n98) ∧
                    cellH h109 (Addr.add t_16 1) = some (.int .i64 n99) ∧
                    cellH h109 (Addr.add t_16 2) = some (.bool b100) ∧
                    cellH h109 ⟨b70, 0, none⟩ = some (.int .i64 n90) ∧
                    cellH h109 ⟨b70, 1, none⟩ = some (.int .i64 n91) ∧
                    cellH h109 ⟨b70, 2, none⟩ = some (.bool b92) ∧
                    Q (.bool ((n111 == n106) && ((n112 == n107) && ((b113 == b108) && true)))) h109) (
                    cellH h101 t_16 = some (.int .i64 n98) ∧
                    cellH h101 (Addr.add t_16 1) = some (.int .i64 n99) ∧
                    cellH h101 (Addr.add t_16 2) = some (.bool b100) ∧
                    cellH h101 ⟨b70, 0, none⟩ = some (.int .i64 n90) ∧
                    cellH h101 ⟨b70, 1, none⟩ = some (.int .i64 n91) ∧
                    cellH h101 ⟨b70, 2, none⟩ = some (.bool b92) ∧
                    Q (.bool false) h101)) (
                  cellH h101 t_16 = some (.int .i64 n98) ∧
                  cellH h101 (Addr.add t_16 1) = some (.int .i64 n99) ∧
                  cellH h101 (Addr.add t_16 2) = some (.bool b100) ∧
                  cellH h101 ⟨b70, 0, none⟩ = some (.int .i64 n90) ∧
                  cellH h101 ⟨b70, 1, none⟩ = some (.int .i64 n91) ∧
                  cellH h101 ⟨b70, 2, none⟩ = some (.bool b92) ∧
                  Q (.bool false) h101))) (
              cellH h93 ⟨b70, 0, none⟩ = some (.int .i64 n90) ∧
              cellH h93 ⟨b70, 1, none⟩ = some (.int .i64 n91) ∧
              cellH h93 ⟨b70, 2, none⟩ = some (.bool b92) ∧
              ifB (!b84) (
                ifB (n89 == (1 : Int)) (
                  ldInt .i64 h93 ⟨b70, 0, none⟩ fun n114 =>
                  ldInt .i64 h93 ⟨b70, 1, none⟩ fun n115 =>
                  ldBool h93 ⟨b70, 2, none⟩ fun b116 =>
                  callP P n_wake_Wake_Mark #[(.pointer y_13)] h93 fun v118 h117 =>
                  ∃ n119 : Int, ∃ n120 : Int, ∃ b121 : Bool, v118 = (.agg #[(.int .i64 n119), (.int .i64 n120), (.bool b121)]) ∧
                  cellH h117 ⟨b70, 0, none⟩ = some (.int .i64 n114) ∧
                  cellH h117 ⟨b70, 1, none⟩ = some (.int .i64 n115) ∧
                  cellH h117 ⟨b70, 2, none⟩ = some (.bool b116) ∧
                  cellH h117 ⟨b70, 0, none⟩ = some (.int .i64 n90) ∧
                  cellH h117 ⟨b70, 1, none⟩ = some (.int .i64 n91) ∧
                  cellH h117 ⟨b70, 2, none⟩ = some (.bool b92) ∧
                  Q (.bool ((n119 == n114) && ((n120 == n115) && ((b121 == b116) && true)))) h117) (
                  cellH h93 ⟨b70, 0, none⟩ = some (.int .i64 n90) ∧
                  cellH h93 ⟨b70, 1, none⟩ = some (.int .i64 n91) ∧
                  cellH h93 ⟨b70, 2, none⟩ = some (.bool b92) ∧
                  Q (.bool false) h93)) (
                cellH h93 ⟨b70, 0, none⟩ = some (.int .i64 n90) ∧
                cellH h93 ⟨b70, 1, none⟩ = some (.int .i64 n91) ∧
                cellH h93 ⟨b70, 2, none⟩ = some (.bool b92) ∧
                Q (.bool false) h93))) (
            cellH h93 ⟨b70, 0, none⟩ = some (.int .i64 n90) ∧
            cellH h93 ⟨b70, 1, none⟩ = some (.int .i64 n91) ∧
            cellH h93 ⟨b70, 2, none⟩ = some (.bool b92) ∧
            ifB (!b84) (
              ifB (n89 == (1 : Int)) (
                ldInt .i64 h93 ⟨b70, 0, none⟩ fun n122 =>
                ldInt .i64 h93 ⟨b70, 1, none⟩ fun n123 =>
                ldBool h93 ⟨b70, 2, none⟩ fun b124 =>
                callP P n_wake_Wake_Mark #[(.pointer y_13)] h93 fun v126 h125 =>
                ∃ n127 : Int, ∃ n128 : Int, ∃ b129 : Bool, v126 = (.agg #[(.int .i64 n127), (.int .i64 n128), (.bool b129)]) ∧
                cellH h125 ⟨b70, 0, none⟩ = some (.int .i64 n122) ∧
                cellH h125 ⟨b70, 1, none⟩ = some (.int .i64 n123) ∧
                cellH h125 ⟨b70, 2, none⟩ = some (.bool b124) ∧
                cellH h125 ⟨b70, 0, none⟩ = some (.int .i64 n90) ∧
                cellH h125 ⟨b70, 1, none⟩ = some (.int .i64 n91) ∧
                cellH h125 ⟨b70, 2, none⟩ = some (.bool b92) ∧
                Q (.bool ((n127 == n122) && ((n128 == n123) && ((b129 == b124) && true)))) h125) (
                cellH h93 ⟨b70, 0, none⟩ = some (.int .i64 n90) ∧
                cellH h93 ⟨b70, 1, none⟩ = some (.int .i64 n91) ∧
                cellH h93 ⟨b70, 2, none⟩ = some (.bool b92) ∧
                Q (.bool false) h93)) (
              cellH h93 ⟨b70, 0, none⟩ = some (.int .i64 n90) ∧
              cellH h93 ⟨b70, 1, none⟩ = some (.int .i64 n91) ∧
              cellH h93 ⟨b70, 2, none⟩ = some (.bool b92) ∧
              Q (.bool false) h93))) (
          cellH h93 ⟨b70, 0, none⟩ = some (.int .i64 n90) ∧
          cellH h93 ⟨b70, 1, none⟩ = some (.int .i64 n91) ∧
          cellH h93 ⟨b70, 2, none⟩ = some (.bool b92) ∧
          cellH h93 ⟨b70, 0, none⟩ = some (.int .i64 n90) ∧
          cellH h93 ⟨b70, 1, none⟩ = some (.int .i64 n91) ∧
          cellH h93 ⟨b70, 2, none⟩ = some (.bool b92) ∧
          Q (.bool false) h93)) (
        Q (.bool false) h88)) (
      Q (.bool false) h88)) (
    Q (.bool false) h88)
def law25_WakeMoves (q_0_0 : Int) (q_0_1 : Int) (q_0_2 : Int) (scores_1_p : Option Addr) (scores_1_n : Nat) (scores_1_c : Nat) (n_2_0 : Int) (n_2_1 : Int) (n_2_2 : Int) (h : Heap) (Q : Value → Heap → Prop) : Prop :=
  newI h (.cells #[(.int .i64 q_0_0), (.int .i64 q_0_1), (.int .i64 q_0_2)] 22 (0, 0)) fun b1 h2 =>
  newI h2 (.cells #[(.int .i64 n_2_0), (.int .i64 n_2_1), (.int .i64 n_2_2)] 22 (0, 0)) fun b3 h4 =>
  callBool P n_law25_awake #[] h4 fun b6 h5 =>
  ldInt .i64 h5 ⟨b1, 0, none⟩ fun n7 =>
  ldInt .i64 h5 ⟨b1, 1, none⟩ fun n8 =>
  ldInt .i64 h5 ⟨b1, 2, none⟩ fun n9 =>
  callP P n_law25_watch #[(.agg #[(.int .i64 n7), (.int .i64 n8), (.int .i64 n9)])] h5 fun v11 h10 =>
  ∃ n12 : Int, ∃ n13 : Int, ∃ n14 : Int, v11 = (.agg #[(.int .i64 n12), (.int .i64 n13), (.int .i64 n14)]) ∧
  newI h10 (.cells #[(.int .i64 (0 : Int)), (.int .i64 (0 : Int)), (.int .i64 (0 : Int))] 26 (0, 0)) fun b15 h16 =>
  stI h16 ⟨b15, 0, none⟩ (.int .i64 n12) fun h17 =>
  stI h17 ⟨b15, 1, none⟩ (.int .i64 n13) fun h18 =>
  stI h18 ⟨b15, 2, none⟩ (.int .i64 n14) fun h19 =>
  callSlice P n_law25_few #[(.slice scores_1_p scores_1_n scores_1_c)] h19 fun p21 l21 c21 h20 =>
  arrI (0 : Int) 3 fun _ =>
  ldInt .i64 h20 (Addr.add ⟨b3, 0, none⟩ ((0 : Int).toNat * 1)) fun n22 =>
  neI (IntKind.wrap .i64 (((l21 : Nat) : Int) + (1 : Int))) fun _ =>
  neI (IntKind.wrap .i64 (((l21 : Nat) : Int) + (1 : Int))) fun _ =>
  ldInt .i64 h20 ⟨b15, 0, none⟩ fun n23 =>
  ldInt .i64 h20 ⟨b15, 1, none⟩ fun n24 =>
  ldInt .i64 h20 ⟨b15, 2, none⟩ fun n25 =>
  callPtr P n_wake_New #[(.agg #[(.int .i64 n23), (.int .i64 n24), (.int .i64 n25)])] h20 fun p27 h26 =>
  ldInt .i64 h26 ⟨b15, 0, none⟩ fun n28 =>
  ldInt .i64 h26 ⟨b15, 1, none⟩ fun n29 =>
  ldInt .i64 h26 ⟨b15, 2, none⟩ fun n30 =>
  callPtr P n_wake_New #[(.agg #[(.int .i64 n28), (.int .i64 n29), (.int .i64 n30)])] h26 fun p32 h31 =>
  bndI (Int.tmod (IntKind.wrap .i64 ((Int.tmod n22 (IntKind.wrap .i64 (((l21 : Nat) : Int) + (1 : Int)))) + (IntKind.wrap .i64 (((l21 : Nat) : Int) + (1 : Int))))) (IntKind.wrap .i64 (((l21 : Nat) : Int) + (1 : Int)))) c21 fun l33 =>
  callSlice P n_wake_Wake_Push #[(.pointer p27), (.slice (if c21 = 0 then p21 else Option.map (fun a => a.add (0 * 1)) p21) (l33 - 0) (c21 - 0))] h31 fun p35 l35 c35 h34 =>
  newI h34 (.cells #[(.int .i64 (9 : Int)), (.int .i64 (9 : Int))] 3 (0, 0)) fun b36 h37 =>
  callSlice P n_wake_Wake_Push #[(.pointer p32), (.slice (some ⟨b36, 0, none⟩) 2 2)] h37 fun p39 l39 c39 h38 =>
  callP P n_wake_Wake_Mark #[(.pointer p27)] h38 fun v41 h40 =>
  ∃ n42 : Int, ∃ n43 : Int, ∃ b44 : Bool, v41 = (.agg #[(.int .i64 n42), (.int .i64 n43), (.bool b44)]) ∧
  callInt P .i64 n_wake_Wake_Set #[(.pointer p32), (.agg #[(.int .i64 n42), (.int .i64 n43), (.bool b44)])] h40 fun n46 h45 =>
  bndI (Int.tmod (IntKind.wrap .i64 ((Int.tmod n22 (IntKind.wrap .i64 (((l21 : Nat) : Int) + (1 : Int)))) + (IntKind.wrap .i64 (((l21 : Nat) : Int) + (1 : Int))))) (IntKind.wrap .i64 (((l21 : Nat) : Int) + (1 : Int)))) l21 fun l47 =>
  bndI (Int.tmod (IntKind.wrap .i64 ((Int.tmod n22 (IntKind.wrap .i64 (((l21 : Nat) : Int) + (1 : Int)))) + (IntKind.wrap .i64 (((l21 : Nat) : Int) + (1 : Int))))) (IntKind.wrap .i64 (((l21 : Nat) : Int) + (1 : Int)))) l21 fun l48 =>
  callSlice P n_wake_Wake_Push #[(.pointer p27), (.slice (if c21 = l47 then p21 else Option.map (fun a => a.add (l47 * 1)) p21) (l21 - l47) (c21 - l47))] h45 fun p50 l50 c50 h49 =>
  callSlice P n_wake_Wake_Push #[(.pointer p32), (.slice (if c21 = l48 then p21 else Option.map (fun a => a.add (l48 * 1)) p21) (l21 - l48) (c21 - l48))] h49 fun p52 l52 c52 h51 =>
  callBool P n_ref25_Same #[(.slice p50 l50 c50), (.slice p52 l52 c52)] h51 fun b54 h53 =>
  arrI (1 : Int) 3 fun _ =>
  ldInt .i64 h53 (Addr.add ⟨b3, 0, none⟩ ((1 : Int).toNat * 1)) fun n55 =>
  arrI (2 : Int) 3 fun _ =>
  ldInt .i64 h53 (Addr.add ⟨b3, 0, none⟩ ((2 : Int).toNat * 1)) fun n56 =>
  arrI (2 : Int) 3 fun _ =>
  ldInt .i64 h53 (Addr.add ⟨b3, 0, none⟩ ((2 : Int).toNat * 1)) fun n57 =>
  newI h53 (.cells #[(.int .i64 (0 : Int)), (.int .i64 (0 : Int)), (.bool false)] 40 (0, 0)) fun b58 h59 =>
  stI h59 ⟨b58, 0, none⟩ (.int .i64 n55) fun h60 =>
  stI h60 ⟨b58, 1, none⟩ (.int .i64 (IntKind.wrap .i64 ((andI .i64 n56 (7 : Int)) - (1 : Int)))) fun h61 =>
  stI h61 ⟨b58, 2, none⟩ (.bool ((andI .i64 n57 (8 : Int)) != (0 : Int))) fun h62 =>
  ∃ J63 : (Bool × Addr × Option Addr × Option Addr × Int × Bool × Addr × Unit) → Heap → Prop, (∀ s h, J63 s h → law25_WakeMoves_j15 Q s.1 s.2.1 s.2.2.1 s.2.2.2.1 s.2.2.2.2.1 s.2.2.2.2.2.1 s.2.2.2.2.2.2.1 h) ∧
  arrI (2 : Int) 3 fun _ =>
  ldInt .i64 h62 (Addr.add ⟨b3, 0, none⟩ ((2 : Int).toNat * 1)) fun n130 =>
  ifB ((andI .i64 n130 (16 : Int)) != (0 : Int)) (
    arrI (1 : Int) 3 fun _ =>
    ldInt .i64 h62 (Addr.add ⟨b3, 0, none⟩ ((1 : Int).toNat * 1)) fun n131 =>
    stI h62 ⟨b58, 0, none⟩ (.int .i64 (andI .i64 n131 (7 : Int))) fun h132 =>
    J63 (b6, ⟨b15, 0, none⟩, p27, p32, n46, b54, ⟨b58, 0, none⟩, ()) h132) (
    J63 (b6, ⟨b15, 0, none⟩, p27, p32, n46, b54, ⟨b58, 0, none⟩, ()) h62)
noncomputable def tab_law25_WakeMoves : Tab := { sch := lookT .done [(11, (.one 0 (.one 1 (.one 2 (.one 3 (.one 5 (.one 6 (.one 7 (.one 8 (.alt 4 (.alt 9 (.alt 10 (.one 11 .done) .stop) .stop) .stop)))))))))), (18, (.one 0 (.one 1 (.one 2 (.one 3 (.one 4 (.one 5 (.one 6 (.one 7 (.one 8 (.one 9 (.early 11 (.alt 10 (.one 12 (.one 13 (.one 14 (.one 15 (.one 16 (.one 17 (.one 18 (.one 19 (.one 20 (.one 21 (.early 23 (.alt 22 (.one 24 (.one 25 (.one 26 (.one 27 (.one 28 (.one 29 (.one 30 (.one 31 (.one 32 (.one 33 (.one 34 (.early 36 (.alt 35 (.one 37 (.one 38 (.one 39 (.one 40 (.one 41 .done))))) .stop))))))))))))) .stop)))))))))))) .stop)))))))))))))], lp := lookT [] [], jn := lookT none [(15, some [(7, .sc (.bool)), (8, .sc (.adr)), (12, .sc (.ptr)), (13, .sc (.ptr)), (14, .sc (.int .i64)), (15, .sc (.bool)), (16, .sc (.adr))])] }
theorem eq_law25_WakeMoves (q_0_0 : Int) (q_0_1 : Int) (q_0_2 : Int) (scores_1_p : Option Addr) (scores_1_n : Nat) (scores_1_c : Nat) (n_2_0 : Int) (n_2_1 : Int) (n_2_2 : Int) (h : Heap) (Q : Value → Heap → Prop) : fnI P Try.f7 tab_law25_WakeMoves [(.agg #[(.int .i64 q_0_0), (.int .i64 q_0_1), (.int .i64 q_0_2)]), (.slice scores_1_p scores_1_n scores_1_c), (.agg #[(.int .i64 n_2_0), (.int .i64 n_2_1), (.int .i64 n_2_2)])] h Q = law25_WakeMoves q_0_0 q_0_1 q_0_2 scores_1_p scores_1_n scores_1_c n_2_0 n_2_1 n_2_2 h Q := by kernel_rfl
theorem ok_law25_WakeMoves : fnOk P Try.f7 tab_law25_WakeMoves = true := by kernel_rfl
theorem call_law25_WakeMoves (q_0_0 : Int) (q_0_1 : Int) (q_0_2 : Int) (scores_1_p : Option Addr) (scores_1_n : Nat) (scores_1_c : Nat) (n_2_0 : Int) (n_2_1 : Int) (n_2_2 : Int) {h : Heap} {Q : Value → Heap → Prop} (H : law25_WakeMoves q_0_0 q_0_1 q_0_2 scores_1_p scores_1_n scores_1_c n_2_0 n_2_1 n_2_2 h Q) : callP P n_law25_WakeMoves #[(.agg #[(.int .i64 q_0_0), (.int .i64 q_0_1), (.int .i64 q_0_2)]), (.slice scores_1_p scores_1_n scores_1_c), (.agg #[(.int .i64 n_2_0), (.int .i64 n_2_1), (.int .i64 n_2_2)])] h Q :=
  @callP_of P n_law25_WakeMoves Try.f7 tab_law25_WakeMoves [(.agg #[(.int .i64 q_0_0), (.int .i64 q_0_1), (.int .i64 q_0_2)]), (.slice scores_1_p scores_1_n scores_1_c), (.agg #[(.int .i64 n_2_0), (.int .i64 n_2_1), (.int .i64 n_2_2)])] h Q mixed Try.func7 Try.call7 ok_law25_WakeMoves (Eq.mpr (eq_law25_WakeMoves q_0_0 q_0_1 q_0_2 scores_1_p scores_1_n scores_1_c n_2_0 n_2_1 n_2_2 h Q) H)

/-! ### earshot/earshotlaw25.WakeNil: function 8 -/
def law25_WakeNil (s_0 : Int) (m_1_0 : Int) (m_1_1 : Int) (m_1_2 : Bool) (h : Heap) (Q : Value → Heap → Prop) : Prop :=
  newI h (.cells #[(.int .i64 m_1_0), (.int .i64 m_1_1), (.bool m_1_2)] 40 (0, 0)) fun b1 h2 =>
  newI h2 (.cells #[(.int .i64 s_0)] 3 (0, 0)) fun b3 h4 =>
  callSlice P n_wake_Wake_Push #[(.pointer none), (.slice (some ⟨b3, 0, none⟩) 1 1)] h4 fun p6 l6 c6 h5 =>
  callUnit P n_wake_Wake_Reset #[(.pointer none)] h5 fun h7 =>
  callBool P n_law25_awake #[] h7 fun b9 h8 =>
  ifB b9 (
    ifB (((l6 : Nat) : Int) == (0 : Int)) (
      callBool P n_wake_Wake_On #[(.pointer none)] h8 fun b11 h10 =>
      ifB (!b11) (
        callInt P .i64 n_wake_Wake_Count #[(.pointer none)] h10 fun n13 h12 =>
        ifB (n13 == (0 : Int)) (
          callP P n_wake_Wake_Mark #[(.pointer none)] h12 fun v15 h14 =>
          ∃ n16 : Int, ∃ n17 : Int, ∃ b18 : Bool, v15 = (.agg #[(.int .i64 n16), (.int .i64 n17), (.bool b18)]) ∧
          ifB ((n16 == (0 : Int)) && ((n17 == (0 : Int)) && ((b18 == false) && true))) (
            ldInt .i64 h14 ⟨b1, 0, none⟩ fun n19 =>
            ldInt .i64 h14 ⟨b1, 1, none⟩ fun n20 =>
            ldBool h14 ⟨b1, 2, none⟩ fun b21 =>
            callInt P .i64 n_wake_Wake_Set #[(.pointer none), (.agg #[(.int .i64 n19), (.int .i64 n20), (.bool b21)])] h14 fun n23 h22 =>
            Q (.bool (n23 == (1 : Int))) h22) (
            Q (.bool false) h14)) (
          Q (.bool false) h12)) (
        Q (.bool false) h10)) (
      Q (.bool false) h8)) (
    Q (.bool false) h8)
noncomputable def tab_law25_WakeNil : Tab := { sch := lookT .done [], lp := lookT [] [], jn := lookT none [] }
theorem eq_law25_WakeNil (s_0 : Int) (m_1_0 : Int) (m_1_1 : Int) (m_1_2 : Bool) (h : Heap) (Q : Value → Heap → Prop) : fnI P Try.f8 tab_law25_WakeNil [(.int .i64 s_0), (.agg #[(.int .i64 m_1_0), (.int .i64 m_1_1), (.bool m_1_2)])] h Q = law25_WakeNil s_0 m_1_0 m_1_1 m_1_2 h Q := by kernel_rfl
theorem ok_law25_WakeNil : fnOk P Try.f8 tab_law25_WakeNil = true := by kernel_rfl
theorem call_law25_WakeNil (s_0 : Int) (m_1_0 : Int) (m_1_1 : Int) (m_1_2 : Bool) {h : Heap} {Q : Value → Heap → Prop} (H : law25_WakeNil s_0 m_1_0 m_1_1 m_1_2 h Q) : callP P n_law25_WakeNil #[(.int .i64 s_0), (.agg #[(.int .i64 m_1_0), (.int .i64 m_1_1), (.bool m_1_2)])] h Q :=
  @callP_of P n_law25_WakeNil Try.f8 tab_law25_WakeNil [(.int .i64 s_0), (.agg #[(.int .i64 m_1_0), (.int .i64 m_1_1), (.bool m_1_2)])] h Q mixed Try.func8 Try.call8 ok_law25_WakeNil (Eq.mpr (eq_law25_WakeNil s_0 m_1_0 m_1_1 m_1_2 h Q) H)

end Go.Proofs.Ytoobckjlkopikaa.G
