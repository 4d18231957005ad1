/- Printed by shp.py out of the program's own print: for each Go function a typed formula over heaps, and the proof that a call does just that. -/
import Derived.Test.YtdjofpdmdbcgjacProg
import Derived.Test.YtdjofpdmdbcgjacShW
set_option linter.unusedVariables false
set_option maxRecDepth 100000
namespace Go.Proofs.Ytdjofpdmdbcgjac.G
open Go Go.Sh
noncomputable abbrev P : Program := Try.prog
theorem mixed : P.follows .mixedOrders = true := by kernel_rfl
abbrev n_arena_New : FuncId := 10
abbrev n_arena_Arena_Part : FuncId := 11
abbrev n_arena_Part_Len : FuncId := 29
abbrev n_loop_New : FuncId := 9
abbrev n_sat_ends : FuncId := 38
abbrev n_sat_Fits : FuncId := 30
abbrev n_loop_Loop_at : FuncId := 32
abbrev n_arena_Arena_trouble : FuncId := 39
abbrev n_arena_Part_Put : FuncId := 31
abbrev n_loop_Loop_Push : FuncId := 12
abbrev n_loop_Loop_Count : FuncId := 13
abbrev n_loop_Loop_Room : FuncId := 15
abbrev n_loop_Loop_Oldest : FuncId := 19
abbrev n_arena_Part_Get : FuncId := 33
abbrev n_loop_Loop_Get : FuncId := 14
abbrev n_law08_awake : FuncId := 8
abbrev n_law08_LoopKeeps : FuncId := 3
abbrev n_ref04_Same : FuncId := 16
abbrev n_arena_Arena_Err : FuncId := 17
abbrev n_law08_LoopApart : FuncId := 4
abbrev n_loop_Loop_Width : FuncId := 18
abbrev n_loop_Loop_Seek : FuncId := 20
abbrev n_law08_LoopNil : FuncId := 5
abbrev n_ref08_New : FuncId := 21
abbrev n_ref08_Loop_Oldest : FuncId := 27
abbrev n_ref08_Loop_Get : FuncId := 22
abbrev n_ref08_Loop_Seek : FuncId := 23
abbrev n_law08_Act_frame : FuncId := 24
abbrev n_ref07_Word : FuncId := 34
abbrev n_ref08_Loop_Push : FuncId := 25
abbrev n_slices_Clone_int_int : FuncId := 35
abbrev n_arena_Arena_Words : FuncId := 26
abbrev n_law08_LoopPlays : FuncId := 6
abbrev n_slices_IndexFunc_int_int : FuncId := 40
abbrev n_slices_ContainsFunc_int_int : FuncId := 36
abbrev n_arena_Arena_Set_1 : FuncId := 37
abbrev n_arena_Arena_Set : FuncId := 28
abbrev n_law08_LoopMoves : FuncId := 7
/-! ### earshot/arena.New: function 10 -/
def arena_New (words_0 : Int) (h : Heap) (Q : Value → Heap → Prop) : Prop :=
  ifB (decide (words_0 < (0 : Int))) (
    Q (.pointer none) h) (
    ifB (decide (words_0 > (4096 : Int))) (
      Q (.pointer none) h) (
      mkI 3 1 8 (.int .i64 (0 : Int)) words_0 words_0 h fun b1 h2 =>
      newI h2 (.cells #[(.slice (some ⟨b1, 0, none⟩) words_0.toNat words_0.toNat), (.int .i64 (0 : Int))] 60 (0, 0)) fun b3 h4 =>
      Q (.pointer (some ⟨b3, 0, none⟩)) h4))
noncomputable def tab_arena_New : Tab := { sch := lookT .done [], lp := lookT [] [], jn := lookT none [] }
theorem eq_arena_New (words_0 : Int) (h : Heap) (Q : Value → Heap → Prop) : fnI P Try.f10 tab_arena_New [(.int .i64 words_0)] h Q = arena_New words_0 h Q := by kernel_rfl
theorem ok_arena_New : fnOk P Try.f10 tab_arena_New = true := by kernel_rfl
theorem call_arena_New (words_0 : Int) {h : Heap} {Q : Value → Heap → Prop} (H : arena_New words_0 h Q) : callP P n_arena_New #[(.int .i64 words_0)] h Q :=
  @callP_of P n_arena_New Try.f10 tab_arena_New [(.int .i64 words_0)] h Q mixed Try.func10 Try.call10 ok_arena_New (Eq.mpr (eq_arena_New words_0 h Q) H)

/-! ### (*earshot/arena.Arena).Part: function 11 -/
def arena_Arena_Part_j3 (Q : Value → Heap → Prop) (a_0 : Option Addr) (at_1 : Int) (n_2 : Int) (h2 : Heap) : Prop :=
  nilI a_0 fun a3 =>
  ldSlice h2 a3 fun p4 l4 c4 =>
  bndI (IntKind.wrap .i64 (at_1 + n_2)) c4 fun l5 =>
  bndI (IntKind.wrap .i64 (at_1 + n_2)) l5 fun l6 =>
  bndI at_1 l6 fun l7 =>
  newI h2 (.cells #[(.pointer a_0), (.slice (if l5 = l7 then p4 else Option.map (fun a => a.add (l7 * 1)) p4) (l6 - l7) (l5 - l7))] 62 (0, 0)) fun b8 h9 =>
  Q (.pointer (some ⟨b8, 0, none⟩)) h9
def arena_Arena_Part (a_0 : Option Addr) (at_1 : Int) (n_2 : Int) (h : Heap) (Q : Value → Heap → Prop) : Prop :=
  ∃ J1 : (Option Addr × Int × Int × Unit) → Heap → Prop, (∀ s h, J1 s h → arena_Arena_Part_j3 Q s.1 s.2.1 s.2.2.1 h) ∧
  ifB ((a_0).isNone) (
    Q (.pointer none) h) (
    ifB (decide (at_1 < (0 : Int))) (
      Q (.pointer none) h) (
      ifB (decide (n_2 < (0 : Int))) (
        Q (.pointer none) h) (
        nilI a_0 fun a10 =>
        ldSlice h a10 fun p11 l11 c11 =>
        ifB (decide (at_1 > ((l11 : Nat) : Int))) (
          Q (.pointer none) h) (
          nilI a_0 fun a12 =>
          ldSlice h a12 fun p13 l13 c13 =>
          ifB (decide (n_2 > (IntKind.wrap .i64 (((l13 : Nat) : Int) - at_1)))) (
            Q (.pointer none) h) (
            J1 (a_0, at_1, n_2, ()) h)))))
noncomputable def tab_arena_Arena_Part : Tab := { sch := lookT .done [], lp := lookT [] [], jn := lookT none [(3, some [(0, .sc (.ptr)), (1, .sc (.int .i64)), (2, .sc (.int .i64))])] }
theorem eq_arena_Arena_Part (a_0 : Option Addr) (at_1 : Int) (n_2 : Int) (h : Heap) (Q : Value → Heap → Prop) : fnI P Try.f11 tab_arena_Arena_Part [(.pointer a_0), (.int .i64 at_1), (.int .i64 n_2)] h Q = arena_Arena_Part a_0 at_1 n_2 h Q := by kernel_rfl
theorem ok_arena_Arena_Part : fnOk P Try.f11 tab_arena_Arena_Part = true := by kernel_rfl
theorem call_arena_Arena_Part (a_0 : Option Addr) (at_1 : Int) (n_2 : Int) {h : Heap} {Q : Value → Heap → Prop} (H : arena_Arena_Part a_0 at_1 n_2 h Q) : callP P n_arena_Arena_Part #[(.pointer a_0), (.int .i64 at_1), (.int .i64 n_2)] h Q :=
  @callP_of P n_arena_Arena_Part Try.f11 tab_arena_Arena_Part [(.pointer a_0), (.int .i64 at_1), (.int .i64 n_2)] h Q mixed Try.func11 Try.call11 ok_arena_Arena_Part (Eq.mpr (eq_arena_Arena_Part a_0 at_1 n_2 h Q) H)

/-! ### (*earshot/arena.Part).Len: function 29 -/
def arena_Part_Len (p_0 : Option Addr) (h : Heap) (Q : Value → Heap → Prop) : Prop :=
  ifB ((p_0).isNone) (
    Q (.int .i64 (0 : Int)) h) (
    nilI p_0 fun a1 =>
    ldSlice h (Addr.add a1 1) fun p2 l2 c2 =>
    Q (.int .i64 ((l2 : Nat) : Int)) h)
noncomputable def tab_arena_Part_Len : Tab := { sch := lookT .done [], lp := lookT [] [], jn := lookT none [] }
theorem eq_arena_Part_Len (p_0 : Option Addr) (h : Heap) (Q : Value → Heap → Prop) : fnI P Try.f29 tab_arena_Part_Len [(.pointer p_0)] h Q = arena_Part_Len p_0 h Q := by kernel_rfl
theorem ok_arena_Part_Len : fnOk P Try.f29 tab_arena_Part_Len = true := by kernel_rfl
theorem call_arena_Part_Len (p_0 : Option Addr) {h : Heap} {Q : Value → Heap → Prop} (H : arena_Part_Len p_0 h Q) : callP P n_arena_Part_Len #[(.pointer p_0)] h Q :=
  @callP_of P n_arena_Part_Len Try.f29 tab_arena_Part_Len [(.pointer p_0)] h Q mixed Try.func29 Try.call29 ok_arena_Part_Len (Eq.mpr (eq_arena_Part_Len p_0 h Q) H)

/-! ### earshot/loop.New: function 9 -/
def loop_New (p_0 : Option Addr) (width_1 : Int) (h : Heap) (Q : Value → Heap → Prop) : Prop :=
  ifB ((p_0).isNone) (
    Q (.pointer none) h) (
    ifB (decide (width_1 < (1 : Int))) (
      Q (.pointer none) h) (
      callInt P .i64 n_arena_Part_Len #[(.pointer p_0)] h fun n2 h1 =>
      ifB (decide (n2 < width_1)) (
        Q (.pointer none) h1) (
        callInt P .i64 n_arena_Part_Len #[(.pointer p_0)] h1 fun n4 h3 =>
        neI width_1 fun _ =>
        newI h3 (.cells #[(.pointer p_0), (.int .i64 width_1), (.int .i64 (IntKind.wrap .i64 (Int.tdiv n4 width_1))), (.int .i64 (0 : Int))] 58 (0, 0)) fun b5 h6 =>
        Q (.pointer (some ⟨b5, 0, none⟩)) h6)))
noncomputable def tab_loop_New : Tab := { sch := lookT .done [], lp := lookT [] [], jn := lookT none [] }
theorem eq_loop_New (p_0 : Option Addr) (width_1 : Int) (h : Heap) (Q : Value → Heap → Prop) : fnI P Try.f9 tab_loop_New [(.pointer p_0), (.int .i64 width_1)] h Q = loop_New p_0 width_1 h Q := by kernel_rfl
theorem ok_loop_New : fnOk P Try.f9 tab_loop_New = true := by kernel_rfl
theorem call_loop_New (p_0 : Option Addr) (width_1 : Int) {h : Heap} {Q : Value → Heap → Prop} (H : loop_New p_0 width_1 h Q) : callP P n_loop_New #[(.pointer p_0), (.int .i64 width_1)] h Q :=
  @callP_of P n_loop_New Try.f9 tab_loop_New [(.pointer p_0), (.int .i64 width_1)] h Q mixed Try.func9 Try.call9 ok_loop_New (Eq.mpr (eq_loop_New p_0 width_1 h Q) H)

/-! ### earshot/sat.ends: function 38 -/
def sat_ends (bits_0 : Int) (h : Heap) (Q : Value → Heap → Prop) : Prop :=
  ifB (decide (bits_0 < (1 : Int))) (
    Q (.tuple #[(.int .i64 (0 : Int)), (.int .i64 (0 : Int)), (.bool false)]) h) (
    ifB (decide (bits_0 > (64 : Int))) (
      Q (.tuple #[(.int .i64 (0 : Int)), (.int .i64 (0 : Int)), (.bool false)]) h) (
      nonnegI (IntKind.wrap .i64 ((64 : Int) - bits_0)) fun _ =>
      Q (.tuple #[(.int .i64 (shrI (-9223372036854775808 : Int) (min (IntKind.wrap .i64 ((64 : Int) - bits_0)).toNat 64))), (.int .i64 (xorI .i64 (-1) (shrI (-9223372036854775808 : Int) (min (IntKind.wrap .i64 ((64 : Int) - bits_0)).toNat 64)))), (.bool true)]) h))
noncomputable def tab_sat_ends : Tab := { sch := lookT .done [], lp := lookT [] [], jn := lookT none [] }
theorem eq_sat_ends (bits_0 : Int) (h : Heap) (Q : Value → Heap → Prop) : fnI P Try.f38 tab_sat_ends [(.int .i64 bits_0)] h Q = sat_ends bits_0 h Q := by kernel_rfl
theorem ok_sat_ends : fnOk P Try.f38 tab_sat_ends = true := by kernel_rfl
theorem call_sat_ends (bits_0 : Int) {h : Heap} {Q : Value → Heap → Prop} (H : sat_ends bits_0 h Q) : callP P n_sat_ends #[(.int .i64 bits_0)] h Q :=
  @callP_of P n_sat_ends Try.f38 tab_sat_ends [(.int .i64 bits_0)] h Q mixed Try.func38 Try.call38 ok_sat_ends (Eq.mpr (eq_sat_ends bits_0 h Q) H)

/-! ### earshot/sat.Fits: function 30 -/
def sat_Fits (x_0 : Int) (bits_1 : Int) (h : Heap) (Q : Value → Heap → Prop) : Prop :=
  callP P n_sat_ends #[(.int .i64 bits_1)] h fun v2 h1 =>
  ∃ n3 : Int, ∃ n4 : Int, ∃ b5 : Bool, v2 = (.tuple #[(.int .i64 n3), (.int .i64 n4), (.bool b5)]) ∧
  ifB b5 (
    ifB (decide (x_0 ≥ n3)) (
      Q (.bool (decide (x_0 ≤ n4))) h1) (
      Q (.bool false) h1)) (
    Q (.bool false) h1)
noncomputable def tab_sat_Fits : Tab := { sch := lookT .done [], lp := lookT [] [], jn := lookT none [] }
theorem eq_sat_Fits (x_0 : Int) (bits_1 : Int) (h : Heap) (Q : Value → Heap → Prop) : fnI P Try.f30 tab_sat_Fits [(.int .i64 x_0), (.int .i64 bits_1)] h Q = sat_Fits x_0 bits_1 h Q := by kernel_rfl
theorem ok_sat_Fits : fnOk P Try.f30 tab_sat_Fits = true := by kernel_rfl
theorem call_sat_Fits (x_0 : Int) (bits_1 : Int) {h : Heap} {Q : Value → Heap → Prop} (H : sat_Fits x_0 bits_1 h Q) : callP P n_sat_Fits #[(.int .i64 x_0), (.int .i64 bits_1)] h Q :=
  @callP_of P n_sat_Fits Try.f30 tab_sat_Fits [(.int .i64 x_0), (.int .i64 bits_1)] h Q mixed Try.func30 Try.call30 ok_sat_Fits (Eq.mpr (eq_sat_Fits x_0 bits_1 h Q) H)

/-! ### (*earshot/loop.Loop).at: function 32 -/
def loop_Loop_at (l_0 : Option Addr) (t_1 : Int) (h : Heap) (Q : Value → Heap → Prop) : Prop :=
  nilI l_0 fun a1 =>
  nilI l_0 fun a2 =>
  ldInt .i64 h (Addr.add a1 2) fun n3 =>
  neI n3 fun _ =>
  ldInt .i64 h (Addr.add a2 1) fun n4 =>
  Q (.int .i64 (IntKind.wrap .i64 ((Int.tmod t_1 n3) * n4))) h
noncomputable def tab_loop_Loop_at : Tab := { sch := lookT .done [(1, (.one 0 (.one 1 (.one 2 (.one 3 (.one 6 (.one 7 (.one 8 (.one 4 (.one 5 (.one 9 (.one 10 (.one 11 .done)))))))))))))], lp := lookT [] [], jn := lookT none [] }
theorem eq_loop_Loop_at (l_0 : Option Addr) (t_1 : Int) (h : Heap) (Q : Value → Heap → Prop) : fnI P Try.f32 tab_loop_Loop_at [(.pointer l_0), (.int .i64 t_1)] h Q = loop_Loop_at l_0 t_1 h Q := by kernel_rfl
theorem ok_loop_Loop_at : fnOk P Try.f32 tab_loop_Loop_at = true := by kernel_rfl
theorem call_loop_Loop_at (l_0 : Option Addr) (t_1 : Int) {h : Heap} {Q : Value → Heap → Prop} (H : loop_Loop_at l_0 t_1 h Q) : callP P n_loop_Loop_at #[(.pointer l_0), (.int .i64 t_1)] h Q :=
  @callP_of P n_loop_Loop_at Try.f32 tab_loop_Loop_at [(.pointer l_0), (.int .i64 t_1)] h Q mixed Try.func32 Try.call32 ok_loop_Loop_at (Eq.mpr (eq_loop_Loop_at l_0 t_1 h Q) H)

/-! ### (*earshot/arena.Arena).trouble: function 39 -/
def arena_Arena_trouble (a_0 : Option Addr) (e_1 : Int) (h : Heap) (Q : Value → Heap → Prop) : Prop :=
  nilI a_0 fun a1 =>
  ldInt .i64 h (Addr.add a1 1) fun n2 =>
  ifB (n2 == (0 : Int)) (
    nilI a_0 fun a3 =>
    stI h (Addr.add a3 1) (.int .i64 e_1) fun h4 =>
    Q (.tuple #[]) h4) (
    Q (.tuple #[]) h)
noncomputable def tab_arena_Arena_trouble : Tab := { sch := lookT .done [], lp := lookT [] [], jn := lookT none [] }
theorem eq_arena_Arena_trouble (a_0 : Option Addr) (e_1 : Int) (h : Heap) (Q : Value → Heap → Prop) : fnI P Try.f39 tab_arena_Arena_trouble [(.pointer a_0), (.int .i64 e_1)] h Q = arena_Arena_trouble a_0 e_1 h Q := by kernel_rfl
theorem ok_arena_Arena_trouble : fnOk P Try.f39 tab_arena_Arena_trouble = true := by kernel_rfl
theorem call_arena_Arena_trouble (a_0 : Option Addr) (e_1 : Int) {h : Heap} {Q : Value → Heap → Prop} (H : arena_Arena_trouble a_0 e_1 h Q) : callP P n_arena_Arena_trouble #[(.pointer a_0), (.int .i64 e_1)] h Q :=
  @callP_of P n_arena_Arena_trouble Try.f39 tab_arena_Arena_trouble [(.pointer a_0), (.int .i64 e_1)] h Q mixed Try.func39 Try.call39 ok_arena_Arena_trouble (Eq.mpr (eq_arena_Arena_trouble a_0 e_1 h Q) H)

/-! ### (*earshot/arena.Part).Put: function 31 -/
def arena_Part_Put (p_0 : Option Addr) (i_1 : Int) (x_2 : Int) (h : Heap) (Q : Value → Heap → Prop) : Prop :=
  ifB ((p_0).isNone) (
    Q (.tuple #[]) h) (
    ifB (decide (i_1 < (0 : Int))) (
      nilI p_0 fun a1 =>
      ldPtr h a1 fun p2 =>
      callUnit P n_arena_Arena_trouble #[(.pointer p2), (.int .i64 (1 : Int))] h fun h3 =>
      Q (.tuple #[]) h3) (
      nilI p_0 fun a4 =>
      ldSlice h (Addr.add a4 1) fun p5 l5 c5 =>
      ifB (decide (i_1 ≥ ((l5 : Nat) : Int))) (
        nilI p_0 fun a6 =>
        ldPtr h a6 fun p7 =>
        callUnit P n_arena_Arena_trouble #[(.pointer p7), (.int .i64 (1 : Int))] h fun h8 =>
        Q (.tuple #[]) h8) (
        callBool P n_sat_Fits #[(.int .i64 x_2), (.int .i64 (32 : Int))] h fun b10 h9 =>
        ifB (!b10) (
          nilI p_0 fun a11 =>
          ldPtr h9 a11 fun p12 =>
          callUnit P n_arena_Arena_trouble #[(.pointer p12), (.int .i64 (16 : Int))] h9 fun h13 =>
          Q (.tuple #[]) h13) (
          nilI p_0 fun a14 =>
          ldSlice h9 (Addr.add a14 1) fun p15 l15 c15 =>
          idxI p15 i_1 l15 fun a16 =>
          stI h9 (Addr.add a16 (i_1.toNat * 1)) (.int .i64 x_2) fun h17 =>
          Q (.tuple #[]) h17))))
noncomputable def tab_arena_Part_Put : Tab := { sch := lookT .done [], lp := lookT [] [], jn := lookT none [] }
theorem eq_arena_Part_Put (p_0 : Option Addr) (i_1 : Int) (x_2 : Int) (h : Heap) (Q : Value → Heap → Prop) : fnI P Try.f31 tab_arena_Part_Put [(.pointer p_0), (.int .i64 i_1), (.int .i64 x_2)] h Q = arena_Part_Put p_0 i_1 x_2 h Q := by kernel_rfl
theorem ok_arena_Part_Put : fnOk P Try.f31 tab_arena_Part_Put = true := by kernel_rfl
theorem call_arena_Part_Put (p_0 : Option Addr) (i_1 : Int) (x_2 : Int) {h : Heap} {Q : Value → Heap → Prop} (H : arena_Part_Put p_0 i_1 x_2 h Q) : callP P n_arena_Part_Put #[(.pointer p_0), (.int .i64 i_1), (.int .i64 x_2)] h Q :=
  @callP_of P n_arena_Part_Put Try.f31 tab_arena_Part_Put [(.pointer p_0), (.int .i64 i_1), (.int .i64 x_2)] h Q mixed Try.func31 Try.call31 ok_arena_Part_Put (Eq.mpr (eq_arena_Part_Put p_0 i_1 x_2 h Q) H)

/-! ### (*earshot/loop.Loop).Push: function 12 -/
def loop_Loop_Push_l12 (Q : Value → Heap → Prop) (K1 : (Option Addr × (Option Addr × Nat × Nat) × (Option Addr × Nat × Nat) × Int × Int × Unit) → Heap → Prop) (K2 : (Option Addr × (Option Addr × Nat × Nat) × Int × Int × Unit) → Heap → Prop) (l_0 : Option Addr) (t30_p : Option Addr) (t30_n : Nat) (t30_c : Nat) (t31 : Int) (t32 : Int) (h8 : Heap) : Prop :=
  ifB (decide (t32 < t31)) (
    idxI t30_p t32 t30_n fun a9 =>
    ldInt .i64 h8 (Addr.add a9 (t32.toNat * 1)) fun n10 =>
    nilI l_0 fun a11 =>
    nilI l_0 fun a12 =>
    ldPtr h8 a11 fun p13 =>
    ldInt .i64 h8 (Addr.add a12 3) fun n14 =>
    callInt P .i64 n_loop_Loop_at #[(.pointer l_0), (.int .i64 n14)] h8 fun n16 h15 =>
    cellH h15 a11 = some (.pointer p13) ∧
    callUnit P n_arena_Part_Put #[(.pointer p13), (.int .i64 (IntKind.wrap .i64 (n16 + t32))), (.int .i64 n10)] h15 fun h17 =>
    K2 (l_0, (t30_p, t30_n, t30_c), t31, (IntKind.wrap .i64 (t32 + (1 : Int))), ()) h17) (
    nilI l_0 fun a18 =>
    ldInt .i64 h8 (Addr.add a18 3) fun n19 =>
    nilI l_0 fun a20 =>
    stI h8 (Addr.add a20 3) (.int .i64 (IntKind.wrap .i64 (n19 + (1 : Int)))) fun h21 =>
    Q (.int .i64 (0 : Int)) h21)
def loop_Loop_Push_l6 (Q : Value → Heap → Prop) (K1 : (Option Addr × (Option Addr × Nat × Nat) × (Option Addr × Nat × Nat) × Int × Int × Unit) → Heap → Prop) (l_0 : Option Addr) (frame_1_p : Option Addr) (frame_1_n : Nat) (frame_1_c : Nat) (t20_p : Option Addr) (t20_n : Nat) (t20_c : Nat) (t21 : Int) (t22 : Int) (h3 : Heap) : Prop :=
  ifB (decide (t22 < t21)) (
    idxI t20_p t22 t20_n fun a4 =>
    ldInt .i64 h3 (Addr.add a4 (t22.toNat * 1)) fun n5 =>
    callBool P n_sat_Fits #[(.int .i64 n5), (.int .i64 (32 : Int))] h3 fun b7 h6 =>
    ifB (!b7) (
      Q (.int .i64 (16 : Int)) h6) (
      K1 (l_0, (frame_1_p, frame_1_n, frame_1_c), (t20_p, t20_n, t20_c), t21, (IntKind.wrap .i64 (t22 + (1 : Int))), ()) h6)) (
    LoopS (S := (Option Addr × (Option Addr × Nat × Nat) × Int × Int × Unit)) (fun K2 s h => loop_Loop_Push_l12 Q K1 K2 s.1 s.2.1.1 s.2.1.2.1 s.2.1.2.2 s.2.2.1 s.2.2.2.1 h) (l_0, (frame_1_p, frame_1_n, frame_1_c), ((frame_1_n : Nat) : Int), (0 : Int), ()) h3)
def loop_Loop_Push (l_0 : Option Addr) (frame_1_p : Option Addr) (frame_1_n : Nat) (frame_1_c : Nat) (h : Heap) (Q : Value → Heap → Prop) : Prop :=
  ifB ((l_0).isNone) (
    Q (.int .i64 (1 : Int)) h) (
    nilI l_0 fun a1 =>
    ldInt .i64 h (Addr.add a1 1) fun n2 =>
    ifB (((frame_1_n : Nat) : Int) != n2) (
      Q (.int .i64 (14 : Int)) h) (
      LoopS (S := (Option Addr × (Option Addr × Nat × Nat) × (Option Addr × Nat × Nat) × Int × Int × Unit)) (fun K1 s h => loop_Loop_Push_l6 Q K1 s.1 s.2.1.1 s.2.1.2.1 s.2.1.2.2 s.2.2.1.1 s.2.2.1.2.1 s.2.2.1.2.2 s.2.2.2.1 s.2.2.2.2.1 h) (l_0, (frame_1_p, frame_1_n, frame_1_c), (frame_1_p, frame_1_n, frame_1_c), ((frame_1_n : Nat) : Int), (0 : Int), ()) h))
noncomputable def tab_loop_Loop_Push : Tab := { sch := lookT .done [(14, (.one 0 (.one 1 (.one 2 (.one 4 (.one 5 (.one 6 (.one 7 (.one 10 (.one 12 (.early 3 (.alt 8 (.alt 9 (.one 11 (.alt 13 .done .stop)) .stop) .stop))))))))))))], lp := lookT [] [(6, [(0, .sc (.ptr)), (1, .sc (.slice)), (20, .sc (.slice)), (21, .sc (.int .i64)), (22, .sc (.int .i64))]), (12, [(0, .sc (.ptr)), (30, .sc (.slice)), (31, .sc (.int .i64)), (32, .sc (.int .i64))])], jn := lookT none [] }
theorem eq_loop_Loop_Push (l_0 : Option Addr) (frame_1_p : Option Addr) (frame_1_n : Nat) (frame_1_c : Nat) (h : Heap) (Q : Value → Heap → Prop) : fnI P Try.f12 tab_loop_Loop_Push [(.pointer l_0), (.slice frame_1_p frame_1_n frame_1_c)] h Q = loop_Loop_Push l_0 frame_1_p frame_1_n frame_1_c h Q := by kernel_rfl
theorem ok_loop_Loop_Push : fnOk P Try.f12 tab_loop_Loop_Push = true := by kernel_rfl
theorem call_loop_Loop_Push (l_0 : Option Addr) (frame_1_p : Option Addr) (frame_1_n : Nat) (frame_1_c : Nat) {h : Heap} {Q : Value → Heap → Prop} (H : loop_Loop_Push l_0 frame_1_p frame_1_n frame_1_c h Q) : callP P n_loop_Loop_Push #[(.pointer l_0), (.slice frame_1_p frame_1_n frame_1_c)] h Q :=
  @callP_of P n_loop_Loop_Push Try.f12 tab_loop_Loop_Push [(.pointer l_0), (.slice frame_1_p frame_1_n frame_1_c)] h Q mixed Try.func12 Try.call12 ok_loop_Loop_Push (Eq.mpr (eq_loop_Loop_Push l_0 frame_1_p frame_1_n frame_1_c h Q) H)

/-! ### (*earshot/loop.Loop).Count: function 13 -/
def loop_Loop_Count (l_0 : Option Addr) (h : Heap) (Q : Value → Heap → Prop) : Prop :=
  ifB ((l_0).isNone) (
    Q (.int .i64 (0 : Int)) h) (
    nilI l_0 fun a1 =>
    ldInt .i64 h (Addr.add a1 3) fun n2 =>
    Q (.int .i64 n2) h)
noncomputable def tab_loop_Loop_Count : Tab := { sch := lookT .done [], lp := lookT [] [], jn := lookT none [] }
theorem eq_loop_Loop_Count (l_0 : Option Addr) (h : Heap) (Q : Value → Heap → Prop) : fnI P Try.f13 tab_loop_Loop_Count [(.pointer l_0)] h Q = loop_Loop_Count l_0 h Q := by kernel_rfl
theorem ok_loop_Loop_Count : fnOk P Try.f13 tab_loop_Loop_Count = true := by kernel_rfl
theorem call_loop_Loop_Count (l_0 : Option Addr) {h : Heap} {Q : Value → Heap → Prop} (H : loop_Loop_Count l_0 h Q) : callP P n_loop_Loop_Count #[(.pointer l_0)] h Q :=
  @callP_of P n_loop_Loop_Count Try.f13 tab_loop_Loop_Count [(.pointer l_0)] h Q mixed Try.func13 Try.call13 ok_loop_Loop_Count (Eq.mpr (eq_loop_Loop_Count l_0 h Q) H)

/-! ### (*earshot/loop.Loop).Room: function 15 -/
def loop_Loop_Room (l_0 : Option Addr) (h : Heap) (Q : Value → Heap → Prop) : Prop :=
  ifB ((l_0).isNone) (
    Q (.int .i64 (0 : Int)) h) (
    nilI l_0 fun a1 =>
    ldInt .i64 h (Addr.add a1 2) fun n2 =>
    Q (.int .i64 n2) h)
noncomputable def tab_loop_Loop_Room : Tab := { sch := lookT .done [], lp := lookT [] [], jn := lookT none [] }
theorem eq_loop_Loop_Room (l_0 : Option Addr) (h : Heap) (Q : Value → Heap → Prop) : fnI P Try.f15 tab_loop_Loop_Room [(.pointer l_0)] h Q = loop_Loop_Room l_0 h Q := by kernel_rfl
theorem ok_loop_Loop_Room : fnOk P Try.f15 tab_loop_Loop_Room = true := by kernel_rfl
theorem call_loop_Loop_Room (l_0 : Option Addr) {h : Heap} {Q : Value → Heap → Prop} (H : loop_Loop_Room l_0 h Q) : callP P n_loop_Loop_Room #[(.pointer l_0)] h Q :=
  @callP_of P n_loop_Loop_Room Try.f15 tab_loop_Loop_Room [(.pointer l_0)] h Q mixed Try.func15 Try.call15 ok_loop_Loop_Room (Eq.mpr (eq_loop_Loop_Room l_0 h Q) H)

/-! ### (*earshot/loop.Loop).Oldest: function 19 -/
def loop_Loop_Oldest (l_0 : Option Addr) (h : Heap) (Q : Value → Heap → Prop) : Prop :=
  callInt P .i64 n_loop_Loop_Count #[(.pointer l_0)] h fun n2 h1 =>
  callInt P .i64 n_loop_Loop_Room #[(.pointer l_0)] h1 fun n4 h3 =>
  Q (.int .i64 (if (0 : Int) > (IntKind.wrap .i64 (n2 - n4)) then (0 : Int) else (IntKind.wrap .i64 (n2 - n4)))) h3
noncomputable def tab_loop_Loop_Oldest : Tab := { sch := lookT .done [], lp := lookT [] [], jn := lookT none [] }
theorem eq_loop_Loop_Oldest (l_0 : Option Addr) (h : Heap) (Q : Value → Heap → Prop) : fnI P Try.f19 tab_loop_Loop_Oldest [(.pointer l_0)] h Q = loop_Loop_Oldest l_0 h Q := by kernel_rfl
theorem ok_loop_Loop_Oldest : fnOk P Try.f19 tab_loop_Loop_Oldest = true := by kernel_rfl
theorem call_loop_Loop_Oldest (l_0 : Option Addr) {h : Heap} {Q : Value → Heap → Prop} (H : loop_Loop_Oldest l_0 h Q) : callP P n_loop_Loop_Oldest #[(.pointer l_0)] h Q :=
  @callP_of P n_loop_Loop_Oldest Try.f19 tab_loop_Loop_Oldest [(.pointer l_0)] h Q mixed Try.func19 Try.call19 ok_loop_Loop_Oldest (Eq.mpr (eq_loop_Loop_Oldest l_0 h Q) H)

/-! ### (*earshot/arena.Part).Get: function 33 -/
def arena_Part_Get (p_0 : Option Addr) (i_1 : Int) (h : Heap) (Q : Value → Heap → Prop) : Prop :=
  ifB ((p_0).isNone) (
    Q (.int .i64 (0 : Int)) h) (
    ifB (decide (i_1 < (0 : Int))) (
      nilI p_0 fun a1 =>
      ldPtr h a1 fun p2 =>
      callUnit P n_arena_Arena_trouble #[(.pointer p2), (.int .i64 (1 : Int))] h fun h3 =>
      Q (.int .i64 (0 : Int)) h3) (
      nilI p_0 fun a4 =>
      ldSlice h (Addr.add a4 1) fun p5 l5 c5 =>
      ifB (decide (i_1 ≥ ((l5 : Nat) : Int))) (
        nilI p_0 fun a6 =>
        ldPtr h a6 fun p7 =>
        callUnit P n_arena_Arena_trouble #[(.pointer p7), (.int .i64 (1 : Int))] h fun h8 =>
        Q (.int .i64 (0 : Int)) h8) (
        nilI p_0 fun a9 =>
        ldSlice h (Addr.add a9 1) fun p10 l10 c10 =>
        idxI p10 i_1 l10 fun a11 =>
        ldInt .i64 h (Addr.add a11 (i_1.toNat * 1)) fun n12 =>
        Q (.int .i64 n12) h)))
noncomputable def tab_arena_Part_Get : Tab := { sch := lookT .done [], lp := lookT [] [], jn := lookT none [] }
theorem eq_arena_Part_Get (p_0 : Option Addr) (i_1 : Int) (h : Heap) (Q : Value → Heap → Prop) : fnI P Try.f33 tab_arena_Part_Get [(.pointer p_0), (.int .i64 i_1)] h Q = arena_Part_Get p_0 i_1 h Q := by kernel_rfl
theorem ok_arena_Part_Get : fnOk P Try.f33 tab_arena_Part_Get = true := by kernel_rfl
theorem call_arena_Part_Get (p_0 : Option Addr) (i_1 : Int) {h : Heap} {Q : Value → Heap → Prop} (H : arena_Part_Get p_0 i_1 h Q) : callP P n_arena_Part_Get #[(.pointer p_0), (.int .i64 i_1)] h Q :=
  @callP_of P n_arena_Part_Get Try.f33 tab_arena_Part_Get [(.pointer p_0), (.int .i64 i_1)] h Q mixed Try.func33 Try.call33 ok_arena_Part_Get (Eq.mpr (eq_arena_Part_Get p_0 i_1 h Q) H)

/-! ### (*earshot/loop.Loop).Get: function 14 -/
def loop_Loop_Get_l5 (Q : Value → Heap → Prop) (K1 : (Option Addr × Int × (Option Addr × Nat × Nat) × Int × Int × Unit) → Heap → Prop) (l_0 : Option Addr) (t_1 : Int) (out_6_p : Option Addr) (out_6_n : Nat) (out_6_c : Nat) (t30 : Int) (t31 : Int) (h7 : Heap) : Prop :=
  ifB (decide (t31 < t30)) (
    nilI l_0 fun a8 =>
    ldPtr h7 a8 fun p9 =>
    callInt P .i64 n_loop_Loop_at #[(.pointer l_0), (.int .i64 t_1)] h7 fun n11 h10 =>
    cellH h10 a8 = some (.pointer p9) ∧
    callInt P .i64 n_arena_Part_Get #[(.pointer p9), (.int .i64 (IntKind.wrap .i64 (n11 + t31)))] h10 fun n13 h12 =>
    idxI out_6_p t31 out_6_n fun a14 =>
    stI h12 (Addr.add a14 (t31.toNat * 1)) (.int .i64 n13) fun h15 =>
    K1 (l_0, t_1, (out_6_p, out_6_n, out_6_c), t30, (IntKind.wrap .i64 (t31 + (1 : Int))), ()) h15) (
    Q (.tuple #[(.slice out_6_p out_6_n out_6_c), (.bool true)]) h7)
def loop_Loop_Get_j3 (Q : Value → Heap → Prop) (l_0 : Option Addr) (t_1 : Int) (h2 : Heap) : Prop :=
  nilI l_0 fun a3 =>
  ldInt .i64 h2 (Addr.add a3 1) fun n4 =>
  mkI 3 1 8 (.int .i64 (0 : Int)) n4 n4 h2 fun b5 h6 =>
  LoopS (S := (Option Addr × Int × (Option Addr × Nat × Nat) × Int × Int × Unit)) (fun K1 s h => loop_Loop_Get_l5 Q K1 s.1 s.2.1 s.2.2.1.1 s.2.2.1.2.1 s.2.2.1.2.2 s.2.2.2.1 s.2.2.2.2.1 h) (l_0, t_1, (some ⟨b5, 0, none⟩, n4.toNat, n4.toNat), ((n4.toNat : Nat) : Int), (0 : Int), ()) h6
def loop_Loop_Get (l_0 : Option Addr) (t_1 : Int) (h : Heap) (Q : Value → Heap → Prop) : Prop :=
  ∃ J1 : (Option Addr × Int × Unit) → Heap → Prop, (∀ s h, J1 s h → loop_Loop_Get_j3 Q s.1 s.2.1 h) ∧
  ifB ((l_0).isNone) (
    Q (.tuple #[(.slice none 0 0), (.bool false)]) h) (
    callInt P .i64 n_loop_Loop_Oldest #[(.pointer l_0)] h fun n17 h16 =>
    ifB (decide (t_1 < n17)) (
      Q (.tuple #[(.slice none 0 0), (.bool false)]) h16) (
      nilI l_0 fun a18 =>
      ldInt .i64 h16 (Addr.add a18 3) fun n19 =>
      ifB (decide (t_1 ≥ n19)) (
        Q (.tuple #[(.slice none 0 0), (.bool false)]) h16) (
        J1 (l_0, t_1, ()) h16)))
noncomputable def tab_loop_Loop_Get : Tab := { sch := lookT .done [(7, (.one 0 (.one 1 (.one 2 (.one 3 (.one 4 (.one 6 (.one 7 (.one 9 (.early 5 (.alt 8 (.one 10 (.alt 11 (.one 12 (.alt 13 .done .stop)) .stop)) .stop)))))))))))], lp := lookT [] [(5, [(0, .sc (.ptr)), (1, .sc (.int .i64)), (6, .sc (.slice)), (30, .sc (.int .i64)), (31, .sc (.int .i64))])], jn := lookT none [(3, some [(0, .sc (.ptr)), (1, .sc (.int .i64))])] }
theorem eq_loop_Loop_Get (l_0 : Option Addr) (t_1 : Int) (h : Heap) (Q : Value → Heap → Prop) : fnI P Try.f14 tab_loop_Loop_Get [(.pointer l_0), (.int .i64 t_1)] h Q = loop_Loop_Get l_0 t_1 h Q := by kernel_rfl
theorem ok_loop_Loop_Get : fnOk P Try.f14 tab_loop_Loop_Get = true := by kernel_rfl
theorem call_loop_Loop_Get (l_0 : Option Addr) (t_1 : Int) {h : Heap} {Q : Value → Heap → Prop} (H : loop_Loop_Get l_0 t_1 h Q) : callP P n_loop_Loop_Get #[(.pointer l_0), (.int .i64 t_1)] h Q :=
  @callP_of P n_loop_Loop_Get Try.f14 tab_loop_Loop_Get [(.pointer l_0), (.int .i64 t_1)] h Q mixed Try.func14 Try.call14 ok_loop_Loop_Get (Eq.mpr (eq_loop_Loop_Get l_0 t_1 h Q) H)

/-! ### earshot/earshotlaw08.awake: function 8 -/
def law08_awake_l3 (Q : Value → Heap → Prop) (K1 : (Option Addr × Int × Unit) → Heap → Prop) (l_1 : Option Addr) (i_2 : Int) (h7 : Heap) : Prop :=
  ifB (decide (i_2 < (4 : Int))) (
    newI h7 (.cells #[(.int .i64 i_2), (.int .i64 i_2)] 3 (0, 0)) fun b8 h9 =>
    callInt P .i64 n_loop_Loop_Push #[(.pointer l_1), (.slice (some ⟨b8, 0, none⟩) 2 2)] h9 fun n11 h10 =>
    K1 (l_1, (IntKind.wrap .i64 (i_2 + (1 : Int))), ()) h10) (
    callP P n_loop_Loop_Get #[(.pointer l_1), (.int .i64 (1 : Int))] h7 fun v13 h12 =>
    ∃ p14 : Option Addr, ∃ l14 : Nat, ∃ c14 : Nat, ∃ b15 : Bool, v13 = (.tuple #[(.slice p14 l14 c14), (.bool b15)]) ∧
    callInt P .i64 n_loop_Loop_Room #[(.pointer l_1)] h12 fun n17 h16 =>
    ifB (n17 == (3 : Int)) (
      callInt P .i64 n_loop_Loop_Oldest #[(.pointer l_1)] h16 fun n19 h18 =>
      ifB (n19 == (1 : Int)) (
        ifB b15 (
          ifB (((l14 : Nat) : Int) == (2 : Int)) (
            idxI p14 (1 : Int) l14 fun a20 =>
            ldInt .i64 h18 (Addr.add a20 ((1 : Int).toNat * 1)) fun n21 =>
            Q (.bool (n21 == (1 : Int))) h18) (
            Q (.bool false) h18)) (
          Q (.bool false) h18)) (
        Q (.bool false) h18)) (
      Q (.bool false) h16))
def law08_awake (h : Heap) (Q : Value → Heap → Prop) : Prop :=
  callPtr P n_arena_New #[(.int .i64 (7 : Int))] h fun p2 h1 =>
  callPtr P n_arena_Arena_Part #[(.pointer p2), (.int .i64 (0 : Int)), (.int .i64 (7 : Int))] h1 fun p4 h3 =>
  callPtr P n_loop_New #[(.pointer p4), (.int .i64 (2 : Int))] h3 fun p6 h5 =>
  LoopS (S := (Option Addr × Int × Unit)) (fun K1 s h => law08_awake_l3 Q K1 s.1 s.2.1 h) (p6, (0 : Int), ()) h5
noncomputable def tab_law08_awake : Tab := { sch := lookT .done [], lp := lookT [] [(3, [(1, .sc (.ptr)), (2, .sc (.int .i64))])], jn := lookT none [] }
theorem eq_law08_awake (h : Heap) (Q : Value → Heap → Prop) : fnI P Try.f8 tab_law08_awake [] h Q = law08_awake  h Q := by kernel_rfl
theorem ok_law08_awake : fnOk P Try.f8 tab_law08_awake = true := by kernel_rfl
theorem call_law08_awake {h : Heap} {Q : Value → Heap → Prop} (H : law08_awake  h Q) : callP P n_law08_awake #[] h Q :=
  @callP_of P n_law08_awake Try.f8 tab_law08_awake [] h Q mixed Try.func8 Try.call8 ok_law08_awake (Eq.mpr (eq_law08_awake  h Q) H)

/-! ### earshot/earshotlaw08.LoopKeeps: function 3 -/
def law08_LoopKeeps_l11 (Q : Value → Heap → Prop) (K1 : (Bool × Int × Int × Int × Option Addr × Int × Unit) → Heap → Prop) (K2 : (Bool × Int × Int × Int × Option Addr × Int × (Option Addr × Nat × Nat) × Int × Unit) → Heap → Prop) (up_7 : Bool) (w_8 : Int) (r_9 : Int) (n_10 : Int) (l_11 : Option Addr) (i_12 : Int) (f_13_p : Option Addr) (f_13_n : Nat) (f_13_c : Nat) (j_14 : Int) (h10 : Heap) : Prop :=
  ifB (decide (j_14 < w_8)) (
    newI h10 (.cells #[(.int .i64 (IntKind.wrap .i64 ((IntKind.wrap .i64 ((100 : Int) * i_12)) + j_14)))] 3 (0, 0)) fun b11 h12 =>
    appI 3 1 8 (.int .i64 (0 : Int)) f_13_p f_13_n f_13_c (some ⟨b11, 0, none⟩) 1 h12 fun p13 l13 c13 h14 =>
    K2 (up_7, w_8, r_9, n_10, l_11, i_12, (p13, l13, c13), (IntKind.wrap .i64 (j_14 + (1 : Int))), ()) h14) (
    callInt P .i64 n_loop_Loop_Push #[(.pointer l_11), (.slice f_13_p f_13_n f_13_c)] h10 fun n16 h15 =>
    ifB (n16 != (0 : Int)) (
      Q (.bool false) h15) (
      callInt P .i64 n_loop_Loop_Count #[(.pointer l_11)] h15 fun n18 h17 =>
      ifB (n18 != (IntKind.wrap .i64 (i_12 + (1 : Int)))) (
        Q (.bool false) h17) (
        K1 (up_7, w_8, r_9, n_10, l_11, (IntKind.wrap .i64 (i_12 + (1 : Int))), ()) h17)))
def law08_LoopKeeps_l23 (Q : Value → Heap → Prop) (K1 : (Bool × Int × Int × Int × Option Addr × Int × Unit) → Heap → Prop) (K2 : (Bool × Int × Int × Int × Option Addr × Int × Unit) → Heap → Prop) (K3 : (Bool × Int × Int × Int × Option Addr × Int × (Option Addr × Nat × Nat) × Int × Unit) → Heap → Prop) (up_7 : Bool) (w_8 : Int) (r_9 : Int) (n_10 : Int) (l_11 : Option Addr) (t_15 : Int) (f_16_p : Option Addr) (f_16_n : Nat) (f_16_c : Nat) (j_18 : Int) (h26 : Heap) : Prop :=
  ifB (decide (j_18 < ((f_16_n : Nat) : Int))) (
    idxI f_16_p j_18 f_16_n fun a27 =>
    ldInt .i64 h26 (Addr.add a27 (j_18.toNat * 1)) fun n28 =>
    ifB (n28 != (IntKind.wrap .i64 ((IntKind.wrap .i64 ((100 : Int) * t_15)) + j_18))) (
      Q (.bool false) h26) (
      K3 (up_7, w_8, r_9, n_10, l_11, t_15, (f_16_p, f_16_n, f_16_c), (IntKind.wrap .i64 (j_18 + (1 : Int))), ()) h26)) (
    K2 (up_7, w_8, r_9, n_10, l_11, (IntKind.wrap .i64 (t_15 + (1 : Int))), ()) h26)
def law08_LoopKeeps_j22 (Q : Value → Heap → Prop) (K1 : (Bool × Int × Int × Int × Option Addr × Int × Unit) → Heap → Prop) (K2 : (Bool × Int × Int × Int × Option Addr × Int × Unit) → Heap → Prop) (up_7 : Bool) (w_8 : Int) (r_9 : Int) (n_10 : Int) (l_11 : Option Addr) (t_15 : Int) (f_16_p : Option Addr) (f_16_n : Nat) (f_16_c : Nat) (h25 : Heap) : Prop :=
  LoopS (S := (Bool × Int × Int × Int × Option Addr × Int × (Option Addr × Nat × Nat) × Int × Unit)) (fun K3 s h => law08_LoopKeeps_l23 Q K1 K2 K3 s.1 s.2.1 s.2.2.1 s.2.2.2.1 s.2.2.2.2.1 s.2.2.2.2.2.1 s.2.2.2.2.2.2.1.1 s.2.2.2.2.2.2.1.2.1 s.2.2.2.2.2.2.1.2.2 s.2.2.2.2.2.2.2.1 h) (up_7, w_8, r_9, n_10, l_11, t_15, (f_16_p, f_16_n, f_16_c), (0 : Int), ()) h25
def law08_LoopKeeps_l17 (Q : Value → Heap → Prop) (K1 : (Bool × Int × Int × Int × Option Addr × Int × Unit) → Heap → Prop) (K2 : (Bool × Int × Int × Int × Option Addr × Int × Unit) → Heap → Prop) (up_7 : Bool) (w_8 : Int) (r_9 : Int) (n_10 : Int) (l_11 : Option Addr) (t_15 : Int) (h19 : Heap) : Prop :=
  ifB (decide (t_15 < (IntKind.wrap .i64 (n_10 + (2 : Int))))) (
    callP P n_loop_Loop_Get #[(.pointer l_11), (.int .i64 t_15)] h19 fun v21 h20 =>
    ∃ p22 : Option Addr, ∃ l22 : Nat, ∃ c22 : Nat, ∃ b23 : Bool, v21 = (.tuple #[(.slice p22 l22 c22), (.bool b23)]) ∧
    ∃ J24 : (Bool × Int × Int × Int × Option Addr × Int × (Option Addr × Nat × Nat) × Unit) → Heap → Prop, (∀ s h, J24 s h → law08_LoopKeeps_j22 Q K1 K2 s.1 s.2.1 s.2.2.1 s.2.2.2.1 s.2.2.2.2.1 s.2.2.2.2.2.1 s.2.2.2.2.2.2.1.1 s.2.2.2.2.2.2.1.2.1 s.2.2.2.2.2.2.1.2.2 h) ∧
    ifB (decide (t_15 ≥ (0 : Int))) (
      ifB (decide (t_15 < n_10)) (
        ifB (!(b23 == (decide (t_15 ≥ (IntKind.wrap .i64 (n_10 - r_9)))))) (
          Q (.bool false) h20) (
          ifB b23 (
            ifB (((l22 : Nat) : Int) != w_8) (
              Q (.bool false) h20) (
              ifB (!b23) (
                ifB (decide (((l22 : Nat) : Int) > (0 : Int))) (
                  Q (.bool false) h20) (
                  J24 (up_7, w_8, r_9, n_10, l_11, t_15, (p22, l22, c22), ()) h20)) (
                J24 (up_7, w_8, r_9, n_10, l_11, t_15, (p22, l22, c22), ()) h20))) (
            ifB (!b23) (
              ifB (decide (((l22 : Nat) : Int) > (0 : Int))) (
                Q (.bool false) h20) (
                J24 (up_7, w_8, r_9, n_10, l_11, t_15, (p22, l22, c22), ()) h20)) (
              J24 (up_7, w_8, r_9, n_10, l_11, t_15, (p22, l22, c22), ()) h20)))) (
        ifB (!(b23 == false)) (
          Q (.bool false) h20) (
          ifB b23 (
            ifB (((l22 : Nat) : Int) != w_8) (
              Q (.bool false) h20) (
              ifB (!b23) (
                ifB (decide (((l22 : Nat) : Int) > (0 : Int))) (
                  Q (.bool false) h20) (
                  J24 (up_7, w_8, r_9, n_10, l_11, t_15, (p22, l22, c22), ()) h20)) (
                J24 (up_7, w_8, r_9, n_10, l_11, t_15, (p22, l22, c22), ()) h20))) (
            ifB (!b23) (
              ifB (decide (((l22 : Nat) : Int) > (0 : Int))) (
                Q (.bool false) h20) (
                J24 (up_7, w_8, r_9, n_10, l_11, t_15, (p22, l22, c22), ()) h20)) (
              J24 (up_7, w_8, r_9, n_10, l_11, t_15, (p22, l22, c22), ()) h20))))) (
      ifB (!(b23 == false)) (
        Q (.bool false) h20) (
        ifB b23 (
          ifB (((l22 : Nat) : Int) != w_8) (
            Q (.bool false) h20) (
            ifB (!b23) (
              ifB (decide (((l22 : Nat) : Int) > (0 : Int))) (
                Q (.bool false) h20) (
                J24 (up_7, w_8, r_9, n_10, l_11, t_15, (p22, l22, c22), ()) h20)) (
              J24 (up_7, w_8, r_9, n_10, l_11, t_15, (p22, l22, c22), ()) h20))) (
          ifB (!b23) (
            ifB (decide (((l22 : Nat) : Int) > (0 : Int))) (
              Q (.bool false) h20) (
              J24 (up_7, w_8, r_9, n_10, l_11, t_15, (p22, l22, c22), ()) h20)) (
            J24 (up_7, w_8, r_9, n_10, l_11, t_15, (p22, l22, c22), ()) h20))))) (
    ifB up_7 (
      callInt P .i64 n_loop_Loop_Room #[(.pointer l_11)] h19 fun n30 h29 =>
      Q (.bool (n30 == r_9)) h29) (
      Q (.bool false) h19))
def law08_LoopKeeps_l7 (Q : Value → Heap → Prop) (K1 : (Bool × Int × Int × Int × Option Addr × Int × Unit) → Heap → Prop) (up_7 : Bool) (w_8 : Int) (r_9 : Int) (n_10 : Int) (l_11 : Option Addr) (i_12 : Int) (h9 : Heap) : Prop :=
  ifB (decide (i_12 < n_10)) (
    LoopS (S := (Bool × Int × Int × Int × Option Addr × Int × (Option Addr × Nat × Nat) × Int × Unit)) (fun K2 s h => law08_LoopKeeps_l11 Q K1 K2 s.1 s.2.1 s.2.2.1 s.2.2.2.1 s.2.2.2.2.1 s.2.2.2.2.2.1 s.2.2.2.2.2.2.1.1 s.2.2.2.2.2.2.1.2.1 s.2.2.2.2.2.2.1.2.2 s.2.2.2.2.2.2.2.1 h) (up_7, w_8, r_9, n_10, l_11, i_12, (none, 0, 0), (0 : Int), ()) h9) (
    LoopS (S := (Bool × Int × Int × Int × Option Addr × Int × Unit)) (fun K2 s h => law08_LoopKeeps_l17 Q K1 K2 s.1 s.2.1 s.2.2.1 s.2.2.2.1 s.2.2.2.2.1 s.2.2.2.2.2.1 h) (up_7, w_8, r_9, n_10, l_11, (-2 : Int), ()) h9)
def law08_LoopKeeps (width_0 : Int) (room_1 : Int) (many_2 : Int) (h : Heap) (Q : Value → Heap → Prop) : Prop :=
  callBool P n_law08_awake #[] h fun b2 h1 =>
  callPtr P n_arena_New #[(.int .i64 (IntKind.wrap .i64 ((IntKind.wrap .i64 ((IntKind.wrap .i64 ((IntKind.wrap .i64 ((1 : Int) + (Int.tmod (IntKind.wrap .i64 ((Int.tmod width_0 (5 : Int)) + (5 : Int))) (5 : Int)))) * (IntKind.wrap .i64 ((1 : Int) + (andI .i64 room_1 (7 : Int)))))) + (IntKind.wrap .i64 ((1 : Int) + (Int.tmod (IntKind.wrap .i64 ((Int.tmod width_0 (5 : Int)) + (5 : Int))) (5 : Int)))))) - (1 : Int))))] h1 fun p4 h3 =>
  callPtr P n_arena_Arena_Part #[(.pointer p4), (.int .i64 (0 : Int)), (.int .i64 (IntKind.wrap .i64 ((IntKind.wrap .i64 ((IntKind.wrap .i64 ((IntKind.wrap .i64 ((1 : Int) + (Int.tmod (IntKind.wrap .i64 ((Int.tmod width_0 (5 : Int)) + (5 : Int))) (5 : Int)))) * (IntKind.wrap .i64 ((1 : Int) + (andI .i64 room_1 (7 : Int)))))) + (IntKind.wrap .i64 ((1 : Int) + (Int.tmod (IntKind.wrap .i64 ((Int.tmod width_0 (5 : Int)) + (5 : Int))) (5 : Int)))))) - (1 : Int))))] h3 fun p6 h5 =>
  callPtr P n_loop_New #[(.pointer p6), (.int .i64 (IntKind.wrap .i64 ((1 : Int) + (Int.tmod (IntKind.wrap .i64 ((Int.tmod width_0 (5 : Int)) + (5 : Int))) (5 : Int)))))] h5 fun p8 h7 =>
  LoopS (S := (Bool × Int × Int × Int × Option Addr × Int × Unit)) (fun K1 s h => law08_LoopKeeps_l7 Q K1 s.1 s.2.1 s.2.2.1 s.2.2.2.1 s.2.2.2.2.1 s.2.2.2.2.2.1 h) (b2, (IntKind.wrap .i64 ((1 : Int) + (Int.tmod (IntKind.wrap .i64 ((Int.tmod width_0 (5 : Int)) + (5 : Int))) (5 : Int)))), (IntKind.wrap .i64 ((1 : Int) + (andI .i64 room_1 (7 : Int)))), (Int.tmod (IntKind.wrap .i64 ((Int.tmod many_2 (41 : Int)) + (41 : Int))) (41 : Int)), p8, (0 : Int), ()) h7
noncomputable def tab_law08_LoopKeeps : Tab := { sch := lookT .done [], lp := lookT [] [(7, [(7, .sc (.bool)), (8, .sc (.int .i64)), (9, .sc (.int .i64)), (10, .sc (.int .i64)), (11, .sc (.ptr)), (12, .sc (.int .i64))]), (11, [(7, .sc (.bool)), (8, .sc (.int .i64)), (9, .sc (.int .i64)), (10, .sc (.int .i64)), (11, .sc (.ptr)), (12, .sc (.int .i64)), (13, .sc (.slice)), (14, .sc (.int .i64))]), (17, [(7, .sc (.bool)), (8, .sc (.int .i64)), (9, .sc (.int .i64)), (10, .sc (.int .i64)), (11, .sc (.ptr)), (15, .sc (.int .i64))]), (23, [(7, .sc (.bool)), (8, .sc (.int .i64)), (9, .sc (.int .i64)), (10, .sc (.int .i64)), (11, .sc (.ptr)), (15, .sc (.int .i64)), (16, .sc (.slice)), (18, .sc (.int .i64))])], jn := lookT none [(22, some [(7, .sc (.bool)), (8, .sc (.int .i64)), (9, .sc (.int .i64)), (10, .sc (.int .i64)), (11, .sc (.ptr)), (15, .sc (.int .i64)), (16, .sc (.slice))])] }
theorem eq_law08_LoopKeeps (width_0 : Int) (room_1 : Int) (many_2 : Int) (h : Heap) (Q : Value → Heap → Prop) : fnI P Try.f3 tab_law08_LoopKeeps [(.int .i64 width_0), (.int .i64 room_1), (.int .i64 many_2)] h Q = law08_LoopKeeps width_0 room_1 many_2 h Q := by kernel_rfl
theorem ok_law08_LoopKeeps : fnOk P Try.f3 tab_law08_LoopKeeps = true := by kernel_rfl
theorem call_law08_LoopKeeps (width_0 : Int) (room_1 : Int) (many_2 : Int) {h : Heap} {Q : Value → Heap → Prop} (H : law08_LoopKeeps width_0 room_1 many_2 h Q) : callP P n_law08_LoopKeeps #[(.int .i64 width_0), (.int .i64 room_1), (.int .i64 many_2)] h Q :=
  @callP_of P n_law08_LoopKeeps Try.f3 tab_law08_LoopKeeps [(.int .i64 width_0), (.int .i64 room_1), (.int .i64 many_2)] h Q mixed Try.func3 Try.call3 ok_law08_LoopKeeps (Eq.mpr (eq_law08_LoopKeeps width_0 room_1 many_2 h Q) H)

/-! ### earshot/earshotref04.Same: function 16 -/
def ref04_Same_l4 (Q : Value → Heap → Prop) (K1 : ((Option Addr × Nat × Nat) × (Option Addr × Nat × Nat) × Int × Unit) → Heap → Prop) (a_0_p : Option Addr) (a_0_n : Nat) (a_0_c : Nat) (b_1_p : Option Addr) (b_1_n : Nat) (b_1_c : Nat) (i_5 : Int) (h1 : Heap) : Prop :=
  ifB (decide (i_5 < ((a_0_n : Nat) : Int))) (
    idxI a_0_p i_5 a_0_n fun a2 =>
    idxI b_1_p i_5 b_1_n fun a3 =>
    ldInt .i64 h1 (Addr.add a2 (i_5.toNat * 1)) fun n4 =>
    ldInt .i64 h1 (Addr.add a3 (i_5.toNat * 1)) fun n5 =>
    ifB (n4 != n5) (
      Q (.bool false) h1) (
      K1 ((a_0_p, a_0_n, a_0_c), (b_1_p, b_1_n, b_1_c), (IntKind.wrap .i64 (i_5 + (1 : Int))), ()) h1)) (
    Q (.bool true) h1)
def ref04_Same (a_0_p : Option Addr) (a_0_n : Nat) (a_0_c : Nat) (b_1_p : Option Addr) (b_1_n : Nat) (b_1_c : Nat) (h : Heap) (Q : Value → Heap → Prop) : Prop :=
  ifB (((a_0_n : Nat) : Int) != ((b_1_n : Nat) : Int)) (
    Q (.bool false) h) (
    LoopS (S := ((Option Addr × Nat × Nat) × (Option Addr × Nat × Nat) × Int × Unit)) (fun K1 s h => ref04_Same_l4 Q K1 s.1.1 s.1.2.1 s.1.2.2 s.2.1.1 s.2.1.2.1 s.2.1.2.2 s.2.2.1 h) ((a_0_p, a_0_n, a_0_c), (b_1_p, b_1_n, b_1_c), (0 : Int), ()) h)
noncomputable def tab_ref04_Same : Tab := { sch := lookT .done [(6, (.one 0 (.one 1 (.one 2 (.one 4 (.one 5 (.one 6 (.one 3 (.one 7 (.one 8 .done))))))))))], lp := lookT [] [(4, [(0, .sc (.slice)), (1, .sc (.slice)), (5, .sc (.int .i64))])], jn := lookT none [] }
theorem eq_ref04_Same (a_0_p : Option Addr) (a_0_n : Nat) (a_0_c : Nat) (b_1_p : Option Addr) (b_1_n : Nat) (b_1_c : Nat) (h : Heap) (Q : Value → Heap → Prop) : fnI P Try.f16 tab_ref04_Same [(.slice a_0_p a_0_n a_0_c), (.slice b_1_p b_1_n b_1_c)] h Q = ref04_Same a_0_p a_0_n a_0_c b_1_p b_1_n b_1_c h Q := by kernel_rfl
theorem ok_ref04_Same : fnOk P Try.f16 tab_ref04_Same = true := by kernel_rfl
theorem call_ref04_Same (a_0_p : Option Addr) (a_0_n : Nat) (a_0_c : Nat) (b_1_p : Option Addr) (b_1_n : Nat) (b_1_c : Nat) {h : Heap} {Q : Value → Heap → Prop} (H : ref04_Same a_0_p a_0_n a_0_c b_1_p b_1_n b_1_c h Q) : callP P n_ref04_Same #[(.slice a_0_p a_0_n a_0_c), (.slice b_1_p b_1_n b_1_c)] h Q :=
  @callP_of P n_ref04_Same Try.f16 tab_ref04_Same [(.slice a_0_p a_0_n a_0_c), (.slice b_1_p b_1_n b_1_c)] h Q mixed Try.func16 Try.call16 ok_ref04_Same (Eq.mpr (eq_ref04_Same a_0_p a_0_n a_0_c b_1_p b_1_n b_1_c h Q) H)

/-! ### (*earshot/arena.Arena).Err: function 17 -/
def arena_Arena_Err (a_0 : Option Addr) (h : Heap) (Q : Value → Heap → Prop) : Prop :=
  ifB ((a_0).isNone) (
    Q (.int .i64 (1 : Int)) h) (
    nilI a_0 fun a1 =>
    ldInt .i64 h (Addr.add a1 1) fun n2 =>
    Q (.int .i64 n2) h)
noncomputable def tab_arena_Arena_Err : Tab := { sch := lookT .done [], lp := lookT [] [], jn := lookT none [] }
theorem eq_arena_Arena_Err (a_0 : Option Addr) (h : Heap) (Q : Value → Heap → Prop) : fnI P Try.f17 tab_arena_Arena_Err [(.pointer a_0)] h Q = arena_Arena_Err a_0 h Q := by kernel_rfl
theorem ok_arena_Arena_Err : fnOk P Try.f17 tab_arena_Arena_Err = true := by kernel_rfl
theorem call_arena_Arena_Err (a_0 : Option Addr) {h : Heap} {Q : Value → Heap → Prop} (H : arena_Arena_Err a_0 h Q) : callP P n_arena_Arena_Err #[(.pointer a_0)] h Q :=
  @callP_of P n_arena_Arena_Err Try.f17 tab_arena_Arena_Err [(.pointer a_0)] h Q mixed Try.func17 Try.call17 ok_arena_Arena_Err (Eq.mpr (eq_arena_Arena_Err a_0 h Q) H)

/-! ### earshot/earshotlaw08.LoopApart: function 4 -/
def law08_LoopApart_l22 (Q : Value → Heap → Prop) (K1 : ((Option Addr × Nat × Nat) × Bool × Addr × Option Addr × Option Addr × Option Addr × Option Addr × Int × Unit) → Heap → Prop) (K2 : ((Option Addr × Nat × Nat) × Bool × Addr × Option Addr × Option Addr × Option Addr × Option Addr × Int × (Option Addr × Nat × Nat) × Bool × Int × Unit) → Heap → Prop) (which_1_p : Option Addr) (which_1_n : Nat) (which_1_c : Nat) (up_5 : Bool) (w_6 : Addr) (a_7 : Option Addr) (x_8 : Option Addr) (y_9 : Option Addr) (alone_10 : Option Addr) (i_11 : Int) (g_14_p : Option Addr) (g_14_n : Nat) (g_14_c : Nat) (one_15 : Bool) (j_16 : Int) (h48 : Heap) : Prop :=
  ifB (decide (j_16 < ((g_14_n : Nat) : Int))) (
    idxI g_14_p j_16 g_14_n fun a49 =>
    stI h48 (Addr.add a49 (j_16.toNat * 1)) (.int .i64 (7777 : Int)) fun h50 =>
    K2 ((which_1_p, which_1_n, which_1_c), up_5, w_6, a_7, x_8, y_9, alone_10, i_11, (g_14_p, g_14_n, g_14_c), one_15, (IntKind.wrap .i64 (j_16 + (1 : Int))), ()) h50) (
    callInt P .i64 n_loop_Loop_Count #[(.pointer y_9)] h48 fun n52 h51 =>
    callP P n_loop_Loop_Get #[(.pointer y_9), (.int .i64 (IntKind.wrap .i64 (n52 - (1 : Int))))] h51 fun v54 h53 =>
    ∃ p55 : Option Addr, ∃ l55 : Nat, ∃ c55 : Nat, ∃ b56 : Bool, v54 = (.tuple #[(.slice p55 l55 c55), (.bool b56)]) ∧
    callInt P .i64 n_loop_Loop_Count #[(.pointer alone_10)] h53 fun n58 h57 =>
    callP P n_loop_Loop_Get #[(.pointer alone_10), (.int .i64 (IntKind.wrap .i64 (n58 - (1 : Int))))] h57 fun v60 h59 =>
    ∃ p61 : Option Addr, ∃ l61 : Nat, ∃ c61 : Nat, ∃ b62 : Bool, v60 = (.tuple #[(.slice p61 l61 c61), (.bool b62)]) ∧
    callBool P n_ref04_Same #[(.slice p55 l55 c55), (.slice p61 l61 c61)] h59 fun b64 h63 =>
    ifB (!(one_15 == b62)) (
      Q (.bool false) h63) (
      ifB (!(b56 == b62)) (
        Q (.bool false) h63) (
        ifB (!b64) (
          Q (.bool false) h63) (
          K1 ((which_1_p, which_1_n, which_1_c), up_5, w_6, a_7, x_8, y_9, alone_10, (IntKind.wrap .i64 (i_11 + (1 : Int))), ()) h63))))
def law08_LoopApart_j20 (Q : Value → Heap → Prop) (K1 : ((Option Addr × Nat × Nat) × Bool × Addr × Option Addr × Option Addr × Option Addr × Option Addr × Int × Unit) → Heap → Prop) (which_1_p : Option Addr) (which_1_n : Nat) (which_1_c : Nat) (up_5 : Bool) (w_6 : Addr) (a_7 : Option Addr) (x_8 : Option Addr) (y_9 : Option Addr) (alone_10 : Option Addr) (i_11 : Int) (h41 : Heap) : Prop :=
  callInt P .i64 n_loop_Loop_Count #[(.pointer y_9)] h41 fun n43 h42 =>
  callP P n_loop_Loop_Get #[(.pointer y_9), (.int .i64 (IntKind.wrap .i64 (n43 - (1 : Int))))] h42 fun v45 h44 =>
  ∃ p46 : Option Addr, ∃ l46 : Nat, ∃ c46 : Nat, ∃ b47 : Bool, v45 = (.tuple #[(.slice p46 l46 c46), (.bool b47)]) ∧
  LoopS (S := ((Option Addr × Nat × Nat) × Bool × Addr × Option Addr × Option Addr × Option Addr × Option Addr × Int × (Option Addr × Nat × Nat) × Bool × Int × Unit)) (fun K2 s h => law08_LoopApart_l22 Q K1 K2 s.1.1 s.1.2.1 s.1.2.2 s.2.1 s.2.2.1 s.2.2.2.1 s.2.2.2.2.1 s.2.2.2.2.2.1 s.2.2.2.2.2.2.1 s.2.2.2.2.2.2.2.1 s.2.2.2.2.2.2.2.2.1.1 s.2.2.2.2.2.2.2.2.1.2.1 s.2.2.2.2.2.2.2.2.1.2.2 s.2.2.2.2.2.2.2.2.2.1 s.2.2.2.2.2.2.2.2.2.2.1 h) ((which_1_p, which_1_n, which_1_c), up_5, w_6, a_7, x_8, y_9, alone_10, i_11, (p46, l46, c46), b47, (0 : Int), ()) h44
def law08_LoopApart_j12 (Q : Value → Heap → Prop) (K1 : ((Option Addr × Nat × Nat) × Bool × Addr × Option Addr × Option Addr × Option Addr × Option Addr × Int × Unit) → Heap → Prop) (which_1_p : Option Addr) (which_1_n : Nat) (which_1_c : Nat) (up_5 : Bool) (w_6 : Addr) (a_7 : Option Addr) (x_8 : Option Addr) (y_9 : Option Addr) (alone_10 : Option Addr) (i_11 : Int) (h39 : Heap) : Prop :=
  ∃ J40 : ((Option Addr × Nat × Nat) × Bool × Addr × Option Addr × Option Addr × Option Addr × Option Addr × Int × Unit) → Heap → Prop, (∀ s h, J40 s h → law08_LoopApart_j20 Q K1 s.1.1 s.1.2.1 s.1.2.2 s.2.1 s.2.2.1 s.2.2.2.1 s.2.2.2.2.1 s.2.2.2.2.2.1 s.2.2.2.2.2.2.1 s.2.2.2.2.2.2.2.1 h) ∧
  idxI which_1_p i_11 which_1_n fun a65 =>
  ldBool h39 (Addr.add a65 (i_11.toNat * 1)) fun b66 =>
  ifB b66 (
    arrI (1 : Int) 2 fun _ =>
    ldInt .i64 h39 (Addr.add w_6 ((1 : Int).toNat * 1)) fun n67 =>
    mkI 3 1 8 (.int .i64 (0 : Int)) n67 n67 h39 fun b68 h69 =>
    idxI (some ⟨b68, 0, none⟩) (0 : Int) n67.toNat fun a70 =>
    stI h69 (Addr.add a70 ((0 : Int).toNat * 1)) (.int .i64 i_11) fun h71 =>
    callInt P .i64 n_loop_Loop_Push #[(.pointer y_9), (.slice (some ⟨b68, 0, none⟩) n67.toNat n67.toNat)] h71 fun n73 h72 =>
    callInt P .i64 n_loop_Loop_Push #[(.pointer alone_10), (.slice (some ⟨b68, 0, none⟩) n67.toNat n67.toNat)] h72 fun n75 h74 =>
    ifB (n73 != n75) (
      Q (.bool false) h74) (
      J40 ((which_1_p, which_1_n, which_1_c), up_5, w_6, a_7, x_8, y_9, alone_10, i_11, ()) h74)) (
    arrI (0 : Int) 2 fun _ =>
    ldInt .i64 h39 (Addr.add w_6 ((0 : Int).toNat * 1)) fun n76 =>
    mkI 3 1 8 (.int .i64 (0 : Int)) n76 n76 h39 fun b77 h78 =>
    arrI (0 : Int) 2 fun _ =>
    ldInt .i64 h78 (Addr.add w_6 ((0 : Int).toNat * 1)) fun n79 =>
    idxI (some ⟨b77, 0, none⟩) (IntKind.wrap .i64 (n79 - (1 : Int))) n76.toNat fun a80 =>
    stI h78 (Addr.add a80 ((IntKind.wrap .i64 (n79 - (1 : Int))).toNat * 1)) (.int .i64 (IntKind.wrap .i64 (0 - i_11))) fun h81 =>
    callInt P .i64 n_loop_Loop_Push #[(.pointer x_8), (.slice (some ⟨b77, 0, none⟩) n76.toNat n76.toNat)] h81 fun n83 h82 =>
    J40 ((which_1_p, which_1_n, which_1_c), up_5, w_6, a_7, x_8, y_9, alone_10, i_11, ()) h82)
def law08_LoopApart_l10 (Q : Value → Heap → Prop) (K1 : ((Option Addr × Nat × Nat) × Bool × Addr × Option Addr × Option Addr × Option Addr × Option Addr × Int × Unit) → Heap → Prop) (which_1_p : Option Addr) (which_1_n : Nat) (which_1_c : Nat) (up_5 : Bool) (w_6 : Addr) (a_7 : Option Addr) (x_8 : Option Addr) (y_9 : Option Addr) (alone_10 : Option Addr) (i_11 : Int) (h37 : Heap) : Prop :=
  ∃ J38 : ((Option Addr × Nat × Nat) × Bool × Addr × Option Addr × Option Addr × Option Addr × Option Addr × Int × Unit) → Heap → Prop, (∀ s h, J38 s h → law08_LoopApart_j12 Q K1 s.1.1 s.1.2.1 s.1.2.2 s.2.1 s.2.2.1 s.2.2.2.1 s.2.2.2.2.1 s.2.2.2.2.2.1 s.2.2.2.2.2.2.1 s.2.2.2.2.2.2.2.1 h) ∧
  ifB (decide (i_11 < ((which_1_n : Nat) : Int))) (
    ifB (decide (i_11 < (40 : Int))) (
      J38 ((which_1_p, which_1_n, which_1_c), up_5, w_6, a_7, x_8, y_9, alone_10, i_11, ()) h37) (
      ifB up_5 (
        callInt P .i64 n_loop_Loop_Count #[(.pointer x_8)] h37 fun n85 h84 =>
        callInt P .i64 n_loop_Loop_Count #[(.pointer y_9)] h84 fun n87 h86 =>
        ifB ((IntKind.wrap .i64 (n85 + n87)) == (if (40 : Int) < ((which_1_n : Nat) : Int) then (40 : Int) else ((which_1_n : Nat) : Int))) (
          callInt P .i64 n_arena_Arena_Err #[(.pointer a_7)] h86 fun n89 h88 =>
          Q (.bool (n89 == (0 : Int))) h88) (
          Q (.bool false) h86)) (
        Q (.bool false) h37))) (
    ifB up_5 (
      callInt P .i64 n_loop_Loop_Count #[(.pointer x_8)] h37 fun n91 h90 =>
      callInt P .i64 n_loop_Loop_Count #[(.pointer y_9)] h90 fun n93 h92 =>
      ifB ((IntKind.wrap .i64 (n91 + n93)) == (if (40 : Int) < ((which_1_n : Nat) : Int) then (40 : Int) else ((which_1_n : Nat) : Int))) (
        callInt P .i64 n_arena_Arena_Err #[(.pointer a_7)] h92 fun n95 h94 =>
        Q (.bool (n95 == (0 : Int))) h94) (
        Q (.bool false) h92)) (
      Q (.bool false) h37))
def law08_LoopApart (q_0_0 : Int) (q_0_1 : Int) (which_1_p : Option Addr) (which_1_n : Nat) (which_1_c : Nat) (h : Heap) (Q : Value → Heap → Prop) : Prop :=
  newI h (.cells #[(.int .i64 q_0_0), (.int .i64 q_0_1)] 36 (0, 0)) fun b1 h2 =>
  callBool P n_law08_awake #[] h2 fun b4 h3 =>
  newI h3 (.cells #[(.int .i64 (0 : Int)), (.int .i64 (0 : Int))] 36 (0, 0)) fun b5 h6 =>
  arrI (0 : Int) 2 fun _ =>
  ldInt .i64 h6 (Addr.add ⟨b1, 0, none⟩ ((0 : Int).toNat * 1)) fun n7 =>
  arrI (0 : Int) 2 fun _ =>
  stI h6 (Addr.add ⟨b5, 0, none⟩ ((0 : Int).toNat * 1)) (.int .i64 (IntKind.wrap .i64 ((1 : Int) + (Int.tmod (IntKind.wrap .i64 ((Int.tmod n7 (5 : Int)) + (5 : Int))) (5 : Int))))) fun h8 =>
  arrI (1 : Int) 2 fun _ =>
  ldInt .i64 h8 (Addr.add ⟨b1, 0, none⟩ ((1 : Int).toNat * 1)) fun n9 =>
  arrI (1 : Int) 2 fun _ =>
  stI h8 (Addr.add ⟨b5, 0, none⟩ ((1 : Int).toNat * 1)) (.int .i64 (IntKind.wrap .i64 ((1 : Int) + (Int.tmod (IntKind.wrap .i64 ((Int.tmod n9 (5 : Int)) + (5 : Int))) (5 : Int))))) fun h10 =>
  arrI (0 : Int) 2 fun _ =>
  ldInt .i64 h10 (Addr.add ⟨b5, 0, none⟩ ((0 : Int).toNat * 1)) fun n11 =>
  arrI (1 : Int) 2 fun _ =>
  ldInt .i64 h10 (Addr.add ⟨b5, 0, none⟩ ((1 : Int).toNat * 1)) fun n12 =>
  callPtr P n_arena_New #[(.int .i64 (IntKind.wrap .i64 ((IntKind.wrap .i64 ((3 : Int) * n11)) + (IntKind.wrap .i64 ((2 : Int) * n12)))))] h10 fun p14 h13 =>
  arrI (0 : Int) 2 fun _ =>
  arrI (0 : Int) 2 fun _ =>
  ldInt .i64 h13 (Addr.add ⟨b5, 0, none⟩ ((0 : Int).toNat * 1)) fun n15 =>
  ldInt .i64 h13 (Addr.add ⟨b5, 0, none⟩ ((0 : Int).toNat * 1)) fun n16 =>
  callPtr P n_arena_Arena_Part #[(.pointer p14), (.int .i64 (0 : Int)), (.int .i64 (IntKind.wrap .i64 ((3 : Int) * n15)))] h13 fun p18 h17 =>
  cellH h17 (Addr.add ⟨b5, 0, none⟩ ((0 : Int).toNat * 1)) = some (.int .i64 n16) ∧
  cellH h17 (Addr.add ⟨b5, 0, none⟩ ((0 : Int).toNat * 1)) = some (.int .i64 n15) ∧
  callPtr P n_loop_New #[(.pointer p18), (.int .i64 n16)] h17 fun p20 h19 =>
  cellH h19 (Addr.add ⟨b5, 0, none⟩ ((0 : Int).toNat * 1)) = some (.int .i64 n15) ∧
  arrI (0 : Int) 2 fun _ =>
  arrI (1 : Int) 2 fun _ =>
  arrI (1 : Int) 2 fun _ =>
  ldInt .i64 h19 (Addr.add ⟨b5, 0, none⟩ ((0 : Int).toNat * 1)) fun n21 =>
  ldInt .i64 h19 (Addr.add ⟨b5, 0, none⟩ ((1 : Int).toNat * 1)) fun n22 =>
  ldInt .i64 h19 (Addr.add ⟨b5, 0, none⟩ ((1 : Int).toNat * 1)) fun n23 =>
  callPtr P n_arena_Arena_Part #[(.pointer p14), (.int .i64 (IntKind.wrap .i64 ((3 : Int) * n21))), (.int .i64 (IntKind.wrap .i64 ((2 : Int) * n22)))] h19 fun p25 h24 =>
  cellH h24 (Addr.add ⟨b5, 0, none⟩ ((1 : Int).toNat * 1)) = some (.int .i64 n23) ∧
  cellH h24 (Addr.add ⟨b5, 0, none⟩ ((1 : Int).toNat * 1)) = some (.int .i64 n22) ∧
  cellH h24 (Addr.add ⟨b5, 0, none⟩ ((0 : Int).toNat * 1)) = some (.int .i64 n21) ∧
  callPtr P n_loop_New #[(.pointer p25), (.int .i64 n23)] h24 fun p27 h26 =>
  cellH h26 (Addr.add ⟨b5, 0, none⟩ ((1 : Int).toNat * 1)) = some (.int .i64 n22) ∧
  cellH h26 (Addr.add ⟨b5, 0, none⟩ ((0 : Int).toNat * 1)) = some (.int .i64 n21) ∧
  arrI (1 : Int) 2 fun _ =>
  arrI (1 : Int) 2 fun _ =>
  arrI (1 : Int) 2 fun _ =>
  ldInt .i64 h26 (Addr.add ⟨b5, 0, none⟩ ((1 : Int).toNat * 1)) fun n28 =>
  ldInt .i64 h26 (Addr.add ⟨b5, 0, none⟩ ((1 : Int).toNat * 1)) fun n29 =>
  ldInt .i64 h26 (Addr.add ⟨b5, 0, none⟩ ((1 : Int).toNat * 1)) fun n30 =>
  callPtr P n_arena_New #[(.int .i64 (IntKind.wrap .i64 ((2 : Int) * n28)))] h26 fun p32 h31 =>
  cellH h31 (Addr.add ⟨b5, 0, none⟩ ((1 : Int).toNat * 1)) = some (.int .i64 n30) ∧
  cellH h31 (Addr.add ⟨b5, 0, none⟩ ((1 : Int).toNat * 1)) = some (.int .i64 n29) ∧
  cellH h31 (Addr.add ⟨b5, 0, none⟩ ((1 : Int).toNat * 1)) = some (.int .i64 n28) ∧
  callPtr P n_arena_Arena_Part #[(.pointer p32), (.int .i64 (0 : Int)), (.int .i64 (IntKind.wrap .i64 ((2 : Int) * n29)))] h31 fun p34 h33 =>
  cellH h33 (Addr.add ⟨b5, 0, none⟩ ((1 : Int).toNat * 1)) = some (.int .i64 n30) ∧
  cellH h33 (Addr.add ⟨b5, 0, none⟩ ((1 : Int).toNat * 1)) = some (.int .i64 n29) ∧
  cellH h33 (Addr.add ⟨b5, 0, none⟩ ((1 : Int).toNat * 1)) = some (.int .i64 n28) ∧
  callPtr P n_loop_New #[(.pointer p34), (.int .i64 n30)] h33 fun p36 h35 =>
  cellH h35 (Addr.add ⟨b5, 0, none⟩ ((1 : Int).toNat * 1)) = some (.int .i64 n29) ∧
  cellH h35 (Addr.add ⟨b5, 0, none⟩ ((1 : Int).toNat * 1)) = some (.int .i64 n28) ∧
  LoopS (S := ((Option Addr × Nat × Nat) × Bool × Addr × Option Addr × Option Addr × Option Addr × Option Addr × Int × Unit)) (fun K1 s h => law08_LoopApart_l10 Q K1 s.1.1 s.1.2.1 s.1.2.2 s.2.1 s.2.2.1 s.2.2.2.1 s.2.2.2.2.1 s.2.2.2.2.2.1 s.2.2.2.2.2.2.1 s.2.2.2.2.2.2.2.1 h) ((which_1_p, which_1_n, which_1_c), b4, ⟨b5, 0, none⟩, p14, p20, p27, p36, (0 : Int), ()) h35
noncomputable def tab_law08_LoopApart : Tab := { sch := lookT .done [(6, (.one 0 (.one 1 (.one 5 (.early 2 (.one 3 (.early 6 (.alt 4 (.alt 7 (.one 8 .done) .stop) .stop)))))))), (7, (.one 0 (.one 1 (.one 4 (.one 8 (.early 2 (.one 3 (.early 5 (.one 6 (.early 9 (.alt 7 (.alt 10 (.one 11 .done) .stop) .stop))))))))))), (8, (.one 0 (.one 4 (.one 8 (.early 1 (.one 2 (.early 5 (.one 6 (.early 9 (.alt 3 (.alt 7 (.alt 10 (.one 11 .done) .stop) .stop) .stop))))))))))], lp := lookT [] [(10, [(1, .sc (.slice)), (5, .sc (.bool)), (6, .sc (.adr)), (7, .sc (.ptr)), (8, .sc (.ptr)), (9, .sc (.ptr)), (10, .sc (.ptr)), (11, .sc (.int .i64))]), (22, [(1, .sc (.slice)), (5, .sc (.bool)), (6, .sc (.adr)), (7, .sc (.ptr)), (8, .sc (.ptr)), (9, .sc (.ptr)), (10, .sc (.ptr)), (11, .sc (.int .i64)), (14, .sc (.slice)), (15, .sc (.bool)), (16, .sc (.int .i64))])], jn := lookT none [(12, some [(1, .sc (.slice)), (5, .sc (.bool)), (6, .sc (.adr)), (7, .sc (.ptr)), (8, .sc (.ptr)), (9, .sc (.ptr)), (10, .sc (.ptr)), (11, .sc (.int .i64))]), (20, some [(1, .sc (.slice)), (5, .sc (.bool)), (6, .sc (.adr)), (7, .sc (.ptr)), (8, .sc (.ptr)), (9, .sc (.ptr)), (10, .sc (.ptr)), (11, .sc (.int .i64))])] }
theorem eq_law08_LoopApart (q_0_0 : Int) (q_0_1 : Int) (which_1_p : Option Addr) (which_1_n : Nat) (which_1_c : Nat) (h : Heap) (Q : Value → Heap → Prop) : fnI P Try.f4 tab_law08_LoopApart [(.agg #[(.int .i64 q_0_0), (.int .i64 q_0_1)]), (.slice which_1_p which_1_n which_1_c)] h Q = law08_LoopApart q_0_0 q_0_1 which_1_p which_1_n which_1_c h Q := by kernel_rfl
theorem ok_law08_LoopApart : fnOk P Try.f4 tab_law08_LoopApart = true := by kernel_rfl
theorem call_law08_LoopApart (q_0_0 : Int) (q_0_1 : Int) (which_1_p : Option Addr) (which_1_n : Nat) (which_1_c : Nat) {h : Heap} {Q : Value → Heap → Prop} (H : law08_LoopApart q_0_0 q_0_1 which_1_p which_1_n which_1_c h Q) : callP P n_law08_LoopApart #[(.agg #[(.int .i64 q_0_0), (.int .i64 q_0_1)]), (.slice which_1_p which_1_n which_1_c)] h Q :=
  @callP_of P n_law08_LoopApart Try.f4 tab_law08_LoopApart [(.agg #[(.int .i64 q_0_0), (.int .i64 q_0_1)]), (.slice which_1_p which_1_n which_1_c)] h Q mixed Try.func4 Try.call4 ok_law08_LoopApart (Eq.mpr (eq_law08_LoopApart q_0_0 q_0_1 which_1_p which_1_n which_1_c h Q) H)

/-! ### (*earshot/loop.Loop).Width: function 18 -/
def loop_Loop_Width (l_0 : Option Addr) (h : Heap) (Q : Value → Heap → Prop) : Prop :=
  ifB ((l_0).isNone) (
    Q (.int .i64 (0 : Int)) h) (
    nilI l_0 fun a1 =>
    ldInt .i64 h (Addr.add a1 1) fun n2 =>
    Q (.int .i64 n2) h)
noncomputable def tab_loop_Loop_Width : Tab := { sch := lookT .done [], lp := lookT [] [], jn := lookT none [] }
theorem eq_loop_Loop_Width (l_0 : Option Addr) (h : Heap) (Q : Value → Heap → Prop) : fnI P Try.f18 tab_loop_Loop_Width [(.pointer l_0)] h Q = loop_Loop_Width l_0 h Q := by kernel_rfl
theorem ok_loop_Loop_Width : fnOk P Try.f18 tab_loop_Loop_Width = true := by kernel_rfl
theorem call_loop_Loop_Width (l_0 : Option Addr) {h : Heap} {Q : Value → Heap → Prop} (H : loop_Loop_Width l_0 h Q) : callP P n_loop_Loop_Width #[(.pointer l_0)] h Q :=
  @callP_of P n_loop_Loop_Width Try.f18 tab_loop_Loop_Width [(.pointer l_0)] h Q mixed Try.func18 Try.call18 ok_loop_Loop_Width (Eq.mpr (eq_loop_Loop_Width l_0 h Q) H)

/-! ### (*earshot/loop.Loop).Seek: function 20 -/
def loop_Loop_Seek (l_0 : Option Addr) (n_1 : Int) (h : Heap) (Q : Value → Heap → Prop) : Prop :=
  ifB ((l_0).isNone) (
    Q (.bool false) h) (
    ifB (decide (n_1 < (0 : Int))) (
      Q (.bool false) h) (
      nilI l_0 fun a1 =>
      stI h (Addr.add a1 3) (.int .i64 n_1) fun h2 =>
      Q (.bool true) h2))
noncomputable def tab_loop_Loop_Seek : Tab := { sch := lookT .done [], lp := lookT [] [], jn := lookT none [] }
theorem eq_loop_Loop_Seek (l_0 : Option Addr) (n_1 : Int) (h : Heap) (Q : Value → Heap → Prop) : fnI P Try.f20 tab_loop_Loop_Seek [(.pointer l_0), (.int .i64 n_1)] h Q = loop_Loop_Seek l_0 n_1 h Q := by kernel_rfl
theorem ok_loop_Loop_Seek : fnOk P Try.f20 tab_loop_Loop_Seek = true := by kernel_rfl
theorem call_loop_Loop_Seek (l_0 : Option Addr) (n_1 : Int) {h : Heap} {Q : Value → Heap → Prop} (H : loop_Loop_Seek l_0 n_1 h Q) : callP P n_loop_Loop_Seek #[(.pointer l_0), (.int .i64 n_1)] h Q :=
  @callP_of P n_loop_Loop_Seek Try.f20 tab_loop_Loop_Seek [(.pointer l_0), (.int .i64 n_1)] h Q mixed Try.func20 Try.call20 ok_loop_Loop_Seek (Eq.mpr (eq_loop_Loop_Seek l_0 n_1 h Q) H)

/-! ### earshot/earshotlaw08.LoopNil: function 5 -/
def law08_LoopNil (width_0 : Int) (n_1 : Int) (t_2 : Int) (h : Heap) (Q : Value → Heap → Prop) : Prop :=
  callP P n_loop_Loop_Get #[(.pointer none), (.int .i64 t_2)] h fun v2 h1 =>
  ∃ p3 : Option Addr, ∃ l3 : Nat, ∃ c3 : Nat, ∃ b4 : Bool, v2 = (.tuple #[(.slice p3 l3 c3), (.bool b4)]) ∧
  callBool P n_law08_awake #[] h1 fun b6 h5 =>
  ifB b6 (
    ifB (!b4) (
      ifB (((l3 : Nat) : Int) == (0 : Int)) (
        newI h5 (.cells #[(.int .i64 t_2)] 3 (0, 0)) fun b7 h8 =>
        callInt P .i64 n_loop_Loop_Push #[(.pointer none), (.slice (some ⟨b7, 0, none⟩) 1 1)] h8 fun n10 h9 =>
        ifB (n10 == (1 : Int)) (
          callInt P .i64 n_loop_Loop_Width #[(.pointer none)] h9 fun n12 h11 =>
          callInt P .i64 n_loop_Loop_Room #[(.pointer none)] h11 fun n14 h13 =>
          callInt P .i64 n_loop_Loop_Count #[(.pointer none)] h13 fun n16 h15 =>
          callInt P .i64 n_loop_Loop_Oldest #[(.pointer none)] h15 fun n18 h17 =>
          ifB ((IntKind.wrap .i64 ((IntKind.wrap .i64 ((IntKind.wrap .i64 (n12 + n14)) + n16)) + n18)) == (0 : Int)) (
            callBool P n_loop_Loop_Seek #[(.pointer none), (.int .i64 t_2)] h17 fun b20 h19 =>
            ifB (!b20) (
              callPtr P n_loop_New #[(.pointer none), (.int .i64 (1 : Int))] h19 fun p22 h21 =>
              ifB ((p22).isNone) (
                callPtr P n_arena_New #[(.int .i64 (andI .i64 n_1 (31 : Int)))] h21 fun p24 h23 =>
                callPtr P n_arena_Arena_Part #[(.pointer p24), (.int .i64 (0 : Int)), (.int .i64 (andI .i64 n_1 (31 : Int)))] h23 fun p26 h25 =>
                callPtr P n_loop_New #[(.pointer p26), (.int .i64 width_0)] h25 fun p28 h27 =>
                ifB (decide (width_0 ≥ (1 : Int))) (
                  Q (.bool ((!(p28).isNone) == (decide (width_0 ≤ (andI .i64 n_1 (31 : Int)))))) h27) (
                  Q (.bool ((!(p28).isNone) == false)) h27)) (
                Q (.bool false) h21)) (
              Q (.bool false) h19)) (
            Q (.bool false) h17)) (
          Q (.bool false) h9)) (
        Q (.bool false) h5)) (
      Q (.bool false) h5)) (
    Q (.bool false) h5)
noncomputable def tab_law08_LoopNil : Tab := { sch := lookT .done [], lp := lookT [] [], jn := lookT none [] }
theorem eq_law08_LoopNil (width_0 : Int) (n_1 : Int) (t_2 : Int) (h : Heap) (Q : Value → Heap → Prop) : fnI P Try.f5 tab_law08_LoopNil [(.int .i64 width_0), (.int .i64 n_1), (.int .i64 t_2)] h Q = law08_LoopNil width_0 n_1 t_2 h Q := by kernel_rfl
theorem ok_law08_LoopNil : fnOk P Try.f5 tab_law08_LoopNil = true := by kernel_rfl
theorem call_law08_LoopNil (width_0 : Int) (n_1 : Int) (t_2 : Int) {h : Heap} {Q : Value → Heap → Prop} (H : law08_LoopNil width_0 n_1 t_2 h Q) : callP P n_law08_LoopNil #[(.int .i64 width_0), (.int .i64 n_1), (.int .i64 t_2)] h Q :=
  @callP_of P n_law08_LoopNil Try.f5 tab_law08_LoopNil [(.int .i64 width_0), (.int .i64 n_1), (.int .i64 t_2)] h Q mixed Try.func5 Try.call5 ok_law08_LoopNil (Eq.mpr (eq_law08_LoopNil width_0 n_1 t_2 h Q) H)

/-! ### earshot/earshotref08.New: function 21 -/
def ref08_New (n_0 : Int) (width_1 : Int) (h : Heap) (Q : Value → Heap → Prop) : Prop :=
  ifB (decide (n_0 < (0 : Int))) (
    Q (.pointer none) h) (
    ifB (decide (width_1 < (1 : Int))) (
      Q (.pointer none) h) (
      neI width_1 fun _ =>
      ifB ((IntKind.wrap .i64 (Int.tdiv n_0 width_1)) == (0 : Int)) (
        Q (.pointer none) h) (
        neI width_1 fun _ =>
        mkI 3 1 8 (.int .i64 (0 : Int)) n_0 n_0 h fun b1 h2 =>
        newI h2 (.cells #[(.slice (some ⟨b1, 0, none⟩) n_0.toNat n_0.toNat), (.int .i64 width_1), (.int .i64 (IntKind.wrap .i64 (Int.tdiv n_0 width_1))), (.int .i64 (0 : Int))] 48 (0, 0)) fun b3 h4 =>
        Q (.pointer (some ⟨b3, 0, none⟩)) h4)))
noncomputable def tab_ref08_New : Tab := { sch := lookT .done [(3, (.one 0 (.one 2 (.one 3 (.one 4 (.one 5 (.alt 1 (.one 6 (.alt 7 (.one 8 .done) .stop)) .stop)))))))], lp := lookT [] [], jn := lookT none [] }
theorem eq_ref08_New (n_0 : Int) (width_1 : Int) (h : Heap) (Q : Value → Heap → Prop) : fnI P Try.f21 tab_ref08_New [(.int .i64 n_0), (.int .i64 width_1)] h Q = ref08_New n_0 width_1 h Q := by kernel_rfl
theorem ok_ref08_New : fnOk P Try.f21 tab_ref08_New = true := by kernel_rfl
theorem call_ref08_New (n_0 : Int) (width_1 : Int) {h : Heap} {Q : Value → Heap → Prop} (H : ref08_New n_0 width_1 h Q) : callP P n_ref08_New #[(.int .i64 n_0), (.int .i64 width_1)] h Q :=
  @callP_of P n_ref08_New Try.f21 tab_ref08_New [(.int .i64 n_0), (.int .i64 width_1)] h Q mixed Try.func21 Try.call21 ok_ref08_New (Eq.mpr (eq_ref08_New n_0 width_1 h Q) H)

/-! ### (*earshot/earshotref08.Loop).Oldest: function 27 -/
def ref08_Loop_Oldest (l_0 : Option Addr) (h : Heap) (Q : Value → Heap → Prop) : Prop :=
  nilI l_0 fun a1 =>
  nilI l_0 fun a2 =>
  ldInt .i64 h (Addr.add a1 3) fun n3 =>
  ldInt .i64 h (Addr.add a2 2) fun n4 =>
  ifB (decide (n3 > n4)) (
    nilI l_0 fun a5 =>
    nilI l_0 fun a6 =>
    ldInt .i64 h (Addr.add a5 3) fun n7 =>
    ldInt .i64 h (Addr.add a6 2) fun n8 =>
    Q (.int .i64 (IntKind.wrap .i64 (n7 - n8))) h) (
    Q (.int .i64 (0 : Int)) h)
noncomputable def tab_ref08_Loop_Oldest : Tab := { sch := lookT .done [(1, (.one 0 (.one 1 (.one 2 (.one 4 (.one 5 (.one 6 (.one 3 (.one 7 (.one 8 .done)))))))))), (2, (.one 0 (.one 1 (.one 2 (.one 4 (.one 5 (.one 6 (.one 3 (.one 7 (.one 8 (.one 9 .done)))))))))))], lp := lookT [] [], jn := lookT none [] }
theorem eq_ref08_Loop_Oldest (l_0 : Option Addr) (h : Heap) (Q : Value → Heap → Prop) : fnI P Try.f27 tab_ref08_Loop_Oldest [(.pointer l_0)] h Q = ref08_Loop_Oldest l_0 h Q := by kernel_rfl
theorem ok_ref08_Loop_Oldest : fnOk P Try.f27 tab_ref08_Loop_Oldest = true := by kernel_rfl
theorem call_ref08_Loop_Oldest (l_0 : Option Addr) {h : Heap} {Q : Value → Heap → Prop} (H : ref08_Loop_Oldest l_0 h Q) : callP P n_ref08_Loop_Oldest #[(.pointer l_0)] h Q :=
  @callP_of P n_ref08_Loop_Oldest Try.f27 tab_ref08_Loop_Oldest [(.pointer l_0)] h Q mixed Try.func27 Try.call27 ok_ref08_Loop_Oldest (Eq.mpr (eq_ref08_Loop_Oldest l_0 h Q) H)

/-! ### (*earshot/earshotref08.Loop).Get: function 22 -/
def ref08_Loop_Get (l_0 : Option Addr) (t_1 : Int) (h : Heap) (Q : Value → Heap → Prop) : Prop :=
  newI h (.cells #[(.slice none 0 0), (.bool false)] 50 (0, 0)) fun b1 h2 =>
  callInt P .i64 n_ref08_Loop_Oldest #[(.pointer l_0)] h2 fun n4 h3 =>
  ifB (decide (t_1 < n4)) (
    stI h3 ⟨b1, 0, none⟩ (.slice none 0 0) fun h5 =>
    stI h5 ⟨b1, 1, none⟩ (.bool false) fun h6 =>
    ldSlice h6 ⟨b1, 0, none⟩ fun p7 l7 c7 =>
    ldBool h6 ⟨b1, 1, none⟩ fun b8 =>
    Q (.agg #[(.slice p7 l7 c7), (.bool b8)]) h6) (
    nilI l_0 fun a9 =>
    ldInt .i64 h3 (Addr.add a9 3) fun n10 =>
    ifB (decide (t_1 ≥ n10)) (
      stI h3 ⟨b1, 0, none⟩ (.slice none 0 0) fun h11 =>
      stI h11 ⟨b1, 1, none⟩ (.bool false) fun h12 =>
      ldSlice h12 ⟨b1, 0, none⟩ fun p13 l13 c13 =>
      ldBool h12 ⟨b1, 1, none⟩ fun b14 =>
      Q (.agg #[(.slice p13 l13 c13), (.bool b14)]) h12) (
      nilI l_0 fun a15 =>
      nilI l_0 fun a16 =>
      ldInt .i64 h3 (Addr.add a15 2) fun n17 =>
      neI n17 fun _ =>
      ldInt .i64 h3 (Addr.add a16 1) fun n18 =>
      nilI l_0 fun a19 =>
      nilI l_0 fun a20 =>
      ldSlice h3 a19 fun p21 l21 c21 =>
      ldInt .i64 h3 (Addr.add a20 1) fun n22 =>
      bndI (IntKind.wrap .i64 ((IntKind.wrap .i64 ((Int.tmod t_1 n17) * n18)) + n22)) c21 fun l23 =>
      bndI (IntKind.wrap .i64 ((Int.tmod t_1 n17) * n18)) l23 fun l24 =>
      newI h3 (.cells #[] 3 (0, 0)) fun b25 h26 =>
      appI 3 1 8 (.int .i64 (0 : Int)) (some ⟨b25, 0, none⟩) 0 0 (if c21 = l24 then p21 else Option.map (fun a => a.add (l24 * 1)) p21) (l23 - l24) h26 fun p27 l27 c27 h28 =>
      cellH h28 (Addr.add a20 1) = some (.int .i64 n22) ∧
      cellH h28 a19 = some (.slice p21 l21 c21) ∧
      stI h28 ⟨b1, 0, none⟩ (.slice p27 l27 c27) fun h29 =>
      stI h29 ⟨b1, 1, none⟩ (.bool true) fun h30 =>
      ldSlice h30 ⟨b1, 0, none⟩ fun p31 l31 c31 =>
      ldBool h30 ⟨b1, 1, none⟩ fun b32 =>
      Q (.agg #[(.slice p31 l31 c31), (.bool b32)]) h30))
noncomputable def tab_ref08_Loop_Get : Tab := { sch := lookT .done [(3, (.one 0 (.one 1 (.one 2 (.one 3 (.one 6 (.one 7 (.one 8 (.one 4 (.one 5 (.one 9 (.one 10 (.one 11 .done))))))))))))), (4, (.one 1 (.one 2 (.one 3 (.one 5 (.one 6 (.one 7 (.one 8 (.one 9 (.early 4 (.early 10 (.one 11 (.one 12 (.alt 0 (.alt 13 (.one 14 (.alt 15 .done .stop)) .stop) .stop))))))))))))))], lp := lookT [] [], jn := lookT none [] }
theorem eq_ref08_Loop_Get (l_0 : Option Addr) (t_1 : Int) (h : Heap) (Q : Value → Heap → Prop) : fnI P Try.f22 tab_ref08_Loop_Get [(.pointer l_0), (.int .i64 t_1)] h Q = ref08_Loop_Get l_0 t_1 h Q := by kernel_rfl
theorem ok_ref08_Loop_Get : fnOk P Try.f22 tab_ref08_Loop_Get = true := by kernel_rfl
theorem call_ref08_Loop_Get (l_0 : Option Addr) (t_1 : Int) {h : Heap} {Q : Value → Heap → Prop} (H : ref08_Loop_Get l_0 t_1 h Q) : callP P n_ref08_Loop_Get #[(.pointer l_0), (.int .i64 t_1)] h Q :=
  @callP_of P n_ref08_Loop_Get Try.f22 tab_ref08_Loop_Get [(.pointer l_0), (.int .i64 t_1)] h Q mixed Try.func22 Try.call22 ok_ref08_Loop_Get (Eq.mpr (eq_ref08_Loop_Get l_0 t_1 h Q) H)

/-! ### (*earshot/earshotref08.Loop).Seek: function 23 -/
def ref08_Loop_Seek (l_0 : Option Addr) (n_1 : Int) (h : Heap) (Q : Value → Heap → Prop) : Prop :=
  ifB (decide (n_1 < (0 : Int))) (
    Q (.bool false) h) (
    nilI l_0 fun a1 =>
    stI h (Addr.add a1 3) (.int .i64 n_1) fun h2 =>
    Q (.bool true) h2)
noncomputable def tab_ref08_Loop_Seek : Tab := { sch := lookT .done [], lp := lookT [] [], jn := lookT none [] }
theorem eq_ref08_Loop_Seek (l_0 : Option Addr) (n_1 : Int) (h : Heap) (Q : Value → Heap → Prop) : fnI P Try.f23 tab_ref08_Loop_Seek [(.pointer l_0), (.int .i64 n_1)] h Q = ref08_Loop_Seek l_0 n_1 h Q := by kernel_rfl
theorem ok_ref08_Loop_Seek : fnOk P Try.f23 tab_ref08_Loop_Seek = true := by kernel_rfl
theorem call_ref08_Loop_Seek (l_0 : Option Addr) (n_1 : Int) {h : Heap} {Q : Value → Heap → Prop} (H : ref08_Loop_Seek l_0 n_1 h Q) : callP P n_ref08_Loop_Seek #[(.pointer l_0), (.int .i64 n_1)] h Q :=
  @callP_of P n_ref08_Loop_Seek Try.f23 tab_ref08_Loop_Seek [(.pointer l_0), (.int .i64 n_1)] h Q mixed Try.func23 Try.call23 ok_ref08_Loop_Seek (Eq.mpr (eq_ref08_Loop_Seek l_0 n_1 h Q) H)

/-! ### (earshot/earshotlaw08.Act).frame: function 24 -/
def law08_Act_frame_l8 (Q : Value → Heap → Prop) (K1 : (Int × Int × (Option Addr × Nat × Nat) × Int × Unit) → Heap → Prop) (width_1 : Int) (n_5 : Int) (out_6_p : Option Addr) (out_6_n : Nat) (out_6_c : Nat) (i_7 : Int) (h8 : Heap) : Prop :=
  ifB (decide (i_7 < width_1)) (
    newI h8 (.cells #[(.int .i64 (IntKind.wrap .i64 ((shrI n_5 1) + i_7)))] 3 (0, 0)) fun b9 h10 =>
    appI 3 1 8 (.int .i64 (0 : Int)) out_6_p out_6_n out_6_c (some ⟨b9, 0, none⟩) 1 h10 fun p11 l11 c11 h12 =>
    K1 (width_1, n_5, (p11, l11, c11), (IntKind.wrap .i64 (i_7 + (1 : Int))), ()) h12) (
    Q (.slice out_6_p out_6_n out_6_c) h8)
def law08_Act_frame_j6 (Q : Value → Heap → Prop) (width_1 : Int) (n_5 : Int) (h7 : Heap) : Prop :=
  LoopS (S := (Int × Int × (Option Addr × Nat × Nat) × Int × Unit)) (fun K1 s h => law08_Act_frame_l8 Q K1 s.1 s.2.1 s.2.2.1.1 s.2.2.1.2.1 s.2.2.1.2.2 s.2.2.2.1 h) (width_1, n_5, (none, 0, 0), (0 : Int), ()) h7
def law08_Act_frame_j4 (Q : Value → Heap → Prop) (width_1 : Int) (s_2 : Addr) (n_5 : Int) (h5 : Heap) : Prop :=
  ∃ J6 : (Int × Int × Unit) → Heap → Prop, (∀ s h, J6 s h → law08_Act_frame_j6 Q s.1 s.2.1 h) ∧
  ldBool h5 (Addr.add s_2 3) fun b13 =>
  ifB b13 (
    J6 ((IntKind.wrap .i64 (width_1 + (1 : Int))), n_5, ()) h5) (
    J6 (width_1, n_5, ()) h5)
def law08_Act_frame (s_0_0 : Int) (s_0_1 : Int) (s_0_2 : Bool) (s_0_3 : Bool) (width_1 : Int) (h : Heap) (Q : Value → Heap → Prop) : Prop :=
  newI h (.cells #[(.int .i64 s_0_0), (.int .i64 s_0_1), (.bool s_0_2), (.bool s_0_3)] 46 (0, 0)) fun b1 h2 =>
  ldInt .i64 h2 ⟨b1, 1, none⟩ fun n3 =>
  ∃ J4 : (Int × Addr × Int × Unit) → Heap → Prop, (∀ s h, J4 s h → law08_Act_frame_j4 Q s.1 s.2.1 s.2.2.1 h) ∧
  ldBool h2 ⟨b1, 2, none⟩ fun b14 =>
  ifB (!b14) (
    ldInt .i64 h2 ⟨b1, 1, none⟩ fun n15 =>
    J4 (width_1, ⟨b1, 0, none⟩, (andI .i64 n15 (1048575 : Int)), ()) h2) (
    J4 (width_1, ⟨b1, 0, none⟩, n3, ()) h2)
noncomputable def tab_law08_Act_frame : Tab := { sch := lookT .done [], lp := lookT [] [(8, [(1, .sc (.int .i64)), (5, .sc (.int .i64)), (6, .sc (.slice)), (7, .sc (.int .i64))])], jn := lookT none [(4, some [(1, .sc (.int .i64)), (2, .sc (.adr)), (5, .sc (.int .i64))]), (6, some [(1, .sc (.int .i64)), (5, .sc (.int .i64))])] }
theorem eq_law08_Act_frame (s_0_0 : Int) (s_0_1 : Int) (s_0_2 : Bool) (s_0_3 : Bool) (width_1 : Int) (h : Heap) (Q : Value → Heap → Prop) : fnI P Try.f24 tab_law08_Act_frame [(.agg #[(.int .i64 s_0_0), (.int .i64 s_0_1), (.bool s_0_2), (.bool s_0_3)]), (.int .i64 width_1)] h Q = law08_Act_frame s_0_0 s_0_1 s_0_2 s_0_3 width_1 h Q := by kernel_rfl
theorem ok_law08_Act_frame : fnOk P Try.f24 tab_law08_Act_frame = true := by kernel_rfl
theorem call_law08_Act_frame (s_0_0 : Int) (s_0_1 : Int) (s_0_2 : Bool) (s_0_3 : Bool) (width_1 : Int) {h : Heap} {Q : Value → Heap → Prop} (H : law08_Act_frame s_0_0 s_0_1 s_0_2 s_0_3 width_1 h Q) : callP P n_law08_Act_frame #[(.agg #[(.int .i64 s_0_0), (.int .i64 s_0_1), (.bool s_0_2), (.bool s_0_3)]), (.int .i64 width_1)] h Q :=
  @callP_of P n_law08_Act_frame Try.f24 tab_law08_Act_frame [(.agg #[(.int .i64 s_0_0), (.int .i64 s_0_1), (.bool s_0_2), (.bool s_0_3)]), (.int .i64 width_1)] h Q mixed Try.func24 Try.call24 ok_law08_Act_frame (Eq.mpr (eq_law08_Act_frame s_0_0 s_0_1 s_0_2 s_0_3 width_1 h Q) H)

/-! ### earshot/earshotref07.Word: function 34 -/
def ref07_Word (x_0 : Int) (h : Heap) (Q : Value → Heap → Prop) : Prop :=
  ifB (decide (x_0 ≥ (-2147483648 : Int))) (
    Q (.bool (decide (x_0 < (2147483648 : Int)))) h) (
    Q (.bool false) h)
noncomputable def tab_ref07_Word : Tab := { sch := lookT .done [], lp := lookT [] [], jn := lookT none [] }
theorem eq_ref07_Word (x_0 : Int) (h : Heap) (Q : Value → Heap → Prop) : fnI P Try.f34 tab_ref07_Word [(.int .i64 x_0)] h Q = ref07_Word x_0 h Q := by kernel_rfl
theorem ok_ref07_Word : fnOk P Try.f34 tab_ref07_Word = true := by kernel_rfl
theorem call_ref07_Word (x_0 : Int) {h : Heap} {Q : Value → Heap → Prop} (H : ref07_Word x_0 h Q) : callP P n_ref07_Word #[(.int .i64 x_0)] h Q :=
  @callP_of P n_ref07_Word Try.f34 tab_ref07_Word [(.int .i64 x_0)] h Q mixed Try.func34 Try.call34 ok_ref07_Word (Eq.mpr (eq_ref07_Word x_0 h Q) H)

/-! ### (*earshot/earshotref08.Loop).Push: function 25 -/
def ref08_Loop_Push_l10 (Q : Value → Heap → Prop) (K1 : (Option Addr × (Option Addr × Nat × Nat) × Int × Unit) → Heap → Prop) (K2 : (Option Addr × (Option Addr × Nat × Nat) × Int × Unit) → Heap → Prop) (l_0 : Option Addr) (frame_1_p : Option Addr) (frame_1_n : Nat) (frame_1_c : Nat) (i_7 : Int) (h8 : Heap) : Prop :=
  ifB (decide (i_7 < ((frame_1_n : Nat) : Int))) (
    nilI l_0 fun a9 =>
    nilI l_0 fun a10 =>
    nilI l_0 fun a11 =>
    nilI l_0 fun a12 =>
    idxI frame_1_p i_7 frame_1_n fun a13 =>
    ldSlice h8 a9 fun p14 l14 c14 =>
    ldInt .i64 h8 (Addr.add a10 3) fun n15 =>
    ldInt .i64 h8 (Addr.add a11 2) fun n16 =>
    neI n16 fun _ =>
    ldInt .i64 h8 (Addr.add a12 1) fun n17 =>
    ldInt .i64 h8 (Addr.add a13 (i_7.toNat * 1)) fun n18 =>
    idxI p14 (IntKind.wrap .i64 ((IntKind.wrap .i64 ((Int.tmod n15 n16) * n17)) + i_7)) l14 fun a19 =>
    stI h8 (Addr.add a19 ((IntKind.wrap .i64 ((IntKind.wrap .i64 ((Int.tmod n15 n16) * n17)) + i_7)).toNat * 1)) (.int .i64 n18) fun h20 =>
    K2 (l_0, (frame_1_p, frame_1_n, frame_1_c), (IntKind.wrap .i64 (i_7 + (1 : Int))), ()) h20) (
    nilI l_0 fun a21 =>
    ldInt .i64 h8 (Addr.add a21 3) fun n22 =>
    nilI l_0 fun a23 =>
    stI h8 (Addr.add a23 3) (.int .i64 (IntKind.wrap .i64 (n22 + (1 : Int)))) fun h24 =>
    Q (.int .i64 (0 : Int)) h24)
def ref08_Loop_Push_l4 (Q : Value → Heap → Prop) (K1 : (Option Addr × (Option Addr × Nat × Nat) × Int × Unit) → Heap → Prop) (l_0 : Option Addr) (frame_1_p : Option Addr) (frame_1_n : Nat) (frame_1_c : Nat) (i_5 : Int) (h3 : Heap) : Prop :=
  ifB (decide (i_5 < ((frame_1_n : Nat) : Int))) (
    idxI frame_1_p i_5 frame_1_n fun a4 =>
    ldInt .i64 h3 (Addr.add a4 (i_5.toNat * 1)) fun n5 =>
    callBool P n_ref07_Word #[(.int .i64 n5)] h3 fun b7 h6 =>
    ifB (!b7) (
      Q (.int .i64 (16 : Int)) h6) (
      K1 (l_0, (frame_1_p, frame_1_n, frame_1_c), (IntKind.wrap .i64 (i_5 + (1 : Int))), ()) h6)) (
    LoopS (S := (Option Addr × (Option Addr × Nat × Nat) × Int × Unit)) (fun K2 s h => ref08_Loop_Push_l10 Q K1 K2 s.1 s.2.1.1 s.2.1.2.1 s.2.1.2.2 s.2.2.1 h) (l_0, (frame_1_p, frame_1_n, frame_1_c), (0 : Int), ()) h3)
def ref08_Loop_Push (l_0 : Option Addr) (frame_1_p : Option Addr) (frame_1_n : Nat) (frame_1_c : Nat) (h : Heap) (Q : Value → Heap → Prop) : Prop :=
  nilI l_0 fun a1 =>
  ldInt .i64 h (Addr.add a1 1) fun n2 =>
  ifB (((frame_1_n : Nat) : Int) != n2) (
    Q (.int .i64 (14 : Int)) h) (
    LoopS (S := (Option Addr × (Option Addr × Nat × Nat) × Int × Unit)) (fun K1 s h => ref08_Loop_Push_l4 Q K1 s.1 s.2.1.1 s.2.1.2.1 s.2.1.2.2 s.2.2.1 h) (l_0, (frame_1_p, frame_1_n, frame_1_c), (0 : Int), ()) h)
noncomputable def tab_ref08_Loop_Push : Tab := { sch := lookT .done [(12, (.one 0 (.one 1 (.one 2 (.one 4 (.one 5 (.one 6 (.one 8 (.one 9 (.one 10 (.one 13 (.one 14 (.one 15 (.one 18 (.one 20 (.one 21 (.one 22 (.one 3 (.one 7 (.one 11 (.one 12 (.one 16 (.one 17 (.one 19 (.one 23 (.one 24 (.alt 25 .done .stop)))))))))))))))))))))))))))], lp := lookT [] [(4, [(0, .sc (.ptr)), (1, .sc (.slice)), (5, .sc (.int .i64))]), (10, [(0, .sc (.ptr)), (1, .sc (.slice)), (7, .sc (.int .i64))])], jn := lookT none [] }
theorem eq_ref08_Loop_Push (l_0 : Option Addr) (frame_1_p : Option Addr) (frame_1_n : Nat) (frame_1_c : Nat) (h : Heap) (Q : Value → Heap → Prop) : fnI P Try.f25 tab_ref08_Loop_Push [(.pointer l_0), (.slice frame_1_p frame_1_n frame_1_c)] h Q = ref08_Loop_Push l_0 frame_1_p frame_1_n frame_1_c h Q := by kernel_rfl
theorem ok_ref08_Loop_Push : fnOk P Try.f25 tab_ref08_Loop_Push = true := by kernel_rfl
theorem call_ref08_Loop_Push (l_0 : Option Addr) (frame_1_p : Option Addr) (frame_1_n : Nat) (frame_1_c : Nat) {h : Heap} {Q : Value → Heap → Prop} (H : ref08_Loop_Push l_0 frame_1_p frame_1_n frame_1_c h Q) : callP P n_ref08_Loop_Push #[(.pointer l_0), (.slice frame_1_p frame_1_n frame_1_c)] h Q :=
  @callP_of P n_ref08_Loop_Push Try.f25 tab_ref08_Loop_Push [(.pointer l_0), (.slice frame_1_p frame_1_n frame_1_c)] h Q mixed Try.func25 Try.call25 ok_ref08_Loop_Push (Eq.mpr (eq_ref08_Loop_Push l_0 frame_1_p frame_1_n frame_1_c h Q) H)

/-! ### slices.Clone[[]int,int]: function 35 -/
def slices_Clone_int_int (s_0_p : Option Addr) (s_0_n : Nat) (s_0_c : Nat) (h : Heap) (Q : Value → Heap → Prop) : Prop :=
  ifB ((s_0_p).isNone) (
    Q (.slice none 0 0) h) (
    newI h (.cells #[] 3 (0, 0)) fun b1 h2 =>
    appI 3 1 8 (.int .i64 (0 : Int)) (some ⟨b1, 0, none⟩) 0 0 s_0_p s_0_n h2 fun p3 l3 c3 h4 =>
    Q (.slice p3 l3 c3) h4)
noncomputable def tab_slices_Clone_int_int : Tab := { sch := lookT .done [], lp := lookT [] [], jn := lookT none [] }
theorem eq_slices_Clone_int_int (s_0_p : Option Addr) (s_0_n : Nat) (s_0_c : Nat) (h : Heap) (Q : Value → Heap → Prop) : fnI P Try.f35 tab_slices_Clone_int_int [(.slice s_0_p s_0_n s_0_c)] h Q = slices_Clone_int_int s_0_p s_0_n s_0_c h Q := by kernel_rfl
theorem ok_slices_Clone_int_int : fnOk P Try.f35 tab_slices_Clone_int_int = true := by kernel_rfl
theorem call_slices_Clone_int_int (s_0_p : Option Addr) (s_0_n : Nat) (s_0_c : Nat) {h : Heap} {Q : Value → Heap → Prop} (H : slices_Clone_int_int s_0_p s_0_n s_0_c h Q) : callP P n_slices_Clone_int_int #[(.slice s_0_p s_0_n s_0_c)] h Q :=
  @callP_of P n_slices_Clone_int_int Try.f35 tab_slices_Clone_int_int [(.slice s_0_p s_0_n s_0_c)] h Q mixed Try.func35 Try.call35 ok_slices_Clone_int_int (Eq.mpr (eq_slices_Clone_int_int s_0_p s_0_n s_0_c h Q) H)

/-! ### (*earshot/arena.Arena).Words: function 26 -/
def arena_Arena_Words (a_0 : Option Addr) (h : Heap) (Q : Value → Heap → Prop) : Prop :=
  ifB ((a_0).isNone) (
    Q (.slice none 0 0) h) (
    nilI a_0 fun a1 =>
    ldSlice h a1 fun p2 l2 c2 =>
    callSlice P n_slices_Clone_int_int #[(.slice p2 l2 c2)] h fun p4 l4 c4 h3 =>
    Q (.slice p4 l4 c4) h3)
noncomputable def tab_arena_Arena_Words : Tab := { sch := lookT .done [], lp := lookT [] [], jn := lookT none [] }
theorem eq_arena_Arena_Words (a_0 : Option Addr) (h : Heap) (Q : Value → Heap → Prop) : fnI P Try.f26 tab_arena_Arena_Words [(.pointer a_0)] h Q = arena_Arena_Words a_0 h Q := by kernel_rfl
theorem ok_arena_Arena_Words : fnOk P Try.f26 tab_arena_Arena_Words = true := by kernel_rfl
theorem call_arena_Arena_Words (a_0 : Option Addr) {h : Heap} {Q : Value → Heap → Prop} (H : arena_Arena_Words a_0 h Q) : callP P n_arena_Arena_Words #[(.pointer a_0)] h Q :=
  @callP_of P n_arena_Arena_Words Try.f26 tab_arena_Arena_Words [(.pointer a_0)] h Q mixed Try.func26 Try.call26 ok_arena_Arena_Words (Eq.mpr (eq_arena_Arena_Words a_0 h Q) H)

/-! ### earshot/earshotlaw08.LoopPlays: function 6 -/
def law08_LoopPlays_j35 (Q : Value → Heap → Prop) (K1 : ((Option Addr × Nat × Nat) × Bool × Int × Int × Option Addr × Option Addr × Option Addr × Int × Unit) → Heap → Prop) (script_2_p : Option Addr) (script_2_n : Nat) (script_2_c : Nat) (up_7 : Bool) (words_8 : Int) (w_9 : Int) (a_10 : Option Addr) (l_11 : Option Addr) (m_12 : Option Addr) (i_13 : Int) (all_22_p : Option Addr) (all_22_n : Nat) (all_22_c : Nat) (h30 : Heap) : Prop :=
  bndI (IntKind.wrap .i64 ((2 : Int) + words_8)) all_22_c fun l31 =>
  bndI (2 : Int) l31 fun l32 =>
  nilI m_12 fun a33 =>
  ldSlice h30 a33 fun p34 l34 c34 =>
  callBool P n_ref04_Same #[(.slice (if all_22_c = l32 then all_22_p else Option.map (fun a => a.add (l32 * 1)) all_22_p) (l31 - l32) (all_22_c - l32)), (.slice p34 l34 c34)] h30 fun b36 h35 =>
  ifB (!b36) (
    Q (.bool false) h35) (
    idxI all_22_p (0 : Int) all_22_n fun a37 =>
    ldInt .i64 h35 (Addr.add a37 ((0 : Int).toNat * 1)) fun n38 =>
    ifB (n38 != (0 : Int)) (
      Q (.bool false) h35) (
      idxI all_22_p (1 : Int) all_22_n fun a39 =>
      ldInt .i64 h35 (Addr.add a39 ((1 : Int).toNat * 1)) fun n40 =>
      ifB (n40 != (0 : Int)) (
        Q (.bool false) h35) (
        idxI all_22_p (IntKind.wrap .i64 (words_8 + (2 : Int))) all_22_n fun a41 =>
        ldInt .i64 h35 (Addr.add a41 ((IntKind.wrap .i64 (words_8 + (2 : Int))).toNat * 1)) fun n42 =>
        ifB (n42 != (0 : Int)) (
          Q (.bool false) h35) (
          K1 ((script_2_p, script_2_n, script_2_c), up_7, words_8, w_9, a_10, l_11, m_12, (IntKind.wrap .i64 (i_13 + (1 : Int))), ()) h35))))
def law08_LoopPlays_j32 (Q : Value → Heap → Prop) (K1 : ((Option Addr × Nat × Nat) × Bool × Int × Int × Option Addr × Option Addr × Option Addr × Int × Unit) → Heap → Prop) (script_2_p : Option Addr) (script_2_n : Nat) (script_2_c : Nat) (up_7 : Bool) (words_8 : Int) (w_9 : Int) (a_10 : Option Addr) (l_11 : Option Addr) (m_12 : Option Addr) (i_13 : Int) (ok_15 : Bool) (h26 : Heap) : Prop :=
  callSlice P n_arena_Arena_Words #[(.pointer a_10)] h26 fun p28 l28 c28 h27 =>
  ∃ J29 : ((Option Addr × Nat × Nat) × Bool × Int × Int × Option Addr × Option Addr × Option Addr × Int × (Option Addr × Nat × Nat) × Unit) → Heap → Prop, (∀ s h, J29 s h → law08_LoopPlays_j35 Q K1 s.1.1 s.1.2.1 s.1.2.2 s.2.1 s.2.2.1 s.2.2.2.1 s.2.2.2.2.1 s.2.2.2.2.2.1 s.2.2.2.2.2.2.1 s.2.2.2.2.2.2.2.1 s.2.2.2.2.2.2.2.2.1.1 s.2.2.2.2.2.2.2.2.1.2.1 s.2.2.2.2.2.2.2.2.1.2.2 h) ∧
  ifB (!ok_15) (
    Q (.bool false) h27) (
    ifB (((l28 : Nat) : Int) != (IntKind.wrap .i64 (words_8 + (3 : Int)))) (
      Q (.bool false) h27) (
      nilI m_12 fun a43 =>
      ldInt .i64 h27 (Addr.add a43 3) fun n44 =>
      callInt P .i64 n_loop_Loop_Count #[(.pointer l_11)] h27 fun n46 h45 =>
      cellH h45 (Addr.add a43 3) = some (.int .i64 n44) ∧
      ifB (n46 != n44) (
        cellH h45 (Addr.add a43 3) = some (.int .i64 n44) ∧
        cellH h45 (Addr.add a43 3) = some (.int .i64 n44) ∧
        cellH h45 (Addr.add a43 3) = some (.int .i64 n44) ∧
        cellH h45 (Addr.add a43 3) = some (.int .i64 n44) ∧
        Q (.bool false) h45) (
        callInt P .i64 n_loop_Loop_Oldest #[(.pointer l_11)] h45 fun n48 h47 =>
        cellH h47 (Addr.add a43 3) = some (.int .i64 n44) ∧
        callInt P .i64 n_ref08_Loop_Oldest #[(.pointer m_12)] h47 fun n50 h49 =>
        cellH h49 (Addr.add a43 3) = some (.int .i64 n44) ∧
        ifB (n48 != n50) (
          cellH h49 (Addr.add a43 3) = some (.int .i64 n44) ∧
          cellH h49 (Addr.add a43 3) = some (.int .i64 n44) ∧
          Q (.bool false) h49) (
          nilI m_12 fun a51 =>
          ldInt .i64 h49 (Addr.add a51 2) fun n52 =>
          callInt P .i64 n_loop_Loop_Room #[(.pointer l_11)] h49 fun n54 h53 =>
          cellH h53 (Addr.add a51 2) = some (.int .i64 n52) ∧
          cellH h53 (Addr.add a43 3) = some (.int .i64 n44) ∧
          ifB (n54 != n52) (
            cellH h53 (Addr.add a51 2) = some (.int .i64 n52) ∧
            cellH h53 (Addr.add a43 3) = some (.int .i64 n44) ∧
            Q (.bool false) h53) (
            callInt P .i64 n_loop_Loop_Width #[(.pointer l_11)] h53 fun n56 h55 =>
            cellH h55 (Addr.add a51 2) = some (.int .i64 n52) ∧
            cellH h55 (Addr.add a43 3) = some (.int .i64 n44) ∧
            ifB (n56 != w_9) (
              Q (.bool false) h55) (
              J29 ((script_2_p, script_2_n, script_2_c), up_7, words_8, w_9, a_10, l_11, m_12, i_13, (p28, l28, c28), ()) h55))))))
def law08_LoopPlays_j14 (Q : Value → Heap → Prop) (K1 : ((Option Addr × Nat × Nat) × Bool × Int × Int × Option Addr × Option Addr × Option Addr × Int × Unit) → Heap → Prop) (script_2_p : Option Addr) (script_2_n : Nat) (script_2_c : Nat) (up_7 : Bool) (words_8 : Int) (w_9 : Int) (a_10 : Option Addr) (l_11 : Option Addr) (m_12 : Option Addr) (i_13 : Int) (h13 : Heap) : Prop :=
  idxI script_2_p i_13 script_2_n fun a14 =>
  ldInt .i64 h13 (Addr.add a14 (i_13.toNat * 4)) fun n15 =>
  ldInt .i64 h13 (Addr.add (Addr.add a14 (i_13.toNat * 4)) 1) fun n16 =>
  ldBool h13 (Addr.add (Addr.add a14 (i_13.toNat * 4)) 2) fun b17 =>
  ldBool h13 (Addr.add (Addr.add a14 (i_13.toNat * 4)) 3) fun b18 =>
  newI h13 (.cells #[(.int .i64 (0 : Int)), (.int .i64 (0 : Int)), (.bool false), (.bool false)] 46 (0, 0)) fun b19 h20 =>
  stI h20 ⟨b19, 0, none⟩ (.int .i64 n15) fun h21 =>
  stI h21 ⟨b19, 1, none⟩ (.int .i64 n16) fun h22 =>
  stI h22 ⟨b19, 2, none⟩ (.bool b17) fun h23 =>
  stI h23 ⟨b19, 3, none⟩ (.bool b18) fun h24 =>
  ∃ J25 : ((Option Addr × Nat × Nat) × Bool × Int × Int × Option Addr × Option Addr × Option Addr × Int × Bool × Unit) → Heap → Prop, (∀ s h, J25 s h → law08_LoopPlays_j32 Q K1 s.1.1 s.1.2.1 s.1.2.2 s.2.1 s.2.2.1 s.2.2.2.1 s.2.2.2.2.1 s.2.2.2.2.2.1 s.2.2.2.2.2.2.1 s.2.2.2.2.2.2.2.1 s.2.2.2.2.2.2.2.2.1 h) ∧
  ldInt .i64 h24 ⟨b19, 0, none⟩ fun n57 =>
  ifB ((andI .i64 n57 (7 : Int)) == (5 : Int)) (
    nilI m_12 fun a58 =>
    ldInt .i64 h24 (Addr.add a58 3) fun n59 =>
    ldInt .i64 h24 ⟨b19, 1, none⟩ fun n60 =>
    ldBool h24 ⟨b19, 2, none⟩ fun b61 =>
    ifB b61 (
      ldInt .i64 h24 ⟨b19, 1, none⟩ fun n62 =>
      callP P n_loop_Loop_Get #[(.pointer l_11), (.int .i64 n62)] h24 fun v64 h63 =>
      ∃ p65 : Option Addr, ∃ l65 : Nat, ∃ c65 : Nat, ∃ b66 : Bool, v64 = (.tuple #[(.slice p65 l65 c65), (.bool b66)]) ∧
      callP P n_ref08_Loop_Get #[(.pointer m_12), (.int .i64 n62)] h63 fun v68 h67 =>
      ∃ p69 : Option Addr, ∃ l69 : Nat, ∃ c69 : Nat, ∃ b70 : Bool, v68 = (.agg #[(.slice p69 l69 c69), (.bool b70)]) ∧
      newI h67 (.cells #[(.slice none 0 0), (.bool false)] 50 (0, 0)) fun b71 h72 =>
      stI h72 ⟨b71, 0, none⟩ (.slice p69 l69 c69) fun h73 =>
      stI h73 ⟨b71, 1, none⟩ (.bool b70) fun h74 =>
      ldBool h74 ⟨b71, 1, none⟩ fun b75 =>
      ifB (b66 == b75) (
        ldSlice h74 ⟨b71, 0, none⟩ fun p76 l76 c76 =>
        callBool P n_ref04_Same #[(.slice p65 l65 c65), (.slice p76 l76 c76)] h74 fun b78 h77 =>
        J25 ((script_2_p, script_2_n, script_2_c), up_7, words_8, w_9, a_10, l_11, m_12, i_13, b78, ()) h77) (
        J25 ((script_2_p, script_2_n, script_2_c), up_7, words_8, w_9, a_10, l_11, m_12, i_13, false, ()) h74)) (
      callP P n_loop_Loop_Get #[(.pointer l_11), (.int .i64 (IntKind.wrap .i64 ((IntKind.wrap .i64 (n59 - (andI .i64 n60 (15 : Int)))) + (2 : Int))))] h24 fun v80 h79 =>
      ∃ p81 : Option Addr, ∃ l81 : Nat, ∃ c81 : Nat, ∃ b82 : Bool, v80 = (.tuple #[(.slice p81 l81 c81), (.bool b82)]) ∧
      callP P n_ref08_Loop_Get #[(.pointer m_12), (.int .i64 (IntKind.wrap .i64 ((IntKind.wrap .i64 (n59 - (andI .i64 n60 (15 : Int)))) + (2 : Int))))] h79 fun v84 h83 =>
      ∃ p85 : Option Addr, ∃ l85 : Nat, ∃ c85 : Nat, ∃ b86 : Bool, v84 = (.agg #[(.slice p85 l85 c85), (.bool b86)]) ∧
      newI h83 (.cells #[(.slice none 0 0), (.bool false)] 50 (0, 0)) fun b87 h88 =>
      stI h88 ⟨b87, 0, none⟩ (.slice p85 l85 c85) fun h89 =>
      stI h89 ⟨b87, 1, none⟩ (.bool b86) fun h90 =>
      ldBool h90 ⟨b87, 1, none⟩ fun b91 =>
      ifB (b82 == b91) (
        ldSlice h90 ⟨b87, 0, none⟩ fun p92 l92 c92 =>
        callBool P n_ref04_Same #[(.slice p81 l81 c81), (.slice p92 l92 c92)] h90 fun b94 h93 =>
        J25 ((script_2_p, script_2_n, script_2_c), up_7, words_8, w_9, a_10, l_11, m_12, i_13, b94, ()) h93) (
        J25 ((script_2_p, script_2_n, script_2_c), up_7, words_8, w_9, a_10, l_11, m_12, i_13, false, ()) h90))) (
    ifB ((andI .i64 n57 (7 : Int)) == (6 : Int)) (
      nilI m_12 fun a95 =>
      ldInt .i64 h24 (Addr.add a95 3) fun n96 =>
      ldInt .i64 h24 ⟨b19, 1, none⟩ fun n97 =>
      ldBool h24 ⟨b19, 2, none⟩ fun b98 =>
      ifB b98 (
        ldInt .i64 h24 ⟨b19, 1, none⟩ fun n99 =>
        callP P n_loop_Loop_Get #[(.pointer l_11), (.int .i64 n99)] h24 fun v101 h100 =>
        ∃ p102 : Option Addr, ∃ l102 : Nat, ∃ c102 : Nat, ∃ b103 : Bool, v101 = (.tuple #[(.slice p102 l102 c102), (.bool b103)]) ∧
        callP P n_ref08_Loop_Get #[(.pointer m_12), (.int .i64 n99)] h100 fun v105 h104 =>
        ∃ p106 : Option Addr, ∃ l106 : Nat, ∃ c106 : Nat, ∃ b107 : Bool, v105 = (.agg #[(.slice p106 l106 c106), (.bool b107)]) ∧
        newI h104 (.cells #[(.slice none 0 0), (.bool false)] 50 (0, 0)) fun b108 h109 =>
        stI h109 ⟨b108, 0, none⟩ (.slice p106 l106 c106) fun h110 =>
        stI h110 ⟨b108, 1, none⟩ (.bool b107) fun h111 =>
        ldBool h111 ⟨b108, 1, none⟩ fun b112 =>
        ifB (b103 == b112) (
          ldSlice h111 ⟨b108, 0, none⟩ fun p113 l113 c113 =>
          callBool P n_ref04_Same #[(.slice p102 l102 c102), (.slice p113 l113 c113)] h111 fun b115 h114 =>
          J25 ((script_2_p, script_2_n, script_2_c), up_7, words_8, w_9, a_10, l_11, m_12, i_13, b115, ()) h114) (
          J25 ((script_2_p, script_2_n, script_2_c), up_7, words_8, w_9, a_10, l_11, m_12, i_13, false, ()) h111)) (
        callP P n_loop_Loop_Get #[(.pointer l_11), (.int .i64 (IntKind.wrap .i64 ((IntKind.wrap .i64 (n96 - (andI .i64 n97 (15 : Int)))) + (2 : Int))))] h24 fun v117 h116 =>
        ∃ p118 : Option Addr, ∃ l118 : Nat, ∃ c118 : Nat, ∃ b119 : Bool, v117 = (.tuple #[(.slice p118 l118 c118), (.bool b119)]) ∧
        callP P n_ref08_Loop_Get #[(.pointer m_12), (.int .i64 (IntKind.wrap .i64 ((IntKind.wrap .i64 (n96 - (andI .i64 n97 (15 : Int)))) + (2 : Int))))] h116 fun v121 h120 =>
        ∃ p122 : Option Addr, ∃ l122 : Nat, ∃ c122 : Nat, ∃ b123 : Bool, v121 = (.agg #[(.slice p122 l122 c122), (.bool b123)]) ∧
        newI h120 (.cells #[(.slice none 0 0), (.bool false)] 50 (0, 0)) fun b124 h125 =>
        stI h125 ⟨b124, 0, none⟩ (.slice p122 l122 c122) fun h126 =>
        stI h126 ⟨b124, 1, none⟩ (.bool b123) fun h127 =>
        ldBool h127 ⟨b124, 1, none⟩ fun b128 =>
        ifB (b119 == b128) (
          ldSlice h127 ⟨b124, 0, none⟩ fun p129 l129 c129 =>
          callBool P n_ref04_Same #[(.slice p118 l118 c118), (.slice p129 l129 c129)] h127 fun b131 h130 =>
          J25 ((script_2_p, script_2_n, script_2_c), up_7, words_8, w_9, a_10, l_11, m_12, i_13, b131, ()) h130) (
          J25 ((script_2_p, script_2_n, script_2_c), up_7, words_8, w_9, a_10, l_11, m_12, i_13, false, ()) h127))) (
      ifB ((andI .i64 n57 (7 : Int)) == (7 : Int)) (
        ldInt .i64 h24 ⟨b19, 1, none⟩ fun n132 =>
        ldBool h24 ⟨b19, 2, none⟩ fun b133 =>
        ifB b133 (
          ldInt .i64 h24 ⟨b19, 1, none⟩ fun n134 =>
          callBool P n_loop_Loop_Seek #[(.pointer l_11), (.int .i64 (andI .i64 n134 (4611686018427387903 : Int)))] h24 fun b136 h135 =>
          callBool P n_ref08_Loop_Seek #[(.pointer m_12), (.int .i64 (andI .i64 n134 (4611686018427387903 : Int)))] h135 fun b138 h137 =>
          J25 ((script_2_p, script_2_n, script_2_c), up_7, words_8, w_9, a_10, l_11, m_12, i_13, (b136 == b138), ()) h137) (
          callBool P n_loop_Loop_Seek #[(.pointer l_11), (.int .i64 (IntKind.wrap .i64 ((andI .i64 n132 (63 : Int)) - (1 : Int))))] h24 fun b140 h139 =>
          callBool P n_ref08_Loop_Seek #[(.pointer m_12), (.int .i64 (IntKind.wrap .i64 ((andI .i64 n132 (63 : Int)) - (1 : Int))))] h139 fun b142 h141 =>
          J25 ((script_2_p, script_2_n, script_2_c), up_7, words_8, w_9, a_10, l_11, m_12, i_13, (b140 == b142), ()) h141)) (
        ldInt .i64 h24 ⟨b19, 0, none⟩ fun n143 =>
        ldInt .i64 h24 ⟨b19, 1, none⟩ fun n144 =>
        ldBool h24 ⟨b19, 2, none⟩ fun b145 =>
        ldBool h24 ⟨b19, 3, none⟩ fun b146 =>
        callSlice P n_law08_Act_frame #[(.agg #[(.int .i64 n143), (.int .i64 n144), (.bool b145), (.bool b146)]), (.int .i64 w_9)] h24 fun p148 l148 c148 h147 =>
        callInt P .i64 n_loop_Loop_Push #[(.pointer l_11), (.slice p148 l148 c148)] h147 fun n150 h149 =>
        callInt P .i64 n_ref08_Loop_Push #[(.pointer m_12), (.slice p148 l148 c148)] h149 fun n152 h151 =>
        J25 ((script_2_p, script_2_n, script_2_c), up_7, words_8, w_9, a_10, l_11, m_12, i_13, (n150 == n152), ()) h151)))
def law08_LoopPlays_l12 (Q : Value → Heap → Prop) (K1 : ((Option Addr × Nat × Nat) × Bool × Int × Int × Option Addr × Option Addr × Option Addr × Int × Unit) → Heap → Prop) (script_2_p : Option Addr) (script_2_n : Nat) (script_2_c : Nat) (up_7 : Bool) (words_8 : Int) (w_9 : Int) (a_10 : Option Addr) (l_11 : Option Addr) (m_12 : Option Addr) (i_13 : Int) (h11 : Heap) : Prop :=
  ∃ J12 : ((Option Addr × Nat × Nat) × Bool × Int × Int × Option Addr × Option Addr × Option Addr × Int × Unit) → Heap → Prop, (∀ s h, J12 s h → law08_LoopPlays_j14 Q K1 s.1.1 s.1.2.1 s.1.2.2 s.2.1 s.2.2.1 s.2.2.2.1 s.2.2.2.2.1 s.2.2.2.2.2.1 s.2.2.2.2.2.2.1 s.2.2.2.2.2.2.2.1 h) ∧
  ifB (decide (i_13 < ((script_2_n : Nat) : Int))) (
    ifB (decide (i_13 < (50 : Int))) (
      J12 ((script_2_p, script_2_n, script_2_c), up_7, words_8, w_9, a_10, l_11, m_12, i_13, ()) h11) (
      ifB up_7 (
        callInt P .i64 n_arena_Arena_Err #[(.pointer a_10)] h11 fun n154 h153 =>
        Q (.bool (n154 == (0 : Int))) h153) (
        Q (.bool false) h11))) (
    ifB up_7 (
      callInt P .i64 n_arena_Arena_Err #[(.pointer a_10)] h11 fun n156 h155 =>
      Q (.bool (n156 == (0 : Int))) h155) (
      Q (.bool false) h11))
def law08_LoopPlays (n_0 : Int) (width_1 : Int) (script_2_p : Option Addr) (script_2_n : Nat) (script_2_c : Nat) (h : Heap) (Q : Value → Heap → Prop) : Prop :=
  callBool P n_law08_awake #[] h fun b2 h1 =>
  callPtr P n_arena_New #[(.int .i64 (IntKind.wrap .i64 ((andI .i64 n_0 (31 : Int)) + (3 : Int))))] h1 fun p4 h3 =>
  ifB ((p4).isNone) (
    Q (.bool false) h3) (
    callPtr P n_arena_Arena_Part #[(.pointer p4), (.int .i64 (2 : Int)), (.int .i64 (andI .i64 n_0 (31 : Int)))] h3 fun p6 h5 =>
    callPtr P n_loop_New #[(.pointer p6), (.int .i64 (IntKind.wrap .i64 ((andI .i64 width_1 (7 : Int)) - (1 : Int))))] h5 fun p8 h7 =>
    callPtr P n_ref08_New #[(.int .i64 (andI .i64 n_0 (31 : Int))), (.int .i64 (IntKind.wrap .i64 ((andI .i64 width_1 (7 : Int)) - (1 : Int))))] h7 fun p10 h9 =>
    ifB ((p10).isNone) (
      ifB b2 (
        Q (.bool (p8).isNone) h9) (
        Q (.bool false) h9)) (
      LoopS (S := ((Option Addr × Nat × Nat) × Bool × Int × Int × Option Addr × Option Addr × Option Addr × Int × Unit)) (fun K1 s h => law08_LoopPlays_l12 Q K1 s.1.1 s.1.2.1 s.1.2.2 s.2.1 s.2.2.1 s.2.2.2.1 s.2.2.2.2.1 s.2.2.2.2.2.1 s.2.2.2.2.2.2.1 s.2.2.2.2.2.2.2.1 h) ((script_2_p, script_2_n, script_2_c), b2, (andI .i64 n_0 (31 : Int)), (IntKind.wrap .i64 ((andI .i64 width_1 (7 : Int)) - (1 : Int))), p4, p8, p10, (0 : Int), ()) h9))
noncomputable def tab_law08_LoopPlays : Tab := { sch := lookT .done [(21, (.one 0 (.one 1 (.one 2 (.one 4 (.one 3 (.one 5 (.one 6 (.one 7 (.one 8 (.one 9 .done))))))))))), (33, (.one 0 (.one 1 (.one 2 (.one 3 (.one 4 (.one 5 (.one 6 (.one 7 (.one 8 (.one 9 (.one 10 (.one 12 (.one 13 (.one 14 (.early 15 (.alt 11 (.one 16 (.one 17 (.one 18 (.one 19 (.one 21 (.alt 20 (.alt 22 (.one 23 (.one 24 (.one 25 (.one 26 (.one 28 (.one 29 (.one 30 (.early 31 (.alt 27 (.one 32 (.one 33 (.one 34 (.one 35 (.one 37 (.alt 36 (.one 38 (.one 39 .done)) .stop)))))) .stop))))))))) .stop) .stop)))))) .stop))))))))))))))))), (35, (.one 0 (.one 1 (.one 2 (.one 3 (.one 4 (.one 5 (.one 6 (.one 7 (.alt 8 (.one 9 .done) .stop))))))))))], lp := lookT [] [(12, [(2, .sc (.slice)), (7, .sc (.bool)), (8, .sc (.int .i64)), (9, .sc (.int .i64)), (10, .sc (.ptr)), (11, .sc (.ptr)), (12, .sc (.ptr)), (13, .sc (.int .i64))])], jn := lookT none [(14, some [(2, .sc (.slice)), (7, .sc (.bool)), (8, .sc (.int .i64)), (9, .sc (.int .i64)), (10, .sc (.ptr)), (11, .sc (.ptr)), (12, .sc (.ptr)), (13, .sc (.int .i64))]), (32, some [(2, .sc (.slice)), (7, .sc (.bool)), (8, .sc (.int .i64)), (9, .sc (.int .i64)), (10, .sc (.ptr)), (11, .sc (.ptr)), (12, .sc (.ptr)), (13, .sc (.int .i64)), (15, .sc (.bool))]), (35, some [(2, .sc (.slice)), (7, .sc (.bool)), (8, .sc (.int .i64)), (9, .sc (.int .i64)), (10, .sc (.ptr)), (11, .sc (.ptr)), (12, .sc (.ptr)), (13, .sc (.int .i64)), (22, .sc (.slice))])] }
theorem eq_law08_LoopPlays (n_0 : Int) (width_1 : Int) (script_2_p : Option Addr) (script_2_n : Nat) (script_2_c : Nat) (h : Heap) (Q : Value → Heap → Prop) : fnI P Try.f6 tab_law08_LoopPlays [(.int .i64 n_0), (.int .i64 width_1), (.slice script_2_p script_2_n script_2_c)] h Q = law08_LoopPlays n_0 width_1 script_2_p script_2_n script_2_c h Q := by kernel_rfl
theorem ok_law08_LoopPlays : fnOk P Try.f6 tab_law08_LoopPlays = true := by kernel_rfl
theorem call_law08_LoopPlays (n_0 : Int) (width_1 : Int) (script_2_p : Option Addr) (script_2_n : Nat) (script_2_c : Nat) {h : Heap} {Q : Value → Heap → Prop} (H : law08_LoopPlays n_0 width_1 script_2_p script_2_n script_2_c h Q) : callP P n_law08_LoopPlays #[(.int .i64 n_0), (.int .i64 width_1), (.slice script_2_p script_2_n script_2_c)] h Q :=
  @callP_of P n_law08_LoopPlays Try.f6 tab_law08_LoopPlays [(.int .i64 n_0), (.int .i64 width_1), (.slice script_2_p script_2_n script_2_c)] h Q mixed Try.func6 Try.call6 ok_law08_LoopPlays (Eq.mpr (eq_law08_LoopPlays n_0 width_1 script_2_p script_2_n script_2_c h Q) H)

/-! ### slices.IndexFunc[[]int,int]: function 40 -/
def slices_IndexFunc_int_int_at_arena_Arena_Set_1_l2 (Q : Value → Heap → Prop) (K1 : ((Option Addr × Nat × Nat) × ((Unit) × (Unit)) × Int × Int × Unit) → Heap → Prop) (s_0_p : Option Addr) (s_0_n : Nat) (s_0_c : Nat) (t7 : Int) (t8 : Int) (h1 : Heap) : Prop :=
  ifB (decide (t8 < t7)) (
    idxI s_0_p t8 s_0_n fun a2 =>
    ldInt .i64 h1 (Addr.add a2 (t8.toNat * 1)) fun n3 =>
    callBool P n_arena_Arena_Set_1 #[(.int .i64 n3)] h1 fun b5 h4 =>
    ifB b5 (
      Q (.int .i64 t8) h4) (
      K1 ((s_0_p, s_0_n, s_0_c), ((()), (())), t7, (IntKind.wrap .i64 (t8 + (1 : Int))), ()) h4)) (
    Q (.int .i64 (-1 : Int)) h1)
def slices_IndexFunc_int_int_at_arena_Arena_Set_1 (s_0_p : Option Addr) (s_0_n : Nat) (s_0_c : Nat) (h : Heap) (Q : Value → Heap → Prop) : Prop :=
  LoopS (S := ((Option Addr × Nat × Nat) × ((Unit) × (Unit)) × Int × Int × Unit)) (fun K1 s h => slices_IndexFunc_int_int_at_arena_Arena_Set_1_l2 Q K1 s.1.1 s.1.2.1 s.1.2.2 s.2.2.1 s.2.2.2.1 h) ((s_0_p, s_0_n, s_0_c), ((()), (())), ((s_0_n : Nat) : Int), (0 : Int), ()) h
noncomputable def tab_slices_IndexFunc_int_int_at_arena_Arena_Set_1 : Tab := { sch := lookT .done [], lp := lookT [] [(2, [(0, .sc (.slice)), (1, .fn 37 [] []), (7, .sc (.int .i64)), (8, .sc (.int .i64))])], jn := lookT none [] }
theorem eq_slices_IndexFunc_int_int_at_arena_Arena_Set_1 (s_0_p : Option Addr) (s_0_n : Nat) (s_0_c : Nat) (h : Heap) (Q : Value → Heap → Prop) : fnI P Try.f40 tab_slices_IndexFunc_int_int_at_arena_Arena_Set_1 [(.slice s_0_p s_0_n s_0_c), (.func (.func n_arena_Arena_Set_1) #[] #[])] h Q = slices_IndexFunc_int_int_at_arena_Arena_Set_1 s_0_p s_0_n s_0_c h Q := by kernel_rfl
theorem ok_slices_IndexFunc_int_int_at_arena_Arena_Set_1 : fnOk P Try.f40 tab_slices_IndexFunc_int_int_at_arena_Arena_Set_1 = true := by kernel_rfl
theorem call_slices_IndexFunc_int_int_at_arena_Arena_Set_1 (s_0_p : Option Addr) (s_0_n : Nat) (s_0_c : Nat) {h : Heap} {Q : Value → Heap → Prop} (H : slices_IndexFunc_int_int_at_arena_Arena_Set_1 s_0_p s_0_n s_0_c h Q) : callP P n_slices_IndexFunc_int_int #[(.slice s_0_p s_0_n s_0_c), (.func (.func n_arena_Arena_Set_1) #[] #[])] h Q :=
  @callP_of P n_slices_IndexFunc_int_int Try.f40 tab_slices_IndexFunc_int_int_at_arena_Arena_Set_1 [(.slice s_0_p s_0_n s_0_c), (.func (.func n_arena_Arena_Set_1) #[] #[])] h Q mixed Try.func40 Try.call40 ok_slices_IndexFunc_int_int_at_arena_Arena_Set_1 (Eq.mpr (eq_slices_IndexFunc_int_int_at_arena_Arena_Set_1 s_0_p s_0_n s_0_c h Q) H)

/-! ### slices.ContainsFunc[[]int,int]: function 36 -/
def slices_ContainsFunc_int_int_at_arena_Arena_Set_1 (s_0_p : Option Addr) (s_0_n : Nat) (s_0_c : Nat) (h : Heap) (Q : Value → Heap → Prop) : Prop :=
  callInt P .i64 n_slices_IndexFunc_int_int #[(.slice s_0_p s_0_n s_0_c), (.func (.func n_arena_Arena_Set_1) #[] #[])] h fun n2 h1 =>
  Q (.bool (decide (n2 ≥ (0 : Int)))) h1
noncomputable def tab_slices_ContainsFunc_int_int_at_arena_Arena_Set_1 : Tab := { sch := lookT .done [], lp := lookT [] [], jn := lookT none [] }
theorem eq_slices_ContainsFunc_int_int_at_arena_Arena_Set_1 (s_0_p : Option Addr) (s_0_n : Nat) (s_0_c : Nat) (h : Heap) (Q : Value → Heap → Prop) : fnI P Try.f36 tab_slices_ContainsFunc_int_int_at_arena_Arena_Set_1 [(.slice s_0_p s_0_n s_0_c), (.func (.func n_arena_Arena_Set_1) #[] #[])] h Q = slices_ContainsFunc_int_int_at_arena_Arena_Set_1 s_0_p s_0_n s_0_c h Q := by kernel_rfl
theorem ok_slices_ContainsFunc_int_int_at_arena_Arena_Set_1 : fnOk P Try.f36 tab_slices_ContainsFunc_int_int_at_arena_Arena_Set_1 = true := by kernel_rfl
theorem call_slices_ContainsFunc_int_int_at_arena_Arena_Set_1 (s_0_p : Option Addr) (s_0_n : Nat) (s_0_c : Nat) {h : Heap} {Q : Value → Heap → Prop} (H : slices_ContainsFunc_int_int_at_arena_Arena_Set_1 s_0_p s_0_n s_0_c h Q) : callP P n_slices_ContainsFunc_int_int #[(.slice s_0_p s_0_n s_0_c), (.func (.func n_arena_Arena_Set_1) #[] #[])] h Q :=
  @callP_of P n_slices_ContainsFunc_int_int Try.f36 tab_slices_ContainsFunc_int_int_at_arena_Arena_Set_1 [(.slice s_0_p s_0_n s_0_c), (.func (.func n_arena_Arena_Set_1) #[] #[])] h Q mixed Try.func36 Try.call36 ok_slices_ContainsFunc_int_int_at_arena_Arena_Set_1 (Eq.mpr (eq_slices_ContainsFunc_int_int_at_arena_Arena_Set_1 s_0_p s_0_n s_0_c h Q) H)

/-! ### (*earshot/arena.Arena).Set$1: function 37 -/
def arena_Arena_Set_1 (x_0 : Int) (h : Heap) (Q : Value → Heap → Prop) : Prop :=
  callBool P n_sat_Fits #[(.int .i64 x_0), (.int .i64 (32 : Int))] h fun b2 h1 =>
  Q (.bool (!b2)) h1
noncomputable def tab_arena_Arena_Set_1 : Tab := { sch := lookT .done [], lp := lookT [] [], jn := lookT none [] }
theorem eq_arena_Arena_Set_1 (x_0 : Int) (h : Heap) (Q : Value → Heap → Prop) : fnI P Try.f37 tab_arena_Arena_Set_1 [(.int .i64 x_0)] h Q = arena_Arena_Set_1 x_0 h Q := by kernel_rfl
theorem ok_arena_Arena_Set_1 : fnOk P Try.f37 tab_arena_Arena_Set_1 = true := by kernel_rfl
theorem call_arena_Arena_Set_1 (x_0 : Int) {h : Heap} {Q : Value → Heap → Prop} (H : arena_Arena_Set_1 x_0 h Q) : callP P n_arena_Arena_Set_1 #[(.int .i64 x_0)] h Q :=
  @callP_of P n_arena_Arena_Set_1 Try.f37 tab_arena_Arena_Set_1 [(.int .i64 x_0)] h Q mixed Try.func37 Try.call37 ok_arena_Arena_Set_1 (Eq.mpr (eq_arena_Arena_Set_1 x_0 h Q) H)

/-! ### (*earshot/arena.Arena).Set: function 28 -/
def arena_Arena_Set (a_0 : Option Addr) (words_1_p : Option Addr) (words_1_n : Nat) (words_1_c : Nat) (h : Heap) (Q : Value → Heap → Prop) : Prop :=
  ifB ((a_0).isNone) (
    Q (.int .i64 (1 : Int)) h) (
    nilI a_0 fun a1 =>
    ldSlice h a1 fun p2 l2 c2 =>
    ifB (((words_1_n : Nat) : Int) != ((l2 : Nat) : Int)) (
      Q (.int .i64 (22 : Int)) h) (
      callBool P n_slices_ContainsFunc_int_int #[(.slice words_1_p words_1_n words_1_c), (.func (.func n_arena_Arena_Set_1) #[] #[])] h fun b4 h3 =>
      ifB b4 (
        Q (.int .i64 (16 : Int)) h3) (
        nilI a_0 fun a5 =>
        ldSlice h3 a5 fun p6 l6 c6 =>
        cpI 1 p6 l6 words_1_p words_1_n h3 fun n7 h8 =>
        Q (.int .i64 (0 : Int)) h8)))
noncomputable def tab_arena_Arena_Set : Tab := { sch := lookT .done [], lp := lookT [] [], jn := lookT none [] }
theorem eq_arena_Arena_Set (a_0 : Option Addr) (words_1_p : Option Addr) (words_1_n : Nat) (words_1_c : Nat) (h : Heap) (Q : Value → Heap → Prop) : fnI P Try.f28 tab_arena_Arena_Set [(.pointer a_0), (.slice words_1_p words_1_n words_1_c)] h Q = arena_Arena_Set a_0 words_1_p words_1_n words_1_c h Q := by kernel_rfl
theorem ok_arena_Arena_Set : fnOk P Try.f28 tab_arena_Arena_Set = true := by kernel_rfl
theorem call_arena_Arena_Set (a_0 : Option Addr) (words_1_p : Option Addr) (words_1_n : Nat) (words_1_c : Nat) {h : Heap} {Q : Value → Heap → Prop} (H : arena_Arena_Set a_0 words_1_p words_1_n words_1_c h Q) : callP P n_arena_Arena_Set #[(.pointer a_0), (.slice words_1_p words_1_n words_1_c)] h Q :=
  @callP_of P n_arena_Arena_Set Try.f28 tab_arena_Arena_Set [(.pointer a_0), (.slice words_1_p words_1_n words_1_c)] h Q mixed Try.func28 Try.call28 ok_arena_Arena_Set (Eq.mpr (eq_arena_Arena_Set a_0 words_1_p words_1_n words_1_c h Q) H)

/-! ### earshot/earshotlaw08.LoopMoves: function 7 -/
def law08_LoopMoves_l22 (Q : Value → Heap → Prop) (K1 : (Bool × Int × Option Addr × Option Addr × Option Addr × Option Addr × Int × Int × (Option Addr × Nat × Nat) × Int × Unit) → Heap → Prop) (K2 : (Bool × Int × Option Addr × Option Addr × Int × Int × (Option Addr × Nat × Nat) × Int × Unit) → Heap → Prop) (K3 : (Bool × Int × Option Addr × Option Addr × Int × Int × (Option Addr × Nat × Nat) × Int × Int × Unit) → Heap → Prop) (up_7 : Bool) (w_8 : Int) (x_12 : Option Addr) (y_13 : Option Addr) (ahead_14 : Int) (behind_15 : Int) (f_16_p : Option Addr) (f_16_n : Nat) (f_16_c : Nat) (i_18 : Int) (t_19 : Int) (h31 : Heap) : Prop :=
  callInt P .i64 n_loop_Loop_Count #[(.pointer x_12)] h31 fun n33 h32 =>
  ifB (decide (t_19 < n33)) (
    callP P n_loop_Loop_Get #[(.pointer x_12), (.int .i64 t_19)] h32 fun v35 h34 =>
    ∃ p36 : Option Addr, ∃ l36 : Nat, ∃ c36 : Nat, ∃ b37 : Bool, v35 = (.tuple #[(.slice p36 l36 c36), (.bool b37)]) ∧
    callP P n_loop_Loop_Get #[(.pointer y_13), (.int .i64 t_19)] h34 fun v39 h38 =>
    ∃ p40 : Option Addr, ∃ l40 : Nat, ∃ c40 : Nat, ∃ b41 : Bool, v39 = (.tuple #[(.slice p40 l40 c40), (.bool b41)]) ∧
    callBool P n_ref04_Same #[(.slice p36 l36 c36), (.slice p40 l40 c40)] h38 fun b43 h42 =>
    ifB (!b37) (
      Q (.bool false) h42) (
      ifB (!b41) (
        Q (.bool false) h42) (
        ifB (!b43) (
          Q (.bool false) h42) (
          K3 (up_7, w_8, x_12, y_13, ahead_14, behind_15, (f_16_p, f_16_n, f_16_c), i_18, (IntKind.wrap .i64 (t_19 + (1 : Int))), ()) h42)))) (
    idxI f_16_p (IntKind.wrap .i64 (w_8 - (1 : Int))) f_16_n fun a44 =>
    stI h32 (Addr.add a44 ((IntKind.wrap .i64 (w_8 - (1 : Int))).toNat * 1)) (.int .i64 (IntKind.wrap .i64 ((50 : Int) + i_18))) fun h45 =>
    callInt P .i64 n_loop_Loop_Push #[(.pointer x_12), (.slice f_16_p f_16_n f_16_c)] h45 fun n47 h46 =>
    callInt P .i64 n_loop_Loop_Push #[(.pointer y_13), (.slice f_16_p f_16_n f_16_c)] h46 fun n49 h48 =>
    ifB (n47 != n49) (
      Q (.bool false) h48) (
      callInt P .i64 n_loop_Loop_Count #[(.pointer x_12)] h48 fun n51 h50 =>
      callInt P .i64 n_loop_Loop_Count #[(.pointer y_13)] h50 fun n53 h52 =>
      ifB (n51 != n53) (
        Q (.bool false) h52) (
        K2 (up_7, w_8, x_12, y_13, ahead_14, behind_15, (f_16_p, f_16_n, f_16_c), (IntKind.wrap .i64 (i_18 + (1 : Int))), ()) h52)))
def law08_LoopMoves_l19 (Q : Value → Heap → Prop) (K1 : (Bool × Int × Option Addr × Option Addr × Option Addr × Option Addr × Int × Int × (Option Addr × Nat × Nat) × Int × Unit) → Heap → Prop) (K2 : (Bool × Int × Option Addr × Option Addr × Int × Int × (Option Addr × Nat × Nat) × Int × Unit) → Heap → Prop) (up_7 : Bool) (w_8 : Int) (x_12 : Option Addr) (y_13 : Option Addr) (ahead_14 : Int) (behind_15 : Int) (f_16_p : Option Addr) (f_16_n : Nat) (f_16_c : Nat) (i_18 : Int) (h28 : Heap) : Prop :=
  ifB (decide (i_18 ≤ behind_15)) (
    callInt P .i64 n_loop_Loop_Oldest #[(.pointer x_12)] h28 fun n30 h29 =>
    LoopS (S := (Bool × Int × Option Addr × Option Addr × Int × Int × (Option Addr × Nat × Nat) × Int × Int × Unit)) (fun K3 s h => law08_LoopMoves_l22 Q K1 K2 K3 s.1 s.2.1 s.2.2.1 s.2.2.2.1 s.2.2.2.2.1 s.2.2.2.2.2.1 s.2.2.2.2.2.2.1.1 s.2.2.2.2.2.2.1.2.1 s.2.2.2.2.2.2.1.2.2 s.2.2.2.2.2.2.2.1 s.2.2.2.2.2.2.2.2.1 h) (up_7, w_8, x_12, y_13, ahead_14, behind_15, (f_16_p, f_16_n, f_16_c), i_18, n30, ()) h29) (
    ifB up_7 (
      callInt P .i64 n_loop_Loop_Count #[(.pointer x_12)] h28 fun n55 h54 =>
      ifB (n55 == (IntKind.wrap .i64 ((IntKind.wrap .i64 (ahead_14 + behind_15)) + (1 : Int)))) (
        callBool P n_loop_Loop_Seek #[(.pointer x_12), (.int .i64 (-1 : Int))] h54 fun b57 h56 =>
        ifB (!b57) (
          callInt P .i64 n_loop_Loop_Count #[(.pointer x_12)] h56 fun n59 h58 =>
          Q (.bool (n59 == (IntKind.wrap .i64 ((IntKind.wrap .i64 (ahead_14 + behind_15)) + (1 : Int))))) h58) (
          Q (.bool false) h56)) (
        Q (.bool false) h54)) (
      Q (.bool false) h28))
def law08_LoopMoves_j18 (Q : Value → Heap → Prop) (K1 : (Bool × Int × Option Addr × Option Addr × Option Addr × Option Addr × Int × Int × (Option Addr × Nat × Nat) × Int × Unit) → Heap → Prop) (up_7 : Bool) (w_8 : Int) (x_12 : Option Addr) (y_13 : Option Addr) (ahead_14 : Int) (behind_15 : Int) (f_16_p : Option Addr) (f_16_n : Nat) (f_16_c : Nat) (h27 : Heap) : Prop :=
  LoopS (S := (Bool × Int × Option Addr × Option Addr × Int × Int × (Option Addr × Nat × Nat) × Int × Unit)) (fun K2 s h => law08_LoopMoves_l19 Q K1 K2 s.1 s.2.1 s.2.2.1 s.2.2.2.1 s.2.2.2.2.1 s.2.2.2.2.2.1 s.2.2.2.2.2.2.1.1 s.2.2.2.2.2.2.1.2.1 s.2.2.2.2.2.2.1.2.2 s.2.2.2.2.2.2.2.1 h) (up_7, w_8, x_12, y_13, ahead_14, behind_15, (f_16_p, f_16_n, f_16_c), (0 : Int), ()) h27
def law08_LoopMoves_l12 (Q : Value → Heap → Prop) (K1 : (Bool × Int × Option Addr × Option Addr × Option Addr × Option Addr × Int × Int × (Option Addr × Nat × Nat) × Int × Unit) → Heap → Prop) (up_7 : Bool) (w_8 : Int) (a_10 : Option Addr) (b_11 : Option Addr) (x_12 : Option Addr) (y_13 : Option Addr) (ahead_14 : Int) (behind_15 : Int) (f_16_p : Option Addr) (f_16_n : Nat) (f_16_c : Nat) (i_17 : Int) (h21 : Heap) : Prop :=
  ifB (decide (i_17 < ahead_14)) (
    idxI f_16_p (0 : Int) f_16_n fun a22 =>
    stI h21 (Addr.add a22 ((0 : Int).toNat * 1)) (.int .i64 i_17) fun h23 =>
    callInt P .i64 n_loop_Loop_Push #[(.pointer x_12), (.slice f_16_p f_16_n f_16_c)] h23 fun n25 h24 =>
    K1 (up_7, w_8, a_10, b_11, x_12, y_13, ahead_14, behind_15, (f_16_p, f_16_n, f_16_c), (IntKind.wrap .i64 (i_17 + (1 : Int))), ()) h24) (
    ∃ J26 : (Bool × Int × Option Addr × Option Addr × Int × Int × (Option Addr × Nat × Nat) × Unit) → Heap → Prop, (∀ s h, J26 s h → law08_LoopMoves_j18 Q K1 s.1 s.2.1 s.2.2.1 s.2.2.2.1 s.2.2.2.2.1 s.2.2.2.2.2.1 s.2.2.2.2.2.2.1.1 s.2.2.2.2.2.2.1.2.1 s.2.2.2.2.2.2.1.2.2 h) ∧
    callSlice P n_arena_Arena_Words #[(.pointer a_10)] h21 fun p61 l61 c61 h60 =>
    callInt P .i64 n_arena_Arena_Set #[(.pointer b_11), (.slice p61 l61 c61)] h60 fun n63 h62 =>
    ifB (n63 != (0 : Int)) (
      Q (.bool false) h62) (
      callInt P .i64 n_loop_Loop_Count #[(.pointer x_12)] h62 fun n65 h64 =>
      callBool P n_loop_Loop_Seek #[(.pointer y_13), (.int .i64 n65)] h64 fun b67 h66 =>
      ifB (!b67) (
        Q (.bool false) h66) (
        J26 (up_7, w_8, x_12, y_13, ahead_14, behind_15, (f_16_p, f_16_n, f_16_c), ()) h66)))
def law08_LoopMoves (width_0 : Int) (room_1 : Int) (many_2_0 : Int) (many_2_1 : Int) (h : Heap) (Q : Value → Heap → Prop) : Prop :=
  newI h (.cells #[(.int .i64 many_2_0), (.int .i64 many_2_1)] 36 (0, 0)) fun b1 h2 =>
  callBool P n_law08_awake #[] h2 fun b4 h3 =>
  callPtr P n_arena_New #[(.int .i64 (IntKind.wrap .i64 ((IntKind.wrap .i64 ((1 : Int) + (Int.tmod (IntKind.wrap .i64 ((Int.tmod width_0 (5 : Int)) + (5 : Int))) (5 : Int)))) * (IntKind.wrap .i64 ((1 : Int) + (andI .i64 room_1 (7 : Int)))))))] h3 fun p6 h5 =>
  callPtr P n_arena_New #[(.int .i64 (IntKind.wrap .i64 ((IntKind.wrap .i64 ((1 : Int) + (Int.tmod (IntKind.wrap .i64 ((Int.tmod width_0 (5 : Int)) + (5 : Int))) (5 : Int)))) * (IntKind.wrap .i64 ((1 : Int) + (andI .i64 room_1 (7 : Int)))))))] h5 fun p8 h7 =>
  callPtr P n_arena_Arena_Part #[(.pointer p6), (.int .i64 (0 : Int)), (.int .i64 (IntKind.wrap .i64 ((IntKind.wrap .i64 ((1 : Int) + (Int.tmod (IntKind.wrap .i64 ((Int.tmod width_0 (5 : Int)) + (5 : Int))) (5 : Int)))) * (IntKind.wrap .i64 ((1 : Int) + (andI .i64 room_1 (7 : Int)))))))] h7 fun p10 h9 =>
  callPtr P n_loop_New #[(.pointer p10), (.int .i64 (IntKind.wrap .i64 ((1 : Int) + (Int.tmod (IntKind.wrap .i64 ((Int.tmod width_0 (5 : Int)) + (5 : Int))) (5 : Int)))))] h9 fun p12 h11 =>
  callPtr P n_arena_Arena_Part #[(.pointer p8), (.int .i64 (0 : Int)), (.int .i64 (IntKind.wrap .i64 ((IntKind.wrap .i64 ((1 : Int) + (Int.tmod (IntKind.wrap .i64 ((Int.tmod width_0 (5 : Int)) + (5 : Int))) (5 : Int)))) * (IntKind.wrap .i64 ((1 : Int) + (andI .i64 room_1 (7 : Int)))))))] h11 fun p14 h13 =>
  callPtr P n_loop_New #[(.pointer p14), (.int .i64 (IntKind.wrap .i64 ((1 : Int) + (Int.tmod (IntKind.wrap .i64 ((Int.tmod width_0 (5 : Int)) + (5 : Int))) (5 : Int)))))] h13 fun p16 h15 =>
  arrI (0 : Int) 2 fun _ =>
  ldInt .i64 h15 (Addr.add ⟨b1, 0, none⟩ ((0 : Int).toNat * 1)) fun n17 =>
  arrI (1 : Int) 2 fun _ =>
  ldInt .i64 h15 (Addr.add ⟨b1, 0, none⟩ ((1 : Int).toNat * 1)) fun n18 =>
  mkI 3 1 8 (.int .i64 (0 : Int)) (IntKind.wrap .i64 ((1 : Int) + (Int.tmod (IntKind.wrap .i64 ((Int.tmod width_0 (5 : Int)) + (5 : Int))) (5 : Int)))) (IntKind.wrap .i64 ((1 : Int) + (Int.tmod (IntKind.wrap .i64 ((Int.tmod width_0 (5 : Int)) + (5 : Int))) (5 : Int)))) h15 fun b19 h20 =>
  LoopS (S := (Bool × Int × Option Addr × Option Addr × Option Addr × Option Addr × Int × Int × (Option Addr × Nat × Nat) × Int × Unit)) (fun K1 s h => law08_LoopMoves_l12 Q K1 s.1 s.2.1 s.2.2.1 s.2.2.2.1 s.2.2.2.2.1 s.2.2.2.2.2.1 s.2.2.2.2.2.2.1 s.2.2.2.2.2.2.2.1 s.2.2.2.2.2.2.2.2.1.1 s.2.2.2.2.2.2.2.2.1.2.1 s.2.2.2.2.2.2.2.2.1.2.2 s.2.2.2.2.2.2.2.2.2.1 h) (b4, (IntKind.wrap .i64 ((1 : Int) + (Int.tmod (IntKind.wrap .i64 ((Int.tmod width_0 (5 : Int)) + (5 : Int))) (5 : Int)))), p6, p8, p12, p16, (Int.tmod (IntKind.wrap .i64 ((Int.tmod n17 (31 : Int)) + (31 : Int))) (31 : Int)), (Int.tmod (IntKind.wrap .i64 ((Int.tmod n18 (31 : Int)) + (31 : Int))) (31 : Int)), (some ⟨b19, 0, none⟩, (IntKind.wrap .i64 ((1 : Int) + (Int.tmod (IntKind.wrap .i64 ((Int.tmod width_0 (5 : Int)) + (5 : Int))) (5 : Int)))).toNat, (IntKind.wrap .i64 ((1 : Int) + (Int.tmod (IntKind.wrap .i64 ((Int.tmod width_0 (5 : Int)) + (5 : Int))) (5 : Int)))).toNat), (0 : Int), ()) h20
noncomputable def tab_law08_LoopMoves : Tab := { sch := lookT .done [], lp := lookT [] [(12, [(7, .sc (.bool)), (8, .sc (.int .i64)), (10, .sc (.ptr)), (11, .sc (.ptr)), (12, .sc (.ptr)), (13, .sc (.ptr)), (14, .sc (.int .i64)), (15, .sc (.int .i64)), (16, .sc (.slice)), (17, .sc (.int .i64))]), (19, [(7, .sc (.bool)), (8, .sc (.int .i64)), (12, .sc (.ptr)), (13, .sc (.ptr)), (14, .sc (.int .i64)), (15, .sc (.int .i64)), (16, .sc (.slice)), (18, .sc (.int .i64))]), (22, [(7, .sc (.bool)), (8, .sc (.int .i64)), (12, .sc (.ptr)), (13, .sc (.ptr)), (14, .sc (.int .i64)), (15, .sc (.int .i64)), (16, .sc (.slice)), (18, .sc (.int .i64)), (19, .sc (.int .i64))])], jn := lookT none [(18, some [(7, .sc (.bool)), (8, .sc (.int .i64)), (12, .sc (.ptr)), (13, .sc (.ptr)), (14, .sc (.int .i64)), (15, .sc (.int .i64)), (16, .sc (.slice))])] }
theorem eq_law08_LoopMoves (width_0 : Int) (room_1 : Int) (many_2_0 : Int) (many_2_1 : Int) (h : Heap) (Q : Value → Heap → Prop) : fnI P Try.f7 tab_law08_LoopMoves [(.int .i64 width_0), (.int .i64 room_1), (.agg #[(.int .i64 many_2_0), (.int .i64 many_2_1)])] h Q = law08_LoopMoves width_0 room_1 many_2_0 many_2_1 h Q := by kernel_rfl
theorem ok_law08_LoopMoves : fnOk P Try.f7 tab_law08_LoopMoves = true := by kernel_rfl
theorem call_law08_LoopMoves (width_0 : Int) (room_1 : Int) (many_2_0 : Int) (many_2_1 : Int) {h : Heap} {Q : Value → Heap → Prop} (H : law08_LoopMoves width_0 room_1 many_2_0 many_2_1 h Q) : callP P n_law08_LoopMoves #[(.int .i64 width_0), (.int .i64 room_1), (.agg #[(.int .i64 many_2_0), (.int .i64 many_2_1)])] h Q :=
  @callP_of P n_law08_LoopMoves Try.f7 tab_law08_LoopMoves [(.int .i64 width_0), (.int .i64 room_1), (.agg #[(.int .i64 many_2_0), (.int .i64 many_2_1)])] h Q mixed Try.func7 Try.call7 ok_law08_LoopMoves (Eq.mpr (eq_law08_LoopMoves width_0 room_1 many_2_0 many_2_1 h Q) H)

end Go.Proofs.Ytdjofpdmdbcgjac.G
