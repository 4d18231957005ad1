/- Printed by shp.py out of the program's own print: for each Go function a typed formula over heaps, and the proof that a call does just that. -/
import Derived.Test.YtdjofpdmdbcgjaaProg
import Derived.Test.YtdjofpdmdbcgjaaShW
set_option linter.unusedVariables false
set_option maxRecDepth 100000
namespace Go.Proofs.Ytdjofpdmdbcgjaa.G
open Go Go.Sh
noncomputable abbrev P : Program := Try.prog
theorem mixed : P.follows .mixedOrders = true := by kernel_rfl
abbrev n_arena_Layout : FuncId := 15
abbrev n_ref04_Same : FuncId := 13
abbrev n_law07_awake : FuncId := 8
abbrev n_ref07_up : FuncId := 42
abbrev n_ref07_Layout : FuncId := 33
abbrev n_law07_lays : FuncId := 9
abbrev n_law07_ArenaLays : FuncId := 3
abbrev n_arena_New : FuncId := 10
abbrev n_slices_IndexFunc_int_int : FuncId := 43
abbrev n_slices_ContainsFunc_int_int : FuncId := 34
abbrev n_sat_ends : FuncId := 44
abbrev n_sat_Fits : FuncId := 36
abbrev n_arena_Arena_Set_1 : FuncId := 35
abbrev n_arena_Arena_Set : FuncId := 11
abbrev n_slices_Clone_int_int : FuncId := 37
abbrev n_arena_Arena_Words : FuncId := 12
abbrev n_arena_Arena_Err : FuncId := 14
abbrev n_law07_ArenaKeeps : FuncId := 4
abbrev n_arena_Arena_Part : FuncId := 16
abbrev n_arena_Arena_trouble : FuncId := 38
abbrev n_arena_Part_Put : FuncId := 17
abbrev n_arena_Part_Get : FuncId := 18
abbrev n_arena_Arena_Len : FuncId := 32
abbrev n_arena_Arena_whole : FuncId := 39
abbrev n_arena_Arena_Get : FuncId := 19
abbrev n_law07_ArenaApart : FuncId := 5
abbrev n_ref07_New : FuncId := 20
abbrev n_ref07_Arena_May : FuncId := 21
abbrev n_arena_Part_Len : FuncId := 22
abbrev n_law07_Act_word : FuncId := 24
abbrev n_law07_Act_num : FuncId := 25
abbrev n_arena_Arena_Put : FuncId := 23
abbrev n_ref07_Word : FuncId := 40
abbrev n_ref07_Arena_trouble : FuncId := 41
abbrev n_ref07_Arena_Put : FuncId := 26
abbrev n_ref07_Arena_Get : FuncId := 27
abbrev n_law07_Act_row : FuncId := 28
abbrev n_ref07_Arena_Set : FuncId := 29
abbrev n_arena_Arena_Zero : FuncId := 30
abbrev n_arena_Part_Err : FuncId := 31
abbrev n_law07_ArenaPlays : FuncId := 6
abbrev n_law07_ArenaNil : FuncId := 7
/-! ### earshot/arena.Layout: function 15 -/
def arena_Layout_l10 (Q : Value → Heap → Prop) (K1 : ((Option Addr × Nat × Nat) × (Option Addr × Nat × Nat) × Int × Int × Unit) → Heap → Prop) (K2 : ((Option Addr × Nat × Nat) × Int × (Option Addr × Nat × Nat) × Int × Int × Unit) → Heap → Prop) (at_7_p : Option Addr) (at_7_n : Nat) (at_7_c : Nat) (end_8 : Int) (t20_p : Option Addr) (t20_n : Nat) (t20_c : Nat) (t21 : Int) (t22 : Int) (h4 : Heap) : Prop :=
  ifB (decide (t22 < t21)) (
    idxI t20_p t22 t20_n fun a5 =>
    ldInt .i64 h4 (Addr.add a5 (t22.toNat * 1)) fun n6 =>
    ifB (decide (n6 > (IntKind.wrap .i64 ((4096 : Int) - end_8)))) (
      Q (.tuple #[(.slice none 0 0), (.int .i64 (0 : Int)), (.int .i64 (17 : Int))]) h4) (
      newI h4 (.cells #[(.int .i64 end_8)] 3 (0, 0)) fun b7 h8 =>
      appI 3 1 8 (.int .i64 (0 : Int)) at_7_p at_7_n at_7_c (some ⟨b7, 0, none⟩) 1 h8 fun p9 l9 c9 h10 =>
      K2 ((p9, l9, c9), (IntKind.wrap .i64 ((IntKind.wrap .i64 (Int.tdiv (IntKind.wrap .i64 ((IntKind.wrap .i64 ((IntKind.wrap .i64 (end_8 + n6)) + (4 : Int))) - (1 : Int))) (4 : Int))) * (4 : Int))), (t20_p, t20_n, t20_c), t21, (IntKind.wrap .i64 (t22 + (1 : Int))), ()) h10)) (
    Q (.tuple #[(.slice at_7_p at_7_n at_7_c), (.int .i64 end_8), (.int .i64 (0 : Int))]) h4)
def arena_Layout_l2 (Q : Value → Heap → Prop) (K1 : ((Option Addr × Nat × Nat) × (Option Addr × Nat × Nat) × Int × Int × Unit) → Heap → Prop) (sizes_0_p : Option Addr) (sizes_0_n : Nat) (sizes_0_c : Nat) (t11_p : Option Addr) (t11_n : Nat) (t11_c : Nat) (t12 : Int) (t13 : Int) (h1 : Heap) : Prop :=
  ifB (decide (t13 < t12)) (
    idxI t11_p t13 t11_n fun a2 =>
    ldInt .i64 h1 (Addr.add a2 (t13.toNat * 1)) fun n3 =>
    ifB (decide (n3 < (0 : Int))) (
      Q (.tuple #[(.slice none 0 0), (.int .i64 (0 : Int)), (.int .i64 (1 : Int))]) h1) (
      K1 ((sizes_0_p, sizes_0_n, sizes_0_c), (t11_p, t11_n, t11_c), t12, (IntKind.wrap .i64 (t13 + (1 : Int))), ()) h1)) (
    LoopS (S := ((Option Addr × Nat × Nat) × Int × (Option Addr × Nat × Nat) × Int × Int × Unit)) (fun K2 s h => arena_Layout_l10 Q K1 K2 s.1.1 s.1.2.1 s.1.2.2 s.2.1 s.2.2.1.1 s.2.2.1.2.1 s.2.2.1.2.2 s.2.2.2.1 s.2.2.2.2.1 h) ((none, 0, 0), (0 : Int), (sizes_0_p, sizes_0_n, sizes_0_c), ((sizes_0_n : Nat) : Int), (0 : Int), ()) h1)
def arena_Layout (sizes_0_p : Option Addr) (sizes_0_n : Nat) (sizes_0_c : Nat) (h : Heap) (Q : Value → Heap → Prop) : Prop :=
  LoopS (S := ((Option Addr × Nat × Nat) × (Option Addr × Nat × Nat) × Int × Int × Unit)) (fun K1 s h => arena_Layout_l2 Q K1 s.1.1 s.1.2.1 s.1.2.2 s.2.1.1 s.2.1.2.1 s.2.1.2.2 s.2.2.1 s.2.2.2.1 h) ((sizes_0_p, sizes_0_n, sizes_0_c), (sizes_0_p, sizes_0_n, sizes_0_c), ((sizes_0_n : Nat) : Int), (0 : Int), ()) h
noncomputable def tab_arena_Layout : Tab := { sch := lookT .done [], lp := lookT [] [(2, [(0, .sc (.slice)), (11, .sc (.slice)), (12, .sc (.int .i64)), (13, .sc (.int .i64))]), (10, [(7, .sc (.slice)), (8, .sc (.int .i64)), (20, .sc (.slice)), (21, .sc (.int .i64)), (22, .sc (.int .i64))])], jn := lookT none [] }
theorem eq_arena_Layout (sizes_0_p : Option Addr) (sizes_0_n : Nat) (sizes_0_c : Nat) (h : Heap) (Q : Value → Heap → Prop) : fnI P Try.f15 tab_arena_Layout [(.slice sizes_0_p sizes_0_n sizes_0_c)] h Q = arena_Layout sizes_0_p sizes_0_n sizes_0_c h Q := by kernel_rfl
theorem ok_arena_Layout : fnOk P Try.f15 tab_arena_Layout = true := by kernel_rfl
theorem call_arena_Layout (sizes_0_p : Option Addr) (sizes_0_n : Nat) (sizes_0_c : Nat) {h : Heap} {Q : Value → Heap → Prop} (H : arena_Layout sizes_0_p sizes_0_n sizes_0_c h Q) : callP P n_arena_Layout #[(.slice sizes_0_p sizes_0_n sizes_0_c)] h Q :=
  @callP_of P n_arena_Layout Try.f15 tab_arena_Layout [(.slice sizes_0_p sizes_0_n sizes_0_c)] h Q mixed Try.func15 Try.call15 ok_arena_Layout (Eq.mpr (eq_arena_Layout sizes_0_p sizes_0_n sizes_0_c h Q) H)

/-! ### earshot/earshotref04.Same: function 13 -/
def ref04_Same_l4 (Q : Value → Heap → Prop) (K1 : ((Option Addr × Nat × Nat) × (Option Addr × Nat × Nat) × Int × Unit) → Heap → Prop) (a_0_p : Option Addr) (a_0_n : Nat) (a_0_c : Nat) (b_1_p : Option Addr) (b_1_n : Nat) (b_1_c : Nat) (i_5 : Int) (h1 : Heap) : Prop :=
  ifB (decide (i_5 < ((a_0_n : Nat) : Int))) (
    idxI a_0_p i_5 a_0_n fun a2 =>
    idxI b_1_p i_5 b_1_n fun a3 =>
    ldInt .i64 h1 (Addr.add a2 (i_5.toNat * 1)) fun n4 =>
    ldInt .i64 h1 (Addr.add a3 (i_5.toNat * 1)) fun n5 =>
    ifB (n4 != n5) (
      Q (.bool false) h1) (
      K1 ((a_0_p, a_0_n, a_0_c), (b_1_p, b_1_n, b_1_c), (IntKind.wrap .i64 (i_5 + (1 : Int))), ()) h1)) (
    Q (.bool true) h1)
def ref04_Same (a_0_p : Option Addr) (a_0_n : Nat) (a_0_c : Nat) (b_1_p : Option Addr) (b_1_n : Nat) (b_1_c : Nat) (h : Heap) (Q : Value → Heap → Prop) : Prop :=
  ifB (((a_0_n : Nat) : Int) != ((b_1_n : Nat) : Int)) (
    Q (.bool false) h) (
    LoopS (S := ((Option Addr × Nat × Nat) × (Option Addr × Nat × Nat) × Int × Unit)) (fun K1 s h => ref04_Same_l4 Q K1 s.1.1 s.1.2.1 s.1.2.2 s.2.1.1 s.2.1.2.1 s.2.1.2.2 s.2.2.1 h) ((a_0_p, a_0_n, a_0_c), (b_1_p, b_1_n, b_1_c), (0 : Int), ()) h)
noncomputable def tab_ref04_Same : Tab := { sch := lookT .done [(6, (.one 0 (.one 1 (.one 2 (.one 4 (.one 5 (.one 6 (.one 3 (.one 7 (.one 8 .done))))))))))], lp := lookT [] [(4, [(0, .sc (.slice)), (1, .sc (.slice)), (5, .sc (.int .i64))])], jn := lookT none [] }
theorem eq_ref04_Same (a_0_p : Option Addr) (a_0_n : Nat) (a_0_c : Nat) (b_1_p : Option Addr) (b_1_n : Nat) (b_1_c : Nat) (h : Heap) (Q : Value → Heap → Prop) : fnI P Try.f13 tab_ref04_Same [(.slice a_0_p a_0_n a_0_c), (.slice b_1_p b_1_n b_1_c)] h Q = ref04_Same a_0_p a_0_n a_0_c b_1_p b_1_n b_1_c h Q := by kernel_rfl
theorem ok_ref04_Same : fnOk P Try.f13 tab_ref04_Same = true := by kernel_rfl
theorem call_ref04_Same (a_0_p : Option Addr) (a_0_n : Nat) (a_0_c : Nat) (b_1_p : Option Addr) (b_1_n : Nat) (b_1_c : Nat) {h : Heap} {Q : Value → Heap → Prop} (H : ref04_Same a_0_p a_0_n a_0_c b_1_p b_1_n b_1_c h Q) : callP P n_ref04_Same #[(.slice a_0_p a_0_n a_0_c), (.slice b_1_p b_1_n b_1_c)] h Q :=
  @callP_of P n_ref04_Same Try.f13 tab_ref04_Same [(.slice a_0_p a_0_n a_0_c), (.slice b_1_p b_1_n b_1_c)] h Q mixed Try.func13 Try.call13 ok_ref04_Same (Eq.mpr (eq_ref04_Same a_0_p a_0_n a_0_c b_1_p b_1_n b_1_c h Q) H)

/-! ### earshot/earshotlaw07.awake: function 8 -/
def law07_awake (h : Heap) (Q : Value → Heap → Prop) : Prop :=
  newI h (.cells #[(.int .i64 (3 : Int)), (.int .i64 (5 : Int)), (.int .i64 (1 : Int))] 3 (0, 0)) fun b1 h2 =>
  callP P n_arena_Layout #[(.slice (some ⟨b1, 0, none⟩) 3 3)] h2 fun v4 h3 =>
  ∃ p5 : Option Addr, ∃ l5 : Nat, ∃ c5 : Nat, ∃ n6 : Int, ∃ n7 : Int, v4 = (.tuple #[(.slice p5 l5 c5), (.int .i64 n6), (.int .i64 n7)]) ∧
  newI h3 (.cells #[(.int .i64 (0 : Int)), (.int .i64 (4 : Int)), (.int .i64 (12 : Int))] 3 (0, 0)) fun b8 h9 =>
  callBool P n_ref04_Same #[(.slice p5 l5 c5), (.slice (some ⟨b8, 0, none⟩) 3 3)] h9 fun b11 h10 =>
  ifB b11 (
    ifB (n6 == (16 : Int)) (
      Q (.bool (n7 == (0 : Int))) h10) (
      Q (.bool false) h10)) (
    Q (.bool false) h10)
noncomputable def tab_law07_awake : Tab := { sch := lookT .done [], lp := lookT [] [], jn := lookT none [] }
theorem eq_law07_awake (h : Heap) (Q : Value → Heap → Prop) : fnI P Try.f8 tab_law07_awake [] h Q = law07_awake  h Q := by kernel_rfl
theorem ok_law07_awake : fnOk P Try.f8 tab_law07_awake = true := by kernel_rfl
theorem call_law07_awake {h : Heap} {Q : Value → Heap → Prop} (H : law07_awake  h Q) : callP P n_law07_awake #[] h Q :=
  @callP_of P n_law07_awake Try.f8 tab_law07_awake [] h Q mixed Try.func8 Try.call8 ok_law07_awake (Eq.mpr (eq_law07_awake  h Q) H)

/-! ### earshot/earshotref07.up: function 42 -/
def ref07_up (n_0 : Int) (h : Heap) (Q : Value → Heap → Prop) : Prop :=
  Q (.int .i64 (IntKind.wrap .i64 ((IntKind.wrap .i64 (Int.tdiv (IntKind.wrap .i64 (n_0 + (3 : Int))) (4 : Int))) * (4 : Int)))) h
noncomputable def tab_ref07_up : Tab := { sch := lookT .done [], lp := lookT [] [], jn := lookT none [] }
theorem eq_ref07_up (n_0 : Int) (h : Heap) (Q : Value → Heap → Prop) : fnI P Try.f42 tab_ref07_up [(.int .i64 n_0)] h Q = ref07_up n_0 h Q := by kernel_rfl
theorem ok_ref07_up : fnOk P Try.f42 tab_ref07_up = true := by kernel_rfl
theorem call_ref07_up (n_0 : Int) {h : Heap} {Q : Value → Heap → Prop} (H : ref07_up n_0 h Q) : callP P n_ref07_up #[(.int .i64 n_0)] h Q :=
  @callP_of P n_ref07_up Try.f42 tab_ref07_up [(.int .i64 n_0)] h Q mixed Try.func42 Try.call42 ok_ref07_up (Eq.mpr (eq_ref07_up n_0 h Q) H)

/-! ### earshot/earshotref07.Layout: function 33 -/
def ref07_Layout_l8 (Q : Value → Heap → Prop) (K1 : ((Option Addr × Nat × Nat) × Addr × Addr × Int × Unit) → Heap → Prop) (K2 : ((Option Addr × Nat × Nat) × Addr × Addr × Int × Unit) → Heap → Prop) (sizes_0_p : Option Addr) (sizes_0_n : Nat) (sizes_0_c : Nat) (t2 : Addr) (p_3 : Addr) (i_5 : Int) (h17 : Heap) : Prop :=
  ifB (decide (i_5 < ((sizes_0_n : Nat) : Int))) (
    idxI sizes_0_p i_5 sizes_0_n fun a18 =>
    ldInt .i64 h17 (Addr.add a18 (i_5.toNat * 1)) fun n19 =>
    ifB (decide (n19 > (4096 : Int))) (
      stI h17 t2 (.slice none 0 0) fun h20 =>
      stI h20 (Addr.add t2 1) (.int .i64 (0 : Int)) fun h21 =>
      stI h21 (Addr.add t2 2) (.int .i64 (17 : Int)) fun h22 =>
      ldSlice h22 t2 fun p23 l23 c23 =>
      ldInt .i64 h22 (Addr.add t2 1) fun n24 =>
      ldInt .i64 h22 (Addr.add t2 2) fun n25 =>
      Q (.agg #[(.slice p23 l23 c23), (.int .i64 n24), (.int .i64 n25)]) h22) (
      ldSlice h17 p_3 fun p26 l26 c26 =>
      ldInt .i64 h17 (Addr.add p_3 1) fun n27 =>
      newI h17 (.cells #[(.int .i64 n27)] 3 (0, 0)) fun b28 h29 =>
      appI 3 1 8 (.int .i64 (0 : Int)) p26 l26 c26 (some ⟨b28, 0, none⟩) 1 h29 fun p30 l30 c30 h31 =>
      stI h31 p_3 (.slice p30 l30 c30) fun h32 =>
      idxI sizes_0_p i_5 sizes_0_n fun a33 =>
      ldInt .i64 h32 (Addr.add p_3 1) fun n34 =>
      ldInt .i64 h32 (Addr.add a33 (i_5.toNat * 1)) fun n35 =>
      callInt P .i64 n_ref07_up #[(.int .i64 (IntKind.wrap .i64 (n34 + n35)))] h32 fun n37 h36 =>
      cellH h36 (Addr.add p_3 1) = some (.int .i64 n34) ∧
      stI h36 (Addr.add p_3 1) (.int .i64 n37) fun h38 =>
      ldInt .i64 h38 (Addr.add p_3 1) fun n39 =>
      ifB (decide (n39 > (4096 : Int))) (
        stI h38 t2 (.slice none 0 0) fun h40 =>
        stI h40 (Addr.add t2 1) (.int .i64 (0 : Int)) fun h41 =>
        stI h41 (Addr.add t2 2) (.int .i64 (17 : Int)) fun h42 =>
        ldSlice h42 t2 fun p43 l43 c43 =>
        ldInt .i64 h42 (Addr.add t2 1) fun n44 =>
        ldInt .i64 h42 (Addr.add t2 2) fun n45 =>
        Q (.agg #[(.slice p43 l43 c43), (.int .i64 n44), (.int .i64 n45)]) h42) (
        K2 ((sizes_0_p, sizes_0_n, sizes_0_c), t2, p_3, (IntKind.wrap .i64 (i_5 + (1 : Int))), ()) h38))) (
    ldSlice h17 p_3 fun p46 l46 c46 =>
    ldInt .i64 h17 (Addr.add p_3 1) fun n47 =>
    ldInt .i64 h17 (Addr.add p_3 2) fun n48 =>
    stI h17 t2 (.slice p46 l46 c46) fun h49 =>
    stI h49 (Addr.add t2 1) (.int .i64 n47) fun h50 =>
    stI h50 (Addr.add t2 2) (.int .i64 n48) fun h51 =>
    ldSlice h51 t2 fun p52 l52 c52 =>
    ldInt .i64 h51 (Addr.add t2 1) fun n53 =>
    ldInt .i64 h51 (Addr.add t2 2) fun n54 =>
    Q (.agg #[(.slice p52 l52 c52), (.int .i64 n53), (.int .i64 n54)]) h51)
def ref07_Layout_l3 (Q : Value → Heap → Prop) (K1 : ((Option Addr × Nat × Nat) × Addr × Addr × Int × Unit) → Heap → Prop) (sizes_0_p : Option Addr) (sizes_0_n : Nat) (sizes_0_c : Nat) (t2 : Addr) (p_3 : Addr) (i_4 : Int) (h8 : Heap) : Prop :=
  ifB (decide (i_4 < ((sizes_0_n : Nat) : Int))) (
    idxI sizes_0_p i_4 sizes_0_n fun a9 =>
    ldInt .i64 h8 (Addr.add a9 (i_4.toNat * 1)) fun n10 =>
    ifB (decide (n10 < (0 : Int))) (
      stI h8 t2 (.slice none 0 0) fun h11 =>
      stI h11 (Addr.add t2 1) (.int .i64 (0 : Int)) fun h12 =>
      stI h12 (Addr.add t2 2) (.int .i64 (1 : Int)) fun h13 =>
      ldSlice h13 t2 fun p14 l14 c14 =>
      ldInt .i64 h13 (Addr.add t2 1) fun n15 =>
      ldInt .i64 h13 (Addr.add t2 2) fun n16 =>
      Q (.agg #[(.slice p14 l14 c14), (.int .i64 n15), (.int .i64 n16)]) h13) (
      K1 ((sizes_0_p, sizes_0_n, sizes_0_c), t2, p_3, (IntKind.wrap .i64 (i_4 + (1 : Int))), ()) h8)) (
    LoopS (S := ((Option Addr × Nat × Nat) × Addr × Addr × Int × Unit)) (fun K2 s h => ref07_Layout_l8 Q K1 K2 s.1.1 s.1.2.1 s.1.2.2 s.2.1 s.2.2.1 s.2.2.2.1 h) ((sizes_0_p, sizes_0_n, sizes_0_c), t2, p_3, (0 : Int), ()) h8)
def ref07_Layout (sizes_0_p : Option Addr) (sizes_0_n : Nat) (sizes_0_c : Nat) (h : Heap) (Q : Value → Heap → Prop) : Prop :=
  newI h (.cells #[(.slice none 0 0), (.int .i64 (0 : Int)), (.int .i64 (0 : Int))] 56 (0, 0)) fun b1 h2 =>
  newI h2 (.cells #[(.slice none 0 0), (.int .i64 (0 : Int)), (.int .i64 (0 : Int))] 56 (0, 0)) fun b3 h4 =>
  stI h4 ⟨b3, 0, none⟩ (.slice none 0 0) fun h5 =>
  stI h5 ⟨b3, 1, none⟩ (.int .i64 (0 : Int)) fun h6 =>
  stI h6 ⟨b3, 2, none⟩ (.int .i64 (0 : Int)) fun h7 =>
  LoopS (S := ((Option Addr × Nat × Nat) × Addr × Addr × Int × Unit)) (fun K1 s h => ref07_Layout_l3 Q K1 s.1.1 s.1.2.1 s.1.2.2 s.2.1 s.2.2.1 s.2.2.2.1 h) ((sizes_0_p, sizes_0_n, sizes_0_c), ⟨b1, 0, none⟩, ⟨b3, 0, none⟩, (0 : Int), ()) h7
noncomputable def tab_ref07_Layout : Tab := { sch := lookT .done [(13, (.one 0 (.one 2 (.one 3 (.one 4 (.early 1 (.alt 5 (.one 6 (.alt 7 (.one 8 (.alt 9 .done .stop)) .stop)) .stop)))))))], lp := lookT [] [(3, [(0, .sc (.slice)), (2, .sc (.adr)), (3, .sc (.adr)), (4, .sc (.int .i64))]), (8, [(0, .sc (.slice)), (2, .sc (.adr)), (3, .sc (.adr)), (5, .sc (.int .i64))])], jn := lookT none [] }
theorem eq_ref07_Layout (sizes_0_p : Option Addr) (sizes_0_n : Nat) (sizes_0_c : Nat) (h : Heap) (Q : Value → Heap → Prop) : fnI P Try.f33 tab_ref07_Layout [(.slice sizes_0_p sizes_0_n sizes_0_c)] h Q = ref07_Layout sizes_0_p sizes_0_n sizes_0_c h Q := by kernel_rfl
theorem ok_ref07_Layout : fnOk P Try.f33 tab_ref07_Layout = true := by kernel_rfl
theorem call_ref07_Layout (sizes_0_p : Option Addr) (sizes_0_n : Nat) (sizes_0_c : Nat) {h : Heap} {Q : Value → Heap → Prop} (H : ref07_Layout sizes_0_p sizes_0_n sizes_0_c h Q) : callP P n_ref07_Layout #[(.slice sizes_0_p sizes_0_n sizes_0_c)] h Q :=
  @callP_of P n_ref07_Layout Try.f33 tab_ref07_Layout [(.slice sizes_0_p sizes_0_n sizes_0_c)] h Q mixed Try.func33 Try.call33 ok_ref07_Layout (Eq.mpr (eq_ref07_Layout sizes_0_p sizes_0_n sizes_0_c h Q) H)

/-! ### earshot/earshotlaw07.lays: function 9 -/
def law07_lays (sizes_0_p : Option Addr) (sizes_0_n : Nat) (sizes_0_c : Nat) (h : Heap) (Q : Value → Heap → Prop) : Prop :=
  callP P n_arena_Layout #[(.slice sizes_0_p sizes_0_n sizes_0_c)] h fun v2 h1 =>
  ∃ p3 : Option Addr, ∃ l3 : Nat, ∃ c3 : Nat, ∃ n4 : Int, ∃ n5 : Int, v2 = (.tuple #[(.slice p3 l3 c3), (.int .i64 n4), (.int .i64 n5)]) ∧
  callP P n_ref07_Layout #[(.slice sizes_0_p sizes_0_n sizes_0_c)] h1 fun v7 h6 =>
  ∃ p8 : Option Addr, ∃ l8 : Nat, ∃ c8 : Nat, ∃ n9 : Int, ∃ n10 : Int, v7 = (.agg #[(.slice p8 l8 c8), (.int .i64 n9), (.int .i64 n10)]) ∧
  newI h6 (.cells #[(.slice none 0 0), (.int .i64 (0 : Int)), (.int .i64 (0 : Int))] 56 (0, 0)) fun b11 h12 =>
  stI h12 ⟨b11, 0, none⟩ (.slice p8 l8 c8) fun h13 =>
  stI h13 ⟨b11, 1, none⟩ (.int .i64 n9) fun h14 =>
  stI h14 ⟨b11, 2, none⟩ (.int .i64 n10) fun h15 =>
  ldSlice h15 ⟨b11, 0, none⟩ fun p16 l16 c16 =>
  callBool P n_ref04_Same #[(.slice p3 l3 c3), (.slice p16 l16 c16)] h15 fun b18 h17 =>
  ifB b18 (
    ldInt .i64 h17 ⟨b11, 1, none⟩ fun n19 =>
    ifB (n4 == n19) (
      ldInt .i64 h17 ⟨b11, 2, none⟩ fun n20 =>
      Q (.bool (n5 == n20)) h17) (
      Q (.bool false) h17)) (
    Q (.bool false) h17)
noncomputable def tab_law07_lays : Tab := { sch := lookT .done [], lp := lookT [] [], jn := lookT none [] }
theorem eq_law07_lays (sizes_0_p : Option Addr) (sizes_0_n : Nat) (sizes_0_c : Nat) (h : Heap) (Q : Value → Heap → Prop) : fnI P Try.f9 tab_law07_lays [(.slice sizes_0_p sizes_0_n sizes_0_c)] h Q = law07_lays sizes_0_p sizes_0_n sizes_0_c h Q := by kernel_rfl
theorem ok_law07_lays : fnOk P Try.f9 tab_law07_lays = true := by kernel_rfl
theorem call_law07_lays (sizes_0_p : Option Addr) (sizes_0_n : Nat) (sizes_0_c : Nat) {h : Heap} {Q : Value → Heap → Prop} (H : law07_lays sizes_0_p sizes_0_n sizes_0_c h Q) : callP P n_law07_lays #[(.slice sizes_0_p sizes_0_n sizes_0_c)] h Q :=
  @callP_of P n_law07_lays Try.f9 tab_law07_lays [(.slice sizes_0_p sizes_0_n sizes_0_c)] h Q mixed Try.func9 Try.call9 ok_law07_lays (Eq.mpr (eq_law07_lays sizes_0_p sizes_0_n sizes_0_c h Q) H)

/-! ### earshot/earshotlaw07.ArenaLays: function 3 -/
def law07_ArenaLays_l6 (Q : Value → Heap → Prop) (K1 : ((Option Addr × Nat × Nat) × (Option Addr × Nat × Nat) × Bool × (Option Addr × Nat × Nat) × Int × Unit) → Heap → Prop) (raw_0_p : Option Addr) (raw_0_n : Nat) (raw_0_c : Nat) (sizes_1_p : Option Addr) (sizes_1_n : Nat) (sizes_1_c : Nat) (up_5 : Bool) (l_6_p : Option Addr) (l_6_n : Nat) (l_6_c : Nat) (i_7 : Int) (h5 : Heap) : Prop :=
  ifB (decide (i_7 < ((sizes_1_n : Nat) : Int))) (
    ifB (decide (i_7 < (12 : Int))) (
      idxI sizes_1_p i_7 sizes_1_n fun a6 =>
      ldInt .i64 h5 (Addr.add a6 (i_7.toNat * 1)) fun n7 =>
      newI h5 (.cells #[(.int .i64 (andI .i64 n7 (1023 : Int)))] 3 (0, 0)) fun b8 h9 =>
      appI 3 1 8 (.int .i64 (0 : Int)) l_6_p l_6_n l_6_c (some ⟨b8, 0, none⟩) 1 h9 fun p10 l10 c10 h11 =>
      K1 ((raw_0_p, raw_0_n, raw_0_c), (sizes_1_p, sizes_1_n, sizes_1_c), up_5, (p10, l10, c10), (IntKind.wrap .i64 (i_7 + (1 : Int))), ()) h11) (
      ifB up_5 (
        callBool P n_law07_lays #[(.slice raw_0_p raw_0_n raw_0_c)] h5 fun b13 h12 =>
        ifB b13 (
          callBool P n_law07_lays #[(.slice l_6_p l_6_n l_6_c)] h12 fun b15 h14 =>
          Q (.bool b15) h14) (
          Q (.bool false) h12)) (
        Q (.bool false) h5))) (
    ifB up_5 (
      callBool P n_law07_lays #[(.slice raw_0_p raw_0_n raw_0_c)] h5 fun b17 h16 =>
      ifB b17 (
        callBool P n_law07_lays #[(.slice l_6_p l_6_n l_6_c)] h16 fun b19 h18 =>
        Q (.bool b19) h18) (
        Q (.bool false) h16)) (
      Q (.bool false) h5))
def law07_ArenaLays_j4 (Q : Value → Heap → Prop) (raw_0_p : Option Addr) (raw_0_n : Nat) (raw_0_c : Nat) (sizes_1_p : Option Addr) (sizes_1_n : Nat) (sizes_1_c : Nat) (up_5 : Bool) (h4 : Heap) : Prop :=
  LoopS (S := ((Option Addr × Nat × Nat) × (Option Addr × Nat × Nat) × Bool × (Option Addr × Nat × Nat) × Int × Unit)) (fun K1 s h => law07_ArenaLays_l6 Q K1 s.1.1 s.1.2.1 s.1.2.2 s.2.1.1 s.2.1.2.1 s.2.1.2.2 s.2.2.1 s.2.2.2.1.1 s.2.2.2.1.2.1 s.2.2.2.1.2.2 s.2.2.2.2.1 h) ((raw_0_p, raw_0_n, raw_0_c), (sizes_1_p, sizes_1_n, sizes_1_c), up_5, (none, 0, 0), (0 : Int), ()) h4
def law07_ArenaLays (raw_0_p : Option Addr) (raw_0_n : Nat) (raw_0_c : Nat) (sizes_1_p : Option Addr) (sizes_1_n : Nat) (sizes_1_c : Nat) (h : Heap) (Q : Value → Heap → Prop) : Prop :=
  callBool P n_law07_awake #[] h fun b2 h1 =>
  ∃ J3 : ((Option Addr × Nat × Nat) × (Option Addr × Nat × Nat) × Bool × Unit) → Heap → Prop, (∀ s h, J3 s h → law07_ArenaLays_j4 Q s.1.1 s.1.2.1 s.1.2.2 s.2.1.1 s.2.1.2.1 s.2.1.2.2 s.2.2.1 h) ∧
  ifB (decide (((raw_0_n : Nat) : Int) > (12 : Int))) (
    bndI (12 : Int) raw_0_c fun l20 =>
    J3 (((if raw_0_c = 0 then raw_0_p else Option.map (fun a => a.add (0 * 1)) raw_0_p), (l20 - 0), (raw_0_c - 0)), (sizes_1_p, sizes_1_n, sizes_1_c), b2, ()) h1) (
    J3 ((raw_0_p, raw_0_n, raw_0_c), (sizes_1_p, sizes_1_n, sizes_1_c), b2, ()) h1)
noncomputable def tab_law07_ArenaLays : Tab := { sch := lookT .done [], lp := lookT [] [(6, [(0, .sc (.slice)), (1, .sc (.slice)), (5, .sc (.bool)), (6, .sc (.slice)), (7, .sc (.int .i64))])], jn := lookT none [(4, some [(0, .sc (.slice)), (1, .sc (.slice)), (5, .sc (.bool))])] }
theorem eq_law07_ArenaLays (raw_0_p : Option Addr) (raw_0_n : Nat) (raw_0_c : Nat) (sizes_1_p : Option Addr) (sizes_1_n : Nat) (sizes_1_c : Nat) (h : Heap) (Q : Value → Heap → Prop) : fnI P Try.f3 tab_law07_ArenaLays [(.slice raw_0_p raw_0_n raw_0_c), (.slice sizes_1_p sizes_1_n sizes_1_c)] h Q = law07_ArenaLays raw_0_p raw_0_n raw_0_c sizes_1_p sizes_1_n sizes_1_c h Q := by kernel_rfl
theorem ok_law07_ArenaLays : fnOk P Try.f3 tab_law07_ArenaLays = true := by kernel_rfl
theorem call_law07_ArenaLays (raw_0_p : Option Addr) (raw_0_n : Nat) (raw_0_c : Nat) (sizes_1_p : Option Addr) (sizes_1_n : Nat) (sizes_1_c : Nat) {h : Heap} {Q : Value → Heap → Prop} (H : law07_ArenaLays raw_0_p raw_0_n raw_0_c sizes_1_p sizes_1_n sizes_1_c h Q) : callP P n_law07_ArenaLays #[(.slice raw_0_p raw_0_n raw_0_c), (.slice sizes_1_p sizes_1_n sizes_1_c)] h Q :=
  @callP_of P n_law07_ArenaLays Try.f3 tab_law07_ArenaLays [(.slice raw_0_p raw_0_n raw_0_c), (.slice sizes_1_p sizes_1_n sizes_1_c)] h Q mixed Try.func3 Try.call3 ok_law07_ArenaLays (Eq.mpr (eq_law07_ArenaLays raw_0_p raw_0_n raw_0_c sizes_1_p sizes_1_n sizes_1_c h Q) H)

/-! ### earshot/arena.New: function 10 -/
def arena_New (words_0 : Int) (h : Heap) (Q : Value → Heap → Prop) : Prop :=
  ifB (decide (words_0 < (0 : Int))) (
    Q (.pointer none) h) (
    ifB (decide (words_0 > (4096 : Int))) (
      Q (.pointer none) h) (
      mkI 3 1 8 (.int .i64 (0 : Int)) words_0 words_0 h fun b1 h2 =>
      newI h2 (.cells #[(.slice (some ⟨b1, 0, none⟩) words_0.toNat words_0.toNat), (.int .i64 (0 : Int))] 59 (0, 0)) fun b3 h4 =>
      Q (.pointer (some ⟨b3, 0, none⟩)) h4))
noncomputable def tab_arena_New : Tab := { sch := lookT .done [], lp := lookT [] [], jn := lookT none [] }
theorem eq_arena_New (words_0 : Int) (h : Heap) (Q : Value → Heap → Prop) : fnI P Try.f10 tab_arena_New [(.int .i64 words_0)] h Q = arena_New words_0 h Q := by kernel_rfl
theorem ok_arena_New : fnOk P Try.f10 tab_arena_New = true := by kernel_rfl
theorem call_arena_New (words_0 : Int) {h : Heap} {Q : Value → Heap → Prop} (H : arena_New words_0 h Q) : callP P n_arena_New #[(.int .i64 words_0)] h Q :=
  @callP_of P n_arena_New Try.f10 tab_arena_New [(.int .i64 words_0)] h Q mixed Try.func10 Try.call10 ok_arena_New (Eq.mpr (eq_arena_New words_0 h Q) H)

/-! ### slices.IndexFunc[[]int,int]: function 43 -/
def slices_IndexFunc_int_int_at_arena_Arena_Set_1_l2 (Q : Value → Heap → Prop) (K1 : ((Option Addr × Nat × Nat) × ((Unit) × (Unit)) × Int × Int × Unit) → Heap → Prop) (s_0_p : Option Addr) (s_0_n : Nat) (s_0_c : Nat) (t7 : Int) (t8 : Int) (h1 : Heap) : Prop :=
  ifB (decide (t8 < t7)) (
    idxI s_0_p t8 s_0_n fun a2 =>
    ldInt .i64 h1 (Addr.add a2 (t8.toNat * 1)) fun n3 =>
    callBool P n_arena_Arena_Set_1 #[(.int .i64 n3)] h1 fun b5 h4 =>
    ifB b5 (
      Q (.int .i64 t8) h4) (
      K1 ((s_0_p, s_0_n, s_0_c), ((()), (())), t7, (IntKind.wrap .i64 (t8 + (1 : Int))), ()) h4)) (
    Q (.int .i64 (-1 : Int)) h1)
def slices_IndexFunc_int_int_at_arena_Arena_Set_1 (s_0_p : Option Addr) (s_0_n : Nat) (s_0_c : Nat) (h : Heap) (Q : Value → Heap → Prop) : Prop :=
  LoopS (S := ((Option Addr × Nat × Nat) × ((Unit) × (Unit)) × Int × Int × Unit)) (fun K1 s h => slices_IndexFunc_int_int_at_arena_Arena_Set_1_l2 Q K1 s.1.1 s.1.2.1 s.1.2.2 s.2.2.1 s.2.2.2.1 h) ((s_0_p, s_0_n, s_0_c), ((()), (())), ((s_0_n : Nat) : Int), (0 : Int), ()) h
noncomputable def tab_slices_IndexFunc_int_int_at_arena_Arena_Set_1 : Tab := { sch := lookT .done [], lp := lookT [] [(2, [(0, .sc (.slice)), (1, .fn 35 [] []), (7, .sc (.int .i64)), (8, .sc (.int .i64))])], jn := lookT none [] }
theorem eq_slices_IndexFunc_int_int_at_arena_Arena_Set_1 (s_0_p : Option Addr) (s_0_n : Nat) (s_0_c : Nat) (h : Heap) (Q : Value → Heap → Prop) : fnI P Try.f43 tab_slices_IndexFunc_int_int_at_arena_Arena_Set_1 [(.slice s_0_p s_0_n s_0_c), (.func (.func n_arena_Arena_Set_1) #[] #[])] h Q = slices_IndexFunc_int_int_at_arena_Arena_Set_1 s_0_p s_0_n s_0_c h Q := by kernel_rfl
theorem ok_slices_IndexFunc_int_int_at_arena_Arena_Set_1 : fnOk P Try.f43 tab_slices_IndexFunc_int_int_at_arena_Arena_Set_1 = true := by kernel_rfl
theorem call_slices_IndexFunc_int_int_at_arena_Arena_Set_1 (s_0_p : Option Addr) (s_0_n : Nat) (s_0_c : Nat) {h : Heap} {Q : Value → Heap → Prop} (H : slices_IndexFunc_int_int_at_arena_Arena_Set_1 s_0_p s_0_n s_0_c h Q) : callP P n_slices_IndexFunc_int_int #[(.slice s_0_p s_0_n s_0_c), (.func (.func n_arena_Arena_Set_1) #[] #[])] h Q :=
  @callP_of P n_slices_IndexFunc_int_int Try.f43 tab_slices_IndexFunc_int_int_at_arena_Arena_Set_1 [(.slice s_0_p s_0_n s_0_c), (.func (.func n_arena_Arena_Set_1) #[] #[])] h Q mixed Try.func43 Try.call43 ok_slices_IndexFunc_int_int_at_arena_Arena_Set_1 (Eq.mpr (eq_slices_IndexFunc_int_int_at_arena_Arena_Set_1 s_0_p s_0_n s_0_c h Q) H)

/-! ### slices.ContainsFunc[[]int,int]: function 34 -/
def slices_ContainsFunc_int_int_at_arena_Arena_Set_1 (s_0_p : Option Addr) (s_0_n : Nat) (s_0_c : Nat) (h : Heap) (Q : Value → Heap → Prop) : Prop :=
  callInt P .i64 n_slices_IndexFunc_int_int #[(.slice s_0_p s_0_n s_0_c), (.func (.func n_arena_Arena_Set_1) #[] #[])] h fun n2 h1 =>
  Q (.bool (decide (n2 ≥ (0 : Int)))) h1
noncomputable def tab_slices_ContainsFunc_int_int_at_arena_Arena_Set_1 : Tab := { sch := lookT .done [], lp := lookT [] [], jn := lookT none [] }
theorem eq_slices_ContainsFunc_int_int_at_arena_Arena_Set_1 (s_0_p : Option Addr) (s_0_n : Nat) (s_0_c : Nat) (h : Heap) (Q : Value → Heap → Prop) : fnI P Try.f34 tab_slices_ContainsFunc_int_int_at_arena_Arena_Set_1 [(.slice s_0_p s_0_n s_0_c), (.func (.func n_arena_Arena_Set_1) #[] #[])] h Q = slices_ContainsFunc_int_int_at_arena_Arena_Set_1 s_0_p s_0_n s_0_c h Q := by kernel_rfl
theorem ok_slices_ContainsFunc_int_int_at_arena_Arena_Set_1 : fnOk P Try.f34 tab_slices_ContainsFunc_int_int_at_arena_Arena_Set_1 = true := by kernel_rfl
theorem call_slices_ContainsFunc_int_int_at_arena_Arena_Set_1 (s_0_p : Option Addr) (s_0_n : Nat) (s_0_c : Nat) {h : Heap} {Q : Value → Heap → Prop} (H : slices_ContainsFunc_int_int_at_arena_Arena_Set_1 s_0_p s_0_n s_0_c h Q) : callP P n_slices_ContainsFunc_int_int #[(.slice s_0_p s_0_n s_0_c), (.func (.func n_arena_Arena_Set_1) #[] #[])] h Q :=
  @callP_of P n_slices_ContainsFunc_int_int Try.f34 tab_slices_ContainsFunc_int_int_at_arena_Arena_Set_1 [(.slice s_0_p s_0_n s_0_c), (.func (.func n_arena_Arena_Set_1) #[] #[])] h Q mixed Try.func34 Try.call34 ok_slices_ContainsFunc_int_int_at_arena_Arena_Set_1 (Eq.mpr (eq_slices_ContainsFunc_int_int_at_arena_Arena_Set_1 s_0_p s_0_n s_0_c h Q) H)

/-! ### earshot/sat.ends: function 44 -/
def sat_ends (bits_0 : Int) (h : Heap) (Q : Value → Heap → Prop) : Prop :=
  ifB (decide (bits_0 < (1 : Int))) (
    Q (.tuple #[(.int .i64 (0 : Int)), (.int .i64 (0 : Int)), (.bool false)]) h) (
    ifB (decide (bits_0 > (64 : Int))) (
      Q (.tuple #[(.int .i64 (0 : Int)), (.int .i64 (0 : Int)), (.bool false)]) h) (
      nonnegI (IntKind.wrap .i64 ((64 : Int) - bits_0)) fun _ =>
      Q (.tuple #[(.int .i64 (shrI (-9223372036854775808 : Int) (min (IntKind.wrap .i64 ((64 : Int) - bits_0)).toNat 64))), (.int .i64 (xorI .i64 (-1) (shrI (-9223372036854775808 : Int) (min (IntKind.wrap .i64 ((64 : Int) - bits_0)).toNat 64)))), (.bool true)]) h))
noncomputable def tab_sat_ends : Tab := { sch := lookT .done [], lp := lookT [] [], jn := lookT none [] }
theorem eq_sat_ends (bits_0 : Int) (h : Heap) (Q : Value → Heap → Prop) : fnI P Try.f44 tab_sat_ends [(.int .i64 bits_0)] h Q = sat_ends bits_0 h Q := by kernel_rfl
theorem ok_sat_ends : fnOk P Try.f44 tab_sat_ends = true := by kernel_rfl
theorem call_sat_ends (bits_0 : Int) {h : Heap} {Q : Value → Heap → Prop} (H : sat_ends bits_0 h Q) : callP P n_sat_ends #[(.int .i64 bits_0)] h Q :=
  @callP_of P n_sat_ends Try.f44 tab_sat_ends [(.int .i64 bits_0)] h Q mixed Try.func44 Try.call44 ok_sat_ends (Eq.mpr (eq_sat_ends bits_0 h Q) H)

/-! ### earshot/sat.Fits: function 36 -/
def sat_Fits (x_0 : Int) (bits_1 : Int) (h : Heap) (Q : Value → Heap → Prop) : Prop :=
  callP P n_sat_ends #[(.int .i64 bits_1)] h fun v2 h1 =>
  ∃ n3 : Int, ∃ n4 : Int, ∃ b5 : Bool, v2 = (.tuple #[(.int .i64 n3), (.int .i64 n4), (.bool b5)]) ∧
  ifB b5 (
    ifB (decide (x_0 ≥ n3)) (
      Q (.bool (decide (x_0 ≤ n4))) h1) (
      Q (.bool false) h1)) (
    Q (.bool false) h1)
noncomputable def tab_sat_Fits : Tab := { sch := lookT .done [], lp := lookT [] [], jn := lookT none [] }
theorem eq_sat_Fits (x_0 : Int) (bits_1 : Int) (h : Heap) (Q : Value → Heap → Prop) : fnI P Try.f36 tab_sat_Fits [(.int .i64 x_0), (.int .i64 bits_1)] h Q = sat_Fits x_0 bits_1 h Q := by kernel_rfl
theorem ok_sat_Fits : fnOk P Try.f36 tab_sat_Fits = true := by kernel_rfl
theorem call_sat_Fits (x_0 : Int) (bits_1 : Int) {h : Heap} {Q : Value → Heap → Prop} (H : sat_Fits x_0 bits_1 h Q) : callP P n_sat_Fits #[(.int .i64 x_0), (.int .i64 bits_1)] h Q :=
  @callP_of P n_sat_Fits Try.f36 tab_sat_Fits [(.int .i64 x_0), (.int .i64 bits_1)] h Q mixed Try.func36 Try.call36 ok_sat_Fits (Eq.mpr (eq_sat_Fits x_0 bits_1 h Q) H)

/-! ### (*earshot/arena.Arena).Set$1: function 35 -/
def arena_Arena_Set_1 (x_0 : Int) (h : Heap) (Q : Value → Heap → Prop) : Prop :=
  callBool P n_sat_Fits #[(.int .i64 x_0), (.int .i64 (32 : Int))] h fun b2 h1 =>
  Q (.bool (!b2)) h1
noncomputable def tab_arena_Arena_Set_1 : Tab := { sch := lookT .done [], lp := lookT [] [], jn := lookT none [] }
theorem eq_arena_Arena_Set_1 (x_0 : Int) (h : Heap) (Q : Value → Heap → Prop) : fnI P Try.f35 tab_arena_Arena_Set_1 [(.int .i64 x_0)] h Q = arena_Arena_Set_1 x_0 h Q := by kernel_rfl
theorem ok_arena_Arena_Set_1 : fnOk P Try.f35 tab_arena_Arena_Set_1 = true := by kernel_rfl
theorem call_arena_Arena_Set_1 (x_0 : Int) {h : Heap} {Q : Value → Heap → Prop} (H : arena_Arena_Set_1 x_0 h Q) : callP P n_arena_Arena_Set_1 #[(.int .i64 x_0)] h Q :=
  @callP_of P n_arena_Arena_Set_1 Try.f35 tab_arena_Arena_Set_1 [(.int .i64 x_0)] h Q mixed Try.func35 Try.call35 ok_arena_Arena_Set_1 (Eq.mpr (eq_arena_Arena_Set_1 x_0 h Q) H)

/-! ### (*earshot/arena.Arena).Set: function 11 -/
def arena_Arena_Set (a_0 : Option Addr) (words_1_p : Option Addr) (words_1_n : Nat) (words_1_c : Nat) (h : Heap) (Q : Value → Heap → Prop) : Prop :=
  ifB ((a_0).isNone) (
    Q (.int .i64 (1 : Int)) h) (
    nilI a_0 fun a1 =>
    ldSlice h a1 fun p2 l2 c2 =>
    ifB (((words_1_n : Nat) : Int) != ((l2 : Nat) : Int)) (
      Q (.int .i64 (22 : Int)) h) (
      callBool P n_slices_ContainsFunc_int_int #[(.slice words_1_p words_1_n words_1_c), (.func (.func n_arena_Arena_Set_1) #[] #[])] h fun b4 h3 =>
      ifB b4 (
        Q (.int .i64 (16 : Int)) h3) (
        nilI a_0 fun a5 =>
        ldSlice h3 a5 fun p6 l6 c6 =>
        cpI 1 p6 l6 words_1_p words_1_n h3 fun n7 h8 =>
        Q (.int .i64 (0 : Int)) h8)))
noncomputable def tab_arena_Arena_Set : Tab := { sch := lookT .done [], lp := lookT [] [], jn := lookT none [] }
theorem eq_arena_Arena_Set (a_0 : Option Addr) (words_1_p : Option Addr) (words_1_n : Nat) (words_1_c : Nat) (h : Heap) (Q : Value → Heap → Prop) : fnI P Try.f11 tab_arena_Arena_Set [(.pointer a_0), (.slice words_1_p words_1_n words_1_c)] h Q = arena_Arena_Set a_0 words_1_p words_1_n words_1_c h Q := by kernel_rfl
theorem ok_arena_Arena_Set : fnOk P Try.f11 tab_arena_Arena_Set = true := by kernel_rfl
theorem call_arena_Arena_Set (a_0 : Option Addr) (words_1_p : Option Addr) (words_1_n : Nat) (words_1_c : Nat) {h : Heap} {Q : Value → Heap → Prop} (H : arena_Arena_Set a_0 words_1_p words_1_n words_1_c h Q) : callP P n_arena_Arena_Set #[(.pointer a_0), (.slice words_1_p words_1_n words_1_c)] h Q :=
  @callP_of P n_arena_Arena_Set Try.f11 tab_arena_Arena_Set [(.pointer a_0), (.slice words_1_p words_1_n words_1_c)] h Q mixed Try.func11 Try.call11 ok_arena_Arena_Set (Eq.mpr (eq_arena_Arena_Set a_0 words_1_p words_1_n words_1_c h Q) H)

/-! ### slices.Clone[[]int,int]: function 37 -/
def slices_Clone_int_int (s_0_p : Option Addr) (s_0_n : Nat) (s_0_c : Nat) (h : Heap) (Q : Value → Heap → Prop) : Prop :=
  ifB ((s_0_p).isNone) (
    Q (.slice none 0 0) h) (
    newI h (.cells #[] 3 (0, 0)) fun b1 h2 =>
    appI 3 1 8 (.int .i64 (0 : Int)) (some ⟨b1, 0, none⟩) 0 0 s_0_p s_0_n h2 fun p3 l3 c3 h4 =>
    Q (.slice p3 l3 c3) h4)
noncomputable def tab_slices_Clone_int_int : Tab := { sch := lookT .done [], lp := lookT [] [], jn := lookT none [] }
theorem eq_slices_Clone_int_int (s_0_p : Option Addr) (s_0_n : Nat) (s_0_c : Nat) (h : Heap) (Q : Value → Heap → Prop) : fnI P Try.f37 tab_slices_Clone_int_int [(.slice s_0_p s_0_n s_0_c)] h Q = slices_Clone_int_int s_0_p s_0_n s_0_c h Q := by kernel_rfl
theorem ok_slices_Clone_int_int : fnOk P Try.f37 tab_slices_Clone_int_int = true := by kernel_rfl
theorem call_slices_Clone_int_int (s_0_p : Option Addr) (s_0_n : Nat) (s_0_c : Nat) {h : Heap} {Q : Value → Heap → Prop} (H : slices_Clone_int_int s_0_p s_0_n s_0_c h Q) : callP P n_slices_Clone_int_int #[(.slice s_0_p s_0_n s_0_c)] h Q :=
  @callP_of P n_slices_Clone_int_int Try.f37 tab_slices_Clone_int_int [(.slice s_0_p s_0_n s_0_c)] h Q mixed Try.func37 Try.call37 ok_slices_Clone_int_int (Eq.mpr (eq_slices_Clone_int_int s_0_p s_0_n s_0_c h Q) H)

/-! ### (*earshot/arena.Arena).Words: function 12 -/
def arena_Arena_Words (a_0 : Option Addr) (h : Heap) (Q : Value → Heap → Prop) : Prop :=
  ifB ((a_0).isNone) (
    Q (.slice none 0 0) h) (
    nilI a_0 fun a1 =>
    ldSlice h a1 fun p2 l2 c2 =>
    callSlice P n_slices_Clone_int_int #[(.slice p2 l2 c2)] h fun p4 l4 c4 h3 =>
    Q (.slice p4 l4 c4) h3)
noncomputable def tab_arena_Arena_Words : Tab := { sch := lookT .done [], lp := lookT [] [], jn := lookT none [] }
theorem eq_arena_Arena_Words (a_0 : Option Addr) (h : Heap) (Q : Value → Heap → Prop) : fnI P Try.f12 tab_arena_Arena_Words [(.pointer a_0)] h Q = arena_Arena_Words a_0 h Q := by kernel_rfl
theorem ok_arena_Arena_Words : fnOk P Try.f12 tab_arena_Arena_Words = true := by kernel_rfl
theorem call_arena_Arena_Words (a_0 : Option Addr) {h : Heap} {Q : Value → Heap → Prop} (H : arena_Arena_Words a_0 h Q) : callP P n_arena_Arena_Words #[(.pointer a_0)] h Q :=
  @callP_of P n_arena_Arena_Words Try.f12 tab_arena_Arena_Words [(.pointer a_0)] h Q mixed Try.func12 Try.call12 ok_arena_Arena_Words (Eq.mpr (eq_arena_Arena_Words a_0 h Q) H)

/-! ### (*earshot/arena.Arena).Err: function 14 -/
def arena_Arena_Err (a_0 : Option Addr) (h : Heap) (Q : Value → Heap → Prop) : Prop :=
  ifB ((a_0).isNone) (
    Q (.int .i64 (1 : Int)) h) (
    nilI a_0 fun a1 =>
    ldInt .i64 h (Addr.add a1 1) fun n2 =>
    Q (.int .i64 n2) h)
noncomputable def tab_arena_Arena_Err : Tab := { sch := lookT .done [], lp := lookT [] [], jn := lookT none [] }
theorem eq_arena_Arena_Err (a_0 : Option Addr) (h : Heap) (Q : Value → Heap → Prop) : fnI P Try.f14 tab_arena_Arena_Err [(.pointer a_0)] h Q = arena_Arena_Err a_0 h Q := by kernel_rfl
theorem ok_arena_Arena_Err : fnOk P Try.f14 tab_arena_Arena_Err = true := by kernel_rfl
theorem call_arena_Arena_Err (a_0 : Option Addr) {h : Heap} {Q : Value → Heap → Prop} (H : arena_Arena_Err a_0 h Q) : callP P n_arena_Arena_Err #[(.pointer a_0)] h Q :=
  @callP_of P n_arena_Arena_Err Try.f14 tab_arena_Arena_Err [(.pointer a_0)] h Q mixed Try.func14 Try.call14 ok_arena_Arena_Err (Eq.mpr (eq_arena_Arena_Err a_0 h Q) H)

/-! ### earshot/earshotlaw07.ArenaKeeps: function 4 -/
def law07_ArenaKeeps_j22 (Q : Value → Heap → Prop) (K1 : (Int × Bool × (Option Addr × Nat × Nat) × Option Addr × Option Addr × Int × (Option Addr × Nat × Nat) × Int × Int × Unit) → Heap → Prop) (wide_1 : Int) (up_5 : Bool) (l_6_p : Option Addr) (l_6_n : Nat) (l_6_c : Nat) (a_8 : Option Addr) (b_9 : Option Addr) (one_10 : Int) (two_12 : Int) (same_14 : Bool) (also_15 : Bool) (more_16 : Int) (fits_17 : Bool) (h39 : Heap) : Prop :=
  ifB (((l_6_n : Nat) : Int) == (0 : Int)) (
    ifB up_5 (
      ifB (one_10 == (0 : Int)) (
        ifB (two_12 == (0 : Int)) (
          ifB same_14 (
            ifB also_15 (
              Q (.bool (more_16 == (22 : Int))) h39) (
              Q (.bool false) h39)) (
            Q (.bool false) h39)) (
          Q (.bool false) h39)) (
        Q (.bool false) h39)) (
      Q (.bool false) h39)) (
    idxI l_6_p (IntKind.wrap .i64 (((l_6_n : Nat) : Int) - (1 : Int))) l_6_n fun a40 =>
    stI h39 (Addr.add a40 ((IntKind.wrap .i64 (((l_6_n : Nat) : Int) - (1 : Int))).toNat * 1)) (.int .i64 wide_1) fun h41 =>
    callInt P .i64 n_arena_Arena_Set #[(.pointer b_9), (.slice l_6_p l_6_n l_6_c)] h41 fun n43 h42 =>
    callSlice P n_arena_Arena_Words #[(.pointer b_9)] h42 fun p45 l45 c45 h44 =>
    callSlice P n_arena_Arena_Words #[(.pointer a_8)] h44 fun p47 l47 c47 h46 =>
    callBool P n_ref04_Same #[(.slice p45 l45 c45), (.slice p47 l47 c47)] h46 fun b49 h48 =>
    ifB up_5 (
      ifB (one_10 == (0 : Int)) (
        ifB (two_12 == (0 : Int)) (
          ifB same_14 (
            ifB also_15 (
              ifB (more_16 == (22 : Int)) (
                ifB fits_17 (
                  ifB (n43 == (0 : Int)) (
                    callInt P .i64 n_arena_Arena_Err #[(.pointer a_8)] h48 fun n51 h50 =>
                    ifB (n51 == (0 : Int)) (
                      callInt P .i64 n_arena_Arena_Err #[(.pointer b_9)] h50 fun n53 h52 =>
                      Q (.bool (n53 == (0 : Int))) h52) (
                      Q (.bool false) h50)) (
                    ifB (!fits_17) (
                      ifB (n43 == (16 : Int)) (
                        ifB b49 (
                          callInt P .i64 n_arena_Arena_Err #[(.pointer a_8)] h48 fun n55 h54 =>
                          ifB (n55 == (0 : Int)) (
                            callInt P .i64 n_arena_Arena_Err #[(.pointer b_9)] h54 fun n57 h56 =>
                            Q (.bool (n57 == (0 : Int))) h56) (
                            Q (.bool false) h54)) (
                          Q (.bool false) h48)) (
                        Q (.bool false) h48)) (
                      Q (.bool false) h48))) (
                  ifB (!fits_17) (
                    ifB (n43 == (16 : Int)) (
                      ifB b49 (
                        callInt P .i64 n_arena_Arena_Err #[(.pointer a_8)] h48 fun n59 h58 =>
                        ifB (n59 == (0 : Int)) (
                          callInt P .i64 n_arena_Arena_Err #[(.pointer b_9)] h58 fun n61 h60 =>
                          Q (.bool (n61 == (0 : Int))) h60) (
                          Q (.bool false) h58)) (
                        Q (.bool false) h48)) (
                      Q (.bool false) h48)) (
                    Q (.bool false) h48))) (
                Q (.bool false) h48)) (
              Q (.bool false) h48)) (
            Q (.bool false) h48)) (
          Q (.bool false) h48)) (
        Q (.bool false) h48)) (
      Q (.bool false) h48))
def law07_ArenaKeeps_l15 (Q : Value → Heap → Prop) (K1 : (Int × Bool × (Option Addr × Nat × Nat) × Option Addr × Option Addr × Int × (Option Addr × Nat × Nat) × Int × Int × Unit) → Heap → Prop) (wide_1 : Int) (up_5 : Bool) (l_6_p : Option Addr) (l_6_n : Nat) (l_6_c : Nat) (a_8 : Option Addr) (b_9 : Option Addr) (one_10 : Int) (told_11_p : Option Addr) (told_11_n : Nat) (told_11_c : Nat) (two_12 : Int) (i_13 : Int) (h17 : Heap) : Prop :=
  ifB (decide (i_13 < ((told_11_n : Nat) : Int))) (
    idxI told_11_p i_13 told_11_n fun a18 =>
    stI h17 (Addr.add a18 (i_13.toNat * 1)) (.int .i64 (7 : Int)) fun h19 =>
    K1 (wide_1, up_5, (l_6_p, l_6_n, l_6_c), a_8, b_9, one_10, (told_11_p, told_11_n, told_11_c), two_12, (IntKind.wrap .i64 (i_13 + (1 : Int))), ()) h19) (
    callSlice P n_arena_Arena_Words #[(.pointer a_8)] h17 fun p21 l21 c21 h20 =>
    callBool P n_ref04_Same #[(.slice p21 l21 c21), (.slice l_6_p l_6_n l_6_c)] h20 fun b23 h22 =>
    callSlice P n_arena_Arena_Words #[(.pointer b_9)] h22 fun p25 l25 c25 h24 =>
    callBool P n_ref04_Same #[(.slice p25 l25 c25), (.slice l_6_p l_6_n l_6_c)] h24 fun b27 h26 =>
    newI h26 (.cells #[] 3 (0, 0)) fun b28 h29 =>
    appI 3 1 8 (.int .i64 (0 : Int)) (some ⟨b28, 0, none⟩) 0 0 l_6_p l_6_n h29 fun p30 l30 c30 h31 =>
    newI h31 (.cells #[(.int .i64 (0 : Int))] 3 (0, 0)) fun b32 h33 =>
    appI 3 1 8 (.int .i64 (0 : Int)) p30 l30 c30 (some ⟨b32, 0, none⟩) 1 h33 fun p34 l34 c34 h35 =>
    callInt P .i64 n_arena_Arena_Set #[(.pointer b_9), (.slice p34 l34 c34)] h35 fun n37 h36 =>
    ∃ J38 : (Int × Bool × (Option Addr × Nat × Nat) × Option Addr × Option Addr × Int × Int × Bool × Bool × Int × Bool × Unit) → Heap → Prop, (∀ s h, J38 s h → law07_ArenaKeeps_j22 Q K1 s.1 s.2.1 s.2.2.1.1 s.2.2.1.2.1 s.2.2.1.2.2 s.2.2.2.1 s.2.2.2.2.1 s.2.2.2.2.2.1 s.2.2.2.2.2.2.1 s.2.2.2.2.2.2.2.1 s.2.2.2.2.2.2.2.2.1 s.2.2.2.2.2.2.2.2.2.1 s.2.2.2.2.2.2.2.2.2.2.1 h) ∧
    ifB (decide (wide_1 ≥ (-2147483648 : Int))) (
      J38 (wide_1, up_5, (l_6_p, l_6_n, l_6_c), a_8, b_9, one_10, two_12, b23, b27, n37, (decide (wide_1 < (2147483648 : Int))), ()) h36) (
      J38 (wide_1, up_5, (l_6_p, l_6_n, l_6_c), a_8, b_9, one_10, two_12, b23, b27, n37, false, ()) h36))
def law07_ArenaKeeps_j11 (Q : Value → Heap → Prop) (wide_1 : Int) (up_5 : Bool) (l_6_p : Option Addr) (l_6_n : Nat) (l_6_c : Nat) (a_8 : Option Addr) (b_9 : Option Addr) (h10 : Heap) : Prop :=
  callInt P .i64 n_arena_Arena_Set #[(.pointer a_8), (.slice l_6_p l_6_n l_6_c)] h10 fun n12 h11 =>
  callSlice P n_arena_Arena_Words #[(.pointer a_8)] h11 fun p14 l14 c14 h13 =>
  callInt P .i64 n_arena_Arena_Set #[(.pointer b_9), (.slice p14 l14 c14)] h13 fun n16 h15 =>
  LoopS (S := (Int × Bool × (Option Addr × Nat × Nat) × Option Addr × Option Addr × Int × (Option Addr × Nat × Nat) × Int × Int × Unit)) (fun K1 s h => law07_ArenaKeeps_l15 Q K1 s.1 s.2.1 s.2.2.1.1 s.2.2.1.2.1 s.2.2.1.2.2 s.2.2.2.1 s.2.2.2.2.1 s.2.2.2.2.2.1 s.2.2.2.2.2.2.1.1 s.2.2.2.2.2.2.1.2.1 s.2.2.2.2.2.2.1.2.2 s.2.2.2.2.2.2.2.1 s.2.2.2.2.2.2.2.2.1 h) (wide_1, up_5, (l_6_p, l_6_n, l_6_c), a_8, b_9, n12, (p14, l14, c14), n16, (0 : Int), ()) h15
def law07_ArenaKeeps_j7 (Q : Value → Heap → Prop) (wide_1 : Int) (up_5 : Bool) (l_6_p : Option Addr) (l_6_n : Nat) (l_6_c : Nat) (h4 : Heap) : Prop :=
  callPtr P n_arena_New #[(.int .i64 ((l_6_n : Nat) : Int))] h4 fun p6 h5 =>
  callPtr P n_arena_New #[(.int .i64 ((l_6_n : Nat) : Int))] h5 fun p8 h7 =>
  ∃ J9 : (Int × Bool × (Option Addr × Nat × Nat) × Option Addr × Option Addr × Unit) → Heap → Prop, (∀ s h, J9 s h → law07_ArenaKeeps_j11 Q s.1 s.2.1 s.2.2.1.1 s.2.2.1.2.1 s.2.2.1.2.2 s.2.2.2.1 s.2.2.2.2.1 h) ∧
  ifB ((p6).isNone) (
    Q (.bool false) h7) (
    ifB ((p8).isNone) (
      Q (.bool false) h7) (
      J9 (wide_1, up_5, (l_6_p, l_6_n, l_6_c), p6, p8, ()) h7))
def law07_ArenaKeeps_l4 (Q : Value → Heap → Prop) (J3 : (Int × Bool × (Option Addr × Nat × Nat) × Unit) → Heap → Prop) (K1 : ((Option Addr × Nat × Nat) × Int × Bool × (Option Addr × Nat × Nat) × Int × Unit) → Heap → Prop) (xs_0_p : Option Addr) (xs_0_n : Nat) (xs_0_c : Nat) (wide_1 : Int) (up_5 : Bool) (l_6_p : Option Addr) (l_6_n : Nat) (l_6_c : Nat) (i_7 : Int) (h62 : Heap) : Prop :=
  ifB (decide (i_7 < ((xs_0_n : Nat) : Int))) (
    ifB (decide (i_7 < (40 : Int))) (
      idxI xs_0_p i_7 xs_0_n fun a63 =>
      ldInt .i64 h62 (Addr.add a63 (i_7.toNat * 1)) fun n64 =>
      newI h62 (.cells #[(.int .i64 (IntKind.wrap .i64 (IntKind.wrap .i32 n64)))] 3 (0, 0)) fun b65 h66 =>
      appI 3 1 8 (.int .i64 (0 : Int)) l_6_p l_6_n l_6_c (some ⟨b65, 0, none⟩) 1 h66 fun p67 l67 c67 h68 =>
      K1 ((xs_0_p, xs_0_n, xs_0_c), wide_1, up_5, (p67, l67, c67), (IntKind.wrap .i64 (i_7 + (1 : Int))), ()) h68) (
      J3 (wide_1, up_5, (l_6_p, l_6_n, l_6_c), ()) h62)) (
    J3 (wide_1, up_5, (l_6_p, l_6_n, l_6_c), ()) h62)
def law07_ArenaKeeps (xs_0_p : Option Addr) (xs_0_n : Nat) (xs_0_c : Nat) (wide_1 : Int) (h : Heap) (Q : Value → Heap → Prop) : Prop :=
  callBool P n_law07_awake #[] h fun b2 h1 =>
  ∃ J3 : (Int × Bool × (Option Addr × Nat × Nat) × Unit) → Heap → Prop, (∀ s h, J3 s h → law07_ArenaKeeps_j7 Q s.1 s.2.1 s.2.2.1.1 s.2.2.1.2.1 s.2.2.1.2.2 h) ∧
  LoopS (S := ((Option Addr × Nat × Nat) × Int × Bool × (Option Addr × Nat × Nat) × Int × Unit)) (fun K1 s h => law07_ArenaKeeps_l4 Q J3 K1 s.1.1 s.1.2.1 s.1.2.2 s.2.1 s.2.2.1 s.2.2.2.1.1 s.2.2.2.1.2.1 s.2.2.2.1.2.2 s.2.2.2.2.1 h) ((xs_0_p, xs_0_n, xs_0_c), wide_1, b2, (none, 0, 0), (0 : Int), ()) h1
noncomputable def tab_law07_ArenaKeeps : Tab := { sch := lookT .done [], lp := lookT [] [(4, [(0, .sc (.slice)), (1, .sc (.int .i64)), (5, .sc (.bool)), (6, .sc (.slice)), (7, .sc (.int .i64))]), (15, [(1, .sc (.int .i64)), (5, .sc (.bool)), (6, .sc (.slice)), (8, .sc (.ptr)), (9, .sc (.ptr)), (10, .sc (.int .i64)), (11, .sc (.slice)), (12, .sc (.int .i64)), (13, .sc (.int .i64))])], jn := lookT none [(7, some [(1, .sc (.int .i64)), (5, .sc (.bool)), (6, .sc (.slice))]), (11, some [(1, .sc (.int .i64)), (5, .sc (.bool)), (6, .sc (.slice)), (8, .sc (.ptr)), (9, .sc (.ptr))]), (22, some [(1, .sc (.int .i64)), (5, .sc (.bool)), (6, .sc (.slice)), (8, .sc (.ptr)), (9, .sc (.ptr)), (10, .sc (.int .i64)), (12, .sc (.int .i64)), (14, .sc (.bool)), (15, .sc (.bool)), (16, .sc (.int .i64)), (17, .sc (.bool))])] }
theorem eq_law07_ArenaKeeps (xs_0_p : Option Addr) (xs_0_n : Nat) (xs_0_c : Nat) (wide_1 : Int) (h : Heap) (Q : Value → Heap → Prop) : fnI P Try.f4 tab_law07_ArenaKeeps [(.slice xs_0_p xs_0_n xs_0_c), (.int .i64 wide_1)] h Q = law07_ArenaKeeps xs_0_p xs_0_n xs_0_c wide_1 h Q := by kernel_rfl
theorem ok_law07_ArenaKeeps : fnOk P Try.f4 tab_law07_ArenaKeeps = true := by kernel_rfl
theorem call_law07_ArenaKeeps (xs_0_p : Option Addr) (xs_0_n : Nat) (xs_0_c : Nat) (wide_1 : Int) {h : Heap} {Q : Value → Heap → Prop} (H : law07_ArenaKeeps xs_0_p xs_0_n xs_0_c wide_1 h Q) : callP P n_law07_ArenaKeeps #[(.slice xs_0_p xs_0_n xs_0_c), (.int .i64 wide_1)] h Q :=
  @callP_of P n_law07_ArenaKeeps Try.f4 tab_law07_ArenaKeeps [(.slice xs_0_p xs_0_n xs_0_c), (.int .i64 wide_1)] h Q mixed Try.func4 Try.call4 ok_law07_ArenaKeeps (Eq.mpr (eq_law07_ArenaKeeps xs_0_p xs_0_n xs_0_c wide_1 h Q) H)

/-! ### (*earshot/arena.Arena).Part: function 16 -/
def arena_Arena_Part_j3 (Q : Value → Heap → Prop) (a_0 : Option Addr) (at_1 : Int) (n_2 : Int) (h2 : Heap) : Prop :=
  nilI a_0 fun a3 =>
  ldSlice h2 a3 fun p4 l4 c4 =>
  bndI (IntKind.wrap .i64 (at_1 + n_2)) c4 fun l5 =>
  bndI (IntKind.wrap .i64 (at_1 + n_2)) l5 fun l6 =>
  bndI at_1 l6 fun l7 =>
  newI h2 (.cells #[(.pointer a_0), (.slice (if l5 = l7 then p4 else Option.map (fun a => a.add (l7 * 1)) p4) (l6 - l7) (l5 - l7))] 64 (0, 0)) fun b8 h9 =>
  Q (.pointer (some ⟨b8, 0, none⟩)) h9
def arena_Arena_Part (a_0 : Option Addr) (at_1 : Int) (n_2 : Int) (h : Heap) (Q : Value → Heap → Prop) : Prop :=
  ∃ J1 : (Option Addr × Int × Int × Unit) → Heap → Prop, (∀ s h, J1 s h → arena_Arena_Part_j3 Q s.1 s.2.1 s.2.2.1 h) ∧
  ifB ((a_0).isNone) (
    Q (.pointer none) h) (
    ifB (decide (at_1 < (0 : Int))) (
      Q (.pointer none) h) (
      ifB (decide (n_2 < (0 : Int))) (
        Q (.pointer none) h) (
        nilI a_0 fun a10 =>
        ldSlice h a10 fun p11 l11 c11 =>
        ifB (decide (at_1 > ((l11 : Nat) : Int))) (
          Q (.pointer none) h) (
          nilI a_0 fun a12 =>
          ldSlice h a12 fun p13 l13 c13 =>
          ifB (decide (n_2 > (IntKind.wrap .i64 (((l13 : Nat) : Int) - at_1)))) (
            Q (.pointer none) h) (
            J1 (a_0, at_1, n_2, ()) h)))))
noncomputable def tab_arena_Arena_Part : Tab := { sch := lookT .done [], lp := lookT [] [], jn := lookT none [(3, some [(0, .sc (.ptr)), (1, .sc (.int .i64)), (2, .sc (.int .i64))])] }
theorem eq_arena_Arena_Part (a_0 : Option Addr) (at_1 : Int) (n_2 : Int) (h : Heap) (Q : Value → Heap → Prop) : fnI P Try.f16 tab_arena_Arena_Part [(.pointer a_0), (.int .i64 at_1), (.int .i64 n_2)] h Q = arena_Arena_Part a_0 at_1 n_2 h Q := by kernel_rfl
theorem ok_arena_Arena_Part : fnOk P Try.f16 tab_arena_Arena_Part = true := by kernel_rfl
theorem call_arena_Arena_Part (a_0 : Option Addr) (at_1 : Int) (n_2 : Int) {h : Heap} {Q : Value → Heap → Prop} (H : arena_Arena_Part a_0 at_1 n_2 h Q) : callP P n_arena_Arena_Part #[(.pointer a_0), (.int .i64 at_1), (.int .i64 n_2)] h Q :=
  @callP_of P n_arena_Arena_Part Try.f16 tab_arena_Arena_Part [(.pointer a_0), (.int .i64 at_1), (.int .i64 n_2)] h Q mixed Try.func16 Try.call16 ok_arena_Arena_Part (Eq.mpr (eq_arena_Arena_Part a_0 at_1 n_2 h Q) H)

/-! ### (*earshot/arena.Arena).trouble: function 38 -/
def arena_Arena_trouble (a_0 : Option Addr) (e_1 : Int) (h : Heap) (Q : Value → Heap → Prop) : Prop :=
  nilI a_0 fun a1 =>
  ldInt .i64 h (Addr.add a1 1) fun n2 =>
  ifB (n2 == (0 : Int)) (
    nilI a_0 fun a3 =>
    stI h (Addr.add a3 1) (.int .i64 e_1) fun h4 =>
    Q (.tuple #[]) h4) (
    Q (.tuple #[]) h)
noncomputable def tab_arena_Arena_trouble : Tab := { sch := lookT .done [], lp := lookT [] [], jn := lookT none [] }
theorem eq_arena_Arena_trouble (a_0 : Option Addr) (e_1 : Int) (h : Heap) (Q : Value → Heap → Prop) : fnI P Try.f38 tab_arena_Arena_trouble [(.pointer a_0), (.int .i64 e_1)] h Q = arena_Arena_trouble a_0 e_1 h Q := by kernel_rfl
theorem ok_arena_Arena_trouble : fnOk P Try.f38 tab_arena_Arena_trouble = true := by kernel_rfl
theorem call_arena_Arena_trouble (a_0 : Option Addr) (e_1 : Int) {h : Heap} {Q : Value → Heap → Prop} (H : arena_Arena_trouble a_0 e_1 h Q) : callP P n_arena_Arena_trouble #[(.pointer a_0), (.int .i64 e_1)] h Q :=
  @callP_of P n_arena_Arena_trouble Try.f38 tab_arena_Arena_trouble [(.pointer a_0), (.int .i64 e_1)] h Q mixed Try.func38 Try.call38 ok_arena_Arena_trouble (Eq.mpr (eq_arena_Arena_trouble a_0 e_1 h Q) H)

/-! ### (*earshot/arena.Part).Put: function 17 -/
def arena_Part_Put (p_0 : Option Addr) (i_1 : Int) (x_2 : Int) (h : Heap) (Q : Value → Heap → Prop) : Prop :=
  ifB ((p_0).isNone) (
    Q (.tuple #[]) h) (
    ifB (decide (i_1 < (0 : Int))) (
      nilI p_0 fun a1 =>
      ldPtr h a1 fun p2 =>
      callUnit P n_arena_Arena_trouble #[(.pointer p2), (.int .i64 (1 : Int))] h fun h3 =>
      Q (.tuple #[]) h3) (
      nilI p_0 fun a4 =>
      ldSlice h (Addr.add a4 1) fun p5 l5 c5 =>
      ifB (decide (i_1 ≥ ((l5 : Nat) : Int))) (
        nilI p_0 fun a6 =>
        ldPtr h a6 fun p7 =>
        callUnit P n_arena_Arena_trouble #[(.pointer p7), (.int .i64 (1 : Int))] h fun h8 =>
        Q (.tuple #[]) h8) (
        callBool P n_sat_Fits #[(.int .i64 x_2), (.int .i64 (32 : Int))] h fun b10 h9 =>
        ifB (!b10) (
          nilI p_0 fun a11 =>
          ldPtr h9 a11 fun p12 =>
          callUnit P n_arena_Arena_trouble #[(.pointer p12), (.int .i64 (16 : Int))] h9 fun h13 =>
          Q (.tuple #[]) h13) (
          nilI p_0 fun a14 =>
          ldSlice h9 (Addr.add a14 1) fun p15 l15 c15 =>
          idxI p15 i_1 l15 fun a16 =>
          stI h9 (Addr.add a16 (i_1.toNat * 1)) (.int .i64 x_2) fun h17 =>
          Q (.tuple #[]) h17))))
noncomputable def tab_arena_Part_Put : Tab := { sch := lookT .done [], lp := lookT [] [], jn := lookT none [] }
theorem eq_arena_Part_Put (p_0 : Option Addr) (i_1 : Int) (x_2 : Int) (h : Heap) (Q : Value → Heap → Prop) : fnI P Try.f17 tab_arena_Part_Put [(.pointer p_0), (.int .i64 i_1), (.int .i64 x_2)] h Q = arena_Part_Put p_0 i_1 x_2 h Q := by kernel_rfl
theorem ok_arena_Part_Put : fnOk P Try.f17 tab_arena_Part_Put = true := by kernel_rfl
theorem call_arena_Part_Put (p_0 : Option Addr) (i_1 : Int) (x_2 : Int) {h : Heap} {Q : Value → Heap → Prop} (H : arena_Part_Put p_0 i_1 x_2 h Q) : callP P n_arena_Part_Put #[(.pointer p_0), (.int .i64 i_1), (.int .i64 x_2)] h Q :=
  @callP_of P n_arena_Part_Put Try.f17 tab_arena_Part_Put [(.pointer p_0), (.int .i64 i_1), (.int .i64 x_2)] h Q mixed Try.func17 Try.call17 ok_arena_Part_Put (Eq.mpr (eq_arena_Part_Put p_0 i_1 x_2 h Q) H)

/-! ### (*earshot/arena.Part).Get: function 18 -/
def arena_Part_Get (p_0 : Option Addr) (i_1 : Int) (h : Heap) (Q : Value → Heap → Prop) : Prop :=
  ifB ((p_0).isNone) (
    Q (.int .i64 (0 : Int)) h) (
    ifB (decide (i_1 < (0 : Int))) (
      nilI p_0 fun a1 =>
      ldPtr h a1 fun p2 =>
      callUnit P n_arena_Arena_trouble #[(.pointer p2), (.int .i64 (1 : Int))] h fun h3 =>
      Q (.int .i64 (0 : Int)) h3) (
      nilI p_0 fun a4 =>
      ldSlice h (Addr.add a4 1) fun p5 l5 c5 =>
      ifB (decide (i_1 ≥ ((l5 : Nat) : Int))) (
        nilI p_0 fun a6 =>
        ldPtr h a6 fun p7 =>
        callUnit P n_arena_Arena_trouble #[(.pointer p7), (.int .i64 (1 : Int))] h fun h8 =>
        Q (.int .i64 (0 : Int)) h8) (
        nilI p_0 fun a9 =>
        ldSlice h (Addr.add a9 1) fun p10 l10 c10 =>
        idxI p10 i_1 l10 fun a11 =>
        ldInt .i64 h (Addr.add a11 (i_1.toNat * 1)) fun n12 =>
        Q (.int .i64 n12) h)))
noncomputable def tab_arena_Part_Get : Tab := { sch := lookT .done [], lp := lookT [] [], jn := lookT none [] }
theorem eq_arena_Part_Get (p_0 : Option Addr) (i_1 : Int) (h : Heap) (Q : Value → Heap → Prop) : fnI P Try.f18 tab_arena_Part_Get [(.pointer p_0), (.int .i64 i_1)] h Q = arena_Part_Get p_0 i_1 h Q := by kernel_rfl
theorem ok_arena_Part_Get : fnOk P Try.f18 tab_arena_Part_Get = true := by kernel_rfl
theorem call_arena_Part_Get (p_0 : Option Addr) (i_1 : Int) {h : Heap} {Q : Value → Heap → Prop} (H : arena_Part_Get p_0 i_1 h Q) : callP P n_arena_Part_Get #[(.pointer p_0), (.int .i64 i_1)] h Q :=
  @callP_of P n_arena_Part_Get Try.f18 tab_arena_Part_Get [(.pointer p_0), (.int .i64 i_1)] h Q mixed Try.func18 Try.call18 ok_arena_Part_Get (Eq.mpr (eq_arena_Part_Get p_0 i_1 h Q) H)

/-! ### (*earshot/arena.Arena).Len: function 32 -/
def arena_Arena_Len (a_0 : Option Addr) (h : Heap) (Q : Value → Heap → Prop) : Prop :=
  ifB ((a_0).isNone) (
    Q (.int .i64 (0 : Int)) h) (
    nilI a_0 fun a1 =>
    ldSlice h a1 fun p2 l2 c2 =>
    Q (.int .i64 ((l2 : Nat) : Int)) h)
noncomputable def tab_arena_Arena_Len : Tab := { sch := lookT .done [], lp := lookT [] [], jn := lookT none [] }
theorem eq_arena_Arena_Len (a_0 : Option Addr) (h : Heap) (Q : Value → Heap → Prop) : fnI P Try.f32 tab_arena_Arena_Len [(.pointer a_0)] h Q = arena_Arena_Len a_0 h Q := by kernel_rfl
theorem ok_arena_Arena_Len : fnOk P Try.f32 tab_arena_Arena_Len = true := by kernel_rfl
theorem call_arena_Arena_Len (a_0 : Option Addr) {h : Heap} {Q : Value → Heap → Prop} (H : arena_Arena_Len a_0 h Q) : callP P n_arena_Arena_Len #[(.pointer a_0)] h Q :=
  @callP_of P n_arena_Arena_Len Try.f32 tab_arena_Arena_Len [(.pointer a_0)] h Q mixed Try.func32 Try.call32 ok_arena_Arena_Len (Eq.mpr (eq_arena_Arena_Len a_0 h Q) H)

/-! ### (*earshot/arena.Arena).whole: function 39 -/
def arena_Arena_whole (a_0 : Option Addr) (h : Heap) (Q : Value → Heap → Prop) : Prop :=
  callInt P .i64 n_arena_Arena_Len #[(.pointer a_0)] h fun n2 h1 =>
  callPtr P n_arena_Arena_Part #[(.pointer a_0), (.int .i64 (0 : Int)), (.int .i64 n2)] h1 fun p4 h3 =>
  Q (.pointer p4) h3
noncomputable def tab_arena_Arena_whole : Tab := { sch := lookT .done [], lp := lookT [] [], jn := lookT none [] }
theorem eq_arena_Arena_whole (a_0 : Option Addr) (h : Heap) (Q : Value → Heap → Prop) : fnI P Try.f39 tab_arena_Arena_whole [(.pointer a_0)] h Q = arena_Arena_whole a_0 h Q := by kernel_rfl
theorem ok_arena_Arena_whole : fnOk P Try.f39 tab_arena_Arena_whole = true := by kernel_rfl
theorem call_arena_Arena_whole (a_0 : Option Addr) {h : Heap} {Q : Value → Heap → Prop} (H : arena_Arena_whole a_0 h Q) : callP P n_arena_Arena_whole #[(.pointer a_0)] h Q :=
  @callP_of P n_arena_Arena_whole Try.f39 tab_arena_Arena_whole [(.pointer a_0)] h Q mixed Try.func39 Try.call39 ok_arena_Arena_whole (Eq.mpr (eq_arena_Arena_whole a_0 h Q) H)

/-! ### (*earshot/arena.Arena).Get: function 19 -/
def arena_Arena_Get (a_0 : Option Addr) (i_1 : Int) (h : Heap) (Q : Value → Heap → Prop) : Prop :=
  callPtr P n_arena_Arena_whole #[(.pointer a_0)] h fun p2 h1 =>
  callInt P .i64 n_arena_Part_Get #[(.pointer p2), (.int .i64 i_1)] h1 fun n4 h3 =>
  Q (.int .i64 n4) h3
noncomputable def tab_arena_Arena_Get : Tab := { sch := lookT .done [], lp := lookT [] [], jn := lookT none [] }
theorem eq_arena_Arena_Get (a_0 : Option Addr) (i_1 : Int) (h : Heap) (Q : Value → Heap → Prop) : fnI P Try.f19 tab_arena_Arena_Get [(.pointer a_0), (.int .i64 i_1)] h Q = arena_Arena_Get a_0 i_1 h Q := by kernel_rfl
theorem ok_arena_Arena_Get : fnOk P Try.f19 tab_arena_Arena_Get = true := by kernel_rfl
theorem call_arena_Arena_Get (a_0 : Option Addr) (i_1 : Int) {h : Heap} {Q : Value → Heap → Prop} (H : arena_Arena_Get a_0 i_1 h Q) : callP P n_arena_Arena_Get #[(.pointer a_0), (.int .i64 i_1)] h Q :=
  @callP_of P n_arena_Arena_Get Try.f19 tab_arena_Arena_Get [(.pointer a_0), (.int .i64 i_1)] h Q mixed Try.func19 Try.call19 ok_arena_Arena_Get (Eq.mpr (eq_arena_Arena_Get a_0 i_1 h Q) H)

/-! ### earshot/earshotlaw07.ArenaApart: function 5 -/
def law07_ArenaApart_l24 (Q : Value → Heap → Prop) (K1 : (Int × Bool × (Option Addr × Nat × Nat) × (Option Addr × Nat × Nat) × Int × Option Addr × Int × Int × Int × Unit) → Heap → Prop) (K2 : (Int × Bool × (Option Addr × Nat × Nat) × (Option Addr × Nat × Nat) × Int × Option Addr × Int × Int × Int × Option Addr × Int × Unit) → Heap → Prop) (x_2 : Int) (up_7 : Bool) (l_8_p : Option Addr) (l_8_n : Nat) (l_8_c : Nat) (at_10_p : Option Addr) (at_10_n : Nat) (at_10_c : Nat) (n_11 : Int) (a_13 : Option Addr) (k_14 : Int) (i_15 : Int) (j_17 : Int) (p_18 : Option Addr) (m_19 : Int) (h42 : Heap) : Prop :=
  idxI l_8_p j_17 l_8_n fun a43 =>
  ldInt .i64 h42 (Addr.add a43 (j_17.toNat * 1)) fun n44 =>
  ifB (decide (m_19 < n44)) (
    callInt P .i64 n_arena_Part_Get #[(.pointer p_18), (.int .i64 m_19)] h42 fun n46 h45 =>
    ifB (j_17 == k_14) (
      ifB (m_19 == i_15) (
        ifB (n46 != (IntKind.wrap .i64 x_2)) (
          Q (.bool false) h45) (
          ifB (j_17 != k_14) (
            ifB (n46 != (0 : Int)) (
              Q (.bool false) h45) (
              K2 (x_2, up_7, (l_8_p, l_8_n, l_8_c), (at_10_p, at_10_n, at_10_c), n_11, a_13, k_14, i_15, j_17, p_18, (IntKind.wrap .i64 (m_19 + (1 : Int))), ()) h45)) (
            ifB (m_19 != i_15) (
              ifB (n46 != (0 : Int)) (
                Q (.bool false) h45) (
                K2 (x_2, up_7, (l_8_p, l_8_n, l_8_c), (at_10_p, at_10_n, at_10_c), n_11, a_13, k_14, i_15, j_17, p_18, (IntKind.wrap .i64 (m_19 + (1 : Int))), ()) h45)) (
              K2 (x_2, up_7, (l_8_p, l_8_n, l_8_c), (at_10_p, at_10_n, at_10_c), n_11, a_13, k_14, i_15, j_17, p_18, (IntKind.wrap .i64 (m_19 + (1 : Int))), ()) h45)))) (
        ifB (j_17 != k_14) (
          ifB (n46 != (0 : Int)) (
            Q (.bool false) h45) (
            K2 (x_2, up_7, (l_8_p, l_8_n, l_8_c), (at_10_p, at_10_n, at_10_c), n_11, a_13, k_14, i_15, j_17, p_18, (IntKind.wrap .i64 (m_19 + (1 : Int))), ()) h45)) (
          ifB (m_19 != i_15) (
            ifB (n46 != (0 : Int)) (
              Q (.bool false) h45) (
              K2 (x_2, up_7, (l_8_p, l_8_n, l_8_c), (at_10_p, at_10_n, at_10_c), n_11, a_13, k_14, i_15, j_17, p_18, (IntKind.wrap .i64 (m_19 + (1 : Int))), ()) h45)) (
            K2 (x_2, up_7, (l_8_p, l_8_n, l_8_c), (at_10_p, at_10_n, at_10_c), n_11, a_13, k_14, i_15, j_17, p_18, (IntKind.wrap .i64 (m_19 + (1 : Int))), ()) h45)))) (
      ifB (j_17 != k_14) (
        ifB (n46 != (0 : Int)) (
          Q (.bool false) h45) (
          K2 (x_2, up_7, (l_8_p, l_8_n, l_8_c), (at_10_p, at_10_n, at_10_c), n_11, a_13, k_14, i_15, j_17, p_18, (IntKind.wrap .i64 (m_19 + (1 : Int))), ()) h45)) (
        ifB (m_19 != i_15) (
          ifB (n46 != (0 : Int)) (
            Q (.bool false) h45) (
            K2 (x_2, up_7, (l_8_p, l_8_n, l_8_c), (at_10_p, at_10_n, at_10_c), n_11, a_13, k_14, i_15, j_17, p_18, (IntKind.wrap .i64 (m_19 + (1 : Int))), ()) h45)) (
          K2 (x_2, up_7, (l_8_p, l_8_n, l_8_c), (at_10_p, at_10_n, at_10_c), n_11, a_13, k_14, i_15, j_17, p_18, (IntKind.wrap .i64 (m_19 + (1 : Int))), ()) h45)))) (
    K1 (x_2, up_7, (l_8_p, l_8_n, l_8_c), (at_10_p, at_10_n, at_10_c), n_11, a_13, k_14, i_15, (IntKind.wrap .i64 (j_17 + (1 : Int))), ()) h42)
def law07_ArenaApart_j23 (Q : Value → Heap → Prop) (K1 : (Int × Bool × (Option Addr × Nat × Nat) × (Option Addr × Nat × Nat) × Int × Option Addr × Int × Int × Int × Unit) → Heap → Prop) (x_2 : Int) (up_7 : Bool) (l_8_p : Option Addr) (l_8_n : Nat) (l_8_c : Nat) (at_10_p : Option Addr) (at_10_n : Nat) (at_10_c : Nat) (n_11 : Int) (a_13 : Option Addr) (k_14 : Int) (i_15 : Int) (j_17 : Int) (p_18 : Option Addr) (h41 : Heap) : Prop :=
  LoopS (S := (Int × Bool × (Option Addr × Nat × Nat) × (Option Addr × Nat × Nat) × Int × Option Addr × Int × Int × Int × Option Addr × Int × Unit)) (fun K2 s h => law07_ArenaApart_l24 Q K1 K2 s.1 s.2.1 s.2.2.1.1 s.2.2.1.2.1 s.2.2.1.2.2 s.2.2.2.1.1 s.2.2.2.1.2.1 s.2.2.2.1.2.2 s.2.2.2.2.1 s.2.2.2.2.2.1 s.2.2.2.2.2.2.1 s.2.2.2.2.2.2.2.1 s.2.2.2.2.2.2.2.2.1 s.2.2.2.2.2.2.2.2.2.1 s.2.2.2.2.2.2.2.2.2.2.1 h) (x_2, up_7, (l_8_p, l_8_n, l_8_c), (at_10_p, at_10_n, at_10_c), n_11, a_13, k_14, i_15, j_17, p_18, (0 : Int), ()) h41
def law07_ArenaApart_l18 (Q : Value → Heap → Prop) (K1 : (Int × Bool × (Option Addr × Nat × Nat) × (Option Addr × Nat × Nat) × Int × Option Addr × Int × Int × Int × Unit) → Heap → Prop) (x_2 : Int) (up_7 : Bool) (l_8_p : Option Addr) (l_8_n : Nat) (l_8_c : Nat) (at_10_p : Option Addr) (at_10_n : Nat) (at_10_c : Nat) (n_11 : Int) (a_13 : Option Addr) (k_14 : Int) (i_15 : Int) (j_17 : Int) (h33 : Heap) : Prop :=
  ifB (decide (j_17 < ((l_8_n : Nat) : Int))) (
    idxI at_10_p j_17 at_10_n fun a34 =>
    idxI l_8_p j_17 l_8_n fun a35 =>
    ldInt .i64 h33 (Addr.add a34 (j_17.toNat * 1)) fun n36 =>
    ldInt .i64 h33 (Addr.add a35 (j_17.toNat * 1)) fun n37 =>
    callPtr P n_arena_Arena_Part #[(.pointer a_13), (.int .i64 n36), (.int .i64 n37)] h33 fun p39 h38 =>
    ∃ J40 : (Int × Bool × (Option Addr × Nat × Nat) × (Option Addr × Nat × Nat) × Int × Option Addr × Int × Int × Int × Option Addr × Unit) → Heap → Prop, (∀ s h, J40 s h → law07_ArenaApart_j23 Q K1 s.1 s.2.1 s.2.2.1.1 s.2.2.1.2.1 s.2.2.1.2.2 s.2.2.2.1.1 s.2.2.2.1.2.1 s.2.2.2.1.2.2 s.2.2.2.2.1 s.2.2.2.2.2.1 s.2.2.2.2.2.2.1 s.2.2.2.2.2.2.2.1 s.2.2.2.2.2.2.2.2.1 s.2.2.2.2.2.2.2.2.2.1 h) ∧
    ifB ((p39).isNone) (
      Q (.bool false) h38) (
      idxI at_10_p j_17 at_10_n fun a47 =>
      ldInt .i64 h38 (Addr.add a47 (j_17.toNat * 1)) fun n48 =>
      ifB ((Int.tmod n48 (4 : Int)) != (0 : Int)) (
        Q (.bool false) h38) (
        idxI at_10_p j_17 at_10_n fun a49 =>
        idxI l_8_p j_17 l_8_n fun a50 =>
        ldInt .i64 h38 (Addr.add a49 (j_17.toNat * 1)) fun n51 =>
        ldInt .i64 h38 (Addr.add a50 (j_17.toNat * 1)) fun n52 =>
        ifB (decide ((IntKind.wrap .i64 (n51 + n52)) > n_11)) (
          Q (.bool false) h38) (
          ifB (decide (j_17 > (0 : Int))) (
            idxI at_10_p j_17 at_10_n fun a53 =>
            idxI at_10_p (IntKind.wrap .i64 (j_17 - (1 : Int))) at_10_n fun a54 =>
            idxI l_8_p (IntKind.wrap .i64 (j_17 - (1 : Int))) l_8_n fun a55 =>
            ldInt .i64 h38 (Addr.add a53 (j_17.toNat * 1)) fun n56 =>
            ldInt .i64 h38 (Addr.add a54 ((IntKind.wrap .i64 (j_17 - (1 : Int))).toNat * 1)) fun n57 =>
            ldInt .i64 h38 (Addr.add a55 ((IntKind.wrap .i64 (j_17 - (1 : Int))).toNat * 1)) fun n58 =>
            ifB (decide (n56 < (IntKind.wrap .i64 (n57 + n58)))) (
              Q (.bool false) h38) (
              J40 (x_2, up_7, (l_8_p, l_8_n, l_8_c), (at_10_p, at_10_n, at_10_c), n_11, a_13, k_14, i_15, j_17, p39, ()) h38)) (
            J40 (x_2, up_7, (l_8_p, l_8_n, l_8_c), (at_10_p, at_10_n, at_10_c), n_11, a_13, k_14, i_15, j_17, p39, ()) h38))))) (
    ifB up_7 (
      callInt P .i64 n_arena_Arena_Err #[(.pointer a_13)] h33 fun n60 h59 =>
      ifB (n60 == (0 : Int)) (
        idxI at_10_p k_14 at_10_n fun a61 =>
        ldInt .i64 h59 (Addr.add a61 (k_14.toNat * 1)) fun n62 =>
        callInt P .i64 n_arena_Arena_Get #[(.pointer a_13), (.int .i64 (IntKind.wrap .i64 (n62 + i_15)))] h59 fun n64 h63 =>
        Q (.bool (n64 == (IntKind.wrap .i64 x_2))) h63) (
        Q (.bool false) h59)) (
      Q (.bool false) h33))
def law07_ArenaApart_j13 (Q : Value → Heap → Prop) (x_2 : Int) (q_4 : Addr) (up_7 : Bool) (l_8_p : Option Addr) (l_8_n : Nat) (l_8_c : Nat) (at_10_p : Option Addr) (at_10_n : Nat) (at_10_c : Nat) (n_11 : Int) (a_13 : Option Addr) (h17 : Heap) : Prop :=
  arrI (0 : Int) 2 fun _ =>
  ldInt .i64 h17 (Addr.add q_4 ((0 : Int).toNat * 1)) fun n18 =>
  neI ((l_8_n : Nat) : Int) fun _ =>
  neI ((l_8_n : Nat) : Int) fun _ =>
  arrI (1 : Int) 2 fun _ =>
  idxI l_8_p (Int.tmod (IntKind.wrap .i64 ((Int.tmod n18 ((l_8_n : Nat) : Int)) + ((l_8_n : Nat) : Int))) ((l_8_n : Nat) : Int)) l_8_n fun a19 =>
  idxI l_8_p (Int.tmod (IntKind.wrap .i64 ((Int.tmod n18 ((l_8_n : Nat) : Int)) + ((l_8_n : Nat) : Int))) ((l_8_n : Nat) : Int)) l_8_n fun a20 =>
  idxI l_8_p (Int.tmod (IntKind.wrap .i64 ((Int.tmod n18 ((l_8_n : Nat) : Int)) + ((l_8_n : Nat) : Int))) ((l_8_n : Nat) : Int)) l_8_n fun a21 =>
  ldInt .i64 h17 (Addr.add q_4 ((1 : Int).toNat * 1)) fun n22 =>
  ldInt .i64 h17 (Addr.add a19 ((Int.tmod (IntKind.wrap .i64 ((Int.tmod n18 ((l_8_n : Nat) : Int)) + ((l_8_n : Nat) : Int))) ((l_8_n : Nat) : Int)).toNat * 1)) fun n23 =>
  neI n23 fun _ =>
  ldInt .i64 h17 (Addr.add a20 ((Int.tmod (IntKind.wrap .i64 ((Int.tmod n18 ((l_8_n : Nat) : Int)) + ((l_8_n : Nat) : Int))) ((l_8_n : Nat) : Int)).toNat * 1)) fun n24 =>
  ldInt .i64 h17 (Addr.add a21 ((Int.tmod (IntKind.wrap .i64 ((Int.tmod n18 ((l_8_n : Nat) : Int)) + ((l_8_n : Nat) : Int))) ((l_8_n : Nat) : Int)).toNat * 1)) fun n25 =>
  neI n25 fun _ =>
  idxI at_10_p (Int.tmod (IntKind.wrap .i64 ((Int.tmod n18 ((l_8_n : Nat) : Int)) + ((l_8_n : Nat) : Int))) ((l_8_n : Nat) : Int)) at_10_n fun a26 =>
  idxI l_8_p (Int.tmod (IntKind.wrap .i64 ((Int.tmod n18 ((l_8_n : Nat) : Int)) + ((l_8_n : Nat) : Int))) ((l_8_n : Nat) : Int)) l_8_n fun a27 =>
  ldInt .i64 h17 (Addr.add a26 ((Int.tmod (IntKind.wrap .i64 ((Int.tmod n18 ((l_8_n : Nat) : Int)) + ((l_8_n : Nat) : Int))) ((l_8_n : Nat) : Int)).toNat * 1)) fun n28 =>
  ldInt .i64 h17 (Addr.add a27 ((Int.tmod (IntKind.wrap .i64 ((Int.tmod n18 ((l_8_n : Nat) : Int)) + ((l_8_n : Nat) : Int))) ((l_8_n : Nat) : Int)).toNat * 1)) fun n29 =>
  callPtr P n_arena_Arena_Part #[(.pointer a_13), (.int .i64 n28), (.int .i64 n29)] h17 fun p31 h30 =>
  callUnit P n_arena_Part_Put #[(.pointer p31), (.int .i64 (Int.tmod (IntKind.wrap .i64 ((Int.tmod n22 n23) + n24)) n25)), (.int .i64 (IntKind.wrap .i64 x_2))] h30 fun h32 =>
  LoopS (S := (Int × Bool × (Option Addr × Nat × Nat) × (Option Addr × Nat × Nat) × Int × Option Addr × Int × Int × Int × Unit)) (fun K1 s h => law07_ArenaApart_l18 Q K1 s.1 s.2.1 s.2.2.1.1 s.2.2.1.2.1 s.2.2.1.2.2 s.2.2.2.1.1 s.2.2.2.1.2.1 s.2.2.2.1.2.2 s.2.2.2.2.1 s.2.2.2.2.2.1 s.2.2.2.2.2.2.1 s.2.2.2.2.2.2.2.1 s.2.2.2.2.2.2.2.2.1 h) (x_2, up_7, (l_8_p, l_8_n, l_8_c), (at_10_p, at_10_n, at_10_c), n_11, a_13, (Int.tmod (IntKind.wrap .i64 ((Int.tmod n18 ((l_8_n : Nat) : Int)) + ((l_8_n : Nat) : Int))) ((l_8_n : Nat) : Int)), (Int.tmod (IntKind.wrap .i64 ((Int.tmod n22 n23) + n24)) n25), (0 : Int), ()) h32
def law07_ArenaApart_j9 (Q : Value → Heap → Prop) (x_2 : Int) (q_4 : Addr) (up_7 : Bool) (l_8_p : Option Addr) (l_8_n : Nat) (l_8_c : Nat) (h8 : Heap) : Prop :=
  callP P n_arena_Layout #[(.slice l_8_p l_8_n l_8_c)] h8 fun v10 h9 =>
  ∃ p11 : Option Addr, ∃ l11 : Nat, ∃ c11 : Nat, ∃ n12 : Int, ∃ n13 : Int, v10 = (.tuple #[(.slice p11 l11 c11), (.int .i64 n12), (.int .i64 n13)]) ∧
  callPtr P n_arena_New #[(.int .i64 n12)] h9 fun p15 h14 =>
  ∃ J16 : (Int × Addr × Bool × (Option Addr × Nat × Nat) × (Option Addr × Nat × Nat) × Int × Option Addr × Unit) → Heap → Prop, (∀ s h, J16 s h → law07_ArenaApart_j13 Q s.1 s.2.1 s.2.2.1 s.2.2.2.1.1 s.2.2.2.1.2.1 s.2.2.2.1.2.2 s.2.2.2.2.1.1 s.2.2.2.2.1.2.1 s.2.2.2.2.1.2.2 s.2.2.2.2.2.1 s.2.2.2.2.2.2.1 h) ∧
  ifB ((p15).isNone) (
    Q (.bool false) h14) (
    ifB (n13 != (0 : Int)) (
      Q (.bool false) h14) (
      ifB (((l11 : Nat) : Int) != ((l_8_n : Nat) : Int)) (
        Q (.bool false) h14) (
        ifB ((Int.tmod n12 (4 : Int)) != (0 : Int)) (
          Q (.bool false) h14) (
          J16 (x_2, q_4, up_7, (l_8_p, l_8_n, l_8_c), (p11, l11, c11), n12, p15, ()) h14))))
def law07_ArenaApart_j7 (Q : Value → Heap → Prop) (x_2 : Int) (q_4 : Addr) (up_7 : Bool) (l_8_p : Option Addr) (l_8_n : Nat) (l_8_c : Nat) (h6 : Heap) : Prop :=
  ∃ J7 : (Int × Addr × Bool × (Option Addr × Nat × Nat) × Unit) → Heap → Prop, (∀ s h, J7 s h → law07_ArenaApart_j9 Q s.1 s.2.1 s.2.2.1 s.2.2.2.1.1 s.2.2.2.1.2.1 s.2.2.2.1.2.2 h) ∧
  ifB (((l_8_n : Nat) : Int) == (0 : Int)) (
    newI h6 (.cells #[(.int .i64 (1 : Int))] 3 (0, 0)) fun b65 h66 =>
    J7 (x_2, q_4, up_7, (some ⟨b65, 0, none⟩, 1, 1), ()) h66) (
    J7 (x_2, q_4, up_7, (l_8_p, l_8_n, l_8_c), ()) h6)
def law07_ArenaApart_l4 (Q : Value → Heap → Prop) (J5 : (Int × Addr × Bool × (Option Addr × Nat × Nat) × Unit) → Heap → Prop) (K1 : ((Option Addr × Nat × Nat) × Int × Addr × Bool × (Option Addr × Nat × Nat) × Int × Unit) → Heap → Prop) (sizes_0_p : Option Addr) (sizes_0_n : Nat) (sizes_0_c : Nat) (x_2 : Int) (q_4 : Addr) (up_7 : Bool) (l_8_p : Option Addr) (l_8_n : Nat) (l_8_c : Nat) (i_9 : Int) (h67 : Heap) : Prop :=
  ifB (decide (i_9 < ((sizes_0_n : Nat) : Int))) (
    ifB (decide (i_9 < (8 : Int))) (
      idxI sizes_0_p i_9 sizes_0_n fun a68 =>
      ldInt .i64 h67 (Addr.add a68 (i_9.toNat * 1)) fun n69 =>
      newI h67 (.cells #[(.int .i64 (IntKind.wrap .i64 ((1 : Int) + (andI .i64 n69 (63 : Int)))))] 3 (0, 0)) fun b70 h71 =>
      appI 3 1 8 (.int .i64 (0 : Int)) l_8_p l_8_n l_8_c (some ⟨b70, 0, none⟩) 1 h71 fun p72 l72 c72 h73 =>
      K1 ((sizes_0_p, sizes_0_n, sizes_0_c), x_2, q_4, up_7, (p72, l72, c72), (IntKind.wrap .i64 (i_9 + (1 : Int))), ()) h73) (
      J5 (x_2, q_4, up_7, (l_8_p, l_8_n, l_8_c), ()) h67)) (
    J5 (x_2, q_4, up_7, (l_8_p, l_8_n, l_8_c), ()) h67)
def law07_ArenaApart (sizes_0_p : Option Addr) (sizes_0_n : Nat) (sizes_0_c : Nat) (q_1_0 : Int) (q_1_1 : Int) (x_2 : Int) (h : Heap) (Q : Value → Heap → Prop) : Prop :=
  newI h (.cells #[(.int .i64 q_1_0), (.int .i64 q_1_1)] 33 (0, 0)) fun b1 h2 =>
  callBool P n_law07_awake #[] h2 fun b4 h3 =>
  ∃ J5 : (Int × Addr × Bool × (Option Addr × Nat × Nat) × Unit) → Heap → Prop, (∀ s h, J5 s h → law07_ArenaApart_j7 Q s.1 s.2.1 s.2.2.1 s.2.2.2.1.1 s.2.2.2.1.2.1 s.2.2.2.1.2.2 h) ∧
  LoopS (S := ((Option Addr × Nat × Nat) × Int × Addr × Bool × (Option Addr × Nat × Nat) × Int × Unit)) (fun K1 s h => law07_ArenaApart_l4 Q J5 K1 s.1.1 s.1.2.1 s.1.2.2 s.2.1 s.2.2.1 s.2.2.2.1 s.2.2.2.2.1.1 s.2.2.2.2.1.2.1 s.2.2.2.2.1.2.2 s.2.2.2.2.2.1 h) ((sizes_0_p, sizes_0_n, sizes_0_c), x_2, ⟨b1, 0, none⟩, b4, (none, 0, 0), (0 : Int), ()) h3
noncomputable def tab_law07_ArenaApart : Tab := { sch := lookT .done [(14, (.one 0 (.one 2 (.one 3 (.one 4 (.one 7 (.one 8 (.one 9 (.one 12 (.one 13 (.one 14 (.one 1 (.one 5 (.one 6 (.one 10 (.one 11 (.one 15 (.one 16 (.one 17 .done))))))))))))))))))), (15, (.one 0 (.one 1 (.one 2 (.one 3 (.one 5 (.one 6 (.one 7 (.one 4 (.one 8 (.alt 9 (.one 10 .done) .stop))))))))))), (20, (.one 0 (.one 1 (.one 2 (.one 3 (.one 5 (.one 6 (.one 7 (.one 4 (.one 8 (.alt 9 (.one 10 .done) .stop))))))))))), (21, (.one 0 (.one 1 (.one 2 (.one 3 (.one 4 (.one 5 (.one 6 (.one 7 (.one 8 (.one 9 (.one 10 (.one 11 (.one 12 (.one 13 (.one 15 (.one 16 (.one 17 (.one 20 (.one 14 (.one 18 (.one 19 (.one 21 (.one 22 (.one 23 (.one 24 (.one 25 (.one 26 (.one 27 (.one 28 (.one 29 (.one 31 (.one 32 (.one 33 (.one 34 (.one 36 (.one 37 (.one 38 (.one 39 (.one 30 (.one 35 (.one 40 (.one 41 (.one 42 (.one 43 (.one 44 .done))))))))))))))))))))))))))))))))))))))))))))))], lp := lookT [] [(4, [(0, .sc (.slice)), (2, .sc (.int .i32)), (4, .sc (.adr)), (7, .sc (.bool)), (8, .sc (.slice)), (9, .sc (.int .i64))]), (18, [(2, .sc (.int .i32)), (7, .sc (.bool)), (8, .sc (.slice)), (10, .sc (.slice)), (11, .sc (.int .i64)), (13, .sc (.ptr)), (14, .sc (.int .i64)), (15, .sc (.int .i64)), (17, .sc (.int .i64))]), (24, [(2, .sc (.int .i32)), (7, .sc (.bool)), (8, .sc (.slice)), (10, .sc (.slice)), (11, .sc (.int .i64)), (13, .sc (.ptr)), (14, .sc (.int .i64)), (15, .sc (.int .i64)), (17, .sc (.int .i64)), (18, .sc (.ptr)), (19, .sc (.int .i64))])], jn := lookT none [(7, some [(2, .sc (.int .i32)), (4, .sc (.adr)), (7, .sc (.bool)), (8, .sc (.slice))]), (9, some [(2, .sc (.int .i32)), (4, .sc (.adr)), (7, .sc (.bool)), (8, .sc (.slice))]), (13, some [(2, .sc (.int .i32)), (4, .sc (.adr)), (7, .sc (.bool)), (8, .sc (.slice)), (10, .sc (.slice)), (11, .sc (.int .i64)), (13, .sc (.ptr))]), (23, some [(2, .sc (.int .i32)), (7, .sc (.bool)), (8, .sc (.slice)), (10, .sc (.slice)), (11, .sc (.int .i64)), (13, .sc (.ptr)), (14, .sc (.int .i64)), (15, .sc (.int .i64)), (17, .sc (.int .i64)), (18, .sc (.ptr))])] }
theorem eq_law07_ArenaApart (sizes_0_p : Option Addr) (sizes_0_n : Nat) (sizes_0_c : Nat) (q_1_0 : Int) (q_1_1 : Int) (x_2 : Int) (h : Heap) (Q : Value → Heap → Prop) : fnI P Try.f5 tab_law07_ArenaApart [(.slice sizes_0_p sizes_0_n sizes_0_c), (.agg #[(.int .i64 q_1_0), (.int .i64 q_1_1)]), (.int .i32 x_2)] h Q = law07_ArenaApart sizes_0_p sizes_0_n sizes_0_c q_1_0 q_1_1 x_2 h Q := by kernel_rfl
theorem ok_law07_ArenaApart : fnOk P Try.f5 tab_law07_ArenaApart = true := by kernel_rfl
theorem call_law07_ArenaApart (sizes_0_p : Option Addr) (sizes_0_n : Nat) (sizes_0_c : Nat) (q_1_0 : Int) (q_1_1 : Int) (x_2 : Int) {h : Heap} {Q : Value → Heap → Prop} (H : law07_ArenaApart sizes_0_p sizes_0_n sizes_0_c q_1_0 q_1_1 x_2 h Q) : callP P n_law07_ArenaApart #[(.slice sizes_0_p sizes_0_n sizes_0_c), (.agg #[(.int .i64 q_1_0), (.int .i64 q_1_1)]), (.int .i32 x_2)] h Q :=
  @callP_of P n_law07_ArenaApart Try.f5 tab_law07_ArenaApart [(.slice sizes_0_p sizes_0_n sizes_0_c), (.agg #[(.int .i64 q_1_0), (.int .i64 q_1_1)]), (.int .i32 x_2)] h Q mixed Try.func5 Try.call5 ok_law07_ArenaApart (Eq.mpr (eq_law07_ArenaApart sizes_0_p sizes_0_n sizes_0_c q_1_0 q_1_1 x_2 h Q) H)

/-! ### earshot/earshotref07.New: function 20 -/
def ref07_New (words_0 : Int) (h : Heap) (Q : Value → Heap → Prop) : Prop :=
  mkI 3 1 8 (.int .i64 (0 : Int)) words_0 words_0 h fun b1 h2 =>
  newI h2 (.cells #[(.slice (some ⟨b1, 0, none⟩) words_0.toNat words_0.toNat), (.int .i64 (0 : Int))] 53 (0, 0)) fun b3 h4 =>
  Q (.pointer (some ⟨b3, 0, none⟩)) h4
noncomputable def tab_ref07_New : Tab := { sch := lookT .done [], lp := lookT [] [], jn := lookT none [] }
theorem eq_ref07_New (words_0 : Int) (h : Heap) (Q : Value → Heap → Prop) : fnI P Try.f20 tab_ref07_New [(.int .i64 words_0)] h Q = ref07_New words_0 h Q := by kernel_rfl
theorem ok_ref07_New : fnOk P Try.f20 tab_ref07_New = true := by kernel_rfl
theorem call_ref07_New (words_0 : Int) {h : Heap} {Q : Value → Heap → Prop} (H : ref07_New words_0 h Q) : callP P n_ref07_New #[(.int .i64 words_0)] h Q :=
  @callP_of P n_ref07_New Try.f20 tab_ref07_New [(.int .i64 words_0)] h Q mixed Try.func20 Try.call20 ok_ref07_New (Eq.mpr (eq_ref07_New words_0 h Q) H)

/-! ### (*earshot/earshotref07.Arena).May: function 21 -/
def ref07_Arena_May (a_0 : Option Addr) (at_1 : Int) (n_2 : Int) (h : Heap) (Q : Value → Heap → Prop) : Prop :=
  ifB (decide (at_1 ≥ (0 : Int))) (
    ifB (decide (n_2 ≥ (0 : Int))) (
      nilI a_0 fun a1 =>
      ldSlice h a1 fun p2 l2 c2 =>
      ifB (decide (at_1 ≤ ((l2 : Nat) : Int))) (
        nilI a_0 fun a3 =>
        ldSlice h a3 fun p4 l4 c4 =>
        Q (.bool (decide (n_2 ≤ (IntKind.wrap .i64 (((l4 : Nat) : Int) - at_1))))) h) (
        Q (.bool false) h)) (
      Q (.bool false) h)) (
    Q (.bool false) h)
noncomputable def tab_ref07_Arena_May : Tab := { sch := lookT .done [], lp := lookT [] [], jn := lookT none [] }
theorem eq_ref07_Arena_May (a_0 : Option Addr) (at_1 : Int) (n_2 : Int) (h : Heap) (Q : Value → Heap → Prop) : fnI P Try.f21 tab_ref07_Arena_May [(.pointer a_0), (.int .i64 at_1), (.int .i64 n_2)] h Q = ref07_Arena_May a_0 at_1 n_2 h Q := by kernel_rfl
theorem ok_ref07_Arena_May : fnOk P Try.f21 tab_ref07_Arena_May = true := by kernel_rfl
theorem call_ref07_Arena_May (a_0 : Option Addr) (at_1 : Int) (n_2 : Int) {h : Heap} {Q : Value → Heap → Prop} (H : ref07_Arena_May a_0 at_1 n_2 h Q) : callP P n_ref07_Arena_May #[(.pointer a_0), (.int .i64 at_1), (.int .i64 n_2)] h Q :=
  @callP_of P n_ref07_Arena_May Try.f21 tab_ref07_Arena_May [(.pointer a_0), (.int .i64 at_1), (.int .i64 n_2)] h Q mixed Try.func21 Try.call21 ok_ref07_Arena_May (Eq.mpr (eq_ref07_Arena_May a_0 at_1 n_2 h Q) H)

/-! ### (*earshot/arena.Part).Len: function 22 -/
def arena_Part_Len (p_0 : Option Addr) (h : Heap) (Q : Value → Heap → Prop) : Prop :=
  ifB ((p_0).isNone) (
    Q (.int .i64 (0 : Int)) h) (
    nilI p_0 fun a1 =>
    ldSlice h (Addr.add a1 1) fun p2 l2 c2 =>
    Q (.int .i64 ((l2 : Nat) : Int)) h)
noncomputable def tab_arena_Part_Len : Tab := { sch := lookT .done [], lp := lookT [] [], jn := lookT none [] }
theorem eq_arena_Part_Len (p_0 : Option Addr) (h : Heap) (Q : Value → Heap → Prop) : fnI P Try.f22 tab_arena_Part_Len [(.pointer p_0)] h Q = arena_Part_Len p_0 h Q := by kernel_rfl
theorem ok_arena_Part_Len : fnOk P Try.f22 tab_arena_Part_Len = true := by kernel_rfl
theorem call_arena_Part_Len (p_0 : Option Addr) {h : Heap} {Q : Value → Heap → Prop} (H : arena_Part_Len p_0 h Q) : callP P n_arena_Part_Len #[(.pointer p_0)] h Q :=
  @callP_of P n_arena_Part_Len Try.f22 tab_arena_Part_Len [(.pointer p_0)] h Q mixed Try.func22 Try.call22 ok_arena_Part_Len (Eq.mpr (eq_arena_Part_Len p_0 h Q) H)

/-! ### (earshot/earshotlaw07.Act).word: function 24 -/
def law07_Act_word (s_0_0 : Int) (s_0_1 : Int) (s_0_2 : Int) (s_0_3 : Bool) (s_0_4 : Bool) (h : Heap) (Q : Value → Heap → Prop) : Prop :=
  newI h (.cells #[(.int .i64 s_0_0), (.int .i64 s_0_1), (.int .i64 s_0_2), (.bool s_0_3), (.bool s_0_4)] 47 (0, 0)) fun b1 h2 =>
  ldBool h2 ⟨b1, 3, none⟩ fun b3 =>
  ifB b3 (
    ldInt .i64 h2 ⟨b1, 1, none⟩ fun n4 =>
    Q (.int .i64 n4) h2) (
    ldInt .i64 h2 ⟨b1, 1, none⟩ fun n5 =>
    Q (.int .i64 (IntKind.wrap .i64 ((andI .i64 n5 (31 : Int)) - (2 : Int)))) h2)
noncomputable def tab_law07_Act_word : Tab := { sch := lookT .done [], lp := lookT [] [], jn := lookT none [] }
theorem eq_law07_Act_word (s_0_0 : Int) (s_0_1 : Int) (s_0_2 : Int) (s_0_3 : Bool) (s_0_4 : Bool) (h : Heap) (Q : Value → Heap → Prop) : fnI P Try.f24 tab_law07_Act_word [(.agg #[(.int .i64 s_0_0), (.int .i64 s_0_1), (.int .i64 s_0_2), (.bool s_0_3), (.bool s_0_4)])] h Q = law07_Act_word s_0_0 s_0_1 s_0_2 s_0_3 s_0_4 h Q := by kernel_rfl
theorem ok_law07_Act_word : fnOk P Try.f24 tab_law07_Act_word = true := by kernel_rfl
theorem call_law07_Act_word (s_0_0 : Int) (s_0_1 : Int) (s_0_2 : Int) (s_0_3 : Bool) (s_0_4 : Bool) {h : Heap} {Q : Value → Heap → Prop} (H : law07_Act_word s_0_0 s_0_1 s_0_2 s_0_3 s_0_4 h Q) : callP P n_law07_Act_word #[(.agg #[(.int .i64 s_0_0), (.int .i64 s_0_1), (.int .i64 s_0_2), (.bool s_0_3), (.bool s_0_4)])] h Q :=
  @callP_of P n_law07_Act_word Try.f24 tab_law07_Act_word [(.agg #[(.int .i64 s_0_0), (.int .i64 s_0_1), (.int .i64 s_0_2), (.bool s_0_3), (.bool s_0_4)])] h Q mixed Try.func24 Try.call24 ok_law07_Act_word (Eq.mpr (eq_law07_Act_word s_0_0 s_0_1 s_0_2 s_0_3 s_0_4 h Q) H)

/-! ### (earshot/earshotlaw07.Act).num: function 25 -/
def law07_Act_num (s_0_0 : Int) (s_0_1 : Int) (s_0_2 : Int) (s_0_3 : Bool) (s_0_4 : Bool) (h : Heap) (Q : Value → Heap → Prop) : Prop :=
  newI h (.cells #[(.int .i64 s_0_0), (.int .i64 s_0_1), (.int .i64 s_0_2), (.bool s_0_3), (.bool s_0_4)] 47 (0, 0)) fun b1 h2 =>
  ldBool h2 ⟨b1, 4, none⟩ fun b3 =>
  ifB b3 (
    ldInt .i64 h2 ⟨b1, 2, none⟩ fun n4 =>
    Q (.int .i64 n4) h2) (
    ldInt .i64 h2 ⟨b1, 2, none⟩ fun n5 =>
    Q (.int .i64 (andI .i64 n5 (2147483647 : Int))) h2)
noncomputable def tab_law07_Act_num : Tab := { sch := lookT .done [], lp := lookT [] [], jn := lookT none [] }
theorem eq_law07_Act_num (s_0_0 : Int) (s_0_1 : Int) (s_0_2 : Int) (s_0_3 : Bool) (s_0_4 : Bool) (h : Heap) (Q : Value → Heap → Prop) : fnI P Try.f25 tab_law07_Act_num [(.agg #[(.int .i64 s_0_0), (.int .i64 s_0_1), (.int .i64 s_0_2), (.bool s_0_3), (.bool s_0_4)])] h Q = law07_Act_num s_0_0 s_0_1 s_0_2 s_0_3 s_0_4 h Q := by kernel_rfl
theorem ok_law07_Act_num : fnOk P Try.f25 tab_law07_Act_num = true := by kernel_rfl
theorem call_law07_Act_num (s_0_0 : Int) (s_0_1 : Int) (s_0_2 : Int) (s_0_3 : Bool) (s_0_4 : Bool) {h : Heap} {Q : Value → Heap → Prop} (H : law07_Act_num s_0_0 s_0_1 s_0_2 s_0_3 s_0_4 h Q) : callP P n_law07_Act_num #[(.agg #[(.int .i64 s_0_0), (.int .i64 s_0_1), (.int .i64 s_0_2), (.bool s_0_3), (.bool s_0_4)])] h Q :=
  @callP_of P n_law07_Act_num Try.f25 tab_law07_Act_num [(.agg #[(.int .i64 s_0_0), (.int .i64 s_0_1), (.int .i64 s_0_2), (.bool s_0_3), (.bool s_0_4)])] h Q mixed Try.func25 Try.call25 ok_law07_Act_num (Eq.mpr (eq_law07_Act_num s_0_0 s_0_1 s_0_2 s_0_3 s_0_4 h Q) H)

/-! ### (*earshot/arena.Arena).Put: function 23 -/
def arena_Arena_Put (a_0 : Option Addr) (i_1 : Int) (x_2 : Int) (h : Heap) (Q : Value → Heap → Prop) : Prop :=
  callPtr P n_arena_Arena_whole #[(.pointer a_0)] h fun p2 h1 =>
  callUnit P n_arena_Part_Put #[(.pointer p2), (.int .i64 i_1), (.int .i64 x_2)] h1 fun h3 =>
  Q (.tuple #[]) h3
noncomputable def tab_arena_Arena_Put : Tab := { sch := lookT .done [], lp := lookT [] [], jn := lookT none [] }
theorem eq_arena_Arena_Put (a_0 : Option Addr) (i_1 : Int) (x_2 : Int) (h : Heap) (Q : Value → Heap → Prop) : fnI P Try.f23 tab_arena_Arena_Put [(.pointer a_0), (.int .i64 i_1), (.int .i64 x_2)] h Q = arena_Arena_Put a_0 i_1 x_2 h Q := by kernel_rfl
theorem ok_arena_Arena_Put : fnOk P Try.f23 tab_arena_Arena_Put = true := by kernel_rfl
theorem call_arena_Arena_Put (a_0 : Option Addr) (i_1 : Int) (x_2 : Int) {h : Heap} {Q : Value → Heap → Prop} (H : arena_Arena_Put a_0 i_1 x_2 h Q) : callP P n_arena_Arena_Put #[(.pointer a_0), (.int .i64 i_1), (.int .i64 x_2)] h Q :=
  @callP_of P n_arena_Arena_Put Try.f23 tab_arena_Arena_Put [(.pointer a_0), (.int .i64 i_1), (.int .i64 x_2)] h Q mixed Try.func23 Try.call23 ok_arena_Arena_Put (Eq.mpr (eq_arena_Arena_Put a_0 i_1 x_2 h Q) H)

/-! ### earshot/earshotref07.Word: function 40 -/
def ref07_Word (x_0 : Int) (h : Heap) (Q : Value → Heap → Prop) : Prop :=
  ifB (decide (x_0 ≥ (-2147483648 : Int))) (
    Q (.bool (decide (x_0 < (2147483648 : Int)))) h) (
    Q (.bool false) h)
noncomputable def tab_ref07_Word : Tab := { sch := lookT .done [], lp := lookT [] [], jn := lookT none [] }
theorem eq_ref07_Word (x_0 : Int) (h : Heap) (Q : Value → Heap → Prop) : fnI P Try.f40 tab_ref07_Word [(.int .i64 x_0)] h Q = ref07_Word x_0 h Q := by kernel_rfl
theorem ok_ref07_Word : fnOk P Try.f40 tab_ref07_Word = true := by kernel_rfl
theorem call_ref07_Word (x_0 : Int) {h : Heap} {Q : Value → Heap → Prop} (H : ref07_Word x_0 h Q) : callP P n_ref07_Word #[(.int .i64 x_0)] h Q :=
  @callP_of P n_ref07_Word Try.f40 tab_ref07_Word [(.int .i64 x_0)] h Q mixed Try.func40 Try.call40 ok_ref07_Word (Eq.mpr (eq_ref07_Word x_0 h Q) H)

/-! ### (*earshot/earshotref07.Arena).trouble: function 41 -/
def ref07_Arena_trouble (a_0 : Option Addr) (e_1 : Int) (h : Heap) (Q : Value → Heap → Prop) : Prop :=
  nilI a_0 fun a1 =>
  ldInt .i64 h (Addr.add a1 1) fun n2 =>
  ifB (n2 == (0 : Int)) (
    nilI a_0 fun a3 =>
    stI h (Addr.add a3 1) (.int .i64 e_1) fun h4 =>
    Q (.tuple #[]) h4) (
    Q (.tuple #[]) h)
noncomputable def tab_ref07_Arena_trouble : Tab := { sch := lookT .done [], lp := lookT [] [], jn := lookT none [] }
theorem eq_ref07_Arena_trouble (a_0 : Option Addr) (e_1 : Int) (h : Heap) (Q : Value → Heap → Prop) : fnI P Try.f41 tab_ref07_Arena_trouble [(.pointer a_0), (.int .i64 e_1)] h Q = ref07_Arena_trouble a_0 e_1 h Q := by kernel_rfl
theorem ok_ref07_Arena_trouble : fnOk P Try.f41 tab_ref07_Arena_trouble = true := by kernel_rfl
theorem call_ref07_Arena_trouble (a_0 : Option Addr) (e_1 : Int) {h : Heap} {Q : Value → Heap → Prop} (H : ref07_Arena_trouble a_0 e_1 h Q) : callP P n_ref07_Arena_trouble #[(.pointer a_0), (.int .i64 e_1)] h Q :=
  @callP_of P n_ref07_Arena_trouble Try.f41 tab_ref07_Arena_trouble [(.pointer a_0), (.int .i64 e_1)] h Q mixed Try.func41 Try.call41 ok_ref07_Arena_trouble (Eq.mpr (eq_ref07_Arena_trouble a_0 e_1 h Q) H)

/-! ### (*earshot/earshotref07.Arena).Put: function 26 -/
def ref07_Arena_Put (a_0 : Option Addr) (at_1 : Int) (n_2 : Int) (i_3 : Int) (x_4 : Int) (h : Heap) (Q : Value → Heap → Prop) : Prop :=
  callBool P n_ref07_Word #[(.int .i64 x_4)] h fun b2 h1 =>
  ifB (decide (i_3 < (0 : Int))) (
    callUnit P n_ref07_Arena_trouble #[(.pointer a_0), (.int .i64 (1 : Int))] h1 fun h3 =>
    Q (.tuple #[]) h3) (
    ifB (decide (i_3 ≥ n_2)) (
      callUnit P n_ref07_Arena_trouble #[(.pointer a_0), (.int .i64 (1 : Int))] h1 fun h4 =>
      Q (.tuple #[]) h4) (
      ifB (!b2) (
        callUnit P n_ref07_Arena_trouble #[(.pointer a_0), (.int .i64 (16 : Int))] h1 fun h5 =>
        Q (.tuple #[]) h5) (
        nilI a_0 fun a6 =>
        ldSlice h1 a6 fun p7 l7 c7 =>
        idxI p7 (IntKind.wrap .i64 (at_1 + i_3)) l7 fun a8 =>
        stI h1 (Addr.add a8 ((IntKind.wrap .i64 (at_1 + i_3)).toNat * 1)) (.int .i64 x_4) fun h9 =>
        Q (.tuple #[]) h9)))
noncomputable def tab_ref07_Arena_Put : Tab := { sch := lookT .done [], lp := lookT [] [], jn := lookT none [] }
theorem eq_ref07_Arena_Put (a_0 : Option Addr) (at_1 : Int) (n_2 : Int) (i_3 : Int) (x_4 : Int) (h : Heap) (Q : Value → Heap → Prop) : fnI P Try.f26 tab_ref07_Arena_Put [(.pointer a_0), (.int .i64 at_1), (.int .i64 n_2), (.int .i64 i_3), (.int .i64 x_4)] h Q = ref07_Arena_Put a_0 at_1 n_2 i_3 x_4 h Q := by kernel_rfl
theorem ok_ref07_Arena_Put : fnOk P Try.f26 tab_ref07_Arena_Put = true := by kernel_rfl
theorem call_ref07_Arena_Put (a_0 : Option Addr) (at_1 : Int) (n_2 : Int) (i_3 : Int) (x_4 : Int) {h : Heap} {Q : Value → Heap → Prop} (H : ref07_Arena_Put a_0 at_1 n_2 i_3 x_4 h Q) : callP P n_ref07_Arena_Put #[(.pointer a_0), (.int .i64 at_1), (.int .i64 n_2), (.int .i64 i_3), (.int .i64 x_4)] h Q :=
  @callP_of P n_ref07_Arena_Put Try.f26 tab_ref07_Arena_Put [(.pointer a_0), (.int .i64 at_1), (.int .i64 n_2), (.int .i64 i_3), (.int .i64 x_4)] h Q mixed Try.func26 Try.call26 ok_ref07_Arena_Put (Eq.mpr (eq_ref07_Arena_Put a_0 at_1 n_2 i_3 x_4 h Q) H)

/-! ### (*earshot/earshotref07.Arena).Get: function 27 -/
def ref07_Arena_Get (a_0 : Option Addr) (at_1 : Int) (n_2 : Int) (i_3 : Int) (h : Heap) (Q : Value → Heap → Prop) : Prop :=
  ifB (decide (i_3 < (0 : Int))) (
    callUnit P n_ref07_Arena_trouble #[(.pointer a_0), (.int .i64 (1 : Int))] h fun h1 =>
    Q (.int .i64 (0 : Int)) h1) (
    ifB (decide (i_3 ≥ n_2)) (
      callUnit P n_ref07_Arena_trouble #[(.pointer a_0), (.int .i64 (1 : Int))] h fun h2 =>
      Q (.int .i64 (0 : Int)) h2) (
      nilI a_0 fun a3 =>
      ldSlice h a3 fun p4 l4 c4 =>
      idxI p4 (IntKind.wrap .i64 (at_1 + i_3)) l4 fun a5 =>
      ldInt .i64 h (Addr.add a5 ((IntKind.wrap .i64 (at_1 + i_3)).toNat * 1)) fun n6 =>
      Q (.int .i64 n6) h))
noncomputable def tab_ref07_Arena_Get : Tab := { sch := lookT .done [], lp := lookT [] [], jn := lookT none [] }
theorem eq_ref07_Arena_Get (a_0 : Option Addr) (at_1 : Int) (n_2 : Int) (i_3 : Int) (h : Heap) (Q : Value → Heap → Prop) : fnI P Try.f27 tab_ref07_Arena_Get [(.pointer a_0), (.int .i64 at_1), (.int .i64 n_2), (.int .i64 i_3)] h Q = ref07_Arena_Get a_0 at_1 n_2 i_3 h Q := by kernel_rfl
theorem ok_ref07_Arena_Get : fnOk P Try.f27 tab_ref07_Arena_Get = true := by kernel_rfl
theorem call_ref07_Arena_Get (a_0 : Option Addr) (at_1 : Int) (n_2 : Int) (i_3 : Int) {h : Heap} {Q : Value → Heap → Prop} (H : ref07_Arena_Get a_0 at_1 n_2 i_3 h Q) : callP P n_ref07_Arena_Get #[(.pointer a_0), (.int .i64 at_1), (.int .i64 n_2), (.int .i64 i_3)] h Q :=
  @callP_of P n_ref07_Arena_Get Try.f27 tab_ref07_Arena_Get [(.pointer a_0), (.int .i64 at_1), (.int .i64 n_2), (.int .i64 i_3)] h Q mixed Try.func27 Try.call27 ok_ref07_Arena_Get (Eq.mpr (eq_ref07_Arena_Get a_0 at_1 n_2 i_3 h Q) H)

/-! ### (earshot/earshotlaw07.Act).row: function 28 -/
def law07_Act_row_l5 (Q : Value → Heap → Prop) (K1 : (Int × Addr × (Option Addr × Nat × Nat) × Int × Unit) → Heap → Prop) (n_1 : Int) (s_2 : Addr) (l_5_p : Option Addr) (l_5_n : Nat) (l_5_c : Nat) (i_6 : Int) (h5 : Heap) : Prop :=
  ifB (decide (i_6 < n_1)) (
    ldInt .i64 h5 s_2 fun n6 =>
    ldInt .i64 h5 (Addr.add s_2 1) fun n7 =>
    ldInt .i64 h5 (Addr.add s_2 2) fun n8 =>
    ldBool h5 (Addr.add s_2 3) fun b9 =>
    ldBool h5 (Addr.add s_2 4) fun b10 =>
    callInt P .i64 n_law07_Act_num #[(.agg #[(.int .i64 n6), (.int .i64 n7), (.int .i64 n8), (.bool b9), (.bool b10)])] h5 fun n12 h11 =>
    newI h11 (.cells #[(.int .i64 (IntKind.wrap .i64 (n12 - i_6)))] 3 (0, 0)) fun b13 h14 =>
    appI 3 1 8 (.int .i64 (0 : Int)) l_5_p l_5_n l_5_c (some ⟨b13, 0, none⟩) 1 h14 fun p15 l15 c15 h16 =>
    K1 (n_1, s_2, (p15, l15, c15), (IntKind.wrap .i64 (i_6 + (1 : Int))), ()) h16) (
    Q (.slice l_5_p l_5_n l_5_c) h5)
def law07_Act_row_j3 (Q : Value → Heap → Prop) (n_1 : Int) (s_2 : Addr) (h4 : Heap) : Prop :=
  LoopS (S := (Int × Addr × (Option Addr × Nat × Nat) × Int × Unit)) (fun K1 s h => law07_Act_row_l5 Q K1 s.1 s.2.1 s.2.2.1.1 s.2.2.1.2.1 s.2.2.1.2.2 s.2.2.2.1 h) (n_1, s_2, (none, 0, 0), (0 : Int), ()) h4
def law07_Act_row (s_0_0 : Int) (s_0_1 : Int) (s_0_2 : Int) (s_0_3 : Bool) (s_0_4 : Bool) (n_1 : Int) (h : Heap) (Q : Value → Heap → Prop) : Prop :=
  newI h (.cells #[(.int .i64 s_0_0), (.int .i64 s_0_1), (.int .i64 s_0_2), (.bool s_0_3), (.bool s_0_4)] 47 (0, 0)) fun b1 h2 =>
  ∃ J3 : (Int × Addr × Unit) → Heap → Prop, (∀ s h, J3 s h → law07_Act_row_j3 Q s.1 s.2.1 h) ∧
  ldBool h2 ⟨b1, 3, none⟩ fun b17 =>
  ifB b17 (
    J3 ((IntKind.wrap .i64 (n_1 + (1 : Int))), ⟨b1, 0, none⟩, ()) h2) (
    J3 (n_1, ⟨b1, 0, none⟩, ()) h2)
noncomputable def tab_law07_Act_row : Tab := { sch := lookT .done [], lp := lookT [] [(5, [(1, .sc (.int .i64)), (2, .sc (.adr)), (5, .sc (.slice)), (6, .sc (.int .i64))])], jn := lookT none [(3, some [(1, .sc (.int .i64)), (2, .sc (.adr))])] }
theorem eq_law07_Act_row (s_0_0 : Int) (s_0_1 : Int) (s_0_2 : Int) (s_0_3 : Bool) (s_0_4 : Bool) (n_1 : Int) (h : Heap) (Q : Value → Heap → Prop) : fnI P Try.f28 tab_law07_Act_row [(.agg #[(.int .i64 s_0_0), (.int .i64 s_0_1), (.int .i64 s_0_2), (.bool s_0_3), (.bool s_0_4)]), (.int .i64 n_1)] h Q = law07_Act_row s_0_0 s_0_1 s_0_2 s_0_3 s_0_4 n_1 h Q := by kernel_rfl
theorem ok_law07_Act_row : fnOk P Try.f28 tab_law07_Act_row = true := by kernel_rfl
theorem call_law07_Act_row (s_0_0 : Int) (s_0_1 : Int) (s_0_2 : Int) (s_0_3 : Bool) (s_0_4 : Bool) (n_1 : Int) {h : Heap} {Q : Value → Heap → Prop} (H : law07_Act_row s_0_0 s_0_1 s_0_2 s_0_3 s_0_4 n_1 h Q) : callP P n_law07_Act_row #[(.agg #[(.int .i64 s_0_0), (.int .i64 s_0_1), (.int .i64 s_0_2), (.bool s_0_3), (.bool s_0_4)]), (.int .i64 n_1)] h Q :=
  @callP_of P n_law07_Act_row Try.f28 tab_law07_Act_row [(.agg #[(.int .i64 s_0_0), (.int .i64 s_0_1), (.int .i64 s_0_2), (.bool s_0_3), (.bool s_0_4)]), (.int .i64 n_1)] h Q mixed Try.func28 Try.call28 ok_law07_Act_row (Eq.mpr (eq_law07_Act_row s_0_0 s_0_1 s_0_2 s_0_3 s_0_4 n_1 h Q) H)

/-! ### (*earshot/earshotref07.Arena).Set: function 29 -/
def ref07_Arena_Set_l4 (Q : Value → Heap → Prop) (K1 : (Option Addr × (Option Addr × Nat × Nat) × Int × Unit) → Heap → Prop) (a_0 : Option Addr) (words_1_p : Option Addr) (words_1_n : Nat) (words_1_c : Nat) (i_5 : Int) (h3 : Heap) : Prop :=
  ifB (decide (i_5 < ((words_1_n : Nat) : Int))) (
    idxI words_1_p i_5 words_1_n fun a4 =>
    ldInt .i64 h3 (Addr.add a4 (i_5.toNat * 1)) fun n5 =>
    callBool P n_ref07_Word #[(.int .i64 n5)] h3 fun b7 h6 =>
    ifB (!b7) (
      Q (.int .i64 (16 : Int)) h6) (
      K1 (a_0, (words_1_p, words_1_n, words_1_c), (IntKind.wrap .i64 (i_5 + (1 : Int))), ()) h6)) (
    newI h3 (.cells #[] 3 (0, 0)) fun b8 h9 =>
    appI 3 1 8 (.int .i64 (0 : Int)) (some ⟨b8, 0, none⟩) 0 0 words_1_p words_1_n h9 fun p10 l10 c10 h11 =>
    nilI a_0 fun a12 =>
    stI h11 a12 (.slice p10 l10 c10) fun h13 =>
    Q (.int .i64 (0 : Int)) h13)
def ref07_Arena_Set (a_0 : Option Addr) (words_1_p : Option Addr) (words_1_n : Nat) (words_1_c : Nat) (h : Heap) (Q : Value → Heap → Prop) : Prop :=
  nilI a_0 fun a1 =>
  ldSlice h a1 fun p2 l2 c2 =>
  ifB (((words_1_n : Nat) : Int) != ((l2 : Nat) : Int)) (
    Q (.int .i64 (22 : Int)) h) (
    LoopS (S := (Option Addr × (Option Addr × Nat × Nat) × Int × Unit)) (fun K1 s h => ref07_Arena_Set_l4 Q K1 s.1 s.2.1.1 s.2.1.2.1 s.2.1.2.2 s.2.2.1 h) (a_0, (words_1_p, words_1_n, words_1_c), (0 : Int), ()) h)
noncomputable def tab_ref07_Arena_Set : Tab := { sch := lookT .done [], lp := lookT [] [(4, [(0, .sc (.ptr)), (1, .sc (.slice)), (5, .sc (.int .i64))])], jn := lookT none [] }
theorem eq_ref07_Arena_Set (a_0 : Option Addr) (words_1_p : Option Addr) (words_1_n : Nat) (words_1_c : Nat) (h : Heap) (Q : Value → Heap → Prop) : fnI P Try.f29 tab_ref07_Arena_Set [(.pointer a_0), (.slice words_1_p words_1_n words_1_c)] h Q = ref07_Arena_Set a_0 words_1_p words_1_n words_1_c h Q := by kernel_rfl
theorem ok_ref07_Arena_Set : fnOk P Try.f29 tab_ref07_Arena_Set = true := by kernel_rfl
theorem call_ref07_Arena_Set (a_0 : Option Addr) (words_1_p : Option Addr) (words_1_n : Nat) (words_1_c : Nat) {h : Heap} {Q : Value → Heap → Prop} (H : ref07_Arena_Set a_0 words_1_p words_1_n words_1_c h Q) : callP P n_ref07_Arena_Set #[(.pointer a_0), (.slice words_1_p words_1_n words_1_c)] h Q :=
  @callP_of P n_ref07_Arena_Set Try.f29 tab_ref07_Arena_Set [(.pointer a_0), (.slice words_1_p words_1_n words_1_c)] h Q mixed Try.func29 Try.call29 ok_ref07_Arena_Set (Eq.mpr (eq_ref07_Arena_Set a_0 words_1_p words_1_n words_1_c h Q) H)

/-! ### (*earshot/arena.Arena).Zero: function 30 -/
def arena_Arena_Zero (a_0 : Option Addr) (h : Heap) (Q : Value → Heap → Prop) : Prop :=
  ifB (!(a_0).isNone) (
    nilI a_0 fun a1 =>
    ldSlice h a1 fun p2 l2 c2 =>
    clB (.int .i64 (0 : Int)) p2 l2 h fun h3 =>
    Q (.tuple #[]) h3) (
    Q (.tuple #[]) h)
noncomputable def tab_arena_Arena_Zero : Tab := { sch := lookT .done [], lp := lookT [] [], jn := lookT none [] }
theorem eq_arena_Arena_Zero (a_0 : Option Addr) (h : Heap) (Q : Value → Heap → Prop) : fnI P Try.f30 tab_arena_Arena_Zero [(.pointer a_0)] h Q = arena_Arena_Zero a_0 h Q := by kernel_rfl
theorem ok_arena_Arena_Zero : fnOk P Try.f30 tab_arena_Arena_Zero = true := by kernel_rfl
theorem call_arena_Arena_Zero (a_0 : Option Addr) {h : Heap} {Q : Value → Heap → Prop} (H : arena_Arena_Zero a_0 h Q) : callP P n_arena_Arena_Zero #[(.pointer a_0)] h Q :=
  @callP_of P n_arena_Arena_Zero Try.f30 tab_arena_Arena_Zero [(.pointer a_0)] h Q mixed Try.func30 Try.call30 ok_arena_Arena_Zero (Eq.mpr (eq_arena_Arena_Zero a_0 h Q) H)

/-! ### (*earshot/arena.Part).Err: function 31 -/
def arena_Part_Err (p_0 : Option Addr) (h : Heap) (Q : Value → Heap → Prop) : Prop :=
  ifB ((p_0).isNone) (
    Q (.int .i64 (1 : Int)) h) (
    nilI p_0 fun a1 =>
    ldPtr h a1 fun p2 =>
    callInt P .i64 n_arena_Arena_Err #[(.pointer p2)] h fun n4 h3 =>
    Q (.int .i64 n4) h3)
noncomputable def tab_arena_Part_Err : Tab := { sch := lookT .done [], lp := lookT [] [], jn := lookT none [] }
theorem eq_arena_Part_Err (p_0 : Option Addr) (h : Heap) (Q : Value → Heap → Prop) : fnI P Try.f31 tab_arena_Part_Err [(.pointer p_0)] h Q = arena_Part_Err p_0 h Q := by kernel_rfl
theorem ok_arena_Part_Err : fnOk P Try.f31 tab_arena_Part_Err = true := by kernel_rfl
theorem call_arena_Part_Err (p_0 : Option Addr) {h : Heap} {Q : Value → Heap → Prop} (H : arena_Part_Err p_0 h Q) : callP P n_arena_Part_Err #[(.pointer p_0)] h Q :=
  @callP_of P n_arena_Part_Err Try.f31 tab_arena_Part_Err [(.pointer p_0)] h Q mixed Try.func31 Try.call31 ok_arena_Part_Err (Eq.mpr (eq_arena_Part_Err p_0 h Q) H)

/-! ### earshot/earshotlaw07.ArenaPlays: function 6 -/
def law07_ArenaPlays_j37 (Q : Value → Heap → Prop) (K1 : ((Option Addr × Nat × Nat) × Bool × Int × Option Addr × Option Addr × Int × Int × Option Addr × Int × Unit) → Heap → Prop) (script_2_p : Option Addr) (script_2_n : Nat) (script_2_c : Nat) (up_7 : Bool) (words_8 : Int) (a_9 : Option Addr) (b_10 : Option Addr) (at_11 : Int) (many_12 : Int) (p_13 : Option Addr) (i_15 : Int) (ok_17 : Bool) (h36 : Heap) : Prop :=
  nilI b_10 fun a37 =>
  ldSlice h36 a37 fun p38 l38 c38 =>
  callSlice P n_arena_Arena_Words #[(.pointer a_9)] h36 fun p40 l40 c40 h39 =>
  cellH h39 a37 = some (.slice p38 l38 c38) ∧
  callBool P n_ref04_Same #[(.slice p40 l40 c40), (.slice p38 l38 c38)] h39 fun b42 h41 =>
  ifB (!ok_17) (
    Q (.bool false) h41) (
    ifB (!b42) (
      Q (.bool false) h41) (
      nilI b_10 fun a43 =>
      ldInt .i64 h41 (Addr.add a43 1) fun n44 =>
      callInt P .i64 n_arena_Arena_Err #[(.pointer a_9)] h41 fun n46 h45 =>
      cellH h45 (Addr.add a43 1) = some (.int .i64 n44) ∧
      ifB (n46 != n44) (
        cellH h45 (Addr.add a43 1) = some (.int .i64 n44) ∧
        cellH h45 (Addr.add a43 1) = some (.int .i64 n44) ∧
        Q (.bool false) h45) (
        nilI b_10 fun a47 =>
        ldInt .i64 h45 (Addr.add a47 1) fun n48 =>
        callInt P .i64 n_arena_Part_Err #[(.pointer p_13)] h45 fun n50 h49 =>
        cellH h49 (Addr.add a47 1) = some (.int .i64 n48) ∧
        cellH h49 (Addr.add a43 1) = some (.int .i64 n44) ∧
        ifB (n50 != n48) (
          cellH h49 (Addr.add a47 1) = some (.int .i64 n48) ∧
          cellH h49 (Addr.add a43 1) = some (.int .i64 n44) ∧
          Q (.bool false) h49) (
          callInt P .i64 n_arena_Arena_Len #[(.pointer a_9)] h49 fun n52 h51 =>
          cellH h51 (Addr.add a47 1) = some (.int .i64 n48) ∧
          cellH h51 (Addr.add a43 1) = some (.int .i64 n44) ∧
          ifB (n52 != words_8) (
            Q (.bool false) h51) (
            K1 ((script_2_p, script_2_n, script_2_c), up_7, words_8, a_9, b_10, at_11, many_12, p_13, (IntKind.wrap .i64 (i_15 + (1 : Int))), ()) h51)))))
def law07_ArenaPlays_j18 (Q : Value → Heap → Prop) (K1 : ((Option Addr × Nat × Nat) × Bool × Int × Option Addr × Option Addr × Int × Int × Option Addr × Int × Unit) → Heap → Prop) (script_2_p : Option Addr) (script_2_n : Nat) (script_2_c : Nat) (up_7 : Bool) (words_8 : Int) (a_9 : Option Addr) (b_10 : Option Addr) (at_11 : Int) (many_12 : Int) (p_13 : Option Addr) (i_15 : Int) (h21 : Heap) : Prop :=
  idxI script_2_p i_15 script_2_n fun a22 =>
  ldInt .i64 h21 (Addr.add a22 (i_15.toNat * 5)) fun n23 =>
  ldInt .i64 h21 (Addr.add (Addr.add a22 (i_15.toNat * 5)) 1) fun n24 =>
  ldInt .i64 h21 (Addr.add (Addr.add a22 (i_15.toNat * 5)) 2) fun n25 =>
  ldBool h21 (Addr.add (Addr.add a22 (i_15.toNat * 5)) 3) fun b26 =>
  ldBool h21 (Addr.add (Addr.add a22 (i_15.toNat * 5)) 4) fun b27 =>
  newI h21 (.cells #[(.int .i64 (0 : Int)), (.int .i64 (0 : Int)), (.int .i64 (0 : Int)), (.bool false), (.bool false)] 47 (0, 0)) fun b28 h29 =>
  stI h29 ⟨b28, 0, none⟩ (.int .i64 n23) fun h30 =>
  stI h30 ⟨b28, 1, none⟩ (.int .i64 n24) fun h31 =>
  stI h31 ⟨b28, 2, none⟩ (.int .i64 n25) fun h32 =>
  stI h32 ⟨b28, 3, none⟩ (.bool b26) fun h33 =>
  stI h33 ⟨b28, 4, none⟩ (.bool b27) fun h34 =>
  ∃ J35 : ((Option Addr × Nat × Nat) × Bool × Int × Option Addr × Option Addr × Int × Int × Option Addr × Int × Bool × Unit) → Heap → Prop, (∀ s h, J35 s h → law07_ArenaPlays_j37 Q K1 s.1.1 s.1.2.1 s.1.2.2 s.2.1 s.2.2.1 s.2.2.2.1 s.2.2.2.2.1 s.2.2.2.2.2.1 s.2.2.2.2.2.2.1 s.2.2.2.2.2.2.2.1 s.2.2.2.2.2.2.2.2.1 s.2.2.2.2.2.2.2.2.2.1 h) ∧
  ldInt .i64 h34 ⟨b28, 0, none⟩ fun n53 =>
  ifB ((andI .i64 n53 (7 : Int)) == (0 : Int)) (
    ldInt .i64 h34 ⟨b28, 0, none⟩ fun n54 =>
    ldInt .i64 h34 ⟨b28, 1, none⟩ fun n55 =>
    ldInt .i64 h34 ⟨b28, 2, none⟩ fun n56 =>
    ldBool h34 ⟨b28, 3, none⟩ fun b57 =>
    ldBool h34 ⟨b28, 4, none⟩ fun b58 =>
    ldInt .i64 h34 ⟨b28, 0, none⟩ fun n59 =>
    ldInt .i64 h34 ⟨b28, 1, none⟩ fun n60 =>
    ldInt .i64 h34 ⟨b28, 2, none⟩ fun n61 =>
    ldBool h34 ⟨b28, 3, none⟩ fun b62 =>
    ldBool h34 ⟨b28, 4, none⟩ fun b63 =>
    callInt P .i64 n_law07_Act_word #[(.agg #[(.int .i64 n54), (.int .i64 n55), (.int .i64 n56), (.bool b57), (.bool b58)])] h34 fun n65 h64 =>
    cellH h64 ⟨b28, 0, none⟩ = some (.int .i64 n59) ∧
    cellH h64 ⟨b28, 1, none⟩ = some (.int .i64 n60) ∧
    cellH h64 ⟨b28, 2, none⟩ = some (.int .i64 n61) ∧
    cellH h64 ⟨b28, 3, none⟩ = some (.bool b62) ∧
    cellH h64 ⟨b28, 4, none⟩ = some (.bool b63) ∧
    callInt P .i64 n_law07_Act_num #[(.agg #[(.int .i64 n59), (.int .i64 n60), (.int .i64 n61), (.bool b62), (.bool b63)])] h64 fun n67 h66 =>
    cellH h66 ⟨b28, 0, none⟩ = some (.int .i64 n54) ∧
    cellH h66 ⟨b28, 1, none⟩ = some (.int .i64 n55) ∧
    cellH h66 ⟨b28, 2, none⟩ = some (.int .i64 n56) ∧
    cellH h66 ⟨b28, 3, none⟩ = some (.bool b57) ∧
    cellH h66 ⟨b28, 4, none⟩ = some (.bool b58) ∧
    callUnit P n_arena_Arena_Put #[(.pointer a_9), (.int .i64 n65), (.int .i64 n67)] h66 fun h68 =>
    cellH h68 ⟨b28, 0, none⟩ = some (.int .i64 n59) ∧
    cellH h68 ⟨b28, 1, none⟩ = some (.int .i64 n60) ∧
    cellH h68 ⟨b28, 2, none⟩ = some (.int .i64 n61) ∧
    cellH h68 ⟨b28, 3, none⟩ = some (.bool b62) ∧
    cellH h68 ⟨b28, 4, none⟩ = some (.bool b63) ∧
    cellH h68 ⟨b28, 0, none⟩ = some (.int .i64 n54) ∧
    cellH h68 ⟨b28, 1, none⟩ = some (.int .i64 n55) ∧
    cellH h68 ⟨b28, 2, none⟩ = some (.int .i64 n56) ∧
    cellH h68 ⟨b28, 3, none⟩ = some (.bool b57) ∧
    cellH h68 ⟨b28, 4, none⟩ = some (.bool b58) ∧
    ldInt .i64 h68 ⟨b28, 0, none⟩ fun n69 =>
    ldInt .i64 h68 ⟨b28, 1, none⟩ fun n70 =>
    ldInt .i64 h68 ⟨b28, 2, none⟩ fun n71 =>
    ldBool h68 ⟨b28, 3, none⟩ fun b72 =>
    ldBool h68 ⟨b28, 4, none⟩ fun b73 =>
    ldInt .i64 h68 ⟨b28, 0, none⟩ fun n74 =>
    ldInt .i64 h68 ⟨b28, 1, none⟩ fun n75 =>
    ldInt .i64 h68 ⟨b28, 2, none⟩ fun n76 =>
    ldBool h68 ⟨b28, 3, none⟩ fun b77 =>
    ldBool h68 ⟨b28, 4, none⟩ fun b78 =>
    callInt P .i64 n_law07_Act_word #[(.agg #[(.int .i64 n69), (.int .i64 n70), (.int .i64 n71), (.bool b72), (.bool b73)])] h68 fun n80 h79 =>
    cellH h79 ⟨b28, 0, none⟩ = some (.int .i64 n74) ∧
    cellH h79 ⟨b28, 1, none⟩ = some (.int .i64 n75) ∧
    cellH h79 ⟨b28, 2, none⟩ = some (.int .i64 n76) ∧
    cellH h79 ⟨b28, 3, none⟩ = some (.bool b77) ∧
    cellH h79 ⟨b28, 4, none⟩ = some (.bool b78) ∧
    callInt P .i64 n_law07_Act_num #[(.agg #[(.int .i64 n74), (.int .i64 n75), (.int .i64 n76), (.bool b77), (.bool b78)])] h79 fun n82 h81 =>
    cellH h81 ⟨b28, 0, none⟩ = some (.int .i64 n69) ∧
    cellH h81 ⟨b28, 1, none⟩ = some (.int .i64 n70) ∧
    cellH h81 ⟨b28, 2, none⟩ = some (.int .i64 n71) ∧
    cellH h81 ⟨b28, 3, none⟩ = some (.bool b72) ∧
    cellH h81 ⟨b28, 4, none⟩ = some (.bool b73) ∧
    callUnit P n_ref07_Arena_Put #[(.pointer b_10), (.int .i64 (0 : Int)), (.int .i64 words_8), (.int .i64 n80), (.int .i64 n82)] h81 fun h83 =>
    cellH h83 ⟨b28, 0, none⟩ = some (.int .i64 n74) ∧
    cellH h83 ⟨b28, 1, none⟩ = some (.int .i64 n75) ∧
    cellH h83 ⟨b28, 2, none⟩ = some (.int .i64 n76) ∧
    cellH h83 ⟨b28, 3, none⟩ = some (.bool b77) ∧
    cellH h83 ⟨b28, 4, none⟩ = some (.bool b78) ∧
    cellH h83 ⟨b28, 0, none⟩ = some (.int .i64 n69) ∧
    cellH h83 ⟨b28, 1, none⟩ = some (.int .i64 n70) ∧
    cellH h83 ⟨b28, 2, none⟩ = some (.int .i64 n71) ∧
    cellH h83 ⟨b28, 3, none⟩ = some (.bool b72) ∧
    cellH h83 ⟨b28, 4, none⟩ = some (.bool b73) ∧
    J35 ((script_2_p, script_2_n, script_2_c), up_7, words_8, a_9, b_10, at_11, many_12, p_13, i_15, true, ()) h83) (
    ifB ((andI .i64 n53 (7 : Int)) == (1 : Int)) (
      ldInt .i64 h34 ⟨b28, 0, none⟩ fun n84 =>
      ldInt .i64 h34 ⟨b28, 1, none⟩ fun n85 =>
      ldInt .i64 h34 ⟨b28, 2, none⟩ fun n86 =>
      ldBool h34 ⟨b28, 3, none⟩ fun b87 =>
      ldBool h34 ⟨b28, 4, none⟩ fun b88 =>
      ldInt .i64 h34 ⟨b28, 0, none⟩ fun n89 =>
      ldInt .i64 h34 ⟨b28, 1, none⟩ fun n90 =>
      ldInt .i64 h34 ⟨b28, 2, none⟩ fun n91 =>
      ldBool h34 ⟨b28, 3, none⟩ fun b92 =>
      ldBool h34 ⟨b28, 4, none⟩ fun b93 =>
      callInt P .i64 n_law07_Act_word #[(.agg #[(.int .i64 n84), (.int .i64 n85), (.int .i64 n86), (.bool b87), (.bool b88)])] h34 fun n95 h94 =>
      cellH h94 ⟨b28, 0, none⟩ = some (.int .i64 n89) ∧
      cellH h94 ⟨b28, 1, none⟩ = some (.int .i64 n90) ∧
      cellH h94 ⟨b28, 2, none⟩ = some (.int .i64 n91) ∧
      cellH h94 ⟨b28, 3, none⟩ = some (.bool b92) ∧
      cellH h94 ⟨b28, 4, none⟩ = some (.bool b93) ∧
      callInt P .i64 n_law07_Act_num #[(.agg #[(.int .i64 n89), (.int .i64 n90), (.int .i64 n91), (.bool b92), (.bool b93)])] h94 fun n97 h96 =>
      cellH h96 ⟨b28, 0, none⟩ = some (.int .i64 n84) ∧
      cellH h96 ⟨b28, 1, none⟩ = some (.int .i64 n85) ∧
      cellH h96 ⟨b28, 2, none⟩ = some (.int .i64 n86) ∧
      cellH h96 ⟨b28, 3, none⟩ = some (.bool b87) ∧
      cellH h96 ⟨b28, 4, none⟩ = some (.bool b88) ∧
      callUnit P n_arena_Arena_Put #[(.pointer a_9), (.int .i64 n95), (.int .i64 n97)] h96 fun h98 =>
      cellH h98 ⟨b28, 0, none⟩ = some (.int .i64 n89) ∧
      cellH h98 ⟨b28, 1, none⟩ = some (.int .i64 n90) ∧
      cellH h98 ⟨b28, 2, none⟩ = some (.int .i64 n91) ∧
      cellH h98 ⟨b28, 3, none⟩ = some (.bool b92) ∧
      cellH h98 ⟨b28, 4, none⟩ = some (.bool b93) ∧
      cellH h98 ⟨b28, 0, none⟩ = some (.int .i64 n84) ∧
      cellH h98 ⟨b28, 1, none⟩ = some (.int .i64 n85) ∧
      cellH h98 ⟨b28, 2, none⟩ = some (.int .i64 n86) ∧
      cellH h98 ⟨b28, 3, none⟩ = some (.bool b87) ∧
      cellH h98 ⟨b28, 4, none⟩ = some (.bool b88) ∧
      ldInt .i64 h98 ⟨b28, 0, none⟩ fun n99 =>
      ldInt .i64 h98 ⟨b28, 1, none⟩ fun n100 =>
      ldInt .i64 h98 ⟨b28, 2, none⟩ fun n101 =>
      ldBool h98 ⟨b28, 3, none⟩ fun b102 =>
      ldBool h98 ⟨b28, 4, none⟩ fun b103 =>
      ldInt .i64 h98 ⟨b28, 0, none⟩ fun n104 =>
      ldInt .i64 h98 ⟨b28, 1, none⟩ fun n105 =>
      ldInt .i64 h98 ⟨b28, 2, none⟩ fun n106 =>
      ldBool h98 ⟨b28, 3, none⟩ fun b107 =>
      ldBool h98 ⟨b28, 4, none⟩ fun b108 =>
      callInt P .i64 n_law07_Act_word #[(.agg #[(.int .i64 n99), (.int .i64 n100), (.int .i64 n101), (.bool b102), (.bool b103)])] h98 fun n110 h109 =>
      cellH h109 ⟨b28, 0, none⟩ = some (.int .i64 n104) ∧
      cellH h109 ⟨b28, 1, none⟩ = some (.int .i64 n105) ∧
      cellH h109 ⟨b28, 2, none⟩ = some (.int .i64 n106) ∧
      cellH h109 ⟨b28, 3, none⟩ = some (.bool b107) ∧
      cellH h109 ⟨b28, 4, none⟩ = some (.bool b108) ∧
      callInt P .i64 n_law07_Act_num #[(.agg #[(.int .i64 n104), (.int .i64 n105), (.int .i64 n106), (.bool b107), (.bool b108)])] h109 fun n112 h111 =>
      cellH h111 ⟨b28, 0, none⟩ = some (.int .i64 n99) ∧
      cellH h111 ⟨b28, 1, none⟩ = some (.int .i64 n100) ∧
      cellH h111 ⟨b28, 2, none⟩ = some (.int .i64 n101) ∧
      cellH h111 ⟨b28, 3, none⟩ = some (.bool b102) ∧
      cellH h111 ⟨b28, 4, none⟩ = some (.bool b103) ∧
      callUnit P n_ref07_Arena_Put #[(.pointer b_10), (.int .i64 (0 : Int)), (.int .i64 words_8), (.int .i64 n110), (.int .i64 n112)] h111 fun h113 =>
      cellH h113 ⟨b28, 0, none⟩ = some (.int .i64 n104) ∧
      cellH h113 ⟨b28, 1, none⟩ = some (.int .i64 n105) ∧
      cellH h113 ⟨b28, 2, none⟩ = some (.int .i64 n106) ∧
      cellH h113 ⟨b28, 3, none⟩ = some (.bool b107) ∧
      cellH h113 ⟨b28, 4, none⟩ = some (.bool b108) ∧
      cellH h113 ⟨b28, 0, none⟩ = some (.int .i64 n99) ∧
      cellH h113 ⟨b28, 1, none⟩ = some (.int .i64 n100) ∧
      cellH h113 ⟨b28, 2, none⟩ = some (.int .i64 n101) ∧
      cellH h113 ⟨b28, 3, none⟩ = some (.bool b102) ∧
      cellH h113 ⟨b28, 4, none⟩ = some (.bool b103) ∧
      J35 ((script_2_p, script_2_n, script_2_c), up_7, words_8, a_9, b_10, at_11, many_12, p_13, i_15, true, ()) h113) (
      ifB ((andI .i64 n53 (7 : Int)) == (2 : Int)) (
        ldInt .i64 h34 ⟨b28, 0, none⟩ fun n114 =>
        ldInt .i64 h34 ⟨b28, 1, none⟩ fun n115 =>
        ldInt .i64 h34 ⟨b28, 2, none⟩ fun n116 =>
        ldBool h34 ⟨b28, 3, none⟩ fun b117 =>
        ldBool h34 ⟨b28, 4, none⟩ fun b118 =>
        ldInt .i64 h34 ⟨b28, 0, none⟩ fun n119 =>
        ldInt .i64 h34 ⟨b28, 1, none⟩ fun n120 =>
        ldInt .i64 h34 ⟨b28, 2, none⟩ fun n121 =>
        ldBool h34 ⟨b28, 3, none⟩ fun b122 =>
        ldBool h34 ⟨b28, 4, none⟩ fun b123 =>
        callInt P .i64 n_law07_Act_word #[(.agg #[(.int .i64 n114), (.int .i64 n115), (.int .i64 n116), (.bool b117), (.bool b118)])] h34 fun n125 h124 =>
        cellH h124 ⟨b28, 0, none⟩ = some (.int .i64 n119) ∧
        cellH h124 ⟨b28, 1, none⟩ = some (.int .i64 n120) ∧
        cellH h124 ⟨b28, 2, none⟩ = some (.int .i64 n121) ∧
        cellH h124 ⟨b28, 3, none⟩ = some (.bool b122) ∧
        cellH h124 ⟨b28, 4, none⟩ = some (.bool b123) ∧
        callInt P .i64 n_arena_Arena_Get #[(.pointer a_9), (.int .i64 n125)] h124 fun n127 h126 =>
        cellH h126 ⟨b28, 0, none⟩ = some (.int .i64 n119) ∧
        cellH h126 ⟨b28, 1, none⟩ = some (.int .i64 n120) ∧
        cellH h126 ⟨b28, 2, none⟩ = some (.int .i64 n121) ∧
        cellH h126 ⟨b28, 3, none⟩ = some (.bool b122) ∧
        cellH h126 ⟨b28, 4, none⟩ = some (.bool b123) ∧
        cellH h126 ⟨b28, 0, none⟩ = some (.int .i64 n114) ∧
        cellH h126 ⟨b28, 1, none⟩ = some (.int .i64 n115) ∧
        cellH h126 ⟨b28, 2, none⟩ = some (.int .i64 n116) ∧
        cellH h126 ⟨b28, 3, none⟩ = some (.bool b117) ∧
        cellH h126 ⟨b28, 4, none⟩ = some (.bool b118) ∧
        callInt P .i64 n_law07_Act_word #[(.agg #[(.int .i64 n119), (.int .i64 n120), (.int .i64 n121), (.bool b122), (.bool b123)])] h126 fun n129 h128 =>
        cellH h128 ⟨b28, 0, none⟩ = some (.int .i64 n114) ∧
        cellH h128 ⟨b28, 1, none⟩ = some (.int .i64 n115) ∧
        cellH h128 ⟨b28, 2, none⟩ = some (.int .i64 n116) ∧
        cellH h128 ⟨b28, 3, none⟩ = some (.bool b117) ∧
        cellH h128 ⟨b28, 4, none⟩ = some (.bool b118) ∧
        callInt P .i64 n_ref07_Arena_Get #[(.pointer b_10), (.int .i64 (0 : Int)), (.int .i64 words_8), (.int .i64 n129)] h128 fun n131 h130 =>
        cellH h130 ⟨b28, 0, none⟩ = some (.int .i64 n119) ∧
        cellH h130 ⟨b28, 1, none⟩ = some (.int .i64 n120) ∧
        cellH h130 ⟨b28, 2, none⟩ = some (.int .i64 n121) ∧
        cellH h130 ⟨b28, 3, none⟩ = some (.bool b122) ∧
        cellH h130 ⟨b28, 4, none⟩ = some (.bool b123) ∧
        cellH h130 ⟨b28, 0, none⟩ = some (.int .i64 n114) ∧
        cellH h130 ⟨b28, 1, none⟩ = some (.int .i64 n115) ∧
        cellH h130 ⟨b28, 2, none⟩ = some (.int .i64 n116) ∧
        cellH h130 ⟨b28, 3, none⟩ = some (.bool b117) ∧
        cellH h130 ⟨b28, 4, none⟩ = some (.bool b118) ∧
        J35 ((script_2_p, script_2_n, script_2_c), up_7, words_8, a_9, b_10, at_11, many_12, p_13, i_15, (n127 == n131), ()) h130) (
        ifB ((andI .i64 n53 (7 : Int)) == (3 : Int)) (
          ldInt .i64 h34 ⟨b28, 0, none⟩ fun n132 =>
          ldInt .i64 h34 ⟨b28, 1, none⟩ fun n133 =>
          ldInt .i64 h34 ⟨b28, 2, none⟩ fun n134 =>
          ldBool h34 ⟨b28, 3, none⟩ fun b135 =>
          ldBool h34 ⟨b28, 4, none⟩ fun b136 =>
          ldInt .i64 h34 ⟨b28, 0, none⟩ fun n137 =>
          ldInt .i64 h34 ⟨b28, 1, none⟩ fun n138 =>
          ldInt .i64 h34 ⟨b28, 2, none⟩ fun n139 =>
          ldBool h34 ⟨b28, 3, none⟩ fun b140 =>
          ldBool h34 ⟨b28, 4, none⟩ fun b141 =>
          callInt P .i64 n_law07_Act_word #[(.agg #[(.int .i64 n132), (.int .i64 n133), (.int .i64 n134), (.bool b135), (.bool b136)])] h34 fun n143 h142 =>
          cellH h142 ⟨b28, 0, none⟩ = some (.int .i64 n137) ∧
          cellH h142 ⟨b28, 1, none⟩ = some (.int .i64 n138) ∧
          cellH h142 ⟨b28, 2, none⟩ = some (.int .i64 n139) ∧
          cellH h142 ⟨b28, 3, none⟩ = some (.bool b140) ∧
          cellH h142 ⟨b28, 4, none⟩ = some (.bool b141) ∧
          callInt P .i64 n_law07_Act_num #[(.agg #[(.int .i64 n137), (.int .i64 n138), (.int .i64 n139), (.bool b140), (.bool b141)])] h142 fun n145 h144 =>
          cellH h144 ⟨b28, 0, none⟩ = some (.int .i64 n132) ∧
          cellH h144 ⟨b28, 1, none⟩ = some (.int .i64 n133) ∧
          cellH h144 ⟨b28, 2, none⟩ = some (.int .i64 n134) ∧
          cellH h144 ⟨b28, 3, none⟩ = some (.bool b135) ∧
          cellH h144 ⟨b28, 4, none⟩ = some (.bool b136) ∧
          callUnit P n_arena_Part_Put #[(.pointer p_13), (.int .i64 n143), (.int .i64 n145)] h144 fun h146 =>
          cellH h146 ⟨b28, 0, none⟩ = some (.int .i64 n137) ∧
          cellH h146 ⟨b28, 1, none⟩ = some (.int .i64 n138) ∧
          cellH h146 ⟨b28, 2, none⟩ = some (.int .i64 n139) ∧
          cellH h146 ⟨b28, 3, none⟩ = some (.bool b140) ∧
          cellH h146 ⟨b28, 4, none⟩ = some (.bool b141) ∧
          cellH h146 ⟨b28, 0, none⟩ = some (.int .i64 n132) ∧
          cellH h146 ⟨b28, 1, none⟩ = some (.int .i64 n133) ∧
          cellH h146 ⟨b28, 2, none⟩ = some (.int .i64 n134) ∧
          cellH h146 ⟨b28, 3, none⟩ = some (.bool b135) ∧
          cellH h146 ⟨b28, 4, none⟩ = some (.bool b136) ∧
          ldInt .i64 h146 ⟨b28, 0, none⟩ fun n147 =>
          ldInt .i64 h146 ⟨b28, 1, none⟩ fun n148 =>
          ldInt .i64 h146 ⟨b28, 2, none⟩ fun n149 =>
          ldBool h146 ⟨b28, 3, none⟩ fun b150 =>
          ldBool h146 ⟨b28, 4, none⟩ fun b151 =>
          ldInt .i64 h146 ⟨b28, 0, none⟩ fun n152 =>
          ldInt .i64 h146 ⟨b28, 1, none⟩ fun n153 =>
          ldInt .i64 h146 ⟨b28, 2, none⟩ fun n154 =>
          ldBool h146 ⟨b28, 3, none⟩ fun b155 =>
          ldBool h146 ⟨b28, 4, none⟩ fun b156 =>
          callInt P .i64 n_law07_Act_word #[(.agg #[(.int .i64 n147), (.int .i64 n148), (.int .i64 n149), (.bool b150), (.bool b151)])] h146 fun n158 h157 =>
          cellH h157 ⟨b28, 0, none⟩ = some (.int .i64 n152) ∧
          cellH h157 ⟨b28, 1, none⟩ = some (.int .i64 n153) ∧
          cellH h157 ⟨b28, 2, none⟩ = some (.int .i64 n154) ∧
          cellH h157 ⟨b28, 3, none⟩ = some (.bool b155) ∧
          cellH h157 ⟨b28, 4, none⟩ = some (.bool b156) ∧
          callInt P .i64 n_law07_Act_num #[(.agg #[(.int .i64 n152), (.int .i64 n153), (.int .i64 n154), (.bool b155), (.bool b156)])] h157 fun n160 h159 =>
          cellH h159 ⟨b28, 0, none⟩ = some (.int .i64 n147) ∧
          cellH h159 ⟨b28, 1, none⟩ = some (.int .i64 n148) ∧
          cellH h159 ⟨b28, 2, none⟩ = some (.int .i64 n149) ∧
          cellH h159 ⟨b28, 3, none⟩ = some (.bool b150) ∧
          cellH h159 ⟨b28, 4, none⟩ = some (.bool b151) ∧
          callUnit P n_ref07_Arena_Put #[(.pointer b_10), (.int .i64 at_11), (.int .i64 many_12), (.int .i64 n158), (.int .i64 n160)] h159 fun h161 =>
          cellH h161 ⟨b28, 0, none⟩ = some (.int .i64 n152) ∧
          cellH h161 ⟨b28, 1, none⟩ = some (.int .i64 n153) ∧
          cellH h161 ⟨b28, 2, none⟩ = some (.int .i64 n154) ∧
          cellH h161 ⟨b28, 3, none⟩ = some (.bool b155) ∧
          cellH h161 ⟨b28, 4, none⟩ = some (.bool b156) ∧
          cellH h161 ⟨b28, 0, none⟩ = some (.int .i64 n147) ∧
          cellH h161 ⟨b28, 1, none⟩ = some (.int .i64 n148) ∧
          cellH h161 ⟨b28, 2, none⟩ = some (.int .i64 n149) ∧
          cellH h161 ⟨b28, 3, none⟩ = some (.bool b150) ∧
          cellH h161 ⟨b28, 4, none⟩ = some (.bool b151) ∧
          J35 ((script_2_p, script_2_n, script_2_c), up_7, words_8, a_9, b_10, at_11, many_12, p_13, i_15, true, ()) h161) (
          ifB ((andI .i64 n53 (7 : Int)) == (4 : Int)) (
            ldInt .i64 h34 ⟨b28, 0, none⟩ fun n162 =>
            ldInt .i64 h34 ⟨b28, 1, none⟩ fun n163 =>
            ldInt .i64 h34 ⟨b28, 2, none⟩ fun n164 =>
            ldBool h34 ⟨b28, 3, none⟩ fun b165 =>
            ldBool h34 ⟨b28, 4, none⟩ fun b166 =>
            ldInt .i64 h34 ⟨b28, 0, none⟩ fun n167 =>
            ldInt .i64 h34 ⟨b28, 1, none⟩ fun n168 =>
            ldInt .i64 h34 ⟨b28, 2, none⟩ fun n169 =>
            ldBool h34 ⟨b28, 3, none⟩ fun b170 =>
            ldBool h34 ⟨b28, 4, none⟩ fun b171 =>
            callInt P .i64 n_law07_Act_word #[(.agg #[(.int .i64 n162), (.int .i64 n163), (.int .i64 n164), (.bool b165), (.bool b166)])] h34 fun n173 h172 =>
            cellH h172 ⟨b28, 0, none⟩ = some (.int .i64 n167) ∧
            cellH h172 ⟨b28, 1, none⟩ = some (.int .i64 n168) ∧
            cellH h172 ⟨b28, 2, none⟩ = some (.int .i64 n169) ∧
            cellH h172 ⟨b28, 3, none⟩ = some (.bool b170) ∧
            cellH h172 ⟨b28, 4, none⟩ = some (.bool b171) ∧
            callInt P .i64 n_law07_Act_num #[(.agg #[(.int .i64 n167), (.int .i64 n168), (.int .i64 n169), (.bool b170), (.bool b171)])] h172 fun n175 h174 =>
            cellH h174 ⟨b28, 0, none⟩ = some (.int .i64 n162) ∧
            cellH h174 ⟨b28, 1, none⟩ = some (.int .i64 n163) ∧
            cellH h174 ⟨b28, 2, none⟩ = some (.int .i64 n164) ∧
            cellH h174 ⟨b28, 3, none⟩ = some (.bool b165) ∧
            cellH h174 ⟨b28, 4, none⟩ = some (.bool b166) ∧
            callUnit P n_arena_Part_Put #[(.pointer p_13), (.int .i64 n173), (.int .i64 n175)] h174 fun h176 =>
            cellH h176 ⟨b28, 0, none⟩ = some (.int .i64 n167) ∧
            cellH h176 ⟨b28, 1, none⟩ = some (.int .i64 n168) ∧
            cellH h176 ⟨b28, 2, none⟩ = some (.int .i64 n169) ∧
            cellH h176 ⟨b28, 3, none⟩ = some (.bool b170) ∧
            cellH h176 ⟨b28, 4, none⟩ = some (.bool b171) ∧
            cellH h176 ⟨b28, 0, none⟩ = some (.int .i64 n162) ∧
            cellH h176 ⟨b28, 1, none⟩ = some (.int .i64 n163) ∧
            cellH h176 ⟨b28, 2, none⟩ = some (.int .i64 n164) ∧
            cellH h176 ⟨b28, 3, none⟩ = some (.bool b165) ∧
            cellH h176 ⟨b28, 4, none⟩ = some (.bool b166) ∧
            ldInt .i64 h176 ⟨b28, 0, none⟩ fun n177 =>
            ldInt .i64 h176 ⟨b28, 1, none⟩ fun n178 =>
            ldInt .i64 h176 ⟨b28, 2, none⟩ fun n179 =>
            ldBool h176 ⟨b28, 3, none⟩ fun b180 =>
            ldBool h176 ⟨b28, 4, none⟩ fun b181 =>
            ldInt .i64 h176 ⟨b28, 0, none⟩ fun n182 =>
            ldInt .i64 h176 ⟨b28, 1, none⟩ fun n183 =>
            ldInt .i64 h176 ⟨b28, 2, none⟩ fun n184 =>
            ldBool h176 ⟨b28, 3, none⟩ fun b185 =>
            ldBool h176 ⟨b28, 4, none⟩ fun b186 =>
            callInt P .i64 n_law07_Act_word #[(.agg #[(.int .i64 n177), (.int .i64 n178), (.int .i64 n179), (.bool b180), (.bool b181)])] h176 fun n188 h187 =>
            cellH h187 ⟨b28, 0, none⟩ = some (.int .i64 n182) ∧
            cellH h187 ⟨b28, 1, none⟩ = some (.int .i64 n183) ∧
            cellH h187 ⟨b28, 2, none⟩ = some (.int .i64 n184) ∧
            cellH h187 ⟨b28, 3, none⟩ = some (.bool b185) ∧
            cellH h187 ⟨b28, 4, none⟩ = some (.bool b186) ∧
            callInt P .i64 n_law07_Act_num #[(.agg #[(.int .i64 n182), (.int .i64 n183), (.int .i64 n184), (.bool b185), (.bool b186)])] h187 fun n190 h189 =>
            cellH h189 ⟨b28, 0, none⟩ = some (.int .i64 n177) ∧
            cellH h189 ⟨b28, 1, none⟩ = some (.int .i64 n178) ∧
            cellH h189 ⟨b28, 2, none⟩ = some (.int .i64 n179) ∧
            cellH h189 ⟨b28, 3, none⟩ = some (.bool b180) ∧
            cellH h189 ⟨b28, 4, none⟩ = some (.bool b181) ∧
            callUnit P n_ref07_Arena_Put #[(.pointer b_10), (.int .i64 at_11), (.int .i64 many_12), (.int .i64 n188), (.int .i64 n190)] h189 fun h191 =>
            cellH h191 ⟨b28, 0, none⟩ = some (.int .i64 n182) ∧
            cellH h191 ⟨b28, 1, none⟩ = some (.int .i64 n183) ∧
            cellH h191 ⟨b28, 2, none⟩ = some (.int .i64 n184) ∧
            cellH h191 ⟨b28, 3, none⟩ = some (.bool b185) ∧
            cellH h191 ⟨b28, 4, none⟩ = some (.bool b186) ∧
            cellH h191 ⟨b28, 0, none⟩ = some (.int .i64 n177) ∧
            cellH h191 ⟨b28, 1, none⟩ = some (.int .i64 n178) ∧
            cellH h191 ⟨b28, 2, none⟩ = some (.int .i64 n179) ∧
            cellH h191 ⟨b28, 3, none⟩ = some (.bool b180) ∧
            cellH h191 ⟨b28, 4, none⟩ = some (.bool b181) ∧
            J35 ((script_2_p, script_2_n, script_2_c), up_7, words_8, a_9, b_10, at_11, many_12, p_13, i_15, true, ()) h191) (
            ifB ((andI .i64 n53 (7 : Int)) == (5 : Int)) (
              ldInt .i64 h34 ⟨b28, 0, none⟩ fun n192 =>
              ldInt .i64 h34 ⟨b28, 1, none⟩ fun n193 =>
              ldInt .i64 h34 ⟨b28, 2, none⟩ fun n194 =>
              ldBool h34 ⟨b28, 3, none⟩ fun b195 =>
              ldBool h34 ⟨b28, 4, none⟩ fun b196 =>
              ldInt .i64 h34 ⟨b28, 0, none⟩ fun n197 =>
              ldInt .i64 h34 ⟨b28, 1, none⟩ fun n198 =>
              ldInt .i64 h34 ⟨b28, 2, none⟩ fun n199 =>
              ldBool h34 ⟨b28, 3, none⟩ fun b200 =>
              ldBool h34 ⟨b28, 4, none⟩ fun b201 =>
              callInt P .i64 n_law07_Act_word #[(.agg #[(.int .i64 n192), (.int .i64 n193), (.int .i64 n194), (.bool b195), (.bool b196)])] h34 fun n203 h202 =>
              cellH h202 ⟨b28, 0, none⟩ = some (.int .i64 n197) ∧
              cellH h202 ⟨b28, 1, none⟩ = some (.int .i64 n198) ∧
              cellH h202 ⟨b28, 2, none⟩ = some (.int .i64 n199) ∧
              cellH h202 ⟨b28, 3, none⟩ = some (.bool b200) ∧
              cellH h202 ⟨b28, 4, none⟩ = some (.bool b201) ∧
              callInt P .i64 n_arena_Part_Get #[(.pointer p_13), (.int .i64 n203)] h202 fun n205 h204 =>
              cellH h204 ⟨b28, 0, none⟩ = some (.int .i64 n197) ∧
              cellH h204 ⟨b28, 1, none⟩ = some (.int .i64 n198) ∧
              cellH h204 ⟨b28, 2, none⟩ = some (.int .i64 n199) ∧
              cellH h204 ⟨b28, 3, none⟩ = some (.bool b200) ∧
              cellH h204 ⟨b28, 4, none⟩ = some (.bool b201) ∧
              cellH h204 ⟨b28, 0, none⟩ = some (.int .i64 n192) ∧
              cellH h204 ⟨b28, 1, none⟩ = some (.int .i64 n193) ∧
              cellH h204 ⟨b28, 2, none⟩ = some (.int .i64 n194) ∧
              cellH h204 ⟨b28, 3, none⟩ = some (.bool b195) ∧
              cellH h204 ⟨b28, 4, none⟩ = some (.bool b196) ∧
              callInt P .i64 n_law07_Act_word #[(.agg #[(.int .i64 n197), (.int .i64 n198), (.int .i64 n199), (.bool b200), (.bool b201)])] h204 fun n207 h206 =>
              cellH h206 ⟨b28, 0, none⟩ = some (.int .i64 n192) ∧
              cellH h206 ⟨b28, 1, none⟩ = some (.int .i64 n193) ∧
              cellH h206 ⟨b28, 2, none⟩ = some (.int .i64 n194) ∧
              cellH h206 ⟨b28, 3, none⟩ = some (.bool b195) ∧
              cellH h206 ⟨b28, 4, none⟩ = some (.bool b196) ∧
              callInt P .i64 n_ref07_Arena_Get #[(.pointer b_10), (.int .i64 at_11), (.int .i64 many_12), (.int .i64 n207)] h206 fun n209 h208 =>
              cellH h208 ⟨b28, 0, none⟩ = some (.int .i64 n197) ∧
              cellH h208 ⟨b28, 1, none⟩ = some (.int .i64 n198) ∧
              cellH h208 ⟨b28, 2, none⟩ = some (.int .i64 n199) ∧
              cellH h208 ⟨b28, 3, none⟩ = some (.bool b200) ∧
              cellH h208 ⟨b28, 4, none⟩ = some (.bool b201) ∧
              cellH h208 ⟨b28, 0, none⟩ = some (.int .i64 n192) ∧
              cellH h208 ⟨b28, 1, none⟩ = some (.int .i64 n193) ∧
              cellH h208 ⟨b28, 2, none⟩ = some (.int .i64 n194) ∧
              cellH h208 ⟨b28, 3, none⟩ = some (.bool b195) ∧
              cellH h208 ⟨b28, 4, none⟩ = some (.bool b196) ∧
              J35 ((script_2_p, script_2_n, script_2_c), up_7, words_8, a_9, b_10, at_11, many_12, p_13, i_15, (n205 == n209), ()) h208) (
              ifB ((andI .i64 n53 (7 : Int)) == (6 : Int)) (
                ldInt .i64 h34 ⟨b28, 0, none⟩ fun n210 =>
                ldInt .i64 h34 ⟨b28, 1, none⟩ fun n211 =>
                ldInt .i64 h34 ⟨b28, 2, none⟩ fun n212 =>
                ldBool h34 ⟨b28, 3, none⟩ fun b213 =>
                ldBool h34 ⟨b28, 4, none⟩ fun b214 =>
                ldInt .i64 h34 ⟨b28, 0, none⟩ fun n215 =>
                ldInt .i64 h34 ⟨b28, 1, none⟩ fun n216 =>
                ldInt .i64 h34 ⟨b28, 2, none⟩ fun n217 =>
                ldBool h34 ⟨b28, 3, none⟩ fun b218 =>
                ldBool h34 ⟨b28, 4, none⟩ fun b219 =>
                callSlice P n_law07_Act_row #[(.agg #[(.int .i64 n210), (.int .i64 n211), (.int .i64 n212), (.bool b213), (.bool b214)]), (.int .i64 words_8)] h34 fun p221 l221 c221 h220 =>
                cellH h220 ⟨b28, 0, none⟩ = some (.int .i64 n215) ∧
                cellH h220 ⟨b28, 1, none⟩ = some (.int .i64 n216) ∧
                cellH h220 ⟨b28, 2, none⟩ = some (.int .i64 n217) ∧
                cellH h220 ⟨b28, 3, none⟩ = some (.bool b218) ∧
                cellH h220 ⟨b28, 4, none⟩ = some (.bool b219) ∧
                callInt P .i64 n_arena_Arena_Set #[(.pointer a_9), (.slice p221 l221 c221)] h220 fun n223 h222 =>
                cellH h222 ⟨b28, 0, none⟩ = some (.int .i64 n215) ∧
                cellH h222 ⟨b28, 1, none⟩ = some (.int .i64 n216) ∧
                cellH h222 ⟨b28, 2, none⟩ = some (.int .i64 n217) ∧
                cellH h222 ⟨b28, 3, none⟩ = some (.bool b218) ∧
                cellH h222 ⟨b28, 4, none⟩ = some (.bool b219) ∧
                cellH h222 ⟨b28, 0, none⟩ = some (.int .i64 n210) ∧
                cellH h222 ⟨b28, 1, none⟩ = some (.int .i64 n211) ∧
                cellH h222 ⟨b28, 2, none⟩ = some (.int .i64 n212) ∧
                cellH h222 ⟨b28, 3, none⟩ = some (.bool b213) ∧
                cellH h222 ⟨b28, 4, none⟩ = some (.bool b214) ∧
                callSlice P n_law07_Act_row #[(.agg #[(.int .i64 n215), (.int .i64 n216), (.int .i64 n217), (.bool b218), (.bool b219)]), (.int .i64 words_8)] h222 fun p225 l225 c225 h224 =>
                cellH h224 ⟨b28, 0, none⟩ = some (.int .i64 n210) ∧
                cellH h224 ⟨b28, 1, none⟩ = some (.int .i64 n211) ∧
                cellH h224 ⟨b28, 2, none⟩ = some (.int .i64 n212) ∧
                cellH h224 ⟨b28, 3, none⟩ = some (.bool b213) ∧
                cellH h224 ⟨b28, 4, none⟩ = some (.bool b214) ∧
                callInt P .i64 n_ref07_Arena_Set #[(.pointer b_10), (.slice p225 l225 c225)] h224 fun n227 h226 =>
                cellH h226 ⟨b28, 0, none⟩ = some (.int .i64 n215) ∧
                cellH h226 ⟨b28, 1, none⟩ = some (.int .i64 n216) ∧
                cellH h226 ⟨b28, 2, none⟩ = some (.int .i64 n217) ∧
                cellH h226 ⟨b28, 3, none⟩ = some (.bool b218) ∧
                cellH h226 ⟨b28, 4, none⟩ = some (.bool b219) ∧
                cellH h226 ⟨b28, 0, none⟩ = some (.int .i64 n210) ∧
                cellH h226 ⟨b28, 1, none⟩ = some (.int .i64 n211) ∧
                cellH h226 ⟨b28, 2, none⟩ = some (.int .i64 n212) ∧
                cellH h226 ⟨b28, 3, none⟩ = some (.bool b213) ∧
                cellH h226 ⟨b28, 4, none⟩ = some (.bool b214) ∧
                J35 ((script_2_p, script_2_n, script_2_c), up_7, words_8, a_9, b_10, at_11, many_12, p_13, i_15, (n223 == n227), ()) h226) (
                callUnit P n_arena_Arena_Zero #[(.pointer a_9)] h34 fun h228 =>
                mkI 3 1 8 (.int .i64 (0 : Int)) words_8 words_8 h228 fun b229 h230 =>
                nilI b_10 fun a231 =>
                stI h230 a231 (.slice (some ⟨b229, 0, none⟩) words_8.toNat words_8.toNat) fun h232 =>
                J35 ((script_2_p, script_2_n, script_2_c), up_7, words_8, a_9, b_10, at_11, many_12, p_13, i_15, true, ()) h232)))))))
def law07_ArenaPlays_l16 (Q : Value → Heap → Prop) (K1 : ((Option Addr × Nat × Nat) × Bool × Int × Option Addr × Option Addr × Int × Int × Option Addr × Int × Unit) → Heap → Prop) (script_2_p : Option Addr) (script_2_n : Nat) (script_2_c : Nat) (up_7 : Bool) (words_8 : Int) (a_9 : Option Addr) (b_10 : Option Addr) (at_11 : Int) (many_12 : Int) (p_13 : Option Addr) (i_15 : Int) (h19 : Heap) : Prop :=
  ∃ J20 : ((Option Addr × Nat × Nat) × Bool × Int × Option Addr × Option Addr × Int × Int × Option Addr × Int × Unit) → Heap → Prop, (∀ s h, J20 s h → law07_ArenaPlays_j18 Q K1 s.1.1 s.1.2.1 s.1.2.2 s.2.1 s.2.2.1 s.2.2.2.1 s.2.2.2.2.1 s.2.2.2.2.2.1 s.2.2.2.2.2.2.1 s.2.2.2.2.2.2.2.1 s.2.2.2.2.2.2.2.2.1 h) ∧
  ifB (decide (i_15 < ((script_2_n : Nat) : Int))) (
    ifB (decide (i_15 < (40 : Int))) (
      J20 ((script_2_p, script_2_n, script_2_c), up_7, words_8, a_9, b_10, at_11, many_12, p_13, i_15, ()) h19) (
      Q (.bool up_7) h19)) (
    Q (.bool up_7) h19)
def law07_ArenaPlays_j15 (Q : Value → Heap → Prop) (script_2_p : Option Addr) (script_2_n : Nat) (script_2_c : Nat) (up_7 : Bool) (words_8 : Int) (a_9 : Option Addr) (b_10 : Option Addr) (at_11 : Int) (many_12 : Int) (p_13 : Option Addr) (h18 : Heap) : Prop :=
  LoopS (S := ((Option Addr × Nat × Nat) × Bool × Int × Option Addr × Option Addr × Int × Int × Option Addr × Int × Unit)) (fun K1 s h => law07_ArenaPlays_l16 Q K1 s.1.1 s.1.2.1 s.1.2.2 s.2.1 s.2.2.1 s.2.2.2.1 s.2.2.2.2.1 s.2.2.2.2.2.1 s.2.2.2.2.2.2.1 s.2.2.2.2.2.2.2.1 s.2.2.2.2.2.2.2.2.1 h) ((script_2_p, script_2_n, script_2_c), up_7, words_8, a_9, b_10, at_11, many_12, p_13, (0 : Int), ()) h18
def law07_ArenaPlays_j11 (Q : Value → Heap → Prop) (script_2_p : Option Addr) (script_2_n : Nat) (script_2_c : Nat) (up_7 : Bool) (words_8 : Int) (a_9 : Option Addr) (b_10 : Option Addr) (at_11 : Int) (many_12 : Int) (p_13 : Option Addr) (may_14 : Bool) (h16 : Heap) : Prop :=
  ∃ J17 : ((Option Addr × Nat × Nat) × Bool × Int × Option Addr × Option Addr × Int × Int × Option Addr × Unit) → Heap → Prop, (∀ s h, J17 s h → law07_ArenaPlays_j15 Q s.1.1 s.1.2.1 s.1.2.2 s.2.1 s.2.2.1 s.2.2.2.1 s.2.2.2.2.1 s.2.2.2.2.2.1 s.2.2.2.2.2.2.1 s.2.2.2.2.2.2.2.1 h) ∧
  ifB (!may_14) (
    callPtr P n_arena_Arena_Part #[(.pointer a_9), (.int .i64 (0 : Int)), (.int .i64 (0 : Int))] h16 fun p234 h233 =>
    J17 ((script_2_p, script_2_n, script_2_c), up_7, words_8, a_9, b_10, (0 : Int), (0 : Int), p234, ()) h233) (
    J17 ((script_2_p, script_2_n, script_2_c), up_7, words_8, a_9, b_10, at_11, many_12, p_13, ()) h16)
def law07_ArenaPlays (n_0 : Int) (q_1_0 : Int) (q_1_1 : Int) (script_2_p : Option Addr) (script_2_n : Nat) (script_2_c : Nat) (h : Heap) (Q : Value → Heap → Prop) : Prop :=
  newI h (.cells #[(.int .i64 q_1_0), (.int .i64 q_1_1)] 33 (0, 0)) fun b1 h2 =>
  callBool P n_law07_awake #[] h2 fun b4 h3 =>
  callPtr P n_arena_New #[(.int .i64 (andI .i64 n_0 (31 : Int)))] h3 fun p6 h5 =>
  callPtr P n_ref07_New #[(.int .i64 (andI .i64 n_0 (31 : Int)))] h5 fun p8 h7 =>
  arrI (0 : Int) 2 fun _ =>
  ldInt .i64 h7 (Addr.add ⟨b1, 0, none⟩ ((0 : Int).toNat * 1)) fun n9 =>
  arrI (1 : Int) 2 fun _ =>
  ldInt .i64 h7 (Addr.add ⟨b1, 0, none⟩ ((1 : Int).toNat * 1)) fun n10 =>
  callPtr P n_arena_Arena_Part #[(.pointer p6), (.int .i64 (IntKind.wrap .i64 ((andI .i64 n9 (31 : Int)) - (1 : Int)))), (.int .i64 (IntKind.wrap .i64 ((andI .i64 n10 (31 : Int)) - (1 : Int))))] h7 fun p12 h11 =>
  callBool P n_ref07_Arena_May #[(.pointer p8), (.int .i64 (IntKind.wrap .i64 ((andI .i64 n9 (31 : Int)) - (1 : Int)))), (.int .i64 (IntKind.wrap .i64 ((andI .i64 n10 (31 : Int)) - (1 : Int))))] h11 fun b14 h13 =>
  ∃ J15 : ((Option Addr × Nat × Nat) × Bool × Int × Option Addr × Option Addr × Int × Int × Option Addr × Bool × Unit) → Heap → Prop, (∀ s h, J15 s h → law07_ArenaPlays_j11 Q s.1.1 s.1.2.1 s.1.2.2 s.2.1 s.2.2.1 s.2.2.2.1 s.2.2.2.2.1 s.2.2.2.2.2.1 s.2.2.2.2.2.2.1 s.2.2.2.2.2.2.2.1 s.2.2.2.2.2.2.2.2.1 h) ∧
  ifB ((p6).isNone) (
    Q (.bool false) h13) (
    ifB (!((!(p12).isNone) == b14)) (
      Q (.bool false) h13) (
      ifB b14 (
        callInt P .i64 n_arena_Part_Len #[(.pointer p12)] h13 fun n236 h235 =>
        ifB (n236 != (IntKind.wrap .i64 ((andI .i64 n10 (31 : Int)) - (1 : Int)))) (
          Q (.bool false) h235) (
          J15 ((script_2_p, script_2_n, script_2_c), b4, (andI .i64 n_0 (31 : Int)), p6, p8, (IntKind.wrap .i64 ((andI .i64 n9 (31 : Int)) - (1 : Int))), (IntKind.wrap .i64 ((andI .i64 n10 (31 : Int)) - (1 : Int))), p12, b14, ()) h235)) (
        J15 ((script_2_p, script_2_n, script_2_c), b4, (andI .i64 n_0 (31 : Int)), p6, p8, (IntKind.wrap .i64 ((andI .i64 n9 (31 : Int)) - (1 : Int))), (IntKind.wrap .i64 ((andI .i64 n10 (31 : Int)) - (1 : Int))), p12, b14, ()) h13)))
noncomputable def tab_law07_ArenaPlays : Tab := { sch := lookT .done [(25, (.one 0 (.early 1 (.early 3 (.alt 2 (.alt 4 (.alt 5 .done .stop) .stop) .stop))))), (26, (.one 0 (.one 1 (.early 2 (.early 4 (.alt 3 (.alt 5 (.alt 6 .done .stop) .stop) .stop)))))), (28, (.one 0 (.one 4 (.one 5 (.early 1 (.early 6 (.alt 2 (.alt 3 (.alt 7 (.alt 8 (.one 9 (.one 10 .done)) .stop) .stop) .stop) .stop))))))), (31, (.one 0 (.early 1 (.early 3 (.alt 2 (.alt 4 (.alt 5 .done .stop) .stop) .stop))))), (32, (.one 0 (.one 1 (.one 2 (.early 3 (.early 5 (.alt 4 (.alt 6 (.alt 7 .done .stop) .stop) .stop))))))), (34, (.one 0 (.one 4 (.one 5 (.one 6 (.early 1 (.early 7 (.alt 2 (.alt 3 (.alt 8 (.alt 9 (.one 10 (.one 11 .done)) .stop) .stop) .stop) .stop)))))))), (36, (.one 0 (.one 2 (.one 5 (.one 7 (.early 1 (.early 6 (.alt 3 (.alt 4 (.alt 8 (.alt 9 (.one 10 (.one 11 .done)) .stop) .stop) .stop) .stop)))))))), (37, (.one 0 (.one 2 (.one 3 (.one 4 (.early 5 (.alt 1 (.alt 6 (.one 7 .done) .stop) .stop))))))), (38, (.one 0 (.one 1 (.one 2 (.one 3 (.one 4 (.one 5 (.one 6 (.one 7 (.one 9 (.one 10 (.one 11 (.early 12 (.alt 8 (.one 13 (.one 14 (.one 15 (.one 16 (.one 18 (.one 19 (.one 20 (.early 21 (.alt 17 (.one 22 (.one 23 (.one 24 (.one 25 (.one 27 (.alt 26 (.one 28 (.one 29 .done)) .stop)))))) .stop))))))))) .stop))))))))))))))], lp := lookT [] [(16, [(2, .sc (.slice)), (7, .sc (.bool)), (8, .sc (.int .i64)), (9, .sc (.ptr)), (10, .sc (.ptr)), (11, .sc (.int .i64)), (12, .sc (.int .i64)), (13, .sc (.ptr)), (15, .sc (.int .i64))])], jn := lookT none [(11, some [(2, .sc (.slice)), (7, .sc (.bool)), (8, .sc (.int .i64)), (9, .sc (.ptr)), (10, .sc (.ptr)), (11, .sc (.int .i64)), (12, .sc (.int .i64)), (13, .sc (.ptr)), (14, .sc (.bool))]), (15, some [(2, .sc (.slice)), (7, .sc (.bool)), (8, .sc (.int .i64)), (9, .sc (.ptr)), (10, .sc (.ptr)), (11, .sc (.int .i64)), (12, .sc (.int .i64)), (13, .sc (.ptr))]), (18, some [(2, .sc (.slice)), (7, .sc (.bool)), (8, .sc (.int .i64)), (9, .sc (.ptr)), (10, .sc (.ptr)), (11, .sc (.int .i64)), (12, .sc (.int .i64)), (13, .sc (.ptr)), (15, .sc (.int .i64))]), (37, some [(2, .sc (.slice)), (7, .sc (.bool)), (8, .sc (.int .i64)), (9, .sc (.ptr)), (10, .sc (.ptr)), (11, .sc (.int .i64)), (12, .sc (.int .i64)), (13, .sc (.ptr)), (15, .sc (.int .i64)), (17, .sc (.bool))])] }
theorem eq_law07_ArenaPlays (n_0 : Int) (q_1_0 : Int) (q_1_1 : Int) (script_2_p : Option Addr) (script_2_n : Nat) (script_2_c : Nat) (h : Heap) (Q : Value → Heap → Prop) : fnI P Try.f6 tab_law07_ArenaPlays [(.int .i64 n_0), (.agg #[(.int .i64 q_1_0), (.int .i64 q_1_1)]), (.slice script_2_p script_2_n script_2_c)] h Q = law07_ArenaPlays n_0 q_1_0 q_1_1 script_2_p script_2_n script_2_c h Q := by kernel_rfl
theorem ok_law07_ArenaPlays : fnOk P Try.f6 tab_law07_ArenaPlays = true := by kernel_rfl
theorem call_law07_ArenaPlays (n_0 : Int) (q_1_0 : Int) (q_1_1 : Int) (script_2_p : Option Addr) (script_2_n : Nat) (script_2_c : Nat) {h : Heap} {Q : Value → Heap → Prop} (H : law07_ArenaPlays n_0 q_1_0 q_1_1 script_2_p script_2_n script_2_c h Q) : callP P n_law07_ArenaPlays #[(.int .i64 n_0), (.agg #[(.int .i64 q_1_0), (.int .i64 q_1_1)]), (.slice script_2_p script_2_n script_2_c)] h Q :=
  @callP_of P n_law07_ArenaPlays Try.f6 tab_law07_ArenaPlays [(.int .i64 n_0), (.agg #[(.int .i64 q_1_0), (.int .i64 q_1_1)]), (.slice script_2_p script_2_n script_2_c)] h Q mixed Try.func6 Try.call6 ok_law07_ArenaPlays (Eq.mpr (eq_law07_ArenaPlays n_0 q_1_0 q_1_1 script_2_p script_2_n script_2_c h Q) H)

/-! ### earshot/earshotlaw07.ArenaNil: function 7 -/
def law07_ArenaNil (n_0 : Int) (x_1 : Int) (h : Heap) (Q : Value → Heap → Prop) : Prop :=
  callUnit P n_arena_Arena_Put #[(.pointer none), (.int .i64 n_0), (.int .i64 x_1)] h fun h1 =>
  callUnit P n_arena_Arena_Zero #[(.pointer none)] h1 fun h2 =>
  callUnit P n_arena_Part_Put #[(.pointer none), (.int .i64 n_0), (.int .i64 x_1)] h2 fun h3 =>
  callBool P n_law07_awake #[] h3 fun b5 h4 =>
  ifB b5 (
    callInt P .i64 n_arena_Arena_Len #[(.pointer none)] h4 fun n7 h6 =>
    ifB (n7 == (0 : Int)) (
      callInt P .i64 n_arena_Arena_Get #[(.pointer none), (.int .i64 n_0)] h6 fun n9 h8 =>
      ifB (n9 == (0 : Int)) (
        callSlice P n_arena_Arena_Words #[(.pointer none)] h8 fun p11 l11 c11 h10 =>
        ifB (((l11 : Nat) : Int) == (0 : Int)) (
          callInt P .i64 n_arena_Arena_Set #[(.pointer none), (.slice none 0 0)] h10 fun n13 h12 =>
          ifB (n13 == (1 : Int)) (
            callInt P .i64 n_arena_Arena_Err #[(.pointer none)] h12 fun n15 h14 =>
            ifB (n15 == (1 : Int)) (
              callPtr P n_arena_Arena_Part #[(.pointer none), (.int .i64 (0 : Int)), (.int .i64 (0 : Int))] h14 fun p17 h16 =>
              ifB ((p17).isNone) (
                callInt P .i64 n_arena_Part_Len #[(.pointer none)] h16 fun n19 h18 =>
                ifB (n19 == (0 : Int)) (
                  callInt P .i64 n_arena_Part_Get #[(.pointer none), (.int .i64 n_0)] h18 fun n21 h20 =>
                  ifB (n21 == (0 : Int)) (
                    callInt P .i64 n_arena_Part_Err #[(.pointer none)] h20 fun n23 h22 =>
                    ifB (n23 == (1 : Int)) (
                      callPtr P n_arena_New #[(.int .i64 n_0)] h22 fun p25 h24 =>
                      ifB (decide (n_0 ≥ (0 : Int))) (
                        Q (.bool ((!(p25).isNone) == (decide (n_0 ≤ (4096 : Int))))) h24) (
                        Q (.bool ((!(p25).isNone) == false)) h24)) (
                      Q (.bool false) h22)) (
                    Q (.bool false) h20)) (
                  Q (.bool false) h18)) (
                Q (.bool false) h16)) (
              Q (.bool false) h14)) (
            Q (.bool false) h12)) (
          Q (.bool false) h10)) (
        Q (.bool false) h8)) (
      Q (.bool false) h6)) (
    Q (.bool false) h4)
noncomputable def tab_law07_ArenaNil : Tab := { sch := lookT .done [], lp := lookT [] [], jn := lookT none [] }
theorem eq_law07_ArenaNil (n_0 : Int) (x_1 : Int) (h : Heap) (Q : Value → Heap → Prop) : fnI P Try.f7 tab_law07_ArenaNil [(.int .i64 n_0), (.int .i64 x_1)] h Q = law07_ArenaNil n_0 x_1 h Q := by kernel_rfl
theorem ok_law07_ArenaNil : fnOk P Try.f7 tab_law07_ArenaNil = true := by kernel_rfl
theorem call_law07_ArenaNil (n_0 : Int) (x_1 : Int) {h : Heap} {Q : Value → Heap → Prop} (H : law07_ArenaNil n_0 x_1 h Q) : callP P n_law07_ArenaNil #[(.int .i64 n_0), (.int .i64 x_1)] h Q :=
  @callP_of P n_law07_ArenaNil Try.f7 tab_law07_ArenaNil [(.int .i64 n_0), (.int .i64 x_1)] h Q mixed Try.func7 Try.call7 ok_law07_ArenaNil (Eq.mpr (eq_law07_ArenaNil n_0 x_1 h Q) H)

end Go.Proofs.Ytdjofpdmdbcgjaa.G
