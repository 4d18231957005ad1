/- Printed by shp.py out of the program's own print: for each Go function a typed formula over heaps, and the proof that a call does just that. -/
import Derived.Test.YtbgplllcjhgdhaaDoorProg
import Derived.Test.YtbgplllcjhgdhaaDoorShW
set_option linter.unusedVariables false
set_option maxRecDepth 100000
namespace Go.Proofs.YtbgplllcjhgdhaaDoor.G
open Go Go.Sh
noncomputable abbrev P : Program := Tryd.prog
theorem mixed : P.follows .mixedOrders = true := by kernel_rfl
abbrev A1 : List Sc := [.int .i64, .int .i64, .int .i64, .slice, .int .i64]
abbrev A2 : List Sc := [.int .i64, .slice, .int .i64, .int .i64, .int .i64, .int .i64, .int .i64, .int .i64, .slice, .slice, .int .i64, .int .i64, .int .i64, .int .i64, .int .i64]
abbrev A3 : List Sc := [.int .i64, .bool, .int .i64, .bool, .int .i64, .bool, .int .i64, .bool, .int .i64, .bool, .int .i64, .bool]
abbrev Y1 := (Int × (Option Addr × Nat × Nat) × Int × Int × (Option Addr × Nat × Nat) × Int × Int × Unit)
abbrev Y2 := ((Option Addr × Nat × Nat) × Addr × (Option Addr × Nat × Nat) × Int × Int × Unit)
abbrev Y3 := ((Option Addr × Nat × Nat) × Addr × (Option Addr × Nat × Nat) × Int × Int × (Option Addr × Nat × Nat) × Int × Int × Unit)
abbrev Y4 := ((Option Addr × Nat × Nat) × (Option Addr × Nat × Nat) × (Option Addr × Nat × Nat) × Int × Int × Unit)
abbrev Y5 := ((Option Addr × Nat × Nat) × Addr × Int × (Option Addr × Nat × Nat) × Int × Int × Unit)
abbrev Y6 := (Addr × Addr × Addr × (Option Addr × Nat × Nat) × Int × Int × Unit)
abbrev Y7 := ((Option Addr × Nat × Nat) × Int × Int × Addr × Int × Int × Unit)
abbrev Y8 := ((Option Addr × Nat × Nat) × Int × Int × Int × Int × Int × Unit)
abbrev Y9 := ((Option Addr × Nat × Nat) × Int × Int × Int × Bool × Bool × Unit)
abbrev Y10 := ((Option Addr × Nat × Nat) × Int × Int × Int × Bool × Bool × Int × Unit)
abbrev Y11 := ((Option Addr × Nat × Nat) × Int × Int × Int × Bool × Bool × Int × Int × Int × Unit)
abbrev Y12 := ((Option Addr × Nat × Nat) × Int × Int × Int × Bool × Bool × Int × Int × Unit)
abbrev Y13 := ((Option Addr × Nat × Nat) × Int × (Option Addr × Nat × Nat) × Int × Unit)
abbrev Y14 := (Addr × Addr × (Option Addr × Nat × Nat) × Int × Int × Unit)
abbrev Y15 := (Option Addr × Option Nat × Int × Addr × Int × Int × Int × (Option Addr × Nat × Nat) × Int × Int × Unit)
abbrev Y16 := (Option Addr × Option Nat × Int × Int × Int × Int × Int × (Option Addr × Nat × Nat) × Int × Int × Unit)
abbrev Y17 := (Addr × Addr × Option Nat × Option Nat × (Option Addr × Nat × Nat) × (Option Addr × Nat × Nat) × Int × Int × Unit)
abbrev Y18 := (Addr × Addr × Option Nat × (Option Addr × Nat × Nat) × (Option Addr × Nat × Nat) × Int × Int × Unit)
abbrev Y19 := (Addr × Addr × Option Nat × (Option Addr × Nat × Nat) × Addr × (Option Addr × Nat × Nat) × Int × Int × (Option Addr × Nat × Nat) × Int × Int × Unit)
abbrev Y20 := (Addr × (Option Addr × Nat × Nat) × Int × Int × Bool × (Option Addr × Nat × Nat) × Int × Unit)
abbrev Y21 := (Addr × Addr × (Option Addr × Nat × Nat) × Addr × Int × Unit)
abbrev Y22 := (Addr × Addr × (Option Addr × Nat × Nat) × Addr × Int × Addr × (Option Addr × Nat × Nat) × (Option Addr × Nat × Nat) × Int × Unit)
abbrev Y23 := (Int × Bool × Int × Addr × Int × Int × Int × Addr × Bool × Unit)
abbrev Y24 := (Option Addr × Int × Int × Int × (Option Addr × Nat × Nat) × Int × Unit)
abbrev Y25 := (Option Addr × (Option Addr × Nat × Nat) × (Option Addr × Nat × Nat) × Bool × Addr × Addr × Int × Int × Bool × Int × Unit)
abbrev Y26 := (Addr × Addr × Int × Addr × Int × Addr × (Option Addr × Nat × Nat) × Int × Unit)
abbrev Y27 := (Addr × Addr × Addr × Bool × Int × (Option Addr × Nat × Nat) × (Option Addr × Nat × Nat) × Int × Unit)
abbrev Y28 := (Addr × Addr × Addr × Bool × Int × (Option Addr × Nat × Nat) × (Option Addr × Nat × Nat) × Int × Int × Unit)
abbrev Y29 := (Addr × Addr × Addr × Bool × Int × (Option Addr × Nat × Nat) × (Option Addr × Nat × Nat) × Int × Int × (Option Addr × Nat × Nat) × (Option Addr × Nat × Nat) × Unit)
abbrev Y30 := (Addr × (Option Addr × Nat × Nat) × Int × Int × (Option Addr × Nat × Nat) × Int × Unit)
abbrev Y31 := ((Option Addr × Nat × Nat) × Int × Addr × Int × Int × Int × Unit)
abbrev Y32 := ((Option Addr × Nat × Nat) × Int × Addr × Int × Int × Int × (Option Addr × Nat × Nat) × Bool × Int × Unit)
abbrev Y33 := ((Option Addr × Nat × Nat) × Int × Addr × Addr × Bool × Unit)
abbrev Y34 := (Int × Int × Addr × Addr × Addr × Int × Addr × (Option Addr × Nat × Nat) × Int × Unit)
abbrev Y35 := (Addr × Addr × (Option Addr × Nat × Nat) × (Option Addr × Nat × Nat) × Int × Int × Unit)
abbrev Y36 := (Addr × Addr × (Option Addr × Nat × Nat) × (Option Addr × Nat × Nat) × Addr × Int × Unit)
abbrev Y37 := (Addr × Addr × (Option Addr × Nat × Nat) × (Option Addr × Nat × Nat) × Addr × Int × Addr × (Option Addr × Nat × Nat) × Int × Unit)
abbrev Y38 := (Addr × Addr × Int × (Option Addr × Nat × Nat) × Int × Unit)
abbrev Y39 := (Addr × Addr × Addr × Int × (Option Addr × Nat × Nat) × (Option Addr × Nat × Nat) × Int × Unit)
abbrev Y40 := ((Option Addr × Nat × Nat) × (Option Addr × Nat × Nat) × Bool × Int × Unit)
abbrev Y41 := (Bool × Addr × (Option Addr × Nat × Nat) × Addr × Int × Unit)
abbrev Y42 := (Bool × Addr × (Option Addr × Nat × Nat) × Addr × Int × (Option Addr × Nat × Nat) × Int × Unit)
abbrev Y43 := ((Option Addr × Nat × Nat) × (Option Addr × Nat × Nat) × (Option Addr × Nat × Nat) × Int × Unit)
abbrev Y44 := (Bool × Addr × Addr × Addr × Addr × Bool × (Option Addr × Nat × Nat) × Int × Unit)
abbrev Y45 := ((Option Addr × Nat × Nat) × ((Unit) × (Addr × Unit)) × Int × Int × Unit)
abbrev n_graph_may : FuncId := 59
abbrev n_graph_ordered_1 : FuncId := 76
abbrev n_slices_IndexFunc_int_int : FuncId := 90
abbrev n_slices_ContainsFunc_int_int : FuncId := 75
abbrev n_graph_ordered : FuncId := 60
abbrev n_graph_pick : FuncId := 61
abbrev n_kind_in : FuncId := 78
abbrev n_kind_every : FuncId := 77
abbrev n_kind_has : FuncId := 79
abbrev n_kind_bare : FuncId := 80
abbrev n_kind_Span : FuncId := 82
abbrev n_kind_fits : FuncId := 81
abbrev n_kind_Check : FuncId := 62
abbrev n_graph_rate_1 : FuncId := 83
abbrev n_kind_Step : FuncId := 84
abbrev n_graph_rate : FuncId := 63
abbrev n_kind_Width : FuncId := 64
abbrev n_graph_look : FuncId := 35
abbrev n_graph_Check : FuncId := 15
abbrev n_slices_Clone_api_Node_api_Node : FuncId := 36
abbrev n_slices_Clone_int_int : FuncId := 37
abbrev n_fuse_own : FuncId := 16
abbrev n_slices_Values_int_int_1 : FuncId := 67
abbrev n_slices_Values_int_int : FuncId := 41
abbrev n_slices_AppendSeq_int_int : FuncId := 85
abbrev n_slices_Collect_int : FuncId := 65
abbrev n_math_bits_Len32 : FuncId := 100
abbrev n_math_bits_Len64 : FuncId := 101
abbrev n_math_bits_Len : FuncId := 87
abbrev n_cmp_isNaN_int : FuncId := 107
abbrev n_cmp_Less_int : FuncId := 97
abbrev n_slices_insertionSortOrdered_int : FuncId := 91
abbrev n_slices_heapSortOrdered_int : FuncId := 92
abbrev n_slices_breakPatternsOrdered_int : FuncId := 93
abbrev n_slices_choosePivotOrdered_int : FuncId := 94
abbrev n_slices_reverseRangeOrdered_int : FuncId := 95
abbrev n_slices_partialInsertionSortOrdered_int : FuncId := 96
abbrev n_slices_partitionEqualOrdered_int : FuncId := 98
abbrev n_slices_partitionOrdered_int : FuncId := 99
abbrev n_slices_pdqsortOrdered_int : FuncId := 86
abbrev n_slices_Sort_int_int : FuncId := 66
abbrev n_slices_Sorted_int : FuncId := 40
abbrev n_slices_Compact_int_int : FuncId := 39
abbrev n_fuse_live_1 : FuncId := 38
abbrev n_fuse_live : FuncId := 17
abbrev n_slices_Index_int_int : FuncId := 68
abbrev n_slices_Contains_int_int : FuncId := 42
abbrev n_fuse_take : FuncId := 43
abbrev n_fuse_step : FuncId := 18
abbrev n_fuse_Fuse : FuncId := 8
abbrev n_law21_awake : FuncId := 7
abbrev n_ref16_first : FuncId := 19
abbrev n_ref16_has : FuncId := 44
abbrev n_ref16_order : FuncId := 20
abbrev n_ref14_all : FuncId := 45
abbrev n_ref14_in : FuncId := 46
abbrev n_ref14_Many : FuncId := 47
abbrev n_ref14_weighs : FuncId := 48
abbrev n_ref14_four : FuncId := 58
abbrev n_ref14_else0 : FuncId := 49
abbrev n_ref14_Windows : FuncId := 51
abbrev n_ref14_Span : FuncId := 32
abbrev n_ref14_weights : FuncId := 69
abbrev n_ref14_sized : FuncId := 50
abbrev n_ref14_Check : FuncId := 21
abbrev n_ref14_Width : FuncId := 22
abbrev n_ref14_Step : FuncId := 52
abbrev n_ref16_rate : FuncId := 23
abbrev n_ref16_Look : FuncId := 9
abbrev n_law21_FuseRow : FuncId := 3
abbrev n_ref14_Row_Next : FuncId := 70
abbrev n_ref14_Row_window : FuncId := 88
abbrev n_ref14_Row_row : FuncId := 89
abbrev n_ref14_Made : FuncId := 71
abbrev n_ref15_rate : FuncId := 72
abbrev n_ref15_turned : FuncId := 73
abbrev n_ref15_Made : FuncId := 53
abbrev n_ref16_Made : FuncId := 24
abbrev n_ref21_Made : FuncId := 10
abbrev n_fuse_Live : FuncId := 13
abbrev n_ref21_live : FuncId := 54
abbrev n_ref21_Live : FuncId := 25
abbrev n_ref21_user : FuncId := 74
abbrev n_ref21_takes : FuncId := 55
abbrev n_ref21_taken : FuncId := 56
abbrev n_ref21_left : FuncId := 57
abbrev n_ref21_Fuse : FuncId := 26
abbrev n_ref14_Same : FuncId := 27
abbrev n_ref15_Same : FuncId := 12
abbrev n_law21_tells : FuncId := 11
abbrev n_law21_FuseTells : FuncId := 4
abbrev n_law21_FuseLive : FuncId := 6
abbrev n_ref19_of : FuncId := 29
abbrev n_ref19_least : FuncId := 28
abbrev n_ref14_Left : FuncId := 30
abbrev n_ref19_most : FuncId := 31
abbrev n_ref17_Cost : FuncId := 33
abbrev n_ref19_Field_room : FuncId := 34
abbrev n_ref19_Look : FuncId := 14
abbrev n_law21_FuseGood : FuncId := 5
/-! ### earshot/graph.may: function 59 -/
def graph_may_l10 (Q : Value → Heap → Prop) (K1 : (Int × (Option Addr × Nat × Nat) × Int × Int × Unit) → Heap → Prop) (K2 : Y1 → Heap → Prop) (n_3 : Int) (t54_p : Option Addr) (t54_n : Nat) (t54_c : Nat) (t55 : Int) (t56 : Int) (t61_p : Option Addr) (t61_n : Nat) (t61_c : Nat) (t62 : Int) (t63 : Int) (h16 : Heap) : Prop :=
 ifB (decide (t63 < t62)) (
 idxI t61_p t63 t61_n fun a17 =>
 ldInt .i64 h16 (Addr.add a17 (t63.toNat * 1)) fun n18 =>
 ifB (decide (n18 < (0 : Int))) (
 Q (.int .i64 (1 : Int)) h16) (
 ifB (decide (n18 > n_3)) (
 Q (.int .i64 (1 : Int)) h16) (
 K2 (n_3, (t54_p, t54_n, t54_c), t55, t56, (t61_p, t61_n, t61_c), t62, (IntKind.wrap .i64 (t63 + (1 : Int))), ()) h16))) (
 K1 (n_3, (t54_p, t54_n, t54_c), t55, (IntKind.wrap .i64 (t56 + (1 : Int))), ()) h16)
def graph_may_l7 (Q : Value → Heap → Prop) (K1 : (Int × (Option Addr × Nat × Nat) × Int × Int × Unit) → Heap → Prop) (n_3 : Int) (t54_p : Option Addr) (t54_n : Nat) (t54_c : Nat) (t55 : Int) (t56 : Int) (h9 : Heap) : Prop :=
 ifB (decide (t56 < t55)) (
 idxI t54_p t56 t54_n fun a10 =>
 ldAg A2 h9 (Addr.add a10 (t56.toNat * 15)) fun x11 =>
 newI h9 (.cells (mkS' A2 (zT A2)).toArray 25 (0, 0)) fun b12 h13 =>
 storeL (mkS' A2 x11) h13 ⟨b12, 0, none⟩ 0 fun h14 =>
 ldSlice h14 ⟨b12, 1, none⟩ fun p15 l15 c15 =>
 LoopS (S := Y1) (fun K2 s h => graph_may_l10 Q K1 K2 s.1 s.2.1.1 s.2.1.2.1 s.2.1.2.2 s.2.2.1 s.2.2.2.1 s.2.2.2.2.1.1 s.2.2.2.2.1.2.1 s.2.2.2.2.1.2.2 s.2.2.2.2.2.1 s.2.2.2.2.2.2.1 h) (n_3, (t54_p, t54_n, t54_c), t55, t56, (p15, l15, c15), ((l15 : Nat) : Int), (0 : Int), ()) h14) (
 Q (.int .i64 (0 : Int)) h9)
def graph_may_j6 (Q : Value → Heap → Prop) (g_1 : Addr) (n_3 : Int) (h7 : Heap) : Prop :=
 ldSlice h7 (Addr.add g_1 3) fun p8 l8 c8 =>
 LoopS (S := (Int × (Option Addr × Nat × Nat) × Int × Int × Unit)) (fun K1 s h => graph_may_l7 Q K1 s.1 s.2.1.1 s.2.1.2.1 s.2.1.2.2 s.2.2.1 s.2.2.2.1 h) (n_3, (p8, l8, c8), ((l8 : Nat) : Int), (0 : Int), ()) h7
def graph_may_j4 (Q : Value → Heap → Prop) (g_1 : Addr) (n_3 : Int) (h5 : Heap) : Prop :=
 ∃ J6 : (Addr × Int × Unit) → Heap → Prop, (∀ s h, J6 s h → graph_may_j6 Q s.1 s.2.1 h) ∧
 ldInt .i64 h5 g_1 fun n19 =>
 ifB (decide (n19 < (1 : Int))) (
 Q (.int .i64 (1 : Int)) h5) (
 ldInt .i64 h5 g_1 fun n20 =>
 ifB (decide (n20 > (16 : Int))) (
 Q (.int .i64 (1 : Int)) h5) (
 ldInt .i64 h5 (Addr.add g_1 1) fun n21 =>
 ldInt .i64 h5 (Addr.add g_1 2) fun n22 =>
 ifB (decide (n21 > n22)) (
 Q (.int .i64 (1 : Int)) h5) (
 ldInt .i64 h5 (Addr.add g_1 1) fun n23 =>
 ifB (decide (n23 < (-32768 : Int))) (
 Q (.int .i64 (1 : Int)) h5) (
 ldInt .i64 h5 (Addr.add g_1 2) fun n24 =>
 ifB (decide (n24 > (32767 : Int))) (
 Q (.int .i64 (1 : Int)) h5) (
 ldInt .i64 h5 (Addr.add g_1 4) fun n25 =>
 ifB (decide (n25 < (1 : Int))) (
 Q (.int .i64 (1 : Int)) h5) (
 ldInt .i64 h5 (Addr.add g_1 4) fun n26 =>
 ifB (decide (n26 > n_3)) (
 Q (.int .i64 (1 : Int)) h5) (
 J6 (g_1, n_3, ()) h5)))))))
def graph_may (g_0 : TS A1) (h : Heap) (Q : Value → Heap → Prop) : Prop :=
 newI h (.cells (mkS' A1 g_0).toArray 28 (0, 0)) fun b1 h2 =>
 ldSlice h2 ⟨b1, 3, none⟩ fun p3 l3 c3 =>
 ∃ J4 : (Addr × Int × Unit) → Heap → Prop, (∀ s h, J4 s h → graph_may_j4 Q s.1 s.2.1 h) ∧
 ifB (decide (((l3 : Nat) : Int) < (1 : Int))) (
 Q (.int .i64 (22 : Int)) h2) (
 ifB (decide (((l3 : Nat) : Int) > (12 : Int))) (
 Q (.int .i64 (22 : Int)) h2) (
 J4 (⟨b1, 0, none⟩, ((l3 : Nat) : Int), ()) h2))
noncomputable def tab_graph_may : Tab := { sch := lookT .done [], lp := lookT [] [(7, [(3, .sc (.int .i64)), (54, .sc (.slice)), (55, .sc (.int .i64)), (56, .sc (.int .i64))]), (10, [(3, .sc (.int .i64)), (54, .sc (.slice)), (55, .sc (.int .i64)), (56, .sc (.int .i64)), (61, .sc (.slice)), (62, .sc (.int .i64)), (63, .sc (.int .i64))])], jn := lookT none [(4, some [(1, .sc (.adr)), (3, .sc (.int .i64))]), (6, some [(1, .sc (.adr)), (3, .sc (.int .i64))])] }
theorem eq_graph_may (g_0 : TS A1) (h : Heap) (Q : Value → Heap → Prop) : fnI P Tryd.f59 tab_graph_may [(agS A1 g_0)] h Q = graph_may g_0 h Q := by kernel_rfl
theorem ok_graph_may : fnOk P Tryd.f59 tab_graph_may = true := by kernel_rfl
theorem call_graph_may (g_0 : TS A1) {h : Heap} {Q : Value → Heap → Prop} (H : graph_may g_0 h Q) : callP P n_graph_may #[(agS A1 g_0)] h Q :=
 @callP_of P n_graph_may Tryd.f59 tab_graph_may [(agS A1 g_0)] h Q mixed Tryd.func59 Tryd.call59 ok_graph_may (Eq.mpr (eq_graph_may g_0 h Q) H)

/-! ### earshot/graph.ordered$1: function 76 -/
def graph_ordered_1 (j_0 : Int) (free0 : Addr) (h : Heap) (Q : Value → Heap → Prop) : Prop :=
 ldMap h free0 fun m1 =>
 lookB .i64 (.int .i64 (0 : Int)) m1 j_0 h fun v3 b4 =>
 ∃ n5 : Int, ∃ b6 : Bool, (Value.tuple #[v3, .bool b4]) = (.tuple #[(.int .i64 n5), (.bool b6)]) ∧
 Q (.bool (!b6)) h
noncomputable def tab_graph_ordered_1 : Tab := { sch := lookT .done [], lp := lookT [] [], jn := lookT none [] }
theorem eq_graph_ordered_1 (j_0 : Int) (free0 : Addr) (h : Heap) (Q : Value → Heap → Prop) : fnI P Tryd.f76 tab_graph_ordered_1 [(.int .i64 j_0), (.pointer (some free0))] h Q = graph_ordered_1 j_0 free0 h Q := by kernel_rfl
theorem ok_graph_ordered_1 : fnOk P Tryd.f76 tab_graph_ordered_1 = true := by kernel_rfl
theorem call_graph_ordered_1 (j_0 : Int) (free0 : Addr) {h : Heap} {Q : Value → Heap → Prop} (H : graph_ordered_1 j_0 free0 h Q) : callP P n_graph_ordered_1 #[(.int .i64 j_0), (.pointer (some free0))] h Q :=
 @callP_of P n_graph_ordered_1 Tryd.f76 tab_graph_ordered_1 [(.int .i64 j_0), (.pointer (some free0))] h Q mixed Tryd.func76 Tryd.call76 ok_graph_ordered_1 (Eq.mpr (eq_graph_ordered_1 j_0 free0 h Q) H)

/-! ### slices.IndexFunc[[]int,int]: function 90 -/
def slices_IndexFunc_int_int_at_graph_ordered_1_l2 (Q : Value → Heap → Prop) (K1 : Y45 → Heap → Prop) (s_0_p : Option Addr) (s_0_n : Nat) (s_0_c : Nat) (f_1_c0 : Addr) (t7 : Int) (t8 : Int) (h1 : Heap) : Prop :=
 ifB (decide (t8 < t7)) (
 idxI s_0_p t8 s_0_n fun a2 =>
 ldInt .i64 h1 (Addr.add a2 (t8.toNat * 1)) fun n3 =>
 callBool P n_graph_ordered_1 #[(.int .i64 n3), (.pointer (some f_1_c0))] h1 fun b5 h4 =>
 ifB b5 (
 Q (.int .i64 t8) h4) (
 K1 ((s_0_p, s_0_n, s_0_c), ((()), (f_1_c0, ())), t7, (IntKind.wrap .i64 (t8 + (1 : Int))), ()) h4)) (
 Q (.int .i64 (-1 : Int)) h1)
def slices_IndexFunc_int_int_at_graph_ordered_1 (s_0_p : Option Addr) (s_0_n : Nat) (s_0_c : Nat) (f_1_c0 : Addr) (h : Heap) (Q : Value → Heap → Prop) : Prop :=
 LoopS (S := Y45) (fun K1 s h => slices_IndexFunc_int_int_at_graph_ordered_1_l2 Q K1 s.1.1 s.1.2.1 s.1.2.2 s.2.1.2.1 s.2.2.1 s.2.2.2.1 h) ((s_0_p, s_0_n, s_0_c), ((()), (f_1_c0, ())), ((s_0_n : Nat) : Int), (0 : Int), ()) h
noncomputable def tab_slices_IndexFunc_int_int_at_graph_ordered_1 : Tab := { sch := lookT .done [], lp := lookT [] [(2, [(0, .sc (.slice)), (1, .fn 76 [] [.adr]), (7, .sc (.int .i64)), (8, .sc (.int .i64))])], jn := lookT none [] }
theorem eq_slices_IndexFunc_int_int_at_graph_ordered_1 (s_0_p : Option Addr) (s_0_n : Nat) (s_0_c : Nat) (f_1_c0 : Addr) (h : Heap) (Q : Value → Heap → Prop) : fnI P Tryd.f90 tab_slices_IndexFunc_int_int_at_graph_ordered_1 [(.slice s_0_p s_0_n s_0_c), (.func (.func n_graph_ordered_1) #[] #[(.pointer (some f_1_c0))])] h Q = slices_IndexFunc_int_int_at_graph_ordered_1 s_0_p s_0_n s_0_c f_1_c0 h Q := by kernel_rfl
theorem ok_slices_IndexFunc_int_int_at_graph_ordered_1 : fnOk P Tryd.f90 tab_slices_IndexFunc_int_int_at_graph_ordered_1 = true := by kernel_rfl
theorem call_slices_IndexFunc_int_int_at_graph_ordered_1 (s_0_p : Option Addr) (s_0_n : Nat) (s_0_c : Nat) (f_1_c0 : Addr) {h : Heap} {Q : Value → Heap → Prop} (H : slices_IndexFunc_int_int_at_graph_ordered_1 s_0_p s_0_n s_0_c f_1_c0 h Q) : callP P n_slices_IndexFunc_int_int #[(.slice s_0_p s_0_n s_0_c), (.func (.func n_graph_ordered_1) #[] #[(.pointer (some f_1_c0))])] h Q :=
 @callP_of P n_slices_IndexFunc_int_int Tryd.f90 tab_slices_IndexFunc_int_int_at_graph_ordered_1 [(.slice s_0_p s_0_n s_0_c), (.func (.func n_graph_ordered_1) #[] #[(.pointer (some f_1_c0))])] h Q mixed Tryd.func90 Tryd.call90 ok_slices_IndexFunc_int_int_at_graph_ordered_1 (Eq.mpr (eq_slices_IndexFunc_int_int_at_graph_ordered_1 s_0_p s_0_n s_0_c f_1_c0 h Q) H)

/-! ### slices.IndexFunc[[]int,int]: function 90 -/
def slices_IndexFunc_int_int_at_graph_rate_1_l2 (Q : Value → Heap → Prop) (K1 : Y45 → Heap → Prop) (s_0_p : Option Addr) (s_0_n : Nat) (s_0_c : Nat) (f_1_c0 : Addr) (t7 : Int) (t8 : Int) (h1 : Heap) : Prop :=
 ifB (decide (t8 < t7)) (
 idxI s_0_p t8 s_0_n fun a2 =>
 ldInt .i64 h1 (Addr.add a2 (t8.toNat * 1)) fun n3 =>
 callBool P n_graph_rate_1 #[(.int .i64 n3), (.pointer (some f_1_c0))] h1 fun b5 h4 =>
 ifB b5 (
 Q (.int .i64 t8) h4) (
 K1 ((s_0_p, s_0_n, s_0_c), ((()), (f_1_c0, ())), t7, (IntKind.wrap .i64 (t8 + (1 : Int))), ()) h4)) (
 Q (.int .i64 (-1 : Int)) h1)
def slices_IndexFunc_int_int_at_graph_rate_1 (s_0_p : Option Addr) (s_0_n : Nat) (s_0_c : Nat) (f_1_c0 : Addr) (h : Heap) (Q : Value → Heap → Prop) : Prop :=
 LoopS (S := Y45) (fun K1 s h => slices_IndexFunc_int_int_at_graph_rate_1_l2 Q K1 s.1.1 s.1.2.1 s.1.2.2 s.2.1.2.1 s.2.2.1 s.2.2.2.1 h) ((s_0_p, s_0_n, s_0_c), ((()), (f_1_c0, ())), ((s_0_n : Nat) : Int), (0 : Int), ()) h
noncomputable def tab_slices_IndexFunc_int_int_at_graph_rate_1 : Tab := { sch := lookT .done [], lp := lookT [] [(2, [(0, .sc (.slice)), (1, .fn 83 [] [.adr]), (7, .sc (.int .i64)), (8, .sc (.int .i64))])], jn := lookT none [] }
theorem eq_slices_IndexFunc_int_int_at_graph_rate_1 (s_0_p : Option Addr) (s_0_n : Nat) (s_0_c : Nat) (f_1_c0 : Addr) (h : Heap) (Q : Value → Heap → Prop) : fnI P Tryd.f90 tab_slices_IndexFunc_int_int_at_graph_rate_1 [(.slice s_0_p s_0_n s_0_c), (.func (.func n_graph_rate_1) #[] #[(.pointer (some f_1_c0))])] h Q = slices_IndexFunc_int_int_at_graph_rate_1 s_0_p s_0_n s_0_c f_1_c0 h Q := by kernel_rfl
theorem ok_slices_IndexFunc_int_int_at_graph_rate_1 : fnOk P Tryd.f90 tab_slices_IndexFunc_int_int_at_graph_rate_1 = true := by kernel_rfl
theorem call_slices_IndexFunc_int_int_at_graph_rate_1 (s_0_p : Option Addr) (s_0_n : Nat) (s_0_c : Nat) (f_1_c0 : Addr) {h : Heap} {Q : Value → Heap → Prop} (H : slices_IndexFunc_int_int_at_graph_rate_1 s_0_p s_0_n s_0_c f_1_c0 h Q) : callP P n_slices_IndexFunc_int_int #[(.slice s_0_p s_0_n s_0_c), (.func (.func n_graph_rate_1) #[] #[(.pointer (some f_1_c0))])] h Q :=
 @callP_of P n_slices_IndexFunc_int_int Tryd.f90 tab_slices_IndexFunc_int_int_at_graph_rate_1 [(.slice s_0_p s_0_n s_0_c), (.func (.func n_graph_rate_1) #[] #[(.pointer (some f_1_c0))])] h Q mixed Tryd.func90 Tryd.call90 ok_slices_IndexFunc_int_int_at_graph_rate_1 (Eq.mpr (eq_slices_IndexFunc_int_int_at_graph_rate_1 s_0_p s_0_n s_0_c f_1_c0 h Q) H)

/-! ### slices.ContainsFunc[[]int,int]: function 75 -/
def slices_ContainsFunc_int_int_at_graph_ordered_1 (s_0_p : Option Addr) (s_0_n : Nat) (s_0_c : Nat) (f_1_c0 : Addr) (h : Heap) (Q : Value → Heap → Prop) : Prop :=
 callInt P .i64 n_slices_IndexFunc_int_int #[(.slice s_0_p s_0_n s_0_c), (.func (.func n_graph_ordered_1) #[] #[(.pointer (some f_1_c0))])] h fun n2 h1 =>
 Q (.bool (decide (n2 ≥ (0 : Int)))) h1
noncomputable def tab_slices_ContainsFunc_int_int_at_graph_ordered_1 : Tab := { sch := lookT .done [], lp := lookT [] [], jn := lookT none [] }
theorem eq_slices_ContainsFunc_int_int_at_graph_ordered_1 (s_0_p : Option Addr) (s_0_n : Nat) (s_0_c : Nat) (f_1_c0 : Addr) (h : Heap) (Q : Value → Heap → Prop) : fnI P Tryd.f75 tab_slices_ContainsFunc_int_int_at_graph_ordered_1 [(.slice s_0_p s_0_n s_0_c), (.func (.func n_graph_ordered_1) #[] #[(.pointer (some f_1_c0))])] h Q = slices_ContainsFunc_int_int_at_graph_ordered_1 s_0_p s_0_n s_0_c f_1_c0 h Q := by kernel_rfl
theorem ok_slices_ContainsFunc_int_int_at_graph_ordered_1 : fnOk P Tryd.f75 tab_slices_ContainsFunc_int_int_at_graph_ordered_1 = true := by kernel_rfl
theorem call_slices_ContainsFunc_int_int_at_graph_ordered_1 (s_0_p : Option Addr) (s_0_n : Nat) (s_0_c : Nat) (f_1_c0 : Addr) {h : Heap} {Q : Value → Heap → Prop} (H : slices_ContainsFunc_int_int_at_graph_ordered_1 s_0_p s_0_n s_0_c f_1_c0 h Q) : callP P n_slices_ContainsFunc_int_int #[(.slice s_0_p s_0_n s_0_c), (.func (.func n_graph_ordered_1) #[] #[(.pointer (some f_1_c0))])] h Q :=
 @callP_of P n_slices_ContainsFunc_int_int Tryd.f75 tab_slices_ContainsFunc_int_int_at_graph_ordered_1 [(.slice s_0_p s_0_n s_0_c), (.func (.func n_graph_ordered_1) #[] #[(.pointer (some f_1_c0))])] h Q mixed Tryd.func75 Tryd.call75 ok_slices_ContainsFunc_int_int_at_graph_ordered_1 (Eq.mpr (eq_slices_ContainsFunc_int_int_at_graph_ordered_1 s_0_p s_0_n s_0_c f_1_c0 h Q) H)

/-! ### slices.ContainsFunc[[]int,int]: function 75 -/
def slices_ContainsFunc_int_int_at_graph_rate_1 (s_0_p : Option Addr) (s_0_n : Nat) (s_0_c : Nat) (f_1_c0 : Addr) (h : Heap) (Q : Value → Heap → Prop) : Prop :=
 callInt P .i64 n_slices_IndexFunc_int_int #[(.slice s_0_p s_0_n s_0_c), (.func (.func n_graph_rate_1) #[] #[(.pointer (some f_1_c0))])] h fun n2 h1 =>
 Q (.bool (decide (n2 ≥ (0 : Int)))) h1
noncomputable def tab_slices_ContainsFunc_int_int_at_graph_rate_1 : Tab := { sch := lookT .done [], lp := lookT [] [], jn := lookT none [] }
theorem eq_slices_ContainsFunc_int_int_at_graph_rate_1 (s_0_p : Option Addr) (s_0_n : Nat) (s_0_c : Nat) (f_1_c0 : Addr) (h : Heap) (Q : Value → Heap → Prop) : fnI P Tryd.f75 tab_slices_ContainsFunc_int_int_at_graph_rate_1 [(.slice s_0_p s_0_n s_0_c), (.func (.func n_graph_rate_1) #[] #[(.pointer (some f_1_c0))])] h Q = slices_ContainsFunc_int_int_at_graph_rate_1 s_0_p s_0_n s_0_c f_1_c0 h Q := by kernel_rfl
theorem ok_slices_ContainsFunc_int_int_at_graph_rate_1 : fnOk P Tryd.f75 tab_slices_ContainsFunc_int_int_at_graph_rate_1 = true := by kernel_rfl
theorem call_slices_ContainsFunc_int_int_at_graph_rate_1 (s_0_p : Option Addr) (s_0_n : Nat) (s_0_c : Nat) (f_1_c0 : Addr) {h : Heap} {Q : Value → Heap → Prop} (H : slices_ContainsFunc_int_int_at_graph_rate_1 s_0_p s_0_n s_0_c f_1_c0 h Q) : callP P n_slices_ContainsFunc_int_int #[(.slice s_0_p s_0_n s_0_c), (.func (.func n_graph_rate_1) #[] #[(.pointer (some f_1_c0))])] h Q :=
 @callP_of P n_slices_ContainsFunc_int_int Tryd.f75 tab_slices_ContainsFunc_int_int_at_graph_rate_1 [(.slice s_0_p s_0_n s_0_c), (.func (.func n_graph_rate_1) #[] #[(.pointer (some f_1_c0))])] h Q mixed Tryd.func75 Tryd.call75 ok_slices_ContainsFunc_int_int_at_graph_rate_1 (Eq.mpr (eq_slices_ContainsFunc_int_int_at_graph_rate_1 s_0_p s_0_n s_0_c f_1_c0 h Q) H)

/-! ### earshot/graph.ordered: function 60 -/
def graph_ordered_l6 (Q : Value → Heap → Prop) (K1 : Y2 → Heap → Prop) (K2 : Y3 → Heap → Prop) (nodes_0_p : Option Addr) (nodes_0_n : Nat) (nodes_0_c : Nat) (there_4 : Addr) (order_5_p : Option Addr) (order_5_n : Nat) (order_5_c : Nat) (t13 : Int) (t14 : Int) (t16_p : Option Addr) (t16_n : Nat) (t16_c : Nat) (t17 : Int) (t18 : Int) (h8 : Heap) : Prop :=
 ifB (decide (t18 < t17)) (
 idxI t16_p t18 t16_n fun a9 =>
 ldAg A2 h8 (Addr.add a9 (t18.toNat * 15)) fun x10 =>
 newI h8 (.cells (mkS' A2 (zT A2)).toArray 25 (0, 0)) fun b11 h12 =>
 storeL (mkS' A2 x10) h12 ⟨b11, 0, none⟩ 0 fun h13 =>
 ldMap h13 there_4 fun m14 =>
 lookB .i64 (.int .i64 (0 : Int)) m14 (IntKind.wrap .i64 (t18 + (1 : Int))) h13 fun v16 b17 =>
 ∃ n18 : Int, ∃ b19 : Bool, (Value.tuple #[v16, .bool b17]) = (.tuple #[(.int .i64 n18), (.bool b19)]) ∧
 ifB b19 (
 K2 ((nodes_0_p, nodes_0_n, nodes_0_c), there_4, (order_5_p, order_5_n, order_5_c), t13, t14, (t16_p, t16_n, t16_c), t17, (IntKind.wrap .i64 (t18 + (1 : Int))), ()) h13) (
 ldSlice h13 ⟨b11, 1, none⟩ fun p20 l20 c20 =>
 callBool P n_slices_ContainsFunc_int_int #[(.slice p20 l20 c20), (.func (.func n_graph_ordered_1) #[] #[(.pointer (some there_4))])] h13 fun b22 h21 =>
 ifB b22 (
 K2 ((nodes_0_p, nodes_0_n, nodes_0_c), there_4, (order_5_p, order_5_n, order_5_c), t13, t14, (t16_p, t16_n, t16_c), t17, (IntKind.wrap .i64 (t18 + (1 : Int))), ()) h21) (
 ldMap h21 there_4 fun m23 =>
 updB .i64 m23 (IntKind.wrap .i64 (t18 + (1 : Int))) (.int .i64 ((order_5_n : Nat) : Int)) h21 fun h24 =>
 newI h24 (.cells #[(.int .i64 (IntKind.wrap .i64 (t18 + (1 : Int))))] 3 (0, 0)) fun b25 h26 =>
 appI 3 1 8 (.int .i64 (0 : Int)) order_5_p order_5_n order_5_c (some ⟨b25, 0, none⟩) 1 h26 fun p27 l27 c27 h28 =>
 K1 ((nodes_0_p, nodes_0_n, nodes_0_c), there_4, (p27, l27, c27), t13, (IntKind.wrap .i64 (t14 + (1 : Int))), ()) h28))) (
 K1 ((nodes_0_p, nodes_0_n, nodes_0_c), there_4, (order_5_p, order_5_n, order_5_c), t13, (IntKind.wrap .i64 (t14 + (1 : Int))), ()) h8)
def graph_ordered_l4 (Q : Value → Heap → Prop) (K1 : Y2 → Heap → Prop) (nodes_0_p : Option Addr) (nodes_0_n : Nat) (nodes_0_c : Nat) (there_4 : Addr) (order_5_p : Option Addr) (order_5_n : Nat) (order_5_c : Nat) (t13 : Int) (t14 : Int) (h7 : Heap) : Prop :=
 ifB (decide (t14 < t13)) (
 LoopS (S := Y3) (fun K2 s h => graph_ordered_l6 Q K1 K2 s.1.1 s.1.2.1 s.1.2.2 s.2.1 s.2.2.1.1 s.2.2.1.2.1 s.2.2.1.2.2 s.2.2.2.1 s.2.2.2.2.1 s.2.2.2.2.2.1.1 s.2.2.2.2.2.1.2.1 s.2.2.2.2.2.1.2.2 s.2.2.2.2.2.2.1 s.2.2.2.2.2.2.2.1 h) ((nodes_0_p, nodes_0_n, nodes_0_c), there_4, (order_5_p, order_5_n, order_5_c), t13, t14, (nodes_0_p, nodes_0_n, nodes_0_c), ((nodes_0_n : Nat) : Int), (0 : Int), ()) h7) (
 Q (.tuple #[(.slice order_5_p order_5_n order_5_c), (.bool (((order_5_n : Nat) : Int) == ((nodes_0_n : Nat) : Int)))]) h7)
def graph_ordered (nodes_0_p : Option Addr) (nodes_0_n : Nat) (nodes_0_c : Nat) (h : Heap) (Q : Value → Heap → Prop) : Prop :=
 newI h (.map #[] 0) fun r2 h1 =>
 updB .i64 (some r2) (0 : Int) (.int .i64 (0 : Int)) h1 fun h3 =>
 newI h3 (.cells #[(.map none)] 47 (0, 0)) fun b4 h5 =>
 stI h5 ⟨b4, 0, none⟩ (.map (some r2)) fun h6 =>
 LoopS (S := Y2) (fun K1 s h => graph_ordered_l4 Q K1 s.1.1 s.1.2.1 s.1.2.2 s.2.1 s.2.2.1.1 s.2.2.1.2.1 s.2.2.1.2.2 s.2.2.2.1 s.2.2.2.2.1 h) ((nodes_0_p, nodes_0_n, nodes_0_c), ⟨b4, 0, none⟩, (none, 0, 0), ((nodes_0_n : Nat) : Int), (0 : Int), ()) h6
noncomputable def tab_graph_ordered : Tab := { sch := lookT .done [], lp := lookT [] [(4, [(0, .sc (.slice)), (4, .sc (.adr)), (5, .sc (.slice)), (13, .sc (.int .i64)), (14, .sc (.int .i64))]), (6, [(0, .sc (.slice)), (4, .sc (.adr)), (5, .sc (.slice)), (13, .sc (.int .i64)), (14, .sc (.int .i64)), (16, .sc (.slice)), (17, .sc (.int .i64)), (18, .sc (.int .i64))])], jn := lookT none [] }
theorem eq_graph_ordered (nodes_0_p : Option Addr) (nodes_0_n : Nat) (nodes_0_c : Nat) (h : Heap) (Q : Value → Heap → Prop) : fnI P Tryd.f60 tab_graph_ordered [(.slice nodes_0_p nodes_0_n nodes_0_c)] h Q = graph_ordered nodes_0_p nodes_0_n nodes_0_c h Q := by kernel_rfl
theorem ok_graph_ordered : fnOk P Tryd.f60 tab_graph_ordered = true := by kernel_rfl
theorem call_graph_ordered (nodes_0_p : Option Addr) (nodes_0_n : Nat) (nodes_0_c : Nat) {h : Heap} {Q : Value → Heap → Prop} (H : graph_ordered nodes_0_p nodes_0_n nodes_0_c h Q) : callP P n_graph_ordered #[(.slice nodes_0_p nodes_0_n nodes_0_c)] h Q :=
 @callP_of P n_graph_ordered Tryd.f60 tab_graph_ordered [(.slice nodes_0_p nodes_0_n nodes_0_c)] h Q mixed Tryd.func60 Tryd.call60 ok_graph_ordered (Eq.mpr (eq_graph_ordered nodes_0_p nodes_0_n nodes_0_c h Q) H)

/-! ### earshot/graph.pick: function 61 -/
def graph_pick_l3 (Q : Value → Heap → Prop) (K1 : Y4 → Heap → Prop) (of_0_p : Option Addr) (of_0_n : Nat) (of_0_c : Nat) (out_5_p : Option Addr) (out_5_n : Nat) (out_5_c : Nat) (t11_p : Option Addr) (t11_n : Nat) (t11_c : Nat) (t12 : Int) (t13 : Int) (h3 : Heap) : Prop :=
 ifB (decide (t13 < t12)) (
 idxI t11_p t13 t11_n fun a4 =>
 ldInt .i64 h3 (Addr.add a4 (t13.toNat * 1)) fun n5 =>
 idxI of_0_p n5 of_0_n fun a6 =>
 ldInt .i64 h3 (Addr.add a6 (n5.toNat * 1)) fun n7 =>
 idxI out_5_p t13 out_5_n fun a8 =>
 stI h3 (Addr.add a8 (t13.toNat * 1)) (.int .i64 n7) fun h9 =>
 K1 ((of_0_p, of_0_n, of_0_c), (out_5_p, out_5_n, out_5_c), (t11_p, t11_n, t11_c), t12, (IntKind.wrap .i64 (t13 + (1 : Int))), ()) h9) (
 Q (.slice out_5_p out_5_n out_5_c) h3)
def graph_pick (of_0_p : Option Addr) (of_0_n : Nat) (of_0_c : Nat) (in_1_p : Option Addr) (in_1_n : Nat) (in_1_c : Nat) (h : Heap) (Q : Value → Heap → Prop) : Prop :=
 mkI 3 1 8 (.int .i64 (0 : Int)) ((in_1_n : Nat) : Int) ((in_1_n : Nat) : Int) h fun b1 h2 =>
 LoopS (S := Y4) (fun K1 s h => graph_pick_l3 Q K1 s.1.1 s.1.2.1 s.1.2.2 s.2.1.1 s.2.1.2.1 s.2.1.2.2 s.2.2.1.1 s.2.2.1.2.1 s.2.2.1.2.2 s.2.2.2.1 s.2.2.2.2.1 h) ((of_0_p, of_0_n, of_0_c), (some ⟨b1, 0, none⟩, ((in_1_n : Nat) : Int).toNat, ((in_1_n : Nat) : Int).toNat), (in_1_p, in_1_n, in_1_c), ((in_1_n : Nat) : Int), (0 : Int), ()) h2
noncomputable def tab_graph_pick : Tab := { sch := lookT .done [], lp := lookT [] [(3, [(0, .sc (.slice)), (5, .sc (.slice)), (11, .sc (.slice)), (12, .sc (.int .i64)), (13, .sc (.int .i64))])], jn := lookT none [] }
theorem eq_graph_pick (of_0_p : Option Addr) (of_0_n : Nat) (of_0_c : Nat) (in_1_p : Option Addr) (in_1_n : Nat) (in_1_c : Nat) (h : Heap) (Q : Value → Heap → Prop) : fnI P Tryd.f61 tab_graph_pick [(.slice of_0_p of_0_n of_0_c), (.slice in_1_p in_1_n in_1_c)] h Q = graph_pick of_0_p of_0_n of_0_c in_1_p in_1_n in_1_c h Q := by kernel_rfl
theorem ok_graph_pick : fnOk P Tryd.f61 tab_graph_pick = true := by kernel_rfl
theorem call_graph_pick (of_0_p : Option Addr) (of_0_n : Nat) (of_0_c : Nat) (in_1_p : Option Addr) (in_1_n : Nat) (in_1_c : Nat) {h : Heap} {Q : Value → Heap → Prop} (H : graph_pick of_0_p of_0_n of_0_c in_1_p in_1_n in_1_c h Q) : callP P n_graph_pick #[(.slice of_0_p of_0_n of_0_c), (.slice in_1_p in_1_n in_1_c)] h Q :=
 @callP_of P n_graph_pick Tryd.f61 tab_graph_pick [(.slice of_0_p of_0_n of_0_c), (.slice in_1_p in_1_n in_1_c)] h Q mixed Tryd.func61 Tryd.call61 ok_graph_pick (Eq.mpr (eq_graph_pick of_0_p of_0_n of_0_c in_1_p in_1_n in_1_c h Q) H)

/-! ### earshot/kind.in: function 78 -/
def kind_in (x_0 : Int) (low_1 : Int) (high_2 : Int) (h : Heap) (Q : Value → Heap → Prop) : Prop :=
 ifB (decide (x_0 ≥ low_1)) (
 Q (.bool (decide (x_0 ≤ high_2))) h) (
 Q (.bool false) h)
noncomputable def tab_kind_in : Tab := { sch := lookT .done [], lp := lookT [] [], jn := lookT none [] }
theorem eq_kind_in (x_0 : Int) (low_1 : Int) (high_2 : Int) (h : Heap) (Q : Value → Heap → Prop) : fnI P Tryd.f78 tab_kind_in [(.int .i64 x_0), (.int .i64 low_1), (.int .i64 high_2)] h Q = kind_in x_0 low_1 high_2 h Q := by kernel_rfl
theorem ok_kind_in : fnOk P Tryd.f78 tab_kind_in = true := by kernel_rfl
theorem call_kind_in (x_0 : Int) (low_1 : Int) (high_2 : Int) {h : Heap} {Q : Value → Heap → Prop} (H : kind_in x_0 low_1 high_2 h Q) : callP P n_kind_in #[(.int .i64 x_0), (.int .i64 low_1), (.int .i64 high_2)] h Q :=
 @callP_of P n_kind_in Tryd.f78 tab_kind_in [(.int .i64 x_0), (.int .i64 low_1), (.int .i64 high_2)] h Q mixed Tryd.func78 Tryd.call78 ok_kind_in (Eq.mpr (eq_kind_in x_0 low_1 high_2 h Q) H)

/-! ### earshot/kind.every: function 77 -/
def kind_every_l2 (Q : Value → Heap → Prop) (K1 : (Int × Int × (Option Addr × Nat × Nat) × Int × Int × Unit) → Heap → Prop) (low_1 : Int) (high_2 : Int) (t9_p : Option Addr) (t9_n : Nat) (t9_c : Nat) (t10 : Int) (t11 : Int) (h1 : Heap) : Prop :=
 ifB (decide (t11 < t10)) (
 idxI t9_p t11 t9_n fun a2 =>
 ldInt .i64 h1 (Addr.add a2 (t11.toNat * 1)) fun n3 =>
 callBool P n_kind_in #[(.int .i64 n3), (.int .i64 low_1), (.int .i64 high_2)] h1 fun b5 h4 =>
 ifB (!b5) (
 Q (.bool false) h4) (
 K1 (low_1, high_2, (t9_p, t9_n, t9_c), t10, (IntKind.wrap .i64 (t11 + (1 : Int))), ()) h4)) (
 Q (.bool true) h1)
def kind_every (xs_0_p : Option Addr) (xs_0_n : Nat) (xs_0_c : Nat) (low_1 : Int) (high_2 : Int) (h : Heap) (Q : Value → Heap → Prop) : Prop :=
 LoopS (S := (Int × Int × (Option Addr × Nat × Nat) × Int × Int × Unit)) (fun K1 s h => kind_every_l2 Q K1 s.1 s.2.1 s.2.2.1.1 s.2.2.1.2.1 s.2.2.1.2.2 s.2.2.2.1 s.2.2.2.2.1 h) (low_1, high_2, (xs_0_p, xs_0_n, xs_0_c), ((xs_0_n : Nat) : Int), (0 : Int), ()) h
noncomputable def tab_kind_every : Tab := { sch := lookT .done [], lp := lookT [] [(2, [(1, .sc (.int .i64)), (2, .sc (.int .i64)), (9, .sc (.slice)), (10, .sc (.int .i64)), (11, .sc (.int .i64))])], jn := lookT none [] }
theorem eq_kind_every (xs_0_p : Option Addr) (xs_0_n : Nat) (xs_0_c : Nat) (low_1 : Int) (high_2 : Int) (h : Heap) (Q : Value → Heap → Prop) : fnI P Tryd.f77 tab_kind_every [(.slice xs_0_p xs_0_n xs_0_c), (.int .i64 low_1), (.int .i64 high_2)] h Q = kind_every xs_0_p xs_0_n xs_0_c low_1 high_2 h Q := by kernel_rfl
theorem ok_kind_every : fnOk P Tryd.f77 tab_kind_every = true := by kernel_rfl
theorem call_kind_every (xs_0_p : Option Addr) (xs_0_n : Nat) (xs_0_c : Nat) (low_1 : Int) (high_2 : Int) {h : Heap} {Q : Value → Heap → Prop} (H : kind_every xs_0_p xs_0_n xs_0_c low_1 high_2 h Q) : callP P n_kind_every #[(.slice xs_0_p xs_0_n xs_0_c), (.int .i64 low_1), (.int .i64 high_2)] h Q :=
 @callP_of P n_kind_every Tryd.f77 tab_kind_every [(.slice xs_0_p xs_0_n xs_0_c), (.int .i64 low_1), (.int .i64 high_2)] h Q mixed Tryd.func77 Tryd.call77 ok_kind_every (Eq.mpr (eq_kind_every xs_0_p xs_0_n xs_0_c low_1 high_2 h Q) H)

/-! ### earshot/kind.has: function 79 -/
def kind_has (n_0 : TS A2) (what_1 : Int) (h : Heap) (Q : Value → Heap → Prop) : Prop :=
 newI h (.cells (mkS' A2 n_0).toArray 25 (0, 0)) fun b1 h2 =>
 ldInt .i64 h2 ⟨b1, 0, none⟩ fun n3 =>
 ifB (decide (n3 < (1 : Int))) (
 Q (.bool false) h2) (
 ldInt .i64 h2 ⟨b1, 0, none⟩ fun n4 =>
 ifB (decide (n4 ≥ (13 : Int))) (
 Q (.bool false) h2) (
 ldInt .i64 h2 ⟨b1, 0, none⟩ fun n5 =>
 arrI n5 13 fun _ =>
 ldInt .i64 h2 (Addr.add ⟨0, 0, none⟩ (n5.toNat * 1)) fun n6 =>
 ldInt .i64 h2 ⟨b1, 14, none⟩ fun n7 =>
 ifB ((andI .i64 n7 (1 : Int)) != (0 : Int)) (
 ldInt .i64 h2 ⟨b1, 14, none⟩ fun n8 =>
 ifB ((andI .i64 n8 (2 : Int)) != (0 : Int)) (
 Q (.bool ((andI .i64 (orI .i64 (orI .i64 n6 (64 : Int)) (32 : Int)) what_1) != (0 : Int))) h2) (
 Q (.bool ((andI .i64 (orI .i64 n6 (64 : Int)) what_1) != (0 : Int))) h2)) (
 ldInt .i64 h2 ⟨b1, 14, none⟩ fun n9 =>
 ifB ((andI .i64 n9 (2 : Int)) != (0 : Int)) (
 Q (.bool ((andI .i64 (orI .i64 n6 (32 : Int)) what_1) != (0 : Int))) h2) (
 Q (.bool ((andI .i64 n6 what_1) != (0 : Int))) h2))))
noncomputable def tab_kind_has : Tab := { sch := lookT .done [], lp := lookT [] [], jn := lookT none [] }
theorem eq_kind_has (n_0 : TS A2) (what_1 : Int) (h : Heap) (Q : Value → Heap → Prop) : fnI P Tryd.f79 tab_kind_has [(agS A2 n_0), (.int .i64 what_1)] h Q = kind_has n_0 what_1 h Q := by kernel_rfl
theorem ok_kind_has : fnOk P Tryd.f79 tab_kind_has = true := by kernel_rfl
theorem call_kind_has (n_0 : TS A2) (what_1 : Int) {h : Heap} {Q : Value → Heap → Prop} (H : kind_has n_0 what_1 h Q) : callP P n_kind_has #[(agS A2 n_0), (.int .i64 what_1)] h Q :=
 @callP_of P n_kind_has Tryd.f79 tab_kind_has [(agS A2 n_0), (.int .i64 what_1)] h Q mixed Tryd.func79 Tryd.call79 ok_kind_has (Eq.mpr (eq_kind_has n_0 what_1 h Q) H)

/-! ### earshot/kind.bare: function 80 -/
def kind_bare_l2 (Q : Value → Heap → Prop) (K1 : (Addr × TS A3 × Int × Unit) → Heap → Prop) (n_1 : Addr) (t61 : TS A3) (t62 : Int) (h5 : Heap) : Prop :=
 ifB (decide (t62 < (6 : Int))) (
 arrI t62 6 fun _ => ∃ n6 : Int, ∃ b7 : Bool, Array.extract (#[(.int .i64 t61.1), (.bool t61.2.1), (.int .i64 t61.2.2.1), (.bool t61.2.2.2.1), (.int .i64 t61.2.2.2.2.1), (.bool t61.2.2.2.2.2.1), (.int .i64 t61.2.2.2.2.2.2.1), (.bool t61.2.2.2.2.2.2.2.1), (.int .i64 t61.2.2.2.2.2.2.2.2.1), (.bool t61.2.2.2.2.2.2.2.2.2.1), (.int .i64 t61.2.2.2.2.2.2.2.2.2.2.1), (.bool t61.2.2.2.2.2.2.2.2.2.2.2.1)] : Array Value) (t62.toNat * 2) (t62.toNat * 2 + 2) = (#[(.int .i64 n6), (.bool b7)] : Array Value) ∧
 newI h5 (.cells #[(.int .i64 (0 : Int)), (.bool false)] 105 (0, 0)) fun b8 h9 =>
 stI h9 ⟨b8, 0, none⟩ (.int .i64 n6) fun h10 =>
 stI h10 ⟨b8, 1, none⟩ (.bool b7) fun h11 =>
 ldBool h11 ⟨b8, 1, none⟩ fun b12 =>
 ifB b12 (
 ldAg A2 h11 n_1 fun x13 =>
 ldInt .i64 h11 ⟨b8, 0, none⟩ fun n14 =>
 callBool P n_kind_has #[(agS A2 x13), (.int .i64 n14)] h11 fun b16 h15 =>
 ifB (!b16) (
 Q (.bool false) h15) (
 K1 (n_1, t61, (IntKind.wrap .i64 (t62 + (1 : Int))), ()) h15)) (
 K1 (n_1, t61, (IntKind.wrap .i64 (t62 + (1 : Int))), ()) h11)) (
 Q (.bool true) h5)
def kind_bare_j2 (Q : Value → Heap → Prop) (n_1 : Addr) (t61 : TS A3) (t62 : Int) (h4 : Heap) : Prop :=
 LoopS (S := (Addr × TS A3 × Int × Unit)) (fun K1 s h => kind_bare_l2 Q K1 s.1 s.2.1 s.2.2.1 h) (n_1, t61, t62, ()) h4
def kind_bare (n_0 : TS A2) (h : Heap) (Q : Value → Heap → Prop) : Prop :=
 newI h (.cells (mkS' A2 n_0).toArray 25 (0, 0)) fun b1 h2 =>
 ∃ J3 : (Addr × TS A3 × Int × Unit) → Heap → Prop, (∀ s h, J3 s h → kind_bare_j2 Q s.1 s.2.1 s.2.2.1 h) ∧
 ldInt .i64 h2 ⟨b1, 4, none⟩ fun n17 =>
 ifB (n17 != (0 : Int)) (
 ldInt .i64 h2 ⟨b1, 3, none⟩ fun n18 =>
 ldInt .i64 h2 ⟨b1, 2, none⟩ fun n19 =>
 ldSlice h2 ⟨b1, 8, none⟩ fun p20 l20 c20 =>
 ifB (decide (((l20 : Nat) : Int) > (0 : Int))) (
 ldInt .i64 h2 ⟨b1, 12, none⟩ fun n21 =>
 ifB (n21 != (0 : Int)) (
 ldInt .i64 h2 ⟨b1, 10, none⟩ fun n22 =>
 ifB (n22 != (0 : Int)) (
 J3 (⟨b1, 0, none⟩, ((1 : Int), true, (17 : Int), (n18 != (0 : Int)), (2 : Int), (n19 != (0 : Int)), (4 : Int), true, (32 : Int), true, (64 : Int), true, ()), (0 : Int), ()) h2) (
 ldInt .i64 h2 ⟨b1, 11, none⟩ fun n23 =>
 J3 (⟨b1, 0, none⟩, ((1 : Int), true, (17 : Int), (n18 != (0 : Int)), (2 : Int), (n19 != (0 : Int)), (4 : Int), true, (32 : Int), true, (64 : Int), (n23 != (0 : Int)), ()), (0 : Int), ()) h2)) (
 ldInt .i64 h2 ⟨b1, 13, none⟩ fun n24 =>
 ldInt .i64 h2 ⟨b1, 10, none⟩ fun n25 =>
 ifB (n25 != (0 : Int)) (
 J3 (⟨b1, 0, none⟩, ((1 : Int), true, (17 : Int), (n18 != (0 : Int)), (2 : Int), (n19 != (0 : Int)), (4 : Int), true, (32 : Int), (n24 != (0 : Int)), (64 : Int), true, ()), (0 : Int), ()) h2) (
 ldInt .i64 h2 ⟨b1, 11, none⟩ fun n26 =>
 J3 (⟨b1, 0, none⟩, ((1 : Int), true, (17 : Int), (n18 != (0 : Int)), (2 : Int), (n19 != (0 : Int)), (4 : Int), true, (32 : Int), (n24 != (0 : Int)), (64 : Int), (n26 != (0 : Int)), ()), (0 : Int), ()) h2))) (
 ldSlice h2 ⟨b1, 9, none⟩ fun p27 l27 c27 =>
 ldInt .i64 h2 ⟨b1, 12, none⟩ fun n28 =>
 ifB (n28 != (0 : Int)) (
 ldInt .i64 h2 ⟨b1, 10, none⟩ fun n29 =>
 ifB (n29 != (0 : Int)) (
 J3 (⟨b1, 0, none⟩, ((1 : Int), true, (17 : Int), (n18 != (0 : Int)), (2 : Int), (n19 != (0 : Int)), (4 : Int), (decide (((l27 : Nat) : Int) > (0 : Int))), (32 : Int), true, (64 : Int), true, ()), (0 : Int), ()) h2) (
 ldInt .i64 h2 ⟨b1, 11, none⟩ fun n30 =>
 J3 (⟨b1, 0, none⟩, ((1 : Int), true, (17 : Int), (n18 != (0 : Int)), (2 : Int), (n19 != (0 : Int)), (4 : Int), (decide (((l27 : Nat) : Int) > (0 : Int))), (32 : Int), true, (64 : Int), (n30 != (0 : Int)), ()), (0 : Int), ()) h2)) (
 ldInt .i64 h2 ⟨b1, 13, none⟩ fun n31 =>
 ldInt .i64 h2 ⟨b1, 10, none⟩ fun n32 =>
 ifB (n32 != (0 : Int)) (
 J3 (⟨b1, 0, none⟩, ((1 : Int), true, (17 : Int), (n18 != (0 : Int)), (2 : Int), (n19 != (0 : Int)), (4 : Int), (decide (((l27 : Nat) : Int) > (0 : Int))), (32 : Int), (n31 != (0 : Int)), (64 : Int), true, ()), (0 : Int), ()) h2) (
 ldInt .i64 h2 ⟨b1, 11, none⟩ fun n33 =>
 J3 (⟨b1, 0, none⟩, ((1 : Int), true, (17 : Int), (n18 != (0 : Int)), (2 : Int), (n19 != (0 : Int)), (4 : Int), (decide (((l27 : Nat) : Int) > (0 : Int))), (32 : Int), (n31 != (0 : Int)), (64 : Int), (n33 != (0 : Int)), ()), (0 : Int), ()) h2)))) (
 ldInt .i64 h2 ⟨b1, 5, none⟩ fun n34 =>
 ifB (n34 != (0 : Int)) (
 ldInt .i64 h2 ⟨b1, 3, none⟩ fun n35 =>
 ldInt .i64 h2 ⟨b1, 2, none⟩ fun n36 =>
 ldSlice h2 ⟨b1, 8, none⟩ fun p37 l37 c37 =>
 ifB (decide (((l37 : Nat) : Int) > (0 : Int))) (
 ldInt .i64 h2 ⟨b1, 12, none⟩ fun n38 =>
 ifB (n38 != (0 : Int)) (
 ldInt .i64 h2 ⟨b1, 10, none⟩ fun n39 =>
 ifB (n39 != (0 : Int)) (
 J3 (⟨b1, 0, none⟩, ((1 : Int), true, (17 : Int), (n35 != (0 : Int)), (2 : Int), (n36 != (0 : Int)), (4 : Int), true, (32 : Int), true, (64 : Int), true, ()), (0 : Int), ()) h2) (
 ldInt .i64 h2 ⟨b1, 11, none⟩ fun n40 =>
 J3 (⟨b1, 0, none⟩, ((1 : Int), true, (17 : Int), (n35 != (0 : Int)), (2 : Int), (n36 != (0 : Int)), (4 : Int), true, (32 : Int), true, (64 : Int), (n40 != (0 : Int)), ()), (0 : Int), ()) h2)) (
 ldInt .i64 h2 ⟨b1, 13, none⟩ fun n41 =>
 ldInt .i64 h2 ⟨b1, 10, none⟩ fun n42 =>
 ifB (n42 != (0 : Int)) (
 J3 (⟨b1, 0, none⟩, ((1 : Int), true, (17 : Int), (n35 != (0 : Int)), (2 : Int), (n36 != (0 : Int)), (4 : Int), true, (32 : Int), (n41 != (0 : Int)), (64 : Int), true, ()), (0 : Int), ()) h2) (
 ldInt .i64 h2 ⟨b1, 11, none⟩ fun n43 =>
 J3 (⟨b1, 0, none⟩, ((1 : Int), true, (17 : Int), (n35 != (0 : Int)), (2 : Int), (n36 != (0 : Int)), (4 : Int), true, (32 : Int), (n41 != (0 : Int)), (64 : Int), (n43 != (0 : Int)), ()), (0 : Int), ()) h2))) (
 ldSlice h2 ⟨b1, 9, none⟩ fun p44 l44 c44 =>
 ldInt .i64 h2 ⟨b1, 12, none⟩ fun n45 =>
 ifB (n45 != (0 : Int)) (
 ldInt .i64 h2 ⟨b1, 10, none⟩ fun n46 =>
 ifB (n46 != (0 : Int)) (
 J3 (⟨b1, 0, none⟩, ((1 : Int), true, (17 : Int), (n35 != (0 : Int)), (2 : Int), (n36 != (0 : Int)), (4 : Int), (decide (((l44 : Nat) : Int) > (0 : Int))), (32 : Int), true, (64 : Int), true, ()), (0 : Int), ()) h2) (
 ldInt .i64 h2 ⟨b1, 11, none⟩ fun n47 =>
 J3 (⟨b1, 0, none⟩, ((1 : Int), true, (17 : Int), (n35 != (0 : Int)), (2 : Int), (n36 != (0 : Int)), (4 : Int), (decide (((l44 : Nat) : Int) > (0 : Int))), (32 : Int), true, (64 : Int), (n47 != (0 : Int)), ()), (0 : Int), ()) h2)) (
 ldInt .i64 h2 ⟨b1, 13, none⟩ fun n48 =>
 ldInt .i64 h2 ⟨b1, 10, none⟩ fun n49 =>
 ifB (n49 != (0 : Int)) (
 J3 (⟨b1, 0, none⟩, ((1 : Int), true, (17 : Int), (n35 != (0 : Int)), (2 : Int), (n36 != (0 : Int)), (4 : Int), (decide (((l44 : Nat) : Int) > (0 : Int))), (32 : Int), (n48 != (0 : Int)), (64 : Int), true, ()), (0 : Int), ()) h2) (
 ldInt .i64 h2 ⟨b1, 11, none⟩ fun n50 =>
 J3 (⟨b1, 0, none⟩, ((1 : Int), true, (17 : Int), (n35 != (0 : Int)), (2 : Int), (n36 != (0 : Int)), (4 : Int), (decide (((l44 : Nat) : Int) > (0 : Int))), (32 : Int), (n48 != (0 : Int)), (64 : Int), (n50 != (0 : Int)), ()), (0 : Int), ()) h2)))) (
 ldInt .i64 h2 ⟨b1, 6, none⟩ fun n51 =>
 ifB (n51 != (0 : Int)) (
 ldInt .i64 h2 ⟨b1, 3, none⟩ fun n52 =>
 ldInt .i64 h2 ⟨b1, 2, none⟩ fun n53 =>
 ldSlice h2 ⟨b1, 8, none⟩ fun p54 l54 c54 =>
 ifB (decide (((l54 : Nat) : Int) > (0 : Int))) (
 ldInt .i64 h2 ⟨b1, 12, none⟩ fun n55 =>
 ifB (n55 != (0 : Int)) (
 ldInt .i64 h2 ⟨b1, 10, none⟩ fun n56 =>
 ifB (n56 != (0 : Int)) (
 J3 (⟨b1, 0, none⟩, ((1 : Int), true, (17 : Int), (n52 != (0 : Int)), (2 : Int), (n53 != (0 : Int)), (4 : Int), true, (32 : Int), true, (64 : Int), true, ()), (0 : Int), ()) h2) (
 ldInt .i64 h2 ⟨b1, 11, none⟩ fun n57 =>
 J3 (⟨b1, 0, none⟩, ((1 : Int), true, (17 : Int), (n52 != (0 : Int)), (2 : Int), (n53 != (0 : Int)), (4 : Int), true, (32 : Int), true, (64 : Int), (n57 != (0 : Int)), ()), (0 : Int), ()) h2)) (
 ldInt .i64 h2 ⟨b1, 13, none⟩ fun n58 =>
 ldInt .i64 h2 ⟨b1, 10, none⟩ fun n59 =>
 ifB (n59 != (0 : Int)) (
 J3 (⟨b1, 0, none⟩, ((1 : Int), true, (17 : Int), (n52 != (0 : Int)), (2 : Int), (n53 != (0 : Int)), (4 : Int), true, (32 : Int), (n58 != (0 : Int)), (64 : Int), true, ()), (0 : Int), ()) h2) (
 ldInt .i64 h2 ⟨b1, 11, none⟩ fun n60 =>
 J3 (⟨b1, 0, none⟩, ((1 : Int), true, (17 : Int), (n52 != (0 : Int)), (2 : Int), (n53 != (0 : Int)), (4 : Int), true, (32 : Int), (n58 != (0 : Int)), (64 : Int), (n60 != (0 : Int)), ()), (0 : Int), ()) h2))) (
 ldSlice h2 ⟨b1, 9, none⟩ fun p61 l61 c61 =>
 ldInt .i64 h2 ⟨b1, 12, none⟩ fun n62 =>
 ifB (n62 != (0 : Int)) (
 ldInt .i64 h2 ⟨b1, 10, none⟩ fun n63 =>
 ifB (n63 != (0 : Int)) (
 J3 (⟨b1, 0, none⟩, ((1 : Int), true, (17 : Int), (n52 != (0 : Int)), (2 : Int), (n53 != (0 : Int)), (4 : Int), (decide (((l61 : Nat) : Int) > (0 : Int))), (32 : Int), true, (64 : Int), true, ()), (0 : Int), ()) h2) (
 ldInt .i64 h2 ⟨b1, 11, none⟩ fun n64 =>
 J3 (⟨b1, 0, none⟩, ((1 : Int), true, (17 : Int), (n52 != (0 : Int)), (2 : Int), (n53 != (0 : Int)), (4 : Int), (decide (((l61 : Nat) : Int) > (0 : Int))), (32 : Int), true, (64 : Int), (n64 != (0 : Int)), ()), (0 : Int), ()) h2)) (
 ldInt .i64 h2 ⟨b1, 13, none⟩ fun n65 =>
 ldInt .i64 h2 ⟨b1, 10, none⟩ fun n66 =>
 ifB (n66 != (0 : Int)) (
 J3 (⟨b1, 0, none⟩, ((1 : Int), true, (17 : Int), (n52 != (0 : Int)), (2 : Int), (n53 != (0 : Int)), (4 : Int), (decide (((l61 : Nat) : Int) > (0 : Int))), (32 : Int), (n65 != (0 : Int)), (64 : Int), true, ()), (0 : Int), ()) h2) (
 ldInt .i64 h2 ⟨b1, 11, none⟩ fun n67 =>
 J3 (⟨b1, 0, none⟩, ((1 : Int), true, (17 : Int), (n52 != (0 : Int)), (2 : Int), (n53 != (0 : Int)), (4 : Int), (decide (((l61 : Nat) : Int) > (0 : Int))), (32 : Int), (n65 != (0 : Int)), (64 : Int), (n67 != (0 : Int)), ()), (0 : Int), ()) h2)))) (
 ldInt .i64 h2 ⟨b1, 7, none⟩ fun n68 =>
 ldInt .i64 h2 ⟨b1, 3, none⟩ fun n69 =>
 ldInt .i64 h2 ⟨b1, 2, none⟩ fun n70 =>
 ldSlice h2 ⟨b1, 8, none⟩ fun p71 l71 c71 =>
 ifB (decide (((l71 : Nat) : Int) > (0 : Int))) (
 ldInt .i64 h2 ⟨b1, 12, none⟩ fun n72 =>
 ifB (n72 != (0 : Int)) (
 ldInt .i64 h2 ⟨b1, 10, none⟩ fun n73 =>
 ifB (n73 != (0 : Int)) (
 J3 (⟨b1, 0, none⟩, ((1 : Int), (n68 != (0 : Int)), (17 : Int), (n69 != (0 : Int)), (2 : Int), (n70 != (0 : Int)), (4 : Int), true, (32 : Int), true, (64 : Int), true, ()), (0 : Int), ()) h2) (
 ldInt .i64 h2 ⟨b1, 11, none⟩ fun n74 =>
 J3 (⟨b1, 0, none⟩, ((1 : Int), (n68 != (0 : Int)), (17 : Int), (n69 != (0 : Int)), (2 : Int), (n70 != (0 : Int)), (4 : Int), true, (32 : Int), true, (64 : Int), (n74 != (0 : Int)), ()), (0 : Int), ()) h2)) (
 ldInt .i64 h2 ⟨b1, 13, none⟩ fun n75 =>
 ldInt .i64 h2 ⟨b1, 10, none⟩ fun n76 =>
 ifB (n76 != (0 : Int)) (
 J3 (⟨b1, 0, none⟩, ((1 : Int), (n68 != (0 : Int)), (17 : Int), (n69 != (0 : Int)), (2 : Int), (n70 != (0 : Int)), (4 : Int), true, (32 : Int), (n75 != (0 : Int)), (64 : Int), true, ()), (0 : Int), ()) h2) (
 ldInt .i64 h2 ⟨b1, 11, none⟩ fun n77 =>
 J3 (⟨b1, 0, none⟩, ((1 : Int), (n68 != (0 : Int)), (17 : Int), (n69 != (0 : Int)), (2 : Int), (n70 != (0 : Int)), (4 : Int), true, (32 : Int), (n75 != (0 : Int)), (64 : Int), (n77 != (0 : Int)), ()), (0 : Int), ()) h2))) (
 ldSlice h2 ⟨b1, 9, none⟩ fun p78 l78 c78 =>
 ldInt .i64 h2 ⟨b1, 12, none⟩ fun n79 =>
 ifB (n79 != (0 : Int)) (
 ldInt .i64 h2 ⟨b1, 10, none⟩ fun n80 =>
 ifB (n80 != (0 : Int)) (
 J3 (⟨b1, 0, none⟩, ((1 : Int), (n68 != (0 : Int)), (17 : Int), (n69 != (0 : Int)), (2 : Int), (n70 != (0 : Int)), (4 : Int), (decide (((l78 : Nat) : Int) > (0 : Int))), (32 : Int), true, (64 : Int), true, ()), (0 : Int), ()) h2) (
 ldInt .i64 h2 ⟨b1, 11, none⟩ fun n81 =>
 J3 (⟨b1, 0, none⟩, ((1 : Int), (n68 != (0 : Int)), (17 : Int), (n69 != (0 : Int)), (2 : Int), (n70 != (0 : Int)), (4 : Int), (decide (((l78 : Nat) : Int) > (0 : Int))), (32 : Int), true, (64 : Int), (n81 != (0 : Int)), ()), (0 : Int), ()) h2)) (
 ldInt .i64 h2 ⟨b1, 13, none⟩ fun n82 =>
 ldInt .i64 h2 ⟨b1, 10, none⟩ fun n83 =>
 ifB (n83 != (0 : Int)) (
 J3 (⟨b1, 0, none⟩, ((1 : Int), (n68 != (0 : Int)), (17 : Int), (n69 != (0 : Int)), (2 : Int), (n70 != (0 : Int)), (4 : Int), (decide (((l78 : Nat) : Int) > (0 : Int))), (32 : Int), (n82 != (0 : Int)), (64 : Int), true, ()), (0 : Int), ()) h2) (
 ldInt .i64 h2 ⟨b1, 11, none⟩ fun n84 =>
 J3 (⟨b1, 0, none⟩, ((1 : Int), (n68 != (0 : Int)), (17 : Int), (n69 != (0 : Int)), (2 : Int), (n70 != (0 : Int)), (4 : Int), (decide (((l78 : Nat) : Int) > (0 : Int))), (32 : Int), (n82 != (0 : Int)), (64 : Int), (n84 != (0 : Int)), ()), (0 : Int), ()) h2))))))
noncomputable def tab_kind_bare : Tab := { sch := lookT .done [], lp := lookT [] [(2, [(1, .sc (.adr)), (61, .ag A3), (62, .sc (.int .i64))])], jn := lookT none [(2, some [(1, .sc (.adr)), (61, .ag A3), (62, .sc (.int .i64))])] }
theorem eq_kind_bare (n_0 : TS A2) (h : Heap) (Q : Value → Heap → Prop) : fnI P Tryd.f80 tab_kind_bare [(agS A2 n_0)] h Q = kind_bare n_0 h Q := by kernel_rfl
theorem ok_kind_bare : fnOk P Tryd.f80 tab_kind_bare = true := by kernel_rfl
theorem call_kind_bare (n_0 : TS A2) {h : Heap} {Q : Value → Heap → Prop} (H : kind_bare n_0 h Q) : callP P n_kind_bare #[(agS A2 n_0)] h Q :=
 @callP_of P n_kind_bare Tryd.f80 tab_kind_bare [(agS A2 n_0)] h Q mixed Tryd.func80 Tryd.call80 ok_kind_bare (Eq.mpr (eq_kind_bare n_0 h Q) H)

/-! ### earshot/kind.Span: function 82 -/
def kind_Span (n_0 : TS A2) (h : Heap) (Q : Value → Heap → Prop) : Prop :=
 newI h (.cells (mkS' A2 n_0).toArray 25 (0, 0)) fun b1 h2 =>
 ldAg A2 h2 ⟨b1, 0, none⟩ fun x3 =>
 callBool P n_kind_has #[(agS A2 x3), (.int .i64 (1 : Int))] h2 fun b5 h4 =>
 ifB b5 (
 ldInt .i64 h4 ⟨b1, 3, none⟩ fun n6 =>
 ldInt .i64 h4 ⟨b1, 5, none⟩ fun n7 =>
 Q (.int .i64 (IntKind.wrap .i64 ((IntKind.wrap .i64 ((IntKind.wrap .i64 (n6 - (1 : Int))) * n7)) + (1 : Int)))) h4) (
 ldAg A2 h4 ⟨b1, 0, none⟩ fun x8 =>
 callBool P n_kind_has #[(agS A2 x8), (.int .i64 (16 : Int))] h4 fun b10 h9 =>
 ifB b10 (
 ldInt .i64 h9 ⟨b1, 3, none⟩ fun n11 =>
 Q (.int .i64 n11) h9) (
 Q (.int .i64 (1 : Int)) h9))
noncomputable def tab_kind_Span : Tab := { sch := lookT .done [], lp := lookT [] [], jn := lookT none [] }
theorem eq_kind_Span (n_0 : TS A2) (h : Heap) (Q : Value → Heap → Prop) : fnI P Tryd.f82 tab_kind_Span [(agS A2 n_0)] h Q = kind_Span n_0 h Q := by kernel_rfl
theorem ok_kind_Span : fnOk P Tryd.f82 tab_kind_Span = true := by kernel_rfl
theorem call_kind_Span (n_0 : TS A2) {h : Heap} {Q : Value → Heap → Prop} (H : kind_Span n_0 h Q) : callP P n_kind_Span #[(agS A2 n_0)] h Q :=
 @callP_of P n_kind_Span Tryd.f82 tab_kind_Span [(agS A2 n_0)] h Q mixed Tryd.func82 Tryd.call82 ok_kind_Span (Eq.mpr (eq_kind_Span n_0 h Q) H)

/-! ### earshot/kind.fits: function 81 -/
def kind_fits_j14 (Q : Value → Heap → Prop) (n_2 : Addr) (h8 : Heap) : Prop :=
 ldInt .i64 h8 (Addr.add n_2 10) fun n9 =>
 callBool P n_kind_in #[(.int .i64 n9), (.int .i64 (0 : Int)), (.int .i64 (32767 : Int))] h8 fun b11 h10 =>
 ifB b11 (
 ldInt .i64 h10 (Addr.add n_2 11) fun n12 =>
 callBool P n_kind_in #[(.int .i64 n12), (.int .i64 (0 : Int)), (.int .i64 (30 : Int))] h10 fun b14 h13 =>
 ifB b14 (
 ldInt .i64 h13 (Addr.add n_2 12) fun n15 =>
 ldInt .i64 h13 (Addr.add n_2 13) fun n16 =>
 callBool P n_kind_in #[(.int .i64 n15), (.int .i64 (-2147483648 : Int)), (.int .i64 n16)] h13 fun b18 h17 =>
 ifB b18 (
 ldInt .i64 h17 (Addr.add n_2 13) fun n19 =>
 ldInt .i64 h17 (Addr.add n_2 12) fun n20 =>
 callBool P n_kind_in #[(.int .i64 n19), (.int .i64 n20), (.int .i64 (2147483647 : Int))] h17 fun b22 h21 =>
 Q (.bool b22) h21) (
 Q (.bool false) h17)) (
 Q (.bool false) h13)) (
 Q (.bool false) h10)
def kind_fits_j5 (Q : Value → Heap → Prop) (width_1 : Int) (n_2 : Addr) (h6 : Heap) : Prop :=
 ∃ J7 : (Addr × Unit) → Heap → Prop, (∀ s h, J7 s h → kind_fits_j14 Q s.1 h) ∧
 ldAg A2 h6 n_2 fun x23 =>
 callBool P n_kind_has #[(agS A2 x23), (.int .i64 (4 : Int))] h6 fun b25 h24 =>
 ifB b25 (
 ldInt .i64 h24 (Addr.add n_2 2) fun n26 =>
 ldInt .i64 h24 n_2 fun n27 =>
 ifB (n27 == (2 : Int)) (
 ldInt .i64 h24 (Addr.add n_2 3) fun n28 =>
 ldSlice h24 (Addr.add n_2 8) fun p29 l29 c29 =>
 ifB (((l29 : Nat) : Int) != (IntKind.wrap .i64 (width_1 * (IntKind.wrap .i64 ((1 : Int) * n28))))) (
 Q (.bool false) h24) (
 ldSlice h24 (Addr.add n_2 9) fun p30 l30 c30 =>
 ifB (((l30 : Nat) : Int) != width_1) (
 Q (.bool false) h24) (
 ldSlice h24 (Addr.add n_2 8) fun p31 l31 c31 =>
 callBool P n_kind_every #[(.slice p31 l31 c31), (.int .i64 (-128 : Int)), (.int .i64 (127 : Int))] h24 fun b33 h32 =>
 ifB (!b33) (
 Q (.bool false) h32) (
 ldSlice h32 (Addr.add n_2 9) fun p34 l34 c34 =>
 callBool P n_kind_every #[(.slice p34 l34 c34), (.int .i64 (-16777216 : Int)), (.int .i64 (16777216 : Int))] h32 fun b36 h35 =>
 ifB (!b36) (
 Q (.bool false) h35) (
 J7 (n_2, ()) h35))))) (
 ifB (n27 == (1 : Int)) (
 ldInt .i64 h24 (Addr.add n_2 3) fun n37 =>
 ldSlice h24 (Addr.add n_2 8) fun p38 l38 c38 =>
 ifB (((l38 : Nat) : Int) != (IntKind.wrap .i64 (n26 * (IntKind.wrap .i64 (width_1 * n37))))) (
 Q (.bool false) h24) (
 ldSlice h24 (Addr.add n_2 9) fun p39 l39 c39 =>
 ifB (((l39 : Nat) : Int) != n26) (
 Q (.bool false) h24) (
 ldSlice h24 (Addr.add n_2 8) fun p40 l40 c40 =>
 callBool P n_kind_every #[(.slice p40 l40 c40), (.int .i64 (-128 : Int)), (.int .i64 (127 : Int))] h24 fun b42 h41 =>
 ifB (!b42) (
 Q (.bool false) h41) (
 ldSlice h41 (Addr.add n_2 9) fun p43 l43 c43 =>
 callBool P n_kind_every #[(.slice p43 l43 c43), (.int .i64 (-16777216 : Int)), (.int .i64 (16777216 : Int))] h41 fun b45 h44 =>
 ifB (!b45) (
 Q (.bool false) h44) (
 J7 (n_2, ()) h44))))) (
 ldSlice h24 (Addr.add n_2 8) fun p46 l46 c46 =>
 ifB (((l46 : Nat) : Int) != (IntKind.wrap .i64 (n26 * width_1))) (
 Q (.bool false) h24) (
 ldSlice h24 (Addr.add n_2 9) fun p47 l47 c47 =>
 ifB (((l47 : Nat) : Int) != n26) (
 Q (.bool false) h24) (
 ldSlice h24 (Addr.add n_2 8) fun p48 l48 c48 =>
 callBool P n_kind_every #[(.slice p48 l48 c48), (.int .i64 (-128 : Int)), (.int .i64 (127 : Int))] h24 fun b50 h49 =>
 ifB (!b50) (
 Q (.bool false) h49) (
 ldSlice h49 (Addr.add n_2 9) fun p51 l51 c51 =>
 callBool P n_kind_every #[(.slice p51 l51 c51), (.int .i64 (-16777216 : Int)), (.int .i64 (16777216 : Int))] h49 fun b53 h52 =>
 ifB (!b53) (
 Q (.bool false) h52) (
 J7 (n_2, ()) h52))))))) (
 J7 (n_2, ()) h24)
def kind_fits_j3 (Q : Value → Heap → Prop) (width_1 : Int) (n_2 : Addr) (h4 : Heap) : Prop :=
 ∃ J5 : (Int × Addr × Unit) → Heap → Prop, (∀ s h, J5 s h → kind_fits_j5 Q s.1 s.2.1 h) ∧
 ldAg A2 h4 n_2 fun x54 =>
 callBool P n_kind_has #[(agS A2 x54), (.int .i64 (1 : Int))] h4 fun b56 h55 =>
 ifB b56 (
 ldInt .i64 h55 (Addr.add n_2 4) fun n57 =>
 callBool P n_kind_in #[(.int .i64 n57), (.int .i64 (1 : Int)), (.int .i64 (4 : Int))] h55 fun b59 h58 =>
 ifB b59 (
 ldInt .i64 h58 (Addr.add n_2 5) fun n60 =>
 callBool P n_kind_in #[(.int .i64 n60), (.int .i64 (1 : Int)), (.int .i64 (4 : Int))] h58 fun b62 h61 =>
 ifB b62 (
 ldInt .i64 h61 (Addr.add n_2 6) fun n63 =>
 ldAg A2 h61 n_2 fun x64 =>
 callInt P .i64 n_kind_Span #[(agS A2 x64)] h61 fun n66 h65 =>
 cellH h65 (Addr.add n_2 6) = some (.int .i64 n63) ∧
 callBool P n_kind_in #[(.int .i64 n63), (.int .i64 (0 : Int)), (.int .i64 (IntKind.wrap .i64 (n66 - (1 : Int))))] h65 fun b68 h67 =>
 ifB b68 (
 ldInt .i64 h67 (Addr.add n_2 7) fun n69 =>
 ldAg A2 h67 n_2 fun x70 =>
 callInt P .i64 n_kind_Span #[(agS A2 x70)] h67 fun n72 h71 =>
 cellH h71 (Addr.add n_2 7) = some (.int .i64 n69) ∧
 cellH h71 (Addr.add n_2 6) = some (.int .i64 n63) ∧
 callBool P n_kind_in #[(.int .i64 n69), (.int .i64 (0 : Int)), (.int .i64 (IntKind.wrap .i64 (n72 - (1 : Int))))] h71 fun b74 h73 =>
 cellH h73 (Addr.add n_2 6) = some (.int .i64 n63) ∧
 ifB (!b74) (
 Q (.bool false) h73) (
 J5 (width_1, n_2, ()) h73)) (
 cellH h67 (Addr.add n_2 6) = some (.int .i64 n63) ∧
 cellH h67 (Addr.add n_2 6) = some (.int .i64 n63) ∧
 ifB (!false) (
 Q (.bool false) h67) (
 J5 (width_1, n_2, ()) h67))) (
 ifB (!false) (
 Q (.bool false) h61) (
 J5 (width_1, n_2, ()) h61))) (
 ifB (!false) (
 Q (.bool false) h58) (
 J5 (width_1, n_2, ()) h58))) (
 J5 (width_1, n_2, ()) h55)
def kind_fits (n_0 : TS A2) (width_1 : Int) (h : Heap) (Q : Value → Heap → Prop) : Prop :=
 newI h (.cells (mkS' A2 n_0).toArray 25 (0, 0)) fun b1 h2 =>
 ∃ J3 : (Int × Addr × Unit) → Heap → Prop, (∀ s h, J3 s h → kind_fits_j3 Q s.1 s.2.1 h) ∧
 ldAg A2 h2 ⟨b1, 0, none⟩ fun x75 =>
 callBool P n_kind_has #[(agS A2 x75), (.int .i64 (17 : Int))] h2 fun b77 h76 =>
 ifB b77 (
 ldInt .i64 h76 ⟨b1, 3, none⟩ fun n78 =>
 callBool P n_kind_in #[(.int .i64 n78), (.int .i64 (1 : Int)), (.int .i64 (8 : Int))] h76 fun b80 h79 =>
 ifB (!b80) (
 Q (.bool false) h79) (
 ldAg A2 h79 ⟨b1, 0, none⟩ fun x81 =>
 callBool P n_kind_has #[(agS A2 x81), (.int .i64 (2 : Int))] h79 fun b83 h82 =>
 ifB b83 (
 ldInt .i64 h82 ⟨b1, 2, none⟩ fun n84 =>
 callBool P n_kind_in #[(.int .i64 n84), (.int .i64 (1 : Int)), (.int .i64 (16 : Int))] h82 fun b86 h85 =>
 ifB (!b86) (
 Q (.bool false) h85) (
 J3 (width_1, ⟨b1, 0, none⟩, ()) h85)) (
 J3 (width_1, ⟨b1, 0, none⟩, ()) h82))) (
 ldAg A2 h76 ⟨b1, 0, none⟩ fun x87 =>
 callBool P n_kind_has #[(agS A2 x87), (.int .i64 (2 : Int))] h76 fun b89 h88 =>
 ifB b89 (
 ldInt .i64 h88 ⟨b1, 2, none⟩ fun n90 =>
 callBool P n_kind_in #[(.int .i64 n90), (.int .i64 (1 : Int)), (.int .i64 (16 : Int))] h88 fun b92 h91 =>
 ifB (!b92) (
 Q (.bool false) h91) (
 J3 (width_1, ⟨b1, 0, none⟩, ()) h91)) (
 J3 (width_1, ⟨b1, 0, none⟩, ()) h88))
noncomputable def tab_kind_fits : Tab := { sch := lookT .done [(3, (.alt 0 (.alt 1 (ones [2, 3] (.alt 4 (.alt 5 (ones [6, 7] (.alt 8 (.alt 9 (ones [10, 11, 12] (.early 13 (.alt 14 (.alt 15 (ones [16] (.alt 17 (ones [18, 19, 20] (.early 21 (.alt 22 (.alt 23 (ones [24] (.alt 25 (ones [26, 27, 28] .done) .stop)) .stop) .stop))) .stop)) .stop) .stop))) .stop) .stop)) .stop) .stop)) .stop) .stop))], lp := lookT [] [], jn := lookT none [(3, some [(1, .sc (.int .i64)), (2, .sc (.adr))]), (5, some [(1, .sc (.int .i64)), (2, .sc (.adr))]), (14, some [(2, .sc (.adr))])] }
theorem eq_kind_fits (n_0 : TS A2) (width_1 : Int) (h : Heap) (Q : Value → Heap → Prop) : fnI P Tryd.f81 tab_kind_fits [(agS A2 n_0), (.int .i64 width_1)] h Q = kind_fits n_0 width_1 h Q := by kernel_rfl
theorem ok_kind_fits : fnOk P Tryd.f81 tab_kind_fits = true := by kernel_rfl
theorem call_kind_fits (n_0 : TS A2) (width_1 : Int) {h : Heap} {Q : Value → Heap → Prop} (H : kind_fits n_0 width_1 h Q) : callP P n_kind_fits #[(agS A2 n_0), (.int .i64 width_1)] h Q :=
 @callP_of P n_kind_fits Tryd.f81 tab_kind_fits [(agS A2 n_0), (.int .i64 width_1)] h Q mixed Tryd.func81 Tryd.call81 ok_kind_fits (Eq.mpr (eq_kind_fits n_0 width_1 h Q) H)

/-! ### earshot/kind.Check: function 62 -/
def kind_Check_l11 (Q : Value → Heap → Prop) (K1 : Y5 → Heap → Prop) (widths_1_p : Option Addr) (widths_1_n : Nat) (widths_1_c : Nat) (n_2 : Addr) (sum_5 : Int) (t72_p : Option Addr) (t72_n : Nat) (t72_c : Nat) (t73 : Int) (t74 : Int) (h5 : Heap) : Prop :=
 ifB (decide (t74 < t73)) (
 idxI t72_p t74 t72_n fun a6 =>
 ldInt .i64 h5 (Addr.add a6 (t74.toNat * 1)) fun n7 =>
 ldInt .i64 h5 n_2 fun n8 =>
 ifB (n8 == (7 : Int)) (
 idxI widths_1_p (0 : Int) widths_1_n fun a9 =>
 ldInt .i64 h5 (Addr.add a9 ((0 : Int).toNat * 1)) fun n10 =>
 ifB (n7 != n10) (
 Q (.int .i64 (14 : Int)) h5) (
 K1 ((widths_1_p, widths_1_n, widths_1_c), n_2, (IntKind.wrap .i64 (sum_5 + n7)), (t72_p, t72_n, t72_c), t73, (IntKind.wrap .i64 (t74 + (1 : Int))), ()) h5)) (
 K1 ((widths_1_p, widths_1_n, widths_1_c), n_2, (IntKind.wrap .i64 (sum_5 + n7)), (t72_p, t72_n, t72_c), t73, (IntKind.wrap .i64 (t74 + (1 : Int))), ()) h5)) (
 ldInt .i64 h5 n_2 fun n11 =>
 ifB (n11 == (8 : Int)) (
 ifB (decide (sum_5 > (16 : Int))) (
 Q (.int .i64 (14 : Int)) h5) (
 Q (.int .i64 (0 : Int)) h5)) (
 Q (.int .i64 (0 : Int)) h5))
def kind_Check_j9 (Q : Value → Heap → Prop) (widths_1_p : Option Addr) (widths_1_n : Nat) (widths_1_c : Nat) (n_2 : Addr) (h4 : Heap) : Prop :=
 LoopS (S := Y5) (fun K1 s h => kind_Check_l11 Q K1 s.1.1 s.1.2.1 s.1.2.2 s.2.1 s.2.2.1 s.2.2.2.1.1 s.2.2.2.1.2.1 s.2.2.2.1.2.2 s.2.2.2.2.1 s.2.2.2.2.2.1 h) ((widths_1_p, widths_1_n, widths_1_c), n_2, (0 : Int), (widths_1_p, widths_1_n, widths_1_c), ((widths_1_n : Nat) : Int), (0 : Int), ()) h4
def kind_Check (n_0 : TS A2) (widths_1_p : Option Addr) (widths_1_n : Nat) (widths_1_c : Nat) (h : Heap) (Q : Value → Heap → Prop) : Prop :=
 newI h (.cells (mkS' A2 n_0).toArray 25 (0, 0)) fun b1 h2 =>
 ∃ J3 : ((Option Addr × Nat × Nat) × Addr × Unit) → Heap → Prop, (∀ s h, J3 s h → kind_Check_j9 Q s.1.1 s.1.2.1 s.1.2.2 s.2.1 h) ∧
 ldSlice h2 ⟨b1, 1, none⟩ fun p12 l12 c12 =>
 ifB (((widths_1_n : Nat) : Int) != ((l12 : Nat) : Int)) (
 Q (.int .i64 (1 : Int)) h2) (
 callBool P n_kind_every #[(.slice widths_1_p widths_1_n widths_1_c), (.int .i64 (1 : Int)), (.int .i64 (16 : Int))] h2 fun b14 h13 =>
 ifB (!b14) (
 Q (.int .i64 (1 : Int)) h13) (
 ldInt .i64 h13 ⟨b1, 0, none⟩ fun n15 =>
 callBool P n_kind_in #[(.int .i64 n15), (.int .i64 (1 : Int)), (.int .i64 (12 : Int))] h13 fun b17 h16 =>
 ifB (!b17) (
 Q (.int .i64 (12 : Int)) h16) (
 ldInt .i64 h16 ⟨b1, 14, none⟩ fun n18 =>
 callBool P n_kind_in #[(.int .i64 n18), (.int .i64 (0 : Int)), (.int .i64 (3 : Int))] h16 fun b20 h19 =>
 ifB (!b20) (
 Q (.int .i64 (12 : Int)) h19) (
 ldInt .i64 h19 ⟨b1, 14, none⟩ fun n21 =>
 ifB (n21 != (0 : Int)) (
 ldAg A2 h19 ⟨b1, 0, none⟩ fun x22 =>
 callBool P n_kind_has #[(agS A2 x22), (.int .i64 (4 : Int))] h19 fun b24 h23 =>
 ifB (!b24) (
 Q (.int .i64 (12 : Int)) h23) (
 ldAg A2 h23 ⟨b1, 0, none⟩ fun x25 =>
 callBool P n_kind_has #[(agS A2 x25), (.int .i64 (8 : Int))] h23 fun b27 h26 =>
 ifB b27 (
 callBool P n_kind_in #[(.int .i64 ((widths_1_n : Nat) : Int)), (.int .i64 (2 : Int)), (.int .i64 (4 : Int))] h26 fun b29 h28 =>
 ifB (!b29) (
 Q (.int .i64 (12 : Int)) h28) (
 ldAg A2 h28 ⟨b1, 0, none⟩ fun x30 =>
 callBool P n_kind_has #[(agS A2 x30), (.int .i64 (8 : Int))] h28 fun b32 h31 =>
 ifB (!b32) (
 ifB (((widths_1_n : Nat) : Int) != (1 : Int)) (
 Q (.int .i64 (12 : Int)) h31) (
 ldAg A2 h31 ⟨b1, 0, none⟩ fun x33 =>
 callBool P n_kind_bare #[(agS A2 x33)] h31 fun b35 h34 =>
 ifB (!b35) (
 Q (.int .i64 (12 : Int)) h34) (
 idxI widths_1_p (0 : Int) widths_1_n fun a36 =>
 ldAg A2 h34 ⟨b1, 0, none⟩ fun x37 =>
 ldInt .i64 h34 (Addr.add a36 ((0 : Int).toNat * 1)) fun n38 =>
 callBool P n_kind_fits #[(agS A2 x37), (.int .i64 n38)] h34 fun b40 h39 =>
 ifB (!b40) (
 Q (.int .i64 (22 : Int)) h39) (
 J3 ((widths_1_p, widths_1_n, widths_1_c), ⟨b1, 0, none⟩, ()) h39)))) (
 ldAg A2 h31 ⟨b1, 0, none⟩ fun x41 =>
 callBool P n_kind_bare #[(agS A2 x41)] h31 fun b43 h42 =>
 ifB (!b43) (
 Q (.int .i64 (12 : Int)) h42) (
 idxI widths_1_p (0 : Int) widths_1_n fun a44 =>
 ldAg A2 h42 ⟨b1, 0, none⟩ fun x45 =>
 ldInt .i64 h42 (Addr.add a44 ((0 : Int).toNat * 1)) fun n46 =>
 callBool P n_kind_fits #[(agS A2 x45), (.int .i64 n46)] h42 fun b48 h47 =>
 ifB (!b48) (
 Q (.int .i64 (22 : Int)) h47) (
 J3 ((widths_1_p, widths_1_n, widths_1_c), ⟨b1, 0, none⟩, ()) h47))))) (
 ldAg A2 h26 ⟨b1, 0, none⟩ fun x49 =>
 callBool P n_kind_has #[(agS A2 x49), (.int .i64 (8 : Int))] h26 fun b51 h50 =>
 ifB (!b51) (
 ifB (((widths_1_n : Nat) : Int) != (1 : Int)) (
 Q (.int .i64 (12 : Int)) h50) (
 ldAg A2 h50 ⟨b1, 0, none⟩ fun x52 =>
 callBool P n_kind_bare #[(agS A2 x52)] h50 fun b54 h53 =>
 ifB (!b54) (
 Q (.int .i64 (12 : Int)) h53) (
 idxI widths_1_p (0 : Int) widths_1_n fun a55 =>
 ldAg A2 h53 ⟨b1, 0, none⟩ fun x56 =>
 ldInt .i64 h53 (Addr.add a55 ((0 : Int).toNat * 1)) fun n57 =>
 callBool P n_kind_fits #[(agS A2 x56), (.int .i64 n57)] h53 fun b59 h58 =>
 ifB (!b59) (
 Q (.int .i64 (22 : Int)) h58) (
 J3 ((widths_1_p, widths_1_n, widths_1_c), ⟨b1, 0, none⟩, ()) h58)))) (
 ldAg A2 h50 ⟨b1, 0, none⟩ fun x60 =>
 callBool P n_kind_bare #[(agS A2 x60)] h50 fun b62 h61 =>
 ifB (!b62) (
 Q (.int .i64 (12 : Int)) h61) (
 idxI widths_1_p (0 : Int) widths_1_n fun a63 =>
 ldAg A2 h61 ⟨b1, 0, none⟩ fun x64 =>
 ldInt .i64 h61 (Addr.add a63 ((0 : Int).toNat * 1)) fun n65 =>
 callBool P n_kind_fits #[(agS A2 x64), (.int .i64 n65)] h61 fun b67 h66 =>
 ifB (!b67) (
 Q (.int .i64 (22 : Int)) h66) (
 J3 ((widths_1_p, widths_1_n, widths_1_c), ⟨b1, 0, none⟩, ()) h66)))))) (
 ldAg A2 h19 ⟨b1, 0, none⟩ fun x68 =>
 callBool P n_kind_has #[(agS A2 x68), (.int .i64 (8 : Int))] h19 fun b70 h69 =>
 ifB b70 (
 callBool P n_kind_in #[(.int .i64 ((widths_1_n : Nat) : Int)), (.int .i64 (2 : Int)), (.int .i64 (4 : Int))] h69 fun b72 h71 =>
 ifB (!b72) (
 Q (.int .i64 (12 : Int)) h71) (
 ldAg A2 h71 ⟨b1, 0, none⟩ fun x73 =>
 callBool P n_kind_has #[(agS A2 x73), (.int .i64 (8 : Int))] h71 fun b75 h74 =>
 ifB (!b75) (
 ifB (((widths_1_n : Nat) : Int) != (1 : Int)) (
 Q (.int .i64 (12 : Int)) h74) (
 ldAg A2 h74 ⟨b1, 0, none⟩ fun x76 =>
 callBool P n_kind_bare #[(agS A2 x76)] h74 fun b78 h77 =>
 ifB (!b78) (
 Q (.int .i64 (12 : Int)) h77) (
 idxI widths_1_p (0 : Int) widths_1_n fun a79 =>
 ldAg A2 h77 ⟨b1, 0, none⟩ fun x80 =>
 ldInt .i64 h77 (Addr.add a79 ((0 : Int).toNat * 1)) fun n81 =>
 callBool P n_kind_fits #[(agS A2 x80), (.int .i64 n81)] h77 fun b83 h82 =>
 ifB (!b83) (
 Q (.int .i64 (22 : Int)) h82) (
 J3 ((widths_1_p, widths_1_n, widths_1_c), ⟨b1, 0, none⟩, ()) h82)))) (
 ldAg A2 h74 ⟨b1, 0, none⟩ fun x84 =>
 callBool P n_kind_bare #[(agS A2 x84)] h74 fun b86 h85 =>
 ifB (!b86) (
 Q (.int .i64 (12 : Int)) h85) (
 idxI widths_1_p (0 : Int) widths_1_n fun a87 =>
 ldAg A2 h85 ⟨b1, 0, none⟩ fun x88 =>
 ldInt .i64 h85 (Addr.add a87 ((0 : Int).toNat * 1)) fun n89 =>
 callBool P n_kind_fits #[(agS A2 x88), (.int .i64 n89)] h85 fun b91 h90 =>
 ifB (!b91) (
 Q (.int .i64 (22 : Int)) h90) (
 J3 ((widths_1_p, widths_1_n, widths_1_c), ⟨b1, 0, none⟩, ()) h90))))) (
 ldAg A2 h69 ⟨b1, 0, none⟩ fun x92 =>
 callBool P n_kind_has #[(agS A2 x92), (.int .i64 (8 : Int))] h69 fun b94 h93 =>
 ifB (!b94) (
 ifB (((widths_1_n : Nat) : Int) != (1 : Int)) (
 Q (.int .i64 (12 : Int)) h93) (
 ldAg A2 h93 ⟨b1, 0, none⟩ fun x95 =>
 callBool P n_kind_bare #[(agS A2 x95)] h93 fun b97 h96 =>
 ifB (!b97) (
 Q (.int .i64 (12 : Int)) h96) (
 idxI widths_1_p (0 : Int) widths_1_n fun a98 =>
 ldAg A2 h96 ⟨b1, 0, none⟩ fun x99 =>
 ldInt .i64 h96 (Addr.add a98 ((0 : Int).toNat * 1)) fun n100 =>
 callBool P n_kind_fits #[(agS A2 x99), (.int .i64 n100)] h96 fun b102 h101 =>
 ifB (!b102) (
 Q (.int .i64 (22 : Int)) h101) (
 J3 ((widths_1_p, widths_1_n, widths_1_c), ⟨b1, 0, none⟩, ()) h101)))) (
 ldAg A2 h93 ⟨b1, 0, none⟩ fun x103 =>
 callBool P n_kind_bare #[(agS A2 x103)] h93 fun b105 h104 =>
 ifB (!b105) (
 Q (.int .i64 (12 : Int)) h104) (
 idxI widths_1_p (0 : Int) widths_1_n fun a106 =>
 ldAg A2 h104 ⟨b1, 0, none⟩ fun x107 =>
 ldInt .i64 h104 (Addr.add a106 ((0 : Int).toNat * 1)) fun n108 =>
 callBool P n_kind_fits #[(agS A2 x107), (.int .i64 n108)] h104 fun b110 h109 =>
 ifB (!b110) (
 Q (.int .i64 (22 : Int)) h109) (
 J3 ((widths_1_p, widths_1_n, widths_1_c), ⟨b1, 0, none⟩, ()) h109)))))))))
noncomputable def tab_kind_Check : Tab := { sch := lookT .done [(7, (ones [1, 2, 0, 3] (.alt 4 (ones [5, 6] .done) .stop)))], lp := lookT [] [(11, [(1, .sc (.slice)), (2, .sc (.adr)), (5, .sc (.int .i64)), (72, .sc (.slice)), (73, .sc (.int .i64)), (74, .sc (.int .i64))])], jn := lookT none [(9, some [(1, .sc (.slice)), (2, .sc (.adr))])] }
theorem eq_kind_Check (n_0 : TS A2) (widths_1_p : Option Addr) (widths_1_n : Nat) (widths_1_c : Nat) (h : Heap) (Q : Value → Heap → Prop) : fnI P Tryd.f62 tab_kind_Check [(agS A2 n_0), (.slice widths_1_p widths_1_n widths_1_c)] h Q = kind_Check n_0 widths_1_p widths_1_n widths_1_c h Q := by kernel_rfl
theorem ok_kind_Check : fnOk P Tryd.f62 tab_kind_Check = true := by kernel_rfl
theorem call_kind_Check (n_0 : TS A2) (widths_1_p : Option Addr) (widths_1_n : Nat) (widths_1_c : Nat) {h : Heap} {Q : Value → Heap → Prop} (H : kind_Check n_0 widths_1_p widths_1_n widths_1_c h Q) : callP P n_kind_Check #[(agS A2 n_0), (.slice widths_1_p widths_1_n widths_1_c)] h Q :=
 @callP_of P n_kind_Check Tryd.f62 tab_kind_Check [(agS A2 n_0), (.slice widths_1_p widths_1_n widths_1_c)] h Q mixed Tryd.func62 Tryd.call62 ok_kind_Check (Eq.mpr (eq_kind_Check n_0 widths_1_p widths_1_n widths_1_c h Q) H)

/-! ### earshot/graph.rate$1: function 83 -/
def graph_rate_1 (x_0 : Int) (free0 : Addr) (h : Heap) (Q : Value → Heap → Prop) : Prop :=
 ldInt .i64 h free0 fun n1 =>
 Q (.bool (x_0 != n1)) h
noncomputable def tab_graph_rate_1 : Tab := { sch := lookT .done [], lp := lookT [] [], jn := lookT none [] }
theorem eq_graph_rate_1 (x_0 : Int) (free0 : Addr) (h : Heap) (Q : Value → Heap → Prop) : fnI P Tryd.f83 tab_graph_rate_1 [(.int .i64 x_0), (.pointer (some free0))] h Q = graph_rate_1 x_0 free0 h Q := by kernel_rfl
theorem ok_graph_rate_1 : fnOk P Tryd.f83 tab_graph_rate_1 = true := by kernel_rfl
theorem call_graph_rate_1 (x_0 : Int) (free0 : Addr) {h : Heap} {Q : Value → Heap → Prop} (H : graph_rate_1 x_0 free0 h Q) : callP P n_graph_rate_1 #[(.int .i64 x_0), (.pointer (some free0))] h Q :=
 @callP_of P n_graph_rate_1 Tryd.f83 tab_graph_rate_1 [(.int .i64 x_0), (.pointer (some free0))] h Q mixed Tryd.func83 Tryd.call83 ok_graph_rate_1 (Eq.mpr (eq_graph_rate_1 x_0 free0 h Q) H)

/-! ### earshot/kind.Step: function 84 -/
def kind_Step (n_0 : TS A2) (h : Heap) (Q : Value → Heap → Prop) : Prop :=
 newI h (.cells (mkS' A2 n_0).toArray 25 (0, 0)) fun b1 h2 =>
 ldAg A2 h2 ⟨b1, 0, none⟩ fun x3 =>
 callBool P n_kind_has #[(agS A2 x3), (.int .i64 (1 : Int))] h2 fun b5 h4 =>
 ifB b5 (
 ldInt .i64 h4 ⟨b1, 4, none⟩ fun n6 =>
 Q (.int .i64 n6) h4) (
 Q (.int .i64 (1 : Int)) h4)
noncomputable def tab_kind_Step : Tab := { sch := lookT .done [], lp := lookT [] [], jn := lookT none [] }
theorem eq_kind_Step (n_0 : TS A2) (h : Heap) (Q : Value → Heap → Prop) : fnI P Tryd.f84 tab_kind_Step [(agS A2 n_0)] h Q = kind_Step n_0 h Q := by kernel_rfl
theorem ok_kind_Step : fnOk P Tryd.f84 tab_kind_Step = true := by kernel_rfl
theorem call_kind_Step (n_0 : TS A2) {h : Heap} {Q : Value → Heap → Prop} (H : kind_Step n_0 h Q) : callP P n_kind_Step #[(agS A2 n_0)] h Q :=
 @callP_of P n_kind_Step Tryd.f84 tab_kind_Step [(agS A2 n_0)] h Q mixed Tryd.func84 Tryd.call84 ok_kind_Step (Eq.mpr (eq_kind_Step n_0 h Q) H)

/-! ### earshot/graph.rate: function 63 -/
def graph_rate_j5 (Q : Value → Heap → Prop) (n_2 : Addr) (r_6 : Addr) (h11 : Heap) : Prop :=
 ldInt .i64 h11 n_2 fun n12 =>
 ifB (n12 == (5 : Int)) (
 Q (.tuple #[(.int .i64 (0 : Int)), (.bool true)]) h11) (
 ldAg A2 h11 n_2 fun x13 =>
 ldInt .i64 h11 r_6 fun n14 =>
 callInt P .i64 n_kind_Step #[(agS A2 x13)] h11 fun n16 h15 =>
 cellH h15 r_6 = some (.int .i64 n14) ∧
 Q (.tuple #[(.int .i64 (IntKind.wrap .i64 (n14 * n16))), (.bool true)]) h15)
def graph_rate_j3 (Q : Value → Heap → Prop) (rates_1_p : Option Addr) (rates_1_n : Nat) (rates_1_c : Nat) (n_2 : Addr) (r_6 : Addr) (windows_7 : Bool) (h9 : Heap) : Prop :=
 ∃ J10 : (Addr × Addr × Unit) → Heap → Prop, (∀ s h, J10 s h → graph_rate_j5 Q s.1 s.2.1 h) ∧
 callBool P n_slices_ContainsFunc_int_int #[(.slice rates_1_p rates_1_n rates_1_c), (.func (.func n_graph_rate_1) #[] #[(.pointer (some r_6))])] h9 fun b18 h17 =>
 ifB b18 (
 Q (.tuple #[(.int .i64 (0 : Int)), (.bool false)]) h17) (
 ldInt .i64 h17 r_6 fun n19 =>
 ifB (n19 == (0 : Int)) (
 ifB windows_7 (
 Q (.tuple #[(.int .i64 (0 : Int)), (.bool false)]) h17) (
 ldInt .i64 h17 n_2 fun n20 =>
 ifB (n20 == (5 : Int)) (
 Q (.tuple #[(.int .i64 (0 : Int)), (.bool false)]) h17) (
 J10 (n_2, r_6, ()) h17))) (
 J10 (n_2, r_6, ()) h17))
def graph_rate (n_0 : TS A2) (rates_1_p : Option Addr) (rates_1_n : Nat) (rates_1_c : Nat) (h : Heap) (Q : Value → Heap → Prop) : Prop :=
 newI h (.cells (mkS' A2 n_0).toArray 25 (0, 0)) fun b1 h2 =>
 idxI rates_1_p (0 : Int) rates_1_n fun a3 =>
 ldInt .i64 h2 (Addr.add a3 ((0 : Int).toNat * 1)) fun n4 =>
 newI h2 (.cells #[(.int .i64 (0 : Int))] 3 (0, 0)) fun b5 h6 =>
 stI h6 ⟨b5, 0, none⟩ (.int .i64 n4) fun h7 =>
 ∃ J8 : ((Option Addr × Nat × Nat) × Addr × Addr × Bool × Unit) → Heap → Prop, (∀ s h, J8 s h → graph_rate_j3 Q s.1.1 s.1.2.1 s.1.2.2 s.2.1 s.2.2.1 s.2.2.2.1 h) ∧
 ldAg A2 h7 ⟨b1, 0, none⟩ fun x21 =>
 callInt P .i64 n_kind_Span #[(agS A2 x21)] h7 fun n23 h22 =>
 ifB (decide (n23 > (1 : Int))) (
 J8 ((rates_1_p, rates_1_n, rates_1_c), ⟨b1, 0, none⟩, ⟨b5, 0, none⟩, true, ()) h22) (
 ldInt .i64 h22 ⟨b1, 0, none⟩ fun n24 =>
 ifB (decide (n24 ≤ (4 : Int))) (
 J8 ((rates_1_p, rates_1_n, rates_1_c), ⟨b1, 0, none⟩, ⟨b5, 0, none⟩, true, ()) h22) (
 ldInt .i64 h22 ⟨b1, 0, none⟩ fun n25 =>
 J8 ((rates_1_p, rates_1_n, rates_1_c), ⟨b1, 0, none⟩, ⟨b5, 0, none⟩, (n25 == (12 : Int)), ()) h22))
noncomputable def tab_graph_rate : Tab := { sch := lookT .done [(7, (ones [1] (.early 0 (.alt 2 (ones [3, 4, 5] .done) .stop))))], lp := lookT [] [], jn := lookT none [(3, some [(1, .sc (.slice)), (2, .sc (.adr)), (6, .sc (.adr)), (7, .sc (.bool))]), (5, some [(2, .sc (.adr)), (6, .sc (.adr))])] }
theorem eq_graph_rate (n_0 : TS A2) (rates_1_p : Option Addr) (rates_1_n : Nat) (rates_1_c : Nat) (h : Heap) (Q : Value → Heap → Prop) : fnI P Tryd.f63 tab_graph_rate [(agS A2 n_0), (.slice rates_1_p rates_1_n rates_1_c)] h Q = graph_rate n_0 rates_1_p rates_1_n rates_1_c h Q := by kernel_rfl
theorem ok_graph_rate : fnOk P Tryd.f63 tab_graph_rate = true := by kernel_rfl
theorem call_graph_rate (n_0 : TS A2) (rates_1_p : Option Addr) (rates_1_n : Nat) (rates_1_c : Nat) {h : Heap} {Q : Value → Heap → Prop} (H : graph_rate n_0 rates_1_p rates_1_n rates_1_c h Q) : callP P n_graph_rate #[(agS A2 n_0), (.slice rates_1_p rates_1_n rates_1_c)] h Q :=
 @callP_of P n_graph_rate Tryd.f63 tab_graph_rate [(agS A2 n_0), (.slice rates_1_p rates_1_n rates_1_c)] h Q mixed Tryd.func63 Tryd.call63 ok_graph_rate (Eq.mpr (eq_graph_rate n_0 rates_1_p rates_1_n rates_1_c h Q) H)

/-! ### earshot/kind.Width: function 64 -/
def kind_Width_l10 (Q : Value → Heap → Prop) (K1 : (Int × (Option Addr × Nat × Nat) × Int × Int × Unit) → Heap → Prop) (sum_5 : Int) (t25_p : Option Addr) (t25_n : Nat) (t25_c : Nat) (t26 : Int) (t27 : Int) (h12 : Heap) : Prop :=
 ifB (decide (t27 < t26)) (
 idxI t25_p t27 t25_n fun a13 =>
 ldInt .i64 h12 (Addr.add a13 (t27.toNat * 1)) fun n14 =>
 K1 ((IntKind.wrap .i64 (sum_5 + n14)), (t25_p, t25_n, t25_c), t26, (IntKind.wrap .i64 (t27 + (1 : Int))), ()) h12) (
 Q (.int .i64 sum_5) h12)
def kind_Width (n_0 : TS A2) (widths_1_p : Option Addr) (widths_1_n : Nat) (widths_1_c : Nat) (h : Heap) (Q : Value → Heap → Prop) : Prop :=
 newI h (.cells (mkS' A2 n_0).toArray 25 (0, 0)) fun b1 h2 =>
 ldAg A2 h2 ⟨b1, 0, none⟩ fun x3 =>
 callInt P .i64 n_kind_Check #[(agS A2 x3), (.slice widths_1_p widths_1_n widths_1_c)] h2 fun n5 h4 =>
 ifB (n5 != (0 : Int)) (
 Q (.int .i64 (0 : Int)) h4) (
 ldAg A2 h4 ⟨b1, 0, none⟩ fun x6 =>
 callBool P n_kind_has #[(agS A2 x6), (.int .i64 (2 : Int))] h4 fun b8 h7 =>
 ifB b8 (
 ldInt .i64 h7 ⟨b1, 2, none⟩ fun n9 =>
 Q (.int .i64 n9) h7) (
 ldInt .i64 h7 ⟨b1, 0, none⟩ fun n10 =>
 ifB (n10 == (11 : Int)) (
 Q (.int .i64 (1 : Int)) h7) (
 ldInt .i64 h7 ⟨b1, 0, none⟩ fun n11 =>
 ifB (n11 == (8 : Int)) (
 LoopS (S := (Int × (Option Addr × Nat × Nat) × Int × Int × Unit)) (fun K1 s h => kind_Width_l10 Q K1 s.1 s.2.1.1 s.2.1.2.1 s.2.1.2.2 s.2.2.1 s.2.2.2.1 h) ((0 : Int), (widths_1_p, widths_1_n, widths_1_c), ((widths_1_n : Nat) : Int), (0 : Int), ()) h7) (
 idxI widths_1_p (0 : Int) widths_1_n fun a15 =>
 ldInt .i64 h7 (Addr.add a15 ((0 : Int).toNat * 1)) fun n16 =>
 Q (.int .i64 n16) h7))))
noncomputable def tab_kind_Width : Tab := { sch := lookT .done [], lp := lookT [] [(10, [(5, .sc (.int .i64)), (25, .sc (.slice)), (26, .sc (.int .i64)), (27, .sc (.int .i64))])], jn := lookT none [] }
theorem eq_kind_Width (n_0 : TS A2) (widths_1_p : Option Addr) (widths_1_n : Nat) (widths_1_c : Nat) (h : Heap) (Q : Value → Heap → Prop) : fnI P Tryd.f64 tab_kind_Width [(agS A2 n_0), (.slice widths_1_p widths_1_n widths_1_c)] h Q = kind_Width n_0 widths_1_p widths_1_n widths_1_c h Q := by kernel_rfl
theorem ok_kind_Width : fnOk P Tryd.f64 tab_kind_Width = true := by kernel_rfl
theorem call_kind_Width (n_0 : TS A2) (widths_1_p : Option Addr) (widths_1_n : Nat) (widths_1_c : Nat) {h : Heap} {Q : Value → Heap → Prop} (H : kind_Width n_0 widths_1_p widths_1_n widths_1_c h Q) : callP P n_kind_Width #[(agS A2 n_0), (.slice widths_1_p widths_1_n widths_1_c)] h Q :=
 @callP_of P n_kind_Width Tryd.f64 tab_kind_Width [(agS A2 n_0), (.slice widths_1_p widths_1_n widths_1_c)] h Q mixed Tryd.func64 Tryd.call64 ok_kind_Width (Eq.mpr (eq_kind_Width n_0 widths_1_p widths_1_n widths_1_c h Q) H)

/-! ### earshot/graph.look: function 35 -/
def graph_look_l10 (Q : Value → Heap → Prop) (K1 : Y6 → Heap → Prop) (g_1 : Addr) (t2 : Addr) (k_7 : Addr) (t49_p : Option Addr) (t49_n : Nat) (t49_c : Nat) (t50 : Int) (t51 : Int) (h43 : Heap) : Prop :=
 ifB (decide (t51 < t50)) (
 idxI t49_p t51 t49_n fun a44 =>
 ldInt .i64 h43 (Addr.add a44 (t51.toNat * 1)) fun n45 =>
 ldSlice h43 (Addr.add g_1 3) fun p46 l46 c46 =>
 idxI p46 (IntKind.wrap .i64 (n45 - (1 : Int))) l46 fun a47 =>
 ldAg A2 h43 (Addr.add a47 ((IntKind.wrap .i64 (n45 - (1 : Int))).toNat * 15)) fun x48 =>
 newI h43 (.cells (mkS' A2 (zT A2)).toArray 25 (0, 0)) fun b49 h50 =>
 storeL (mkS' A2 x48) h50 ⟨b49, 0, none⟩ 0 fun h51 =>
 ldSlice h51 (Addr.add k_7 1) fun p52 l52 c52 =>
 ldSlice h51 ⟨b49, 1, none⟩ fun p53 l53 c53 =>
 callSlice P n_graph_pick #[(.slice p52 l52 c52), (.slice p53 l53 c53)] h51 fun p55 l55 c55 h54 =>
 ldAg A2 h54 ⟨b49, 0, none⟩ fun x56 =>
 callInt P .i64 n_kind_Check #[(agS A2 x56), (.slice p55 l55 c55)] h54 fun n58 h57 =>
 ifB (n58 != (0 : Int)) (
 stI h57 t2 (.slice none 0 0) fun h59 =>
 stI h59 (Addr.add t2 1) (.slice none 0 0) fun h60 =>
 stI h60 (Addr.add t2 2) (.slice none 0 0) fun h61 =>
 ldSlice h61 t2 fun p62 l62 c62 =>
 ldSlice h61 (Addr.add t2 1) fun p63 l63 c63 =>
 ldSlice h61 (Addr.add t2 2) fun p64 l64 c64 =>
 Q (.tuple #[(.agg #[(.slice p62 l62 c62), (.slice p63 l63 c63), (.slice p64 l64 c64)]), (.int .i64 n58)]) h61) (
 ldAg A2 h57 ⟨b49, 0, none⟩ fun x65 =>
 ldSlice h57 (Addr.add k_7 2) fun p66 l66 c66 =>
 ldSlice h57 ⟨b49, 1, none⟩ fun p67 l67 c67 =>
 callSlice P n_graph_pick #[(.slice p66 l66 c66), (.slice p67 l67 c67)] h57 fun p69 l69 c69 h68 =>
 holdW (watchL 0 ⟨b49, 0, none⟩ (mkS' A2 x65) 0) h68 (
 callP P n_graph_rate #[(agS A2 x65), (.slice p69 l69 c69)] h68 fun v71 h70 =>
 ∃ n72 : Int, ∃ b73 : Bool, v71 = (.tuple #[(.int .i64 n72), (.bool b73)]) ∧
 cellH h70 (Addr.add k_7 2) = some (.slice p66 l66 c66) ∧
 ifB (!b73) (
 stI h70 t2 (.slice none 0 0) fun h74 =>
 stI h74 (Addr.add t2 1) (.slice none 0 0) fun h75 =>
 stI h75 (Addr.add t2 2) (.slice none 0 0) fun h76 =>
 ldSlice h76 t2 fun p77 l77 c77 =>
 ldSlice h76 (Addr.add t2 1) fun p78 l78 c78 =>
 ldSlice h76 (Addr.add t2 2) fun p79 l79 c79 =>
 Q (.tuple #[(.agg #[(.slice p77 l77 c77), (.slice p78 l78 c78), (.slice p79 l79 c79)]), (.int .i64 (15 : Int))]) h76) (
 ldAg A2 h70 ⟨b49, 0, none⟩ fun x80 =>
 ldSlice h70 (Addr.add k_7 1) fun p81 l81 c81 =>
 ldSlice h70 (Addr.add k_7 2) fun p82 l82 c82 =>
 callInt P .i64 n_kind_Width #[(agS A2 x80), (.slice p55 l55 c55)] h70 fun n84 h83 =>
 cellH h83 (Addr.add k_7 2) = some (.slice p82 l82 c82) ∧
 cellH h83 (Addr.add k_7 1) = some (.slice p81 l81 c81) ∧
 idxI p81 n45 l81 fun a85 =>
 stI h83 (Addr.add a85 (n45.toNat * 1)) (.int .i64 n84) fun h86 =>
 cellH h86 (Addr.add k_7 2) = some (.slice p82 l82 c82) ∧
 idxI p82 n45 l82 fun a87 =>
 stI h86 (Addr.add a87 (n45.toNat * 1)) (.int .i64 n72) fun h88 =>
 K1 (g_1, t2, k_7, (t49_p, t49_n, t49_c), t50, (IntKind.wrap .i64 (t51 + (1 : Int))), ()) h88)))) (
 ldSlice h43 k_7 fun p89 l89 c89 =>
 ldSlice h43 (Addr.add k_7 1) fun p90 l90 c90 =>
 ldSlice h43 (Addr.add k_7 2) fun p91 l91 c91 =>
 stI h43 t2 (.slice p89 l89 c89) fun h92 =>
 stI h92 (Addr.add t2 1) (.slice p90 l90 c90) fun h93 =>
 stI h93 (Addr.add t2 2) (.slice p91 l91 c91) fun h94 =>
 ldSlice h94 t2 fun p95 l95 c95 =>
 ldSlice h94 (Addr.add t2 1) fun p96 l96 c96 =>
 ldSlice h94 (Addr.add t2 2) fun p97 l97 c97 =>
 Q (.tuple #[(.agg #[(.slice p95 l95 c95), (.slice p96 l96 c96), (.slice p97 l97 c97)]), (.int .i64 (0 : Int))]) h94)
def graph_look (g_0 : TS A1) (h : Heap) (Q : Value → Heap → Prop) : Prop :=
 newI h (.cells (mkS' A1 g_0).toArray 28 (0, 0)) fun b1 h2 =>
 newI h2 (.cells #[(.slice none 0 0), (.slice none 0 0), (.slice none 0 0)] 63 (0, 0)) fun b3 h4 =>
 ldAg A1 h4 ⟨b1, 0, none⟩ fun x5 =>
 callInt P .i64 n_graph_may #[(agS A1 x5)] h4 fun n7 h6 =>
 ifB (n7 != (0 : Int)) (
 stI h6 ⟨b3, 0, none⟩ (.slice none 0 0) fun h8 =>
 stI h8 ⟨b3, 1, none⟩ (.slice none 0 0) fun h9 =>
 stI h9 ⟨b3, 2, none⟩ (.slice none 0 0) fun h10 =>
 ldSlice h10 ⟨b3, 0, none⟩ fun p11 l11 c11 =>
 ldSlice h10 ⟨b3, 1, none⟩ fun p12 l12 c12 =>
 ldSlice h10 ⟨b3, 2, none⟩ fun p13 l13 c13 =>
 Q (.tuple #[(.agg #[(.slice p11 l11 c11), (.slice p12 l12 c12), (.slice p13 l13 c13)]), (.int .i64 n7)]) h10) (
 ldSlice h6 ⟨b1, 3, none⟩ fun p14 l14 c14 =>
 callP P n_graph_ordered #[(.slice p14 l14 c14)] h6 fun v16 h15 =>
 ∃ p17 : Option Addr, ∃ l17 : Nat, ∃ c17 : Nat, ∃ b18 : Bool, v16 = (.tuple #[(.slice p17 l17 c17), (.bool b18)]) ∧
 ifB (!b18) (
 stI h15 ⟨b3, 0, none⟩ (.slice none 0 0) fun h19 =>
 stI h19 ⟨b3, 1, none⟩ (.slice none 0 0) fun h20 =>
 stI h20 ⟨b3, 2, none⟩ (.slice none 0 0) fun h21 =>
 ldSlice h21 ⟨b3, 0, none⟩ fun p22 l22 c22 =>
 ldSlice h21 ⟨b3, 1, none⟩ fun p23 l23 c23 =>
 ldSlice h21 ⟨b3, 2, none⟩ fun p24 l24 c24 =>
 Q (.tuple #[(.agg #[(.slice p22 l22 c22), (.slice p23 l23 c23), (.slice p24 l24 c24)]), (.int .i64 (13 : Int))]) h21) (
 ldSlice h15 ⟨b1, 3, none⟩ fun p25 l25 c25 =>
 ldSlice h15 ⟨b1, 3, none⟩ fun p26 l26 c26 =>
 (
 mkI 3 1 8 (.int .i64 (0 : Int)) (IntKind.wrap .i64 (((l25 : Nat) : Int) + (1 : Int))) (IntKind.wrap .i64 (((l25 : Nat) : Int) + (1 : Int))) h15 fun b27 h28 =>
 cellH h28 ⟨b1, 3, none⟩ = some (.slice p26 l26 c26) ∧
 cellH h28 ⟨b1, 3, none⟩ = some (.slice p25 l25 c25) ∧
 (
 mkI 3 1 8 (.int .i64 (0 : Int)) (IntKind.wrap .i64 (((l26 : Nat) : Int) + (1 : Int))) (IntKind.wrap .i64 (((l26 : Nat) : Int) + (1 : Int))) h28 fun b29 h30 =>
 cellH h30 ⟨b1, 3, none⟩ = some (.slice p26 l26 c26) ∧
 cellH h30 ⟨b1, 3, none⟩ = some (.slice p25 l25 c25) ∧
 newI h30 (.cells #[(.slice none 0 0), (.slice none 0 0), (.slice none 0 0)] 63 (0, 0)) fun b31 h32 =>
 stI h32 ⟨b31, 0, none⟩ (.slice p17 l17 c17) fun h33 =>
 stI h33 ⟨b31, 1, none⟩ (.slice (some ⟨b27, 0, none⟩) ((IntKind.wrap .i64 (((l25 : Nat) : Int) + (1 : Int))).toNat) ((IntKind.wrap .i64 (((l25 : Nat) : Int) + (1 : Int))).toNat)) fun h34 =>
 stI h34 ⟨b31, 2, none⟩ (.slice (some ⟨b29, 0, none⟩) ((IntKind.wrap .i64 (((l26 : Nat) : Int) + (1 : Int))).toNat) ((IntKind.wrap .i64 (((l26 : Nat) : Int) + (1 : Int))).toNat)) fun h35 =>
 ldSlice h35 ⟨b31, 1, none⟩ fun p36 l36 c36 =>
 ldInt .i64 h35 ⟨b1, 0, none⟩ fun n37 =>
 idxI p36 (0 : Int) l36 fun a38 =>
 ldSlice h35 ⟨b31, 2, none⟩ fun p39 l39 c39 =>
 stI h35 (Addr.add a38 ((0 : Int).toNat * 1)) (.int .i64 n37) fun h40 =>
 cellH h40 ⟨b31, 2, none⟩ = some (.slice p39 l39 c39) ∧
 idxI p39 (0 : Int) l39 fun a41 =>
 stI h40 (Addr.add a41 ((0 : Int).toNat * 1)) (.int .i64 (1 : Int)) fun h42 =>
 LoopS (S := Y6) (fun K1 s h => graph_look_l10 Q K1 s.1 s.2.1 s.2.2.1 s.2.2.2.1.1 s.2.2.2.1.2.1 s.2.2.2.1.2.2 s.2.2.2.2.1 s.2.2.2.2.2.1 h) (⟨b1, 0, none⟩, ⟨b3, 0, none⟩, ⟨b31, 0, none⟩, (p17, l17, c17), ((l17 : Nat) : Int), (0 : Int), ()) h42) ∧ (
 newI h28 (.cells #[(.slice none 0 0), (.slice none 0 0), (.slice none 0 0)] 63 (0, 0)) fun b98 h99 =>
 mkI 3 1 8 (.int .i64 (0 : Int)) (IntKind.wrap .i64 (((l26 : Nat) : Int) + (1 : Int))) (IntKind.wrap .i64 (((l26 : Nat) : Int) + (1 : Int))) h99 fun b100 h101 =>
 cellH h101 ⟨b1, 3, none⟩ = some (.slice p26 l26 c26) ∧
 cellH h101 ⟨b1, 3, none⟩ = some (.slice p25 l25 c25) ∧
 stI h101 ⟨b98, 0, none⟩ (.slice p17 l17 c17) fun h102 =>
 stI h102 ⟨b98, 1, none⟩ (.slice (some ⟨b27, 0, none⟩) ((IntKind.wrap .i64 (((l25 : Nat) : Int) + (1 : Int))).toNat) ((IntKind.wrap .i64 (((l25 : Nat) : Int) + (1 : Int))).toNat)) fun h103 =>
 stI h103 ⟨b98, 2, none⟩ (.slice (some ⟨b100, 0, none⟩) ((IntKind.wrap .i64 (((l26 : Nat) : Int) + (1 : Int))).toNat) ((IntKind.wrap .i64 (((l26 : Nat) : Int) + (1 : Int))).toNat)) fun h104 =>
 ldSlice h104 ⟨b98, 1, none⟩ fun p105 l105 c105 =>
 ldInt .i64 h104 ⟨b1, 0, none⟩ fun n106 =>
 idxI p105 (0 : Int) l105 fun a107 =>
 ldSlice h104 ⟨b98, 2, none⟩ fun p108 l108 c108 =>
 stI h104 (Addr.add a107 ((0 : Int).toNat * 1)) (.int .i64 n106) fun h109 =>
 cellH h109 ⟨b98, 2, none⟩ = some (.slice p108 l108 c108) ∧
 idxI p108 (0 : Int) l108 fun a110 =>
 stI h109 (Addr.add a110 ((0 : Int).toNat * 1)) (.int .i64 (1 : Int)) fun h111 =>
 LoopS (S := Y6) (fun K1 s h => graph_look_l10 Q K1 s.1 s.2.1 s.2.2.1 s.2.2.2.1.1 s.2.2.2.1.2.1 s.2.2.2.1.2.2 s.2.2.2.2.1 s.2.2.2.2.2.1 h) (⟨b1, 0, none⟩, ⟨b3, 0, none⟩, ⟨b98, 0, none⟩, (p17, l17, c17), ((l17 : Nat) : Int), (0 : Int), ()) h111)) ∧ (
 (
 mkI 3 1 8 (.int .i64 (0 : Int)) (IntKind.wrap .i64 (((l26 : Nat) : Int) + (1 : Int))) (IntKind.wrap .i64 (((l26 : Nat) : Int) + (1 : Int))) h15 fun b167 h168 =>
 cellH h168 ⟨b1, 3, none⟩ = some (.slice p26 l26 c26) ∧
 cellH h168 ⟨b1, 3, none⟩ = some (.slice p25 l25 c25) ∧
 (
 mkI 3 1 8 (.int .i64 (0 : Int)) (IntKind.wrap .i64 (((l25 : Nat) : Int) + (1 : Int))) (IntKind.wrap .i64 (((l25 : Nat) : Int) + (1 : Int))) h168 fun b169 h170 =>
 cellH h170 ⟨b1, 3, none⟩ = some (.slice p26 l26 c26) ∧
 cellH h170 ⟨b1, 3, none⟩ = some (.slice p25 l25 c25) ∧
 newI h170 (.cells #[(.slice none 0 0), (.slice none 0 0), (.slice none 0 0)] 63 (0, 0)) fun b171 h172 =>
 stI h172 ⟨b171, 0, none⟩ (.slice p17 l17 c17) fun h173 =>
 stI h173 ⟨b171, 1, none⟩ (.slice (some ⟨b169, 0, none⟩) ((IntKind.wrap .i64 (((l25 : Nat) : Int) + (1 : Int))).toNat) ((IntKind.wrap .i64 (((l25 : Nat) : Int) + (1 : Int))).toNat)) fun h174 =>
 stI h174 ⟨b171, 2, none⟩ (.slice (some ⟨b167, 0, none⟩) ((IntKind.wrap .i64 (((l26 : Nat) : Int) + (1 : Int))).toNat) ((IntKind.wrap .i64 (((l26 : Nat) : Int) + (1 : Int))).toNat)) fun h175 =>
 ldSlice h175 ⟨b171, 1, none⟩ fun p176 l176 c176 =>
 ldInt .i64 h175 ⟨b1, 0, none⟩ fun n177 =>
 idxI p176 (0 : Int) l176 fun a178 =>
 ldSlice h175 ⟨b171, 2, none⟩ fun p179 l179 c179 =>
 stI h175 (Addr.add a178 ((0 : Int).toNat * 1)) (.int .i64 n177) fun h180 =>
 cellH h180 ⟨b171, 2, none⟩ = some (.slice p179 l179 c179) ∧
 idxI p179 (0 : Int) l179 fun a181 =>
 stI h180 (Addr.add a181 ((0 : Int).toNat * 1)) (.int .i64 (1 : Int)) fun h182 =>
 LoopS (S := Y6) (fun K1 s h => graph_look_l10 Q K1 s.1 s.2.1 s.2.2.1 s.2.2.2.1.1 s.2.2.2.1.2.1 s.2.2.2.1.2.2 s.2.2.2.2.1 s.2.2.2.2.2.1 h) (⟨b1, 0, none⟩, ⟨b3, 0, none⟩, ⟨b171, 0, none⟩, (p17, l17, c17), ((l17 : Nat) : Int), (0 : Int), ()) h182) ∧ (
 newI h168 (.cells #[(.slice none 0 0), (.slice none 0 0), (.slice none 0 0)] 63 (0, 0)) fun b238 h239 =>
 mkI 3 1 8 (.int .i64 (0 : Int)) (IntKind.wrap .i64 (((l25 : Nat) : Int) + (1 : Int))) (IntKind.wrap .i64 (((l25 : Nat) : Int) + (1 : Int))) h239 fun b240 h241 =>
 cellH h241 ⟨b1, 3, none⟩ = some (.slice p26 l26 c26) ∧
 cellH h241 ⟨b1, 3, none⟩ = some (.slice p25 l25 c25) ∧
 stI h241 ⟨b238, 0, none⟩ (.slice p17 l17 c17) fun h242 =>
 stI h242 ⟨b238, 1, none⟩ (.slice (some ⟨b240, 0, none⟩) ((IntKind.wrap .i64 (((l25 : Nat) : Int) + (1 : Int))).toNat) ((IntKind.wrap .i64 (((l25 : Nat) : Int) + (1 : Int))).toNat)) fun h243 =>
 stI h243 ⟨b238, 2, none⟩ (.slice (some ⟨b167, 0, none⟩) ((IntKind.wrap .i64 (((l26 : Nat) : Int) + (1 : Int))).toNat) ((IntKind.wrap .i64 (((l26 : Nat) : Int) + (1 : Int))).toNat)) fun h244 =>
 ldSlice h244 ⟨b238, 1, none⟩ fun p245 l245 c245 =>
 ldInt .i64 h244 ⟨b1, 0, none⟩ fun n246 =>
 idxI p245 (0 : Int) l245 fun a247 =>
 ldSlice h244 ⟨b238, 2, none⟩ fun p248 l248 c248 =>
 stI h244 (Addr.add a247 ((0 : Int).toNat * 1)) (.int .i64 n246) fun h249 =>
 cellH h249 ⟨b238, 2, none⟩ = some (.slice p248 l248 c248) ∧
 idxI p248 (0 : Int) l248 fun a250 =>
 stI h249 (Addr.add a250 ((0 : Int).toNat * 1)) (.int .i64 (1 : Int)) fun h251 =>
 LoopS (S := Y6) (fun K1 s h => graph_look_l10 Q K1 s.1 s.2.1 s.2.2.1 s.2.2.2.1.1 s.2.2.2.1.2.1 s.2.2.2.1.2.2 s.2.2.2.2.1 s.2.2.2.2.2.1 h) (⟨b1, 0, none⟩, ⟨b3, 0, none⟩, ⟨b238, 0, none⟩, (p17, l17, c17), ((l17 : Nat) : Int), (0 : Int), ()) h251)) ∧ (
 newI h15 (.cells #[(.slice none 0 0), (.slice none 0 0), (.slice none 0 0)] 63 (0, 0)) fun b307 h308 =>
 (
 mkI 3 1 8 (.int .i64 (0 : Int)) (IntKind.wrap .i64 (((l25 : Nat) : Int) + (1 : Int))) (IntKind.wrap .i64 (((l25 : Nat) : Int) + (1 : Int))) h308 fun b309 h310 =>
 cellH h310 ⟨b1, 3, none⟩ = some (.slice p26 l26 c26) ∧
 cellH h310 ⟨b1, 3, none⟩ = some (.slice p25 l25 c25) ∧
 mkI 3 1 8 (.int .i64 (0 : Int)) (IntKind.wrap .i64 (((l26 : Nat) : Int) + (1 : Int))) (IntKind.wrap .i64 (((l26 : Nat) : Int) + (1 : Int))) h310 fun b311 h312 =>
 cellH h312 ⟨b1, 3, none⟩ = some (.slice p26 l26 c26) ∧
 cellH h312 ⟨b1, 3, none⟩ = some (.slice p25 l25 c25) ∧
 stI h312 ⟨b307, 0, none⟩ (.slice p17 l17 c17) fun h313 =>
 stI h313 ⟨b307, 1, none⟩ (.slice (some ⟨b309, 0, none⟩) ((IntKind.wrap .i64 (((l25 : Nat) : Int) + (1 : Int))).toNat) ((IntKind.wrap .i64 (((l25 : Nat) : Int) + (1 : Int))).toNat)) fun h314 =>
 stI h314 ⟨b307, 2, none⟩ (.slice (some ⟨b311, 0, none⟩) ((IntKind.wrap .i64 (((l26 : Nat) : Int) + (1 : Int))).toNat) ((IntKind.wrap .i64 (((l26 : Nat) : Int) + (1 : Int))).toNat)) fun h315 =>
 ldSlice h315 ⟨b307, 1, none⟩ fun p316 l316 c316 =>
 ldInt .i64 h315 ⟨b1, 0, none⟩ fun n317 =>
 idxI p316 (0 : Int) l316 fun a318 =>
 ldSlice h315 ⟨b307, 2, none⟩ fun p319 l319 c319 =>
 stI h315 (Addr.add a318 ((0 : Int).toNat * 1)) (.int .i64 n317) fun h320 =>
 cellH h320 ⟨b307, 2, none⟩ = some (.slice p319 l319 c319) ∧
 idxI p319 (0 : Int) l319 fun a321 =>
 stI h320 (Addr.add a321 ((0 : Int).toNat * 1)) (.int .i64 (1 : Int)) fun h322 =>
 LoopS (S := Y6) (fun K1 s h => graph_look_l10 Q K1 s.1 s.2.1 s.2.2.1 s.2.2.2.1.1 s.2.2.2.1.2.1 s.2.2.2.1.2.2 s.2.2.2.2.1 s.2.2.2.2.2.1 h) (⟨b1, 0, none⟩, ⟨b3, 0, none⟩, ⟨b307, 0, none⟩, (p17, l17, c17), ((l17 : Nat) : Int), (0 : Int), ()) h322) ∧ (
 mkI 3 1 8 (.int .i64 (0 : Int)) (IntKind.wrap .i64 (((l26 : Nat) : Int) + (1 : Int))) (IntKind.wrap .i64 (((l26 : Nat) : Int) + (1 : Int))) h308 fun b378 h379 =>
 cellH h379 ⟨b1, 3, none⟩ = some (.slice p26 l26 c26) ∧
 cellH h379 ⟨b1, 3, none⟩ = some (.slice p25 l25 c25) ∧
 mkI 3 1 8 (.int .i64 (0 : Int)) (IntKind.wrap .i64 (((l25 : Nat) : Int) + (1 : Int))) (IntKind.wrap .i64 (((l25 : Nat) : Int) + (1 : Int))) h379 fun b380 h381 =>
 cellH h381 ⟨b1, 3, none⟩ = some (.slice p26 l26 c26) ∧
 cellH h381 ⟨b1, 3, none⟩ = some (.slice p25 l25 c25) ∧
 stI h381 ⟨b307, 0, none⟩ (.slice p17 l17 c17) fun h382 =>
 stI h382 ⟨b307, 1, none⟩ (.slice (some ⟨b380, 0, none⟩) ((IntKind.wrap .i64 (((l25 : Nat) : Int) + (1 : Int))).toNat) ((IntKind.wrap .i64 (((l25 : Nat) : Int) + (1 : Int))).toNat)) fun h383 =>
 stI h383 ⟨b307, 2, none⟩ (.slice (some ⟨b378, 0, none⟩) ((IntKind.wrap .i64 (((l26 : Nat) : Int) + (1 : Int))).toNat) ((IntKind.wrap .i64 (((l26 : Nat) : Int) + (1 : Int))).toNat)) fun h384 =>
 ldSlice h384 ⟨b307, 1, none⟩ fun p385 l385 c385 =>
 ldInt .i64 h384 ⟨b1, 0, none⟩ fun n386 =>
 idxI p385 (0 : Int) l385 fun a387 =>
 ldSlice h384 ⟨b307, 2, none⟩ fun p388 l388 c388 =>
 stI h384 (Addr.add a387 ((0 : Int).toNat * 1)) (.int .i64 n386) fun h389 =>
 cellH h389 ⟨b307, 2, none⟩ = some (.slice p388 l388 c388) ∧
 idxI p388 (0 : Int) l388 fun a390 =>
 stI h389 (Addr.add a390 ((0 : Int).toNat * 1)) (.int .i64 (1 : Int)) fun h391 =>
 LoopS (S := Y6) (fun K1 s h => graph_look_l10 Q K1 s.1 s.2.1 s.2.2.1 s.2.2.2.1.1 s.2.2.2.1.2.1 s.2.2.2.1.2.2 s.2.2.2.2.1 s.2.2.2.2.2.1 h) (⟨b1, 0, none⟩, ⟨b3, 0, none⟩, ⟨b307, 0, none⟩, (p17, l17, c17), ((l17 : Nat) : Int), (0 : Int), ()) h391)))))
noncomputable def tab_graph_look : Tab := { sch := lookT .done [(7, (ones [0, 1, 6] (.early 2 (ones [3, 4] (.early 7 (ones [8, 9] (.alt 5 (.alt 10 (ones [11] (.alt 12 (.alt 13 .done .stop) .stop)) (.alt 12 (.alt 10 (ones [11] (.alt 13 .done .stop)) .stop) .stop)) (.alt 10 (.alt 5 (ones [11] (.alt 12 (.alt 13 .done .stop) .stop)) (.alt 12 (.alt 5 (ones [11] (.alt 13 .done .stop)) .stop) .stop)) (.alt 12 (.alt 5 (.alt 10 (ones [11] (.alt 13 .done .stop)) .stop) (.alt 10 (.alt 5 (ones [11] (.alt 13 .done .stop)) .stop) .stop)) .stop))))))))), (8, (ones [0, 2, 4, 1, 5, 6] (.early 3 (.alt 7 (ones [8] (.alt 9 .done .stop)) .stop)))), (17, (ones [1, 3] (.early 0 (.early 2 (.alt 4 (.alt 5 (.alt 6 (ones [7, 8, 9, 10, 11] .done) .stop) .stop) .stop))))), (20, (ones [0, 2, 3, 5, 7, 9, 6] (.early 1 (.early 4 (.alt 8 (ones [10] (.alt 11 (ones [12] (.alt 13 .done .stop)) .stop)) .stop)))))], lp := lookT [] [(10, [(1, .sc (.adr)), (2, .sc (.adr)), (7, .sc (.adr)), (49, .sc (.slice)), (50, .sc (.int .i64)), (51, .sc (.int .i64))])], jn := lookT none [] }
theorem eq_graph_look (g_0 : TS A1) (h : Heap) (Q : Value → Heap → Prop) : fnI P Tryd.f35 tab_graph_look [(agS A1 g_0)] h Q = graph_look g_0 h Q := by kernel_rfl
theorem ok_graph_look : fnOk P Tryd.f35 tab_graph_look = true := by kernel_rfl
theorem call_graph_look (g_0 : TS A1) {h : Heap} {Q : Value → Heap → Prop} (H : graph_look g_0 h Q) : callP P n_graph_look #[(agS A1 g_0)] h Q :=
 @callP_of P n_graph_look Tryd.f35 tab_graph_look [(agS A1 g_0)] h Q mixed Tryd.func35 Tryd.call35 ok_graph_look (Eq.mpr (eq_graph_look g_0 h Q) H)

/-! ### earshot/graph.Check: function 15 -/
def graph_Check (g_0 : TS A1) (h : Heap) (Q : Value → Heap → Prop) : Prop :=
 newI h (.cells (mkS' A1 g_0).toArray 28 (0, 0)) fun b1 h2 =>
 ldAg A1 h2 ⟨b1, 0, none⟩ fun x3 =>
 callP P n_graph_look #[(agS A1 x3)] h2 fun v5 h4 =>
 ∃ p6 : Option Addr, ∃ l6 : Nat, ∃ c6 : Nat, ∃ p7 : Option Addr, ∃ l7 : Nat, ∃ c7 : Nat, ∃ p8 : Option Addr, ∃ l8 : Nat, ∃ c8 : Nat, ∃ n9 : Int, v5 = (.tuple #[(.agg #[(.slice p6 l6 c6), (.slice p7 l7 c7), (.slice p8 l8 c8)]), (.int .i64 n9)]) ∧
 newI h4 (.cells #[(.slice none 0 0), (.slice none 0 0), (.slice none 0 0)] 63 (0, 0)) fun b10 h11 =>
 stI h11 ⟨b10, 0, none⟩ (.slice p6 l6 c6) fun h12 =>
 stI h12 ⟨b10, 1, none⟩ (.slice p7 l7 c7) fun h13 =>
 stI h13 ⟨b10, 2, none⟩ (.slice p8 l8 c8) fun h14 =>
 Q (.int .i64 n9) h14
noncomputable def tab_graph_Check : Tab := { sch := lookT .done [], lp := lookT [] [], jn := lookT none [] }
theorem eq_graph_Check (g_0 : TS A1) (h : Heap) (Q : Value → Heap → Prop) : fnI P Tryd.f15 tab_graph_Check [(agS A1 g_0)] h Q = graph_Check g_0 h Q := by kernel_rfl
theorem ok_graph_Check : fnOk P Tryd.f15 tab_graph_Check = true := by kernel_rfl
theorem call_graph_Check (g_0 : TS A1) {h : Heap} {Q : Value → Heap → Prop} (H : graph_Check g_0 h Q) : callP P n_graph_Check #[(agS A1 g_0)] h Q :=
 @callP_of P n_graph_Check Tryd.f15 tab_graph_Check [(agS A1 g_0)] h Q mixed Tryd.func15 Tryd.call15 ok_graph_Check (Eq.mpr (eq_graph_Check g_0 h Q) H)

/-! ### slices.Clone[[]earshot/api.Node,earshot/api.Node]: function 36 -/
def slices_Clone_api_Node_api_Node (s_0_p : Option Addr) (s_0_n : Nat) (s_0_c : Nat) (h : Heap) (Q : Value → Heap → Prop) : Prop :=
 ifB ((s_0_p).isNone) (
 Q (.slice none 0 0) h) (
 newI h (.cells #[] 25 (0, 0)) fun b1 h2 =>
 appI 25 15 168 (agS A2 (zT A2)) (some ⟨b1, 0, none⟩) 0 0 s_0_p s_0_n h2 fun p3 l3 c3 h4 =>
 Q (.slice p3 l3 c3) h4)
noncomputable def tab_slices_Clone_api_Node_api_Node : Tab := { sch := lookT .done [], lp := lookT [] [], jn := lookT none [] }
theorem eq_slices_Clone_api_Node_api_Node (s_0_p : Option Addr) (s_0_n : Nat) (s_0_c : Nat) (h : Heap) (Q : Value → Heap → Prop) : fnI P Tryd.f36 tab_slices_Clone_api_Node_api_Node [(.slice s_0_p s_0_n s_0_c)] h Q = slices_Clone_api_Node_api_Node s_0_p s_0_n s_0_c h Q := by kernel_rfl
theorem ok_slices_Clone_api_Node_api_Node : fnOk P Tryd.f36 tab_slices_Clone_api_Node_api_Node = true := by kernel_rfl
theorem call_slices_Clone_api_Node_api_Node (s_0_p : Option Addr) (s_0_n : Nat) (s_0_c : Nat) {h : Heap} {Q : Value → Heap → Prop} (H : slices_Clone_api_Node_api_Node s_0_p s_0_n s_0_c h Q) : callP P n_slices_Clone_api_Node_api_Node #[(.slice s_0_p s_0_n s_0_c)] h Q :=
 @callP_of P n_slices_Clone_api_Node_api_Node Tryd.f36 tab_slices_Clone_api_Node_api_Node [(.slice s_0_p s_0_n s_0_c)] h Q mixed Tryd.func36 Tryd.call36 ok_slices_Clone_api_Node_api_Node (Eq.mpr (eq_slices_Clone_api_Node_api_Node s_0_p s_0_n s_0_c h Q) H)

/-! ### slices.Clone[[]int,int]: function 37 -/
def slices_Clone_int_int (s_0_p : Option Addr) (s_0_n : Nat) (s_0_c : Nat) (h : Heap) (Q : Value → Heap → Prop) : Prop :=
 ifB ((s_0_p).isNone) (
 Q (.slice none 0 0) h) (
 newI h (.cells #[] 3 (0, 0)) fun b1 h2 =>
 appI 3 1 8 (.int .i64 (0 : Int)) (some ⟨b1, 0, none⟩) 0 0 s_0_p s_0_n h2 fun p3 l3 c3 h4 =>
 Q (.slice p3 l3 c3) h4)
noncomputable def tab_slices_Clone_int_int : Tab := { sch := lookT .done [], lp := lookT [] [], jn := lookT none [] }
theorem eq_slices_Clone_int_int (s_0_p : Option Addr) (s_0_n : Nat) (s_0_c : Nat) (h : Heap) (Q : Value → Heap → Prop) : fnI P Tryd.f37 tab_slices_Clone_int_int [(.slice s_0_p s_0_n s_0_c)] h Q = slices_Clone_int_int s_0_p s_0_n s_0_c h Q := by kernel_rfl
theorem ok_slices_Clone_int_int : fnOk P Tryd.f37 tab_slices_Clone_int_int = true := by kernel_rfl
theorem call_slices_Clone_int_int (s_0_p : Option Addr) (s_0_n : Nat) (s_0_c : Nat) {h : Heap} {Q : Value → Heap → Prop} (H : slices_Clone_int_int s_0_p s_0_n s_0_c h Q) : callP P n_slices_Clone_int_int #[(.slice s_0_p s_0_n s_0_c)] h Q :=
 @callP_of P n_slices_Clone_int_int Tryd.f37 tab_slices_Clone_int_int [(.slice s_0_p s_0_n s_0_c)] h Q mixed Tryd.func37 Tryd.call37 ok_slices_Clone_int_int (Eq.mpr (eq_slices_Clone_int_int s_0_p s_0_n s_0_c h Q) H)

/-! ### earshot/fuse.own: function 16 -/
def fuse_own_l3 (Q : Value → Heap → Prop) (K1 : (Addr × Addr × Int × Int × Unit) → Heap → Prop) (g_1 : Addr) (t2 : Addr) (t11 : Int) (t12 : Int) (h10 : Heap) : Prop :=
 ifB (decide (t12 < t11)) (
 ldSlice h10 (Addr.add g_1 3) fun p11 l11 c11 =>
 idxI p11 t12 l11 fun a12 =>
 nilI (some (Addr.add a12 (t12.toNat * 15))) fun a13 =>
 nilI (some (Addr.add a12 (t12.toNat * 15))) fun a14 =>
 nilI (some (Addr.add a12 (t12.toNat * 15))) fun a15 =>
 ldSlice h10 (Addr.add a13 1) fun p16 l16 c16 =>
 ldSlice h10 (Addr.add a14 8) fun p17 l17 c17 =>
 ldSlice h10 (Addr.add a15 9) fun p18 l18 c18 =>
 callSlice P n_slices_Clone_int_int #[(.slice p16 l16 c16)] h10 fun p20 l20 c20 h19 =>
 cellH h19 (Addr.add a15 9) = some (.slice p18 l18 c18) ∧
 cellH h19 (Addr.add a14 8) = some (.slice p17 l17 c17) ∧
 callSlice P n_slices_Clone_int_int #[(.slice p17 l17 c17)] h19 fun p22 l22 c22 h21 =>
 cellH h21 (Addr.add a15 9) = some (.slice p18 l18 c18) ∧
 cellH h21 (Addr.add a13 1) = some (.slice p16 l16 c16) ∧
 callSlice P n_slices_Clone_int_int #[(.slice p18 l18 c18)] h21 fun p24 l24 c24 h23 =>
 cellH h23 (Addr.add a14 8) = some (.slice p17 l17 c17) ∧
 cellH h23 (Addr.add a13 1) = some (.slice p16 l16 c16) ∧
 nilI (some (Addr.add a12 (t12.toNat * 15))) fun a25 =>
 stI h23 (Addr.add a25 1) (.slice p20 l20 c20) fun h26 =>
 nilI (some (Addr.add a12 (t12.toNat * 15))) fun a27 =>
 stI h26 (Addr.add a27 8) (.slice p22 l22 c22) fun h28 =>
 nilI (some (Addr.add a12 (t12.toNat * 15))) fun a29 =>
 stI h28 (Addr.add a29 9) (.slice p24 l24 c24) fun h30 =>
 K1 (g_1, t2, t11, (IntKind.wrap .i64 (t12 + (1 : Int))), ()) h30) (
 ldAg A1 h10 g_1 fun x31 =>
 storeL (mkS' A1 x31) h10 t2 0 fun h32 =>
 ldAg A1 h32 t2 fun x33 =>
 Q (agS A1 x33) h32)
def fuse_own (g_0 : TS A1) (h : Heap) (Q : Value → Heap → Prop) : Prop :=
 newI h (.cells (mkS' A1 g_0).toArray 28 (0, 0)) fun b1 h2 =>
 newI h2 (.cells (mkS' A1 (zT A1)).toArray 28 (0, 0)) fun b3 h4 =>
 ldSlice h4 ⟨b1, 3, none⟩ fun p5 l5 c5 =>
 callSlice P n_slices_Clone_api_Node_api_Node #[(.slice p5 l5 c5)] h4 fun p7 l7 c7 h6 =>
 stI h6 ⟨b1, 3, none⟩ (.slice p7 l7 c7) fun h8 =>
 ldSlice h8 ⟨b1, 3, none⟩ fun p9 l9 c9 =>
 LoopS (S := (Addr × Addr × Int × Int × Unit)) (fun K1 s h => fuse_own_l3 Q K1 s.1 s.2.1 s.2.2.1 s.2.2.2.1 h) (⟨b1, 0, none⟩, ⟨b3, 0, none⟩, ((l9 : Nat) : Int), (0 : Int), ()) h8
noncomputable def tab_fuse_own : Tab := { sch := lookT .done [(6, (ones [0, 1, 2, 3, 4, 5, 8, 9, 10, 13, 14, 15] (.early 6 (.early 11 (.early 16 (.alt 7 (.alt 12 (.alt 17 (ones [18, 19] (.alt 20 (ones [21, 22] (.alt 23 (ones [24, 25] (.alt 26 .done .stop)) .stop)) .stop)) .stop) .stop) .stop))))))], lp := lookT [] [(3, [(1, .sc (.adr)), (2, .sc (.adr)), (11, .sc (.int .i64)), (12, .sc (.int .i64))])], jn := lookT none [] }
theorem eq_fuse_own (g_0 : TS A1) (h : Heap) (Q : Value → Heap → Prop) : fnI P Tryd.f16 tab_fuse_own [(agS A1 g_0)] h Q = fuse_own g_0 h Q := by kernel_rfl
theorem ok_fuse_own : fnOk P Tryd.f16 tab_fuse_own = true := by kernel_rfl
theorem call_fuse_own (g_0 : TS A1) {h : Heap} {Q : Value → Heap → Prop} (H : fuse_own g_0 h Q) : callP P n_fuse_own #[(agS A1 g_0)] h Q :=
 @callP_of P n_fuse_own Tryd.f16 tab_fuse_own [(agS A1 g_0)] h Q mixed Tryd.func16 Tryd.call16 ok_fuse_own (Eq.mpr (eq_fuse_own g_0 h Q) H)

/-! ### slices.Values[[]int,int]$1: function 67 -/
def slices_Values_int_int_1_l1 (Q : Value → Heap → Prop) (K1 : (Value × (Option Addr × Nat × Nat) × Int × Int × Unit) → Heap → Prop) (yield_0 : Value) (t5_p : Option Addr) (t5_n : Nat) (t5_c : Nat) (t6 : Int) (t7 : Int) (h2 : Heap) : Prop :=
 ifB (decide (t7 < t6)) (
 idxI t5_p t7 t5_n fun a3 =>
 ldInt .i64 h2 (Addr.add a3 (t7.toNat * 1)) fun n4 =>
 callAny P yield_0 [(.int .i64 n4)] h2 fun v5 h6 =>
 ∃ b7 : Bool, v5 = (.bool b7) ∧
 ifB (!b7) (
 Q (.tuple #[]) h6) (
 K1 (yield_0, (t5_p, t5_n, t5_c), t6, (IntKind.wrap .i64 (t7 + (1 : Int))), ()) h6)) (
 Q (.tuple #[]) h2)
def slices_Values_int_int_1 (yield_0 : Value) (free0 : Addr) (h : Heap) (Q : Value → Heap → Prop) : Prop :=
 ldSlice h free0 fun p1 l1 c1 =>
 LoopS (S := (Value × (Option Addr × Nat × Nat) × Int × Int × Unit)) (fun K1 s h => slices_Values_int_int_1_l1 Q K1 s.1 s.2.1.1 s.2.1.2.1 s.2.1.2.2 s.2.2.1 s.2.2.2.1 h) (yield_0, (p1, l1, c1), ((l1 : Nat) : Int), (0 : Int), ()) h
noncomputable def tab_slices_Values_int_int_1 : Tab := { sch := lookT .done [], lp := lookT [] [(1, [(0, .sc (.any)), (5, .sc (.slice)), (6, .sc (.int .i64)), (7, .sc (.int .i64))])], jn := lookT none [] }
theorem eq_slices_Values_int_int_1 (yield_0 : Value) (free0 : Addr) (h : Heap) (Q : Value → Heap → Prop) : fnI P Tryd.f67 tab_slices_Values_int_int_1 [yield_0, (.pointer (some free0))] h Q = slices_Values_int_int_1 yield_0 free0 h Q := by kernel_rfl
theorem ok_slices_Values_int_int_1 : fnOk P Tryd.f67 tab_slices_Values_int_int_1 = true := by kernel_rfl
theorem call_slices_Values_int_int_1 (yield_0 : Value) (free0 : Addr) {h : Heap} {Q : Value → Heap → Prop} (H : slices_Values_int_int_1 yield_0 free0 h Q) : callP P n_slices_Values_int_int_1 #[yield_0, (.pointer (some free0))] h Q :=
 @callP_of P n_slices_Values_int_int_1 Tryd.f67 tab_slices_Values_int_int_1 [yield_0, (.pointer (some free0))] h Q mixed Tryd.func67 Tryd.call67 ok_slices_Values_int_int_1 (Eq.mpr (eq_slices_Values_int_int_1 yield_0 free0 h Q) H)

/-! ### slices.Values[[]int,int]: function 41 -/
def slices_Values_int_int (s_0_p : Option Addr) (s_0_n : Nat) (s_0_c : Nat) (h : Heap) (Q : Value → Heap → Prop) : Prop :=
 newI h (.cells #[(.slice s_0_p s_0_n s_0_c)] 23 (0, 0)) fun b1 h2 =>
 Q (.func (.func n_slices_Values_int_int_1) #[] #[(.pointer (some ⟨b1, 0, none⟩))]) h2
noncomputable def tab_slices_Values_int_int : Tab := { sch := lookT .done [], lp := lookT [] [], jn := lookT none [] }
theorem eq_slices_Values_int_int (s_0_p : Option Addr) (s_0_n : Nat) (s_0_c : Nat) (h : Heap) (Q : Value → Heap → Prop) : fnI P Tryd.f41 tab_slices_Values_int_int [(.slice s_0_p s_0_n s_0_c)] h Q = slices_Values_int_int s_0_p s_0_n s_0_c h Q := by kernel_rfl
theorem ok_slices_Values_int_int : fnOk P Tryd.f41 tab_slices_Values_int_int = true := by kernel_rfl
theorem call_slices_Values_int_int (s_0_p : Option Addr) (s_0_n : Nat) (s_0_c : Nat) {h : Heap} {Q : Value → Heap → Prop} (H : slices_Values_int_int s_0_p s_0_n s_0_c h Q) : callP P n_slices_Values_int_int #[(.slice s_0_p s_0_n s_0_c)] h Q :=
 @callP_of P n_slices_Values_int_int Tryd.f41 tab_slices_Values_int_int [(.slice s_0_p s_0_n s_0_c)] h Q mixed Tryd.func41 Tryd.call41 ok_slices_Values_int_int (Eq.mpr (eq_slices_Values_int_int s_0_p s_0_n s_0_c h Q) H)

/-! ### slices.AppendSeq[[]int,int]: function 85 -/
def slices_AppendSeq_int_int (s_0_p : Option Addr) (s_0_n : Nat) (s_0_c : Nat) (seq_1 : Value) (h : Heap) (Q : Value → Heap → Prop) : Prop :=
 newI h (.cells #[(.slice s_0_p s_0_n s_0_c)] 23 (0, 0)) fun b1 h2 =>
 rangeP P seq_1 [.sc (.int .i64)] (fun rdy3 busy3 l3 y3 R3 h4 =>
 h4[l3]? = some rdy3 ∧
 ldSlice (Array.setIfInBounds h4 l3 busy3) ⟨b1, 0, none⟩ fun p5 l5 c5 =>
 newI (Array.setIfInBounds h4 l3 busy3) (.cells #[(.int .i64 y3.1)] 3 (0, 0)) fun b6 h7 =>
 appI 3 1 8 (.int .i64 (0 : Int)) p5 l5 c5 (some ⟨b6, 0, none⟩) 1 h7 fun p8 l8 c8 h9 =>
 stI h9 ⟨b1, 0, none⟩ (.slice p8 l8 c8) fun h10 =>
 R3 h10) h2 fun D11 h12 =>
 ldSlice h12 ⟨b1, 0, none⟩ fun p13 l13 c13 =>
 h12[D11]? = some (Obj.deferred (some [])) ∧
 Q (.slice p13 l13 c13) (Array.setIfInBounds h12 D11 (Obj.deferred none))
noncomputable def tab_slices_AppendSeq_int_int : Tab := { sch := lookT .done [], lp := lookT [] [], jn := lookT none [], rf := lookT [] [(3, [.sc (.int .i64)])] }
theorem eq_slices_AppendSeq_int_int (s_0_p : Option Addr) (s_0_n : Nat) (s_0_c : Nat) (seq_1 : Value) (h : Heap) (Q : Value → Heap → Prop) : fnI P Tryd.f85 tab_slices_AppendSeq_int_int [(.slice s_0_p s_0_n s_0_c), seq_1] h Q = slices_AppendSeq_int_int s_0_p s_0_n s_0_c seq_1 h Q := by kernel_rfl
theorem ok_slices_AppendSeq_int_int : fnOk P Tryd.f85 tab_slices_AppendSeq_int_int = true := by kernel_rfl
theorem call_slices_AppendSeq_int_int (s_0_p : Option Addr) (s_0_n : Nat) (s_0_c : Nat) (seq_1 : Value) {h : Heap} {Q : Value → Heap → Prop} (H : slices_AppendSeq_int_int s_0_p s_0_n s_0_c seq_1 h Q) : callP P n_slices_AppendSeq_int_int #[(.slice s_0_p s_0_n s_0_c), seq_1] h Q :=
 @callP_of P n_slices_AppendSeq_int_int Tryd.f85 tab_slices_AppendSeq_int_int [(.slice s_0_p s_0_n s_0_c), seq_1] h Q mixed Tryd.func85 Tryd.call85 ok_slices_AppendSeq_int_int (Eq.mpr (eq_slices_AppendSeq_int_int s_0_p s_0_n s_0_c seq_1 h Q) H)

/-! ### slices.Collect[int]: function 65 -/
def slices_Collect_int (seq_0 : Value) (h : Heap) (Q : Value → Heap → Prop) : Prop :=
 callSlice P n_slices_AppendSeq_int_int #[(.slice none 0 0), seq_0] h fun p2 l2 c2 h1 =>
 Q (.slice p2 l2 c2) h1
noncomputable def tab_slices_Collect_int : Tab := { sch := lookT .done [], lp := lookT [] [], jn := lookT none [] }
theorem eq_slices_Collect_int (seq_0 : Value) (h : Heap) (Q : Value → Heap → Prop) : fnI P Tryd.f65 tab_slices_Collect_int [seq_0] h Q = slices_Collect_int seq_0 h Q := by kernel_rfl
theorem ok_slices_Collect_int : fnOk P Tryd.f65 tab_slices_Collect_int = true := by kernel_rfl
theorem call_slices_Collect_int (seq_0 : Value) {h : Heap} {Q : Value → Heap → Prop} (H : slices_Collect_int seq_0 h Q) : callP P n_slices_Collect_int #[seq_0] h Q :=
 @callP_of P n_slices_Collect_int Tryd.f65 tab_slices_Collect_int [seq_0] h Q mixed Tryd.func65 Tryd.call65 ok_slices_Collect_int (Eq.mpr (eq_slices_Collect_int seq_0 h Q) H)

/-! ### math/bits.Len32: function 100 -/
def math_bits_Len32 (x_0 : Int) (h : Heap) (Q : Value → Heap → Prop) : Prop :=
 ifB (decide (x_0 ≥ (65536 : Int))) (
 ifB (decide ((shrI x_0 16) ≥ (256 : Int))) (
 strI (ByteArray.mk #[0, 1, 2, 2, 3, 3, 3, 3, 4, 4, 4, 4, 4, 4, 4, 4, 5, 5, 5, 5, 5, 5, 5, 5, 5, 5, 5, 5, 5, 5, 5, 5, 6, 6, 6, 6, 6, 6, 6, 6, 6, 6, 6, 6, 6, 6, 6, 6, 6, 6, 6, 6, 6, 6, 6, 6, 6, 6, 6, 6, 6, 6, 6, 6, 7, 7, 7, 7, 7, 7, 7, 7, 7, 7, 7, 7, 7, 7, 7, 7, 7, 7, 7, 7, 7, 7, 7, 7, 7, 7, 7, 7, 7, 7, 7, 7, 7, 7, 7, 7, 7, 7, 7, 7, 7, 7, 7, 7, 7, 7, 7, 7, 7, 7, 7, 7, 7, 7, 7, 7, 7, 7, 7, 7, 7, 7, 7, 7, 8, 8, 8, 8, 8, 8, 8, 8, 8, 8, 8, 8, 8, 8, 8, 8, 8, 8, 8, 8, 8, 8, 8, 8, 8, 8, 8, 8, 8, 8, 8, 8, 8, 8, 8, 8, 8, 8, 8, 8, 8, 8, 8, 8, 8, 8, 8, 8, 8, 8, 8, 8, 8, 8, 8, 8, 8, 8, 8, 8, 8, 8, 8, 8, 8, 8, 8, 8, 8, 8, 8, 8, 8, 8, 8, 8, 8, 8, 8, 8, 8, 8, 8, 8, 8, 8, 8, 8, 8, 8, 8, 8, 8, 8, 8, 8, 8, 8, 8, 8, 8, 8, 8, 8, 8, 8, 8, 8, 8, 8, 8, 8, 8, 8, 8, 8, 8, 8, 8, 8, 8, 8, 8, 8, 8, 8, 8, 8]) (IntKind.wrap .u8 (shrI (shrI x_0 16) 8)) fun b1 =>
 Q (.int .i64 (IntKind.wrap .i64 ((IntKind.wrap .i64 ((16 : Int) + (8 : Int))) + (IntKind.wrap .i64 (b1.toNat : Int))))) h) (
 strI (ByteArray.mk #[0, 1, 2, 2, 3, 3, 3, 3, 4, 4, 4, 4, 4, 4, 4, 4, 5, 5, 5, 5, 5, 5, 5, 5, 5, 5, 5, 5, 5, 5, 5, 5, 6, 6, 6, 6, 6, 6, 6, 6, 6, 6, 6, 6, 6, 6, 6, 6, 6, 6, 6, 6, 6, 6, 6, 6, 6, 6, 6, 6, 6, 6, 6, 6, 7, 7, 7, 7, 7, 7, 7, 7, 7, 7, 7, 7, 7, 7, 7, 7, 7, 7, 7, 7, 7, 7, 7, 7, 7, 7, 7, 7, 7, 7, 7, 7, 7, 7, 7, 7, 7, 7, 7, 7, 7, 7, 7, 7, 7, 7, 7, 7, 7, 7, 7, 7, 7, 7, 7, 7, 7, 7, 7, 7, 7, 7, 7, 7, 8, 8, 8, 8, 8, 8, 8, 8, 8, 8, 8, 8, 8, 8, 8, 8, 8, 8, 8, 8, 8, 8, 8, 8, 8, 8, 8, 8, 8, 8, 8, 8, 8, 8, 8, 8, 8, 8, 8, 8, 8, 8, 8, 8, 8, 8, 8, 8, 8, 8, 8, 8, 8, 8, 8, 8, 8, 8, 8, 8, 8, 8, 8, 8, 8, 8, 8, 8, 8, 8, 8, 8, 8, 8, 8, 8, 8, 8, 8, 8, 8, 8, 8, 8, 8, 8, 8, 8, 8, 8, 8, 8, 8, 8, 8, 8, 8, 8, 8, 8, 8, 8, 8, 8, 8, 8, 8, 8, 8, 8, 8, 8, 8, 8, 8, 8, 8, 8, 8, 8, 8, 8, 8, 8, 8, 8, 8, 8]) (IntKind.wrap .u8 (shrI x_0 16)) fun b2 =>
 Q (.int .i64 (IntKind.wrap .i64 ((16 : Int) + (IntKind.wrap .i64 (b2.toNat : Int))))) h)) (
 ifB (decide (x_0 ≥ (256 : Int))) (
 strI (ByteArray.mk #[0, 1, 2, 2, 3, 3, 3, 3, 4, 4, 4, 4, 4, 4, 4, 4, 5, 5, 5, 5, 5, 5, 5, 5, 5, 5, 5, 5, 5, 5, 5, 5, 6, 6, 6, 6, 6, 6, 6, 6, 6, 6, 6, 6, 6, 6, 6, 6, 6, 6, 6, 6, 6, 6, 6, 6, 6, 6, 6, 6, 6, 6, 6, 6, 7, 7, 7, 7, 7, 7, 7, 7, 7, 7, 7, 7, 7, 7, 7, 7, 7, 7, 7, 7, 7, 7, 7, 7, 7, 7, 7, 7, 7, 7, 7, 7, 7, 7, 7, 7, 7, 7, 7, 7, 7, 7, 7, 7, 7, 7, 7, 7, 7, 7, 7, 7, 7, 7, 7, 7, 7, 7, 7, 7, 7, 7, 7, 7, 8, 8, 8, 8, 8, 8, 8, 8, 8, 8, 8, 8, 8, 8, 8, 8, 8, 8, 8, 8, 8, 8, 8, 8, 8, 8, 8, 8, 8, 8, 8, 8, 8, 8, 8, 8, 8, 8, 8, 8, 8, 8, 8, 8, 8, 8, 8, 8, 8, 8, 8, 8, 8, 8, 8, 8, 8, 8, 8, 8, 8, 8, 8, 8, 8, 8, 8, 8, 8, 8, 8, 8, 8, 8, 8, 8, 8, 8, 8, 8, 8, 8, 8, 8, 8, 8, 8, 8, 8, 8, 8, 8, 8, 8, 8, 8, 8, 8, 8, 8, 8, 8, 8, 8, 8, 8, 8, 8, 8, 8, 8, 8, 8, 8, 8, 8, 8, 8, 8, 8, 8, 8, 8, 8, 8, 8, 8, 8]) (IntKind.wrap .u8 (shrI x_0 8)) fun b3 =>
 Q (.int .i64 (IntKind.wrap .i64 ((IntKind.wrap .i64 ((0 : Int) + (8 : Int))) + (IntKind.wrap .i64 (b3.toNat : Int))))) h) (
 strI (ByteArray.mk #[0, 1, 2, 2, 3, 3, 3, 3, 4, 4, 4, 4, 4, 4, 4, 4, 5, 5, 5, 5, 5, 5, 5, 5, 5, 5, 5, 5, 5, 5, 5, 5, 6, 6, 6, 6, 6, 6, 6, 6, 6, 6, 6, 6, 6, 6, 6, 6, 6, 6, 6, 6, 6, 6, 6, 6, 6, 6, 6, 6, 6, 6, 6, 6, 7, 7, 7, 7, 7, 7, 7, 7, 7, 7, 7, 7, 7, 7, 7, 7, 7, 7, 7, 7, 7, 7, 7, 7, 7, 7, 7, 7, 7, 7, 7, 7, 7, 7, 7, 7, 7, 7, 7, 7, 7, 7, 7, 7, 7, 7, 7, 7, 7, 7, 7, 7, 7, 7, 7, 7, 7, 7, 7, 7, 7, 7, 7, 7, 8, 8, 8, 8, 8, 8, 8, 8, 8, 8, 8, 8, 8, 8, 8, 8, 8, 8, 8, 8, 8, 8, 8, 8, 8, 8, 8, 8, 8, 8, 8, 8, 8, 8, 8, 8, 8, 8, 8, 8, 8, 8, 8, 8, 8, 8, 8, 8, 8, 8, 8, 8, 8, 8, 8, 8, 8, 8, 8, 8, 8, 8, 8, 8, 8, 8, 8, 8, 8, 8, 8, 8, 8, 8, 8, 8, 8, 8, 8, 8, 8, 8, 8, 8, 8, 8, 8, 8, 8, 8, 8, 8, 8, 8, 8, 8, 8, 8, 8, 8, 8, 8, 8, 8, 8, 8, 8, 8, 8, 8, 8, 8, 8, 8, 8, 8, 8, 8, 8, 8, 8, 8, 8, 8, 8, 8, 8, 8]) (IntKind.wrap .u8 x_0) fun b4 =>
 Q (.int .i64 (IntKind.wrap .i64 ((0 : Int) + (IntKind.wrap .i64 (b4.toNat : Int))))) h))
noncomputable def tab_math_bits_Len32 : Tab := { sch := lookT .done [], lp := lookT [] [], jn := lookT none [] }
theorem eq_math_bits_Len32 (x_0 : Int) (h : Heap) (Q : Value → Heap → Prop) : fnI P Tryd.f100 tab_math_bits_Len32 [(.int .u32 x_0)] h Q = math_bits_Len32 x_0 h Q := by kernel_rfl
theorem ok_math_bits_Len32 : fnOk P Tryd.f100 tab_math_bits_Len32 = true := by kernel_rfl
theorem call_math_bits_Len32 (x_0 : Int) {h : Heap} {Q : Value → Heap → Prop} (H : math_bits_Len32 x_0 h Q) : callP P n_math_bits_Len32 #[(.int .u32 x_0)] h Q :=
 @callP_of P n_math_bits_Len32 Tryd.f100 tab_math_bits_Len32 [(.int .u32 x_0)] h Q mixed Tryd.func100 Tryd.call100 ok_math_bits_Len32 (Eq.mpr (eq_math_bits_Len32 x_0 h Q) H)

/-! ### math/bits.Len64: function 101 -/
def math_bits_Len64 (x_0 : Int) (h : Heap) (Q : Value → Heap → Prop) : Prop :=
 ifB (decide (x_0 ≥ (4294967296 : Int))) (
 ifB (decide ((shrI x_0 32) ≥ (65536 : Int))) (
 ifB (decide ((shrI (shrI x_0 32) 16) ≥ (256 : Int))) (
 strI (ByteArray.mk #[0, 1, 2, 2, 3, 3, 3, 3, 4, 4, 4, 4, 4, 4, 4, 4, 5, 5, 5, 5, 5, 5, 5, 5, 5, 5, 5, 5, 5, 5, 5, 5, 6, 6, 6, 6, 6, 6, 6, 6, 6, 6, 6, 6, 6, 6, 6, 6, 6, 6, 6, 6, 6, 6, 6, 6, 6, 6, 6, 6, 6, 6, 6, 6, 7, 7, 7, 7, 7, 7, 7, 7, 7, 7, 7, 7, 7, 7, 7, 7, 7, 7, 7, 7, 7, 7, 7, 7, 7, 7, 7, 7, 7, 7, 7, 7, 7, 7, 7, 7, 7, 7, 7, 7, 7, 7, 7, 7, 7, 7, 7, 7, 7, 7, 7, 7, 7, 7, 7, 7, 7, 7, 7, 7, 7, 7, 7, 7, 8, 8, 8, 8, 8, 8, 8, 8, 8, 8, 8, 8, 8, 8, 8, 8, 8, 8, 8, 8, 8, 8, 8, 8, 8, 8, 8, 8, 8, 8, 8, 8, 8, 8, 8, 8, 8, 8, 8, 8, 8, 8, 8, 8, 8, 8, 8, 8, 8, 8, 8, 8, 8, 8, 8, 8, 8, 8, 8, 8, 8, 8, 8, 8, 8, 8, 8, 8, 8, 8, 8, 8, 8, 8, 8, 8, 8, 8, 8, 8, 8, 8, 8, 8, 8, 8, 8, 8, 8, 8, 8, 8, 8, 8, 8, 8, 8, 8, 8, 8, 8, 8, 8, 8, 8, 8, 8, 8, 8, 8, 8, 8, 8, 8, 8, 8, 8, 8, 8, 8, 8, 8, 8, 8, 8, 8, 8, 8]) (IntKind.wrap .u8 (shrI (shrI (shrI x_0 32) 16) 8)) fun b1 =>
 Q (.int .i64 (IntKind.wrap .i64 ((IntKind.wrap .i64 ((IntKind.wrap .i64 ((32 : Int) + (16 : Int))) + (8 : Int))) + (IntKind.wrap .i64 (b1.toNat : Int))))) h) (
 strI (ByteArray.mk #[0, 1, 2, 2, 3, 3, 3, 3, 4, 4, 4, 4, 4, 4, 4, 4, 5, 5, 5, 5, 5, 5, 5, 5, 5, 5, 5, 5, 5, 5, 5, 5, 6, 6, 6, 6, 6, 6, 6, 6, 6, 6, 6, 6, 6, 6, 6, 6, 6, 6, 6, 6, 6, 6, 6, 6, 6, 6, 6, 6, 6, 6, 6, 6, 7, 7, 7, 7, 7, 7, 7, 7, 7, 7, 7, 7, 7, 7, 7, 7, 7, 7, 7, 7, 7, 7, 7, 7, 7, 7, 7, 7, 7, 7, 7, 7, 7, 7, 7, 7, 7, 7, 7, 7, 7, 7, 7, 7, 7, 7, 7, 7, 7, 7, 7, 7, 7, 7, 7, 7, 7, 7, 7, 7, 7, 7, 7, 7, 8, 8, 8, 8, 8, 8, 8, 8, 8, 8, 8, 8, 8, 8, 8, 8, 8, 8, 8, 8, 8, 8, 8, 8, 8, 8, 8, 8, 8, 8, 8, 8, 8, 8, 8, 8, 8, 8, 8, 8, 8, 8, 8, 8, 8, 8, 8, 8, 8, 8, 8, 8, 8, 8, 8, 8, 8, 8, 8, 8, 8, 8, 8, 8, 8, 8, 8, 8, 8, 8, 8, 8, 8, 8, 8, 8, 8, 8, 8, 8, 8, 8, 8, 8, 8, 8, 8, 8, 8, 8, 8, 8, 8, 8, 8, 8, 8, 8, 8, 8, 8, 8, 8, 8, 8, 8, 8, 8, 8, 8, 8, 8, 8, 8, 8, 8, 8, 8, 8, 8, 8, 8, 8, 8, 8, 8, 8, 8]) (IntKind.wrap .u8 (shrI (shrI x_0 32) 16)) fun b2 =>
 Q (.int .i64 (IntKind.wrap .i64 ((IntKind.wrap .i64 ((32 : Int) + (16 : Int))) + (IntKind.wrap .i64 (b2.toNat : Int))))) h)) (
 ifB (decide ((shrI x_0 32) ≥ (256 : Int))) (
 strI (ByteArray.mk #[0, 1, 2, 2, 3, 3, 3, 3, 4, 4, 4, 4, 4, 4, 4, 4, 5, 5, 5, 5, 5, 5, 5, 5, 5, 5, 5, 5, 5, 5, 5, 5, 6, 6, 6, 6, 6, 6, 6, 6, 6, 6, 6, 6, 6, 6, 6, 6, 6, 6, 6, 6, 6, 6, 6, 6, 6, 6, 6, 6, 6, 6, 6, 6, 7, 7, 7, 7, 7, 7, 7, 7, 7, 7, 7, 7, 7, 7, 7, 7, 7, 7, 7, 7, 7, 7, 7, 7, 7, 7, 7, 7, 7, 7, 7, 7, 7, 7, 7, 7, 7, 7, 7, 7, 7, 7, 7, 7, 7, 7, 7, 7, 7, 7, 7, 7, 7, 7, 7, 7, 7, 7, 7, 7, 7, 7, 7, 7, 8, 8, 8, 8, 8, 8, 8, 8, 8, 8, 8, 8, 8, 8, 8, 8, 8, 8, 8, 8, 8, 8, 8, 8, 8, 8, 8, 8, 8, 8, 8, 8, 8, 8, 8, 8, 8, 8, 8, 8, 8, 8, 8, 8, 8, 8, 8, 8, 8, 8, 8, 8, 8, 8, 8, 8, 8, 8, 8, 8, 8, 8, 8, 8, 8, 8, 8, 8, 8, 8, 8, 8, 8, 8, 8, 8, 8, 8, 8, 8, 8, 8, 8, 8, 8, 8, 8, 8, 8, 8, 8, 8, 8, 8, 8, 8, 8, 8, 8, 8, 8, 8, 8, 8, 8, 8, 8, 8, 8, 8, 8, 8, 8, 8, 8, 8, 8, 8, 8, 8, 8, 8, 8, 8, 8, 8, 8, 8]) (IntKind.wrap .u8 (shrI (shrI x_0 32) 8)) fun b3 =>
 Q (.int .i64 (IntKind.wrap .i64 ((IntKind.wrap .i64 ((32 : Int) + (8 : Int))) + (IntKind.wrap .i64 (b3.toNat : Int))))) h) (
 strI (ByteArray.mk #[0, 1, 2, 2, 3, 3, 3, 3, 4, 4, 4, 4, 4, 4, 4, 4, 5, 5, 5, 5, 5, 5, 5, 5, 5, 5, 5, 5, 5, 5, 5, 5, 6, 6, 6, 6, 6, 6, 6, 6, 6, 6, 6, 6, 6, 6, 6, 6, 6, 6, 6, 6, 6, 6, 6, 6, 6, 6, 6, 6, 6, 6, 6, 6, 7, 7, 7, 7, 7, 7, 7, 7, 7, 7, 7, 7, 7, 7, 7, 7, 7, 7, 7, 7, 7, 7, 7, 7, 7, 7, 7, 7, 7, 7, 7, 7, 7, 7, 7, 7, 7, 7, 7, 7, 7, 7, 7, 7, 7, 7, 7, 7, 7, 7, 7, 7, 7, 7, 7, 7, 7, 7, 7, 7, 7, 7, 7, 7, 8, 8, 8, 8, 8, 8, 8, 8, 8, 8, 8, 8, 8, 8, 8, 8, 8, 8, 8, 8, 8, 8, 8, 8, 8, 8, 8, 8, 8, 8, 8, 8, 8, 8, 8, 8, 8, 8, 8, 8, 8, 8, 8, 8, 8, 8, 8, 8, 8, 8, 8, 8, 8, 8, 8, 8, 8, 8, 8, 8, 8, 8, 8, 8, 8, 8, 8, 8, 8, 8, 8, 8, 8, 8, 8, 8, 8, 8, 8, 8, 8, 8, 8, 8, 8, 8, 8, 8, 8, 8, 8, 8, 8, 8, 8, 8, 8, 8, 8, 8, 8, 8, 8, 8, 8, 8, 8, 8, 8, 8, 8, 8, 8, 8, 8, 8, 8, 8, 8, 8, 8, 8, 8, 8, 8, 8, 8, 8]) (IntKind.wrap .u8 (shrI x_0 32)) fun b4 =>
 Q (.int .i64 (IntKind.wrap .i64 ((32 : Int) + (IntKind.wrap .i64 (b4.toNat : Int))))) h))) (
 ifB (decide (x_0 ≥ (65536 : Int))) (
 ifB (decide ((shrI x_0 16) ≥ (256 : Int))) (
 strI (ByteArray.mk #[0, 1, 2, 2, 3, 3, 3, 3, 4, 4, 4, 4, 4, 4, 4, 4, 5, 5, 5, 5, 5, 5, 5, 5, 5, 5, 5, 5, 5, 5, 5, 5, 6, 6, 6, 6, 6, 6, 6, 6, 6, 6, 6, 6, 6, 6, 6, 6, 6, 6, 6, 6, 6, 6, 6, 6, 6, 6, 6, 6, 6, 6, 6, 6, 7, 7, 7, 7, 7, 7, 7, 7, 7, 7, 7, 7, 7, 7, 7, 7, 7, 7, 7, 7, 7, 7, 7, 7, 7, 7, 7, 7, 7, 7, 7, 7, 7, 7, 7, 7, 7, 7, 7, 7, 7, 7, 7, 7, 7, 7, 7, 7, 7, 7, 7, 7, 7, 7, 7, 7, 7, 7, 7, 7, 7, 7, 7, 7, 8, 8, 8, 8, 8, 8, 8, 8, 8, 8, 8, 8, 8, 8, 8, 8, 8, 8, 8, 8, 8, 8, 8, 8, 8, 8, 8, 8, 8, 8, 8, 8, 8, 8, 8, 8, 8, 8, 8, 8, 8, 8, 8, 8, 8, 8, 8, 8, 8, 8, 8, 8, 8, 8, 8, 8, 8, 8, 8, 8, 8, 8, 8, 8, 8, 8, 8, 8, 8, 8, 8, 8, 8, 8, 8, 8, 8, 8, 8, 8, 8, 8, 8, 8, 8, 8, 8, 8, 8, 8, 8, 8, 8, 8, 8, 8, 8, 8, 8, 8, 8, 8, 8, 8, 8, 8, 8, 8, 8, 8, 8, 8, 8, 8, 8, 8, 8, 8, 8, 8, 8, 8, 8, 8, 8, 8, 8, 8]) (IntKind.wrap .u8 (shrI (shrI x_0 16) 8)) fun b5 =>
 Q (.int .i64 (IntKind.wrap .i64 ((IntKind.wrap .i64 ((IntKind.wrap .i64 ((0 : Int) + (16 : Int))) + (8 : Int))) + (IntKind.wrap .i64 (b5.toNat : Int))))) h) (
 strI (ByteArray.mk #[0, 1, 2, 2, 3, 3, 3, 3, 4, 4, 4, 4, 4, 4, 4, 4, 5, 5, 5, 5, 5, 5, 5, 5, 5, 5, 5, 5, 5, 5, 5, 5, 6, 6, 6, 6, 6, 6, 6, 6, 6, 6, 6, 6, 6, 6, 6, 6, 6, 6, 6, 6, 6, 6, 6, 6, 6, 6, 6, 6, 6, 6, 6, 6, 7, 7, 7, 7, 7, 7, 7, 7, 7, 7, 7, 7, 7, 7, 7, 7, 7, 7, 7, 7, 7, 7, 7, 7, 7, 7, 7, 7, 7, 7, 7, 7, 7, 7, 7, 7, 7, 7, 7, 7, 7, 7, 7, 7, 7, 7, 7, 7, 7, 7, 7, 7, 7, 7, 7, 7, 7, 7, 7, 7, 7, 7, 7, 7, 8, 8, 8, 8, 8, 8, 8, 8, 8, 8, 8, 8, 8, 8, 8, 8, 8, 8, 8, 8, 8, 8, 8, 8, 8, 8, 8, 8, 8, 8, 8, 8, 8, 8, 8, 8, 8, 8, 8, 8, 8, 8, 8, 8, 8, 8, 8, 8, 8, 8, 8, 8, 8, 8, 8, 8, 8, 8, 8, 8, 8, 8, 8, 8, 8, 8, 8, 8, 8, 8, 8, 8, 8, 8, 8, 8, 8, 8, 8, 8, 8, 8, 8, 8, 8, 8, 8, 8, 8, 8, 8, 8, 8, 8, 8, 8, 8, 8, 8, 8, 8, 8, 8, 8, 8, 8, 8, 8, 8, 8, 8, 8, 8, 8, 8, 8, 8, 8, 8, 8, 8, 8, 8, 8, 8, 8, 8, 8]) (IntKind.wrap .u8 (shrI x_0 16)) fun b6 =>
 Q (.int .i64 (IntKind.wrap .i64 ((IntKind.wrap .i64 ((0 : Int) + (16 : Int))) + (IntKind.wrap .i64 (b6.toNat : Int))))) h)) (
 ifB (decide (x_0 ≥ (256 : Int))) (
 strI (ByteArray.mk #[0, 1, 2, 2, 3, 3, 3, 3, 4, 4, 4, 4, 4, 4, 4, 4, 5, 5, 5, 5, 5, 5, 5, 5, 5, 5, 5, 5, 5, 5, 5, 5, 6, 6, 6, 6, 6, 6, 6, 6, 6, 6, 6, 6, 6, 6, 6, 6, 6, 6, 6, 6, 6, 6, 6, 6, 6, 6, 6, 6, 6, 6, 6, 6, 7, 7, 7, 7, 7, 7, 7, 7, 7, 7, 7, 7, 7, 7, 7, 7, 7, 7, 7, 7, 7, 7, 7, 7, 7, 7, 7, 7, 7, 7, 7, 7, 7, 7, 7, 7, 7, 7, 7, 7, 7, 7, 7, 7, 7, 7, 7, 7, 7, 7, 7, 7, 7, 7, 7, 7, 7, 7, 7, 7, 7, 7, 7, 7, 8, 8, 8, 8, 8, 8, 8, 8, 8, 8, 8, 8, 8, 8, 8, 8, 8, 8, 8, 8, 8, 8, 8, 8, 8, 8, 8, 8, 8, 8, 8, 8, 8, 8, 8, 8, 8, 8, 8, 8, 8, 8, 8, 8, 8, 8, 8, 8, 8, 8, 8, 8, 8, 8, 8, 8, 8, 8, 8, 8, 8, 8, 8, 8, 8, 8, 8, 8, 8, 8, 8, 8, 8, 8, 8, 8, 8, 8, 8, 8, 8, 8, 8, 8, 8, 8, 8, 8, 8, 8, 8, 8, 8, 8, 8, 8, 8, 8, 8, 8, 8, 8, 8, 8, 8, 8, 8, 8, 8, 8, 8, 8, 8, 8, 8, 8, 8, 8, 8, 8, 8, 8, 8, 8, 8, 8, 8, 8]) (IntKind.wrap .u8 (shrI x_0 8)) fun b7 =>
 Q (.int .i64 (IntKind.wrap .i64 ((IntKind.wrap .i64 ((0 : Int) + (8 : Int))) + (IntKind.wrap .i64 (b7.toNat : Int))))) h) (
 strI (ByteArray.mk #[0, 1, 2, 2, 3, 3, 3, 3, 4, 4, 4, 4, 4, 4, 4, 4, 5, 5, 5, 5, 5, 5, 5, 5, 5, 5, 5, 5, 5, 5, 5, 5, 6, 6, 6, 6, 6, 6, 6, 6, 6, 6, 6, 6, 6, 6, 6, 6, 6, 6, 6, 6, 6, 6, 6, 6, 6, 6, 6, 6, 6, 6, 6, 6, 7, 7, 7, 7, 7, 7, 7, 7, 7, 7, 7, 7, 7, 7, 7, 7, 7, 7, 7, 7, 7, 7, 7, 7, 7, 7, 7, 7, 7, 7, 7, 7, 7, 7, 7, 7, 7, 7, 7, 7, 7, 7, 7, 7, 7, 7, 7, 7, 7, 7, 7, 7, 7, 7, 7, 7, 7, 7, 7, 7, 7, 7, 7, 7, 8, 8, 8, 8, 8, 8, 8, 8, 8, 8, 8, 8, 8, 8, 8, 8, 8, 8, 8, 8, 8, 8, 8, 8, 8, 8, 8, 8, 8, 8, 8, 8, 8, 8, 8, 8, 8, 8, 8, 8, 8, 8, 8, 8, 8, 8, 8, 8, 8, 8, 8, 8, 8, 8, 8, 8, 8, 8, 8, 8, 8, 8, 8, 8, 8, 8, 8, 8, 8, 8, 8, 8, 8, 8, 8, 8, 8, 8, 8, 8, 8, 8, 8, 8, 8, 8, 8, 8, 8, 8, 8, 8, 8, 8, 8, 8, 8, 8, 8, 8, 8, 8, 8, 8, 8, 8, 8, 8, 8, 8, 8, 8, 8, 8, 8, 8, 8, 8, 8, 8, 8, 8, 8, 8, 8, 8, 8, 8]) (IntKind.wrap .u8 x_0) fun b8 =>
 Q (.int .i64 (IntKind.wrap .i64 ((0 : Int) + (IntKind.wrap .i64 (b8.toNat : Int))))) h)))
noncomputable def tab_math_bits_Len64 : Tab := { sch := lookT .done [], lp := lookT [] [], jn := lookT none [] }
theorem eq_math_bits_Len64 (x_0 : Int) (h : Heap) (Q : Value → Heap → Prop) : fnI P Tryd.f101 tab_math_bits_Len64 [(.int .u64 x_0)] h Q = math_bits_Len64 x_0 h Q := by kernel_rfl
theorem ok_math_bits_Len64 : fnOk P Tryd.f101 tab_math_bits_Len64 = true := by kernel_rfl
theorem call_math_bits_Len64 (x_0 : Int) {h : Heap} {Q : Value → Heap → Prop} (H : math_bits_Len64 x_0 h Q) : callP P n_math_bits_Len64 #[(.int .u64 x_0)] h Q :=
 @callP_of P n_math_bits_Len64 Tryd.f101 tab_math_bits_Len64 [(.int .u64 x_0)] h Q mixed Tryd.func101 Tryd.call101 ok_math_bits_Len64 (Eq.mpr (eq_math_bits_Len64 x_0 h Q) H)

/-! ### math/bits.Len: function 87 -/
def math_bits_Len (x_0 : Int) (h : Heap) (Q : Value → Heap → Prop) : Prop :=
 callInt P .i64 n_math_bits_Len64 #[(.int .u64 x_0)] h fun n2 h1 =>
 Q (.int .i64 n2) h1
noncomputable def tab_math_bits_Len : Tab := { sch := lookT .done [], lp := lookT [] [], jn := lookT none [] }
theorem eq_math_bits_Len (x_0 : Int) (h : Heap) (Q : Value → Heap → Prop) : fnI P Tryd.f87 tab_math_bits_Len [(.int .u64 x_0)] h Q = math_bits_Len x_0 h Q := by kernel_rfl
theorem ok_math_bits_Len : fnOk P Tryd.f87 tab_math_bits_Len = true := by kernel_rfl
theorem call_math_bits_Len (x_0 : Int) {h : Heap} {Q : Value → Heap → Prop} (H : math_bits_Len x_0 h Q) : callP P n_math_bits_Len #[(.int .u64 x_0)] h Q :=
 @callP_of P n_math_bits_Len Tryd.f87 tab_math_bits_Len [(.int .u64 x_0)] h Q mixed Tryd.func87 Tryd.call87 ok_math_bits_Len (Eq.mpr (eq_math_bits_Len x_0 h Q) H)

/-! ### cmp.isNaN[int]: function 107 -/
def cmp_isNaN_int (x_0 : Int) (h : Heap) (Q : Value → Heap → Prop) : Prop :=
 Q (.bool (x_0 != x_0)) h
noncomputable def tab_cmp_isNaN_int : Tab := { sch := lookT .done [], lp := lookT [] [], jn := lookT none [] }
theorem eq_cmp_isNaN_int (x_0 : Int) (h : Heap) (Q : Value → Heap → Prop) : fnI P Tryd.f107 tab_cmp_isNaN_int [(.int .i64 x_0)] h Q = cmp_isNaN_int x_0 h Q := by kernel_rfl
theorem ok_cmp_isNaN_int : fnOk P Tryd.f107 tab_cmp_isNaN_int = true := by kernel_rfl
theorem call_cmp_isNaN_int (x_0 : Int) {h : Heap} {Q : Value → Heap → Prop} (H : cmp_isNaN_int x_0 h Q) : callP P n_cmp_isNaN_int #[(.int .i64 x_0)] h Q :=
 @callP_of P n_cmp_isNaN_int Tryd.f107 tab_cmp_isNaN_int [(.int .i64 x_0)] h Q mixed Tryd.func107 Tryd.call107 ok_cmp_isNaN_int (Eq.mpr (eq_cmp_isNaN_int x_0 h Q) H)

/-! ### cmp.Less[int]: function 97 -/
def cmp_Less_int (x_0 : Int) (y_1 : Int) (h : Heap) (Q : Value → Heap → Prop) : Prop :=
 callBool P n_cmp_isNaN_int #[(.int .i64 x_0)] h fun b2 h1 =>
 ifB b2 (
 callBool P n_cmp_isNaN_int #[(.int .i64 y_1)] h1 fun b4 h3 =>
 ifB (!b4) (
 Q (.bool true) h3) (
 Q (.bool (decide (x_0 < y_1))) h3)) (
 Q (.bool (decide (x_0 < y_1))) h1)
noncomputable def tab_cmp_Less_int : Tab := { sch := lookT .done [], lp := lookT [] [], jn := lookT none [] }
theorem eq_cmp_Less_int (x_0 : Int) (y_1 : Int) (h : Heap) (Q : Value → Heap → Prop) : fnI P Tryd.f97 tab_cmp_Less_int [(.int .i64 x_0), (.int .i64 y_1)] h Q = cmp_Less_int x_0 y_1 h Q := by kernel_rfl
theorem ok_cmp_Less_int : fnOk P Tryd.f97 tab_cmp_Less_int = true := by kernel_rfl
theorem call_cmp_Less_int (x_0 : Int) (y_1 : Int) {h : Heap} {Q : Value → Heap → Prop} (H : cmp_Less_int x_0 y_1 h Q) : callP P n_cmp_Less_int #[(.int .i64 x_0), (.int .i64 y_1)] h Q :=
 @callP_of P n_cmp_Less_int Tryd.f97 tab_cmp_Less_int [(.int .i64 x_0), (.int .i64 y_1)] h Q mixed Tryd.func97 Tryd.call97 ok_cmp_Less_int (Eq.mpr (eq_cmp_Less_int x_0 y_1 h Q) H)

/-! ### slices.insertionSortOrdered[int]: function 91 -/
def slices_insertionSortOrdered_int_l4 (Q : Value → Heap → Prop) (K1 : ((Option Addr × Nat × Nat) × Int × Int × Int × Unit) → Heap → Prop) (K2 : ((Option Addr × Nat × Nat) × Int × Int × Int × Int × Unit) → Heap → Prop) (data_0_p : Option Addr) (data_0_n : Nat) (data_0_c : Nat) (a_1 : Int) (b_2 : Int) (i_6 : Int) (j_7 : Int) (h2 : Heap) : Prop :=
 ifB (decide (j_7 > a_1)) (
 idxI data_0_p j_7 data_0_n fun a3 =>
 idxI data_0_p (IntKind.wrap .i64 (j_7 - (1 : Int))) data_0_n fun a4 =>
 ldInt .i64 h2 (Addr.add a3 (j_7.toNat * 1)) fun n5 =>
 ldInt .i64 h2 (Addr.add a4 ((IntKind.wrap .i64 (j_7 - (1 : Int))).toNat * 1)) fun n6 =>
 callBool P n_cmp_Less_int #[(.int .i64 n5), (.int .i64 n6)] h2 fun b8 h7 =>
 ifB b8 (
 idxI data_0_p (IntKind.wrap .i64 (j_7 - (1 : Int))) data_0_n fun a9 =>
 idxI data_0_p j_7 data_0_n fun a10 =>
 ldInt .i64 h7 (Addr.add a9 ((IntKind.wrap .i64 (j_7 - (1 : Int))).toNat * 1)) fun n11 =>
 ldInt .i64 h7 (Addr.add a10 (j_7.toNat * 1)) fun n12 =>
 idxI data_0_p j_7 data_0_n fun a13 =>
 stI h7 (Addr.add a13 (j_7.toNat * 1)) (.int .i64 n11) fun h14 =>
 idxI data_0_p (IntKind.wrap .i64 (j_7 - (1 : Int))) data_0_n fun a15 =>
 stI h14 (Addr.add a15 ((IntKind.wrap .i64 (j_7 - (1 : Int))).toNat * 1)) (.int .i64 n12) fun h16 =>
 K2 ((data_0_p, data_0_n, data_0_c), a_1, b_2, i_6, (IntKind.wrap .i64 (j_7 - (1 : Int))), ()) h16) (
 K1 ((data_0_p, data_0_n, data_0_c), a_1, b_2, (IntKind.wrap .i64 (i_6 + (1 : Int))), ()) h7)) (
 K1 ((data_0_p, data_0_n, data_0_c), a_1, b_2, (IntKind.wrap .i64 (i_6 + (1 : Int))), ()) h2)
def slices_insertionSortOrdered_int_l1 (Q : Value → Heap → Prop) (K1 : ((Option Addr × Nat × Nat) × Int × Int × Int × Unit) → Heap → Prop) (data_0_p : Option Addr) (data_0_n : Nat) (data_0_c : Nat) (a_1 : Int) (b_2 : Int) (i_6 : Int) (h1 : Heap) : Prop :=
 ifB (decide (i_6 < b_2)) (
 LoopS (S := ((Option Addr × Nat × Nat) × Int × Int × Int × Int × Unit)) (fun K2 s h => slices_insertionSortOrdered_int_l4 Q K1 K2 s.1.1 s.1.2.1 s.1.2.2 s.2.1 s.2.2.1 s.2.2.2.1 s.2.2.2.2.1 h) ((data_0_p, data_0_n, data_0_c), a_1, b_2, i_6, i_6, ()) h1) (
 Q (.tuple #[]) h1)
def slices_insertionSortOrdered_int (data_0_p : Option Addr) (data_0_n : Nat) (data_0_c : Nat) (a_1 : Int) (b_2 : Int) (h : Heap) (Q : Value → Heap → Prop) : Prop :=
 LoopS (S := ((Option Addr × Nat × Nat) × Int × Int × Int × Unit)) (fun K1 s h => slices_insertionSortOrdered_int_l1 Q K1 s.1.1 s.1.2.1 s.1.2.2 s.2.1 s.2.2.1 s.2.2.2.1 h) ((data_0_p, data_0_n, data_0_c), a_1, b_2, (IntKind.wrap .i64 (a_1 + (1 : Int))), ()) h
noncomputable def tab_slices_insertionSortOrdered_int : Tab := { sch := lookT .done [(4, (ones [0, 1, 2, 3, 4, 5, 6, 8, 9, 10, 11, 7, 12] (.alt 13 (ones [14] .done) .stop))), (6, (ones [0, 1, 2, 3, 4, 5, 6, 7, 8, 10, 11, 12, 9, 13, 14] (.alt 15 (ones [16] (.alt 17 .done .stop)) .stop)))], lp := lookT [] [(1, [(0, .sc (.slice)), (1, .sc (.int .i64)), (2, .sc (.int .i64)), (6, .sc (.int .i64))]), (4, [(0, .sc (.slice)), (1, .sc (.int .i64)), (2, .sc (.int .i64)), (6, .sc (.int .i64)), (7, .sc (.int .i64))])], jn := lookT none [] }
theorem eq_slices_insertionSortOrdered_int (data_0_p : Option Addr) (data_0_n : Nat) (data_0_c : Nat) (a_1 : Int) (b_2 : Int) (h : Heap) (Q : Value → Heap → Prop) : fnI P Tryd.f91 tab_slices_insertionSortOrdered_int [(.slice data_0_p data_0_n data_0_c), (.int .i64 a_1), (.int .i64 b_2)] h Q = slices_insertionSortOrdered_int data_0_p data_0_n data_0_c a_1 b_2 h Q := by kernel_rfl
theorem ok_slices_insertionSortOrdered_int : fnOk P Tryd.f91 tab_slices_insertionSortOrdered_int = true := by kernel_rfl
theorem call_slices_insertionSortOrdered_int (data_0_p : Option Addr) (data_0_n : Nat) (data_0_c : Nat) (a_1 : Int) (b_2 : Int) {h : Heap} {Q : Value → Heap → Prop} (H : slices_insertionSortOrdered_int data_0_p data_0_n data_0_c a_1 b_2 h Q) : callP P n_slices_insertionSortOrdered_int #[(.slice data_0_p data_0_n data_0_c), (.int .i64 a_1), (.int .i64 b_2)] h Q :=
 @callP_of P n_slices_insertionSortOrdered_int Tryd.f91 tab_slices_insertionSortOrdered_int [(.slice data_0_p data_0_n data_0_c), (.int .i64 a_1), (.int .i64 b_2)] h Q mixed Tryd.func91 Tryd.call91 ok_slices_insertionSortOrdered_int (Eq.mpr (eq_slices_insertionSortOrdered_int data_0_p data_0_n data_0_c a_1 b_2 h Q) H)

/-! ### slices.pdqsortOrdered[int]: function 86 -/
def slices_pdqsortOrdered_int_j20 (Q : Value → Heap → Prop) (K1 : Y9 → Heap → Prop) (data_0_p : Option Addr) (data_0_n : Nat) (data_0_c : Nat) (a_1 : Int) (b_2 : Int) (limit_3 : Int) (length_10 : Int) (pivot_11 : Int) (h15 : Heap) : Prop :=
 callP P n_slices_partitionOrdered_int #[(.slice data_0_p data_0_n data_0_c), (.int .i64 a_1), (.int .i64 b_2), (.int .i64 pivot_11)] h15 fun v17 h16 =>
 ∃ n18 : Int, ∃ b19 : Bool, v17 = (.tuple #[(.int .i64 n18), (.bool b19)]) ∧
 ifB (decide ((IntKind.wrap .i64 (n18 - a_1)) < (IntKind.wrap .i64 (b_2 - n18)))) (
 callUnit P n_slices_pdqsortOrdered_int #[(.slice data_0_p data_0_n data_0_c), (.int .i64 a_1), (.int .i64 n18), (.int .i64 limit_3)] h16 fun h20 =>
 K1 ((data_0_p, data_0_n, data_0_c), (IntKind.wrap .i64 (n18 + (1 : Int))), b_2, limit_3, (decide ((IntKind.wrap .i64 (n18 - a_1)) ≥ (IntKind.wrap .i64 (Int.tdiv length_10 (8 : Int))))), b19, ()) h20) (
 callUnit P n_slices_pdqsortOrdered_int #[(.slice data_0_p data_0_n data_0_c), (.int .i64 (IntKind.wrap .i64 (n18 + (1 : Int)))), (.int .i64 b_2), (.int .i64 limit_3)] h16 fun h21 =>
 K1 ((data_0_p, data_0_n, data_0_c), a_1, n18, limit_3, (decide ((IntKind.wrap .i64 (b_2 - n18)) ≥ (IntKind.wrap .i64 (Int.tdiv length_10 (8 : Int))))), b19, ()) h21)
def slices_pdqsortOrdered_int_j17 (Q : Value → Heap → Prop) (K1 : Y9 → Heap → Prop) (data_0_p : Option Addr) (data_0_n : Nat) (data_0_c : Nat) (a_1 : Int) (b_2 : Int) (limit_3 : Int) (wasBalanced_8 : Bool) (wasPartitioned_9 : Bool) (length_10 : Int) (pivot_11 : Int) (h13 : Heap) : Prop :=
 ∃ J14 : Y8 → Heap → Prop, (∀ s h, J14 s h → slices_pdqsortOrdered_int_j20 Q K1 s.1.1 s.1.2.1 s.1.2.2 s.2.1 s.2.2.1 s.2.2.2.1 s.2.2.2.2.1 s.2.2.2.2.2.1 h) ∧
 ifB (decide (a_1 > (0 : Int))) (
 idxI data_0_p (IntKind.wrap .i64 (a_1 - (1 : Int))) data_0_n fun a22 =>
 idxI data_0_p pivot_11 data_0_n fun a23 =>
 ldInt .i64 h13 (Addr.add a22 ((IntKind.wrap .i64 (a_1 - (1 : Int))).toNat * 1)) fun n24 =>
 ldInt .i64 h13 (Addr.add a23 (pivot_11.toNat * 1)) fun n25 =>
 callBool P n_cmp_Less_int #[(.int .i64 n24), (.int .i64 n25)] h13 fun b27 h26 =>
 ifB (!b27) (
 callInt P .i64 n_slices_partitionEqualOrdered_int #[(.slice data_0_p data_0_n data_0_c), (.int .i64 a_1), (.int .i64 b_2), (.int .i64 pivot_11)] h26 fun n29 h28 =>
 K1 ((data_0_p, data_0_n, data_0_c), n29, b_2, limit_3, wasBalanced_8, wasPartitioned_9, ()) h28) (
 J14 ((data_0_p, data_0_n, data_0_c), a_1, b_2, limit_3, length_10, pivot_11, ()) h26)) (
 J14 ((data_0_p, data_0_n, data_0_c), a_1, b_2, limit_3, length_10, pivot_11, ()) h13)
def slices_pdqsortOrdered_int_j15 (Q : Value → Heap → Prop) (K1 : Y9 → Heap → Prop) (data_0_p : Option Addr) (data_0_n : Nat) (data_0_c : Nat) (a_1 : Int) (b_2 : Int) (limit_3 : Int) (wasBalanced_8 : Bool) (wasPartitioned_9 : Bool) (length_10 : Int) (pivot_11 : Int) (hint_12 : Int) (h11 : Heap) : Prop :=
 ∃ J12 : Y12 → Heap → Prop, (∀ s h, J12 s h → slices_pdqsortOrdered_int_j17 Q K1 s.1.1 s.1.2.1 s.1.2.2 s.2.1 s.2.2.1 s.2.2.2.1 s.2.2.2.2.1 s.2.2.2.2.2.1 s.2.2.2.2.2.2.1 s.2.2.2.2.2.2.2.1 h) ∧
 ifB wasBalanced_8 (
 ifB wasPartitioned_9 (
 ifB (hint_12 == (1 : Int)) (
 callBool P n_slices_partialInsertionSortOrdered_int #[(.slice data_0_p data_0_n data_0_c), (.int .i64 a_1), (.int .i64 b_2)] h11 fun b31 h30 =>
 ifB b31 (
 Q (.tuple #[]) h30) (
 J12 ((data_0_p, data_0_n, data_0_c), a_1, b_2, limit_3, wasBalanced_8, wasPartitioned_9, length_10, pivot_11, ()) h30)) (
 J12 ((data_0_p, data_0_n, data_0_c), a_1, b_2, limit_3, wasBalanced_8, wasPartitioned_9, length_10, pivot_11, ()) h11)) (
 J12 ((data_0_p, data_0_n, data_0_c), a_1, b_2, limit_3, wasBalanced_8, wasPartitioned_9, length_10, pivot_11, ()) h11)) (
 J12 ((data_0_p, data_0_n, data_0_c), a_1, b_2, limit_3, wasBalanced_8, wasPartitioned_9, length_10, pivot_11, ()) h11)
def slices_pdqsortOrdered_int_j10 (Q : Value → Heap → Prop) (K1 : Y9 → Heap → Prop) (data_0_p : Option Addr) (data_0_n : Nat) (data_0_c : Nat) (a_1 : Int) (b_2 : Int) (limit_3 : Int) (wasBalanced_8 : Bool) (wasPartitioned_9 : Bool) (length_10 : Int) (h5 : Heap) : Prop :=
 callP P n_slices_choosePivotOrdered_int #[(.slice data_0_p data_0_n data_0_c), (.int .i64 a_1), (.int .i64 b_2)] h5 fun v7 h6 =>
 ∃ n8 : Int, ∃ n9 : Int, v7 = (.tuple #[(.int .i64 n8), (.int .i64 n9)]) ∧
 ∃ J10 : Y11 → Heap → Prop, (∀ s h, J10 s h → slices_pdqsortOrdered_int_j15 Q K1 s.1.1 s.1.2.1 s.1.2.2 s.2.1 s.2.2.1 s.2.2.2.1 s.2.2.2.2.1 s.2.2.2.2.2.1 s.2.2.2.2.2.2.1 s.2.2.2.2.2.2.2.1 s.2.2.2.2.2.2.2.2.1 h) ∧
 ifB (n9 == (2 : Int)) (
 callUnit P n_slices_reverseRangeOrdered_int #[(.slice data_0_p data_0_n data_0_c), (.int .i64 a_1), (.int .i64 b_2)] h6 fun h32 =>
 J10 ((data_0_p, data_0_n, data_0_c), a_1, b_2, limit_3, wasBalanced_8, wasPartitioned_9, length_10, (IntKind.wrap .i64 ((IntKind.wrap .i64 (b_2 - (1 : Int))) - (IntKind.wrap .i64 (n8 - a_1)))), (1 : Int), ()) h32) (
 J10 ((data_0_p, data_0_n, data_0_c), a_1, b_2, limit_3, wasBalanced_8, wasPartitioned_9, length_10, n8, n9, ()) h6)
def slices_pdqsortOrdered_int_l2 (Q : Value → Heap → Prop) (K1 : Y9 → Heap → Prop) (data_0_p : Option Addr) (data_0_n : Nat) (data_0_c : Nat) (a_1 : Int) (b_2 : Int) (limit_3 : Int) (wasBalanced_8 : Bool) (wasPartitioned_9 : Bool) (h1 : Heap) : Prop :=
 ifB (decide ((IntKind.wrap .i64 (b_2 - a_1)) ≤ (12 : Int))) (
 callUnit P n_slices_insertionSortOrdered_int #[(.slice data_0_p data_0_n data_0_c), (.int .i64 a_1), (.int .i64 b_2)] h1 fun h2 =>
 Q (.tuple #[]) h2) (
 ifB (limit_3 == (0 : Int)) (
 callUnit P n_slices_heapSortOrdered_int #[(.slice data_0_p data_0_n data_0_c), (.int .i64 a_1), (.int .i64 b_2)] h1 fun h3 =>
 Q (.tuple #[]) h3) (
 ∃ J4 : Y10 → Heap → Prop, (∀ s h, J4 s h → slices_pdqsortOrdered_int_j10 Q K1 s.1.1 s.1.2.1 s.1.2.2 s.2.1 s.2.2.1 s.2.2.2.1 s.2.2.2.2.1 s.2.2.2.2.2.1 s.2.2.2.2.2.2.1 h) ∧
 ifB (!wasBalanced_8) (
 callUnit P n_slices_breakPatternsOrdered_int #[(.slice data_0_p data_0_n data_0_c), (.int .i64 a_1), (.int .i64 b_2)] h1 fun h33 =>
 J4 ((data_0_p, data_0_n, data_0_c), a_1, b_2, (IntKind.wrap .i64 (limit_3 - (1 : Int))), wasBalanced_8, wasPartitioned_9, (IntKind.wrap .i64 (b_2 - a_1)), ()) h33) (
 J4 ((data_0_p, data_0_n, data_0_c), a_1, b_2, limit_3, wasBalanced_8, wasPartitioned_9, (IntKind.wrap .i64 (b_2 - a_1)), ()) h1)))
def slices_pdqsortOrdered_int (data_0_p : Option Addr) (data_0_n : Nat) (data_0_c : Nat) (a_1 : Int) (b_2 : Int) (limit_3 : Int) (h : Heap) (Q : Value → Heap → Prop) : Prop :=
 LoopS (S := Y9) (fun K1 s h => slices_pdqsortOrdered_int_l2 Q K1 s.1.1 s.1.2.1 s.1.2.2 s.2.1 s.2.2.1 s.2.2.2.1 s.2.2.2.2.1 s.2.2.2.2.2.1 h) ((data_0_p, data_0_n, data_0_c), a_1, b_2, limit_3, true, true, ()) h
noncomputable def tab_slices_pdqsortOrdered_int : Tab := { sch := lookT .done [(17, (ones [0, 1, 2, 3, 4, 5, 6, 8, 9, 10, 7, 11] (.alt 12 (ones [13, 14] .done) .stop)))], lp := lookT [] [(2, [(0, .sc (.slice)), (1, .sc (.int .i64)), (2, .sc (.int .i64)), (3, .sc (.int .i64)), (8, .sc (.bool)), (9, .sc (.bool))])], jn := lookT none [(10, some [(0, .sc (.slice)), (1, .sc (.int .i64)), (2, .sc (.int .i64)), (3, .sc (.int .i64)), (8, .sc (.bool)), (9, .sc (.bool)), (10, .sc (.int .i64))]), (15, some [(0, .sc (.slice)), (1, .sc (.int .i64)), (2, .sc (.int .i64)), (3, .sc (.int .i64)), (8, .sc (.bool)), (9, .sc (.bool)), (10, .sc (.int .i64)), (11, .sc (.int .i64)), (12, .sc (.int .i64))]), (17, some [(0, .sc (.slice)), (1, .sc (.int .i64)), (2, .sc (.int .i64)), (3, .sc (.int .i64)), (8, .sc (.bool)), (9, .sc (.bool)), (10, .sc (.int .i64)), (11, .sc (.int .i64))]), (20, some [(0, .sc (.slice)), (1, .sc (.int .i64)), (2, .sc (.int .i64)), (3, .sc (.int .i64)), (10, .sc (.int .i64)), (11, .sc (.int .i64))])] }
theorem eq_slices_pdqsortOrdered_int (data_0_p : Option Addr) (data_0_n : Nat) (data_0_c : Nat) (a_1 : Int) (b_2 : Int) (limit_3 : Int) (h : Heap) (Q : Value → Heap → Prop) : fnI P Tryd.f86 tab_slices_pdqsortOrdered_int [(.slice data_0_p data_0_n data_0_c), (.int .i64 a_1), (.int .i64 b_2), (.int .i64 limit_3)] h Q = slices_pdqsortOrdered_int data_0_p data_0_n data_0_c a_1 b_2 limit_3 h Q := by kernel_rfl
theorem ok_slices_pdqsortOrdered_int : fnOk P Tryd.f86 tab_slices_pdqsortOrdered_int = true := by kernel_rfl
theorem call_slices_pdqsortOrdered_int (data_0_p : Option Addr) (data_0_n : Nat) (data_0_c : Nat) (a_1 : Int) (b_2 : Int) (limit_3 : Int) {h : Heap} {Q : Value → Heap → Prop} (H : slices_pdqsortOrdered_int data_0_p data_0_n data_0_c a_1 b_2 limit_3 h Q) : callP P n_slices_pdqsortOrdered_int #[(.slice data_0_p data_0_n data_0_c), (.int .i64 a_1), (.int .i64 b_2), (.int .i64 limit_3)] h Q :=
 @callP_of P n_slices_pdqsortOrdered_int Tryd.f86 tab_slices_pdqsortOrdered_int [(.slice data_0_p data_0_n data_0_c), (.int .i64 a_1), (.int .i64 b_2), (.int .i64 limit_3)] h Q mixed Tryd.func86 Tryd.call86 ok_slices_pdqsortOrdered_int (Eq.mpr (eq_slices_pdqsortOrdered_int data_0_p data_0_n data_0_c a_1 b_2 limit_3 h Q) H)

/-! ### slices.Sort[[]int,int]: function 66 -/
def slices_Sort_int_int (x_0_p : Option Addr) (x_0_n : Nat) (x_0_c : Nat) (h : Heap) (Q : Value → Heap → Prop) : Prop :=
 callInt P .i64 n_math_bits_Len #[(.int .u64 (IntKind.wrap .u64 ((x_0_n : Nat) : Int)))] h fun n2 h1 =>
 callUnit P n_slices_pdqsortOrdered_int #[(.slice x_0_p x_0_n x_0_c), (.int .i64 (0 : Int)), (.int .i64 ((x_0_n : Nat) : Int)), (.int .i64 n2)] h1 fun h3 =>
 Q (.tuple #[]) h3
noncomputable def tab_slices_Sort_int_int : Tab := { sch := lookT .done [], lp := lookT [] [], jn := lookT none [] }
theorem eq_slices_Sort_int_int (x_0_p : Option Addr) (x_0_n : Nat) (x_0_c : Nat) (h : Heap) (Q : Value → Heap → Prop) : fnI P Tryd.f66 tab_slices_Sort_int_int [(.slice x_0_p x_0_n x_0_c)] h Q = slices_Sort_int_int x_0_p x_0_n x_0_c h Q := by kernel_rfl
theorem ok_slices_Sort_int_int : fnOk P Tryd.f66 tab_slices_Sort_int_int = true := by kernel_rfl
theorem call_slices_Sort_int_int (x_0_p : Option Addr) (x_0_n : Nat) (x_0_c : Nat) {h : Heap} {Q : Value → Heap → Prop} (H : slices_Sort_int_int x_0_p x_0_n x_0_c h Q) : callP P n_slices_Sort_int_int #[(.slice x_0_p x_0_n x_0_c)] h Q :=
 @callP_of P n_slices_Sort_int_int Tryd.f66 tab_slices_Sort_int_int [(.slice x_0_p x_0_n x_0_c)] h Q mixed Tryd.func66 Tryd.call66 ok_slices_Sort_int_int (Eq.mpr (eq_slices_Sort_int_int x_0_p x_0_n x_0_c h Q) H)

/-! ### slices.Sorted[int]: function 40 -/
def slices_Sorted_int (seq_0 : Value) (h : Heap) (Q : Value → Heap → Prop) : Prop :=
 callSlice P n_slices_Collect_int #[seq_0] h fun p2 l2 c2 h1 =>
 callUnit P n_slices_Sort_int_int #[(.slice p2 l2 c2)] h1 fun h3 =>
 Q (.slice p2 l2 c2) h3
noncomputable def tab_slices_Sorted_int : Tab := { sch := lookT .done [], lp := lookT [] [], jn := lookT none [] }
theorem eq_slices_Sorted_int (seq_0 : Value) (h : Heap) (Q : Value → Heap → Prop) : fnI P Tryd.f40 tab_slices_Sorted_int [seq_0] h Q = slices_Sorted_int seq_0 h Q := by kernel_rfl
theorem ok_slices_Sorted_int : fnOk P Tryd.f40 tab_slices_Sorted_int = true := by kernel_rfl
theorem call_slices_Sorted_int (seq_0 : Value) {h : Heap} {Q : Value → Heap → Prop} (H : slices_Sorted_int seq_0 h Q) : callP P n_slices_Sorted_int #[seq_0] h Q :=
 @callP_of P n_slices_Sorted_int Tryd.f40 tab_slices_Sorted_int [seq_0] h Q mixed Tryd.func40 Tryd.call40 ok_slices_Sorted_int (Eq.mpr (eq_slices_Sorted_int seq_0 h Q) H)

/-! ### slices.Compact[[]int,int]: function 39 -/
def slices_Compact_int_int_l9 (Q : Value → Heap → Prop) (K1 : ((Option Addr × Nat × Nat) × Int × Unit) → Heap → Prop) (K2 : Y13 → Heap → Prop) (s_0_p : Option Addr) (s_0_n : Nat) (s_0_c : Nat) (k_3 : Int) (s2_4_p : Option Addr) (s2_4_n : Nat) (s2_4_c : Nat) (k2_5 : Int) (h7 : Heap) : Prop :=
 ifB (decide (k2_5 < ((s2_4_n : Nat) : Int))) (
 idxI s2_4_p k2_5 s2_4_n fun a8 =>
 idxI s2_4_p (IntKind.wrap .i64 (k2_5 - (1 : Int))) s2_4_n fun a9 =>
 ldInt .i64 h7 (Addr.add a8 (k2_5.toNat * 1)) fun n10 =>
 ldInt .i64 h7 (Addr.add a9 ((IntKind.wrap .i64 (k2_5 - (1 : Int))).toNat * 1)) fun n11 =>
 ifB (n10 != n11) (
 idxI s2_4_p k2_5 s2_4_n fun a12 =>
 ldInt .i64 h7 (Addr.add a12 (k2_5.toNat * 1)) fun n13 =>
 idxI s_0_p k_3 s_0_n fun a14 =>
 stI h7 (Addr.add a14 (k_3.toNat * 1)) (.int .i64 n13) fun h15 =>
 K2 ((s_0_p, s_0_n, s_0_c), (IntKind.wrap .i64 (k_3 + (1 : Int))), (s2_4_p, s2_4_n, s2_4_c), (IntKind.wrap .i64 (k2_5 + (1 : Int))), ()) h15) (
 K2 ((s_0_p, s_0_n, s_0_c), k_3, (s2_4_p, s2_4_n, s2_4_c), (IntKind.wrap .i64 (k2_5 + (1 : Int))), ()) h7)) (
 bndI k_3 s_0_n fun l16 =>
 clB (.int .i64 (0 : Int)) (if s_0_c = l16 then s_0_p else Option.map (fun a => a.add (l16 * 1)) s_0_p) (s_0_n - l16) h7 fun h17 =>
 bndI k_3 s_0_c fun l18 =>
 Q (.slice (if s_0_c = 0 then s_0_p else Option.map (fun a => a.add (0 * 1)) s_0_p) (l18 - 0) (s_0_c - 0)) h17)
def slices_Compact_int_int_l4 (Q : Value → Heap → Prop) (K1 : ((Option Addr × Nat × Nat) × Int × Unit) → Heap → Prop) (s_0_p : Option Addr) (s_0_n : Nat) (s_0_c : Nat) (k_3 : Int) (h1 : Heap) : Prop :=
 ifB (decide (k_3 < ((s_0_n : Nat) : Int))) (
 idxI s_0_p k_3 s_0_n fun a2 =>
 idxI s_0_p (IntKind.wrap .i64 (k_3 - (1 : Int))) s_0_n fun a3 =>
 ldInt .i64 h1 (Addr.add a2 (k_3.toNat * 1)) fun n4 =>
 ldInt .i64 h1 (Addr.add a3 ((IntKind.wrap .i64 (k_3 - (1 : Int))).toNat * 1)) fun n5 =>
 ifB (n4 == n5) (
 bndI k_3 s_0_n fun l6 =>
 LoopS (S := Y13) (fun K2 s h => slices_Compact_int_int_l9 Q K1 K2 s.1.1 s.1.2.1 s.1.2.2 s.2.1 s.2.2.1.1 s.2.2.1.2.1 s.2.2.1.2.2 s.2.2.2.1 h) ((s_0_p, s_0_n, s_0_c), k_3, ((if s_0_c = l6 then s_0_p else Option.map (fun a => a.add (l6 * 1)) s_0_p), (s_0_n - l6), (s_0_c - l6)), (1 : Int), ()) h1) (
 K1 ((s_0_p, s_0_n, s_0_c), (IntKind.wrap .i64 (k_3 + (1 : Int))), ()) h1)) (
 Q (.slice s_0_p s_0_n s_0_c) h1)
def slices_Compact_int_int (s_0_p : Option Addr) (s_0_n : Nat) (s_0_c : Nat) (h : Heap) (Q : Value → Heap → Prop) : Prop :=
 ifB (decide (((s_0_n : Nat) : Int) < (2 : Int))) (
 Q (.slice s_0_p s_0_n s_0_c) h) (
 LoopS (S := ((Option Addr × Nat × Nat) × Int × Unit)) (fun K1 s h => slices_Compact_int_int_l4 Q K1 s.1.1 s.1.2.1 s.1.2.2 s.2.1 h) ((s_0_p, s_0_n, s_0_c), (1 : Int), ()) h)
noncomputable def tab_slices_Compact_int_int : Tab := { sch := lookT .done [(6, (ones [0, 1, 2, 4, 5, 6, 7, 3, 8, 9] .done)), (11, (ones [0, 1, 2, 4, 5, 6, 7, 3, 8, 9] .done))], lp := lookT [] [(4, [(0, .sc (.slice)), (3, .sc (.int .i64))]), (9, [(0, .sc (.slice)), (3, .sc (.int .i64)), (4, .sc (.slice)), (5, .sc (.int .i64))])], jn := lookT none [] }
theorem eq_slices_Compact_int_int (s_0_p : Option Addr) (s_0_n : Nat) (s_0_c : Nat) (h : Heap) (Q : Value → Heap → Prop) : fnI P Tryd.f39 tab_slices_Compact_int_int [(.slice s_0_p s_0_n s_0_c)] h Q = slices_Compact_int_int s_0_p s_0_n s_0_c h Q := by kernel_rfl
theorem ok_slices_Compact_int_int : fnOk P Tryd.f39 tab_slices_Compact_int_int = true := by kernel_rfl
theorem call_slices_Compact_int_int (s_0_p : Option Addr) (s_0_n : Nat) (s_0_c : Nat) {h : Heap} {Q : Value → Heap → Prop} (H : slices_Compact_int_int s_0_p s_0_n s_0_c h Q) : callP P n_slices_Compact_int_int #[(.slice s_0_p s_0_n s_0_c)] h Q :=
 @callP_of P n_slices_Compact_int_int Tryd.f39 tab_slices_Compact_int_int [(.slice s_0_p s_0_n s_0_c)] h Q mixed Tryd.func39 Tryd.call39 ok_slices_Compact_int_int (Eq.mpr (eq_slices_Compact_int_int s_0_p s_0_n s_0_c h Q) H)

/-! ### earshot/fuse.live$1: function 38 -/
def fuse_live_1_l1 (Q : Value → Heap → Prop) (K1 : Y14 → Heap → Prop) (t2 : Addr) (t3 : Addr) (t16_p : Option Addr) (t16_n : Nat) (t16_c : Nat) (t17 : Int) (t18 : Int) (h11 : Heap) : Prop :=
 ifB (decide (t18 < t17)) (
 idxI t16_p t18 t16_n fun a12 =>
 ldInt .i64 h11 (Addr.add a12 (t18.toNat * 1)) fun n13 =>
 ldMap h11 t2 fun m14 =>
 lookB .i64 (.int .i64 (0 : Int)) m14 n13 h11 fun v16 b17 =>
 ∃ n18 : Int, v16 = (.int .i64 n18) ∧
 updB .i64 m14 n13 (.int .i64 (IntKind.wrap .i64 (n18 + (1 : Int)))) h11 fun h19 =>
 ifB (decide (n13 > (0 : Int))) (
 ldMap h19 t2 fun m20 =>
 lookB .i64 (.int .i64 (0 : Int)) m20 n13 h19 fun v22 b23 =>
 ∃ n24 : Int, v22 = (.int .i64 n24) ∧
 ifB (n24 == (1 : Int)) (
 ldAny h19 t3 fun v25 =>
 callAny P v25 [(.int .i64 n13)] h19 fun v26 h27 =>
 v26 = (.tuple #[]) ∧
 K1 (t2, t3, (t16_p, t16_n, t16_c), t17, (IntKind.wrap .i64 (t18 + (1 : Int))), ()) h27) (
 K1 (t2, t3, (t16_p, t16_n, t16_c), t17, (IntKind.wrap .i64 (t18 + (1 : Int))), ()) h19)) (
 K1 (t2, t3, (t16_p, t16_n, t16_c), t17, (IntKind.wrap .i64 (t18 + (1 : Int))), ()) h19)) (
 Q (.tuple #[]) h11)
def fuse_live_1 (i_0 : Int) (free0 : Addr) (free1 : Addr) (free2 : Addr) (h : Heap) (Q : Value → Heap → Prop) : Prop :=
 ldSlice h (Addr.add free0 3) fun p1 l1 c1 =>
 idxI p1 (IntKind.wrap .i64 (i_0 - (1 : Int))) l1 fun a2 =>
 ldSlice h (Addr.add (Addr.add a2 ((IntKind.wrap .i64 (i_0 - (1 : Int))).toNat * 15)) 1) fun p3 l3 c3 =>
 callP P n_slices_Values_int_int #[(.slice p3 l3 c3)] h fun v5 h4 =>
 ∃ v6 : Value, v5 = v6 ∧
 callSlice P n_slices_Sorted_int #[v6] h4 fun p8 l8 c8 h7 =>
 callSlice P n_slices_Compact_int_int #[(.slice p8 l8 c8)] h7 fun p10 l10 c10 h9 =>
 LoopS (S := Y14) (fun K1 s h => fuse_live_1_l1 Q K1 s.1 s.2.1 s.2.2.1.1 s.2.2.1.2.1 s.2.2.1.2.2 s.2.2.2.1 s.2.2.2.2.1 h) (free1, free2, (p10, l10, c10), ((l10 : Nat) : Int), (0 : Int), ()) h9
noncomputable def tab_fuse_live_1 : Tab := { sch := lookT .done [], lp := lookT [] [(1, [(2, .sc (.adr)), (3, .sc (.adr)), (16, .sc (.slice)), (17, .sc (.int .i64)), (18, .sc (.int .i64))])], jn := lookT none [] }
theorem eq_fuse_live_1 (i_0 : Int) (free0 : Addr) (free1 : Addr) (free2 : Addr) (h : Heap) (Q : Value → Heap → Prop) : fnI P Tryd.f38 tab_fuse_live_1 [(.int .i64 i_0), (.pointer (some free0)), (.pointer (some free1)), (.pointer (some free2))] h Q = fuse_live_1 i_0 free0 free1 free2 h Q := by kernel_rfl
theorem ok_fuse_live_1 : fnOk P Tryd.f38 tab_fuse_live_1 = true := by kernel_rfl
theorem call_fuse_live_1 (i_0 : Int) (free0 : Addr) (free1 : Addr) (free2 : Addr) {h : Heap} {Q : Value → Heap → Prop} (H : fuse_live_1 i_0 free0 free1 free2 h Q) : callP P n_fuse_live_1 #[(.int .i64 i_0), (.pointer (some free0)), (.pointer (some free1)), (.pointer (some free2))] h Q :=
 @callP_of P n_fuse_live_1 Tryd.f38 tab_fuse_live_1 [(.int .i64 i_0), (.pointer (some free0)), (.pointer (some free1)), (.pointer (some free2))] h Q mixed Tryd.func38 Tryd.call38 ok_fuse_live_1 (Eq.mpr (eq_fuse_live_1 i_0 free0 free1 free2 h Q) H)

/-! ### earshot/fuse.live: function 17 -/
def fuse_live (g_0 : TS A1) (h : Heap) (Q : Value → Heap → Prop) : Prop :=
 newI h (.cells (mkS' A1 g_0).toArray 28 (0, 0)) fun b1 h2 =>
 newI h2 (.map #[] 0) fun r4 h3 =>
 newI h3 (.cells #[(.map none)] 47 (0, 0)) fun b5 h6 =>
 stI h6 ⟨b5, 0, none⟩ (.map (some r4)) fun h7 =>
 newI h7 (.cells #[.nilFunc] 69 (0, 0)) fun b8 h9 =>
 stI h9 ⟨b8, 0, none⟩ (.func (.func n_fuse_live_1) #[] #[(.pointer (some ⟨b1, 0, none⟩)), (.pointer (some ⟨b5, 0, none⟩)), (.pointer (some ⟨b8, 0, none⟩))]) fun h10 =>
 ldMap h10 ⟨b5, 0, none⟩ fun m11 =>
 ldInt .i64 h10 ⟨b1, 4, none⟩ fun n12 =>
 updB .i64 m11 n12 (.int .i64 (0 : Int)) h10 fun h13 =>
 ldAny h13 ⟨b8, 0, none⟩ fun v14 =>
 ldInt .i64 h13 ⟨b1, 4, none⟩ fun n15 =>
 callAny P v14 [(.int .i64 n15)] h13 fun v16 h17 =>
 v16 = (.tuple #[]) ∧
 ldMap h17 ⟨b5, 0, none⟩ fun m18 =>
 Q (.map m18) h17
noncomputable def tab_fuse_live : Tab := { sch := lookT .done [], lp := lookT [] [], jn := lookT none [] }
theorem eq_fuse_live (g_0 : TS A1) (h : Heap) (Q : Value → Heap → Prop) : fnI P Tryd.f17 tab_fuse_live [(agS A1 g_0)] h Q = fuse_live g_0 h Q := by kernel_rfl
theorem ok_fuse_live : fnOk P Tryd.f17 tab_fuse_live = true := by kernel_rfl
theorem call_fuse_live (g_0 : TS A1) {h : Heap} {Q : Value → Heap → Prop} (H : fuse_live g_0 h Q) : callP P n_fuse_live #[(agS A1 g_0)] h Q :=
 @callP_of P n_fuse_live Tryd.f17 tab_fuse_live [(agS A1 g_0)] h Q mixed Tryd.func17 Tryd.call17 ok_fuse_live (Eq.mpr (eq_fuse_live g_0 h Q) H)

/-! ### slices.Index[[]int,int]: function 68 -/
def slices_Index_int_int_l2 (Q : Value → Heap → Prop) (K1 : ((Option Addr × Nat × Nat) × Int × Int × Int × Unit) → Heap → Prop) (s_0_p : Option Addr) (s_0_n : Nat) (s_0_c : Nat) (v_1 : Int) (t7 : Int) (t8 : Int) (h1 : Heap) : Prop :=
 ifB (decide (t8 < t7)) (
 idxI s_0_p t8 s_0_n fun a2 =>
 ldInt .i64 h1 (Addr.add a2 (t8.toNat * 1)) fun n3 =>
 ifB (v_1 == n3) (
 Q (.int .i64 t8) h1) (
 K1 ((s_0_p, s_0_n, s_0_c), v_1, t7, (IntKind.wrap .i64 (t8 + (1 : Int))), ()) h1)) (
 Q (.int .i64 (-1 : Int)) h1)
def slices_Index_int_int (s_0_p : Option Addr) (s_0_n : Nat) (s_0_c : Nat) (v_1 : Int) (h : Heap) (Q : Value → Heap → Prop) : Prop :=
 LoopS (S := ((Option Addr × Nat × Nat) × Int × Int × Int × Unit)) (fun K1 s h => slices_Index_int_int_l2 Q K1 s.1.1 s.1.2.1 s.1.2.2 s.2.1 s.2.2.1 s.2.2.2.1 h) ((s_0_p, s_0_n, s_0_c), v_1, ((s_0_n : Nat) : Int), (0 : Int), ()) h
noncomputable def tab_slices_Index_int_int : Tab := { sch := lookT .done [], lp := lookT [] [(2, [(0, .sc (.slice)), (1, .sc (.int .i64)), (7, .sc (.int .i64)), (8, .sc (.int .i64))])], jn := lookT none [] }
theorem eq_slices_Index_int_int (s_0_p : Option Addr) (s_0_n : Nat) (s_0_c : Nat) (v_1 : Int) (h : Heap) (Q : Value → Heap → Prop) : fnI P Tryd.f68 tab_slices_Index_int_int [(.slice s_0_p s_0_n s_0_c), (.int .i64 v_1)] h Q = slices_Index_int_int s_0_p s_0_n s_0_c v_1 h Q := by kernel_rfl
theorem ok_slices_Index_int_int : fnOk P Tryd.f68 tab_slices_Index_int_int = true := by kernel_rfl
theorem call_slices_Index_int_int (s_0_p : Option Addr) (s_0_n : Nat) (s_0_c : Nat) (v_1 : Int) {h : Heap} {Q : Value → Heap → Prop} (H : slices_Index_int_int s_0_p s_0_n s_0_c v_1 h Q) : callP P n_slices_Index_int_int #[(.slice s_0_p s_0_n s_0_c), (.int .i64 v_1)] h Q :=
 @callP_of P n_slices_Index_int_int Tryd.f68 tab_slices_Index_int_int [(.slice s_0_p s_0_n s_0_c), (.int .i64 v_1)] h Q mixed Tryd.func68 Tryd.call68 ok_slices_Index_int_int (Eq.mpr (eq_slices_Index_int_int s_0_p s_0_n s_0_c v_1 h Q) H)

end Go.Proofs.YtbgplllcjhgdhaaDoor.G
