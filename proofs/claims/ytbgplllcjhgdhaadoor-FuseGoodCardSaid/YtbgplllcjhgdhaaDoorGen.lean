/- Printed by shp.py out of the program's own print: for each Go function a typed formula over heaps, and the proof that a call does just that. -/
import Derived.Test.YtbgplllcjhgdhaaDoorGenA
set_option linter.unusedVariables false
set_option maxRecDepth 100000
namespace Go.Proofs.YtbgplllcjhgdhaaDoor.G
open Go Go.Sh
/-! ### slices.Contains[[]int,int]: function 42 -/
def slices_Contains_int_int (s_0_p : Option Addr) (s_0_n : Nat) (s_0_c : Nat) (v_1 : Int) (h : Heap) (Q : Value → Heap → Prop) : Prop :=
 callInt P .i64 n_slices_Index_int_int #[(.slice s_0_p s_0_n s_0_c), (.int .i64 v_1)] h fun n2 h1 =>
 Q (.bool (decide (n2 ≥ (0 : Int)))) h1
noncomputable def tab_slices_Contains_int_int : Tab := { sch := lookT .done [], lp := lookT [] [], jn := lookT none [] }
theorem eq_slices_Contains_int_int (s_0_p : Option Addr) (s_0_n : Nat) (s_0_c : Nat) (v_1 : Int) (h : Heap) (Q : Value → Heap → Prop) : fnI P Tryd.f42 tab_slices_Contains_int_int [(.slice s_0_p s_0_n s_0_c), (.int .i64 v_1)] h Q = slices_Contains_int_int s_0_p s_0_n s_0_c v_1 h Q := by kernel_rfl
theorem ok_slices_Contains_int_int : fnOk P Tryd.f42 tab_slices_Contains_int_int = true := by kernel_rfl
theorem call_slices_Contains_int_int (s_0_p : Option Addr) (s_0_n : Nat) (s_0_c : Nat) (v_1 : Int) {h : Heap} {Q : Value → Heap → Prop} (H : slices_Contains_int_int s_0_p s_0_n s_0_c v_1 h Q) : callP P n_slices_Contains_int_int #[(.slice s_0_p s_0_n s_0_c), (.int .i64 v_1)] h Q :=
 @callP_of P n_slices_Contains_int_int Tryd.f42 tab_slices_Contains_int_int [(.slice s_0_p s_0_n s_0_c), (.int .i64 v_1)] h Q mixed Tryd.func42 Tryd.call42 ok_slices_Contains_int_int (Eq.mpr (eq_slices_Contains_int_int s_0_p s_0_n s_0_c v_1 h Q) H)

/-! ### earshot/fuse.take: function 43 -/
def fuse_take (a_0 : Option Addr) (u_1 : Option Addr) (h : Heap) (Q : Value → Heap → Prop) : Prop :=
 nilI u_1 fun a1 =>
 ldInt .i64 h a1 fun n2 =>
 ifB (n2 == (10 : Int)) (
 nilI a_0 fun a3 =>
 ldInt .i64 h (Addr.add a3 14) fun n4 =>
 ifB (n4 == (0 : Int)) (
 nilI u_1 fun a5 =>
 nilI u_1 fun a6 =>
 ldInt .i64 h (Addr.add a5 10) fun n7 =>
 ldInt .i64 h (Addr.add a6 11) fun n8 =>
 nilI a_0 fun a9 =>
 stI h (Addr.add a9 14) (.int .i64 (1 : Int)) fun h10 =>
 nilI a_0 fun a11 =>
 stI h10 (Addr.add a11 10) (.int .i64 n7) fun h12 =>
 nilI a_0 fun a13 =>
 stI h12 (Addr.add a13 11) (.int .i64 n8) fun h14 =>
 Q (.bool true) h14) (
 nilI u_1 fun a15 =>
 ldInt .i64 h a15 fun n16 =>
 ifB (n16 == (9 : Int)) (
 nilI a_0 fun a17 =>
 ldInt .i64 h (Addr.add a17 14) fun n18 =>
 ifB ((andI .i64 n18 (2 : Int)) == (0 : Int)) (
 nilI a_0 fun a19 =>
 nilI u_1 fun a20 =>
 nilI u_1 fun a21 =>
 ldInt .i64 h (Addr.add a19 14) fun n22 =>
 ldInt .i64 h (Addr.add a20 12) fun n23 =>
 ldInt .i64 h (Addr.add a21 13) fun n24 =>
 nilI a_0 fun a25 =>
 stI h (Addr.add a25 14) (.int .i64 (orI .i64 n22 (2 : Int))) fun h26 =>
 nilI a_0 fun a27 =>
 stI h26 (Addr.add a27 12) (.int .i64 n23) fun h28 =>
 nilI a_0 fun a29 =>
 stI h28 (Addr.add a29 13) (.int .i64 n24) fun h30 =>
 Q (.bool true) h30) (
 Q (.bool false) h)) (
 Q (.bool false) h))) (
 nilI u_1 fun a31 =>
 ldInt .i64 h a31 fun n32 =>
 ifB (n32 == (9 : Int)) (
 nilI a_0 fun a33 =>
 ldInt .i64 h (Addr.add a33 14) fun n34 =>
 ifB ((andI .i64 n34 (2 : Int)) == (0 : Int)) (
 nilI a_0 fun a35 =>
 nilI u_1 fun a36 =>
 nilI u_1 fun a37 =>
 ldInt .i64 h (Addr.add a35 14) fun n38 =>
 ldInt .i64 h (Addr.add a36 12) fun n39 =>
 ldInt .i64 h (Addr.add a37 13) fun n40 =>
 nilI a_0 fun a41 =>
 stI h (Addr.add a41 14) (.int .i64 (orI .i64 n38 (2 : Int))) fun h42 =>
 nilI a_0 fun a43 =>
 stI h42 (Addr.add a43 12) (.int .i64 n39) fun h44 =>
 nilI a_0 fun a45 =>
 stI h44 (Addr.add a45 13) (.int .i64 n40) fun h46 =>
 Q (.bool true) h46) (
 Q (.bool false) h)) (
 Q (.bool false) h))
noncomputable def tab_fuse_take : Tab := { sch := lookT .done [(3, (ones [0, 1, 2, 3, 4, 5, 7, 8, 9, 6, 10, 11, 12] (.alt 13 (ones [14, 15] (.alt 16 (ones [17, 18] (.alt 19 .done .stop)) .stop)) .stop))), (5, (ones [0, 1, 2, 3, 4, 5, 8, 9, 10, 12, 13, 14, 6, 7, 11, 15, 16, 17] (.alt 18 (ones [19, 20] (.alt 21 (ones [22, 23] (.alt 24 .done .stop)) .stop)) .stop)))], lp := lookT [] [], jn := lookT none [] }
theorem eq_fuse_take (a_0 : Option Addr) (u_1 : Option Addr) (h : Heap) (Q : Value → Heap → Prop) : fnI P Tryd.f43 tab_fuse_take [(.pointer a_0), (.pointer u_1)] h Q = fuse_take a_0 u_1 h Q := by kernel_rfl
theorem ok_fuse_take : fnOk P Tryd.f43 tab_fuse_take = true := by kernel_rfl
theorem call_fuse_take (a_0 : Option Addr) (u_1 : Option Addr) {h : Heap} {Q : Value → Heap → Prop} (H : fuse_take a_0 u_1 h Q) : callP P n_fuse_take #[(.pointer a_0), (.pointer u_1)] h Q :=
 @callP_of P n_fuse_take Tryd.f43 tab_fuse_take [(.pointer a_0), (.pointer u_1)] h Q mixed Tryd.func43 Tryd.call43 ok_fuse_take (Eq.mpr (eq_fuse_take a_0 u_1 h Q) H)

/-! ### earshot/fuse.step: function 18 -/
def fuse_step_l20 (Q : Value → Heap → Prop) (K1 : (Option Addr × Option Nat × Int × Int × Unit) → Heap → Prop) (K2 : Y15 → Heap → Prop) (K3 : (Option Addr × Option Nat × Int × Int × Int × Int × Unit) → Heap → Prop) (K4 : Y16 → Heap → Prop) (g_0 : Option Addr) (l_1 : Option Nat) (i_5 : Int) (u_9 : Int) (j_14 : Int) (t116 : Int) (t117 : Int) (t127_p : Option Addr) (t127_n : Nat) (t127_c : Nat) (t128 : Int) (t129 : Int) (h42 : Heap) : Prop :=
 ifB (decide (t129 < t128)) (
 idxI t127_p t129 t127_n fun a43 =>
 ldInt .i64 h42 (Addr.add a43 (t129.toNat * 1)) fun n44 =>
 ifB (n44 == u_9) (
 ifB ((IntKind.wrap .i64 (j_14 + (1 : Int))) != u_9) (
 nilI g_0 fun a45 =>
 ldSlice h42 (Addr.add a45 3) fun p46 l46 c46 =>
 idxI p46 j_14 l46 fun a47 =>
 ldSlice h42 (Addr.add (Addr.add a47 (j_14.toNat * 15)) 1) fun p48 l48 c48 =>
 idxI p48 t129 l48 fun a49 =>
 stI h42 (Addr.add a49 (t129.toNat * 1)) (.int .i64 (IntKind.wrap .i64 (i_5 + (1 : Int)))) fun h50 =>
 K4 (g_0, l_1, i_5, u_9, j_14, t116, t117, (t127_p, t127_n, t127_c), t128, (IntKind.wrap .i64 (t129 + (1 : Int))), ()) h50) (
 K4 (g_0, l_1, i_5, u_9, j_14, t116, t117, (t127_p, t127_n, t127_c), t128, (IntKind.wrap .i64 (t129 + (1 : Int))), ()) h42)) (
 K4 (g_0, l_1, i_5, u_9, j_14, t116, t117, (t127_p, t127_n, t127_c), t128, (IntKind.wrap .i64 (t129 + (1 : Int))), ()) h42)) (
 K3 (g_0, l_1, i_5, u_9, t116, (IntKind.wrap .i64 (t117 + (1 : Int))), ()) h42)
def fuse_step_l17 (Q : Value → Heap → Prop) (K1 : (Option Addr × Option Nat × Int × Int × Unit) → Heap → Prop) (K2 : Y15 → Heap → Prop) (K3 : (Option Addr × Option Nat × Int × Int × Int × Int × Unit) → Heap → Prop) (g_0 : Option Addr) (l_1 : Option Nat) (i_5 : Int) (u_9 : Int) (t116 : Int) (t117 : Int) (h37 : Heap) : Prop :=
 ifB (decide (t117 < t116)) (
 nilI g_0 fun a38 =>
 ldSlice h37 (Addr.add a38 3) fun p39 l39 c39 =>
 idxI p39 t117 l39 fun a40 =>
 ldSlice h37 (Addr.add (Addr.add a40 (t117.toNat * 15)) 1) fun p41 l41 c41 =>
 LoopS (S := Y16) (fun K4 s h => fuse_step_l20 Q K1 K2 K3 K4 s.1 s.2.1 s.2.2.1 s.2.2.2.1 s.2.2.2.2.1 s.2.2.2.2.2.1 s.2.2.2.2.2.2.1 s.2.2.2.2.2.2.2.1.1 s.2.2.2.2.2.2.2.1.2.1 s.2.2.2.2.2.2.2.1.2.2 s.2.2.2.2.2.2.2.2.1 s.2.2.2.2.2.2.2.2.2.1 h) (g_0, l_1, i_5, u_9, t117, t116, t117, (p41, l41, c41), ((l41 : Nat) : Int), (0 : Int), ()) h37) (
 nilI g_0 fun a51 =>
 ldInt .i64 h37 (Addr.add a51 4) fun n52 =>
 ifB (n52 == u_9) (
 nilI g_0 fun a53 =>
 stI h37 (Addr.add a53 4) (.int .i64 (IntKind.wrap .i64 (i_5 + (1 : Int)))) fun h54 =>
 lookB .i64 (.int .i64 (0 : Int)) l_1 u_9 h54 fun v56 b57 =>
 ∃ n58 : Int, v56 = (.int .i64 n58) ∧
 updB .i64 l_1 (IntKind.wrap .i64 (i_5 + (1 : Int))) (.int .i64 n58) h54 fun h59 =>
 delB .i64 l_1 u_9 h59 fun h60 =>
 Q (.bool true) h60) (
 lookB .i64 (.int .i64 (0 : Int)) l_1 u_9 h37 fun v62 b63 =>
 ∃ n64 : Int, v62 = (.int .i64 n64) ∧
 updB .i64 l_1 (IntKind.wrap .i64 (i_5 + (1 : Int))) (.int .i64 n64) h37 fun h65 =>
 delB .i64 l_1 u_9 h65 fun h66 =>
 Q (.bool true) h66))
def fuse_step_l9 (Q : Value → Heap → Prop) (K1 : (Option Addr × Option Nat × Int × Int × Unit) → Heap → Prop) (K2 : Y15 → Heap → Prop) (g_0 : Option Addr) (l_1 : Option Nat) (i_5 : Int) (a_6 : Addr) (u_9 : Int) (t21 : Int) (t22 : Int) (t77_p : Option Addr) (t77_n : Nat) (t77_c : Nat) (t78 : Int) (t79 : Int) (h16 : Heap) : Prop :=
 ifB (decide (t79 < t78)) (
 idxI t77_p t79 t77_n fun a17 =>
 ldAg A2 h16 (Addr.add a17 (t79.toNat * 15)) fun x18 =>
 newI h16 (.cells (mkS' A2 (zT A2)).toArray 25 (0, 0)) fun b19 h20 =>
 storeL (mkS' A2 x18) h20 ⟨b19, 0, none⟩ 0 fun h21 =>
 lookB .i64 (.int .i64 (0 : Int)) l_1 (IntKind.wrap .i64 (t79 + (1 : Int))) h21 fun v23 b24 =>
 ∃ n25 : Int, ∃ b26 : Bool, (Value.tuple #[v23, .bool b24]) = (.tuple #[(.int .i64 n25), (.bool b26)]) ∧
 ifB b26 (
 ldSlice h21 ⟨b19, 1, none⟩ fun p27 l27 c27 =>
 callBool P n_slices_Contains_int_int #[(.slice p27 l27 c27), (.int .i64 (IntKind.wrap .i64 (i_5 + (1 : Int))))] h21 fun b29 h28 =>
 ifB b29 (
 K2 (g_0, l_1, i_5, a_6, (IntKind.wrap .i64 (t79 + (1 : Int))), t21, t22, (t77_p, t77_n, t77_c), t78, (IntKind.wrap .i64 (t79 + (1 : Int))), ()) h28) (
 K2 (g_0, l_1, i_5, a_6, u_9, t21, t22, (t77_p, t77_n, t77_c), t78, (IntKind.wrap .i64 (t79 + (1 : Int))), ()) h28)) (
 K2 (g_0, l_1, i_5, a_6, u_9, t21, t22, (t77_p, t77_n, t77_c), t78, (IntKind.wrap .i64 (t79 + (1 : Int))), ()) h21)) (
 nilI g_0 fun a30 =>
 ldSlice h16 (Addr.add a30 3) fun p31 l31 c31 =>
 idxI p31 (IntKind.wrap .i64 (u_9 - (1 : Int))) l31 fun a32 =>
 callBool P n_fuse_take #[(.pointer (some a_6)), (.pointer (some (Addr.add a32 ((IntKind.wrap .i64 (u_9 - (1 : Int))).toNat * 15))))] h16 fun b34 h33 =>
 ifB (!b34) (
 K1 (g_0, l_1, t21, (IntKind.wrap .i64 (t22 + (1 : Int))), ()) h33) (
 nilI g_0 fun a35 =>
 ldSlice h33 (Addr.add a35 3) fun p36 l36 c36 =>
 LoopS (S := (Option Addr × Option Nat × Int × Int × Int × Int × Unit)) (fun K3 s h => fuse_step_l17 Q K1 K2 K3 s.1 s.2.1 s.2.2.1 s.2.2.2.1 s.2.2.2.2.1 s.2.2.2.2.2.1 h) (g_0, l_1, i_5, u_9, ((l36 : Nat) : Int), (0 : Int), ()) h33))
def fuse_step_j7 (Q : Value → Heap → Prop) (K1 : (Option Addr × Option Nat × Int × Int × Unit) → Heap → Prop) (g_0 : Option Addr) (l_1 : Option Nat) (i_5 : Int) (a_6 : Addr) (t21 : Int) (t22 : Int) (h13 : Heap) : Prop :=
 nilI g_0 fun a14 =>
 ldSlice h13 (Addr.add a14 3) fun p15 l15 c15 =>
 LoopS (S := Y15) (fun K2 s h => fuse_step_l9 Q K1 K2 s.1 s.2.1 s.2.2.1 s.2.2.2.1 s.2.2.2.2.1 s.2.2.2.2.2.1 s.2.2.2.2.2.2.1 s.2.2.2.2.2.2.2.1.1 s.2.2.2.2.2.2.2.1.2.1 s.2.2.2.2.2.2.2.1.2.2 s.2.2.2.2.2.2.2.2.1 s.2.2.2.2.2.2.2.2.2.1 h) (g_0, l_1, i_5, a_6, (0 : Int), t21, t22, (p15, l15, c15), ((l15 : Nat) : Int), (0 : Int), ()) h13
def fuse_step_l2 (Q : Value → Heap → Prop) (K1 : (Option Addr × Option Nat × Int × Int × Unit) → Heap → Prop) (g_0 : Option Addr) (l_1 : Option Nat) (t21 : Int) (t22 : Int) (h3 : Heap) : Prop :=
 ifB (decide (t22 < t21)) (
 nilI g_0 fun a4 =>
 ldSlice h3 (Addr.add a4 3) fun p5 l5 c5 =>
 idxI p5 t22 l5 fun a6 =>
 lookB .i64 (.int .i64 (0 : Int)) l_1 (IntKind.wrap .i64 (t22 + (1 : Int))) h3 fun v8 b9 =>
 ∃ n10 : Int, ∃ b11 : Bool, (Value.tuple #[v8, .bool b9]) = (.tuple #[(.int .i64 n10), (.bool b11)]) ∧
 ∃ J12 : (Option Addr × Option Nat × Int × Addr × Int × Int × Unit) → Heap → Prop, (∀ s h, J12 s h → fuse_step_j7 Q K1 s.1 s.2.1 s.2.2.1 s.2.2.2.1 s.2.2.2.2.1 s.2.2.2.2.2.1 h) ∧
 ifB (!b11) (
 K1 (g_0, l_1, t21, (IntKind.wrap .i64 (t22 + (1 : Int))), ()) h3) (
 ifB (n10 != (1 : Int)) (
 K1 (g_0, l_1, t21, (IntKind.wrap .i64 (t22 + (1 : Int))), ()) h3) (
 nilI g_0 fun a67 =>
 ldInt .i64 h3 (Addr.add a67 4) fun n68 =>
 ifB ((IntKind.wrap .i64 (t22 + (1 : Int))) == n68) (
 K1 (g_0, l_1, t21, (IntKind.wrap .i64 (t22 + (1 : Int))), ()) h3) (
 nilI (some (Addr.add a6 (t22.toNat * 15))) fun a69 =>
 ldInt .i64 h3 a69 fun n70 =>
 ifB (n70 != (1 : Int)) (
 nilI (some (Addr.add a6 (t22.toNat * 15))) fun a71 =>
 ldInt .i64 h3 a71 fun n72 =>
 ifB (n72 != (2 : Int)) (
 nilI (some (Addr.add a6 (t22.toNat * 15))) fun a73 =>
 ldInt .i64 h3 a73 fun n74 =>
 ifB (n74 != (6 : Int)) (
 K1 (g_0, l_1, t21, (IntKind.wrap .i64 (t22 + (1 : Int))), ()) h3) (
 J12 (g_0, l_1, t22, Addr.add a6 (t22.toNat * 15), t21, t22, ()) h3)) (
 J12 (g_0, l_1, t22, Addr.add a6 (t22.toNat * 15), t21, t22, ()) h3)) (
 J12 (g_0, l_1, t22, Addr.add a6 (t22.toNat * 15), t21, t22, ()) h3))))) (
 Q (.bool false) h3)
def fuse_step (g_0 : Option Addr) (l_1 : Option Nat) (h : Heap) (Q : Value → Heap → Prop) : Prop :=
 nilI g_0 fun a1 =>
 ldSlice h (Addr.add a1 3) fun p2 l2 c2 =>
 LoopS (S := (Option Addr × Option Nat × Int × Int × Unit)) (fun K1 s h => fuse_step_l2 Q K1 s.1 s.2.1 s.2.2.1 s.2.2.2.1 h) (g_0, l_1, ((l2 : Nat) : Int), (0 : Int), ()) h
noncomputable def tab_fuse_step : Tab := { sch := lookT .done [], lp := lookT [] [(2, [(0, .sc (.ptr)), (1, .sc (.map)), (21, .sc (.int .i64)), (22, .sc (.int .i64))]), (9, [(0, .sc (.ptr)), (1, .sc (.map)), (5, .sc (.int .i64)), (6, .sc (.adr)), (9, .sc (.int .i64)), (21, .sc (.int .i64)), (22, .sc (.int .i64)), (77, .sc (.slice)), (78, .sc (.int .i64)), (79, .sc (.int .i64))]), (17, [(0, .sc (.ptr)), (1, .sc (.map)), (5, .sc (.int .i64)), (9, .sc (.int .i64)), (116, .sc (.int .i64)), (117, .sc (.int .i64))]), (20, [(0, .sc (.ptr)), (1, .sc (.map)), (5, .sc (.int .i64)), (9, .sc (.int .i64)), (14, .sc (.int .i64)), (116, .sc (.int .i64)), (117, .sc (.int .i64)), (127, .sc (.slice)), (128, .sc (.int .i64)), (129, .sc (.int .i64))])], jn := lookT none [(7, some [(0, .sc (.ptr)), (1, .sc (.map)), (5, .sc (.int .i64)), (6, .sc (.adr)), (21, .sc (.int .i64)), (22, .sc (.int .i64))])] }
theorem eq_fuse_step (g_0 : Option Addr) (l_1 : Option Nat) (h : Heap) (Q : Value → Heap → Prop) : fnI P Tryd.f18 tab_fuse_step [(.pointer g_0), (.map l_1)] h Q = fuse_step g_0 l_1 h Q := by kernel_rfl
theorem ok_fuse_step : fnOk P Tryd.f18 tab_fuse_step = true := by kernel_rfl
theorem call_fuse_step (g_0 : Option Addr) (l_1 : Option Nat) {h : Heap} {Q : Value → Heap → Prop} (H : fuse_step g_0 l_1 h Q) : callP P n_fuse_step #[(.pointer g_0), (.map l_1)] h Q :=
 @callP_of P n_fuse_step Tryd.f18 tab_fuse_step [(.pointer g_0), (.map l_1)] h Q mixed Tryd.func18 Tryd.call18 ok_fuse_step (Eq.mpr (eq_fuse_step g_0 l_1 h Q) H)

/-! ### earshot/fuse.Fuse: function 8 -/
def fuse_Fuse_l20 (Q : Value → Heap → Prop) (K1 : (Addr × Addr × Option Nat × Unit) → Heap → Prop) (K2 : Y17 → Heap → Prop) (K3 : Y18 → Heap → Prop) (K4 : Y19 → Heap → Prop) (g_1 : Addr) (t2 : Addr) (number_4 : Option Nat) (left_5_p : Option Addr) (left_5_n : Nat) (left_5_c : Nat) (n_11 : Addr) (t52_p : Option Addr) (t52_n : Nat) (t52_c : Nat) (t53 : Int) (t54 : Int) (t59_p : Option Addr) (t59_n : Nat) (t59_c : Nat) (t60 : Int) (t61 : Int) (h49 : Heap) : Prop :=
 ifB (decide (t61 < t60)) (
 idxI t59_p t61 t59_n fun a50 =>
 ldInt .i64 h49 (Addr.add a50 (t61.toNat * 1)) fun n51 =>
 ldSlice h49 (Addr.add n_11 1) fun p52 l52 c52 =>
 lookB .i64 (.int .i64 (0 : Int)) number_4 n51 h49 fun v54 b55 =>
 ∃ n56 : Int, v54 = (.int .i64 n56) ∧
 idxI p52 t61 l52 fun a57 =>
 stI h49 (Addr.add a57 (t61.toNat * 1)) (.int .i64 n56) fun h58 =>
 K4 (g_1, t2, number_4, (left_5_p, left_5_n, left_5_c), n_11, (t52_p, t52_n, t52_c), t53, t54, (t59_p, t59_n, t59_c), t60, (IntKind.wrap .i64 (t61 + (1 : Int))), ()) h58) (
 K3 (g_1, t2, number_4, (left_5_p, left_5_n, left_5_c), (t52_p, t52_n, t52_c), t53, (IntKind.wrap .i64 (t54 + (1 : Int))), ()) h49)
def fuse_Fuse_l17 (Q : Value → Heap → Prop) (K1 : (Addr × Addr × Option Nat × Unit) → Heap → Prop) (K2 : Y17 → Heap → Prop) (K3 : Y18 → Heap → Prop) (g_1 : Addr) (t2 : Addr) (number_4 : Option Nat) (left_5_p : Option Addr) (left_5_n : Nat) (left_5_c : Nat) (t52_p : Option Addr) (t52_n : Nat) (t52_c : Nat) (t53 : Int) (t54 : Int) (h42 : Heap) : Prop :=
 ifB (decide (t54 < t53)) (
 idxI t52_p t54 t52_n fun a43 =>
 ldAg A2 h42 (Addr.add a43 (t54.toNat * 15)) fun x44 =>
 newI h42 (.cells (mkS' A2 (zT A2)).toArray 25 (0, 0)) fun b45 h46 =>
 storeL (mkS' A2 x44) h46 ⟨b45, 0, none⟩ 0 fun h47 =>
 ldSlice h47 ⟨b45, 1, none⟩ fun p48 l48 c48 =>
 LoopS (S := Y19) (fun K4 s h => fuse_Fuse_l20 Q K1 K2 K3 K4 s.1 s.2.1 s.2.2.1 s.2.2.2.1.1 s.2.2.2.1.2.1 s.2.2.2.1.2.2 s.2.2.2.2.1 s.2.2.2.2.2.1.1 s.2.2.2.2.2.1.2.1 s.2.2.2.2.2.1.2.2 s.2.2.2.2.2.2.1 s.2.2.2.2.2.2.2.1 s.2.2.2.2.2.2.2.2.1.1 s.2.2.2.2.2.2.2.2.1.2.1 s.2.2.2.2.2.2.2.2.1.2.2 s.2.2.2.2.2.2.2.2.2.1 s.2.2.2.2.2.2.2.2.2.2.1 h) (g_1, t2, number_4, (left_5_p, left_5_n, left_5_c), ⟨b45, 0, none⟩, (t52_p, t52_n, t52_c), t53, t54, (p48, l48, c48), ((l48 : Nat) : Int), (0 : Int), ()) h47) (
 ldInt .i64 h42 (Addr.add g_1 4) fun n59 =>
 lookB .i64 (.int .i64 (0 : Int)) number_4 n59 h42 fun v61 b62 =>
 ∃ n63 : Int, v61 = (.int .i64 n63) ∧
 stI h42 (Addr.add g_1 3) (.slice left_5_p left_5_n left_5_c) fun h64 =>
 stI h64 (Addr.add g_1 4) (.int .i64 n63) fun h65 =>
 ldAg A1 h65 g_1 fun x66 =>
 storeL (mkS' A1 x66) h65 t2 0 fun h67 =>
 ldAg A1 h67 t2 fun x68 =>
 Q (agS A1 x68) h67)
def fuse_Fuse_l9 (Q : Value → Heap → Prop) (K1 : (Addr × Addr × Option Nat × Unit) → Heap → Prop) (K2 : Y17 → Heap → Prop) (g_1 : Addr) (t2 : Addr) (l_3 : Option Nat) (number_4 : Option Nat) (left_5_p : Option Addr) (left_5_n : Nat) (left_5_c : Nat) (t27_p : Option Addr) (t27_n : Nat) (t27_c : Nat) (t28 : Int) (t29 : Int) (h25 : Heap) : Prop :=
 ifB (decide (t29 < t28)) (
 idxI t27_p t29 t27_n fun a26 =>
 ldAg A2 h25 (Addr.add a26 (t29.toNat * 15)) fun x27 =>
 newI h25 (.cells (mkS' A2 (zT A2)).toArray 25 (0, 0)) fun b28 h29 =>
 storeL (mkS' A2 x27) h29 ⟨b28, 0, none⟩ 0 fun h30 =>
 lookB .i64 (.int .i64 (0 : Int)) l_3 (IntKind.wrap .i64 (t29 + (1 : Int))) h30 fun v32 b33 =>
 ∃ n34 : Int, ∃ b35 : Bool, (Value.tuple #[v32, .bool b33]) = (.tuple #[(.int .i64 n34), (.bool b35)]) ∧
 ifB b35 (
 ldAg A2 h30 ⟨b28, 0, none⟩ fun x36 =>
 newI h30 (.cells (mkS' A2 x36).toArray 25 (0, 0)) fun b37 h38 =>
 appI 25 15 168 (agS A2 (zT A2)) left_5_p left_5_n left_5_c (some ⟨b37, 0, none⟩) 1 h38 fun p39 l39 c39 h40 =>
 updB .i64 number_4 (IntKind.wrap .i64 (t29 + (1 : Int))) (.int .i64 ((l39 : Nat) : Int)) h40 fun h41 =>
 K2 (g_1, t2, l_3, number_4, (p39, l39, c39), (t27_p, t27_n, t27_c), t28, (IntKind.wrap .i64 (t29 + (1 : Int))), ()) h41) (
 K2 (g_1, t2, l_3, number_4, (left_5_p, left_5_n, left_5_c), (t27_p, t27_n, t27_c), t28, (IntKind.wrap .i64 (t29 + (1 : Int))), ()) h30)) (
 LoopS (S := Y18) (fun K3 s h => fuse_Fuse_l17 Q K1 K2 K3 s.1 s.2.1 s.2.2.1 s.2.2.2.1.1 s.2.2.2.1.2.1 s.2.2.2.1.2.2 s.2.2.2.2.1.1 s.2.2.2.2.1.2.1 s.2.2.2.2.1.2.2 s.2.2.2.2.2.1 s.2.2.2.2.2.2.1 h) (g_1, t2, number_4, (left_5_p, left_5_n, left_5_c), (left_5_p, left_5_n, left_5_c), ((left_5_n : Nat) : Int), (0 : Int), ()) h25)
def fuse_Fuse_l5 (Q : Value → Heap → Prop) (K1 : (Addr × Addr × Option Nat × Unit) → Heap → Prop) (g_1 : Addr) (t2 : Addr) (l_3 : Option Nat) (h18 : Heap) : Prop :=
 callBool P n_fuse_step #[(.pointer (some g_1)), (.map l_3)] h18 fun b20 h19 =>
 ifB b20 (
 K1 (g_1, t2, l_3, ()) h19) (
 newI h19 (.map #[] 0) fun r22 h21 =>
 updB .i64 (some r22) (0 : Int) (.int .i64 (0 : Int)) h21 fun h23 =>
 ldSlice h23 (Addr.add g_1 3) fun p24 l24 c24 =>
 LoopS (S := Y17) (fun K2 s h => fuse_Fuse_l9 Q K1 K2 s.1 s.2.1 s.2.2.1 s.2.2.2.1 s.2.2.2.2.1.1 s.2.2.2.2.1.2.1 s.2.2.2.2.1.2.2 s.2.2.2.2.2.1.1 s.2.2.2.2.2.1.2.1 s.2.2.2.2.2.1.2.2 s.2.2.2.2.2.2.1 s.2.2.2.2.2.2.2.1 h) (g_1, t2, l_3, (some r22), (none, 0, 0), (p24, l24, c24), ((l24 : Nat) : Int), (0 : Int), ()) h23)
def fuse_Fuse (g_0 : TS A1) (h : Heap) (Q : Value → Heap → Prop) : Prop :=
 newI h (.cells (mkS' A1 g_0).toArray 28 (0, 0)) fun b1 h2 =>
 newI h2 (.cells (mkS' A1 (zT A1)).toArray 28 (0, 0)) fun b3 h4 =>
 ldAg A1 h4 ⟨b1, 0, none⟩ fun x5 =>
 callInt P .i64 n_graph_Check #[(agS A1 x5)] h4 fun n7 h6 =>
 ifB (n7 != (0 : Int)) (
 storeL [(.int .i64 (0 : Int)), (.int .i64 (0 : Int)), (.int .i64 (0 : Int)), (.slice none 0 0), (.int .i64 (0 : Int))] h6 ⟨b3, 0, none⟩ 0 fun h8 =>
 ldAg A1 h8 ⟨b3, 0, none⟩ fun x9 =>
 Q (agS A1 x9) h8) (
 ldAg A1 h6 ⟨b1, 0, none⟩ fun x10 =>
 callP P n_fuse_own #[(agS A1 x10)] h6 fun v12 h11 =>
 exS A1 fun x13 => v12 = (agS A1 x13) ∧
 storeL (mkS' A1 x13) h11 ⟨b1, 0, none⟩ 0 fun h14 =>
 ldAg A1 h14 ⟨b1, 0, none⟩ fun x15 =>
 callMap P n_fuse_live #[(agS A1 x15)] h14 fun m17 h16 =>
 LoopS (S := (Addr × Addr × Option Nat × Unit)) (fun K1 s h => fuse_Fuse_l5 Q K1 s.1 s.2.1 s.2.2.1 h) (⟨b1, 0, none⟩, ⟨b3, 0, none⟩, m17, ()) h16)
noncomputable def tab_fuse_Fuse : Tab := { sch := lookT .done [], lp := lookT [] [(5, [(1, .sc (.adr)), (2, .sc (.adr)), (3, .sc (.map))]), (9, [(1, .sc (.adr)), (2, .sc (.adr)), (3, .sc (.map)), (4, .sc (.map)), (5, .sc (.slice)), (27, .sc (.slice)), (28, .sc (.int .i64)), (29, .sc (.int .i64))]), (17, [(1, .sc (.adr)), (2, .sc (.adr)), (4, .sc (.map)), (5, .sc (.slice)), (52, .sc (.slice)), (53, .sc (.int .i64)), (54, .sc (.int .i64))]), (20, [(1, .sc (.adr)), (2, .sc (.adr)), (4, .sc (.map)), (5, .sc (.slice)), (11, .sc (.adr)), (52, .sc (.slice)), (53, .sc (.int .i64)), (54, .sc (.int .i64)), (59, .sc (.slice)), (60, .sc (.int .i64)), (61, .sc (.int .i64))])], jn := lookT none [] }
theorem eq_fuse_Fuse (g_0 : TS A1) (h : Heap) (Q : Value → Heap → Prop) : fnI P Tryd.f8 tab_fuse_Fuse [(agS A1 g_0)] h Q = fuse_Fuse g_0 h Q := by kernel_rfl
theorem ok_fuse_Fuse : fnOk P Tryd.f8 tab_fuse_Fuse = true := by kernel_rfl
theorem call_fuse_Fuse (g_0 : TS A1) {h : Heap} {Q : Value → Heap → Prop} (H : fuse_Fuse g_0 h Q) : callP P n_fuse_Fuse #[(agS A1 g_0)] h Q :=
 @callP_of P n_fuse_Fuse Tryd.f8 tab_fuse_Fuse [(agS A1 g_0)] h Q mixed Tryd.func8 Tryd.call8 ok_fuse_Fuse (Eq.mpr (eq_fuse_Fuse g_0 h Q) H)

/-! ### earshot/earshotlaw21.awake: function 7 -/
def law21_awake (h : Heap) (Q : Value → Heap → Prop) : Prop :=
 newI h (.cells #[(.int .i64 (0 : Int))] 3 (0, 0)) fun b1 h2 =>
 newI h2 (.cells #[(.int .i64 (1 : Int))] 3 (0, 0)) fun b3 h4 =>
 newI h4 (.cells #[(.int .i64 (0 : Int))] 3 (0, 0)) fun b5 h6 =>
 newI h6 (.cells (mkS' A2 (zT A2)).toArray 25 (0, 0)) fun b7 h8 =>
 storeL [(.int .i64 (6 : Int)), (.slice (some ⟨b1, 0, none⟩) 1 1), (.int .i64 (1 : Int)), (.int .i64 (0 : Int)), (.int .i64 (0 : Int)), (.int .i64 (0 : Int)), (.int .i64 (0 : Int)), (.int .i64 (0 : Int)), (.slice (some ⟨b3, 0, none⟩) 1 1), (.slice (some ⟨b5, 0, none⟩) 1 1), (.int .i64 (0 : Int)), (.int .i64 (0 : Int)), (.int .i64 (0 : Int)), (.int .i64 (0 : Int)), (.int .i64 (0 : Int))] h8 ⟨b7, 0, none⟩ 0 fun h9 =>
 newI h9 (.cells #[(.int .i64 (0 : Int))] 3 (0, 0)) fun b10 h11 =>
 ldAg A2 h11 ⟨b7, 0, none⟩ fun x12 =>
 newI h11 (.cells #[(.int .i64 (2 : Int))] 3 (0, 0)) fun b13 h14 =>
 newI h14 (.cells #[(.int .i64 (3 : Int))] 3 (0, 0)) fun b15 h16 =>
 newI h16 (.cells #[(.int .i64 (11 : Int)), (.slice (some ⟨b10, 0, none⟩) 1 1), (.int .i64 (0 : Int)), (.int .i64 (0 : Int)), (.int .i64 (0 : Int)), (.int .i64 (0 : Int)), (.int .i64 (0 : Int)), (.int .i64 (0 : Int)), (.slice none 0 0), (.slice none 0 0), (.int .i64 (0 : Int)), (.int .i64 (0 : Int)), (.int .i64 (0 : Int)), (.int .i64 (0 : Int)), (.int .i64 (0 : Int)), (.int .i64 x12.1), (.slice x12.2.1.1 x12.2.1.2.1 x12.2.1.2.2), (.int .i64 x12.2.2.1), (.int .i64 x12.2.2.2.1), (.int .i64 x12.2.2.2.2.1), (.int .i64 x12.2.2.2.2.2.1), (.int .i64 x12.2.2.2.2.2.2.1), (.int .i64 x12.2.2.2.2.2.2.2.1), (.slice x12.2.2.2.2.2.2.2.2.1.1 x12.2.2.2.2.2.2.2.2.1.2.1 x12.2.2.2.2.2.2.2.2.1.2.2), (.slice x12.2.2.2.2.2.2.2.2.2.1.1 x12.2.2.2.2.2.2.2.2.2.1.2.1 x12.2.2.2.2.2.2.2.2.2.1.2.2), (.int .i64 x12.2.2.2.2.2.2.2.2.2.2.1), (.int .i64 x12.2.2.2.2.2.2.2.2.2.2.2.1), (.int .i64 x12.2.2.2.2.2.2.2.2.2.2.2.2.1), (.int .i64 x12.2.2.2.2.2.2.2.2.2.2.2.2.2.1), (.int .i64 x12.2.2.2.2.2.2.2.2.2.2.2.2.2.2.1), (.int .i64 (10 : Int)), (.slice (some ⟨b13, 0, none⟩) 1 1), (.int .i64 (0 : Int)), (.int .i64 (0 : Int)), (.int .i64 (0 : Int)), (.int .i64 (0 : Int)), (.int .i64 (0 : Int)), (.int .i64 (0 : Int)), (.slice none 0 0), (.slice none 0 0), (.int .i64 (3 : Int)), (.int .i64 (0 : Int)), (.int .i64 (0 : Int)), (.int .i64 (0 : Int)), (.int .i64 (0 : Int)), (.int .i64 (9 : Int)), (.slice (some ⟨b15, 0, none⟩) 1 1), (.int .i64 (0 : Int)), (.int .i64 (0 : Int)), (.int .i64 (0 : Int)), (.int .i64 (0 : Int)), (.int .i64 (0 : Int)), (.int .i64 (0 : Int)), (.slice none 0 0), (.slice none 0 0), (.int .i64 (0 : Int)), (.int .i64 (0 : Int)), (.int .i64 (0 : Int)), (.int .i64 (5 : Int)), (.int .i64 (0 : Int))] 25 (0, 0)) fun b17 h18 =>
 newI h18 (.cells (mkS' A1 (zT A1)).toArray 28 (0, 0)) fun b19 h20 =>
 storeL [(.int .i64 (1 : Int)), (.int .i64 (0 : Int)), (.int .i64 (9 : Int)), (.slice (some ⟨b17, 0, none⟩) 4 4), (.int .i64 (4 : Int))] h20 ⟨b19, 0, none⟩ 0 fun h21 =>
 ldAg A1 h21 ⟨b19, 0, none⟩ fun x22 =>
 callP P n_fuse_Fuse #[(agS A1 x22)] h21 fun v24 h23 =>
 exS A1 fun x25 => v24 = (agS A1 x25) ∧
 newI h23 (.cells (mkS' A1 (zT A1)).toArray 28 (0, 0)) fun b26 h27 =>
 storeL (mkS' A1 x25) h27 ⟨b26, 0, none⟩ 0 fun h28 =>
 ldSlice h28 ⟨b26, 3, none⟩ fun p29 l29 c29 =>
 ifB (((l29 : Nat) : Int) == (1 : Int)) (
 ldInt .i64 h28 ⟨b26, 4, none⟩ fun n30 =>
 ifB (n30 == (1 : Int)) (
 ldSlice h28 ⟨b26, 3, none⟩ fun p31 l31 c31 =>
 idxI p31 (0 : Int) l31 fun a32 =>
 ldInt .i64 h28 (Addr.add (Addr.add a32 ((0 : Int).toNat * 15)) 14) fun n33 =>
 ifB (n33 == (3 : Int)) (
 ldSlice h28 ⟨b26, 3, none⟩ fun p34 l34 c34 =>
 idxI p34 (0 : Int) l34 fun a35 =>
 ldInt .i64 h28 (Addr.add (Addr.add a35 ((0 : Int).toNat * 15)) 10) fun n36 =>
 ifB (n36 == (3 : Int)) (
 ldSlice h28 ⟨b26, 3, none⟩ fun p37 l37 c37 =>
 idxI p37 (0 : Int) l37 fun a38 =>
 ldInt .i64 h28 (Addr.add (Addr.add a38 ((0 : Int).toNat * 15)) 13) fun n39 =>
 Q (.bool (n39 == (5 : Int))) h28) (
 Q (.bool false) h28)) (
 Q (.bool false) h28)) (
 Q (.bool false) h28)) (
 Q (.bool false) h28)
noncomputable def tab_law21_awake : Tab := { sch := lookT .done [], lp := lookT [] [], jn := lookT none [] }
theorem eq_law21_awake (h : Heap) (Q : Value → Heap → Prop) : fnI P Tryd.f7 tab_law21_awake [] h Q = law21_awake  h Q := by kernel_rfl
theorem ok_law21_awake : fnOk P Tryd.f7 tab_law21_awake = true := by kernel_rfl
theorem call_law21_awake {h : Heap} {Q : Value → Heap → Prop} (H : law21_awake  h Q) : callP P n_law21_awake #[] h Q :=
 @callP_of P n_law21_awake Tryd.f7 tab_law21_awake [] h Q mixed Tryd.func7 Tryd.call7 ok_law21_awake (Eq.mpr (eq_law21_awake  h Q) H)

/-! ### earshot/earshotref16.first: function 19 -/
def ref16_first_l10 (Q : Value → Heap → Prop) (K1 : (Addr × Int × Int × Unit) → Heap → Prop) (K2 : (Addr × Int × Int × Int × Unit) → Heap → Prop) (g_1 : Addr) (n_3 : Int) (i_4 : Int) (j_5 : Int) (h9 : Heap) : Prop :=
 ldSlice h9 (Addr.add g_1 3) fun p10 l10 c10 =>
 idxI p10 i_4 l10 fun a11 =>
 ldSlice h9 (Addr.add (Addr.add a11 (i_4.toNat * 15)) 1) fun p12 l12 c12 =>
 ifB (decide (j_5 < ((l12 : Nat) : Int))) (
 ldSlice h9 (Addr.add g_1 3) fun p13 l13 c13 =>
 idxI p13 i_4 l13 fun a14 =>
 ldSlice h9 (Addr.add (Addr.add a14 (i_4.toNat * 15)) 1) fun p15 l15 c15 =>
 idxI p15 j_5 l15 fun a16 =>
 ldInt .i64 h9 (Addr.add a16 (j_5.toNat * 1)) fun n17 =>
 ifB (decide (n17 < (0 : Int))) (
 Q (.int .i64 (1 : Int)) h9) (
 ldSlice h9 (Addr.add g_1 3) fun p18 l18 c18 =>
 idxI p18 i_4 l18 fun a19 =>
 ldSlice h9 (Addr.add (Addr.add a19 (i_4.toNat * 15)) 1) fun p20 l20 c20 =>
 idxI p20 j_5 l20 fun a21 =>
 ldInt .i64 h9 (Addr.add a21 (j_5.toNat * 1)) fun n22 =>
 ifB (decide (n22 > n_3)) (
 Q (.int .i64 (1 : Int)) h9) (
 K2 (g_1, n_3, i_4, (IntKind.wrap .i64 (j_5 + (1 : Int))), ()) h9))) (
 K1 (g_1, n_3, (IntKind.wrap .i64 (i_4 + (1 : Int))), ()) h9)
def ref16_first_l7 (Q : Value → Heap → Prop) (K1 : (Addr × Int × Int × Unit) → Heap → Prop) (g_1 : Addr) (n_3 : Int) (i_4 : Int) (h8 : Heap) : Prop :=
 ifB (decide (i_4 < n_3)) (
 LoopS (S := (Addr × Int × Int × Int × Unit)) (fun K2 s h => ref16_first_l10 Q K1 K2 s.1 s.2.1 s.2.2.1 s.2.2.2.1 h) (g_1, n_3, i_4, (0 : Int), ()) h8) (
 Q (.int .i64 (0 : Int)) h8)
def ref16_first_j6 (Q : Value → Heap → Prop) (g_1 : Addr) (n_3 : Int) (h7 : Heap) : Prop :=
 LoopS (S := (Addr × Int × Int × Unit)) (fun K1 s h => ref16_first_l7 Q K1 s.1 s.2.1 s.2.2.1 h) (g_1, n_3, (0 : Int), ()) h7
def ref16_first_j4 (Q : Value → Heap → Prop) (g_1 : Addr) (n_3 : Int) (h5 : Heap) : Prop :=
 ∃ J6 : (Addr × Int × Unit) → Heap → Prop, (∀ s h, J6 s h → ref16_first_j6 Q s.1 s.2.1 h) ∧
 ldInt .i64 h5 g_1 fun n23 =>
 ifB (decide (n23 < (1 : Int))) (
 Q (.int .i64 (1 : Int)) h5) (
 ldInt .i64 h5 g_1 fun n24 =>
 ifB (decide (n24 > (16 : Int))) (
 Q (.int .i64 (1 : Int)) h5) (
 ldInt .i64 h5 (Addr.add g_1 1) fun n25 =>
 ldInt .i64 h5 (Addr.add g_1 2) fun n26 =>
 ifB (decide (n25 > n26)) (
 Q (.int .i64 (1 : Int)) h5) (
 ldInt .i64 h5 (Addr.add g_1 1) fun n27 =>
 ifB (decide (n27 < (-32768 : Int))) (
 Q (.int .i64 (1 : Int)) h5) (
 ldInt .i64 h5 (Addr.add g_1 2) fun n28 =>
 ifB (decide (n28 > (32767 : Int))) (
 Q (.int .i64 (1 : Int)) h5) (
 ldInt .i64 h5 (Addr.add g_1 4) fun n29 =>
 ifB (decide (n29 < (1 : Int))) (
 Q (.int .i64 (1 : Int)) h5) (
 ldInt .i64 h5 (Addr.add g_1 4) fun n30 =>
 ifB (decide (n30 > n_3)) (
 Q (.int .i64 (1 : Int)) h5) (
 J6 (g_1, n_3, ()) h5)))))))
def ref16_first (g_0 : TS A1) (h : Heap) (Q : Value → Heap → Prop) : Prop :=
 newI h (.cells (mkS' A1 g_0).toArray 28 (0, 0)) fun b1 h2 =>
 ldSlice h2 ⟨b1, 3, none⟩ fun p3 l3 c3 =>
 ∃ J4 : (Addr × Int × Unit) → Heap → Prop, (∀ s h, J4 s h → ref16_first_j4 Q s.1 s.2.1 h) ∧
 ifB (decide (((l3 : Nat) : Int) < (1 : Int))) (
 Q (.int .i64 (22 : Int)) h2) (
 ifB (decide (((l3 : Nat) : Int) > (12 : Int))) (
 Q (.int .i64 (22 : Int)) h2) (
 J4 (⟨b1, 0, none⟩, ((l3 : Nat) : Int), ()) h2))
noncomputable def tab_ref16_first : Tab := { sch := lookT .done [], lp := lookT [] [(7, [(1, .sc (.adr)), (3, .sc (.int .i64)), (4, .sc (.int .i64))]), (10, [(1, .sc (.adr)), (3, .sc (.int .i64)), (4, .sc (.int .i64)), (5, .sc (.int .i64))])], jn := lookT none [(4, some [(1, .sc (.adr)), (3, .sc (.int .i64))]), (6, some [(1, .sc (.adr)), (3, .sc (.int .i64))])] }
theorem eq_ref16_first (g_0 : TS A1) (h : Heap) (Q : Value → Heap → Prop) : fnI P Tryd.f19 tab_ref16_first [(agS A1 g_0)] h Q = ref16_first g_0 h Q := by kernel_rfl
theorem ok_ref16_first : fnOk P Tryd.f19 tab_ref16_first = true := by kernel_rfl
theorem call_ref16_first (g_0 : TS A1) {h : Heap} {Q : Value → Heap → Prop} (H : ref16_first g_0 h Q) : callP P n_ref16_first #[(agS A1 g_0)] h Q :=
 @callP_of P n_ref16_first Tryd.f19 tab_ref16_first [(agS A1 g_0)] h Q mixed Tryd.func19 Tryd.call19 ok_ref16_first (Eq.mpr (eq_ref16_first g_0 h Q) H)

/-! ### earshot/earshotref16.has: function 44 -/
def ref16_has_l2 (Q : Value → Heap → Prop) (K1 : ((Option Addr × Nat × Nat) × Int × Int × Unit) → Heap → Prop) (l_0_p : Option Addr) (l_0_n : Nat) (l_0_c : Nat) (x_1 : Int) (i_5 : Int) (h1 : Heap) : Prop :=
 ifB (decide (i_5 < ((l_0_n : Nat) : Int))) (
 idxI l_0_p i_5 l_0_n fun a2 =>
 ldInt .i64 h1 (Addr.add a2 (i_5.toNat * 1)) fun n3 =>
 ifB (n3 == x_1) (
 Q (.bool true) h1) (
 K1 ((l_0_p, l_0_n, l_0_c), x_1, (IntKind.wrap .i64 (i_5 + (1 : Int))), ()) h1)) (
 Q (.bool false) h1)
def ref16_has (l_0_p : Option Addr) (l_0_n : Nat) (l_0_c : Nat) (x_1 : Int) (h : Heap) (Q : Value → Heap → Prop) : Prop :=
 LoopS (S := ((Option Addr × Nat × Nat) × Int × Int × Unit)) (fun K1 s h => ref16_has_l2 Q K1 s.1.1 s.1.2.1 s.1.2.2 s.2.1 s.2.2.1 h) ((l_0_p, l_0_n, l_0_c), x_1, (0 : Int), ()) h
noncomputable def tab_ref16_has : Tab := { sch := lookT .done [], lp := lookT [] [(2, [(0, .sc (.slice)), (1, .sc (.int .i64)), (5, .sc (.int .i64))])], jn := lookT none [] }
theorem eq_ref16_has (l_0_p : Option Addr) (l_0_n : Nat) (l_0_c : Nat) (x_1 : Int) (h : Heap) (Q : Value → Heap → Prop) : fnI P Tryd.f44 tab_ref16_has [(.slice l_0_p l_0_n l_0_c), (.int .i64 x_1)] h Q = ref16_has l_0_p l_0_n l_0_c x_1 h Q := by kernel_rfl
theorem ok_ref16_has : fnOk P Tryd.f44 tab_ref16_has = true := by kernel_rfl
theorem call_ref16_has (l_0_p : Option Addr) (l_0_n : Nat) (l_0_c : Nat) (x_1 : Int) {h : Heap} {Q : Value → Heap → Prop} (H : ref16_has l_0_p l_0_n l_0_c x_1 h Q) : callP P n_ref16_has #[(.slice l_0_p l_0_n l_0_c), (.int .i64 x_1)] h Q :=
 @callP_of P n_ref16_has Tryd.f44 tab_ref16_has [(.slice l_0_p l_0_n l_0_c), (.int .i64 x_1)] h Q mixed Tryd.func44 Tryd.call44 ok_ref16_has (Eq.mpr (eq_ref16_has l_0_p l_0_n l_0_c x_1 h Q) H)

/-! ### earshot/earshotref16.order: function 20 -/
def ref16_order_l11 (Q : Value → Heap → Prop) (K1 : (Addr × (Option Addr × Nat × Nat) × Int × Unit) → Heap → Prop) (K2 : (Addr × (Option Addr × Nat × Nat) × Int × Int × Unit) → Heap → Prop) (K3 : Y20 → Heap → Prop) (g_1 : Addr) (there_3_p : Option Addr) (there_3_n : Nat) (there_3_c : Nat) (k_4 : Int) (i_5 : Int) (may_6 : Bool) (in_7_p : Option Addr) (in_7_n : Nat) (in_7_c : Nat) (j_8 : Int) (h14 : Heap) : Prop :=
 ifB (decide (j_8 < ((in_7_n : Nat) : Int))) (
 ifB may_6 (
 idxI in_7_p j_8 in_7_n fun a15 =>
 ldInt .i64 h14 (Addr.add a15 (j_8.toNat * 1)) fun n16 =>
 callBool P n_ref16_has #[(.slice there_3_p there_3_n there_3_c), (.int .i64 n16)] h14 fun b18 h17 =>
 K3 (g_1, (there_3_p, there_3_n, there_3_c), k_4, i_5, b18, (in_7_p, in_7_n, in_7_c), (IntKind.wrap .i64 (j_8 + (1 : Int))), ()) h17) (
 K3 (g_1, (there_3_p, there_3_n, there_3_c), k_4, i_5, false, (in_7_p, in_7_n, in_7_c), (IntKind.wrap .i64 (j_8 + (1 : Int))), ()) h14)) (
 ifB may_6 (
 newI h14 (.cells #[(.int .i64 i_5)] 3 (0, 0)) fun b19 h20 =>
 appI 3 1 8 (.int .i64 (0 : Int)) there_3_p there_3_n there_3_c (some ⟨b19, 0, none⟩) 1 h20 fun p21 l21 c21 h22 =>
 K1 (g_1, (p21, l21, c21), (IntKind.wrap .i64 (k_4 + (1 : Int))), ()) h22) (
 K2 (g_1, (there_3_p, there_3_n, there_3_c), k_4, (IntKind.wrap .i64 (i_5 + (1 : Int))), ()) h14))
def ref16_order_l6 (Q : Value → Heap → Prop) (K1 : (Addr × (Option Addr × Nat × Nat) × Int × Unit) → Heap → Prop) (K2 : (Addr × (Option Addr × Nat × Nat) × Int × Int × Unit) → Heap → Prop) (g_1 : Addr) (there_3_p : Option Addr) (there_3_n : Nat) (there_3_c : Nat) (k_4 : Int) (i_5 : Int) (h7 : Heap) : Prop :=
 ldSlice h7 (Addr.add g_1 3) fun p8 l8 c8 =>
 ifB (decide (i_5 ≤ ((l8 : Nat) : Int))) (
 callBool P n_ref16_has #[(.slice there_3_p there_3_n there_3_c), (.int .i64 i_5)] h7 fun b10 h9 =>
 ldSlice h9 (Addr.add g_1 3) fun p11 l11 c11 =>
 idxI p11 (IntKind.wrap .i64 (i_5 - (1 : Int))) l11 fun a12 =>
 ldSlice h9 (Addr.add (Addr.add a12 ((IntKind.wrap .i64 (i_5 - (1 : Int))).toNat * 15)) 1) fun p13 l13 c13 =>
 LoopS (S := Y20) (fun K3 s h => ref16_order_l11 Q K1 K2 K3 s.1 s.2.1.1 s.2.1.2.1 s.2.1.2.2 s.2.2.1 s.2.2.2.1 s.2.2.2.2.1 s.2.2.2.2.2.1.1 s.2.2.2.2.2.1.2.1 s.2.2.2.2.2.1.2.2 s.2.2.2.2.2.2.1 h) (g_1, (there_3_p, there_3_n, there_3_c), k_4, i_5, (!b10), (p13, l13, c13), (0 : Int), ()) h9) (
 K1 (g_1, (there_3_p, there_3_n, there_3_c), (IntKind.wrap .i64 (k_4 + (1 : Int))), ()) h7)
def ref16_order_l3 (Q : Value → Heap → Prop) (K1 : (Addr × (Option Addr × Nat × Nat) × Int × Unit) → Heap → Prop) (g_1 : Addr) (there_3_p : Option Addr) (there_3_n : Nat) (there_3_c : Nat) (k_4 : Int) (h5 : Heap) : Prop :=
 ldSlice h5 (Addr.add g_1 3) fun p6 l6 c6 =>
 ifB (decide (k_4 < ((l6 : Nat) : Int))) (
 LoopS (S := (Addr × (Option Addr × Nat × Nat) × Int × Int × Unit)) (fun K2 s h => ref16_order_l6 Q K1 K2 s.1 s.2.1.1 s.2.1.2.1 s.2.1.2.2 s.2.2.1 s.2.2.2.1 h) (g_1, (there_3_p, there_3_n, there_3_c), k_4, (1 : Int), ()) h5) (
 bndI (1 : Int) there_3_n fun l23 =>
 Q (.slice (if there_3_c = l23 then there_3_p else Option.map (fun a => a.add (l23 * 1)) there_3_p) (there_3_n - l23) (there_3_c - l23)) h5)
def ref16_order (g_0 : TS A1) (h : Heap) (Q : Value → Heap → Prop) : Prop :=
 newI h (.cells (mkS' A1 g_0).toArray 28 (0, 0)) fun b1 h2 =>
 newI h2 (.cells #[(.int .i64 (0 : Int))] 3 (0, 0)) fun b3 h4 =>
 LoopS (S := (Addr × (Option Addr × Nat × Nat) × Int × Unit)) (fun K1 s h => ref16_order_l3 Q K1 s.1 s.2.1.1 s.2.1.2.1 s.2.1.2.2 s.2.2.1 h) (⟨b1, 0, none⟩, (some ⟨b3, 0, none⟩, 1, 1), (0 : Int), ()) h4
noncomputable def tab_ref16_order : Tab := { sch := lookT .done [], lp := lookT [] [(3, [(1, .sc (.adr)), (3, .sc (.slice)), (4, .sc (.int .i64))]), (6, [(1, .sc (.adr)), (3, .sc (.slice)), (4, .sc (.int .i64)), (5, .sc (.int .i64))]), (11, [(1, .sc (.adr)), (3, .sc (.slice)), (4, .sc (.int .i64)), (5, .sc (.int .i64)), (6, .sc (.bool)), (7, .sc (.slice)), (8, .sc (.int .i64))])], jn := lookT none [] }
theorem eq_ref16_order (g_0 : TS A1) (h : Heap) (Q : Value → Heap → Prop) : fnI P Tryd.f20 tab_ref16_order [(agS A1 g_0)] h Q = ref16_order g_0 h Q := by kernel_rfl
theorem ok_ref16_order : fnOk P Tryd.f20 tab_ref16_order = true := by kernel_rfl
theorem call_ref16_order (g_0 : TS A1) {h : Heap} {Q : Value → Heap → Prop} (H : ref16_order g_0 h Q) : callP P n_ref16_order #[(agS A1 g_0)] h Q :=
 @callP_of P n_ref16_order Tryd.f20 tab_ref16_order [(agS A1 g_0)] h Q mixed Tryd.func20 Tryd.call20 ok_ref16_order (Eq.mpr (eq_ref16_order g_0 h Q) H)

/-! ### earshot/earshotref14.all: function 45 -/
def ref14_all_l2 (Q : Value → Heap → Prop) (K1 : ((Option Addr × Nat × Nat) × Int × Int × Int × Unit) → Heap → Prop) (xs_0_p : Option Addr) (xs_0_n : Nat) (xs_0_c : Nat) (low_1 : Int) (high_2 : Int) (i_7 : Int) (h1 : Heap) : Prop :=
 ifB (decide (i_7 < ((xs_0_n : Nat) : Int))) (
 idxI xs_0_p i_7 xs_0_n fun a2 =>
 ldInt .i64 h1 (Addr.add a2 (i_7.toNat * 1)) fun n3 =>
 ifB (decide (n3 < low_1)) (
 Q (.bool false) h1) (
 idxI xs_0_p i_7 xs_0_n fun a4 =>
 ldInt .i64 h1 (Addr.add a4 (i_7.toNat * 1)) fun n5 =>
 ifB (decide (n5 > high_2)) (
 Q (.bool false) h1) (
 K1 ((xs_0_p, xs_0_n, xs_0_c), low_1, high_2, (IntKind.wrap .i64 (i_7 + (1 : Int))), ()) h1))) (
 Q (.bool true) h1)
def ref14_all (xs_0_p : Option Addr) (xs_0_n : Nat) (xs_0_c : Nat) (low_1 : Int) (high_2 : Int) (h : Heap) (Q : Value → Heap → Prop) : Prop :=
 LoopS (S := ((Option Addr × Nat × Nat) × Int × Int × Int × Unit)) (fun K1 s h => ref14_all_l2 Q K1 s.1.1 s.1.2.1 s.1.2.2 s.2.1 s.2.2.1 s.2.2.2.1 h) ((xs_0_p, xs_0_n, xs_0_c), low_1, high_2, (0 : Int), ()) h
noncomputable def tab_ref14_all : Tab := { sch := lookT .done [], lp := lookT [] [(2, [(0, .sc (.slice)), (1, .sc (.int .i64)), (2, .sc (.int .i64)), (7, .sc (.int .i64))])], jn := lookT none [] }
theorem eq_ref14_all (xs_0_p : Option Addr) (xs_0_n : Nat) (xs_0_c : Nat) (low_1 : Int) (high_2 : Int) (h : Heap) (Q : Value → Heap → Prop) : fnI P Tryd.f45 tab_ref14_all [(.slice xs_0_p xs_0_n xs_0_c), (.int .i64 low_1), (.int .i64 high_2)] h Q = ref14_all xs_0_p xs_0_n xs_0_c low_1 high_2 h Q := by kernel_rfl
theorem ok_ref14_all : fnOk P Tryd.f45 tab_ref14_all = true := by kernel_rfl
theorem call_ref14_all (xs_0_p : Option Addr) (xs_0_n : Nat) (xs_0_c : Nat) (low_1 : Int) (high_2 : Int) {h : Heap} {Q : Value → Heap → Prop} (H : ref14_all xs_0_p xs_0_n xs_0_c low_1 high_2 h Q) : callP P n_ref14_all #[(.slice xs_0_p xs_0_n xs_0_c), (.int .i64 low_1), (.int .i64 high_2)] h Q :=
 @callP_of P n_ref14_all Tryd.f45 tab_ref14_all [(.slice xs_0_p xs_0_n xs_0_c), (.int .i64 low_1), (.int .i64 high_2)] h Q mixed Tryd.func45 Tryd.call45 ok_ref14_all (Eq.mpr (eq_ref14_all xs_0_p xs_0_n xs_0_c low_1 high_2 h Q) H)

/-! ### earshot/earshotref14.in: function 46 -/
def ref14_in (x_0 : Int) (low_1 : Int) (high_2 : Int) (h : Heap) (Q : Value → Heap → Prop) : Prop :=
 ifB (decide (x_0 ≥ low_1)) (
 Q (.bool (decide (x_0 ≤ high_2))) h) (
 Q (.bool false) h)
noncomputable def tab_ref14_in : Tab := { sch := lookT .done [], lp := lookT [] [], jn := lookT none [] }
theorem eq_ref14_in (x_0 : Int) (low_1 : Int) (high_2 : Int) (h : Heap) (Q : Value → Heap → Prop) : fnI P Tryd.f46 tab_ref14_in [(.int .i64 x_0), (.int .i64 low_1), (.int .i64 high_2)] h Q = ref14_in x_0 low_1 high_2 h Q := by kernel_rfl
theorem ok_ref14_in : fnOk P Tryd.f46 tab_ref14_in = true := by kernel_rfl
theorem call_ref14_in (x_0 : Int) (low_1 : Int) (high_2 : Int) {h : Heap} {Q : Value → Heap → Prop} (H : ref14_in x_0 low_1 high_2 h Q) : callP P n_ref14_in #[(.int .i64 x_0), (.int .i64 low_1), (.int .i64 high_2)] h Q :=
 @callP_of P n_ref14_in Tryd.f46 tab_ref14_in [(.int .i64 x_0), (.int .i64 low_1), (.int .i64 high_2)] h Q mixed Tryd.func46 Tryd.call46 ok_ref14_in (Eq.mpr (eq_ref14_in x_0 low_1 high_2 h Q) H)

/-! ### earshot/earshotref14.Many: function 47 -/
def ref14_Many (k_0 : Int) (h : Heap) (Q : Value → Heap → Prop) : Prop :=
 ifB (k_0 == (7 : Int)) (
 Q (.bool true) h) (
 Q (.bool (k_0 == (8 : Int))) h)
noncomputable def tab_ref14_Many : Tab := { sch := lookT .done [], lp := lookT [] [], jn := lookT none [] }
theorem eq_ref14_Many (k_0 : Int) (h : Heap) (Q : Value → Heap → Prop) : fnI P Tryd.f47 tab_ref14_Many [(.int .i64 k_0)] h Q = ref14_Many k_0 h Q := by kernel_rfl
theorem ok_ref14_Many : fnOk P Tryd.f47 tab_ref14_Many = true := by kernel_rfl
theorem call_ref14_Many (k_0 : Int) {h : Heap} {Q : Value → Heap → Prop} (H : ref14_Many k_0 h Q) : callP P n_ref14_Many #[(.int .i64 k_0)] h Q :=
 @callP_of P n_ref14_Many Tryd.f47 tab_ref14_Many [(.int .i64 k_0)] h Q mixed Tryd.func47 Tryd.call47 ok_ref14_Many (Eq.mpr (eq_ref14_Many k_0 h Q) H)

/-! ### earshot/earshotref14.weighs: function 48 -/
def ref14_weighs (k_0 : Int) (h : Heap) (Q : Value → Heap → Prop) : Prop :=
 ifB (k_0 == (1 : Int)) (
 Q (.bool true) h) (
 ifB (k_0 == (2 : Int)) (
 Q (.bool true) h) (
 Q (.bool (k_0 == (6 : Int))) h))
noncomputable def tab_ref14_weighs : Tab := { sch := lookT .done [], lp := lookT [] [], jn := lookT none [] }
theorem eq_ref14_weighs (k_0 : Int) (h : Heap) (Q : Value → Heap → Prop) : fnI P Tryd.f48 tab_ref14_weighs [(.int .i64 k_0)] h Q = ref14_weighs k_0 h Q := by kernel_rfl
theorem ok_ref14_weighs : fnOk P Tryd.f48 tab_ref14_weighs = true := by kernel_rfl
theorem call_ref14_weighs (k_0 : Int) {h : Heap} {Q : Value → Heap → Prop} (H : ref14_weighs k_0 h Q) : callP P n_ref14_weighs #[(.int .i64 k_0)] h Q :=
 @callP_of P n_ref14_weighs Tryd.f48 tab_ref14_weighs [(.int .i64 k_0)] h Q mixed Tryd.func48 Tryd.call48 ok_ref14_weighs (Eq.mpr (eq_ref14_weighs k_0 h Q) H)

/-! ### earshot/earshotref14.four: function 58 -/
def ref14_four (k_0 : Int) (h : Heap) (Q : Value → Heap → Prop) : Prop :=
 ifB (k_0 == (1 : Int)) (
 Q (.bool true) h) (
 ifB (k_0 == (2 : Int)) (
 Q (.bool true) h) (
 ifB (k_0 == (3 : Int)) (
 Q (.bool true) h) (
 Q (.bool (k_0 == (4 : Int))) h)))
noncomputable def tab_ref14_four : Tab := { sch := lookT .done [], lp := lookT [] [], jn := lookT none [] }
theorem eq_ref14_four (k_0 : Int) (h : Heap) (Q : Value → Heap → Prop) : fnI P Tryd.f58 tab_ref14_four [(.int .i64 k_0)] h Q = ref14_four k_0 h Q := by kernel_rfl
theorem ok_ref14_four : fnOk P Tryd.f58 tab_ref14_four = true := by kernel_rfl
theorem call_ref14_four (k_0 : Int) {h : Heap} {Q : Value → Heap → Prop} (H : ref14_four k_0 h Q) : callP P n_ref14_four #[(.int .i64 k_0)] h Q :=
 @callP_of P n_ref14_four Tryd.f58 tab_ref14_four [(.int .i64 k_0)] h Q mixed Tryd.func58 Tryd.call58 ok_ref14_four (Eq.mpr (eq_ref14_four k_0 h Q) H)

/-! ### earshot/earshotref14.else0: function 49 -/
def ref14_else0_j12 (Q : Value → Heap → Prop) (n_1 : Addr) (scale_6 : Bool) (clamp_7 : Bool) (h20 : Heap) : Prop :=
 ifB scale_6 (
 ifB clamp_7 (
 Q (.bool true) h20) (
 ldInt .i64 h20 (Addr.add n_1 12) fun n21 =>
 ifB (n21 == (0 : Int)) (
 ldInt .i64 h20 (Addr.add n_1 13) fun n22 =>
 Q (.bool (n22 == (0 : Int))) h20) (
 Q (.bool false) h20))) (
 ldInt .i64 h20 (Addr.add n_1 10) fun n23 =>
 ifB (n23 == (0 : Int)) (
 ldInt .i64 h20 (Addr.add n_1 11) fun n24 =>
 ifB (n24 == (0 : Int)) (
 ifB clamp_7 (
 Q (.bool true) h20) (
 ldInt .i64 h20 (Addr.add n_1 12) fun n25 =>
 ifB (n25 == (0 : Int)) (
 ldInt .i64 h20 (Addr.add n_1 13) fun n26 =>
 Q (.bool (n26 == (0 : Int))) h20) (
 Q (.bool false) h20))) (
 Q (.bool false) h20)) (
 Q (.bool false) h20))
def ref14_else0_j10 (Q : Value → Heap → Prop) (n_1 : Addr) (weigh_4 : Bool) (scale_6 : Bool) (clamp_7 : Bool) (h18 : Heap) : Prop :=
 ∃ J19 : (Addr × Bool × Bool × Unit) → Heap → Prop, (∀ s h, J19 s h → ref14_else0_j12 Q s.1 s.2.1 s.2.2.1 h) ∧
 ifB (!weigh_4) (
 ldSlice h18 (Addr.add n_1 8) fun p27 l27 c27 =>
 ifB (decide (((l27 : Nat) : Int) > (0 : Int))) (
 Q (.bool false) h18) (
 ldSlice h18 (Addr.add n_1 9) fun p28 l28 c28 =>
 ifB (decide (((l28 : Nat) : Int) > (0 : Int))) (
 Q (.bool false) h18) (
 J19 (n_1, scale_6, clamp_7, ()) h18))) (
 J19 (n_1, scale_6, clamp_7, ()) h18)
def ref14_else0_j8 (Q : Value → Heap → Prop) (n_1 : Addr) (own_3 : Bool) (weigh_4 : Bool) (wide_5 : Bool) (scale_6 : Bool) (clamp_7 : Bool) (h16 : Heap) : Prop :=
 ∃ J17 : (Addr × Bool × Bool × Bool × Unit) → Heap → Prop, (∀ s h, J17 s h → ref14_else0_j10 Q s.1 s.2.1 s.2.2.1 s.2.2.2.1 h) ∧
 ifB (!own_3) (
 ldInt .i64 h16 n_1 fun n29 =>
 ifB (n29 != (12 : Int)) (
 ldInt .i64 h16 (Addr.add n_1 3) fun n30 =>
 ifB (n30 != (0 : Int)) (
 Q (.bool false) h16) (
 ifB (!wide_5) (
 ldInt .i64 h16 (Addr.add n_1 2) fun n31 =>
 ifB (n31 != (0 : Int)) (
 Q (.bool false) h16) (
 J17 (n_1, weigh_4, scale_6, clamp_7, ()) h16)) (
 J17 (n_1, weigh_4, scale_6, clamp_7, ()) h16))) (
 ifB (!wide_5) (
 ldInt .i64 h16 (Addr.add n_1 2) fun n32 =>
 ifB (n32 != (0 : Int)) (
 Q (.bool false) h16) (
 J17 (n_1, weigh_4, scale_6, clamp_7, ()) h16)) (
 J17 (n_1, weigh_4, scale_6, clamp_7, ()) h16))) (
 ifB (!wide_5) (
 ldInt .i64 h16 (Addr.add n_1 2) fun n33 =>
 ifB (n33 != (0 : Int)) (
 Q (.bool false) h16) (
 J17 (n_1, weigh_4, scale_6, clamp_7, ()) h16)) (
 J17 (n_1, weigh_4, scale_6, clamp_7, ()) h16))
def ref14_else0_j6 (Q : Value → Heap → Prop) (n_1 : Addr) (own_3 : Bool) (weigh_4 : Bool) (wide_5 : Bool) (scale_6 : Bool) (clamp_7 : Bool) (h14 : Heap) : Prop :=
 ∃ J15 : (Addr × Bool × Bool × Bool × Bool × Bool × Unit) → Heap → Prop, (∀ s h, J15 s h → ref14_else0_j8 Q s.1 s.2.1 s.2.2.1 s.2.2.2.1 s.2.2.2.2.1 s.2.2.2.2.2.1 h) ∧
 ifB (!own_3) (
 ldInt .i64 h14 (Addr.add n_1 4) fun n34 =>
 ifB (n34 != (0 : Int)) (
 Q (.bool false) h14) (
 ldInt .i64 h14 (Addr.add n_1 5) fun n35 =>
 ifB (n35 != (0 : Int)) (
 Q (.bool false) h14) (
 ldInt .i64 h14 (Addr.add n_1 6) fun n36 =>
 ifB (n36 != (0 : Int)) (
 Q (.bool false) h14) (
 ldInt .i64 h14 (Addr.add n_1 7) fun n37 =>
 ifB (n37 != (0 : Int)) (
 Q (.bool false) h14) (
 J15 (n_1, own_3, weigh_4, wide_5, scale_6, clamp_7, ()) h14))))) (
 J15 (n_1, own_3, weigh_4, wide_5, scale_6, clamp_7, ()) h14)
def ref14_else0_j5 (Q : Value → Heap → Prop) (n_1 : Addr) (own_3 : Bool) (weigh_4 : Bool) (wide_5 : Bool) (scale_6 : Bool) (h12 : Heap) : Prop :=
 ∃ J13 : (Addr × Bool × Bool × Bool × Bool × Bool × Unit) → Heap → Prop, (∀ s h, J13 s h → ref14_else0_j6 Q s.1 s.2.1 s.2.2.1 s.2.2.2.1 s.2.2.2.2.1 s.2.2.2.2.2.1 h) ∧
 ldInt .i64 h12 n_1 fun n38 =>
 ifB (n38 == (9 : Int)) (
 J13 (n_1, own_3, weigh_4, wide_5, scale_6, true, ()) h12) (
 ldInt .i64 h12 (Addr.add n_1 14) fun n39 =>
 J13 (n_1, own_3, weigh_4, wide_5, scale_6, ((andI .i64 n39 (2 : Int)) == (2 : Int)), ()) h12)
def ref14_else0_j4 (Q : Value → Heap → Prop) (n_1 : Addr) (own_3 : Bool) (weigh_4 : Bool) (wide_5 : Bool) (h10 : Heap) : Prop :=
 ∃ J11 : (Addr × Bool × Bool × Bool × Bool × Unit) → Heap → Prop, (∀ s h, J11 s h → ref14_else0_j5 Q s.1 s.2.1 s.2.2.1 s.2.2.2.1 s.2.2.2.2.1 h) ∧
 ldInt .i64 h10 n_1 fun n40 =>
 ifB (n40 == (10 : Int)) (
 J11 (n_1, own_3, weigh_4, wide_5, true, ()) h10) (
 ldInt .i64 h10 (Addr.add n_1 14) fun n41 =>
 J11 (n_1, own_3, weigh_4, wide_5, ((andI .i64 n41 (1 : Int)) == (1 : Int)), ()) h10)
def ref14_else0 (n_0 : TS A2) (h : Heap) (Q : Value → Heap → Prop) : Prop :=
 newI h (.cells (mkS' A2 n_0).toArray 25 (0, 0)) fun b1 h2 =>
 ldInt .i64 h2 ⟨b1, 0, none⟩ fun n3 =>
 callBool P n_ref14_four #[(.int .i64 n3)] h2 fun b5 h4 =>
 ldInt .i64 h4 ⟨b1, 0, none⟩ fun n6 =>
 callBool P n_ref14_weighs #[(.int .i64 n6)] h4 fun b8 h7 =>
 ∃ J9 : (Addr × Bool × Bool × Bool × Unit) → Heap → Prop, (∀ s h, J9 s h → ref14_else0_j4 Q s.1 s.2.1 s.2.2.1 s.2.2.2.1 h) ∧
 ldInt .i64 h7 ⟨b1, 0, none⟩ fun n42 =>
 ifB (n42 == (1 : Int)) (
 J9 (⟨b1, 0, none⟩, b5, b8, true, ()) h7) (
 ldInt .i64 h7 ⟨b1, 0, none⟩ fun n43 =>
 J9 (⟨b1, 0, none⟩, b5, b8, (n43 == (6 : Int)), ()) h7)
noncomputable def tab_ref14_else0 : Tab := { sch := lookT .done [], lp := lookT [] [], jn := lookT none [(4, some [(1, .sc (.adr)), (3, .sc (.bool)), (4, .sc (.bool)), (5, .sc (.bool))]), (5, some [(1, .sc (.adr)), (3, .sc (.bool)), (4, .sc (.bool)), (5, .sc (.bool)), (6, .sc (.bool))]), (6, some [(1, .sc (.adr)), (3, .sc (.bool)), (4, .sc (.bool)), (5, .sc (.bool)), (6, .sc (.bool)), (7, .sc (.bool))]), (8, some [(1, .sc (.adr)), (3, .sc (.bool)), (4, .sc (.bool)), (5, .sc (.bool)), (6, .sc (.bool)), (7, .sc (.bool))]), (10, some [(1, .sc (.adr)), (4, .sc (.bool)), (6, .sc (.bool)), (7, .sc (.bool))]), (12, some [(1, .sc (.adr)), (6, .sc (.bool)), (7, .sc (.bool))])] }
theorem eq_ref14_else0 (n_0 : TS A2) (h : Heap) (Q : Value → Heap → Prop) : fnI P Tryd.f49 tab_ref14_else0 [(agS A2 n_0)] h Q = ref14_else0 n_0 h Q := by kernel_rfl
theorem ok_ref14_else0 : fnOk P Tryd.f49 tab_ref14_else0 = true := by kernel_rfl
theorem call_ref14_else0 (n_0 : TS A2) {h : Heap} {Q : Value → Heap → Prop} (H : ref14_else0 n_0 h Q) : callP P n_ref14_else0 #[(agS A2 n_0)] h Q :=
 @callP_of P n_ref14_else0 Tryd.f49 tab_ref14_else0 [(agS A2 n_0)] h Q mixed Tryd.func49 Tryd.call49 ok_ref14_else0 (Eq.mpr (eq_ref14_else0 n_0 h Q) H)

/-! ### earshot/earshotref14.Windows: function 51 -/
def ref14_Windows (k_0 : Int) (h : Heap) (Q : Value → Heap → Prop) : Prop :=
 ifB (k_0 == (1 : Int)) (
 Q (.bool true) h) (
 ifB (k_0 == (2 : Int)) (
 Q (.bool true) h) (
 ifB (k_0 == (3 : Int)) (
 Q (.bool true) h) (
 ifB (k_0 == (4 : Int)) (
 Q (.bool true) h) (
 Q (.bool (k_0 == (12 : Int))) h))))
noncomputable def tab_ref14_Windows : Tab := { sch := lookT .done [], lp := lookT [] [], jn := lookT none [] }
theorem eq_ref14_Windows (k_0 : Int) (h : Heap) (Q : Value → Heap → Prop) : fnI P Tryd.f51 tab_ref14_Windows [(.int .i64 k_0)] h Q = ref14_Windows k_0 h Q := by kernel_rfl
theorem ok_ref14_Windows : fnOk P Tryd.f51 tab_ref14_Windows = true := by kernel_rfl
theorem call_ref14_Windows (k_0 : Int) {h : Heap} {Q : Value → Heap → Prop} (H : ref14_Windows k_0 h Q) : callP P n_ref14_Windows #[(.int .i64 k_0)] h Q :=
 @callP_of P n_ref14_Windows Tryd.f51 tab_ref14_Windows [(.int .i64 k_0)] h Q mixed Tryd.func51 Tryd.call51 ok_ref14_Windows (Eq.mpr (eq_ref14_Windows k_0 h Q) H)

/-! ### earshot/earshotref14.Span: function 32 -/
def ref14_Span (n_0 : TS A2) (h : Heap) (Q : Value → Heap → Prop) : Prop :=
 newI h (.cells (mkS' A2 n_0).toArray 25 (0, 0)) fun b1 h2 =>
 ldInt .i64 h2 ⟨b1, 0, none⟩ fun n3 =>
 ifB (n3 == (12 : Int)) (
 ldInt .i64 h2 ⟨b1, 3, none⟩ fun n4 =>
 Q (.int .i64 n4) h2) (
 ldInt .i64 h2 ⟨b1, 0, none⟩ fun n5 =>
 callBool P n_ref14_Windows #[(.int .i64 n5)] h2 fun b7 h6 =>
 ifB (!b7) (
 Q (.int .i64 (1 : Int)) h6) (
 ldInt .i64 h6 ⟨b1, 3, none⟩ fun n8 =>
 ldInt .i64 h6 ⟨b1, 5, none⟩ fun n9 =>
 Q (.int .i64 (IntKind.wrap .i64 ((IntKind.wrap .i64 ((IntKind.wrap .i64 (n8 - (1 : Int))) * n9)) + (1 : Int)))) h6))
noncomputable def tab_ref14_Span : Tab := { sch := lookT .done [], lp := lookT [] [], jn := lookT none [] }
theorem eq_ref14_Span (n_0 : TS A2) (h : Heap) (Q : Value → Heap → Prop) : fnI P Tryd.f32 tab_ref14_Span [(agS A2 n_0)] h Q = ref14_Span n_0 h Q := by kernel_rfl
theorem ok_ref14_Span : fnOk P Tryd.f32 tab_ref14_Span = true := by kernel_rfl
theorem call_ref14_Span (n_0 : TS A2) {h : Heap} {Q : Value → Heap → Prop} (H : ref14_Span n_0 h Q) : callP P n_ref14_Span #[(agS A2 n_0)] h Q :=
 @callP_of P n_ref14_Span Tryd.f32 tab_ref14_Span [(agS A2 n_0)] h Q mixed Tryd.func32 Tryd.call32 ok_ref14_Span (Eq.mpr (eq_ref14_Span n_0 h Q) H)

/-! ### earshot/earshotref14.weights: function 69 -/
def ref14_weights (n_0 : TS A2) (width_1 : Int) (h : Heap) (Q : Value → Heap → Prop) : Prop :=
 newI h (.cells (mkS' A2 n_0).toArray 25 (0, 0)) fun b1 h2 =>
 ldInt .i64 h2 ⟨b1, 0, none⟩ fun n3 =>
 ifB (n3 == (1 : Int)) (
 ldInt .i64 h2 ⟨b1, 2, none⟩ fun n4 =>
 ldInt .i64 h2 ⟨b1, 3, none⟩ fun n5 =>
 Q (.int .i64 (IntKind.wrap .i64 ((IntKind.wrap .i64 (n4 * n5)) * width_1))) h2) (
 ldInt .i64 h2 ⟨b1, 0, none⟩ fun n6 =>
 ifB (n6 == (2 : Int)) (
 ldInt .i64 h2 ⟨b1, 3, none⟩ fun n7 =>
 Q (.int .i64 (IntKind.wrap .i64 (width_1 * n7))) h2) (
 ldInt .i64 h2 ⟨b1, 2, none⟩ fun n8 =>
 Q (.int .i64 (IntKind.wrap .i64 (n8 * width_1))) h2))
noncomputable def tab_ref14_weights : Tab := { sch := lookT .done [], lp := lookT [] [], jn := lookT none [] }
theorem eq_ref14_weights (n_0 : TS A2) (width_1 : Int) (h : Heap) (Q : Value → Heap → Prop) : fnI P Tryd.f69 tab_ref14_weights [(agS A2 n_0), (.int .i64 width_1)] h Q = ref14_weights n_0 width_1 h Q := by kernel_rfl
theorem ok_ref14_weights : fnOk P Tryd.f69 tab_ref14_weights = true := by kernel_rfl
theorem call_ref14_weights (n_0 : TS A2) (width_1 : Int) {h : Heap} {Q : Value → Heap → Prop} (H : ref14_weights n_0 width_1 h Q) : callP P n_ref14_weights #[(agS A2 n_0), (.int .i64 width_1)] h Q :=
 @callP_of P n_ref14_weights Tryd.f69 tab_ref14_weights [(agS A2 n_0), (.int .i64 width_1)] h Q mixed Tryd.func69 Tryd.call69 ok_ref14_weights (Eq.mpr (eq_ref14_weights n_0 width_1 h Q) H)

/-! ### earshot/earshotref14.sized: function 50 -/
def ref14_sized_j23 (Q : Value → Heap → Prop) (n_2 : Addr) (h30 : Heap) : Prop :=
 ldInt .i64 h30 (Addr.add n_2 10) fun n31 =>
 callBool P n_ref14_in #[(.int .i64 n31), (.int .i64 (0 : Int)), (.int .i64 (32767 : Int))] h30 fun b33 h32 =>
 ldInt .i64 h32 (Addr.add n_2 11) fun n34 =>
 callBool P n_ref14_in #[(.int .i64 n34), (.int .i64 (0 : Int)), (.int .i64 (30 : Int))] h32 fun b36 h35 =>
 ldInt .i64 h35 (Addr.add n_2 12) fun n37 =>
 callBool P n_ref14_in #[(.int .i64 n37), (.int .i64 (-2147483648 : Int)), (.int .i64 (2147483647 : Int))] h35 fun b39 h38 =>
 ldInt .i64 h38 (Addr.add n_2 13) fun n40 =>
 callBool P n_ref14_in #[(.int .i64 n40), (.int .i64 (-2147483648 : Int)), (.int .i64 (2147483647 : Int))] h38 fun b42 h41 =>
 ifB b33 (
 ifB b36 (
 ifB b39 (
 ifB b42 (
 ldInt .i64 h41 (Addr.add n_2 12) fun n43 =>
 ldInt .i64 h41 (Addr.add n_2 13) fun n44 =>
 Q (.bool (decide (n43 ≤ n44))) h41) (
 Q (.bool false) h41)) (
 Q (.bool false) h41)) (
 Q (.bool false) h41)) (
 Q (.bool false) h41)
def ref14_sized_j19 (Q : Value → Heap → Prop) (J29 : (Addr × Unit) → Heap → Prop) (width_1 : Int) (n_2 : Addr) (many_11 : Int) (h47 : Heap) : Prop :=
 ldSlice h47 (Addr.add n_2 8) fun p48 l48 c48 =>
 callBool P n_ref14_all #[(.slice p48 l48 c48), (.int .i64 (-128 : Int)), (.int .i64 (127 : Int))] h47 fun b50 h49 =>
 ldSlice h49 (Addr.add n_2 9) fun p51 l51 c51 =>
 callBool P n_ref14_all #[(.slice p51 l51 c51), (.int .i64 (-16777216 : Int)), (.int .i64 (16777216 : Int))] h49 fun b53 h52 =>
 ldAg A2 h52 n_2 fun x54 =>
 ldSlice h52 (Addr.add n_2 8) fun p55 l55 c55 =>
 callInt P .i64 n_ref14_weights #[(agS A2 x54), (.int .i64 width_1)] h52 fun n57 h56 =>
 cellH h56 (Addr.add n_2 8) = some (.slice p55 l55 c55) ∧
 ifB (((l55 : Nat) : Int) != n57) (
 Q (.bool false) h56) (
 ldSlice h56 (Addr.add n_2 9) fun p58 l58 c58 =>
 ifB (((l58 : Nat) : Int) != many_11) (
 Q (.bool false) h56) (
 ifB (!b50) (
 Q (.bool false) h56) (
 ifB (!b53) (
 Q (.bool false) h56) (
 J29 (n_2, ()) h56))))
def ref14_sized_j15 (Q : Value → Heap → Prop) (width_1 : Int) (n_2 : Addr) (weigh_6 : Bool) (h28 : Heap) : Prop :=
 ∃ J29 : (Addr × Unit) → Heap → Prop, (∀ s h, J29 s h → ref14_sized_j23 Q s.1 h) ∧
 ifB weigh_6 (
 ldInt .i64 h28 (Addr.add n_2 2) fun n45 =>
 ∃ J46 : (Int × Addr × Int × Unit) → Heap → Prop, (∀ s h, J46 s h → ref14_sized_j19 Q J29 s.1 s.2.1 s.2.2.1 h) ∧
 ldInt .i64 h28 n_2 fun n59 =>
 ifB (n59 == (2 : Int)) (
 J46 (width_1, n_2, width_1, ()) h28) (
 J46 (width_1, n_2, n45, ()) h28)) (
 J29 (n_2, ()) h28)
def ref14_sized_j12 (Q : Value → Heap → Prop) (width_1 : Int) (n_2 : Addr) (weigh_6 : Bool) (h23 : Heap) : Prop :=
 ldInt .i64 h23 (Addr.add n_2 2) fun n24 =>
 callBool P n_ref14_in #[(.int .i64 n24), (.int .i64 (1 : Int)), (.int .i64 (16 : Int))] h23 fun b26 h25 =>
 ∃ J27 : (Int × Addr × Bool × Unit) → Heap → Prop, (∀ s h, J27 s h → ref14_sized_j15 Q s.1 s.2.1 s.2.2.1 h) ∧
 ldInt .i64 h25 n_2 fun n60 =>
 ifB (n60 == (1 : Int)) (
 ifB (!b26) (
 Q (.bool false) h25) (
 J27 (width_1, n_2, weigh_6, ()) h25)) (
 ldInt .i64 h25 n_2 fun n61 =>
 ifB (n61 == (6 : Int)) (
 ifB (!b26) (
 Q (.bool false) h25) (
 J27 (width_1, n_2, weigh_6, ()) h25)) (
 J27 (width_1, n_2, weigh_6, ()) h25))
def ref14_sized_j10 (Q : Value → Heap → Prop) (width_1 : Int) (n_2 : Addr) (own_5 : Bool) (weigh_6 : Bool) (h21 : Heap) : Prop :=
 ∃ J22 : (Int × Addr × Bool × Unit) → Heap → Prop, (∀ s h, J22 s h → ref14_sized_j12 Q s.1 s.2.1 s.2.2.1 h) ∧
 ifB own_5 (
 ldInt .i64 h21 (Addr.add n_2 6) fun n62 =>
 ifB (decide (n62 < (0 : Int))) (
 Q (.bool false) h21) (
 ldInt .i64 h21 (Addr.add n_2 6) fun n63 =>
 ldAg A2 h21 n_2 fun x64 =>
 callInt P .i64 n_ref14_Span #[(agS A2 x64)] h21 fun n66 h65 =>
 cellH h65 (Addr.add n_2 6) = some (.int .i64 n63) ∧
 ifB (decide (n63 ≥ n66)) (
 cellH h65 (Addr.add n_2 6) = some (.int .i64 n63) ∧
 Q (.bool false) h65) (
 ldInt .i64 h65 (Addr.add n_2 7) fun n67 =>
 ifB (decide (n67 < (0 : Int))) (
 cellH h65 (Addr.add n_2 6) = some (.int .i64 n63) ∧
 Q (.bool false) h65) (
 ldAg A2 h65 n_2 fun x68 =>
 ldInt .i64 h65 (Addr.add n_2 7) fun n69 =>
 callInt P .i64 n_ref14_Span #[(agS A2 x68)] h65 fun n71 h70 =>
 cellH h70 (Addr.add n_2 7) = some (.int .i64 n69) ∧
 cellH h70 (Addr.add n_2 6) = some (.int .i64 n63) ∧
 ifB (decide (n69 ≥ n71)) (
 Q (.bool false) h70) (
 J22 (width_1, n_2, weigh_6, ()) h70))))) (
 J22 (width_1, n_2, weigh_6, ()) h21)
def ref14_sized_j6 (Q : Value → Heap → Prop) (width_1 : Int) (n_2 : Addr) (own_5 : Bool) (weigh_6 : Bool) (h13 : Heap) : Prop :=
 ldInt .i64 h13 (Addr.add n_2 4) fun n14 =>
 callBool P n_ref14_in #[(.int .i64 n14), (.int .i64 (1 : Int)), (.int .i64 (4 : Int))] h13 fun b16 h15 =>
 ldInt .i64 h15 (Addr.add n_2 5) fun n17 =>
 callBool P n_ref14_in #[(.int .i64 n17), (.int .i64 (1 : Int)), (.int .i64 (4 : Int))] h15 fun b19 h18 =>
 ∃ J20 : (Int × Addr × Bool × Bool × Unit) → Heap → Prop, (∀ s h, J20 s h → ref14_sized_j10 Q s.1 s.2.1 s.2.2.1 s.2.2.2.1 h) ∧
 ifB own_5 (
 ifB (!b16) (
 Q (.bool false) h18) (
 ifB (!b19) (
 Q (.bool false) h18) (
 J20 (width_1, n_2, own_5, weigh_6, ()) h18))) (
 J20 (width_1, n_2, own_5, weigh_6, ()) h18)
def ref14_sized (n_0 : TS A2) (width_1 : Int) (h : Heap) (Q : Value → Heap → Prop) : Prop :=
 newI h (.cells (mkS' A2 n_0).toArray 25 (0, 0)) fun b1 h2 =>
 ldInt .i64 h2 ⟨b1, 0, none⟩ fun n3 =>
 callBool P n_ref14_four #[(.int .i64 n3)] h2 fun b5 h4 =>
 ldInt .i64 h4 ⟨b1, 0, none⟩ fun n6 =>
 callBool P n_ref14_weighs #[(.int .i64 n6)] h4 fun b8 h7 =>
 ldInt .i64 h7 ⟨b1, 3, none⟩ fun n9 =>
 callBool P n_ref14_in #[(.int .i64 n9), (.int .i64 (1 : Int)), (.int .i64 (8 : Int))] h7 fun b11 h10 =>
 ∃ J12 : (Int × Addr × Bool × Bool × Unit) → Heap → Prop, (∀ s h, J12 s h → ref14_sized_j6 Q s.1 s.2.1 s.2.2.1 s.2.2.2.1 h) ∧
 ifB b5 (
 ifB (!b11) (
 Q (.bool false) h10) (
 J12 (width_1, ⟨b1, 0, none⟩, b5, b8, ()) h10)) (
 ldInt .i64 h10 ⟨b1, 0, none⟩ fun n72 =>
 ifB (n72 == (12 : Int)) (
 ifB (!b11) (
 Q (.bool false) h10) (
 J12 (width_1, ⟨b1, 0, none⟩, b5, b8, ()) h10)) (
 J12 (width_1, ⟨b1, 0, none⟩, b5, b8, ()) h10))
noncomputable def tab_ref14_sized : Tab := { sch := lookT .done [(10, (ones [0, 1, 2] (.alt 3 (ones [4, 5, 6] (.early 7 (.alt 8 (.alt 9 (ones [10, 11, 12, 13] (.alt 14 (ones [15, 16, 17, 18, 20] (.early 19 (.alt 21 (ones [22, 23, 24] .done) .stop))) .stop)) .stop) .stop))) .stop))), (21, (ones [0, 4, 3] (.early 1 (ones [2] (.alt 5 (ones [6, 7, 8, 11, 9, 10, 12, 13, 14, 15, 16, 17, 18, 19, 20, 21] .done) .stop)))))], lp := lookT [] [], jn := lookT none [(6, some [(1, .sc (.int .i64)), (2, .sc (.adr)), (5, .sc (.bool)), (6, .sc (.bool))]), (10, some [(1, .sc (.int .i64)), (2, .sc (.adr)), (5, .sc (.bool)), (6, .sc (.bool))]), (12, some [(1, .sc (.int .i64)), (2, .sc (.adr)), (6, .sc (.bool))]), (15, some [(1, .sc (.int .i64)), (2, .sc (.adr)), (6, .sc (.bool))]), (19, some [(1, .sc (.int .i64)), (2, .sc (.adr)), (11, .sc (.int .i64))]), (23, some [(2, .sc (.adr))])] }
theorem eq_ref14_sized (n_0 : TS A2) (width_1 : Int) (h : Heap) (Q : Value → Heap → Prop) : fnI P Tryd.f50 tab_ref14_sized [(agS A2 n_0), (.int .i64 width_1)] h Q = ref14_sized n_0 width_1 h Q := by kernel_rfl
theorem ok_ref14_sized : fnOk P Tryd.f50 tab_ref14_sized = true := by kernel_rfl
theorem call_ref14_sized (n_0 : TS A2) (width_1 : Int) {h : Heap} {Q : Value → Heap → Prop} (H : ref14_sized n_0 width_1 h Q) : callP P n_ref14_sized #[(agS A2 n_0), (.int .i64 width_1)] h Q :=
 @callP_of P n_ref14_sized Tryd.f50 tab_ref14_sized [(agS A2 n_0), (.int .i64 width_1)] h Q mixed Tryd.func50 Tryd.call50 ok_ref14_sized (Eq.mpr (eq_ref14_sized n_0 width_1 h Q) H)

/-! ### earshot/earshotref14.Check: function 21 -/
def ref14_Check_l19 (Q : Value → Heap → Prop) (K1 : ((Option Addr × Nat × Nat) × Addr × Int × Int × Unit) → Heap → Prop) (widths_1_p : Option Addr) (widths_1_n : Nat) (widths_1_c : Nat) (n_2 : Addr) (sum_11 : Int) (i_12 : Int) (h28 : Heap) : Prop :=
 ifB (decide (i_12 < ((widths_1_n : Nat) : Int))) (
 idxI widths_1_p i_12 widths_1_n fun a29 =>
 ldInt .i64 h28 (Addr.add a29 (i_12.toNat * 1)) fun n30 =>
 ldInt .i64 h28 n_2 fun n31 =>
 ifB (n31 == (7 : Int)) (
 idxI widths_1_p i_12 widths_1_n fun a32 =>
 idxI widths_1_p (0 : Int) widths_1_n fun a33 =>
 ldInt .i64 h28 (Addr.add a32 (i_12.toNat * 1)) fun n34 =>
 ldInt .i64 h28 (Addr.add a33 ((0 : Int).toNat * 1)) fun n35 =>
 ifB (n34 != n35) (
 Q (.int .i64 (14 : Int)) h28) (
 K1 ((widths_1_p, widths_1_n, widths_1_c), n_2, (IntKind.wrap .i64 (sum_11 + n30)), (IntKind.wrap .i64 (i_12 + (1 : Int))), ()) h28)) (
 K1 ((widths_1_p, widths_1_n, widths_1_c), n_2, (IntKind.wrap .i64 (sum_11 + n30)), (IntKind.wrap .i64 (i_12 + (1 : Int))), ()) h28)) (
 ldInt .i64 h28 n_2 fun n36 =>
 ifB (n36 == (8 : Int)) (
 ifB (decide (sum_11 > (16 : Int))) (
 Q (.int .i64 (14 : Int)) h28) (
 Q (.int .i64 (0 : Int)) h28)) (
 Q (.int .i64 (0 : Int)) h28))
def ref14_Check_j11 (Q : Value → Heap → Prop) (widths_1_p : Option Addr) (widths_1_n : Nat) (widths_1_c : Nat) (n_2 : Addr) (h19 : Heap) : Prop :=
 ldAg A2 h19 n_2 fun x20 =>
 callBool P n_ref14_else0 #[(agS A2 x20)] h19 fun b22 h21 =>
 ifB (!b22) (
 Q (.int .i64 (12 : Int)) h21) (
 idxI widths_1_p (0 : Int) widths_1_n fun a23 =>
 ldAg A2 h21 n_2 fun x24 =>
 ldInt .i64 h21 (Addr.add a23 ((0 : Int).toNat * 1)) fun n25 =>
 callBool P n_ref14_sized #[(agS A2 x24), (.int .i64 n25)] h21 fun b27 h26 =>
 ifB (!b27) (
 Q (.int .i64 (22 : Int)) h26) (
 LoopS (S := ((Option Addr × Nat × Nat) × Addr × Int × Int × Unit)) (fun K1 s h => ref14_Check_l19 Q K1 s.1.1 s.1.2.1 s.1.2.2 s.2.1 s.2.2.1 s.2.2.2.1 h) ((widths_1_p, widths_1_n, widths_1_c), n_2, (0 : Int), (0 : Int), ()) h26))
def ref14_Check_j9 (Q : Value → Heap → Prop) (widths_1_p : Option Addr) (widths_1_n : Nat) (widths_1_c : Nat) (n_2 : Addr) (weigh_8 : Bool) (h17 : Heap) : Prop :=
 ∃ J18 : ((Option Addr × Nat × Nat) × Addr × Unit) → Heap → Prop, (∀ s h, J18 s h → ref14_Check_j11 Q s.1.1 s.1.2.1 s.1.2.2 s.2.1 h) ∧
 ldInt .i64 h17 (Addr.add n_2 14) fun n37 =>
 ifB (decide (n37 < (0 : Int))) (
 Q (.int .i64 (12 : Int)) h17) (
 ldInt .i64 h17 (Addr.add n_2 14) fun n38 =>
 ifB (decide (n38 > (3 : Int))) (
 Q (.int .i64 (12 : Int)) h17) (
 ldInt .i64 h17 (Addr.add n_2 14) fun n39 =>
 ifB (n39 != (0 : Int)) (
 ifB (!weigh_8) (
 Q (.int .i64 (12 : Int)) h17) (
 J18 ((widths_1_p, widths_1_n, widths_1_c), n_2, ()) h17)) (
 J18 ((widths_1_p, widths_1_n, widths_1_c), n_2, ()) h17)))
def ref14_Check_j4 (Q : Value → Heap → Prop) (widths_1_p : Option Addr) (widths_1_n : Nat) (widths_1_c : Nat) (n_2 : Addr) (h6 : Heap) : Prop :=
 ldInt .i64 h6 n_2 fun n7 =>
 callBool P n_ref14_in #[(.int .i64 n7), (.int .i64 (1 : Int)), (.int .i64 (12 : Int))] h6 fun b9 h8 =>
 ldInt .i64 h8 n_2 fun n10 =>
 callBool P n_ref14_Many #[(.int .i64 n10)] h8 fun b12 h11 =>
 ldInt .i64 h11 n_2 fun n13 =>
 callBool P n_ref14_weighs #[(.int .i64 n13)] h11 fun b15 h14 =>
 ∃ J16 : ((Option Addr × Nat × Nat) × Addr × Bool × Unit) → Heap → Prop, (∀ s h, J16 s h → ref14_Check_j9 Q s.1.1 s.1.2.1 s.1.2.2 s.2.1 s.2.2.1 h) ∧
 ifB (!b9) (
 Q (.int .i64 (12 : Int)) h14) (
 ifB b12 (
 ifB (decide (((widths_1_n : Nat) : Int) < (2 : Int))) (
 Q (.int .i64 (12 : Int)) h14) (
 ifB (decide (((widths_1_n : Nat) : Int) > (4 : Int))) (
 Q (.int .i64 (12 : Int)) h14) (
 ifB (!b12) (
 ifB (((widths_1_n : Nat) : Int) != (1 : Int)) (
 Q (.int .i64 (12 : Int)) h14) (
 J16 ((widths_1_p, widths_1_n, widths_1_c), n_2, b15, ()) h14)) (
 J16 ((widths_1_p, widths_1_n, widths_1_c), n_2, b15, ()) h14)))) (
 ifB (!b12) (
 ifB (((widths_1_n : Nat) : Int) != (1 : Int)) (
 Q (.int .i64 (12 : Int)) h14) (
 J16 ((widths_1_p, widths_1_n, widths_1_c), n_2, b15, ()) h14)) (
 J16 ((widths_1_p, widths_1_n, widths_1_c), n_2, b15, ()) h14)))
def ref14_Check (n_0 : TS A2) (widths_1_p : Option Addr) (widths_1_n : Nat) (widths_1_c : Nat) (h : Heap) (Q : Value → Heap → Prop) : Prop :=
 newI h (.cells (mkS' A2 n_0).toArray 25 (0, 0)) fun b1 h2 =>
 callBool P n_ref14_all #[(.slice widths_1_p widths_1_n widths_1_c), (.int .i64 (1 : Int)), (.int .i64 (16 : Int))] h2 fun b4 h3 =>
 ∃ J5 : ((Option Addr × Nat × Nat) × Addr × Unit) → Heap → Prop, (∀ s h, J5 s h → ref14_Check_j4 Q s.1.1 s.1.2.1 s.1.2.2 s.2.1 h) ∧
 ldSlice h3 ⟨b1, 1, none⟩ fun p40 l40 c40 =>
 ifB (((widths_1_n : Nat) : Int) != ((l40 : Nat) : Int)) (
 Q (.int .i64 (1 : Int)) h3) (
 ifB (!b4) (
 Q (.int .i64 (1 : Int)) h3) (
 J5 ((widths_1_p, widths_1_n, widths_1_c), ⟨b1, 0, none⟩, ()) h3))
noncomputable def tab_ref14_Check : Tab := { sch := lookT .done [(14, (ones [1, 2, 0, 3] (.alt 4 (ones [5] .done) .stop))), (22, (ones [0, 1, 2, 3, 4, 5, 6, 8, 9, 7, 10, 11, 12] .done))], lp := lookT [] [(19, [(1, .sc (.slice)), (2, .sc (.adr)), (11, .sc (.int .i64)), (12, .sc (.int .i64))])], jn := lookT none [(4, some [(1, .sc (.slice)), (2, .sc (.adr))]), (9, some [(1, .sc (.slice)), (2, .sc (.adr)), (8, .sc (.bool))]), (11, some [(1, .sc (.slice)), (2, .sc (.adr))])] }
theorem eq_ref14_Check (n_0 : TS A2) (widths_1_p : Option Addr) (widths_1_n : Nat) (widths_1_c : Nat) (h : Heap) (Q : Value → Heap → Prop) : fnI P Tryd.f21 tab_ref14_Check [(agS A2 n_0), (.slice widths_1_p widths_1_n widths_1_c)] h Q = ref14_Check n_0 widths_1_p widths_1_n widths_1_c h Q := by kernel_rfl
theorem ok_ref14_Check : fnOk P Tryd.f21 tab_ref14_Check = true := by kernel_rfl
theorem call_ref14_Check (n_0 : TS A2) (widths_1_p : Option Addr) (widths_1_n : Nat) (widths_1_c : Nat) {h : Heap} {Q : Value → Heap → Prop} (H : ref14_Check n_0 widths_1_p widths_1_n widths_1_c h Q) : callP P n_ref14_Check #[(agS A2 n_0), (.slice widths_1_p widths_1_n widths_1_c)] h Q :=
 @callP_of P n_ref14_Check Tryd.f21 tab_ref14_Check [(agS A2 n_0), (.slice widths_1_p widths_1_n widths_1_c)] h Q mixed Tryd.func21 Tryd.call21 ok_ref14_Check (Eq.mpr (eq_ref14_Check n_0 widths_1_p widths_1_n widths_1_c h Q) H)

/-! ### earshot/earshotref14.Width: function 22 -/
def ref14_Width_l11 (Q : Value → Heap → Prop) (K1 : ((Option Addr × Nat × Nat) × Int × Int × Unit) → Heap → Prop) (widths_1_p : Option Addr) (widths_1_n : Nat) (widths_1_c : Nat) (sum_5 : Int) (i_6 : Int) (h12 : Heap) : Prop :=
 ifB (decide (i_6 < ((widths_1_n : Nat) : Int))) (
 idxI widths_1_p i_6 widths_1_n fun a13 =>
 ldInt .i64 h12 (Addr.add a13 (i_6.toNat * 1)) fun n14 =>
 K1 ((widths_1_p, widths_1_n, widths_1_c), (IntKind.wrap .i64 (sum_5 + n14)), (IntKind.wrap .i64 (i_6 + (1 : Int))), ()) h12) (
 Q (.int .i64 sum_5) h12)
def ref14_Width_j5 (Q : Value → Heap → Prop) (widths_1_p : Option Addr) (widths_1_n : Nat) (widths_1_c : Nat) (n_2 : Addr) (h7 : Heap) : Prop :=
 ldInt .i64 h7 n_2 fun n8 =>
 ifB (n8 == (11 : Int)) (
 Q (.int .i64 (1 : Int)) h7) (
 ldInt .i64 h7 n_2 fun n9 =>
 ifB (n9 != (8 : Int)) (
 idxI widths_1_p (0 : Int) widths_1_n fun a10 =>
 ldInt .i64 h7 (Addr.add a10 ((0 : Int).toNat * 1)) fun n11 =>
 Q (.int .i64 n11) h7) (
 LoopS (S := ((Option Addr × Nat × Nat) × Int × Int × Unit)) (fun K1 s h => ref14_Width_l11 Q K1 s.1.1 s.1.2.1 s.1.2.2 s.2.1 s.2.2.1 h) ((widths_1_p, widths_1_n, widths_1_c), (0 : Int), (0 : Int), ()) h7))
def ref14_Width (n_0 : TS A2) (widths_1_p : Option Addr) (widths_1_n : Nat) (widths_1_c : Nat) (h : Heap) (Q : Value → Heap → Prop) : Prop :=
 newI h (.cells (mkS' A2 n_0).toArray 25 (0, 0)) fun b1 h2 =>
 ldAg A2 h2 ⟨b1, 0, none⟩ fun x3 =>
 callInt P .i64 n_ref14_Check #[(agS A2 x3), (.slice widths_1_p widths_1_n widths_1_c)] h2 fun n5 h4 =>
 ifB (n5 != (0 : Int)) (
 Q (.int .i64 (0 : Int)) h4) (
 ∃ J6 : ((Option Addr × Nat × Nat) × Addr × Unit) → Heap → Prop, (∀ s h, J6 s h → ref14_Width_j5 Q s.1.1 s.1.2.1 s.1.2.2 s.2.1 h) ∧
 ldInt .i64 h4 ⟨b1, 0, none⟩ fun n15 =>
 ifB (n15 == (1 : Int)) (
 ldInt .i64 h4 ⟨b1, 2, none⟩ fun n16 =>
 Q (.int .i64 n16) h4) (
 ldInt .i64 h4 ⟨b1, 0, none⟩ fun n17 =>
 ifB (n17 == (6 : Int)) (
 ldInt .i64 h4 ⟨b1, 2, none⟩ fun n18 =>
 Q (.int .i64 n18) h4) (
 J6 ((widths_1_p, widths_1_n, widths_1_c), ⟨b1, 0, none⟩, ()) h4)))
noncomputable def tab_ref14_Width : Tab := { sch := lookT .done [], lp := lookT [] [(11, [(1, .sc (.slice)), (5, .sc (.int .i64)), (6, .sc (.int .i64))])], jn := lookT none [(5, some [(1, .sc (.slice)), (2, .sc (.adr))])] }
theorem eq_ref14_Width (n_0 : TS A2) (widths_1_p : Option Addr) (widths_1_n : Nat) (widths_1_c : Nat) (h : Heap) (Q : Value → Heap → Prop) : fnI P Tryd.f22 tab_ref14_Width [(agS A2 n_0), (.slice widths_1_p widths_1_n widths_1_c)] h Q = ref14_Width n_0 widths_1_p widths_1_n widths_1_c h Q := by kernel_rfl
theorem ok_ref14_Width : fnOk P Tryd.f22 tab_ref14_Width = true := by kernel_rfl
theorem call_ref14_Width (n_0 : TS A2) (widths_1_p : Option Addr) (widths_1_n : Nat) (widths_1_c : Nat) {h : Heap} {Q : Value → Heap → Prop} (H : ref14_Width n_0 widths_1_p widths_1_n widths_1_c h Q) : callP P n_ref14_Width #[(agS A2 n_0), (.slice widths_1_p widths_1_n widths_1_c)] h Q :=
 @callP_of P n_ref14_Width Tryd.f22 tab_ref14_Width [(agS A2 n_0), (.slice widths_1_p widths_1_n widths_1_c)] h Q mixed Tryd.func22 Tryd.call22 ok_ref14_Width (Eq.mpr (eq_ref14_Width n_0 widths_1_p widths_1_n widths_1_c h Q) H)

/-! ### earshot/earshotref14.Step: function 52 -/
def ref14_Step (n_0 : TS A2) (h : Heap) (Q : Value → Heap → Prop) : Prop :=
 newI h (.cells (mkS' A2 n_0).toArray 25 (0, 0)) fun b1 h2 =>
 ldInt .i64 h2 ⟨b1, 0, none⟩ fun n3 =>
 callBool P n_ref14_four #[(.int .i64 n3)] h2 fun b5 h4 =>
 ifB b5 (
 ldInt .i64 h4 ⟨b1, 4, none⟩ fun n6 =>
 Q (.int .i64 n6) h4) (
 Q (.int .i64 (1 : Int)) h4)
noncomputable def tab_ref14_Step : Tab := { sch := lookT .done [], lp := lookT [] [], jn := lookT none [] }
theorem eq_ref14_Step (n_0 : TS A2) (h : Heap) (Q : Value → Heap → Prop) : fnI P Tryd.f52 tab_ref14_Step [(agS A2 n_0)] h Q = ref14_Step n_0 h Q := by kernel_rfl
theorem ok_ref14_Step : fnOk P Tryd.f52 tab_ref14_Step = true := by kernel_rfl
theorem call_ref14_Step (n_0 : TS A2) {h : Heap} {Q : Value → Heap → Prop} (H : ref14_Step n_0 h Q) : callP P n_ref14_Step #[(agS A2 n_0)] h Q :=
 @callP_of P n_ref14_Step Tryd.f52 tab_ref14_Step [(agS A2 n_0)] h Q mixed Tryd.func52 Tryd.call52 ok_ref14_Step (Eq.mpr (eq_ref14_Step n_0 h Q) H)

/-! ### earshot/earshotref16.rate: function 23 -/
def ref16_rate_l3 (Q : Value → Heap → Prop) (K1 : ((Option Addr × Nat × Nat) × Addr × Int × Int × Unit) → Heap → Prop) (rates_1_p : Option Addr) (rates_1_n : Nat) (rates_1_c : Nat) (n_2 : Addr) (r_5 : Int) (i_6 : Int) (h5 : Heap) : Prop :=
 ifB (decide (i_6 < ((rates_1_n : Nat) : Int))) (
 idxI rates_1_p i_6 rates_1_n fun a6 =>
 ldInt .i64 h5 (Addr.add a6 (i_6.toNat * 1)) fun n7 =>
 ifB (n7 != r_5) (
 Q (.int .i64 (-1 : Int)) h5) (
 K1 ((rates_1_p, rates_1_n, rates_1_c), n_2, r_5, (IntKind.wrap .i64 (i_6 + (1 : Int))), ()) h5)) (
 ldInt .i64 h5 n_2 fun n8 =>
 callBool P n_ref14_Windows #[(.int .i64 n8)] h5 fun b10 h9 =>
 ifB (r_5 == (0 : Int)) (
 ifB b10 (
 Q (.int .i64 (-1 : Int)) h9) (
 ldInt .i64 h9 n_2 fun n11 =>
 ifB (n11 == (5 : Int)) (
 Q (.int .i64 (-1 : Int)) h9) (
 ldInt .i64 h9 n_2 fun n12 =>
 ifB (n12 == (5 : Int)) (
 Q (.int .i64 (0 : Int)) h9) (
 ldAg A2 h9 n_2 fun x13 =>
 callInt P .i64 n_ref14_Step #[(agS A2 x13)] h9 fun n15 h14 =>
 Q (.int .i64 (IntKind.wrap .i64 (r_5 * n15))) h14)))) (
 ldInt .i64 h9 n_2 fun n16 =>
 ifB (n16 == (5 : Int)) (
 Q (.int .i64 (0 : Int)) h9) (
 ldAg A2 h9 n_2 fun x17 =>
 callInt P .i64 n_ref14_Step #[(agS A2 x17)] h9 fun n19 h18 =>
 Q (.int .i64 (IntKind.wrap .i64 (r_5 * n19))) h18)))
def ref16_rate (n_0 : TS A2) (rates_1_p : Option Addr) (rates_1_n : Nat) (rates_1_c : Nat) (h : Heap) (Q : Value → Heap → Prop) : Prop :=
 newI h (.cells (mkS' A2 n_0).toArray 25 (0, 0)) fun b1 h2 =>
 idxI rates_1_p (0 : Int) rates_1_n fun a3 =>
 ldInt .i64 h2 (Addr.add a3 ((0 : Int).toNat * 1)) fun n4 =>
 LoopS (S := ((Option Addr × Nat × Nat) × Addr × Int × Int × Unit)) (fun K1 s h => ref16_rate_l3 Q K1 s.1.1 s.1.2.1 s.1.2.2 s.2.1 s.2.2.1 s.2.2.2.1 h) ((rates_1_p, rates_1_n, rates_1_c), ⟨b1, 0, none⟩, n4, (0 : Int), ()) h2
noncomputable def tab_ref16_rate : Tab := { sch := lookT .done [], lp := lookT [] [(3, [(1, .sc (.slice)), (2, .sc (.adr)), (5, .sc (.int .i64)), (6, .sc (.int .i64))])], jn := lookT none [] }
theorem eq_ref16_rate (n_0 : TS A2) (rates_1_p : Option Addr) (rates_1_n : Nat) (rates_1_c : Nat) (h : Heap) (Q : Value → Heap → Prop) : fnI P Tryd.f23 tab_ref16_rate [(agS A2 n_0), (.slice rates_1_p rates_1_n rates_1_c)] h Q = ref16_rate n_0 rates_1_p rates_1_n rates_1_c h Q := by kernel_rfl
theorem ok_ref16_rate : fnOk P Tryd.f23 tab_ref16_rate = true := by kernel_rfl
theorem call_ref16_rate (n_0 : TS A2) (rates_1_p : Option Addr) (rates_1_n : Nat) (rates_1_c : Nat) {h : Heap} {Q : Value → Heap → Prop} (H : ref16_rate n_0 rates_1_p rates_1_n rates_1_c h Q) : callP P n_ref16_rate #[(agS A2 n_0), (.slice rates_1_p rates_1_n rates_1_c)] h Q :=
 @callP_of P n_ref16_rate Tryd.f23 tab_ref16_rate [(agS A2 n_0), (.slice rates_1_p rates_1_n rates_1_c)] h Q mixed Tryd.func23 Tryd.call23 ok_ref16_rate (Eq.mpr (eq_ref16_rate n_0 rates_1_p rates_1_n rates_1_c h Q) H)

/-! ### earshot/earshotref16.Look: function 9 -/
def ref16_Look_l17 (Q : Value → Heap → Prop) (K1 : Y21 → Heap → Prop) (K2 : Y22 → Heap → Prop) (g_1 : Addr) (t2 : Addr) (o_4_p : Option Addr) (o_4_n : Nat) (o_4_c : Nat) (r_5 : Addr) (k_6 : Int) (n_7 : Addr) (widths_8_p : Option Addr) (widths_8_n : Nat) (widths_8_c : Nat) (rates_9_p : Option Addr) (rates_9_n : Nat) (rates_9_c : Nat) (j_10 : Int) (h56 : Heap) : Prop :=
 ldSlice h56 (Addr.add n_7 1) fun p57 l57 c57 =>
 ifB (decide (j_10 < ((l57 : Nat) : Int))) (
 ldSlice h56 (Addr.add r_5 1) fun p58 l58 c58 =>
 ldSlice h56 (Addr.add n_7 1) fun p59 l59 c59 =>
 idxI p59 j_10 l59 fun a60 =>
 ldInt .i64 h56 (Addr.add a60 (j_10.toNat * 1)) fun n61 =>
 idxI p58 n61 l58 fun a62 =>
 ldInt .i64 h56 (Addr.add a62 (n61.toNat * 1)) fun n63 =>
 newI h56 (.cells #[(.int .i64 n63)] 3 (0, 0)) fun b64 h65 =>
 appI 3 1 8 (.int .i64 (0 : Int)) widths_8_p widths_8_n widths_8_c (some ⟨b64, 0, none⟩) 1 h65 fun p66 l66 c66 h67 =>
 cellH h67 (Addr.add r_5 1) = some (.slice p58 l58 c58) ∧
 ldSlice h67 (Addr.add r_5 2) fun p68 l68 c68 =>
 ldSlice h67 (Addr.add n_7 1) fun p69 l69 c69 =>
 idxI p69 j_10 l69 fun a70 =>
 ldInt .i64 h67 (Addr.add a70 (j_10.toNat * 1)) fun n71 =>
 idxI p68 n71 l68 fun a72 =>
 ldInt .i64 h67 (Addr.add a72 (n71.toNat * 1)) fun n73 =>
 newI h67 (.cells #[(.int .i64 n73)] 3 (0, 0)) fun b74 h75 =>
 appI 3 1 8 (.int .i64 (0 : Int)) rates_9_p rates_9_n rates_9_c (some ⟨b74, 0, none⟩) 1 h75 fun p76 l76 c76 h77 =>
 cellH h77 (Addr.add r_5 2) = some (.slice p68 l68 c68) ∧
 K2 (g_1, t2, (o_4_p, o_4_n, o_4_c), r_5, k_6, n_7, (p66, l66, c66), (p76, l76, c76), (IntKind.wrap .i64 (j_10 + (1 : Int))), ()) h77) (
 ldAg A2 h56 n_7 fun x78 =>
 callInt P .i64 n_ref14_Check #[(agS A2 x78), (.slice widths_8_p widths_8_n widths_8_c)] h56 fun n80 h79 =>
 ifB (n80 != (0 : Int)) (
 stI h79 t2 (.slice none 0 0) fun h81 =>
 stI h81 (Addr.add t2 1) (.slice none 0 0) fun h82 =>
 stI h82 (Addr.add t2 2) (.slice none 0 0) fun h83 =>
 stI h83 (Addr.add t2 3) (.int .i64 n80) fun h84 =>
 ldSlice h84 t2 fun p85 l85 c85 =>
 ldSlice h84 (Addr.add t2 1) fun p86 l86 c86 =>
 ldSlice h84 (Addr.add t2 2) fun p87 l87 c87 =>
 ldInt .i64 h84 (Addr.add t2 3) fun n88 =>
 Q (.agg #[(.slice p85 l85 c85), (.slice p86 l86 c86), (.slice p87 l87 c87), (.int .i64 n88)]) h84) (
 idxI o_4_p k_6 o_4_n fun a89 =>
 ldAg A2 h79 n_7 fun x90 =>
 ldSlice h79 (Addr.add r_5 1) fun p91 l91 c91 =>
 ldInt .i64 h79 (Addr.add a89 (k_6.toNat * 1)) fun n92 =>
 callInt P .i64 n_ref14_Width #[(agS A2 x90), (.slice widths_8_p widths_8_n widths_8_c)] h79 fun n94 h93 =>
 cellH h93 (Addr.add a89 (k_6.toNat * 1)) = some (.int .i64 n92) ∧
 cellH h93 (Addr.add r_5 1) = some (.slice p91 l91 c91) ∧
 idxI p91 n92 l91 fun a95 =>
 stI h93 (Addr.add a95 (n92.toNat * 1)) (.int .i64 n94) fun h96 =>
 idxI o_4_p k_6 o_4_n fun a97 =>
 ldAg A2 h96 n_7 fun x98 =>
 ldSlice h96 (Addr.add r_5 2) fun p99 l99 c99 =>
 ldInt .i64 h96 (Addr.add a97 (k_6.toNat * 1)) fun n100 =>
 callInt P .i64 n_ref16_rate #[(agS A2 x98), (.slice rates_9_p rates_9_n rates_9_c)] h96 fun n102 h101 =>
 cellH h101 (Addr.add a97 (k_6.toNat * 1)) = some (.int .i64 n100) ∧
 cellH h101 (Addr.add r_5 2) = some (.slice p99 l99 c99) ∧
 idxI p99 n100 l99 fun a103 =>
 stI h101 (Addr.add a103 (n100.toNat * 1)) (.int .i64 n102) fun h104 =>
 idxI o_4_p k_6 o_4_n fun a105 =>
 ldSlice h104 (Addr.add r_5 2) fun p106 l106 c106 =>
 ldInt .i64 h104 (Addr.add a105 (k_6.toNat * 1)) fun n107 =>
 idxI p106 n107 l106 fun a108 =>
 ldInt .i64 h104 (Addr.add a108 (n107.toNat * 1)) fun n109 =>
 ifB (decide (n109 < (0 : Int))) (
 stI h104 t2 (.slice none 0 0) fun h110 =>
 stI h110 (Addr.add t2 1) (.slice none 0 0) fun h111 =>
 stI h111 (Addr.add t2 2) (.slice none 0 0) fun h112 =>
 stI h112 (Addr.add t2 3) (.int .i64 (15 : Int)) fun h113 =>
 ldSlice h113 t2 fun p114 l114 c114 =>
 ldSlice h113 (Addr.add t2 1) fun p115 l115 c115 =>
 ldSlice h113 (Addr.add t2 2) fun p116 l116 c116 =>
 ldInt .i64 h113 (Addr.add t2 3) fun n117 =>
 Q (.agg #[(.slice p114 l114 c114), (.slice p115 l115 c115), (.slice p116 l116 c116), (.int .i64 n117)]) h113) (
 K1 (g_1, t2, (o_4_p, o_4_n, o_4_c), r_5, (IntKind.wrap .i64 (k_6 + (1 : Int))), ()) h104)))
def ref16_Look_l11 (Q : Value → Heap → Prop) (K1 : Y21 → Heap → Prop) (g_1 : Addr) (t2 : Addr) (o_4_p : Option Addr) (o_4_n : Nat) (o_4_c : Nat) (r_5 : Addr) (k_6 : Int) (h47 : Heap) : Prop :=
 ifB (decide (k_6 < ((o_4_n : Nat) : Int))) (
 idxI o_4_p k_6 o_4_n fun a48 =>
 ldSlice h47 (Addr.add g_1 3) fun p49 l49 c49 =>
 ldInt .i64 h47 (Addr.add a48 (k_6.toNat * 1)) fun n50 =>
 idxI p49 (IntKind.wrap .i64 (n50 - (1 : Int))) l49 fun a51 =>
 ldAg A2 h47 (Addr.add a51 ((IntKind.wrap .i64 (n50 - (1 : Int))).toNat * 15)) fun x52 =>
 newI h47 (.cells (mkS' A2 (zT A2)).toArray 25 (0, 0)) fun b53 h54 =>
 storeL (mkS' A2 x52) h54 ⟨b53, 0, none⟩ 0 fun h55 =>
 LoopS (S := Y22) (fun K2 s h => ref16_Look_l17 Q K1 K2 s.1 s.2.1 s.2.2.1.1 s.2.2.1.2.1 s.2.2.1.2.2 s.2.2.2.1 s.2.2.2.2.1 s.2.2.2.2.2.1 s.2.2.2.2.2.2.1.1 s.2.2.2.2.2.2.1.2.1 s.2.2.2.2.2.2.1.2.2 s.2.2.2.2.2.2.2.1.1 s.2.2.2.2.2.2.2.1.2.1 s.2.2.2.2.2.2.2.1.2.2 s.2.2.2.2.2.2.2.2.1 h) (g_1, t2, (o_4_p, o_4_n, o_4_c), r_5, k_6, ⟨b53, 0, none⟩, (none, 0, 0), (none, 0, 0), (0 : Int), ()) h55) (
 ldSlice h47 r_5 fun p118 l118 c118 =>
 ldSlice h47 (Addr.add r_5 1) fun p119 l119 c119 =>
 ldSlice h47 (Addr.add r_5 2) fun p120 l120 c120 =>
 ldInt .i64 h47 (Addr.add r_5 3) fun n121 =>
 stI h47 t2 (.slice p118 l118 c118) fun h122 =>
 stI h122 (Addr.add t2 1) (.slice p119 l119 c119) fun h123 =>
 stI h123 (Addr.add t2 2) (.slice p120 l120 c120) fun h124 =>
 stI h124 (Addr.add t2 3) (.int .i64 n121) fun h125 =>
 ldSlice h125 t2 fun p126 l126 c126 =>
 ldSlice h125 (Addr.add t2 1) fun p127 l127 c127 =>
 ldSlice h125 (Addr.add t2 2) fun p128 l128 c128 =>
 ldInt .i64 h125 (Addr.add t2 3) fun n129 =>
 Q (.agg #[(.slice p126 l126 c126), (.slice p127 l127 c127), (.slice p128 l128 c128), (.int .i64 n129)]) h125)
def ref16_Look (g_0 : TS A1) (h : Heap) (Q : Value → Heap → Prop) : Prop :=
 newI h (.cells (mkS' A1 g_0).toArray 28 (0, 0)) fun b1 h2 =>
 newI h2 (.cells #[(.slice none 0 0), (.slice none 0 0), (.slice none 0 0), (.int .i64 (0 : Int))] 33 (0, 0)) fun b3 h4 =>
 ldAg A1 h4 ⟨b1, 0, none⟩ fun x5 =>
 callInt P .i64 n_ref16_first #[(agS A1 x5)] h4 fun n7 h6 =>
 ifB (n7 != (0 : Int)) (
 stI h6 ⟨b3, 0, none⟩ (.slice none 0 0) fun h8 =>
 stI h8 ⟨b3, 1, none⟩ (.slice none 0 0) fun h9 =>
 stI h9 ⟨b3, 2, none⟩ (.slice none 0 0) fun h10 =>
 stI h10 ⟨b3, 3, none⟩ (.int .i64 n7) fun h11 =>
 ldSlice h11 ⟨b3, 0, none⟩ fun p12 l12 c12 =>
 ldSlice h11 ⟨b3, 1, none⟩ fun p13 l13 c13 =>
 ldSlice h11 ⟨b3, 2, none⟩ fun p14 l14 c14 =>
 ldInt .i64 h11 ⟨b3, 3, none⟩ fun n15 =>
 Q (.agg #[(.slice p12 l12 c12), (.slice p13 l13 c13), (.slice p14 l14 c14), (.int .i64 n15)]) h11) (
 ldAg A1 h6 ⟨b1, 0, none⟩ fun x16 =>
 callSlice P n_ref16_order #[(agS A1 x16)] h6 fun p18 l18 c18 h17 =>
 ldSlice h17 ⟨b1, 3, none⟩ fun p19 l19 c19 =>
 ifB (decide (((l18 : Nat) : Int) < ((l19 : Nat) : Int))) (
 stI h17 ⟨b3, 0, none⟩ (.slice none 0 0) fun h20 =>
 stI h20 ⟨b3, 1, none⟩ (.slice none 0 0) fun h21 =>
 stI h21 ⟨b3, 2, none⟩ (.slice none 0 0) fun h22 =>
 stI h22 ⟨b3, 3, none⟩ (.int .i64 (13 : Int)) fun h23 =>
 ldSlice h23 ⟨b3, 0, none⟩ fun p24 l24 c24 =>
 ldSlice h23 ⟨b3, 1, none⟩ fun p25 l25 c25 =>
 ldSlice h23 ⟨b3, 2, none⟩ fun p26 l26 c26 =>
 ldInt .i64 h23 ⟨b3, 3, none⟩ fun n27 =>
 Q (.agg #[(.slice p24 l24 c24), (.slice p25 l25 c25), (.slice p26 l26 c26), (.int .i64 n27)]) h23) (
 ldSlice h17 ⟨b1, 3, none⟩ fun p28 l28 c28 =>
 ldSlice h17 ⟨b1, 3, none⟩ fun p29 l29 c29 =>
 (
 mkI 3 1 8 (.int .i64 (0 : Int)) (IntKind.wrap .i64 (((l28 : Nat) : Int) + (1 : Int))) (IntKind.wrap .i64 (((l28 : Nat) : Int) + (1 : Int))) h17 fun b30 h31 =>
 cellH h31 ⟨b1, 3, none⟩ = some (.slice p29 l29 c29) ∧
 cellH h31 ⟨b1, 3, none⟩ = some (.slice p28 l28 c28) ∧
 (
 mkI 3 1 8 (.int .i64 (0 : Int)) (IntKind.wrap .i64 (((l29 : Nat) : Int) + (1 : Int))) (IntKind.wrap .i64 (((l29 : Nat) : Int) + (1 : Int))) h31 fun b32 h33 =>
 cellH h33 ⟨b1, 3, none⟩ = some (.slice p29 l29 c29) ∧
 cellH h33 ⟨b1, 3, none⟩ = some (.slice p28 l28 c28) ∧
 newI h33 (.cells #[(.slice none 0 0), (.slice none 0 0), (.slice none 0 0), (.int .i64 (0 : Int))] 33 (0, 0)) fun b34 h35 =>
 stI h35 ⟨b34, 0, none⟩ (.slice p18 l18 c18) fun h36 =>
 stI h36 ⟨b34, 1, none⟩ (.slice (some ⟨b30, 0, none⟩) ((IntKind.wrap .i64 (((l28 : Nat) : Int) + (1 : Int))).toNat) ((IntKind.wrap .i64 (((l28 : Nat) : Int) + (1 : Int))).toNat)) fun h37 =>
 stI h37 ⟨b34, 2, none⟩ (.slice (some ⟨b32, 0, none⟩) ((IntKind.wrap .i64 (((l29 : Nat) : Int) + (1 : Int))).toNat) ((IntKind.wrap .i64 (((l29 : Nat) : Int) + (1 : Int))).toNat)) fun h38 =>
 stI h38 ⟨b34, 3, none⟩ (.int .i64 (0 : Int)) fun h39 =>
 ldSlice h39 ⟨b34, 1, none⟩ fun p40 l40 c40 =>
 ldInt .i64 h39 ⟨b1, 0, none⟩ fun n41 =>
 idxI p40 (0 : Int) l40 fun a42 =>
 stI h39 (Addr.add a42 ((0 : Int).toNat * 1)) (.int .i64 n41) fun h43 =>
 ldSlice h43 ⟨b34, 2, none⟩ fun p44 l44 c44 =>
 idxI p44 (0 : Int) l44 fun a45 =>
 stI h43 (Addr.add a45 ((0 : Int).toNat * 1)) (.int .i64 (1 : Int)) fun h46 =>
 LoopS (S := Y21) (fun K1 s h => ref16_Look_l11 Q K1 s.1 s.2.1 s.2.2.1.1 s.2.2.1.2.1 s.2.2.1.2.2 s.2.2.2.1 s.2.2.2.2.1 h) (⟨b1, 0, none⟩, ⟨b3, 0, none⟩, (p18, l18, c18), ⟨b34, 0, none⟩, (0 : Int), ()) h46) ∧ (
 newI h31 (.cells #[(.slice none 0 0), (.slice none 0 0), (.slice none 0 0), (.int .i64 (0 : Int))] 33 (0, 0)) fun b130 h131 =>
 mkI 3 1 8 (.int .i64 (0 : Int)) (IntKind.wrap .i64 (((l29 : Nat) : Int) + (1 : Int))) (IntKind.wrap .i64 (((l29 : Nat) : Int) + (1 : Int))) h131 fun b132 h133 =>
 cellH h133 ⟨b1, 3, none⟩ = some (.slice p29 l29 c29) ∧
 cellH h133 ⟨b1, 3, none⟩ = some (.slice p28 l28 c28) ∧
 stI h133 ⟨b130, 0, none⟩ (.slice p18 l18 c18) fun h134 =>
 stI h134 ⟨b130, 1, none⟩ (.slice (some ⟨b30, 0, none⟩) ((IntKind.wrap .i64 (((l28 : Nat) : Int) + (1 : Int))).toNat) ((IntKind.wrap .i64 (((l28 : Nat) : Int) + (1 : Int))).toNat)) fun h135 =>
 stI h135 ⟨b130, 2, none⟩ (.slice (some ⟨b132, 0, none⟩) ((IntKind.wrap .i64 (((l29 : Nat) : Int) + (1 : Int))).toNat) ((IntKind.wrap .i64 (((l29 : Nat) : Int) + (1 : Int))).toNat)) fun h136 =>
 stI h136 ⟨b130, 3, none⟩ (.int .i64 (0 : Int)) fun h137 =>
 ldSlice h137 ⟨b130, 1, none⟩ fun p138 l138 c138 =>
 ldInt .i64 h137 ⟨b1, 0, none⟩ fun n139 =>
 idxI p138 (0 : Int) l138 fun a140 =>
 stI h137 (Addr.add a140 ((0 : Int).toNat * 1)) (.int .i64 n139) fun h141 =>
 ldSlice h141 ⟨b130, 2, none⟩ fun p142 l142 c142 =>
 idxI p142 (0 : Int) l142 fun a143 =>
 stI h141 (Addr.add a143 ((0 : Int).toNat * 1)) (.int .i64 (1 : Int)) fun h144 =>
 LoopS (S := Y21) (fun K1 s h => ref16_Look_l11 Q K1 s.1 s.2.1 s.2.2.1.1 s.2.2.1.2.1 s.2.2.1.2.2 s.2.2.2.1 s.2.2.2.2.1 h) (⟨b1, 0, none⟩, ⟨b3, 0, none⟩, (p18, l18, c18), ⟨b130, 0, none⟩, (0 : Int), ()) h144)) ∧ (
 (
 mkI 3 1 8 (.int .i64 (0 : Int)) (IntKind.wrap .i64 (((l29 : Nat) : Int) + (1 : Int))) (IntKind.wrap .i64 (((l29 : Nat) : Int) + (1 : Int))) h17 fun b228 h229 =>
 cellH h229 ⟨b1, 3, none⟩ = some (.slice p29 l29 c29) ∧
 cellH h229 ⟨b1, 3, none⟩ = some (.slice p28 l28 c28) ∧
 (
 mkI 3 1 8 (.int .i64 (0 : Int)) (IntKind.wrap .i64 (((l28 : Nat) : Int) + (1 : Int))) (IntKind.wrap .i64 (((l28 : Nat) : Int) + (1 : Int))) h229 fun b230 h231 =>
 cellH h231 ⟨b1, 3, none⟩ = some (.slice p29 l29 c29) ∧
 cellH h231 ⟨b1, 3, none⟩ = some (.slice p28 l28 c28) ∧
 newI h231 (.cells #[(.slice none 0 0), (.slice none 0 0), (.slice none 0 0), (.int .i64 (0 : Int))] 33 (0, 0)) fun b232 h233 =>
 stI h233 ⟨b232, 0, none⟩ (.slice p18 l18 c18) fun h234 =>
 stI h234 ⟨b232, 1, none⟩ (.slice (some ⟨b230, 0, none⟩) ((IntKind.wrap .i64 (((l28 : Nat) : Int) + (1 : Int))).toNat) ((IntKind.wrap .i64 (((l28 : Nat) : Int) + (1 : Int))).toNat)) fun h235 =>
 stI h235 ⟨b232, 2, none⟩ (.slice (some ⟨b228, 0, none⟩) ((IntKind.wrap .i64 (((l29 : Nat) : Int) + (1 : Int))).toNat) ((IntKind.wrap .i64 (((l29 : Nat) : Int) + (1 : Int))).toNat)) fun h236 =>
 stI h236 ⟨b232, 3, none⟩ (.int .i64 (0 : Int)) fun h237 =>
 ldSlice h237 ⟨b232, 1, none⟩ fun p238 l238 c238 =>
 ldInt .i64 h237 ⟨b1, 0, none⟩ fun n239 =>
 idxI p238 (0 : Int) l238 fun a240 =>
 stI h237 (Addr.add a240 ((0 : Int).toNat * 1)) (.int .i64 n239) fun h241 =>
 ldSlice h241 ⟨b232, 2, none⟩ fun p242 l242 c242 =>
 idxI p242 (0 : Int) l242 fun a243 =>
 stI h241 (Addr.add a243 ((0 : Int).toNat * 1)) (.int .i64 (1 : Int)) fun h244 =>
 LoopS (S := Y21) (fun K1 s h => ref16_Look_l11 Q K1 s.1 s.2.1 s.2.2.1.1 s.2.2.1.2.1 s.2.2.1.2.2 s.2.2.2.1 s.2.2.2.2.1 h) (⟨b1, 0, none⟩, ⟨b3, 0, none⟩, (p18, l18, c18), ⟨b232, 0, none⟩, (0 : Int), ()) h244) ∧ (
 newI h229 (.cells #[(.slice none 0 0), (.slice none 0 0), (.slice none 0 0), (.int .i64 (0 : Int))] 33 (0, 0)) fun b328 h329 =>
 mkI 3 1 8 (.int .i64 (0 : Int)) (IntKind.wrap .i64 (((l28 : Nat) : Int) + (1 : Int))) (IntKind.wrap .i64 (((l28 : Nat) : Int) + (1 : Int))) h329 fun b330 h331 =>
 cellH h331 ⟨b1, 3, none⟩ = some (.slice p29 l29 c29) ∧
 cellH h331 ⟨b1, 3, none⟩ = some (.slice p28 l28 c28) ∧
 stI h331 ⟨b328, 0, none⟩ (.slice p18 l18 c18) fun h332 =>
 stI h332 ⟨b328, 1, none⟩ (.slice (some ⟨b330, 0, none⟩) ((IntKind.wrap .i64 (((l28 : Nat) : Int) + (1 : Int))).toNat) ((IntKind.wrap .i64 (((l28 : Nat) : Int) + (1 : Int))).toNat)) fun h333 =>
 stI h333 ⟨b328, 2, none⟩ (.slice (some ⟨b228, 0, none⟩) ((IntKind.wrap .i64 (((l29 : Nat) : Int) + (1 : Int))).toNat) ((IntKind.wrap .i64 (((l29 : Nat) : Int) + (1 : Int))).toNat)) fun h334 =>
 stI h334 ⟨b328, 3, none⟩ (.int .i64 (0 : Int)) fun h335 =>
 ldSlice h335 ⟨b328, 1, none⟩ fun p336 l336 c336 =>
 ldInt .i64 h335 ⟨b1, 0, none⟩ fun n337 =>
 idxI p336 (0 : Int) l336 fun a338 =>
 stI h335 (Addr.add a338 ((0 : Int).toNat * 1)) (.int .i64 n337) fun h339 =>
 ldSlice h339 ⟨b328, 2, none⟩ fun p340 l340 c340 =>
 idxI p340 (0 : Int) l340 fun a341 =>
 stI h339 (Addr.add a341 ((0 : Int).toNat * 1)) (.int .i64 (1 : Int)) fun h342 =>
 LoopS (S := Y21) (fun K1 s h => ref16_Look_l11 Q K1 s.1 s.2.1 s.2.2.1.1 s.2.2.1.2.1 s.2.2.1.2.2 s.2.2.2.1 s.2.2.2.2.1 h) (⟨b1, 0, none⟩, ⟨b3, 0, none⟩, (p18, l18, c18), ⟨b328, 0, none⟩, (0 : Int), ()) h342)) ∧ (
 newI h17 (.cells #[(.slice none 0 0), (.slice none 0 0), (.slice none 0 0), (.int .i64 (0 : Int))] 33 (0, 0)) fun b426 h427 =>
 (
 mkI 3 1 8 (.int .i64 (0 : Int)) (IntKind.wrap .i64 (((l28 : Nat) : Int) + (1 : Int))) (IntKind.wrap .i64 (((l28 : Nat) : Int) + (1 : Int))) h427 fun b428 h429 =>
 cellH h429 ⟨b1, 3, none⟩ = some (.slice p29 l29 c29) ∧
 cellH h429 ⟨b1, 3, none⟩ = some (.slice p28 l28 c28) ∧
 mkI 3 1 8 (.int .i64 (0 : Int)) (IntKind.wrap .i64 (((l29 : Nat) : Int) + (1 : Int))) (IntKind.wrap .i64 (((l29 : Nat) : Int) + (1 : Int))) h429 fun b430 h431 =>
 cellH h431 ⟨b1, 3, none⟩ = some (.slice p29 l29 c29) ∧
 cellH h431 ⟨b1, 3, none⟩ = some (.slice p28 l28 c28) ∧
 stI h431 ⟨b426, 0, none⟩ (.slice p18 l18 c18) fun h432 =>
 stI h432 ⟨b426, 1, none⟩ (.slice (some ⟨b428, 0, none⟩) ((IntKind.wrap .i64 (((l28 : Nat) : Int) + (1 : Int))).toNat) ((IntKind.wrap .i64 (((l28 : Nat) : Int) + (1 : Int))).toNat)) fun h433 =>
 stI h433 ⟨b426, 2, none⟩ (.slice (some ⟨b430, 0, none⟩) ((IntKind.wrap .i64 (((l29 : Nat) : Int) + (1 : Int))).toNat) ((IntKind.wrap .i64 (((l29 : Nat) : Int) + (1 : Int))).toNat)) fun h434 =>
 stI h434 ⟨b426, 3, none⟩ (.int .i64 (0 : Int)) fun h435 =>
 ldSlice h435 ⟨b426, 1, none⟩ fun p436 l436 c436 =>
 ldInt .i64 h435 ⟨b1, 0, none⟩ fun n437 =>
 idxI p436 (0 : Int) l436 fun a438 =>
 stI h435 (Addr.add a438 ((0 : Int).toNat * 1)) (.int .i64 n437) fun h439 =>
 ldSlice h439 ⟨b426, 2, none⟩ fun p440 l440 c440 =>
 idxI p440 (0 : Int) l440 fun a441 =>
 stI h439 (Addr.add a441 ((0 : Int).toNat * 1)) (.int .i64 (1 : Int)) fun h442 =>
 LoopS (S := Y21) (fun K1 s h => ref16_Look_l11 Q K1 s.1 s.2.1 s.2.2.1.1 s.2.2.1.2.1 s.2.2.1.2.2 s.2.2.2.1 s.2.2.2.2.1 h) (⟨b1, 0, none⟩, ⟨b3, 0, none⟩, (p18, l18, c18), ⟨b426, 0, none⟩, (0 : Int), ()) h442) ∧ (
 mkI 3 1 8 (.int .i64 (0 : Int)) (IntKind.wrap .i64 (((l29 : Nat) : Int) + (1 : Int))) (IntKind.wrap .i64 (((l29 : Nat) : Int) + (1 : Int))) h427 fun b526 h527 =>
 cellH h527 ⟨b1, 3, none⟩ = some (.slice p29 l29 c29) ∧
 cellH h527 ⟨b1, 3, none⟩ = some (.slice p28 l28 c28) ∧
 mkI 3 1 8 (.int .i64 (0 : Int)) (IntKind.wrap .i64 (((l28 : Nat) : Int) + (1 : Int))) (IntKind.wrap .i64 (((l28 : Nat) : Int) + (1 : Int))) h527 fun b528 h529 =>
 cellH h529 ⟨b1, 3, none⟩ = some (.slice p29 l29 c29) ∧
 cellH h529 ⟨b1, 3, none⟩ = some (.slice p28 l28 c28) ∧
 stI h529 ⟨b426, 0, none⟩ (.slice p18 l18 c18) fun h530 =>
 stI h530 ⟨b426, 1, none⟩ (.slice (some ⟨b528, 0, none⟩) ((IntKind.wrap .i64 (((l28 : Nat) : Int) + (1 : Int))).toNat) ((IntKind.wrap .i64 (((l28 : Nat) : Int) + (1 : Int))).toNat)) fun h531 =>
 stI h531 ⟨b426, 2, none⟩ (.slice (some ⟨b526, 0, none⟩) ((IntKind.wrap .i64 (((l29 : Nat) : Int) + (1 : Int))).toNat) ((IntKind.wrap .i64 (((l29 : Nat) : Int) + (1 : Int))).toNat)) fun h532 =>
 stI h532 ⟨b426, 3, none⟩ (.int .i64 (0 : Int)) fun h533 =>
 ldSlice h533 ⟨b426, 1, none⟩ fun p534 l534 c534 =>
 ldInt .i64 h533 ⟨b1, 0, none⟩ fun n535 =>
 idxI p534 (0 : Int) l534 fun a536 =>
 stI h533 (Addr.add a536 ((0 : Int).toNat * 1)) (.int .i64 n535) fun h537 =>
 ldSlice h537 ⟨b426, 2, none⟩ fun p538 l538 c538 =>
 idxI p538 (0 : Int) l538 fun a539 =>
 stI h537 (Addr.add a539 ((0 : Int).toNat * 1)) (.int .i64 (1 : Int)) fun h540 =>
 LoopS (S := Y21) (fun K1 s h => ref16_Look_l11 Q K1 s.1 s.2.1 s.2.2.1.1 s.2.2.1.2.1 s.2.2.1.2.2 s.2.2.2.1 s.2.2.2.2.1 h) (⟨b1, 0, none⟩, ⟨b3, 0, none⟩, (p18, l18, c18), ⟨b426, 0, none⟩, (0 : Int), ()) h540)))))
noncomputable def tab_ref16_Look : Tab := { sch := lookT .done [(7, (ones [0, 1, 6] (.early 2 (ones [3, 4] (.early 7 (ones [8, 9] (.alt 5 (.alt 10 (ones [11] (.alt 12 (.alt 13 .done .stop) .stop)) (.alt 12 (.alt 10 (ones [11] (.alt 13 .done .stop)) .stop) .stop)) (.alt 10 (.alt 5 (ones [11] (.alt 12 (.alt 13 .done .stop) .stop)) (.alt 12 (.alt 5 (ones [11] (.alt 13 .done .stop)) .stop) .stop)) (.alt 12 (.alt 5 (.alt 10 (ones [11] (.alt 13 .done .stop)) .stop) (.alt 10 (.alt 5 (ones [11] (.alt 13 .done .stop)) .stop) .stop)) .stop))))))))), (13, (ones [0, 2, 3, 4, 1, 5, 6, 7, 8] (.alt 9 (.alt 10 .done .stop) .stop))), (19, (ones [0, 1, 3, 5] (.early 2 (.alt 4 (ones [6] (.alt 7 (ones [8] (.alt 9 (.alt 10 (.alt 11 (ones [12] .done) .stop) .stop) .stop)) .stop)) .stop)))), (20, (ones [0, 1, 3, 5] (.early 2 (.alt 4 (ones [6] (.alt 7 (ones [8] (.alt 9 (.alt 10 (.alt 11 (ones [12] .done) .stop) .stop) .stop)) .stop)) .stop)))), (24, (ones [0, 2, 3, 4, 7, 6] (.early 1 (.early 5 (.alt 8 (ones [9] (.alt 10 .done .stop)) .stop))))), (25, (ones [0, 2, 3, 4, 7, 6] (.early 1 (.early 5 (.alt 8 (ones [9] (.alt 10 .done .stop)) .stop))))), (26, (ones [0, 2, 3, 4, 1, 5, 6, 7, 8] .done))], lp := lookT [] [(11, [(1, .sc (.adr)), (2, .sc (.adr)), (4, .sc (.slice)), (5, .sc (.adr)), (6, .sc (.int .i64))]), (17, [(1, .sc (.adr)), (2, .sc (.adr)), (4, .sc (.slice)), (5, .sc (.adr)), (6, .sc (.int .i64)), (7, .sc (.adr)), (8, .sc (.slice)), (9, .sc (.slice)), (10, .sc (.int .i64))])], jn := lookT none [] }
theorem eq_ref16_Look (g_0 : TS A1) (h : Heap) (Q : Value → Heap → Prop) : fnI P Tryd.f9 tab_ref16_Look [(agS A1 g_0)] h Q = ref16_Look g_0 h Q := by kernel_rfl
theorem ok_ref16_Look : fnOk P Tryd.f9 tab_ref16_Look = true := by kernel_rfl
theorem call_ref16_Look (g_0 : TS A1) {h : Heap} {Q : Value → Heap → Prop} (H : ref16_Look g_0 h Q) : callP P n_ref16_Look #[(agS A1 g_0)] h Q :=
 @callP_of P n_ref16_Look Tryd.f9 tab_ref16_Look [(agS A1 g_0)] h Q mixed Tryd.func9 Tryd.call9 ok_ref16_Look (Eq.mpr (eq_ref16_Look g_0 h Q) H)

/-! ### (*earshot/earshotref14.Row).Next: function 70 -/
def ref14_Row_Next (r_0 : Option Addr) (n_1 : Int) (h : Heap) (Q : Value → Heap → Prop) : Prop :=
 nilI r_0 fun a1 =>
 nilI r_0 fun a2 =>
 ldInt .i64 h (Addr.add a1 1) fun n3 =>
 ldSlice h a2 fun p4 l4 c4 =>
 ifB (decide (n3 ≥ ((l4 : Nat) : Int))) (
 Q (.int .i64 (0 : Int)) h) (
 nilI r_0 fun a5 =>
 ldInt .i64 h (Addr.add a5 1) fun n6 =>
 nilI r_0 fun a7 =>
 stI h (Addr.add a7 1) (.int .i64 (IntKind.wrap .i64 (n6 + (1 : Int)))) fun h8 =>
 nilI r_0 fun a9 =>
 nilI r_0 fun a10 =>
 ldSlice h8 a9 fun p11 l11 c11 =>
 ldInt .i64 h8 (Addr.add a10 1) fun n12 =>
 idxI p11 (IntKind.wrap .i64 (n12 - (1 : Int))) l11 fun a13 =>
 ldInt .i64 h8 (Addr.add a13 ((IntKind.wrap .i64 (n12 - (1 : Int))).toNat * 1)) fun n14 =>
 neI n_1 fun _ =>
 neI n_1 fun _ =>
 Q (.int .i64 (Int.tmod (IntKind.wrap .i64 ((Int.tmod n14 n_1) + n_1)) n_1)) h8)
noncomputable def tab_ref14_Row_Next : Tab := { sch := lookT .done [(1, (ones [0, 1, 2, 4, 5, 6, 3, 7, 8, 9] .done)), (4, (ones [0, 1, 2, 4, 5, 6, 11, 13, 15, 3, 7, 8, 9, 10, 12, 14, 16, 17] .done))], lp := lookT [] [], jn := lookT none [] }
theorem eq_ref14_Row_Next (r_0 : Option Addr) (n_1 : Int) (h : Heap) (Q : Value → Heap → Prop) : fnI P Tryd.f70 tab_ref14_Row_Next [(.pointer r_0), (.int .i64 n_1)] h Q = ref14_Row_Next r_0 n_1 h Q := by kernel_rfl
theorem ok_ref14_Row_Next : fnOk P Tryd.f70 tab_ref14_Row_Next = true := by kernel_rfl
theorem call_ref14_Row_Next (r_0 : Option Addr) (n_1 : Int) {h : Heap} {Q : Value → Heap → Prop} (H : ref14_Row_Next r_0 n_1 h Q) : callP P n_ref14_Row_Next #[(.pointer r_0), (.int .i64 n_1)] h Q :=
 @callP_of P n_ref14_Row_Next Tryd.f70 tab_ref14_Row_Next [(.pointer r_0), (.int .i64 n_1)] h Q mixed Tryd.func70 Tryd.call70 ok_ref14_Row_Next (Eq.mpr (eq_ref14_Row_Next r_0 n_1 h Q) H)

/-! ### (*earshot/earshotref14.Row).window: function 88 -/
def ref14_Row_window (r_0 : Option Addr) (n_1 : TS A2) (h : Heap) (Q : Value → Heap → Prop) : Prop :=
 newI h (.cells (mkS' A2 n_1).toArray 25 (0, 0)) fun b1 h2 =>
 newI h2 (.cells (mkS' A2 (zT A2)).toArray 25 (0, 0)) fun b3 h4 =>
 callInt P .i64 n_ref14_Row_Next #[(.pointer r_0), (.int .i64 (4 : Int))] h4 fun n6 h5 =>
 stI h5 ⟨b1, 3, none⟩ (.int .i64 (IntKind.wrap .i64 ((1 : Int) + n6))) fun h7 =>
 callInt P .i64 n_ref14_Row_Next #[(.pointer r_0), (.int .i64 (3 : Int))] h7 fun n9 h8 =>
 stI h8 ⟨b1, 4, none⟩ (.int .i64 (IntKind.wrap .i64 ((1 : Int) + n9))) fun h10 =>
 callInt P .i64 n_ref14_Row_Next #[(.pointer r_0), (.int .i64 (3 : Int))] h10 fun n12 h11 =>
 stI h11 ⟨b1, 5, none⟩ (.int .i64 (IntKind.wrap .i64 ((1 : Int) + n12))) fun h13 =>
 ldAg A2 h13 ⟨b1, 0, none⟩ fun x14 =>
 callInt P .i64 n_ref14_Span #[(agS A2 x14)] h13 fun n16 h15 =>
 callInt P .i64 n_ref14_Row_Next #[(.pointer r_0), (.int .i64 n16)] h15 fun n18 h17 =>
 stI h17 ⟨b1, 6, none⟩ (.int .i64 n18) fun h19 =>
 ldAg A2 h19 ⟨b1, 0, none⟩ fun x20 =>
 callInt P .i64 n_ref14_Span #[(agS A2 x20)] h19 fun n22 h21 =>
 callInt P .i64 n_ref14_Row_Next #[(.pointer r_0), (.int .i64 n22)] h21 fun n24 h23 =>
 stI h23 ⟨b1, 7, none⟩ (.int .i64 n24) fun h25 =>
 ldAg A2 h25 ⟨b1, 0, none⟩ fun x26 =>
 storeL (mkS' A2 x26) h25 ⟨b3, 0, none⟩ 0 fun h27 =>
 ldAg A2 h27 ⟨b3, 0, none⟩ fun x28 =>
 Q (agS A2 x28) h27
noncomputable def tab_ref14_Row_window : Tab := { sch := lookT .done [], lp := lookT [] [], jn := lookT none [] }
theorem eq_ref14_Row_window (r_0 : Option Addr) (n_1 : TS A2) (h : Heap) (Q : Value → Heap → Prop) : fnI P Tryd.f88 tab_ref14_Row_window [(.pointer r_0), (agS A2 n_1)] h Q = ref14_Row_window r_0 n_1 h Q := by kernel_rfl
theorem ok_ref14_Row_window : fnOk P Tryd.f88 tab_ref14_Row_window = true := by kernel_rfl
theorem call_ref14_Row_window (r_0 : Option Addr) (n_1 : TS A2) {h : Heap} {Q : Value → Heap → Prop} (H : ref14_Row_window r_0 n_1 h Q) : callP P n_ref14_Row_window #[(.pointer r_0), (agS A2 n_1)] h Q :=
 @callP_of P n_ref14_Row_window Tryd.f88 tab_ref14_Row_window [(.pointer r_0), (agS A2 n_1)] h Q mixed Tryd.func88 Tryd.call88 ok_ref14_Row_window (Eq.mpr (eq_ref14_Row_window r_0 n_1 h Q) H)

/-! ### (*earshot/earshotref14.Row).row: function 89 -/
def ref14_Row_row_l3 (Q : Value → Heap → Prop) (K1 : Y24 → Heap → Prop) (r_0 : Option Addr) (many_1 : Int) (low_2 : Int) (most_3 : Int) (out_9_p : Option Addr) (out_9_n : Nat) (out_9_c : Nat) (i_10 : Int) (h1 : Heap) : Prop :=
 ifB (decide (i_10 < many_1)) (
 callInt P .i64 n_ref14_Row_Next #[(.pointer r_0), (.int .i64 most_3)] h1 fun n3 h2 =>
 newI h2 (.cells #[(.int .i64 (IntKind.wrap .i64 (low_2 + n3)))] 3 (0, 0)) fun b4 h5 =>
 appI 3 1 8 (.int .i64 (0 : Int)) out_9_p out_9_n out_9_c (some ⟨b4, 0, none⟩) 1 h5 fun p6 l6 c6 h7 =>
 K1 (r_0, many_1, low_2, most_3, (p6, l6, c6), (IntKind.wrap .i64 (i_10 + (1 : Int))), ()) h7) (
 Q (.slice out_9_p out_9_n out_9_c) h1)
def ref14_Row_row (r_0 : Option Addr) (many_1 : Int) (low_2 : Int) (most_3 : Int) (h : Heap) (Q : Value → Heap → Prop) : Prop :=
 LoopS (S := Y24) (fun K1 s h => ref14_Row_row_l3 Q K1 s.1 s.2.1 s.2.2.1 s.2.2.2.1 s.2.2.2.2.1.1 s.2.2.2.2.1.2.1 s.2.2.2.2.1.2.2 s.2.2.2.2.2.1 h) (r_0, many_1, low_2, most_3, (none, 0, 0), (0 : Int), ()) h
noncomputable def tab_ref14_Row_row : Tab := { sch := lookT .done [], lp := lookT [] [(3, [(0, .sc (.ptr)), (1, .sc (.int .i64)), (2, .sc (.int .i64)), (3, .sc (.int .i64)), (9, .sc (.slice)), (10, .sc (.int .i64))])], jn := lookT none [] }
theorem eq_ref14_Row_row (r_0 : Option Addr) (many_1 : Int) (low_2 : Int) (most_3 : Int) (h : Heap) (Q : Value → Heap → Prop) : fnI P Tryd.f89 tab_ref14_Row_row [(.pointer r_0), (.int .i64 many_1), (.int .i64 low_2), (.int .i64 most_3)] h Q = ref14_Row_row r_0 many_1 low_2 most_3 h Q := by kernel_rfl
theorem ok_ref14_Row_row : fnOk P Tryd.f89 tab_ref14_Row_row = true := by kernel_rfl
theorem call_ref14_Row_row (r_0 : Option Addr) (many_1 : Int) (low_2 : Int) (most_3 : Int) {h : Heap} {Q : Value → Heap → Prop} (H : ref14_Row_row r_0 many_1 low_2 most_3 h Q) : callP P n_ref14_Row_row #[(.pointer r_0), (.int .i64 many_1), (.int .i64 low_2), (.int .i64 most_3)] h Q :=
 @callP_of P n_ref14_Row_row Tryd.f89 tab_ref14_Row_row [(.pointer r_0), (.int .i64 many_1), (.int .i64 low_2), (.int .i64 most_3)] h Q mixed Tryd.func89 Tryd.call89 ok_ref14_Row_row (Eq.mpr (eq_ref14_Row_row r_0 many_1 low_2 most_3 h Q) H)

/-! ### earshot/earshotref14.Made: function 71 -/
def ref14_Made_j22 (Q : Value → Heap → Prop) (r_0 : Option Addr) (t8 : Addr) (n_9 : Addr) (w_10 : Int) (kinds_14 : Addr) (k_15 : Int) (h16 : Heap) : Prop :=
 arrI k_15 12 fun _ =>
 ldInt .i64 h16 (Addr.add kinds_14 (k_15.toNat * 1)) fun n17 =>
 stI h16 n_9 (.int .i64 n17) fun h18 =>
 ldInt .i64 h18 n_9 fun n19 =>
 ifB (n19 == (1 : Int)) (
 ldAg A2 h18 n_9 fun x20 =>
 callP P n_ref14_Row_window #[(.pointer r_0), (agS A2 x20)] h18 fun v22 h21 =>
 exS A2 fun x23 => v22 = (agS A2 x23) ∧
 storeL (mkS' A2 x23) h21 n_9 0 fun h24 =>
 callInt P .i64 n_ref14_Row_Next #[(.pointer r_0), (.int .i64 (3 : Int))] h24 fun n26 h25 =>
 stI h25 (Addr.add n_9 2) (.int .i64 (IntKind.wrap .i64 ((1 : Int) + n26))) fun h27 =>
 ldInt .i64 h27 (Addr.add n_9 2) fun n28 =>
 ldInt .i64 h27 (Addr.add n_9 3) fun n29 =>
 callSlice P n_ref14_Row_row #[(.pointer r_0), (.int .i64 (IntKind.wrap .i64 ((IntKind.wrap .i64 (n28 * n29)) * w_10))), (.int .i64 (-9 : Int)), (.int .i64 (19 : Int))] h27 fun p31 l31 c31 h30 =>
 stI h30 (Addr.add n_9 8) (.slice p31 l31 c31) fun h32 =>
 ldInt .i64 h32 (Addr.add n_9 2) fun n33 =>
 callSlice P n_ref14_Row_row #[(.pointer r_0), (.int .i64 n33), (.int .i64 (-50 : Int)), (.int .i64 (101 : Int))] h32 fun p35 l35 c35 h34 =>
 stI h34 (Addr.add n_9 9) (.slice p35 l35 c35) fun h36 =>
 ldAg A2 h36 n_9 fun x37 =>
 storeL (mkS' A2 x37) h36 t8 0 fun h38 =>
 ldAg A2 h38 t8 fun x39 =>
 Q (agS A2 x39) h38) (
 ifB (n19 == (2 : Int)) (
 ldAg A2 h18 n_9 fun x40 =>
 callP P n_ref14_Row_window #[(.pointer r_0), (agS A2 x40)] h18 fun v42 h41 =>
 exS A2 fun x43 => v42 = (agS A2 x43) ∧
 storeL (mkS' A2 x43) h41 n_9 0 fun h44 =>
 ldInt .i64 h44 (Addr.add n_9 3) fun n45 =>
 callSlice P n_ref14_Row_row #[(.pointer r_0), (.int .i64 (IntKind.wrap .i64 (n45 * w_10))), (.int .i64 (-9 : Int)), (.int .i64 (19 : Int))] h44 fun p47 l47 c47 h46 =>
 stI h46 (Addr.add n_9 8) (.slice p47 l47 c47) fun h48 =>
 callSlice P n_ref14_Row_row #[(.pointer r_0), (.int .i64 w_10), (.int .i64 (-50 : Int)), (.int .i64 (101 : Int))] h48 fun p50 l50 c50 h49 =>
 stI h49 (Addr.add n_9 9) (.slice p50 l50 c50) fun h51 =>
 ldAg A2 h51 n_9 fun x52 =>
 storeL (mkS' A2 x52) h51 t8 0 fun h53 =>
 ldAg A2 h53 t8 fun x54 =>
 Q (agS A2 x54) h53) (
 ifB (n19 == (6 : Int)) (
 callInt P .i64 n_ref14_Row_Next #[(.pointer r_0), (.int .i64 (3 : Int))] h18 fun n56 h55 =>
 stI h55 (Addr.add n_9 2) (.int .i64 (IntKind.wrap .i64 ((1 : Int) + n56))) fun h57 =>
 ldInt .i64 h57 (Addr.add n_9 2) fun n58 =>
 callSlice P n_ref14_Row_row #[(.pointer r_0), (.int .i64 (IntKind.wrap .i64 (n58 * w_10))), (.int .i64 (-12 : Int)), (.int .i64 (25 : Int))] h57 fun p60 l60 c60 h59 =>
 stI h59 (Addr.add n_9 8) (.slice p60 l60 c60) fun h61 =>
 ldInt .i64 h61 (Addr.add n_9 2) fun n62 =>
 callSlice P n_ref14_Row_row #[(.pointer r_0), (.int .i64 n62), (.int .i64 (-5000 : Int)), (.int .i64 (10001 : Int))] h61 fun p64 l64 c64 h63 =>
 stI h63 (Addr.add n_9 9) (.slice p64 l64 c64) fun h65 =>
 ldAg A2 h65 n_9 fun x66 =>
 storeL (mkS' A2 x66) h65 t8 0 fun h67 =>
 ldAg A2 h67 t8 fun x68 =>
 Q (agS A2 x68) h67) (
 ifB (n19 == (3 : Int)) (
 ldAg A2 h18 n_9 fun x69 =>
 callP P n_ref14_Row_window #[(.pointer r_0), (agS A2 x69)] h18 fun v71 h70 =>
 exS A2 fun x72 => v71 = (agS A2 x72) ∧
 storeL (mkS' A2 x72) h70 n_9 0 fun h73 =>
 ldAg A2 h73 n_9 fun x74 =>
 storeL (mkS' A2 x74) h73 t8 0 fun h75 =>
 ldAg A2 h75 t8 fun x76 =>
 Q (agS A2 x76) h75) (
 ifB (n19 == (4 : Int)) (
 ldAg A2 h18 n_9 fun x77 =>
 callP P n_ref14_Row_window #[(.pointer r_0), (agS A2 x77)] h18 fun v79 h78 =>
 exS A2 fun x80 => v79 = (agS A2 x80) ∧
 storeL (mkS' A2 x80) h78 n_9 0 fun h81 =>
 ldAg A2 h81 n_9 fun x82 =>
 storeL (mkS' A2 x82) h81 t8 0 fun h83 =>
 ldAg A2 h83 t8 fun x84 =>
 Q (agS A2 x84) h83) (
 ifB (n19 == (12 : Int)) (
 callInt P .i64 n_ref14_Row_Next #[(.pointer r_0), (.int .i64 (5 : Int))] h18 fun n86 h85 =>
 stI h85 (Addr.add n_9 3) (.int .i64 (IntKind.wrap .i64 ((1 : Int) + n86))) fun h87 =>
 ldAg A2 h87 n_9 fun x88 =>
 storeL (mkS' A2 x88) h87 t8 0 fun h89 =>
 ldAg A2 h89 t8 fun x90 =>
 Q (agS A2 x90) h89) (
 ifB (n19 == (9 : Int)) (
 callInt P .i64 n_ref14_Row_Next #[(.pointer r_0), (.int .i64 (200 : Int))] h18 fun n92 h91 =>
 stI h91 (Addr.add n_9 12) (.int .i64 (IntKind.wrap .i64 (n92 - (150 : Int)))) fun h93 =>
 ldInt .i64 h93 (Addr.add n_9 12) fun n94 =>
 callInt P .i64 n_ref14_Row_Next #[(.pointer r_0), (.int .i64 (300 : Int))] h93 fun n96 h95 =>
 cellH h95 (Addr.add n_9 12) = some (.int .i64 n94) ∧
 stI h95 (Addr.add n_9 13) (.int .i64 (IntKind.wrap .i64 (n94 + n96))) fun h97 =>
 ldAg A2 h97 n_9 fun x98 =>
 storeL (mkS' A2 x98) h97 t8 0 fun h99 =>
 ldAg A2 h99 t8 fun x100 =>
 Q (agS A2 x100) h99) (
 ifB (n19 == (10 : Int)) (
 callInt P .i64 n_ref14_Row_Next #[(.pointer r_0), (.int .i64 (32768 : Int))] h18 fun n102 h101 =>
 stI h101 (Addr.add n_9 10) (.int .i64 n102) fun h103 =>
 callInt P .i64 n_ref14_Row_Next #[(.pointer r_0), (.int .i64 (20 : Int))] h103 fun n105 h104 =>
 stI h104 (Addr.add n_9 11) (.int .i64 n105) fun h106 =>
 ldAg A2 h106 n_9 fun x107 =>
 storeL (mkS' A2 x107) h106 t8 0 fun h108 =>
 ldAg A2 h108 t8 fun x109 =>
 Q (agS A2 x109) h108) (
 ldAg A2 h18 n_9 fun x110 =>
 storeL (mkS' A2 x110) h18 t8 0 fun h111 =>
 ldAg A2 h111 t8 fun x112 =>
 Q (agS A2 x112) h111))))))))
def ref14_Made_j18 (Q : Value → Heap → Prop) (r_0 : Option Addr) (still_3 : Bool) (t8 : Addr) (n_9 : Addr) (w_10 : Int) (h9 : Heap) : Prop :=
 newI h9 (.cells #[(.int .i64 (0 : Int)), (.int .i64 (0 : Int)), (.int .i64 (0 : Int)), (.int .i64 (0 : Int)), (.int .i64 (0 : Int)), (.int .i64 (0 : Int)), (.int .i64 (0 : Int)), (.int .i64 (0 : Int)), (.int .i64 (0 : Int)), (.int .i64 (0 : Int)), (.int .i64 (0 : Int)), (.int .i64 (0 : Int))] 100 (0, 0)) fun b10 h11 =>
 storeL [(.int .i64 (1 : Int)), (.int .i64 (2 : Int)), (.int .i64 (3 : Int)), (.int .i64 (4 : Int)), (.int .i64 (12 : Int)), (.int .i64 (1 : Int)), (.int .i64 (5 : Int)), (.int .i64 (6 : Int)), (.int .i64 (9 : Int)), (.int .i64 (10 : Int)), (.int .i64 (11 : Int)), (.int .i64 (6 : Int))] h11 ⟨b10, 0, none⟩ 0 fun h12 =>
 callInt P .i64 n_ref14_Row_Next #[(.pointer r_0), (.int .i64 (12 : Int))] h12 fun n14 h13 =>
 ∃ J15 : (Option Addr × Addr × Addr × Int × Addr × Int × Unit) → Heap → Prop, (∀ s h, J15 s h → ref14_Made_j22 Q s.1 s.2.1 s.2.2.1 s.2.2.2.1 s.2.2.2.2.1 s.2.2.2.2.2.1 h) ∧
 ifB still_3 (
 callInt P .i64 n_ref14_Row_Next #[(.pointer r_0), (.int .i64 (5 : Int))] h13 fun n114 h113 =>
 J15 (r_0, t8, n_9, w_10, ⟨b10, 0, none⟩, (IntKind.wrap .i64 ((7 : Int) + n114)), ()) h113) (
 J15 (r_0, t8, n_9, w_10, ⟨b10, 0, none⟩, n14, ()) h13)
def ref14_Made_l8 (Q : Value → Heap → Prop) (J8 : (Option Addr × Bool × Addr × Addr × Int × Unit) → Heap → Prop) (K1 : Y25 → Heap → Prop) (r_0 : Option Addr) (in_1_p : Option Addr) (in_1_n : Nat) (in_1_c : Nat) (widths_2_p : Option Addr) (widths_2_n : Nat) (widths_2_c : Nat) (still_3 : Bool) (t8 : Addr) (n_9 : Addr) (w_10 : Int) (sum_11 : Int) (same_12 : Bool) (i_13 : Int) (h116 : Heap) : Prop :=
 ifB (decide (i_13 < ((widths_2_n : Nat) : Int))) (
 idxI widths_2_p i_13 widths_2_n fun a117 =>
 ldInt .i64 h116 (Addr.add a117 (i_13.toNat * 1)) fun n118 =>
 ifB same_12 (
 idxI widths_2_p i_13 widths_2_n fun a119 =>
 ldInt .i64 h116 (Addr.add a119 (i_13.toNat * 1)) fun n120 =>
 K1 (r_0, (in_1_p, in_1_n, in_1_c), (widths_2_p, widths_2_n, widths_2_c), still_3, t8, n_9, w_10, (IntKind.wrap .i64 (sum_11 + n118)), (n120 == w_10), (IntKind.wrap .i64 (i_13 + (1 : Int))), ()) h116) (
 K1 (r_0, (in_1_p, in_1_n, in_1_c), (widths_2_p, widths_2_n, widths_2_c), still_3, t8, n_9, w_10, (IntKind.wrap .i64 (sum_11 + n118)), false, (IntKind.wrap .i64 (i_13 + (1 : Int))), ()) h116)) (
 ifB same_12 (
 ifB (decide (sum_11 > (16 : Int))) (
 stI h116 n_9 (.int .i64 (7 : Int)) fun h121 =>
 ldAg A2 h121 n_9 fun x122 =>
 storeL (mkS' A2 x122) h121 t8 0 fun h123 =>
 ldAg A2 h123 t8 fun x124 =>
 Q (agS A2 x124) h123) (
 callInt P .i64 n_ref14_Row_Next #[(.pointer r_0), (.int .i64 (2 : Int))] h116 fun n126 h125 =>
 ifB (n126 == (0 : Int)) (
 stI h125 n_9 (.int .i64 (7 : Int)) fun h127 =>
 ldAg A2 h127 n_9 fun x128 =>
 storeL (mkS' A2 x128) h127 t8 0 fun h129 =>
 ldAg A2 h129 t8 fun x130 =>
 Q (agS A2 x130) h129) (
 ifB (decide (sum_11 ≤ (16 : Int))) (
 ldAg A2 h125 n_9 fun x131 =>
 storeL (mkS' A2 x131) h125 t8 0 fun h132 =>
 ldAg A2 h132 t8 fun x133 =>
 Q (agS A2 x133) h132) (
 bndI (1 : Int) in_1_c fun l134 =>
 stI h125 (Addr.add n_9 1) (.slice (if in_1_c = 0 then in_1_p else Option.map (fun a => a.add (0 * 1)) in_1_p) (l134 - 0) (in_1_c - 0)) fun h135 =>
 J8 (r_0, still_3, t8, n_9, w_10, ()) h135)))) (
 ifB (decide (sum_11 ≤ (16 : Int))) (
 ldAg A2 h116 n_9 fun x136 =>
 storeL (mkS' A2 x136) h116 t8 0 fun h137 =>
 ldAg A2 h137 t8 fun x138 =>
 Q (agS A2 x138) h137) (
 bndI (1 : Int) in_1_c fun l139 =>
 stI h116 (Addr.add n_9 1) (.slice (if in_1_c = 0 then in_1_p else Option.map (fun a => a.add (0 * 1)) in_1_p) (l139 - 0) (in_1_c - 0)) fun h140 =>
 J8 (r_0, still_3, t8, n_9, w_10, ()) h140)))
def ref14_Made (r_0 : Option Addr) (in_1_p : Option Addr) (in_1_n : Nat) (in_1_c : Nat) (widths_2_p : Option Addr) (widths_2_n : Nat) (widths_2_c : Nat) (still_3 : Bool) (h : Heap) (Q : Value → Heap → Prop) : Prop :=
 newI h (.cells (mkS' A2 (zT A2)).toArray 25 (0, 0)) fun b1 h2 =>
 newI h2 (.cells (mkS' A2 (zT A2)).toArray 25 (0, 0)) fun b3 h4 =>
 storeL [(.int .i64 (0 : Int)), (.slice in_1_p in_1_n in_1_c), (.int .i64 (0 : Int)), (.int .i64 (0 : Int)), (.int .i64 (0 : Int)), (.int .i64 (0 : Int)), (.int .i64 (0 : Int)), (.int .i64 (0 : Int)), (.slice none 0 0), (.slice none 0 0), (.int .i64 (0 : Int)), (.int .i64 (0 : Int)), (.int .i64 (0 : Int)), (.int .i64 (0 : Int)), (.int .i64 (0 : Int))] h4 ⟨b3, 0, none⟩ 0 fun h5 =>
 idxI widths_2_p (0 : Int) widths_2_n fun a6 =>
 ldInt .i64 h5 (Addr.add a6 ((0 : Int).toNat * 1)) fun n7 =>
 ∃ J8 : (Option Addr × Bool × Addr × Addr × Int × Unit) → Heap → Prop, (∀ s h, J8 s h → ref14_Made_j18 Q s.1 s.2.1 s.2.2.1 s.2.2.2.1 s.2.2.2.2.1 h) ∧
 ifB (decide (((in_1_n : Nat) : Int) > (1 : Int))) (
 stI h5 ⟨b3, 0, none⟩ (.int .i64 (8 : Int)) fun h115 =>
 LoopS (S := Y25) (fun K1 s h => ref14_Made_l8 Q J8 K1 s.1 s.2.1.1 s.2.1.2.1 s.2.1.2.2 s.2.2.1.1 s.2.2.1.2.1 s.2.2.1.2.2 s.2.2.2.1 s.2.2.2.2.1 s.2.2.2.2.2.1 s.2.2.2.2.2.2.1 s.2.2.2.2.2.2.2.1 s.2.2.2.2.2.2.2.2.1 s.2.2.2.2.2.2.2.2.2.1 h) (r_0, (in_1_p, in_1_n, in_1_c), (widths_2_p, widths_2_n, widths_2_c), still_3, ⟨b1, 0, none⟩, ⟨b3, 0, none⟩, n7, (0 : Int), true, (0 : Int), ()) h115) (
 J8 (r_0, still_3, ⟨b1, 0, none⟩, ⟨b3, 0, none⟩, n7, ()) h5)
noncomputable def tab_ref14_Made : Tab := { sch := lookT .done [(44, (ones [0, 2] (.early 1 (.alt 3 (ones [4, 5] (.alt 6 .done .stop)) .stop))))], lp := lookT [] [(8, [(0, .sc (.ptr)), (1, .sc (.slice)), (2, .sc (.slice)), (3, .sc (.bool)), (8, .sc (.adr)), (9, .sc (.adr)), (10, .sc (.int .i64)), (11, .sc (.int .i64)), (12, .sc (.bool)), (13, .sc (.int .i64))])], jn := lookT none [(18, some [(0, .sc (.ptr)), (3, .sc (.bool)), (8, .sc (.adr)), (9, .sc (.adr)), (10, .sc (.int .i64))]), (22, some [(0, .sc (.ptr)), (8, .sc (.adr)), (9, .sc (.adr)), (10, .sc (.int .i64)), (14, .sc (.adr)), (15, .sc (.int .i64))])] }
theorem eq_ref14_Made (r_0 : Option Addr) (in_1_p : Option Addr) (in_1_n : Nat) (in_1_c : Nat) (widths_2_p : Option Addr) (widths_2_n : Nat) (widths_2_c : Nat) (still_3 : Bool) (h : Heap) (Q : Value → Heap → Prop) : fnI P Tryd.f71 tab_ref14_Made [(.pointer r_0), (.slice in_1_p in_1_n in_1_c), (.slice widths_2_p widths_2_n widths_2_c), (.bool still_3)] h Q = ref14_Made r_0 in_1_p in_1_n in_1_c widths_2_p widths_2_n widths_2_c still_3 h Q := by kernel_rfl
theorem ok_ref14_Made : fnOk P Tryd.f71 tab_ref14_Made = true := by kernel_rfl
theorem call_ref14_Made (r_0 : Option Addr) (in_1_p : Option Addr) (in_1_n : Nat) (in_1_c : Nat) (widths_2_p : Option Addr) (widths_2_n : Nat) (widths_2_c : Nat) (still_3 : Bool) {h : Heap} {Q : Value → Heap → Prop} (H : ref14_Made r_0 in_1_p in_1_n in_1_c widths_2_p widths_2_n widths_2_c still_3 h Q) : callP P n_ref14_Made #[(.pointer r_0), (.slice in_1_p in_1_n in_1_c), (.slice widths_2_p widths_2_n widths_2_c), (.bool still_3)] h Q :=
 @callP_of P n_ref14_Made Tryd.f71 tab_ref14_Made [(.pointer r_0), (.slice in_1_p in_1_n in_1_c), (.slice widths_2_p widths_2_n widths_2_c), (.bool still_3)] h Q mixed Tryd.func71 Tryd.call71 ok_ref14_Made (Eq.mpr (eq_ref14_Made r_0 in_1_p in_1_n in_1_c widths_2_p widths_2_n widths_2_c still_3 h Q) H)

/-! ### earshot/earshotref15.rate: function 72 -/
def ref15_rate_l3 (Q : Value → Heap → Prop) (K1 : ((Option Addr × Nat × Nat) × Addr × Int × Int × Unit) → Heap → Prop) (rates_1_p : Option Addr) (rates_1_n : Nat) (rates_1_c : Nat) (n_2 : Addr) (r_5 : Int) (i_6 : Int) (h5 : Heap) : Prop :=
 ifB (decide (i_6 < ((rates_1_n : Nat) : Int))) (
 idxI rates_1_p i_6 rates_1_n fun a6 =>
 ldInt .i64 h5 (Addr.add a6 (i_6.toNat * 1)) fun n7 =>
 ifB (n7 != r_5) (
 Q (.int .i64 (-1 : Int)) h5) (
 K1 ((rates_1_p, rates_1_n, rates_1_c), n_2, r_5, (IntKind.wrap .i64 (i_6 + (1 : Int))), ()) h5)) (
 ldInt .i64 h5 n_2 fun n8 =>
 callBool P n_ref14_Windows #[(.int .i64 n8)] h5 fun b10 h9 =>
 ifB (r_5 == (0 : Int)) (
 ifB b10 (
 Q (.int .i64 (-1 : Int)) h9) (
 ldInt .i64 h9 n_2 fun n11 =>
 ifB (n11 == (5 : Int)) (
 Q (.int .i64 (-1 : Int)) h9) (
 ldInt .i64 h9 n_2 fun n12 =>
 ifB (n12 == (5 : Int)) (
 Q (.int .i64 (0 : Int)) h9) (
 ldAg A2 h9 n_2 fun x13 =>
 callInt P .i64 n_ref14_Step #[(agS A2 x13)] h9 fun n15 h14 =>
 Q (.int .i64 (IntKind.wrap .i64 (r_5 * n15))) h14)))) (
 ldInt .i64 h9 n_2 fun n16 =>
 ifB (n16 == (5 : Int)) (
 Q (.int .i64 (0 : Int)) h9) (
 ldAg A2 h9 n_2 fun x17 =>
 callInt P .i64 n_ref14_Step #[(agS A2 x17)] h9 fun n19 h18 =>
 Q (.int .i64 (IntKind.wrap .i64 (r_5 * n19))) h18)))
def ref15_rate (n_0 : TS A2) (rates_1_p : Option Addr) (rates_1_n : Nat) (rates_1_c : Nat) (h : Heap) (Q : Value → Heap → Prop) : Prop :=
 newI h (.cells (mkS' A2 n_0).toArray 25 (0, 0)) fun b1 h2 =>
 idxI rates_1_p (0 : Int) rates_1_n fun a3 =>
 ldInt .i64 h2 (Addr.add a3 ((0 : Int).toNat * 1)) fun n4 =>
 LoopS (S := ((Option Addr × Nat × Nat) × Addr × Int × Int × Unit)) (fun K1 s h => ref15_rate_l3 Q K1 s.1.1 s.1.2.1 s.1.2.2 s.2.1 s.2.2.1 s.2.2.2.1 h) ((rates_1_p, rates_1_n, rates_1_c), ⟨b1, 0, none⟩, n4, (0 : Int), ()) h2
noncomputable def tab_ref15_rate : Tab := { sch := lookT .done [], lp := lookT [] [(3, [(1, .sc (.slice)), (2, .sc (.adr)), (5, .sc (.int .i64)), (6, .sc (.int .i64))])], jn := lookT none [] }
theorem eq_ref15_rate (n_0 : TS A2) (rates_1_p : Option Addr) (rates_1_n : Nat) (rates_1_c : Nat) (h : Heap) (Q : Value → Heap → Prop) : fnI P Tryd.f72 tab_ref15_rate [(agS A2 n_0), (.slice rates_1_p rates_1_n rates_1_c)] h Q = ref15_rate n_0 rates_1_p rates_1_n rates_1_c h Q := by kernel_rfl
theorem ok_ref15_rate : fnOk P Tryd.f72 tab_ref15_rate = true := by kernel_rfl
theorem call_ref15_rate (n_0 : TS A2) (rates_1_p : Option Addr) (rates_1_n : Nat) (rates_1_c : Nat) {h : Heap} {Q : Value → Heap → Prop} (H : ref15_rate n_0 rates_1_p rates_1_n rates_1_c h Q) : callP P n_ref15_rate #[(agS A2 n_0), (.slice rates_1_p rates_1_n rates_1_c)] h Q :=
 @callP_of P n_ref15_rate Tryd.f72 tab_ref15_rate [(agS A2 n_0), (.slice rates_1_p rates_1_n rates_1_c)] h Q mixed Tryd.func72 Tryd.call72 ok_ref15_rate (Eq.mpr (eq_ref15_rate n_0 rates_1_p rates_1_n rates_1_c h Q) H)

/-! ### earshot/earshotref15.turned: function 73 -/
def ref15_turned_l9 (Q : Value → Heap → Prop) (K1 : (Addr × Addr × Int × Addr × Int × Unit) → Heap → Prop) (K2 : Y26 → Heap → Prop) (g_1 : Addr) (t2 : Addr) (n_3 : Int) (out_4 : Addr) (i_5 : Int) (x_6 : Addr) (in_7_p : Option Addr) (in_7_n : Nat) (in_7_c : Nat) (j_8 : Int) (h25 : Heap) : Prop :=
 ifB (decide (j_8 < ((in_7_n : Nat) : Int))) (
 idxI in_7_p j_8 in_7_n fun a26 =>
 ldInt .i64 h25 (Addr.add a26 (j_8.toNat * 1)) fun n27 =>
 ifB (decide (n27 > (0 : Int))) (
 idxI in_7_p j_8 in_7_n fun a28 =>
 ldInt .i64 h25 (Addr.add a28 (j_8.toNat * 1)) fun n29 =>
 idxI in_7_p j_8 in_7_n fun a30 =>
 stI h25 (Addr.add a30 (j_8.toNat * 1)) (.int .i64 (IntKind.wrap .i64 ((IntKind.wrap .i64 (n_3 + (1 : Int))) - n29))) fun h31 =>
 K2 (g_1, t2, n_3, out_4, i_5, x_6, (in_7_p, in_7_n, in_7_c), (IntKind.wrap .i64 (j_8 + (1 : Int))), ()) h31) (
 K2 (g_1, t2, n_3, out_4, i_5, x_6, (in_7_p, in_7_n, in_7_c), (IntKind.wrap .i64 (j_8 + (1 : Int))), ()) h25)) (
 stI h25 (Addr.add x_6 1) (.slice in_7_p in_7_n in_7_c) fun h32 =>
 ldSlice h32 (Addr.add out_4 3) fun p33 l33 c33 =>
 ldAg A2 h32 x_6 fun x34 =>
 newI h32 (.cells (mkS' A2 x34).toArray 25 (0, 0)) fun b35 h36 =>
 appI 25 15 168 (agS A2 (zT A2)) p33 l33 c33 (some ⟨b35, 0, none⟩) 1 h36 fun p37 l37 c37 h38 =>
 stI h38 (Addr.add out_4 3) (.slice p37 l37 c37) fun h39 =>
 K1 (g_1, t2, n_3, out_4, (IntKind.wrap .i64 (i_5 - (1 : Int))), ()) h39)
def ref15_turned_l4 (Q : Value → Heap → Prop) (K1 : (Addr × Addr × Int × Addr × Int × Unit) → Heap → Prop) (g_1 : Addr) (t2 : Addr) (n_3 : Int) (out_4 : Addr) (i_5 : Int) (h13 : Heap) : Prop :=
 ifB (decide (i_5 ≥ (1 : Int))) (
 ldSlice h13 (Addr.add g_1 3) fun p14 l14 c14 =>
 idxI p14 (IntKind.wrap .i64 (i_5 - (1 : Int))) l14 fun a15 =>
 ldAg A2 h13 (Addr.add a15 ((IntKind.wrap .i64 (i_5 - (1 : Int))).toNat * 15)) fun x16 =>
 newI h13 (.cells (mkS' A2 (zT A2)).toArray 25 (0, 0)) fun b17 h18 =>
 storeL (mkS' A2 x16) h18 ⟨b17, 0, none⟩ 0 fun h19 =>
 newI h19 (.cells #[] 3 (0, 0)) fun b20 h21 =>
 ldSlice h21 ⟨b17, 1, none⟩ fun p22 l22 c22 =>
 appI 3 1 8 (.int .i64 (0 : Int)) (some ⟨b20, 0, none⟩) 0 0 p22 l22 h21 fun p23 l23 c23 h24 =>
 LoopS (S := Y26) (fun K2 s h => ref15_turned_l9 Q K1 K2 s.1 s.2.1 s.2.2.1 s.2.2.2.1 s.2.2.2.2.1 s.2.2.2.2.2.1 s.2.2.2.2.2.2.1.1 s.2.2.2.2.2.2.1.2.1 s.2.2.2.2.2.2.1.2.2 s.2.2.2.2.2.2.2.1 h) (g_1, t2, n_3, out_4, i_5, ⟨b17, 0, none⟩, (p23, l23, c23), (0 : Int), ()) h24) (
 ldAg A1 h13 out_4 fun x40 =>
 storeL (mkS' A1 x40) h13 t2 0 fun h41 =>
 ldAg A1 h41 t2 fun x42 =>
 Q (agS A1 x42) h41)
def ref15_turned (g_0 : TS A1) (h : Heap) (Q : Value → Heap → Prop) : Prop :=
 newI h (.cells (mkS' A1 g_0).toArray 28 (0, 0)) fun b1 h2 =>
 newI h2 (.cells (mkS' A1 (zT A1)).toArray 28 (0, 0)) fun b3 h4 =>
 ldSlice h4 ⟨b1, 3, none⟩ fun p5 l5 c5 =>
 ldInt .i64 h4 ⟨b1, 0, none⟩ fun n6 =>
 ldInt .i64 h4 ⟨b1, 1, none⟩ fun n7 =>
 ldInt .i64 h4 ⟨b1, 2, none⟩ fun n8 =>
 ldInt .i64 h4 ⟨b1, 4, none⟩ fun n9 =>
 newI h4 (.cells (mkS' A1 (zT A1)).toArray 28 (0, 0)) fun b10 h11 =>
 storeL [(.int .i64 n6), (.int .i64 n7), (.int .i64 n8), (.slice none 0 0), (.int .i64 (IntKind.wrap .i64 ((IntKind.wrap .i64 (((l5 : Nat) : Int) + (1 : Int))) - n9)))] h11 ⟨b10, 0, none⟩ 0 fun h12 =>
 LoopS (S := (Addr × Addr × Int × Addr × Int × Unit)) (fun K1 s h => ref15_turned_l4 Q K1 s.1 s.2.1 s.2.2.1 s.2.2.2.1 s.2.2.2.2.1 h) (⟨b1, 0, none⟩, ⟨b3, 0, none⟩, ((l5 : Nat) : Int), ⟨b10, 0, none⟩, ((l5 : Nat) : Int), ()) h12
noncomputable def tab_ref15_turned : Tab := { sch := lookT .done [], lp := lookT [] [(4, [(1, .sc (.adr)), (2, .sc (.adr)), (3, .sc (.int .i64)), (4, .sc (.adr)), (5, .sc (.int .i64))]), (9, [(1, .sc (.adr)), (2, .sc (.adr)), (3, .sc (.int .i64)), (4, .sc (.adr)), (5, .sc (.int .i64)), (6, .sc (.adr)), (7, .sc (.slice)), (8, .sc (.int .i64))])], jn := lookT none [] }
theorem eq_ref15_turned (g_0 : TS A1) (h : Heap) (Q : Value → Heap → Prop) : fnI P Tryd.f73 tab_ref15_turned [(agS A1 g_0)] h Q = ref15_turned g_0 h Q := by kernel_rfl
theorem ok_ref15_turned : fnOk P Tryd.f73 tab_ref15_turned = true := by kernel_rfl
theorem call_ref15_turned (g_0 : TS A1) {h : Heap} {Q : Value → Heap → Prop} (H : ref15_turned g_0 h Q) : callP P n_ref15_turned #[(agS A1 g_0)] h Q :=
 @callP_of P n_ref15_turned Tryd.f73 tab_ref15_turned [(agS A1 g_0)] h Q mixed Tryd.func73 Tryd.call73 ok_ref15_turned (Eq.mpr (eq_ref15_turned g_0 h Q) H)

/-! ### earshot/earshotref15.Made: function 53 -/
def ref15_Made_j23 (Q : Value → Heap → Prop) (K1 : Y27 → Heap → Prop) (t2 : Addr) (r_3 : Addr) (g_4 : Addr) (back_5 : Bool) (many_6 : Int) (widths_7_p : Option Addr) (widths_7_n : Nat) (widths_7_c : Nat) (rates_8_p : Option Addr) (rates_8_n : Nat) (rates_8_c : Nat) (i_9 : Int) (a_10 : Int) (in_11_p : Option Addr) (in_11_n : Nat) (in_11_c : Nat) (ws_12_p : Option Addr) (ws_12_n : Nat) (ws_12_c : Nat) (h39 : Heap) : Prop :=
 idxI rates_8_p a_10 rates_8_n fun a40 =>
 ldInt .i64 h39 (Addr.add a40 (a_10.toNat * 1)) fun n41 =>
 callP P n_ref14_Made #[(.pointer (some r_3)), (.slice in_11_p in_11_n in_11_c), (.slice ws_12_p ws_12_n ws_12_c), (.bool (n41 == (0 : Int)))] h39 fun v43 h42 =>
 exS A2 fun x44 => v43 = (agS A2 x44) ∧
 newI h42 (.cells (mkS' A2 (zT A2)).toArray 25 (0, 0)) fun b45 h46 =>
 storeL (mkS' A2 x44) h46 ⟨b45, 0, none⟩ 0 fun h47 =>
 ldSlice h47 (Addr.add g_4 3) fun p48 l48 c48 =>
 ldAg A2 h47 ⟨b45, 0, none⟩ fun x49 =>
 newI h47 (.cells (mkS' A2 x49).toArray 25 (0, 0)) fun b50 h51 =>
 appI 25 15 168 (agS A2 (zT A2)) p48 l48 c48 (some ⟨b50, 0, none⟩) 1 h51 fun p52 l52 c52 h53 =>
 stI h53 (Addr.add g_4 3) (.slice p52 l52 c52) fun h54 =>
 ldAg A2 h54 ⟨b45, 0, none⟩ fun x55 =>
 ldSlice h54 ⟨b45, 1, none⟩ fun p56 l56 c56 =>
 bndI ((l56 : Nat) : Int) ws_12_c fun l57 =>
 callInt P .i64 n_ref14_Width #[(agS A2 x55), (.slice (if ws_12_c = 0 then ws_12_p else Option.map (fun a => a.add (0 * 1)) ws_12_p) (l57 - 0) (ws_12_c - 0))] h54 fun n59 h58 =>
 newI h58 (.cells #[(.int .i64 n59)] 3 (0, 0)) fun b60 h61 =>
 appI 3 1 8 (.int .i64 (0 : Int)) widths_7_p widths_7_n widths_7_c (some ⟨b60, 0, none⟩) 1 h61 fun p62 l62 c62 h63 =>
 holdW (watchL 0 ⟨b45, 0, none⟩ (mkS' A2 x55) 0) h63 (
 idxI rates_8_p a_10 rates_8_n fun a64 =>
 ldAg A2 h63 ⟨b45, 0, none⟩ fun x65 =>
 ldInt .i64 h63 (Addr.add a64 (a_10.toNat * 1)) fun n66 =>
 newI h63 (.cells #[(.int .i64 n66)] 3 (0, 0)) fun b67 h68 =>
 callInt P .i64 n_ref15_rate #[(agS A2 x65), (.slice (some ⟨b67, 0, none⟩) 1 1)] h68 fun n70 h69 =>
 newI h69 (.cells #[(.int .i64 n70)] 3 (0, 0)) fun b71 h72 =>
 appI 3 1 8 (.int .i64 (0 : Int)) rates_8_p rates_8_n rates_8_c (some ⟨b71, 0, none⟩) 1 h72 fun p73 l73 c73 h74 =>
 holdW (watchL 0 ⟨b45, 0, none⟩ (mkS' A2 x65) 0) h74 (
 K1 (t2, r_3, g_4, back_5, many_6, (p62, l62, c62), (p73, l73, c73), (IntKind.wrap .i64 (i_9 + (1 : Int))), ()) h74))
def ref15_Made_j17 (Q : Value → Heap → Prop) (K1 : Y27 → Heap → Prop) (t2 : Addr) (r_3 : Addr) (g_4 : Addr) (back_5 : Bool) (many_6 : Int) (widths_7_p : Option Addr) (widths_7_n : Nat) (widths_7_c : Nat) (rates_8_p : Option Addr) (rates_8_n : Nat) (rates_8_c : Nat) (i_9 : Int) (a_10 : Int) (h29 : Heap) : Prop :=
 newI h29 (.cells #[(.int .i64 a_10)] 3 (0, 0)) fun b30 h31 =>
 idxI widths_7_p a_10 widths_7_n fun a32 =>
 ldInt .i64 h31 (Addr.add a32 (a_10.toNat * 1)) fun n33 =>
 newI h31 (.cells #[(.int .i64 n33)] 3 (0, 0)) fun b34 h35 =>
 callInt P .i64 n_ref14_Row_Next #[(.pointer (some r_3)), (.int .i64 i_9)] h35 fun n37 h36 =>
 ∃ J38 : Y29 → Heap → Prop, (∀ s h, J38 s h → ref15_Made_j23 Q K1 s.1 s.2.1 s.2.2.1 s.2.2.2.1 s.2.2.2.2.1 s.2.2.2.2.2.1.1 s.2.2.2.2.2.1.2.1 s.2.2.2.2.2.1.2.2 s.2.2.2.2.2.2.1.1 s.2.2.2.2.2.2.1.2.1 s.2.2.2.2.2.2.1.2.2 s.2.2.2.2.2.2.2.1 s.2.2.2.2.2.2.2.2.1 s.2.2.2.2.2.2.2.2.2.1.1 s.2.2.2.2.2.2.2.2.2.1.2.1 s.2.2.2.2.2.2.2.2.2.1.2.2 s.2.2.2.2.2.2.2.2.2.2.1.1 s.2.2.2.2.2.2.2.2.2.2.1.2.1 s.2.2.2.2.2.2.2.2.2.2.1.2.2 h) ∧
 callInt P .i64 n_ref14_Row_Next #[(.pointer (some r_3)), (.int .i64 (3 : Int))] h36 fun n76 h75 =>
 ifB (n76 == (0 : Int)) (
 idxI rates_8_p n37 rates_8_n fun a77 =>
 idxI rates_8_p a_10 rates_8_n fun a78 =>
 ldInt .i64 h75 (Addr.add a77 (n37.toNat * 1)) fun n79 =>
 ldInt .i64 h75 (Addr.add a78 (a_10.toNat * 1)) fun n80 =>
 ifB (n79 == n80) (
 newI h75 (.cells #[(.int .i64 n37)] 3 (0, 0)) fun b81 h82 =>
 appI 3 1 8 (.int .i64 (0 : Int)) (some ⟨b30, 0, none⟩) 1 1 (some ⟨b81, 0, none⟩) 1 h82 fun p83 l83 c83 h84 =>
 idxI widths_7_p n37 widths_7_n fun a85 =>
 ldInt .i64 h84 (Addr.add a85 (n37.toNat * 1)) fun n86 =>
 newI h84 (.cells #[(.int .i64 n86)] 3 (0, 0)) fun b87 h88 =>
 appI 3 1 8 (.int .i64 (0 : Int)) (some ⟨b34, 0, none⟩) 1 1 (some ⟨b87, 0, none⟩) 1 h88 fun p89 l89 c89 h90 =>
 J38 (t2, r_3, g_4, back_5, many_6, (widths_7_p, widths_7_n, widths_7_c), (rates_8_p, rates_8_n, rates_8_c), i_9, a_10, (p83, l83, c83), (p89, l89, c89), ()) h90) (
 J38 (t2, r_3, g_4, back_5, many_6, (widths_7_p, widths_7_n, widths_7_c), (rates_8_p, rates_8_n, rates_8_c), i_9, a_10, (some ⟨b30, 0, none⟩, 1, 1), (some ⟨b34, 0, none⟩, 1, 1), ()) h75)) (
 J38 (t2, r_3, g_4, back_5, many_6, (widths_7_p, widths_7_n, widths_7_c), (rates_8_p, rates_8_n, rates_8_c), i_9, a_10, (some ⟨b30, 0, none⟩, 1, 1), (some ⟨b34, 0, none⟩, 1, 1), ()) h75)
def ref15_Made_l12 (Q : Value → Heap → Prop) (K1 : Y27 → Heap → Prop) (t2 : Addr) (r_3 : Addr) (g_4 : Addr) (back_5 : Bool) (many_6 : Int) (widths_7_p : Option Addr) (widths_7_n : Nat) (widths_7_c : Nat) (rates_8_p : Option Addr) (rates_8_n : Nat) (rates_8_c : Nat) (i_9 : Int) (h27 : Heap) : Prop :=
 ifB (decide (i_9 ≤ many_6)) (
 ∃ J28 : Y28 → Heap → Prop, (∀ s h, J28 s h → ref15_Made_j17 Q K1 s.1 s.2.1 s.2.2.1 s.2.2.2.1 s.2.2.2.2.1 s.2.2.2.2.2.1.1 s.2.2.2.2.2.1.2.1 s.2.2.2.2.2.1.2.2 s.2.2.2.2.2.2.1.1 s.2.2.2.2.2.2.1.2.1 s.2.2.2.2.2.2.1.2.2 s.2.2.2.2.2.2.2.1 s.2.2.2.2.2.2.2.2.1 h) ∧
 callInt P .i64 n_ref14_Row_Next #[(.pointer (some r_3)), (.int .i64 (3 : Int))] h27 fun n92 h91 =>
 ifB (n92 == (0 : Int)) (
 callInt P .i64 n_ref14_Row_Next #[(.pointer (some r_3)), (.int .i64 i_9)] h91 fun n94 h93 =>
 J28 (t2, r_3, g_4, back_5, many_6, (widths_7_p, widths_7_n, widths_7_c), (rates_8_p, rates_8_n, rates_8_c), i_9, n94, ()) h93) (
 J28 (t2, r_3, g_4, back_5, many_6, (widths_7_p, widths_7_n, widths_7_c), (rates_8_p, rates_8_n, rates_8_c), i_9, (IntKind.wrap .i64 (i_9 - (1 : Int))), ()) h91)) (
 stI h27 (Addr.add g_4 4) (.int .i64 many_6) fun h95 =>
 callInt P .i64 n_ref14_Row_Next #[(.pointer (some r_3)), (.int .i64 (5 : Int))] h95 fun n97 h96 =>
 ifB (n97 == (0 : Int)) (
 callInt P .i64 n_ref14_Row_Next #[(.pointer (some r_3)), (.int .i64 many_6)] h96 fun n99 h98 =>
 stI h98 (Addr.add g_4 4) (.int .i64 (IntKind.wrap .i64 ((1 : Int) + n99))) fun h100 =>
 ifB back_5 (
 ldAg A1 h100 g_4 fun x101 =>
 callP P n_ref15_turned #[(agS A1 x101)] h100 fun v103 h102 =>
 exS A1 fun x104 => v103 = (agS A1 x104) ∧
 storeL (mkS' A1 x104) h102 t2 0 fun h105 =>
 ldAg A1 h105 t2 fun x106 =>
 Q (agS A1 x106) h105) (
 ldAg A1 h100 g_4 fun x107 =>
 storeL (mkS' A1 x107) h100 t2 0 fun h108 =>
 ldAg A1 h108 t2 fun x109 =>
 Q (agS A1 x109) h108)) (
 ifB back_5 (
 ldAg A1 h96 g_4 fun x110 =>
 callP P n_ref15_turned #[(agS A1 x110)] h96 fun v112 h111 =>
 exS A1 fun x113 => v112 = (agS A1 x113) ∧
 storeL (mkS' A1 x113) h111 t2 0 fun h114 =>
 ldAg A1 h114 t2 fun x115 =>
 Q (agS A1 x115) h114) (
 ldAg A1 h96 g_4 fun x116 =>
 storeL (mkS' A1 x116) h96 t2 0 fun h117 =>
 ldAg A1 h117 t2 fun x118 =>
 Q (agS A1 x118) h117)))
def ref15_Made_j3 (Q : Value → Heap → Prop) (l_0_p : Option Addr) (l_0_n : Nat) (l_0_c : Nat) (t2 : Addr) (h4 : Heap) : Prop :=
 newI h4 (.cells #[(.slice l_0_p l_0_n l_0_c), (.int .i64 (0 : Int))] 93 (0, 0)) fun b5 h6 =>
 callInt P .i64 n_ref14_Row_Next #[(.pointer (some ⟨b5, 0, none⟩)), (.int .i64 (3 : Int))] h6 fun n8 h7 =>
 newI h7 (.cells (mkS' A1 (zT A1)).toArray 28 (0, 0)) fun b9 h10 =>
 storeL [(.int .i64 (IntKind.wrap .i64 ((1 : Int) + n8))), (.int .i64 (0 : Int)), (.int .i64 (0 : Int)), (.slice none 0 0), (.int .i64 (0 : Int))] h10 ⟨b9, 0, none⟩ 0 fun h11 =>
 callInt P .i64 n_ref14_Row_Next #[(.pointer (some ⟨b5, 0, none⟩)), (.int .i64 (200 : Int))] h11 fun n13 h12 =>
 stI h12 ⟨b9, 1, none⟩ (.int .i64 (IntKind.wrap .i64 ((0 : Int) - n13))) fun h14 =>
 callInt P .i64 n_ref14_Row_Next #[(.pointer (some ⟨b5, 0, none⟩)), (.int .i64 (200 : Int))] h14 fun n16 h15 =>
 stI h15 ⟨b9, 2, none⟩ (.int .i64 n16) fun h17 =>
 callInt P .i64 n_ref14_Row_Next #[(.pointer (some ⟨b5, 0, none⟩)), (.int .i64 (2 : Int))] h17 fun n19 h18 =>
 callInt P .i64 n_ref14_Row_Next #[(.pointer (some ⟨b5, 0, none⟩)), (.int .i64 (6 : Int))] h18 fun n21 h20 =>
 ldInt .i64 h20 ⟨b9, 0, none⟩ fun n22 =>
 newI h20 (.cells #[(.int .i64 n22)] 3 (0, 0)) fun b23 h24 =>
 newI h24 (.cells #[(.int .i64 (1 : Int))] 3 (0, 0)) fun b25 h26 =>
 LoopS (S := Y27) (fun K1 s h => ref15_Made_l12 Q K1 s.1 s.2.1 s.2.2.1 s.2.2.2.1 s.2.2.2.2.1 s.2.2.2.2.2.1.1 s.2.2.2.2.2.1.2.1 s.2.2.2.2.2.1.2.2 s.2.2.2.2.2.2.1.1 s.2.2.2.2.2.2.1.2.1 s.2.2.2.2.2.2.1.2.2 s.2.2.2.2.2.2.2.1 h) (t2, ⟨b5, 0, none⟩, ⟨b9, 0, none⟩, (n19 == (1 : Int)), (IntKind.wrap .i64 ((1 : Int) + n21)), (some ⟨b23, 0, none⟩, 1, 1), (some ⟨b25, 0, none⟩, 1, 1), (1 : Int), ()) h26
def ref15_Made (l_0_p : Option Addr) (l_0_n : Nat) (l_0_c : Nat) (h : Heap) (Q : Value → Heap → Prop) : Prop :=
 newI h (.cells (mkS' A1 (zT A1)).toArray 28 (0, 0)) fun b1 h2 =>
 ∃ J3 : ((Option Addr × Nat × Nat) × Addr × Unit) → Heap → Prop, (∀ s h, J3 s h → ref15_Made_j3 Q s.1.1 s.1.2.1 s.1.2.2 s.2.1 h) ∧
 ifB (decide (((l_0_n : Nat) : Int) > (240 : Int))) (
 bndI (240 : Int) l_0_c fun l119 =>
 J3 (((if l_0_c = 0 then l_0_p else Option.map (fun a => a.add (0 * 1)) l_0_p), (l119 - 0), (l_0_c - 0)), ⟨b1, 0, none⟩, ()) h2) (
 J3 ((l_0_p, l_0_n, l_0_c), ⟨b1, 0, none⟩, ()) h2)
noncomputable def tab_ref15_Made : Tab := { sch := lookT .done [(20, (ones [0] (.alt 1 (ones [2, 3, 4, 5, 6, 8, 9, 10, 7, 11, 12, 13] .done) .stop))), (25, (ones [0, 2, 3] (.early 1 (.alt 4 (ones [5, 6] (.alt 7 (.alt 8 (.alt 9 (ones [10] .done) .stop) .stop) .stop)) .stop)))), (26, (ones [0, 2, 3, 4] (.early 1 (.alt 5 (.alt 6 (.alt 7 (.alt 8 (.alt 9 (ones [10] .done) .stop) .stop) .stop) .stop) .stop))))], lp := lookT [] [(12, [(2, .sc (.adr)), (3, .sc (.adr)), (4, .sc (.adr)), (5, .sc (.bool)), (6, .sc (.int .i64)), (7, .sc (.slice)), (8, .sc (.slice)), (9, .sc (.int .i64))])], jn := lookT none [(3, some [(0, .sc (.slice)), (2, .sc (.adr))]), (17, some [(2, .sc (.adr)), (3, .sc (.adr)), (4, .sc (.adr)), (5, .sc (.bool)), (6, .sc (.int .i64)), (7, .sc (.slice)), (8, .sc (.slice)), (9, .sc (.int .i64)), (10, .sc (.int .i64))]), (23, some [(2, .sc (.adr)), (3, .sc (.adr)), (4, .sc (.adr)), (5, .sc (.bool)), (6, .sc (.int .i64)), (7, .sc (.slice)), (8, .sc (.slice)), (9, .sc (.int .i64)), (10, .sc (.int .i64)), (11, .sc (.slice)), (12, .sc (.slice))])] }
theorem eq_ref15_Made (l_0_p : Option Addr) (l_0_n : Nat) (l_0_c : Nat) (h : Heap) (Q : Value → Heap → Prop) : fnI P Tryd.f53 tab_ref15_Made [(.slice l_0_p l_0_n l_0_c)] h Q = ref15_Made l_0_p l_0_n l_0_c h Q := by kernel_rfl
theorem ok_ref15_Made : fnOk P Tryd.f53 tab_ref15_Made = true := by kernel_rfl
theorem call_ref15_Made (l_0_p : Option Addr) (l_0_n : Nat) (l_0_c : Nat) {h : Heap} {Q : Value → Heap → Prop} (H : ref15_Made l_0_p l_0_n l_0_c h Q) : callP P n_ref15_Made #[(.slice l_0_p l_0_n l_0_c)] h Q :=
 @callP_of P n_ref15_Made Tryd.f53 tab_ref15_Made [(.slice l_0_p l_0_n l_0_c)] h Q mixed Tryd.func53 Tryd.call53 ok_ref15_Made (Eq.mpr (eq_ref15_Made l_0_p l_0_n l_0_c h Q) H)

/-! ### earshot/earshotref16.Made: function 24 -/
def ref16_Made (l_0_p : Option Addr) (l_0_n : Nat) (l_0_c : Nat) (h : Heap) (Q : Value → Heap → Prop) : Prop :=
 newI h (.cells (mkS' A1 (zT A1)).toArray 28 (0, 0)) fun b1 h2 =>
 callP P n_ref15_Made #[(.slice l_0_p l_0_n l_0_c)] h2 fun v4 h3 =>
 exS A1 fun x5 => v4 = (agS A1 x5) ∧
 storeL (mkS' A1 x5) h3 ⟨b1, 0, none⟩ 0 fun h6 =>
 ldAg A1 h6 ⟨b1, 0, none⟩ fun x7 =>
 Q (agS A1 x7) h6
noncomputable def tab_ref16_Made : Tab := { sch := lookT .done [], lp := lookT [] [], jn := lookT none [] }
theorem eq_ref16_Made (l_0_p : Option Addr) (l_0_n : Nat) (l_0_c : Nat) (h : Heap) (Q : Value → Heap → Prop) : fnI P Tryd.f24 tab_ref16_Made [(.slice l_0_p l_0_n l_0_c)] h Q = ref16_Made l_0_p l_0_n l_0_c h Q := by kernel_rfl
theorem ok_ref16_Made : fnOk P Tryd.f24 tab_ref16_Made = true := by kernel_rfl
theorem call_ref16_Made (l_0_p : Option Addr) (l_0_n : Nat) (l_0_c : Nat) {h : Heap} {Q : Value → Heap → Prop} (H : ref16_Made l_0_p l_0_n l_0_c h Q) : callP P n_ref16_Made #[(.slice l_0_p l_0_n l_0_c)] h Q :=
 @callP_of P n_ref16_Made Tryd.f24 tab_ref16_Made [(.slice l_0_p l_0_n l_0_c)] h Q mixed Tryd.func24 Tryd.call24 ok_ref16_Made (Eq.mpr (eq_ref16_Made l_0_p l_0_n l_0_c h Q) H)

/-! ### earshot/earshotref21.Made: function 10 -/
def ref21_Made_l4 (Q : Value → Heap → Prop) (K1 : (Int × Addr × Addr × Int × Unit) → Heap → Prop) (more_1 : Int) (t4 : Addr) (g_5 : Addr) (i_6 : Int) (h15 : Heap) : Prop :=
 ifB (decide (i_6 < (andI .i64 (shrI more_1 1) (3 : Int)))) (
 ldInt .i64 h15 (Addr.add g_5 4) fun n16 =>
 newI h15 (.cells #[(.int .i64 n16)] 3 (0, 0)) fun b17 h18 =>
 newI h18 (.cells (mkS' A2 (zT A2)).toArray 25 (0, 0)) fun b19 h20 =>
 storeL [(.int .i64 (9 : Int)), (.slice (some ⟨b17, 0, none⟩) 1 1), (.int .i64 (0 : Int)), (.int .i64 (0 : Int)), (.int .i64 (0 : Int)), (.int .i64 (0 : Int)), (.int .i64 (0 : Int)), (.int .i64 (0 : Int)), (.slice none 0 0), (.slice none 0 0), (.int .i64 (0 : Int)), (.int .i64 (0 : Int)), (.int .i64 (-90 : Int)), (.int .i64 (700 : Int)), (.int .i64 (0 : Int))] h20 ⟨b19, 0, none⟩ 0 fun h21 =>
 nonnegI (IntKind.wrap .u64 (IntKind.wrap .i64 ((3 : Int) + i_6))) fun _ =>
 ifB ((andI .i64 (shrI more_1 (min (IntKind.wrap .u64 (IntKind.wrap .i64 ((3 : Int) + i_6))).toNat 64)) (1 : Int)) == (1 : Int)) (
 ldInt .i64 h21 (Addr.add g_5 4) fun n22 =>
 newI h21 (.cells #[(.int .i64 n22)] 3 (0, 0)) fun b23 h24 =>
 storeL [(.int .i64 (10 : Int)), (.slice (some ⟨b23, 0, none⟩) 1 1), (.int .i64 (0 : Int)), (.int .i64 (0 : Int)), (.int .i64 (0 : Int)), (.int .i64 (0 : Int)), (.int .i64 (0 : Int)), (.int .i64 (0 : Int)), (.slice none 0 0), (.slice none 0 0), (.int .i64 (21000 : Int)), (.int .i64 (14 : Int)), (.int .i64 (0 : Int)), (.int .i64 (0 : Int)), (.int .i64 (0 : Int))] h24 ⟨b19, 0, none⟩ 0 fun h25 =>
 ldSlice h25 (Addr.add g_5 3) fun p26 l26 c26 =>
 ldAg A2 h25 ⟨b19, 0, none⟩ fun x27 =>
 newI h25 (.cells (mkS' A2 x27).toArray 25 (0, 0)) fun b28 h29 =>
 appI 25 15 168 (agS A2 (zT A2)) p26 l26 c26 (some ⟨b28, 0, none⟩) 1 h29 fun p30 l30 c30 h31 =>
 stI h31 (Addr.add g_5 3) (.slice p30 l30 c30) fun h32 =>
 ldSlice h32 (Addr.add g_5 3) fun p33 l33 c33 =>
 stI h32 (Addr.add g_5 4) (.int .i64 ((l33 : Nat) : Int)) fun h34 =>
 K1 (more_1, t4, g_5, (IntKind.wrap .i64 (i_6 + (1 : Int))), ()) h34) (
 ldSlice h21 (Addr.add g_5 3) fun p35 l35 c35 =>
 ldAg A2 h21 ⟨b19, 0, none⟩ fun x36 =>
 newI h21 (.cells (mkS' A2 x36).toArray 25 (0, 0)) fun b37 h38 =>
 appI 25 15 168 (agS A2 (zT A2)) p35 l35 c35 (some ⟨b37, 0, none⟩) 1 h38 fun p39 l39 c39 h40 =>
 stI h40 (Addr.add g_5 3) (.slice p39 l39 c39) fun h41 =>
 ldSlice h41 (Addr.add g_5 3) fun p42 l42 c42 =>
 stI h41 (Addr.add g_5 4) (.int .i64 ((l42 : Nat) : Int)) fun h43 =>
 K1 (more_1, t4, g_5, (IntKind.wrap .i64 (i_6 + (1 : Int))), ()) h43)) (
 ifB ((andI .i64 more_1 (1 : Int)) == (1 : Int)) (
 ldSlice h15 (Addr.add g_5 3) fun p44 l44 c44 =>
 ldInt .i64 h15 (Addr.add g_5 4) fun n45 =>
 newI h15 (.cells #[(.int .i64 n45)] 3 (0, 0)) fun b46 h47 =>
 newI h47 (.cells #[(.int .i64 (11 : Int)), (.slice (some ⟨b46, 0, none⟩) 1 1), (.int .i64 (0 : Int)), (.int .i64 (0 : Int)), (.int .i64 (0 : Int)), (.int .i64 (0 : Int)), (.int .i64 (0 : Int)), (.int .i64 (0 : Int)), (.slice none 0 0), (.slice none 0 0), (.int .i64 (0 : Int)), (.int .i64 (0 : Int)), (.int .i64 (0 : Int)), (.int .i64 (0 : Int)), (.int .i64 (0 : Int))] 25 (0, 0)) fun b48 h49 =>
 appI 25 15 168 (agS A2 (zT A2)) p44 l44 c44 (some ⟨b48, 0, none⟩) 1 h49 fun p50 l50 c50 h51 =>
 stI h51 (Addr.add g_5 3) (.slice p50 l50 c50) fun h52 =>
 ldAg A1 h52 g_5 fun x53 =>
 storeL (mkS' A1 x53) h52 t4 0 fun h54 =>
 ldAg A1 h54 t4 fun x55 =>
 Q (agS A1 x55) h54) (
 ldAg A1 h15 g_5 fun x56 =>
 storeL (mkS' A1 x56) h15 t4 0 fun h57 =>
 ldAg A1 h57 t4 fun x58 =>
 Q (agS A1 x58) h57))
def ref21_Made (l_0_p : Option Addr) (l_0_n : Nat) (l_0_c : Nat) (more_1 : Int) (h : Heap) (Q : Value → Heap → Prop) : Prop :=
 newI h (.cells (mkS' A1 (zT A1)).toArray 28 (0, 0)) fun b1 h2 =>
 callP P n_ref16_Made #[(.slice l_0_p l_0_n l_0_c)] h2 fun v4 h3 =>
 exS A1 fun x5 => v4 = (agS A1 x5) ∧
 newI h3 (.cells (mkS' A1 (zT A1)).toArray 28 (0, 0)) fun b6 h7 =>
 storeL (mkS' A1 x5) h7 ⟨b6, 0, none⟩ 0 fun h8 =>
 newI h8 (.cells #[] 25 (0, 0)) fun b9 h10 =>
 ldSlice h10 ⟨b6, 3, none⟩ fun p11 l11 c11 =>
 appI 25 15 168 (agS A2 (zT A2)) (some ⟨b9, 0, none⟩) 0 0 p11 l11 h10 fun p12 l12 c12 h13 =>
 stI h13 ⟨b6, 3, none⟩ (.slice p12 l12 c12) fun h14 =>
 LoopS (S := (Int × Addr × Addr × Int × Unit)) (fun K1 s h => ref21_Made_l4 Q K1 s.1 s.2.1 s.2.2.1 s.2.2.2.1 h) (more_1, ⟨b1, 0, none⟩, ⟨b6, 0, none⟩, (0 : Int), ()) h14
noncomputable def tab_ref21_Made : Tab := { sch := lookT .done [], lp := lookT [] [(4, [(1, .sc (.int .i64)), (4, .sc (.adr)), (5, .sc (.adr)), (6, .sc (.int .i64))])], jn := lookT none [] }
theorem eq_ref21_Made (l_0_p : Option Addr) (l_0_n : Nat) (l_0_c : Nat) (more_1 : Int) (h : Heap) (Q : Value → Heap → Prop) : fnI P Tryd.f10 tab_ref21_Made [(.slice l_0_p l_0_n l_0_c), (.int .i64 more_1)] h Q = ref21_Made l_0_p l_0_n l_0_c more_1 h Q := by kernel_rfl
theorem ok_ref21_Made : fnOk P Tryd.f10 tab_ref21_Made = true := by kernel_rfl
theorem call_ref21_Made (l_0_p : Option Addr) (l_0_n : Nat) (l_0_c : Nat) (more_1 : Int) {h : Heap} {Q : Value → Heap → Prop} (H : ref21_Made l_0_p l_0_n l_0_c more_1 h Q) : callP P n_ref21_Made #[(.slice l_0_p l_0_n l_0_c), (.int .i64 more_1)] h Q :=
 @callP_of P n_ref21_Made Tryd.f10 tab_ref21_Made [(.slice l_0_p l_0_n l_0_c), (.int .i64 more_1)] h Q mixed Tryd.func10 Tryd.call10 ok_ref21_Made (Eq.mpr (eq_ref21_Made l_0_p l_0_n l_0_c more_1 h Q) H)

/-! ### earshot/fuse.Live: function 13 -/
def fuse_Live_l5 (Q : Value → Heap → Prop) (K1 : ((Option Addr × Nat × Nat) × Addr × Unit) → Heap → Prop) (out_3_p : Option Addr) (out_3_n : Nat) (out_3_c : Nat) (t15 : Addr) (h14 : Heap) : Prop :=
 nextB t15 h14 (fun h15 =>
 ifB false (
 entryB t15 h15 fun n20 v21 =>
 idxI out_3_p n20 out_3_n fun a22 =>
 stI h15 (Addr.add a22 (n20.toNat * 1)) (.bool true) fun h23 =>
 K1 ((out_3_p, out_3_n, out_3_c), t15, ()) h23) (
 Q (.slice out_3_p out_3_n out_3_c) h15)) (fun k16 v17 h18 =>
 ifB true (
 entryB t15 h18 fun n25 v26 =>
 idxI out_3_p n25 out_3_n fun a27 =>
 stI h18 (Addr.add a27 (n25.toNat * 1)) (.bool true) fun h28 =>
 K1 ((out_3_p, out_3_n, out_3_c), t15, ()) h28) (
 Q (.slice out_3_p out_3_n out_3_c) h18))
def fuse_Live (g_0 : TS A1) (h : Heap) (Q : Value → Heap → Prop) : Prop :=
 newI h (.cells (mkS' A1 g_0).toArray 28 (0, 0)) fun b1 h2 =>
 ldAg A1 h2 ⟨b1, 0, none⟩ fun x3 =>
 callInt P .i64 n_graph_Check #[(agS A1 x3)] h2 fun n5 h4 =>
 ifB (n5 != (0 : Int)) (
 Q (.slice none 0 0) h4) (
 ldSlice h4 ⟨b1, 3, none⟩ fun p6 l6 c6 =>
 mkI 4 1 1 (.bool false) (IntKind.wrap .i64 (((l6 : Nat) : Int) + (1 : Int))) (IntKind.wrap .i64 (((l6 : Nat) : Int) + (1 : Int))) h4 fun b7 h8 =>
 ldAg A1 h8 ⟨b1, 0, none⟩ fun x9 =>
 callMap P n_fuse_live #[(agS A1 x9)] h8 fun m11 h10 =>
 rangeB m11 h10 fun b13 h12 =>
 LoopS (S := ((Option Addr × Nat × Nat) × Addr × Unit)) (fun K1 s h => fuse_Live_l5 Q K1 s.1.1 s.1.2.1 s.1.2.2 s.2.1 h) ((some ⟨b7, 0, none⟩, (IntKind.wrap .i64 (((l6 : Nat) : Int) + (1 : Int))).toNat, (IntKind.wrap .i64 (((l6 : Nat) : Int) + (1 : Int))).toNat), ⟨b13, 0, none⟩, ()) h12)
noncomputable def tab_fuse_Live : Tab := { sch := lookT .done [], lp := lookT [] [(5, [(3, .sc (.slice)), (15, .sc (.adr))])], jn := lookT none [] }
theorem eq_fuse_Live (g_0 : TS A1) (h : Heap) (Q : Value → Heap → Prop) : fnI P Tryd.f13 tab_fuse_Live [(agS A1 g_0)] h Q = fuse_Live g_0 h Q := by kernel_rfl
theorem ok_fuse_Live : fnOk P Tryd.f13 tab_fuse_Live = true := by kernel_rfl
theorem call_fuse_Live (g_0 : TS A1) {h : Heap} {Q : Value → Heap → Prop} (H : fuse_Live g_0 h Q) : callP P n_fuse_Live #[(agS A1 g_0)] h Q :=
 @callP_of P n_fuse_Live Tryd.f13 tab_fuse_Live [(agS A1 g_0)] h Q mixed Tryd.func13 Tryd.call13 ok_fuse_Live (Eq.mpr (eq_fuse_Live g_0 h Q) H)

/-! ### earshot/earshotref14.Same: function 27 -/
def ref14_Same_l10 (Q : Value → Heap → Prop) (K1 : (Addr × Addr × Addr × Int × Unit) → Heap → Prop) (K2 : Y39 → Heap → Prop) (a_2 : Addr) (b_3 : Addr) (rows_5 : Addr) (i_6 : Int) (x_7_p : Option Addr) (x_7_n : Nat) (x_7_c : Nat) (y_8_p : Option Addr) (y_8_n : Nat) (y_8_c : Nat) (j_9 : Int) (h17 : Heap) : Prop :=
 ifB (decide (j_9 < ((x_7_n : Nat) : Int))) (
 idxI x_7_p j_9 x_7_n fun a18 =>
 idxI y_8_p j_9 y_8_n fun a19 =>
 ldInt .i64 h17 (Addr.add a18 (j_9.toNat * 1)) fun n20 =>
 ldInt .i64 h17 (Addr.add a19 (j_9.toNat * 1)) fun n21 =>
 ifB (n20 != n21) (
 Q (.bool false) h17) (
 K2 (a_2, b_3, rows_5, i_6, (x_7_p, x_7_n, x_7_c), (y_8_p, y_8_n, y_8_c), (IntKind.wrap .i64 (j_9 + (1 : Int))), ()) h17)) (
 K1 (a_2, b_3, rows_5, (IntKind.wrap .i64 (i_6 + (1 : Int))), ()) h17)
def ref14_Same_l3 (Q : Value → Heap → Prop) (K1 : (Addr × Addr × Addr × Int × Unit) → Heap → Prop) (a_2 : Addr) (b_3 : Addr) (rows_5 : Addr) (i_6 : Int) (h14 : Heap) : Prop :=
 ifB (decide (i_6 < (3 : Int))) (
 arrI i_6 3 fun _ =>
 arrI (0 : Int) 2 fun _ =>
 ldSlice h14 (Addr.add (Addr.add rows_5 (i_6.toNat * 2)) ((0 : Int).toNat * 1)) fun p15 l15 c15 =>
 arrI i_6 3 fun _ =>
 arrI (1 : Int) 2 fun _ =>
 ldSlice h14 (Addr.add (Addr.add rows_5 (i_6.toNat * 2)) ((1 : Int).toNat * 1)) fun p16 l16 c16 =>
 ifB (((l15 : Nat) : Int) != ((l16 : Nat) : Int)) (
 Q (.bool false) h14) (
 LoopS (S := Y39) (fun K2 s h => ref14_Same_l10 Q K1 K2 s.1 s.2.1 s.2.2.1 s.2.2.2.1 s.2.2.2.2.1.1 s.2.2.2.2.1.2.1 s.2.2.2.2.1.2.2 s.2.2.2.2.2.1.1 s.2.2.2.2.2.1.2.1 s.2.2.2.2.2.1.2.2 s.2.2.2.2.2.2.1 h) (a_2, b_3, rows_5, i_6, (p15, l15, c15), (p16, l16, c16), (0 : Int), ()) h14)) (
 ldInt .i64 h14 a_2 fun n22 =>
 ldInt .i64 h14 b_3 fun n23 =>
 ifB (n22 == n23) (
 ldInt .i64 h14 (Addr.add a_2 2) fun n24 =>
 ldInt .i64 h14 (Addr.add b_3 2) fun n25 =>
 ifB (n24 == n25) (
 ldInt .i64 h14 (Addr.add a_2 3) fun n26 =>
 ldInt .i64 h14 (Addr.add b_3 3) fun n27 =>
 ifB (n26 == n27) (
 ldInt .i64 h14 (Addr.add a_2 4) fun n28 =>
 ldInt .i64 h14 (Addr.add b_3 4) fun n29 =>
 ifB (n28 == n29) (
 ldInt .i64 h14 (Addr.add a_2 5) fun n30 =>
 ldInt .i64 h14 (Addr.add b_3 5) fun n31 =>
 ifB (n30 == n31) (
 ldInt .i64 h14 (Addr.add a_2 6) fun n32 =>
 ldInt .i64 h14 (Addr.add b_3 6) fun n33 =>
 ifB (n32 == n33) (
 ldInt .i64 h14 (Addr.add a_2 7) fun n34 =>
 ldInt .i64 h14 (Addr.add b_3 7) fun n35 =>
 ifB (n34 == n35) (
 ldInt .i64 h14 (Addr.add a_2 10) fun n36 =>
 ldInt .i64 h14 (Addr.add b_3 10) fun n37 =>
 ifB (n36 == n37) (
 ldInt .i64 h14 (Addr.add a_2 11) fun n38 =>
 ldInt .i64 h14 (Addr.add b_3 11) fun n39 =>
 ifB (n38 == n39) (
 ldInt .i64 h14 (Addr.add a_2 12) fun n40 =>
 ldInt .i64 h14 (Addr.add b_3 12) fun n41 =>
 ifB (n40 == n41) (
 ldInt .i64 h14 (Addr.add a_2 13) fun n42 =>
 ldInt .i64 h14 (Addr.add b_3 13) fun n43 =>
 ifB (n42 == n43) (
 ldInt .i64 h14 (Addr.add a_2 14) fun n44 =>
 ldInt .i64 h14 (Addr.add b_3 14) fun n45 =>
 Q (.bool (n44 == n45)) h14) (
 Q (.bool false) h14)) (
 Q (.bool false) h14)) (
 Q (.bool false) h14)) (
 Q (.bool false) h14)) (
 Q (.bool false) h14)) (
 Q (.bool false) h14)) (
 Q (.bool false) h14)) (
 Q (.bool false) h14)) (
 Q (.bool false) h14)) (
 Q (.bool false) h14)) (
 Q (.bool false) h14))
def ref14_Same (a_0 : TS A2) (b_1 : TS A2) (h : Heap) (Q : Value → Heap → Prop) : Prop :=
 newI h (.cells (mkS' A2 a_0).toArray 25 (0, 0)) fun b1 h2 =>
 newI h2 (.cells (mkS' A2 b_1).toArray 25 (0, 0)) fun b3 h4 =>
 ldSlice h4 ⟨b1, 1, none⟩ fun p5 l5 c5 =>
 ldSlice h4 ⟨b3, 1, none⟩ fun p6 l6 c6 =>
 ldSlice h4 ⟨b1, 8, none⟩ fun p7 l7 c7 =>
 ldSlice h4 ⟨b3, 8, none⟩ fun p8 l8 c8 =>
 ldSlice h4 ⟨b1, 9, none⟩ fun p9 l9 c9 =>
 ldSlice h4 ⟨b3, 9, none⟩ fun p10 l10 c10 =>
 newI h4 (.cells #[(.slice none 0 0), (.slice none 0 0), (.slice none 0 0), (.slice none 0 0), (.slice none 0 0), (.slice none 0 0)] 82 (0, 0)) fun b11 h12 =>
 storeL [(.slice p5 l5 c5), (.slice p6 l6 c6), (.slice p7 l7 c7), (.slice p8 l8 c8), (.slice p9 l9 c9), (.slice p10 l10 c10)] h12 ⟨b11, 0, none⟩ 0 fun h13 =>
 LoopS (S := (Addr × Addr × Addr × Int × Unit)) (fun K1 s h => ref14_Same_l3 Q K1 s.1 s.2.1 s.2.2.1 s.2.2.2.1 h) (⟨b1, 0, none⟩, ⟨b3, 0, none⟩, ⟨b11, 0, none⟩, (0 : Int), ()) h13
noncomputable def tab_ref14_Same : Tab := { sch := lookT .done [(12, (ones [0, 1, 2, 4, 5, 6, 3, 7, 8] .done))], lp := lookT [] [(3, [(2, .sc (.adr)), (3, .sc (.adr)), (5, .sc (.adr)), (6, .sc (.int .i64))]), (10, [(2, .sc (.adr)), (3, .sc (.adr)), (5, .sc (.adr)), (6, .sc (.int .i64)), (7, .sc (.slice)), (8, .sc (.slice)), (9, .sc (.int .i64))])], jn := lookT none [] }
theorem eq_ref14_Same (a_0 : TS A2) (b_1 : TS A2) (h : Heap) (Q : Value → Heap → Prop) : fnI P Tryd.f27 tab_ref14_Same [(agS A2 a_0), (agS A2 b_1)] h Q = ref14_Same a_0 b_1 h Q := by kernel_rfl
theorem ok_ref14_Same : fnOk P Tryd.f27 tab_ref14_Same = true := by kernel_rfl
theorem call_ref14_Same (a_0 : TS A2) (b_1 : TS A2) {h : Heap} {Q : Value → Heap → Prop} (H : ref14_Same a_0 b_1 h Q) : callP P n_ref14_Same #[(agS A2 a_0), (agS A2 b_1)] h Q :=
 @callP_of P n_ref14_Same Tryd.f27 tab_ref14_Same [(agS A2 a_0), (agS A2 b_1)] h Q mixed Tryd.func27 Tryd.call27 ok_ref14_Same (Eq.mpr (eq_ref14_Same a_0 b_1 h Q) H)

/-! ### earshot/earshotref15.Same: function 12 -/
def ref15_Same_l4 (Q : Value → Heap → Prop) (K1 : (Addr × Addr × Int × Unit) → Heap → Prop) (a_2 : Addr) (b_3 : Addr) (i_5 : Int) (h7 : Heap) : Prop :=
 ldSlice h7 (Addr.add a_2 3) fun p8 l8 c8 =>
 ifB (decide (i_5 < ((l8 : Nat) : Int))) (
 ldSlice h7 (Addr.add a_2 3) fun p9 l9 c9 =>
 idxI p9 i_5 l9 fun a10 =>
 ldAg A2 h7 (Addr.add a10 (i_5.toNat * 15)) fun x11 =>
 ldSlice h7 (Addr.add b_3 3) fun p12 l12 c12 =>
 idxI p12 i_5 l12 fun a13 =>
 ldAg A2 h7 (Addr.add a13 (i_5.toNat * 15)) fun x14 =>
 callBool P n_ref14_Same #[(agS A2 x11), (agS A2 x14)] h7 fun b16 h15 =>
 cellH h15 (Addr.add a_2 3) = some (.slice p9 l9 c9) ∧
 ifB (!b16) (
 Q (.bool false) h15) (
 K1 (a_2, b_3, (IntKind.wrap .i64 (i_5 + (1 : Int))), ()) h15)) (
 Q (.bool true) h7)
def ref15_Same_j3 (Q : Value → Heap → Prop) (a_2 : Addr) (b_3 : Addr) (h6 : Heap) : Prop :=
 LoopS (S := (Addr × Addr × Int × Unit)) (fun K1 s h => ref15_Same_l4 Q K1 s.1 s.2.1 s.2.2.1 h) (a_2, b_3, (0 : Int), ()) h6
def ref15_Same (a_0 : TS A1) (b_1 : TS A1) (h : Heap) (Q : Value → Heap → Prop) : Prop :=
 newI h (.cells (mkS' A1 a_0).toArray 28 (0, 0)) fun b1 h2 =>
 newI h2 (.cells (mkS' A1 b_1).toArray 28 (0, 0)) fun b3 h4 =>
 ∃ J5 : (Addr × Addr × Unit) → Heap → Prop, (∀ s h, J5 s h → ref15_Same_j3 Q s.1 s.2.1 h) ∧
 ldInt .i64 h4 ⟨b1, 0, none⟩ fun n17 =>
 ldInt .i64 h4 ⟨b3, 0, none⟩ fun n18 =>
 ifB (n17 != n18) (
 Q (.bool false) h4) (
 ldInt .i64 h4 ⟨b1, 1, none⟩ fun n19 =>
 ldInt .i64 h4 ⟨b3, 1, none⟩ fun n20 =>
 ifB (n19 != n20) (
 Q (.bool false) h4) (
 ldInt .i64 h4 ⟨b1, 2, none⟩ fun n21 =>
 ldInt .i64 h4 ⟨b3, 2, none⟩ fun n22 =>
 ifB (n21 != n22) (
 Q (.bool false) h4) (
 ldInt .i64 h4 ⟨b1, 4, none⟩ fun n23 =>
 ldInt .i64 h4 ⟨b3, 4, none⟩ fun n24 =>
 ifB (n23 != n24) (
 Q (.bool false) h4) (
 ldSlice h4 ⟨b1, 3, none⟩ fun p25 l25 c25 =>
 ldSlice h4 ⟨b3, 3, none⟩ fun p26 l26 c26 =>
 ifB (((l25 : Nat) : Int) != ((l26 : Nat) : Int)) (
 Q (.bool false) h4) (
 J5 (⟨b1, 0, none⟩, ⟨b3, 0, none⟩, ()) h4)))))
noncomputable def tab_ref15_Same : Tab := { sch := lookT .done [(6, (ones [0, 2, 5, 7] (.early 1 (ones [3, 4] (.alt 6 (ones [8, 9] (.alt 10 (ones [11] .done) .stop)) .stop)))))], lp := lookT [] [(4, [(2, .sc (.adr)), (3, .sc (.adr)), (5, .sc (.int .i64))])], jn := lookT none [(3, some [(2, .sc (.adr)), (3, .sc (.adr))])] }
theorem eq_ref15_Same (a_0 : TS A1) (b_1 : TS A1) (h : Heap) (Q : Value → Heap → Prop) : fnI P Tryd.f12 tab_ref15_Same [(agS A1 a_0), (agS A1 b_1)] h Q = ref15_Same a_0 b_1 h Q := by kernel_rfl
theorem ok_ref15_Same : fnOk P Tryd.f12 tab_ref15_Same = true := by kernel_rfl
theorem call_ref15_Same (a_0 : TS A1) (b_1 : TS A1) {h : Heap} {Q : Value → Heap → Prop} (H : ref15_Same a_0 b_1 h Q) : callP P n_ref15_Same #[(agS A1 a_0), (agS A1 b_1)] h Q :=
 @callP_of P n_ref15_Same Tryd.f12 tab_ref15_Same [(agS A1 a_0), (agS A1 b_1)] h Q mixed Tryd.func12 Tryd.call12 ok_ref15_Same (Eq.mpr (eq_ref15_Same a_0 b_1 h Q) H)

end Go.Proofs.YtbgplllcjhgdhaaDoor.G
