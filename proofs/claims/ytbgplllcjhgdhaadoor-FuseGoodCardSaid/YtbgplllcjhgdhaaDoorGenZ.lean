/- Printed by shp.py out of the program's own print: for each Go function a typed formula over heaps, and the proof that a call does just that. -/
import Derived.Test.YtbgplllcjhgdhaaDoorGen
set_option linter.unusedVariables false
set_option maxRecDepth 100000
namespace Go.Proofs.YtbgplllcjhgdhaaDoor.G
open Go Go.Sh
/-! ### earshot/earshotref19.of: function 29 -/
def ref19_of_l3 (Q : Value → Heap → Prop) (K1 : Y43 → Heap → Prop) (l_0_p : Option Addr) (l_0_n : Nat) (l_0_c : Nat) (in_1_p : Option Addr) (in_1_n : Nat) (in_1_c : Nat) (out_5_p : Option Addr) (out_5_n : Nat) (out_5_c : Nat) (j_6 : Int) (h1 : Heap) : Prop :=
 ifB (decide (j_6 < ((in_1_n : Nat) : Int))) (
 idxI in_1_p j_6 in_1_n fun a2 =>
 ldInt .i64 h1 (Addr.add a2 (j_6.toNat * 1)) fun n3 =>
 idxI l_0_p n3 l_0_n fun a4 =>
 ldInt .i64 h1 (Addr.add a4 (n3.toNat * 1)) fun n5 =>
 newI h1 (.cells #[(.int .i64 n5)] 3 (0, 0)) fun b6 h7 =>
 appI 3 1 8 (.int .i64 (0 : Int)) out_5_p out_5_n out_5_c (some ⟨b6, 0, none⟩) 1 h7 fun p8 l8 c8 h9 =>
 K1 ((l_0_p, l_0_n, l_0_c), (in_1_p, in_1_n, in_1_c), (p8, l8, c8), (IntKind.wrap .i64 (j_6 + (1 : Int))), ()) h9) (
 Q (.slice out_5_p out_5_n out_5_c) h1)
def ref19_of (l_0_p : Option Addr) (l_0_n : Nat) (l_0_c : Nat) (in_1_p : Option Addr) (in_1_n : Nat) (in_1_c : Nat) (h : Heap) (Q : Value → Heap → Prop) : Prop :=
 LoopS (S := Y43) (fun K1 s h => ref19_of_l3 Q K1 s.1.1 s.1.2.1 s.1.2.2 s.2.1.1 s.2.1.2.1 s.2.1.2.2 s.2.2.1.1 s.2.2.1.2.1 s.2.2.1.2.2 s.2.2.2.1 h) ((l_0_p, l_0_n, l_0_c), (in_1_p, in_1_n, in_1_c), (none, 0, 0), (0 : Int), ()) h
noncomputable def tab_ref19_of : Tab := { sch := lookT .done [], lp := lookT [] [(3, [(0, .sc (.slice)), (1, .sc (.slice)), (5, .sc (.slice)), (6, .sc (.int .i64))])], jn := lookT none [] }
theorem eq_ref19_of (l_0_p : Option Addr) (l_0_n : Nat) (l_0_c : Nat) (in_1_p : Option Addr) (in_1_n : Nat) (in_1_c : Nat) (h : Heap) (Q : Value → Heap → Prop) : fnI P Tryd.f29 tab_ref19_of [(.slice l_0_p l_0_n l_0_c), (.slice in_1_p in_1_n in_1_c)] h Q = ref19_of l_0_p l_0_n l_0_c in_1_p in_1_n in_1_c h Q := by kernel_rfl
theorem ok_ref19_of : fnOk P Tryd.f29 tab_ref19_of = true := by kernel_rfl
theorem call_ref19_of (l_0_p : Option Addr) (l_0_n : Nat) (l_0_c : Nat) (in_1_p : Option Addr) (in_1_n : Nat) (in_1_c : Nat) {h : Heap} {Q : Value → Heap → Prop} (H : ref19_of l_0_p l_0_n l_0_c in_1_p in_1_n in_1_c h Q) : callP P n_ref19_of #[(.slice l_0_p l_0_n l_0_c), (.slice in_1_p in_1_n in_1_c)] h Q :=
 @callP_of P n_ref19_of Tryd.f29 tab_ref19_of [(.slice l_0_p l_0_n l_0_c), (.slice in_1_p in_1_n in_1_c)] h Q mixed Tryd.func29 Tryd.call29 ok_ref19_of (Eq.mpr (eq_ref19_of l_0_p l_0_n l_0_c in_1_p in_1_n in_1_c h Q) H)

/-! ### earshot/earshotref19.least: function 28 -/
def ref19_least_l3 (Q : Value → Heap → Prop) (K1 : ((Option Addr × Nat × Nat) × Int × Int × Unit) → Heap → Prop) (l_0_p : Option Addr) (l_0_n : Nat) (l_0_c : Nat) (x_3 : Int) (i_4 : Int) (h3 : Heap) : Prop :=
 ifB (decide (i_4 < ((l_0_n : Nat) : Int))) (
 idxI l_0_p i_4 l_0_n fun a4 =>
 ldInt .i64 h3 (Addr.add a4 (i_4.toNat * 1)) fun n5 =>
 K1 ((l_0_p, l_0_n, l_0_c), (if n5 < x_3 then n5 else x_3), (IntKind.wrap .i64 (i_4 + (1 : Int))), ()) h3) (
 Q (.int .i64 x_3) h3)
def ref19_least (l_0_p : Option Addr) (l_0_n : Nat) (l_0_c : Nat) (h : Heap) (Q : Value → Heap → Prop) : Prop :=
 idxI l_0_p (0 : Int) l_0_n fun a1 =>
 ldInt .i64 h (Addr.add a1 ((0 : Int).toNat * 1)) fun n2 =>
 LoopS (S := ((Option Addr × Nat × Nat) × Int × Int × Unit)) (fun K1 s h => ref19_least_l3 Q K1 s.1.1 s.1.2.1 s.1.2.2 s.2.1 s.2.2.1 h) ((l_0_p, l_0_n, l_0_c), n2, (0 : Int), ()) h
noncomputable def tab_ref19_least : Tab := { sch := lookT .done [], lp := lookT [] [(3, [(0, .sc (.slice)), (3, .sc (.int .i64)), (4, .sc (.int .i64))])], jn := lookT none [] }
theorem eq_ref19_least (l_0_p : Option Addr) (l_0_n : Nat) (l_0_c : Nat) (h : Heap) (Q : Value → Heap → Prop) : fnI P Tryd.f28 tab_ref19_least [(.slice l_0_p l_0_n l_0_c)] h Q = ref19_least l_0_p l_0_n l_0_c h Q := by kernel_rfl
theorem ok_ref19_least : fnOk P Tryd.f28 tab_ref19_least = true := by kernel_rfl
theorem call_ref19_least (l_0_p : Option Addr) (l_0_n : Nat) (l_0_c : Nat) {h : Heap} {Q : Value → Heap → Prop} (H : ref19_least l_0_p l_0_n l_0_c h Q) : callP P n_ref19_least #[(.slice l_0_p l_0_n l_0_c)] h Q :=
 @callP_of P n_ref19_least Tryd.f28 tab_ref19_least [(.slice l_0_p l_0_n l_0_c)] h Q mixed Tryd.func28 Tryd.call28 ok_ref19_least (Eq.mpr (eq_ref19_least l_0_p l_0_n l_0_c h Q) H)

/-! ### earshot/earshotref14.Left: function 30 -/
def ref14_Left (n_0 : TS A2) (h : Heap) (Q : Value → Heap → Prop) : Prop :=
 newI h (.cells (mkS' A2 n_0).toArray 25 (0, 0)) fun b1 h2 =>
 ldInt .i64 h2 ⟨b1, 0, none⟩ fun n3 =>
 ifB (n3 == (12 : Int)) (
 ldInt .i64 h2 ⟨b1, 3, none⟩ fun n4 =>
 Q (.int .i64 (IntKind.wrap .i64 (n4 - (1 : Int)))) h2) (
 ldInt .i64 h2 ⟨b1, 0, none⟩ fun n5 =>
 callBool P n_ref14_four #[(.int .i64 n5)] h2 fun b7 h6 =>
 ifB b7 (
 ldInt .i64 h6 ⟨b1, 6, none⟩ fun n8 =>
 Q (.int .i64 n8) h6) (
 Q (.int .i64 (0 : Int)) h6))
noncomputable def tab_ref14_Left : Tab := { sch := lookT .done [], lp := lookT [] [], jn := lookT none [] }
theorem eq_ref14_Left (n_0 : TS A2) (h : Heap) (Q : Value → Heap → Prop) : fnI P Tryd.f30 tab_ref14_Left [(agS A2 n_0)] h Q = ref14_Left n_0 h Q := by kernel_rfl
theorem ok_ref14_Left : fnOk P Tryd.f30 tab_ref14_Left = true := by kernel_rfl
theorem call_ref14_Left (n_0 : TS A2) {h : Heap} {Q : Value → Heap → Prop} (H : ref14_Left n_0 h Q) : callP P n_ref14_Left #[(agS A2 n_0)] h Q :=
 @callP_of P n_ref14_Left Tryd.f30 tab_ref14_Left [(agS A2 n_0)] h Q mixed Tryd.func30 Tryd.call30 ok_ref14_Left (Eq.mpr (eq_ref14_Left n_0 h Q) H)

/-! ### earshot/earshotref19.most: function 31 -/
def ref19_most_l3 (Q : Value → Heap → Prop) (K1 : ((Option Addr × Nat × Nat) × Int × Int × Unit) → Heap → Prop) (l_0_p : Option Addr) (l_0_n : Nat) (l_0_c : Nat) (x_3 : Int) (i_4 : Int) (h3 : Heap) : Prop :=
 ifB (decide (i_4 < ((l_0_n : Nat) : Int))) (
 idxI l_0_p i_4 l_0_n fun a4 =>
 ldInt .i64 h3 (Addr.add a4 (i_4.toNat * 1)) fun n5 =>
 K1 ((l_0_p, l_0_n, l_0_c), (if n5 > x_3 then n5 else x_3), (IntKind.wrap .i64 (i_4 + (1 : Int))), ()) h3) (
 Q (.int .i64 x_3) h3)
def ref19_most (l_0_p : Option Addr) (l_0_n : Nat) (l_0_c : Nat) (h : Heap) (Q : Value → Heap → Prop) : Prop :=
 idxI l_0_p (0 : Int) l_0_n fun a1 =>
 ldInt .i64 h (Addr.add a1 ((0 : Int).toNat * 1)) fun n2 =>
 LoopS (S := ((Option Addr × Nat × Nat) × Int × Int × Unit)) (fun K1 s h => ref19_most_l3 Q K1 s.1.1 s.1.2.1 s.1.2.2 s.2.1 s.2.2.1 h) ((l_0_p, l_0_n, l_0_c), n2, (0 : Int), ()) h
noncomputable def tab_ref19_most : Tab := { sch := lookT .done [], lp := lookT [] [(3, [(0, .sc (.slice)), (3, .sc (.int .i64)), (4, .sc (.int .i64))])], jn := lookT none [] }
theorem eq_ref19_most (l_0_p : Option Addr) (l_0_n : Nat) (l_0_c : Nat) (h : Heap) (Q : Value → Heap → Prop) : fnI P Tryd.f31 tab_ref19_most [(.slice l_0_p l_0_n l_0_c)] h Q = ref19_most l_0_p l_0_n l_0_c h Q := by kernel_rfl
theorem ok_ref19_most : fnOk P Tryd.f31 tab_ref19_most = true := by kernel_rfl
theorem call_ref19_most (l_0_p : Option Addr) (l_0_n : Nat) (l_0_c : Nat) {h : Heap} {Q : Value → Heap → Prop} (H : ref19_most l_0_p l_0_n l_0_c h Q) : callP P n_ref19_most #[(.slice l_0_p l_0_n l_0_c)] h Q :=
 @callP_of P n_ref19_most Tryd.f31 tab_ref19_most [(.slice l_0_p l_0_n l_0_c)] h Q mixed Tryd.func31 Tryd.call31 ok_ref19_most (Eq.mpr (eq_ref19_most l_0_p l_0_n l_0_c h Q) H)

/-! ### earshot/earshotref17.Cost: function 33 -/
def ref17_Cost (n_0 : TS A2) (width_1 : Int) (h : Heap) (Q : Value → Heap → Prop) : Prop :=
 newI h (.cells (mkS' A2 n_0).toArray 25 (0, 0)) fun b1 h2 =>
 ldInt .i64 h2 ⟨b1, 0, none⟩ fun n3 =>
 ifB (n3 != (1 : Int)) (
 ldInt .i64 h2 ⟨b1, 0, none⟩ fun n4 =>
 ifB (n4 != (2 : Int)) (
 ldInt .i64 h2 ⟨b1, 0, none⟩ fun n5 =>
 ifB (n5 != (6 : Int)) (
 Q (.int .i64 (0 : Int)) h2) (
 ldAg A2 h2 ⟨b1, 0, none⟩ fun x6 =>
 newI h2 (.cells #[(.int .i64 width_1)] 3 (0, 0)) fun b7 h8 =>
 callInt P .i64 n_ref14_Check #[(agS A2 x6), (.slice (some ⟨b7, 0, none⟩) 1 1)] h8 fun n10 h9 =>
 ifB (n10 != (0 : Int)) (
 Q (.int .i64 (0 : Int)) h9) (
 ldSlice h9 ⟨b1, 8, none⟩ fun p11 l11 c11 =>
 Q (.int .i64 ((l11 : Nat) : Int)) h9))) (
 ldAg A2 h2 ⟨b1, 0, none⟩ fun x12 =>
 newI h2 (.cells #[(.int .i64 width_1)] 3 (0, 0)) fun b13 h14 =>
 callInt P .i64 n_ref14_Check #[(agS A2 x12), (.slice (some ⟨b13, 0, none⟩) 1 1)] h14 fun n16 h15 =>
 ifB (n16 != (0 : Int)) (
 Q (.int .i64 (0 : Int)) h15) (
 ldSlice h15 ⟨b1, 8, none⟩ fun p17 l17 c17 =>
 Q (.int .i64 ((l17 : Nat) : Int)) h15))) (
 ldAg A2 h2 ⟨b1, 0, none⟩ fun x18 =>
 newI h2 (.cells #[(.int .i64 width_1)] 3 (0, 0)) fun b19 h20 =>
 callInt P .i64 n_ref14_Check #[(agS A2 x18), (.slice (some ⟨b19, 0, none⟩) 1 1)] h20 fun n22 h21 =>
 ifB (n22 != (0 : Int)) (
 Q (.int .i64 (0 : Int)) h21) (
 ldSlice h21 ⟨b1, 8, none⟩ fun p23 l23 c23 =>
 Q (.int .i64 ((l23 : Nat) : Int)) h21))
noncomputable def tab_ref17_Cost : Tab := { sch := lookT .done [], lp := lookT [] [], jn := lookT none [] }
theorem eq_ref17_Cost (n_0 : TS A2) (width_1 : Int) (h : Heap) (Q : Value → Heap → Prop) : fnI P Tryd.f33 tab_ref17_Cost [(agS A2 n_0), (.int .i64 width_1)] h Q = ref17_Cost n_0 width_1 h Q := by kernel_rfl
theorem ok_ref17_Cost : fnOk P Tryd.f33 tab_ref17_Cost = true := by kernel_rfl
theorem call_ref17_Cost (n_0 : TS A2) (width_1 : Int) {h : Heap} {Q : Value → Heap → Prop} (H : ref17_Cost n_0 width_1 h Q) : callP P n_ref17_Cost #[(agS A2 n_0), (.int .i64 width_1)] h Q :=
 @callP_of P n_ref17_Cost Tryd.f33 tab_ref17_Cost [(agS A2 n_0), (.int .i64 width_1)] h Q mixed Tryd.func33 Tryd.call33 ok_ref17_Cost (Eq.mpr (eq_ref17_Cost n_0 width_1 h Q) H)

/-! ### (*earshot/earshotref19.Field).room: function 34 -/
def ref19_Field_room (f_0 : Option Addr) (n_1 : TS A2) (j_2 : Int) (rate_3 : Int) (h : Heap) (Q : Value → Heap → Prop) : Prop :=
 newI h (.cells (mkS' A2 n_1).toArray 25 (0, 0)) fun b1 h2 =>
 ldInt .i64 h2 ⟨b1, 0, none⟩ fun n3 =>
 callBool P n_ref14_Windows #[(.int .i64 n3)] h2 fun b5 h4 =>
 ifB b5 (
 ldAg A2 h4 ⟨b1, 0, none⟩ fun x6 =>
 callInt P .i64 n_ref14_Span #[(agS A2 x6)] h4 fun n8 h7 =>
 Q (.int .i64 n8) h7) (
 ldInt .i64 h4 ⟨b1, 0, none⟩ fun n9 =>
 callBool P n_ref14_Many #[(.int .i64 n9)] h4 fun b11 h10 =>
 ifB (!b11) (
 Q (.int .i64 (1 : Int)) h10) (
 ifB (rate_3 == (0 : Int)) (
 Q (.int .i64 (1 : Int)) h10) (
 nilI f_0 fun a12 =>
 nilI f_0 fun a13 =>
 ldSlice h10 (Addr.add a12 1) fun p14 l14 c14 =>
 ldSlice h10 ⟨b1, 1, none⟩ fun p15 l15 c15 =>
 ldSlice h10 (Addr.add a13 1) fun p16 l16 c16 =>
 ldSlice h10 ⟨b1, 1, none⟩ fun p17 l17 c17 =>
 idxI p17 j_2 l17 fun a18 =>
 ldInt .i64 h10 (Addr.add a18 (j_2.toNat * 1)) fun n19 =>
 idxI p16 n19 l16 fun a20 =>
 ldInt .i64 h10 (Addr.add a20 (n19.toNat * 1)) fun n21 =>
 callSlice P n_ref19_of #[(.slice p14 l14 c14), (.slice p15 l15 c15)] h10 fun p23 l23 c23 h22 =>
 cellH h22 (Addr.add a20 (n19.toNat * 1)) = some (.int .i64 n21) ∧
 cellH h22 (Addr.add a18 (j_2.toNat * 1)) = some (.int .i64 n19) ∧
 cellH h22 ⟨b1, 1, none⟩ = some (.slice p17 l17 c17) ∧
 cellH h22 (Addr.add a13 1) = some (.slice p16 l16 c16) ∧
 callInt P .i64 n_ref19_most #[(.slice p23 l23 c23)] h22 fun n25 h24 =>
 cellH h24 (Addr.add a20 (n19.toNat * 1)) = some (.int .i64 n21) ∧
 cellH h24 (Addr.add a18 (j_2.toNat * 1)) = some (.int .i64 n19) ∧
 cellH h24 ⟨b1, 1, none⟩ = some (.slice p17 l17 c17) ∧
 cellH h24 (Addr.add a13 1) = some (.slice p16 l16 c16) ∧
 cellH h24 ⟨b1, 1, none⟩ = some (.slice p15 l15 c15) ∧
 cellH h24 (Addr.add a12 1) = some (.slice p14 l14 c14) ∧
 neI rate_3 fun _ =>
 Q (.int .i64 (IntKind.wrap .i64 ((IntKind.wrap .i64 (Int.tdiv (IntKind.wrap .i64 ((IntKind.wrap .i64 ((IntKind.wrap .i64 (n25 - n21)) + rate_3)) - (1 : Int))) rate_3)) + (1 : Int)))) h24)))
noncomputable def tab_ref19_Field_room : Tab := { sch := lookT .done [(7, (ones [0, 1, 2, 4, 8, 9, 10, 12, 14] (.early 3 (.early 5 (.early 11 (.early 13 (ones [15] (.early 16 (ones [17] (.early 18 (.alt 6 (.alt 7 (ones [19, 20] .done) .stop) .stop)))))))))))], lp := lookT [] [], jn := lookT none [] }
theorem eq_ref19_Field_room (f_0 : Option Addr) (n_1 : TS A2) (j_2 : Int) (rate_3 : Int) (h : Heap) (Q : Value → Heap → Prop) : fnI P Tryd.f34 tab_ref19_Field_room [(.pointer f_0), (agS A2 n_1), (.int .i64 j_2), (.int .i64 rate_3)] h Q = ref19_Field_room f_0 n_1 j_2 rate_3 h Q := by kernel_rfl
theorem ok_ref19_Field_room : fnOk P Tryd.f34 tab_ref19_Field_room = true := by kernel_rfl
theorem call_ref19_Field_room (f_0 : Option Addr) (n_1 : TS A2) (j_2 : Int) (rate_3 : Int) {h : Heap} {Q : Value → Heap → Prop} (H : ref19_Field_room f_0 n_1 j_2 rate_3 h Q) : callP P n_ref19_Field_room #[(.pointer f_0), (agS A2 n_1), (.int .i64 j_2), (.int .i64 rate_3)] h Q :=
 @callP_of P n_ref19_Field_room Tryd.f34 tab_ref19_Field_room [(.pointer f_0), (agS A2 n_1), (.int .i64 j_2), (.int .i64 rate_3)] h Q mixed Tryd.func34 Tryd.call34 ok_ref19_Field_room (Eq.mpr (eq_ref19_Field_room f_0 n_1 j_2 rate_3 h Q) H)

/-! ### earshot/earshotref19.Look: function 14 -/
def ref19_Look_l23 (Q : Value → Heap → Prop) (K1 : (Addr × Addr × Addr × Int × Addr × Int × Unit) → Heap → Prop) (K2 : (Addr × Addr × Addr × Int × Addr × Int × Unit) → Heap → Prop) (K3 : (Addr × Addr × Addr × Int × Addr × Int × Addr × Int × Unit) → Heap → Prop) (g_1 : Addr) (t2 : Addr) (r_3 : Addr) (n_4 : Int) (f_5 : Addr) (i_10 : Int) (x_11 : Addr) (j_12 : Int) (h121 : Heap) : Prop :=
 ldSlice h121 (Addr.add x_11 1) fun p122 l122 c122 =>
 ifB (decide (j_12 < ((l122 : Nat) : Int))) (
 ldAg A2 h121 x_11 fun x123 =>
 ldSlice h121 (Addr.add f_5 2) fun p124 l124 c124 =>
 ldSlice h121 (Addr.add x_11 1) fun p125 l125 c125 =>
 idxI p125 j_12 l125 fun a126 =>
 ldInt .i64 h121 (Addr.add a126 (j_12.toNat * 1)) fun n127 =>
 ldSlice h121 (Addr.add f_5 2) fun p128 l128 c128 =>
 ldSlice h121 (Addr.add x_11 1) fun p129 l129 c129 =>
 idxI p129 j_12 l129 fun a130 =>
 ldInt .i64 h121 (Addr.add a130 (j_12.toNat * 1)) fun n131 =>
 idxI p128 n131 l128 fun a132 =>
 ldInt .i64 h121 (Addr.add a132 (n131.toNat * 1)) fun n133 =>
 ldSlice h121 (Addr.add r_3 2) fun p134 l134 c134 =>
 idxI p134 i_10 l134 fun a135 =>
 ldInt .i64 h121 (Addr.add a135 (i_10.toNat * 1)) fun n136 =>
 callInt P .i64 n_ref19_Field_room #[(.pointer (some f_5)), (agS A2 x123), (.int .i64 j_12), (.int .i64 n136)] h121 fun n138 h137 =>
 cellH h137 (Addr.add a132 (n131.toNat * 1)) = some (.int .i64 n133) ∧
 cellH h137 (Addr.add a130 (j_12.toNat * 1)) = some (.int .i64 n131) ∧
 cellH h137 (Addr.add x_11 1) = some (.slice p129 l129 c129) ∧
 cellH h137 (Addr.add f_5 2) = some (.slice p128 l128 c128) ∧
 cellH h137 (Addr.add a126 (j_12.toNat * 1)) = some (.int .i64 n127) ∧
 cellH h137 (Addr.add x_11 1) = some (.slice p125 l125 c125) ∧
 cellH h137 (Addr.add f_5 2) = some (.slice p124 l124 c124) ∧
 idxI p124 n127 l124 fun a139 =>
 stI h137 (Addr.add a139 (n127.toNat * 1)) (.int .i64 (if n138 > n133 then n138 else n133)) fun h140 =>
 K3 (g_1, t2, r_3, n_4, f_5, i_10, x_11, (IntKind.wrap .i64 (j_12 + (1 : Int))), ()) h140) (
 K2 (g_1, t2, r_3, n_4, f_5, (IntKind.wrap .i64 (i_10 + (1 : Int))), ()) h121)
def ref19_Look_l19 (Q : Value → Heap → Prop) (K1 : (Addr × Addr × Addr × Int × Addr × Int × Unit) → Heap → Prop) (K2 : (Addr × Addr × Addr × Int × Addr × Int × Unit) → Heap → Prop) (g_1 : Addr) (t2 : Addr) (r_3 : Addr) (n_4 : Int) (f_5 : Addr) (i_10 : Int) (h114 : Heap) : Prop :=
 ifB (decide (i_10 ≤ n_4)) (
 ldSlice h114 (Addr.add g_1 3) fun p115 l115 c115 =>
 idxI p115 (IntKind.wrap .i64 (i_10 - (1 : Int))) l115 fun a116 =>
 ldAg A2 h114 (Addr.add a116 ((IntKind.wrap .i64 (i_10 - (1 : Int))).toNat * 15)) fun x117 =>
 newI h114 (.cells (mkS' A2 (zT A2)).toArray 25 (0, 0)) fun b118 h119 =>
 storeL (mkS' A2 x117) h119 ⟨b118, 0, none⟩ 0 fun h120 =>
 LoopS (S := (Addr × Addr × Addr × Int × Addr × Int × Addr × Int × Unit)) (fun K3 s h => ref19_Look_l23 Q K1 K2 K3 s.1 s.2.1 s.2.2.1 s.2.2.2.1 s.2.2.2.2.1 s.2.2.2.2.2.1 s.2.2.2.2.2.2.1 s.2.2.2.2.2.2.2.1 h) (g_1, t2, r_3, n_4, f_5, i_10, ⟨b118, 0, none⟩, (0 : Int), ()) h120) (
 ldSlice h114 f_5 fun p141 l141 c141 =>
 ldSlice h114 (Addr.add f_5 1) fun p142 l142 c142 =>
 ldSlice h114 (Addr.add f_5 2) fun p143 l143 c143 =>
 ldInt .i64 h114 (Addr.add f_5 3) fun n144 =>
 stI h114 t2 (.slice p141 l141 c141) fun h145 =>
 stI h145 (Addr.add t2 1) (.slice p142 l142 c142) fun h146 =>
 stI h146 (Addr.add t2 2) (.slice p143 l143 c143) fun h147 =>
 stI h147 (Addr.add t2 3) (.int .i64 n144) fun h148 =>
 ldSlice h148 t2 fun p149 l149 c149 =>
 ldSlice h148 (Addr.add t2 1) fun p150 l150 c150 =>
 ldSlice h148 (Addr.add t2 2) fun p151 l151 c151 =>
 ldInt .i64 h148 (Addr.add t2 3) fun n152 =>
 Q (.agg #[(.slice p149 l149 c149), (.slice p150 l150 c150), (.slice p151 l151 c151), (.int .i64 n152)]) h148)
def ref19_Look_l8 (Q : Value → Heap → Prop) (K1 : (Addr × Addr × Addr × Int × Addr × Int × Unit) → Heap → Prop) (g_1 : Addr) (t2 : Addr) (r_3 : Addr) (n_4 : Int) (f_5 : Addr) (k_6 : Int) (h43 : Heap) : Prop :=
 ifB (decide (k_6 < n_4)) (
 ldSlice h43 r_3 fun p44 l44 c44 =>
 idxI p44 k_6 l44 fun a45 =>
 ldInt .i64 h43 (Addr.add a45 (k_6.toNat * 1)) fun n46 =>
 ldSlice h43 (Addr.add g_1 3) fun p47 l47 c47 =>
 idxI p47 (IntKind.wrap .i64 (n46 - (1 : Int))) l47 fun a48 =>
 ldAg A2 h43 (Addr.add a48 ((IntKind.wrap .i64 (n46 - (1 : Int))).toNat * 15)) fun x49 =>
 newI h43 (.cells (mkS' A2 (zT A2)).toArray 25 (0, 0)) fun b50 h51 =>
 storeL (mkS' A2 x49) h51 ⟨b50, 0, none⟩ 0 fun h52 =>
 ldSlice h52 (Addr.add f_5 2) fun p53 l53 c53 =>
 idxI p53 n46 l53 fun a54 =>
 stI h52 (Addr.add a54 (n46.toNat * 1)) (.int .i64 (1 : Int)) fun h55 =>
 ldSlice h55 (Addr.add r_3 2) fun p56 l56 c56 =>
 idxI p56 n46 l56 fun a57 =>
 ldInt .i64 h55 (Addr.add a57 (n46.toNat * 1)) fun n58 =>
 ifB (decide (n58 > (0 : Int))) (
 ldSlice h55 (Addr.add r_3 2) fun p59 l59 c59 =>
 ldSlice h55 ⟨b50, 1, none⟩ fun p60 l60 c60 =>
 idxI p60 (0 : Int) l60 fun a61 =>
 ldInt .i64 h55 (Addr.add a61 ((0 : Int).toNat * 1)) fun n62 =>
 idxI p59 n62 l59 fun a63 =>
 ldInt .i64 h55 (Addr.add a63 (n62.toNat * 1)) fun n64 =>
 ldSlice h55 f_5 fun p65 l65 c65 =>
 ldSlice h55 f_5 fun p66 l66 c66 =>
 ldSlice h55 ⟨b50, 1, none⟩ fun p67 l67 c67 =>
 ldAg A2 h55 ⟨b50, 0, none⟩ fun x68 =>
 callSlice P n_ref19_of #[(.slice p66 l66 c66), (.slice p67 l67 c67)] h55 fun p70 l70 c70 h69 =>
 holdW (watchL 0 ⟨b50, 0, none⟩ (mkS' A2 x68) 0) h69 (
 cellH h69 f_5 = some (.slice p65 l65 c65) ∧
 callInt P .i64 n_ref19_least #[(.slice p70 l70 c70)] h69 fun n72 h71 =>
 holdW (watchL 0 ⟨b50, 0, none⟩ (mkS' A2 x68) 0) h71 (
 cellH h71 ⟨b50, 1, none⟩ = some (.slice p67 l67 c67) ∧
 cellH h71 f_5 = some (.slice p66 l66 c66) ∧
 cellH h71 f_5 = some (.slice p65 l65 c65) ∧
 callInt P .i64 n_ref14_Left #[(agS A2 x68)] h71 fun n74 h73 =>
 cellH h73 ⟨b50, 1, none⟩ = some (.slice p67 l67 c67) ∧
 cellH h73 f_5 = some (.slice p66 l66 c66) ∧
 cellH h73 f_5 = some (.slice p65 l65 c65) ∧
 idxI p65 n46 l65 fun a75 =>
 stI h73 (Addr.add a75 (n46.toNat * 1)) (.int .i64 (IntKind.wrap .i64 (n72 - (IntKind.wrap .i64 (n64 * n74))))) fun h76 =>
 ldSlice h76 (Addr.add f_5 1) fun p77 l77 c77 =>
 ldSlice h76 (Addr.add f_5 1) fun p78 l78 c78 =>
 ldSlice h76 ⟨b50, 1, none⟩ fun p79 l79 c79 =>
 ldAg A2 h76 ⟨b50, 0, none⟩ fun x80 =>
 ldAg A2 h76 ⟨b50, 0, none⟩ fun x81 =>
 callSlice P n_ref19_of #[(.slice p78 l78 c78), (.slice p79 l79 c79)] h76 fun p83 l83 c83 h82 =>
 holdW (watchL 0 ⟨b50, 0, none⟩ (mkS' A2 x81) 0) h82 (
 holdW (watchL 0 ⟨b50, 0, none⟩ (mkS' A2 x80) 0) h82 (
 cellH h82 (Addr.add f_5 1) = some (.slice p77 l77 c77) ∧
 callInt P .i64 n_ref19_most #[(.slice p83 l83 c83)] h82 fun n85 h84 =>
 holdW (watchL 0 ⟨b50, 0, none⟩ (mkS' A2 x81) 0) h84 (
 holdW (watchL 0 ⟨b50, 0, none⟩ (mkS' A2 x80) 0) h84 (
 cellH h84 ⟨b50, 1, none⟩ = some (.slice p79 l79 c79) ∧
 cellH h84 (Addr.add f_5 1) = some (.slice p78 l78 c78) ∧
 cellH h84 (Addr.add f_5 1) = some (.slice p77 l77 c77) ∧
 callInt P .i64 n_ref14_Span #[(agS A2 x80)] h84 fun n87 h86 =>
 holdW (watchL 0 ⟨b50, 0, none⟩ (mkS' A2 x81) 0) h86 (
 cellH h86 ⟨b50, 1, none⟩ = some (.slice p79 l79 c79) ∧
 cellH h86 (Addr.add f_5 1) = some (.slice p78 l78 c78) ∧
 cellH h86 (Addr.add f_5 1) = some (.slice p77 l77 c77) ∧
 callInt P .i64 n_ref14_Left #[(agS A2 x81)] h86 fun n89 h88 =>
 holdW (watchL 0 ⟨b50, 0, none⟩ (mkS' A2 x80) 0) h88 (
 cellH h88 ⟨b50, 1, none⟩ = some (.slice p79 l79 c79) ∧
 cellH h88 (Addr.add f_5 1) = some (.slice p78 l78 c78) ∧
 cellH h88 (Addr.add f_5 1) = some (.slice p77 l77 c77) ∧
 idxI p77 n46 l77 fun a90 =>
 stI h88 (Addr.add a90 (n46.toNat * 1)) (.int .i64 (IntKind.wrap .i64 (n85 + (IntKind.wrap .i64 (n64 * (IntKind.wrap .i64 ((IntKind.wrap .i64 (n87 - (1 : Int))) - n89))))))) fun h91 =>
 ldAg A2 h91 ⟨b50, 0, none⟩ fun x92 =>
 ldInt .i64 h91 (Addr.add f_5 3) fun n93 =>
 ldSlice h91 (Addr.add r_3 1) fun p94 l94 c94 =>
 ldSlice h91 ⟨b50, 1, none⟩ fun p95 l95 c95 =>
 idxI p95 (0 : Int) l95 fun a96 =>
 ldInt .i64 h91 (Addr.add a96 ((0 : Int).toNat * 1)) fun n97 =>
 idxI p94 n97 l94 fun a98 =>
 ldInt .i64 h91 (Addr.add a98 (n97.toNat * 1)) fun n99 =>
 callInt P .i64 n_ref17_Cost #[(agS A2 x92), (.int .i64 n99)] h91 fun n101 h100 =>
 cellH h100 (Addr.add r_3 1) = some (.slice p94 l94 c94) ∧
 cellH h100 (Addr.add f_5 3) = some (.int .i64 n93) ∧
 stI h100 (Addr.add f_5 3) (.int .i64 (IntKind.wrap .i64 (n93 + n101))) fun h102 =>
 K1 (g_1, t2, r_3, n_4, f_5, (IntKind.wrap .i64 (k_6 + (1 : Int))), ()) h102))))))))) (
 ldAg A2 h55 ⟨b50, 0, none⟩ fun x103 =>
 ldInt .i64 h55 (Addr.add f_5 3) fun n104 =>
 ldSlice h55 (Addr.add r_3 1) fun p105 l105 c105 =>
 ldSlice h55 ⟨b50, 1, none⟩ fun p106 l106 c106 =>
 idxI p106 (0 : Int) l106 fun a107 =>
 ldInt .i64 h55 (Addr.add a107 ((0 : Int).toNat * 1)) fun n108 =>
 idxI p105 n108 l105 fun a109 =>
 ldInt .i64 h55 (Addr.add a109 (n108.toNat * 1)) fun n110 =>
 callInt P .i64 n_ref17_Cost #[(agS A2 x103), (.int .i64 n110)] h55 fun n112 h111 =>
 cellH h111 (Addr.add r_3 1) = some (.slice p105 l105 c105) ∧
 cellH h111 (Addr.add f_5 3) = some (.int .i64 n104) ∧
 stI h111 (Addr.add f_5 3) (.int .i64 (IntKind.wrap .i64 (n104 + n112))) fun h113 =>
 K1 (g_1, t2, r_3, n_4, f_5, (IntKind.wrap .i64 (k_6 + (1 : Int))), ()) h113)) (
 LoopS (S := (Addr × Addr × Addr × Int × Addr × Int × Unit)) (fun K2 s h => ref19_Look_l19 Q K1 K2 s.1 s.2.1 s.2.2.1 s.2.2.2.1 s.2.2.2.2.1 s.2.2.2.2.2.1 h) (g_1, t2, r_3, n_4, f_5, (1 : Int), ()) h43)
def ref19_Look_leaf (Q : Value → Heap → Prop) (b1 b3 b12 l27 bS bL bH bR : Nat) (h : Heap) : Prop :=
 stI h ⟨bS, 0, none⟩ (.slice (some ⟨bL, 0, none⟩) ((IntKind.wrap .i64 (((l27 : Nat) : Int) + (1 : Int))).toNat) ((IntKind.wrap .i64 (((l27 : Nat) : Int) + (1 : Int))).toNat)) fun h1 =>
 stI h1 ⟨bS, 1, none⟩ (.slice (some ⟨bH, 0, none⟩) ((IntKind.wrap .i64 (((l27 : Nat) : Int) + (1 : Int))).toNat) ((IntKind.wrap .i64 (((l27 : Nat) : Int) + (1 : Int))).toNat)) fun h2 =>
 stI h2 ⟨bS, 2, none⟩ (.slice (some ⟨bR, 0, none⟩) ((IntKind.wrap .i64 (((l27 : Nat) : Int) + (1 : Int))).toNat) ((IntKind.wrap .i64 (((l27 : Nat) : Int) + (1 : Int))).toNat)) fun h3 =>
 stI h3 ⟨bS, 3, none⟩ (.int .i64 (0 : Int)) fun h4 =>
 ldSlice h4 ⟨bS, 2, none⟩ fun p5 l5 c5 =>
 idxI p5 (0 : Int) l5 fun a6 =>
 stI h4 (Addr.add a6 ((0 : Int).toNat * 1)) (.int .i64 (1 : Int)) fun h7 =>
 LoopS (S := (Addr × Addr × Addr × Int × Addr × Int × Unit)) (fun K1 s h => ref19_Look_l8 Q K1 s.1 s.2.1 s.2.2.1 s.2.2.2.1 s.2.2.2.2.1 s.2.2.2.2.2.1 h) (⟨b1, 0, none⟩, ⟨b3, 0, none⟩, ⟨b12, 0, none⟩, ((l27 : Nat) : Int), ⟨bS, 0, none⟩, (0 : Int), ()) h7
def ref19_mk (l27 : Nat) (h : Heap) (K : Nat → Heap → Prop) : Prop := mkI 3 1 8 (.int .i64 (0 : Int)) (IntKind.wrap .i64 (((l27 : Nat) : Int) + (1 : Int))) (IntKind.wrap .i64 (((l27 : Nat) : Int) + (1 : Int))) h K
def ref19_Look (g_0 : TS A1) (h : Heap) (Q : Value → Heap → Prop) : Prop :=
 newI h (.cells (mkS' A1 g_0).toArray 28 (0, 0)) fun b1 h2 =>
 newI h2 (.cells #[(.slice none 0 0), (.slice none 0 0), (.slice none 0 0), (.int .i64 (0 : Int))] 43 (0, 0)) fun b3 h4 =>
 ldAg A1 h4 ⟨b1, 0, none⟩ fun x5 =>
 callP P n_ref16_Look #[(agS A1 x5)] h4 fun v7 h6 =>
 ∃ p8 : Option Addr, ∃ l8 : Nat, ∃ c8 : Nat, ∃ p9 : Option Addr, ∃ l9 : Nat, ∃ c9 : Nat, ∃ p10 : Option Addr, ∃ l10 : Nat, ∃ c10 : Nat, ∃ n11 : Int, v7 = (.agg #[(.slice p8 l8 c8), (.slice p9 l9 c9), (.slice p10 l10 c10), (.int .i64 n11)]) ∧
 newI h6 (.cells #[(.slice none 0 0), (.slice none 0 0), (.slice none 0 0), (.int .i64 (0 : Int))] 33 (0, 0)) fun b12 h13 =>
 stI h13 ⟨b12, 0, none⟩ (.slice p8 l8 c8) fun h14 =>
 stI h14 ⟨b12, 1, none⟩ (.slice p9 l9 c9) fun h15 =>
 stI h15 ⟨b12, 2, none⟩ (.slice p10 l10 c10) fun h16 =>
 stI h16 ⟨b12, 3, none⟩ (.int .i64 n11) fun h17 =>
 ldInt .i64 h17 ⟨b12, 3, none⟩ fun n18 =>
 ifB (n18 != (0 : Int)) (
 stI h17 ⟨b3, 0, none⟩ (.slice none 0 0) fun h19 =>
 stI h19 ⟨b3, 1, none⟩ (.slice none 0 0) fun h20 =>
 stI h20 ⟨b3, 2, none⟩ (.slice none 0 0) fun h21 =>
 stI h21 ⟨b3, 3, none⟩ (.int .i64 (0 : Int)) fun h22 =>
 ldSlice h22 ⟨b3, 0, none⟩ fun p23 l23 c23 =>
 ldSlice h22 ⟨b3, 1, none⟩ fun p24 l24 c24 =>
 ldSlice h22 ⟨b3, 2, none⟩ fun p25 l25 c25 =>
 ldInt .i64 h22 ⟨b3, 3, none⟩ fun n26 =>
 Q (.agg #[(.slice p23 l23 c23), (.slice p24 l24 c24), (.slice p25 l25 c25), (.int .i64 n26)]) h22) (
 ldSlice h17 ⟨b1, 3, none⟩ fun p27 l27 c27 =>
 (
 ref19_mk l27 h17 fun b28 h29 =>
 (
 ref19_mk l27 h29 fun b30 h31 =>
 (
 ref19_mk l27 h31 fun b32 h33 =>
 newI h33 (.cells #[(.slice none 0 0), (.slice none 0 0), (.slice none 0 0), (.int .i64 (0 : Int))] 43 (0, 0)) fun b34 h35 =>
 ref19_Look_leaf Q b1 b3 b12 l27 b34 b28 b30 b32 h35) ∧ (
 newI h31 (.cells #[(.slice none 0 0), (.slice none 0 0), (.slice none 0 0), (.int .i64 (0 : Int))] 43 (0, 0)) fun b153 h154 =>
 ref19_mk l27 h154 fun b155 h156 =>
 ref19_Look_leaf Q b1 b3 b12 l27 b153 b28 b30 b155 h156)) ∧ (
 (
 ref19_mk l27 h29 fun b274 h275 =>
 (
 ref19_mk l27 h275 fun b276 h277 =>
 newI h277 (.cells #[(.slice none 0 0), (.slice none 0 0), (.slice none 0 0), (.int .i64 (0 : Int))] 43 (0, 0)) fun b278 h279 =>
 ref19_Look_leaf Q b1 b3 b12 l27 b278 b28 b276 b274 h279) ∧ (
 newI h275 (.cells #[(.slice none 0 0), (.slice none 0 0), (.slice none 0 0), (.int .i64 (0 : Int))] 43 (0, 0)) fun b397 h398 =>
 ref19_mk l27 h398 fun b399 h400 =>
 ref19_Look_leaf Q b1 b3 b12 l27 b397 b28 b399 b274 h400)) ∧ (
 newI h29 (.cells #[(.slice none 0 0), (.slice none 0 0), (.slice none 0 0), (.int .i64 (0 : Int))] 43 (0, 0)) fun b518 h519 =>
 (
 ref19_mk l27 h519 fun b520 h521 =>
 ref19_mk l27 h521 fun b522 h523 =>
 ref19_Look_leaf Q b1 b3 b12 l27 b518 b28 b520 b522 h523) ∧ (
 ref19_mk l27 h519 fun b641 h642 =>
 ref19_mk l27 h642 fun b643 h644 =>
 ref19_Look_leaf Q b1 b3 b12 l27 b518 b28 b643 b641 h644)))) ∧ (
 (
 ref19_mk l27 h17 fun b762 h763 =>
 (
 ref19_mk l27 h763 fun b764 h765 =>
 (
 ref19_mk l27 h765 fun b766 h767 =>
 newI h767 (.cells #[(.slice none 0 0), (.slice none 0 0), (.slice none 0 0), (.int .i64 (0 : Int))] 43 (0, 0)) fun b768 h769 =>
 ref19_Look_leaf Q b1 b3 b12 l27 b768 b764 b762 b766 h769) ∧ (
 newI h765 (.cells #[(.slice none 0 0), (.slice none 0 0), (.slice none 0 0), (.int .i64 (0 : Int))] 43 (0, 0)) fun b887 h888 =>
 ref19_mk l27 h888 fun b889 h890 =>
 ref19_Look_leaf Q b1 b3 b12 l27 b887 b764 b762 b889 h890)) ∧ (
 (
 ref19_mk l27 h763 fun b1008 h1009 =>
 (
 ref19_mk l27 h1009 fun b1010 h1011 =>
 newI h1011 (.cells #[(.slice none 0 0), (.slice none 0 0), (.slice none 0 0), (.int .i64 (0 : Int))] 43 (0, 0)) fun b1012 h1013 =>
 ref19_Look_leaf Q b1 b3 b12 l27 b1012 b1010 b762 b1008 h1013) ∧ (
 newI h1009 (.cells #[(.slice none 0 0), (.slice none 0 0), (.slice none 0 0), (.int .i64 (0 : Int))] 43 (0, 0)) fun b1131 h1132 =>
 ref19_mk l27 h1132 fun b1133 h1134 =>
 ref19_Look_leaf Q b1 b3 b12 l27 b1131 b1133 b762 b1008 h1134)) ∧ (
 newI h763 (.cells #[(.slice none 0 0), (.slice none 0 0), (.slice none 0 0), (.int .i64 (0 : Int))] 43 (0, 0)) fun b1252 h1253 =>
 (
 ref19_mk l27 h1253 fun b1254 h1255 =>
 ref19_mk l27 h1255 fun b1256 h1257 =>
 ref19_Look_leaf Q b1 b3 b12 l27 b1252 b1254 b762 b1256 h1257) ∧ (
 ref19_mk l27 h1253 fun b1375 h1376 =>
 ref19_mk l27 h1376 fun b1377 h1378 =>
 ref19_Look_leaf Q b1 b3 b12 l27 b1252 b1377 b762 b1375 h1378)))) ∧ (
 (
 ref19_mk l27 h17 fun b1496 h1497 =>
 (
 ref19_mk l27 h1497 fun b1498 h1499 =>
 (
 ref19_mk l27 h1499 fun b1500 h1501 =>
 newI h1501 (.cells #[(.slice none 0 0), (.slice none 0 0), (.slice none 0 0), (.int .i64 (0 : Int))] 43 (0, 0)) fun b1502 h1503 =>
 ref19_Look_leaf Q b1 b3 b12 l27 b1502 b1498 b1500 b1496 h1503) ∧ (
 newI h1499 (.cells #[(.slice none 0 0), (.slice none 0 0), (.slice none 0 0), (.int .i64 (0 : Int))] 43 (0, 0)) fun b1621 h1622 =>
 ref19_mk l27 h1622 fun b1623 h1624 =>
 ref19_Look_leaf Q b1 b3 b12 l27 b1621 b1498 b1623 b1496 h1624)) ∧ (
 (
 ref19_mk l27 h1497 fun b1742 h1743 =>
 (
 ref19_mk l27 h1743 fun b1744 h1745 =>
 newI h1745 (.cells #[(.slice none 0 0), (.slice none 0 0), (.slice none 0 0), (.int .i64 (0 : Int))] 43 (0, 0)) fun b1746 h1747 =>
 ref19_Look_leaf Q b1 b3 b12 l27 b1746 b1744 b1742 b1496 h1747) ∧ (
 newI h1743 (.cells #[(.slice none 0 0), (.slice none 0 0), (.slice none 0 0), (.int .i64 (0 : Int))] 43 (0, 0)) fun b1865 h1866 =>
 ref19_mk l27 h1866 fun b1867 h1868 =>
 ref19_Look_leaf Q b1 b3 b12 l27 b1865 b1867 b1742 b1496 h1868)) ∧ (
 newI h1497 (.cells #[(.slice none 0 0), (.slice none 0 0), (.slice none 0 0), (.int .i64 (0 : Int))] 43 (0, 0)) fun b1986 h1987 =>
 (
 ref19_mk l27 h1987 fun b1988 h1989 =>
 ref19_mk l27 h1989 fun b1990 h1991 =>
 ref19_Look_leaf Q b1 b3 b12 l27 b1986 b1988 b1990 b1496 h1991) ∧ (
 ref19_mk l27 h1987 fun b2109 h2110 =>
 ref19_mk l27 h2110 fun b2111 h2112 =>
 ref19_Look_leaf Q b1 b3 b12 l27 b1986 b2111 b2109 b1496 h2112)))) ∧ (
 newI h17 (.cells #[(.slice none 0 0), (.slice none 0 0), (.slice none 0 0), (.int .i64 (0 : Int))] 43 (0, 0)) fun b2230 h2231 =>
 (
 ref19_mk l27 h2231 fun b2232 h2233 =>
 (
 ref19_mk l27 h2233 fun b2234 h2235 =>
 ref19_mk l27 h2235 fun b2236 h2237 =>
 ref19_Look_leaf Q b1 b3 b12 l27 b2230 b2232 b2234 b2236 h2237) ∧ (
 ref19_mk l27 h2233 fun b2355 h2356 =>
 ref19_mk l27 h2356 fun b2357 h2358 =>
 ref19_Look_leaf Q b1 b3 b12 l27 b2230 b2232 b2357 b2355 h2358)) ∧ (
 (
 ref19_mk l27 h2231 fun b2476 h2477 =>
 (
 ref19_mk l27 h2477 fun b2478 h2479 =>
 ref19_mk l27 h2479 fun b2480 h2481 =>
 ref19_Look_leaf Q b1 b3 b12 l27 b2230 b2478 b2476 b2480 h2481) ∧ (
 ref19_mk l27 h2477 fun b2599 h2600 =>
 ref19_mk l27 h2600 fun b2601 h2602 =>
 ref19_Look_leaf Q b1 b3 b12 l27 b2230 b2601 b2476 b2599 h2602)) ∧ (
 ref19_mk l27 h2231 fun b2720 h2721 =>
 (
 ref19_mk l27 h2721 fun b2722 h2723 =>
 ref19_mk l27 h2723 fun b2724 h2725 =>
 ref19_Look_leaf Q b1 b3 b12 l27 b2230 b2722 b2724 b2720 h2725) ∧ (
 ref19_mk l27 h2721 fun b2843 h2844 =>
 ref19_mk l27 h2844 fun b2845 h2846 =>
 ref19_Look_leaf Q b1 b3 b12 l27 b2230 b2845 b2843 b2720 h2846)))))))
noncomputable def tab_ref19_Look : Tab := { sch := lookT .done [(5, (ones [0, 1, 3, 4, 6, 7] (.alt 2 (.alt 5 (.alt 8 (ones [9] (.alt 10 (.alt 11 .done .stop) .stop)) (.alt 10 (.alt 8 (ones [9] (.alt 11 .done .stop)) .stop) .stop)) (.alt 8 (.alt 5 (ones [9] (.alt 10 (.alt 11 .done .stop) .stop)) (.alt 10 (.alt 5 (ones [9] (.alt 11 .done .stop)) .stop) .stop)) (.alt 10 (.alt 5 (.alt 8 (ones [9] (.alt 11 .done .stop)) .stop) (.alt 8 (.alt 5 (ones [9] (.alt 11 .done .stop)) .stop) .stop)) .stop))) (.alt 5 (.alt 2 (.alt 8 (ones [9] (.alt 10 (.alt 11 .done .stop) .stop)) (.alt 10 (.alt 8 (ones [9] (.alt 11 .done .stop)) .stop) .stop)) (.alt 8 (.alt 2 (ones [9] (.alt 10 (.alt 11 .done .stop) .stop)) (.alt 10 (.alt 2 (ones [9] (.alt 11 .done .stop)) .stop) .stop)) (.alt 10 (.alt 2 (.alt 8 (ones [9] (.alt 11 .done .stop)) .stop) (.alt 8 (.alt 2 (ones [9] (.alt 11 .done .stop)) .stop) .stop)) .stop))) (.alt 8 (.alt 2 (.alt 5 (ones [9] (.alt 10 (.alt 11 .done .stop) .stop)) (.alt 10 (.alt 5 (ones [9] (.alt 11 .done .stop)) .stop) .stop)) (.alt 5 (.alt 2 (ones [9] (.alt 10 (.alt 11 .done .stop) .stop)) (.alt 10 (.alt 2 (ones [9] (.alt 11 .done .stop)) .stop) .stop)) (.alt 10 (.alt 2 (.alt 5 (ones [9] (.alt 11 .done .stop)) .stop) (.alt 5 (.alt 2 (ones [9] (.alt 11 .done .stop)) .stop) .stop)) .stop))) (.alt 10 (.alt 2 (.alt 5 (.alt 8 (ones [9] (.alt 11 .done .stop)) .stop) (.alt 8 (.alt 5 (ones [9] (.alt 11 .done .stop)) .stop) .stop)) (.alt 5 (.alt 2 (.alt 8 (ones [9] (.alt 11 .done .stop)) .stop) (.alt 8 (.alt 2 (ones [9] (.alt 11 .done .stop)) .stop) .stop)) (.alt 8 (.alt 2 (.alt 5 (ones [9] (.alt 11 .done .stop)) .stop) (.alt 5 (.alt 2 (ones [9] (.alt 11 .done .stop)) .stop) .stop)) .stop))) .stop)))))), (14, (ones [0, 2, 1, 3, 4, 5, 6, 7, 8] .done)), (15, (ones [0, 2, 3, 5, 9] (.early 1 (.early 4 (.early 6 (.early 10 (.alt 7 (.alt 8 (.alt 11 (ones [12, 13, 14] (.alt 15 .done .stop)) .stop) .stop) .stop))))))), (16, (ones [0, 2, 3, 5, 9] (.early 1 (.early 4 (.early 6 (.early 10 (.early 13 (.alt 7 (.alt 8 (.alt 11 (ones [12] (.alt 14 (ones [15, 16, 17, 18] (.alt 19 .done .stop)) .stop)) .stop) .stop) .stop)))))))), (17, (ones [0, 3, 5, 2] (.early 1 (.early 4 (.alt 6 (ones [7] (.alt 8 (ones [9, 10] (.alt 11 (ones [12, 13] (.alt 14 .done .stop)) .stop)) .stop)) .stop))))), (25, (ones [0, 2, 4, 7, 9, 11, 17, 18, 20, 16] (.early 1 (.early 3 (ones [5] (.early 6 (.early 8 (.early 10 (ones [12] (.early 13 (ones [14] (.early 15 (.alt 19 (ones [21, 22] (.alt 23 (ones [24, 25] (.alt 26 .done .stop)) .stop)) .stop)))))))))))))], lp := lookT [] [(8, [(1, .sc (.adr)), (2, .sc (.adr)), (3, .sc (.adr)), (4, .sc (.int .i64)), (5, .sc (.adr)), (6, .sc (.int .i64))]), (19, [(1, .sc (.adr)), (2, .sc (.adr)), (3, .sc (.adr)), (4, .sc (.int .i64)), (5, .sc (.adr)), (10, .sc (.int .i64))]), (23, [(1, .sc (.adr)), (2, .sc (.adr)), (3, .sc (.adr)), (4, .sc (.int .i64)), (5, .sc (.adr)), (10, .sc (.int .i64)), (11, .sc (.adr)), (12, .sc (.int .i64))])], jn := lookT none [] }
theorem eq_ref19_Look (g_0 : TS A1) (h : Heap) (Q : Value → Heap → Prop) : fnI P Tryd.f14 tab_ref19_Look [(agS A1 g_0)] h Q = ref19_Look g_0 h Q := by kernel_rfl
theorem ok_ref19_Look : fnOk P Tryd.f14 tab_ref19_Look = true := by kernel_rfl
theorem call_ref19_Look (g_0 : TS A1) {h : Heap} {Q : Value → Heap → Prop} (H : ref19_Look g_0 h Q) : callP P n_ref19_Look #[(agS A1 g_0)] h Q :=
 @callP_of P n_ref19_Look Tryd.f14 tab_ref19_Look [(agS A1 g_0)] h Q mixed Tryd.func14 Tryd.call14 ok_ref19_Look (Eq.mpr (eq_ref19_Look g_0 h Q) H)

/-! ### earshot/earshotlaw21.FuseGood: function 5 -/
def law21_FuseGood_l13 (Q : Value → Heap → Prop) (K1 : Y44 → Heap → Prop) (up_5 : Bool) (g_6 : Addr) (h_7 : Addr) (r_8 : Addr) (s_9 : Addr) (again_10 : Bool) (all_11_p : Option Addr) (all_11_n : Nat) (all_11_c : Nat) (i_12 : Int) (h55 : Heap) : Prop :=
 ifB (decide (i_12 < ((all_11_n : Nat) : Int))) (
 idxI all_11_p i_12 all_11_n fun a56 =>
 ldBool h55 (Addr.add a56 (i_12.toNat * 1)) fun b57 =>
 ifB (!b57) (
 Q (.bool false) h55) (
 K1 (up_5, g_6, h_7, r_8, s_9, again_10, (all_11_p, all_11_n, all_11_c), (IntKind.wrap .i64 (i_12 + (1 : Int))), ()) h55)) (
 ldAg A1 h55 g_6 fun x58 =>
 callP P n_ref19_Look #[(agS A1 x58)] h55 fun v60 h59 =>
 ∃ p61 : Option Addr, ∃ l61 : Nat, ∃ c61 : Nat, ∃ p62 : Option Addr, ∃ l62 : Nat, ∃ c62 : Nat, ∃ p63 : Option Addr, ∃ l63 : Nat, ∃ c63 : Nat, ∃ n64 : Int, v60 = (.agg #[(.slice p61 l61 c61), (.slice p62 l62 c62), (.slice p63 l63 c63), (.int .i64 n64)]) ∧
 newI h59 (.cells #[(.slice none 0 0), (.slice none 0 0), (.slice none 0 0), (.int .i64 (0 : Int))] 43 (0, 0)) fun b65 h66 =>
 stI h66 ⟨b65, 0, none⟩ (.slice p61 l61 c61) fun h67 =>
 stI h67 ⟨b65, 1, none⟩ (.slice p62 l62 c62) fun h68 =>
 stI h68 ⟨b65, 2, none⟩ (.slice p63 l63 c63) fun h69 =>
 stI h69 ⟨b65, 3, none⟩ (.int .i64 n64) fun h70 =>
 ldAg A1 h70 h_7 fun x71 =>
 callP P n_ref19_Look #[(agS A1 x71)] h70 fun v73 h72 =>
 ∃ p74 : Option Addr, ∃ l74 : Nat, ∃ c74 : Nat, ∃ p75 : Option Addr, ∃ l75 : Nat, ∃ c75 : Nat, ∃ p76 : Option Addr, ∃ l76 : Nat, ∃ c76 : Nat, ∃ n77 : Int, v73 = (.agg #[(.slice p74 l74 c74), (.slice p75 l75 c75), (.slice p76 l76 c76), (.int .i64 n77)]) ∧
 newI h72 (.cells #[(.slice none 0 0), (.slice none 0 0), (.slice none 0 0), (.int .i64 (0 : Int))] 43 (0, 0)) fun b78 h79 =>
 stI h79 ⟨b78, 0, none⟩ (.slice p74 l74 c74) fun h80 =>
 stI h80 ⟨b78, 1, none⟩ (.slice p75 l75 c75) fun h81 =>
 stI h81 ⟨b78, 2, none⟩ (.slice p76 l76 c76) fun h82 =>
 stI h82 ⟨b78, 3, none⟩ (.int .i64 n77) fun h83 =>
 ifB up_5 (
 ifB again_10 (
 ldSlice h83 (Addr.add r_8 2) fun p84 l84 c84 =>
 ldInt .i64 h83 (Addr.add g_6 4) fun n85 =>
 idxI p84 n85 l84 fun a86 =>
 ldInt .i64 h83 (Addr.add a86 (n85.toNat * 1)) fun n87 =>
 ldSlice h83 (Addr.add s_9 2) fun p88 l88 c88 =>
 ldInt .i64 h83 (Addr.add h_7 4) fun n89 =>
 idxI p88 n89 l88 fun a90 =>
 ldInt .i64 h83 (Addr.add a90 (n89.toNat * 1)) fun n91 =>
 ifB (n87 == n91) (
 ldSlice h83 (Addr.add r_8 1) fun p92 l92 c92 =>
 ldInt .i64 h83 (Addr.add g_6 4) fun n93 =>
 idxI p92 n93 l92 fun a94 =>
 ldInt .i64 h83 (Addr.add a94 (n93.toNat * 1)) fun n95 =>
 ldSlice h83 (Addr.add s_9 1) fun p96 l96 c96 =>
 ldInt .i64 h83 (Addr.add h_7 4) fun n97 =>
 idxI p96 n97 l96 fun a98 =>
 ldInt .i64 h83 (Addr.add a98 (n97.toNat * 1)) fun n99 =>
 ifB (n95 == n99) (
 ldSlice h83 ⟨b65, 1, none⟩ fun p100 l100 c100 =>
 ldInt .i64 h83 (Addr.add g_6 4) fun n101 =>
 idxI p100 n101 l100 fun a102 =>
 ldInt .i64 h83 (Addr.add a102 (n101.toNat * 1)) fun n103 =>
 ldSlice h83 ⟨b78, 1, none⟩ fun p104 l104 c104 =>
 ldInt .i64 h83 (Addr.add h_7 4) fun n105 =>
 idxI p104 n105 l104 fun a106 =>
 ldInt .i64 h83 (Addr.add a106 (n105.toNat * 1)) fun n107 =>
 ifB (n103 == n107) (
 ldSlice h83 ⟨b65, 0, none⟩ fun p108 l108 c108 =>
 ldInt .i64 h83 (Addr.add g_6 4) fun n109 =>
 idxI p108 n109 l108 fun a110 =>
 ldInt .i64 h83 (Addr.add a110 (n109.toNat * 1)) fun n111 =>
 ldSlice h83 ⟨b78, 0, none⟩ fun p112 l112 c112 =>
 ldInt .i64 h83 (Addr.add h_7 4) fun n113 =>
 idxI p112 n113 l112 fun a114 =>
 ldInt .i64 h83 (Addr.add a114 (n113.toNat * 1)) fun n115 =>
 ifB (n111 == n115) (
 ldInt .i64 h83 ⟨b78, 3, none⟩ fun n116 =>
 ldInt .i64 h83 ⟨b65, 3, none⟩ fun n117 =>
 Q (.bool (decide (n116 ≤ n117))) h83) (
 Q (.bool false) h83)) (
 Q (.bool false) h83)) (
 Q (.bool false) h83)) (
 Q (.bool false) h83)) (
 Q (.bool false) h83)) (
 Q (.bool false) h83))
def law21_FuseGood_j8 (Q : Value → Heap → Prop) (up_5 : Bool) (g_6 : Addr) (h_7 : Addr) (r_8 : Addr) (s_9 : Addr) (h43 : Heap) : Prop :=
 ldAg A1 h43 h_7 fun x44 =>
 ldAg A1 h43 h_7 fun x45 =>
 callP P n_fuse_Fuse #[(agS A1 x44)] h43 fun v47 h46 =>
 exS A1 fun x48 => v47 = (agS A1 x48) ∧
 holdW (watchL 0 h_7 (mkS' A1 x45) 0) h46 (
 callBool P n_ref15_Same #[(agS A1 x48), (agS A1 x45)] h46 fun b50 h49 =>
 holdW (watchL 0 h_7 (mkS' A1 x44) 0) h49 (
 ldAg A1 h49 h_7 fun x51 =>
 callSlice P n_fuse_Live #[(agS A1 x51)] h49 fun p53 l53 c53 h52 =>
 ldSlice h52 (Addr.add h_7 3) fun p54 l54 c54 =>
 ifB (((l53 : Nat) : Int) != (IntKind.wrap .i64 (((l54 : Nat) : Int) + (1 : Int)))) (
 Q (.bool false) h52) (
 LoopS (S := Y44) (fun K1 s h => law21_FuseGood_l13 Q K1 s.1 s.2.1 s.2.2.1 s.2.2.2.1 s.2.2.2.2.1 s.2.2.2.2.2.1 s.2.2.2.2.2.2.1.1 s.2.2.2.2.2.2.1.2.1 s.2.2.2.2.2.2.1.2.2 s.2.2.2.2.2.2.2.1 h) (up_5, g_6, h_7, r_8, s_9, b50, (p53, l53, c53), (1 : Int), ()) h52)))
def law21_FuseGood (l_0_p : Option Addr) (l_0_n : Nat) (l_0_c : Nat) (more_1 : Int) (h : Heap) (Q : Value → Heap → Prop) : Prop :=
 callBool P n_law21_awake #[] h fun b2 h1 =>
 callP P n_ref21_Made #[(.slice l_0_p l_0_n l_0_c), (.int .i64 more_1)] h1 fun v4 h3 =>
 exS A1 fun x5 => v4 = (agS A1 x5) ∧
 newI h3 (.cells (mkS' A1 (zT A1)).toArray 28 (0, 0)) fun b6 h7 =>
 storeL (mkS' A1 x5) h7 ⟨b6, 0, none⟩ 0 fun h8 =>
 ldAg A1 h8 ⟨b6, 0, none⟩ fun x9 =>
 callP P n_fuse_Fuse #[(agS A1 x9)] h8 fun v11 h10 =>
 exS A1 fun x12 => v11 = (agS A1 x12) ∧
 newI h10 (.cells (mkS' A1 (zT A1)).toArray 28 (0, 0)) fun b13 h14 =>
 storeL (mkS' A1 x12) h14 ⟨b13, 0, none⟩ 0 fun h15 =>
 ldAg A1 h15 ⟨b6, 0, none⟩ fun x16 =>
 callP P n_ref16_Look #[(agS A1 x16)] h15 fun v18 h17 =>
 ∃ p19 : Option Addr, ∃ l19 : Nat, ∃ c19 : Nat, ∃ p20 : Option Addr, ∃ l20 : Nat, ∃ c20 : Nat, ∃ p21 : Option Addr, ∃ l21 : Nat, ∃ c21 : Nat, ∃ n22 : Int, v18 = (.agg #[(.slice p19 l19 c19), (.slice p20 l20 c20), (.slice p21 l21 c21), (.int .i64 n22)]) ∧
 newI h17 (.cells #[(.slice none 0 0), (.slice none 0 0), (.slice none 0 0), (.int .i64 (0 : Int))] 33 (0, 0)) fun b23 h24 =>
 stI h24 ⟨b23, 0, none⟩ (.slice p19 l19 c19) fun h25 =>
 stI h25 ⟨b23, 1, none⟩ (.slice p20 l20 c20) fun h26 =>
 stI h26 ⟨b23, 2, none⟩ (.slice p21 l21 c21) fun h27 =>
 stI h27 ⟨b23, 3, none⟩ (.int .i64 n22) fun h28 =>
 ldAg A1 h28 ⟨b13, 0, none⟩ fun x29 =>
 callP P n_ref16_Look #[(agS A1 x29)] h28 fun v31 h30 =>
 ∃ p32 : Option Addr, ∃ l32 : Nat, ∃ c32 : Nat, ∃ p33 : Option Addr, ∃ l33 : Nat, ∃ c33 : Nat, ∃ p34 : Option Addr, ∃ l34 : Nat, ∃ c34 : Nat, ∃ n35 : Int, v31 = (.agg #[(.slice p32 l32 c32), (.slice p33 l33 c33), (.slice p34 l34 c34), (.int .i64 n35)]) ∧
 newI h30 (.cells #[(.slice none 0 0), (.slice none 0 0), (.slice none 0 0), (.int .i64 (0 : Int))] 33 (0, 0)) fun b36 h37 =>
 stI h37 ⟨b36, 0, none⟩ (.slice p32 l32 c32) fun h38 =>
 stI h38 ⟨b36, 1, none⟩ (.slice p33 l33 c33) fun h39 =>
 stI h39 ⟨b36, 2, none⟩ (.slice p34 l34 c34) fun h40 =>
 stI h40 ⟨b36, 3, none⟩ (.int .i64 n35) fun h41 =>
 ∃ J42 : (Bool × Addr × Addr × Addr × Addr × Unit) → Heap → Prop, (∀ s h, J42 s h → law21_FuseGood_j8 Q s.1 s.2.1 s.2.2.1 s.2.2.2.1 s.2.2.2.2.1 h) ∧
 ldInt .i64 h41 ⟨b36, 3, none⟩ fun n118 =>
 ifB (n118 != (0 : Int)) (
 Q (.bool false) h41) (
 ldSlice h41 ⟨b13, 3, none⟩ fun p119 l119 c119 =>
 ldSlice h41 ⟨b6, 3, none⟩ fun p120 l120 c120 =>
 ifB (decide (((l119 : Nat) : Int) > ((l120 : Nat) : Int))) (
 Q (.bool false) h41) (
 J42 (b2, ⟨b6, 0, none⟩, ⟨b13, 0, none⟩, ⟨b23, 0, none⟩, ⟨b36, 0, none⟩, ()) h41))
noncomputable def tab_law21_FuseGood : Tab := { sch := lookT .done [(8, (.early 0 (.early 2 (.alt 1 (.alt 3 (ones [4] .done) .stop) .stop)))), (19, (ones [0, 1, 2, 3, 4, 5, 7, 11, 13, 6, 8, 9, 10, 12, 14, 15, 16, 17, 18, 19, 20, 22, 26, 28, 21, 23, 24, 25, 27, 29, 30, 31, 32, 33, 34, 35, 37, 41, 43, 36, 38, 39, 40, 42, 44, 45, 46, 47, 48, 49, 50, 52, 56, 58, 51, 53, 54, 55, 57, 59, 60, 61, 62, 63, 64, 65, 67, 66, 68, 69, 70, 71] .done))], lp := lookT [] [(13, [(5, .sc (.bool)), (6, .sc (.adr)), (7, .sc (.adr)), (8, .sc (.adr)), (9, .sc (.adr)), (10, .sc (.bool)), (11, .sc (.slice)), (12, .sc (.int .i64))])], jn := lookT none [(8, some [(5, .sc (.bool)), (6, .sc (.adr)), (7, .sc (.adr)), (8, .sc (.adr)), (9, .sc (.adr))])] }
theorem eq_law21_FuseGood (l_0_p : Option Addr) (l_0_n : Nat) (l_0_c : Nat) (more_1 : Int) (h : Heap) (Q : Value → Heap → Prop) : fnI P Tryd.f5 tab_law21_FuseGood [(.slice l_0_p l_0_n l_0_c), (.int .i64 more_1)] h Q = law21_FuseGood l_0_p l_0_n l_0_c more_1 h Q := by kernel_rfl
theorem ok_law21_FuseGood : fnOk P Tryd.f5 tab_law21_FuseGood = true := by kernel_rfl
theorem call_law21_FuseGood (l_0_p : Option Addr) (l_0_n : Nat) (l_0_c : Nat) (more_1 : Int) {h : Heap} {Q : Value → Heap → Prop} (H : law21_FuseGood l_0_p l_0_n l_0_c more_1 h Q) : callP P n_law21_FuseGood #[(.slice l_0_p l_0_n l_0_c), (.int .i64 more_1)] h Q :=
 @callP_of P n_law21_FuseGood Tryd.f5 tab_law21_FuseGood [(.slice l_0_p l_0_n l_0_c), (.int .i64 more_1)] h Q mixed Tryd.func5 Tryd.call5 ok_law21_FuseGood (Eq.mpr (eq_law21_FuseGood l_0_p l_0_n l_0_c more_1 h Q) H)

end Go.Proofs.YtbgplllcjhgdhaaDoor.G
