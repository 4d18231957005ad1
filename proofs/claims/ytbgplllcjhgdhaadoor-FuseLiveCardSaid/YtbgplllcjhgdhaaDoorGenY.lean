/- Printed by shp.py out of the program's own print: for each Go function a typed formula over heaps, and the proof that a call does just that. -/
import Derived.Test.YtbgplllcjhgdhaaDoorGen
set_option linter.unusedVariables false
set_option maxRecDepth 100000
namespace Go.Proofs.YtbgplllcjhgdhaaDoor.G
open Go Go.Sh
/-! ### earshot/earshotlaw21.FuseLive: function 6 -/
def law21_FuseLive_l13 (Q : Value → Heap → Prop) (K1 : Y41 → Heap → Prop) (K2 : Y42 → Heap → Prop) (up_5 : Bool) (g_6 : Addr) (a_7_p : Option Addr) (a_7_n : Nat) (a_7_c : Nat) (h_8 : Addr) (i_9 : Int) (in_10_p : Option Addr) (in_10_n : Nat) (in_10_c : Nat) (j_11 : Int) (h28 : Heap) : Prop :=
  ifB (decide (j_11 < ((in_10_n : Nat) : Int))) (
    idxI a_7_p i_9 a_7_n fun a29 =>
    ldBool h28 (Addr.add a29 (i_9.toNat * 1)) fun b30 =>
    ifB b30 (
      idxI in_10_p j_11 in_10_n fun a31 =>
      ldInt .i64 h28 (Addr.add a31 (j_11.toNat * 1)) fun n32 =>
      idxI a_7_p n32 a_7_n fun a33 =>
      ldBool h28 (Addr.add a33 (n32.toNat * 1)) fun b34 =>
      ifB (!b34) (
        Q (.bool false) h28) (
        K2 (up_5, g_6, (a_7_p, a_7_n, a_7_c), h_8, i_9, (in_10_p, in_10_n, in_10_c), (IntKind.wrap .i64 (j_11 + (1 : Int))), ()) h28)) (
      K2 (up_5, g_6, (a_7_p, a_7_n, a_7_c), h_8, i_9, (in_10_p, in_10_n, in_10_c), (IntKind.wrap .i64 (j_11 + (1 : Int))), ()) h28)) (
    idxI a_7_p i_9 a_7_n fun a35 =>
    ldBool h28 (Addr.add a35 (i_9.toNat * 1)) fun b36 =>
    ifB (!b36) (
      ldSlice h28 (Addr.add h_8 3) fun p37 l37 c37 =>
      newI h28 (.cells #[(.int .i64 (0 : Int))] 3 (0, 0)) fun b38 h39 =>
      idxI p37 (IntKind.wrap .i64 (i_9 - (1 : Int))) l37 fun a40 =>
      storeL [(.int .i64 (5 : Int)), (.slice (some ⟨b38, 0, none⟩) 1 1), (.int .i64 (0 : Int)), (.int .i64 (0 : Int)), (.int .i64 (0 : Int)), (.int .i64 (0 : Int)), (.int .i64 (0 : Int)), (.int .i64 (0 : Int)), (.slice none 0 0), (.slice none 0 0), (.int .i64 (0 : Int)), (.int .i64 (0 : Int)), (.int .i64 (0 : Int)), (.int .i64 (0 : Int)), (.int .i64 (0 : Int))] h39 (Addr.add a40 ((IntKind.wrap .i64 (i_9 - (1 : Int))).toNat * 15)) 0 fun h41 =>
      K1 (up_5, g_6, (a_7_p, a_7_n, a_7_c), h_8, (IntKind.wrap .i64 (i_9 + (1 : Int))), ()) h41) (
      K1 (up_5, g_6, (a_7_p, a_7_n, a_7_c), h_8, (IntKind.wrap .i64 (i_9 + (1 : Int))), ()) h28))
def law21_FuseLive_l9 (Q : Value → Heap → Prop) (K1 : Y41 → Heap → Prop) (up_5 : Bool) (g_6 : Addr) (a_7_p : Option Addr) (a_7_n : Nat) (a_7_c : Nat) (h_8 : Addr) (i_9 : Int) (h24 : Heap) : Prop :=
  ifB (decide (i_9 < ((a_7_n : Nat) : Int))) (
    ldSlice h24 (Addr.add g_6 3) fun p25 l25 c25 =>
    idxI p25 (IntKind.wrap .i64 (i_9 - (1 : Int))) l25 fun a26 =>
    ldSlice h24 (Addr.add (Addr.add a26 ((IntKind.wrap .i64 (i_9 - (1 : Int))).toNat * 15)) 1) fun p27 l27 c27 =>
    LoopS (S := Y42) (fun K2 s h => law21_FuseLive_l13 Q K1 K2 s.1 s.2.1 s.2.2.1.1 s.2.2.1.2.1 s.2.2.1.2.2 s.2.2.2.1 s.2.2.2.2.1 s.2.2.2.2.2.1.1 s.2.2.2.2.2.1.2.1 s.2.2.2.2.2.1.2.2 s.2.2.2.2.2.2.1 h) (up_5, g_6, (a_7_p, a_7_n, a_7_c), h_8, i_9, (p27, l27, c27), (0 : Int), ()) h24) (
    ldAg A1 h24 g_6 fun x42 =>
    ldAg A1 h24 h_8 fun x43 =>
    callP P n_fuse_Fuse #[(agS A1 x42)] h24 fun v45 h44 =>
    exS A1 fun x46 => v45 = (agS A1 x46) ∧
    holdW (watchL 0 h_8 (mkS' A1 x43) 0) h44 (
      callP P n_fuse_Fuse #[(agS A1 x43)] h44 fun v48 h47 =>
      exS A1 fun x49 => v48 = (agS A1 x49) ∧
      holdW (watchL 0 g_6 (mkS' A1 x42) 0) h47 (
        callBool P n_ref15_Same #[(agS A1 x46), (agS A1 x49)] h47 fun b51 h50 =>
        holdW (watchL 0 h_8 (mkS' A1 x43) 0) h50 (
          holdW (watchL 0 g_6 (mkS' A1 x42) 0) h50 (
            ifB up_5 (
              Q (.bool b51) h50) (
              Q (.bool false) h50))))))
def law21_FuseLive_j6 (Q : Value → Heap → Prop) (up_5 : Bool) (g_6 : Addr) (a_7_p : Option Addr) (a_7_n : Nat) (a_7_c : Nat) (h13 : Heap) : Prop :=
  ldAg A1 h13 g_6 fun x14 =>
  newI h13 (.cells (mkS' A1 (zT A1)).toArray 28 (0, 0)) fun b15 h16 =>
  storeL (mkS' A1 x14) h16 ⟨b15, 0, none⟩ 0 fun h17 =>
  newI h17 (.cells #[] 25 (0, 0)) fun b18 h19 =>
  ldSlice h19 (Addr.add g_6 3) fun p20 l20 c20 =>
  appI 25 15 168 (agS A2 (zT A2)) (some ⟨b18, 0, none⟩) 0 0 p20 l20 h19 fun p21 l21 c21 h22 =>
  stI h22 ⟨b15, 3, none⟩ (.slice p21 l21 c21) fun h23 =>
  LoopS (S := Y41) (fun K1 s h => law21_FuseLive_l9 Q K1 s.1 s.2.1 s.2.2.1.1 s.2.2.1.2.1 s.2.2.1.2.2 s.2.2.2.1 s.2.2.2.2.1 h) (up_5, g_6, (a_7_p, a_7_n, a_7_c), ⟨b15, 0, none⟩, (1 : Int), ()) h23
def law21_FuseLive (l_0_p : Option Addr) (l_0_n : Nat) (l_0_c : Nat) (more_1 : Int) (h : Heap) (Q : Value → Heap → Prop) : Prop :=
  callBool P n_law21_awake #[] h fun b2 h1 =>
  callP P n_ref21_Made #[(.slice l_0_p l_0_n l_0_c), (.int .i64 more_1)] h1 fun v4 h3 =>
  exS A1 fun x5 => v4 = (agS A1 x5) ∧
  newI h3 (.cells (mkS' A1 (zT A1)).toArray 28 (0, 0)) fun b6 h7 =>
  storeL (mkS' A1 x5) h7 ⟨b6, 0, none⟩ 0 fun h8 =>
  ldAg A1 h8 ⟨b6, 0, none⟩ fun x9 =>
  callSlice P n_fuse_Live #[(agS A1 x9)] h8 fun p11 l11 c11 h10 =>
  ∃ J12 : (Bool × Addr × (Option Addr × Nat × Nat) × Unit) → Heap → Prop, (∀ s h, J12 s h → law21_FuseLive_j6 Q s.1 s.2.1 s.2.2.1.1 s.2.2.1.2.1 s.2.2.1.2.2 h) ∧
  ldSlice h10 ⟨b6, 3, none⟩ fun p52 l52 c52 =>
  ifB (((l11 : Nat) : Int) != (IntKind.wrap .i64 (((l52 : Nat) : Int) + (1 : Int)))) (
    Q (.bool false) h10) (
    ldInt .i64 h10 ⟨b6, 4, none⟩ fun n53 =>
    idxI p11 n53 l11 fun a54 =>
    ldBool h10 (Addr.add a54 (n53.toNat * 1)) fun b55 =>
    ifB (!b55) (
      Q (.bool false) h10) (
      J12 (b2, ⟨b6, 0, none⟩, (p11, l11, c11), ()) h10))
noncomputable def tab_law21_FuseLive : Tab := { sch := lookT .done [(19, (.early 0 (.early 2 (.alt 1 (.alt 3 (.alt 4 (ones [5] .done) .stop) .stop) .stop))))], lp := lookT [] [(9, [(5, .sc (.bool)), (6, .sc (.adr)), (7, .sc (.slice)), (8, .sc (.adr)), (9, .sc (.int .i64))]), (13, [(5, .sc (.bool)), (6, .sc (.adr)), (7, .sc (.slice)), (8, .sc (.adr)), (9, .sc (.int .i64)), (10, .sc (.slice)), (11, .sc (.int .i64))])], jn := lookT none [(6, some [(5, .sc (.bool)), (6, .sc (.adr)), (7, .sc (.slice))])] }
theorem eq_law21_FuseLive (l_0_p : Option Addr) (l_0_n : Nat) (l_0_c : Nat) (more_1 : Int) (h : Heap) (Q : Value → Heap → Prop) : fnI P Tryd.f6 tab_law21_FuseLive [(.slice l_0_p l_0_n l_0_c), (.int .i64 more_1)] h Q = law21_FuseLive l_0_p l_0_n l_0_c more_1 h Q := by kernel_rfl
theorem ok_law21_FuseLive : fnOk P Tryd.f6 tab_law21_FuseLive = true := by kernel_rfl
theorem call_law21_FuseLive (l_0_p : Option Addr) (l_0_n : Nat) (l_0_c : Nat) (more_1 : Int) {h : Heap} {Q : Value → Heap → Prop} (H : law21_FuseLive l_0_p l_0_n l_0_c more_1 h Q) : callP P n_law21_FuseLive #[(.slice l_0_p l_0_n l_0_c), (.int .i64 more_1)] h Q :=
  @callP_of P n_law21_FuseLive Tryd.f6 tab_law21_FuseLive [(.slice l_0_p l_0_n l_0_c), (.int .i64 more_1)] h Q mixed Tryd.func6 Tryd.call6 ok_law21_FuseLive (Eq.mpr (eq_law21_FuseLive l_0_p l_0_n l_0_c more_1 h Q) H)

end Go.Proofs.YtbgplllcjhgdhaaDoor.G
