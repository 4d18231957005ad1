/- Printed by shp.py out of the program's own print: for each Go function a typed formula over heaps, and the proof that a call does just that. -/
import Derived.Test.YtdjofpdmdbcgjabProg
import Derived.Test.YtdjofpdmdbcgjabShW
set_option linter.unusedVariables false
set_option maxRecDepth 100000
namespace Go.Proofs.Ytdjofpdmdbcgjab.G
open Go Go.Sh
noncomputable abbrev P : Program := Try.prog
theorem mixed : P.follows .mixedOrders = true := by kernel_rfl
abbrev n_tape_place_moved : FuncId := 39
abbrev n_tape_Writer_put : FuncId := 38
abbrev n_tape_Writer_Short : FuncId := 33
abbrev n_tape_Writer_Word : FuncId := 28
abbrev n_tape_Writer_Row : FuncId := 30
abbrev n_tape_Writer_Text : FuncId := 11
abbrev n_law06_awake : FuncId := 8
abbrev n_law06_Item_kind : FuncId := 14
abbrev n_tape_Writer_Byte : FuncId := 31
abbrev n_ref06_Bytes : FuncId := 32
abbrev n_tape_Writer_Long : FuncId := 34
abbrev n_law06_Item_xs : FuncId := 29
abbrev n_ref06_Row : FuncId := 35
abbrev n_law06_Item_write : FuncId := 9
abbrev n_tape_place_told : FuncId := 36
abbrev n_tape_Writer_At : FuncId := 10
abbrev n_law06_TapeWrites : FuncId := 3
abbrev n_tape_Read : FuncId := 12
abbrev n_ref06_Read : FuncId := 13
abbrev n_tape_Reader_Left : FuncId := 25
abbrev n_tape_Reader_get : FuncId := 37
abbrev n_tape_Reader_Byte : FuncId := 15
abbrev n_ref06_Reader_Left : FuncId := 26
abbrev n_ref06_Reader_Num : FuncId := 16
abbrev n_tape_Reader_Short : FuncId := 17
abbrev n_tape_Reader_Word : FuncId := 18
abbrev n_ref06_Reader_Word : FuncId := 19
abbrev n_tape_Reader_Long : FuncId := 20
abbrev n_tape_Reader_Err : FuncId := 27
abbrev n_tape_Reader_Row : FuncId := 22
abbrev n_ref06_Reader_Row : FuncId := 23
abbrev n_ref04_Same : FuncId := 21
abbrev n_tape_Reader_At : FuncId := 24
abbrev n_law06_TapeReads : FuncId := 4
abbrev n_law06_TapeShort : FuncId := 5
abbrev n_law06_TapeNil : FuncId := 6
abbrev n_law06_TapeBack : FuncId := 7
/-! ### (*earshot/tape.place).moved: function 39 -/
def tape_place_moved (p_0 : Option Addr) (n_1 : Int) (h : Heap) (Q : Value → Heap → Prop) : Prop :=
  nilI p_0 fun a1 =>
  ldInt .i64 h a1 fun n2 =>
  nilI p_0 fun a3 =>
  stI h a3 (.int .i64 (IntKind.wrap .i64 (n2 + n_1))) fun h4 =>
  Q (.tuple #[]) h4
noncomputable def tab_tape_place_moved : Tab := { sch := lookT .done [], lp := lookT [] [], jn := lookT none [] }
theorem eq_tape_place_moved (p_0 : Option Addr) (n_1 : Int) (h : Heap) (Q : Value → Heap → Prop) : fnI P Try.f39 tab_tape_place_moved [(.pointer p_0), (.int .i64 n_1)] h Q = tape_place_moved p_0 n_1 h Q := by kernel_rfl
theorem ok_tape_place_moved : fnOk P Try.f39 tab_tape_place_moved = true := by kernel_rfl
theorem call_tape_place_moved (p_0 : Option Addr) (n_1 : Int) {h : Heap} {Q : Value → Heap → Prop} (H : tape_place_moved p_0 n_1 h Q) : callP P n_tape_place_moved #[(.pointer p_0), (.int .i64 n_1)] h Q :=
  @callP_of P n_tape_place_moved Try.f39 tab_tape_place_moved [(.pointer p_0), (.int .i64 n_1)] h Q mixed Try.func39 Try.call39 ok_tape_place_moved (Eq.mpr (eq_tape_place_moved p_0 n_1 h Q) H)

/-! ### (*earshot/tape.Writer).put: function 38 -/
def tape_Writer_put_l2 (Q : Value → Heap → Prop) (K1 : (Option Addr × Int × Int × Int × Int × Unit) → Heap → Prop) (w_0 : Option Addr) (x_1 : Int) (n_2 : Int) (t8 : Int) (t9 : Int) (h1 : Heap) : Prop :=
  ifB (decide (t9 < t8)) (
    nilI w_0 fun a2 =>
    ldSlice h1 (Addr.add a2 1) fun p3 l3 c3 =>
    newI h1 (.cells #[(.int .u8 (IntKind.wrap .u8 x_1))] 5 (0, 0)) fun b4 h5 =>
    appI 5 1 1 (.int .u8 (0 : Int)) p3 l3 c3 (some ⟨b4, 0, none⟩) 1 h5 fun p6 l6 c6 h7 =>
    nilI w_0 fun a8 =>
    stI h7 (Addr.add a8 1) (.slice p6 l6 c6) fun h9 =>
    K1 (w_0, (shrI x_1 8), n_2, t8, (IntKind.wrap .i64 (t9 + (1 : Int))), ()) h9) (
    nilI w_0 fun a10 =>
    callUnit P n_tape_place_moved #[(.pointer (some a10)), (.int .i64 n_2)] h1 fun h11 =>
    Q (.tuple #[]) h11)
def tape_Writer_put (w_0 : Option Addr) (x_1 : Int) (n_2 : Int) (h : Heap) (Q : Value → Heap → Prop) : Prop :=
  ifB ((w_0).isNone) (
    Q (.tuple #[]) h) (
    LoopS (S := (Option Addr × Int × Int × Int × Int × Unit)) (fun K1 s h => tape_Writer_put_l2 Q K1 s.1 s.2.1 s.2.2.1 s.2.2.2.1 s.2.2.2.2.1 h) (w_0, x_1, n_2, n_2, (0 : Int), ()) h)
noncomputable def tab_tape_Writer_put : Tab := { sch := lookT .done [], lp := lookT [] [(2, [(0, .sc (.ptr)), (1, .sc (.int .u64)), (2, .sc (.int .i64)), (8, .sc (.int .i64)), (9, .sc (.int .i64))])], jn := lookT none [] }
theorem eq_tape_Writer_put (w_0 : Option Addr) (x_1 : Int) (n_2 : Int) (h : Heap) (Q : Value → Heap → Prop) : fnI P Try.f38 tab_tape_Writer_put [(.pointer w_0), (.int .u64 x_1), (.int .i64 n_2)] h Q = tape_Writer_put w_0 x_1 n_2 h Q := by kernel_rfl
theorem ok_tape_Writer_put : fnOk P Try.f38 tab_tape_Writer_put = true := by kernel_rfl
theorem call_tape_Writer_put (w_0 : Option Addr) (x_1 : Int) (n_2 : Int) {h : Heap} {Q : Value → Heap → Prop} (H : tape_Writer_put w_0 x_1 n_2 h Q) : callP P n_tape_Writer_put #[(.pointer w_0), (.int .u64 x_1), (.int .i64 n_2)] h Q :=
  @callP_of P n_tape_Writer_put Try.f38 tab_tape_Writer_put [(.pointer w_0), (.int .u64 x_1), (.int .i64 n_2)] h Q mixed Try.func38 Try.call38 ok_tape_Writer_put (Eq.mpr (eq_tape_Writer_put w_0 x_1 n_2 h Q) H)

/-! ### (*earshot/tape.Writer).Short: function 33 -/
def tape_Writer_Short (w_0 : Option Addr) (x_1 : Int) (h : Heap) (Q : Value → Heap → Prop) : Prop :=
  callUnit P n_tape_Writer_put #[(.pointer w_0), (.int .u64 (IntKind.wrap .u64 x_1)), (.int .i64 (2 : Int))] h fun h1 =>
  Q (.tuple #[]) h1
noncomputable def tab_tape_Writer_Short : Tab := { sch := lookT .done [], lp := lookT [] [], jn := lookT none [] }
theorem eq_tape_Writer_Short (w_0 : Option Addr) (x_1 : Int) (h : Heap) (Q : Value → Heap → Prop) : fnI P Try.f33 tab_tape_Writer_Short [(.pointer w_0), (.int .i64 x_1)] h Q = tape_Writer_Short w_0 x_1 h Q := by kernel_rfl
theorem ok_tape_Writer_Short : fnOk P Try.f33 tab_tape_Writer_Short = true := by kernel_rfl
theorem call_tape_Writer_Short (w_0 : Option Addr) (x_1 : Int) {h : Heap} {Q : Value → Heap → Prop} (H : tape_Writer_Short w_0 x_1 h Q) : callP P n_tape_Writer_Short #[(.pointer w_0), (.int .i64 x_1)] h Q :=
  @callP_of P n_tape_Writer_Short Try.f33 tab_tape_Writer_Short [(.pointer w_0), (.int .i64 x_1)] h Q mixed Try.func33 Try.call33 ok_tape_Writer_Short (Eq.mpr (eq_tape_Writer_Short w_0 x_1 h Q) H)

/-! ### (*earshot/tape.Writer).Word: function 28 -/
def tape_Writer_Word (w_0 : Option Addr) (x_1 : Int) (h : Heap) (Q : Value → Heap → Prop) : Prop :=
  callUnit P n_tape_Writer_put #[(.pointer w_0), (.int .u64 (IntKind.wrap .u64 x_1)), (.int .i64 (4 : Int))] h fun h1 =>
  Q (.tuple #[]) h1
noncomputable def tab_tape_Writer_Word : Tab := { sch := lookT .done [], lp := lookT [] [], jn := lookT none [] }
theorem eq_tape_Writer_Word (w_0 : Option Addr) (x_1 : Int) (h : Heap) (Q : Value → Heap → Prop) : fnI P Try.f28 tab_tape_Writer_Word [(.pointer w_0), (.int .i64 x_1)] h Q = tape_Writer_Word w_0 x_1 h Q := by kernel_rfl
theorem ok_tape_Writer_Word : fnOk P Try.f28 tab_tape_Writer_Word = true := by kernel_rfl
theorem call_tape_Writer_Word (w_0 : Option Addr) (x_1 : Int) {h : Heap} {Q : Value → Heap → Prop} (H : tape_Writer_Word w_0 x_1 h Q) : callP P n_tape_Writer_Word #[(.pointer w_0), (.int .i64 x_1)] h Q :=
  @callP_of P n_tape_Writer_Word Try.f28 tab_tape_Writer_Word [(.pointer w_0), (.int .i64 x_1)] h Q mixed Try.func28 Try.call28 ok_tape_Writer_Word (Eq.mpr (eq_tape_Writer_Word w_0 x_1 h Q) H)

/-! ### (*earshot/tape.Writer).Row: function 30 -/
def tape_Writer_Row_l3 (Q : Value → Heap → Prop) (K1 : (Option Addr × (Option Addr × Nat × Nat) × Int × Int × Unit) → Heap → Prop) (w_0 : Option Addr) (t13_p : Option Addr) (t13_n : Nat) (t13_c : Nat) (t14 : Int) (t15 : Int) (h2 : Heap) : Prop :=
  ifB (decide (t15 < t14)) (
    idxI t13_p t15 t13_n fun a3 =>
    ldInt .i64 h2 (Addr.add a3 (t15.toNat * 1)) fun n4 =>
    callUnit P n_tape_Writer_Word #[(.pointer w_0), (.int .i64 n4)] h2 fun h5 =>
    K1 (w_0, (t13_p, t13_n, t13_c), t14, (IntKind.wrap .i64 (t15 + (1 : Int))), ()) h5) (
    Q (.tuple #[]) h2)
def tape_Writer_Row (w_0 : Option Addr) (xs_1_p : Option Addr) (xs_1_n : Nat) (xs_1_c : Nat) (h : Heap) (Q : Value → Heap → Prop) : Prop :=
  ifB (decide (((xs_1_n : Nat) : Int) > (65535 : Int))) (
    Q (.tuple #[]) h) (
    callUnit P n_tape_Writer_Short #[(.pointer w_0), (.int .i64 ((xs_1_n : Nat) : Int))] h fun h1 =>
    LoopS (S := (Option Addr × (Option Addr × Nat × Nat) × Int × Int × Unit)) (fun K1 s h => tape_Writer_Row_l3 Q K1 s.1 s.2.1.1 s.2.1.2.1 s.2.1.2.2 s.2.2.1 s.2.2.2.1 h) (w_0, (xs_1_p, xs_1_n, xs_1_c), ((xs_1_n : Nat) : Int), (0 : Int), ()) h1)
noncomputable def tab_tape_Writer_Row : Tab := { sch := lookT .done [], lp := lookT [] [(3, [(0, .sc (.ptr)), (13, .sc (.slice)), (14, .sc (.int .i64)), (15, .sc (.int .i64))])], jn := lookT none [] }
theorem eq_tape_Writer_Row (w_0 : Option Addr) (xs_1_p : Option Addr) (xs_1_n : Nat) (xs_1_c : Nat) (h : Heap) (Q : Value → Heap → Prop) : fnI P Try.f30 tab_tape_Writer_Row [(.pointer w_0), (.slice xs_1_p xs_1_n xs_1_c)] h Q = tape_Writer_Row w_0 xs_1_p xs_1_n xs_1_c h Q := by kernel_rfl
theorem ok_tape_Writer_Row : fnOk P Try.f30 tab_tape_Writer_Row = true := by kernel_rfl
theorem call_tape_Writer_Row (w_0 : Option Addr) (xs_1_p : Option Addr) (xs_1_n : Nat) (xs_1_c : Nat) {h : Heap} {Q : Value → Heap → Prop} (H : tape_Writer_Row w_0 xs_1_p xs_1_n xs_1_c h Q) : callP P n_tape_Writer_Row #[(.pointer w_0), (.slice xs_1_p xs_1_n xs_1_c)] h Q :=
  @callP_of P n_tape_Writer_Row Try.f30 tab_tape_Writer_Row [(.pointer w_0), (.slice xs_1_p xs_1_n xs_1_c)] h Q mixed Try.func30 Try.call30 ok_tape_Writer_Row (Eq.mpr (eq_tape_Writer_Row w_0 xs_1_p xs_1_n xs_1_c h Q) H)

/-! ### (*earshot/tape.Writer).Text: function 11 -/
def tape_Writer_Text (w_0 : Option Addr) (h : Heap) (Q : Value → Heap → Prop) : Prop :=
  ifB ((w_0).isNone) (
    Q (.string (ByteArray.mk #[])) h) (
    nilI w_0 fun a1 =>
    ldSlice h (Addr.add a1 1) fun p2 l2 c2 =>
    b2sB p2 l2 h fun s3 =>
    ∃ s4 : ByteArray, Value.string s3 = Value.string s4 ∧
    Q (.string s4) h)
noncomputable def tab_tape_Writer_Text : Tab := { sch := lookT .done [], lp := lookT [] [], jn := lookT none [] }
theorem eq_tape_Writer_Text (w_0 : Option Addr) (h : Heap) (Q : Value → Heap → Prop) : fnI P Try.f11 tab_tape_Writer_Text [(.pointer w_0)] h Q = tape_Writer_Text w_0 h Q := by kernel_rfl
theorem ok_tape_Writer_Text : fnOk P Try.f11 tab_tape_Writer_Text = true := by kernel_rfl
theorem call_tape_Writer_Text (w_0 : Option Addr) {h : Heap} {Q : Value → Heap → Prop} (H : tape_Writer_Text w_0 h Q) : callP P n_tape_Writer_Text #[(.pointer w_0)] h Q :=
  @callP_of P n_tape_Writer_Text Try.f11 tab_tape_Writer_Text [(.pointer w_0)] h Q mixed Try.func11 Try.call11 ok_tape_Writer_Text (Eq.mpr (eq_tape_Writer_Text w_0 h Q) H)

/-! ### earshot/earshotlaw06.awake: function 8 -/
def law06_awake (h : Heap) (Q : Value → Heap → Prop) : Prop :=
  newI h (.cells #[(.int .i64 (0 : Int)), (.slice none 0 0)] 28 (0, 0)) fun b1 h2 =>
  newI h2 (.cells #[(.int .i64 (-1 : Int)), (.int .i64 (5 : Int))] 3 (0, 0)) fun b3 h4 =>
  callUnit P n_tape_Writer_Row #[(.pointer (some ⟨b1, 0, none⟩)), (.slice (some ⟨b3, 0, none⟩) 2 2)] h4 fun h5 =>
  callStr P n_tape_Writer_Text #[(.pointer (some ⟨b1, 0, none⟩))] h5 fun s7 h6 =>
  Q (.bool (s7.toList == (ByteArray.mk #[2, 0, 255, 255, 255, 255, 5, 0, 0, 0]).toList)) h6
noncomputable def tab_law06_awake : Tab := { sch := lookT .done [], lp := lookT [] [], jn := lookT none [] }
theorem eq_law06_awake (h : Heap) (Q : Value → Heap → Prop) : fnI P Try.f8 tab_law06_awake [] h Q = law06_awake  h Q := by kernel_rfl
theorem ok_law06_awake : fnOk P Try.f8 tab_law06_awake = true := by kernel_rfl
theorem call_law06_awake {h : Heap} {Q : Value → Heap → Prop} (H : law06_awake  h Q) : callP P n_law06_awake #[] h Q :=
  @callP_of P n_law06_awake Try.f8 tab_law06_awake [] h Q mixed Try.func8 Try.call8 ok_law06_awake (Eq.mpr (eq_law06_awake  h Q) H)

/-! ### (earshot/earshotlaw06.Item).kind: function 14 -/
def law06_Item_kind (q_0_0 : Int) (q_0_1 : Int) (q_0_2_p : Option Addr) (q_0_2_n : Nat) (q_0_2_c : Nat) (h : Heap) (Q : Value → Heap → Prop) : Prop :=
  newI h (.cells #[(.int .i64 q_0_0), (.int .i64 q_0_1), (.slice q_0_2_p q_0_2_n q_0_2_c)] 31 (0, 0)) fun b1 h2 =>
  ldInt .i64 h2 ⟨b1, 0, none⟩ fun n3 =>
  Q (.int .i64 (Int.tmod (IntKind.wrap .i64 ((Int.tmod n3 (5 : Int)) + (5 : Int))) (5 : Int))) h2
noncomputable def tab_law06_Item_kind : Tab := { sch := lookT .done [], lp := lookT [] [], jn := lookT none [] }
theorem eq_law06_Item_kind (q_0_0 : Int) (q_0_1 : Int) (q_0_2_p : Option Addr) (q_0_2_n : Nat) (q_0_2_c : Nat) (h : Heap) (Q : Value → Heap → Prop) : fnI P Try.f14 tab_law06_Item_kind [(.agg #[(.int .i64 q_0_0), (.int .i64 q_0_1), (.slice q_0_2_p q_0_2_n q_0_2_c)])] h Q = law06_Item_kind q_0_0 q_0_1 q_0_2_p q_0_2_n q_0_2_c h Q := by kernel_rfl
theorem ok_law06_Item_kind : fnOk P Try.f14 tab_law06_Item_kind = true := by kernel_rfl
theorem call_law06_Item_kind (q_0_0 : Int) (q_0_1 : Int) (q_0_2_p : Option Addr) (q_0_2_n : Nat) (q_0_2_c : Nat) {h : Heap} {Q : Value → Heap → Prop} (H : law06_Item_kind q_0_0 q_0_1 q_0_2_p q_0_2_n q_0_2_c h Q) : callP P n_law06_Item_kind #[(.agg #[(.int .i64 q_0_0), (.int .i64 q_0_1), (.slice q_0_2_p q_0_2_n q_0_2_c)])] h Q :=
  @callP_of P n_law06_Item_kind Try.f14 tab_law06_Item_kind [(.agg #[(.int .i64 q_0_0), (.int .i64 q_0_1), (.slice q_0_2_p q_0_2_n q_0_2_c)])] h Q mixed Try.func14 Try.call14 ok_law06_Item_kind (Eq.mpr (eq_law06_Item_kind q_0_0 q_0_1 q_0_2_p q_0_2_n q_0_2_c h Q) H)

/-! ### (*earshot/tape.Writer).Byte: function 31 -/
def tape_Writer_Byte (w_0 : Option Addr) (x_1 : Int) (h : Heap) (Q : Value → Heap → Prop) : Prop :=
  callUnit P n_tape_Writer_put #[(.pointer w_0), (.int .u64 (IntKind.wrap .u64 x_1)), (.int .i64 (1 : Int))] h fun h1 =>
  Q (.tuple #[]) h1
noncomputable def tab_tape_Writer_Byte : Tab := { sch := lookT .done [], lp := lookT [] [], jn := lookT none [] }
theorem eq_tape_Writer_Byte (w_0 : Option Addr) (x_1 : Int) (h : Heap) (Q : Value → Heap → Prop) : fnI P Try.f31 tab_tape_Writer_Byte [(.pointer w_0), (.int .i64 x_1)] h Q = tape_Writer_Byte w_0 x_1 h Q := by kernel_rfl
theorem ok_tape_Writer_Byte : fnOk P Try.f31 tab_tape_Writer_Byte = true := by kernel_rfl
theorem call_tape_Writer_Byte (w_0 : Option Addr) (x_1 : Int) {h : Heap} {Q : Value → Heap → Prop} (H : tape_Writer_Byte w_0 x_1 h Q) : callP P n_tape_Writer_Byte #[(.pointer w_0), (.int .i64 x_1)] h Q :=
  @callP_of P n_tape_Writer_Byte Try.f31 tab_tape_Writer_Byte [(.pointer w_0), (.int .i64 x_1)] h Q mixed Try.func31 Try.call31 ok_tape_Writer_Byte (Eq.mpr (eq_tape_Writer_Byte w_0 x_1 h Q) H)

/-! ### earshot/earshotref06.Bytes: function 32 -/
def ref06_Bytes_l3 (Q : Value → Heap → Prop) (K1 : (Int × Int × ByteArray × Int × Unit) → Heap → Prop) (x_0 : Int) (n_1 : Int) (s_5 : ByteArray) (i_6 : Int) (h1 : Heap) : Prop :=
  ifB (decide (i_6 < n_1)) (
    newI h1 (.cells #[(.int .u8 (IntKind.wrap .u8 x_0))] 5 (0, 0)) fun b2 h3 =>
    b2sB (some ⟨b2, 0, none⟩) 1 h3 fun s4 =>
    ∃ s5 : ByteArray, Value.string s4 = Value.string s5 ∧
    addStrI s_5 s5 fun _ =>
    K1 ((IntKind.wrap .u64 (Int.tdiv x_0 (256 : Int))), n_1, (s_5 ++ s5), (IntKind.wrap .i64 (i_6 + (1 : Int))), ()) h3) (
    Q (.string s_5) h1)
def ref06_Bytes (x_0 : Int) (n_1 : Int) (h : Heap) (Q : Value → Heap → Prop) : Prop :=
  LoopS (S := (Int × Int × ByteArray × Int × Unit)) (fun K1 s h => ref06_Bytes_l3 Q K1 s.1 s.2.1 s.2.2.1 s.2.2.2.1 h) (x_0, n_1, (ByteArray.mk #[]), (0 : Int), ()) h
noncomputable def tab_ref06_Bytes : Tab := { sch := lookT .done [], lp := lookT [] [(3, [(0, .sc (.int .u64)), (1, .sc (.int .i64)), (5, .sc (.str)), (6, .sc (.int .i64))])], jn := lookT none [] }
theorem eq_ref06_Bytes (x_0 : Int) (n_1 : Int) (h : Heap) (Q : Value → Heap → Prop) : fnI P Try.f32 tab_ref06_Bytes [(.int .u64 x_0), (.int .i64 n_1)] h Q = ref06_Bytes x_0 n_1 h Q := by kernel_rfl
theorem ok_ref06_Bytes : fnOk P Try.f32 tab_ref06_Bytes = true := by kernel_rfl
theorem call_ref06_Bytes (x_0 : Int) (n_1 : Int) {h : Heap} {Q : Value → Heap → Prop} (H : ref06_Bytes x_0 n_1 h Q) : callP P n_ref06_Bytes #[(.int .u64 x_0), (.int .i64 n_1)] h Q :=
  @callP_of P n_ref06_Bytes Try.f32 tab_ref06_Bytes [(.int .u64 x_0), (.int .i64 n_1)] h Q mixed Try.func32 Try.call32 ok_ref06_Bytes (Eq.mpr (eq_ref06_Bytes x_0 n_1 h Q) H)

/-! ### (*earshot/tape.Writer).Long: function 34 -/
def tape_Writer_Long (w_0 : Option Addr) (x_1 : Int) (h : Heap) (Q : Value → Heap → Prop) : Prop :=
  callUnit P n_tape_Writer_put #[(.pointer w_0), (.int .u64 x_1), (.int .i64 (8 : Int))] h fun h1 =>
  Q (.tuple #[]) h1
noncomputable def tab_tape_Writer_Long : Tab := { sch := lookT .done [], lp := lookT [] [], jn := lookT none [] }
theorem eq_tape_Writer_Long (w_0 : Option Addr) (x_1 : Int) (h : Heap) (Q : Value → Heap → Prop) : fnI P Try.f34 tab_tape_Writer_Long [(.pointer w_0), (.int .u64 x_1)] h Q = tape_Writer_Long w_0 x_1 h Q := by kernel_rfl
theorem ok_tape_Writer_Long : fnOk P Try.f34 tab_tape_Writer_Long = true := by kernel_rfl
theorem call_tape_Writer_Long (w_0 : Option Addr) (x_1 : Int) {h : Heap} {Q : Value → Heap → Prop} (H : tape_Writer_Long w_0 x_1 h Q) : callP P n_tape_Writer_Long #[(.pointer w_0), (.int .u64 x_1)] h Q :=
  @callP_of P n_tape_Writer_Long Try.f34 tab_tape_Writer_Long [(.pointer w_0), (.int .u64 x_1)] h Q mixed Try.func34 Try.call34 ok_tape_Writer_Long (Eq.mpr (eq_tape_Writer_Long w_0 x_1 h Q) H)

/-! ### (earshot/earshotlaw06.Item).xs: function 29 -/
def law06_Item_xs (q_0_0 : Int) (q_0_1 : Int) (q_0_2_p : Option Addr) (q_0_2_n : Nat) (q_0_2_c : Nat) (h : Heap) (Q : Value → Heap → Prop) : Prop :=
  newI h (.cells #[(.int .i64 q_0_0), (.int .i64 q_0_1), (.slice q_0_2_p q_0_2_n q_0_2_c)] 31 (0, 0)) fun b1 h2 =>
  ldSlice h2 ⟨b1, 2, none⟩ fun p3 l3 c3 =>
  ifB (decide (((l3 : Nat) : Int) > (9 : Int))) (
    ldSlice h2 ⟨b1, 2, none⟩ fun p4 l4 c4 =>
    bndI (9 : Int) c4 fun l5 =>
    Q (.slice (if c4 = 0 then p4 else Option.map (fun a => a.add (0 * 1)) p4) (l5 - 0) (c4 - 0)) h2) (
    ldSlice h2 ⟨b1, 2, none⟩ fun p6 l6 c6 =>
    Q (.slice p6 l6 c6) h2)
noncomputable def tab_law06_Item_xs : Tab := { sch := lookT .done [], lp := lookT [] [], jn := lookT none [] }
theorem eq_law06_Item_xs (q_0_0 : Int) (q_0_1 : Int) (q_0_2_p : Option Addr) (q_0_2_n : Nat) (q_0_2_c : Nat) (h : Heap) (Q : Value → Heap → Prop) : fnI P Try.f29 tab_law06_Item_xs [(.agg #[(.int .i64 q_0_0), (.int .i64 q_0_1), (.slice q_0_2_p q_0_2_n q_0_2_c)])] h Q = law06_Item_xs q_0_0 q_0_1 q_0_2_p q_0_2_n q_0_2_c h Q := by kernel_rfl
theorem ok_law06_Item_xs : fnOk P Try.f29 tab_law06_Item_xs = true := by kernel_rfl
theorem call_law06_Item_xs (q_0_0 : Int) (q_0_1 : Int) (q_0_2_p : Option Addr) (q_0_2_n : Nat) (q_0_2_c : Nat) {h : Heap} {Q : Value → Heap → Prop} (H : law06_Item_xs q_0_0 q_0_1 q_0_2_p q_0_2_n q_0_2_c h Q) : callP P n_law06_Item_xs #[(.agg #[(.int .i64 q_0_0), (.int .i64 q_0_1), (.slice q_0_2_p q_0_2_n q_0_2_c)])] h Q :=
  @callP_of P n_law06_Item_xs Try.f29 tab_law06_Item_xs [(.agg #[(.int .i64 q_0_0), (.int .i64 q_0_1), (.slice q_0_2_p q_0_2_n q_0_2_c)])] h Q mixed Try.func29 Try.call29 ok_law06_Item_xs (Eq.mpr (eq_law06_Item_xs q_0_0 q_0_1 q_0_2_p q_0_2_n q_0_2_c h Q) H)

/-! ### earshot/earshotref06.Row: function 35 -/
def ref06_Row_l5 (Q : Value → Heap → Prop) (K1 : ((Option Addr × Nat × Nat) × ByteArray × Int × Unit) → Heap → Prop) (xs_0_p : Option Addr) (xs_0_n : Nat) (xs_0_c : Nat) (s_3 : ByteArray) (i_4 : Int) (h3 : Heap) : Prop :=
  ifB (decide (i_4 < ((xs_0_n : Nat) : Int))) (
    idxI xs_0_p i_4 xs_0_n fun a4 =>
    ldInt .i64 h3 (Addr.add a4 (i_4.toNat * 1)) fun n5 =>
    callStr P n_ref06_Bytes #[(.int .u64 (IntKind.wrap .u64 n5)), (.int .i64 (4 : Int))] h3 fun s7 h6 =>
    addStrI s_3 s7 fun _ =>
    K1 ((xs_0_p, xs_0_n, xs_0_c), (s_3 ++ s7), (IntKind.wrap .i64 (i_4 + (1 : Int))), ()) h6) (
    Q (.string s_3) h3)
def ref06_Row (xs_0_p : Option Addr) (xs_0_n : Nat) (xs_0_c : Nat) (h : Heap) (Q : Value → Heap → Prop) : Prop :=
  ifB (decide (((xs_0_n : Nat) : Int) > (65535 : Int))) (
    Q (.string (ByteArray.mk #[])) h) (
    callStr P n_ref06_Bytes #[(.int .u64 (IntKind.wrap .u64 ((xs_0_n : Nat) : Int))), (.int .i64 (2 : Int))] h fun s2 h1 =>
    LoopS (S := ((Option Addr × Nat × Nat) × ByteArray × Int × Unit)) (fun K1 s h => ref06_Row_l5 Q K1 s.1.1 s.1.2.1 s.1.2.2 s.2.1 s.2.2.1 h) ((xs_0_p, xs_0_n, xs_0_c), s2, (0 : Int), ()) h1)
noncomputable def tab_ref06_Row : Tab := { sch := lookT .done [], lp := lookT [] [(5, [(0, .sc (.slice)), (3, .sc (.str)), (4, .sc (.int .i64))])], jn := lookT none [] }
theorem eq_ref06_Row (xs_0_p : Option Addr) (xs_0_n : Nat) (xs_0_c : Nat) (h : Heap) (Q : Value → Heap → Prop) : fnI P Try.f35 tab_ref06_Row [(.slice xs_0_p xs_0_n xs_0_c)] h Q = ref06_Row xs_0_p xs_0_n xs_0_c h Q := by kernel_rfl
theorem ok_ref06_Row : fnOk P Try.f35 tab_ref06_Row = true := by kernel_rfl
theorem call_ref06_Row (xs_0_p : Option Addr) (xs_0_n : Nat) (xs_0_c : Nat) {h : Heap} {Q : Value → Heap → Prop} (H : ref06_Row xs_0_p xs_0_n xs_0_c h Q) : callP P n_ref06_Row #[(.slice xs_0_p xs_0_n xs_0_c)] h Q :=
  @callP_of P n_ref06_Row Try.f35 tab_ref06_Row [(.slice xs_0_p xs_0_n xs_0_c)] h Q mixed Try.func35 Try.call35 ok_ref06_Row (Eq.mpr (eq_ref06_Row xs_0_p xs_0_n xs_0_c h Q) H)

/-! ### (earshot/earshotlaw06.Item).write: function 9 -/
def law06_Item_write (q_0_0 : Int) (q_0_1 : Int) (q_0_2_p : Option Addr) (q_0_2_n : Nat) (q_0_2_c : Nat) (w_1 : Option Addr) (h : Heap) (Q : Value → Heap → Prop) : Prop :=
  newI h (.cells #[(.int .i64 q_0_0), (.int .i64 q_0_1), (.slice q_0_2_p q_0_2_n q_0_2_c)] 31 (0, 0)) fun b1 h2 =>
  ldInt .i64 h2 ⟨b1, 0, none⟩ fun n3 =>
  ldInt .i64 h2 ⟨b1, 1, none⟩ fun n4 =>
  ldSlice h2 ⟨b1, 2, none⟩ fun p5 l5 c5 =>
  callInt P .i64 n_law06_Item_kind #[(.agg #[(.int .i64 n3), (.int .i64 n4), (.slice p5 l5 c5)])] h2 fun n7 h6 =>
  ifB (n7 == (0 : Int)) (
    ldInt .i64 h6 ⟨b1, 1, none⟩ fun n8 =>
    callUnit P n_tape_Writer_Byte #[(.pointer w_1), (.int .i64 n8)] h6 fun h9 =>
    ldInt .i64 h9 ⟨b1, 1, none⟩ fun n10 =>
    callStr P n_ref06_Bytes #[(.int .u64 (IntKind.wrap .u64 n10)), (.int .i64 (1 : Int))] h9 fun s12 h11 =>
    Q (.string s12) h11) (
    ifB (n7 == (1 : Int)) (
      ldInt .i64 h6 ⟨b1, 1, none⟩ fun n13 =>
      callUnit P n_tape_Writer_Short #[(.pointer w_1), (.int .i64 n13)] h6 fun h14 =>
      ldInt .i64 h14 ⟨b1, 1, none⟩ fun n15 =>
      callStr P n_ref06_Bytes #[(.int .u64 (IntKind.wrap .u64 n15)), (.int .i64 (2 : Int))] h14 fun s17 h16 =>
      Q (.string s17) h16) (
      ifB (n7 == (2 : Int)) (
        ldInt .i64 h6 ⟨b1, 1, none⟩ fun n18 =>
        callUnit P n_tape_Writer_Word #[(.pointer w_1), (.int .i64 n18)] h6 fun h19 =>
        ldInt .i64 h19 ⟨b1, 1, none⟩ fun n20 =>
        callStr P n_ref06_Bytes #[(.int .u64 (IntKind.wrap .u64 n20)), (.int .i64 (4 : Int))] h19 fun s22 h21 =>
        Q (.string s22) h21) (
        ifB (n7 == (3 : Int)) (
          ldInt .i64 h6 ⟨b1, 1, none⟩ fun n23 =>
          callUnit P n_tape_Writer_Long #[(.pointer w_1), (.int .u64 (IntKind.wrap .u64 n23))] h6 fun h24 =>
          ldInt .i64 h24 ⟨b1, 1, none⟩ fun n25 =>
          callStr P n_ref06_Bytes #[(.int .u64 (IntKind.wrap .u64 n25)), (.int .i64 (8 : Int))] h24 fun s27 h26 =>
          Q (.string s27) h26) (
          ldInt .i64 h6 ⟨b1, 0, none⟩ fun n28 =>
          ldInt .i64 h6 ⟨b1, 1, none⟩ fun n29 =>
          ldSlice h6 ⟨b1, 2, none⟩ fun p30 l30 c30 =>
          callSlice P n_law06_Item_xs #[(.agg #[(.int .i64 n28), (.int .i64 n29), (.slice p30 l30 c30)])] h6 fun p32 l32 c32 h31 =>
          callUnit P n_tape_Writer_Row #[(.pointer w_1), (.slice p32 l32 c32)] h31 fun h33 =>
          ldInt .i64 h33 ⟨b1, 0, none⟩ fun n34 =>
          ldInt .i64 h33 ⟨b1, 1, none⟩ fun n35 =>
          ldSlice h33 ⟨b1, 2, none⟩ fun p36 l36 c36 =>
          callSlice P n_law06_Item_xs #[(.agg #[(.int .i64 n34), (.int .i64 n35), (.slice p36 l36 c36)])] h33 fun p38 l38 c38 h37 =>
          callStr P n_ref06_Row #[(.slice p38 l38 c38)] h37 fun s40 h39 =>
          Q (.string s40) h39))))
noncomputable def tab_law06_Item_write : Tab := { sch := lookT .done [], lp := lookT [] [], jn := lookT none [] }
theorem eq_law06_Item_write (q_0_0 : Int) (q_0_1 : Int) (q_0_2_p : Option Addr) (q_0_2_n : Nat) (q_0_2_c : Nat) (w_1 : Option Addr) (h : Heap) (Q : Value → Heap → Prop) : fnI P Try.f9 tab_law06_Item_write [(.agg #[(.int .i64 q_0_0), (.int .i64 q_0_1), (.slice q_0_2_p q_0_2_n q_0_2_c)]), (.pointer w_1)] h Q = law06_Item_write q_0_0 q_0_1 q_0_2_p q_0_2_n q_0_2_c w_1 h Q := by kernel_rfl
theorem ok_law06_Item_write : fnOk P Try.f9 tab_law06_Item_write = true := by kernel_rfl
theorem call_law06_Item_write (q_0_0 : Int) (q_0_1 : Int) (q_0_2_p : Option Addr) (q_0_2_n : Nat) (q_0_2_c : Nat) (w_1 : Option Addr) {h : Heap} {Q : Value → Heap → Prop} (H : law06_Item_write q_0_0 q_0_1 q_0_2_p q_0_2_n q_0_2_c w_1 h Q) : callP P n_law06_Item_write #[(.agg #[(.int .i64 q_0_0), (.int .i64 q_0_1), (.slice q_0_2_p q_0_2_n q_0_2_c)]), (.pointer w_1)] h Q :=
  @callP_of P n_law06_Item_write Try.f9 tab_law06_Item_write [(.agg #[(.int .i64 q_0_0), (.int .i64 q_0_1), (.slice q_0_2_p q_0_2_n q_0_2_c)]), (.pointer w_1)] h Q mixed Try.func9 Try.call9 ok_law06_Item_write (Eq.mpr (eq_law06_Item_write q_0_0 q_0_1 q_0_2_p q_0_2_n q_0_2_c w_1 h Q) H)

/-! ### (*earshot/tape.place).told: function 36 -/
def tape_place_told (p_0 : Option Addr) (h : Heap) (Q : Value → Heap → Prop) : Prop :=
  nilI p_0 fun a1 =>
  ldInt .i64 h a1 fun n2 =>
  Q (.int .i64 n2) h
noncomputable def tab_tape_place_told : Tab := { sch := lookT .done [], lp := lookT [] [], jn := lookT none [] }
theorem eq_tape_place_told (p_0 : Option Addr) (h : Heap) (Q : Value → Heap → Prop) : fnI P Try.f36 tab_tape_place_told [(.pointer p_0)] h Q = tape_place_told p_0 h Q := by kernel_rfl
theorem ok_tape_place_told : fnOk P Try.f36 tab_tape_place_told = true := by kernel_rfl
theorem call_tape_place_told (p_0 : Option Addr) {h : Heap} {Q : Value → Heap → Prop} (H : tape_place_told p_0 h Q) : callP P n_tape_place_told #[(.pointer p_0)] h Q :=
  @callP_of P n_tape_place_told Try.f36 tab_tape_place_told [(.pointer p_0)] h Q mixed Try.func36 Try.call36 ok_tape_place_told (Eq.mpr (eq_tape_place_told p_0 h Q) H)

/-! ### (*earshot/tape.Writer).At: function 10 -/
def tape_Writer_At (w_0 : Option Addr) (h : Heap) (Q : Value → Heap → Prop) : Prop :=
  ifB ((w_0).isNone) (
    Q (.int .i64 (0 : Int)) h) (
    nilI w_0 fun a1 =>
    callInt P .i64 n_tape_place_told #[(.pointer (some a1))] h fun n3 h2 =>
    Q (.int .i64 n3) h2)
noncomputable def tab_tape_Writer_At : Tab := { sch := lookT .done [], lp := lookT [] [], jn := lookT none [] }
theorem eq_tape_Writer_At (w_0 : Option Addr) (h : Heap) (Q : Value → Heap → Prop) : fnI P Try.f10 tab_tape_Writer_At [(.pointer w_0)] h Q = tape_Writer_At w_0 h Q := by kernel_rfl
theorem ok_tape_Writer_At : fnOk P Try.f10 tab_tape_Writer_At = true := by kernel_rfl
theorem call_tape_Writer_At (w_0 : Option Addr) {h : Heap} {Q : Value → Heap → Prop} (H : tape_Writer_At w_0 h Q) : callP P n_tape_Writer_At #[(.pointer w_0)] h Q :=
  @callP_of P n_tape_Writer_At Try.f10 tab_tape_Writer_At [(.pointer w_0)] h Q mixed Try.func10 Try.call10 ok_tape_Writer_At (Eq.mpr (eq_tape_Writer_At w_0 h Q) H)

/-! ### earshot/earshotlaw06.TapeWrites: function 3 -/
def law06_TapeWrites_l5 (Q : Value → Heap → Prop) (K1 : ((Option Addr × Nat × Nat) × Bool × Addr × ByteArray × Int × Unit) → Heap → Prop) (script_0_p : Option Addr) (script_0_n : Nat) (script_0_c : Nat) (up_3 : Bool) (w_4 : Addr) (s_5 : ByteArray) (i_6 : Int) (h5 : Heap) : Prop :=
  ifB (decide (i_6 < ((script_0_n : Nat) : Int))) (
    ifB (decide (i_6 < (30 : Int))) (
      idxI script_0_p i_6 script_0_n fun a6 =>
      ldInt .i64 h5 (Addr.add a6 (i_6.toNat * 3)) fun n7 =>
      ldInt .i64 h5 (Addr.add (Addr.add a6 (i_6.toNat * 3)) 1) fun n8 =>
      ldSlice h5 (Addr.add (Addr.add a6 (i_6.toNat * 3)) 2) fun p9 l9 c9 =>
      callStr P n_law06_Item_write #[(.agg #[(.int .i64 n7), (.int .i64 n8), (.slice p9 l9 c9)]), (.pointer (some w_4))] h5 fun s11 h10 =>
      addStrI s_5 s11 fun _ =>
      callInt P .i64 n_tape_Writer_At #[(.pointer (some w_4))] h10 fun n13 h12 =>
      ifB (n13 != (((s_5 ++ s11).size : Nat) : Int)) (
        Q (.bool false) h12) (
        K1 ((script_0_p, script_0_n, script_0_c), up_3, w_4, (s_5 ++ s11), (IntKind.wrap .i64 (i_6 + (1 : Int))), ()) h12)) (
      ifB up_3 (
        callStr P n_tape_Writer_Text #[(.pointer (some w_4))] h5 fun s15 h14 =>
        Q (.bool (s15.toList == s_5.toList)) h14) (
        Q (.bool false) h5))) (
    ifB up_3 (
      callStr P n_tape_Writer_Text #[(.pointer (some w_4))] h5 fun s17 h16 =>
      Q (.bool (s17.toList == s_5.toList)) h16) (
      Q (.bool false) h5))
def law06_TapeWrites (script_0_p : Option Addr) (script_0_n : Nat) (script_0_c : Nat) (h : Heap) (Q : Value → Heap → Prop) : Prop :=
  callBool P n_law06_awake #[] h fun b2 h1 =>
  newI h1 (.cells #[(.int .i64 (0 : Int)), (.slice none 0 0)] 28 (0, 0)) fun b3 h4 =>
  LoopS (S := ((Option Addr × Nat × Nat) × Bool × Addr × ByteArray × Int × Unit)) (fun K1 s h => law06_TapeWrites_l5 Q K1 s.1.1 s.1.2.1 s.1.2.2 s.2.1 s.2.2.1 s.2.2.2.1 s.2.2.2.2.1 h) ((script_0_p, script_0_n, script_0_c), b2, ⟨b3, 0, none⟩, (ByteArray.mk #[]), (0 : Int), ()) h4
noncomputable def tab_law06_TapeWrites : Tab := { sch := lookT .done [], lp := lookT [] [(5, [(0, .sc (.slice)), (3, .sc (.bool)), (4, .sc (.adr)), (5, .sc (.str)), (6, .sc (.int .i64))])], jn := lookT none [] }
theorem eq_law06_TapeWrites (script_0_p : Option Addr) (script_0_n : Nat) (script_0_c : Nat) (h : Heap) (Q : Value → Heap → Prop) : fnI P Try.f3 tab_law06_TapeWrites [(.slice script_0_p script_0_n script_0_c)] h Q = law06_TapeWrites script_0_p script_0_n script_0_c h Q := by kernel_rfl
theorem ok_law06_TapeWrites : fnOk P Try.f3 tab_law06_TapeWrites = true := by kernel_rfl
theorem call_law06_TapeWrites (script_0_p : Option Addr) (script_0_n : Nat) (script_0_c : Nat) {h : Heap} {Q : Value → Heap → Prop} (H : law06_TapeWrites script_0_p script_0_n script_0_c h Q) : callP P n_law06_TapeWrites #[(.slice script_0_p script_0_n script_0_c)] h Q :=
  @callP_of P n_law06_TapeWrites Try.f3 tab_law06_TapeWrites [(.slice script_0_p script_0_n script_0_c)] h Q mixed Try.func3 Try.call3 ok_law06_TapeWrites (Eq.mpr (eq_law06_TapeWrites script_0_p script_0_n script_0_c h Q) H)

/-! ### earshot/tape.Read: function 12 -/
def tape_Read (s_0 : ByteArray) (h : Heap) (Q : Value → Heap → Prop) : Prop :=
  newI h (.cells #[(.int .i64 (0 : Int)), (.string s_0), (.int .i64 (0 : Int))] 59 (0, 0)) fun b1 h2 =>
  Q (.pointer (some ⟨b1, 0, none⟩)) h2
noncomputable def tab_tape_Read : Tab := { sch := lookT .done [], lp := lookT [] [], jn := lookT none [] }
theorem eq_tape_Read (s_0 : ByteArray) (h : Heap) (Q : Value → Heap → Prop) : fnI P Try.f12 tab_tape_Read [(.string s_0)] h Q = tape_Read s_0 h Q := by kernel_rfl
theorem ok_tape_Read : fnOk P Try.f12 tab_tape_Read = true := by kernel_rfl
theorem call_tape_Read (s_0 : ByteArray) {h : Heap} {Q : Value → Heap → Prop} (H : tape_Read s_0 h Q) : callP P n_tape_Read #[(.string s_0)] h Q :=
  @callP_of P n_tape_Read Try.f12 tab_tape_Read [(.string s_0)] h Q mixed Try.func12 Try.call12 ok_tape_Read (Eq.mpr (eq_tape_Read s_0 h Q) H)

/-! ### earshot/earshotref06.Read: function 13 -/
def ref06_Read (s_0 : ByteArray) (h : Heap) (Q : Value → Heap → Prop) : Prop :=
  newI h (.cells #[(.string s_0), (.int .i64 (0 : Int)), (.int .i64 (0 : Int))] 48 (0, 0)) fun b1 h2 =>
  Q (.pointer (some ⟨b1, 0, none⟩)) h2
noncomputable def tab_ref06_Read : Tab := { sch := lookT .done [], lp := lookT [] [], jn := lookT none [] }
theorem eq_ref06_Read (s_0 : ByteArray) (h : Heap) (Q : Value → Heap → Prop) : fnI P Try.f13 tab_ref06_Read [(.string s_0)] h Q = ref06_Read s_0 h Q := by kernel_rfl
theorem ok_ref06_Read : fnOk P Try.f13 tab_ref06_Read = true := by kernel_rfl
theorem call_ref06_Read (s_0 : ByteArray) {h : Heap} {Q : Value → Heap → Prop} (H : ref06_Read s_0 h Q) : callP P n_ref06_Read #[(.string s_0)] h Q :=
  @callP_of P n_ref06_Read Try.f13 tab_ref06_Read [(.string s_0)] h Q mixed Try.func13 Try.call13 ok_ref06_Read (Eq.mpr (eq_ref06_Read s_0 h Q) H)

/-! ### (*earshot/tape.Reader).Left: function 25 -/
def tape_Reader_Left (r_0 : Option Addr) (h : Heap) (Q : Value → Heap → Prop) : Prop :=
  ifB ((r_0).isNone) (
    Q (.int .i64 (0 : Int)) h) (
    nilI r_0 fun a1 =>
    nilI r_0 fun a2 =>
    ldStr h (Addr.add a1 1) fun s3 =>
    callInt P .i64 n_tape_place_told #[(.pointer (some a2))] h fun n5 h4 =>
    cellH h4 (Addr.add a1 1) = some (.string s3) ∧
    Q (.int .i64 (IntKind.wrap .i64 (((s3.size : Nat) : Int) - n5))) h4)
noncomputable def tab_tape_Reader_Left : Tab := { sch := lookT .done [(3, (.one 0 (.one 1 (.one 2 (.one 5 (.one 6 (.one 7 (.early 3 (.one 4 (.alt 8 (.one 9 (.one 10 .done)) .stop))))))))))], lp := lookT [] [], jn := lookT none [] }
theorem eq_tape_Reader_Left (r_0 : Option Addr) (h : Heap) (Q : Value → Heap → Prop) : fnI P Try.f25 tab_tape_Reader_Left [(.pointer r_0)] h Q = tape_Reader_Left r_0 h Q := by kernel_rfl
theorem ok_tape_Reader_Left : fnOk P Try.f25 tab_tape_Reader_Left = true := by kernel_rfl
theorem call_tape_Reader_Left (r_0 : Option Addr) {h : Heap} {Q : Value → Heap → Prop} (H : tape_Reader_Left r_0 h Q) : callP P n_tape_Reader_Left #[(.pointer r_0)] h Q :=
  @callP_of P n_tape_Reader_Left Try.f25 tab_tape_Reader_Left [(.pointer r_0)] h Q mixed Try.func25 Try.call25 ok_tape_Reader_Left (Eq.mpr (eq_tape_Reader_Left r_0 h Q) H)

/-! ### (*earshot/tape.Reader).get: function 37 -/
def tape_Reader_get_l8 (Q : Value → Heap → Prop) (K1 : (Option Addr × Int × Int × Int × Int × Unit) → Heap → Prop) (r_0 : Option Addr) (n_1 : Int) (x_5 : Int) (t23 : Int) (t24 : Int) (h7 : Heap) : Prop :=
  ifB (decide (t24 < t23)) (
    nilI r_0 fun a8 =>
    nilI r_0 fun a9 =>
    ldStr h7 (Addr.add a8 1) fun s10 =>
    callInt P .i64 n_tape_place_told #[(.pointer (some a9))] h7 fun n12 h11 =>
    cellH h11 (Addr.add a8 1) = some (.string s10) ∧
    strI s10 (IntKind.wrap .i64 (n12 + t24)) fun b13 =>
    nonnegI (IntKind.wrap .i64 ((8 : Int) * t24)) fun _ =>
    K1 (r_0, n_1, (orI .u64 x_5 (shlI .u64 (IntKind.wrap .u64 (b13.toNat : Int)) (min (IntKind.wrap .i64 ((8 : Int) * t24)).toNat 64))), t23, (IntKind.wrap .i64 (t24 + (1 : Int))), ()) h11) (
    nilI r_0 fun a14 =>
    callUnit P n_tape_place_moved #[(.pointer (some a14)), (.int .i64 n_1)] h7 fun h15 =>
    Q (.int .u64 x_5) h15)
def tape_Reader_get_j3 (Q : Value → Heap → Prop) (r_0 : Option Addr) (n_1 : Int) (h2 : Heap) : Prop :=
  callInt P .i64 n_tape_Reader_Left #[(.pointer r_0)] h2 fun n4 h3 =>
  ifB (decide (n4 < n_1)) (
    nilI r_0 fun a5 =>
    stI h3 (Addr.add a5 2) (.int .i64 (11 : Int)) fun h6 =>
    Q (.int .u64 (0 : Int)) h6) (
    LoopS (S := (Option Addr × Int × Int × Int × Int × Unit)) (fun K1 s h => tape_Reader_get_l8 Q K1 s.1 s.2.1 s.2.2.1 s.2.2.2.1 s.2.2.2.2.1 h) (r_0, n_1, (0 : Int), n_1, (0 : Int), ()) h3)
def tape_Reader_get (r_0 : Option Addr) (n_1 : Int) (h : Heap) (Q : Value → Heap → Prop) : Prop :=
  ∃ J1 : (Option Addr × Int × Unit) → Heap → Prop, (∀ s h, J1 s h → tape_Reader_get_j3 Q s.1 s.2.1 h) ∧
  ifB ((r_0).isNone) (
    Q (.int .u64 (0 : Int)) h) (
    nilI r_0 fun a16 =>
    ldInt .i64 h (Addr.add a16 2) fun n17 =>
    ifB (n17 != (0 : Int)) (
      Q (.int .u64 (0 : Int)) h) (
      J1 (r_0, n_1, ()) h))
noncomputable def tab_tape_Reader_get : Tab := { sch := lookT .done [(10, (.one 0 (.one 1 (.one 2 (.one 3 (.one 5 (.one 6 (.one 7 (.one 9 (.one 13 (.one 14 (.early 4 (.alt 8 (.one 10 (.one 11 (.one 12 (.one 15 (.one 16 (.one 17 .done)))))) .stop)))))))))))))], lp := lookT [] [(8, [(0, .sc (.ptr)), (1, .sc (.int .i64)), (5, .sc (.int .u64)), (23, .sc (.int .i64)), (24, .sc (.int .i64))])], jn := lookT none [(3, some [(0, .sc (.ptr)), (1, .sc (.int .i64))])] }
theorem eq_tape_Reader_get (r_0 : Option Addr) (n_1 : Int) (h : Heap) (Q : Value → Heap → Prop) : fnI P Try.f37 tab_tape_Reader_get [(.pointer r_0), (.int .i64 n_1)] h Q = tape_Reader_get r_0 n_1 h Q := by kernel_rfl
theorem ok_tape_Reader_get : fnOk P Try.f37 tab_tape_Reader_get = true := by kernel_rfl
theorem call_tape_Reader_get (r_0 : Option Addr) (n_1 : Int) {h : Heap} {Q : Value → Heap → Prop} (H : tape_Reader_get r_0 n_1 h Q) : callP P n_tape_Reader_get #[(.pointer r_0), (.int .i64 n_1)] h Q :=
  @callP_of P n_tape_Reader_get Try.f37 tab_tape_Reader_get [(.pointer r_0), (.int .i64 n_1)] h Q mixed Try.func37 Try.call37 ok_tape_Reader_get (Eq.mpr (eq_tape_Reader_get r_0 n_1 h Q) H)

/-! ### (*earshot/tape.Reader).Byte: function 15 -/
def tape_Reader_Byte (r_0 : Option Addr) (h : Heap) (Q : Value → Heap → Prop) : Prop :=
  callInt P .u64 n_tape_Reader_get #[(.pointer r_0), (.int .i64 (1 : Int))] h fun n2 h1 =>
  Q (.int .i64 (IntKind.wrap .i64 n2)) h1
noncomputable def tab_tape_Reader_Byte : Tab := { sch := lookT .done [], lp := lookT [] [], jn := lookT none [] }
theorem eq_tape_Reader_Byte (r_0 : Option Addr) (h : Heap) (Q : Value → Heap → Prop) : fnI P Try.f15 tab_tape_Reader_Byte [(.pointer r_0)] h Q = tape_Reader_Byte r_0 h Q := by kernel_rfl
theorem ok_tape_Reader_Byte : fnOk P Try.f15 tab_tape_Reader_Byte = true := by kernel_rfl
theorem call_tape_Reader_Byte (r_0 : Option Addr) {h : Heap} {Q : Value → Heap → Prop} (H : tape_Reader_Byte r_0 h Q) : callP P n_tape_Reader_Byte #[(.pointer r_0)] h Q :=
  @callP_of P n_tape_Reader_Byte Try.f15 tab_tape_Reader_Byte [(.pointer r_0)] h Q mixed Try.func15 Try.call15 ok_tape_Reader_Byte (Eq.mpr (eq_tape_Reader_Byte r_0 h Q) H)

/-! ### (*earshot/earshotref06.Reader).Left: function 26 -/
def ref06_Reader_Left (r_0 : Option Addr) (h : Heap) (Q : Value → Heap → Prop) : Prop :=
  nilI r_0 fun a1 =>
  nilI r_0 fun a2 =>
  ldStr h a1 fun s3 =>
  ldInt .i64 h (Addr.add a2 1) fun n4 =>
  Q (.int .i64 (IntKind.wrap .i64 (((s3.size : Nat) : Int) - n4))) h
noncomputable def tab_ref06_Reader_Left : Tab := { sch := lookT .done [(1, (.one 0 (.one 1 (.one 2 (.one 5 (.one 6 (.one 7 (.one 3 (.one 4 (.one 8 (.one 9 (.one 10 .done))))))))))))], lp := lookT [] [], jn := lookT none [] }
theorem eq_ref06_Reader_Left (r_0 : Option Addr) (h : Heap) (Q : Value → Heap → Prop) : fnI P Try.f26 tab_ref06_Reader_Left [(.pointer r_0)] h Q = ref06_Reader_Left r_0 h Q := by kernel_rfl
theorem ok_ref06_Reader_Left : fnOk P Try.f26 tab_ref06_Reader_Left = true := by kernel_rfl
theorem call_ref06_Reader_Left (r_0 : Option Addr) {h : Heap} {Q : Value → Heap → Prop} (H : ref06_Reader_Left r_0 h Q) : callP P n_ref06_Reader_Left #[(.pointer r_0)] h Q :=
  @callP_of P n_ref06_Reader_Left Try.f26 tab_ref06_Reader_Left [(.pointer r_0)] h Q mixed Try.func26 Try.call26 ok_ref06_Reader_Left (Eq.mpr (eq_ref06_Reader_Left r_0 h Q) H)

/-! ### (*earshot/earshotref06.Reader).Num: function 16 -/
def ref06_Reader_Num_l6 (Q : Value → Heap → Prop) (K1 : (Option Addr × Int × Int × Int × Unit) → Heap → Prop) (r_0 : Option Addr) (n_1 : Int) (x_5 : Int) (i_6 : Int) (h3 : Heap) : Prop :=
  ifB (decide (i_6 ≥ (0 : Int))) (
    nilI r_0 fun a4 =>
    nilI r_0 fun a5 =>
    ldStr h3 a4 fun s6 =>
    ldInt .i64 h3 (Addr.add a5 1) fun n7 =>
    strI s6 (IntKind.wrap .i64 (n7 + i_6)) fun b8 =>
    K1 (r_0, n_1, (IntKind.wrap .u64 ((IntKind.wrap .u64 (x_5 * (256 : Int))) + (IntKind.wrap .u64 (b8.toNat : Int)))), (IntKind.wrap .i64 (i_6 - (1 : Int))), ()) h3) (
    nilI r_0 fun a9 =>
    ldInt .i64 h3 (Addr.add a9 1) fun n10 =>
    nilI r_0 fun a11 =>
    stI h3 (Addr.add a11 1) (.int .i64 (IntKind.wrap .i64 (n10 + n_1))) fun h12 =>
    Q (.int .u64 x_5) h12)
def ref06_Reader_Num_j4 (Q : Value → Heap → Prop) (r_0 : Option Addr) (n_1 : Int) (h2 : Heap) : Prop :=
  LoopS (S := (Option Addr × Int × Int × Int × Unit)) (fun K1 s h => ref06_Reader_Num_l6 Q K1 s.1 s.2.1 s.2.2.1 s.2.2.2.1 h) (r_0, n_1, (0 : Int), (IntKind.wrap .i64 (n_1 - (1 : Int))), ()) h2
def ref06_Reader_Num (r_0 : Option Addr) (n_1 : Int) (h : Heap) (Q : Value → Heap → Prop) : Prop :=
  ∃ J1 : (Option Addr × Int × Unit) → Heap → Prop, (∀ s h, J1 s h → ref06_Reader_Num_j4 Q s.1 s.2.1 h) ∧
  nilI r_0 fun a13 =>
  ldInt .i64 h (Addr.add a13 2) fun n14 =>
  ifB (n14 != (0 : Int)) (
    nilI r_0 fun a15 =>
    stI h (Addr.add a15 2) (.int .i64 (11 : Int)) fun h16 =>
    Q (.int .u64 (0 : Int)) h16) (
    callInt P .i64 n_ref06_Reader_Left #[(.pointer r_0)] h fun n18 h17 =>
    ifB (decide (n18 < n_1)) (
      nilI r_0 fun a19 =>
      stI h17 (Addr.add a19 2) (.int .i64 (11 : Int)) fun h20 =>
      Q (.int .u64 (0 : Int)) h20) (
      J1 (r_0, n_1, ()) h17))
noncomputable def tab_ref06_Reader_Num : Tab := { sch := lookT .done [(8, (.one 0 (.one 1 (.one 2 (.one 3 (.one 4 (.one 6 (.one 7 (.one 8 (.one 10 (.one 5 (.one 9 (.one 11 (.one 12 (.one 13 (.one 14 (.one 15 .done)))))))))))))))))], lp := lookT [] [(6, [(0, .sc (.ptr)), (1, .sc (.int .i64)), (5, .sc (.int .u64)), (6, .sc (.int .i64))])], jn := lookT none [(4, some [(0, .sc (.ptr)), (1, .sc (.int .i64))])] }
theorem eq_ref06_Reader_Num (r_0 : Option Addr) (n_1 : Int) (h : Heap) (Q : Value → Heap → Prop) : fnI P Try.f16 tab_ref06_Reader_Num [(.pointer r_0), (.int .i64 n_1)] h Q = ref06_Reader_Num r_0 n_1 h Q := by kernel_rfl
theorem ok_ref06_Reader_Num : fnOk P Try.f16 tab_ref06_Reader_Num = true := by kernel_rfl
theorem call_ref06_Reader_Num (r_0 : Option Addr) (n_1 : Int) {h : Heap} {Q : Value → Heap → Prop} (H : ref06_Reader_Num r_0 n_1 h Q) : callP P n_ref06_Reader_Num #[(.pointer r_0), (.int .i64 n_1)] h Q :=
  @callP_of P n_ref06_Reader_Num Try.f16 tab_ref06_Reader_Num [(.pointer r_0), (.int .i64 n_1)] h Q mixed Try.func16 Try.call16 ok_ref06_Reader_Num (Eq.mpr (eq_ref06_Reader_Num r_0 n_1 h Q) H)

/-! ### (*earshot/tape.Reader).Short: function 17 -/
def tape_Reader_Short (r_0 : Option Addr) (h : Heap) (Q : Value → Heap → Prop) : Prop :=
  callInt P .u64 n_tape_Reader_get #[(.pointer r_0), (.int .i64 (2 : Int))] h fun n2 h1 =>
  Q (.int .i64 (IntKind.wrap .i64 n2)) h1
noncomputable def tab_tape_Reader_Short : Tab := { sch := lookT .done [], lp := lookT [] [], jn := lookT none [] }
theorem eq_tape_Reader_Short (r_0 : Option Addr) (h : Heap) (Q : Value → Heap → Prop) : fnI P Try.f17 tab_tape_Reader_Short [(.pointer r_0)] h Q = tape_Reader_Short r_0 h Q := by kernel_rfl
theorem ok_tape_Reader_Short : fnOk P Try.f17 tab_tape_Reader_Short = true := by kernel_rfl
theorem call_tape_Reader_Short (r_0 : Option Addr) {h : Heap} {Q : Value → Heap → Prop} (H : tape_Reader_Short r_0 h Q) : callP P n_tape_Reader_Short #[(.pointer r_0)] h Q :=
  @callP_of P n_tape_Reader_Short Try.f17 tab_tape_Reader_Short [(.pointer r_0)] h Q mixed Try.func17 Try.call17 ok_tape_Reader_Short (Eq.mpr (eq_tape_Reader_Short r_0 h Q) H)

/-! ### (*earshot/tape.Reader).Word: function 18 -/
def tape_Reader_Word (r_0 : Option Addr) (h : Heap) (Q : Value → Heap → Prop) : Prop :=
  callInt P .u64 n_tape_Reader_get #[(.pointer r_0), (.int .i64 (4 : Int))] h fun n2 h1 =>
  Q (.int .i64 (IntKind.wrap .i64 (IntKind.wrap .i32 n2))) h1
noncomputable def tab_tape_Reader_Word : Tab := { sch := lookT .done [], lp := lookT [] [], jn := lookT none [] }
theorem eq_tape_Reader_Word (r_0 : Option Addr) (h : Heap) (Q : Value → Heap → Prop) : fnI P Try.f18 tab_tape_Reader_Word [(.pointer r_0)] h Q = tape_Reader_Word r_0 h Q := by kernel_rfl
theorem ok_tape_Reader_Word : fnOk P Try.f18 tab_tape_Reader_Word = true := by kernel_rfl
theorem call_tape_Reader_Word (r_0 : Option Addr) {h : Heap} {Q : Value → Heap → Prop} (H : tape_Reader_Word r_0 h Q) : callP P n_tape_Reader_Word #[(.pointer r_0)] h Q :=
  @callP_of P n_tape_Reader_Word Try.f18 tab_tape_Reader_Word [(.pointer r_0)] h Q mixed Try.func18 Try.call18 ok_tape_Reader_Word (Eq.mpr (eq_tape_Reader_Word r_0 h Q) H)

/-! ### (*earshot/earshotref06.Reader).Word: function 19 -/
def ref06_Reader_Word (r_0 : Option Addr) (h : Heap) (Q : Value → Heap → Prop) : Prop :=
  callInt P .u64 n_ref06_Reader_Num #[(.pointer r_0), (.int .i64 (4 : Int))] h fun n2 h1 =>
  ifB (decide ((IntKind.wrap .i64 n2) ≥ (2147483648 : Int))) (
    Q (.int .i64 (IntKind.wrap .i64 ((IntKind.wrap .i64 n2) - (4294967296 : Int)))) h1) (
    Q (.int .i64 (IntKind.wrap .i64 n2)) h1)
noncomputable def tab_ref06_Reader_Word : Tab := { sch := lookT .done [], lp := lookT [] [], jn := lookT none [] }
theorem eq_ref06_Reader_Word (r_0 : Option Addr) (h : Heap) (Q : Value → Heap → Prop) : fnI P Try.f19 tab_ref06_Reader_Word [(.pointer r_0)] h Q = ref06_Reader_Word r_0 h Q := by kernel_rfl
theorem ok_ref06_Reader_Word : fnOk P Try.f19 tab_ref06_Reader_Word = true := by kernel_rfl
theorem call_ref06_Reader_Word (r_0 : Option Addr) {h : Heap} {Q : Value → Heap → Prop} (H : ref06_Reader_Word r_0 h Q) : callP P n_ref06_Reader_Word #[(.pointer r_0)] h Q :=
  @callP_of P n_ref06_Reader_Word Try.f19 tab_ref06_Reader_Word [(.pointer r_0)] h Q mixed Try.func19 Try.call19 ok_ref06_Reader_Word (Eq.mpr (eq_ref06_Reader_Word r_0 h Q) H)

/-! ### (*earshot/tape.Reader).Long: function 20 -/
def tape_Reader_Long (r_0 : Option Addr) (h : Heap) (Q : Value → Heap → Prop) : Prop :=
  callInt P .u64 n_tape_Reader_get #[(.pointer r_0), (.int .i64 (8 : Int))] h fun n2 h1 =>
  Q (.int .u64 n2) h1
noncomputable def tab_tape_Reader_Long : Tab := { sch := lookT .done [], lp := lookT [] [], jn := lookT none [] }
theorem eq_tape_Reader_Long (r_0 : Option Addr) (h : Heap) (Q : Value → Heap → Prop) : fnI P Try.f20 tab_tape_Reader_Long [(.pointer r_0)] h Q = tape_Reader_Long r_0 h Q := by kernel_rfl
theorem ok_tape_Reader_Long : fnOk P Try.f20 tab_tape_Reader_Long = true := by kernel_rfl
theorem call_tape_Reader_Long (r_0 : Option Addr) {h : Heap} {Q : Value → Heap → Prop} (H : tape_Reader_Long r_0 h Q) : callP P n_tape_Reader_Long #[(.pointer r_0)] h Q :=
  @callP_of P n_tape_Reader_Long Try.f20 tab_tape_Reader_Long [(.pointer r_0)] h Q mixed Try.func20 Try.call20 ok_tape_Reader_Long (Eq.mpr (eq_tape_Reader_Long r_0 h Q) H)

/-! ### (*earshot/tape.Reader).Err: function 27 -/
def tape_Reader_Err (r_0 : Option Addr) (h : Heap) (Q : Value → Heap → Prop) : Prop :=
  ifB ((r_0).isNone) (
    Q (.int .i64 (1 : Int)) h) (
    nilI r_0 fun a1 =>
    ldInt .i64 h (Addr.add a1 2) fun n2 =>
    Q (.int .i64 n2) h)
noncomputable def tab_tape_Reader_Err : Tab := { sch := lookT .done [], lp := lookT [] [], jn := lookT none [] }
theorem eq_tape_Reader_Err (r_0 : Option Addr) (h : Heap) (Q : Value → Heap → Prop) : fnI P Try.f27 tab_tape_Reader_Err [(.pointer r_0)] h Q = tape_Reader_Err r_0 h Q := by kernel_rfl
theorem ok_tape_Reader_Err : fnOk P Try.f27 tab_tape_Reader_Err = true := by kernel_rfl
theorem call_tape_Reader_Err (r_0 : Option Addr) {h : Heap} {Q : Value → Heap → Prop} (H : tape_Reader_Err r_0 h Q) : callP P n_tape_Reader_Err #[(.pointer r_0)] h Q :=
  @callP_of P n_tape_Reader_Err Try.f27 tab_tape_Reader_Err [(.pointer r_0)] h Q mixed Try.func27 Try.call27 ok_tape_Reader_Err (Eq.mpr (eq_tape_Reader_Err r_0 h Q) H)

/-! ### (*earshot/tape.Reader).Row: function 22 -/
def tape_Reader_Row_l3 (Q : Value → Heap → Prop) (K1 : (Option Addr × (Option Addr × Nat × Nat) × Int × Int × Unit) → Heap → Prop) (r_0 : Option Addr) (out_3_p : Option Addr) (out_3_n : Nat) (out_3_c : Nat) (t6 : Int) (t7 : Int) (h3 : Heap) : Prop :=
  ifB (decide (t7 < t6)) (
    callInt P .i64 n_tape_Reader_Word #[(.pointer r_0)] h3 fun n5 h4 =>
    callInt P .i64 n_tape_Reader_Err #[(.pointer r_0)] h4 fun n7 h6 =>
    ifB (n7 != (0 : Int)) (
      Q (.slice none 0 0) h6) (
      newI h6 (.cells #[(.int .i64 n5)] 3 (0, 0)) fun b8 h9 =>
      appI 3 1 8 (.int .i64 (0 : Int)) out_3_p out_3_n out_3_c (some ⟨b8, 0, none⟩) 1 h9 fun p10 l10 c10 h11 =>
      K1 (r_0, (p10, l10, c10), t6, (IntKind.wrap .i64 (t7 + (1 : Int))), ()) h11)) (
    Q (.slice out_3_p out_3_n out_3_c) h3)
def tape_Reader_Row (r_0 : Option Addr) (h : Heap) (Q : Value → Heap → Prop) : Prop :=
  callInt P .i64 n_tape_Reader_Short #[(.pointer r_0)] h fun n2 h1 =>
  LoopS (S := (Option Addr × (Option Addr × Nat × Nat) × Int × Int × Unit)) (fun K1 s h => tape_Reader_Row_l3 Q K1 s.1 s.2.1.1 s.2.1.2.1 s.2.1.2.2 s.2.2.1 s.2.2.2.1 h) (r_0, (none, 0, 0), n2, (0 : Int), ()) h1
noncomputable def tab_tape_Reader_Row : Tab := { sch := lookT .done [], lp := lookT [] [(3, [(0, .sc (.ptr)), (3, .sc (.slice)), (6, .sc (.int .i64)), (7, .sc (.int .i64))])], jn := lookT none [] }
theorem eq_tape_Reader_Row (r_0 : Option Addr) (h : Heap) (Q : Value → Heap → Prop) : fnI P Try.f22 tab_tape_Reader_Row [(.pointer r_0)] h Q = tape_Reader_Row r_0 h Q := by kernel_rfl
theorem ok_tape_Reader_Row : fnOk P Try.f22 tab_tape_Reader_Row = true := by kernel_rfl
theorem call_tape_Reader_Row (r_0 : Option Addr) {h : Heap} {Q : Value → Heap → Prop} (H : tape_Reader_Row r_0 h Q) : callP P n_tape_Reader_Row #[(.pointer r_0)] h Q :=
  @callP_of P n_tape_Reader_Row Try.f22 tab_tape_Reader_Row [(.pointer r_0)] h Q mixed Try.func22 Try.call22 ok_tape_Reader_Row (Eq.mpr (eq_tape_Reader_Row r_0 h Q) H)

/-! ### (*earshot/earshotref06.Reader).Row: function 23 -/
def ref06_Reader_Row_l4 (Q : Value → Heap → Prop) (K1 : (Option Addr × Int × (Option Addr × Nat × Nat) × Int × Unit) → Heap → Prop) (r_0 : Option Addr) (n_3 : Int) (out_4_p : Option Addr) (out_4_n : Nat) (out_4_c : Nat) (i_5 : Int) (h3 : Heap) : Prop :=
  ifB (decide (i_5 < n_3)) (
    nilI r_0 fun a4 =>
    ldInt .i64 h3 (Addr.add a4 2) fun n5 =>
    ifB (n5 == (0 : Int)) (
      callInt P .i64 n_ref06_Reader_Word #[(.pointer r_0)] h3 fun n7 h6 =>
      newI h6 (.cells #[(.int .i64 n7)] 3 (0, 0)) fun b8 h9 =>
      appI 3 1 8 (.int .i64 (0 : Int)) out_4_p out_4_n out_4_c (some ⟨b8, 0, none⟩) 1 h9 fun p10 l10 c10 h11 =>
      K1 (r_0, n_3, (p10, l10, c10), (IntKind.wrap .i64 (i_5 + (1 : Int))), ()) h11) (
      nilI r_0 fun a12 =>
      ldInt .i64 h3 (Addr.add a12 2) fun n13 =>
      ifB (n13 != (0 : Int)) (
        Q (.slice none 0 0) h3) (
        Q (.slice out_4_p out_4_n out_4_c) h3))) (
    nilI r_0 fun a14 =>
    ldInt .i64 h3 (Addr.add a14 2) fun n15 =>
    ifB (n15 != (0 : Int)) (
      Q (.slice none 0 0) h3) (
      Q (.slice out_4_p out_4_n out_4_c) h3))
def ref06_Reader_Row (r_0 : Option Addr) (h : Heap) (Q : Value → Heap → Prop) : Prop :=
  callInt P .u64 n_ref06_Reader_Num #[(.pointer r_0), (.int .i64 (2 : Int))] h fun n2 h1 =>
  LoopS (S := (Option Addr × Int × (Option Addr × Nat × Nat) × Int × Unit)) (fun K1 s h => ref06_Reader_Row_l4 Q K1 s.1 s.2.1 s.2.2.1.1 s.2.2.1.2.1 s.2.2.1.2.2 s.2.2.2.1 h) (r_0, (IntKind.wrap .i64 n2), (none, 0, 0), (0 : Int), ()) h1
noncomputable def tab_ref06_Reader_Row : Tab := { sch := lookT .done [], lp := lookT [] [(4, [(0, .sc (.ptr)), (3, .sc (.int .i64)), (4, .sc (.slice)), (5, .sc (.int .i64))])], jn := lookT none [] }
theorem eq_ref06_Reader_Row (r_0 : Option Addr) (h : Heap) (Q : Value → Heap → Prop) : fnI P Try.f23 tab_ref06_Reader_Row [(.pointer r_0)] h Q = ref06_Reader_Row r_0 h Q := by kernel_rfl
theorem ok_ref06_Reader_Row : fnOk P Try.f23 tab_ref06_Reader_Row = true := by kernel_rfl
theorem call_ref06_Reader_Row (r_0 : Option Addr) {h : Heap} {Q : Value → Heap → Prop} (H : ref06_Reader_Row r_0 h Q) : callP P n_ref06_Reader_Row #[(.pointer r_0)] h Q :=
  @callP_of P n_ref06_Reader_Row Try.f23 tab_ref06_Reader_Row [(.pointer r_0)] h Q mixed Try.func23 Try.call23 ok_ref06_Reader_Row (Eq.mpr (eq_ref06_Reader_Row r_0 h Q) H)

/-! ### earshot/earshotref04.Same: function 21 -/
def ref04_Same_l4 (Q : Value → Heap → Prop) (K1 : ((Option Addr × Nat × Nat) × (Option Addr × Nat × Nat) × Int × Unit) → Heap → Prop) (a_0_p : Option Addr) (a_0_n : Nat) (a_0_c : Nat) (b_1_p : Option Addr) (b_1_n : Nat) (b_1_c : Nat) (i_5 : Int) (h1 : Heap) : Prop :=
  ifB (decide (i_5 < ((a_0_n : Nat) : Int))) (
    idxI a_0_p i_5 a_0_n fun a2 =>
    idxI b_1_p i_5 b_1_n fun a3 =>
    ldInt .i64 h1 (Addr.add a2 (i_5.toNat * 1)) fun n4 =>
    ldInt .i64 h1 (Addr.add a3 (i_5.toNat * 1)) fun n5 =>
    ifB (n4 != n5) (
      Q (.bool false) h1) (
      K1 ((a_0_p, a_0_n, a_0_c), (b_1_p, b_1_n, b_1_c), (IntKind.wrap .i64 (i_5 + (1 : Int))), ()) h1)) (
    Q (.bool true) h1)
def ref04_Same (a_0_p : Option Addr) (a_0_n : Nat) (a_0_c : Nat) (b_1_p : Option Addr) (b_1_n : Nat) (b_1_c : Nat) (h : Heap) (Q : Value → Heap → Prop) : Prop :=
  ifB (((a_0_n : Nat) : Int) != ((b_1_n : Nat) : Int)) (
    Q (.bool false) h) (
    LoopS (S := ((Option Addr × Nat × Nat) × (Option Addr × Nat × Nat) × Int × Unit)) (fun K1 s h => ref04_Same_l4 Q K1 s.1.1 s.1.2.1 s.1.2.2 s.2.1.1 s.2.1.2.1 s.2.1.2.2 s.2.2.1 h) ((a_0_p, a_0_n, a_0_c), (b_1_p, b_1_n, b_1_c), (0 : Int), ()) h)
noncomputable def tab_ref04_Same : Tab := { sch := lookT .done [(6, (.one 0 (.one 1 (.one 2 (.one 4 (.one 5 (.one 6 (.one 3 (.one 7 (.one 8 .done))))))))))], lp := lookT [] [(4, [(0, .sc (.slice)), (1, .sc (.slice)), (5, .sc (.int .i64))])], jn := lookT none [] }
theorem eq_ref04_Same (a_0_p : Option Addr) (a_0_n : Nat) (a_0_c : Nat) (b_1_p : Option Addr) (b_1_n : Nat) (b_1_c : Nat) (h : Heap) (Q : Value → Heap → Prop) : fnI P Try.f21 tab_ref04_Same [(.slice a_0_p a_0_n a_0_c), (.slice b_1_p b_1_n b_1_c)] h Q = ref04_Same a_0_p a_0_n a_0_c b_1_p b_1_n b_1_c h Q := by kernel_rfl
theorem ok_ref04_Same : fnOk P Try.f21 tab_ref04_Same = true := by kernel_rfl
theorem call_ref04_Same (a_0_p : Option Addr) (a_0_n : Nat) (a_0_c : Nat) (b_1_p : Option Addr) (b_1_n : Nat) (b_1_c : Nat) {h : Heap} {Q : Value → Heap → Prop} (H : ref04_Same a_0_p a_0_n a_0_c b_1_p b_1_n b_1_c h Q) : callP P n_ref04_Same #[(.slice a_0_p a_0_n a_0_c), (.slice b_1_p b_1_n b_1_c)] h Q :=
  @callP_of P n_ref04_Same Try.f21 tab_ref04_Same [(.slice a_0_p a_0_n a_0_c), (.slice b_1_p b_1_n b_1_c)] h Q mixed Try.func21 Try.call21 ok_ref04_Same (Eq.mpr (eq_ref04_Same a_0_p a_0_n a_0_c b_1_p b_1_n b_1_c h Q) H)

/-! ### (*earshot/tape.Reader).At: function 24 -/
def tape_Reader_At (r_0 : Option Addr) (h : Heap) (Q : Value → Heap → Prop) : Prop :=
  ifB ((r_0).isNone) (
    Q (.int .i64 (0 : Int)) h) (
    nilI r_0 fun a1 =>
    callInt P .i64 n_tape_place_told #[(.pointer (some a1))] h fun n3 h2 =>
    Q (.int .i64 n3) h2)
noncomputable def tab_tape_Reader_At : Tab := { sch := lookT .done [], lp := lookT [] [], jn := lookT none [] }
theorem eq_tape_Reader_At (r_0 : Option Addr) (h : Heap) (Q : Value → Heap → Prop) : fnI P Try.f24 tab_tape_Reader_At [(.pointer r_0)] h Q = tape_Reader_At r_0 h Q := by kernel_rfl
theorem ok_tape_Reader_At : fnOk P Try.f24 tab_tape_Reader_At = true := by kernel_rfl
theorem call_tape_Reader_At (r_0 : Option Addr) {h : Heap} {Q : Value → Heap → Prop} (H : tape_Reader_At r_0 h Q) : callP P n_tape_Reader_At #[(.pointer r_0)] h Q :=
  @callP_of P n_tape_Reader_At Try.f24 tab_tape_Reader_At [(.pointer r_0)] h Q mixed Try.func24 Try.call24 ok_tape_Reader_At (Eq.mpr (eq_tape_Reader_At r_0 h Q) H)

/-! ### earshot/earshotlaw06.TapeReads: function 4 -/
def law06_TapeReads_j20 (Q : Value → Heap → Prop) (K1 : ((Option Addr × Nat × Nat) × Bool × Option Addr × Option Addr × Int × Unit) → Heap → Prop) (script_1_p : Option Addr) (script_1_n : Nat) (script_1_c : Nat) (up_5 : Bool) (a_6 : Option Addr) (b_7 : Option Addr) (i_8 : Int) (ok_9 : Bool) (h13 : Heap) : Prop :=
  ifB (!ok_9) (
    Q (.bool false) h13) (
    nilI b_7 fun a14 =>
    ldInt .i64 h13 (Addr.add a14 1) fun n15 =>
    callInt P .i64 n_tape_Reader_At #[(.pointer a_6)] h13 fun n17 h16 =>
    cellH h16 (Addr.add a14 1) = some (.int .i64 n15) ∧
    ifB (n17 != n15) (
      cellH h16 (Addr.add a14 1) = some (.int .i64 n15) ∧
      cellH h16 (Addr.add a14 1) = some (.int .i64 n15) ∧
      cellH h16 (Addr.add a14 1) = some (.int .i64 n15) ∧
      Q (.bool false) h16) (
      callInt P .i64 n_tape_Reader_Left #[(.pointer a_6)] h16 fun n19 h18 =>
      cellH h18 (Addr.add a14 1) = some (.int .i64 n15) ∧
      callInt P .i64 n_ref06_Reader_Left #[(.pointer b_7)] h18 fun n21 h20 =>
      cellH h20 (Addr.add a14 1) = some (.int .i64 n15) ∧
      ifB (n19 != n21) (
        cellH h20 (Addr.add a14 1) = some (.int .i64 n15) ∧
        Q (.bool false) h20) (
        nilI b_7 fun a22 =>
        ldInt .i64 h20 (Addr.add a22 2) fun n23 =>
        callInt P .i64 n_tape_Reader_Err #[(.pointer a_6)] h20 fun n25 h24 =>
        cellH h24 (Addr.add a22 2) = some (.int .i64 n23) ∧
        cellH h24 (Addr.add a14 1) = some (.int .i64 n15) ∧
        ifB (n25 != n23) (
          Q (.bool false) h24) (
          K1 ((script_1_p, script_1_n, script_1_c), up_5, a_6, b_7, (IntKind.wrap .i64 (i_8 + (1 : Int))), ()) h24))))
def law06_TapeReads_j9 (Q : Value → Heap → Prop) (K1 : ((Option Addr × Nat × Nat) × Bool × Option Addr × Option Addr × Int × Unit) → Heap → Prop) (script_1_p : Option Addr) (script_1_n : Nat) (script_1_c : Nat) (up_5 : Bool) (a_6 : Option Addr) (b_7 : Option Addr) (i_8 : Int) (h11 : Heap) : Prop :=
  ∃ J12 : ((Option Addr × Nat × Nat) × Bool × Option Addr × Option Addr × Int × Bool × Unit) → Heap → Prop, (∀ s h, J12 s h → law06_TapeReads_j20 Q K1 s.1.1 s.1.2.1 s.1.2.2 s.2.1 s.2.2.1 s.2.2.2.1 s.2.2.2.2.1 s.2.2.2.2.2.1 h) ∧
  idxI script_1_p i_8 script_1_n fun a26 =>
  ldInt .i64 h11 (Addr.add a26 (i_8.toNat * 3)) fun n27 =>
  ldInt .i64 h11 (Addr.add (Addr.add a26 (i_8.toNat * 3)) 1) fun n28 =>
  ldSlice h11 (Addr.add (Addr.add a26 (i_8.toNat * 3)) 2) fun p29 l29 c29 =>
  callInt P .i64 n_law06_Item_kind #[(.agg #[(.int .i64 n27), (.int .i64 n28), (.slice p29 l29 c29)])] h11 fun n31 h30 =>
  ifB (n31 == (0 : Int)) (
    callInt P .i64 n_tape_Reader_Byte #[(.pointer a_6)] h30 fun n33 h32 =>
    callInt P .u64 n_ref06_Reader_Num #[(.pointer b_7), (.int .i64 (1 : Int))] h32 fun n35 h34 =>
    J12 ((script_1_p, script_1_n, script_1_c), up_5, a_6, b_7, i_8, (n33 == (IntKind.wrap .i64 n35)), ()) h34) (
    ifB (n31 == (1 : Int)) (
      callInt P .i64 n_tape_Reader_Short #[(.pointer a_6)] h30 fun n37 h36 =>
      callInt P .u64 n_ref06_Reader_Num #[(.pointer b_7), (.int .i64 (2 : Int))] h36 fun n39 h38 =>
      J12 ((script_1_p, script_1_n, script_1_c), up_5, a_6, b_7, i_8, (n37 == (IntKind.wrap .i64 n39)), ()) h38) (
      ifB (n31 == (2 : Int)) (
        callInt P .i64 n_tape_Reader_Word #[(.pointer a_6)] h30 fun n41 h40 =>
        callInt P .i64 n_ref06_Reader_Word #[(.pointer b_7)] h40 fun n43 h42 =>
        J12 ((script_1_p, script_1_n, script_1_c), up_5, a_6, b_7, i_8, (n41 == n43), ()) h42) (
        ifB (n31 == (3 : Int)) (
          callInt P .u64 n_tape_Reader_Long #[(.pointer a_6)] h30 fun n45 h44 =>
          callInt P .u64 n_ref06_Reader_Num #[(.pointer b_7), (.int .i64 (8 : Int))] h44 fun n47 h46 =>
          J12 ((script_1_p, script_1_n, script_1_c), up_5, a_6, b_7, i_8, (n45 == n47), ()) h46) (
          callSlice P n_tape_Reader_Row #[(.pointer a_6)] h30 fun p49 l49 c49 h48 =>
          callSlice P n_ref06_Reader_Row #[(.pointer b_7)] h48 fun p51 l51 c51 h50 =>
          callBool P n_ref04_Same #[(.slice p49 l49 c49), (.slice p51 l51 c51)] h50 fun b53 h52 =>
          J12 ((script_1_p, script_1_n, script_1_c), up_5, a_6, b_7, i_8, b53, ()) h52))))
def law06_TapeReads_l7 (Q : Value → Heap → Prop) (K1 : ((Option Addr × Nat × Nat) × Bool × Option Addr × Option Addr × Int × Unit) → Heap → Prop) (script_1_p : Option Addr) (script_1_n : Nat) (script_1_c : Nat) (up_5 : Bool) (a_6 : Option Addr) (b_7 : Option Addr) (i_8 : Int) (h9 : Heap) : Prop :=
  ∃ J10 : ((Option Addr × Nat × Nat) × Bool × Option Addr × Option Addr × Int × Unit) → Heap → Prop, (∀ s h, J10 s h → law06_TapeReads_j9 Q K1 s.1.1 s.1.2.1 s.1.2.2 s.2.1 s.2.2.1 s.2.2.2.1 s.2.2.2.2.1 h) ∧
  ifB (decide (i_8 < ((script_1_n : Nat) : Int))) (
    ifB (decide (i_8 < (30 : Int))) (
      J10 ((script_1_p, script_1_n, script_1_c), up_5, a_6, b_7, i_8, ()) h9) (
      Q (.bool up_5) h9)) (
    Q (.bool up_5) h9)
def law06_TapeReads_j4 (Q : Value → Heap → Prop) (s_0 : ByteArray) (script_1_p : Option Addr) (script_1_n : Nat) (script_1_c : Nat) (up_5 : Bool) (h4 : Heap) : Prop :=
  callPtr P n_tape_Read #[(.string s_0)] h4 fun p6 h5 =>
  callPtr P n_ref06_Read #[(.string s_0)] h5 fun p8 h7 =>
  LoopS (S := ((Option Addr × Nat × Nat) × Bool × Option Addr × Option Addr × Int × Unit)) (fun K1 s h => law06_TapeReads_l7 Q K1 s.1.1 s.1.2.1 s.1.2.2 s.2.1 s.2.2.1 s.2.2.2.1 s.2.2.2.2.1 h) ((script_1_p, script_1_n, script_1_c), up_5, p6, p8, (0 : Int), ()) h7
def law06_TapeReads (s_0 : ByteArray) (script_1_p : Option Addr) (script_1_n : Nat) (script_1_c : Nat) (h : Heap) (Q : Value → Heap → Prop) : Prop :=
  callBool P n_law06_awake #[] h fun b2 h1 =>
  ∃ J3 : (ByteArray × (Option Addr × Nat × Nat) × Bool × Unit) → Heap → Prop, (∀ s h, J3 s h → law06_TapeReads_j4 Q s.1 s.2.1.1 s.2.1.2.1 s.2.1.2.2 s.2.2.1 h) ∧
  ifB (decide (((s_0.size : Nat) : Int) > (60 : Int))) (
    bndI (60 : Int) s_0.size fun l54 =>
    J3 ((s_0.extract 0 l54), (script_1_p, script_1_n, script_1_c), b2, ()) h1) (
    J3 (s_0, (script_1_p, script_1_n, script_1_c), b2, ()) h1)
noncomputable def tab_law06_TapeReads : Tab := { sch := lookT .done [(20, (.one 0 (.one 1 (.one 2 (.one 3 (.one 5 (.one 6 (.one 7 (.early 8 (.alt 4 (.one 9 (.one 10 (.one 11 (.one 12 (.one 14 (.alt 13 (.alt 15 (.one 16 (.one 17 (.one 18 (.one 19 (.one 21 (.one 22 (.one 23 (.early 24 (.alt 20 (.one 25 (.one 26 .done)) .stop))))))))) .stop) .stop)))))) .stop))))))))))], lp := lookT [] [(7, [(1, .sc (.slice)), (5, .sc (.bool)), (6, .sc (.ptr)), (7, .sc (.ptr)), (8, .sc (.int .i64))])], jn := lookT none [(4, some [(0, .sc (.str)), (1, .sc (.slice)), (5, .sc (.bool))]), (9, some [(1, .sc (.slice)), (5, .sc (.bool)), (6, .sc (.ptr)), (7, .sc (.ptr)), (8, .sc (.int .i64))]), (20, some [(1, .sc (.slice)), (5, .sc (.bool)), (6, .sc (.ptr)), (7, .sc (.ptr)), (8, .sc (.int .i64)), (9, .sc (.bool))])] }
theorem eq_law06_TapeReads (s_0 : ByteArray) (script_1_p : Option Addr) (script_1_n : Nat) (script_1_c : Nat) (h : Heap) (Q : Value → Heap → Prop) : fnI P Try.f4 tab_law06_TapeReads [(.string s_0), (.slice script_1_p script_1_n script_1_c)] h Q = law06_TapeReads s_0 script_1_p script_1_n script_1_c h Q := by kernel_rfl
theorem ok_law06_TapeReads : fnOk P Try.f4 tab_law06_TapeReads = true := by kernel_rfl
theorem call_law06_TapeReads (s_0 : ByteArray) (script_1_p : Option Addr) (script_1_n : Nat) (script_1_c : Nat) {h : Heap} {Q : Value → Heap → Prop} (H : law06_TapeReads s_0 script_1_p script_1_n script_1_c h Q) : callP P n_law06_TapeReads #[(.string s_0), (.slice script_1_p script_1_n script_1_c)] h Q :=
  @callP_of P n_law06_TapeReads Try.f4 tab_law06_TapeReads [(.string s_0), (.slice script_1_p script_1_n script_1_c)] h Q mixed Try.func4 Try.call4 ok_law06_TapeReads (Eq.mpr (eq_law06_TapeReads s_0 script_1_p script_1_n script_1_c h Q) H)

/-! ### earshot/earshotlaw06.TapeShort: function 5 -/
def law06_TapeShort_j21 (Q : Value → Heap → Prop) (K1 : ((Option Addr × Nat × Nat) × Int × Bool × Addr × Int × Unit) → Heap → Prop) (K2 : ((Option Addr × Nat × Nat) × Bool × ByteArray × Int × Int × Option Addr × Int × Unit) → Heap → Prop) (xs_0_p : Option Addr) (xs_0_n : Nat) (xs_0_c : Nat) (up_5 : Bool) (s_8 : ByteArray) (k_9 : Int) (whole_10 : Int) (r_11 : Option Addr) (i_12 : Int) (x_13 : Int) (h28 : Heap) : Prop :=
  ifB (decide (i_12 ≥ whole_10)) (
    ifB (x_13 != (0 : Int)) (
      Q (.bool false) h28) (
      callInt P .i64 n_tape_Reader_Err #[(.pointer r_11)] h28 fun n30 h29 =>
      ifB (n30 != (11 : Int)) (
        Q (.bool false) h29) (
        callInt P .i64 n_tape_Reader_At #[(.pointer r_11)] h29 fun n32 h31 =>
        ifB (n32 != (IntKind.wrap .i64 ((4 : Int) * whole_10))) (
          Q (.bool false) h31) (
          K2 ((xs_0_p, xs_0_n, xs_0_c), up_5, s_8, k_9, whole_10, r_11, (IntKind.wrap .i64 (i_12 + (1 : Int))), ()) h31)))) (
    K2 ((xs_0_p, xs_0_n, xs_0_c), up_5, s_8, k_9, whole_10, r_11, (IntKind.wrap .i64 (i_12 + (1 : Int))), ()) h28)
def law06_TapeShort_l16 (Q : Value → Heap → Prop) (K1 : ((Option Addr × Nat × Nat) × Int × Bool × Addr × Int × Unit) → Heap → Prop) (K2 : ((Option Addr × Nat × Nat) × Bool × ByteArray × Int × Int × Option Addr × Int × Unit) → Heap → Prop) (xs_0_p : Option Addr) (xs_0_n : Nat) (xs_0_c : Nat) (up_5 : Bool) (s_8 : ByteArray) (k_9 : Int) (whole_10 : Int) (r_11 : Option Addr) (i_12 : Int) (h24 : Heap) : Prop :=
  ifB (decide (i_12 < ((xs_0_n : Nat) : Int))) (
    callInt P .i64 n_tape_Reader_Word #[(.pointer r_11)] h24 fun n26 h25 =>
    ∃ J27 : ((Option Addr × Nat × Nat) × Bool × ByteArray × Int × Int × Option Addr × Int × Int × Unit) → Heap → Prop, (∀ s h, J27 s h → law06_TapeShort_j21 Q K1 K2 s.1.1 s.1.2.1 s.1.2.2 s.2.1 s.2.2.1 s.2.2.2.1 s.2.2.2.2.1 s.2.2.2.2.2.1 s.2.2.2.2.2.2.1 s.2.2.2.2.2.2.2.1 h) ∧
    ifB (decide (i_12 < whole_10)) (
      ifB (decide (i_12 ≥ ((xs_0_n : Nat) : Int))) (
        Q (.bool false) h25) (
        idxI xs_0_p i_12 xs_0_n fun a33 =>
        ldInt .i64 h25 (Addr.add a33 (i_12.toNat * 1)) fun n34 =>
        ifB (n26 != (IntKind.wrap .i64 (IntKind.wrap .i32 n34))) (
          Q (.bool false) h25) (
          callInt P .i64 n_tape_Reader_Err #[(.pointer r_11)] h25 fun n36 h35 =>
          ifB (n36 != (0 : Int)) (
            Q (.bool false) h35) (
            J27 ((xs_0_p, xs_0_n, xs_0_c), up_5, s_8, k_9, whole_10, r_11, i_12, n26, ()) h35)))) (
      J27 ((xs_0_p, xs_0_n, xs_0_c), up_5, s_8, k_9, whole_10, r_11, i_12, n26, ()) h25)) (
    ifB up_5 (
      callInt P .i64 n_tape_Reader_Byte #[(.pointer r_11)] h24 fun n38 h37 =>
      ifB (n38 == (0 : Int)) (
        callInt P .u64 n_tape_Reader_Long #[(.pointer r_11)] h37 fun n40 h39 =>
        ifB (n40 == (0 : Int)) (
          callSlice P n_tape_Reader_Row #[(.pointer r_11)] h39 fun p42 l42 c42 h41 =>
          ifB (((l42 : Nat) : Int) == (0 : Int)) (
            callInt P .i64 n_tape_Reader_At #[(.pointer r_11)] h41 fun n44 h43 =>
            ifB (n44 == (IntKind.wrap .i64 ((4 : Int) * whole_10))) (
              callInt P .i64 n_tape_Reader_Left #[(.pointer r_11)] h43 fun n46 h45 =>
              ifB (n46 == (IntKind.wrap .i64 ((IntKind.wrap .i64 (((s_8.size : Nat) : Int) - k_9)) - (IntKind.wrap .i64 ((4 : Int) * whole_10))))) (
                callInt P .i64 n_tape_Reader_Err #[(.pointer r_11)] h45 fun n48 h47 =>
                Q (.bool (n48 == (11 : Int))) h47) (
                Q (.bool false) h45)) (
              Q (.bool false) h43)) (
            Q (.bool false) h41)) (
          Q (.bool false) h39)) (
        Q (.bool false) h37)) (
      Q (.bool false) h24))
def law06_TapeShort_l6 (Q : Value → Heap → Prop) (K1 : ((Option Addr × Nat × Nat) × Int × Bool × Addr × Int × Unit) → Heap → Prop) (xs_0_p : Option Addr) (xs_0_n : Nat) (xs_0_c : Nat) (cut_1 : Int) (up_5 : Bool) (w_6 : Addr) (i_7 : Int) (h7 : Heap) : Prop :=
  ifB (decide (i_7 < ((xs_0_n : Nat) : Int))) (
    idxI xs_0_p i_7 xs_0_n fun a8 =>
    ldInt .i64 h7 (Addr.add a8 (i_7.toNat * 1)) fun n9 =>
    callUnit P n_tape_Writer_Word #[(.pointer (some w_6)), (.int .i64 n9)] h7 fun h10 =>
    K1 ((xs_0_p, xs_0_n, xs_0_c), cut_1, up_5, w_6, (IntKind.wrap .i64 (i_7 + (1 : Int))), ()) h10) (
    callStr P n_tape_Writer_Text #[(.pointer (some w_6))] h7 fun s12 h11 =>
    ifB (((s12.size : Nat) : Int) == (0 : Int)) (
      ifB up_5 (
        callPtr P n_tape_Read #[(.string (ByteArray.mk #[]))] h11 fun p14 h13 =>
        callInt P .i64 n_tape_Reader_Err #[(.pointer p14)] h13 fun n16 h15 =>
        ifB (n16 == (0 : Int)) (
          callPtr P n_tape_Read #[(.string (ByteArray.mk #[]))] h15 fun p18 h17 =>
          callInt P .i64 n_tape_Reader_Word #[(.pointer p18)] h17 fun n20 h19 =>
          Q (.bool (n20 == (0 : Int))) h19) (
          Q (.bool false) h15)) (
        Q (.bool false) h11)) (
      neI ((s12.size : Nat) : Int) fun _ =>
      neI ((s12.size : Nat) : Int) fun _ =>
      bndI (IntKind.wrap .i64 (((s12.size : Nat) : Int) - (IntKind.wrap .i64 ((1 : Int) + (Int.tmod (IntKind.wrap .i64 ((Int.tmod cut_1 ((s12.size : Nat) : Int)) + ((s12.size : Nat) : Int))) ((s12.size : Nat) : Int)))))) s12.size fun l21 =>
      callPtr P n_tape_Read #[(.string (s12.extract 0 l21))] h11 fun p23 h22 =>
      LoopS (S := ((Option Addr × Nat × Nat) × Bool × ByteArray × Int × Int × Option Addr × Int × Unit)) (fun K2 s h => law06_TapeShort_l16 Q K1 K2 s.1.1 s.1.2.1 s.1.2.2 s.2.1 s.2.2.1 s.2.2.2.1 s.2.2.2.2.1 s.2.2.2.2.2.1 s.2.2.2.2.2.2.1 h) ((xs_0_p, xs_0_n, xs_0_c), up_5, s12, (IntKind.wrap .i64 ((1 : Int) + (Int.tmod (IntKind.wrap .i64 ((Int.tmod cut_1 ((s12.size : Nat) : Int)) + ((s12.size : Nat) : Int))) ((s12.size : Nat) : Int)))), (IntKind.wrap .i64 (Int.tdiv (IntKind.wrap .i64 (((s12.size : Nat) : Int) - (IntKind.wrap .i64 ((1 : Int) + (Int.tmod (IntKind.wrap .i64 ((Int.tmod cut_1 ((s12.size : Nat) : Int)) + ((s12.size : Nat) : Int))) ((s12.size : Nat) : Int)))))) (4 : Int))), p23, (0 : Int), ()) h22))
def law06_TapeShort_j4 (Q : Value → Heap → Prop) (xs_0_p : Option Addr) (xs_0_n : Nat) (xs_0_c : Nat) (cut_1 : Int) (up_5 : Bool) (h4 : Heap) : Prop :=
  newI h4 (.cells #[(.int .i64 (0 : Int)), (.slice none 0 0)] 28 (0, 0)) fun b5 h6 =>
  LoopS (S := ((Option Addr × Nat × Nat) × Int × Bool × Addr × Int × Unit)) (fun K1 s h => law06_TapeShort_l6 Q K1 s.1.1 s.1.2.1 s.1.2.2 s.2.1 s.2.2.1 s.2.2.2.1 s.2.2.2.2.1 h) ((xs_0_p, xs_0_n, xs_0_c), cut_1, up_5, ⟨b5, 0, none⟩, (0 : Int), ()) h6
def law06_TapeShort (xs_0_p : Option Addr) (xs_0_n : Nat) (xs_0_c : Nat) (cut_1 : Int) (h : Heap) (Q : Value → Heap → Prop) : Prop :=
  callBool P n_law06_awake #[] h fun b2 h1 =>
  ∃ J3 : ((Option Addr × Nat × Nat) × Int × Bool × Unit) → Heap → Prop, (∀ s h, J3 s h → law06_TapeShort_j4 Q s.1.1 s.1.2.1 s.1.2.2 s.2.1 s.2.2.1 h) ∧
  ifB (decide (((xs_0_n : Nat) : Int) > (15 : Int))) (
    bndI (15 : Int) xs_0_c fun l49 =>
    J3 (((if xs_0_c = 0 then xs_0_p else Option.map (fun a => a.add (0 * 1)) xs_0_p), (l49 - 0), (xs_0_c - 0)), cut_1, b2, ()) h1) (
    J3 ((xs_0_p, xs_0_n, xs_0_c), cut_1, b2, ()) h1)
noncomputable def tab_law06_TapeShort : Tab := { sch := lookT .done [], lp := lookT [] [(6, [(0, .sc (.slice)), (1, .sc (.int .i64)), (5, .sc (.bool)), (6, .sc (.adr)), (7, .sc (.int .i64))]), (16, [(0, .sc (.slice)), (5, .sc (.bool)), (8, .sc (.str)), (9, .sc (.int .i64)), (10, .sc (.int .i64)), (11, .sc (.ptr)), (12, .sc (.int .i64))])], jn := lookT none [(4, some [(0, .sc (.slice)), (1, .sc (.int .i64)), (5, .sc (.bool))]), (21, some [(0, .sc (.slice)), (5, .sc (.bool)), (8, .sc (.str)), (9, .sc (.int .i64)), (10, .sc (.int .i64)), (11, .sc (.ptr)), (12, .sc (.int .i64)), (13, .sc (.int .i64))])] }
theorem eq_law06_TapeShort (xs_0_p : Option Addr) (xs_0_n : Nat) (xs_0_c : Nat) (cut_1 : Int) (h : Heap) (Q : Value → Heap → Prop) : fnI P Try.f5 tab_law06_TapeShort [(.slice xs_0_p xs_0_n xs_0_c), (.int .i64 cut_1)] h Q = law06_TapeShort xs_0_p xs_0_n xs_0_c cut_1 h Q := by kernel_rfl
theorem ok_law06_TapeShort : fnOk P Try.f5 tab_law06_TapeShort = true := by kernel_rfl
theorem call_law06_TapeShort (xs_0_p : Option Addr) (xs_0_n : Nat) (xs_0_c : Nat) (cut_1 : Int) {h : Heap} {Q : Value → Heap → Prop} (H : law06_TapeShort xs_0_p xs_0_n xs_0_c cut_1 h Q) : callP P n_law06_TapeShort #[(.slice xs_0_p xs_0_n xs_0_c), (.int .i64 cut_1)] h Q :=
  @callP_of P n_law06_TapeShort Try.f5 tab_law06_TapeShort [(.slice xs_0_p xs_0_n xs_0_c), (.int .i64 cut_1)] h Q mixed Try.func5 Try.call5 ok_law06_TapeShort (Eq.mpr (eq_law06_TapeShort xs_0_p xs_0_n xs_0_c cut_1 h Q) H)

/-! ### earshot/earshotlaw06.TapeNil: function 6 -/
def law06_TapeNil (q_0_0 : Int) (q_0_1 : Int) (q_0_2_p : Option Addr) (q_0_2_n : Nat) (q_0_2_c : Nat) (h : Heap) (Q : Value → Heap → Prop) : Prop :=
  newI h (.cells #[(.int .i64 q_0_0), (.int .i64 q_0_1), (.slice q_0_2_p q_0_2_n q_0_2_c)] 31 (0, 0)) fun b1 h2 =>
  ldInt .i64 h2 ⟨b1, 0, none⟩ fun n3 =>
  ldInt .i64 h2 ⟨b1, 1, none⟩ fun n4 =>
  ldSlice h2 ⟨b1, 2, none⟩ fun p5 l5 c5 =>
  callStr P n_law06_Item_write #[(.agg #[(.int .i64 n3), (.int .i64 n4), (.slice p5 l5 c5)]), (.pointer none)] h2 fun s7 h6 =>
  callBool P n_law06_awake #[] h6 fun b9 h8 =>
  ifB b9 (
    callStr P n_tape_Writer_Text #[(.pointer none)] h8 fun s11 h10 =>
    ifB (s11.toList == (ByteArray.mk #[]).toList) (
      callInt P .i64 n_tape_Writer_At #[(.pointer none)] h10 fun n13 h12 =>
      ifB (n13 == (0 : Int)) (
        callInt P .i64 n_tape_Reader_Byte #[(.pointer none)] h12 fun n15 h14 =>
        ifB (n15 == (0 : Int)) (
          callInt P .i64 n_tape_Reader_Short #[(.pointer none)] h14 fun n17 h16 =>
          ifB (n17 == (0 : Int)) (
            callInt P .i64 n_tape_Reader_Word #[(.pointer none)] h16 fun n19 h18 =>
            ifB (n19 == (0 : Int)) (
              callInt P .u64 n_tape_Reader_Long #[(.pointer none)] h18 fun n21 h20 =>
              ifB (n21 == (0 : Int)) (
                callSlice P n_tape_Reader_Row #[(.pointer none)] h20 fun p23 l23 c23 h22 =>
                ifB (((l23 : Nat) : Int) == (0 : Int)) (
                  callInt P .i64 n_tape_Reader_Left #[(.pointer none)] h22 fun n25 h24 =>
                  ifB (n25 == (0 : Int)) (
                    callInt P .i64 n_tape_Reader_At #[(.pointer none)] h24 fun n27 h26 =>
                    ifB (n27 == (0 : Int)) (
                      callInt P .i64 n_tape_Reader_Err #[(.pointer none)] h26 fun n29 h28 =>
                      Q (.bool (n29 == (1 : Int))) h28) (
                      Q (.bool false) h26)) (
                    Q (.bool false) h24)) (
                  Q (.bool false) h22)) (
                Q (.bool false) h20)) (
              Q (.bool false) h18)) (
            Q (.bool false) h16)) (
          Q (.bool false) h14)) (
        Q (.bool false) h12)) (
      Q (.bool false) h10)) (
    Q (.bool false) h8)
noncomputable def tab_law06_TapeNil : Tab := { sch := lookT .done [], lp := lookT [] [], jn := lookT none [] }
theorem eq_law06_TapeNil (q_0_0 : Int) (q_0_1 : Int) (q_0_2_p : Option Addr) (q_0_2_n : Nat) (q_0_2_c : Nat) (h : Heap) (Q : Value → Heap → Prop) : fnI P Try.f6 tab_law06_TapeNil [(.agg #[(.int .i64 q_0_0), (.int .i64 q_0_1), (.slice q_0_2_p q_0_2_n q_0_2_c)])] h Q = law06_TapeNil q_0_0 q_0_1 q_0_2_p q_0_2_n q_0_2_c h Q := by kernel_rfl
theorem ok_law06_TapeNil : fnOk P Try.f6 tab_law06_TapeNil = true := by kernel_rfl
theorem call_law06_TapeNil (q_0_0 : Int) (q_0_1 : Int) (q_0_2_p : Option Addr) (q_0_2_n : Nat) (q_0_2_c : Nat) {h : Heap} {Q : Value → Heap → Prop} (H : law06_TapeNil q_0_0 q_0_1 q_0_2_p q_0_2_n q_0_2_c h Q) : callP P n_law06_TapeNil #[(.agg #[(.int .i64 q_0_0), (.int .i64 q_0_1), (.slice q_0_2_p q_0_2_n q_0_2_c)])] h Q :=
  @callP_of P n_law06_TapeNil Try.f6 tab_law06_TapeNil [(.agg #[(.int .i64 q_0_0), (.int .i64 q_0_1), (.slice q_0_2_p q_0_2_n q_0_2_c)])] h Q mixed Try.func6 Try.call6 ok_law06_TapeNil (Eq.mpr (eq_law06_TapeNil q_0_0 q_0_1 q_0_2_p q_0_2_n q_0_2_c h Q) H)

/-! ### earshot/earshotlaw06.TapeBack: function 7 -/
def law06_TapeBack_l18 (Q : Value → Heap → Prop) (K1 : ((Option Addr × Nat × Nat) × Bool × Addr × Option Addr × Int × Unit) → Heap → Prop) (K2 : ((Option Addr × Nat × Nat) × Bool × Addr × Option Addr × Int × Bool × (Option Addr × Nat × Nat) × (Option Addr × Nat × Nat) × Int × Unit) → Heap → Prop) (script_0_p : Option Addr) (script_0_n : Nat) (script_0_c : Nat) (up_3 : Bool) (w_4 : Addr) (r_6 : Option Addr) (i_7 : Int) (ok_9 : Bool) (l_10_p : Option Addr) (l_10_n : Nat) (l_10_c : Nat) (x_11_p : Option Addr) (x_11_n : Nat) (x_11_c : Nat) (j_12 : Int) (h38 : Heap) : Prop :=
  ifB (decide (j_12 < ((l_10_n : Nat) : Int))) (
    ifB ok_9 (
      idxI l_10_p j_12 l_10_n fun a39 =>
      idxI x_11_p j_12 x_11_n fun a40 =>
      ldInt .i64 h38 (Addr.add a39 (j_12.toNat * 1)) fun n41 =>
      ldInt .i64 h38 (Addr.add a40 (j_12.toNat * 1)) fun n42 =>
      K2 ((script_0_p, script_0_n, script_0_c), up_3, w_4, r_6, i_7, (n41 == (IntKind.wrap .i64 (IntKind.wrap .i32 n42))), (l_10_p, l_10_n, l_10_c), (x_11_p, x_11_n, x_11_c), (IntKind.wrap .i64 (j_12 + (1 : Int))), ()) h38) (
      ifB (!ok_9) (
        Q (.bool false) h38) (
        K1 ((script_0_p, script_0_n, script_0_c), up_3, w_4, r_6, (IntKind.wrap .i64 (i_7 + (1 : Int))), ()) h38))) (
    ifB (!ok_9) (
      Q (.bool false) h38) (
      K1 ((script_0_p, script_0_n, script_0_c), up_3, w_4, r_6, (IntKind.wrap .i64 (i_7 + (1 : Int))), ()) h38))
def law06_TapeBack_j11 (Q : Value → Heap → Prop) (K1 : ((Option Addr × Nat × Nat) × Bool × Addr × Option Addr × Int × Unit) → Heap → Prop) (script_0_p : Option Addr) (script_0_n : Nat) (script_0_c : Nat) (up_3 : Bool) (w_4 : Addr) (r_6 : Option Addr) (i_7 : Int) (h13 : Heap) : Prop :=
  idxI script_0_p i_7 script_0_n fun a14 =>
  ldInt .i64 h13 (Addr.add (Addr.add a14 (i_7.toNat * 3)) 1) fun n15 =>
  idxI script_0_p i_7 script_0_n fun a16 =>
  ldInt .i64 h13 (Addr.add a16 (i_7.toNat * 3)) fun n17 =>
  ldInt .i64 h13 (Addr.add (Addr.add a16 (i_7.toNat * 3)) 1) fun n18 =>
  ldSlice h13 (Addr.add (Addr.add a16 (i_7.toNat * 3)) 2) fun p19 l19 c19 =>
  callInt P .i64 n_law06_Item_kind #[(.agg #[(.int .i64 n17), (.int .i64 n18), (.slice p19 l19 c19)])] h13 fun n21 h20 =>
  ifB (n21 == (0 : Int)) (
    callInt P .i64 n_tape_Reader_Byte #[(.pointer r_6)] h20 fun n23 h22 =>
    ifB (!(n23 == (andI .i64 n15 (255 : Int)))) (
      Q (.bool false) h22) (
      K1 ((script_0_p, script_0_n, script_0_c), up_3, w_4, r_6, (IntKind.wrap .i64 (i_7 + (1 : Int))), ()) h22)) (
    ifB (n21 == (1 : Int)) (
      callInt P .i64 n_tape_Reader_Short #[(.pointer r_6)] h20 fun n25 h24 =>
      ifB (!(n25 == (andI .i64 n15 (65535 : Int)))) (
        Q (.bool false) h24) (
        K1 ((script_0_p, script_0_n, script_0_c), up_3, w_4, r_6, (IntKind.wrap .i64 (i_7 + (1 : Int))), ()) h24)) (
      ifB (n21 == (2 : Int)) (
        callInt P .i64 n_tape_Reader_Word #[(.pointer r_6)] h20 fun n27 h26 =>
        ifB (!(n27 == (IntKind.wrap .i64 (IntKind.wrap .i32 n15)))) (
          Q (.bool false) h26) (
          K1 ((script_0_p, script_0_n, script_0_c), up_3, w_4, r_6, (IntKind.wrap .i64 (i_7 + (1 : Int))), ()) h26)) (
        ifB (n21 == (3 : Int)) (
          callInt P .u64 n_tape_Reader_Long #[(.pointer r_6)] h20 fun n29 h28 =>
          ifB (!(n29 == (IntKind.wrap .u64 n15))) (
            Q (.bool false) h28) (
            K1 ((script_0_p, script_0_n, script_0_c), up_3, w_4, r_6, (IntKind.wrap .i64 (i_7 + (1 : Int))), ()) h28)) (
          callSlice P n_tape_Reader_Row #[(.pointer r_6)] h20 fun p31 l31 c31 h30 =>
          idxI script_0_p i_7 script_0_n fun a32 =>
          ldInt .i64 h30 (Addr.add a32 (i_7.toNat * 3)) fun n33 =>
          ldInt .i64 h30 (Addr.add (Addr.add a32 (i_7.toNat * 3)) 1) fun n34 =>
          ldSlice h30 (Addr.add (Addr.add a32 (i_7.toNat * 3)) 2) fun p35 l35 c35 =>
          callSlice P n_law06_Item_xs #[(.agg #[(.int .i64 n33), (.int .i64 n34), (.slice p35 l35 c35)])] h30 fun p37 l37 c37 h36 =>
          LoopS (S := ((Option Addr × Nat × Nat) × Bool × Addr × Option Addr × Int × Bool × (Option Addr × Nat × Nat) × (Option Addr × Nat × Nat) × Int × Unit)) (fun K2 s h => law06_TapeBack_l18 Q K1 K2 s.1.1 s.1.2.1 s.1.2.2 s.2.1 s.2.2.1 s.2.2.2.1 s.2.2.2.2.1 s.2.2.2.2.2.1 s.2.2.2.2.2.2.1.1 s.2.2.2.2.2.2.1.2.1 s.2.2.2.2.2.2.1.2.2 s.2.2.2.2.2.2.2.1.1 s.2.2.2.2.2.2.2.1.2.1 s.2.2.2.2.2.2.2.1.2.2 s.2.2.2.2.2.2.2.2.1 h) ((script_0_p, script_0_n, script_0_c), up_3, w_4, r_6, i_7, (((l31 : Nat) : Int) == ((l37 : Nat) : Int)), (p31, l31, c31), (p37, l37, c37), (0 : Int), ()) h36))))
def law06_TapeBack_l9 (Q : Value → Heap → Prop) (K1 : ((Option Addr × Nat × Nat) × Bool × Addr × Option Addr × Int × Unit) → Heap → Prop) (script_0_p : Option Addr) (script_0_n : Nat) (script_0_c : Nat) (up_3 : Bool) (w_4 : Addr) (r_6 : Option Addr) (i_7 : Int) (h11 : Heap) : Prop :=
  ∃ J12 : ((Option Addr × Nat × Nat) × Bool × Addr × Option Addr × Int × Unit) → Heap → Prop, (∀ s h, J12 s h → law06_TapeBack_j11 Q K1 s.1.1 s.1.2.1 s.1.2.2 s.2.1 s.2.2.1 s.2.2.2.1 s.2.2.2.2.1 h) ∧
  ifB (decide (i_7 < ((script_0_n : Nat) : Int))) (
    ifB (decide (i_7 < (30 : Int))) (
      J12 ((script_0_p, script_0_n, script_0_c), up_3, w_4, r_6, i_7, ()) h11) (
      ifB up_3 (
        callInt P .i64 n_tape_Reader_Left #[(.pointer r_6)] h11 fun n44 h43 =>
        ifB (n44 == (0 : Int)) (
          callInt P .i64 n_tape_Reader_Err #[(.pointer r_6)] h43 fun n46 h45 =>
          ifB (n46 == (0 : Int)) (
            callInt P .i64 n_tape_Reader_At #[(.pointer r_6)] h45 fun n48 h47 =>
            callInt P .i64 n_tape_Writer_At #[(.pointer (some w_4))] h47 fun n50 h49 =>
            Q (.bool (n48 == n50)) h49) (
            Q (.bool false) h45)) (
          Q (.bool false) h43)) (
        Q (.bool false) h11))) (
    ifB up_3 (
      callInt P .i64 n_tape_Reader_Left #[(.pointer r_6)] h11 fun n52 h51 =>
      ifB (n52 == (0 : Int)) (
        callInt P .i64 n_tape_Reader_Err #[(.pointer r_6)] h51 fun n54 h53 =>
        ifB (n54 == (0 : Int)) (
          callInt P .i64 n_tape_Reader_At #[(.pointer r_6)] h53 fun n56 h55 =>
          callInt P .i64 n_tape_Writer_At #[(.pointer (some w_4))] h55 fun n58 h57 =>
          Q (.bool (n56 == n58)) h57) (
          Q (.bool false) h53)) (
        Q (.bool false) h51)) (
      Q (.bool false) h11))
def law06_TapeBack_j7 (Q : Value → Heap → Prop) (script_0_p : Option Addr) (script_0_n : Nat) (script_0_c : Nat) (up_3 : Bool) (w_4 : Addr) (h6 : Heap) : Prop :=
  callStr P n_tape_Writer_Text #[(.pointer (some w_4))] h6 fun s8 h7 =>
  callPtr P n_tape_Read #[(.string s8)] h7 fun p10 h9 =>
  LoopS (S := ((Option Addr × Nat × Nat) × Bool × Addr × Option Addr × Int × Unit)) (fun K1 s h => law06_TapeBack_l9 Q K1 s.1.1 s.1.2.1 s.1.2.2 s.2.1 s.2.2.1 s.2.2.2.1 s.2.2.2.2.1 h) ((script_0_p, script_0_n, script_0_c), up_3, w_4, p10, (0 : Int), ()) h9
def law06_TapeBack_l4 (Q : Value → Heap → Prop) (J5 : ((Option Addr × Nat × Nat) × Bool × Addr × Unit) → Heap → Prop) (K1 : ((Option Addr × Nat × Nat) × Bool × Addr × Int × Unit) → Heap → Prop) (script_0_p : Option Addr) (script_0_n : Nat) (script_0_c : Nat) (up_3 : Bool) (w_4 : Addr) (i_5 : Int) (h59 : Heap) : Prop :=
  ifB (decide (i_5 < ((script_0_n : Nat) : Int))) (
    ifB (decide (i_5 < (30 : Int))) (
      idxI script_0_p i_5 script_0_n fun a60 =>
      ldInt .i64 h59 (Addr.add a60 (i_5.toNat * 3)) fun n61 =>
      ldInt .i64 h59 (Addr.add (Addr.add a60 (i_5.toNat * 3)) 1) fun n62 =>
      ldSlice h59 (Addr.add (Addr.add a60 (i_5.toNat * 3)) 2) fun p63 l63 c63 =>
      callStr P n_law06_Item_write #[(.agg #[(.int .i64 n61), (.int .i64 n62), (.slice p63 l63 c63)]), (.pointer (some w_4))] h59 fun s65 h64 =>
      K1 ((script_0_p, script_0_n, script_0_c), up_3, w_4, (IntKind.wrap .i64 (i_5 + (1 : Int))), ()) h64) (
      J5 ((script_0_p, script_0_n, script_0_c), up_3, w_4, ()) h59)) (
    J5 ((script_0_p, script_0_n, script_0_c), up_3, w_4, ()) h59)
def law06_TapeBack (script_0_p : Option Addr) (script_0_n : Nat) (script_0_c : Nat) (h : Heap) (Q : Value → Heap → Prop) : Prop :=
  callBool P n_law06_awake #[] h fun b2 h1 =>
  newI h1 (.cells #[(.int .i64 (0 : Int)), (.slice none 0 0)] 28 (0, 0)) fun b3 h4 =>
  ∃ J5 : ((Option Addr × Nat × Nat) × Bool × Addr × Unit) → Heap → Prop, (∀ s h, J5 s h → law06_TapeBack_j7 Q s.1.1 s.1.2.1 s.1.2.2 s.2.1 s.2.2.1 h) ∧
  LoopS (S := ((Option Addr × Nat × Nat) × Bool × Addr × Int × Unit)) (fun K1 s h => law06_TapeBack_l4 Q J5 K1 s.1.1 s.1.2.1 s.1.2.2 s.2.1 s.2.2.1 s.2.2.2.1 h) ((script_0_p, script_0_n, script_0_c), b2, ⟨b3, 0, none⟩, (0 : Int), ()) h4
noncomputable def tab_law06_TapeBack : Tab := { sch := lookT .done [(20, (.one 0 (.one 1 (.one 2 (.one 4 (.one 5 (.one 6 (.one 3 (.one 7 (.one 8 (.one 9 (.one 10 (.one 11 .done)))))))))))))], lp := lookT [] [(4, [(0, .sc (.slice)), (3, .sc (.bool)), (4, .sc (.adr)), (5, .sc (.int .i64))]), (9, [(0, .sc (.slice)), (3, .sc (.bool)), (4, .sc (.adr)), (6, .sc (.ptr)), (7, .sc (.int .i64))]), (18, [(0, .sc (.slice)), (3, .sc (.bool)), (4, .sc (.adr)), (6, .sc (.ptr)), (7, .sc (.int .i64)), (9, .sc (.bool)), (10, .sc (.slice)), (11, .sc (.slice)), (12, .sc (.int .i64))])], jn := lookT none [(7, some [(0, .sc (.slice)), (3, .sc (.bool)), (4, .sc (.adr))]), (11, some [(0, .sc (.slice)), (3, .sc (.bool)), (4, .sc (.adr)), (6, .sc (.ptr)), (7, .sc (.int .i64))])] }
theorem eq_law06_TapeBack (script_0_p : Option Addr) (script_0_n : Nat) (script_0_c : Nat) (h : Heap) (Q : Value → Heap → Prop) : fnI P Try.f7 tab_law06_TapeBack [(.slice script_0_p script_0_n script_0_c)] h Q = law06_TapeBack script_0_p script_0_n script_0_c h Q := by kernel_rfl
theorem ok_law06_TapeBack : fnOk P Try.f7 tab_law06_TapeBack = true := by kernel_rfl
theorem call_law06_TapeBack (script_0_p : Option Addr) (script_0_n : Nat) (script_0_c : Nat) {h : Heap} {Q : Value → Heap → Prop} (H : law06_TapeBack script_0_p script_0_n script_0_c h Q) : callP P n_law06_TapeBack #[(.slice script_0_p script_0_n script_0_c)] h Q :=
  @callP_of P n_law06_TapeBack Try.f7 tab_law06_TapeBack [(.slice script_0_p script_0_n script_0_c)] h Q mixed Try.func7 Try.call7 ok_law06_TapeBack (Eq.mpr (eq_law06_TapeBack script_0_p script_0_n script_0_c h Q) H)

end Go.Proofs.Ytdjofpdmdbcgjab.G
