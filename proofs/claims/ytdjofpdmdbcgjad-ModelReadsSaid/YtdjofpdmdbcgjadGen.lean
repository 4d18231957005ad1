/- Printed by shp.py out of the program's own print: for each Go function a typed formula over heaps, and the proof that a call does just that. -/
import Derived.Test.YtdjofpdmdbcgjadProg
import Derived.Test.YtdjofpdmdbcgjadShW
set_option linter.unusedVariables false
set_option maxRecDepth 100000
namespace Go.Proofs.Ytdjofpdmdbcgjad.G
open Go Go.Sh
noncomputable abbrev P : Program := Try.prog
theorem mixed : P.follows .mixedOrders = true := by kernel_rfl
abbrev A1 : List Sc := [.int .i64, .slice, .int .i64, .int .i64, .int .i64, .int .i64, .int .i64, .int .i64, .slice, .slice, .int .i64, .int .i64, .int .i64, .int .i64, .int .i64]
abbrev A2 : List Sc := [.int .i64, .int .i64, .int .i64, .slice, .int .i64]
abbrev A3 : List Sc := [.int .i64, .int .i64, .int .i64, .int .i64, .int .i64, .int .i64]
abbrev Y1 := (Option Addr × Int × Int × (Option Addr × Nat × Nat) × Int × Int × Unit)
abbrev Y2 := (Option Addr × (Option Addr × Nat × Nat) × Int × Int × Unit)
abbrev Y3 := (Addr × Addr × (Option Addr × Nat × Nat) × Int × Int × Unit)
abbrev Y4 := (Option Addr × Int × Int × Int × (Option Addr × Nat × Nat) × Int × Unit)
abbrev Y5 := (Option Addr × (Option Addr × Nat × Nat) × (Option Addr × Nat × Nat) × Bool × Addr × Addr × Int × Int × Bool × Int × Unit)
abbrev Y6 := (Addr × Addr × Int × Addr × Int × Addr × (Option Addr × Nat × Nat) × Int × Unit)
abbrev Y7 := (Addr × Addr × Addr × Bool × Int × (Option Addr × Nat × Nat) × (Option Addr × Nat × Nat) × Int × Unit)
abbrev Y8 := (Addr × Addr × Addr × Bool × Int × (Option Addr × Nat × Nat) × (Option Addr × Nat × Nat) × Int × Int × Unit)
abbrev Y9 := (Addr × Addr × Addr × Bool × Int × (Option Addr × Nat × Nat) × (Option Addr × Nat × Nat) × Int × Int × (Option Addr × Nat × Nat) × (Option Addr × Nat × Nat) × Unit)
abbrev Y10 := (Option Addr × Int × (Option Addr × Nat × Nat) × Int × Unit)
abbrev Y11 := (Addr × Addr × Addr × Int × (Option Addr × Nat × Nat) × (Option Addr × Nat × Nat) × Int × Unit)
abbrev Y12 := (ByteArray × (Option Addr × Nat × Nat) × Addr × Bool × Unit)
abbrev n_model_writer_fits : FuncId := 44
abbrev n_tape_place_moved : FuncId := 75
abbrev n_tape_Writer_put : FuncId := 69
abbrev n_tape_Writer_Byte : FuncId := 45
abbrev n_model_writer_small : FuncId := 22
abbrev n_tape_Writer_Word : FuncId := 46
abbrev n_model_writer_words : FuncId := 23
abbrev n_tape_Writer_Short : FuncId := 48
abbrev n_tape_Writer_Row : FuncId := 70
abbrev n_model_writer_rows : FuncId := 47
abbrev n_model_writer_node : FuncId := 24
abbrev n_tape_Writer_Text : FuncId := 25
abbrev n_model_Encode : FuncId := 10
abbrev n_law15_awake : FuncId := 8
abbrev n_ref14_Row_Next : FuncId := 17
abbrev n_ref14_Windows : FuncId := 42
abbrev n_ref14_Span : FuncId := 61
abbrev n_ref14_Row_window : FuncId := 39
abbrev n_ref14_Row_row : FuncId := 40
abbrev n_ref14_Made : FuncId := 18
abbrev n_ref14_all : FuncId := 62
abbrev n_ref14_in : FuncId := 63
abbrev n_ref14_Many : FuncId := 64
abbrev n_ref14_weighs : FuncId := 65
abbrev n_ref14_four : FuncId := 68
abbrev n_ref14_else0 : FuncId := 66
abbrev n_ref14_weights : FuncId := 76
abbrev n_ref14_sized : FuncId := 67
abbrev n_ref14_Check : FuncId := 41
abbrev n_ref14_Width : FuncId := 19
abbrev n_ref14_Step : FuncId := 43
abbrev n_ref15_rate : FuncId := 20
abbrev n_ref15_turned : FuncId := 21
abbrev n_ref15_Made : FuncId := 9
abbrev n_ref15_in : FuncId := 71
abbrev n_ref06_Bytes : FuncId := 72
abbrev n_ref15_Out_put : FuncId := 49
abbrev n_ref15_Out_byt : FuncId := 26
abbrev n_ref15_Out_word : FuncId := 27
abbrev n_ref15_Out_row : FuncId := 50
abbrev n_ref15_Out_node : FuncId := 28
abbrev n_ref15_Encode : FuncId := 11
abbrev n_law15_ModelFits : FuncId := 3
abbrev n_law15_spoilt : FuncId := 12
abbrev n_internal_stringslite_HasPrefix : FuncId := 74
abbrev n_internal_stringslite_CutPrefix : FuncId := 56
abbrev n_strings_CutPrefix : FuncId := 30
abbrev n_tape_Read : FuncId := 31
abbrev n_tape_place_told : FuncId := 60
abbrev n_tape_Reader_Left : FuncId := 37
abbrev n_tape_Reader_get : FuncId := 57
abbrev n_tape_Reader_Byte : FuncId := 34
abbrev n_model_reader_small : FuncId := 32
abbrev n_tape_Reader_Word : FuncId := 33
abbrev n_tape_Reader_Short : FuncId := 59
abbrev n_tape_Reader_Err : FuncId := 36
abbrev n_tape_Reader_Row : FuncId := 58
abbrev n_model_reader_node : FuncId := 35
abbrev n_model_Decode : FuncId := 14
abbrev n_ref06_Read : FuncId := 51
abbrev n_ref06_Reader_Left : FuncId := 55
abbrev n_ref06_Reader_Num : FuncId := 52
abbrev n_ref06_Reader_Word : FuncId := 53
abbrev n_ref06_Reader_Row : FuncId := 73
abbrev n_ref15_node : FuncId := 54
abbrev n_ref15_Decode : FuncId := 29
abbrev n_ref14_Same : FuncId := 38
abbrev n_ref15_Same : FuncId := 15
abbrev n_law15_reads : FuncId := 13
abbrev n_law15_ModelReads : FuncId := 4
abbrev n_law15_ModelBack : FuncId := 5
abbrev n_law15_once : FuncId := 16
abbrev n_law15_ModelOnce : FuncId := 6
abbrev n_law15_ModelShort : FuncId := 7
/-! ### (*earshot/model.writer).fits: function 44 -/
def model_writer_fits_l1 (Q : Value → Heap → Prop) (K1 : Y1 → Heap → Prop) (w_0 : Option Addr) (low_1 : Int) (high_2 : Int) (t10_p : Option Addr) (t10_n : Nat) (t10_c : Nat) (t11 : Int) (t12 : Int) (h1 : Heap) : Prop :=
  ifB (decide (t12 < t11)) (
    idxI t10_p t12 t10_n fun a2 =>
    ldInt .i64 h1 (Addr.add a2 (t12.toNat * 1)) fun n3 =>
    nilI w_0 fun a4 =>
    ldBool h1 (Addr.add a4 2) fun b5 =>
    ifB b5 (
      nilI w_0 fun a6 =>
      stI h1 (Addr.add a6 2) (.bool true) fun h7 =>
      K1 (w_0, low_1, high_2, (t10_p, t10_n, t10_c), t11, (IntKind.wrap .i64 (t12 + (1 : Int))), ()) h7) (
      ifB (decide (n3 < low_1)) (
        nilI w_0 fun a8 =>
        stI h1 (Addr.add a8 2) (.bool true) fun h9 =>
        K1 (w_0, low_1, high_2, (t10_p, t10_n, t10_c), t11, (IntKind.wrap .i64 (t12 + (1 : Int))), ()) h9) (
        nilI w_0 fun a10 =>
        stI h1 (Addr.add a10 2) (.bool (decide (n3 > high_2))) fun h11 =>
        K1 (w_0, low_1, high_2, (t10_p, t10_n, t10_c), t11, (IntKind.wrap .i64 (t12 + (1 : Int))), ()) h11))) (
    Q (.tuple #[]) h1)
def model_writer_fits (w_0 : Option Addr) (low_1 : Int) (high_2 : Int) (xs_3_p : Option Addr) (xs_3_n : Nat) (xs_3_c : Nat) (h : Heap) (Q : Value → Heap → Prop) : Prop :=
  LoopS (S := Y1) (fun K1 s h => model_writer_fits_l1 Q K1 s.1 s.2.1 s.2.2.1 s.2.2.2.1.1 s.2.2.2.1.2.1 s.2.2.2.1.2.2 s.2.2.2.2.1 s.2.2.2.2.2.1 h) (w_0, low_1, high_2, (xs_3_p, xs_3_n, xs_3_c), ((xs_3_n : Nat) : Int), (0 : Int), ()) h
noncomputable def tab_model_writer_fits : Tab := { sch := lookT .done [], lp := lookT [] [(1, [(0, .sc (.ptr)), (1, .sc (.int .i64)), (2, .sc (.int .i64)), (10, .sc (.slice)), (11, .sc (.int .i64)), (12, .sc (.int .i64))])], jn := lookT none [] }
theorem eq_model_writer_fits (w_0 : Option Addr) (low_1 : Int) (high_2 : Int) (xs_3_p : Option Addr) (xs_3_n : Nat) (xs_3_c : Nat) (h : Heap) (Q : Value → Heap → Prop) : fnI P Try.f44 tab_model_writer_fits [(.pointer w_0), (.int .i64 low_1), (.int .i64 high_2), (.slice xs_3_p xs_3_n xs_3_c)] h Q = model_writer_fits w_0 low_1 high_2 xs_3_p xs_3_n xs_3_c h Q := by kernel_rfl
theorem ok_model_writer_fits : fnOk P Try.f44 tab_model_writer_fits = true := by kernel_rfl
theorem call_model_writer_fits (w_0 : Option Addr) (low_1 : Int) (high_2 : Int) (xs_3_p : Option Addr) (xs_3_n : Nat) (xs_3_c : Nat) {h : Heap} {Q : Value → Heap → Prop} (H : model_writer_fits w_0 low_1 high_2 xs_3_p xs_3_n xs_3_c h Q) : callP P n_model_writer_fits #[(.pointer w_0), (.int .i64 low_1), (.int .i64 high_2), (.slice xs_3_p xs_3_n xs_3_c)] h Q :=
  @callP_of P n_model_writer_fits Try.f44 tab_model_writer_fits [(.pointer w_0), (.int .i64 low_1), (.int .i64 high_2), (.slice xs_3_p xs_3_n xs_3_c)] h Q mixed Try.func44 Try.call44 ok_model_writer_fits (Eq.mpr (eq_model_writer_fits w_0 low_1 high_2 xs_3_p xs_3_n xs_3_c h Q) H)

/-! ### (*earshot/tape.place).moved: function 75 -/
def tape_place_moved (p_0 : Option Addr) (n_1 : Int) (h : Heap) (Q : Value → Heap → Prop) : Prop :=
  nilI p_0 fun a1 =>
  ldInt .i64 h a1 fun n2 =>
  nilI p_0 fun a3 =>
  stI h a3 (.int .i64 (IntKind.wrap .i64 (n2 + n_1))) fun h4 =>
  Q (.tuple #[]) h4
noncomputable def tab_tape_place_moved : Tab := { sch := lookT .done [], lp := lookT [] [], jn := lookT none [] }
theorem eq_tape_place_moved (p_0 : Option Addr) (n_1 : Int) (h : Heap) (Q : Value → Heap → Prop) : fnI P Try.f75 tab_tape_place_moved [(.pointer p_0), (.int .i64 n_1)] h Q = tape_place_moved p_0 n_1 h Q := by kernel_rfl
theorem ok_tape_place_moved : fnOk P Try.f75 tab_tape_place_moved = true := by kernel_rfl
theorem call_tape_place_moved (p_0 : Option Addr) (n_1 : Int) {h : Heap} {Q : Value → Heap → Prop} (H : tape_place_moved p_0 n_1 h Q) : callP P n_tape_place_moved #[(.pointer p_0), (.int .i64 n_1)] h Q :=
  @callP_of P n_tape_place_moved Try.f75 tab_tape_place_moved [(.pointer p_0), (.int .i64 n_1)] h Q mixed Try.func75 Try.call75 ok_tape_place_moved (Eq.mpr (eq_tape_place_moved p_0 n_1 h Q) H)

/-! ### (*earshot/tape.Writer).put: function 69 -/
def tape_Writer_put_l2 (Q : Value → Heap → Prop) (K1 : (Option Addr × Int × Int × Int × Int × Unit) → Heap → Prop) (w_0 : Option Addr) (x_1 : Int) (n_2 : Int) (t8 : Int) (t9 : Int) (h1 : Heap) : Prop :=
  ifB (decide (t9 < t8)) (
    nilI w_0 fun a2 =>
    ldSlice h1 (Addr.add a2 1) fun p3 l3 c3 =>
    newI h1 (.cells #[(.int .u8 (IntKind.wrap .u8 x_1))] 5 (0, 0)) fun b4 h5 =>
    appI 5 1 1 (.int .u8 (0 : Int)) p3 l3 c3 (some ⟨b4, 0, none⟩) 1 h5 fun p6 l6 c6 h7 =>
    nilI w_0 fun a8 =>
    stI h7 (Addr.add a8 1) (.slice p6 l6 c6) fun h9 =>
    K1 (w_0, (shrI x_1 8), n_2, t8, (IntKind.wrap .i64 (t9 + (1 : Int))), ()) h9) (
    nilI w_0 fun a10 =>
    callUnit P n_tape_place_moved #[(.pointer (some a10)), (.int .i64 n_2)] h1 fun h11 =>
    Q (.tuple #[]) h11)
def tape_Writer_put (w_0 : Option Addr) (x_1 : Int) (n_2 : Int) (h : Heap) (Q : Value → Heap → Prop) : Prop :=
  ifB ((w_0).isNone) (
    Q (.tuple #[]) h) (
    LoopS (S := (Option Addr × Int × Int × Int × Int × Unit)) (fun K1 s h => tape_Writer_put_l2 Q K1 s.1 s.2.1 s.2.2.1 s.2.2.2.1 s.2.2.2.2.1 h) (w_0, x_1, n_2, n_2, (0 : Int), ()) h)
noncomputable def tab_tape_Writer_put : Tab := { sch := lookT .done [], lp := lookT [] [(2, [(0, .sc (.ptr)), (1, .sc (.int .u64)), (2, .sc (.int .i64)), (8, .sc (.int .i64)), (9, .sc (.int .i64))])], jn := lookT none [] }
theorem eq_tape_Writer_put (w_0 : Option Addr) (x_1 : Int) (n_2 : Int) (h : Heap) (Q : Value → Heap → Prop) : fnI P Try.f69 tab_tape_Writer_put [(.pointer w_0), (.int .u64 x_1), (.int .i64 n_2)] h Q = tape_Writer_put w_0 x_1 n_2 h Q := by kernel_rfl
theorem ok_tape_Writer_put : fnOk P Try.f69 tab_tape_Writer_put = true := by kernel_rfl
theorem call_tape_Writer_put (w_0 : Option Addr) (x_1 : Int) (n_2 : Int) {h : Heap} {Q : Value → Heap → Prop} (H : tape_Writer_put w_0 x_1 n_2 h Q) : callP P n_tape_Writer_put #[(.pointer w_0), (.int .u64 x_1), (.int .i64 n_2)] h Q :=
  @callP_of P n_tape_Writer_put Try.f69 tab_tape_Writer_put [(.pointer w_0), (.int .u64 x_1), (.int .i64 n_2)] h Q mixed Try.func69 Try.call69 ok_tape_Writer_put (Eq.mpr (eq_tape_Writer_put w_0 x_1 n_2 h Q) H)

/-! ### (*earshot/tape.Writer).Byte: function 45 -/
def tape_Writer_Byte (w_0 : Option Addr) (x_1 : Int) (h : Heap) (Q : Value → Heap → Prop) : Prop :=
  callUnit P n_tape_Writer_put #[(.pointer w_0), (.int .u64 (IntKind.wrap .u64 x_1)), (.int .i64 (1 : Int))] h fun h1 =>
  Q (.tuple #[]) h1
noncomputable def tab_tape_Writer_Byte : Tab := { sch := lookT .done [], lp := lookT [] [], jn := lookT none [] }
theorem eq_tape_Writer_Byte (w_0 : Option Addr) (x_1 : Int) (h : Heap) (Q : Value → Heap → Prop) : fnI P Try.f45 tab_tape_Writer_Byte [(.pointer w_0), (.int .i64 x_1)] h Q = tape_Writer_Byte w_0 x_1 h Q := by kernel_rfl
theorem ok_tape_Writer_Byte : fnOk P Try.f45 tab_tape_Writer_Byte = true := by kernel_rfl
theorem call_tape_Writer_Byte (w_0 : Option Addr) (x_1 : Int) {h : Heap} {Q : Value → Heap → Prop} (H : tape_Writer_Byte w_0 x_1 h Q) : callP P n_tape_Writer_Byte #[(.pointer w_0), (.int .i64 x_1)] h Q :=
  @callP_of P n_tape_Writer_Byte Try.f45 tab_tape_Writer_Byte [(.pointer w_0), (.int .i64 x_1)] h Q mixed Try.func45 Try.call45 ok_tape_Writer_Byte (Eq.mpr (eq_tape_Writer_Byte w_0 x_1 h Q) H)

/-! ### (*earshot/model.writer).small: function 22 -/
def model_writer_small_l2 (Q : Value → Heap → Prop) (K1 : Y2 → Heap → Prop) (w_0 : Option Addr) (t9_p : Option Addr) (t9_n : Nat) (t9_c : Nat) (t10 : Int) (t11 : Int) (h2 : Heap) : Prop :=
  ifB (decide (t11 < t10)) (
    idxI t9_p t11 t9_n fun a3 =>
    ldInt .i64 h2 (Addr.add a3 (t11.toNat * 1)) fun n4 =>
    nilI w_0 fun a5 =>
    callUnit P n_tape_Writer_Byte #[(.pointer (some a5)), (.int .i64 n4)] h2 fun h6 =>
    K1 (w_0, (t9_p, t9_n, t9_c), t10, (IntKind.wrap .i64 (t11 + (1 : Int))), ()) h6) (
    Q (.tuple #[]) h2)
def model_writer_small (w_0 : Option Addr) (xs_1_p : Option Addr) (xs_1_n : Nat) (xs_1_c : Nat) (h : Heap) (Q : Value → Heap → Prop) : Prop :=
  callUnit P n_model_writer_fits #[(.pointer w_0), (.int .i64 (0 : Int)), (.int .i64 (255 : Int)), (.slice xs_1_p xs_1_n xs_1_c)] h fun h1 =>
  LoopS (S := Y2) (fun K1 s h => model_writer_small_l2 Q K1 s.1 s.2.1.1 s.2.1.2.1 s.2.1.2.2 s.2.2.1 s.2.2.2.1 h) (w_0, (xs_1_p, xs_1_n, xs_1_c), ((xs_1_n : Nat) : Int), (0 : Int), ()) h1
noncomputable def tab_model_writer_small : Tab := { sch := lookT .done [], lp := lookT [] [(2, [(0, .sc (.ptr)), (9, .sc (.slice)), (10, .sc (.int .i64)), (11, .sc (.int .i64))])], jn := lookT none [] }
theorem eq_model_writer_small (w_0 : Option Addr) (xs_1_p : Option Addr) (xs_1_n : Nat) (xs_1_c : Nat) (h : Heap) (Q : Value → Heap → Prop) : fnI P Try.f22 tab_model_writer_small [(.pointer w_0), (.slice xs_1_p xs_1_n xs_1_c)] h Q = model_writer_small w_0 xs_1_p xs_1_n xs_1_c h Q := by kernel_rfl
theorem ok_model_writer_small : fnOk P Try.f22 tab_model_writer_small = true := by kernel_rfl
theorem call_model_writer_small (w_0 : Option Addr) (xs_1_p : Option Addr) (xs_1_n : Nat) (xs_1_c : Nat) {h : Heap} {Q : Value → Heap → Prop} (H : model_writer_small w_0 xs_1_p xs_1_n xs_1_c h Q) : callP P n_model_writer_small #[(.pointer w_0), (.slice xs_1_p xs_1_n xs_1_c)] h Q :=
  @callP_of P n_model_writer_small Try.f22 tab_model_writer_small [(.pointer w_0), (.slice xs_1_p xs_1_n xs_1_c)] h Q mixed Try.func22 Try.call22 ok_model_writer_small (Eq.mpr (eq_model_writer_small w_0 xs_1_p xs_1_n xs_1_c h Q) H)

/-! ### (*earshot/tape.Writer).Word: function 46 -/
def tape_Writer_Word (w_0 : Option Addr) (x_1 : Int) (h : Heap) (Q : Value → Heap → Prop) : Prop :=
  callUnit P n_tape_Writer_put #[(.pointer w_0), (.int .u64 (IntKind.wrap .u64 x_1)), (.int .i64 (4 : Int))] h fun h1 =>
  Q (.tuple #[]) h1
noncomputable def tab_tape_Writer_Word : Tab := { sch := lookT .done [], lp := lookT [] [], jn := lookT none [] }
theorem eq_tape_Writer_Word (w_0 : Option Addr) (x_1 : Int) (h : Heap) (Q : Value → Heap → Prop) : fnI P Try.f46 tab_tape_Writer_Word [(.pointer w_0), (.int .i64 x_1)] h Q = tape_Writer_Word w_0 x_1 h Q := by kernel_rfl
theorem ok_tape_Writer_Word : fnOk P Try.f46 tab_tape_Writer_Word = true := by kernel_rfl
theorem call_tape_Writer_Word (w_0 : Option Addr) (x_1 : Int) {h : Heap} {Q : Value → Heap → Prop} (H : tape_Writer_Word w_0 x_1 h Q) : callP P n_tape_Writer_Word #[(.pointer w_0), (.int .i64 x_1)] h Q :=
  @callP_of P n_tape_Writer_Word Try.f46 tab_tape_Writer_Word [(.pointer w_0), (.int .i64 x_1)] h Q mixed Try.func46 Try.call46 ok_tape_Writer_Word (Eq.mpr (eq_tape_Writer_Word w_0 x_1 h Q) H)

/-! ### (*earshot/model.writer).words: function 23 -/
def model_writer_words_l2 (Q : Value → Heap → Prop) (K1 : Y2 → Heap → Prop) (w_0 : Option Addr) (t9_p : Option Addr) (t9_n : Nat) (t9_c : Nat) (t10 : Int) (t11 : Int) (h2 : Heap) : Prop :=
  ifB (decide (t11 < t10)) (
    idxI t9_p t11 t9_n fun a3 =>
    ldInt .i64 h2 (Addr.add a3 (t11.toNat * 1)) fun n4 =>
    nilI w_0 fun a5 =>
    callUnit P n_tape_Writer_Word #[(.pointer (some a5)), (.int .i64 n4)] h2 fun h6 =>
    K1 (w_0, (t9_p, t9_n, t9_c), t10, (IntKind.wrap .i64 (t11 + (1 : Int))), ()) h6) (
    Q (.tuple #[]) h2)
def model_writer_words (w_0 : Option Addr) (xs_1_p : Option Addr) (xs_1_n : Nat) (xs_1_c : Nat) (h : Heap) (Q : Value → Heap → Prop) : Prop :=
  callUnit P n_model_writer_fits #[(.pointer w_0), (.int .i64 (-2147483648 : Int)), (.int .i64 (2147483647 : Int)), (.slice xs_1_p xs_1_n xs_1_c)] h fun h1 =>
  LoopS (S := Y2) (fun K1 s h => model_writer_words_l2 Q K1 s.1 s.2.1.1 s.2.1.2.1 s.2.1.2.2 s.2.2.1 s.2.2.2.1 h) (w_0, (xs_1_p, xs_1_n, xs_1_c), ((xs_1_n : Nat) : Int), (0 : Int), ()) h1
noncomputable def tab_model_writer_words : Tab := { sch := lookT .done [], lp := lookT [] [(2, [(0, .sc (.ptr)), (9, .sc (.slice)), (10, .sc (.int .i64)), (11, .sc (.int .i64))])], jn := lookT none [] }
theorem eq_model_writer_words (w_0 : Option Addr) (xs_1_p : Option Addr) (xs_1_n : Nat) (xs_1_c : Nat) (h : Heap) (Q : Value → Heap → Prop) : fnI P Try.f23 tab_model_writer_words [(.pointer w_0), (.slice xs_1_p xs_1_n xs_1_c)] h Q = model_writer_words w_0 xs_1_p xs_1_n xs_1_c h Q := by kernel_rfl
theorem ok_model_writer_words : fnOk P Try.f23 tab_model_writer_words = true := by kernel_rfl
theorem call_model_writer_words (w_0 : Option Addr) (xs_1_p : Option Addr) (xs_1_n : Nat) (xs_1_c : Nat) {h : Heap} {Q : Value → Heap → Prop} (H : model_writer_words w_0 xs_1_p xs_1_n xs_1_c h Q) : callP P n_model_writer_words #[(.pointer w_0), (.slice xs_1_p xs_1_n xs_1_c)] h Q :=
  @callP_of P n_model_writer_words Try.f23 tab_model_writer_words [(.pointer w_0), (.slice xs_1_p xs_1_n xs_1_c)] h Q mixed Try.func23 Try.call23 ok_model_writer_words (Eq.mpr (eq_model_writer_words w_0 xs_1_p xs_1_n xs_1_c h Q) H)

/-! ### (*earshot/tape.Writer).Short: function 48 -/
def tape_Writer_Short (w_0 : Option Addr) (x_1 : Int) (h : Heap) (Q : Value → Heap → Prop) : Prop :=
  callUnit P n_tape_Writer_put #[(.pointer w_0), (.int .u64 (IntKind.wrap .u64 x_1)), (.int .i64 (2 : Int))] h fun h1 =>
  Q (.tuple #[]) h1
noncomputable def tab_tape_Writer_Short : Tab := { sch := lookT .done [], lp := lookT [] [], jn := lookT none [] }
theorem eq_tape_Writer_Short (w_0 : Option Addr) (x_1 : Int) (h : Heap) (Q : Value → Heap → Prop) : fnI P Try.f48 tab_tape_Writer_Short [(.pointer w_0), (.int .i64 x_1)] h Q = tape_Writer_Short w_0 x_1 h Q := by kernel_rfl
theorem ok_tape_Writer_Short : fnOk P Try.f48 tab_tape_Writer_Short = true := by kernel_rfl
theorem call_tape_Writer_Short (w_0 : Option Addr) (x_1 : Int) {h : Heap} {Q : Value → Heap → Prop} (H : tape_Writer_Short w_0 x_1 h Q) : callP P n_tape_Writer_Short #[(.pointer w_0), (.int .i64 x_1)] h Q :=
  @callP_of P n_tape_Writer_Short Try.f48 tab_tape_Writer_Short [(.pointer w_0), (.int .i64 x_1)] h Q mixed Try.func48 Try.call48 ok_tape_Writer_Short (Eq.mpr (eq_tape_Writer_Short w_0 x_1 h Q) H)

/-! ### (*earshot/tape.Writer).Row: function 70 -/
def tape_Writer_Row_l3 (Q : Value → Heap → Prop) (K1 : Y2 → Heap → Prop) (w_0 : Option Addr) (t13_p : Option Addr) (t13_n : Nat) (t13_c : Nat) (t14 : Int) (t15 : Int) (h2 : Heap) : Prop :=
  ifB (decide (t15 < t14)) (
    idxI t13_p t15 t13_n fun a3 =>
    ldInt .i64 h2 (Addr.add a3 (t15.toNat * 1)) fun n4 =>
    callUnit P n_tape_Writer_Word #[(.pointer w_0), (.int .i64 n4)] h2 fun h5 =>
    K1 (w_0, (t13_p, t13_n, t13_c), t14, (IntKind.wrap .i64 (t15 + (1 : Int))), ()) h5) (
    Q (.tuple #[]) h2)
def tape_Writer_Row (w_0 : Option Addr) (xs_1_p : Option Addr) (xs_1_n : Nat) (xs_1_c : Nat) (h : Heap) (Q : Value → Heap → Prop) : Prop :=
  ifB (decide (((xs_1_n : Nat) : Int) > (65535 : Int))) (
    Q (.tuple #[]) h) (
    callUnit P n_tape_Writer_Short #[(.pointer w_0), (.int .i64 ((xs_1_n : Nat) : Int))] h fun h1 =>
    LoopS (S := Y2) (fun K1 s h => tape_Writer_Row_l3 Q K1 s.1 s.2.1.1 s.2.1.2.1 s.2.1.2.2 s.2.2.1 s.2.2.2.1 h) (w_0, (xs_1_p, xs_1_n, xs_1_c), ((xs_1_n : Nat) : Int), (0 : Int), ()) h1)
noncomputable def tab_tape_Writer_Row : Tab := { sch := lookT .done [], lp := lookT [] [(3, [(0, .sc (.ptr)), (13, .sc (.slice)), (14, .sc (.int .i64)), (15, .sc (.int .i64))])], jn := lookT none [] }
theorem eq_tape_Writer_Row (w_0 : Option Addr) (xs_1_p : Option Addr) (xs_1_n : Nat) (xs_1_c : Nat) (h : Heap) (Q : Value → Heap → Prop) : fnI P Try.f70 tab_tape_Writer_Row [(.pointer w_0), (.slice xs_1_p xs_1_n xs_1_c)] h Q = tape_Writer_Row w_0 xs_1_p xs_1_n xs_1_c h Q := by kernel_rfl
theorem ok_tape_Writer_Row : fnOk P Try.f70 tab_tape_Writer_Row = true := by kernel_rfl
theorem call_tape_Writer_Row (w_0 : Option Addr) (xs_1_p : Option Addr) (xs_1_n : Nat) (xs_1_c : Nat) {h : Heap} {Q : Value → Heap → Prop} (H : tape_Writer_Row w_0 xs_1_p xs_1_n xs_1_c h Q) : callP P n_tape_Writer_Row #[(.pointer w_0), (.slice xs_1_p xs_1_n xs_1_c)] h Q :=
  @callP_of P n_tape_Writer_Row Try.f70 tab_tape_Writer_Row [(.pointer w_0), (.slice xs_1_p xs_1_n xs_1_c)] h Q mixed Try.func70 Try.call70 ok_tape_Writer_Row (Eq.mpr (eq_tape_Writer_Row w_0 xs_1_p xs_1_n xs_1_c h Q) H)

/-! ### (*earshot/model.writer).rows: function 47 -/
def model_writer_rows_l1 (Q : Value → Heap → Prop) (K1 : Y2 → Heap → Prop) (w_0 : Option Addr) (t6_p : Option Addr) (t6_n : Nat) (t6_c : Nat) (t7 : Int) (t8 : Int) (h1 : Heap) : Prop :=
  ifB (decide (t8 < t7)) (
    idxI t6_p t8 t6_n fun a2 =>
    ldSlice h1 (Addr.add a2 (t8.toNat * 1)) fun p3 l3 c3 =>
    newI h1 (.cells #[(.int .i64 ((l3 : Nat) : Int))] 3 (0, 0)) fun b4 h5 =>
    callUnit P n_model_writer_fits #[(.pointer w_0), (.int .i64 (0 : Int)), (.int .i64 (65535 : Int)), (.slice (some ⟨b4, 0, none⟩) 1 1)] h5 fun h6 =>
    callUnit P n_model_writer_fits #[(.pointer w_0), (.int .i64 (-2147483648 : Int)), (.int .i64 (2147483647 : Int)), (.slice p3 l3 c3)] h6 fun h7 =>
    nilI w_0 fun a8 =>
    callUnit P n_tape_Writer_Row #[(.pointer (some a8)), (.slice p3 l3 c3)] h7 fun h9 =>
    K1 (w_0, (t6_p, t6_n, t6_c), t7, (IntKind.wrap .i64 (t8 + (1 : Int))), ()) h9) (
    Q (.tuple #[]) h1)
def model_writer_rows (w_0 : Option Addr) (rows_1_p : Option Addr) (rows_1_n : Nat) (rows_1_c : Nat) (h : Heap) (Q : Value → Heap → Prop) : Prop :=
  LoopS (S := Y2) (fun K1 s h => model_writer_rows_l1 Q K1 s.1 s.2.1.1 s.2.1.2.1 s.2.1.2.2 s.2.2.1 s.2.2.2.1 h) (w_0, (rows_1_p, rows_1_n, rows_1_c), ((rows_1_n : Nat) : Int), (0 : Int), ()) h
noncomputable def tab_model_writer_rows : Tab := { sch := lookT .done [], lp := lookT [] [(1, [(0, .sc (.ptr)), (6, .sc (.slice)), (7, .sc (.int .i64)), (8, .sc (.int .i64))])], jn := lookT none [] }
theorem eq_model_writer_rows (w_0 : Option Addr) (rows_1_p : Option Addr) (rows_1_n : Nat) (rows_1_c : Nat) (h : Heap) (Q : Value → Heap → Prop) : fnI P Try.f47 tab_model_writer_rows [(.pointer w_0), (.slice rows_1_p rows_1_n rows_1_c)] h Q = model_writer_rows w_0 rows_1_p rows_1_n rows_1_c h Q := by kernel_rfl
theorem ok_model_writer_rows : fnOk P Try.f47 tab_model_writer_rows = true := by kernel_rfl
theorem call_model_writer_rows (w_0 : Option Addr) (rows_1_p : Option Addr) (rows_1_n : Nat) (rows_1_c : Nat) {h : Heap} {Q : Value → Heap → Prop} (H : model_writer_rows w_0 rows_1_p rows_1_n rows_1_c h Q) : callP P n_model_writer_rows #[(.pointer w_0), (.slice rows_1_p rows_1_n rows_1_c)] h Q :=
  @callP_of P n_model_writer_rows Try.f47 tab_model_writer_rows [(.pointer w_0), (.slice rows_1_p rows_1_n rows_1_c)] h Q mixed Try.func47 Try.call47 ok_model_writer_rows (Eq.mpr (eq_model_writer_rows w_0 rows_1_p rows_1_n rows_1_c h Q) H)

/-! ### (*earshot/model.writer).node: function 24 -/
def model_writer_node (w_0 : Option Addr) (n_1 : TS A1) (h : Heap) (Q : Value → Heap → Prop) : Prop :=
  newI h (.cells (mkS' A1 n_1).toArray 30 (0, 0)) fun b1 h2 =>
  ldInt .i64 h2 ⟨b1, 0, none⟩ fun n3 =>
  ldSlice h2 ⟨b1, 1, none⟩ fun p4 l4 c4 =>
  newI h2 (.cells #[(.int .i64 n3), (.int .i64 ((l4 : Nat) : Int))] 3 (0, 0)) fun b5 h6 =>
  callUnit P n_model_writer_small #[(.pointer w_0), (.slice (some ⟨b5, 0, none⟩) 2 2)] h6 fun h7 =>
  ldSlice h7 ⟨b1, 1, none⟩ fun p8 l8 c8 =>
  callUnit P n_model_writer_small #[(.pointer w_0), (.slice p8 l8 c8)] h7 fun h9 =>
  ldInt .i64 h9 ⟨b1, 2, none⟩ fun n10 =>
  ldInt .i64 h9 ⟨b1, 3, none⟩ fun n11 =>
  ldInt .i64 h9 ⟨b1, 4, none⟩ fun n12 =>
  ldInt .i64 h9 ⟨b1, 5, none⟩ fun n13 =>
  ldInt .i64 h9 ⟨b1, 6, none⟩ fun n14 =>
  ldInt .i64 h9 ⟨b1, 7, none⟩ fun n15 =>
  newI h9 (.cells #[(.int .i64 n10), (.int .i64 n11), (.int .i64 n12), (.int .i64 n13), (.int .i64 n14), (.int .i64 n15)] 3 (0, 0)) fun b16 h17 =>
  callUnit P n_model_writer_small #[(.pointer w_0), (.slice (some ⟨b16, 0, none⟩) 6 6)] h17 fun h18 =>
  ldSlice h18 ⟨b1, 8, none⟩ fun p19 l19 c19 =>
  ldSlice h18 ⟨b1, 9, none⟩ fun p20 l20 c20 =>
  newI h18 (.cells #[(.slice p19 l19 c19), (.slice p20 l20 c20)] 22 (0, 0)) fun b21 h22 =>
  callUnit P n_model_writer_rows #[(.pointer w_0), (.slice (some ⟨b21, 0, none⟩) 2 2)] h22 fun h23 =>
  ldInt .i64 h23 ⟨b1, 10, none⟩ fun n24 =>
  newI h23 (.cells #[(.int .i64 n24)] 3 (0, 0)) fun b25 h26 =>
  callUnit P n_model_writer_fits #[(.pointer w_0), (.int .i64 (0 : Int)), (.int .i64 (65535 : Int)), (.slice (some ⟨b25, 0, none⟩) 1 1)] h26 fun h27 =>
  nilI w_0 fun a28 =>
  ldInt .i64 h27 ⟨b1, 10, none⟩ fun n29 =>
  callUnit P n_tape_Writer_Short #[(.pointer (some a28)), (.int .i64 n29)] h27 fun h30 =>
  ldInt .i64 h30 ⟨b1, 11, none⟩ fun n31 =>
  newI h30 (.cells #[(.int .i64 n31)] 3 (0, 0)) fun b32 h33 =>
  callUnit P n_model_writer_small #[(.pointer w_0), (.slice (some ⟨b32, 0, none⟩) 1 1)] h33 fun h34 =>
  ldInt .i64 h34 ⟨b1, 12, none⟩ fun n35 =>
  ldInt .i64 h34 ⟨b1, 13, none⟩ fun n36 =>
  newI h34 (.cells #[(.int .i64 n35), (.int .i64 n36)] 3 (0, 0)) fun b37 h38 =>
  callUnit P n_model_writer_words #[(.pointer w_0), (.slice (some ⟨b37, 0, none⟩) 2 2)] h38 fun h39 =>
  ldInt .i64 h39 ⟨b1, 14, none⟩ fun n40 =>
  newI h39 (.cells #[(.int .i64 n40)] 3 (0, 0)) fun b41 h42 =>
  callUnit P n_model_writer_small #[(.pointer w_0), (.slice (some ⟨b41, 0, none⟩) 1 1)] h42 fun h43 =>
  Q (.tuple #[]) h43
noncomputable def tab_model_writer_node : Tab := { sch := lookT .done [(6, (ones [0, 1, 2, 3, 4] (.alt 5 .done .stop)))], lp := lookT [] [], jn := lookT none [] }
theorem eq_model_writer_node (w_0 : Option Addr) (n_1 : TS A1) (h : Heap) (Q : Value → Heap → Prop) : fnI P Try.f24 tab_model_writer_node [(.pointer w_0), (agS A1 n_1)] h Q = model_writer_node w_0 n_1 h Q := by kernel_rfl
theorem ok_model_writer_node : fnOk P Try.f24 tab_model_writer_node = true := by kernel_rfl
theorem call_model_writer_node (w_0 : Option Addr) (n_1 : TS A1) {h : Heap} {Q : Value → Heap → Prop} (H : model_writer_node w_0 n_1 h Q) : callP P n_model_writer_node #[(.pointer w_0), (agS A1 n_1)] h Q :=
  @callP_of P n_model_writer_node Try.f24 tab_model_writer_node [(.pointer w_0), (agS A1 n_1)] h Q mixed Try.func24 Try.call24 ok_model_writer_node (Eq.mpr (eq_model_writer_node w_0 n_1 h Q) H)

/-! ### (*earshot/tape.Writer).Text: function 25 -/
def tape_Writer_Text (w_0 : Option Addr) (h : Heap) (Q : Value → Heap → Prop) : Prop :=
  ifB ((w_0).isNone) (
    Q (.string (ByteArray.mk #[])) h) (
    nilI w_0 fun a1 =>
    ldSlice h (Addr.add a1 1) fun p2 l2 c2 =>
    b2sB p2 l2 h fun s3 =>
    ∃ s4 : ByteArray, Value.string s3 = Value.string s4 ∧
    Q (.string s4) h)
noncomputable def tab_tape_Writer_Text : Tab := { sch := lookT .done [], lp := lookT [] [], jn := lookT none [] }
theorem eq_tape_Writer_Text (w_0 : Option Addr) (h : Heap) (Q : Value → Heap → Prop) : fnI P Try.f25 tab_tape_Writer_Text [(.pointer w_0)] h Q = tape_Writer_Text w_0 h Q := by kernel_rfl
theorem ok_tape_Writer_Text : fnOk P Try.f25 tab_tape_Writer_Text = true := by kernel_rfl
theorem call_tape_Writer_Text (w_0 : Option Addr) {h : Heap} {Q : Value → Heap → Prop} (H : tape_Writer_Text w_0 h Q) : callP P n_tape_Writer_Text #[(.pointer w_0)] h Q :=
  @callP_of P n_tape_Writer_Text Try.f25 tab_tape_Writer_Text [(.pointer w_0)] h Q mixed Try.func25 Try.call25 ok_tape_Writer_Text (Eq.mpr (eq_tape_Writer_Text w_0 h Q) H)

/-! ### earshot/model.Encode: function 10 -/
def model_Encode_l6 (Q : Value → Heap → Prop) (K1 : Y3 → Heap → Prop) (g_1 : Addr) (w_4 : Addr) (t23_p : Option Addr) (t23_n : Nat) (t23_c : Nat) (t24 : Int) (t25 : Int) (h19 : Heap) : Prop :=
  ifB (decide (t25 < t24)) (
    idxI t23_p t25 t23_n fun a20 =>
    ldAg A1 h19 (Addr.add a20 (t25.toNat * 15)) fun x21 =>
    newI h19 (.cells (mkS' A1 (zT A1)).toArray 30 (0, 0)) fun b22 h23 =>
    storeL (mkS' A1 x21) h23 ⟨b22, 0, none⟩ 0 fun h24 =>
    ldAg A1 h24 ⟨b22, 0, none⟩ fun x25 =>
    callUnit P n_model_writer_node #[(.pointer (some w_4)), (agS A1 x25)] h24 fun h26 =>
    K1 (g_1, w_4, (t23_p, t23_n, t23_c), t24, (IntKind.wrap .i64 (t25 + (1 : Int))), ()) h26) (
    ldInt .i64 h19 (Addr.add g_1 4) fun n27 =>
    newI h19 (.cells #[(.int .i64 n27)] 3 (0, 0)) fun b28 h29 =>
    callUnit P n_model_writer_small #[(.pointer (some w_4)), (.slice (some ⟨b28, 0, none⟩) 1 1)] h29 fun h30 =>
    ldBool h30 (Addr.add w_4 2) fun b31 =>
    ifB b31 (
      Q (.tuple #[(.string (ByteArray.mk #[])), (.int .i64 (22 : Int))]) h30) (
      callStr P n_tape_Writer_Text #[(.pointer (some w_4))] h30 fun s33 h32 =>
      addStrI (ByteArray.mk #[69, 65, 82, 49]) s33 fun _ =>
      Q (.tuple #[(.string ((ByteArray.mk #[69, 65, 82, 49]) ++ s33)), (.int .i64 (0 : Int))]) h32))
def model_Encode (g_0 : TS A2) (h : Heap) (Q : Value → Heap → Prop) : Prop :=
  newI h (.cells (mkS' A2 g_0).toArray 27 (0, 0)) fun b1 h2 =>
  newI h2 (.cells #[(.int .i64 (0 : Int)), (.slice none 0 0), (.bool false)] 60 (0, 0)) fun b3 h4 =>
  ldInt .i64 h4 ⟨b1, 0, none⟩ fun n5 =>
  newI h4 (.cells #[(.int .i64 n5)] 3 (0, 0)) fun b6 h7 =>
  callUnit P n_model_writer_small #[(.pointer (some ⟨b3, 0, none⟩)), (.slice (some ⟨b6, 0, none⟩) 1 1)] h7 fun h8 =>
  ldInt .i64 h8 ⟨b1, 1, none⟩ fun n9 =>
  ldInt .i64 h8 ⟨b1, 2, none⟩ fun n10 =>
  newI h8 (.cells #[(.int .i64 n9), (.int .i64 n10)] 3 (0, 0)) fun b11 h12 =>
  callUnit P n_model_writer_words #[(.pointer (some ⟨b3, 0, none⟩)), (.slice (some ⟨b11, 0, none⟩) 2 2)] h12 fun h13 =>
  ldSlice h13 ⟨b1, 3, none⟩ fun p14 l14 c14 =>
  newI h13 (.cells #[(.int .i64 ((l14 : Nat) : Int))] 3 (0, 0)) fun b15 h16 =>
  callUnit P n_model_writer_small #[(.pointer (some ⟨b3, 0, none⟩)), (.slice (some ⟨b15, 0, none⟩) 1 1)] h16 fun h17 =>
  ldSlice h17 ⟨b1, 3, none⟩ fun p18 l18 c18 =>
  LoopS (S := Y3) (fun K1 s h => model_Encode_l6 Q K1 s.1 s.2.1 s.2.2.1.1 s.2.2.1.2.1 s.2.2.1.2.2 s.2.2.2.1 s.2.2.2.2.1 h) (⟨b1, 0, none⟩, ⟨b3, 0, none⟩, (p18, l18, c18), ((l18 : Nat) : Int), (0 : Int), ()) h17
noncomputable def tab_model_Encode : Tab := { sch := lookT .done [], lp := lookT [] [(6, [(1, .sc (.adr)), (4, .sc (.adr)), (23, .sc (.slice)), (24, .sc (.int .i64)), (25, .sc (.int .i64))])], jn := lookT none [] }
theorem eq_model_Encode (g_0 : TS A2) (h : Heap) (Q : Value → Heap → Prop) : fnI P Try.f10 tab_model_Encode [(agS A2 g_0)] h Q = model_Encode g_0 h Q := by kernel_rfl
theorem ok_model_Encode : fnOk P Try.f10 tab_model_Encode = true := by kernel_rfl
theorem call_model_Encode (g_0 : TS A2) {h : Heap} {Q : Value → Heap → Prop} (H : model_Encode g_0 h Q) : callP P n_model_Encode #[(agS A2 g_0)] h Q :=
  @callP_of P n_model_Encode Try.f10 tab_model_Encode [(agS A2 g_0)] h Q mixed Try.func10 Try.call10 ok_model_Encode (Eq.mpr (eq_model_Encode g_0 h Q) H)

/-! ### earshot/earshotlaw15.awake: function 8 -/
def law15_awake (h : Heap) (Q : Value → Heap → Prop) : Prop :=
  callP P n_model_Encode #[(.agg #[(.int .i64 (1 : Int)), (.int .i64 (0 : Int)), (.int .i64 (1 : Int)), (.slice none 0 0), (.int .i64 (0 : Int))])] h fun v2 h1 =>
  ∃ s3 : ByteArray, ∃ n4 : Int, v2 = (.tuple #[(.string s3), (.int .i64 n4)]) ∧
  ifB (n4 == (0 : Int)) (
    Q (.bool (s3.toList == (ByteArray.mk #[69, 65, 82, 49, 1, 0, 0, 0, 0, 1, 0, 0, 0, 0, 0]).toList)) h1) (
    Q (.bool false) h1)
noncomputable def tab_law15_awake : Tab := { sch := lookT .done [], lp := lookT [] [], jn := lookT none [] }
theorem eq_law15_awake (h : Heap) (Q : Value → Heap → Prop) : fnI P Try.f8 tab_law15_awake [] h Q = law15_awake  h Q := by kernel_rfl
theorem ok_law15_awake : fnOk P Try.f8 tab_law15_awake = true := by kernel_rfl
theorem call_law15_awake {h : Heap} {Q : Value → Heap → Prop} (H : law15_awake  h Q) : callP P n_law15_awake #[] h Q :=
  @callP_of P n_law15_awake Try.f8 tab_law15_awake [] h Q mixed Try.func8 Try.call8 ok_law15_awake (Eq.mpr (eq_law15_awake  h Q) H)

/-! ### (*earshot/earshotref14.Row).Next: function 17 -/
def ref14_Row_Next (r_0 : Option Addr) (n_1 : Int) (h : Heap) (Q : Value → Heap → Prop) : Prop :=
  nilI r_0 fun a1 =>
  nilI r_0 fun a2 =>
  ldInt .i64 h (Addr.add a1 1) fun n3 =>
  ldSlice h a2 fun p4 l4 c4 =>
  ifB (decide (n3 ≥ ((l4 : Nat) : Int))) (
    Q (.int .i64 (0 : Int)) h) (
    nilI r_0 fun a5 =>
    ldInt .i64 h (Addr.add a5 1) fun n6 =>
    nilI r_0 fun a7 =>
    stI h (Addr.add a7 1) (.int .i64 (IntKind.wrap .i64 (n6 + (1 : Int)))) fun h8 =>
    nilI r_0 fun a9 =>
    nilI r_0 fun a10 =>
    ldSlice h8 a9 fun p11 l11 c11 =>
    ldInt .i64 h8 (Addr.add a10 1) fun n12 =>
    idxI p11 (IntKind.wrap .i64 (n12 - (1 : Int))) l11 fun a13 =>
    ldInt .i64 h8 (Addr.add a13 ((IntKind.wrap .i64 (n12 - (1 : Int))).toNat * 1)) fun n14 =>
    neI n_1 fun _ =>
    neI n_1 fun _ =>
    Q (.int .i64 (Int.tmod (IntKind.wrap .i64 ((Int.tmod n14 n_1) + n_1)) n_1)) h8)
noncomputable def tab_ref14_Row_Next : Tab := { sch := lookT .done [(1, (ones [0, 1, 2, 4, 5, 6, 3, 7, 8, 9] .done)), (4, (ones [0, 1, 2, 4, 5, 6, 11, 13, 15, 3, 7, 8, 9, 10, 12, 14, 16, 17] .done))], lp := lookT [] [], jn := lookT none [] }
theorem eq_ref14_Row_Next (r_0 : Option Addr) (n_1 : Int) (h : Heap) (Q : Value → Heap → Prop) : fnI P Try.f17 tab_ref14_Row_Next [(.pointer r_0), (.int .i64 n_1)] h Q = ref14_Row_Next r_0 n_1 h Q := by kernel_rfl
theorem ok_ref14_Row_Next : fnOk P Try.f17 tab_ref14_Row_Next = true := by kernel_rfl
theorem call_ref14_Row_Next (r_0 : Option Addr) (n_1 : Int) {h : Heap} {Q : Value → Heap → Prop} (H : ref14_Row_Next r_0 n_1 h Q) : callP P n_ref14_Row_Next #[(.pointer r_0), (.int .i64 n_1)] h Q :=
  @callP_of P n_ref14_Row_Next Try.f17 tab_ref14_Row_Next [(.pointer r_0), (.int .i64 n_1)] h Q mixed Try.func17 Try.call17 ok_ref14_Row_Next (Eq.mpr (eq_ref14_Row_Next r_0 n_1 h Q) H)

/-! ### earshot/earshotref14.Windows: function 42 -/
def ref14_Windows (k_0 : Int) (h : Heap) (Q : Value → Heap → Prop) : Prop :=
  ifB (k_0 == (1 : Int)) (
    Q (.bool true) h) (
    ifB (k_0 == (2 : Int)) (
      Q (.bool true) h) (
      ifB (k_0 == (3 : Int)) (
        Q (.bool true) h) (
        ifB (k_0 == (4 : Int)) (
          Q (.bool true) h) (
          Q (.bool (k_0 == (12 : Int))) h))))
noncomputable def tab_ref14_Windows : Tab := { sch := lookT .done [], lp := lookT [] [], jn := lookT none [] }
theorem eq_ref14_Windows (k_0 : Int) (h : Heap) (Q : Value → Heap → Prop) : fnI P Try.f42 tab_ref14_Windows [(.int .i64 k_0)] h Q = ref14_Windows k_0 h Q := by kernel_rfl
theorem ok_ref14_Windows : fnOk P Try.f42 tab_ref14_Windows = true := by kernel_rfl
theorem call_ref14_Windows (k_0 : Int) {h : Heap} {Q : Value → Heap → Prop} (H : ref14_Windows k_0 h Q) : callP P n_ref14_Windows #[(.int .i64 k_0)] h Q :=
  @callP_of P n_ref14_Windows Try.f42 tab_ref14_Windows [(.int .i64 k_0)] h Q mixed Try.func42 Try.call42 ok_ref14_Windows (Eq.mpr (eq_ref14_Windows k_0 h Q) H)

/-! ### earshot/earshotref14.Span: function 61 -/
def ref14_Span (n_0 : TS A1) (h : Heap) (Q : Value → Heap → Prop) : Prop :=
  newI h (.cells (mkS' A1 n_0).toArray 30 (0, 0)) fun b1 h2 =>
  ldInt .i64 h2 ⟨b1, 0, none⟩ fun n3 =>
  ifB (n3 == (12 : Int)) (
    ldInt .i64 h2 ⟨b1, 3, none⟩ fun n4 =>
    Q (.int .i64 n4) h2) (
    ldInt .i64 h2 ⟨b1, 0, none⟩ fun n5 =>
    callBool P n_ref14_Windows #[(.int .i64 n5)] h2 fun b7 h6 =>
    ifB (!b7) (
      Q (.int .i64 (1 : Int)) h6) (
      ldInt .i64 h6 ⟨b1, 3, none⟩ fun n8 =>
      ldInt .i64 h6 ⟨b1, 5, none⟩ fun n9 =>
      Q (.int .i64 (IntKind.wrap .i64 ((IntKind.wrap .i64 ((IntKind.wrap .i64 (n8 - (1 : Int))) * n9)) + (1 : Int)))) h6))
noncomputable def tab_ref14_Span : Tab := { sch := lookT .done [], lp := lookT [] [], jn := lookT none [] }
theorem eq_ref14_Span (n_0 : TS A1) (h : Heap) (Q : Value → Heap → Prop) : fnI P Try.f61 tab_ref14_Span [(agS A1 n_0)] h Q = ref14_Span n_0 h Q := by kernel_rfl
theorem ok_ref14_Span : fnOk P Try.f61 tab_ref14_Span = true := by kernel_rfl
theorem call_ref14_Span (n_0 : TS A1) {h : Heap} {Q : Value → Heap → Prop} (H : ref14_Span n_0 h Q) : callP P n_ref14_Span #[(agS A1 n_0)] h Q :=
  @callP_of P n_ref14_Span Try.f61 tab_ref14_Span [(agS A1 n_0)] h Q mixed Try.func61 Try.call61 ok_ref14_Span (Eq.mpr (eq_ref14_Span n_0 h Q) H)

/-! ### (*earshot/earshotref14.Row).window: function 39 -/
def ref14_Row_window (r_0 : Option Addr) (n_1 : TS A1) (h : Heap) (Q : Value → Heap → Prop) : Prop :=
  newI h (.cells (mkS' A1 n_1).toArray 30 (0, 0)) fun b1 h2 =>
  newI h2 (.cells (mkS' A1 (zT A1)).toArray 30 (0, 0)) fun b3 h4 =>
  callInt P .i64 n_ref14_Row_Next #[(.pointer r_0), (.int .i64 (4 : Int))] h4 fun n6 h5 =>
  stI h5 ⟨b1, 3, none⟩ (.int .i64 (IntKind.wrap .i64 ((1 : Int) + n6))) fun h7 =>
  callInt P .i64 n_ref14_Row_Next #[(.pointer r_0), (.int .i64 (3 : Int))] h7 fun n9 h8 =>
  stI h8 ⟨b1, 4, none⟩ (.int .i64 (IntKind.wrap .i64 ((1 : Int) + n9))) fun h10 =>
  callInt P .i64 n_ref14_Row_Next #[(.pointer r_0), (.int .i64 (3 : Int))] h10 fun n12 h11 =>
  stI h11 ⟨b1, 5, none⟩ (.int .i64 (IntKind.wrap .i64 ((1 : Int) + n12))) fun h13 =>
  ldAg A1 h13 ⟨b1, 0, none⟩ fun x14 =>
  callInt P .i64 n_ref14_Span #[(agS A1 x14)] h13 fun n16 h15 =>
  callInt P .i64 n_ref14_Row_Next #[(.pointer r_0), (.int .i64 n16)] h15 fun n18 h17 =>
  stI h17 ⟨b1, 6, none⟩ (.int .i64 n18) fun h19 =>
  ldAg A1 h19 ⟨b1, 0, none⟩ fun x20 =>
  callInt P .i64 n_ref14_Span #[(agS A1 x20)] h19 fun n22 h21 =>
  callInt P .i64 n_ref14_Row_Next #[(.pointer r_0), (.int .i64 n22)] h21 fun n24 h23 =>
  stI h23 ⟨b1, 7, none⟩ (.int .i64 n24) fun h25 =>
  ldAg A1 h25 ⟨b1, 0, none⟩ fun x26 =>
  storeL (mkS' A1 x26) h25 ⟨b3, 0, none⟩ 0 fun h27 =>
  ldAg A1 h27 ⟨b3, 0, none⟩ fun x28 =>
  Q (agS A1 x28) h27
noncomputable def tab_ref14_Row_window : Tab := { sch := lookT .done [], lp := lookT [] [], jn := lookT none [] }
theorem eq_ref14_Row_window (r_0 : Option Addr) (n_1 : TS A1) (h : Heap) (Q : Value → Heap → Prop) : fnI P Try.f39 tab_ref14_Row_window [(.pointer r_0), (agS A1 n_1)] h Q = ref14_Row_window r_0 n_1 h Q := by kernel_rfl
theorem ok_ref14_Row_window : fnOk P Try.f39 tab_ref14_Row_window = true := by kernel_rfl
theorem call_ref14_Row_window (r_0 : Option Addr) (n_1 : TS A1) {h : Heap} {Q : Value → Heap → Prop} (H : ref14_Row_window r_0 n_1 h Q) : callP P n_ref14_Row_window #[(.pointer r_0), (agS A1 n_1)] h Q :=
  @callP_of P n_ref14_Row_window Try.f39 tab_ref14_Row_window [(.pointer r_0), (agS A1 n_1)] h Q mixed Try.func39 Try.call39 ok_ref14_Row_window (Eq.mpr (eq_ref14_Row_window r_0 n_1 h Q) H)

/-! ### (*earshot/earshotref14.Row).row: function 40 -/
def ref14_Row_row_l3 (Q : Value → Heap → Prop) (K1 : Y4 → Heap → Prop) (r_0 : Option Addr) (many_1 : Int) (low_2 : Int) (most_3 : Int) (out_9_p : Option Addr) (out_9_n : Nat) (out_9_c : Nat) (i_10 : Int) (h1 : Heap) : Prop :=
  ifB (decide (i_10 < many_1)) (
    callInt P .i64 n_ref14_Row_Next #[(.pointer r_0), (.int .i64 most_3)] h1 fun n3 h2 =>
    newI h2 (.cells #[(.int .i64 (IntKind.wrap .i64 (low_2 + n3)))] 3 (0, 0)) fun b4 h5 =>
    appI 3 1 8 (.int .i64 (0 : Int)) out_9_p out_9_n out_9_c (some ⟨b4, 0, none⟩) 1 h5 fun p6 l6 c6 h7 =>
    K1 (r_0, many_1, low_2, most_3, (p6, l6, c6), (IntKind.wrap .i64 (i_10 + (1 : Int))), ()) h7) (
    Q (.slice out_9_p out_9_n out_9_c) h1)
def ref14_Row_row (r_0 : Option Addr) (many_1 : Int) (low_2 : Int) (most_3 : Int) (h : Heap) (Q : Value → Heap → Prop) : Prop :=
  LoopS (S := Y4) (fun K1 s h => ref14_Row_row_l3 Q K1 s.1 s.2.1 s.2.2.1 s.2.2.2.1 s.2.2.2.2.1.1 s.2.2.2.2.1.2.1 s.2.2.2.2.1.2.2 s.2.2.2.2.2.1 h) (r_0, many_1, low_2, most_3, (none, 0, 0), (0 : Int), ()) h
noncomputable def tab_ref14_Row_row : Tab := { sch := lookT .done [], lp := lookT [] [(3, [(0, .sc (.ptr)), (1, .sc (.int .i64)), (2, .sc (.int .i64)), (3, .sc (.int .i64)), (9, .sc (.slice)), (10, .sc (.int .i64))])], jn := lookT none [] }
theorem eq_ref14_Row_row (r_0 : Option Addr) (many_1 : Int) (low_2 : Int) (most_3 : Int) (h : Heap) (Q : Value → Heap → Prop) : fnI P Try.f40 tab_ref14_Row_row [(.pointer r_0), (.int .i64 many_1), (.int .i64 low_2), (.int .i64 most_3)] h Q = ref14_Row_row r_0 many_1 low_2 most_3 h Q := by kernel_rfl
theorem ok_ref14_Row_row : fnOk P Try.f40 tab_ref14_Row_row = true := by kernel_rfl
theorem call_ref14_Row_row (r_0 : Option Addr) (many_1 : Int) (low_2 : Int) (most_3 : Int) {h : Heap} {Q : Value → Heap → Prop} (H : ref14_Row_row r_0 many_1 low_2 most_3 h Q) : callP P n_ref14_Row_row #[(.pointer r_0), (.int .i64 many_1), (.int .i64 low_2), (.int .i64 most_3)] h Q :=
  @callP_of P n_ref14_Row_row Try.f40 tab_ref14_Row_row [(.pointer r_0), (.int .i64 many_1), (.int .i64 low_2), (.int .i64 most_3)] h Q mixed Try.func40 Try.call40 ok_ref14_Row_row (Eq.mpr (eq_ref14_Row_row r_0 many_1 low_2 most_3 h Q) H)

/-! ### earshot/earshotref14.Made: function 18 -/
def ref14_Made_j22 (Q : Value → Heap → Prop) (r_0 : Option Addr) (t8 : Addr) (n_9 : Addr) (w_10 : Int) (kinds_14 : Addr) (k_15 : Int) (h16 : Heap) : Prop :=
  arrI k_15 12 fun _ =>
  ldInt .i64 h16 (Addr.add kinds_14 (k_15.toNat * 1)) fun n17 =>
  stI h16 n_9 (.int .i64 n17) fun h18 =>
  ldInt .i64 h18 n_9 fun n19 =>
  ifB (n19 == (1 : Int)) (
    ldAg A1 h18 n_9 fun x20 =>
    callP P n_ref14_Row_window #[(.pointer r_0), (agS A1 x20)] h18 fun v22 h21 =>
    exS A1 fun x23 => v22 = (agS A1 x23) ∧
    storeL (mkS' A1 x23) h21 n_9 0 fun h24 =>
    callInt P .i64 n_ref14_Row_Next #[(.pointer r_0), (.int .i64 (3 : Int))] h24 fun n26 h25 =>
    stI h25 (Addr.add n_9 2) (.int .i64 (IntKind.wrap .i64 ((1 : Int) + n26))) fun h27 =>
    ldInt .i64 h27 (Addr.add n_9 2) fun n28 =>
    ldInt .i64 h27 (Addr.add n_9 3) fun n29 =>
    callSlice P n_ref14_Row_row #[(.pointer r_0), (.int .i64 (IntKind.wrap .i64 ((IntKind.wrap .i64 (n28 * n29)) * w_10))), (.int .i64 (-9 : Int)), (.int .i64 (19 : Int))] h27 fun p31 l31 c31 h30 =>
    stI h30 (Addr.add n_9 8) (.slice p31 l31 c31) fun h32 =>
    ldInt .i64 h32 (Addr.add n_9 2) fun n33 =>
    callSlice P n_ref14_Row_row #[(.pointer r_0), (.int .i64 n33), (.int .i64 (-50 : Int)), (.int .i64 (101 : Int))] h32 fun p35 l35 c35 h34 =>
    stI h34 (Addr.add n_9 9) (.slice p35 l35 c35) fun h36 =>
    ldAg A1 h36 n_9 fun x37 =>
    storeL (mkS' A1 x37) h36 t8 0 fun h38 =>
    ldAg A1 h38 t8 fun x39 =>
    Q (agS A1 x39) h38) (
    ifB (n19 == (2 : Int)) (
      ldAg A1 h18 n_9 fun x40 =>
      callP P n_ref14_Row_window #[(.pointer r_0), (agS A1 x40)] h18 fun v42 h41 =>
      exS A1 fun x43 => v42 = (agS A1 x43) ∧
      storeL (mkS' A1 x43) h41 n_9 0 fun h44 =>
      ldInt .i64 h44 (Addr.add n_9 3) fun n45 =>
      callSlice P n_ref14_Row_row #[(.pointer r_0), (.int .i64 (IntKind.wrap .i64 (n45 * w_10))), (.int .i64 (-9 : Int)), (.int .i64 (19 : Int))] h44 fun p47 l47 c47 h46 =>
      stI h46 (Addr.add n_9 8) (.slice p47 l47 c47) fun h48 =>
      callSlice P n_ref14_Row_row #[(.pointer r_0), (.int .i64 w_10), (.int .i64 (-50 : Int)), (.int .i64 (101 : Int))] h48 fun p50 l50 c50 h49 =>
      stI h49 (Addr.add n_9 9) (.slice p50 l50 c50) fun h51 =>
      ldAg A1 h51 n_9 fun x52 =>
      storeL (mkS' A1 x52) h51 t8 0 fun h53 =>
      ldAg A1 h53 t8 fun x54 =>
      Q (agS A1 x54) h53) (
      ifB (n19 == (6 : Int)) (
        callInt P .i64 n_ref14_Row_Next #[(.pointer r_0), (.int .i64 (3 : Int))] h18 fun n56 h55 =>
        stI h55 (Addr.add n_9 2) (.int .i64 (IntKind.wrap .i64 ((1 : Int) + n56))) fun h57 =>
        ldInt .i64 h57 (Addr.add n_9 2) fun n58 =>
        callSlice P n_ref14_Row_row #[(.pointer r_0), (.int .i64 (IntKind.wrap .i64 (n58 * w_10))), (.int .i64 (-12 : Int)), (.int .i64 (25 : Int))] h57 fun p60 l60 c60 h59 =>
        stI h59 (Addr.add n_9 8) (.slice p60 l60 c60) fun h61 =>
        ldInt .i64 h61 (Addr.add n_9 2) fun n62 =>
        callSlice P n_ref14_Row_row #[(.pointer r_0), (.int .i64 n62), (.int .i64 (-5000 : Int)), (.int .i64 (10001 : Int))] h61 fun p64 l64 c64 h63 =>
        stI h63 (Addr.add n_9 9) (.slice p64 l64 c64) fun h65 =>
        ldAg A1 h65 n_9 fun x66 =>
        storeL (mkS' A1 x66) h65 t8 0 fun h67 =>
        ldAg A1 h67 t8 fun x68 =>
        Q (agS A1 x68) h67) (
        ifB (n19 == (3 : Int)) (
          ldAg A1 h18 n_9 fun x69 =>
          callP P n_ref14_Row_window #[(.pointer r_0), (agS A1 x69)] h18 fun v71 h70 =>
          exS A1 fun x72 => v71 = (agS A1 x72) ∧
          storeL (mkS' A1 x72) h70 n_9 0 fun h73 =>
          ldAg A1 h73 n_9 fun x74 =>
          storeL (mkS' A1 x74) h73 t8 0 fun h75 =>
          ldAg A1 h75 t8 fun x76 =>
          Q (agS A1 x76) h75) (
          ifB (n19 == (4 : Int)) (
            ldAg A1 h18 n_9 fun x77 =>
            callP P n_ref14_Row_window #[(.pointer r_0), (agS A1 x77)] h18 fun v79 h78 =>
            exS A1 fun x80 => v79 = (agS A1 x80) ∧
            storeL (mkS' A1 x80) h78 n_9 0 fun h81 =>
            ldAg A1 h81 n_9 fun x82 =>
            storeL (mkS' A1 x82) h81 t8 0 fun h83 =>
            ldAg A1 h83 t8 fun x84 =>
            Q (agS A1 x84) h83) (
            ifB (n19 == (12 : Int)) (
              callInt P .i64 n_ref14_Row_Next #[(.pointer r_0), (.int .i64 (5 : Int))] h18 fun n86 h85 =>
              stI h85 (Addr.add n_9 3) (.int .i64 (IntKind.wrap .i64 ((1 : Int) + n86))) fun h87 =>
              ldAg A1 h87 n_9 fun x88 =>
              storeL (mkS' A1 x88) h87 t8 0 fun h89 =>
              ldAg A1 h89 t8 fun x90 =>
              Q (agS A1 x90) h89) (
              ifB (n19 == (9 : Int)) (
                callInt P .i64 n_ref14_Row_Next #[(.pointer r_0), (.int .i64 (200 : Int))] h18 fun n92 h91 =>
                stI h91 (Addr.add n_9 12) (.int .i64 (IntKind.wrap .i64 (n92 - (150 : Int)))) fun h93 =>
                ldInt .i64 h93 (Addr.add n_9 12) fun n94 =>
                callInt P .i64 n_ref14_Row_Next #[(.pointer r_0), (.int .i64 (300 : Int))] h93 fun n96 h95 =>
                cellH h95 (Addr.add n_9 12) = some (.int .i64 n94) ∧
                stI h95 (Addr.add n_9 13) (.int .i64 (IntKind.wrap .i64 (n94 + n96))) fun h97 =>
                ldAg A1 h97 n_9 fun x98 =>
                storeL (mkS' A1 x98) h97 t8 0 fun h99 =>
                ldAg A1 h99 t8 fun x100 =>
                Q (agS A1 x100) h99) (
                ifB (n19 == (10 : Int)) (
                  callInt P .i64 n_ref14_Row_Next #[(.pointer r_0), (.int .i64 (32768 : Int))] h18 fun n102 h101 =>
                  stI h101 (Addr.add n_9 10) (.int .i64 n102) fun h103 =>
                  callInt P .i64 n_ref14_Row_Next #[(.pointer r_0), (.int .i64 (20 : Int))] h103 fun n105 h104 =>
                  stI h104 (Addr.add n_9 11) (.int .i64 n105) fun h106 =>
                  ldAg A1 h106 n_9 fun x107 =>
                  storeL (mkS' A1 x107) h106 t8 0 fun h108 =>
                  ldAg A1 h108 t8 fun x109 =>
                  Q (agS A1 x109) h108) (
                  ldAg A1 h18 n_9 fun x110 =>
                  storeL (mkS' A1 x110) h18 t8 0 fun h111 =>
                  ldAg A1 h111 t8 fun x112 =>
                  Q (agS A1 x112) h111))))))))
def ref14_Made_j18 (Q : Value → Heap → Prop) (r_0 : Option Addr) (still_3 : Bool) (t8 : Addr) (n_9 : Addr) (w_10 : Int) (h9 : Heap) : Prop :=
  newI h9 (.cells #[(.int .i64 (0 : Int)), (.int .i64 (0 : Int)), (.int .i64 (0 : Int)), (.int .i64 (0 : Int)), (.int .i64 (0 : Int)), (.int .i64 (0 : Int)), (.int .i64 (0 : Int)), (.int .i64 (0 : Int)), (.int .i64 (0 : Int)), (.int .i64 (0 : Int)), (.int .i64 (0 : Int)), (.int .i64 (0 : Int))] 80 (0, 0)) fun b10 h11 =>
  storeL [(.int .i64 (1 : Int)), (.int .i64 (2 : Int)), (.int .i64 (3 : Int)), (.int .i64 (4 : Int)), (.int .i64 (12 : Int)), (.int .i64 (1 : Int)), (.int .i64 (5 : Int)), (.int .i64 (6 : Int)), (.int .i64 (9 : Int)), (.int .i64 (10 : Int)), (.int .i64 (11 : Int)), (.int .i64 (6 : Int))] h11 ⟨b10, 0, none⟩ 0 fun h12 =>
  callInt P .i64 n_ref14_Row_Next #[(.pointer r_0), (.int .i64 (12 : Int))] h12 fun n14 h13 =>
  ∃ J15 : (Option Addr × Addr × Addr × Int × Addr × Int × Unit) → Heap → Prop, (∀ s h, J15 s h → ref14_Made_j22 Q s.1 s.2.1 s.2.2.1 s.2.2.2.1 s.2.2.2.2.1 s.2.2.2.2.2.1 h) ∧
  ifB still_3 (
    callInt P .i64 n_ref14_Row_Next #[(.pointer r_0), (.int .i64 (5 : Int))] h13 fun n114 h113 =>
    J15 (r_0, t8, n_9, w_10, ⟨b10, 0, none⟩, (IntKind.wrap .i64 ((7 : Int) + n114)), ()) h113) (
    J15 (r_0, t8, n_9, w_10, ⟨b10, 0, none⟩, n14, ()) h13)
def ref14_Made_l8 (Q : Value → Heap → Prop) (J8 : (Option Addr × Bool × Addr × Addr × Int × Unit) → Heap → Prop) (K1 : Y5 → Heap → Prop) (r_0 : Option Addr) (in_1_p : Option Addr) (in_1_n : Nat) (in_1_c : Nat) (widths_2_p : Option Addr) (widths_2_n : Nat) (widths_2_c : Nat) (still_3 : Bool) (t8 : Addr) (n_9 : Addr) (w_10 : Int) (sum_11 : Int) (same_12 : Bool) (i_13 : Int) (h116 : Heap) : Prop :=
  ifB (decide (i_13 < ((widths_2_n : Nat) : Int))) (
    idxI widths_2_p i_13 widths_2_n fun a117 =>
    ldInt .i64 h116 (Addr.add a117 (i_13.toNat * 1)) fun n118 =>
    ifB same_12 (
      idxI widths_2_p i_13 widths_2_n fun a119 =>
      ldInt .i64 h116 (Addr.add a119 (i_13.toNat * 1)) fun n120 =>
      K1 (r_0, (in_1_p, in_1_n, in_1_c), (widths_2_p, widths_2_n, widths_2_c), still_3, t8, n_9, w_10, (IntKind.wrap .i64 (sum_11 + n118)), (n120 == w_10), (IntKind.wrap .i64 (i_13 + (1 : Int))), ()) h116) (
      K1 (r_0, (in_1_p, in_1_n, in_1_c), (widths_2_p, widths_2_n, widths_2_c), still_3, t8, n_9, w_10, (IntKind.wrap .i64 (sum_11 + n118)), false, (IntKind.wrap .i64 (i_13 + (1 : Int))), ()) h116)) (
    ifB same_12 (
      ifB (decide (sum_11 > (16 : Int))) (
        stI h116 n_9 (.int .i64 (7 : Int)) fun h121 =>
        ldAg A1 h121 n_9 fun x122 =>
        storeL (mkS' A1 x122) h121 t8 0 fun h123 =>
        ldAg A1 h123 t8 fun x124 =>
        Q (agS A1 x124) h123) (
        callInt P .i64 n_ref14_Row_Next #[(.pointer r_0), (.int .i64 (2 : Int))] h116 fun n126 h125 =>
        ifB (n126 == (0 : Int)) (
          stI h125 n_9 (.int .i64 (7 : Int)) fun h127 =>
          ldAg A1 h127 n_9 fun x128 =>
          storeL (mkS' A1 x128) h127 t8 0 fun h129 =>
          ldAg A1 h129 t8 fun x130 =>
          Q (agS A1 x130) h129) (
          ifB (decide (sum_11 ≤ (16 : Int))) (
            ldAg A1 h125 n_9 fun x131 =>
            storeL (mkS' A1 x131) h125 t8 0 fun h132 =>
            ldAg A1 h132 t8 fun x133 =>
            Q (agS A1 x133) h132) (
            bndI (1 : Int) in_1_c fun l134 =>
            stI h125 (Addr.add n_9 1) (.slice (if in_1_c = 0 then in_1_p else Option.map (fun a => a.add (0 * 1)) in_1_p) (l134 - 0) (in_1_c - 0)) fun h135 =>
            J8 (r_0, still_3, t8, n_9, w_10, ()) h135)))) (
      ifB (decide (sum_11 ≤ (16 : Int))) (
        ldAg A1 h116 n_9 fun x136 =>
        storeL (mkS' A1 x136) h116 t8 0 fun h137 =>
        ldAg A1 h137 t8 fun x138 =>
        Q (agS A1 x138) h137) (
        bndI (1 : Int) in_1_c fun l139 =>
        stI h116 (Addr.add n_9 1) (.slice (if in_1_c = 0 then in_1_p else Option.map (fun a => a.add (0 * 1)) in_1_p) (l139 - 0) (in_1_c - 0)) fun h140 =>
        J8 (r_0, still_3, t8, n_9, w_10, ()) h140)))
def ref14_Made (r_0 : Option Addr) (in_1_p : Option Addr) (in_1_n : Nat) (in_1_c : Nat) (widths_2_p : Option Addr) (widths_2_n : Nat) (widths_2_c : Nat) (still_3 : Bool) (h : Heap) (Q : Value → Heap → Prop) : Prop :=
  newI h (.cells (mkS' A1 (zT A1)).toArray 30 (0, 0)) fun b1 h2 =>
  newI h2 (.cells (mkS' A1 (zT A1)).toArray 30 (0, 0)) fun b3 h4 =>
  storeL [(.int .i64 (0 : Int)), (.slice in_1_p in_1_n in_1_c), (.int .i64 (0 : Int)), (.int .i64 (0 : Int)), (.int .i64 (0 : Int)), (.int .i64 (0 : Int)), (.int .i64 (0 : Int)), (.int .i64 (0 : Int)), (.slice none 0 0), (.slice none 0 0), (.int .i64 (0 : Int)), (.int .i64 (0 : Int)), (.int .i64 (0 : Int)), (.int .i64 (0 : Int)), (.int .i64 (0 : Int))] h4 ⟨b3, 0, none⟩ 0 fun h5 =>
  idxI widths_2_p (0 : Int) widths_2_n fun a6 =>
  ldInt .i64 h5 (Addr.add a6 ((0 : Int).toNat * 1)) fun n7 =>
  ∃ J8 : (Option Addr × Bool × Addr × Addr × Int × Unit) → Heap → Prop, (∀ s h, J8 s h → ref14_Made_j18 Q s.1 s.2.1 s.2.2.1 s.2.2.2.1 s.2.2.2.2.1 h) ∧
  ifB (decide (((in_1_n : Nat) : Int) > (1 : Int))) (
    stI h5 ⟨b3, 0, none⟩ (.int .i64 (8 : Int)) fun h115 =>
    LoopS (S := Y5) (fun K1 s h => ref14_Made_l8 Q J8 K1 s.1 s.2.1.1 s.2.1.2.1 s.2.1.2.2 s.2.2.1.1 s.2.2.1.2.1 s.2.2.1.2.2 s.2.2.2.1 s.2.2.2.2.1 s.2.2.2.2.2.1 s.2.2.2.2.2.2.1 s.2.2.2.2.2.2.2.1 s.2.2.2.2.2.2.2.2.1 s.2.2.2.2.2.2.2.2.2.1 h) (r_0, (in_1_p, in_1_n, in_1_c), (widths_2_p, widths_2_n, widths_2_c), still_3, ⟨b1, 0, none⟩, ⟨b3, 0, none⟩, n7, (0 : Int), true, (0 : Int), ()) h115) (
    J8 (r_0, still_3, ⟨b1, 0, none⟩, ⟨b3, 0, none⟩, n7, ()) h5)
noncomputable def tab_ref14_Made : Tab := { sch := lookT .done [(44, (ones [0, 2] (.early 1 (.alt 3 (ones [4, 5] (.alt 6 .done .stop)) .stop))))], lp := lookT [] [(8, [(0, .sc (.ptr)), (1, .sc (.slice)), (2, .sc (.slice)), (3, .sc (.bool)), (8, .sc (.adr)), (9, .sc (.adr)), (10, .sc (.int .i64)), (11, .sc (.int .i64)), (12, .sc (.bool)), (13, .sc (.int .i64))])], jn := lookT none [(18, some [(0, .sc (.ptr)), (3, .sc (.bool)), (8, .sc (.adr)), (9, .sc (.adr)), (10, .sc (.int .i64))]), (22, some [(0, .sc (.ptr)), (8, .sc (.adr)), (9, .sc (.adr)), (10, .sc (.int .i64)), (14, .sc (.adr)), (15, .sc (.int .i64))])] }
theorem eq_ref14_Made (r_0 : Option Addr) (in_1_p : Option Addr) (in_1_n : Nat) (in_1_c : Nat) (widths_2_p : Option Addr) (widths_2_n : Nat) (widths_2_c : Nat) (still_3 : Bool) (h : Heap) (Q : Value → Heap → Prop) : fnI P Try.f18 tab_ref14_Made [(.pointer r_0), (.slice in_1_p in_1_n in_1_c), (.slice widths_2_p widths_2_n widths_2_c), (.bool still_3)] h Q = ref14_Made r_0 in_1_p in_1_n in_1_c widths_2_p widths_2_n widths_2_c still_3 h Q := by kernel_rfl
theorem ok_ref14_Made : fnOk P Try.f18 tab_ref14_Made = true := by kernel_rfl
theorem call_ref14_Made (r_0 : Option Addr) (in_1_p : Option Addr) (in_1_n : Nat) (in_1_c : Nat) (widths_2_p : Option Addr) (widths_2_n : Nat) (widths_2_c : Nat) (still_3 : Bool) {h : Heap} {Q : Value → Heap → Prop} (H : ref14_Made r_0 in_1_p in_1_n in_1_c widths_2_p widths_2_n widths_2_c still_3 h Q) : callP P n_ref14_Made #[(.pointer r_0), (.slice in_1_p in_1_n in_1_c), (.slice widths_2_p widths_2_n widths_2_c), (.bool still_3)] h Q :=
  @callP_of P n_ref14_Made Try.f18 tab_ref14_Made [(.pointer r_0), (.slice in_1_p in_1_n in_1_c), (.slice widths_2_p widths_2_n widths_2_c), (.bool still_3)] h Q mixed Try.func18 Try.call18 ok_ref14_Made (Eq.mpr (eq_ref14_Made r_0 in_1_p in_1_n in_1_c widths_2_p widths_2_n widths_2_c still_3 h Q) H)

/-! ### earshot/earshotref14.all: function 62 -/
def ref14_all_l2 (Q : Value → Heap → Prop) (K1 : ((Option Addr × Nat × Nat) × Int × Int × Int × Unit) → Heap → Prop) (xs_0_p : Option Addr) (xs_0_n : Nat) (xs_0_c : Nat) (low_1 : Int) (high_2 : Int) (i_7 : Int) (h1 : Heap) : Prop :=
  ifB (decide (i_7 < ((xs_0_n : Nat) : Int))) (
    idxI xs_0_p i_7 xs_0_n fun a2 =>
    ldInt .i64 h1 (Addr.add a2 (i_7.toNat * 1)) fun n3 =>
    ifB (decide (n3 < low_1)) (
      Q (.bool false) h1) (
      idxI xs_0_p i_7 xs_0_n fun a4 =>
      ldInt .i64 h1 (Addr.add a4 (i_7.toNat * 1)) fun n5 =>
      ifB (decide (n5 > high_2)) (
        Q (.bool false) h1) (
        K1 ((xs_0_p, xs_0_n, xs_0_c), low_1, high_2, (IntKind.wrap .i64 (i_7 + (1 : Int))), ()) h1))) (
    Q (.bool true) h1)
def ref14_all (xs_0_p : Option Addr) (xs_0_n : Nat) (xs_0_c : Nat) (low_1 : Int) (high_2 : Int) (h : Heap) (Q : Value → Heap → Prop) : Prop :=
  LoopS (S := ((Option Addr × Nat × Nat) × Int × Int × Int × Unit)) (fun K1 s h => ref14_all_l2 Q K1 s.1.1 s.1.2.1 s.1.2.2 s.2.1 s.2.2.1 s.2.2.2.1 h) ((xs_0_p, xs_0_n, xs_0_c), low_1, high_2, (0 : Int), ()) h
noncomputable def tab_ref14_all : Tab := { sch := lookT .done [], lp := lookT [] [(2, [(0, .sc (.slice)), (1, .sc (.int .i64)), (2, .sc (.int .i64)), (7, .sc (.int .i64))])], jn := lookT none [] }
theorem eq_ref14_all (xs_0_p : Option Addr) (xs_0_n : Nat) (xs_0_c : Nat) (low_1 : Int) (high_2 : Int) (h : Heap) (Q : Value → Heap → Prop) : fnI P Try.f62 tab_ref14_all [(.slice xs_0_p xs_0_n xs_0_c), (.int .i64 low_1), (.int .i64 high_2)] h Q = ref14_all xs_0_p xs_0_n xs_0_c low_1 high_2 h Q := by kernel_rfl
theorem ok_ref14_all : fnOk P Try.f62 tab_ref14_all = true := by kernel_rfl
theorem call_ref14_all (xs_0_p : Option Addr) (xs_0_n : Nat) (xs_0_c : Nat) (low_1 : Int) (high_2 : Int) {h : Heap} {Q : Value → Heap → Prop} (H : ref14_all xs_0_p xs_0_n xs_0_c low_1 high_2 h Q) : callP P n_ref14_all #[(.slice xs_0_p xs_0_n xs_0_c), (.int .i64 low_1), (.int .i64 high_2)] h Q :=
  @callP_of P n_ref14_all Try.f62 tab_ref14_all [(.slice xs_0_p xs_0_n xs_0_c), (.int .i64 low_1), (.int .i64 high_2)] h Q mixed Try.func62 Try.call62 ok_ref14_all (Eq.mpr (eq_ref14_all xs_0_p xs_0_n xs_0_c low_1 high_2 h Q) H)

/-! ### earshot/earshotref14.in: function 63 -/
def ref14_in (x_0 : Int) (low_1 : Int) (high_2 : Int) (h : Heap) (Q : Value → Heap → Prop) : Prop :=
  ifB (decide (x_0 ≥ low_1)) (
    Q (.bool (decide (x_0 ≤ high_2))) h) (
    Q (.bool false) h)
noncomputable def tab_ref14_in : Tab := { sch := lookT .done [], lp := lookT [] [], jn := lookT none [] }
theorem eq_ref14_in (x_0 : Int) (low_1 : Int) (high_2 : Int) (h : Heap) (Q : Value → Heap → Prop) : fnI P Try.f63 tab_ref14_in [(.int .i64 x_0), (.int .i64 low_1), (.int .i64 high_2)] h Q = ref14_in x_0 low_1 high_2 h Q := by kernel_rfl
theorem ok_ref14_in : fnOk P Try.f63 tab_ref14_in = true := by kernel_rfl
theorem call_ref14_in (x_0 : Int) (low_1 : Int) (high_2 : Int) {h : Heap} {Q : Value → Heap → Prop} (H : ref14_in x_0 low_1 high_2 h Q) : callP P n_ref14_in #[(.int .i64 x_0), (.int .i64 low_1), (.int .i64 high_2)] h Q :=
  @callP_of P n_ref14_in Try.f63 tab_ref14_in [(.int .i64 x_0), (.int .i64 low_1), (.int .i64 high_2)] h Q mixed Try.func63 Try.call63 ok_ref14_in (Eq.mpr (eq_ref14_in x_0 low_1 high_2 h Q) H)

/-! ### earshot/earshotref14.Many: function 64 -/
def ref14_Many (k_0 : Int) (h : Heap) (Q : Value → Heap → Prop) : Prop :=
  ifB (k_0 == (7 : Int)) (
    Q (.bool true) h) (
    Q (.bool (k_0 == (8 : Int))) h)
noncomputable def tab_ref14_Many : Tab := { sch := lookT .done [], lp := lookT [] [], jn := lookT none [] }
theorem eq_ref14_Many (k_0 : Int) (h : Heap) (Q : Value → Heap → Prop) : fnI P Try.f64 tab_ref14_Many [(.int .i64 k_0)] h Q = ref14_Many k_0 h Q := by kernel_rfl
theorem ok_ref14_Many : fnOk P Try.f64 tab_ref14_Many = true := by kernel_rfl
theorem call_ref14_Many (k_0 : Int) {h : Heap} {Q : Value → Heap → Prop} (H : ref14_Many k_0 h Q) : callP P n_ref14_Many #[(.int .i64 k_0)] h Q :=
  @callP_of P n_ref14_Many Try.f64 tab_ref14_Many [(.int .i64 k_0)] h Q mixed Try.func64 Try.call64 ok_ref14_Many (Eq.mpr (eq_ref14_Many k_0 h Q) H)

/-! ### earshot/earshotref14.weighs: function 65 -/
def ref14_weighs (k_0 : Int) (h : Heap) (Q : Value → Heap → Prop) : Prop :=
  ifB (k_0 == (1 : Int)) (
    Q (.bool true) h) (
    ifB (k_0 == (2 : Int)) (
      Q (.bool true) h) (
      Q (.bool (k_0 == (6 : Int))) h))
noncomputable def tab_ref14_weighs : Tab := { sch := lookT .done [], lp := lookT [] [], jn := lookT none [] }
theorem eq_ref14_weighs (k_0 : Int) (h : Heap) (Q : Value → Heap → Prop) : fnI P Try.f65 tab_ref14_weighs [(.int .i64 k_0)] h Q = ref14_weighs k_0 h Q := by kernel_rfl
theorem ok_ref14_weighs : fnOk P Try.f65 tab_ref14_weighs = true := by kernel_rfl
theorem call_ref14_weighs (k_0 : Int) {h : Heap} {Q : Value → Heap → Prop} (H : ref14_weighs k_0 h Q) : callP P n_ref14_weighs #[(.int .i64 k_0)] h Q :=
  @callP_of P n_ref14_weighs Try.f65 tab_ref14_weighs [(.int .i64 k_0)] h Q mixed Try.func65 Try.call65 ok_ref14_weighs (Eq.mpr (eq_ref14_weighs k_0 h Q) H)

/-! ### earshot/earshotref14.four: function 68 -/
def ref14_four (k_0 : Int) (h : Heap) (Q : Value → Heap → Prop) : Prop :=
  ifB (k_0 == (1 : Int)) (
    Q (.bool true) h) (
    ifB (k_0 == (2 : Int)) (
      Q (.bool true) h) (
      ifB (k_0 == (3 : Int)) (
        Q (.bool true) h) (
        Q (.bool (k_0 == (4 : Int))) h)))
noncomputable def tab_ref14_four : Tab := { sch := lookT .done [], lp := lookT [] [], jn := lookT none [] }
theorem eq_ref14_four (k_0 : Int) (h : Heap) (Q : Value → Heap → Prop) : fnI P Try.f68 tab_ref14_four [(.int .i64 k_0)] h Q = ref14_four k_0 h Q := by kernel_rfl
theorem ok_ref14_four : fnOk P Try.f68 tab_ref14_four = true := by kernel_rfl
theorem call_ref14_four (k_0 : Int) {h : Heap} {Q : Value → Heap → Prop} (H : ref14_four k_0 h Q) : callP P n_ref14_four #[(.int .i64 k_0)] h Q :=
  @callP_of P n_ref14_four Try.f68 tab_ref14_four [(.int .i64 k_0)] h Q mixed Try.func68 Try.call68 ok_ref14_four (Eq.mpr (eq_ref14_four k_0 h Q) H)

/-! ### earshot/earshotref14.else0: function 66 -/
def ref14_else0_j12 (Q : Value → Heap → Prop) (n_1 : Addr) (scale_6 : Bool) (clamp_7 : Bool) (h20 : Heap) : Prop :=
  ifB scale_6 (
    ifB clamp_7 (
      Q (.bool true) h20) (
      ldInt .i64 h20 (Addr.add n_1 12) fun n21 =>
      ifB (n21 == (0 : Int)) (
        ldInt .i64 h20 (Addr.add n_1 13) fun n22 =>
        Q (.bool (n22 == (0 : Int))) h20) (
        Q (.bool false) h20))) (
    ldInt .i64 h20 (Addr.add n_1 10) fun n23 =>
    ifB (n23 == (0 : Int)) (
      ldInt .i64 h20 (Addr.add n_1 11) fun n24 =>
      ifB (n24 == (0 : Int)) (
        ifB clamp_7 (
          Q (.bool true) h20) (
          ldInt .i64 h20 (Addr.add n_1 12) fun n25 =>
          ifB (n25 == (0 : Int)) (
            ldInt .i64 h20 (Addr.add n_1 13) fun n26 =>
            Q (.bool (n26 == (0 : Int))) h20) (
            Q (.bool false) h20))) (
        Q (.bool false) h20)) (
      Q (.bool false) h20))
def ref14_else0_j10 (Q : Value → Heap → Prop) (n_1 : Addr) (weigh_4 : Bool) (scale_6 : Bool) (clamp_7 : Bool) (h18 : Heap) : Prop :=
  ∃ J19 : (Addr × Bool × Bool × Unit) → Heap → Prop, (∀ s h, J19 s h → ref14_else0_j12 Q s.1 s.2.1 s.2.2.1 h) ∧
  ifB (!weigh_4) (
    ldSlice h18 (Addr.add n_1 8) fun p27 l27 c27 =>
    ifB (decide (((l27 : Nat) : Int) > (0 : Int))) (
      Q (.bool false) h18) (
      ldSlice h18 (Addr.add n_1 9) fun p28 l28 c28 =>
      ifB (decide (((l28 : Nat) : Int) > (0 : Int))) (
        Q (.bool false) h18) (
        J19 (n_1, scale_6, clamp_7, ()) h18))) (
    J19 (n_1, scale_6, clamp_7, ()) h18)
def ref14_else0_j8 (Q : Value → Heap → Prop) (n_1 : Addr) (own_3 : Bool) (weigh_4 : Bool) (wide_5 : Bool) (scale_6 : Bool) (clamp_7 : Bool) (h16 : Heap) : Prop :=
  ∃ J17 : (Addr × Bool × Bool × Bool × Unit) → Heap → Prop, (∀ s h, J17 s h → ref14_else0_j10 Q s.1 s.2.1 s.2.2.1 s.2.2.2.1 h) ∧
  ifB (!own_3) (
    ldInt .i64 h16 n_1 fun n29 =>
    ifB (n29 != (12 : Int)) (
      ldInt .i64 h16 (Addr.add n_1 3) fun n30 =>
      ifB (n30 != (0 : Int)) (
        Q (.bool false) h16) (
        ifB (!wide_5) (
          ldInt .i64 h16 (Addr.add n_1 2) fun n31 =>
          ifB (n31 != (0 : Int)) (
            Q (.bool false) h16) (
            J17 (n_1, weigh_4, scale_6, clamp_7, ()) h16)) (
          J17 (n_1, weigh_4, scale_6, clamp_7, ()) h16))) (
      ifB (!wide_5) (
        ldInt .i64 h16 (Addr.add n_1 2) fun n32 =>
        ifB (n32 != (0 : Int)) (
          Q (.bool false) h16) (
          J17 (n_1, weigh_4, scale_6, clamp_7, ()) h16)) (
        J17 (n_1, weigh_4, scale_6, clamp_7, ()) h16))) (
    ifB (!wide_5) (
      ldInt .i64 h16 (Addr.add n_1 2) fun n33 =>
      ifB (n33 != (0 : Int)) (
        Q (.bool false) h16) (
        J17 (n_1, weigh_4, scale_6, clamp_7, ()) h16)) (
      J17 (n_1, weigh_4, scale_6, clamp_7, ()) h16))
def ref14_else0_j6 (Q : Value → Heap → Prop) (n_1 : Addr) (own_3 : Bool) (weigh_4 : Bool) (wide_5 : Bool) (scale_6 : Bool) (clamp_7 : Bool) (h14 : Heap) : Prop :=
  ∃ J15 : (Addr × Bool × Bool × Bool × Bool × Bool × Unit) → Heap → Prop, (∀ s h, J15 s h → ref14_else0_j8 Q s.1 s.2.1 s.2.2.1 s.2.2.2.1 s.2.2.2.2.1 s.2.2.2.2.2.1 h) ∧
  ifB (!own_3) (
    ldInt .i64 h14 (Addr.add n_1 4) fun n34 =>
    ifB (n34 != (0 : Int)) (
      Q (.bool false) h14) (
      ldInt .i64 h14 (Addr.add n_1 5) fun n35 =>
      ifB (n35 != (0 : Int)) (
        Q (.bool false) h14) (
        ldInt .i64 h14 (Addr.add n_1 6) fun n36 =>
        ifB (n36 != (0 : Int)) (
          Q (.bool false) h14) (
          ldInt .i64 h14 (Addr.add n_1 7) fun n37 =>
          ifB (n37 != (0 : Int)) (
            Q (.bool false) h14) (
            J15 (n_1, own_3, weigh_4, wide_5, scale_6, clamp_7, ()) h14))))) (
    J15 (n_1, own_3, weigh_4, wide_5, scale_6, clamp_7, ()) h14)
def ref14_else0_j5 (Q : Value → Heap → Prop) (n_1 : Addr) (own_3 : Bool) (weigh_4 : Bool) (wide_5 : Bool) (scale_6 : Bool) (h12 : Heap) : Prop :=
  ∃ J13 : (Addr × Bool × Bool × Bool × Bool × Bool × Unit) → Heap → Prop, (∀ s h, J13 s h → ref14_else0_j6 Q s.1 s.2.1 s.2.2.1 s.2.2.2.1 s.2.2.2.2.1 s.2.2.2.2.2.1 h) ∧
  ldInt .i64 h12 n_1 fun n38 =>
  ifB (n38 == (9 : Int)) (
    J13 (n_1, own_3, weigh_4, wide_5, scale_6, true, ()) h12) (
    ldInt .i64 h12 (Addr.add n_1 14) fun n39 =>
    J13 (n_1, own_3, weigh_4, wide_5, scale_6, ((andI .i64 n39 (2 : Int)) == (2 : Int)), ()) h12)
def ref14_else0_j4 (Q : Value → Heap → Prop) (n_1 : Addr) (own_3 : Bool) (weigh_4 : Bool) (wide_5 : Bool) (h10 : Heap) : Prop :=
  ∃ J11 : (Addr × Bool × Bool × Bool × Bool × Unit) → Heap → Prop, (∀ s h, J11 s h → ref14_else0_j5 Q s.1 s.2.1 s.2.2.1 s.2.2.2.1 s.2.2.2.2.1 h) ∧
  ldInt .i64 h10 n_1 fun n40 =>
  ifB (n40 == (10 : Int)) (
    J11 (n_1, own_3, weigh_4, wide_5, true, ()) h10) (
    ldInt .i64 h10 (Addr.add n_1 14) fun n41 =>
    J11 (n_1, own_3, weigh_4, wide_5, ((andI .i64 n41 (1 : Int)) == (1 : Int)), ()) h10)
def ref14_else0 (n_0 : TS A1) (h : Heap) (Q : Value → Heap → Prop) : Prop :=
  newI h (.cells (mkS' A1 n_0).toArray 30 (0, 0)) fun b1 h2 =>
  ldInt .i64 h2 ⟨b1, 0, none⟩ fun n3 =>
  callBool P n_ref14_four #[(.int .i64 n3)] h2 fun b5 h4 =>
  ldInt .i64 h4 ⟨b1, 0, none⟩ fun n6 =>
  callBool P n_ref14_weighs #[(.int .i64 n6)] h4 fun b8 h7 =>
  ∃ J9 : (Addr × Bool × Bool × Bool × Unit) → Heap → Prop, (∀ s h, J9 s h → ref14_else0_j4 Q s.1 s.2.1 s.2.2.1 s.2.2.2.1 h) ∧
  ldInt .i64 h7 ⟨b1, 0, none⟩ fun n42 =>
  ifB (n42 == (1 : Int)) (
    J9 (⟨b1, 0, none⟩, b5, b8, true, ()) h7) (
    ldInt .i64 h7 ⟨b1, 0, none⟩ fun n43 =>
    J9 (⟨b1, 0, none⟩, b5, b8, (n43 == (6 : Int)), ()) h7)
noncomputable def tab_ref14_else0 : Tab := { sch := lookT .done [], lp := lookT [] [], jn := lookT none [(4, some [(1, .sc (.adr)), (3, .sc (.bool)), (4, .sc (.bool)), (5, .sc (.bool))]), (5, some [(1, .sc (.adr)), (3, .sc (.bool)), (4, .sc (.bool)), (5, .sc (.bool)), (6, .sc (.bool))]), (6, some [(1, .sc (.adr)), (3, .sc (.bool)), (4, .sc (.bool)), (5, .sc (.bool)), (6, .sc (.bool)), (7, .sc (.bool))]), (8, some [(1, .sc (.adr)), (3, .sc (.bool)), (4, .sc (.bool)), (5, .sc (.bool)), (6, .sc (.bool)), (7, .sc (.bool))]), (10, some [(1, .sc (.adr)), (4, .sc (.bool)), (6, .sc (.bool)), (7, .sc (.bool))]), (12, some [(1, .sc (.adr)), (6, .sc (.bool)), (7, .sc (.bool))])] }
theorem eq_ref14_else0 (n_0 : TS A1) (h : Heap) (Q : Value → Heap → Prop) : fnI P Try.f66 tab_ref14_else0 [(agS A1 n_0)] h Q = ref14_else0 n_0 h Q := by kernel_rfl
theorem ok_ref14_else0 : fnOk P Try.f66 tab_ref14_else0 = true := by kernel_rfl
theorem call_ref14_else0 (n_0 : TS A1) {h : Heap} {Q : Value → Heap → Prop} (H : ref14_else0 n_0 h Q) : callP P n_ref14_else0 #[(agS A1 n_0)] h Q :=
  @callP_of P n_ref14_else0 Try.f66 tab_ref14_else0 [(agS A1 n_0)] h Q mixed Try.func66 Try.call66 ok_ref14_else0 (Eq.mpr (eq_ref14_else0 n_0 h Q) H)

/-! ### earshot/earshotref14.weights: function 76 -/
def ref14_weights (n_0 : TS A1) (width_1 : Int) (h : Heap) (Q : Value → Heap → Prop) : Prop :=
  newI h (.cells (mkS' A1 n_0).toArray 30 (0, 0)) fun b1 h2 =>
  ldInt .i64 h2 ⟨b1, 0, none⟩ fun n3 =>
  ifB (n3 == (1 : Int)) (
    ldInt .i64 h2 ⟨b1, 2, none⟩ fun n4 =>
    ldInt .i64 h2 ⟨b1, 3, none⟩ fun n5 =>
    Q (.int .i64 (IntKind.wrap .i64 ((IntKind.wrap .i64 (n4 * n5)) * width_1))) h2) (
    ldInt .i64 h2 ⟨b1, 0, none⟩ fun n6 =>
    ifB (n6 == (2 : Int)) (
      ldInt .i64 h2 ⟨b1, 3, none⟩ fun n7 =>
      Q (.int .i64 (IntKind.wrap .i64 (width_1 * n7))) h2) (
      ldInt .i64 h2 ⟨b1, 2, none⟩ fun n8 =>
      Q (.int .i64 (IntKind.wrap .i64 (n8 * width_1))) h2))
noncomputable def tab_ref14_weights : Tab := { sch := lookT .done [], lp := lookT [] [], jn := lookT none [] }
theorem eq_ref14_weights (n_0 : TS A1) (width_1 : Int) (h : Heap) (Q : Value → Heap → Prop) : fnI P Try.f76 tab_ref14_weights [(agS A1 n_0), (.int .i64 width_1)] h Q = ref14_weights n_0 width_1 h Q := by kernel_rfl
theorem ok_ref14_weights : fnOk P Try.f76 tab_ref14_weights = true := by kernel_rfl
theorem call_ref14_weights (n_0 : TS A1) (width_1 : Int) {h : Heap} {Q : Value → Heap → Prop} (H : ref14_weights n_0 width_1 h Q) : callP P n_ref14_weights #[(agS A1 n_0), (.int .i64 width_1)] h Q :=
  @callP_of P n_ref14_weights Try.f76 tab_ref14_weights [(agS A1 n_0), (.int .i64 width_1)] h Q mixed Try.func76 Try.call76 ok_ref14_weights (Eq.mpr (eq_ref14_weights n_0 width_1 h Q) H)

/-! ### earshot/earshotref14.sized: function 67 -/
def ref14_sized_j23 (Q : Value → Heap → Prop) (n_2 : Addr) (h30 : Heap) : Prop :=
  ldInt .i64 h30 (Addr.add n_2 10) fun n31 =>
  callBool P n_ref14_in #[(.int .i64 n31), (.int .i64 (0 : Int)), (.int .i64 (32767 : Int))] h30 fun b33 h32 =>
  ldInt .i64 h32 (Addr.add n_2 11) fun n34 =>
  callBool P n_ref14_in #[(.int .i64 n34), (.int .i64 (0 : Int)), (.int .i64 (30 : Int))] h32 fun b36 h35 =>
  ldInt .i64 h35 (Addr.add n_2 12) fun n37 =>
  callBool P n_ref14_in #[(.int .i64 n37), (.int .i64 (-2147483648 : Int)), (.int .i64 (2147483647 : Int))] h35 fun b39 h38 =>
  ldInt .i64 h38 (Addr.add n_2 13) fun n40 =>
  callBool P n_ref14_in #[(.int .i64 n40), (.int .i64 (-2147483648 : Int)), (.int .i64 (2147483647 : Int))] h38 fun b42 h41 =>
  ifB b33 (
    ifB b36 (
      ifB b39 (
        ifB b42 (
          ldInt .i64 h41 (Addr.add n_2 12) fun n43 =>
          ldInt .i64 h41 (Addr.add n_2 13) fun n44 =>
          Q (.bool (decide (n43 ≤ n44))) h41) (
          Q (.bool false) h41)) (
        Q (.bool false) h41)) (
      Q (.bool false) h41)) (
    Q (.bool false) h41)
def ref14_sized_j19 (Q : Value → Heap → Prop) (J29 : (Addr × Unit) → Heap → Prop) (width_1 : Int) (n_2 : Addr) (many_11 : Int) (h47 : Heap) : Prop :=
  ldSlice h47 (Addr.add n_2 8) fun p48 l48 c48 =>
  callBool P n_ref14_all #[(.slice p48 l48 c48), (.int .i64 (-128 : Int)), (.int .i64 (127 : Int))] h47 fun b50 h49 =>
  ldSlice h49 (Addr.add n_2 9) fun p51 l51 c51 =>
  callBool P n_ref14_all #[(.slice p51 l51 c51), (.int .i64 (-16777216 : Int)), (.int .i64 (16777216 : Int))] h49 fun b53 h52 =>
  ldAg A1 h52 n_2 fun x54 =>
  ldSlice h52 (Addr.add n_2 8) fun p55 l55 c55 =>
  callInt P .i64 n_ref14_weights #[(agS A1 x54), (.int .i64 width_1)] h52 fun n57 h56 =>
  cellH h56 (Addr.add n_2 8) = some (.slice p55 l55 c55) ∧
  ifB (((l55 : Nat) : Int) != n57) (
    Q (.bool false) h56) (
    ldSlice h56 (Addr.add n_2 9) fun p58 l58 c58 =>
    ifB (((l58 : Nat) : Int) != many_11) (
      Q (.bool false) h56) (
      ifB (!b50) (
        Q (.bool false) h56) (
        ifB (!b53) (
          Q (.bool false) h56) (
          J29 (n_2, ()) h56))))
def ref14_sized_j15 (Q : Value → Heap → Prop) (width_1 : Int) (n_2 : Addr) (weigh_6 : Bool) (h28 : Heap) : Prop :=
  ∃ J29 : (Addr × Unit) → Heap → Prop, (∀ s h, J29 s h → ref14_sized_j23 Q s.1 h) ∧
  ifB weigh_6 (
    ldInt .i64 h28 (Addr.add n_2 2) fun n45 =>
    ∃ J46 : (Int × Addr × Int × Unit) → Heap → Prop, (∀ s h, J46 s h → ref14_sized_j19 Q J29 s.1 s.2.1 s.2.2.1 h) ∧
    ldInt .i64 h28 n_2 fun n59 =>
    ifB (n59 == (2 : Int)) (
      J46 (width_1, n_2, width_1, ()) h28) (
      J46 (width_1, n_2, n45, ()) h28)) (
    J29 (n_2, ()) h28)
def ref14_sized_j12 (Q : Value → Heap → Prop) (width_1 : Int) (n_2 : Addr) (weigh_6 : Bool) (h23 : Heap) : Prop :=
  ldInt .i64 h23 (Addr.add n_2 2) fun n24 =>
  callBool P n_ref14_in #[(.int .i64 n24), (.int .i64 (1 : Int)), (.int .i64 (16 : Int))] h23 fun b26 h25 =>
  ∃ J27 : (Int × Addr × Bool × Unit) → Heap → Prop, (∀ s h, J27 s h → ref14_sized_j15 Q s.1 s.2.1 s.2.2.1 h) ∧
  ldInt .i64 h25 n_2 fun n60 =>
  ifB (n60 == (1 : Int)) (
    ifB (!b26) (
      Q (.bool false) h25) (
      J27 (width_1, n_2, weigh_6, ()) h25)) (
    ldInt .i64 h25 n_2 fun n61 =>
    ifB (n61 == (6 : Int)) (
      ifB (!b26) (
        Q (.bool false) h25) (
        J27 (width_1, n_2, weigh_6, ()) h25)) (
      J27 (width_1, n_2, weigh_6, ()) h25))
def ref14_sized_j10 (Q : Value → Heap → Prop) (width_1 : Int) (n_2 : Addr) (own_5 : Bool) (weigh_6 : Bool) (h21 : Heap) : Prop :=
  ∃ J22 : (Int × Addr × Bool × Unit) → Heap → Prop, (∀ s h, J22 s h → ref14_sized_j12 Q s.1 s.2.1 s.2.2.1 h) ∧
  ifB own_5 (
    ldInt .i64 h21 (Addr.add n_2 6) fun n62 =>
    ifB (decide (n62 < (0 : Int))) (
      Q (.bool false) h21) (
      ldInt .i64 h21 (Addr.add n_2 6) fun n63 =>
      ldAg A1 h21 n_2 fun x64 =>
      callInt P .i64 n_ref14_Span #[(agS A1 x64)] h21 fun n66 h65 =>
      cellH h65 (Addr.add n_2 6) = some (.int .i64 n63) ∧
      ifB (decide (n63 ≥ n66)) (
        cellH h65 (Addr.add n_2 6) = some (.int .i64 n63) ∧
        Q (.bool false) h65) (
        ldInt .i64 h65 (Addr.add n_2 7) fun n67 =>
        ifB (decide (n67 < (0 : Int))) (
          cellH h65 (Addr.add n_2 6) = some (.int .i64 n63) ∧
          Q (.bool false) h65) (
          ldAg A1 h65 n_2 fun x68 =>
          ldInt .i64 h65 (Addr.add n_2 7) fun n69 =>
          callInt P .i64 n_ref14_Span #[(agS A1 x68)] h65 fun n71 h70 =>
          cellH h70 (Addr.add n_2 7) = some (.int .i64 n69) ∧
          cellH h70 (Addr.add n_2 6) = some (.int .i64 n63) ∧
          ifB (decide (n69 ≥ n71)) (
            Q (.bool false) h70) (
            J22 (width_1, n_2, weigh_6, ()) h70))))) (
    J22 (width_1, n_2, weigh_6, ()) h21)
def ref14_sized_j6 (Q : Value → Heap → Prop) (width_1 : Int) (n_2 : Addr) (own_5 : Bool) (weigh_6 : Bool) (h13 : Heap) : Prop :=
  ldInt .i64 h13 (Addr.add n_2 4) fun n14 =>
  callBool P n_ref14_in #[(.int .i64 n14), (.int .i64 (1 : Int)), (.int .i64 (4 : Int))] h13 fun b16 h15 =>
  ldInt .i64 h15 (Addr.add n_2 5) fun n17 =>
  callBool P n_ref14_in #[(.int .i64 n17), (.int .i64 (1 : Int)), (.int .i64 (4 : Int))] h15 fun b19 h18 =>
  ∃ J20 : (Int × Addr × Bool × Bool × Unit) → Heap → Prop, (∀ s h, J20 s h → ref14_sized_j10 Q s.1 s.2.1 s.2.2.1 s.2.2.2.1 h) ∧
  ifB own_5 (
    ifB (!b16) (
      Q (.bool false) h18) (
      ifB (!b19) (
        Q (.bool false) h18) (
        J20 (width_1, n_2, own_5, weigh_6, ()) h18))) (
    J20 (width_1, n_2, own_5, weigh_6, ()) h18)
def ref14_sized (n_0 : TS A1) (width_1 : Int) (h : Heap) (Q : Value → Heap → Prop) : Prop :=
  newI h (.cells (mkS' A1 n_0).toArray 30 (0, 0)) fun b1 h2 =>
  ldInt .i64 h2 ⟨b1, 0, none⟩ fun n3 =>
  callBool P n_ref14_four #[(.int .i64 n3)] h2 fun b5 h4 =>
  ldInt .i64 h4 ⟨b1, 0, none⟩ fun n6 =>
  callBool P n_ref14_weighs #[(.int .i64 n6)] h4 fun b8 h7 =>
  ldInt .i64 h7 ⟨b1, 3, none⟩ fun n9 =>
  callBool P n_ref14_in #[(.int .i64 n9), (.int .i64 (1 : Int)), (.int .i64 (8 : Int))] h7 fun b11 h10 =>
  ∃ J12 : (Int × Addr × Bool × Bool × Unit) → Heap → Prop, (∀ s h, J12 s h → ref14_sized_j6 Q s.1 s.2.1 s.2.2.1 s.2.2.2.1 h) ∧
  ifB b5 (
    ifB (!b11) (
      Q (.bool false) h10) (
      J12 (width_1, ⟨b1, 0, none⟩, b5, b8, ()) h10)) (
    ldInt .i64 h10 ⟨b1, 0, none⟩ fun n72 =>
    ifB (n72 == (12 : Int)) (
      ifB (!b11) (
        Q (.bool false) h10) (
        J12 (width_1, ⟨b1, 0, none⟩, b5, b8, ()) h10)) (
      J12 (width_1, ⟨b1, 0, none⟩, b5, b8, ()) h10))
noncomputable def tab_ref14_sized : Tab := { sch := lookT .done [(10, (ones [0, 1, 2] (.alt 3 (ones [4, 5, 6] (.early 7 (.alt 8 (.alt 9 (ones [10, 11, 12, 13] (.alt 14 (ones [15, 16, 17, 18, 20] (.early 19 (.alt 21 (ones [22, 23, 24] .done) .stop))) .stop)) .stop) .stop))) .stop))), (21, (ones [0, 4, 3] (.early 1 (ones [2] (.alt 5 (ones [6, 7, 8, 11, 9, 10, 12, 13, 14, 15, 16, 17, 18, 19, 20, 21] .done) .stop)))))], lp := lookT [] [], jn := lookT none [(6, some [(1, .sc (.int .i64)), (2, .sc (.adr)), (5, .sc (.bool)), (6, .sc (.bool))]), (10, some [(1, .sc (.int .i64)), (2, .sc (.adr)), (5, .sc (.bool)), (6, .sc (.bool))]), (12, some [(1, .sc (.int .i64)), (2, .sc (.adr)), (6, .sc (.bool))]), (15, some [(1, .sc (.int .i64)), (2, .sc (.adr)), (6, .sc (.bool))]), (19, some [(1, .sc (.int .i64)), (2, .sc (.adr)), (11, .sc (.int .i64))]), (23, some [(2, .sc (.adr))])] }
theorem eq_ref14_sized (n_0 : TS A1) (width_1 : Int) (h : Heap) (Q : Value → Heap → Prop) : fnI P Try.f67 tab_ref14_sized [(agS A1 n_0), (.int .i64 width_1)] h Q = ref14_sized n_0 width_1 h Q := by kernel_rfl
theorem ok_ref14_sized : fnOk P Try.f67 tab_ref14_sized = true := by kernel_rfl
theorem call_ref14_sized (n_0 : TS A1) (width_1 : Int) {h : Heap} {Q : Value → Heap → Prop} (H : ref14_sized n_0 width_1 h Q) : callP P n_ref14_sized #[(agS A1 n_0), (.int .i64 width_1)] h Q :=
  @callP_of P n_ref14_sized Try.f67 tab_ref14_sized [(agS A1 n_0), (.int .i64 width_1)] h Q mixed Try.func67 Try.call67 ok_ref14_sized (Eq.mpr (eq_ref14_sized n_0 width_1 h Q) H)

/-! ### earshot/earshotref14.Check: function 41 -/
def ref14_Check_l19 (Q : Value → Heap → Prop) (K1 : ((Option Addr × Nat × Nat) × Addr × Int × Int × Unit) → Heap → Prop) (widths_1_p : Option Addr) (widths_1_n : Nat) (widths_1_c : Nat) (n_2 : Addr) (sum_11 : Int) (i_12 : Int) (h28 : Heap) : Prop :=
  ifB (decide (i_12 < ((widths_1_n : Nat) : Int))) (
    idxI widths_1_p i_12 widths_1_n fun a29 =>
    ldInt .i64 h28 (Addr.add a29 (i_12.toNat * 1)) fun n30 =>
    ldInt .i64 h28 n_2 fun n31 =>
    ifB (n31 == (7 : Int)) (
      idxI widths_1_p i_12 widths_1_n fun a32 =>
      idxI widths_1_p (0 : Int) widths_1_n fun a33 =>
      ldInt .i64 h28 (Addr.add a32 (i_12.toNat * 1)) fun n34 =>
      ldInt .i64 h28 (Addr.add a33 ((0 : Int).toNat * 1)) fun n35 =>
      ifB (n34 != n35) (
        Q (.int .i64 (14 : Int)) h28) (
        K1 ((widths_1_p, widths_1_n, widths_1_c), n_2, (IntKind.wrap .i64 (sum_11 + n30)), (IntKind.wrap .i64 (i_12 + (1 : Int))), ()) h28)) (
      K1 ((widths_1_p, widths_1_n, widths_1_c), n_2, (IntKind.wrap .i64 (sum_11 + n30)), (IntKind.wrap .i64 (i_12 + (1 : Int))), ()) h28)) (
    ldInt .i64 h28 n_2 fun n36 =>
    ifB (n36 == (8 : Int)) (
      ifB (decide (sum_11 > (16 : Int))) (
        Q (.int .i64 (14 : Int)) h28) (
        Q (.int .i64 (0 : Int)) h28)) (
      Q (.int .i64 (0 : Int)) h28))
def ref14_Check_j11 (Q : Value → Heap → Prop) (widths_1_p : Option Addr) (widths_1_n : Nat) (widths_1_c : Nat) (n_2 : Addr) (h19 : Heap) : Prop :=
  ldAg A1 h19 n_2 fun x20 =>
  callBool P n_ref14_else0 #[(agS A1 x20)] h19 fun b22 h21 =>
  ifB (!b22) (
    Q (.int .i64 (12 : Int)) h21) (
    idxI widths_1_p (0 : Int) widths_1_n fun a23 =>
    ldAg A1 h21 n_2 fun x24 =>
    ldInt .i64 h21 (Addr.add a23 ((0 : Int).toNat * 1)) fun n25 =>
    callBool P n_ref14_sized #[(agS A1 x24), (.int .i64 n25)] h21 fun b27 h26 =>
    ifB (!b27) (
      Q (.int .i64 (22 : Int)) h26) (
      LoopS (S := ((Option Addr × Nat × Nat) × Addr × Int × Int × Unit)) (fun K1 s h => ref14_Check_l19 Q K1 s.1.1 s.1.2.1 s.1.2.2 s.2.1 s.2.2.1 s.2.2.2.1 h) ((widths_1_p, widths_1_n, widths_1_c), n_2, (0 : Int), (0 : Int), ()) h26))
def ref14_Check_j9 (Q : Value → Heap → Prop) (widths_1_p : Option Addr) (widths_1_n : Nat) (widths_1_c : Nat) (n_2 : Addr) (weigh_8 : Bool) (h17 : Heap) : Prop :=
  ∃ J18 : ((Option Addr × Nat × Nat) × Addr × Unit) → Heap → Prop, (∀ s h, J18 s h → ref14_Check_j11 Q s.1.1 s.1.2.1 s.1.2.2 s.2.1 h) ∧
  ldInt .i64 h17 (Addr.add n_2 14) fun n37 =>
  ifB (decide (n37 < (0 : Int))) (
    Q (.int .i64 (12 : Int)) h17) (
    ldInt .i64 h17 (Addr.add n_2 14) fun n38 =>
    ifB (decide (n38 > (3 : Int))) (
      Q (.int .i64 (12 : Int)) h17) (
      ldInt .i64 h17 (Addr.add n_2 14) fun n39 =>
      ifB (n39 != (0 : Int)) (
        ifB (!weigh_8) (
          Q (.int .i64 (12 : Int)) h17) (
          J18 ((widths_1_p, widths_1_n, widths_1_c), n_2, ()) h17)) (
        J18 ((widths_1_p, widths_1_n, widths_1_c), n_2, ()) h17)))
def ref14_Check_j4 (Q : Value → Heap → Prop) (widths_1_p : Option Addr) (widths_1_n : Nat) (widths_1_c : Nat) (n_2 : Addr) (h6 : Heap) : Prop :=
  ldInt .i64 h6 n_2 fun n7 =>
  callBool P n_ref14_in #[(.int .i64 n7), (.int .i64 (1 : Int)), (.int .i64 (12 : Int))] h6 fun b9 h8 =>
  ldInt .i64 h8 n_2 fun n10 =>
  callBool P n_ref14_Many #[(.int .i64 n10)] h8 fun b12 h11 =>
  ldInt .i64 h11 n_2 fun n13 =>
  callBool P n_ref14_weighs #[(.int .i64 n13)] h11 fun b15 h14 =>
  ∃ J16 : ((Option Addr × Nat × Nat) × Addr × Bool × Unit) → Heap → Prop, (∀ s h, J16 s h → ref14_Check_j9 Q s.1.1 s.1.2.1 s.1.2.2 s.2.1 s.2.2.1 h) ∧
  ifB (!b9) (
    Q (.int .i64 (12 : Int)) h14) (
    ifB b12 (
      ifB (decide (((widths_1_n : Nat) : Int) < (2 : Int))) (
        Q (.int .i64 (12 : Int)) h14) (
        ifB (decide (((widths_1_n : Nat) : Int) > (4 : Int))) (
          Q (.int .i64 (12 : Int)) h14) (
          ifB (!b12) (
            ifB (((widths_1_n : Nat) : Int) != (1 : Int)) (
              Q (.int .i64 (12 : Int)) h14) (
              J16 ((widths_1_p, widths_1_n, widths_1_c), n_2, b15, ()) h14)) (
            J16 ((widths_1_p, widths_1_n, widths_1_c), n_2, b15, ()) h14)))) (
      ifB (!b12) (
        ifB (((widths_1_n : Nat) : Int) != (1 : Int)) (
          Q (.int .i64 (12 : Int)) h14) (
          J16 ((widths_1_p, widths_1_n, widths_1_c), n_2, b15, ()) h14)) (
        J16 ((widths_1_p, widths_1_n, widths_1_c), n_2, b15, ()) h14)))
def ref14_Check (n_0 : TS A1) (widths_1_p : Option Addr) (widths_1_n : Nat) (widths_1_c : Nat) (h : Heap) (Q : Value → Heap → Prop) : Prop :=
  newI h (.cells (mkS' A1 n_0).toArray 30 (0, 0)) fun b1 h2 =>
  callBool P n_ref14_all #[(.slice widths_1_p widths_1_n widths_1_c), (.int .i64 (1 : Int)), (.int .i64 (16 : Int))] h2 fun b4 h3 =>
  ∃ J5 : ((Option Addr × Nat × Nat) × Addr × Unit) → Heap → Prop, (∀ s h, J5 s h → ref14_Check_j4 Q s.1.1 s.1.2.1 s.1.2.2 s.2.1 h) ∧
  ldSlice h3 ⟨b1, 1, none⟩ fun p40 l40 c40 =>
  ifB (((widths_1_n : Nat) : Int) != ((l40 : Nat) : Int)) (
    Q (.int .i64 (1 : Int)) h3) (
    ifB (!b4) (
      Q (.int .i64 (1 : Int)) h3) (
      J5 ((widths_1_p, widths_1_n, widths_1_c), ⟨b1, 0, none⟩, ()) h3))
noncomputable def tab_ref14_Check : Tab := { sch := lookT .done [(14, (ones [1, 2, 0, 3] (.alt 4 (ones [5] .done) .stop))), (22, (ones [0, 1, 2, 3, 4, 5, 6, 8, 9, 7, 10, 11, 12] .done))], lp := lookT [] [(19, [(1, .sc (.slice)), (2, .sc (.adr)), (11, .sc (.int .i64)), (12, .sc (.int .i64))])], jn := lookT none [(4, some [(1, .sc (.slice)), (2, .sc (.adr))]), (9, some [(1, .sc (.slice)), (2, .sc (.adr)), (8, .sc (.bool))]), (11, some [(1, .sc (.slice)), (2, .sc (.adr))])] }
theorem eq_ref14_Check (n_0 : TS A1) (widths_1_p : Option Addr) (widths_1_n : Nat) (widths_1_c : Nat) (h : Heap) (Q : Value → Heap → Prop) : fnI P Try.f41 tab_ref14_Check [(agS A1 n_0), (.slice widths_1_p widths_1_n widths_1_c)] h Q = ref14_Check n_0 widths_1_p widths_1_n widths_1_c h Q := by kernel_rfl
theorem ok_ref14_Check : fnOk P Try.f41 tab_ref14_Check = true := by kernel_rfl
theorem call_ref14_Check (n_0 : TS A1) (widths_1_p : Option Addr) (widths_1_n : Nat) (widths_1_c : Nat) {h : Heap} {Q : Value → Heap → Prop} (H : ref14_Check n_0 widths_1_p widths_1_n widths_1_c h Q) : callP P n_ref14_Check #[(agS A1 n_0), (.slice widths_1_p widths_1_n widths_1_c)] h Q :=
  @callP_of P n_ref14_Check Try.f41 tab_ref14_Check [(agS A1 n_0), (.slice widths_1_p widths_1_n widths_1_c)] h Q mixed Try.func41 Try.call41 ok_ref14_Check (Eq.mpr (eq_ref14_Check n_0 widths_1_p widths_1_n widths_1_c h Q) H)

/-! ### earshot/earshotref14.Width: function 19 -/
def ref14_Width_l11 (Q : Value → Heap → Prop) (K1 : ((Option Addr × Nat × Nat) × Int × Int × Unit) → Heap → Prop) (widths_1_p : Option Addr) (widths_1_n : Nat) (widths_1_c : Nat) (sum_5 : Int) (i_6 : Int) (h12 : Heap) : Prop :=
  ifB (decide (i_6 < ((widths_1_n : Nat) : Int))) (
    idxI widths_1_p i_6 widths_1_n fun a13 =>
    ldInt .i64 h12 (Addr.add a13 (i_6.toNat * 1)) fun n14 =>
    K1 ((widths_1_p, widths_1_n, widths_1_c), (IntKind.wrap .i64 (sum_5 + n14)), (IntKind.wrap .i64 (i_6 + (1 : Int))), ()) h12) (
    Q (.int .i64 sum_5) h12)
def ref14_Width_j5 (Q : Value → Heap → Prop) (widths_1_p : Option Addr) (widths_1_n : Nat) (widths_1_c : Nat) (n_2 : Addr) (h7 : Heap) : Prop :=
  ldInt .i64 h7 n_2 fun n8 =>
  ifB (n8 == (11 : Int)) (
    Q (.int .i64 (1 : Int)) h7) (
    ldInt .i64 h7 n_2 fun n9 =>
    ifB (n9 != (8 : Int)) (
      idxI widths_1_p (0 : Int) widths_1_n fun a10 =>
      ldInt .i64 h7 (Addr.add a10 ((0 : Int).toNat * 1)) fun n11 =>
      Q (.int .i64 n11) h7) (
      LoopS (S := ((Option Addr × Nat × Nat) × Int × Int × Unit)) (fun K1 s h => ref14_Width_l11 Q K1 s.1.1 s.1.2.1 s.1.2.2 s.2.1 s.2.2.1 h) ((widths_1_p, widths_1_n, widths_1_c), (0 : Int), (0 : Int), ()) h7))
def ref14_Width (n_0 : TS A1) (widths_1_p : Option Addr) (widths_1_n : Nat) (widths_1_c : Nat) (h : Heap) (Q : Value → Heap → Prop) : Prop :=
  newI h (.cells (mkS' A1 n_0).toArray 30 (0, 0)) fun b1 h2 =>
  ldAg A1 h2 ⟨b1, 0, none⟩ fun x3 =>
  callInt P .i64 n_ref14_Check #[(agS A1 x3), (.slice widths_1_p widths_1_n widths_1_c)] h2 fun n5 h4 =>
  ifB (n5 != (0 : Int)) (
    Q (.int .i64 (0 : Int)) h4) (
    ∃ J6 : ((Option Addr × Nat × Nat) × Addr × Unit) → Heap → Prop, (∀ s h, J6 s h → ref14_Width_j5 Q s.1.1 s.1.2.1 s.1.2.2 s.2.1 h) ∧
    ldInt .i64 h4 ⟨b1, 0, none⟩ fun n15 =>
    ifB (n15 == (1 : Int)) (
      ldInt .i64 h4 ⟨b1, 2, none⟩ fun n16 =>
      Q (.int .i64 n16) h4) (
      ldInt .i64 h4 ⟨b1, 0, none⟩ fun n17 =>
      ifB (n17 == (6 : Int)) (
        ldInt .i64 h4 ⟨b1, 2, none⟩ fun n18 =>
        Q (.int .i64 n18) h4) (
        J6 ((widths_1_p, widths_1_n, widths_1_c), ⟨b1, 0, none⟩, ()) h4)))
noncomputable def tab_ref14_Width : Tab := { sch := lookT .done [], lp := lookT [] [(11, [(1, .sc (.slice)), (5, .sc (.int .i64)), (6, .sc (.int .i64))])], jn := lookT none [(5, some [(1, .sc (.slice)), (2, .sc (.adr))])] }
theorem eq_ref14_Width (n_0 : TS A1) (widths_1_p : Option Addr) (widths_1_n : Nat) (widths_1_c : Nat) (h : Heap) (Q : Value → Heap → Prop) : fnI P Try.f19 tab_ref14_Width [(agS A1 n_0), (.slice widths_1_p widths_1_n widths_1_c)] h Q = ref14_Width n_0 widths_1_p widths_1_n widths_1_c h Q := by kernel_rfl
theorem ok_ref14_Width : fnOk P Try.f19 tab_ref14_Width = true := by kernel_rfl
theorem call_ref14_Width (n_0 : TS A1) (widths_1_p : Option Addr) (widths_1_n : Nat) (widths_1_c : Nat) {h : Heap} {Q : Value → Heap → Prop} (H : ref14_Width n_0 widths_1_p widths_1_n widths_1_c h Q) : callP P n_ref14_Width #[(agS A1 n_0), (.slice widths_1_p widths_1_n widths_1_c)] h Q :=
  @callP_of P n_ref14_Width Try.f19 tab_ref14_Width [(agS A1 n_0), (.slice widths_1_p widths_1_n widths_1_c)] h Q mixed Try.func19 Try.call19 ok_ref14_Width (Eq.mpr (eq_ref14_Width n_0 widths_1_p widths_1_n widths_1_c h Q) H)

/-! ### earshot/earshotref14.Step: function 43 -/
def ref14_Step (n_0 : TS A1) (h : Heap) (Q : Value → Heap → Prop) : Prop :=
  newI h (.cells (mkS' A1 n_0).toArray 30 (0, 0)) fun b1 h2 =>
  ldInt .i64 h2 ⟨b1, 0, none⟩ fun n3 =>
  callBool P n_ref14_four #[(.int .i64 n3)] h2 fun b5 h4 =>
  ifB b5 (
    ldInt .i64 h4 ⟨b1, 4, none⟩ fun n6 =>
    Q (.int .i64 n6) h4) (
    Q (.int .i64 (1 : Int)) h4)
noncomputable def tab_ref14_Step : Tab := { sch := lookT .done [], lp := lookT [] [], jn := lookT none [] }
theorem eq_ref14_Step (n_0 : TS A1) (h : Heap) (Q : Value → Heap → Prop) : fnI P Try.f43 tab_ref14_Step [(agS A1 n_0)] h Q = ref14_Step n_0 h Q := by kernel_rfl
theorem ok_ref14_Step : fnOk P Try.f43 tab_ref14_Step = true := by kernel_rfl
theorem call_ref14_Step (n_0 : TS A1) {h : Heap} {Q : Value → Heap → Prop} (H : ref14_Step n_0 h Q) : callP P n_ref14_Step #[(agS A1 n_0)] h Q :=
  @callP_of P n_ref14_Step Try.f43 tab_ref14_Step [(agS A1 n_0)] h Q mixed Try.func43 Try.call43 ok_ref14_Step (Eq.mpr (eq_ref14_Step n_0 h Q) H)

/-! ### earshot/earshotref15.rate: function 20 -/
def ref15_rate_l3 (Q : Value → Heap → Prop) (K1 : ((Option Addr × Nat × Nat) × Addr × Int × Int × Unit) → Heap → Prop) (rates_1_p : Option Addr) (rates_1_n : Nat) (rates_1_c : Nat) (n_2 : Addr) (r_5 : Int) (i_6 : Int) (h5 : Heap) : Prop :=
  ifB (decide (i_6 < ((rates_1_n : Nat) : Int))) (
    idxI rates_1_p i_6 rates_1_n fun a6 =>
    ldInt .i64 h5 (Addr.add a6 (i_6.toNat * 1)) fun n7 =>
    ifB (n7 != r_5) (
      Q (.int .i64 (-1 : Int)) h5) (
      K1 ((rates_1_p, rates_1_n, rates_1_c), n_2, r_5, (IntKind.wrap .i64 (i_6 + (1 : Int))), ()) h5)) (
    ldInt .i64 h5 n_2 fun n8 =>
    callBool P n_ref14_Windows #[(.int .i64 n8)] h5 fun b10 h9 =>
    ifB (r_5 == (0 : Int)) (
      ifB b10 (
        Q (.int .i64 (-1 : Int)) h9) (
        ldInt .i64 h9 n_2 fun n11 =>
        ifB (n11 == (5 : Int)) (
          Q (.int .i64 (-1 : Int)) h9) (
          ldInt .i64 h9 n_2 fun n12 =>
          ifB (n12 == (5 : Int)) (
            Q (.int .i64 (0 : Int)) h9) (
            ldAg A1 h9 n_2 fun x13 =>
            callInt P .i64 n_ref14_Step #[(agS A1 x13)] h9 fun n15 h14 =>
            Q (.int .i64 (IntKind.wrap .i64 (r_5 * n15))) h14)))) (
      ldInt .i64 h9 n_2 fun n16 =>
      ifB (n16 == (5 : Int)) (
        Q (.int .i64 (0 : Int)) h9) (
        ldAg A1 h9 n_2 fun x17 =>
        callInt P .i64 n_ref14_Step #[(agS A1 x17)] h9 fun n19 h18 =>
        Q (.int .i64 (IntKind.wrap .i64 (r_5 * n19))) h18)))
def ref15_rate (n_0 : TS A1) (rates_1_p : Option Addr) (rates_1_n : Nat) (rates_1_c : Nat) (h : Heap) (Q : Value → Heap → Prop) : Prop :=
  newI h (.cells (mkS' A1 n_0).toArray 30 (0, 0)) fun b1 h2 =>
  idxI rates_1_p (0 : Int) rates_1_n fun a3 =>
  ldInt .i64 h2 (Addr.add a3 ((0 : Int).toNat * 1)) fun n4 =>
  LoopS (S := ((Option Addr × Nat × Nat) × Addr × Int × Int × Unit)) (fun K1 s h => ref15_rate_l3 Q K1 s.1.1 s.1.2.1 s.1.2.2 s.2.1 s.2.2.1 s.2.2.2.1 h) ((rates_1_p, rates_1_n, rates_1_c), ⟨b1, 0, none⟩, n4, (0 : Int), ()) h2
noncomputable def tab_ref15_rate : Tab := { sch := lookT .done [], lp := lookT [] [(3, [(1, .sc (.slice)), (2, .sc (.adr)), (5, .sc (.int .i64)), (6, .sc (.int .i64))])], jn := lookT none [] }
theorem eq_ref15_rate (n_0 : TS A1) (rates_1_p : Option Addr) (rates_1_n : Nat) (rates_1_c : Nat) (h : Heap) (Q : Value → Heap → Prop) : fnI P Try.f20 tab_ref15_rate [(agS A1 n_0), (.slice rates_1_p rates_1_n rates_1_c)] h Q = ref15_rate n_0 rates_1_p rates_1_n rates_1_c h Q := by kernel_rfl
theorem ok_ref15_rate : fnOk P Try.f20 tab_ref15_rate = true := by kernel_rfl
theorem call_ref15_rate (n_0 : TS A1) (rates_1_p : Option Addr) (rates_1_n : Nat) (rates_1_c : Nat) {h : Heap} {Q : Value → Heap → Prop} (H : ref15_rate n_0 rates_1_p rates_1_n rates_1_c h Q) : callP P n_ref15_rate #[(agS A1 n_0), (.slice rates_1_p rates_1_n rates_1_c)] h Q :=
  @callP_of P n_ref15_rate Try.f20 tab_ref15_rate [(agS A1 n_0), (.slice rates_1_p rates_1_n rates_1_c)] h Q mixed Try.func20 Try.call20 ok_ref15_rate (Eq.mpr (eq_ref15_rate n_0 rates_1_p rates_1_n rates_1_c h Q) H)

/-! ### earshot/earshotref15.turned: function 21 -/
def ref15_turned_l9 (Q : Value → Heap → Prop) (K1 : (Addr × Addr × Int × Addr × Int × Unit) → Heap → Prop) (K2 : Y6 → Heap → Prop) (g_1 : Addr) (t2 : Addr) (n_3 : Int) (out_4 : Addr) (i_5 : Int) (x_6 : Addr) (in_7_p : Option Addr) (in_7_n : Nat) (in_7_c : Nat) (j_8 : Int) (h25 : Heap) : Prop :=
  ifB (decide (j_8 < ((in_7_n : Nat) : Int))) (
    idxI in_7_p j_8 in_7_n fun a26 =>
    ldInt .i64 h25 (Addr.add a26 (j_8.toNat * 1)) fun n27 =>
    ifB (decide (n27 > (0 : Int))) (
      idxI in_7_p j_8 in_7_n fun a28 =>
      ldInt .i64 h25 (Addr.add a28 (j_8.toNat * 1)) fun n29 =>
      idxI in_7_p j_8 in_7_n fun a30 =>
      stI h25 (Addr.add a30 (j_8.toNat * 1)) (.int .i64 (IntKind.wrap .i64 ((IntKind.wrap .i64 (n_3 + (1 : Int))) - n29))) fun h31 =>
      K2 (g_1, t2, n_3, out_4, i_5, x_6, (in_7_p, in_7_n, in_7_c), (IntKind.wrap .i64 (j_8 + (1 : Int))), ()) h31) (
      K2 (g_1, t2, n_3, out_4, i_5, x_6, (in_7_p, in_7_n, in_7_c), (IntKind.wrap .i64 (j_8 + (1 : Int))), ()) h25)) (
    stI h25 (Addr.add x_6 1) (.slice in_7_p in_7_n in_7_c) fun h32 =>
    ldSlice h32 (Addr.add out_4 3) fun p33 l33 c33 =>
    ldAg A1 h32 x_6 fun x34 =>
    newI h32 (.cells (mkS' A1 x34).toArray 30 (0, 0)) fun b35 h36 =>
    appI 30 15 168 (agS A1 (zT A1)) p33 l33 c33 (some ⟨b35, 0, none⟩) 1 h36 fun p37 l37 c37 h38 =>
    stI h38 (Addr.add out_4 3) (.slice p37 l37 c37) fun h39 =>
    K1 (g_1, t2, n_3, out_4, (IntKind.wrap .i64 (i_5 - (1 : Int))), ()) h39)
def ref15_turned_l4 (Q : Value → Heap → Prop) (K1 : (Addr × Addr × Int × Addr × Int × Unit) → Heap → Prop) (g_1 : Addr) (t2 : Addr) (n_3 : Int) (out_4 : Addr) (i_5 : Int) (h13 : Heap) : Prop :=
  ifB (decide (i_5 ≥ (1 : Int))) (
    ldSlice h13 (Addr.add g_1 3) fun p14 l14 c14 =>
    idxI p14 (IntKind.wrap .i64 (i_5 - (1 : Int))) l14 fun a15 =>
    ldAg A1 h13 (Addr.add a15 ((IntKind.wrap .i64 (i_5 - (1 : Int))).toNat * 15)) fun x16 =>
    newI h13 (.cells (mkS' A1 (zT A1)).toArray 30 (0, 0)) fun b17 h18 =>
    storeL (mkS' A1 x16) h18 ⟨b17, 0, none⟩ 0 fun h19 =>
    newI h19 (.cells #[] 3 (0, 0)) fun b20 h21 =>
    ldSlice h21 ⟨b17, 1, none⟩ fun p22 l22 c22 =>
    appI 3 1 8 (.int .i64 (0 : Int)) (some ⟨b20, 0, none⟩) 0 0 p22 l22 h21 fun p23 l23 c23 h24 =>
    LoopS (S := Y6) (fun K2 s h => ref15_turned_l9 Q K1 K2 s.1 s.2.1 s.2.2.1 s.2.2.2.1 s.2.2.2.2.1 s.2.2.2.2.2.1 s.2.2.2.2.2.2.1.1 s.2.2.2.2.2.2.1.2.1 s.2.2.2.2.2.2.1.2.2 s.2.2.2.2.2.2.2.1 h) (g_1, t2, n_3, out_4, i_5, ⟨b17, 0, none⟩, (p23, l23, c23), (0 : Int), ()) h24) (
    ldAg A2 h13 out_4 fun x40 =>
    storeL (mkS' A2 x40) h13 t2 0 fun h41 =>
    ldAg A2 h41 t2 fun x42 =>
    Q (agS A2 x42) h41)
def ref15_turned (g_0 : TS A2) (h : Heap) (Q : Value → Heap → Prop) : Prop :=
  newI h (.cells (mkS' A2 g_0).toArray 27 (0, 0)) fun b1 h2 =>
  newI h2 (.cells (mkS' A2 (zT A2)).toArray 27 (0, 0)) fun b3 h4 =>
  ldSlice h4 ⟨b1, 3, none⟩ fun p5 l5 c5 =>
  ldInt .i64 h4 ⟨b1, 0, none⟩ fun n6 =>
  ldInt .i64 h4 ⟨b1, 1, none⟩ fun n7 =>
  ldInt .i64 h4 ⟨b1, 2, none⟩ fun n8 =>
  ldInt .i64 h4 ⟨b1, 4, none⟩ fun n9 =>
  newI h4 (.cells (mkS' A2 (zT A2)).toArray 27 (0, 0)) fun b10 h11 =>
  storeL [(.int .i64 n6), (.int .i64 n7), (.int .i64 n8), (.slice none 0 0), (.int .i64 (IntKind.wrap .i64 ((IntKind.wrap .i64 (((l5 : Nat) : Int) + (1 : Int))) - n9)))] h11 ⟨b10, 0, none⟩ 0 fun h12 =>
  LoopS (S := (Addr × Addr × Int × Addr × Int × Unit)) (fun K1 s h => ref15_turned_l4 Q K1 s.1 s.2.1 s.2.2.1 s.2.2.2.1 s.2.2.2.2.1 h) (⟨b1, 0, none⟩, ⟨b3, 0, none⟩, ((l5 : Nat) : Int), ⟨b10, 0, none⟩, ((l5 : Nat) : Int), ()) h12
noncomputable def tab_ref15_turned : Tab := { sch := lookT .done [], lp := lookT [] [(4, [(1, .sc (.adr)), (2, .sc (.adr)), (3, .sc (.int .i64)), (4, .sc (.adr)), (5, .sc (.int .i64))]), (9, [(1, .sc (.adr)), (2, .sc (.adr)), (3, .sc (.int .i64)), (4, .sc (.adr)), (5, .sc (.int .i64)), (6, .sc (.adr)), (7, .sc (.slice)), (8, .sc (.int .i64))])], jn := lookT none [] }
theorem eq_ref15_turned (g_0 : TS A2) (h : Heap) (Q : Value → Heap → Prop) : fnI P Try.f21 tab_ref15_turned [(agS A2 g_0)] h Q = ref15_turned g_0 h Q := by kernel_rfl
theorem ok_ref15_turned : fnOk P Try.f21 tab_ref15_turned = true := by kernel_rfl
theorem call_ref15_turned (g_0 : TS A2) {h : Heap} {Q : Value → Heap → Prop} (H : ref15_turned g_0 h Q) : callP P n_ref15_turned #[(agS A2 g_0)] h Q :=
  @callP_of P n_ref15_turned Try.f21 tab_ref15_turned [(agS A2 g_0)] h Q mixed Try.func21 Try.call21 ok_ref15_turned (Eq.mpr (eq_ref15_turned g_0 h Q) H)

/-! ### earshot/earshotref15.Made: function 9 -/
def ref15_Made_j23 (Q : Value → Heap → Prop) (K1 : Y7 → Heap → Prop) (t2 : Addr) (r_3 : Addr) (g_4 : Addr) (back_5 : Bool) (many_6 : Int) (widths_7_p : Option Addr) (widths_7_n : Nat) (widths_7_c : Nat) (rates_8_p : Option Addr) (rates_8_n : Nat) (rates_8_c : Nat) (i_9 : Int) (a_10 : Int) (in_11_p : Option Addr) (in_11_n : Nat) (in_11_c : Nat) (ws_12_p : Option Addr) (ws_12_n : Nat) (ws_12_c : Nat) (h39 : Heap) : Prop :=
  idxI rates_8_p a_10 rates_8_n fun a40 =>
  ldInt .i64 h39 (Addr.add a40 (a_10.toNat * 1)) fun n41 =>
  callP P n_ref14_Made #[(.pointer (some r_3)), (.slice in_11_p in_11_n in_11_c), (.slice ws_12_p ws_12_n ws_12_c), (.bool (n41 == (0 : Int)))] h39 fun v43 h42 =>
  exS A1 fun x44 => v43 = (agS A1 x44) ∧
  newI h42 (.cells (mkS' A1 (zT A1)).toArray 30 (0, 0)) fun b45 h46 =>
  storeL (mkS' A1 x44) h46 ⟨b45, 0, none⟩ 0 fun h47 =>
  ldSlice h47 (Addr.add g_4 3) fun p48 l48 c48 =>
  ldAg A1 h47 ⟨b45, 0, none⟩ fun x49 =>
  newI h47 (.cells (mkS' A1 x49).toArray 30 (0, 0)) fun b50 h51 =>
  appI 30 15 168 (agS A1 (zT A1)) p48 l48 c48 (some ⟨b50, 0, none⟩) 1 h51 fun p52 l52 c52 h53 =>
  stI h53 (Addr.add g_4 3) (.slice p52 l52 c52) fun h54 =>
  ldAg A1 h54 ⟨b45, 0, none⟩ fun x55 =>
  ldSlice h54 ⟨b45, 1, none⟩ fun p56 l56 c56 =>
  bndI ((l56 : Nat) : Int) ws_12_c fun l57 =>
  callInt P .i64 n_ref14_Width #[(agS A1 x55), (.slice (if ws_12_c = 0 then ws_12_p else Option.map (fun a => a.add (0 * 1)) ws_12_p) (l57 - 0) (ws_12_c - 0))] h54 fun n59 h58 =>
  newI h58 (.cells #[(.int .i64 n59)] 3 (0, 0)) fun b60 h61 =>
  appI 3 1 8 (.int .i64 (0 : Int)) widths_7_p widths_7_n widths_7_c (some ⟨b60, 0, none⟩) 1 h61 fun p62 l62 c62 h63 =>
  holdW (watchL 0 ⟨b45, 0, none⟩ (mkS' A1 x55) 0) h63 (
    idxI rates_8_p a_10 rates_8_n fun a64 =>
    ldAg A1 h63 ⟨b45, 0, none⟩ fun x65 =>
    ldInt .i64 h63 (Addr.add a64 (a_10.toNat * 1)) fun n66 =>
    newI h63 (.cells #[(.int .i64 n66)] 3 (0, 0)) fun b67 h68 =>
    callInt P .i64 n_ref15_rate #[(agS A1 x65), (.slice (some ⟨b67, 0, none⟩) 1 1)] h68 fun n70 h69 =>
    newI h69 (.cells #[(.int .i64 n70)] 3 (0, 0)) fun b71 h72 =>
    appI 3 1 8 (.int .i64 (0 : Int)) rates_8_p rates_8_n rates_8_c (some ⟨b71, 0, none⟩) 1 h72 fun p73 l73 c73 h74 =>
    holdW (watchL 0 ⟨b45, 0, none⟩ (mkS' A1 x65) 0) h74 (
      K1 (t2, r_3, g_4, back_5, many_6, (p62, l62, c62), (p73, l73, c73), (IntKind.wrap .i64 (i_9 + (1 : Int))), ()) h74))
def ref15_Made_j17 (Q : Value → Heap → Prop) (K1 : Y7 → Heap → Prop) (t2 : Addr) (r_3 : Addr) (g_4 : Addr) (back_5 : Bool) (many_6 : Int) (widths_7_p : Option Addr) (widths_7_n : Nat) (widths_7_c : Nat) (rates_8_p : Option Addr) (rates_8_n : Nat) (rates_8_c : Nat) (i_9 : Int) (a_10 : Int) (h29 : Heap) : Prop :=
  newI h29 (.cells #[(.int .i64 a_10)] 3 (0, 0)) fun b30 h31 =>
  idxI widths_7_p a_10 widths_7_n fun a32 =>
  ldInt .i64 h31 (Addr.add a32 (a_10.toNat * 1)) fun n33 =>
  newI h31 (.cells #[(.int .i64 n33)] 3 (0, 0)) fun b34 h35 =>
  callInt P .i64 n_ref14_Row_Next #[(.pointer (some r_3)), (.int .i64 i_9)] h35 fun n37 h36 =>
  ∃ J38 : Y9 → Heap → Prop, (∀ s h, J38 s h → ref15_Made_j23 Q K1 s.1 s.2.1 s.2.2.1 s.2.2.2.1 s.2.2.2.2.1 s.2.2.2.2.2.1.1 s.2.2.2.2.2.1.2.1 s.2.2.2.2.2.1.2.2 s.2.2.2.2.2.2.1.1 s.2.2.2.2.2.2.1.2.1 s.2.2.2.2.2.2.1.2.2 s.2.2.2.2.2.2.2.1 s.2.2.2.2.2.2.2.2.1 s.2.2.2.2.2.2.2.2.2.1.1 s.2.2.2.2.2.2.2.2.2.1.2.1 s.2.2.2.2.2.2.2.2.2.1.2.2 s.2.2.2.2.2.2.2.2.2.2.1.1 s.2.2.2.2.2.2.2.2.2.2.1.2.1 s.2.2.2.2.2.2.2.2.2.2.1.2.2 h) ∧
  callInt P .i64 n_ref14_Row_Next #[(.pointer (some r_3)), (.int .i64 (3 : Int))] h36 fun n76 h75 =>
  ifB (n76 == (0 : Int)) (
    idxI rates_8_p n37 rates_8_n fun a77 =>
    idxI rates_8_p a_10 rates_8_n fun a78 =>
    ldInt .i64 h75 (Addr.add a77 (n37.toNat * 1)) fun n79 =>
    ldInt .i64 h75 (Addr.add a78 (a_10.toNat * 1)) fun n80 =>
    ifB (n79 == n80) (
      newI h75 (.cells #[(.int .i64 n37)] 3 (0, 0)) fun b81 h82 =>
      appI 3 1 8 (.int .i64 (0 : Int)) (some ⟨b30, 0, none⟩) 1 1 (some ⟨b81, 0, none⟩) 1 h82 fun p83 l83 c83 h84 =>
      idxI widths_7_p n37 widths_7_n fun a85 =>
      ldInt .i64 h84 (Addr.add a85 (n37.toNat * 1)) fun n86 =>
      newI h84 (.cells #[(.int .i64 n86)] 3 (0, 0)) fun b87 h88 =>
      appI 3 1 8 (.int .i64 (0 : Int)) (some ⟨b34, 0, none⟩) 1 1 (some ⟨b87, 0, none⟩) 1 h88 fun p89 l89 c89 h90 =>
      J38 (t2, r_3, g_4, back_5, many_6, (widths_7_p, widths_7_n, widths_7_c), (rates_8_p, rates_8_n, rates_8_c), i_9, a_10, (p83, l83, c83), (p89, l89, c89), ()) h90) (
      J38 (t2, r_3, g_4, back_5, many_6, (widths_7_p, widths_7_n, widths_7_c), (rates_8_p, rates_8_n, rates_8_c), i_9, a_10, (some ⟨b30, 0, none⟩, 1, 1), (some ⟨b34, 0, none⟩, 1, 1), ()) h75)) (
    J38 (t2, r_3, g_4, back_5, many_6, (widths_7_p, widths_7_n, widths_7_c), (rates_8_p, rates_8_n, rates_8_c), i_9, a_10, (some ⟨b30, 0, none⟩, 1, 1), (some ⟨b34, 0, none⟩, 1, 1), ()) h75)
def ref15_Made_l12 (Q : Value → Heap → Prop) (K1 : Y7 → Heap → Prop) (t2 : Addr) (r_3 : Addr) (g_4 : Addr) (back_5 : Bool) (many_6 : Int) (widths_7_p : Option Addr) (widths_7_n : Nat) (widths_7_c : Nat) (rates_8_p : Option Addr) (rates_8_n : Nat) (rates_8_c : Nat) (i_9 : Int) (h27 : Heap) : Prop :=
  ifB (decide (i_9 ≤ many_6)) (
    ∃ J28 : Y8 → Heap → Prop, (∀ s h, J28 s h → ref15_Made_j17 Q K1 s.1 s.2.1 s.2.2.1 s.2.2.2.1 s.2.2.2.2.1 s.2.2.2.2.2.1.1 s.2.2.2.2.2.1.2.1 s.2.2.2.2.2.1.2.2 s.2.2.2.2.2.2.1.1 s.2.2.2.2.2.2.1.2.1 s.2.2.2.2.2.2.1.2.2 s.2.2.2.2.2.2.2.1 s.2.2.2.2.2.2.2.2.1 h) ∧
    callInt P .i64 n_ref14_Row_Next #[(.pointer (some r_3)), (.int .i64 (3 : Int))] h27 fun n92 h91 =>
    ifB (n92 == (0 : Int)) (
      callInt P .i64 n_ref14_Row_Next #[(.pointer (some r_3)), (.int .i64 i_9)] h91 fun n94 h93 =>
      J28 (t2, r_3, g_4, back_5, many_6, (widths_7_p, widths_7_n, widths_7_c), (rates_8_p, rates_8_n, rates_8_c), i_9, n94, ()) h93) (
      J28 (t2, r_3, g_4, back_5, many_6, (widths_7_p, widths_7_n, widths_7_c), (rates_8_p, rates_8_n, rates_8_c), i_9, (IntKind.wrap .i64 (i_9 - (1 : Int))), ()) h91)) (
    stI h27 (Addr.add g_4 4) (.int .i64 many_6) fun h95 =>
    callInt P .i64 n_ref14_Row_Next #[(.pointer (some r_3)), (.int .i64 (5 : Int))] h95 fun n97 h96 =>
    ifB (n97 == (0 : Int)) (
      callInt P .i64 n_ref14_Row_Next #[(.pointer (some r_3)), (.int .i64 many_6)] h96 fun n99 h98 =>
      stI h98 (Addr.add g_4 4) (.int .i64 (IntKind.wrap .i64 ((1 : Int) + n99))) fun h100 =>
      ifB back_5 (
        ldAg A2 h100 g_4 fun x101 =>
        callP P n_ref15_turned #[(agS A2 x101)] h100 fun v103 h102 =>
        exS A2 fun x104 => v103 = (agS A2 x104) ∧
        storeL (mkS' A2 x104) h102 t2 0 fun h105 =>
        ldAg A2 h105 t2 fun x106 =>
        Q (agS A2 x106) h105) (
        ldAg A2 h100 g_4 fun x107 =>
        storeL (mkS' A2 x107) h100 t2 0 fun h108 =>
        ldAg A2 h108 t2 fun x109 =>
        Q (agS A2 x109) h108)) (
      ifB back_5 (
        ldAg A2 h96 g_4 fun x110 =>
        callP P n_ref15_turned #[(agS A2 x110)] h96 fun v112 h111 =>
        exS A2 fun x113 => v112 = (agS A2 x113) ∧
        storeL (mkS' A2 x113) h111 t2 0 fun h114 =>
        ldAg A2 h114 t2 fun x115 =>
        Q (agS A2 x115) h114) (
        ldAg A2 h96 g_4 fun x116 =>
        storeL (mkS' A2 x116) h96 t2 0 fun h117 =>
        ldAg A2 h117 t2 fun x118 =>
        Q (agS A2 x118) h117)))
def ref15_Made_j3 (Q : Value → Heap → Prop) (l_0_p : Option Addr) (l_0_n : Nat) (l_0_c : Nat) (t2 : Addr) (h4 : Heap) : Prop :=
  newI h4 (.cells #[(.slice l_0_p l_0_n l_0_c), (.int .i64 (0 : Int))] 50 (0, 0)) fun b5 h6 =>
  callInt P .i64 n_ref14_Row_Next #[(.pointer (some ⟨b5, 0, none⟩)), (.int .i64 (3 : Int))] h6 fun n8 h7 =>
  newI h7 (.cells (mkS' A2 (zT A2)).toArray 27 (0, 0)) fun b9 h10 =>
  storeL [(.int .i64 (IntKind.wrap .i64 ((1 : Int) + n8))), (.int .i64 (0 : Int)), (.int .i64 (0 : Int)), (.slice none 0 0), (.int .i64 (0 : Int))] h10 ⟨b9, 0, none⟩ 0 fun h11 =>
  callInt P .i64 n_ref14_Row_Next #[(.pointer (some ⟨b5, 0, none⟩)), (.int .i64 (200 : Int))] h11 fun n13 h12 =>
  stI h12 ⟨b9, 1, none⟩ (.int .i64 (IntKind.wrap .i64 ((0 : Int) - n13))) fun h14 =>
  callInt P .i64 n_ref14_Row_Next #[(.pointer (some ⟨b5, 0, none⟩)), (.int .i64 (200 : Int))] h14 fun n16 h15 =>
  stI h15 ⟨b9, 2, none⟩ (.int .i64 n16) fun h17 =>
  callInt P .i64 n_ref14_Row_Next #[(.pointer (some ⟨b5, 0, none⟩)), (.int .i64 (2 : Int))] h17 fun n19 h18 =>
  callInt P .i64 n_ref14_Row_Next #[(.pointer (some ⟨b5, 0, none⟩)), (.int .i64 (6 : Int))] h18 fun n21 h20 =>
  ldInt .i64 h20 ⟨b9, 0, none⟩ fun n22 =>
  newI h20 (.cells #[(.int .i64 n22)] 3 (0, 0)) fun b23 h24 =>
  newI h24 (.cells #[(.int .i64 (1 : Int))] 3 (0, 0)) fun b25 h26 =>
  LoopS (S := Y7) (fun K1 s h => ref15_Made_l12 Q K1 s.1 s.2.1 s.2.2.1 s.2.2.2.1 s.2.2.2.2.1 s.2.2.2.2.2.1.1 s.2.2.2.2.2.1.2.1 s.2.2.2.2.2.1.2.2 s.2.2.2.2.2.2.1.1 s.2.2.2.2.2.2.1.2.1 s.2.2.2.2.2.2.1.2.2 s.2.2.2.2.2.2.2.1 h) (t2, ⟨b5, 0, none⟩, ⟨b9, 0, none⟩, (n19 == (1 : Int)), (IntKind.wrap .i64 ((1 : Int) + n21)), (some ⟨b23, 0, none⟩, 1, 1), (some ⟨b25, 0, none⟩, 1, 1), (1 : Int), ()) h26
def ref15_Made (l_0_p : Option Addr) (l_0_n : Nat) (l_0_c : Nat) (h : Heap) (Q : Value → Heap → Prop) : Prop :=
  newI h (.cells (mkS' A2 (zT A2)).toArray 27 (0, 0)) fun b1 h2 =>
  ∃ J3 : ((Option Addr × Nat × Nat) × Addr × Unit) → Heap → Prop, (∀ s h, J3 s h → ref15_Made_j3 Q s.1.1 s.1.2.1 s.1.2.2 s.2.1 h) ∧
  ifB (decide (((l_0_n : Nat) : Int) > (240 : Int))) (
    bndI (240 : Int) l_0_c fun l119 =>
    J3 (((if l_0_c = 0 then l_0_p else Option.map (fun a => a.add (0 * 1)) l_0_p), (l119 - 0), (l_0_c - 0)), ⟨b1, 0, none⟩, ()) h2) (
    J3 ((l_0_p, l_0_n, l_0_c), ⟨b1, 0, none⟩, ()) h2)
noncomputable def tab_ref15_Made : Tab := { sch := lookT .done [(20, (ones [0] (.alt 1 (ones [2, 3, 4, 5, 6, 8, 9, 10, 7, 11, 12, 13] .done) .stop))), (25, (ones [0, 2, 3] (.early 1 (.alt 4 (ones [5, 6] (.alt 7 (.alt 8 (.alt 9 (ones [10] .done) .stop) .stop) .stop)) .stop)))), (26, (ones [0, 2, 3, 4] (.early 1 (.alt 5 (.alt 6 (.alt 7 (.alt 8 (.alt 9 (ones [10] .done) .stop) .stop) .stop) .stop) .stop))))], lp := lookT [] [(12, [(2, .sc (.adr)), (3, .sc (.adr)), (4, .sc (.adr)), (5, .sc (.bool)), (6, .sc (.int .i64)), (7, .sc (.slice)), (8, .sc (.slice)), (9, .sc (.int .i64))])], jn := lookT none [(3, some [(0, .sc (.slice)), (2, .sc (.adr))]), (17, some [(2, .sc (.adr)), (3, .sc (.adr)), (4, .sc (.adr)), (5, .sc (.bool)), (6, .sc (.int .i64)), (7, .sc (.slice)), (8, .sc (.slice)), (9, .sc (.int .i64)), (10, .sc (.int .i64))]), (23, some [(2, .sc (.adr)), (3, .sc (.adr)), (4, .sc (.adr)), (5, .sc (.bool)), (6, .sc (.int .i64)), (7, .sc (.slice)), (8, .sc (.slice)), (9, .sc (.int .i64)), (10, .sc (.int .i64)), (11, .sc (.slice)), (12, .sc (.slice))])] }
theorem eq_ref15_Made (l_0_p : Option Addr) (l_0_n : Nat) (l_0_c : Nat) (h : Heap) (Q : Value → Heap → Prop) : fnI P Try.f9 tab_ref15_Made [(.slice l_0_p l_0_n l_0_c)] h Q = ref15_Made l_0_p l_0_n l_0_c h Q := by kernel_rfl
theorem ok_ref15_Made : fnOk P Try.f9 tab_ref15_Made = true := by kernel_rfl
theorem call_ref15_Made (l_0_p : Option Addr) (l_0_n : Nat) (l_0_c : Nat) {h : Heap} {Q : Value → Heap → Prop} (H : ref15_Made l_0_p l_0_n l_0_c h Q) : callP P n_ref15_Made #[(.slice l_0_p l_0_n l_0_c)] h Q :=
  @callP_of P n_ref15_Made Try.f9 tab_ref15_Made [(.slice l_0_p l_0_n l_0_c)] h Q mixed Try.func9 Try.call9 ok_ref15_Made (Eq.mpr (eq_ref15_Made l_0_p l_0_n l_0_c h Q) H)

/-! ### earshot/earshotref15.in: function 71 -/
def ref15_in (x_0 : Int) (low_1 : Int) (high_2 : Int) (h : Heap) (Q : Value → Heap → Prop) : Prop :=
  ifB (decide (x_0 ≥ low_1)) (
    Q (.bool (decide (x_0 ≤ high_2))) h) (
    Q (.bool false) h)
noncomputable def tab_ref15_in : Tab := { sch := lookT .done [], lp := lookT [] [], jn := lookT none [] }
theorem eq_ref15_in (x_0 : Int) (low_1 : Int) (high_2 : Int) (h : Heap) (Q : Value → Heap → Prop) : fnI P Try.f71 tab_ref15_in [(.int .i64 x_0), (.int .i64 low_1), (.int .i64 high_2)] h Q = ref15_in x_0 low_1 high_2 h Q := by kernel_rfl
theorem ok_ref15_in : fnOk P Try.f71 tab_ref15_in = true := by kernel_rfl
theorem call_ref15_in (x_0 : Int) (low_1 : Int) (high_2 : Int) {h : Heap} {Q : Value → Heap → Prop} (H : ref15_in x_0 low_1 high_2 h Q) : callP P n_ref15_in #[(.int .i64 x_0), (.int .i64 low_1), (.int .i64 high_2)] h Q :=
  @callP_of P n_ref15_in Try.f71 tab_ref15_in [(.int .i64 x_0), (.int .i64 low_1), (.int .i64 high_2)] h Q mixed Try.func71 Try.call71 ok_ref15_in (Eq.mpr (eq_ref15_in x_0 low_1 high_2 h Q) H)

/-! ### earshot/earshotref06.Bytes: function 72 -/
def ref06_Bytes_l3 (Q : Value → Heap → Prop) (K1 : (Int × Int × ByteArray × Int × Unit) → Heap → Prop) (x_0 : Int) (n_1 : Int) (s_5 : ByteArray) (i_6 : Int) (h1 : Heap) : Prop :=
  ifB (decide (i_6 < n_1)) (
    newI h1 (.cells #[(.int .u8 (IntKind.wrap .u8 x_0))] 5 (0, 0)) fun b2 h3 =>
    b2sB (some ⟨b2, 0, none⟩) 1 h3 fun s4 =>
    ∃ s5 : ByteArray, Value.string s4 = Value.string s5 ∧
    addStrI s_5 s5 fun _ =>
    K1 ((IntKind.wrap .u64 (Int.tdiv x_0 (256 : Int))), n_1, (s_5 ++ s5), (IntKind.wrap .i64 (i_6 + (1 : Int))), ()) h3) (
    Q (.string s_5) h1)
def ref06_Bytes (x_0 : Int) (n_1 : Int) (h : Heap) (Q : Value → Heap → Prop) : Prop :=
  LoopS (S := (Int × Int × ByteArray × Int × Unit)) (fun K1 s h => ref06_Bytes_l3 Q K1 s.1 s.2.1 s.2.2.1 s.2.2.2.1 h) (x_0, n_1, (ByteArray.mk #[]), (0 : Int), ()) h
noncomputable def tab_ref06_Bytes : Tab := { sch := lookT .done [], lp := lookT [] [(3, [(0, .sc (.int .u64)), (1, .sc (.int .i64)), (5, .sc (.str)), (6, .sc (.int .i64))])], jn := lookT none [] }
theorem eq_ref06_Bytes (x_0 : Int) (n_1 : Int) (h : Heap) (Q : Value → Heap → Prop) : fnI P Try.f72 tab_ref06_Bytes [(.int .u64 x_0), (.int .i64 n_1)] h Q = ref06_Bytes x_0 n_1 h Q := by kernel_rfl
theorem ok_ref06_Bytes : fnOk P Try.f72 tab_ref06_Bytes = true := by kernel_rfl
theorem call_ref06_Bytes (x_0 : Int) (n_1 : Int) {h : Heap} {Q : Value → Heap → Prop} (H : ref06_Bytes x_0 n_1 h Q) : callP P n_ref06_Bytes #[(.int .u64 x_0), (.int .i64 n_1)] h Q :=
  @callP_of P n_ref06_Bytes Try.f72 tab_ref06_Bytes [(.int .u64 x_0), (.int .i64 n_1)] h Q mixed Try.func72 Try.call72 ok_ref06_Bytes (Eq.mpr (eq_ref06_Bytes x_0 n_1 h Q) H)

/-! ### (*earshot/earshotref15.Out).put: function 49 -/
def ref15_Out_put (o_0 : Option Addr) (x_1 : Int) (n_2 : Int) (low_3 : Int) (high_4 : Int) (h : Heap) (Q : Value → Heap → Prop) : Prop :=
  callBool P n_ref15_in #[(.int .i64 x_1), (.int .i64 low_3), (.int .i64 high_4)] h fun b2 h1 =>
  ifB (!b2) (
    nilI o_0 fun a3 =>
    stI h1 (Addr.add a3 1) (.bool true) fun h4 =>
    nilI o_0 fun a5 =>
    ldStr h4 a5 fun s6 =>
    callStr P n_ref06_Bytes #[(.int .u64 (IntKind.wrap .u64 x_1)), (.int .i64 n_2)] h4 fun s8 h7 =>
    cellH h7 a5 = some (.string s6) ∧
    addStrI s6 s8 fun _ =>
    nilI o_0 fun a9 =>
    stI h7 a9 (.string (s6 ++ s8)) fun h10 =>
    Q (.tuple #[]) h10) (
    nilI o_0 fun a11 =>
    ldStr h1 a11 fun s12 =>
    callStr P n_ref06_Bytes #[(.int .u64 (IntKind.wrap .u64 x_1)), (.int .i64 n_2)] h1 fun s14 h13 =>
    cellH h13 a11 = some (.string s12) ∧
    addStrI s12 s14 fun _ =>
    nilI o_0 fun a15 =>
    stI h13 a15 (.string (s12 ++ s14)) fun h16 =>
    Q (.tuple #[]) h16)
noncomputable def tab_ref15_Out_put : Tab := { sch := lookT .done [(3, (ones [0, 1, 2, 3, 5, 6, 7] (.early 4 (.alt 8 (ones [9, 10, 11] (.alt 12 .done .stop)) .stop))))], lp := lookT [] [], jn := lookT none [] }
theorem eq_ref15_Out_put (o_0 : Option Addr) (x_1 : Int) (n_2 : Int) (low_3 : Int) (high_4 : Int) (h : Heap) (Q : Value → Heap → Prop) : fnI P Try.f49 tab_ref15_Out_put [(.pointer o_0), (.int .i64 x_1), (.int .i64 n_2), (.int .i64 low_3), (.int .i64 high_4)] h Q = ref15_Out_put o_0 x_1 n_2 low_3 high_4 h Q := by kernel_rfl
theorem ok_ref15_Out_put : fnOk P Try.f49 tab_ref15_Out_put = true := by kernel_rfl
theorem call_ref15_Out_put (o_0 : Option Addr) (x_1 : Int) (n_2 : Int) (low_3 : Int) (high_4 : Int) {h : Heap} {Q : Value → Heap → Prop} (H : ref15_Out_put o_0 x_1 n_2 low_3 high_4 h Q) : callP P n_ref15_Out_put #[(.pointer o_0), (.int .i64 x_1), (.int .i64 n_2), (.int .i64 low_3), (.int .i64 high_4)] h Q :=
  @callP_of P n_ref15_Out_put Try.f49 tab_ref15_Out_put [(.pointer o_0), (.int .i64 x_1), (.int .i64 n_2), (.int .i64 low_3), (.int .i64 high_4)] h Q mixed Try.func49 Try.call49 ok_ref15_Out_put (Eq.mpr (eq_ref15_Out_put o_0 x_1 n_2 low_3 high_4 h Q) H)

/-! ### (*earshot/earshotref15.Out).byt: function 26 -/
def ref15_Out_byt (o_0 : Option Addr) (x_1 : Int) (h : Heap) (Q : Value → Heap → Prop) : Prop :=
  callUnit P n_ref15_Out_put #[(.pointer o_0), (.int .i64 x_1), (.int .i64 (1 : Int)), (.int .i64 (0 : Int)), (.int .i64 (255 : Int))] h fun h1 =>
  Q (.tuple #[]) h1
noncomputable def tab_ref15_Out_byt : Tab := { sch := lookT .done [], lp := lookT [] [], jn := lookT none [] }
theorem eq_ref15_Out_byt (o_0 : Option Addr) (x_1 : Int) (h : Heap) (Q : Value → Heap → Prop) : fnI P Try.f26 tab_ref15_Out_byt [(.pointer o_0), (.int .i64 x_1)] h Q = ref15_Out_byt o_0 x_1 h Q := by kernel_rfl
theorem ok_ref15_Out_byt : fnOk P Try.f26 tab_ref15_Out_byt = true := by kernel_rfl
theorem call_ref15_Out_byt (o_0 : Option Addr) (x_1 : Int) {h : Heap} {Q : Value → Heap → Prop} (H : ref15_Out_byt o_0 x_1 h Q) : callP P n_ref15_Out_byt #[(.pointer o_0), (.int .i64 x_1)] h Q :=
  @callP_of P n_ref15_Out_byt Try.f26 tab_ref15_Out_byt [(.pointer o_0), (.int .i64 x_1)] h Q mixed Try.func26 Try.call26 ok_ref15_Out_byt (Eq.mpr (eq_ref15_Out_byt o_0 x_1 h Q) H)

/-! ### (*earshot/earshotref15.Out).word: function 27 -/
def ref15_Out_word (o_0 : Option Addr) (x_1 : Int) (h : Heap) (Q : Value → Heap → Prop) : Prop :=
  callUnit P n_ref15_Out_put #[(.pointer o_0), (.int .i64 x_1), (.int .i64 (4 : Int)), (.int .i64 (-2147483648 : Int)), (.int .i64 (2147483647 : Int))] h fun h1 =>
  Q (.tuple #[]) h1
noncomputable def tab_ref15_Out_word : Tab := { sch := lookT .done [], lp := lookT [] [], jn := lookT none [] }
theorem eq_ref15_Out_word (o_0 : Option Addr) (x_1 : Int) (h : Heap) (Q : Value → Heap → Prop) : fnI P Try.f27 tab_ref15_Out_word [(.pointer o_0), (.int .i64 x_1)] h Q = ref15_Out_word o_0 x_1 h Q := by kernel_rfl
theorem ok_ref15_Out_word : fnOk P Try.f27 tab_ref15_Out_word = true := by kernel_rfl
theorem call_ref15_Out_word (o_0 : Option Addr) (x_1 : Int) {h : Heap} {Q : Value → Heap → Prop} (H : ref15_Out_word o_0 x_1 h Q) : callP P n_ref15_Out_word #[(.pointer o_0), (.int .i64 x_1)] h Q :=
  @callP_of P n_ref15_Out_word Try.f27 tab_ref15_Out_word [(.pointer o_0), (.int .i64 x_1)] h Q mixed Try.func27 Try.call27 ok_ref15_Out_word (Eq.mpr (eq_ref15_Out_word o_0 x_1 h Q) H)

/-! ### (*earshot/earshotref15.Out).row: function 50 -/
def ref15_Out_row_l2 (Q : Value → Heap → Prop) (K1 : (Option Addr × (Option Addr × Nat × Nat) × Int × Unit) → Heap → Prop) (o_0 : Option Addr) (xs_1_p : Option Addr) (xs_1_n : Nat) (xs_1_c : Nat) (i_4 : Int) (h2 : Heap) : Prop :=
  ifB (decide (i_4 < ((xs_1_n : Nat) : Int))) (
    idxI xs_1_p i_4 xs_1_n fun a3 =>
    ldInt .i64 h2 (Addr.add a3 (i_4.toNat * 1)) fun n4 =>
    callUnit P n_ref15_Out_word #[(.pointer o_0), (.int .i64 n4)] h2 fun h5 =>
    K1 (o_0, (xs_1_p, xs_1_n, xs_1_c), (IntKind.wrap .i64 (i_4 + (1 : Int))), ()) h5) (
    Q (.tuple #[]) h2)
def ref15_Out_row (o_0 : Option Addr) (xs_1_p : Option Addr) (xs_1_n : Nat) (xs_1_c : Nat) (h : Heap) (Q : Value → Heap → Prop) : Prop :=
  callUnit P n_ref15_Out_put #[(.pointer o_0), (.int .i64 ((xs_1_n : Nat) : Int)), (.int .i64 (2 : Int)), (.int .i64 (0 : Int)), (.int .i64 (65535 : Int))] h fun h1 =>
  LoopS (S := (Option Addr × (Option Addr × Nat × Nat) × Int × Unit)) (fun K1 s h => ref15_Out_row_l2 Q K1 s.1 s.2.1.1 s.2.1.2.1 s.2.1.2.2 s.2.2.1 h) (o_0, (xs_1_p, xs_1_n, xs_1_c), (0 : Int), ()) h1
noncomputable def tab_ref15_Out_row : Tab := { sch := lookT .done [], lp := lookT [] [(2, [(0, .sc (.ptr)), (1, .sc (.slice)), (4, .sc (.int .i64))])], jn := lookT none [] }
theorem eq_ref15_Out_row (o_0 : Option Addr) (xs_1_p : Option Addr) (xs_1_n : Nat) (xs_1_c : Nat) (h : Heap) (Q : Value → Heap → Prop) : fnI P Try.f50 tab_ref15_Out_row [(.pointer o_0), (.slice xs_1_p xs_1_n xs_1_c)] h Q = ref15_Out_row o_0 xs_1_p xs_1_n xs_1_c h Q := by kernel_rfl
theorem ok_ref15_Out_row : fnOk P Try.f50 tab_ref15_Out_row = true := by kernel_rfl
theorem call_ref15_Out_row (o_0 : Option Addr) (xs_1_p : Option Addr) (xs_1_n : Nat) (xs_1_c : Nat) {h : Heap} {Q : Value → Heap → Prop} (H : ref15_Out_row o_0 xs_1_p xs_1_n xs_1_c h Q) : callP P n_ref15_Out_row #[(.pointer o_0), (.slice xs_1_p xs_1_n xs_1_c)] h Q :=
  @callP_of P n_ref15_Out_row Try.f50 tab_ref15_Out_row [(.pointer o_0), (.slice xs_1_p xs_1_n xs_1_c)] h Q mixed Try.func50 Try.call50 ok_ref15_Out_row (Eq.mpr (eq_ref15_Out_row o_0 xs_1_p xs_1_n xs_1_c h Q) H)

/-! ### (*earshot/earshotref15.Out).node: function 28 -/
def ref15_Out_node_l9 (Q : Value → Heap → Prop) (K1 : (Option Addr × Addr × Int × Unit) → Heap → Prop) (K2 : (Option Addr × Addr × Addr × Int × Unit) → Heap → Prop) (o_0 : Option Addr) (n_3 : Addr) (l_5 : Addr) (i_6 : Int) (h22 : Heap) : Prop :=
  ifB (decide (i_6 < (6 : Int))) (
    arrI i_6 6 fun _ =>
    ldInt .i64 h22 (Addr.add l_5 (i_6.toNat * 1)) fun n23 =>
    callUnit P n_ref15_Out_byt #[(.pointer o_0), (.int .i64 n23)] h22 fun h24 =>
    K2 (o_0, n_3, l_5, (IntKind.wrap .i64 (i_6 + (1 : Int))), ()) h24) (
    ldSlice h22 (Addr.add n_3 8) fun p25 l25 c25 =>
    callUnit P n_ref15_Out_row #[(.pointer o_0), (.slice p25 l25 c25)] h22 fun h26 =>
    ldSlice h26 (Addr.add n_3 9) fun p27 l27 c27 =>
    callUnit P n_ref15_Out_row #[(.pointer o_0), (.slice p27 l27 c27)] h26 fun h28 =>
    ldInt .i64 h28 (Addr.add n_3 10) fun n29 =>
    callUnit P n_ref15_Out_put #[(.pointer o_0), (.int .i64 n29), (.int .i64 (2 : Int)), (.int .i64 (0 : Int)), (.int .i64 (65535 : Int))] h28 fun h30 =>
    ldInt .i64 h30 (Addr.add n_3 11) fun n31 =>
    callUnit P n_ref15_Out_byt #[(.pointer o_0), (.int .i64 n31)] h30 fun h32 =>
    ldInt .i64 h32 (Addr.add n_3 12) fun n33 =>
    callUnit P n_ref15_Out_word #[(.pointer o_0), (.int .i64 n33)] h32 fun h34 =>
    ldInt .i64 h34 (Addr.add n_3 13) fun n35 =>
    callUnit P n_ref15_Out_word #[(.pointer o_0), (.int .i64 n35)] h34 fun h36 =>
    ldInt .i64 h36 (Addr.add n_3 14) fun n37 =>
    callUnit P n_ref15_Out_byt #[(.pointer o_0), (.int .i64 n37)] h36 fun h38 =>
    Q (.tuple #[]) h38)
def ref15_Out_node_l4 (Q : Value → Heap → Prop) (K1 : (Option Addr × Addr × Int × Unit) → Heap → Prop) (o_0 : Option Addr) (n_3 : Addr) (i_4 : Int) (h7 : Heap) : Prop :=
  ldSlice h7 (Addr.add n_3 1) fun p8 l8 c8 =>
  ifB (decide (i_4 < ((l8 : Nat) : Int))) (
    ldSlice h7 (Addr.add n_3 1) fun p9 l9 c9 =>
    idxI p9 i_4 l9 fun a10 =>
    ldInt .i64 h7 (Addr.add a10 (i_4.toNat * 1)) fun n11 =>
    callUnit P n_ref15_Out_byt #[(.pointer o_0), (.int .i64 n11)] h7 fun h12 =>
    K1 (o_0, n_3, (IntKind.wrap .i64 (i_4 + (1 : Int))), ()) h12) (
    ldInt .i64 h7 (Addr.add n_3 2) fun n13 =>
    ldInt .i64 h7 (Addr.add n_3 3) fun n14 =>
    ldInt .i64 h7 (Addr.add n_3 4) fun n15 =>
    ldInt .i64 h7 (Addr.add n_3 5) fun n16 =>
    ldInt .i64 h7 (Addr.add n_3 6) fun n17 =>
    ldInt .i64 h7 (Addr.add n_3 7) fun n18 =>
    newI h7 (.cells #[(.int .i64 (0 : Int)), (.int .i64 (0 : Int)), (.int .i64 (0 : Int)), (.int .i64 (0 : Int)), (.int .i64 (0 : Int)), (.int .i64 (0 : Int))] 91 (0, 0)) fun b19 h20 =>
    storeL [(.int .i64 n13), (.int .i64 n14), (.int .i64 n15), (.int .i64 n16), (.int .i64 n17), (.int .i64 n18)] h20 ⟨b19, 0, none⟩ 0 fun h21 =>
    LoopS (S := (Option Addr × Addr × Addr × Int × Unit)) (fun K2 s h => ref15_Out_node_l9 Q K1 K2 s.1 s.2.1 s.2.2.1 s.2.2.2.1 h) (o_0, n_3, ⟨b19, 0, none⟩, (0 : Int), ()) h21)
def ref15_Out_node (o_0 : Option Addr) (n_1 : TS A1) (h : Heap) (Q : Value → Heap → Prop) : Prop :=
  newI h (.cells (mkS' A1 n_1).toArray 30 (0, 0)) fun b1 h2 =>
  ldInt .i64 h2 ⟨b1, 0, none⟩ fun n3 =>
  callUnit P n_ref15_Out_byt #[(.pointer o_0), (.int .i64 n3)] h2 fun h4 =>
  ldSlice h4 ⟨b1, 1, none⟩ fun p5 l5 c5 =>
  callUnit P n_ref15_Out_byt #[(.pointer o_0), (.int .i64 ((l5 : Nat) : Int))] h4 fun h6 =>
  LoopS (S := (Option Addr × Addr × Int × Unit)) (fun K1 s h => ref15_Out_node_l4 Q K1 s.1 s.2.1 s.2.2.1 h) (o_0, ⟨b1, 0, none⟩, (0 : Int), ()) h6
noncomputable def tab_ref15_Out_node : Tab := { sch := lookT .done [], lp := lookT [] [(4, [(0, .sc (.ptr)), (3, .sc (.adr)), (4, .sc (.int .i64))]), (9, [(0, .sc (.ptr)), (3, .sc (.adr)), (5, .sc (.adr)), (6, .sc (.int .i64))])], jn := lookT none [] }
theorem eq_ref15_Out_node (o_0 : Option Addr) (n_1 : TS A1) (h : Heap) (Q : Value → Heap → Prop) : fnI P Try.f28 tab_ref15_Out_node [(.pointer o_0), (agS A1 n_1)] h Q = ref15_Out_node o_0 n_1 h Q := by kernel_rfl
theorem ok_ref15_Out_node : fnOk P Try.f28 tab_ref15_Out_node = true := by kernel_rfl
theorem call_ref15_Out_node (o_0 : Option Addr) (n_1 : TS A1) {h : Heap} {Q : Value → Heap → Prop} (H : ref15_Out_node o_0 n_1 h Q) : callP P n_ref15_Out_node #[(.pointer o_0), (agS A1 n_1)] h Q :=
  @callP_of P n_ref15_Out_node Try.f28 tab_ref15_Out_node [(.pointer o_0), (agS A1 n_1)] h Q mixed Try.func28 Try.call28 ok_ref15_Out_node (Eq.mpr (eq_ref15_Out_node o_0 n_1 h Q) H)

/-! ### earshot/earshotref15.Encode: function 11 -/
def ref15_Encode_l7 (Q : Value → Heap → Prop) (K1 : (Addr × Addr × Int × Unit) → Heap → Prop) (g_1 : Addr) (o_4 : Addr) (i_5 : Int) (h13 : Heap) : Prop :=
  ldSlice h13 (Addr.add g_1 3) fun p14 l14 c14 =>
  ifB (decide (i_5 < ((l14 : Nat) : Int))) (
    ldSlice h13 (Addr.add g_1 3) fun p15 l15 c15 =>
    idxI p15 i_5 l15 fun a16 =>
    ldAg A1 h13 (Addr.add a16 (i_5.toNat * 15)) fun x17 =>
    callUnit P n_ref15_Out_node #[(.pointer (some o_4)), (agS A1 x17)] h13 fun h18 =>
    K1 (g_1, o_4, (IntKind.wrap .i64 (i_5 + (1 : Int))), ()) h18) (
    ldInt .i64 h13 (Addr.add g_1 4) fun n19 =>
    callUnit P n_ref15_Out_byt #[(.pointer (some o_4)), (.int .i64 n19)] h13 fun h20 =>
    nilI (some o_4) fun a21 =>
    ldBool h20 (Addr.add a21 1) fun b22 =>
    ifB b22 (
      Q (.tuple #[(.string (ByteArray.mk #[])), (.int .i64 (22 : Int))]) h20) (
      nilI (some o_4) fun a23 =>
      ldStr h20 a23 fun s24 =>
      Q (.tuple #[(.string s24), (.int .i64 (0 : Int))]) h20))
def ref15_Encode (g_0 : TS A2) (h : Heap) (Q : Value → Heap → Prop) : Prop :=
  newI h (.cells (mkS' A2 g_0).toArray 27 (0, 0)) fun b1 h2 =>
  newI h2 (.cells #[(.string (ByteArray.mk #[69, 65, 82, 49])), (.bool false)] 66 (0, 0)) fun b3 h4 =>
  ldInt .i64 h4 ⟨b1, 0, none⟩ fun n5 =>
  callUnit P n_ref15_Out_byt #[(.pointer (some ⟨b3, 0, none⟩)), (.int .i64 n5)] h4 fun h6 =>
  ldInt .i64 h6 ⟨b1, 1, none⟩ fun n7 =>
  callUnit P n_ref15_Out_word #[(.pointer (some ⟨b3, 0, none⟩)), (.int .i64 n7)] h6 fun h8 =>
  ldInt .i64 h8 ⟨b1, 2, none⟩ fun n9 =>
  callUnit P n_ref15_Out_word #[(.pointer (some ⟨b3, 0, none⟩)), (.int .i64 n9)] h8 fun h10 =>
  ldSlice h10 ⟨b1, 3, none⟩ fun p11 l11 c11 =>
  callUnit P n_ref15_Out_byt #[(.pointer (some ⟨b3, 0, none⟩)), (.int .i64 ((l11 : Nat) : Int))] h10 fun h12 =>
  LoopS (S := (Addr × Addr × Int × Unit)) (fun K1 s h => ref15_Encode_l7 Q K1 s.1 s.2.1 s.2.2.1 h) (⟨b1, 0, none⟩, ⟨b3, 0, none⟩, (0 : Int), ()) h12
noncomputable def tab_ref15_Encode : Tab := { sch := lookT .done [], lp := lookT [] [(7, [(1, .sc (.adr)), (4, .sc (.adr)), (5, .sc (.int .i64))])], jn := lookT none [] }
theorem eq_ref15_Encode (g_0 : TS A2) (h : Heap) (Q : Value → Heap → Prop) : fnI P Try.f11 tab_ref15_Encode [(agS A2 g_0)] h Q = ref15_Encode g_0 h Q := by kernel_rfl
theorem ok_ref15_Encode : fnOk P Try.f11 tab_ref15_Encode = true := by kernel_rfl
theorem call_ref15_Encode (g_0 : TS A2) {h : Heap} {Q : Value → Heap → Prop} (H : ref15_Encode g_0 h Q) : callP P n_ref15_Encode #[(agS A2 g_0)] h Q :=
  @callP_of P n_ref15_Encode Try.f11 tab_ref15_Encode [(agS A2 g_0)] h Q mixed Try.func11 Try.call11 ok_ref15_Encode (Eq.mpr (eq_ref15_Encode g_0 h Q) H)

/-! ### earshot/earshotlaw15.ModelFits: function 3 -/
def law15_ModelFits_j36 (Q : Value → Heap → Prop) (up_7 : Bool) (g_8 : Addr) (i_9 : Int) (n_10 : Addr) (h22 : Heap) : Prop :=
  ldSlice h22 (Addr.add g_8 3) fun p23 l23 c23 =>
  ldAg A1 h22 n_10 fun x24 =>
  idxI p23 i_9 l23 fun a25 =>
  storeL (mkS' A1 x24) h22 (Addr.add a25 (i_9.toNat * 15)) 0 fun h26 =>
  ldAg A2 h26 g_8 fun x27 =>
  callP P n_model_Encode #[(agS A2 x27)] h26 fun v29 h28 =>
  ∃ s30 : ByteArray, ∃ n31 : Int, v29 = (.tuple #[(.string s30), (.int .i64 n31)]) ∧
  ldAg A2 h28 g_8 fun x32 =>
  callP P n_ref15_Encode #[(agS A2 x32)] h28 fun v34 h33 =>
  ∃ s35 : ByteArray, ∃ n36 : Int, v34 = (.tuple #[(.string s35), (.int .i64 n36)]) ∧
  ifB up_7 (
    ifB (s30.toList == s35.toList) (
      ifB (n31 == n36) (
        Q (.bool ((n31 == (0 : Int)) == (!(s30.toList == (ByteArray.mk #[]).toList)))) h33) (
        Q (.bool false) h33)) (
      Q (.bool false) h33)) (
    Q (.bool false) h33)
def law15_ModelFits (l_0_p : Option Addr) (l_0_n : Nat) (l_0_c : Nat) (which_1_0 : Int) (which_1_1 : Int) (x_2 : Int) (h : Heap) (Q : Value → Heap → Prop) : Prop :=
  newI h (.cells #[(.int .i64 which_1_0), (.int .i64 which_1_1)] 23 (0, 0)) fun b1 h2 =>
  callBool P n_law15_awake #[] h2 fun b4 h3 =>
  callP P n_ref15_Made #[(.slice l_0_p l_0_n l_0_c)] h3 fun v6 h5 =>
  exS A2 fun x7 => v6 = (agS A2 x7) ∧
  newI h5 (.cells (mkS' A2 (zT A2)).toArray 27 (0, 0)) fun b8 h9 =>
  storeL (mkS' A2 x7) h9 ⟨b8, 0, none⟩ 0 fun h10 =>
  arrI (0 : Int) 2 fun _ =>
  ldInt .i64 h10 (Addr.add ⟨b1, 0, none⟩ ((0 : Int).toNat * 1)) fun n11 =>
  ldSlice h10 ⟨b8, 3, none⟩ fun p12 l12 c12 =>
  neI ((l12 : Nat) : Int) fun _ =>
  ldSlice h10 ⟨b8, 3, none⟩ fun p13 l13 c13 =>
  ldSlice h10 ⟨b8, 3, none⟩ fun p14 l14 c14 =>
  neI ((l14 : Nat) : Int) fun _ =>
  ldSlice h10 ⟨b8, 3, none⟩ fun p15 l15 c15 =>
  idxI p15 (Int.tmod (IntKind.wrap .i64 ((Int.tmod n11 ((l12 : Nat) : Int)) + ((l13 : Nat) : Int))) ((l14 : Nat) : Int)) l15 fun a16 =>
  ldAg A1 h10 (Addr.add a16 ((Int.tmod (IntKind.wrap .i64 ((Int.tmod n11 ((l12 : Nat) : Int)) + ((l13 : Nat) : Int))) ((l14 : Nat) : Int)).toNat * 15)) fun x17 =>
  newI h10 (.cells (mkS' A1 (zT A1)).toArray 30 (0, 0)) fun b18 h19 =>
  storeL (mkS' A1 x17) h19 ⟨b18, 0, none⟩ 0 fun h20 =>
  ∃ J21 : (Bool × Addr × Int × Addr × Unit) → Heap → Prop, (∀ s h, J21 s h → law15_ModelFits_j36 Q s.1 s.2.1 s.2.2.1 s.2.2.2.1 h) ∧
  arrI (1 : Int) 2 fun _ =>
  ldInt .i64 h20 (Addr.add ⟨b1, 0, none⟩ ((1 : Int).toNat * 1)) fun n37 =>
  ifB ((andI .i64 n37 (15 : Int)) == (0 : Int)) (
    stI h20 ⟨b18, 0, none⟩ (.int .i64 x_2) fun h38 =>
    J21 (b4, ⟨b8, 0, none⟩, (Int.tmod (IntKind.wrap .i64 ((Int.tmod n11 ((l12 : Nat) : Int)) + ((l13 : Nat) : Int))) ((l14 : Nat) : Int)), ⟨b18, 0, none⟩, ()) h38) (
    ifB ((andI .i64 n37 (15 : Int)) == (1 : Int)) (
      stI h20 ⟨b18, 2, none⟩ (.int .i64 x_2) fun h39 =>
      J21 (b4, ⟨b8, 0, none⟩, (Int.tmod (IntKind.wrap .i64 ((Int.tmod n11 ((l12 : Nat) : Int)) + ((l13 : Nat) : Int))) ((l14 : Nat) : Int)), ⟨b18, 0, none⟩, ()) h39) (
      ifB ((andI .i64 n37 (15 : Int)) == (2 : Int)) (
        stI h20 ⟨b18, 3, none⟩ (.int .i64 x_2) fun h40 =>
        J21 (b4, ⟨b8, 0, none⟩, (Int.tmod (IntKind.wrap .i64 ((Int.tmod n11 ((l12 : Nat) : Int)) + ((l13 : Nat) : Int))) ((l14 : Nat) : Int)), ⟨b18, 0, none⟩, ()) h40) (
        ifB ((andI .i64 n37 (15 : Int)) == (3 : Int)) (
          stI h20 ⟨b18, 7, none⟩ (.int .i64 x_2) fun h41 =>
          J21 (b4, ⟨b8, 0, none⟩, (Int.tmod (IntKind.wrap .i64 ((Int.tmod n11 ((l12 : Nat) : Int)) + ((l13 : Nat) : Int))) ((l14 : Nat) : Int)), ⟨b18, 0, none⟩, ()) h41) (
          ifB ((andI .i64 n37 (15 : Int)) == (4 : Int)) (
            stI h20 ⟨b18, 10, none⟩ (.int .i64 x_2) fun h42 =>
            J21 (b4, ⟨b8, 0, none⟩, (Int.tmod (IntKind.wrap .i64 ((Int.tmod n11 ((l12 : Nat) : Int)) + ((l13 : Nat) : Int))) ((l14 : Nat) : Int)), ⟨b18, 0, none⟩, ()) h42) (
            ifB ((andI .i64 n37 (15 : Int)) == (5 : Int)) (
              stI h20 ⟨b18, 11, none⟩ (.int .i64 x_2) fun h43 =>
              J21 (b4, ⟨b8, 0, none⟩, (Int.tmod (IntKind.wrap .i64 ((Int.tmod n11 ((l12 : Nat) : Int)) + ((l13 : Nat) : Int))) ((l14 : Nat) : Int)), ⟨b18, 0, none⟩, ()) h43) (
              ifB ((andI .i64 n37 (15 : Int)) == (6 : Int)) (
                stI h20 ⟨b18, 12, none⟩ (.int .i64 x_2) fun h44 =>
                J21 (b4, ⟨b8, 0, none⟩, (Int.tmod (IntKind.wrap .i64 ((Int.tmod n11 ((l12 : Nat) : Int)) + ((l13 : Nat) : Int))) ((l14 : Nat) : Int)), ⟨b18, 0, none⟩, ()) h44) (
                ifB ((andI .i64 n37 (15 : Int)) == (7 : Int)) (
                  stI h20 ⟨b18, 14, none⟩ (.int .i64 x_2) fun h45 =>
                  J21 (b4, ⟨b8, 0, none⟩, (Int.tmod (IntKind.wrap .i64 ((Int.tmod n11 ((l12 : Nat) : Int)) + ((l13 : Nat) : Int))) ((l14 : Nat) : Int)), ⟨b18, 0, none⟩, ()) h45) (
                  ifB ((andI .i64 n37 (15 : Int)) == (8 : Int)) (
                    newI h20 (.cells #[] 3 (0, 0)) fun b46 h47 =>
                    ldSlice h47 ⟨b18, 1, none⟩ fun p48 l48 c48 =>
                    appI 3 1 8 (.int .i64 (0 : Int)) (some ⟨b46, 0, none⟩) 0 0 p48 l48 h47 fun p49 l49 c49 h50 =>
                    stI h50 ⟨b18, 1, none⟩ (.slice p49 l49 c49) fun h51 =>
                    ldSlice h51 ⟨b18, 1, none⟩ fun p52 l52 c52 =>
                    idxI p52 (0 : Int) l52 fun a53 =>
                    stI h51 (Addr.add a53 ((0 : Int).toNat * 1)) (.int .i64 x_2) fun h54 =>
                    J21 (b4, ⟨b8, 0, none⟩, (Int.tmod (IntKind.wrap .i64 ((Int.tmod n11 ((l12 : Nat) : Int)) + ((l13 : Nat) : Int))) ((l14 : Nat) : Int)), ⟨b18, 0, none⟩, ()) h54) (
                    ifB ((andI .i64 n37 (15 : Int)) == (9 : Int)) (
                      newI h20 (.cells #[] 3 (0, 0)) fun b55 h56 =>
                      ldSlice h56 ⟨b18, 8, none⟩ fun p57 l57 c57 =>
                      appI 3 1 8 (.int .i64 (0 : Int)) (some ⟨b55, 0, none⟩) 0 0 p57 l57 h56 fun p58 l58 c58 h59 =>
                      newI h59 (.cells #[(.int .i64 x_2)] 3 (0, 0)) fun b60 h61 =>
                      appI 3 1 8 (.int .i64 (0 : Int)) p58 l58 c58 (some ⟨b60, 0, none⟩) 1 h61 fun p62 l62 c62 h63 =>
                      stI h63 ⟨b18, 8, none⟩ (.slice p62 l62 c62) fun h64 =>
                      J21 (b4, ⟨b8, 0, none⟩, (Int.tmod (IntKind.wrap .i64 ((Int.tmod n11 ((l12 : Nat) : Int)) + ((l13 : Nat) : Int))) ((l14 : Nat) : Int)), ⟨b18, 0, none⟩, ()) h64) (
                      ifB ((andI .i64 n37 (15 : Int)) == (10 : Int)) (
                        newI h20 (.cells #[(.int .i64 x_2)] 3 (0, 0)) fun b65 h66 =>
                        stI h66 ⟨b18, 9, none⟩ (.slice (some ⟨b65, 0, none⟩) 1 1) fun h67 =>
                        J21 (b4, ⟨b8, 0, none⟩, (Int.tmod (IntKind.wrap .i64 ((Int.tmod n11 ((l12 : Nat) : Int)) + ((l13 : Nat) : Int))) ((l14 : Nat) : Int)), ⟨b18, 0, none⟩, ()) h67) (
                        ifB ((andI .i64 n37 (15 : Int)) == (11 : Int)) (
                          stI h20 ⟨b8, 4, none⟩ (.int .i64 x_2) fun h68 =>
                          J21 (b4, ⟨b8, 0, none⟩, (Int.tmod (IntKind.wrap .i64 ((Int.tmod n11 ((l12 : Nat) : Int)) + ((l13 : Nat) : Int))) ((l14 : Nat) : Int)), ⟨b18, 0, none⟩, ()) h68) (
                          ifB ((andI .i64 n37 (15 : Int)) == (12 : Int)) (
                            stI h20 ⟨b8, 1, none⟩ (.int .i64 x_2) fun h69 =>
                            J21 (b4, ⟨b8, 0, none⟩, (Int.tmod (IntKind.wrap .i64 ((Int.tmod n11 ((l12 : Nat) : Int)) + ((l13 : Nat) : Int))) ((l14 : Nat) : Int)), ⟨b18, 0, none⟩, ()) h69) (
                            ifB ((andI .i64 n37 (15 : Int)) == (13 : Int)) (
                              stI h20 ⟨b8, 0, none⟩ (.int .i64 x_2) fun h70 =>
                              J21 (b4, ⟨b8, 0, none⟩, (Int.tmod (IntKind.wrap .i64 ((Int.tmod n11 ((l12 : Nat) : Int)) + ((l13 : Nat) : Int))) ((l14 : Nat) : Int)), ⟨b18, 0, none⟩, ()) h70) (
                              mkI 3 1 8 (.int .i64 (0 : Int)) (andI .i64 x_2 (511 : Int)) (andI .i64 x_2 (511 : Int)) h20 fun b71 h72 =>
                              stI h72 ⟨b18, 1, none⟩ (.slice (some ⟨b71, 0, none⟩) ((andI .i64 x_2 (511 : Int)).toNat) ((andI .i64 x_2 (511 : Int)).toNat)) fun h73 =>
                              J21 (b4, ⟨b8, 0, none⟩, (Int.tmod (IntKind.wrap .i64 ((Int.tmod n11 ((l12 : Nat) : Int)) + ((l13 : Nat) : Int))) ((l14 : Nat) : Int)), ⟨b18, 0, none⟩, ()) h73))))))))))))))
noncomputable def tab_law15_ModelFits : Tab := { sch := lookT .done [(3, (ones [0, 2, 6, 10, 1, 3, 4, 5, 7, 8, 9, 11, 12, 13, 14] .done))], lp := lookT [] [], jn := lookT none [(36, some [(7, .sc (.bool)), (8, .sc (.adr)), (9, .sc (.int .i64)), (10, .sc (.adr))])] }
theorem eq_law15_ModelFits (l_0_p : Option Addr) (l_0_n : Nat) (l_0_c : Nat) (which_1_0 : Int) (which_1_1 : Int) (x_2 : Int) (h : Heap) (Q : Value → Heap → Prop) : fnI P Try.f3 tab_law15_ModelFits [(.slice l_0_p l_0_n l_0_c), (.agg #[(.int .i64 which_1_0), (.int .i64 which_1_1)]), (.int .i64 x_2)] h Q = law15_ModelFits l_0_p l_0_n l_0_c which_1_0 which_1_1 x_2 h Q := by kernel_rfl
theorem ok_law15_ModelFits : fnOk P Try.f3 tab_law15_ModelFits = true := by kernel_rfl
theorem call_law15_ModelFits (l_0_p : Option Addr) (l_0_n : Nat) (l_0_c : Nat) (which_1_0 : Int) (which_1_1 : Int) (x_2 : Int) {h : Heap} {Q : Value → Heap → Prop} (H : law15_ModelFits l_0_p l_0_n l_0_c which_1_0 which_1_1 x_2 h Q) : callP P n_law15_ModelFits #[(.slice l_0_p l_0_n l_0_c), (.agg #[(.int .i64 which_1_0), (.int .i64 which_1_1)]), (.int .i64 x_2)] h Q :=
  @callP_of P n_law15_ModelFits Try.f3 tab_law15_ModelFits [(.slice l_0_p l_0_n l_0_c), (.agg #[(.int .i64 which_1_0), (.int .i64 which_1_1)]), (.int .i64 x_2)] h Q mixed Try.func3 Try.call3 ok_law15_ModelFits (Eq.mpr (eq_law15_ModelFits l_0_p l_0_n l_0_c which_1_0 which_1_1 x_2 h Q) H)

/-! ### earshot/earshotlaw15.spoilt: function 12 -/
def law15_spoilt (s_0 : ByteArray) (q_1_0 : Int) (q_1_1 : Int) (q_1_2 : Int) (h : Heap) (Q : Value → Heap → Prop) : Prop :=
  newI h (.cells #[(.int .i64 q_1_0), (.int .i64 q_1_1), (.int .i64 q_1_2)] 36 (0, 0)) fun b1 h2 =>
  ifB (((s_0.size : Nat) : Int) == (0 : Int)) (
    Q (.string s_0) h2) (
    ldInt .i64 h2 ⟨b1, 0, none⟩ fun n3 =>
    neI ((s_0.size : Nat) : Int) fun _ =>
    neI ((s_0.size : Nat) : Int) fun _ =>
    ldInt .i64 h2 ⟨b1, 2, none⟩ fun n4 =>
    ifB ((andI .i64 n4 (3 : Int)) == (2 : Int)) (
      bndI (Int.tmod (IntKind.wrap .i64 ((Int.tmod n3 ((s_0.size : Nat) : Int)) + ((s_0.size : Nat) : Int))) ((s_0.size : Nat) : Int)) s_0.size fun l5 =>
      Q (.string (s_0.extract 0 l5)) h2) (
      ldInt .i64 h2 ⟨b1, 2, none⟩ fun n6 =>
      ifB ((andI .i64 n6 (3 : Int)) == (3 : Int)) (
        ldInt .i64 h2 ⟨b1, 1, none⟩ fun n7 =>
        newI h2 (.cells #[(.int .u8 (IntKind.wrap .u8 n7))] 5 (0, 0)) fun b8 h9 =>
        b2sB (some ⟨b8, 0, none⟩) 1 h9 fun s10 =>
        ∃ s11 : ByteArray, Value.string s10 = Value.string s11 ∧
        addStrI s_0 s11 fun _ =>
        Q (.string (s_0 ++ s11)) h9) (
        bndI (Int.tmod (IntKind.wrap .i64 ((Int.tmod n3 ((s_0.size : Nat) : Int)) + ((s_0.size : Nat) : Int))) ((s_0.size : Nat) : Int)) s_0.size fun l12 =>
        bndI (IntKind.wrap .i64 ((Int.tmod (IntKind.wrap .i64 ((Int.tmod n3 ((s_0.size : Nat) : Int)) + ((s_0.size : Nat) : Int))) ((s_0.size : Nat) : Int)) + (1 : Int))) s_0.size fun l13 =>
        ldInt .i64 h2 ⟨b1, 1, none⟩ fun n14 =>
        newI h2 (.cells #[(.int .u8 (IntKind.wrap .u8 n14))] 5 (0, 0)) fun b15 h16 =>
        b2sB (some ⟨b15, 0, none⟩) 1 h16 fun s17 =>
        ∃ s18 : ByteArray, Value.string s17 = Value.string s18 ∧
        addStrI (s_0.extract 0 l12) s18 fun _ =>
        addStrI ((s_0.extract 0 l12) ++ s18) (s_0.extract l13 s_0.size) fun _ =>
        Q (.string (((s_0.extract 0 l12) ++ s18) ++ (s_0.extract l13 s_0.size))) h16)))
noncomputable def tab_law15_spoilt : Tab := { sch := lookT .done [(8, (ones [0, 1, 2, 3, 9, 10, 11, 12] (.alt 4 (ones [5] (.alt 6 (.alt 7 (ones [8, 13, 14] .done) .stop) .stop)) .stop)))], lp := lookT [] [], jn := lookT none [] }
theorem eq_law15_spoilt (s_0 : ByteArray) (q_1_0 : Int) (q_1_1 : Int) (q_1_2 : Int) (h : Heap) (Q : Value → Heap → Prop) : fnI P Try.f12 tab_law15_spoilt [(.string s_0), (.agg #[(.int .i64 q_1_0), (.int .i64 q_1_1), (.int .i64 q_1_2)])] h Q = law15_spoilt s_0 q_1_0 q_1_1 q_1_2 h Q := by kernel_rfl
theorem ok_law15_spoilt : fnOk P Try.f12 tab_law15_spoilt = true := by kernel_rfl
theorem call_law15_spoilt (s_0 : ByteArray) (q_1_0 : Int) (q_1_1 : Int) (q_1_2 : Int) {h : Heap} {Q : Value → Heap → Prop} (H : law15_spoilt s_0 q_1_0 q_1_1 q_1_2 h Q) : callP P n_law15_spoilt #[(.string s_0), (.agg #[(.int .i64 q_1_0), (.int .i64 q_1_1), (.int .i64 q_1_2)])] h Q :=
  @callP_of P n_law15_spoilt Try.f12 tab_law15_spoilt [(.string s_0), (.agg #[(.int .i64 q_1_0), (.int .i64 q_1_1), (.int .i64 q_1_2)])] h Q mixed Try.func12 Try.call12 ok_law15_spoilt (Eq.mpr (eq_law15_spoilt s_0 q_1_0 q_1_1 q_1_2 h Q) H)

/-! ### internal/stringslite.HasPrefix: function 74 -/
def internal_stringslite_HasPrefix (s_0 : ByteArray) (prefix_1 : ByteArray) (h : Heap) (Q : Value → Heap → Prop) : Prop :=
  ifB (decide (((s_0.size : Nat) : Int) ≥ ((prefix_1.size : Nat) : Int))) (
    bndI ((prefix_1.size : Nat) : Int) s_0.size fun l1 =>
    Q (.bool ((s_0.extract 0 l1).toList == prefix_1.toList)) h) (
    Q (.bool false) h)
noncomputable def tab_internal_stringslite_HasPrefix : Tab := { sch := lookT .done [], lp := lookT [] [], jn := lookT none [] }
theorem eq_internal_stringslite_HasPrefix (s_0 : ByteArray) (prefix_1 : ByteArray) (h : Heap) (Q : Value → Heap → Prop) : fnI P Try.f74 tab_internal_stringslite_HasPrefix [(.string s_0), (.string prefix_1)] h Q = internal_stringslite_HasPrefix s_0 prefix_1 h Q := by kernel_rfl
theorem ok_internal_stringslite_HasPrefix : fnOk P Try.f74 tab_internal_stringslite_HasPrefix = true := by kernel_rfl
theorem call_internal_stringslite_HasPrefix (s_0 : ByteArray) (prefix_1 : ByteArray) {h : Heap} {Q : Value → Heap → Prop} (H : internal_stringslite_HasPrefix s_0 prefix_1 h Q) : callP P n_internal_stringslite_HasPrefix #[(.string s_0), (.string prefix_1)] h Q :=
  @callP_of P n_internal_stringslite_HasPrefix Try.f74 tab_internal_stringslite_HasPrefix [(.string s_0), (.string prefix_1)] h Q mixed Try.func74 Try.call74 ok_internal_stringslite_HasPrefix (Eq.mpr (eq_internal_stringslite_HasPrefix s_0 prefix_1 h Q) H)

/-! ### internal/stringslite.CutPrefix: function 56 -/
def internal_stringslite_CutPrefix (s_0 : ByteArray) (prefix_1 : ByteArray) (h : Heap) (Q : Value → Heap → Prop) : Prop :=
  callBool P n_internal_stringslite_HasPrefix #[(.string s_0), (.string prefix_1)] h fun b2 h1 =>
  ifB (!b2) (
    Q (.tuple #[(.string s_0), (.bool false)]) h1) (
    bndI ((prefix_1.size : Nat) : Int) s_0.size fun l3 =>
    Q (.tuple #[(.string (s_0.extract l3 s_0.size)), (.bool true)]) h1)
noncomputable def tab_internal_stringslite_CutPrefix : Tab := { sch := lookT .done [], lp := lookT [] [], jn := lookT none [] }
theorem eq_internal_stringslite_CutPrefix (s_0 : ByteArray) (prefix_1 : ByteArray) (h : Heap) (Q : Value → Heap → Prop) : fnI P Try.f56 tab_internal_stringslite_CutPrefix [(.string s_0), (.string prefix_1)] h Q = internal_stringslite_CutPrefix s_0 prefix_1 h Q := by kernel_rfl
theorem ok_internal_stringslite_CutPrefix : fnOk P Try.f56 tab_internal_stringslite_CutPrefix = true := by kernel_rfl
theorem call_internal_stringslite_CutPrefix (s_0 : ByteArray) (prefix_1 : ByteArray) {h : Heap} {Q : Value → Heap → Prop} (H : internal_stringslite_CutPrefix s_0 prefix_1 h Q) : callP P n_internal_stringslite_CutPrefix #[(.string s_0), (.string prefix_1)] h Q :=
  @callP_of P n_internal_stringslite_CutPrefix Try.f56 tab_internal_stringslite_CutPrefix [(.string s_0), (.string prefix_1)] h Q mixed Try.func56 Try.call56 ok_internal_stringslite_CutPrefix (Eq.mpr (eq_internal_stringslite_CutPrefix s_0 prefix_1 h Q) H)

/-! ### strings.CutPrefix: function 30 -/
def strings_CutPrefix (s_0 : ByteArray) (prefix_1 : ByteArray) (h : Heap) (Q : Value → Heap → Prop) : Prop :=
  callP P n_internal_stringslite_CutPrefix #[(.string s_0), (.string prefix_1)] h fun v2 h1 =>
  ∃ s3 : ByteArray, ∃ b4 : Bool, v2 = (.tuple #[(.string s3), (.bool b4)]) ∧
  Q (.tuple #[(.string s3), (.bool b4)]) h1
noncomputable def tab_strings_CutPrefix : Tab := { sch := lookT .done [], lp := lookT [] [], jn := lookT none [] }
theorem eq_strings_CutPrefix (s_0 : ByteArray) (prefix_1 : ByteArray) (h : Heap) (Q : Value → Heap → Prop) : fnI P Try.f30 tab_strings_CutPrefix [(.string s_0), (.string prefix_1)] h Q = strings_CutPrefix s_0 prefix_1 h Q := by kernel_rfl
theorem ok_strings_CutPrefix : fnOk P Try.f30 tab_strings_CutPrefix = true := by kernel_rfl
theorem call_strings_CutPrefix (s_0 : ByteArray) (prefix_1 : ByteArray) {h : Heap} {Q : Value → Heap → Prop} (H : strings_CutPrefix s_0 prefix_1 h Q) : callP P n_strings_CutPrefix #[(.string s_0), (.string prefix_1)] h Q :=
  @callP_of P n_strings_CutPrefix Try.f30 tab_strings_CutPrefix [(.string s_0), (.string prefix_1)] h Q mixed Try.func30 Try.call30 ok_strings_CutPrefix (Eq.mpr (eq_strings_CutPrefix s_0 prefix_1 h Q) H)

/-! ### earshot/tape.Read: function 31 -/
def tape_Read (s_0 : ByteArray) (h : Heap) (Q : Value → Heap → Prop) : Prop :=
  newI h (.cells #[(.int .i64 (0 : Int)), (.string s_0), (.int .i64 (0 : Int))] 101 (0, 0)) fun b1 h2 =>
  Q (.pointer (some ⟨b1, 0, none⟩)) h2
noncomputable def tab_tape_Read : Tab := { sch := lookT .done [], lp := lookT [] [], jn := lookT none [] }
theorem eq_tape_Read (s_0 : ByteArray) (h : Heap) (Q : Value → Heap → Prop) : fnI P Try.f31 tab_tape_Read [(.string s_0)] h Q = tape_Read s_0 h Q := by kernel_rfl
theorem ok_tape_Read : fnOk P Try.f31 tab_tape_Read = true := by kernel_rfl
theorem call_tape_Read (s_0 : ByteArray) {h : Heap} {Q : Value → Heap → Prop} (H : tape_Read s_0 h Q) : callP P n_tape_Read #[(.string s_0)] h Q :=
  @callP_of P n_tape_Read Try.f31 tab_tape_Read [(.string s_0)] h Q mixed Try.func31 Try.call31 ok_tape_Read (Eq.mpr (eq_tape_Read s_0 h Q) H)

/-! ### (*earshot/tape.place).told: function 60 -/
def tape_place_told (p_0 : Option Addr) (h : Heap) (Q : Value → Heap → Prop) : Prop :=
  nilI p_0 fun a1 =>
  ldInt .i64 h a1 fun n2 =>
  Q (.int .i64 n2) h
noncomputable def tab_tape_place_told : Tab := { sch := lookT .done [], lp := lookT [] [], jn := lookT none [] }
theorem eq_tape_place_told (p_0 : Option Addr) (h : Heap) (Q : Value → Heap → Prop) : fnI P Try.f60 tab_tape_place_told [(.pointer p_0)] h Q = tape_place_told p_0 h Q := by kernel_rfl
theorem ok_tape_place_told : fnOk P Try.f60 tab_tape_place_told = true := by kernel_rfl
theorem call_tape_place_told (p_0 : Option Addr) {h : Heap} {Q : Value → Heap → Prop} (H : tape_place_told p_0 h Q) : callP P n_tape_place_told #[(.pointer p_0)] h Q :=
  @callP_of P n_tape_place_told Try.f60 tab_tape_place_told [(.pointer p_0)] h Q mixed Try.func60 Try.call60 ok_tape_place_told (Eq.mpr (eq_tape_place_told p_0 h Q) H)

/-! ### (*earshot/tape.Reader).Left: function 37 -/
def tape_Reader_Left (r_0 : Option Addr) (h : Heap) (Q : Value → Heap → Prop) : Prop :=
  ifB ((r_0).isNone) (
    Q (.int .i64 (0 : Int)) h) (
    nilI r_0 fun a1 =>
    nilI r_0 fun a2 =>
    ldStr h (Addr.add a1 1) fun s3 =>
    callInt P .i64 n_tape_place_told #[(.pointer (some a2))] h fun n5 h4 =>
    cellH h4 (Addr.add a1 1) = some (.string s3) ∧
    Q (.int .i64 (IntKind.wrap .i64 (((s3.size : Nat) : Int) - n5))) h4)
noncomputable def tab_tape_Reader_Left : Tab := { sch := lookT .done [(3, (ones [0, 1, 2, 5, 6, 7] (.early 3 (ones [4] (.alt 8 (ones [9, 10] .done) .stop)))))], lp := lookT [] [], jn := lookT none [] }
theorem eq_tape_Reader_Left (r_0 : Option Addr) (h : Heap) (Q : Value → Heap → Prop) : fnI P Try.f37 tab_tape_Reader_Left [(.pointer r_0)] h Q = tape_Reader_Left r_0 h Q := by kernel_rfl
theorem ok_tape_Reader_Left : fnOk P Try.f37 tab_tape_Reader_Left = true := by kernel_rfl
theorem call_tape_Reader_Left (r_0 : Option Addr) {h : Heap} {Q : Value → Heap → Prop} (H : tape_Reader_Left r_0 h Q) : callP P n_tape_Reader_Left #[(.pointer r_0)] h Q :=
  @callP_of P n_tape_Reader_Left Try.f37 tab_tape_Reader_Left [(.pointer r_0)] h Q mixed Try.func37 Try.call37 ok_tape_Reader_Left (Eq.mpr (eq_tape_Reader_Left r_0 h Q) H)

/-! ### (*earshot/tape.Reader).get: function 57 -/
def tape_Reader_get_l8 (Q : Value → Heap → Prop) (K1 : (Option Addr × Int × Int × Int × Int × Unit) → Heap → Prop) (r_0 : Option Addr) (n_1 : Int) (x_5 : Int) (t23 : Int) (t24 : Int) (h7 : Heap) : Prop :=
  ifB (decide (t24 < t23)) (
    nilI r_0 fun a8 =>
    nilI r_0 fun a9 =>
    ldStr h7 (Addr.add a8 1) fun s10 =>
    callInt P .i64 n_tape_place_told #[(.pointer (some a9))] h7 fun n12 h11 =>
    cellH h11 (Addr.add a8 1) = some (.string s10) ∧
    strI s10 (IntKind.wrap .i64 (n12 + t24)) fun b13 =>
    nonnegI (IntKind.wrap .i64 ((8 : Int) * t24)) fun _ =>
    K1 (r_0, n_1, (orI .u64 x_5 (shlI .u64 (IntKind.wrap .u64 (b13.toNat : Int)) (min (IntKind.wrap .i64 ((8 : Int) * t24)).toNat 64))), t23, (IntKind.wrap .i64 (t24 + (1 : Int))), ()) h11) (
    nilI r_0 fun a14 =>
    callUnit P n_tape_place_moved #[(.pointer (some a14)), (.int .i64 n_1)] h7 fun h15 =>
    Q (.int .u64 x_5) h15)
def tape_Reader_get_j3 (Q : Value → Heap → Prop) (r_0 : Option Addr) (n_1 : Int) (h2 : Heap) : Prop :=
  callInt P .i64 n_tape_Reader_Left #[(.pointer r_0)] h2 fun n4 h3 =>
  ifB (decide (n4 < n_1)) (
    nilI r_0 fun a5 =>
    stI h3 (Addr.add a5 2) (.int .i64 (11 : Int)) fun h6 =>
    Q (.int .u64 (0 : Int)) h6) (
    LoopS (S := (Option Addr × Int × Int × Int × Int × Unit)) (fun K1 s h => tape_Reader_get_l8 Q K1 s.1 s.2.1 s.2.2.1 s.2.2.2.1 s.2.2.2.2.1 h) (r_0, n_1, (0 : Int), n_1, (0 : Int), ()) h3)
def tape_Reader_get (r_0 : Option Addr) (n_1 : Int) (h : Heap) (Q : Value → Heap → Prop) : Prop :=
  ∃ J1 : (Option Addr × Int × Unit) → Heap → Prop, (∀ s h, J1 s h → tape_Reader_get_j3 Q s.1 s.2.1 h) ∧
  ifB ((r_0).isNone) (
    Q (.int .u64 (0 : Int)) h) (
    nilI r_0 fun a16 =>
    ldInt .i64 h (Addr.add a16 2) fun n17 =>
    ifB (n17 != (0 : Int)) (
      Q (.int .u64 (0 : Int)) h) (
      J1 (r_0, n_1, ()) h))
noncomputable def tab_tape_Reader_get : Tab := { sch := lookT .done [(10, (ones [0, 1, 2, 3, 5, 6, 7, 9, 13, 14] (.early 4 (.alt 8 (ones [10, 11, 12, 15, 16, 17] .done) .stop))))], lp := lookT [] [(8, [(0, .sc (.ptr)), (1, .sc (.int .i64)), (5, .sc (.int .u64)), (23, .sc (.int .i64)), (24, .sc (.int .i64))])], jn := lookT none [(3, some [(0, .sc (.ptr)), (1, .sc (.int .i64))])] }
theorem eq_tape_Reader_get (r_0 : Option Addr) (n_1 : Int) (h : Heap) (Q : Value → Heap → Prop) : fnI P Try.f57 tab_tape_Reader_get [(.pointer r_0), (.int .i64 n_1)] h Q = tape_Reader_get r_0 n_1 h Q := by kernel_rfl
theorem ok_tape_Reader_get : fnOk P Try.f57 tab_tape_Reader_get = true := by kernel_rfl
theorem call_tape_Reader_get (r_0 : Option Addr) (n_1 : Int) {h : Heap} {Q : Value → Heap → Prop} (H : tape_Reader_get r_0 n_1 h Q) : callP P n_tape_Reader_get #[(.pointer r_0), (.int .i64 n_1)] h Q :=
  @callP_of P n_tape_Reader_get Try.f57 tab_tape_Reader_get [(.pointer r_0), (.int .i64 n_1)] h Q mixed Try.func57 Try.call57 ok_tape_Reader_get (Eq.mpr (eq_tape_Reader_get r_0 n_1 h Q) H)

/-! ### (*earshot/tape.Reader).Byte: function 34 -/
def tape_Reader_Byte (r_0 : Option Addr) (h : Heap) (Q : Value → Heap → Prop) : Prop :=
  callInt P .u64 n_tape_Reader_get #[(.pointer r_0), (.int .i64 (1 : Int))] h fun n2 h1 =>
  Q (.int .i64 (IntKind.wrap .i64 n2)) h1
noncomputable def tab_tape_Reader_Byte : Tab := { sch := lookT .done [], lp := lookT [] [], jn := lookT none [] }
theorem eq_tape_Reader_Byte (r_0 : Option Addr) (h : Heap) (Q : Value → Heap → Prop) : fnI P Try.f34 tab_tape_Reader_Byte [(.pointer r_0)] h Q = tape_Reader_Byte r_0 h Q := by kernel_rfl
theorem ok_tape_Reader_Byte : fnOk P Try.f34 tab_tape_Reader_Byte = true := by kernel_rfl
theorem call_tape_Reader_Byte (r_0 : Option Addr) {h : Heap} {Q : Value → Heap → Prop} (H : tape_Reader_Byte r_0 h Q) : callP P n_tape_Reader_Byte #[(.pointer r_0)] h Q :=
  @callP_of P n_tape_Reader_Byte Try.f34 tab_tape_Reader_Byte [(.pointer r_0)] h Q mixed Try.func34 Try.call34 ok_tape_Reader_Byte (Eq.mpr (eq_tape_Reader_Byte r_0 h Q) H)

/-! ### (earshot/model.reader).small: function 32 -/
def model_reader_small_l2 (Q : Value → Heap → Prop) (K1 : (Addr × (Option Addr × Nat × Nat) × Int × Int × Unit) → Heap → Prop) (r_2 : Addr) (t6_p : Option Addr) (t6_n : Nat) (t6_c : Nat) (t7 : Int) (t8 : Int) (h3 : Heap) : Prop :=
  ifB (decide (t8 < t7)) (
    idxI t6_p t8 t6_n fun a4 =>
    ldPtr h3 (Addr.add a4 (t8.toNat * 1)) fun p5 =>
    ldPtr h3 r_2 fun p6 =>
    callInt P .i64 n_tape_Reader_Byte #[(.pointer p6)] h3 fun n8 h7 =>
    nilI p5 fun a9 =>
    stI h7 a9 (.int .i64 n8) fun h10 =>
    K1 (r_2, (t6_p, t6_n, t6_c), t7, (IntKind.wrap .i64 (t8 + (1 : Int))), ()) h10) (
    Q (.tuple #[]) h3)
def model_reader_small (r_0_0 : Option Addr) (xs_1_p : Option Addr) (xs_1_n : Nat) (xs_1_c : Nat) (h : Heap) (Q : Value → Heap → Prop) : Prop :=
  newI h (.cells #[(.pointer r_0_0)] 73 (0, 0)) fun b1 h2 =>
  LoopS (S := (Addr × (Option Addr × Nat × Nat) × Int × Int × Unit)) (fun K1 s h => model_reader_small_l2 Q K1 s.1 s.2.1.1 s.2.1.2.1 s.2.1.2.2 s.2.2.1 s.2.2.2.1 h) (⟨b1, 0, none⟩, (xs_1_p, xs_1_n, xs_1_c), ((xs_1_n : Nat) : Int), (0 : Int), ()) h2
noncomputable def tab_model_reader_small : Tab := { sch := lookT .done [], lp := lookT [] [(2, [(2, .sc (.adr)), (6, .sc (.slice)), (7, .sc (.int .i64)), (8, .sc (.int .i64))])], jn := lookT none [] }
theorem eq_model_reader_small (r_0_0 : Option Addr) (xs_1_p : Option Addr) (xs_1_n : Nat) (xs_1_c : Nat) (h : Heap) (Q : Value → Heap → Prop) : fnI P Try.f32 tab_model_reader_small [(.agg #[(.pointer r_0_0)]), (.slice xs_1_p xs_1_n xs_1_c)] h Q = model_reader_small r_0_0 xs_1_p xs_1_n xs_1_c h Q := by kernel_rfl
theorem ok_model_reader_small : fnOk P Try.f32 tab_model_reader_small = true := by kernel_rfl
theorem call_model_reader_small (r_0_0 : Option Addr) (xs_1_p : Option Addr) (xs_1_n : Nat) (xs_1_c : Nat) {h : Heap} {Q : Value → Heap → Prop} (H : model_reader_small r_0_0 xs_1_p xs_1_n xs_1_c h Q) : callP P n_model_reader_small #[(.agg #[(.pointer r_0_0)]), (.slice xs_1_p xs_1_n xs_1_c)] h Q :=
  @callP_of P n_model_reader_small Try.f32 tab_model_reader_small [(.agg #[(.pointer r_0_0)]), (.slice xs_1_p xs_1_n xs_1_c)] h Q mixed Try.func32 Try.call32 ok_model_reader_small (Eq.mpr (eq_model_reader_small r_0_0 xs_1_p xs_1_n xs_1_c h Q) H)

/-! ### (*earshot/tape.Reader).Word: function 33 -/
def tape_Reader_Word (r_0 : Option Addr) (h : Heap) (Q : Value → Heap → Prop) : Prop :=
  callInt P .u64 n_tape_Reader_get #[(.pointer r_0), (.int .i64 (4 : Int))] h fun n2 h1 =>
  Q (.int .i64 (IntKind.wrap .i64 (IntKind.wrap .i32 n2))) h1
noncomputable def tab_tape_Reader_Word : Tab := { sch := lookT .done [], lp := lookT [] [], jn := lookT none [] }
theorem eq_tape_Reader_Word (r_0 : Option Addr) (h : Heap) (Q : Value → Heap → Prop) : fnI P Try.f33 tab_tape_Reader_Word [(.pointer r_0)] h Q = tape_Reader_Word r_0 h Q := by kernel_rfl
theorem ok_tape_Reader_Word : fnOk P Try.f33 tab_tape_Reader_Word = true := by kernel_rfl
theorem call_tape_Reader_Word (r_0 : Option Addr) {h : Heap} {Q : Value → Heap → Prop} (H : tape_Reader_Word r_0 h Q) : callP P n_tape_Reader_Word #[(.pointer r_0)] h Q :=
  @callP_of P n_tape_Reader_Word Try.f33 tab_tape_Reader_Word [(.pointer r_0)] h Q mixed Try.func33 Try.call33 ok_tape_Reader_Word (Eq.mpr (eq_tape_Reader_Word r_0 h Q) H)

/-! ### (*earshot/tape.Reader).Short: function 59 -/
def tape_Reader_Short (r_0 : Option Addr) (h : Heap) (Q : Value → Heap → Prop) : Prop :=
  callInt P .u64 n_tape_Reader_get #[(.pointer r_0), (.int .i64 (2 : Int))] h fun n2 h1 =>
  Q (.int .i64 (IntKind.wrap .i64 n2)) h1
noncomputable def tab_tape_Reader_Short : Tab := { sch := lookT .done [], lp := lookT [] [], jn := lookT none [] }
theorem eq_tape_Reader_Short (r_0 : Option Addr) (h : Heap) (Q : Value → Heap → Prop) : fnI P Try.f59 tab_tape_Reader_Short [(.pointer r_0)] h Q = tape_Reader_Short r_0 h Q := by kernel_rfl
theorem ok_tape_Reader_Short : fnOk P Try.f59 tab_tape_Reader_Short = true := by kernel_rfl
theorem call_tape_Reader_Short (r_0 : Option Addr) {h : Heap} {Q : Value → Heap → Prop} (H : tape_Reader_Short r_0 h Q) : callP P n_tape_Reader_Short #[(.pointer r_0)] h Q :=
  @callP_of P n_tape_Reader_Short Try.f59 tab_tape_Reader_Short [(.pointer r_0)] h Q mixed Try.func59 Try.call59 ok_tape_Reader_Short (Eq.mpr (eq_tape_Reader_Short r_0 h Q) H)

/-! ### (*earshot/tape.Reader).Err: function 36 -/
def tape_Reader_Err (r_0 : Option Addr) (h : Heap) (Q : Value → Heap → Prop) : Prop :=
  ifB ((r_0).isNone) (
    Q (.int .i64 (1 : Int)) h) (
    nilI r_0 fun a1 =>
    ldInt .i64 h (Addr.add a1 2) fun n2 =>
    Q (.int .i64 n2) h)
noncomputable def tab_tape_Reader_Err : Tab := { sch := lookT .done [], lp := lookT [] [], jn := lookT none [] }
theorem eq_tape_Reader_Err (r_0 : Option Addr) (h : Heap) (Q : Value → Heap → Prop) : fnI P Try.f36 tab_tape_Reader_Err [(.pointer r_0)] h Q = tape_Reader_Err r_0 h Q := by kernel_rfl
theorem ok_tape_Reader_Err : fnOk P Try.f36 tab_tape_Reader_Err = true := by kernel_rfl
theorem call_tape_Reader_Err (r_0 : Option Addr) {h : Heap} {Q : Value → Heap → Prop} (H : tape_Reader_Err r_0 h Q) : callP P n_tape_Reader_Err #[(.pointer r_0)] h Q :=
  @callP_of P n_tape_Reader_Err Try.f36 tab_tape_Reader_Err [(.pointer r_0)] h Q mixed Try.func36 Try.call36 ok_tape_Reader_Err (Eq.mpr (eq_tape_Reader_Err r_0 h Q) H)

/-! ### (*earshot/tape.Reader).Row: function 58 -/
def tape_Reader_Row_l3 (Q : Value → Heap → Prop) (K1 : Y2 → Heap → Prop) (r_0 : Option Addr) (out_3_p : Option Addr) (out_3_n : Nat) (out_3_c : Nat) (t6 : Int) (t7 : Int) (h3 : Heap) : Prop :=
  ifB (decide (t7 < t6)) (
    callInt P .i64 n_tape_Reader_Word #[(.pointer r_0)] h3 fun n5 h4 =>
    callInt P .i64 n_tape_Reader_Err #[(.pointer r_0)] h4 fun n7 h6 =>
    ifB (n7 != (0 : Int)) (
      Q (.slice none 0 0) h6) (
      newI h6 (.cells #[(.int .i64 n5)] 3 (0, 0)) fun b8 h9 =>
      appI 3 1 8 (.int .i64 (0 : Int)) out_3_p out_3_n out_3_c (some ⟨b8, 0, none⟩) 1 h9 fun p10 l10 c10 h11 =>
      K1 (r_0, (p10, l10, c10), t6, (IntKind.wrap .i64 (t7 + (1 : Int))), ()) h11)) (
    Q (.slice out_3_p out_3_n out_3_c) h3)
def tape_Reader_Row (r_0 : Option Addr) (h : Heap) (Q : Value → Heap → Prop) : Prop :=
  callInt P .i64 n_tape_Reader_Short #[(.pointer r_0)] h fun n2 h1 =>
  LoopS (S := Y2) (fun K1 s h => tape_Reader_Row_l3 Q K1 s.1 s.2.1.1 s.2.1.2.1 s.2.1.2.2 s.2.2.1 s.2.2.2.1 h) (r_0, (none, 0, 0), n2, (0 : Int), ()) h1
noncomputable def tab_tape_Reader_Row : Tab := { sch := lookT .done [], lp := lookT [] [(3, [(0, .sc (.ptr)), (3, .sc (.slice)), (6, .sc (.int .i64)), (7, .sc (.int .i64))])], jn := lookT none [] }
theorem eq_tape_Reader_Row (r_0 : Option Addr) (h : Heap) (Q : Value → Heap → Prop) : fnI P Try.f58 tab_tape_Reader_Row [(.pointer r_0)] h Q = tape_Reader_Row r_0 h Q := by kernel_rfl
theorem ok_tape_Reader_Row : fnOk P Try.f58 tab_tape_Reader_Row = true := by kernel_rfl
theorem call_tape_Reader_Row (r_0 : Option Addr) {h : Heap} {Q : Value → Heap → Prop} (H : tape_Reader_Row r_0 h Q) : callP P n_tape_Reader_Row #[(.pointer r_0)] h Q :=
  @callP_of P n_tape_Reader_Row Try.f58 tab_tape_Reader_Row [(.pointer r_0)] h Q mixed Try.func58 Try.call58 ok_tape_Reader_Row (Eq.mpr (eq_tape_Reader_Row r_0 h Q) H)

/-! ### (earshot/model.reader).node: function 35 -/
def model_reader_node_l5 (Q : Value → Heap → Prop) (K1 : (Addr × Addr × Addr × Int × Int × Unit) → Heap → Prop) (r_1 : Addr) (t2 : Addr) (n_3 : Addr) (t9 : Int) (t10 : Int) (h15 : Heap) : Prop :=
  ifB (decide (t10 < t9)) (
    ldSlice h15 (Addr.add n_3 1) fun p16 l16 c16 =>
    ldPtr h15 r_1 fun p17 =>
    callInt P .i64 n_tape_Reader_Byte #[(.pointer p17)] h15 fun n19 h18 =>
    cellH h18 (Addr.add n_3 1) = some (.slice p16 l16 c16) ∧
    newI h18 (.cells #[(.int .i64 n19)] 3 (0, 0)) fun b20 h21 =>
    appI 3 1 8 (.int .i64 (0 : Int)) p16 l16 c16 (some ⟨b20, 0, none⟩) 1 h21 fun p22 l22 c22 h23 =>
    stI h23 (Addr.add n_3 1) (.slice p22 l22 c22) fun h24 =>
    K1 (r_1, t2, n_3, t9, (IntKind.wrap .i64 (t10 + (1 : Int))), ()) h24) (
    ldPtr h15 r_1 fun p25 =>
    newI h15 (.cells #[(.pointer (some (Addr.add n_3 2))), (.pointer (some (Addr.add n_3 3))), (.pointer (some (Addr.add n_3 4))), (.pointer (some (Addr.add n_3 5))), (.pointer (some (Addr.add n_3 6))), (.pointer (some (Addr.add n_3 7)))] 75 (0, 0)) fun b26 h27 =>
    callUnit P n_model_reader_small #[(.agg #[(.pointer p25)]), (.slice (some ⟨b26, 0, none⟩) 6 6)] h27 fun h28 =>
    ldPtr h28 r_1 fun p29 =>
    ldPtr h28 r_1 fun p30 =>
    callSlice P n_tape_Reader_Row #[(.pointer p29)] h28 fun p32 l32 c32 h31 =>
    cellH h31 r_1 = some (.pointer p30) ∧
    callSlice P n_tape_Reader_Row #[(.pointer p30)] h31 fun p34 l34 c34 h33 =>
    cellH h33 r_1 = some (.pointer p29) ∧
    stI h33 (Addr.add n_3 8) (.slice p32 l32 c32) fun h35 =>
    cellH h35 r_1 = some (.pointer p30) ∧
    stI h35 (Addr.add n_3 9) (.slice p34 l34 c34) fun h36 =>
    ldPtr h36 r_1 fun p37 =>
    callInt P .i64 n_tape_Reader_Short #[(.pointer p37)] h36 fun n39 h38 =>
    stI h38 (Addr.add n_3 10) (.int .i64 n39) fun h40 =>
    ldPtr h40 r_1 fun p41 =>
    newI h40 (.cells #[(.pointer (some (Addr.add n_3 11)))] 75 (0, 0)) fun b42 h43 =>
    callUnit P n_model_reader_small #[(.agg #[(.pointer p41)]), (.slice (some ⟨b42, 0, none⟩) 1 1)] h43 fun h44 =>
    ldPtr h44 r_1 fun p45 =>
    ldPtr h44 r_1 fun p46 =>
    callInt P .i64 n_tape_Reader_Word #[(.pointer p45)] h44 fun n48 h47 =>
    cellH h47 r_1 = some (.pointer p46) ∧
    callInt P .i64 n_tape_Reader_Word #[(.pointer p46)] h47 fun n50 h49 =>
    cellH h49 r_1 = some (.pointer p45) ∧
    stI h49 (Addr.add n_3 12) (.int .i64 n48) fun h51 =>
    cellH h51 r_1 = some (.pointer p46) ∧
    stI h51 (Addr.add n_3 13) (.int .i64 n50) fun h52 =>
    ldPtr h52 r_1 fun p53 =>
    newI h52 (.cells #[(.pointer (some (Addr.add n_3 14)))] 75 (0, 0)) fun b54 h55 =>
    callUnit P n_model_reader_small #[(.agg #[(.pointer p53)]), (.slice (some ⟨b54, 0, none⟩) 1 1)] h55 fun h56 =>
    ldAg A1 h56 n_3 fun x57 =>
    storeL (mkS' A1 x57) h56 t2 0 fun h58 =>
    ldAg A1 h58 t2 fun x59 =>
    Q (agS A1 x59) h58)
def model_reader_node (r_0_0 : Option Addr) (h : Heap) (Q : Value → Heap → Prop) : Prop :=
  newI h (.cells #[(.pointer r_0_0)] 73 (0, 0)) fun b1 h2 =>
  newI h2 (.cells (mkS' A1 (zT A1)).toArray 30 (0, 0)) fun b3 h4 =>
  newI h4 (.cells (mkS' A1 (zT A1)).toArray 30 (0, 0)) fun b5 h6 =>
  newI h6 (.cells #[(.int .i64 (0 : Int))] 3 (0, 0)) fun b7 h8 =>
  stI h8 ⟨b7, 0, none⟩ (.int .i64 (0 : Int)) fun h9 =>
  ldPtr h9 ⟨b1, 0, none⟩ fun p10 =>
  newI h9 (.cells #[(.pointer (some ⟨b5, 0, none⟩)), (.pointer (some ⟨b7, 0, none⟩))] 75 (0, 0)) fun b11 h12 =>
  callUnit P n_model_reader_small #[(.agg #[(.pointer p10)]), (.slice (some ⟨b11, 0, none⟩) 2 2)] h12 fun h13 =>
  ldInt .i64 h13 ⟨b7, 0, none⟩ fun n14 =>
  LoopS (S := (Addr × Addr × Addr × Int × Int × Unit)) (fun K1 s h => model_reader_node_l5 Q K1 s.1 s.2.1 s.2.2.1 s.2.2.2.1 s.2.2.2.2.1 h) (⟨b1, 0, none⟩, ⟨b3, 0, none⟩, ⟨b5, 0, none⟩, n14, (0 : Int), ()) h13
noncomputable def tab_model_reader_node : Tab := { sch := lookT .done [(6, (ones [0, 2] (.early 1 (.alt 3 (.alt 4 (.alt 5 (.alt 6 (ones [7] (.alt 8 .done .stop)) .stop) .stop) .stop) .stop)))), (9, (ones [0, 3] (.early 1 (.early 4 (.alt 2 (.alt 5 (ones [6] (.alt 7 (ones [8] (.alt 9 .done .stop)) .stop)) .stop) .stop))))), (12, (ones [0, 3] (.early 1 (.early 4 (.alt 2 (.alt 5 (ones [6] (.alt 7 (ones [8] (.alt 9 .done .stop)) .stop)) .stop) .stop)))))], lp := lookT [] [(5, [(1, .sc (.adr)), (2, .sc (.adr)), (3, .sc (.adr)), (9, .sc (.int .i64)), (10, .sc (.int .i64))])], jn := lookT none [] }
theorem eq_model_reader_node (r_0_0 : Option Addr) (h : Heap) (Q : Value → Heap → Prop) : fnI P Try.f35 tab_model_reader_node [(.agg #[(.pointer r_0_0)])] h Q = model_reader_node r_0_0 h Q := by kernel_rfl
theorem ok_model_reader_node : fnOk P Try.f35 tab_model_reader_node = true := by kernel_rfl
theorem call_model_reader_node (r_0_0 : Option Addr) {h : Heap} {Q : Value → Heap → Prop} (H : model_reader_node r_0_0 h Q) : callP P n_model_reader_node #[(.agg #[(.pointer r_0_0)])] h Q :=
  @callP_of P n_model_reader_node Try.f35 tab_model_reader_node [(.agg #[(.pointer r_0_0)])] h Q mixed Try.func35 Try.call35 ok_model_reader_node (Eq.mpr (eq_model_reader_node r_0_0 h Q) H)

/-! ### earshot/model.Decode: function 14 -/
def model_Decode_l9 (Q : Value → Heap → Prop) (K1 : (Addr × Addr × Addr × Int × Int × Unit) → Heap → Prop) (t2 : Addr) (r_6 : Addr) (g_7 : Addr) (t33 : Int) (t34 : Int) (h31 : Heap) : Prop :=
  ifB (decide (t34 < t33)) (
    ldSlice h31 (Addr.add g_7 3) fun p32 l32 c32 =>
    ldPtr h31 r_6 fun p33 =>
    callP P n_model_reader_node #[(.agg #[(.pointer p33)])] h31 fun v35 h34 =>
    exS A1 fun x36 => v35 = (agS A1 x36) ∧
    cellH h34 (Addr.add g_7 3) = some (.slice p32 l32 c32) ∧
    newI h34 (.cells (mkS' A1 x36).toArray 30 (0, 0)) fun b37 h38 =>
    appI 30 15 168 (agS A1 (zT A1)) p32 l32 c32 (some ⟨b37, 0, none⟩) 1 h38 fun p39 l39 c39 h40 =>
    stI h40 (Addr.add g_7 3) (.slice p39 l39 c39) fun h41 =>
    K1 (t2, r_6, g_7, t33, (IntKind.wrap .i64 (t34 + (1 : Int))), ()) h41) (
    ldPtr h31 r_6 fun p42 =>
    newI h31 (.cells #[(.pointer (some (Addr.add g_7 4)))] 75 (0, 0)) fun b43 h44 =>
    callUnit P n_model_reader_small #[(.agg #[(.pointer p42)]), (.slice (some ⟨b43, 0, none⟩) 1 1)] h44 fun h45 =>
    ldPtr h45 r_6 fun p46 =>
    callInt P .i64 n_tape_Reader_Err #[(.pointer p46)] h45 fun n48 h47 =>
    ifB (n48 != (0 : Int)) (
      storeL [(.int .i64 (0 : Int)), (.int .i64 (0 : Int)), (.int .i64 (0 : Int)), (.slice none 0 0), (.int .i64 (0 : Int))] h47 t2 0 fun h49 =>
      ldAg A2 h49 t2 fun x50 =>
      Q (.tuple #[(agS A2 x50), (.int .i64 (11 : Int))]) h49) (
      ldPtr h47 r_6 fun p51 =>
      callInt P .i64 n_tape_Reader_Left #[(.pointer p51)] h47 fun n53 h52 =>
      ifB (decide (n53 > (0 : Int))) (
        storeL [(.int .i64 (0 : Int)), (.int .i64 (0 : Int)), (.int .i64 (0 : Int)), (.slice none 0 0), (.int .i64 (0 : Int))] h52 t2 0 fun h54 =>
        ldAg A2 h54 t2 fun x55 =>
        Q (.tuple #[(agS A2 x55), (.int .i64 (10 : Int))]) h54) (
        ldAg A2 h52 g_7 fun x56 =>
        storeL (mkS' A2 x56) h52 t2 0 fun h57 =>
        ldAg A2 h57 t2 fun x58 =>
        Q (.tuple #[(agS A2 x58), (.int .i64 (0 : Int))]) h57)))
def model_Decode (s_0 : ByteArray) (h : Heap) (Q : Value → Heap → Prop) : Prop :=
  newI h (.cells (mkS' A2 (zT A2)).toArray 27 (0, 0)) fun b1 h2 =>
  callP P n_strings_CutPrefix #[(.string s_0), (.string (ByteArray.mk #[69, 65, 82, 49]))] h2 fun v4 h3 =>
  ∃ s5 : ByteArray, ∃ b6 : Bool, v4 = (.tuple #[(.string s5), (.bool b6)]) ∧
  ifB (!b6) (
    storeL [(.int .i64 (0 : Int)), (.int .i64 (0 : Int)), (.int .i64 (0 : Int)), (.slice none 0 0), (.int .i64 (0 : Int))] h3 ⟨b1, 0, none⟩ 0 fun h7 =>
    ldAg A2 h7 ⟨b1, 0, none⟩ fun x8 =>
    Q (.tuple #[(agS A2 x8), (.int .i64 (10 : Int))]) h7) (
    callPtr P n_tape_Read #[(.string s5)] h3 fun p10 h9 =>
    newI h9 (.cells #[(.pointer none)] 73 (0, 0)) fun b11 h12 =>
    stI h12 ⟨b11, 0, none⟩ (.pointer p10) fun h13 =>
    newI h13 (.cells (mkS' A2 (zT A2)).toArray 27 (0, 0)) fun b14 h15 =>
    ldPtr h15 ⟨b11, 0, none⟩ fun p16 =>
    newI h15 (.cells #[(.pointer (some ⟨b14, 0, none⟩))] 75 (0, 0)) fun b17 h18 =>
    callUnit P n_model_reader_small #[(.agg #[(.pointer p16)]), (.slice (some ⟨b17, 0, none⟩) 1 1)] h18 fun h19 =>
    ldPtr h19 ⟨b11, 0, none⟩ fun p20 =>
    ldPtr h19 ⟨b11, 0, none⟩ fun p21 =>
    callInt P .i64 n_tape_Reader_Word #[(.pointer p20)] h19 fun n23 h22 =>
    cellH h22 ⟨b11, 0, none⟩ = some (.pointer p21) ∧
    callInt P .i64 n_tape_Reader_Word #[(.pointer p21)] h22 fun n25 h24 =>
    cellH h24 ⟨b11, 0, none⟩ = some (.pointer p20) ∧
    stI h24 ⟨b14, 1, none⟩ (.int .i64 n23) fun h26 =>
    cellH h26 ⟨b11, 0, none⟩ = some (.pointer p21) ∧
    stI h26 ⟨b14, 2, none⟩ (.int .i64 n25) fun h27 =>
    ldPtr h27 ⟨b11, 0, none⟩ fun p28 =>
    callInt P .i64 n_tape_Reader_Byte #[(.pointer p28)] h27 fun n30 h29 =>
    LoopS (S := (Addr × Addr × Addr × Int × Int × Unit)) (fun K1 s h => model_Decode_l9 Q K1 s.1 s.2.1 s.2.2.1 s.2.2.2.1 s.2.2.2.2.1 h) (⟨b1, 0, none⟩, ⟨b11, 0, none⟩, ⟨b14, 0, none⟩, n30, (0 : Int), ()) h29)
noncomputable def tab_model_Decode : Tab := { sch := lookT .done [(7, (ones [0, 3] (.early 1 (.early 4 (.alt 2 (.alt 5 (ones [6] (.alt 7 (ones [8] (.alt 9 .done .stop)) .stop)) .stop) .stop))))), (10, (ones [0] (.early 1 (.alt 2 (.alt 3 (.alt 4 (.alt 5 (ones [6] (.alt 7 .done .stop)) .stop) .stop) .stop) .stop))))], lp := lookT [] [(9, [(2, .sc (.adr)), (6, .sc (.adr)), (7, .sc (.adr)), (33, .sc (.int .i64)), (34, .sc (.int .i64))])], jn := lookT none [] }
theorem eq_model_Decode (s_0 : ByteArray) (h : Heap) (Q : Value → Heap → Prop) : fnI P Try.f14 tab_model_Decode [(.string s_0)] h Q = model_Decode s_0 h Q := by kernel_rfl
theorem ok_model_Decode : fnOk P Try.f14 tab_model_Decode = true := by kernel_rfl
theorem call_model_Decode (s_0 : ByteArray) {h : Heap} {Q : Value → Heap → Prop} (H : model_Decode s_0 h Q) : callP P n_model_Decode #[(.string s_0)] h Q :=
  @callP_of P n_model_Decode Try.f14 tab_model_Decode [(.string s_0)] h Q mixed Try.func14 Try.call14 ok_model_Decode (Eq.mpr (eq_model_Decode s_0 h Q) H)

/-! ### earshot/earshotref06.Read: function 51 -/
def ref06_Read (s_0 : ByteArray) (h : Heap) (Q : Value → Heap → Prop) : Prop :=
  newI h (.cells #[(.string s_0), (.int .i64 (0 : Int)), (.int .i64 (0 : Int))] 99 (0, 0)) fun b1 h2 =>
  Q (.pointer (some ⟨b1, 0, none⟩)) h2
noncomputable def tab_ref06_Read : Tab := { sch := lookT .done [], lp := lookT [] [], jn := lookT none [] }
theorem eq_ref06_Read (s_0 : ByteArray) (h : Heap) (Q : Value → Heap → Prop) : fnI P Try.f51 tab_ref06_Read [(.string s_0)] h Q = ref06_Read s_0 h Q := by kernel_rfl
theorem ok_ref06_Read : fnOk P Try.f51 tab_ref06_Read = true := by kernel_rfl
theorem call_ref06_Read (s_0 : ByteArray) {h : Heap} {Q : Value → Heap → Prop} (H : ref06_Read s_0 h Q) : callP P n_ref06_Read #[(.string s_0)] h Q :=
  @callP_of P n_ref06_Read Try.f51 tab_ref06_Read [(.string s_0)] h Q mixed Try.func51 Try.call51 ok_ref06_Read (Eq.mpr (eq_ref06_Read s_0 h Q) H)

/-! ### (*earshot/earshotref06.Reader).Left: function 55 -/
def ref06_Reader_Left (r_0 : Option Addr) (h : Heap) (Q : Value → Heap → Prop) : Prop :=
  nilI r_0 fun a1 =>
  nilI r_0 fun a2 =>
  ldStr h a1 fun s3 =>
  ldInt .i64 h (Addr.add a2 1) fun n4 =>
  Q (.int .i64 (IntKind.wrap .i64 (((s3.size : Nat) : Int) - n4))) h
noncomputable def tab_ref06_Reader_Left : Tab := { sch := lookT .done [(1, (ones [0, 1, 2, 5, 6, 7, 3, 4, 8, 9, 10] .done))], lp := lookT [] [], jn := lookT none [] }
theorem eq_ref06_Reader_Left (r_0 : Option Addr) (h : Heap) (Q : Value → Heap → Prop) : fnI P Try.f55 tab_ref06_Reader_Left [(.pointer r_0)] h Q = ref06_Reader_Left r_0 h Q := by kernel_rfl
theorem ok_ref06_Reader_Left : fnOk P Try.f55 tab_ref06_Reader_Left = true := by kernel_rfl
theorem call_ref06_Reader_Left (r_0 : Option Addr) {h : Heap} {Q : Value → Heap → Prop} (H : ref06_Reader_Left r_0 h Q) : callP P n_ref06_Reader_Left #[(.pointer r_0)] h Q :=
  @callP_of P n_ref06_Reader_Left Try.f55 tab_ref06_Reader_Left [(.pointer r_0)] h Q mixed Try.func55 Try.call55 ok_ref06_Reader_Left (Eq.mpr (eq_ref06_Reader_Left r_0 h Q) H)

/-! ### (*earshot/earshotref06.Reader).Num: function 52 -/
def ref06_Reader_Num_l6 (Q : Value → Heap → Prop) (K1 : (Option Addr × Int × Int × Int × Unit) → Heap → Prop) (r_0 : Option Addr) (n_1 : Int) (x_5 : Int) (i_6 : Int) (h3 : Heap) : Prop :=
  ifB (decide (i_6 ≥ (0 : Int))) (
    nilI r_0 fun a4 =>
    nilI r_0 fun a5 =>
    ldStr h3 a4 fun s6 =>
    ldInt .i64 h3 (Addr.add a5 1) fun n7 =>
    strI s6 (IntKind.wrap .i64 (n7 + i_6)) fun b8 =>
    K1 (r_0, n_1, (IntKind.wrap .u64 ((IntKind.wrap .u64 (x_5 * (256 : Int))) + (IntKind.wrap .u64 (b8.toNat : Int)))), (IntKind.wrap .i64 (i_6 - (1 : Int))), ()) h3) (
    nilI r_0 fun a9 =>
    ldInt .i64 h3 (Addr.add a9 1) fun n10 =>
    nilI r_0 fun a11 =>
    stI h3 (Addr.add a11 1) (.int .i64 (IntKind.wrap .i64 (n10 + n_1))) fun h12 =>
    Q (.int .u64 x_5) h12)
def ref06_Reader_Num_j4 (Q : Value → Heap → Prop) (r_0 : Option Addr) (n_1 : Int) (h2 : Heap) : Prop :=
  LoopS (S := (Option Addr × Int × Int × Int × Unit)) (fun K1 s h => ref06_Reader_Num_l6 Q K1 s.1 s.2.1 s.2.2.1 s.2.2.2.1 h) (r_0, n_1, (0 : Int), (IntKind.wrap .i64 (n_1 - (1 : Int))), ()) h2
def ref06_Reader_Num (r_0 : Option Addr) (n_1 : Int) (h : Heap) (Q : Value → Heap → Prop) : Prop :=
  ∃ J1 : (Option Addr × Int × Unit) → Heap → Prop, (∀ s h, J1 s h → ref06_Reader_Num_j4 Q s.1 s.2.1 h) ∧
  nilI r_0 fun a13 =>
  ldInt .i64 h (Addr.add a13 2) fun n14 =>
  ifB (n14 != (0 : Int)) (
    nilI r_0 fun a15 =>
    stI h (Addr.add a15 2) (.int .i64 (11 : Int)) fun h16 =>
    Q (.int .u64 (0 : Int)) h16) (
    callInt P .i64 n_ref06_Reader_Left #[(.pointer r_0)] h fun n18 h17 =>
    ifB (decide (n18 < n_1)) (
      nilI r_0 fun a19 =>
      stI h17 (Addr.add a19 2) (.int .i64 (11 : Int)) fun h20 =>
      Q (.int .u64 (0 : Int)) h20) (
      J1 (r_0, n_1, ()) h17))
noncomputable def tab_ref06_Reader_Num : Tab := { sch := lookT .done [(8, (ones [0, 1, 2, 3, 4, 6, 7, 8, 10, 5, 9, 11, 12, 13, 14, 15] .done))], lp := lookT [] [(6, [(0, .sc (.ptr)), (1, .sc (.int .i64)), (5, .sc (.int .u64)), (6, .sc (.int .i64))])], jn := lookT none [(4, some [(0, .sc (.ptr)), (1, .sc (.int .i64))])] }
theorem eq_ref06_Reader_Num (r_0 : Option Addr) (n_1 : Int) (h : Heap) (Q : Value → Heap → Prop) : fnI P Try.f52 tab_ref06_Reader_Num [(.pointer r_0), (.int .i64 n_1)] h Q = ref06_Reader_Num r_0 n_1 h Q := by kernel_rfl
theorem ok_ref06_Reader_Num : fnOk P Try.f52 tab_ref06_Reader_Num = true := by kernel_rfl
theorem call_ref06_Reader_Num (r_0 : Option Addr) (n_1 : Int) {h : Heap} {Q : Value → Heap → Prop} (H : ref06_Reader_Num r_0 n_1 h Q) : callP P n_ref06_Reader_Num #[(.pointer r_0), (.int .i64 n_1)] h Q :=
  @callP_of P n_ref06_Reader_Num Try.f52 tab_ref06_Reader_Num [(.pointer r_0), (.int .i64 n_1)] h Q mixed Try.func52 Try.call52 ok_ref06_Reader_Num (Eq.mpr (eq_ref06_Reader_Num r_0 n_1 h Q) H)

/-! ### (*earshot/earshotref06.Reader).Word: function 53 -/
def ref06_Reader_Word (r_0 : Option Addr) (h : Heap) (Q : Value → Heap → Prop) : Prop :=
  callInt P .u64 n_ref06_Reader_Num #[(.pointer r_0), (.int .i64 (4 : Int))] h fun n2 h1 =>
  ifB (decide ((IntKind.wrap .i64 n2) ≥ (2147483648 : Int))) (
    Q (.int .i64 (IntKind.wrap .i64 ((IntKind.wrap .i64 n2) - (4294967296 : Int)))) h1) (
    Q (.int .i64 (IntKind.wrap .i64 n2)) h1)
noncomputable def tab_ref06_Reader_Word : Tab := { sch := lookT .done [], lp := lookT [] [], jn := lookT none [] }
theorem eq_ref06_Reader_Word (r_0 : Option Addr) (h : Heap) (Q : Value → Heap → Prop) : fnI P Try.f53 tab_ref06_Reader_Word [(.pointer r_0)] h Q = ref06_Reader_Word r_0 h Q := by kernel_rfl
theorem ok_ref06_Reader_Word : fnOk P Try.f53 tab_ref06_Reader_Word = true := by kernel_rfl
theorem call_ref06_Reader_Word (r_0 : Option Addr) {h : Heap} {Q : Value → Heap → Prop} (H : ref06_Reader_Word r_0 h Q) : callP P n_ref06_Reader_Word #[(.pointer r_0)] h Q :=
  @callP_of P n_ref06_Reader_Word Try.f53 tab_ref06_Reader_Word [(.pointer r_0)] h Q mixed Try.func53 Try.call53 ok_ref06_Reader_Word (Eq.mpr (eq_ref06_Reader_Word r_0 h Q) H)

/-! ### (*earshot/earshotref06.Reader).Row: function 73 -/
def ref06_Reader_Row_l4 (Q : Value → Heap → Prop) (K1 : Y10 → Heap → Prop) (r_0 : Option Addr) (n_3 : Int) (out_4_p : Option Addr) (out_4_n : Nat) (out_4_c : Nat) (i_5 : Int) (h3 : Heap) : Prop :=
  ifB (decide (i_5 < n_3)) (
    nilI r_0 fun a4 =>
    ldInt .i64 h3 (Addr.add a4 2) fun n5 =>
    ifB (n5 == (0 : Int)) (
      callInt P .i64 n_ref06_Reader_Word #[(.pointer r_0)] h3 fun n7 h6 =>
      newI h6 (.cells #[(.int .i64 n7)] 3 (0, 0)) fun b8 h9 =>
      appI 3 1 8 (.int .i64 (0 : Int)) out_4_p out_4_n out_4_c (some ⟨b8, 0, none⟩) 1 h9 fun p10 l10 c10 h11 =>
      K1 (r_0, n_3, (p10, l10, c10), (IntKind.wrap .i64 (i_5 + (1 : Int))), ()) h11) (
      nilI r_0 fun a12 =>
      ldInt .i64 h3 (Addr.add a12 2) fun n13 =>
      ifB (n13 != (0 : Int)) (
        Q (.slice none 0 0) h3) (
        Q (.slice out_4_p out_4_n out_4_c) h3))) (
    nilI r_0 fun a14 =>
    ldInt .i64 h3 (Addr.add a14 2) fun n15 =>
    ifB (n15 != (0 : Int)) (
      Q (.slice none 0 0) h3) (
      Q (.slice out_4_p out_4_n out_4_c) h3))
def ref06_Reader_Row (r_0 : Option Addr) (h : Heap) (Q : Value → Heap → Prop) : Prop :=
  callInt P .u64 n_ref06_Reader_Num #[(.pointer r_0), (.int .i64 (2 : Int))] h fun n2 h1 =>
  LoopS (S := Y10) (fun K1 s h => ref06_Reader_Row_l4 Q K1 s.1 s.2.1 s.2.2.1.1 s.2.2.1.2.1 s.2.2.1.2.2 s.2.2.2.1 h) (r_0, (IntKind.wrap .i64 n2), (none, 0, 0), (0 : Int), ()) h1
noncomputable def tab_ref06_Reader_Row : Tab := { sch := lookT .done [], lp := lookT [] [(4, [(0, .sc (.ptr)), (3, .sc (.int .i64)), (4, .sc (.slice)), (5, .sc (.int .i64))])], jn := lookT none [] }
theorem eq_ref06_Reader_Row (r_0 : Option Addr) (h : Heap) (Q : Value → Heap → Prop) : fnI P Try.f73 tab_ref06_Reader_Row [(.pointer r_0)] h Q = ref06_Reader_Row r_0 h Q := by kernel_rfl
theorem ok_ref06_Reader_Row : fnOk P Try.f73 tab_ref06_Reader_Row = true := by kernel_rfl
theorem call_ref06_Reader_Row (r_0 : Option Addr) {h : Heap} {Q : Value → Heap → Prop} (H : ref06_Reader_Row r_0 h Q) : callP P n_ref06_Reader_Row #[(.pointer r_0)] h Q :=
  @callP_of P n_ref06_Reader_Row Try.f73 tab_ref06_Reader_Row [(.pointer r_0)] h Q mixed Try.func73 Try.call73 ok_ref06_Reader_Row (Eq.mpr (eq_ref06_Reader_Row r_0 h Q) H)

/-! ### earshot/earshotref15.node: function 54 -/
def ref15_node_l9 (Q : Value → Heap → Prop) (K1 : (Option Addr × Addr × Addr × Int × Int × Unit) → Heap → Prop) (K2 : (Option Addr × Addr × Addr × Addr × Int × Unit) → Heap → Prop) (r_0 : Option Addr) (t2 : Addr) (n_3 : Addr) (l_6 : Addr) (i_7 : Int) (h21 : Heap) : Prop :=
  ifB (decide (i_7 < (6 : Int))) (
    callInt P .u64 n_ref06_Reader_Num #[(.pointer r_0), (.int .i64 (1 : Int))] h21 fun n23 h22 =>
    arrI i_7 6 fun _ =>
    stI h22 (Addr.add l_6 (i_7.toNat * 1)) (.int .i64 (IntKind.wrap .i64 n23)) fun h24 =>
    K2 (r_0, t2, n_3, l_6, (IntKind.wrap .i64 (i_7 + (1 : Int))), ()) h24) (
    arrI (0 : Int) 6 fun _ =>
    ldInt .i64 h21 (Addr.add l_6 ((0 : Int).toNat * 1)) fun n25 =>
    stI h21 (Addr.add n_3 2) (.int .i64 n25) fun h26 =>
    arrI (1 : Int) 6 fun _ =>
    ldInt .i64 h26 (Addr.add l_6 ((1 : Int).toNat * 1)) fun n27 =>
    stI h26 (Addr.add n_3 3) (.int .i64 n27) fun h28 =>
    arrI (2 : Int) 6 fun _ =>
    ldInt .i64 h28 (Addr.add l_6 ((2 : Int).toNat * 1)) fun n29 =>
    stI h28 (Addr.add n_3 4) (.int .i64 n29) fun h30 =>
    arrI (3 : Int) 6 fun _ =>
    ldInt .i64 h30 (Addr.add l_6 ((3 : Int).toNat * 1)) fun n31 =>
    stI h30 (Addr.add n_3 5) (.int .i64 n31) fun h32 =>
    arrI (4 : Int) 6 fun _ =>
    ldInt .i64 h32 (Addr.add l_6 ((4 : Int).toNat * 1)) fun n33 =>
    stI h32 (Addr.add n_3 6) (.int .i64 n33) fun h34 =>
    arrI (5 : Int) 6 fun _ =>
    ldInt .i64 h34 (Addr.add l_6 ((5 : Int).toNat * 1)) fun n35 =>
    stI h34 (Addr.add n_3 7) (.int .i64 n35) fun h36 =>
    callSlice P n_ref06_Reader_Row #[(.pointer r_0)] h36 fun p38 l38 c38 h37 =>
    stI h37 (Addr.add n_3 8) (.slice p38 l38 c38) fun h39 =>
    callSlice P n_ref06_Reader_Row #[(.pointer r_0)] h39 fun p41 l41 c41 h40 =>
    stI h40 (Addr.add n_3 9) (.slice p41 l41 c41) fun h42 =>
    callInt P .u64 n_ref06_Reader_Num #[(.pointer r_0), (.int .i64 (2 : Int))] h42 fun n44 h43 =>
    stI h43 (Addr.add n_3 10) (.int .i64 (IntKind.wrap .i64 n44)) fun h45 =>
    callInt P .u64 n_ref06_Reader_Num #[(.pointer r_0), (.int .i64 (1 : Int))] h45 fun n47 h46 =>
    stI h46 (Addr.add n_3 11) (.int .i64 (IntKind.wrap .i64 n47)) fun h48 =>
    callInt P .i64 n_ref06_Reader_Word #[(.pointer r_0)] h48 fun n50 h49 =>
    stI h49 (Addr.add n_3 12) (.int .i64 n50) fun h51 =>
    callInt P .i64 n_ref06_Reader_Word #[(.pointer r_0)] h51 fun n53 h52 =>
    stI h52 (Addr.add n_3 13) (.int .i64 n53) fun h54 =>
    callInt P .u64 n_ref06_Reader_Num #[(.pointer r_0), (.int .i64 (1 : Int))] h54 fun n56 h55 =>
    stI h55 (Addr.add n_3 14) (.int .i64 (IntKind.wrap .i64 n56)) fun h57 =>
    ldAg A1 h57 n_3 fun x58 =>
    storeL (mkS' A1 x58) h57 t2 0 fun h59 =>
    ldAg A1 h59 t2 fun x60 =>
    Q (agS A1 x60) h59)
def ref15_node_l4 (Q : Value → Heap → Prop) (K1 : (Option Addr × Addr × Addr × Int × Int × Unit) → Heap → Prop) (r_0 : Option Addr) (t2 : Addr) (n_3 : Addr) (many_4 : Int) (i_5 : Int) (h10 : Heap) : Prop :=
  ifB (decide (i_5 < many_4)) (
    ldSlice h10 (Addr.add n_3 1) fun p11 l11 c11 =>
    callInt P .u64 n_ref06_Reader_Num #[(.pointer r_0), (.int .i64 (1 : Int))] h10 fun n13 h12 =>
    cellH h12 (Addr.add n_3 1) = some (.slice p11 l11 c11) ∧
    newI h12 (.cells #[(.int .i64 (IntKind.wrap .i64 n13))] 3 (0, 0)) fun b14 h15 =>
    appI 3 1 8 (.int .i64 (0 : Int)) p11 l11 c11 (some ⟨b14, 0, none⟩) 1 h15 fun p16 l16 c16 h17 =>
    stI h17 (Addr.add n_3 1) (.slice p16 l16 c16) fun h18 =>
    K1 (r_0, t2, n_3, many_4, (IntKind.wrap .i64 (i_5 + (1 : Int))), ()) h18) (
    newI h10 (.cells #[(.int .i64 (0 : Int)), (.int .i64 (0 : Int)), (.int .i64 (0 : Int)), (.int .i64 (0 : Int)), (.int .i64 (0 : Int)), (.int .i64 (0 : Int))] 91 (0, 0)) fun b19 h20 =>
    LoopS (S := (Option Addr × Addr × Addr × Addr × Int × Unit)) (fun K2 s h => ref15_node_l9 Q K1 K2 s.1 s.2.1 s.2.2.1 s.2.2.2.1 s.2.2.2.2.1 h) (r_0, t2, n_3, ⟨b19, 0, none⟩, (0 : Int), ()) h20)
def ref15_node (r_0 : Option Addr) (h : Heap) (Q : Value → Heap → Prop) : Prop :=
  newI h (.cells (mkS' A1 (zT A1)).toArray 30 (0, 0)) fun b1 h2 =>
  callInt P .u64 n_ref06_Reader_Num #[(.pointer r_0), (.int .i64 (1 : Int))] h2 fun n4 h3 =>
  newI h3 (.cells (mkS' A1 (zT A1)).toArray 30 (0, 0)) fun b5 h6 =>
  storeL [(.int .i64 (IntKind.wrap .i64 n4)), (.slice none 0 0), (.int .i64 (0 : Int)), (.int .i64 (0 : Int)), (.int .i64 (0 : Int)), (.int .i64 (0 : Int)), (.int .i64 (0 : Int)), (.int .i64 (0 : Int)), (.slice none 0 0), (.slice none 0 0), (.int .i64 (0 : Int)), (.int .i64 (0 : Int)), (.int .i64 (0 : Int)), (.int .i64 (0 : Int)), (.int .i64 (0 : Int))] h6 ⟨b5, 0, none⟩ 0 fun h7 =>
  callInt P .u64 n_ref06_Reader_Num #[(.pointer r_0), (.int .i64 (1 : Int))] h7 fun n9 h8 =>
  LoopS (S := (Option Addr × Addr × Addr × Int × Int × Unit)) (fun K1 s h => ref15_node_l4 Q K1 s.1 s.2.1 s.2.2.1 s.2.2.2.1 s.2.2.2.2.1 h) (r_0, ⟨b1, 0, none⟩, ⟨b5, 0, none⟩, (IntKind.wrap .i64 n9), (0 : Int), ()) h8
noncomputable def tab_ref15_node : Tab := { sch := lookT .done [(6, (ones [0, 2] (.early 1 (.alt 3 (ones [4] (.alt 5 (.alt 6 (ones [7] (.alt 8 .done .stop)) .stop) .stop)) .stop))))], lp := lookT [] [(4, [(0, .sc (.ptr)), (2, .sc (.adr)), (3, .sc (.adr)), (4, .sc (.int .i64)), (5, .sc (.int .i64))]), (9, [(0, .sc (.ptr)), (2, .sc (.adr)), (3, .sc (.adr)), (6, .sc (.adr)), (7, .sc (.int .i64))])], jn := lookT none [] }
theorem eq_ref15_node (r_0 : Option Addr) (h : Heap) (Q : Value → Heap → Prop) : fnI P Try.f54 tab_ref15_node [(.pointer r_0)] h Q = ref15_node r_0 h Q := by kernel_rfl
theorem ok_ref15_node : fnOk P Try.f54 tab_ref15_node = true := by kernel_rfl
theorem call_ref15_node (r_0 : Option Addr) {h : Heap} {Q : Value → Heap → Prop} (H : ref15_node r_0 h Q) : callP P n_ref15_node #[(.pointer r_0)] h Q :=
  @callP_of P n_ref15_node Try.f54 tab_ref15_node [(.pointer r_0)] h Q mixed Try.func54 Try.call54 ok_ref15_node (Eq.mpr (eq_ref15_node r_0 h Q) H)

/-! ### earshot/earshotref15.Decode: function 29 -/
def ref15_Decode_l9 (Q : Value → Heap → Prop) (K1 : (Addr × Option Addr × Addr × Int × Int × Unit) → Heap → Prop) (t2 : Addr) (r_4 : Option Addr) (g_5 : Addr) (many_6 : Int) (i_7 : Int) (h21 : Heap) : Prop :=
  ifB (decide (i_7 < many_6)) (
    ldSlice h21 (Addr.add g_5 3) fun p22 l22 c22 =>
    callP P n_ref15_node #[(.pointer r_4)] h21 fun v24 h23 =>
    exS A1 fun x25 => v24 = (agS A1 x25) ∧
    cellH h23 (Addr.add g_5 3) = some (.slice p22 l22 c22) ∧
    newI h23 (.cells (mkS' A1 x25).toArray 30 (0, 0)) fun b26 h27 =>
    appI 30 15 168 (agS A1 (zT A1)) p22 l22 c22 (some ⟨b26, 0, none⟩) 1 h27 fun p28 l28 c28 h29 =>
    stI h29 (Addr.add g_5 3) (.slice p28 l28 c28) fun h30 =>
    K1 (t2, r_4, g_5, many_6, (IntKind.wrap .i64 (i_7 + (1 : Int))), ()) h30) (
    callInt P .u64 n_ref06_Reader_Num #[(.pointer r_4), (.int .i64 (1 : Int))] h21 fun n32 h31 =>
    stI h31 (Addr.add g_5 4) (.int .i64 (IntKind.wrap .i64 n32)) fun h33 =>
    nilI r_4 fun a34 =>
    ldInt .i64 h33 (Addr.add a34 2) fun n35 =>
    ifB (n35 != (0 : Int)) (
      storeL [(.int .i64 (0 : Int)), (.int .i64 (0 : Int)), (.int .i64 (0 : Int)), (.slice none 0 0), (.int .i64 (0 : Int))] h33 t2 0 fun h36 =>
      ldAg A2 h36 t2 fun x37 =>
      Q (.tuple #[(agS A2 x37), (.int .i64 (11 : Int))]) h36) (
      callInt P .i64 n_ref06_Reader_Left #[(.pointer r_4)] h33 fun n39 h38 =>
      ifB (decide (n39 > (0 : Int))) (
        storeL [(.int .i64 (0 : Int)), (.int .i64 (0 : Int)), (.int .i64 (0 : Int)), (.slice none 0 0), (.int .i64 (0 : Int))] h38 t2 0 fun h40 =>
        ldAg A2 h40 t2 fun x41 =>
        Q (.tuple #[(agS A2 x41), (.int .i64 (10 : Int))]) h40) (
        ldAg A2 h38 g_5 fun x42 =>
        storeL (mkS' A2 x42) h38 t2 0 fun h43 =>
        ldAg A2 h43 t2 fun x44 =>
        Q (.tuple #[(agS A2 x44), (.int .i64 (0 : Int))]) h43)))
def ref15_Decode_j3 (Q : Value → Heap → Prop) (s_0 : ByteArray) (t2 : Addr) (h4 : Heap) : Prop :=
  bndI (4 : Int) s_0.size fun l5 =>
  callPtr P n_ref06_Read #[(.string (s_0.extract l5 s_0.size))] h4 fun p7 h6 =>
  callInt P .u64 n_ref06_Reader_Num #[(.pointer p7), (.int .i64 (1 : Int))] h6 fun n9 h8 =>
  newI h8 (.cells (mkS' A2 (zT A2)).toArray 27 (0, 0)) fun b10 h11 =>
  storeL [(.int .i64 (IntKind.wrap .i64 n9)), (.int .i64 (0 : Int)), (.int .i64 (0 : Int)), (.slice none 0 0), (.int .i64 (0 : Int))] h11 ⟨b10, 0, none⟩ 0 fun h12 =>
  callInt P .i64 n_ref06_Reader_Word #[(.pointer p7)] h12 fun n14 h13 =>
  stI h13 ⟨b10, 1, none⟩ (.int .i64 n14) fun h15 =>
  callInt P .i64 n_ref06_Reader_Word #[(.pointer p7)] h15 fun n17 h16 =>
  stI h16 ⟨b10, 2, none⟩ (.int .i64 n17) fun h18 =>
  callInt P .u64 n_ref06_Reader_Num #[(.pointer p7), (.int .i64 (1 : Int))] h18 fun n20 h19 =>
  LoopS (S := (Addr × Option Addr × Addr × Int × Int × Unit)) (fun K1 s h => ref15_Decode_l9 Q K1 s.1 s.2.1 s.2.2.1 s.2.2.2.1 s.2.2.2.2.1 h) (t2, p7, ⟨b10, 0, none⟩, (IntKind.wrap .i64 n20), (0 : Int), ()) h19
def ref15_Decode (s_0 : ByteArray) (h : Heap) (Q : Value → Heap → Prop) : Prop :=
  newI h (.cells (mkS' A2 (zT A2)).toArray 27 (0, 0)) fun b1 h2 =>
  ∃ J3 : (ByteArray × Addr × Unit) → Heap → Prop, (∀ s h, J3 s h → ref15_Decode_j3 Q s.1 s.2.1 h) ∧
  ifB (decide (((s_0.size : Nat) : Int) < (4 : Int))) (
    storeL [(.int .i64 (0 : Int)), (.int .i64 (0 : Int)), (.int .i64 (0 : Int)), (.slice none 0 0), (.int .i64 (0 : Int))] h2 ⟨b1, 0, none⟩ 0 fun h45 =>
    ldAg A2 h45 ⟨b1, 0, none⟩ fun x46 =>
    Q (.tuple #[(agS A2 x46), (.int .i64 (10 : Int))]) h45) (
    bndI (4 : Int) s_0.size fun l47 =>
    ifB (!((s_0.extract 0 l47).toList == (ByteArray.mk #[69, 65, 82, 49]).toList)) (
      storeL [(.int .i64 (0 : Int)), (.int .i64 (0 : Int)), (.int .i64 (0 : Int)), (.slice none 0 0), (.int .i64 (0 : Int))] h2 ⟨b1, 0, none⟩ 0 fun h48 =>
      ldAg A2 h48 ⟨b1, 0, none⟩ fun x49 =>
      Q (.tuple #[(agS A2 x49), (.int .i64 (10 : Int))]) h48) (
      J3 (s_0, ⟨b1, 0, none⟩, ()) h2))
noncomputable def tab_ref15_Decode : Tab := { sch := lookT .done [(11, (ones [0, 2] (.early 1 (.alt 3 (.alt 4 (.alt 5 (ones [6] (.alt 7 .done .stop)) .stop) .stop) .stop))))], lp := lookT [] [(9, [(2, .sc (.adr)), (4, .sc (.ptr)), (5, .sc (.adr)), (6, .sc (.int .i64)), (7, .sc (.int .i64))])], jn := lookT none [(3, some [(0, .sc (.str)), (2, .sc (.adr))])] }
theorem eq_ref15_Decode (s_0 : ByteArray) (h : Heap) (Q : Value → Heap → Prop) : fnI P Try.f29 tab_ref15_Decode [(.string s_0)] h Q = ref15_Decode s_0 h Q := by kernel_rfl
theorem ok_ref15_Decode : fnOk P Try.f29 tab_ref15_Decode = true := by kernel_rfl
theorem call_ref15_Decode (s_0 : ByteArray) {h : Heap} {Q : Value → Heap → Prop} (H : ref15_Decode s_0 h Q) : callP P n_ref15_Decode #[(.string s_0)] h Q :=
  @callP_of P n_ref15_Decode Try.f29 tab_ref15_Decode [(.string s_0)] h Q mixed Try.func29 Try.call29 ok_ref15_Decode (Eq.mpr (eq_ref15_Decode s_0 h Q) H)

/-! ### earshot/earshotref14.Same: function 38 -/
def ref14_Same_l10 (Q : Value → Heap → Prop) (K1 : (Addr × Addr × Addr × Int × Unit) → Heap → Prop) (K2 : Y11 → Heap → Prop) (a_2 : Addr) (b_3 : Addr) (rows_5 : Addr) (i_6 : Int) (x_7_p : Option Addr) (x_7_n : Nat) (x_7_c : Nat) (y_8_p : Option Addr) (y_8_n : Nat) (y_8_c : Nat) (j_9 : Int) (h17 : Heap) : Prop :=
  ifB (decide (j_9 < ((x_7_n : Nat) : Int))) (
    idxI x_7_p j_9 x_7_n fun a18 =>
    idxI y_8_p j_9 y_8_n fun a19 =>
    ldInt .i64 h17 (Addr.add a18 (j_9.toNat * 1)) fun n20 =>
    ldInt .i64 h17 (Addr.add a19 (j_9.toNat * 1)) fun n21 =>
    ifB (n20 != n21) (
      Q (.bool false) h17) (
      K2 (a_2, b_3, rows_5, i_6, (x_7_p, x_7_n, x_7_c), (y_8_p, y_8_n, y_8_c), (IntKind.wrap .i64 (j_9 + (1 : Int))), ()) h17)) (
    K1 (a_2, b_3, rows_5, (IntKind.wrap .i64 (i_6 + (1 : Int))), ()) h17)
def ref14_Same_l3 (Q : Value → Heap → Prop) (K1 : (Addr × Addr × Addr × Int × Unit) → Heap → Prop) (a_2 : Addr) (b_3 : Addr) (rows_5 : Addr) (i_6 : Int) (h14 : Heap) : Prop :=
  ifB (decide (i_6 < (3 : Int))) (
    arrI i_6 3 fun _ =>
    arrI (0 : Int) 2 fun _ =>
    ldSlice h14 (Addr.add (Addr.add rows_5 (i_6.toNat * 2)) ((0 : Int).toNat * 1)) fun p15 l15 c15 =>
    arrI i_6 3 fun _ =>
    arrI (1 : Int) 2 fun _ =>
    ldSlice h14 (Addr.add (Addr.add rows_5 (i_6.toNat * 2)) ((1 : Int).toNat * 1)) fun p16 l16 c16 =>
    ifB (((l15 : Nat) : Int) != ((l16 : Nat) : Int)) (
      Q (.bool false) h14) (
      LoopS (S := Y11) (fun K2 s h => ref14_Same_l10 Q K1 K2 s.1 s.2.1 s.2.2.1 s.2.2.2.1 s.2.2.2.2.1.1 s.2.2.2.2.1.2.1 s.2.2.2.2.1.2.2 s.2.2.2.2.2.1.1 s.2.2.2.2.2.1.2.1 s.2.2.2.2.2.1.2.2 s.2.2.2.2.2.2.1 h) (a_2, b_3, rows_5, i_6, (p15, l15, c15), (p16, l16, c16), (0 : Int), ()) h14)) (
    ldInt .i64 h14 a_2 fun n22 =>
    ldInt .i64 h14 b_3 fun n23 =>
    ifB (n22 == n23) (
      ldInt .i64 h14 (Addr.add a_2 2) fun n24 =>
      ldInt .i64 h14 (Addr.add b_3 2) fun n25 =>
      ifB (n24 == n25) (
        ldInt .i64 h14 (Addr.add a_2 3) fun n26 =>
        ldInt .i64 h14 (Addr.add b_3 3) fun n27 =>
        ifB (n26 == n27) (
          ldInt .i64 h14 (Addr.add a_2 4) fun n28 =>
          ldInt .i64 h14 (Addr.add b_3 4) fun n29 =>
          ifB (n28 == n29) (
            ldInt .i64 h14 (Addr.add a_2 5) fun n30 =>
            ldInt .i64 h14 (Addr.add b_3 5) fun n31 =>
            ifB (n30 == n31) (
              ldInt .i64 h14 (Addr.add a_2 6) fun n32 =>
              ldInt .i64 h14 (Addr.add b_3 6) fun n33 =>
              ifB (n32 == n33) (
                ldInt .i64 h14 (Addr.add a_2 7) fun n34 =>
                ldInt .i64 h14 (Addr.add b_3 7) fun n35 =>
                ifB (n34 == n35) (
                  ldInt .i64 h14 (Addr.add a_2 10) fun n36 =>
                  ldInt .i64 h14 (Addr.add b_3 10) fun n37 =>
                  ifB (n36 == n37) (
                    ldInt .i64 h14 (Addr.add a_2 11) fun n38 =>
                    ldInt .i64 h14 (Addr.add b_3 11) fun n39 =>
                    ifB (n38 == n39) (
                      ldInt .i64 h14 (Addr.add a_2 12) fun n40 =>
                      ldInt .i64 h14 (Addr.add b_3 12) fun n41 =>
                      ifB (n40 == n41) (
                        ldInt .i64 h14 (Addr.add a_2 13) fun n42 =>
                        ldInt .i64 h14 (Addr.add b_3 13) fun n43 =>
                        ifB (n42 == n43) (
                          ldInt .i64 h14 (Addr.add a_2 14) fun n44 =>
                          ldInt .i64 h14 (Addr.add b_3 14) fun n45 =>
                          Q (.bool (n44 == n45)) h14) (
                          Q (.bool false) h14)) (
                        Q (.bool false) h14)) (
                      Q (.bool false) h14)) (
                    Q (.bool false) h14)) (
                  Q (.bool false) h14)) (
                Q (.bool false) h14)) (
              Q (.bool false) h14)) (
            Q (.bool false) h14)) (
          Q (.bool false) h14)) (
        Q (.bool false) h14)) (
      Q (.bool false) h14))
def ref14_Same (a_0 : TS A1) (b_1 : TS A1) (h : Heap) (Q : Value → Heap → Prop) : Prop :=
  newI h (.cells (mkS' A1 a_0).toArray 30 (0, 0)) fun b1 h2 =>
  newI h2 (.cells (mkS' A1 b_1).toArray 30 (0, 0)) fun b3 h4 =>
  ldSlice h4 ⟨b1, 1, none⟩ fun p5 l5 c5 =>
  ldSlice h4 ⟨b3, 1, none⟩ fun p6 l6 c6 =>
  ldSlice h4 ⟨b1, 8, none⟩ fun p7 l7 c7 =>
  ldSlice h4 ⟨b3, 8, none⟩ fun p8 l8 c8 =>
  ldSlice h4 ⟨b1, 9, none⟩ fun p9 l9 c9 =>
  ldSlice h4 ⟨b3, 9, none⟩ fun p10 l10 c10 =>
  newI h4 (.cells #[(.slice none 0 0), (.slice none 0 0), (.slice none 0 0), (.slice none 0 0), (.slice none 0 0), (.slice none 0 0)] 105 (0, 0)) fun b11 h12 =>
  storeL [(.slice p5 l5 c5), (.slice p6 l6 c6), (.slice p7 l7 c7), (.slice p8 l8 c8), (.slice p9 l9 c9), (.slice p10 l10 c10)] h12 ⟨b11, 0, none⟩ 0 fun h13 =>
  LoopS (S := (Addr × Addr × Addr × Int × Unit)) (fun K1 s h => ref14_Same_l3 Q K1 s.1 s.2.1 s.2.2.1 s.2.2.2.1 h) (⟨b1, 0, none⟩, ⟨b3, 0, none⟩, ⟨b11, 0, none⟩, (0 : Int), ()) h13
noncomputable def tab_ref14_Same : Tab := { sch := lookT .done [(12, (ones [0, 1, 2, 4, 5, 6, 3, 7, 8] .done))], lp := lookT [] [(3, [(2, .sc (.adr)), (3, .sc (.adr)), (5, .sc (.adr)), (6, .sc (.int .i64))]), (10, [(2, .sc (.adr)), (3, .sc (.adr)), (5, .sc (.adr)), (6, .sc (.int .i64)), (7, .sc (.slice)), (8, .sc (.slice)), (9, .sc (.int .i64))])], jn := lookT none [] }
theorem eq_ref14_Same (a_0 : TS A1) (b_1 : TS A1) (h : Heap) (Q : Value → Heap → Prop) : fnI P Try.f38 tab_ref14_Same [(agS A1 a_0), (agS A1 b_1)] h Q = ref14_Same a_0 b_1 h Q := by kernel_rfl
theorem ok_ref14_Same : fnOk P Try.f38 tab_ref14_Same = true := by kernel_rfl
theorem call_ref14_Same (a_0 : TS A1) (b_1 : TS A1) {h : Heap} {Q : Value → Heap → Prop} (H : ref14_Same a_0 b_1 h Q) : callP P n_ref14_Same #[(agS A1 a_0), (agS A1 b_1)] h Q :=
  @callP_of P n_ref14_Same Try.f38 tab_ref14_Same [(agS A1 a_0), (agS A1 b_1)] h Q mixed Try.func38 Try.call38 ok_ref14_Same (Eq.mpr (eq_ref14_Same a_0 b_1 h Q) H)

/-! ### earshot/earshotref15.Same: function 15 -/
def ref15_Same_l4 (Q : Value → Heap → Prop) (K1 : (Addr × Addr × Int × Unit) → Heap → Prop) (a_2 : Addr) (b_3 : Addr) (i_5 : Int) (h7 : Heap) : Prop :=
  ldSlice h7 (Addr.add a_2 3) fun p8 l8 c8 =>
  ifB (decide (i_5 < ((l8 : Nat) : Int))) (
    ldSlice h7 (Addr.add a_2 3) fun p9 l9 c9 =>
    idxI p9 i_5 l9 fun a10 =>
    ldAg A1 h7 (Addr.add a10 (i_5.toNat * 15)) fun x11 =>
    ldSlice h7 (Addr.add b_3 3) fun p12 l12 c12 =>
    idxI p12 i_5 l12 fun a13 =>
    ldAg A1 h7 (Addr.add a13 (i_5.toNat * 15)) fun x14 =>
    callBool P n_ref14_Same #[(agS A1 x11), (agS A1 x14)] h7 fun b16 h15 =>
    cellH h15 (Addr.add a_2 3) = some (.slice p9 l9 c9) ∧
    ifB (!b16) (
      Q (.bool false) h15) (
      K1 (a_2, b_3, (IntKind.wrap .i64 (i_5 + (1 : Int))), ()) h15)) (
    Q (.bool true) h7)
def ref15_Same_j3 (Q : Value → Heap → Prop) (a_2 : Addr) (b_3 : Addr) (h6 : Heap) : Prop :=
  LoopS (S := (Addr × Addr × Int × Unit)) (fun K1 s h => ref15_Same_l4 Q K1 s.1 s.2.1 s.2.2.1 h) (a_2, b_3, (0 : Int), ()) h6
def ref15_Same (a_0 : TS A2) (b_1 : TS A2) (h : Heap) (Q : Value → Heap → Prop) : Prop :=
  newI h (.cells (mkS' A2 a_0).toArray 27 (0, 0)) fun b1 h2 =>
  newI h2 (.cells (mkS' A2 b_1).toArray 27 (0, 0)) fun b3 h4 =>
  ∃ J5 : (Addr × Addr × Unit) → Heap → Prop, (∀ s h, J5 s h → ref15_Same_j3 Q s.1 s.2.1 h) ∧
  ldInt .i64 h4 ⟨b1, 0, none⟩ fun n17 =>
  ldInt .i64 h4 ⟨b3, 0, none⟩ fun n18 =>
  ifB (n17 != n18) (
    Q (.bool false) h4) (
    ldInt .i64 h4 ⟨b1, 1, none⟩ fun n19 =>
    ldInt .i64 h4 ⟨b3, 1, none⟩ fun n20 =>
    ifB (n19 != n20) (
      Q (.bool false) h4) (
      ldInt .i64 h4 ⟨b1, 2, none⟩ fun n21 =>
      ldInt .i64 h4 ⟨b3, 2, none⟩ fun n22 =>
      ifB (n21 != n22) (
        Q (.bool false) h4) (
        ldInt .i64 h4 ⟨b1, 4, none⟩ fun n23 =>
        ldInt .i64 h4 ⟨b3, 4, none⟩ fun n24 =>
        ifB (n23 != n24) (
          Q (.bool false) h4) (
          ldSlice h4 ⟨b1, 3, none⟩ fun p25 l25 c25 =>
          ldSlice h4 ⟨b3, 3, none⟩ fun p26 l26 c26 =>
          ifB (((l25 : Nat) : Int) != ((l26 : Nat) : Int)) (
            Q (.bool false) h4) (
            J5 (⟨b1, 0, none⟩, ⟨b3, 0, none⟩, ()) h4)))))
noncomputable def tab_ref15_Same : Tab := { sch := lookT .done [(6, (ones [0, 2, 5, 7] (.early 1 (ones [3, 4] (.alt 6 (ones [8, 9] (.alt 10 (ones [11] .done) .stop)) .stop)))))], lp := lookT [] [(4, [(2, .sc (.adr)), (3, .sc (.adr)), (5, .sc (.int .i64))])], jn := lookT none [(3, some [(2, .sc (.adr)), (3, .sc (.adr))])] }
theorem eq_ref15_Same (a_0 : TS A2) (b_1 : TS A2) (h : Heap) (Q : Value → Heap → Prop) : fnI P Try.f15 tab_ref15_Same [(agS A2 a_0), (agS A2 b_1)] h Q = ref15_Same a_0 b_1 h Q := by kernel_rfl
theorem ok_ref15_Same : fnOk P Try.f15 tab_ref15_Same = true := by kernel_rfl
theorem call_ref15_Same (a_0 : TS A2) (b_1 : TS A2) {h : Heap} {Q : Value → Heap → Prop} (H : ref15_Same a_0 b_1 h Q) : callP P n_ref15_Same #[(agS A2 a_0), (agS A2 b_1)] h Q :=
  @callP_of P n_ref15_Same Try.f15 tab_ref15_Same [(agS A2 a_0), (agS A2 b_1)] h Q mixed Try.func15 Try.call15 ok_ref15_Same (Eq.mpr (eq_ref15_Same a_0 b_1 h Q) H)

/-! ### earshot/earshotlaw15.reads: function 13 -/
def law15_reads (s_0 : ByteArray) (h : Heap) (Q : Value → Heap → Prop) : Prop :=
  callP P n_model_Decode #[(.string s_0)] h fun v2 h1 =>
  exS A2 fun x3 => ∃ n4 : Int, v2 = (.tuple #[(agS A2 x3), (.int .i64 n4)]) ∧
  newI h1 (.cells (mkS' A2 (zT A2)).toArray 27 (0, 0)) fun b5 h6 =>
  storeL (mkS' A2 x3) h6 ⟨b5, 0, none⟩ 0 fun h7 =>
  callP P n_ref15_Decode #[(.string s_0)] h7 fun v9 h8 =>
  exS A2 fun x10 => ∃ n11 : Int, v9 = (.tuple #[(agS A2 x10), (.int .i64 n11)]) ∧
  newI h8 (.cells (mkS' A2 (zT A2)).toArray 27 (0, 0)) fun b12 h13 =>
  storeL (mkS' A2 x10) h13 ⟨b12, 0, none⟩ 0 fun h14 =>
  ldAg A2 h14 ⟨b5, 0, none⟩ fun x15 =>
  ldAg A2 h14 ⟨b12, 0, none⟩ fun x16 =>
  callBool P n_ref15_Same #[(agS A2 x15), (agS A2 x16)] h14 fun b18 h17 =>
  ifB (n4 == n11) (
    Q (.bool b18) h17) (
    Q (.bool false) h17)
noncomputable def tab_law15_reads : Tab := { sch := lookT .done [], lp := lookT [] [], jn := lookT none [] }
theorem eq_law15_reads (s_0 : ByteArray) (h : Heap) (Q : Value → Heap → Prop) : fnI P Try.f13 tab_law15_reads [(.string s_0)] h Q = law15_reads s_0 h Q := by kernel_rfl
theorem ok_law15_reads : fnOk P Try.f13 tab_law15_reads = true := by kernel_rfl
theorem call_law15_reads (s_0 : ByteArray) {h : Heap} {Q : Value → Heap → Prop} (H : law15_reads s_0 h Q) : callP P n_law15_reads #[(.string s_0)] h Q :=
  @callP_of P n_law15_reads Try.f13 tab_law15_reads [(.string s_0)] h Q mixed Try.func13 Try.call13 ok_law15_reads (Eq.mpr (eq_law15_reads s_0 h Q) H)

/-! ### earshot/earshotlaw15.ModelReads: function 4 -/
def law15_ModelReads_j4 (Q : Value → Heap → Prop) (raw_0 : ByteArray) (l_1_p : Option Addr) (l_1_n : Nat) (l_1_c : Nat) (q_5 : Addr) (up_7 : Bool) (h6 : Heap) : Prop :=
  callP P n_ref15_Made #[(.slice l_1_p l_1_n l_1_c)] h6 fun v8 h7 =>
  exS A2 fun x9 => v8 = (agS A2 x9) ∧
  callP P n_ref15_Encode #[(agS A2 x9)] h7 fun v11 h10 =>
  ∃ s12 : ByteArray, ∃ n13 : Int, v11 = (.tuple #[(.string s12), (.int .i64 n13)]) ∧
  arrI (0 : Int) 2 fun _ =>
  ldInt .i64 h10 (Addr.add q_5 ((0 : Int).toNat * 3)) fun n14 =>
  ldInt .i64 h10 (Addr.add (Addr.add q_5 ((0 : Int).toNat * 3)) 1) fun n15 =>
  ldInt .i64 h10 (Addr.add (Addr.add q_5 ((0 : Int).toNat * 3)) 2) fun n16 =>
  callStr P n_law15_spoilt #[(.string s12), (.agg #[(.int .i64 n14), (.int .i64 n15), (.int .i64 n16)])] h10 fun s18 h17 =>
  ifB up_7 (
    callBool P n_law15_reads #[(.string raw_0)] h17 fun b20 h19 =>
    ifB b20 (
      addStrI (ByteArray.mk #[69, 65, 82, 49]) raw_0 fun _ =>
      callBool P n_law15_reads #[(.string ((ByteArray.mk #[69, 65, 82, 49]) ++ raw_0))] h19 fun b22 h21 =>
      ifB b22 (
        callBool P n_law15_reads #[(.string s12)] h21 fun b24 h23 =>
        ifB b24 (
          callBool P n_law15_reads #[(.string s18)] h23 fun b26 h25 =>
          ifB b26 (
            arrI (1 : Int) 2 fun _ =>
            ldInt .i64 h25 (Addr.add q_5 ((1 : Int).toNat * 3)) fun n27 =>
            ldInt .i64 h25 (Addr.add (Addr.add q_5 ((1 : Int).toNat * 3)) 1) fun n28 =>
            ldInt .i64 h25 (Addr.add (Addr.add q_5 ((1 : Int).toNat * 3)) 2) fun n29 =>
            callStr P n_law15_spoilt #[(.string s18), (.agg #[(.int .i64 n27), (.int .i64 n28), (.int .i64 n29)])] h25 fun s31 h30 =>
            callBool P n_law15_reads #[(.string s31)] h30 fun b33 h32 =>
            Q (.bool b33) h32) (
            Q (.bool false) h25)) (
          Q (.bool false) h23)) (
        Q (.bool false) h21)) (
      Q (.bool false) h19)) (
    Q (.bool false) h17)
def law15_ModelReads (raw_0 : ByteArray) (l_1_p : Option Addr) (l_1_n : Nat) (l_1_c : Nat) (q_2 : TS A3) (h : Heap) (Q : Value → Heap → Prop) : Prop :=
  newI h (.cells (mkS' A3 q_2).toArray 37 (0, 0)) fun b1 h2 =>
  callBool P n_law15_awake #[] h2 fun b4 h3 =>
  ∃ J5 : Y12 → Heap → Prop, (∀ s h, J5 s h → law15_ModelReads_j4 Q s.1 s.2.1.1 s.2.1.2.1 s.2.1.2.2 s.2.2.1 s.2.2.2.1 h) ∧
  ifB (decide (((raw_0.size : Nat) : Int) > (80 : Int))) (
    bndI (80 : Int) raw_0.size fun l34 =>
    J5 ((raw_0.extract 0 l34), (l_1_p, l_1_n, l_1_c), ⟨b1, 0, none⟩, b4, ()) h3) (
    J5 (raw_0, (l_1_p, l_1_n, l_1_c), ⟨b1, 0, none⟩, b4, ()) h3)
noncomputable def tab_law15_ModelReads : Tab := { sch := lookT .done [], lp := lookT [] [], jn := lookT none [(4, some [(0, .sc (.str)), (1, .sc (.slice)), (5, .sc (.adr)), (7, .sc (.bool))])] }
theorem eq_law15_ModelReads (raw_0 : ByteArray) (l_1_p : Option Addr) (l_1_n : Nat) (l_1_c : Nat) (q_2 : TS A3) (h : Heap) (Q : Value → Heap → Prop) : fnI P Try.f4 tab_law15_ModelReads [(.string raw_0), (.slice l_1_p l_1_n l_1_c), (agS A3 q_2)] h Q = law15_ModelReads raw_0 l_1_p l_1_n l_1_c q_2 h Q := by kernel_rfl
theorem ok_law15_ModelReads : fnOk P Try.f4 tab_law15_ModelReads = true := by kernel_rfl
theorem call_law15_ModelReads (raw_0 : ByteArray) (l_1_p : Option Addr) (l_1_n : Nat) (l_1_c : Nat) (q_2 : TS A3) {h : Heap} {Q : Value → Heap → Prop} (H : law15_ModelReads raw_0 l_1_p l_1_n l_1_c q_2 h Q) : callP P n_law15_ModelReads #[(.string raw_0), (.slice l_1_p l_1_n l_1_c), (agS A3 q_2)] h Q :=
  @callP_of P n_law15_ModelReads Try.f4 tab_law15_ModelReads [(.string raw_0), (.slice l_1_p l_1_n l_1_c), (agS A3 q_2)] h Q mixed Try.func4 Try.call4 ok_law15_ModelReads (Eq.mpr (eq_law15_ModelReads raw_0 l_1_p l_1_n l_1_c q_2 h Q) H)

/-! ### earshot/earshotlaw15.ModelBack: function 5 -/
def law15_ModelBack (l_0_p : Option Addr) (l_0_n : Nat) (l_0_c : Nat) (h : Heap) (Q : Value → Heap → Prop) : Prop :=
  callBool P n_law15_awake #[] h fun b2 h1 =>
  callP P n_ref15_Made #[(.slice l_0_p l_0_n l_0_c)] h1 fun v4 h3 =>
  exS A2 fun x5 => v4 = (agS A2 x5) ∧
  newI h3 (.cells (mkS' A2 (zT A2)).toArray 27 (0, 0)) fun b6 h7 =>
  storeL (mkS' A2 x5) h7 ⟨b6, 0, none⟩ 0 fun h8 =>
  ldAg A2 h8 ⟨b6, 0, none⟩ fun x9 =>
  callP P n_model_Encode #[(agS A2 x9)] h8 fun v11 h10 =>
  ∃ s12 : ByteArray, ∃ n13 : Int, v11 = (.tuple #[(.string s12), (.int .i64 n13)]) ∧
  ldAg A2 h10 ⟨b6, 0, none⟩ fun x14 =>
  callP P n_ref15_Encode #[(agS A2 x14)] h10 fun v16 h15 =>
  ∃ s17 : ByteArray, ∃ n18 : Int, v16 = (.tuple #[(.string s17), (.int .i64 n18)]) ∧
  callP P n_model_Decode #[(.string s12)] h15 fun v20 h19 =>
  exS A2 fun x21 => ∃ n22 : Int, v20 = (.tuple #[(agS A2 x21), (.int .i64 n22)]) ∧
  newI h19 (.cells (mkS' A2 (zT A2)).toArray 27 (0, 0)) fun b23 h24 =>
  storeL (mkS' A2 x21) h24 ⟨b23, 0, none⟩ 0 fun h25 =>
  ldAg A2 h25 ⟨b6, 0, none⟩ fun x26 =>
  ldAg A2 h25 ⟨b23, 0, none⟩ fun x27 =>
  callBool P n_ref15_Same #[(agS A2 x26), (agS A2 x27)] h25 fun b29 h28 =>
  ifB b2 (
    ifB (n13 == (0 : Int)) (
      ifB (n22 == (0 : Int)) (
        ifB (s12.toList == s17.toList) (
          Q (.bool b29) h28) (
          Q (.bool false) h28)) (
        Q (.bool false) h28)) (
      Q (.bool false) h28)) (
    Q (.bool false) h28)
noncomputable def tab_law15_ModelBack : Tab := { sch := lookT .done [], lp := lookT [] [], jn := lookT none [] }
theorem eq_law15_ModelBack (l_0_p : Option Addr) (l_0_n : Nat) (l_0_c : Nat) (h : Heap) (Q : Value → Heap → Prop) : fnI P Try.f5 tab_law15_ModelBack [(.slice l_0_p l_0_n l_0_c)] h Q = law15_ModelBack l_0_p l_0_n l_0_c h Q := by kernel_rfl
theorem ok_law15_ModelBack : fnOk P Try.f5 tab_law15_ModelBack = true := by kernel_rfl
theorem call_law15_ModelBack (l_0_p : Option Addr) (l_0_n : Nat) (l_0_c : Nat) {h : Heap} {Q : Value → Heap → Prop} (H : law15_ModelBack l_0_p l_0_n l_0_c h Q) : callP P n_law15_ModelBack #[(.slice l_0_p l_0_n l_0_c)] h Q :=
  @callP_of P n_law15_ModelBack Try.f5 tab_law15_ModelBack [(.slice l_0_p l_0_n l_0_c)] h Q mixed Try.func5 Try.call5 ok_law15_ModelBack (Eq.mpr (eq_law15_ModelBack l_0_p l_0_n l_0_c h Q) H)

/-! ### earshot/earshotlaw15.once: function 16 -/
def law15_once (s_0 : ByteArray) (h : Heap) (Q : Value → Heap → Prop) : Prop :=
  callP P n_model_Decode #[(.string s_0)] h fun v2 h1 =>
  exS A2 fun x3 => ∃ n4 : Int, v2 = (.tuple #[(agS A2 x3), (.int .i64 n4)]) ∧
  newI h1 (.cells (mkS' A2 (zT A2)).toArray 27 (0, 0)) fun b5 h6 =>
  storeL (mkS' A2 x3) h6 ⟨b5, 0, none⟩ 0 fun h7 =>
  ldAg A2 h7 ⟨b5, 0, none⟩ fun x8 =>
  callP P n_model_Encode #[(agS A2 x8)] h7 fun v10 h9 =>
  ∃ s11 : ByteArray, ∃ n12 : Int, v10 = (.tuple #[(.string s11), (.int .i64 n12)]) ∧
  ifB (n4 != (0 : Int)) (
    Q (.bool true) h9) (
    ifB (n12 == (0 : Int)) (
      Q (.bool (s11.toList == s_0.toList)) h9) (
      Q (.bool false) h9))
noncomputable def tab_law15_once : Tab := { sch := lookT .done [], lp := lookT [] [], jn := lookT none [] }
theorem eq_law15_once (s_0 : ByteArray) (h : Heap) (Q : Value → Heap → Prop) : fnI P Try.f16 tab_law15_once [(.string s_0)] h Q = law15_once s_0 h Q := by kernel_rfl
theorem ok_law15_once : fnOk P Try.f16 tab_law15_once = true := by kernel_rfl
theorem call_law15_once (s_0 : ByteArray) {h : Heap} {Q : Value → Heap → Prop} (H : law15_once s_0 h Q) : callP P n_law15_once #[(.string s_0)] h Q :=
  @callP_of P n_law15_once Try.f16 tab_law15_once [(.string s_0)] h Q mixed Try.func16 Try.call16 ok_law15_once (Eq.mpr (eq_law15_once s_0 h Q) H)

/-! ### earshot/earshotlaw15.ModelOnce: function 6 -/
def law15_ModelOnce (raw_0 : ByteArray) (l_1_p : Option Addr) (l_1_n : Nat) (l_1_c : Nat) (q_2_0 : Int) (q_2_1 : Int) (q_2_2 : Int) (h : Heap) (Q : Value → Heap → Prop) : Prop :=
  newI h (.cells #[(.int .i64 q_2_0), (.int .i64 q_2_1), (.int .i64 q_2_2)] 36 (0, 0)) fun b1 h2 =>
  callBool P n_law15_awake #[] h2 fun b4 h3 =>
  ifB (decide (((raw_0.size : Nat) : Int) > (80 : Int))) (
    bndI (80 : Int) raw_0.size fun l5 =>
    callP P n_ref15_Made #[(.slice l_1_p l_1_n l_1_c)] h3 fun v7 h6 =>
    exS A2 fun x8 => v7 = (agS A2 x8) ∧
    callP P n_ref15_Encode #[(agS A2 x8)] h6 fun v10 h9 =>
    ∃ s11 : ByteArray, ∃ n12 : Int, v10 = (.tuple #[(.string s11), (.int .i64 n12)]) ∧
    ifB b4 (
      addStrI (ByteArray.mk #[69, 65, 82, 49]) (raw_0.extract 0 l5) fun _ =>
      callBool P n_law15_once #[(.string ((ByteArray.mk #[69, 65, 82, 49]) ++ (raw_0.extract 0 l5)))] h9 fun b14 h13 =>
      ifB b14 (
        ldInt .i64 h13 ⟨b1, 0, none⟩ fun n15 =>
        ldInt .i64 h13 ⟨b1, 1, none⟩ fun n16 =>
        ldInt .i64 h13 ⟨b1, 2, none⟩ fun n17 =>
        callStr P n_law15_spoilt #[(.string s11), (.agg #[(.int .i64 n15), (.int .i64 n16), (.int .i64 n17)])] h13 fun s19 h18 =>
        callBool P n_law15_once #[(.string s19)] h18 fun b21 h20 =>
        ifB b21 (
          callBool P n_law15_once #[(.string s11)] h20 fun b23 h22 =>
          Q (.bool b23) h22) (
          Q (.bool false) h20)) (
        Q (.bool false) h13)) (
      Q (.bool false) h9)) (
    callP P n_ref15_Made #[(.slice l_1_p l_1_n l_1_c)] h3 fun v25 h24 =>
    exS A2 fun x26 => v25 = (agS A2 x26) ∧
    callP P n_ref15_Encode #[(agS A2 x26)] h24 fun v28 h27 =>
    ∃ s29 : ByteArray, ∃ n30 : Int, v28 = (.tuple #[(.string s29), (.int .i64 n30)]) ∧
    ifB b4 (
      addStrI (ByteArray.mk #[69, 65, 82, 49]) raw_0 fun _ =>
      callBool P n_law15_once #[(.string ((ByteArray.mk #[69, 65, 82, 49]) ++ raw_0))] h27 fun b32 h31 =>
      ifB b32 (
        ldInt .i64 h31 ⟨b1, 0, none⟩ fun n33 =>
        ldInt .i64 h31 ⟨b1, 1, none⟩ fun n34 =>
        ldInt .i64 h31 ⟨b1, 2, none⟩ fun n35 =>
        callStr P n_law15_spoilt #[(.string s29), (.agg #[(.int .i64 n33), (.int .i64 n34), (.int .i64 n35)])] h31 fun s37 h36 =>
        callBool P n_law15_once #[(.string s37)] h36 fun b39 h38 =>
        ifB b39 (
          callBool P n_law15_once #[(.string s29)] h38 fun b41 h40 =>
          Q (.bool b41) h40) (
          Q (.bool false) h38)) (
        Q (.bool false) h31)) (
      Q (.bool false) h27))
noncomputable def tab_law15_ModelOnce : Tab := { sch := lookT .done [], lp := lookT [] [], jn := lookT none [] }
theorem eq_law15_ModelOnce (raw_0 : ByteArray) (l_1_p : Option Addr) (l_1_n : Nat) (l_1_c : Nat) (q_2_0 : Int) (q_2_1 : Int) (q_2_2 : Int) (h : Heap) (Q : Value → Heap → Prop) : fnI P Try.f6 tab_law15_ModelOnce [(.string raw_0), (.slice l_1_p l_1_n l_1_c), (.agg #[(.int .i64 q_2_0), (.int .i64 q_2_1), (.int .i64 q_2_2)])] h Q = law15_ModelOnce raw_0 l_1_p l_1_n l_1_c q_2_0 q_2_1 q_2_2 h Q := by kernel_rfl
theorem ok_law15_ModelOnce : fnOk P Try.f6 tab_law15_ModelOnce = true := by kernel_rfl
theorem call_law15_ModelOnce (raw_0 : ByteArray) (l_1_p : Option Addr) (l_1_n : Nat) (l_1_c : Nat) (q_2_0 : Int) (q_2_1 : Int) (q_2_2 : Int) {h : Heap} {Q : Value → Heap → Prop} (H : law15_ModelOnce raw_0 l_1_p l_1_n l_1_c q_2_0 q_2_1 q_2_2 h Q) : callP P n_law15_ModelOnce #[(.string raw_0), (.slice l_1_p l_1_n l_1_c), (.agg #[(.int .i64 q_2_0), (.int .i64 q_2_1), (.int .i64 q_2_2)])] h Q :=
  @callP_of P n_law15_ModelOnce Try.f6 tab_law15_ModelOnce [(.string raw_0), (.slice l_1_p l_1_n l_1_c), (.agg #[(.int .i64 q_2_0), (.int .i64 q_2_1), (.int .i64 q_2_2)])] h Q mixed Try.func6 Try.call6 ok_law15_ModelOnce (Eq.mpr (eq_law15_ModelOnce raw_0 l_1_p l_1_n l_1_c q_2_0 q_2_1 q_2_2 h Q) H)

/-! ### earshot/earshotlaw15.ModelShort: function 7 -/
def law15_ModelShort (l_0_p : Option Addr) (l_0_n : Nat) (l_0_c : Nat) (cut_1 : Int) (more_2 : Int) (h : Heap) (Q : Value → Heap → Prop) : Prop :=
  callBool P n_law15_awake #[] h fun b2 h1 =>
  callP P n_ref15_Made #[(.slice l_0_p l_0_n l_0_c)] h1 fun v4 h3 =>
  exS A2 fun x5 => v4 = (agS A2 x5) ∧
  callP P n_ref15_Encode #[(agS A2 x5)] h3 fun v7 h6 =>
  ∃ s8 : ByteArray, ∃ n9 : Int, v7 = (.tuple #[(.string s8), (.int .i64 n9)]) ∧
  neI ((s8.size : Nat) : Int) fun _ =>
  neI ((s8.size : Nat) : Int) fun _ =>
  bndI (Int.tmod (IntKind.wrap .i64 ((Int.tmod cut_1 ((s8.size : Nat) : Int)) + ((s8.size : Nat) : Int))) ((s8.size : Nat) : Int)) s8.size fun l10 =>
  callP P n_model_Decode #[(.string (s8.extract 0 l10))] h6 fun v12 h11 =>
  exS A2 fun x13 => ∃ n14 : Int, v12 = (.tuple #[(agS A2 x13), (.int .i64 n14)]) ∧
  newI h11 (.cells (mkS' A2 (zT A2)).toArray 27 (0, 0)) fun b15 h16 =>
  storeL (mkS' A2 x13) h16 ⟨b15, 0, none⟩ 0 fun h17 =>
  newI h17 (.cells #[(.int .u8 more_2)] 5 (0, 0)) fun b18 h19 =>
  b2sB (some ⟨b18, 0, none⟩) 1 h19 fun s20 =>
  ∃ s21 : ByteArray, Value.string s20 = Value.string s21 ∧
  addStrI s8 s21 fun _ =>
  callP P n_model_Decode #[(.string (s8 ++ s21))] h19 fun v23 h22 =>
  exS A2 fun x24 => ∃ n25 : Int, v23 = (.tuple #[(agS A2 x24), (.int .i64 n25)]) ∧
  newI h22 (.cells (mkS' A2 (zT A2)).toArray 27 (0, 0)) fun b26 h27 =>
  storeL (mkS' A2 x24) h27 ⟨b26, 0, none⟩ 0 fun h28 =>
  ifB (decide ((Int.tmod (IntKind.wrap .i64 ((Int.tmod cut_1 ((s8.size : Nat) : Int)) + ((s8.size : Nat) : Int))) ((s8.size : Nat) : Int)) < (4 : Int))) (
    ifB b2 (
      ifB (n14 == (10 : Int)) (
        ldSlice h28 ⟨b15, 3, none⟩ fun p29 l29 c29 =>
        ifB (((l29 : Nat) : Int) == (0 : Int)) (
          ldInt .i64 h28 ⟨b15, 0, none⟩ fun n30 =>
          ifB (n30 == (0 : Int)) (
            Q (.bool (n25 == (10 : Int))) h28) (
            Q (.bool false) h28)) (
          Q (.bool false) h28)) (
        Q (.bool false) h28)) (
      Q (.bool false) h28)) (
    ifB b2 (
      ifB (n14 == (11 : Int)) (
        ldSlice h28 ⟨b15, 3, none⟩ fun p31 l31 c31 =>
        ifB (((l31 : Nat) : Int) == (0 : Int)) (
          ldInt .i64 h28 ⟨b15, 0, none⟩ fun n32 =>
          ifB (n32 == (0 : Int)) (
            Q (.bool (n25 == (10 : Int))) h28) (
            Q (.bool false) h28)) (
          Q (.bool false) h28)) (
        Q (.bool false) h28)) (
      Q (.bool false) h28))
noncomputable def tab_law15_ModelShort : Tab := { sch := lookT .done [], lp := lookT [] [], jn := lookT none [] }
theorem eq_law15_ModelShort (l_0_p : Option Addr) (l_0_n : Nat) (l_0_c : Nat) (cut_1 : Int) (more_2 : Int) (h : Heap) (Q : Value → Heap → Prop) : fnI P Try.f7 tab_law15_ModelShort [(.slice l_0_p l_0_n l_0_c), (.int .i64 cut_1), (.int .u8 more_2)] h Q = law15_ModelShort l_0_p l_0_n l_0_c cut_1 more_2 h Q := by kernel_rfl
theorem ok_law15_ModelShort : fnOk P Try.f7 tab_law15_ModelShort = true := by kernel_rfl
theorem call_law15_ModelShort (l_0_p : Option Addr) (l_0_n : Nat) (l_0_c : Nat) (cut_1 : Int) (more_2 : Int) {h : Heap} {Q : Value → Heap → Prop} (H : law15_ModelShort l_0_p l_0_n l_0_c cut_1 more_2 h Q) : callP P n_law15_ModelShort #[(.slice l_0_p l_0_n l_0_c), (.int .i64 cut_1), (.int .u8 more_2)] h Q :=
  @callP_of P n_law15_ModelShort Try.f7 tab_law15_ModelShort [(.slice l_0_p l_0_n l_0_c), (.int .i64 cut_1), (.int .u8 more_2)] h Q mixed Try.func7 Try.call7 ok_law15_ModelShort (Eq.mpr (eq_law15_ModelShort l_0_p l_0_n l_0_c cut_1 more_2 h Q) H)

end Go.Proofs.Ytdjofpdmdbcgjad.G
