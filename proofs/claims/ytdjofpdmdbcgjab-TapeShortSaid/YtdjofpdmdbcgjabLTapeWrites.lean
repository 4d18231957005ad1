/- The law TapeWrites, over heaps. -/
import Derived.Test.YtdjofpdmdbcgjabCTape2
namespace Go.Proofs.Ytdjofpdmdbcgjab.G
open Go Go.Sh
set_option linter.unusedVariables false

/-- A script, in memory. -/
def Script (h : Heap) (p : Option Addr) (its : List It) : Prop := Row h p (its.map It.cells).flatten ∧ ∀ q ∈ its, q.ok ∧ q.row.P h

theorem Script.sep {h : Heap} {p : Option Addr} {its : List It} (s : Script h p its) : Sep h no h [] [row p (its.map It.cells).flatten, reads (its.map It.row)] :=
  ((Sep.start h no).read (row p (its.map It.cells).flatten) s.1).read (reads (its.map It.row)) fun f hf => by
    obtain ⟨q, hq, rfl⟩ := List.mem_map.1 hf
    exact (s.2 q hq).2

theorem it_cells {h : Heap} {a : Addr} {its : List It} {i : Nat} (hi : i < its.length) (r : Row h (some a) (its.map It.cells).flatten) :
    cellH h (Addr.add a (i * 3)) = some (.int .i64 its[i].kind) ∧ cellH h (Addr.add (Addr.add a (i * 3)) 1) = some (.int .i64 its[i].n) ∧
    cellH h (Addr.add (Addr.add a (i * 3)) 2) = some (.slice its[i].p its[i].l its[i].c) := by
  have key := fun j => flat_at It.cells 3 It.cells_length its i j its[i] (List.getElem?_eq_getElem hi)
  refine ⟨r.cell (i := i * 3) ?_, ?_, ?_⟩
  · have := key 0 (by decide); rw [Nat.add_zero] at this; rw [this]; rfl
  · rw [add_add _ _ (by decide)]; exact r.cell (by rw [key 1 (by decide)]; rfl)
  · rw [add_add _ _ (by decide)]; exact r.cell (by rw [key 2 (by decide)]; rfl)

/-- The bytes of some items. -/
def allB (its : List It) : List UInt8 := its.flatMap It.bytes
theorem allB_snoc {its : List It} {i : Nat} (hi : i < its.length) : allB (its.take (i + 1)) = allB (its.take i) ++ its[i].bytes := by
  rw [List.take_succ_eq_append_getElem hi]
  unfold allB
  rw [List.flatMap_append]; simp only [List.flatMap_cons, List.flatMap_nil, List.append_nil]
theorem allB_length (its : List It) : (allB its).length ≤ 38 * its.length := by
  induction its with
  | nil => simp [allB]
  | cons q r ih =>
    have := q.bytes_length
    simp only [allB, List.flatMap_cons, List.length_append, List.length_cons] at *
    omega

theorem TapeWrites_ok {h : Heap} {p : Option Addr} {l c : Nat} {its : List It} (hs : Script h p its) (hl : its.length = l) (hl2 : l < 2 ^ 63) :
    callP P n_law06_TapeWrites #[.slice p l c] h fun v h' => v = .bool true ∧ Fra no h h' := by
  refine call_law06_TapeWrites _ _ _ ?_
  unfold law06_TapeWrites
  have S := hs.sep
  refine (awake06_ok).mono ?_
  rintro _ _ ⟨rfl, F⟩
  refine ⟨_, rfl, ?_⟩
  replace S := S.fra0 F
  refine newI_S S (fun b3 _ _ S => ?_)
  replace S := S.nil 1
  refine LoopS_i (fun m s g => ∃ (i : Nat) (q : Option Addr) (e : Nat), s = ((p, l, c), true, ⟨b3, 0, none⟩, str (allB (its.take i)), (i : Int), ()) ∧ i ≤ l ∧ i ≤ 30 ∧ m = 30 - i ∧
    Sep h no g [wr b3 (allB (its.take i)).length q (allB (its.take i)).length e, own 1 q (allB (its.take i)).length e (u8s (allB (its.take i)))] [row p (its.map It.cells).flatten, reads (its.map It.row)]) 30
    ⟨0, none, 0, rfl, by omega, by omega, rfl, S⟩ ?_
  rintro m s g ⟨i, q, e, rfl, hi, hi2, rfl, S⟩
  unfold law06_TapeWrites_l5
  dsimp only
  have hlen := allB_length (its.take i)
  rw [List.length_take, Nat.min_eq_left (by omega)] at hlen
  have fin : ifB true (callStr P n_tape_Writer_Text #[.pointer (some ⟨b3, 0, none⟩)] g fun s15 h14 => (Value.bool (s15.toList == (str (allB (its.take i))).toList) = .bool true ∧ Fra no h h14)) (Value.bool false = .bool true ∧ Fra no h g) := by
    refine ifB_true rfl ?_
    refine (Text_ok S).mono ?_
    rintro _ _ ⟨rfl, rfl⟩
    exact ⟨_, rfl, by rw [toList_beq]; simp, S.fra⟩
  refine ifB_dec (fun h1 => ifB_dec (fun h2 => ?_) fun _ => fin) fun _ => fin
  have hlt : i < its.length := by omega
  obtain ⟨a, rfl⟩ := (S.row 0 rfl).some_of (by rw [flat_len It.cells 3 It.cells_length]; omega)
  obtain ⟨k1, k2, k3⟩ := it_cells hlt (S.row 0 rfl)
  refine idxI_i rfl rfl (by omega) ?_
  simp only [Int.toNat_natCast]
  refine ldInt_i k1 (ldInt_i k2 (ldSlice_i k3 ?_))
  have hmem : its[i] ∈ its := List.getElem_mem hlt
  refine (write_S its[i] (hs.2 _ hmem).1 ((S.into [0, 1] [] [1]).oneOf 0 (List.mem_map.2 ⟨_, hmem, rfl⟩)) (by omega) (by omega)).mono ?_
  rintro _ g1 ⟨rfl, p1, c1, S1⟩
  refine ⟨_, rfl, ?_⟩
  replace S := S.back [0, 1] S1
  have hb := its[i].bytes_length
  refine addStrI_i (by rw [str_size, str_size]; omega) ?_
  rw [str_append, ← allB_snoc hlt]
  have hl' : (allB (its.take (i + 1))).length = (allB (its.take i)).length + its[i].bytes.length := by rw [allB_snoc hlt, List.length_append]
  refine (At_ok (S.cell 0 rfl rfl)).mono ?_
  rintro _ _ ⟨rfl, rfl⟩
  refine ⟨_, rfl, ?_⟩
  rw [str_size, wrap64_in (by omega)]
  refine ifB_false (by simp; omega) ?_
  refine ⟨30 - (i + 1), by omega, i + 1, p1, c1, rfl, by omega, by omega, rfl, ?_⟩
  rw [← allB_snoc hlt] at S
  rw [hl', Int.natCast_add]
  exact S

end Go.Proofs.Ytdjofpdmdbcgjab.G
