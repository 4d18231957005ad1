/- Contracts: more of package tape's reader, and of the document's. -/
import Derived.Test.YtdjofpdmdbcgjadCTapeX3
namespace Go.Proofs.Ytdjofpdmdbcgjad.G
open Go Go.Sh
set_option linter.unusedVariables false

/-- 32 bits as a number. -/
def sgn (x : Int) : Int := IntKind.wrap .i32 x
theorem sgn_range (x : Int) : -2147483648 ≤ sgn x ∧ sgn x < 2147483648 := by unfold sgn; rw [wrap_i32]; omega

/-- n words, if there are so many. -/
def rw (s : List UInt8) : Nat → St → Option (List Int) × St
  | 0, t => (some [], t)
  | n + 1, t => if (rget s t 4).2.err ≠ 0 then (none, (rget s t 4).2) else ((rw s n (rget s t 4).2).1.map (sgn (rget s t 4).1 :: ·), (rw s n (rget s t 4).2).2)
/-- A row. -/
def rrow (s : List UInt8) (t : St) : List Int × St := ((rw s (rget s t 2).1.toNat (rget s t 2).2).1.getD [], (rw s (rget s t 2).1.toNat (rget s t 2).2).2)

theorem rw_ok {s : List UInt8} : ∀ (n : Nat) {t : St}, t.ok s → (rw s n t).2.ok s
  | 0, _, h => h
  | n + 1, t, h => by
    simp only [rw]
    split
    · exact rget_ok h 4
    · exact rw_ok n (rget_ok h 4)
theorem rrow_ok {s : List UInt8} {t : St} (h : t.ok s) : (rrow s t).2.ok s := rw_ok _ (rget_ok h 2)

section
variable {h : Heap} {T : Nat → Prop} {b : Nat} {s : List UInt8} {t : St}

theorem Read_S (s : List UInt8) : callP P n_tape_Read #[.string (str s)] h fun v h' => ∃ b, v = .pointer (some ⟨b, 0, none⟩) ∧ Sep h no h' [rd b 0 s 0] [] := by
  refine call_tape_Read _ ?_
  unfold tape_Read
  have S := Sep.start h no
  refine newI_S S (fun b1 _ _ S => ?_)
  exact ⟨b1, rfl, S⟩
theorem dRead_S (s : List UInt8) : callP P n_ref06_Read #[.string (str s)] h fun v h' => ∃ b, v = .pointer (some ⟨b, 0, none⟩) ∧ Sep h no h' [rf b 0 s 0] [] := by
  refine call_ref06_Read _ ?_
  unfold ref06_Read
  have S := Sep.start h no
  refine newI_S S (fun b1 _ _ S => ?_)
  exact ⟨b1, rfl, S⟩

theorem rErr_ok {x : Int} (hc : cellH h ⟨b, 2, none⟩ = some (.int .i64 x)) : callP P n_tape_Reader_Err #[.pointer (some ⟨b, 0, none⟩)] h fun v h' => v = .int .i64 x ∧ h' = h := by
  refine call_tape_Reader_Err _ ?_
  unfold tape_Reader_Err
  refine ifB_false rfl (nilI_some ?_)
  exact ldInt_i hc ⟨rfl, rfl⟩

theorem rByte_S (S : Sep h T h [rd b t.at_ s t.err] []) (ht : t.ok s) (hs : s.length < 2 ^ 62) :
    callP P n_tape_Reader_Byte #[.pointer (some ⟨b, 0, none⟩)] h fun v h' => v = .int .i64 (rget s t 1).1 ∧ Sep h T h' [rd b (rget s t 1).2.at_ s (rget s t 1).2.err] [] := by
  refine call_tape_Reader_Byte _ ?_
  unfold tape_Reader_Byte
  refine (get_S (n := 1) S ht hs (by decide)).mono ?_
  rintro _ _ ⟨rfl, S⟩
  have := rget_range s t 1
  exact ⟨_, rfl, by rw [wrap64_in (by omega)], S⟩
theorem rShort_S (S : Sep h T h [rd b t.at_ s t.err] []) (ht : t.ok s) (hs : s.length < 2 ^ 62) :
    callP P n_tape_Reader_Short #[.pointer (some ⟨b, 0, none⟩)] h fun v h' => v = .int .i64 (rget s t 2).1 ∧ Sep h T h' [rd b (rget s t 2).2.at_ s (rget s t 2).2.err] [] := by
  refine call_tape_Reader_Short _ ?_
  unfold tape_Reader_Short
  refine (get_S (n := 2) S ht hs (by decide)).mono ?_
  rintro _ _ ⟨rfl, S⟩
  have := rget_range s t 2
  exact ⟨_, rfl, by rw [wrap64_in (by omega)], S⟩
theorem rWord_S (S : Sep h T h [rd b t.at_ s t.err] []) (ht : t.ok s) (hs : s.length < 2 ^ 62) :
    callP P n_tape_Reader_Word #[.pointer (some ⟨b, 0, none⟩)] h fun v h' => v = .int .i64 (sgn (rget s t 4).1) ∧ Sep h T h' [rd b (rget s t 4).2.at_ s (rget s t 4).2.err] [] := by
  refine call_tape_Reader_Word _ ?_
  unfold tape_Reader_Word
  refine (get_S (n := 4) S ht hs (by decide)).mono ?_
  rintro _ _ ⟨rfl, S⟩
  have := sgn_range (rget s t 4).1
  exact ⟨_, rfl, by rw [wrap64_in (by unfold sgn at this; omega)]; rfl, S⟩
theorem dWord_S (S : Sep h T h [rf b t.at_ s t.err] []) (ht : t.ok s) (hs : s.length < 2 ^ 62) :
    callP P n_ref06_Reader_Word #[.pointer (some ⟨b, 0, none⟩)] h fun v h' => v = .int .i64 (sgn (rget s t 4).1) ∧ Sep h T h' [rf b (rget s t 4).2.at_ s (rget s t 4).2.err] [] := by
  refine call_ref06_Reader_Word _ ?_
  unfold ref06_Reader_Word
  refine (Num_S (n := 4) S ht hs (by decide)).mono ?_
  rintro _ _ ⟨rfl, S⟩
  refine ⟨_, rfl, ?_⟩
  have hr := rget_range s t 4
  dsimp only
  rw [wrap64_in (by omega)]
  refine ifB_dec (fun hge => ⟨?_, S⟩) (fun hlt => ⟨?_, S⟩)
  · rw [wrap64_in (by omega)]; unfold sgn; rw [wrap_i32]; congr 1; omega
  · unfold sgn; rw [wrap_i32]; congr 1; omega

theorem rRow_S (S : Sep h T h [rd b t.at_ s t.err] []) (ht : t.ok s) (hs : s.length < 2 ^ 62) :
    callP P n_tape_Reader_Row #[.pointer (some ⟨b, 0, none⟩)] h fun v h' => ∃ p l c, v = .slice p l c ∧ l = (rrow s t).1.length ∧ Sep h T h' [rd b (rrow s t).2.at_ s (rrow s t).2.err, own 1 p l c (ints (rrow s t).1)] [] := by
  refine call_tape_Reader_Row _ ?_
  unfold tape_Reader_Row
  refine (rShort_S S ht hs).mono ?_
  rintro _ g ⟨rfl, S⟩
  refine ⟨_, rfl, ?_⟩
  have hr := rget_range s t 2
  have ht1 := rget_ok ht 2
  have hdef : rrow s t = ((rw s (rget s t 2).1.toNat (rget s t 2).2).1.getD [], (rw s (rget s t 2).1.toNat (rget s t 2).2).2) := rfl
  generalize (rget s t 2).2 = t1 at *
  generalize hn : (rget s t 2).1.toNat = n at *
  rw [show (rget s t 2).1 = (n : Int) by omega]
  replace S := S.nil 1
  refine LoopS_i (fun m s' g' => ∃ (i : Nat) (p : Option Addr) (c : Nat) (acc : List Int) (ti : St), s' = (some ⟨b, 0, none⟩, (p, i, c), (n : Int), (i : Int), ()) ∧ i ≤ n ∧ m = n - i ∧ acc.length = i ∧ ti.ok s ∧
    rw s n t1 = ((rw s (n - i) ti).1.map (acc ++ ·), (rw s (n - i) ti).2) ∧ Sep h T g' [rd b ti.at_ s ti.err, own 1 p i c (ints acc)] []) n
    ⟨0, none, 0, [], t1, rfl, by omega, rfl, rfl, ht1, by simp, S⟩ ?_
  rintro m s' g' ⟨i, p, c, acc, ti, rfl, hi, rfl, ha, hti, hrw, S⟩
  unfold tape_Reader_Row_l3
  dsimp only
  refine ifB_dec (fun hlt => ?_) (fun hge => ?_)
  · refine (rWord_S (t := ti) (S.into [0] [] []) hti hs).mono ?_
    rintro _ g2 ⟨rfl, S1⟩
    refine ⟨_, rfl, ?_⟩
    replace S := S.back [0] S1
    refine (rErr_ok (S.cell 0 rfl rfl)).mono ?_
    rintro _ _ ⟨rfl, rfl⟩
    refine ⟨_, rfl, ?_⟩
    obtain ⟨k, hk⟩ : ∃ k, n - i = k + 1 := ⟨n - i - 1, by omega⟩
    rw [hk] at hrw
    simp only [rw] at hrw
    refine ifB_i (fun hne => ?_) (fun he => ?_)
    · have hne : (rget s ti 4).2.err ≠ 0 := by simpa using hne
      rw [if_pos hne] at hrw
      rw [hdef, hrw]
      refine ⟨none, 0, 0, rfl, rfl, ?_⟩
      exact (S.nil 1).pick [0, 2] []
    · have he : ¬ (rget s ti 4).2.err ≠ 0 := by simpa using he
      rw [if_neg he] at hrw
      refine newI_S S (fun b8 _ _ S => ?_)
      refine appI_S S 1 (ys := ints [sgn (rget s ti 4).1]) rfl rfl (by decide) (by omega) (Row.of_at (S.at 2 rfl)) rfl (by simp [ints, one1]) fun p' l' c' h' hl' S => ?_
      rw [wrap64_in (by omega)]
      subst hl'
      refine ⟨n - (i + 1), by omega, i + 1, p', c', acc ++ [sgn (rget s ti 4).1], (rget s ti 4).2, rfl, by omega, rfl, by simp [ha], rget_ok hti 4, ?_, ?_⟩
      · rw [show n - (i + 1) = k by omega, hrw]
        simp [Function.comp_def]
      · have e : ints acc ++ ints [sgn (rget s ti 4).1] = ints (acc ++ [sgn (rget s ti 4).1]) := by simp [ints]
        rw [e] at S
        exact S.pick [0, 1] []
  · have hin : i = n := by omega
    subst hin
    rw [Nat.sub_self] at hrw
    simp only [rw] at hrw
    rw [hdef, hrw]
    refine ⟨p, i, c, rfl, ?_, ?_⟩
    · simp [ha]
    · simp only [Option.map_some, Option.getD_some, List.append_nil]; exact S

theorem dRow_S (S : Sep h T h [rf b t.at_ s t.err] []) (ht : t.ok s) (hs : s.length < 2 ^ 62) :
    callP P n_ref06_Reader_Row #[.pointer (some ⟨b, 0, none⟩)] h fun v h' => ∃ p l c, v = .slice p l c ∧ l = (rrow s t).1.length ∧ Sep h T h' [rf b (rrow s t).2.at_ s (rrow s t).2.err, own 1 p l c (ints (rrow s t).1)] [] := by
  refine call_ref06_Reader_Row _ ?_
  unfold ref06_Reader_Row
  refine (Num_S (n := 2) S ht hs (by decide)).mono ?_
  rintro _ g ⟨rfl, S⟩
  refine ⟨_, rfl, ?_⟩
  have hr := rget_range s t 2
  have ht1 := rget_ok ht 2
  have herr : (rget s t 2).2.err ≠ 0 → (rget s t 2).1 = 0 := by
    unfold rget
    split
    · intro _; rfl
    · split
      · intro _; rfl
      · intro h; exact absurd rfl h
  have hdef : rrow s t = ((rw s (rget s t 2).1.toNat (rget s t 2).2).1.getD [], (rw s (rget s t 2).1.toNat (rget s t 2).2).2) := rfl
  dsimp only
  rw [wrap64_in (by omega)]
  generalize (rget s t 2).2 = t1 at *
  generalize hn : (rget s t 2).1.toNat = n at *
  rw [show (rget s t 2).1 = (n : Int) by omega]
  replace S := S.nil 1
  refine LoopS_i (fun m s' g' => ∃ (i : Nat) (p : Option Addr) (l c : Nat) (acc : List Int) (ti : St), s' = (some ⟨b, 0, none⟩, (n : Int), (p, l, c), (i : Int), ()) ∧ i ≤ n ∧ m = n - i ∧ l = i ∧ acc.length = l ∧ ti.ok s ∧
    (ti.err = 0 → rw s n t1 = ((rw s (n - i) ti).1.map (acc ++ ·), (rw s (n - i) ti).2)) ∧ (ti.err ≠ 0 → ((rw s n t1).1.getD [] = [] ∧ (rw s n t1).2 = ti)) ∧ Sep h T g' [rf b ti.at_ s ti.err, own 1 p l c (ints acc)] []) n
    ⟨0, none, 0, 0, [], t1, rfl, by omega, rfl, rfl, rfl, ht1, by simp, fun hne => ?_, S⟩ ?_
  · have h0 := herr hne
    have : n = 0 := by omega
    subst this
    exact ⟨rfl, rfl⟩
  rintro m s' g' ⟨i, p, l, c, acc, ti, rfl, hi, rfl, rfl, ha, hti, hrw, hrw2, S⟩
  unfold ref06_Reader_Row_l4
  dsimp only
  refine ifB_dec (fun hlt => ?_) (fun hge => ?_)
  · (repeat (first | with_reducible refine nilI_some ?_ | ((with_reducible refine ldInt_id ?_); refine ldInt_i (S.cell 0 rfl rfl) ?_)))
    refine ifB_i (fun he => ?_) (fun hne => ?_)
    · have he : ti.err = 0 := by simpa using he
      have hrw := hrw he
      refine (dWord_S (t := ti) (S.into [0] [] []) hti hs).mono ?_
      rintro _ g2 ⟨rfl, S1⟩
      refine ⟨_, rfl, ?_⟩
      replace S := S.back [0] S1
      obtain ⟨k, hk⟩ : ∃ k, n - l = k + 1 := ⟨n - l - 1, by omega⟩
      rw [hk] at hrw
      simp only [rw] at hrw
      refine newI_S S (fun b8 _ _ S => ?_)
      refine appI_S S 1 (ys := ints [sgn (rget s ti 4).1]) rfl rfl (by decide) (by omega) (Row.of_at (S.at 2 rfl)) rfl (by simp [ints, one1]) fun p' l' c' h' hl' S => ?_
      rw [wrap64_in (by omega)]
      refine ⟨n - (l + 1), by omega, l + 1, p', l', c', acc ++ [sgn (rget s ti 4).1], (rget s ti 4).2, rfl, by omega, rfl, hl', by simp; omega, rget_ok hti 4, fun he2 => ?_, fun hne2 => ?_, ?_⟩
      · rw [if_neg (by simpa using he2)] at hrw
        rw [show n - (l + 1) = k by omega, hrw]
        simp [Function.comp_def]
      · rw [if_pos hne2] at hrw
        rw [hrw]
        exact ⟨rfl, rfl⟩
      · have e : ints acc ++ ints [sgn (rget s ti 4).1] = ints (acc ++ [sgn (rget s ti 4).1]) := by simp [ints]
        rw [e] at S
        exact S.pick [0, 1] []
    · have hne : ti.err ≠ 0 := by simpa using hne
      obtain ⟨h1, h2⟩ := hrw2 hne
      (repeat (first | with_reducible refine nilI_some ?_ | ((with_reducible refine ldInt_id ?_); refine ldInt_i (S.cell 0 rfl rfl) ?_)))
      refine ifB_true (by simpa using hne) ?_
      rw [hdef, h1, h2]
      exact ⟨none, 0, 0, rfl, rfl, (S.nil 1).pick [0, 2] []⟩
  · have hin : l = n := by omega
    (repeat (first | with_reducible refine nilI_some ?_ | ((with_reducible refine ldInt_id ?_); refine ldInt_i (S.cell 0 rfl rfl) ?_)))
    refine ifB_i (fun hne => ?_) (fun he => ?_)
    · have hne : ti.err ≠ 0 := by simpa using hne
      obtain ⟨h1, h2⟩ := hrw2 hne
      rw [hdef, h1, h2]
      exact ⟨none, 0, 0, rfl, rfl, (S.nil 1).pick [0, 2] []⟩
    · have he : ti.err = 0 := by simpa using he
      have hrw := hrw he
      subst hin
      rw [Nat.sub_self] at hrw
      simp only [rw] at hrw
      rw [hdef, hrw]
      refine ⟨p, l, c, rfl, ?_, ?_⟩
      · simp [ha]
      · simp only [Option.map_some, Option.getD_some, List.append_nil]; exact S
end

end Go.Proofs.Ytdjofpdmdbcgjad.G
