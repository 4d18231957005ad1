/- Contracts: package tape's reader, and the document's. -/
import Derived.Test.YtdjofpdmdbcgjadCTapeX2
namespace Go.Proofs.Ytdjofpdmdbcgjad.G
open Go Go.Sh
set_option linter.unusedVariables false

/-- A reader, and the document's. -/
abbrev rd (b : Nat) (a : Nat) (s : List UInt8) (e : Int) : Fact := blk b [.int .i64 a, .string (str s), .int .i64 e]
abbrev rf (b : Nat) (a : Nat) (s : List UInt8) (e : Int) : Fact := blk b [.string (str s), .int .i64 a, .int .i64 e]

/-- What stands, and what went wrong. -/
structure St where
  at_ : Nat
  err : Int

/-- The number of the next n bytes. -/
def rget (s : List UInt8) (t : St) (n : Nat) : Int × St :=
  if t.err ≠ 0 then (0, t) else if (s.length : Int) - t.at_ < n then (0, ⟨t.at_, 11⟩) else (num ((s.drop t.at_).take n), ⟨t.at_ + n, 0⟩)
/-- Of a right state. -/
def St.ok (s : List UInt8) (t : St) : Prop := t.at_ ≤ s.length ∧ (t.err = 0 ∨ t.err = 11)
theorem rget_ok {s : List UInt8} {t : St} (h : t.ok s) (n : Nat) : (rget s t n).2.ok s := by
  unfold rget
  split
  · exact h
  · split
    · exact ⟨h.1, .inr rfl⟩
    · exact ⟨by simp only; omega, .inl rfl⟩
theorem rget_range (s : List UInt8) (t : St) (n : Nat) : 0 ≤ (rget s t n).1 ∧ (rget s t n).1 < 256 ^ n := by
  have hp : (0 : Int) < 256 ^ n := Int.pow_pos (by decide)
  unfold rget
  split
  · exact ⟨by simp, hp⟩
  · split
    · exact ⟨by simp, hp⟩
    · exact num_range' _ n (by simp; omega)

section
variable {h : Heap} {T : Nat → Prop} {b : Nat} {s : List UInt8} {t : St}

theorem rLeft_ok (hc : At h b [.int .i64 t.at_, .string (str s), .int .i64 t.err]) (ht : t.ok s) (hs : s.length < 2 ^ 62) :
    callP P n_tape_Reader_Left #[.pointer (some ⟨b, 0, none⟩)] h fun v h' => v = .int .i64 ((s.length : Int) - t.at_) ∧ h' = h := by
  have := ht.1
  refine call_tape_Reader_Left _ ?_
  unfold tape_Reader_Left
  refine ifB_false rfl (nilI_some (nilI_some (ldStr_i (hc.cell rfl) ?_)))
  refine (told_ok (hc.cell rfl)).mono ?_
  rintro _ _ ⟨rfl, rfl⟩
  refine ⟨_, rfl, hc.cell rfl, ?_, rfl⟩
  rw [str_size, wrap64_in (by omega)]

theorem dLeft_ok (hc : At h b [.string (str s), .int .i64 t.at_, .int .i64 t.err]) (ht : t.ok s) (hs : s.length < 2 ^ 62) :
    callP P n_ref06_Reader_Left #[.pointer (some ⟨b, 0, none⟩)] h fun v h' => v = .int .i64 ((s.length : Int) - t.at_) ∧ h' = h := by
  have := ht.1
  refine call_ref06_Reader_Left _ ?_
  unfold ref06_Reader_Left
  refine nilI_some (nilI_some (ldStr_i (hc.cell rfl) (ldInt_i (hc.cell rfl) ⟨?_, rfl⟩)))
  rw [str_size, wrap64_in (by omega)]

theorem get_S (S : Sep h T h [rd b t.at_ s t.err] []) (ht : t.ok s) (hs : s.length < 2 ^ 62) {n : Nat} (hn : n ≤ 8) :
    callP P n_tape_Reader_get #[.pointer (some ⟨b, 0, none⟩), .int .i64 n] h fun v h' => v = .int .u64 (rget s t n).1 ∧ Sep h T h' [rd b (rget s t n).2.at_ s (rget s t n).2.err] [] := by
  refine call_tape_Reader_get _ _ ?_
  unfold tape_Reader_get
  refine ⟨fun s' g => s' = (some ⟨b, 0, none⟩, (n : Int), ()) ∧ g = h ∧ t.err = 0, ?_, ?_⟩
  · rintro s' g ⟨rfl, rfl, he⟩
    unfold tape_Reader_get_j3
    dsimp only
    refine (rLeft_ok (S.at 0 rfl) ht hs).mono ?_
    rintro _ g ⟨rfl, rfl⟩
    refine ⟨_, rfl, ?_⟩
    have h1 := ht.1
    refine ifB_dec (fun hlt => ?_) (fun hge => ?_)
    · have e : rget s t n = (0, ⟨t.at_, 11⟩) := by unfold rget; rw [if_neg (by simpa using he), if_pos hlt]
      rw [e]
      (repeat (first | with_reducible refine nilI_some ?_ | ((with_reducible refine stI_id ?_); refine stI_S S 0 rfl (Nat.le_of_ble_eq_true rfl) (fun _ _ S => ?_); try dsimp only [List.set, List.cons_append, List.nil_append] at S)))
      exact ⟨rfl, S⟩
    · have e : rget s t n = (num ((s.drop t.at_).take n), ⟨t.at_ + n, 0⟩) := by unfold rget; rw [if_neg (by simpa using he), if_neg hge]
      rw [e]
      generalize hd : s.drop t.at_ = d
      have hdl : d.length = s.length - t.at_ := by rw [← hd, List.length_drop]
      refine LoopS_i (fun m s' g' => g' = g ∧ ∃ i : Nat, s' = (some ⟨b, 0, none⟩, (n : Int), num (d.take i), (n : Int), (i : Int), ()) ∧ i ≤ n ∧ m = n - i) n ⟨rfl, 0, by simp [num], by omega, rfl⟩ ?_
      rintro m s' g' ⟨rfl, i, rfl, hi, rfl⟩
      unfold tape_Reader_get_l8
      dsimp only
      refine ifB_dec (fun hlt => ?_) (fun hge => ?_)
      · (repeat (first | with_reducible refine nilI_some ?_ | ((with_reducible refine ldStr_id ?_); refine ldStr_i (S.cell 0 rfl rfl) ?_)))
        refine (told_ok (S.cell 0 rfl rfl)).mono ?_
        rintro _ _ ⟨rfl, rfl⟩
        refine ⟨_, rfl, ?_⟩
        (repeat (first | ((with_reducible refine and_id ?_); refine and_i (S.cell 0 rfl rfl) ?_)))
        rw [wrap64_in (by omega), wrap64_in (by omega)]
        have hdi : i < d.length := by omega
        have hb : s[t.at_ + i]? = some d[i] := by rw [← List.getElem?_drop, hd, List.getElem?_eq_getElem hdi]
        refine strI_i (k := t.at_ + i) rfl (by omega) hb ?_
        refine ⟨by omega, n - (i + 1), by omega, by trivial, i + 1, ?_, by omega, rfl⟩
        have hbr : d[i].toNat < 256 := UInt8.toNat_lt _
        have hnum := num_range' (d.take i) i (by simp; omega)
        have e1 : min (8 * (i : Int)).toNat 64 = 8 * i := by omega
        have hp : (2 : Int) ^ (8 * i) = 256 ^ i := by rw [Int.pow_mul]; rfl
        have hpb : (256 : Int) ^ (i + 1) ≤ 256 ^ 8 := by
          exact pow256_le (by omega)
        have hmul : (d[i].toNat : Int) * 256 ^ i + num (d.take i) < 256 ^ (i + 1) := by
          rw [Int.pow_succ]
          have hle : (d[i].toNat : Int) * 256 ^ i ≤ 255 * 256 ^ i := Int.mul_le_mul_of_nonneg_right (by omega) (Int.le_of_lt (Int.pow_pos (by decide)))
          omega
        have hmul0 : 0 ≤ (d[i].toNat : Int) * 256 ^ i := Int.mul_nonneg (by omega) (Int.le_of_lt (Int.pow_pos (by decide)))
        have e2 : shlI .u64 (IntKind.wrap .u64 (d[i].toNat : Int)) (8 * i) = (d[i].toNat : Int) * 2 ^ (8 * i) := by
          unfold shlI
          rw [wrap_u64 (d[i].toNat : Int), Int.emod_eq_of_lt (by omega) (by omega), hp, wrap_u64, Int.emod_eq_of_lt hmul0 (by omega)]
        rw [e1, e2, orI_add (by rw [hp]; exact hnum) (by omega) (by rw [hp]; omega), hp, ← num_take_succ (List.getElem?_eq_getElem hdi), wrap64_in (by omega)]
        rfl
      · have hin : i = n := by omega
        subst hin
        (repeat (first | with_reducible refine nilI_some ?_))
        refine (moved_S (x := (t.at_ : Int)) (i : Int) S rfl).mono ?_
        rintro _ _ ⟨rfl, S1⟩
        refine ⟨rfl, rfl, ?_⟩
        rw [wrap64_in (by omega)] at S1
        rw [he] at S1
        exact S1
  · refine ifB_false rfl ?_
    (repeat (first | with_reducible refine nilI_some ?_ | ((with_reducible refine ldInt_id ?_); refine ldInt_i (S.cell 0 rfl rfl) ?_)))
    refine ifB_i (fun hne => ?_) (fun he => ⟨rfl, rfl, by simpa using he⟩)
    have hne : t.err ≠ 0 := by simpa using hne
    have e : rget s t n = (0, t) := by unfold rget; rw [if_pos hne]
    rw [e]
    exact ⟨rfl, S⟩

theorem Num_S (S : Sep h T h [rf b t.at_ s t.err] []) (ht : t.ok s) (hs : s.length < 2 ^ 62) {n : Nat} (hn : n ≤ 8) :
    callP P n_ref06_Reader_Num #[.pointer (some ⟨b, 0, none⟩), .int .i64 n] h fun v h' => v = .int .u64 (rget s t n).1 ∧ Sep h T h' [rf b (rget s t n).2.at_ s (rget s t n).2.err] [] := by
  refine call_ref06_Reader_Num _ _ ?_
  unfold ref06_Reader_Num
  have h1 := ht.1
  refine ⟨fun s' g => s' = (some ⟨b, 0, none⟩, (n : Int), ()) ∧ g = h ∧ t.err = 0 ∧ ¬ (s.length : Int) - t.at_ < n, ?_, ?_⟩
  · rintro s' g ⟨rfl, hgh, he, hge⟩
    subst hgh
    unfold ref06_Reader_Num_j4
    dsimp only
    have e : rget s t n = (num ((s.drop t.at_).take n), ⟨t.at_ + n, 0⟩) := by unfold rget; rw [if_neg (by simpa using he), if_neg hge]
    rw [e]
    refine LoopS_i (fun m s' g' => g' = g ∧ ∃ j : Nat, s' = (some ⟨b, 0, none⟩, (n : Int), num ((s.drop (t.at_ + n - j)).take j), (n : Int) - 1 - j, ()) ∧ j ≤ n ∧ m = n - j) n ⟨rfl, 0, by rw [wrap64_in (by omega)]; simp [num], by omega, rfl⟩ ?_
    rintro m s' g' ⟨rfl, j, rfl, hj, rfl⟩
    unfold ref06_Reader_Num_l6
    dsimp only
    refine ifB_dec (fun hlt => ?_) (fun hge2 => ?_)
    · (repeat (first | with_reducible refine nilI_some ?_ | ((with_reducible refine ldInt_id ?_); refine ldInt_i (S.cell 0 rfl rfl) ?_) | ((with_reducible refine ldStr_id ?_); refine ldStr_i (S.cell 0 rfl rfl) ?_)))
      rw [wrap64_in (by omega), wrap64_in (by omega)]
      have hk : t.at_ + n - (j + 1) < s.length := by omega
      refine strI_i (k := t.at_ + n - (j + 1)) rfl (by omega) (List.getElem?_eq_getElem hk) ?_
      refine ⟨n - (j + 1), by omega, by trivial, j + 1, ?_, by omega, rfl⟩
      have hbr : s[t.at_ + n - (j + 1)].toNat < 256 := UInt8.toNat_lt _
      have hnum := num_range' ((s.drop (t.at_ + n - j)).take j) j (by simp; omega)
      have hpb : (256 : Int) ^ (j + 1) ≤ 256 ^ 8 := by
        exact pow256_le (by omega)
      rw [Int.pow_succ] at hpb
      have e3 : (s.drop (t.at_ + n - (j + 1))).take (j + 1) = s[t.at_ + n - (j + 1)] :: (s.drop (t.at_ + n - j)).take j := by
        rw [List.drop_eq_getElem_cons hk, List.take_succ_cons, show t.at_ + n - (j + 1) + 1 = t.at_ + n - j by omega]
      rw [e3]
      simp only [num]
      generalize num ((s.drop (t.at_ + n - j)).take j) = x at *
      rw [wrap_u64 (x * 256), Int.emod_eq_of_lt (by omega) (by omega), wrap_u64 (s[t.at_ + n - (j + 1)].toNat : Int), Int.emod_eq_of_lt (by omega) (by omega), wrap_u64, Int.emod_eq_of_lt (by omega) (by omega)]
      have e4 : x * 256 + (s[t.at_ + n - (j + 1)].toNat : Int) = s[t.at_ + n - (j + 1)].toNat + 256 * x := by omega
      have e5 : (n : Int) - 1 - j - 1 = (n : Int) - 1 - ((j + 1 : Nat) : Int) := by omega
      rw [e4, e5]
    · have hjn : j = n := by omega
      subst hjn
      (repeat (first | with_reducible refine nilI_some ?_ | ((with_reducible refine ldInt_id ?_); refine ldInt_i (S.cell 0 rfl rfl) ?_) | ((with_reducible refine stI_id ?_); refine stI_S S 0 rfl (Nat.le_of_ble_eq_true rfl) (fun _ _ S => ?_); try dsimp only [List.set, List.cons_append, List.nil_append] at S)))
      rw [wrap64_in (by omega), he] at S
      rw [show t.at_ + j - j = t.at_ by omega]
      exact ⟨rfl, S⟩
  · (repeat (first | with_reducible refine nilI_some ?_ | ((with_reducible refine ldInt_id ?_); refine ldInt_i (S.cell 0 rfl rfl) ?_)))
    refine ifB_i (fun hne => ?_) (fun he => ?_)
    · have hne : t.err ≠ 0 := by simpa using hne
      have e11 : t.err = 11 := by exact ht.2.resolve_left hne
      have e : rget s t n = (0, t) := by unfold rget; rw [if_pos hne]
      rw [e, e11]
      (repeat (first | with_reducible refine nilI_some ?_ | ((with_reducible refine stI_id ?_); refine stI_S S 0 rfl (Nat.le_of_ble_eq_true rfl) (fun _ _ S => ?_); try dsimp only [List.set, List.cons_append, List.nil_append] at S)))
      exact ⟨rfl, S⟩
    · have he : t.err = 0 := by simpa using he
      refine (dLeft_ok (S.at 0 rfl) ht hs).mono ?_
      rintro _ _ ⟨rfl, rfl⟩
      refine ⟨_, rfl, ?_⟩
      refine ifB_dec (fun hlt => ?_) (fun hge => ⟨rfl, rfl, he, hge⟩)
      have e : rget s t n = (0, ⟨t.at_, 11⟩) := by unfold rget; rw [if_neg (by simpa using he), if_pos hlt]
      rw [e]
      (repeat (first | with_reducible refine nilI_some ?_ | ((with_reducible refine stI_id ?_); refine stI_S S 0 rfl (Nat.le_of_ble_eq_true rfl) (fun _ _ S => ?_); try dsimp only [List.set, List.cons_append, List.nil_append] at S)))
      exact ⟨rfl, S⟩
end

end Go.Proofs.Ytdjofpdmdbcgjad.G
