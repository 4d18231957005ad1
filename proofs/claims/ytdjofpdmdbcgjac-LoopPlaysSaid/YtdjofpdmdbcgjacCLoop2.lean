/- Loops: plain laws of putAt, and of what is told; the chapter's example; the law LoopNil. -/
import Derived.Test.YtdjofpdmdbcgjacCLoop
namespace Go.Proofs.Ytdjofpdmdbcgjac.G
open Go Go.Sh
set_option linter.unusedVariables false

theorem lps_ok {ws f : List Int} {at_ w r cnt : Nat} (hl : f.length = w) (hw : allW f) : lps ws at_ w r cnt f = (0, putAt ws (at_ + cnt % r * w) f, cnt + 1) := by
  unfold lps; rw [if_neg (by omega), if_neg (by simpa using hw)]

theorem putAt_mid {A m B f : List Int} {o : Nat} (h : o + f.length ≤ m.length) : putAt (A ++ m ++ B) (A.length + o) f = A ++ putAt m o f ++ B := by
  unfold putAt
  have e1 : (A ++ m ++ B).take (A.length + o) = A ++ m.take o := by
    rw [List.append_assoc, List.take_append, List.take_of_length_le (by omega), Nat.add_sub_cancel_left, List.take_append_of_le_length (by omega)]
  have e2 : (A ++ m ++ B).drop (A.length + o + f.length) = m.drop (o + f.length) ++ B := by
    rw [List.append_assoc, List.drop_append, List.drop_of_length_le (by omega), List.nil_append, List.drop_append_of_le_length (by omega)]
    congr 2; omega
  rw [e1, e2]; simp [List.append_assoc]

theorem lps_mid {A m B f : List Int} {w r cnt : Nat} (hr : 1 ≤ r) (hb : r * w ≤ m.length) :
    lps (A ++ m ++ B) A.length w r cnt f = ((lps m 0 w r cnt f).1, A ++ (lps m 0 w r cnt f).2.1 ++ B, (lps m 0 w r cnt f).2.2) := by
  unfold lps
  have hm := mod_mul_le (t := cnt) (w := w) hr hb
  split
  · rfl
  · rename_i hl
    split
    · rfl
    · rw [putAt_mid (by omega), Nat.zero_add]

theorem lgt_mid {A m B : List Int} {w r cnt : Nat} (hr : 1 ≤ r) (hb : r * w ≤ m.length) (t : Int) : lgt (A ++ m ++ B) A.length w r cnt t = lgt m 0 w r cnt t := by
  unfold lgt
  have hm := mod_mul_le (t := t.toNat) (w := w) hr hb
  split
  · rw [List.append_assoc, List.drop_append, List.drop_of_length_le (by omega), List.nil_append, Nat.add_sub_cancel_left, Nat.zero_add, List.drop_append_of_le_length (by omega), List.take_append_of_le_length (by simp; omega)]
  · rfl

theorem lps_len {ws f : List Int} {at_ w r cnt : Nat} (hr : 1 ≤ r) (hb : at_ + r * w ≤ ws.length) : (lps ws at_ w r cnt f).2.1.length = ws.length := by
  unfold lps
  have hm := mod_mul_le (t := cnt) (w := w) hr (Nat.le_refl (r * w))
  split
  · rfl
  · split
    · rfl
    · simp only; rw [putAt_length (by omega)]
theorem lps_cnt (ws f : List Int) (at_ w r cnt : Nat) : (lps ws at_ w r cnt f).2.2 ≤ cnt + 1 := by
  unfold lps
  (repeat' split) <;> simp

theorem putAt_same {ws f : List Int} {o : Nat} (h : o + f.length ≤ ws.length) : ((putAt ws o f).drop o).take f.length = f := by
  unfold putAt
  rw [List.append_assoc, List.drop_append, List.drop_of_length_le (by simp; omega), List.nil_append, List.length_take, Nat.min_eq_left (by omega), Nat.sub_self, List.drop_zero, List.take_append_of_le_length (Nat.le_refl _), List.take_length]
theorem putAt_other {ws f : List Int} {o p n : Nat} (h : o + f.length ≤ ws.length) (hd : p + n ≤ o ∨ o + f.length ≤ p) : ((putAt ws o f).drop p).take n = (ws.drop p).take n := by
  apply List.ext_getElem?
  intro i
  by_cases hi : i < n
  · rw [List.getElem?_take, List.getElem?_take, if_pos hi, if_pos hi, List.getElem?_drop, List.getElem?_drop]
    unfold putAt
    rcases hd with hd | hd
    · rw [List.append_assoc, List.getElem?_append_left (by simp; omega), List.getElem?_take, if_pos (by omega)]
    · rw [List.getElem?_append_right (by simp; omega), List.getElem?_drop]
      congr 1
      simp; omega
  · rw [List.getElem?_take, List.getElem?_take, if_neg hi, if_neg hi]

theorem mod_ne {t i r : Nat} (h1 : t < i) (h2 : i < t + r) : t % r ≠ i % r := by
  intro h
  have h3 := Nat.sub_mod_eq_zero_of_mod_eq h.symm
  rw [Nat.mod_eq_of_lt (by omega)] at h3
  omega
theorem mul_apart {x y w : Nat} (h : x ≠ y) : x * w + w ≤ y * w ∨ y * w + w ≤ x * w := by
  rcases Nat.lt_or_gt_of_ne h with h | h
  · left; have := Nat.mul_le_mul_right w (show x + 1 ≤ y by omega); rwa [Nat.add_mul, Nat.one_mul] at this
  · right; have := Nat.mul_le_mul_right w (show y + 1 ≤ x by omega); rwa [Nat.add_mul, Nat.one_mul] at this

theorem low31 (x : Int) : ∃ m : Nat, andI .i64 x 31 = m ∧ m ≤ 31 := by
  have ea := andI_low x 31 5 rfl (by decide)
  have eb := Int.emod_nonneg x (b := 32) (by decide)
  have ec := Int.emod_lt_of_pos x (b := 32) (by decide)
  have e0 : ((31 : Nat) : Int) = 31 := rfl
  rw [e0] at ea
  exact ⟨(x % 32).toNat, by rw [ea]; omega, by omega⟩
theorem low7 (x : Int) : ∃ m : Nat, andI .i64 x 7 = m ∧ m ≤ 7 := by
  have ea := andI_low x 7 3 rfl (by decide)
  have eb := Int.emod_nonneg x (b := 8) (by decide)
  have ec := Int.emod_lt_of_pos x (b := 8) (by decide)
  have e0 : ((7 : Nat) : Int) = 7 := rfl
  rw [e0] at ea
  exact ⟨(x % 8).toNat, by rw [ea]; omega, by omega⟩
theorem rest_ok (x : Int) {m : Nat} (h0 : 0 < m) (h1 : m < 2 ^ 60) : ∃ k : Nat, Int.tmod (IntKind.wrap .i64 (Int.tmod x m + m)) m = k ∧ k < m := by
  have hb := tmod_bound x (m := m) (by omega)
  rw [wrap64_in (by omega)]
  have h2 : 0 ≤ Int.tmod x m + m := by omega
  rw [Int.tmod_eq_emod_of_nonneg h2]
  have h3 := Int.emod_nonneg (Int.tmod x m + m) (b := m) (by omega)
  have h4 := Int.emod_lt_of_pos (Int.tmod x m + m) (b := m) (by omega)
  exact ⟨((Int.tmod x m + m) % m).toNat, by omega, by omega⟩

def awW : Nat → List Int
  | 0 => List.replicate 7 0
  | i + 1 => putAt (awW i) (0 + i % 3 * 2) [(i : Int), (i : Int)]

theorem awake_ok {h : Heap} : callP P n_law08_awake #[] h fun v h' => v = .bool true ∧ Fra no h h' := by
  refine call_law08_awake ?_
  unfold law08_awake
  have S := Sep.start h no
  refine (New_S 7 (by omega)).mono ?_
  rintro _ _ ⟨a, bw, rfl, S1⟩
  refine ⟨_, rfl, ?_⟩
  replace S := S.add S1 fun _ _ h => h
  dsimp only [List.cons_append, List.nil_append] at S
  refine (Part_S S 1 rfl 0 7 (by omega) (by omega)).mono ?_
  rintro _ _ ⟨pp, rfl, S⟩
  refine ⟨_, rfl, ?_⟩
  dsimp only [List.cons_append, List.nil_append] at S
  refine (LNew_S S 2 rfl 2 (by omega) (by omega) (by omega)).mono ?_
  rintro _ _ ⟨lp, rfl, S⟩
  refine ⟨_, rfl, ?_⟩
  dsimp only [List.cons_append, List.nil_append] at S
  refine LoopS_i (fun m s g => ∃ i : Nat, s = (some ⟨lp, 0, none⟩, (i : Int), ()) ∧ i ≤ 4 ∧ m = 4 - i ∧ (awW i).length = 7 ∧ Sep h no g [wds bw (awW i), ar a bw 7 0, pt pp a bw 0 7, lo lp pp 2 3 i] []) 4 ⟨0, rfl, by omega, rfl, rfl, S⟩ ?_
  rintro m s g ⟨i, rfl, hi, rfl, hal, S⟩
  unfold law08_awake_l3
  dsimp only
  refine ifB_dec (fun hlt => ?_) (fun hge => ?_)
  · refine newI_S S (fun b1 _ _ S => ?_)
    dsimp only [List.cons_append, List.nil_append] at S
    refine (LPush_S ((S.into [0, 1, 2, 3] [4] []).rowB 0) 0 (l := 2) (f := [(i : Int), (i : Int)]) rfl rfl (by omega) (by omega) (by omega) (by omega) (by omega) (by omega) (by omega)).mono ?_
    rintro _ _ ⟨rfl, S1⟩
    refine ⟨_, rfl, ?_⟩
    replace S := S.back [0,1,2,3] S1
    have ha : allW [(i : Int), (i : Int)] := by intro x hx; simp at hx; unfold isW; omega
    rw [lps_ok (w := 2) rfl ha] at S
    rw [wrap64_in (by omega)]
    refine ⟨4 - (i + 1), by omega, i + 1, rfl, by omega, rfl, ?_, S.pw [0, 1, 2, 3]⟩
    show (putAt (awW i) (0 + i % 3 * 2) [(i : Int), (i : Int)]).length = 7
    rw [putAt_length (by simp; omega)]; exact hal
  · have : i = 4 := by omega
    subst this
    refine (LGet_S S (by omega) (by omega) (by omega) (by omega) (by omega) (by omega) (by omega) 1).mono ?_
    rintro _ _ ⟨p', l', c', rfl, hl', S⟩
    have e1 : lgt (awW 4) 0 2 3 4 1 = [1, 1] := by decide
    have e2 : lin 3 4 1 = true := by decide
    rw [e1] at S hl'
    rw [e2]
    refine ⟨_, _, _, _, rfl, ?_⟩
    refine (LRoom_ok S 3 rfl).mono ?_
    rintro _ _ ⟨rfl, rfl⟩
    refine ⟨_, rfl, ?_⟩
    refine ifB_true rfl ?_
    refine (LOldest_ok S 3 rfl (by omega) (by omega)).mono ?_
    rintro _ _ ⟨rfl, rfl⟩
    refine ⟨_, rfl, ?_⟩
    refine ifB_true rfl (ifB_true rfl (ifB_true (by rw [hl']; rfl) ?_))
    obtain ⟨aa, rfl⟩ := (S.own 4 rfl).row.some_of (by rw [ints_length]; decide)
    refine idxI_i rfl (k := 1) rfl (by rw [hl']; decide) ?_
    exact ldInt_i ((S.own 4 rfl).row.cell (i := 1) rfl) ⟨rfl, S.fra⟩

theorem LoopNil_ok {h : Heap} (width n t : Int) : callP P n_law08_LoopNil #[.int .i64 width, .int .i64 n, .int .i64 t] h fun v h' => v = .bool true ∧ Fra no h h' := by
  refine call_law08_LoopNil _ _ _ ?_
  unfold law08_LoopNil
  have S := Sep.start h no
  refine (nLGet t).mono ?_
  rintro _ _ ⟨rfl, rfl⟩
  refine ⟨_, _, _, _, rfl, ?_⟩
  refine (awake_ok).mono ?_
  rintro _ _ ⟨rfl, F⟩
  refine ⟨_, rfl, ?_⟩
  replace S := S.fra0 F
  refine ifB_true rfl (ifB_true rfl (ifB_true rfl ?_))
  refine newI_S S (fun b1 _ _ S => ?_)
  refine (nLPush _ _ _).mono ?_
  rintro _ _ ⟨rfl, rfl⟩
  refine ⟨_, rfl, ?_⟩
  refine ifB_true rfl ?_
  refine (nLWidth).mono ?_
  rintro _ _ ⟨rfl, rfl⟩
  refine ⟨_, rfl, ?_⟩
  refine (nLRoom).mono ?_
  rintro _ _ ⟨rfl, rfl⟩
  refine ⟨_, rfl, ?_⟩
  refine (nLCount).mono ?_
  rintro _ _ ⟨rfl, rfl⟩
  refine ⟨_, rfl, ?_⟩
  refine (nLOldest).mono ?_
  rintro _ _ ⟨rfl, rfl⟩
  refine ⟨_, rfl, ?_⟩
  refine ifB_true rfl ?_
  refine (nLSeek _).mono ?_
  rintro _ _ ⟨rfl, rfl⟩
  refine ⟨_, rfl, ?_⟩
  refine ifB_true rfl ?_
  refine (nLNew _).mono ?_
  rintro _ _ ⟨rfl, rfl⟩
  refine ⟨_, rfl, ?_⟩
  refine ifB_true rfl ?_
  obtain ⟨m, em, hm⟩ := low31 n
  rw [em]
  refine (New_S m (by omega)).mono ?_
  rintro _ _ ⟨a, bw, rfl, S1⟩
  refine ⟨_, rfl, ?_⟩
  replace S := S.add S1 fun _ _ h => h
  dsimp only [List.cons_append, List.nil_append] at S
  refine (Part_S S 2 rfl 0 m (by omega) (by omega)).mono ?_
  rintro _ _ ⟨pp, rfl, S⟩
  refine ⟨_, rfl, ?_⟩
  dsimp only [List.cons_append, List.nil_append] at S
  by_cases hw : width < 1 ∨ (m : Int) < width
  · refine (LNew_not S 3 rfl width hw).mono ?_
    rintro _ _ ⟨rfl, rfl⟩
    refine ⟨_, rfl, ?_⟩
    refine ifB_dec (fun h1 => ⟨?_, S.fra⟩) (fun h1 => ⟨rfl, S.fra⟩)
    rw [decide_eq_false (show ¬ width ≤ (m : Int) by omega)]; rfl
  · obtain ⟨w, rfl⟩ : ∃ w : Nat, width = w := ⟨width.toNat, by omega⟩
    refine (LNew_S S 3 rfl w (by omega) (by omega) (by omega)).mono ?_
    rintro _ _ ⟨lp, rfl, S⟩
    refine ⟨_, rfl, ?_⟩
    refine ifB_true (decide_eq_true (by omega)) ⟨?_, S.fra⟩
    rw [decide_eq_true (show (w : Int) ≤ (m : Int) by omega)]; rfl

end Go.Proofs.Ytdjofpdmdbcgjac.G
