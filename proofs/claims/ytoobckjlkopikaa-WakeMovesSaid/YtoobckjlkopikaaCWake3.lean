/- Contracts: package wake, over facts that stand apart; the laws' helpers. -/
import Derived.Test.YtoobckjlkopikaaCWake2
import Derived.Test.YtoobckjlkopikaaShA
namespace Go.Proofs.Ytoobckjlkopikaa.G
open Go Go.Sh
set_option linter.unusedVariables false

abbrev wk (b : Nat) (w : Wt) (m : Mk) : Fact := blk b [.int .i64 w.on, .int .i64 w.off, .int .i64 w.hold, .int .i64 m.cnt, .int .i64 m.str, .bool m.on]

theorem New_S {h : Heap} {w : Wt} (hw : w.off ≤ w.on ∧ 1 ≤ w.hold ∧ w.hold ≤ 255) : callP P n_wake_New #[.agg #[.int .i64 w.on, .int .i64 w.off, .int .i64 w.hold]] h fun v h' =>
    ∃ b, v = .pointer (some ⟨b, 0, none⟩) ∧ Sep h no h' [wk b w ⟨0, 0, false⟩] [] :=
  (New_ok hw).mono fun v h' ⟨b, hv, hb, hk, hf⟩ => ⟨b, hv, Sep.one hf hk fun i hi hlt => by have : i = b := hi; omega⟩

theorem Push_S {h : Heap} {b : Nat} {w : Wt} {m : Mk} {p : Option Addr} {l c : Nat} {xs : List Int} {T : Nat → Prop} (S : Sep h T h [wk b w m] [row p (ints xs)]) (hm : Mok w m) (hw : w.hold ≤ 255)
    (hxl : xs.length = l) (hl : l ≤ 2 ^ 40) (hc : -2 ^ 62 ≤ m.cnt ∧ m.cnt + l < 2 ^ 63) :
    callP P n_wake_Wake_Push #[.pointer (some ⟨b, 0, none⟩), .slice p l c] h fun v h' => ∃ p' l' c', v = .slice p' l' c' ∧ l' = (wrun w m xs).2.length ∧
      Sep h T h' [wk b w (wrun w m xs).1, own 2 p' l' c' (evs (wrun w m xs).2)] [] := by
  refine (Push_ok (S.at 0 rfl) hm hw (S.row 0 rfl) (fun a ha hx hb => ?_) hxl hl hc).mono ?_
  · exact S.wr 0 0 _ _ rfl rfl b rfl ⟨fun e => hx (by simpa [ints] using e), a, ha, hb⟩
  · rintro v h' ⟨p', l', c', rfl, ho, hl', hwk, hf⟩
    have hb := (S.at 0 rfl).lt
    have hT : T b := S.ok 0 _ rfl b rfl hb
    have hne : ∀ i, (own 2 p' l' c' (evs (wrun w m xs).2)).foot i → h.size ≤ i := by
      rintro i ⟨a, rfl, rfl⟩
      obtain ⟨_, _, ⟨e, _⟩ | ⟨b', cs, e, hb', _⟩⟩ := ho
      · cases e
      · cases e; exact hb'
    refine ⟨p', l', c', rfl, hl', Sep.two (hf.mono fun i _ hi => by subst hi; exact hT) hwk (ho.mono (Nat.zero_le _)) (fun i hi _ => by have : i = b := hi; subst this; exact hT) (fun i hi hlt => ?_) fun i hi hi' => ?_⟩
    · have := hne i hi; omega
    · have : i = b := hi; have := hne i hi'; omega

theorem awake_ok {h : Heap} : callP P n_law25_awake #[] h fun v h' => v = .bool true ∧ Fra no h h' := by
  refine call_law25_awake ?_
  unfold law25_awake
  have S := Sep.start h no
  refine (New_S (w := ⟨5, 3, 2⟩) (by decide)).mono ?_
  rintro v h1 ⟨b, rfl, S1⟩
  refine ⟨_, rfl, ?_⟩
  replace S := S.add S1 fun _ _ h => h
  refine newI_S S (fun b2 _ _ S => ?_)
  refine (Push_S (xs := [5, 4, 6, 7, 4, 3, 2]) ((S.into [0] [1] []).rowB 0) ⟨by decide, by decide, by decide⟩ (by decide) rfl (by decide) (by decide)).mono ?_
  rintro v h2 ⟨p, l, c, rfl, hl, S1⟩
  refine ⟨_, _, _, rfl, ?_⟩
  replace S := S.back1 0 S1
  refine newI_S S (fun b3 _ _ S => ?_)
  have e : (wrun ⟨5, 3, 2⟩ ⟨0, 0, false⟩ [5, 4, 6, 7, 4, 3, 2]).2 = [(3, true), (6, false)] := by decide
  rw [e] at hl S
  refine (esame_ok (xs := [(3, true), (6, false)]) (ys := [(3, true), (6, false)]) (S.own 2 rfl).row hl.symm (Row.of_at (S.at 3 rfl)) rfl (by rw [hl]; decide)).mono ?_
  rintro v h3 ⟨rfl, rfl⟩
  exact ⟨_, rfl, rfl, S.fra⟩

/-- A watch by numbers. -/
def watchV (a b c : Int) : Wt := ⟨a % 32 - 10, a % 32 - 10 - b % 16, 1 + c % 4⟩
theorem watchV_ok (a b c : Int) : (watchV a b c).off ≤ (watchV a b c).on ∧ 1 ≤ (watchV a b c).hold ∧ (watchV a b c).hold ≤ 4 ∧ -10 ≤ (watchV a b c).on ∧ (watchV a b c).on ≤ 21 ∧ -25 ≤ (watchV a b c).off := by
  simp only [watchV]; omega

theorem watch_ok {h : Heap} (a b c : Int) : callP P n_law25_watch #[.agg #[.int .i64 a, .int .i64 b, .int .i64 c]] h fun v h' =>
    v = .agg #[.int .i64 (watchV a b c).on, .int .i64 (watchV a b c).off, .int .i64 (watchV a b c).hold] ∧ Fra no h h' := by
  refine call_law25_watch _ _ _ ?_
  unfold law25_watch
  have S := Sep.start h no
  refine newI_S S (fun b1 _ _ S => ?_)
  refine newI_S S (fun b2 _ _ S => ?_)
  (repeat (first | with_reducible refine nilI_some ?_ | ((with_reducible refine ldInt_id ?_); (first | refine ldInt_i (S.cell 0 rfl rfl) ?_ | refine ldInt_i (S.cell 1 rfl rfl) ?_ | refine ldInt_i (S.cell 2 rfl rfl) ?_ | refine ldInt_i (S.cell 3 rfl rfl) ?_ | refine ldInt_i (S.cell 4 rfl rfl) ?_ | refine ldInt_i (S.cell 5 rfl rfl) ?_ | refine ldInt_i (S.cell 6 rfl rfl) ?_ | refine ldInt_i (S.cell 7 rfl rfl) ?_ | refine ldInt_i (S.cellR 0 rfl rfl) ?_ | refine ldInt_i (S.cellR 1 rfl rfl) ?_ | refine ldInt_i (S.cellR 2 rfl rfl) ?_)) | ((with_reducible refine ldBool_id ?_); (first | refine ldBool_i (S.cell 0 rfl rfl) ?_ | refine ldBool_i (S.cell 1 rfl rfl) ?_ | refine ldBool_i (S.cell 2 rfl rfl) ?_ | refine ldBool_i (S.cell 3 rfl rfl) ?_ | refine ldBool_i (S.cell 4 rfl rfl) ?_ | refine ldBool_i (S.cell 5 rfl rfl) ?_ | refine ldBool_i (S.cell 6 rfl rfl) ?_ | refine ldBool_i (S.cell 7 rfl rfl) ?_ | refine ldBool_i (S.cellR 0 rfl rfl) ?_ | refine ldBool_i (S.cellR 1 rfl rfl) ?_ | refine ldBool_i (S.cellR 2 rfl rfl) ?_)) | ((with_reducible refine ldPtr_id ?_); (first | refine ldPtr_i (S.cell 0 rfl rfl) ?_ | refine ldPtr_i (S.cell 1 rfl rfl) ?_ | refine ldPtr_i (S.cell 2 rfl rfl) ?_ | refine ldPtr_i (S.cell 3 rfl rfl) ?_ | refine ldPtr_i (S.cell 4 rfl rfl) ?_ | refine ldPtr_i (S.cell 5 rfl rfl) ?_ | refine ldPtr_i (S.cell 6 rfl rfl) ?_ | refine ldPtr_i (S.cell 7 rfl rfl) ?_ | refine ldPtr_i (S.cellR 0 rfl rfl) ?_ | refine ldPtr_i (S.cellR 1 rfl rfl) ?_ | refine ldPtr_i (S.cellR 2 rfl rfl) ?_)) | ((with_reducible refine ldSlice_id ?_); (first | refine ldSlice_i (S.cell 0 rfl rfl) ?_ | refine ldSlice_i (S.cell 1 rfl rfl) ?_ | refine ldSlice_i (S.cell 2 rfl rfl) ?_ | refine ldSlice_i (S.cell 3 rfl rfl) ?_ | refine ldSlice_i (S.cell 4 rfl rfl) ?_ | refine ldSlice_i (S.cell 5 rfl rfl) ?_ | refine ldSlice_i (S.cell 6 rfl rfl) ?_ | refine ldSlice_i (S.cell 7 rfl rfl) ?_ | refine ldSlice_i (S.cellR 0 rfl rfl) ?_ | refine ldSlice_i (S.cellR 1 rfl rfl) ?_ | refine ldSlice_i (S.cellR 2 rfl rfl) ?_)) | ((with_reducible refine ldStr_id ?_); (first | refine ldStr_i (S.cell 0 rfl rfl) ?_ | refine ldStr_i (S.cell 1 rfl rfl) ?_ | refine ldStr_i (S.cell 2 rfl rfl) ?_ | refine ldStr_i (S.cell 3 rfl rfl) ?_ | refine ldStr_i (S.cell 4 rfl rfl) ?_ | refine ldStr_i (S.cell 5 rfl rfl) ?_ | refine ldStr_i (S.cell 6 rfl rfl) ?_ | refine ldStr_i (S.cell 7 rfl rfl) ?_ | refine ldStr_i (S.cellR 0 rfl rfl) ?_ | refine ldStr_i (S.cellR 1 rfl rfl) ?_ | refine ldStr_i (S.cellR 2 rfl rfl) ?_)) | ((with_reducible refine stI_id ?_); (first | refine stI_S S 0 rfl (Nat.le_of_ble_eq_true rfl) (fun _ _ S => ?_) | refine stI_S S 1 rfl (Nat.le_of_ble_eq_true rfl) (fun _ _ S => ?_) | refine stI_S S 2 rfl (Nat.le_of_ble_eq_true rfl) (fun _ _ S => ?_) | refine stI_S S 3 rfl (Nat.le_of_ble_eq_true rfl) (fun _ _ S => ?_) | refine stI_S S 4 rfl (Nat.le_of_ble_eq_true rfl) (fun _ _ S => ?_) | refine stI_S S 5 rfl (Nat.le_of_ble_eq_true rfl) (fun _ _ S => ?_) | refine stI_S S 6 rfl (Nat.le_of_ble_eq_true rfl) (fun _ _ S => ?_) | refine stI_S S 7 rfl (Nat.le_of_ble_eq_true rfl) (fun _ _ S => ?_)); dsimp only [List.set] at S) | ((with_reducible refine and_id ?_); (first | refine and_i (S.cell 0 rfl rfl) ?_ | refine and_i (S.cell 1 rfl rfl) ?_ | refine and_i (S.cell 2 rfl rfl) ?_ | refine and_i (S.cell 3 rfl rfl) ?_ | refine and_i (S.cell 4 rfl rfl) ?_ | refine and_i (S.cell 5 rfl rfl) ?_ | refine and_i (S.cell 6 rfl rfl) ?_ | refine and_i (S.cell 7 rfl rfl) ?_ | refine and_i (S.cellR 0 rfl rfl) ?_ | refine and_i (S.cellR 1 rfl rfl) ?_ | refine and_i (S.cellR 2 rfl rfl) ?_)) | refine arrI_i (by decide) (by decide) ?_))
  refine ⟨?_, S.fra⟩
  have e1 : ∀ x, andI .i64 x 31 = x % 32 := fun x => andI_low x 31 5 rfl (by decide)
  have e2 : ∀ x, andI .i64 x 15 = x % 16 := fun x => andI_low x 15 4 rfl (by decide)
  have e3 : ∀ x, andI .i64 x 3 = x % 4 := fun x => andI_low x 3 2 rfl (by decide)
  rw [e1, e2, e3, wrap64_in (by omega), wrap64_in (by omega), wrap64_in (by omega)]
  rfl

/-- Scores. -/
def fewV (xs : List Int) : List Int := (xs.take 60).map fun x => Int.tmod x 40 - 10

theorem few_ok {h : Heap} {p : Option Addr} {l c : Nat} {xs : List Int} (hx : Row h p (ints xs)) (hxl : xs.length = l) (hl : l < 2 ^ 62) : callP P n_law25_few #[.slice p l c] h fun v h' =>
    ∃ p' l' c', v = .slice p' l' c' ∧ l' = (fewV xs).length ∧ Sep h no h' [own 1 p' l' c' (ints (fewV xs))] [] := by
  refine call_law25_few _ _ _ ?_
  unfold law25_few
  have S := ((Sep.start h no).read (row p (ints xs)) hx).nil 1
  refine LoopS_i (fun n s h1 => ∃ (i : Nat) (q : Option Addr) (k d : Nat), s = ((p, l, c), (q, k, d), (i : Int), ()) ∧ i ≤ l ∧ i ≤ 60 ∧ n = l - i ∧ k = i ∧ Sep h no h1 [own 1 q k d (ints (fewV (xs.take i)))] [row p (ints xs)]) l ⟨0, none, 0, 0, rfl, by omega, by omega, by omega, rfl, S⟩ ?_
  rintro n s h1 ⟨i, q, k, d, rfl, hi, h60, rfl, rfl, S⟩
  unfold law25_few_l3
  dsimp only
  have fin : (k = l ∨ k = 60) → ∃ p' l' c', Value.slice q k d = .slice p' l' c' ∧ l' = (fewV xs).length ∧ Sep h no h1 [own 1 p' l' c' (ints (fewV xs))] [] := fun hk => by
    have e : fewV (xs.take k) = fewV xs := by
      unfold fewV
      rw [List.take_take]
      rcases hk with rfl | rfl
      · rw [Nat.min_def]; split
        · rfl
        · rw [List.take_of_length_le (by omega), List.take_of_length_le (by omega)]
      · rfl
    rw [e] at S
    have := (S.own 0 rfl).1
    rw [ints_length] at this
    exact ⟨_, _, _, rfl, by omega, S.pick [0] []⟩
  refine ifB_dec (fun h1 => ifB_dec (fun h2 => ?_) fun h2 => fin (.inr (by omega))) fun h1 => fin (.inl (by omega))
  have hlt : k < xs.length := by omega
  obtain ⟨a, rfl⟩ := (S.row 0 rfl).some_of (by rw [ints_length]; omega)
  refine idxI_i rfl rfl (by omega) ?_
  simp only [Int.toNat_natCast, Nat.mul_one]
  refine ldInt_i ((S.row 0 rfl).cell (ints_get (List.getElem?_eq_getElem hlt))) ?_
  have hb := tmod_bound xs[k] (m := 40) (by decide)
  rw [wrap64_in (by omega)]
  refine newI_S S (fun b3 _ _ S => ?_)
  refine appI_S S 0 (ys := ints [Int.tmod xs[k] 40 - 10]) rfl rfl (by decide) (by omega) (Row.of_at (S.at 1 rfl)) rfl (by simp [ints, one1]) fun p' l' c' h' hl' S => ?_
  rw [wrap64_in (by omega)]
  refine ⟨l - (k + 1), by omega, k + 1, p', l', c', rfl, by omega, by omega, rfl, hl', ?_⟩
  have e : ints (fewV (xs.take k)) ++ ints [Int.tmod xs[k] 40 - 10] = ints (fewV (xs.take (k + 1))) := by
    have ht : ∀ j, j ≤ 60 → fewV (xs.take j) = (xs.take j).map fun x => Int.tmod x 40 - 10 := fun j hj => by
      unfold fewV; rw [List.take_take, Nat.min_eq_right hj]
    rw [ht _ (by omega), ht _ (by omega), List.take_succ_eq_append_getElem hlt]
    simp only [ints, List.map_append, List.map_cons, List.map_nil]
  rw [e] at S
  exact S.pick [0] [0]

end Go.Proofs.Ytoobckjlkopikaa.G
