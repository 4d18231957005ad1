/- The law WakeTurns, over heaps. -/
import Derived.Test.YtoobckjlkopikaaCWake3
namespace Go.Proofs.Ytoobckjlkopikaa.G
open Go Go.Sh
set_option linter.unusedVariables false

def lastOn (es : List (Int × Bool)) : Bool := (es.getLast?.map (·.2)).getD false
def lastAt (es : List (Int × Bool)) : Int := (es.getLast?.map (·.1)).getD (-1)
theorem lastOn_snoc (es : List (Int × Bool)) (e : Int × Bool) : lastOn (es ++ [e]) = e.2 := by simp [lastOn]
theorem lastAt_snoc (es : List (Int × Bool)) (e : Int × Bool) : lastAt (es ++ [e]) = e.1 := by simp [lastAt]

/-- What is said of an event. -/
def Ev (w : Wt) (L : List Int) (on : Bool) (last : Int) (e : Int × Bool) : Prop :=
  e.2 ≠ on ∧ last < e.1 ∧ 0 ≤ e.1 ∧ e.1 < L.length ∧ (e.2 = false → L.getD e.1.toNat 0 < w.off) ∧ (e.2 = true → ∀ k : Int, 0 ≤ k → k < w.hold → last < e.1 - k ∧ w.on ≤ L.getD (e.1 - k).toNat 0)

/-- What holds behind n scores. -/
structure TI (w : Wt) (L : List Int) (n : Nat) (m : Mk) (es : List (Int × Bool)) : Prop where
  on : m.on = lastOn es
  cnt : m.cnt = n
  str : 0 ≤ m.str
  lst : lastAt es < n - m.str
  low : -1 ≤ lastAt es
  high : ∀ k : Int, n - m.str ≤ k → k < n → w.on ≤ L.getD k.toNat 0
  ev : ∀ i (hi : i < es.length), Ev w L (lastOn (es.take i)) (lastAt (es.take i)) es[i]

theorem TI.step {w : Wt} {L : List Int} {n : Nat} {m : Mk} {es : List (Int × Bool)} (t : TI w L n m es) (hok : Mok w m) (hn : n < L.length) : TI w L (n + 1) (wstep w m L[n]).1 (es ++ (wstep w m L[n]).2) := by
  obtain ⟨h1, h2, h3, h4, h5, h6, h7⟩ := t
  have hget : L.getD n 0 = L[n] := by rw [List.getD_eq_getElem?_getD, List.getElem?_eq_getElem hn]; rfl
  obtain ⟨_, hok2, hok3⟩ := hok
  have still : ∀ m' : Mk, m'.on = m.on → m'.cnt = m.cnt + 1 → 0 ≤ m'.str → (m'.str = 0 ∨ w.on ≤ L[n] ∧ m'.str = m.str + 1) → TI w L (n + 1) m' (es ++ []) := by
    intro m' a b c d
    rw [List.append_nil]
    refine ⟨a.trans h1, by omega, c, by omega, h5, fun k k1 k2 => ?_, h7⟩
    rcases d with d | ⟨d1, d2⟩
    · omega
    · by_cases hk : k = n
      · subst hk; simp only [Int.toNat_natCast]; rw [hget]; exact d1
      · exact h6 k (by omega) (by omega)
  have told : ∀ (m' : Mk) (e : Int × Bool), m'.on = e.2 → m'.cnt = m.cnt + 1 → m'.str = 0 → e.1 = n → Ev w L (lastOn es) (lastAt es) e → TI w L (n + 1) m' (es ++ [e]) := by
    intro m' e a b c d hev
    refine ⟨by rw [lastOn_snoc]; exact a, by omega, by omega, by rw [lastAt_snoc]; omega, by rw [lastAt_snoc]; omega, fun k k1 k2 => by omega, fun i hi => ?_⟩
    by_cases hlt : i < es.length
    · have := h7 i hlt
      rw [List.take_append_of_le_length (by omega), List.getElem_append_left hlt]
      exact this
    · have hi' : i = es.length := by simp at hi; omega
      subst hi'
      rw [List.take_append_of_le_length (by omega), List.take_of_length_le (by omega)]
      simpa using hev
  have hlen : (n : Int) < L.length := by omega
  unfold wstep
  split
  · rename_i hon
    have hs := hok3 hon
    split
    · rename_i hlt
      refine told _ _ rfl rfl rfl h2 ⟨by simp only; rw [← h1, hon]; simp, by simp only; omega, by simp only; omega, by simp only; omega, fun _ => by simp only; rw [h2, Int.toNat_natCast, hget]; exact hlt, fun e => by cases e⟩
    · rename_i hlt
      exact still _ hon.symm rfl (by simp only; omega) (.inl hs)
  · rename_i hoff
    have hoff' : m.on = false := by simpa using hoff
    split
    · rename_i hlt
      exact still _ hoff'.symm rfl (by simp) (.inl rfl)
    · rename_i hlt
      split
      · rename_i he
        refine told _ _ rfl rfl rfl h2 ⟨by simp only; rw [← h1, hoff']; simp, by simp only; omega, by simp only; omega, by simp only; omega, fun e => (by cases e), fun _ k k0 k1 => ?_⟩
        simp only
        refine ⟨by omega, ?_⟩
        by_cases hk : k = 0
        · subst hk; rw [h2, Int.sub_zero, Int.toNat_natCast, hget]; omega
        · exact h6 _ (by omega) (by omega)
      · rename_i he
        exact still _ hoff'.symm rfl (by simp only; omega) (.inr ⟨by omega, rfl⟩)

theorem turns (w : Wt) (hw : 1 ≤ w.hold) (L : List Int) : ∀ n, n ≤ L.length → TI w L n (wrun w ⟨0, 0, false⟩ (L.take n)).1 (wrun w ⟨0, 0, false⟩ (L.take n)).2 := by
  intro n
  induction n with
  | zero => intro _; exact ⟨rfl, rfl, by simp [wrun], by simp [wrun, lastAt], by simp [wrun, lastAt], by simp [wrun]; intros; omega, by simp [wrun]⟩
  | succ n ih =>
    intro hn
    rw [wrun_take_succ w _ (show n < L.length by omega)]
    exact (ih (by omega)).step (wrun_ok _ ⟨by simp, by simp only; omega, by simp⟩) (by omega)

theorem lastOn_take {es : List (Int × Bool)} {i : Nat} (hi : i < es.length) : lastOn (es.take (i + 1)) = es[i].2 := by
  rw [List.take_succ_eq_append_getElem hi, lastOn_snoc]
theorem lastAt_take {es : List (Int × Bool)} {i : Nat} (hi : i < es.length) : lastAt (es.take (i + 1)) = es[i].1 := by
  rw [List.take_succ_eq_append_getElem hi, lastAt_snoc]

theorem fewV_length (xs : List Int) : (fewV xs).length ≤ 60 := by simp [fewV]; omega

theorem WakeTurns_ok {h : Heap} (a b c : Int) {p : Option Addr} {l d : Nat} {xs : List Int} (hx : Row h p (ints xs)) (hxl : xs.length = l) (hl : l < 2 ^ 62) :
    callP P n_law25_WakeTurns #[.agg #[.int .i64 a, .int .i64 b, .int .i64 c], .slice p l d] h fun v h' => v = .bool true ∧ Fra no h h' := by
  refine call_law25_WakeTurns _ _ _ _ _ _ ?_
  unfold law25_WakeTurns
  have S := (Sep.start h no).read (row p (ints xs)) hx
  refine newI_S S (fun b1 _ _ S => ?_)
  refine awake_ok.mono ?_
  rintro v h1 ⟨rfl, hf1⟩
  refine ⟨_, rfl, ?_⟩
  replace S := S.fra0 hf1
  (repeat (first | refine nilI_some ?_ | refine arrI_i (by decide) (by decide) ?_ | refine ldInt_i (S.cell 0 rfl rfl) ?_ | refine ldInt_i (S.cell 1 rfl rfl) ?_ | refine ldInt_i (S.cell 2 rfl rfl) ?_ | refine ldInt_i (S.cell 3 rfl rfl) ?_ | refine ldInt_i (S.cell 4 rfl rfl) ?_ | refine ldInt_i (S.cell 5 rfl rfl) ?_ | refine ldInt_i (S.cell 6 rfl rfl) ?_ | refine ldInt_i (S.cell 7 rfl rfl) ?_ | refine ldInt_i (S.cellR 0 rfl rfl) ?_ | refine ldInt_i (S.cellR 1 rfl rfl) ?_ | refine ldInt_i (S.cellR 2 rfl rfl) ?_ | refine ldBool_i (S.cell 0 rfl rfl) ?_ | refine ldBool_i (S.cell 1 rfl rfl) ?_ | refine ldBool_i (S.cell 2 rfl rfl) ?_ | refine ldBool_i (S.cell 3 rfl rfl) ?_ | refine ldBool_i (S.cell 4 rfl rfl) ?_ | refine ldBool_i (S.cell 5 rfl rfl) ?_ | refine ldBool_i (S.cell 6 rfl rfl) ?_ | refine ldBool_i (S.cell 7 rfl rfl) ?_ | refine ldBool_i (S.cellR 0 rfl rfl) ?_ | refine ldBool_i (S.cellR 1 rfl rfl) ?_ | refine ldBool_i (S.cellR 2 rfl rfl) ?_ | refine ldPtr_i (S.cell 0 rfl rfl) ?_ | refine ldPtr_i (S.cell 1 rfl rfl) ?_ | refine ldPtr_i (S.cell 2 rfl rfl) ?_ | refine ldPtr_i (S.cell 3 rfl rfl) ?_ | refine ldPtr_i (S.cell 4 rfl rfl) ?_ | refine ldPtr_i (S.cell 5 rfl rfl) ?_ | refine ldPtr_i (S.cell 6 rfl rfl) ?_ | refine ldPtr_i (S.cell 7 rfl rfl) ?_ | refine ldPtr_i (S.cellR 0 rfl rfl) ?_ | refine ldPtr_i (S.cellR 1 rfl rfl) ?_ | refine ldPtr_i (S.cellR 2 rfl rfl) ?_ | refine ldSlice_i (S.cell 0 rfl rfl) ?_ | refine ldSlice_i (S.cell 1 rfl rfl) ?_ | refine ldSlice_i (S.cell 2 rfl rfl) ?_ | refine ldSlice_i (S.cell 3 rfl rfl) ?_ | refine ldSlice_i (S.cell 4 rfl rfl) ?_ | refine ldSlice_i (S.cell 5 rfl rfl) ?_ | refine ldSlice_i (S.cell 6 rfl rfl) ?_ | refine ldSlice_i (S.cell 7 rfl rfl) ?_ | refine ldSlice_i (S.cellR 0 rfl rfl) ?_ | refine ldSlice_i (S.cellR 1 rfl rfl) ?_ | refine ldSlice_i (S.cellR 2 rfl rfl) ?_ | refine ldStr_i (S.cell 0 rfl rfl) ?_ | refine ldStr_i (S.cell 1 rfl rfl) ?_ | refine ldStr_i (S.cell 2 rfl rfl) ?_ | refine ldStr_i (S.cell 3 rfl rfl) ?_ | refine ldStr_i (S.cell 4 rfl rfl) ?_ | refine ldStr_i (S.cell 5 rfl rfl) ?_ | refine ldStr_i (S.cell 6 rfl rfl) ?_ | refine ldStr_i (S.cell 7 rfl rfl) ?_ | refine ldStr_i (S.cellR 0 rfl rfl) ?_ | refine ldStr_i (S.cellR 1 rfl rfl) ?_ | refine ldStr_i (S.cellR 2 rfl rfl) ?_ | refine stI_S S 0 rfl (Nat.le_of_ble_eq_true rfl) (fun _ _ S => ?_) | refine stI_S S 1 rfl (Nat.le_of_ble_eq_true rfl) (fun _ _ S => ?_) | refine stI_S S 2 rfl (Nat.le_of_ble_eq_true rfl) (fun _ _ S => ?_) | refine stI_S S 3 rfl (Nat.le_of_ble_eq_true rfl) (fun _ _ S => ?_) | refine stI_S S 4 rfl (Nat.le_of_ble_eq_true rfl) (fun _ _ S => ?_) | refine stI_S S 5 rfl (Nat.le_of_ble_eq_true rfl) (fun _ _ S => ?_) | refine stI_S S 6 rfl (Nat.le_of_ble_eq_true rfl) (fun _ _ S => ?_) | refine stI_S S 7 rfl (Nat.le_of_ble_eq_true rfl) (fun _ _ S => ?_)))
  refine (watch_ok a b c).mono ?_
  rintro v h2 ⟨rfl, hf2⟩
  refine ⟨_, _, _, rfl, ?_⟩
  replace S := S.fra0 hf2
  obtain ⟨w1, w2, w3, w4, w5, w6⟩ := watchV_ok a b c
  generalize watchV a b c = w at *
  refine newI_S S (fun b13 _ _ S => ?_)
  (repeat (first | refine nilI_some ?_ | refine arrI_i (by decide) (by decide) ?_ | refine ldInt_i (S.cell 0 rfl rfl) ?_ | refine ldInt_i (S.cell 1 rfl rfl) ?_ | refine ldInt_i (S.cell 2 rfl rfl) ?_ | refine ldInt_i (S.cell 3 rfl rfl) ?_ | refine ldInt_i (S.cell 4 rfl rfl) ?_ | refine ldInt_i (S.cell 5 rfl rfl) ?_ | refine ldInt_i (S.cell 6 rfl rfl) ?_ | refine ldInt_i (S.cell 7 rfl rfl) ?_ | refine ldInt_i (S.cellR 0 rfl rfl) ?_ | refine ldInt_i (S.cellR 1 rfl rfl) ?_ | refine ldInt_i (S.cellR 2 rfl rfl) ?_ | refine ldBool_i (S.cell 0 rfl rfl) ?_ | refine ldBool_i (S.cell 1 rfl rfl) ?_ | refine ldBool_i (S.cell 2 rfl rfl) ?_ | refine ldBool_i (S.cell 3 rfl rfl) ?_ | refine ldBool_i (S.cell 4 rfl rfl) ?_ | refine ldBool_i (S.cell 5 rfl rfl) ?_ | refine ldBool_i (S.cell 6 rfl rfl) ?_ | refine ldBool_i (S.cell 7 rfl rfl) ?_ | refine ldBool_i (S.cellR 0 rfl rfl) ?_ | refine ldBool_i (S.cellR 1 rfl rfl) ?_ | refine ldBool_i (S.cellR 2 rfl rfl) ?_ | refine ldPtr_i (S.cell 0 rfl rfl) ?_ | refine ldPtr_i (S.cell 1 rfl rfl) ?_ | refine ldPtr_i (S.cell 2 rfl rfl) ?_ | refine ldPtr_i (S.cell 3 rfl rfl) ?_ | refine ldPtr_i (S.cell 4 rfl rfl) ?_ | refine ldPtr_i (S.cell 5 rfl rfl) ?_ | refine ldPtr_i (S.cell 6 rfl rfl) ?_ | refine ldPtr_i (S.cell 7 rfl rfl) ?_ | refine ldPtr_i (S.cellR 0 rfl rfl) ?_ | refine ldPtr_i (S.cellR 1 rfl rfl) ?_ | refine ldPtr_i (S.cellR 2 rfl rfl) ?_ | refine ldSlice_i (S.cell 0 rfl rfl) ?_ | refine ldSlice_i (S.cell 1 rfl rfl) ?_ | refine ldSlice_i (S.cell 2 rfl rfl) ?_ | refine ldSlice_i (S.cell 3 rfl rfl) ?_ | refine ldSlice_i (S.cell 4 rfl rfl) ?_ | refine ldSlice_i (S.cell 5 rfl rfl) ?_ | refine ldSlice_i (S.cell 6 rfl rfl) ?_ | refine ldSlice_i (S.cell 7 rfl rfl) ?_ | refine ldSlice_i (S.cellR 0 rfl rfl) ?_ | refine ldSlice_i (S.cellR 1 rfl rfl) ?_ | refine ldSlice_i (S.cellR 2 rfl rfl) ?_ | refine ldStr_i (S.cell 0 rfl rfl) ?_ | refine ldStr_i (S.cell 1 rfl rfl) ?_ | refine ldStr_i (S.cell 2 rfl rfl) ?_ | refine ldStr_i (S.cell 3 rfl rfl) ?_ | refine ldStr_i (S.cell 4 rfl rfl) ?_ | refine ldStr_i (S.cell 5 rfl rfl) ?_ | refine ldStr_i (S.cell 6 rfl rfl) ?_ | refine ldStr_i (S.cell 7 rfl rfl) ?_ | refine ldStr_i (S.cellR 0 rfl rfl) ?_ | refine ldStr_i (S.cellR 1 rfl rfl) ?_ | refine ldStr_i (S.cellR 2 rfl rfl) ?_ | refine stI_S S 0 rfl (Nat.le_of_ble_eq_true rfl) (fun _ _ S => ?_) | refine stI_S S 1 rfl (Nat.le_of_ble_eq_true rfl) (fun _ _ S => ?_) | refine stI_S S 2 rfl (Nat.le_of_ble_eq_true rfl) (fun _ _ S => ?_) | refine stI_S S 3 rfl (Nat.le_of_ble_eq_true rfl) (fun _ _ S => ?_) | refine stI_S S 4 rfl (Nat.le_of_ble_eq_true rfl) (fun _ _ S => ?_) | refine stI_S S 5 rfl (Nat.le_of_ble_eq_true rfl) (fun _ _ S => ?_) | refine stI_S S 6 rfl (Nat.le_of_ble_eq_true rfl) (fun _ _ S => ?_) | refine stI_S S 7 rfl (Nat.le_of_ble_eq_true rfl) (fun _ _ S => ?_)))
  refine (few_ok (S.row 0 rfl) hxl hl).mono ?_
  rintro v h3 ⟨p19, l19, c19, rfl, hl19, S1⟩
  refine ⟨_, _, _, rfl, ?_⟩
  replace S := S.add S1 fun _ _ h => h
  (repeat (first | refine nilI_some ?_ | refine arrI_i (by decide) (by decide) ?_ | refine ldInt_i (S.cell 0 rfl rfl) ?_ | refine ldInt_i (S.cell 1 rfl rfl) ?_ | refine ldInt_i (S.cell 2 rfl rfl) ?_ | refine ldInt_i (S.cell 3 rfl rfl) ?_ | refine ldInt_i (S.cell 4 rfl rfl) ?_ | refine ldInt_i (S.cell 5 rfl rfl) ?_ | refine ldInt_i (S.cell 6 rfl rfl) ?_ | refine ldInt_i (S.cell 7 rfl rfl) ?_ | refine ldInt_i (S.cellR 0 rfl rfl) ?_ | refine ldInt_i (S.cellR 1 rfl rfl) ?_ | refine ldInt_i (S.cellR 2 rfl rfl) ?_ | refine ldBool_i (S.cell 0 rfl rfl) ?_ | refine ldBool_i (S.cell 1 rfl rfl) ?_ | refine ldBool_i (S.cell 2 rfl rfl) ?_ | refine ldBool_i (S.cell 3 rfl rfl) ?_ | refine ldBool_i (S.cell 4 rfl rfl) ?_ | refine ldBool_i (S.cell 5 rfl rfl) ?_ | refine ldBool_i (S.cell 6 rfl rfl) ?_ | refine ldBool_i (S.cell 7 rfl rfl) ?_ | refine ldBool_i (S.cellR 0 rfl rfl) ?_ | refine ldBool_i (S.cellR 1 rfl rfl) ?_ | refine ldBool_i (S.cellR 2 rfl rfl) ?_ | refine ldPtr_i (S.cell 0 rfl rfl) ?_ | refine ldPtr_i (S.cell 1 rfl rfl) ?_ | refine ldPtr_i (S.cell 2 rfl rfl) ?_ | refine ldPtr_i (S.cell 3 rfl rfl) ?_ | refine ldPtr_i (S.cell 4 rfl rfl) ?_ | refine ldPtr_i (S.cell 5 rfl rfl) ?_ | refine ldPtr_i (S.cell 6 rfl rfl) ?_ | refine ldPtr_i (S.cell 7 rfl rfl) ?_ | refine ldPtr_i (S.cellR 0 rfl rfl) ?_ | refine ldPtr_i (S.cellR 1 rfl rfl) ?_ | refine ldPtr_i (S.cellR 2 rfl rfl) ?_ | refine ldSlice_i (S.cell 0 rfl rfl) ?_ | refine ldSlice_i (S.cell 1 rfl rfl) ?_ | refine ldSlice_i (S.cell 2 rfl rfl) ?_ | refine ldSlice_i (S.cell 3 rfl rfl) ?_ | refine ldSlice_i (S.cell 4 rfl rfl) ?_ | refine ldSlice_i (S.cell 5 rfl rfl) ?_ | refine ldSlice_i (S.cell 6 rfl rfl) ?_ | refine ldSlice_i (S.cell 7 rfl rfl) ?_ | refine ldSlice_i (S.cellR 0 rfl rfl) ?_ | refine ldSlice_i (S.cellR 1 rfl rfl) ?_ | refine ldSlice_i (S.cellR 2 rfl rfl) ?_ | refine ldStr_i (S.cell 0 rfl rfl) ?_ | refine ldStr_i (S.cell 1 rfl rfl) ?_ | refine ldStr_i (S.cell 2 rfl rfl) ?_ | refine ldStr_i (S.cell 3 rfl rfl) ?_ | refine ldStr_i (S.cell 4 rfl rfl) ?_ | refine ldStr_i (S.cell 5 rfl rfl) ?_ | refine ldStr_i (S.cell 6 rfl rfl) ?_ | refine ldStr_i (S.cell 7 rfl rfl) ?_ | refine ldStr_i (S.cellR 0 rfl rfl) ?_ | refine ldStr_i (S.cellR 1 rfl rfl) ?_ | refine ldStr_i (S.cellR 2 rfl rfl) ?_ | refine stI_S S 0 rfl (Nat.le_of_ble_eq_true rfl) (fun _ _ S => ?_) | refine stI_S S 1 rfl (Nat.le_of_ble_eq_true rfl) (fun _ _ S => ?_) | refine stI_S S 2 rfl (Nat.le_of_ble_eq_true rfl) (fun _ _ S => ?_) | refine stI_S S 3 rfl (Nat.le_of_ble_eq_true rfl) (fun _ _ S => ?_) | refine stI_S S 4 rfl (Nat.le_of_ble_eq_true rfl) (fun _ _ S => ?_) | refine stI_S S 5 rfl (Nat.le_of_ble_eq_true rfl) (fun _ _ S => ?_) | refine stI_S S 6 rfl (Nat.le_of_ble_eq_true rfl) (fun _ _ S => ?_) | refine stI_S S 7 rfl (Nat.le_of_ble_eq_true rfl) (fun _ _ S => ?_)))
  refine (New_S (w := w) ⟨w1, w2, by omega⟩).mono ?_
  rintro v h4 ⟨b24, rfl, S1⟩
  refine ⟨_, rfl, ?_⟩
  replace S := S.add S1 fun _ _ h => h
  have hL := fewV_length xs
  generalize fewV xs = L at *
  have hm0 : Mok w ⟨0, 0, false⟩ := ⟨by simp, by simp only; omega, by simp⟩
  refine (Push_S (xs := L) ((S.into [3] [2] []).rowO 0) hm0 (by omega) hl19.symm (by omega) (by simp only; omega)).mono ?_
  rintro v h5 ⟨p26, l26, c26, rfl, hl26, S1⟩
  refine ⟨_, _, _, rfl, ?_⟩
  replace S := S.back1 3 S1
  have ht := turns w (by omega) L L.length (Nat.le_refl _)
  rw [List.take_of_length_le (Nat.le_refl _)] at ht
  have hlen := wrun_len w L ⟨0, 0, false⟩
  generalize wrun w ⟨0, 0, false⟩ L = r at *
  obtain ⟨m, es⟩ := r
  simp only at hl26 S ht hlen
  replace S := S.pick [1, 2, 3, 4] []
  replace S : Sep h no h5 [blk b13 [.int .i64 w.on, .int .i64 w.off, .int .i64 w.hold], own 1 p19 l19 c19 (ints L), wk b24 w m, own 2 p26 l26 c26 (evs es)] [] := S
  have hf5 := S.fra
  refine LoopS_i (fun n s h6 => h6 = h5 ∧ ∃ i : Nat, s = (true, ⟨b13, 0, none⟩, (p19, l19, c19), some ⟨b24, 0, none⟩, (p26, l26, c26), lastOn (es.take i), lastAt (es.take i), (i : Int), ()) ∧ i ≤ l26 ∧ n = l26 - i) l26 ⟨rfl, 0, rfl, by omega, by omega⟩ ?_
  rintro n s h6 ⟨rfl, i, rfl, hi, rfl⟩
  unfold law25_WakeTurns_l9
  dsimp only
  refine ifB_dec (fun hlt => ?_) (fun hge => ?_)
  · have hlt : i < l26 := by omega
    have hlt' : i < es.length := by omega
    obtain ⟨e1, e2, e3, e4, e5, e6⟩ := ht.ev i hlt'
    have hev := evs_at hlt'
    obtain ⟨a26, rfl⟩ := (S.own 3 rfl).row.some_of (by rw [evs_length]; omega)
    have c1 : cellH h6 (Addr.add a26 (Int.toNat (i : Int) * 2)) = some (.int .i64 es[i].1) := by
      rw [Int.toNat_natCast]; exact (S.own 3 rfl).row.cell hev.1
    have c2 : cellH h6 (Addr.add (Addr.add a26 (Int.toNat (i : Int) * 2)) 1) = some (.bool es[i].2) := by
      rw [Int.toNat_natCast, add_add _ _ (by omega)]; exact (S.own 3 rfl).row.cell hev.2
    have next : ∃ n', n' < l26 - i ∧ h6 = h6 ∧ ∃ i' : Nat, ((true, ⟨b13, 0, none⟩, (p19, l19, c19), some ⟨b24, 0, none⟩, (some a26, l26, c26), es[i].2, es[i].1, IntKind.wrap .i64 ((i : Int) + 1), ()) : Bool × Addr × (Option Addr × Nat × Nat) × Option Addr × (Option Addr × Nat × Nat) × Bool × Int × Int × Unit) =
        (true, ⟨b13, 0, none⟩, (p19, l19, c19), some ⟨b24, 0, none⟩, (some a26, l26, c26), lastOn (es.take i'), lastAt (es.take i'), (i' : Int), ()) ∧ i' ≤ l26 ∧ n' = l26 - i' := by
      refine ⟨l26 - (i + 1), by omega, rfl, i + 1, ?_, by omega, rfl⟩
      rw [lastOn_take hlt', lastAt_take hlt', wrap64_in (by omega)]
      rfl
    have cL : ∀ k : Int, 0 ≤ k → k < L.length → ∃ aL, p19 = some aL ∧ cellH h6 (Addr.add aL k.toNat) = some (.int .i64 (L.getD k.toNat 0)) := by
      intro k k0 k1
      obtain ⟨aL, rfl⟩ := (S.own 1 rfl).row.some_of (by rw [ints_length]; omega)
      refine ⟨aL, rfl, (S.own 1 rfl).row.cell (ints_get ?_)⟩
      rw [List.getD_eq_getElem?_getD, List.getElem?_eq_getElem (by omega)]; rfl
    refine ⟨fun s h7 => s = (true, ⟨b13, 0, none⟩, (p19, l19, c19), some ⟨b24, 0, none⟩, (some a26, l26, c26), lastAt (es.take i), (i : Int), ()) ∧ h7 = h6, ?_, ?_⟩
    · rintro s h7 ⟨rfl, rfl⟩
      unfold law25_WakeTurns_j13
      dsimp only
      refine idxI_i rfl rfl hlt (ldBool_i c2 ?_)
      refine ⟨fun s h8 => s = (true, ⟨b13, 0, none⟩, (p19, l19, c19), some ⟨b24, 0, none⟩, (some a26, l26, c26), es[i].2, lastAt (es.take i), (i : Int), ()) ∧ h8 = h7, ?_, ?_⟩
      · rintro s h8 ⟨rfl, rfl⟩
        unfold law25_WakeTurns_j16
        dsimp only
        refine LoopS_i (fun n s h9 => h9 = h8 ∧ ∃ k : Nat, s = (true, ⟨b13, 0, none⟩, (p19, l19, c19), some ⟨b24, 0, none⟩, (some a26, l26, c26), es[i].2, lastAt (es.take i), (i : Int), (k : Int), ()) ∧ k ≤ w.hold ∧ n = (w.hold - k).toNat) w.hold.toNat ⟨rfl, 0, rfl, by simp only [Int.ofNat_zero, Int.natCast_zero] at *; omega, by simp⟩ ?_
        rintro n s h9 ⟨rfl, k, rfl, hk, rfl⟩
        unfold law25_WakeTurns_l17
        dsimp only
        refine ifB_i (fun hon => ?_) (fun hoff => ?_)
        · (repeat (first | refine nilI_some ?_ | refine arrI_i (by decide) (by decide) ?_ | refine ldInt_i (S.cell 0 rfl rfl) ?_ | refine ldInt_i (S.cell 1 rfl rfl) ?_ | refine ldInt_i (S.cell 2 rfl rfl) ?_ | refine ldInt_i (S.cell 3 rfl rfl) ?_ | refine ldInt_i (S.cell 4 rfl rfl) ?_ | refine ldInt_i (S.cell 5 rfl rfl) ?_ | refine ldInt_i (S.cell 6 rfl rfl) ?_ | refine ldInt_i (S.cell 7 rfl rfl) ?_ | refine ldInt_i (S.cellR 0 rfl rfl) ?_ | refine ldInt_i (S.cellR 1 rfl rfl) ?_ | refine ldInt_i (S.cellR 2 rfl rfl) ?_ | refine ldBool_i (S.cell 0 rfl rfl) ?_ | refine ldBool_i (S.cell 1 rfl rfl) ?_ | refine ldBool_i (S.cell 2 rfl rfl) ?_ | refine ldBool_i (S.cell 3 rfl rfl) ?_ | refine ldBool_i (S.cell 4 rfl rfl) ?_ | refine ldBool_i (S.cell 5 rfl rfl) ?_ | refine ldBool_i (S.cell 6 rfl rfl) ?_ | refine ldBool_i (S.cell 7 rfl rfl) ?_ | refine ldBool_i (S.cellR 0 rfl rfl) ?_ | refine ldBool_i (S.cellR 1 rfl rfl) ?_ | refine ldBool_i (S.cellR 2 rfl rfl) ?_ | refine ldPtr_i (S.cell 0 rfl rfl) ?_ | refine ldPtr_i (S.cell 1 rfl rfl) ?_ | refine ldPtr_i (S.cell 2 rfl rfl) ?_ | refine ldPtr_i (S.cell 3 rfl rfl) ?_ | refine ldPtr_i (S.cell 4 rfl rfl) ?_ | refine ldPtr_i (S.cell 5 rfl rfl) ?_ | refine ldPtr_i (S.cell 6 rfl rfl) ?_ | refine ldPtr_i (S.cell 7 rfl rfl) ?_ | refine ldPtr_i (S.cellR 0 rfl rfl) ?_ | refine ldPtr_i (S.cellR 1 rfl rfl) ?_ | refine ldPtr_i (S.cellR 2 rfl rfl) ?_ | refine ldSlice_i (S.cell 0 rfl rfl) ?_ | refine ldSlice_i (S.cell 1 rfl rfl) ?_ | refine ldSlice_i (S.cell 2 rfl rfl) ?_ | refine ldSlice_i (S.cell 3 rfl rfl) ?_ | refine ldSlice_i (S.cell 4 rfl rfl) ?_ | refine ldSlice_i (S.cell 5 rfl rfl) ?_ | refine ldSlice_i (S.cell 6 rfl rfl) ?_ | refine ldSlice_i (S.cell 7 rfl rfl) ?_ | refine ldSlice_i (S.cellR 0 rfl rfl) ?_ | refine ldSlice_i (S.cellR 1 rfl rfl) ?_ | refine ldSlice_i (S.cellR 2 rfl rfl) ?_ | refine ldStr_i (S.cell 0 rfl rfl) ?_ | refine ldStr_i (S.cell 1 rfl rfl) ?_ | refine ldStr_i (S.cell 2 rfl rfl) ?_ | refine ldStr_i (S.cell 3 rfl rfl) ?_ | refine ldStr_i (S.cell 4 rfl rfl) ?_ | refine ldStr_i (S.cell 5 rfl rfl) ?_ | refine ldStr_i (S.cell 6 rfl rfl) ?_ | refine ldStr_i (S.cell 7 rfl rfl) ?_ | refine ldStr_i (S.cellR 0 rfl rfl) ?_ | refine ldStr_i (S.cellR 1 rfl rfl) ?_ | refine ldStr_i (S.cellR 2 rfl rfl) ?_ | refine stI_S S 0 rfl (Nat.le_of_ble_eq_true rfl) (fun _ _ S => ?_) | refine stI_S S 1 rfl (Nat.le_of_ble_eq_true rfl) (fun _ _ S => ?_) | refine stI_S S 2 rfl (Nat.le_of_ble_eq_true rfl) (fun _ _ S => ?_) | refine stI_S S 3 rfl (Nat.le_of_ble_eq_true rfl) (fun _ _ S => ?_) | refine stI_S S 4 rfl (Nat.le_of_ble_eq_true rfl) (fun _ _ S => ?_) | refine stI_S S 5 rfl (Nat.le_of_ble_eq_true rfl) (fun _ _ S => ?_) | refine stI_S S 6 rfl (Nat.le_of_ble_eq_true rfl) (fun _ _ S => ?_) | refine stI_S S 7 rfl (Nat.le_of_ble_eq_true rfl) (fun _ _ S => ?_)))
          refine ifB_dec (fun hk2 => ?_) (fun hk2 => ?_)
          · obtain ⟨e7, e8⟩ := e6 hon k (by omega) hk2
            have hlow := ht.low
            refine idxI_i rfl rfl hlt (ldInt_i c1 ?_)
            rw [wrap64_in (by omega)]
            refine ifB_false (decide_eq_false (by omega)) ?_
            refine idxI_i rfl rfl hlt (ldInt_i c1 ?_)
            rw [wrap64_in (by omega)]
            have hlo : 0 ≤ es[i].1 - (k : Int) := by
              have : -1 ≤ lastAt (es.take i) := by
                cases i with
                | zero => simp [lastAt]
                | succ j => rw [lastAt_take (by omega)]; have := (ht.ev j (by omega)).2.2.1; omega
              omega
            obtain ⟨aL, rfl, hc⟩ := cL (es[i].1 - k) hlo (by omega)
            refine idxI_i rfl (k := (es[i].1 - (k : Int)).toNat) (by omega) (by omega) ?_
            rw [Nat.mul_one]
            refine ldInt_i hc ?_
            (repeat (first | refine nilI_some ?_ | refine arrI_i (by decide) (by decide) ?_ | refine ldInt_i (S.cell 0 rfl rfl) ?_ | refine ldInt_i (S.cell 1 rfl rfl) ?_ | refine ldInt_i (S.cell 2 rfl rfl) ?_ | refine ldInt_i (S.cell 3 rfl rfl) ?_ | refine ldInt_i (S.cell 4 rfl rfl) ?_ | refine ldInt_i (S.cell 5 rfl rfl) ?_ | refine ldInt_i (S.cell 6 rfl rfl) ?_ | refine ldInt_i (S.cell 7 rfl rfl) ?_ | refine ldInt_i (S.cellR 0 rfl rfl) ?_ | refine ldInt_i (S.cellR 1 rfl rfl) ?_ | refine ldInt_i (S.cellR 2 rfl rfl) ?_ | refine ldBool_i (S.cell 0 rfl rfl) ?_ | refine ldBool_i (S.cell 1 rfl rfl) ?_ | refine ldBool_i (S.cell 2 rfl rfl) ?_ | refine ldBool_i (S.cell 3 rfl rfl) ?_ | refine ldBool_i (S.cell 4 rfl rfl) ?_ | refine ldBool_i (S.cell 5 rfl rfl) ?_ | refine ldBool_i (S.cell 6 rfl rfl) ?_ | refine ldBool_i (S.cell 7 rfl rfl) ?_ | refine ldBool_i (S.cellR 0 rfl rfl) ?_ | refine ldBool_i (S.cellR 1 rfl rfl) ?_ | refine ldBool_i (S.cellR 2 rfl rfl) ?_ | refine ldPtr_i (S.cell 0 rfl rfl) ?_ | refine ldPtr_i (S.cell 1 rfl rfl) ?_ | refine ldPtr_i (S.cell 2 rfl rfl) ?_ | refine ldPtr_i (S.cell 3 rfl rfl) ?_ | refine ldPtr_i (S.cell 4 rfl rfl) ?_ | refine ldPtr_i (S.cell 5 rfl rfl) ?_ | refine ldPtr_i (S.cell 6 rfl rfl) ?_ | refine ldPtr_i (S.cell 7 rfl rfl) ?_ | refine ldPtr_i (S.cellR 0 rfl rfl) ?_ | refine ldPtr_i (S.cellR 1 rfl rfl) ?_ | refine ldPtr_i (S.cellR 2 rfl rfl) ?_ | refine ldSlice_i (S.cell 0 rfl rfl) ?_ | refine ldSlice_i (S.cell 1 rfl rfl) ?_ | refine ldSlice_i (S.cell 2 rfl rfl) ?_ | refine ldSlice_i (S.cell 3 rfl rfl) ?_ | refine ldSlice_i (S.cell 4 rfl rfl) ?_ | refine ldSlice_i (S.cell 5 rfl rfl) ?_ | refine ldSlice_i (S.cell 6 rfl rfl) ?_ | refine ldSlice_i (S.cell 7 rfl rfl) ?_ | refine ldSlice_i (S.cellR 0 rfl rfl) ?_ | refine ldSlice_i (S.cellR 1 rfl rfl) ?_ | refine ldSlice_i (S.cellR 2 rfl rfl) ?_ | refine ldStr_i (S.cell 0 rfl rfl) ?_ | refine ldStr_i (S.cell 1 rfl rfl) ?_ | refine ldStr_i (S.cell 2 rfl rfl) ?_ | refine ldStr_i (S.cell 3 rfl rfl) ?_ | refine ldStr_i (S.cell 4 rfl rfl) ?_ | refine ldStr_i (S.cell 5 rfl rfl) ?_ | refine ldStr_i (S.cell 6 rfl rfl) ?_ | refine ldStr_i (S.cell 7 rfl rfl) ?_ | refine ldStr_i (S.cellR 0 rfl rfl) ?_ | refine ldStr_i (S.cellR 1 rfl rfl) ?_ | refine ldStr_i (S.cellR 2 rfl rfl) ?_ | refine stI_S S 0 rfl (Nat.le_of_ble_eq_true rfl) (fun _ _ S => ?_) | refine stI_S S 1 rfl (Nat.le_of_ble_eq_true rfl) (fun _ _ S => ?_) | refine stI_S S 2 rfl (Nat.le_of_ble_eq_true rfl) (fun _ _ S => ?_) | refine stI_S S 3 rfl (Nat.le_of_ble_eq_true rfl) (fun _ _ S => ?_) | refine stI_S S 4 rfl (Nat.le_of_ble_eq_true rfl) (fun _ _ S => ?_) | refine stI_S S 5 rfl (Nat.le_of_ble_eq_true rfl) (fun _ _ S => ?_) | refine stI_S S 6 rfl (Nat.le_of_ble_eq_true rfl) (fun _ _ S => ?_) | refine stI_S S 7 rfl (Nat.le_of_ble_eq_true rfl) (fun _ _ S => ?_)))
            refine ifB_false (decide_eq_false (by omega)) ?_
            rw [wrap64_in (by omega)]
            exact ⟨(w.hold - (k + 1 : Nat)).toNat, by omega, rfl, k + 1, rfl, by omega, rfl⟩
          · exact idxI_i rfl rfl hlt (ldInt_i c1 next)
        · exact idxI_i rfl rfl hlt (ldInt_i c1 next)
      · refine ifB_i (fun hoff => ?_) (fun hon => ⟨rfl, rfl⟩)
        have hoff : es[i].2 = false := by simpa using hoff
        have e5 := e5 hoff
        refine idxI_i rfl rfl hlt (ldInt_i c1 ?_)
        obtain ⟨aL, rfl, hc⟩ := cL es[i].1 e3 e4
        refine idxI_i rfl (k := es[i].1.toNat) (by omega) (by omega) ?_
        rw [Nat.mul_one]
        refine ldInt_i hc ?_
        (repeat (first | refine nilI_some ?_ | refine arrI_i (by decide) (by decide) ?_ | refine ldInt_i (S.cell 0 rfl rfl) ?_ | refine ldInt_i (S.cell 1 rfl rfl) ?_ | refine ldInt_i (S.cell 2 rfl rfl) ?_ | refine ldInt_i (S.cell 3 rfl rfl) ?_ | refine ldInt_i (S.cell 4 rfl rfl) ?_ | refine ldInt_i (S.cell 5 rfl rfl) ?_ | refine ldInt_i (S.cell 6 rfl rfl) ?_ | refine ldInt_i (S.cell 7 rfl rfl) ?_ | refine ldInt_i (S.cellR 0 rfl rfl) ?_ | refine ldInt_i (S.cellR 1 rfl rfl) ?_ | refine ldInt_i (S.cellR 2 rfl rfl) ?_ | refine ldBool_i (S.cell 0 rfl rfl) ?_ | refine ldBool_i (S.cell 1 rfl rfl) ?_ | refine ldBool_i (S.cell 2 rfl rfl) ?_ | refine ldBool_i (S.cell 3 rfl rfl) ?_ | refine ldBool_i (S.cell 4 rfl rfl) ?_ | refine ldBool_i (S.cell 5 rfl rfl) ?_ | refine ldBool_i (S.cell 6 rfl rfl) ?_ | refine ldBool_i (S.cell 7 rfl rfl) ?_ | refine ldBool_i (S.cellR 0 rfl rfl) ?_ | refine ldBool_i (S.cellR 1 rfl rfl) ?_ | refine ldBool_i (S.cellR 2 rfl rfl) ?_ | refine ldPtr_i (S.cell 0 rfl rfl) ?_ | refine ldPtr_i (S.cell 1 rfl rfl) ?_ | refine ldPtr_i (S.cell 2 rfl rfl) ?_ | refine ldPtr_i (S.cell 3 rfl rfl) ?_ | refine ldPtr_i (S.cell 4 rfl rfl) ?_ | refine ldPtr_i (S.cell 5 rfl rfl) ?_ | refine ldPtr_i (S.cell 6 rfl rfl) ?_ | refine ldPtr_i (S.cell 7 rfl rfl) ?_ | refine ldPtr_i (S.cellR 0 rfl rfl) ?_ | refine ldPtr_i (S.cellR 1 rfl rfl) ?_ | refine ldPtr_i (S.cellR 2 rfl rfl) ?_ | refine ldSlice_i (S.cell 0 rfl rfl) ?_ | refine ldSlice_i (S.cell 1 rfl rfl) ?_ | refine ldSlice_i (S.cell 2 rfl rfl) ?_ | refine ldSlice_i (S.cell 3 rfl rfl) ?_ | refine ldSlice_i (S.cell 4 rfl rfl) ?_ | refine ldSlice_i (S.cell 5 rfl rfl) ?_ | refine ldSlice_i (S.cell 6 rfl rfl) ?_ | refine ldSlice_i (S.cell 7 rfl rfl) ?_ | refine ldSlice_i (S.cellR 0 rfl rfl) ?_ | refine ldSlice_i (S.cellR 1 rfl rfl) ?_ | refine ldSlice_i (S.cellR 2 rfl rfl) ?_ | refine ldStr_i (S.cell 0 rfl rfl) ?_ | refine ldStr_i (S.cell 1 rfl rfl) ?_ | refine ldStr_i (S.cell 2 rfl rfl) ?_ | refine ldStr_i (S.cell 3 rfl rfl) ?_ | refine ldStr_i (S.cell 4 rfl rfl) ?_ | refine ldStr_i (S.cell 5 rfl rfl) ?_ | refine ldStr_i (S.cell 6 rfl rfl) ?_ | refine ldStr_i (S.cell 7 rfl rfl) ?_ | refine ldStr_i (S.cellR 0 rfl rfl) ?_ | refine ldStr_i (S.cellR 1 rfl rfl) ?_ | refine ldStr_i (S.cellR 2 rfl rfl) ?_ | refine stI_S S 0 rfl (Nat.le_of_ble_eq_true rfl) (fun _ _ S => ?_) | refine stI_S S 1 rfl (Nat.le_of_ble_eq_true rfl) (fun _ _ S => ?_) | refine stI_S S 2 rfl (Nat.le_of_ble_eq_true rfl) (fun _ _ S => ?_) | refine stI_S S 3 rfl (Nat.le_of_ble_eq_true rfl) (fun _ _ S => ?_) | refine stI_S S 4 rfl (Nat.le_of_ble_eq_true rfl) (fun _ _ S => ?_) | refine stI_S S 5 rfl (Nat.le_of_ble_eq_true rfl) (fun _ _ S => ?_) | refine stI_S S 6 rfl (Nat.le_of_ble_eq_true rfl) (fun _ _ S => ?_) | refine stI_S S 7 rfl (Nat.le_of_ble_eq_true rfl) (fun _ _ S => ?_)))
        exact ifB_false (decide_eq_false (by omega)) ⟨rfl, rfl⟩
    · refine idxI_i rfl rfl hlt (ldBool_i c2 ?_)
      refine ifB_false (by simpa using e1) (idxI_i rfl rfl hlt (ldInt_i c1 ?_))
      refine ifB_false (decide_eq_false (by omega)) (idxI_i rfl rfl hlt (ldInt_i c1 ?_))
      exact ifB_false (decide_eq_false (by omega)) ⟨rfl, rfl⟩
  · have hil : i = es.length := by omega
    rw [List.take_of_length_le (by omega)]
    refine ifB_true rfl ?_
    refine (On_ok (S.at 2 rfl)).mono ?_
    rintro v h7 ⟨rfl, rfl⟩
    refine ⟨_, rfl, ?_, hf5⟩
    rw [ht.on]
    simp

end Go.Proofs.Ytoobckjlkopikaa.G
