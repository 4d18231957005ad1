/- The law LoopKeeps, over heaps. -/
import Derived.Test.YtdjofpdmdbcgjacCLoop2
namespace Go.Proofs.Ytdjofpdmdbcgjac.G
open Go Go.Sh
set_option linter.unusedVariables false

def frK (w t : Nat) : List Int := (List.range w).map fun j : Nat => (100 * (t : Int) + (j : Int))
theorem frK_len (w t : Nat) : (frK w t).length = w := by simp [frK]

/-- Where the last frames lie. -/
def keptK (ws : List Int) (w r i : Nat) : Prop := ∀ t, t < i → i ≤ t + r → (ws.drop (t % r * w)).take w = frK w t

theorem keptK_step {ws : List Int} {w r i : Nat} (hr : 1 ≤ r) (hb : r * w ≤ ws.length) (h : keptK ws w r i) : keptK (putAt ws (0 + i % r * w) (frK w i)) w r (i + 1) := by
  intro t h1 h2
  have hm := mod_mul_le (t := i) (w := w) hr hb
  rw [Nat.zero_add]
  by_cases hti : t = i
  · subst hti
    have := putAt_same (ws := ws) (f := frK w t) (o := t % r * w) (by rw [frK_len]; omega)
    rwa [frK_len] at this
  · have hne : t % r ≠ i % r := mod_ne (by omega) (by omega)
    have ha := mul_apart (w := w) hne
    rw [putAt_other (by rw [frK_len]; omega) (by rw [frK_len]; omega)]
    exact h t (by omega) (by omega)

theorem LoopKeeps_ok {h : Heap} (width room many : Int) : callP P n_law08_LoopKeeps #[.int .i64 width, .int .i64 room, .int .i64 many] h fun v h' => v = .bool true ∧ Fra no h h' := by
  refine call_law08_LoopKeeps _ _ _ ?_
  unfold law08_LoopKeeps
  have S := Sep.start h no
  refine (awake_ok).mono ?_
  rintro _ _ ⟨rfl, F⟩
  refine ⟨_, rfl, ?_⟩
  replace S := S.fra0 F
  obtain ⟨w0, ew, hw0⟩ := rest_ok width (m := 5) (by omega) (by omega)
  obtain ⟨r0, er, hr0⟩ := low7 room
  obtain ⟨n, en, hn⟩ := rest_ok many (m := 41) (by omega) (by omega)
  have e5 : ((5 : Nat) : Int) = 5 := rfl
  have e41 : ((41 : Nat) : Int) = 41 := rfl
  rw [e5] at ew
  rw [e41] at en
  rw [ew, er, en]
  have e1 : IntKind.wrap .i64 (1 + (w0 : Int)) = ((w0 + 1 : Nat) : Int) := by rw [wrap64_in (by omega)]; omega
  have e2 : IntKind.wrap .i64 (1 + (r0 : Int)) = ((r0 + 1 : Nat) : Int) := by rw [wrap64_in (by omega)]; omega
  rw [e1, e2]
  generalize hw : w0 + 1 = w
  generalize hr : r0 + 1 = r
  have hwr : w * r ≤ 5 * 8 := Nat.mul_le_mul (by omega) (by omega)
  have hwr2 : r * w = w * r := Nat.mul_comm _ _
  have hwr3 : w ≤ w * r := Nat.le_mul_of_pos_right w (by omega)
  have e3 : IntKind.wrap .i64 (IntKind.wrap .i64 (IntKind.wrap .i64 ((w : Int) * (r : Int)) + (w : Int)) - 1) = ((w * r + w - 1 : Nat) : Int) := by
    have : (w : Int) * (r : Int) = ((w * r : Nat) : Int) := by simp
    rw [this]
    generalize w * r = z at hwr
    rw [wrap64_in (n := (z : Int)) (by omega), wrap64_in (n := (z : Int) + w) (by omega), wrap64_in (by omega)]; omega
  rw [e3]
  generalize hN : w * r + w - 1 = N
  have hNr : N / w = r := by
    rw [← hN, show w * r + w - 1 = w * r + (w - 1) by omega, Nat.mul_add_div (by omega), Nat.div_eq_of_lt (by omega)]; rfl
  refine (New_S N (by omega)).mono ?_
  rintro _ _ ⟨a, bw, rfl, S1⟩
  refine ⟨_, rfl, ?_⟩
  replace S := S.add S1 fun _ _ h => h
  dsimp only [List.cons_append, List.nil_append] at S
  refine (Part_S S 1 rfl 0 N (by omega) (by omega)).mono ?_
  rintro _ _ ⟨pp, rfl, S⟩
  refine ⟨_, rfl, ?_⟩
  dsimp only [List.cons_append, List.nil_append] at S
  refine (LNew_S S 2 rfl w (by omega) (by omega) (by omega)).mono ?_
  rintro _ _ ⟨lp, rfl, S⟩
  refine ⟨_, rfl, ?_⟩
  dsimp only [List.cons_append, List.nil_append] at S
  rw [hNr] at S
  refine LoopS_i (fun m s g => ∃ (i : Nat) (ws : List Int), s = (true, (w : Int), (r : Int), (n : Int), some ⟨lp, 0, none⟩, (i : Int), ()) ∧ i ≤ n ∧ m = n - i ∧ ws.length = N ∧ keptK ws w r i ∧ Sep h no g [wds bw ws, ar a bw N 0, pt pp a bw 0 N, lo lp pp w r i] []) n ⟨0, _, rfl, by omega, rfl, by simp, (by intro t ht; omega), S⟩ ?_
  rintro m s g ⟨i, ws, rfl, hi, rfl, hwl, hk, S⟩
  unfold law08_LoopKeeps_l7
  dsimp only
  refine ifB_dec (fun hlt => ?_) (fun hge => ?_)
  · replace S := S.nil 1
    dsimp only [List.cons_append, List.nil_append] at S
    refine LoopS_i (fun m s g => ∃ (j : Nat), ∃ q k d, s = (true, (w : Int), (r : Int), (n : Int), some ⟨lp, 0, none⟩, (i : Int), (q, k, d), (j : Int), ()) ∧ j ≤ w ∧ m = w - j ∧ k = j ∧ Sep h no g [wds bw ws, ar a bw N 0, pt pp a bw 0 N, lo lp pp w r i, own 1 q k d (ints (frK j i))] []) w ⟨0, none, 0, 0, rfl, by omega, rfl, rfl, S⟩ ?_
    rintro m s g ⟨j, q, k, d, rfl, hj, rfl, rfl, S⟩
    unfold law08_LoopKeeps_l11
    dsimp only
    refine ifB_dec (fun hlt => ?_) (fun hge => ?_)
    · rw [wrap64_in (n := 100 * (i : Int)) (by omega), wrap64_in (n := 100 * (i : Int) + (k : Int)) (by omega)]
      refine newI_S S (fun b1 _ _ S => ?_)
      dsimp only [List.cons_append, List.nil_append] at S
      refine appI_S S 4 (ys := ints [100 * (i : Int) + (k : Int)]) rfl rfl (by decide) (by omega) (Row.of_at (S.at 5 rfl)) rfl ints_one fun p' l' c' h' hl' S => ?_
      rw [wrap64_in (by omega)]
      refine ⟨w - (k + 1), by omega, k + 1, p', l', c', rfl, by omega, rfl, hl', ?_⟩
      have e : frK (k + 1) i = frK k i ++ [100 * (i : Int) + (k : Int)] := by simp [frK, List.range_succ]
      rw [e, ← ints_append]
      exact S.pw [0, 1, 2, 3, 4]
    · have hkw : k = w := by omega
      subst hkw
      have ha : allW (frK k i) := by
        intro x hx
        simp only [frK, List.mem_map, List.mem_range] at hx
        obtain ⟨j, hj, rfl⟩ := hx
        unfold isW; omega
      refine (LPush_S ((S.into [0, 1, 2, 3] [4] []).rowO 0) 0 rfl (frK_len k i) (by omega) (by omega) (by omega) (by omega) (by omega) (by omega) (by omega)).mono ?_
      rintro _ _ ⟨rfl, S1⟩
      refine ⟨_, rfl, ?_⟩
      replace S := S.back [0,1,2,3] S1
      rw [lps_ok (frK_len k i) ha] at S ⊢
      refine ifB_false rfl ?_
      dsimp only [merge, List.set] at S
      refine (LCount_ok S 3 rfl).mono ?_
      rintro _ _ ⟨rfl, rfl⟩
      refine ⟨_, rfl, ?_⟩
      have e : IntKind.wrap .i64 ((i : Int) + 1) = ((i + 1 : Nat) : Int) := by rw [wrap64_in (by omega)]; rfl
      rw [e]
      refine ifB_false (by simp) ?_
      refine ⟨n - (i + 1), by omega, i + 1, _, rfl, by omega, rfl, ?_, keptK_step (by omega) (by omega) hk, S.pw [0, 1, 2, 3]⟩
      rw [putAt_length (by rw [frK_len]; have := mod_mul_le (t := i) (w := k) (show 1 ≤ r by omega) (Nat.le_refl (r * k)); omega)]; exact hwl
  · have hin : i = n := by omega
    subst hin
    refine LoopS_i (fun m s g => ∃ (j : Nat), s = (true, (w : Int), (r : Int), (i : Int), some ⟨lp, 0, none⟩, (j : Int) - 2, ()) ∧ j ≤ i + 4 ∧ m = i + 4 - j ∧ Sep h no g [wds bw ws, ar a bw N 0, pt pp a bw 0 N, lo lp pp w r i] []) (i + 4) ⟨0, rfl, by omega, rfl, S⟩ ?_
    rintro m s g ⟨j, rfl, hj, rfl, S⟩
    unfold law08_LoopKeeps_l17
    dsimp only
    rw [wrap64_in (n := (i : Int) + 2) (by omega)]
    refine ifB_dec (fun hlt => ?_) (fun hge => ?_)
    · generalize ht : (j : Int) - 2 = t
      rw [ht] at hlt
      refine (LGet_S S (by omega) (by omega) (by omega) (by omega) (by omega) (by omega) (by omega) t).mono ?_
      rintro _ _ ⟨p', l', c', rfl, hl', S⟩
      refine ⟨_, _, _, _, rfl, ?_⟩
      have hlen : lin r i t = true → (lgt ws 0 w r i t).length = w := fun hin => by
        have hb := mod_mul_le (t := t.toNat) (w := w) (show 1 ≤ r by omega) (Nat.le_refl (r * w))
        unfold lgt; rw [if_pos hin]; simp; omega
      have hnil : lin r i t = false → lgt ws 0 w r i t = [] := fun hin => by unfold lgt; rw [if_neg (by simp [hin])]
      have hel : lin r i t = true → lgt ws 0 w r i t = (List.range w).map fun j : Nat => (100 * t + (j : Int)) := fun hin => by
        have hin2 := of_decide_eq_true hin
        unfold lgt
        rw [if_pos hin, Nat.zero_add, hk t.toNat (by omega) (by omega)]
        unfold frK
        rw [show ((t.toNat : Nat) : Int) = t by omega]
      refine ⟨fun s g => s = (true, (w : Int), (r : Int), (i : Int), some ⟨lp, 0, none⟩, t, (p', l', c'), ()) ∧ Sep h no g [wds bw ws, ar a bw N 0, pt pp a bw 0 N, lo lp pp w r i, own 1 p' l' c' (ints (lgt ws 0 w r i t))] [], ?_, ?_⟩
      · rintro s g ⟨rfl, S⟩
        unfold law08_LoopKeeps_j22
        dsimp only
        refine LoopS_i (fun m s g => ∃ x : Nat, s = (true, (w : Int), (r : Int), (i : Int), some ⟨lp, 0, none⟩, t, (p', l', c'), (x : Int), ()) ∧ x ≤ l' ∧ m = l' - x ∧ Sep h no g [wds bw ws, ar a bw N 0, pt pp a bw 0 N, lo lp pp w r i, own 1 p' l' c' (ints (lgt ws 0 w r i t))] []) l' ⟨0, rfl, by omega, rfl, S⟩ ?_
        rintro m s g ⟨x, rfl, hx, rfl, S⟩
        unfold law08_LoopKeeps_l23
        dsimp only
        refine ifB_dec (fun hlt2 => ?_) (fun hge2 => ?_)
        · have hx2 : x < (lgt ws 0 w r i t).length := by omega
          have hin : lin r i t = true := by
            cases hc : lin r i t
            · rw [hnil hc] at hx2; simp at hx2
            · rfl
          have hlw := hlen hin
          obtain ⟨aa, rfl⟩ := (S.own 4 rfl).row.some_of (by rw [ints_length]; omega)
          refine idxI_i rfl rfl (by omega) ?_
          simp only [Int.toNat_natCast, Nat.mul_one]
          have hv : (lgt ws 0 w r i t)[x]? = some (100 * t + (x : Int)) := by
            rw [hel hin, List.getElem?_map, List.getElem?_range (by omega)]; rfl
          refine ldInt_i ((S.own 4 rfl).row.cell (ints_get hv)) ?_
          rw [wrap64_in (n := 100 * t) (by omega), wrap64_in (n := 100 * t + (x : Int)) (by omega), wrap64_in (by omega)]
          refine ifB_false (by simp) ⟨l' - (x + 1), by omega, x + 1, rfl, by omega, rfl, S⟩
        · rw [wrap64_in (by omega)]
          refine ⟨i + 4 - (j + 1), by omega, j + 1, ?_, by omega, rfl, S.pw [0, 1, 2, 3]⟩
          have : t + 1 = ((j + 1 : Nat) : Int) - 2 := by omega
          rw [this]
      · rw [wrap64_in (n := (i : Int) - (r : Int)) (by omega)]
        cases hc : lin r i t
        · have hc2 := of_decide_eq_false hc
          have h0 := hnil hc
          rw [h0] at hl'
          simp only [List.length_nil] at hl'
          refine ifB_dec (fun h1 => ifB_dec (fun h2 => ifB_false ?_ (ifB_false rfl (ifB_true rfl (ifB_false (decide_eq_false (by omega)) ⟨rfl, S⟩)))) fun h2 => ifB_false rfl (ifB_false rfl (ifB_true rfl (ifB_false (decide_eq_false (by omega)) ⟨rfl, S⟩)))) fun h1 => ifB_false rfl (ifB_false rfl (ifB_true rfl (ifB_false (decide_eq_false (by omega)) ⟨rfl, S⟩)))
          rw [decide_eq_false (by omega)]; rfl
        · have hc2 := of_decide_eq_true hc
          have h0 := hlen hc
          refine ifB_true (decide_eq_true (by omega)) (ifB_true (decide_eq_true (by omega)) (ifB_false ?_ (ifB_true rfl (ifB_false (by simp; omega) (ifB_false rfl ⟨rfl, S⟩)))))
          rw [decide_eq_true (by omega)]; rfl
    · refine ifB_true rfl ?_
      refine (LRoom_ok S 3 rfl).mono ?_
      rintro _ _ ⟨rfl, rfl⟩
      refine ⟨_, rfl, ?_⟩
      exact ⟨by simp, S.fra⟩

end Go.Proofs.Ytdjofpdmdbcgjac.G
