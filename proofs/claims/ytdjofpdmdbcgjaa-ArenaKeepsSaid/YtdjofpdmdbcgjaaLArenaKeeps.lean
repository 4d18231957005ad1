/- The law ArenaKeeps, over heaps. -/
import Derived.Test.YtdjofpdmdbcgjaaCArena3
import Derived.Test.YtdjofpdmdbcgjaaLArenaLays
namespace Go.Proofs.Ytdjofpdmdbcgjaa.G
open Go Go.Sh
set_option linter.unusedVariables false

theorem pset_ok {ws xs : List Int} (hl : xs.length = ws.length) (hw : allW xs) : pset ws xs = (0, xs) := by unfold pset; rw [if_neg (by omega), if_pos hw]
theorem pset_len {ws xs : List Int} (hl : xs.length ≠ ws.length) : pset ws xs = (22, ws) := by unfold pset; rw [if_pos hl]
theorem pset_not {ws xs : List Int} (hl : xs.length = ws.length) (hw : ¬ allW xs) : pset ws xs = (16, ws) := by unfold pset; rw [if_neg (by omega), if_neg hw]

theorem ArenaKeeps_ok {p : Option Addr} {l c : Nat} {h : Heap} {xs : List Int} (wide : Int) (hx : Row h p (ints xs)) (hxl : xs.length = l) (hb : l < 2 ^ 62) :
    callP P n_law07_ArenaKeeps #[.slice p l c, .int .i64 wide] h fun v h' => v = .bool true ∧ Fra no h h' := by
  refine call_law07_ArenaKeeps _ _ _ _ ?_
  unfold law07_ArenaKeeps
  have S := (Sep.start h no).read (row p (ints xs)) hx
  refine (awake_ok).mono ?_
  rintro _ _ ⟨rfl, F⟩
  refine ⟨_, rfl, ?_⟩
  replace S := S.fra0 F
  replace S := S.nil 1
  refine ⟨fun s g => ∃ q k d acc, s = (wide, true, (q, k, d), ()) ∧ Sep h no g [own 1 q k d (ints acc)] [] ∧ acc.length = k ∧ k ≤ 40 ∧ allW acc, ?_, ?_⟩
  · rintro s g ⟨q, k, d, acc, rfl, S, hk, hk40, hw⟩
    unfold law07_ArenaKeeps_j7
    dsimp only
    refine (New_S k (by omega)).mono ?_
    rintro _ _ ⟨a, bw, rfl, S1⟩
    refine ⟨_, rfl, ?_⟩
    replace S := S.add S1 fun _ _ h => h
    refine (New_S k (by omega)).mono ?_
    rintro _ _ ⟨a', bw', rfl, S1⟩
    refine ⟨_, rfl, ?_⟩
    replace S := S.add S1 fun _ _ h => h
    dsimp only [List.cons_append, List.nil_append] at S
    refine ⟨fun s g => s = (wide, true, (q, k, d), some ⟨a, 0, none⟩, some ⟨a', 0, none⟩, ()) ∧ Sep h no g [own 1 q k d (ints acc), wds bw (List.replicate k 0), ar a bw k 0, wds bw' (List.replicate k 0), ar a' bw' k 0] [], ?_, ifB_false rfl (ifB_false rfl ⟨rfl, S⟩)⟩
    rintro s g ⟨rfl, S⟩
    unfold law07_ArenaKeeps_j11
    dsimp only
    refine (Set_S S 2 1 rfl rfl (by simp) (by omega) (S.own 0 rfl).row hk (by omega)).mono ?_
    rintro _ _ ⟨rfl, S⟩
    rw [pset_ok (by simp [hk]) hw] at S ⊢
    refine ⟨_, rfl, ?_⟩
    dsimp only [List.set] at S
    refine (Words_N S 2 1 rfl rfl hk (by omega)).mono ?_
    rintro _ _ ⟨p1, l1, c1, rfl, hl1, S1⟩
    refine ⟨_, _, _, rfl, ?_⟩
    replace S := S.add S1 fun _ _ h => h
    dsimp only [List.cons_append, List.nil_append] at S
    refine (Set_S S 4 3 rfl rfl (by simp) (by omega) (S.own 5 rfl).row hl1.symm (by omega)).mono ?_
    rintro _ _ ⟨rfl, S⟩
    rw [pset_ok (by simp [hk]) hw] at S ⊢
    refine ⟨_, rfl, ?_⟩
    dsimp only [List.set] at S
    refine LoopS_i (fun m s g => ∃ (i : Nat) (zs : List Int), s = (wide, true, (q, k, d), some ⟨a, 0, none⟩, some ⟨a', 0, none⟩, 0, (p1, l1, c1), 0, (i : Int), ()) ∧ i ≤ l1 ∧ m = l1 - i ∧ Sep h no g [own 1 q k d (ints acc), wds bw acc, ar a bw k 0, wds bw' acc, ar a' bw' k 0, own 1 p1 l1 c1 (ints zs)] []) l1 ⟨0, acc, rfl, by omega, rfl, S⟩ ?_
    rintro m s g ⟨i, zs, rfl, hi, rfl, S⟩
    unfold law07_ArenaKeeps_l15
    dsimp only
    refine ifB_dec (fun hlt => ?_) (fun hge => ?_)
    · have hz := (S.own 5 rfl).1
      rw [ints_length] at hz
      obtain ⟨aa, rfl⟩ := (S.own 5 rfl).row.some_of (by rw [ints_length]; omega)
      refine idxI_i rfl rfl (by omega) ?_
      simp only [Int.toNat_natCast, Nat.mul_one]
      refine stO_S S 5 rfl (by rw [ints_length]; omega) fun h2 _ S => ?_
      rw [wrap64_in (by omega)]
      refine ⟨l1 - (i + 1), by omega, i + 1, zs.set i 7, rfl, by omega, rfl, ?_⟩
      have e : (ints zs).set i (.int .i64 7) = ints (zs.set i 7) := by simp [ints, List.map_set]
      rw [← e]; exact S
    · replace S := S.pick [0, 1, 2, 3, 4] []
      dsimp only [Sh.pick, List.getElem?_cons_zero, List.getElem?_cons_succ] at S
      refine (Words_N S 2 1 rfl rfl hk (by omega)).mono ?_
      rintro _ _ ⟨p2, l2, c2, rfl, hl2, S1⟩
      refine ⟨_, _, _, rfl, ?_⟩
      replace S := S.add S1 fun _ _ h => h
      dsimp only [List.cons_append, List.nil_append] at S
      refine (same_ok (S.own 5 rfl).row hl2.symm (S.own 0 rfl).row hk (by omega)).mono ?_
      rintro _ _ ⟨rfl, rfl⟩
      refine ⟨_, rfl, ?_⟩
      refine (Words_N S 4 3 rfl rfl hk (by omega)).mono ?_
      rintro _ _ ⟨p3, l3, c3, rfl, hl3, S1⟩
      refine ⟨_, _, _, rfl, ?_⟩
      replace S := S.add S1 fun _ _ h => h
      dsimp only [List.cons_append, List.nil_append] at S
      refine (same_ok (S.own 6 rfl).row hl3.symm (S.own 0 rfl).row hk (by omega)).mono ?_
      rintro _ _ ⟨rfl, rfl⟩
      refine ⟨_, rfl, ?_⟩
      replace S := S.pick [0, 1, 2, 3, 4] []
      dsimp only [Sh.pick, List.getElem?_cons_zero, List.getElem?_cons_succ] at S
      refine newI_S (cs := []) S fun b1 h1 _ S => ?_
      replace S := S.toOwn 5 1 0 0 rfl (Nat.le_refl _)
      dsimp only [List.set, List.cons_append, List.nil_append] at S
      refine appI_S S 5 (ys := ints acc) rfl rfl (by decide) (by omega) (S.own 0 rfl).row (by rw [ints_length]; omega) ints_one fun p4 l4 c4 h4 hl4 S => ?_
      dsimp only [List.set, List.cons_append, List.nil_append] at S
      refine newI_S (cs := [.int .i64 0]) S fun b2 h2 _ S => ?_
      refine appI_S S 5 (ys := ints [0]) rfl rfl (by decide) (by omega) (Row.of_at (S.at 6 rfl)) rfl ints_one fun p5 l5 c5 h5 hl5 S => ?_
      dsimp only [List.set, List.cons_append, List.nil_append] at S
      have e1 : Value.int .i64 (acc.getD 0 0) = Value.int .i64 (acc.getD 0 0) := rfl
      have e2 : List.take (0 * 1) ([] : List Value) ++ ints acc ++ ints [0] = ints (acc ++ [0]) := by simp [ints]
      have S' := S.own 5 rfl
      refine (Set_S S 4 3 rfl rfl hk (by omega) (xs := acc ++ [0]) (by have := S'.row; simpa [ints] using this) (by simp; omega) (by omega)).mono ?_
      rintro _ _ ⟨rfl, S⟩
      rw [pset_len (by simp)] at S ⊢
      refine ⟨_, rfl, ?_⟩
      dsimp only [List.set] at S
      replace S := S.pick [0, 1, 2, 3, 4] []
      dsimp only [Sh.pick, List.getElem?_cons_zero, List.getElem?_cons_succ] at S
      refine ⟨fun s g => s = (wide, true, (q, k, d), some ⟨a, 0, none⟩, some ⟨a', 0, none⟩, 0, 0, true, true, 22, decide (isW wide), ()) ∧ Sep h no g [own 1 q k d (ints acc), wds bw acc, ar a bw k 0, wds bw' acc, ar a' bw' k 0] [], ?_, ?_⟩
      · rintro s g ⟨rfl, S⟩
        unfold law07_ArenaKeeps_j22
        dsimp only
        refine ifB_i (fun h0 => ?_) (fun h0 => ?_)
        · exact ifB_true rfl (ifB_true rfl (ifB_true rfl (ifB_true rfl (ifB_true rfl ⟨rfl, S.fra⟩))))
        · have hk0 : k ≠ 0 := by simp at h0; omega
          obtain ⟨aa, rfl⟩ := (S.own 0 rfl).row.some_of (by rw [ints_length]; omega)
          rw [wrap64_in (by omega)]
          refine idxI_i rfl (k := k - 1) (by omega) (by omega) ?_
          have e3 : ((k : Int) - 1).toNat * 1 = k - 1 := by omega
          rw [e3]
          refine stO_S S 0 rfl (by rw [ints_length]; omega) fun h2 _ S => ?_
          have e : (ints acc).set (k - 1) (.int .i64 wide) = ints (acc.set (k - 1) wide) := by simp [ints, List.map_set]
          rw [e] at S
          dsimp only [List.set] at S
          refine (Set_S S 4 3 rfl rfl hk (by omega) (S.own 0 rfl).row (by simp [hk]) (by omega)).mono ?_
          rintro _ _ ⟨rfl, S⟩
          by_cases hf : isW wide
          · have hw2 : allW (acc.set (k - 1) wide) := fun x hx => by
              rcases List.mem_or_eq_of_mem_set hx with hx | rfl
              · exact hw x hx
              · exact hf
            rw [pset_ok (by simp) hw2] at S ⊢
            refine ⟨_, rfl, ?_⟩
            dsimp only [List.set] at S
            refine (Words_N S 4 3 rfl rfl (by simp [hk]) (by omega)).mono ?_
            rintro _ _ ⟨p2, l2, c2, rfl, hl2, S1⟩
            refine ⟨_, _, _, rfl, ?_⟩
            replace S := S.add S1 fun _ _ h => h
            dsimp only [List.cons_append, List.nil_append] at S
            refine (Words_N S 2 1 rfl rfl hk (by omega)).mono ?_
            rintro _ _ ⟨p3, l3, c3, rfl, hl3, S1⟩
            refine ⟨_, _, _, rfl, ?_⟩
            replace S := S.add S1 fun _ _ h => h
            dsimp only [List.cons_append, List.nil_append] at S
            refine (same_ok (S.own 5 rfl).row hl2.symm (S.own 6 rfl).row hl3.symm (by rw [hl2]; simp; omega)).mono ?_
            rintro _ _ ⟨rfl, rfl⟩
            refine ⟨_, rfl, ?_⟩
            refine ifB_true rfl (ifB_true rfl (ifB_true rfl (ifB_true rfl (ifB_true rfl (ifB_true rfl (ifB_true (decide_eq_true hf) (ifB_true rfl ?_)))))))
            refine (Err_ok S 2 rfl).mono ?_
            rintro _ _ ⟨rfl, rfl⟩
            refine ⟨_, rfl, ?_⟩
            refine ifB_true rfl ?_
            refine (Err_ok S 4 rfl).mono ?_
            rintro _ _ ⟨rfl, rfl⟩
            refine ⟨_, rfl, ?_⟩
            exact ⟨rfl, S.fra⟩
          · have hw2 : ¬ allW (acc.set (k - 1) wide) := fun hw => hf (hw _ (List.mem_iff_getElem?.2 ⟨k - 1, by rw [List.getElem?_set_self (by omega)]⟩))
            rw [pset_not (by simp) hw2] at S ⊢
            refine ⟨_, rfl, ?_⟩
            dsimp only [List.set] at S
            refine (Words_N S 4 3 rfl rfl hk (by omega)).mono ?_
            rintro _ _ ⟨p2, l2, c2, rfl, hl2, S1⟩
            refine ⟨_, _, _, rfl, ?_⟩
            replace S := S.add S1 fun _ _ h => h
            dsimp only [List.cons_append, List.nil_append] at S
            refine (Words_N S 2 1 rfl rfl hk (by omega)).mono ?_
            rintro _ _ ⟨p3, l3, c3, rfl, hl3, S1⟩
            refine ⟨_, _, _, rfl, ?_⟩
            replace S := S.add S1 fun _ _ h => h
            dsimp only [List.cons_append, List.nil_append] at S
            refine (same_ok (S.own 5 rfl).row hl2.symm (S.own 6 rfl).row hl3.symm (by omega)).mono ?_
            rintro _ _ ⟨rfl, rfl⟩
            refine ⟨_, rfl, ?_⟩
            refine ifB_true rfl (ifB_true rfl (ifB_true rfl (ifB_true rfl (ifB_true rfl (ifB_true rfl (ifB_false (decide_eq_false hf) (ifB_true (by simp [hf]) (ifB_true rfl (ifB_true (by simp) ?_)))))))))
            refine (Err_ok S 2 rfl).mono ?_
            rintro _ _ ⟨rfl, rfl⟩
            refine ⟨_, rfl, ?_⟩
            refine ifB_true rfl ?_
            refine (Err_ok S 4 rfl).mono ?_
            rintro _ _ ⟨rfl, rfl⟩
            refine ⟨_, rfl, ?_⟩
            exact ⟨rfl, S.fra⟩
      · refine ifB_dec (fun h1 => ⟨?_, S⟩) (fun h1 => ⟨?_, S⟩)
        · simp only [decide_true]
          have : decide (wide < 2147483648) = decide (isW wide) := by rw [decide_eq_decide]; unfold isW; omega
          rw [this]
        · simp only [decide_true]
          have : decide (isW wide) = false := decide_eq_false (by unfold isW; omega)
          rw [this]
  · refine LoopS_i (fun m s g => ∃ (i : Nat), ∃ q k d acc, s = ((p, l, c), wide, true, (q, k, d), (i : Int), ()) ∧ i ≤ l ∧ m = l - i ∧ Sep h no g [own 1 q k d (ints acc)] [row p (ints xs)] ∧ acc.length = k ∧ k = i ∧ i ≤ 40 ∧ allW acc) l ⟨0, none, 0, 0, [], rfl, by omega, rfl, S, rfl, rfl, by omega, by intro x hx; cases hx⟩ ?_
    rintro m s g ⟨i, q, k, d, acc, rfl, hi, rfl, S, hk, rfl, hi40, hw⟩
    unfold law07_ArenaKeeps_l4
    dsimp only
    have fin : ∃ q' k' d' acc', ((wide, true, (q, k, d), ()) : Int × Bool × (Option Addr × Nat × Nat) × Unit) = (wide, true, (q', k', d'), ()) ∧ Sep h no g [own 1 q' k' d' (ints acc')] [] ∧ acc'.length = k' ∧ k' ≤ 40 ∧ allW acc' := ⟨q, k, d, acc, rfl, S.pick [0] [], hk, hi40, hw⟩
    refine ifB_dec (fun hlt => ?_) (fun hge => fin)
    refine ifB_dec (fun hlt2 => ?_) (fun hge => fin)
    have hlt' : k < xs.length := by omega
    have hx' := S.row 0 rfl
    obtain ⟨aa, rfl⟩ := hx'.some_of (by rw [ints_length]; omega)
    refine idxI_i rfl rfl (by omega) ?_
    simp only [Int.toNat_natCast, Nat.mul_one]
    refine ldInt_i (hx'.cell (ints_get (List.getElem?_eq_getElem hlt'))) ?_
    have hr : isW (IntKind.wrap .i64 (IntKind.wrap .i32 xs[k])) := by
      rw [wrap_i32, wrap_i64]; unfold isW; omega
    generalize IntKind.wrap .i64 (IntKind.wrap .i32 xs[k]) = y at hr
    refine newI_S S (fun b1 _ _ S => ?_)
    refine appI_S S 0 (ys := ints [y]) rfl rfl (by decide) (by omega) (Row.of_at (S.at 1 rfl)) rfl ints_one fun p4 l4 c4 h4 hl4 S => ?_
    rw [wrap64_in (by omega)]
    refine ⟨l - (k + 1), by omega, k + 1, p4, l4, c4, acc ++ [y], rfl, by omega, rfl, ?_, by simp; omega, hl4, by omega, ?_⟩
    · rw [← ints_append]; exact S.pick [0] [0]
    · intro x hx
      rcases List.mem_append.1 hx with hx | hx
      · exact hw x hx
      · simp only [List.mem_singleton] at hx; subst hx; exact hr

end Go.Proofs.Ytdjofpdmdbcgjaa.G
