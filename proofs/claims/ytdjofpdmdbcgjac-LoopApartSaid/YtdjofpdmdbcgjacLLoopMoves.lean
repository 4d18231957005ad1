/- The law LoopMoves, over heaps. -/
import Derived.Test.YtdjofpdmdbcgjacCLoop2
namespace Go.Proofs.Ytdjofpdmdbcgjac.G
open Go Go.Sh
set_option linter.unusedVariables false

theorem allW_putAt {ws f : List Int} {o : Nat} (h1 : allW ws) (h2 : allW f) : allW (putAt ws o f) := by
  intro x hx
  unfold putAt at hx
  rcases List.mem_append.1 hx with hx | hx
  · rcases List.mem_append.1 hx with hx | hx
    · exact h1 x (List.mem_of_mem_take hx)
    · exact h2 x hx
  · exact h1 x (List.mem_of_mem_drop hx)
theorem allW_set {f : List Int} {i : Nat} {x : Int} (h1 : allW f) (h2 : isW x) : allW (f.set i x) := fun y hy => by
  rcases List.mem_or_eq_of_mem_set hy with hy | rfl
  · exact h1 y hy
  · exact h2
theorem allW_repl (n : Nat) : allW (List.replicate n 0) := fun x hx => by
  rw [List.mem_replicate] at hx; rw [hx.2]; unfold isW; omega

/-- Two loops, of the same words. -/
abbrev Mv (h h' : Heap) (n w r bwa a ppa lpx bwb b ppb lpy : Nat) (q : Option Addr) (ws : List Int) (c : Nat) (us : List Int) (d : Nat) (fs : List Int) : Prop :=
  Sep h no h' [wds bwa ws, ar a bwa n 0, pt ppa a bwa 0 n, lo lpx ppa w r c, wds bwb us, ar b bwb n 0, pt ppb b bwb 0 n, lo lpy ppb w r d, own 1 q w w (ints fs)] []

section
variable {h h' : Heap} {n w r bwa a ppa lpx bwb b ppb lpy : Nat} {q : Option Addr} {ahead behind : Nat}

theorem moves_2 (hn : r * w = n) (hn2 : n ≤ 4096) (hw : 1 ≤ w) (hr : 1 ≤ r) (ha : ahead ≤ 30) (hb : behind ≤ 30) {ws fs : List Int} (hws : ws.length = n) (haw : allW ws) (hfs : fs.length = w) (haf : allW fs)
    (S : Mv h h' n w r bwa a ppa lpx bwb b ppb lpy q ws ahead ws ahead fs)
    {K : (Bool × Int × Option Addr × Option Addr × Option Addr × Option Addr × Int × Int × (Option Addr × Nat × Nat) × Int × Unit) → Heap → Prop} :
    law08_LoopMoves_j18 (fun v h' => v = .bool true ∧ Fra no h h') K true (w : Int) (some ⟨lpx, 0, none⟩) (some ⟨lpy, 0, none⟩) (ahead : Int) (behind : Int) q w w h' := by
  unfold law08_LoopMoves_j18
  refine LoopS_i (fun m s g => ∃ (i : Nat) (ws fs : List Int), s = (true, (w : Int), some ⟨lpx, 0, none⟩, some ⟨lpy, 0, none⟩, (ahead : Int), (behind : Int), (q, w, w), (i : Int), ()) ∧ i ≤ behind + 1 ∧ m = behind + 1 - i ∧ ws.length = n ∧ fs.length = w ∧ allW fs ∧ Mv h g n w r bwa a ppa lpx bwb b ppb lpy q ws (ahead + i) ws (ahead + i) fs) (behind + 1) ⟨0, ws, fs, rfl, by omega, rfl, hws, hfs, haf, S⟩ ?_
  rintro m s g ⟨i, ws, fs, rfl, hi, rfl, hws, hfs, haf, S⟩
  unfold law08_LoopMoves_l19
  dsimp only
  have hr4 : r ≤ 4096 := Nat.le_trans (Nat.le_trans (Nat.le_mul_of_pos_right r hw) (Nat.le_of_eq hn)) hn2
  have hw4 : w ≤ 4096 := Nat.le_trans (Nat.le_mul_of_pos_left w hr) (by omega)
  refine ifB_dec (fun hlt => ?_) (fun hge => ?_)
  · refine (LOldest_ok S 3 rfl (by omega) hr4).mono ?_
    rintro _ _ ⟨rfl, rfl⟩
    refine ⟨_, rfl, ?_⟩
    refine LoopS_i (fun m s g => ∃ (t : Nat), s = (true, (w : Int), some ⟨lpx, 0, none⟩, some ⟨lpy, 0, none⟩, (ahead : Int), (behind : Int), (q, w, w), (i : Int), (t : Int), ()) ∧ ahead + i - r ≤ t ∧ t ≤ ahead + i ∧ m = ahead + i - t ∧ Mv h g n w r bwa a ppa lpx bwb b ppb lpy q ws (ahead + i) ws (ahead + i) fs) (ahead + i - (ahead + i - r)) ⟨ahead + i - r, rfl, by omega, by omega, rfl, S⟩ ?_
    rintro m s g ⟨t, rfl, ht1, ht2, rfl, S⟩
    unfold law08_LoopMoves_l22
    dsimp only
    refine (LCount_ok S 3 rfl).mono ?_
    rintro _ _ ⟨rfl, rfl⟩
    refine ⟨_, rfl, ?_⟩
    refine ifB_dec (fun hlt2 => ?_) (fun hge2 => ?_)
    · have hin : lin r (ahead + i) (t : Int) = true := decide_eq_true (by omega)
      refine (LGet_S (S.into [0, 1, 2, 3] [] []) hr hw (by omega) (by omega) hn2 (by omega) (by omega) (t : Int)).mono ?_
      rintro _ _ ⟨p1, l1, c1, rfl, hl1, S1⟩
      refine ⟨_, _, _, _, rfl, ?_⟩
      replace S := S.back [0,1,2,3] S1
      try dsimp only [merge, List.set, List.cons_append, List.nil_append] at S
      refine (LGet_S (S.into [4, 5, 6, 7] [] []) hr hw (by omega) (by omega) hn2 (by omega) (by omega) (t : Int)).mono ?_
      rintro _ _ ⟨p2, l2, c2, rfl, hl2, S1⟩
      refine ⟨_, _, _, _, rfl, ?_⟩
      replace S := S.back [4,5,6,7] S1
      try dsimp only [merge, List.set, List.cons_append, List.nil_append] at S
      have hb1 : (lgt ws 0 w r (ahead + i) t).length ≤ 4096 := by
        unfold lgt; rw [if_pos hin, List.length_take]; omega
      refine (same_ok (S.own 9 rfl).row hl1.symm (S.own 10 rfl).row hl2.symm (by omega)).mono ?_
      rintro _ _ ⟨rfl, rfl⟩
      refine ⟨_, rfl, ?_⟩
      rw [hin]
      refine ifB_false rfl (ifB_false rfl (ifB_false (by simp) ?_))
      rw [wrap64_in (by omega)]
      exact ⟨ahead + i - (t + 1), by omega, t + 1, rfl, by omega, by omega, rfl, S.pw [0, 1, 2, 3, 4, 5, 6, 7, 8]⟩
    · obtain ⟨aa, rfl⟩ := (S.own 8 rfl).row.some_of (by rw [ints_length]; omega)
      rw [wrap64_in (n := (w : Int) - 1) (by omega), wrap64_in (n := 50 + (i : Int)) (by omega)]
      refine idxI_i rfl (k := w - 1) (by omega) (by omega) ?_
      have e3 : ((w : Int) - 1).toNat * 1 = w - 1 := by omega
      rw [e3]
      refine stO_S S 8 rfl (by rw [ints_length]; omega) fun h2 _ S => ?_
      have e : (ints fs).set (w - 1) (.int .i64 (50 + (i : Int))) = ints (fs.set (w - 1) (50 + (i : Int))) := by simp [ints, List.map_set]
      rw [e] at S
      dsimp only [List.set] at S
      have haf2 : allW (fs.set (w - 1) (50 + (i : Int))) := allW_set haf (by unfold isW; omega)
      have hfs2 : (fs.set (w - 1) (50 + (i : Int))).length = w := by simpa using hfs
      generalize fs.set (w - 1) (50 + (i : Int)) = gs at haf2 hfs2 S
      refine (LPush_S ((S.into [0, 1, 2, 3] [8] []).rowO 0) 0 rfl hfs2 (by omega) hr (by omega) (by omega) hn2 (by omega) (by omega)).mono ?_
      rintro _ _ ⟨rfl, S1⟩
      refine ⟨_, rfl, ?_⟩
      replace S := S.back [0,1,2,3] S1
      try dsimp only [merge, List.set, List.cons_append, List.nil_append] at S
      refine (LPush_S ((S.into [4, 5, 6, 7] [8] []).rowO 0) 0 rfl hfs2 (by omega) hr (by omega) (by omega) hn2 (by omega) (by omega)).mono ?_
      rintro _ _ ⟨rfl, S1⟩
      refine ⟨_, rfl, ?_⟩
      replace S := S.back [4,5,6,7] S1
      try dsimp only [merge, List.set, List.cons_append, List.nil_append] at S
      rw [lps_ok hfs2 haf2] at S ⊢
      dsimp only [merge, List.set] at S
      refine ifB_false rfl ?_
      refine (LCount_ok S 3 rfl).mono ?_
      rintro _ _ ⟨rfl, rfl⟩
      refine ⟨_, rfl, ?_⟩
      refine (LCount_ok S 7 rfl).mono ?_
      rintro _ _ ⟨rfl, rfl⟩
      refine ⟨_, rfl, ?_⟩
      refine ifB_false (by simp) ?_
      rw [wrap64_in (by omega)]
      refine ⟨behind + 1 - (i + 1), by omega, i + 1, _, gs, rfl, by omega, rfl, ?_, hfs2, haf2, S⟩
      rw [putAt_length (by have := mod_mul_le (t := ahead + i) (w := w) hr (Nat.le_refl (r * w)); omega)]; exact hws
  · have hi2 : i = behind + 1 := by omega
    subst hi2
    have e1 : IntKind.wrap .i64 (IntKind.wrap .i64 ((ahead : Int) + (behind : Int)) + 1) = ((ahead + (behind + 1) : Nat) : Int) := by
      rw [wrap64_in (n := (ahead : Int) + (behind : Int)) (by omega), wrap64_in (by omega)]; omega
    rw [e1]
    refine ifB_true rfl ?_
    refine (LCount_ok S 3 rfl).mono ?_
    rintro _ _ ⟨rfl, rfl⟩
    refine ⟨_, rfl, ?_⟩
    refine ifB_true (by simp) ?_
    refine (LSeek_S S 3 rfl (-1)).mono ?_
    rintro _ _ ⟨rfl, S⟩
    refine ⟨_, rfl, ifB_true rfl ?_⟩
    dsimp only [List.set] at S
    refine (LCount_ok S 3 rfl).mono ?_
    rintro _ _ ⟨rfl, rfl⟩
    refine ⟨_, rfl, ?_⟩
    exact ⟨by simp, S.fra⟩

theorem LoopMoves_ok {h : Heap} (width room m0 m1 : Int) : callP P n_law08_LoopMoves #[.int .i64 width, .int .i64 room, .agg #[.int .i64 m0, .int .i64 m1]] h fun v h' => v = .bool true ∧ Fra no h h' := by
  refine call_law08_LoopMoves _ _ _ _ ?_
  unfold law08_LoopMoves
  have S := Sep.start h no
  refine newI_S S (fun bm _ _ S => ?_)
  refine (awake_ok).mono ?_
  rintro _ _ ⟨rfl, F⟩
  refine ⟨_, rfl, ?_⟩
  replace S := S.fra0 F
  obtain ⟨w0, ew, hw0⟩ := rest_ok width (m := 5) (by omega) (by omega)
  obtain ⟨r0, er, hr0⟩ := low7 room
  obtain ⟨ahead, en0, hn0⟩ := rest_ok m0 (m := 31) (by omega) (by omega)
  obtain ⟨behind, en1, hn1⟩ := rest_ok m1 (m := 31) (by omega) (by omega)
  have e5 : ((5 : Nat) : Int) = 5 := rfl
  have e31 : ((31 : Nat) : Int) = 31 := rfl
  rw [e5] at ew
  rw [e31] at en0 en1
  rw [ew, er]
  have e1 : IntKind.wrap .i64 (1 + (w0 : Int)) = ((w0 + 1 : Nat) : Int) := by rw [wrap64_in (by omega)]; omega
  have e2 : IntKind.wrap .i64 (1 + (r0 : Int)) = ((r0 + 1 : Nat) : Int) := by rw [wrap64_in (by omega)]; omega
  rw [e1, e2]
  generalize hw : w0 + 1 = w
  generalize hr : r0 + 1 = r
  have hwr : r * w ≤ 8 * 5 := Nat.mul_le_mul (by omega) (by omega)
  have hwr3 : w ≤ r * w := Nat.le_mul_of_pos_left w (by omega)
  have e3 : IntKind.wrap .i64 ((w : Int) * (r : Int)) = ((r * w : Nat) : Int) := by
    have : (w : Int) * (r : Int) = ((r * w : Nat) : Int) := by rw [Int.mul_comm]; simp
    rw [this]
    generalize r * w = z at hwr
    exact wrap64_in (by omega)
  rw [e3]
  have hNr : r * w / w = r := Nat.mul_div_cancel _ (by omega)
  generalize hN : r * w = n at hwr hwr3 hNr
  refine (New_S n (by omega)).mono ?_
  rintro _ _ ⟨a, bwa, rfl, S1⟩
  refine ⟨_, rfl, ?_⟩
  replace S := S.add S1 fun _ _ h => h
  refine (New_S n (by omega)).mono ?_
  rintro _ _ ⟨b, bwb, rfl, S1⟩
  refine ⟨_, rfl, ?_⟩
  replace S := S.add S1 fun _ _ h => h
  dsimp only [List.cons_append, List.nil_append] at S
  refine (Part_S S 2 rfl 0 n (by omega) (by omega)).mono ?_
  rintro _ _ ⟨ppa, rfl, S⟩
  refine ⟨_, rfl, ?_⟩
  dsimp only [List.cons_append, List.nil_append] at S
  refine (LNew_S S 5 rfl w (by omega) (by omega) (by omega)).mono ?_
  rintro _ _ ⟨lpx, rfl, S⟩
  refine ⟨_, rfl, ?_⟩
  dsimp only [List.cons_append, List.nil_append] at S
  refine (Part_S S 4 rfl 0 n (by omega) (by omega)).mono ?_
  rintro _ _ ⟨ppb, rfl, S⟩
  refine ⟨_, rfl, ?_⟩
  dsimp only [List.cons_append, List.nil_append] at S
  refine (LNew_S S 7 rfl w (by omega) (by omega) (by omega)).mono ?_
  rintro _ _ ⟨lpy, rfl, S⟩
  refine ⟨_, rfl, ?_⟩
  dsimp only [List.cons_append, List.nil_append] at S
  rw [hNr] at S
  refine arrI_i (by decide) (by decide) (ldInt_i (S.cell 0 rfl rfl) (arrI_i (by decide) (by decide) (ldInt_i (S.cell 0 rfl rfl) ?_)))
  rw [en0, en1]
  refine mkI_S S w rfl rfl rfl (by decide) (by omega) (by omega) fun b19 h1 _ S => ?_
  rw [repl_one, show List.replicate w (Value.int .i64 0) = ints (List.replicate w 0) by simp [ints]] at S
  replace S := S.toOwn (cs := ints (List.replicate w 0)) 9 1 w w (by rw [ints_length]; simp) (Nat.le_refl _)
  rw [List.take_of_length_le (by rw [ints_length]; simp)] at S
  simp only [Int.toNat_natCast]
  replace S := S.pw [1, 2, 5, 6, 3, 4, 7, 8, 9]
  refine LoopS_i (fun m s g => ∃ (i : Nat) (ws fs : List Int), s = (true, (w : Int), some ⟨a, 0, none⟩, some ⟨b, 0, none⟩, some ⟨lpx, 0, none⟩, some ⟨lpy, 0, none⟩, (ahead : Int), (behind : Int), (some ⟨b19, 0, none⟩, w, w), (i : Int), ()) ∧ i ≤ ahead ∧ m = ahead - i ∧ ws.length = n ∧ allW ws ∧ fs.length = w ∧ allW fs ∧ Mv h g n w r bwa a ppa lpx bwb b ppb lpy (some ⟨b19, 0, none⟩) ws i (List.replicate n 0) 0 fs) ahead
    ⟨0, List.replicate n 0, List.replicate w 0, rfl, by omega, rfl, by simp, allW_repl n, by simp, allW_repl w, S⟩ ?_
  rintro m s g ⟨i, ws, fs, rfl, hi, rfl, hws, haw, hfs, haf, S⟩
  unfold law08_LoopMoves_l12
  dsimp only
  refine ifB_dec (fun hlt => ?_) (fun hge => ?_)
  · refine idxI_i rfl (k := 0) rfl (by omega) ?_
    refine stO_S S 8 rfl (k := 0) (by rw [ints_length]; omega) fun h2 _ S => ?_
    have e : (ints fs).set 0 (.int .i64 (i : Int)) = ints (fs.set 0 (i : Int)) := by simp [ints, List.map_set]
    rw [e] at S
    dsimp only [List.set] at S
    have haf2 : allW (fs.set 0 (i : Int)) := allW_set haf (by unfold isW; omega)
    have hfs2 : (fs.set 0 (i : Int)).length = w := by simpa using hfs
    generalize fs.set 0 (i : Int) = gs at haf2 hfs2 S
    refine (LPush_S ((S.into [0, 1, 2, 3] [8] []).rowO 0) 0 rfl hfs2 (by omega) (by omega) (by omega) (by omega) (by omega) (by omega) (by omega)).mono ?_
    rintro _ _ ⟨rfl, S1⟩
    refine ⟨_, rfl, ?_⟩
    replace S := S.back [0,1,2,3] S1
    try dsimp only [merge, List.set, List.cons_append, List.nil_append] at S
    rw [lps_ok hfs2 haf2] at S
    dsimp only [merge, List.set] at S
    rw [wrap64_in (by omega)]
    refine ⟨ahead - (i + 1), by omega, i + 1, _, gs, rfl, by omega, rfl, ?_, allW_putAt haw haf2, hfs2, haf2, S⟩
    rw [putAt_length (by have := mod_mul_le (t := i) (w := w) (show 1 ≤ r by omega) (Nat.le_refl (r * w)); omega)]; exact hws
  · have hi2 : i = ahead := by omega
    subst hi2
    refine ⟨fun s g => s = (true, (w : Int), some ⟨lpx, 0, none⟩, some ⟨lpy, 0, none⟩, (i : Int), (behind : Int), (some ⟨b19, 0, none⟩, w, w), ()) ∧ Mv h g n w r bwa a ppa lpx bwb b ppb lpy (some ⟨b19, 0, none⟩) ws i ws i fs, ?_, ?_⟩
    · rintro s g ⟨rfl, S⟩
      exact moves_2 hN (by omega) (by omega) (by omega) (by omega) (by omega) hws haw hfs haf S
    · refine (Words_N S 1 0 rfl rfl hws (by omega)).mono ?_
      rintro _ _ ⟨p1, l1, c1, rfl, hl1, S1⟩
      refine ⟨_, _, _, rfl, ?_⟩
      replace S := S.add S1 fun _ _ h => h
      dsimp only [List.cons_append, List.nil_append] at S
      refine (Set_S S 5 4 rfl rfl (by simp) (by omega) (S.own 9 rfl).row hl1.symm (by omega)).mono ?_
      rintro _ _ ⟨rfl, S⟩
      have ep : pset (List.replicate n 0) ws = (0, ws) := by unfold pset; rw [if_neg (by simp; omega), if_pos haw]
      rw [ep] at S ⊢
      refine ⟨_, rfl, ifB_false rfl ?_⟩
      dsimp only [List.set] at S
      refine (LCount_ok S 3 rfl).mono ?_
      rintro _ _ ⟨rfl, rfl⟩
      refine ⟨_, rfl, ?_⟩
      refine (LSeek_S S 7 rfl (i : Int)).mono ?_
      rintro _ _ ⟨rfl, S⟩
      rw [decide_eq_false (by omega)]
      refine ⟨_, rfl, ifB_false rfl ⟨rfl, ?_⟩⟩
      rw [if_neg (by omega), Int.toNat_natCast] at S
      exact S.pw [0, 1, 2, 3, 4, 5, 6, 7, 8]
end

end Go.Proofs.Ytdjofpdmdbcgjac.G
