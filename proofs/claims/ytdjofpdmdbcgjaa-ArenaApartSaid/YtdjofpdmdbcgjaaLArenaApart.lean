/- The law ArenaApart, over heaps. -/
import Derived.Test.YtdjofpdmdbcgjaaCArena3
import Derived.Test.YtdjofpdmdbcgjaaLArenaLays
namespace Go.Proofs.Ytdjofpdmdbcgjaa.G
open Go Go.Sh
set_option linter.unusedVariables false

abbrev nz (xs : List Nat) : List Int := xs.map fun n : Nat => (n : Int)
theorem nz_get {xs : List Nat} {i : Nat} {n : Nat} (h : xs[i]? = some n) : (ints (nz xs))[i]? = some (.int .i64 (n : Int)) := by simp [ints, h]

theorem rest_ok (x : Int) {m : Nat} (h0 : 0 < m) (h1 : m < 2 ^ 60) : ∃ k : Nat, Int.tmod (IntKind.wrap .i64 (Int.tmod x m + m)) m = k ∧ k < m := by
  have hb := tmod_bound x (m := m) (by omega)
  rw [wrap64_in (by omega)]
  have h2 : 0 ≤ Int.tmod x m + m := by omega
  rw [Int.tmod_eq_emod_of_nonneg h2]
  have h3 := Int.emod_nonneg (Int.tmod x m + m) (b := m) (by omega)
  have h4 := Int.emod_lt_of_pos (Int.tmod x m + m) (b := m) (by omega)
  exact ⟨((Int.tmod x m + m) % m).toNat, by omega, by omega⟩

theorem lay_facts : ∀ (ls : List Nat) (e : Nat), (∀ n ∈ ls, 1 ≤ n ∧ n ≤ 64) → e % 4 = 0 → e + 68 * ls.length ≤ 4096 →
    ∃ (ats : List Nat) (n : Nat), lay (nz ls) (e : Int) = some (nz ats, (n : Int)) ∧ ats.length = ls.length ∧ n % 4 = 0 ∧ e ≤ n ∧ n ≤ e + 68 * ls.length ∧
      (∀ (j a x : Nat), ats[j]? = some a → ls[j]? = some x → e ≤ a ∧ a % 4 = 0 ∧ a + x ≤ n) ∧
      (∀ (j k a b x : Nat), j < k → ats[j]? = some a → ats[k]? = some b → ls[j]? = some x → a + x ≤ b)
  | [], e, _, h4, _ => ⟨[], e, rfl, rfl, h4, Nat.le_refl _, by simp, by simp, by simp⟩
  | m :: r, e, hs, h4, hb => by
    simp only [List.length_cons] at hb
    have hm := hs m (by simp)
    obtain ⟨ats, n, h1, h2, h3, h5, h6, h7, h8⟩ := lay_facts r ((e + m + 3) / 4 * 4) (fun x hx => hs x (by simp [hx])) (by omega) (by omega)
    refine ⟨e :: ats, n, ?_, by simp [h2], h3, by omega, by simp only [List.length_cons]; omega, ?_, ?_⟩
    · simp only [nz, List.map_cons, lay]
      rw [if_neg (by omega)]
      have : ((e : Int) + m + 3) / 4 * 4 = (((e + m + 3) / 4 * 4 : Nat) : Int) := by omega
      rw [this, h1]; rfl
    · intro j a x ha hx
      cases j with
      | zero => simp at ha hx; omega
      | succ j => have := h7 j a x (by simpa using ha) (by simpa using hx); omega
    · intro j k a b x hjk ha hb' hx
      cases k with
      | zero => omega
      | succ k =>
        cases j with
        | zero =>
          simp at ha hx
          have hk : k < r.length := by have := (List.getElem?_eq_some_iff.1 hb').1; simp at this; omega
          have := h7 k b r[k] (by simpa using hb') (List.getElem?_eq_getElem hk)
          omega
        | succ j => exact h8 j k a b x (by omega) (by simpa using ha) (by simpa using hb') (by simpa using hx)

theorem nz_get' {xs : List Nat} {i : Nat} (h : i < xs.length) : (ints (nz xs))[i]? = some (.int .i64 (xs[i] : Int)) := nz_get (List.getElem?_eq_getElem h)
theorem nz_len (xs : List Nat) : (ints (nz xs)).length = xs.length := by simp [ints]

theorem ArenaApart_ok {p : Option Addr} {l c : Nat} {h : Heap} {xs : List Int} (q0 q1 x : Int) (hx : Row h p (ints xs)) (hxl : xs.length = l) (hb : l < 2 ^ 62) (hw : isW x) :
    callP P n_law07_ArenaApart #[.slice p l c, .agg #[.int .i64 q0, .int .i64 q1], .int .i32 x] h fun v h' => v = .bool true ∧ Fra no h h' := by
  refine call_law07_ArenaApart _ _ _ _ _ _ ?_
  unfold law07_ArenaApart
  have S := (Sep.start h no).read (row p (ints xs)) hx
  refine newI_S S (fun bq _ _ S => ?_)
  refine (awake_ok).mono ?_
  rintro _ _ ⟨rfl, F⟩
  refine ⟨_, rfl, ?_⟩
  replace S := S.fra0 F
  replace S := S.nil 1
  dsimp only [List.cons_append, List.nil_append] at S
  refine ⟨fun s g => ∃ q k d ls, s = (x, ⟨bq, 0, none⟩, true, (q, k, d), ()) ∧ Sep h no g [blk bq [.int .i64 q0, .int .i64 q1], own 1 q k d (ints (nz ls))] [] ∧ ls.length = k ∧ k ≤ 8 ∧ ∀ n ∈ ls, 1 ≤ n ∧ n ≤ 64, ?_, ?_⟩
  · rintro s g ⟨q, k, d, ls, rfl, S, hk, hk8, hls⟩
    unfold law07_ArenaApart_j7
    dsimp only
    refine ⟨fun s g => ∃ q k d ls, s = (x, ⟨bq, 0, none⟩, true, (q, k, d), ()) ∧ Sep h no g [blk bq [.int .i64 q0, .int .i64 q1], own 1 q k d (ints (nz ls))] [] ∧ ls.length = k ∧ 1 ≤ k ∧ k ≤ 8 ∧ ∀ n ∈ ls, 1 ≤ n ∧ n ≤ 64, ?_, ?_⟩
    · rintro s g ⟨q, k, d, ls, rfl, S, hk, hk1, hk8, hls⟩
      unfold law07_ArenaApart_j9
      dsimp only
      obtain ⟨ats, n, f1, f2, f3, f4, f5, f6, f7⟩ := lay_facts ls 0 hls rfl (by omega)
      have el : layout (nz ls) = (nz ats, (n : Int), 0) := by
        rw [layout_some (x := (nz ats, (n : Int))) ?_ f1]
        intro y hy
        simp only [nz, List.mem_map] at hy
        obtain ⟨z, hz, rfl⟩ := hy
        omega
      refine (layout_ok (S.own 1 rfl).row (by simp [hk]) (by omega) (fun y hy => by
        simp only [nz, List.mem_map] at hy
        obtain ⟨z, hz, rfl⟩ := hy
        have := hls z hz
        omega)).mono ?_
      rintro _ g1 ⟨p1, l1, c1, rfl, o1, F⟩
      rw [el] at o1 ⊢
      refine ⟨_, _, _, _, _, rfl, ?_⟩
      dsimp only at o1 ⊢
      have hl1 : l1 = ls.length := by have := o1.1; rw [nz_len] at this; omega
      have S1 : Sep g no g1 [own 1 p1 l1 c1 (ints (nz ats))] [] := Sep.one F (o1.mono (Nat.zero_le _)) fun b hb hlt => by
        obtain ⟨a, ha, rfl⟩ := hb
        obtain ⟨_, _, ⟨e, _⟩ | ⟨b, cs, e, hb, _⟩⟩ := o1
        · rw [e] at ha; cases ha
        · rw [e] at ha; cases ha; simp only at hlt; omega
      replace S := S.add S1 fun _ _ h => h
      dsimp only [List.cons_append, List.nil_append] at S
      refine (New_S n (by omega)).mono ?_
      rintro _ _ ⟨a, bw, rfl, S1⟩
      refine ⟨_, rfl, ?_⟩
      replace S := S.add S1 fun _ _ h => h
      dsimp only [List.cons_append, List.nil_append] at S
      refine ⟨fun s g => s = (x, ⟨bq, 0, none⟩, true, (q, k, d), (p1, l1, c1), (n : Int), some ⟨a, 0, none⟩, ()) ∧ Sep h no g [blk bq [.int .i64 q0, .int .i64 q1], own 1 q k d (ints (nz ls)), own 1 p1 l1 c1 (ints (nz ats)), wds bw (List.replicate n 0), ar a bw n 0] [], ?_, ?_⟩
      · rintro s g ⟨rfl, S⟩
        unfold law07_ArenaApart_j13
        dsimp only
        obtain ⟨aq, rfl⟩ := (S.own 1 rfl).row.some_of (by rw [nz_len]; omega)
        obtain ⟨ap, rfl⟩ := (S.own 2 rfl).row.some_of (by rw [nz_len]; omega)
        have hr1 := (S.own 1 rfl).row
        have hr2 := (S.own 2 rfl).row
        obtain ⟨kk, hkk, hkk'⟩ := rest_ok q0 (m := k) (by omega) (by omega)
        have hkl : kk < ls.length := by omega
        have hka : kk < ats.length := by omega
        have hlk := hls ls[kk] (List.getElem_mem _)
        have hfk := f6 kk ats[kk] ls[kk] (List.getElem?_eq_getElem hka) (List.getElem?_eq_getElem hkl)
        obtain ⟨ii, hii, hii'⟩ := rest_ok q1 (m := ls[kk]) (by omega) (by omega)
        refine arrI_i (by decide) (by decide) (ldInt_i (S.cell 0 rfl rfl) ⟨by omega, ⟨by omega, arrI_i (by decide) (by decide) ?_⟩⟩)
        rw [hkk]
        simp only [Int.toNat_natCast, Nat.mul_one]
        refine idxI_i rfl rfl hkk' (idxI_i rfl rfl hkk' (idxI_i rfl rfl hkk' (ldInt_i (S.cell 0 rfl rfl) (ldInt_i (hr1.cell (nz_get' hkl)) ⟨by omega, ldInt_i (hr1.cell (nz_get' hkl)) (ldInt_i (hr1.cell (nz_get' hkl)) ⟨by omega, ?_⟩)⟩))))
        refine idxI_i rfl rfl (by omega) (idxI_i rfl rfl hkk' (ldInt_i (hr2.cell (nz_get' hka)) (ldInt_i (hr1.cell (nz_get' hkl)) ?_)))
        rw [hii, wrap64_in (by unfold isW at hw; omega)]
        refine (Part_S S 4 rfl ats[kk] ls[kk] (by omega) (by omega)).mono ?_
        rintro _ g2 ⟨pp, rfl, S⟩
        refine ⟨_, rfl, ?_⟩
        dsimp only [List.cons_append, List.nil_append] at S
        have ep : pput (List.replicate n 0) 0 ats[kk] ls[kk] (ii : Int) x = ((List.replicate n 0).set (ats[kk] + ii) x, 0) := by
          unfold pput
          rw [if_pos (by omega), if_pos hw, Int.toNat_natCast]
        refine (Put_S S 4 5 3 rfl rfl rfl (by decide) (by simp; omega) (ii : Int) x).mono ?_
        rintro _ g3 ⟨rfl, S⟩
        rw [ep] at S
        refine ⟨rfl, ?_⟩
        dsimp only [List.set] at S
        replace S := S.pick [0, 1, 2, 3, 4] []
        dsimp only [Sh.pick, List.getElem?_cons_zero, List.getElem?_cons_succ] at S
        generalize hws : (List.replicate n (0 : Int)).set (ats[kk] + ii) x = ws at S
        have hwl : ws.length = n := by rw [← hws]; simp
        refine LoopS_i (fun m s g => ∃ (j : Nat), s = (x, true, (some aq, k, d), (some ap, l1, c1), (n : Int), some ⟨a, 0, none⟩, (kk : Int), (ii : Int), (j : Int), ()) ∧ j ≤ k ∧ m = k - j ∧ Sep h no g [blk bq [.int .i64 q0, .int .i64 q1], own 1 (some aq) k d (ints (nz ls)), own 1 (some ap) l1 c1 (ints (nz ats)), wds bw ws, ar a bw n 0] []) k ⟨0, rfl, by omega, rfl, S⟩ ?_
        rintro m s g ⟨j, rfl, hj, rfl, S⟩
        unfold law07_ArenaApart_l18
        dsimp only
        have hr1 := (S.own 1 rfl).row
        have hr2 := (S.own 2 rfl).row
        refine ifB_dec (fun hlt => ?_) (fun hge => ?_)
        · have hjl : j < ls.length := by omega
          have hja : j < ats.length := by omega
          have hlj := hls ls[j] (List.getElem_mem _)
          have hfj := f6 j ats[j] ls[j] (List.getElem?_eq_getElem hja) (List.getElem?_eq_getElem hjl)
          simp only [Int.toNat_natCast, Nat.mul_one]
          refine idxI_i rfl rfl (by omega) (idxI_i rfl rfl (by omega) (ldInt_i (hr2.cell (nz_get' hja)) (ldInt_i (hr1.cell (nz_get' hjl)) ?_)))
          refine (Part_S S 4 rfl ats[j] ls[j] (by omega) (by omega)).mono ?_
          rintro _ g2 ⟨pp, rfl, S⟩
          refine ⟨_, rfl, ?_⟩
          dsimp only [List.cons_append, List.nil_append] at S
          have hr1 := (S.own 1 rfl).row
          have hr2 := (S.own 2 rfl).row
          refine ⟨fun s g => s = (x, true, (some aq, k, d), (some ap, l1, c1), (n : Int), some ⟨a, 0, none⟩, (kk : Int), (ii : Int), (j : Int), some ⟨pp, 0, none⟩, ()) ∧ Sep h no g [blk bq [.int .i64 q0, .int .i64 q1], own 1 (some aq) k d (ints (nz ls)), own 1 (some ap) l1 c1 (ints (nz ats)), wds bw ws, ar a bw n 0, pt pp a bw ats[j] ls[j]] [], ?_, ?_⟩
          · rintro s g ⟨rfl, S⟩
            unfold law07_ArenaApart_j23
            dsimp only
            refine LoopS_i (fun m' s g => ∃ (m : Nat), s = (x, true, (some aq, k, d), (some ap, l1, c1), (n : Int), some ⟨a, 0, none⟩, (kk : Int), (ii : Int), (j : Int), some ⟨pp, 0, none⟩, (m : Int), ()) ∧ m ≤ ls[j] ∧ m' = ls[j] - m ∧ Sep h no g [blk bq [.int .i64 q0, .int .i64 q1], own 1 (some aq) k d (ints (nz ls)), own 1 (some ap) l1 c1 (ints (nz ats)), wds bw ws, ar a bw n 0, pt pp a bw ats[j] ls[j]] []) ls[j] ⟨0, rfl, by omega, rfl, S⟩ ?_
            rintro m' s g ⟨m, rfl, hm, rfl, S⟩
            unfold law07_ArenaApart_l24
            dsimp only
            simp only [Int.toNat_natCast, Nat.mul_one]
            refine idxI_i rfl rfl (by omega) (ldInt_i ((S.own 1 rfl).row.cell (nz_get' hjl)) ?_)
            refine ifB_dec (fun hmlt => ?_) (fun hmge => ?_)
            · have hmlt : m < ls[j] := by omega
              refine (Get_S S 4 5 3 rfl rfl rfl (by omega) (m : Int)).mono ?_
              rintro _ g3 ⟨rfl, S⟩
              have eg : pget ws 0 ats[j] ls[j] (m : Int) = (ws.getD (ats[j] + m) 0, 0) := by
                unfold pget
                rw [if_pos (by omega), Int.toNat_natCast]
              rw [eg] at S ⊢
              refine ⟨_, rfl, ?_⟩
              dsimp only [List.set] at S
              rw [wrap64_in (n := x) (by unfold isW at hw; omega), wrap64_in (by omega)]
              have K : ∃ m1, m1 < ls[j] - m ∧ ∃ (m' : Nat), ((x, true, (some aq, k, d), (some ap, l1, c1), (n : Int), some (⟨a, 0, none⟩ : Addr), (kk : Int), (ii : Int), (j : Int), some (⟨pp, 0, none⟩ : Addr), (m : Int) + 1, ()) : Int × Bool × (Option Addr × Nat × Nat) × (Option Addr × Nat × Nat) × Int × Option Addr × Int × Int × Int × Option Addr × Int × Unit) = (x, true, (some aq, k, d), (some ap, l1, c1), (n : Int), some ⟨a, 0, none⟩, (kk : Int), (ii : Int), (j : Int), some ⟨pp, 0, none⟩, (m' : Int), ()) ∧ m' ≤ ls[j] ∧ m1 = ls[j] - m' ∧ Sep h no g3 [blk bq [.int .i64 q0, .int .i64 q1], own 1 (some aq) k d (ints (nz ls)), own 1 (some ap) l1 c1 (ints (nz ats)), wds bw ws, ar a bw n 0, pt pp a bw ats[j] ls[j]] [] :=
                ⟨ls[j] - (m + 1), by omega, m + 1, rfl, by omega, rfl, S⟩
              have v0 : ¬ (j = kk ∧ m = ii) → ws.getD (ats[j] + m) 0 = 0 := fun hne => by
                have hne2 : ats[kk] + ii ≠ ats[j] + m := by
                  intro heq
                  rcases Nat.lt_trichotomy j kk with h | h | h
                  · have := f7 j kk _ _ _ h (List.getElem?_eq_getElem hja) (List.getElem?_eq_getElem hka) (List.getElem?_eq_getElem hjl); omega
                  · subst h; exact hne ⟨rfl, by omega⟩
                  · have := f7 kk j _ _ _ h (List.getElem?_eq_getElem hka) (List.getElem?_eq_getElem hja) (List.getElem?_eq_getElem hkl); omega
                rw [← hws, List.getD_eq_getElem?_getD, List.getElem?_set_ne hne2, List.getElem?_replicate]
                split <;> rfl
              by_cases hjk : j = kk
              · by_cases hmi : m = ii
                · have v1 : ws.getD (ats[j] + m) 0 = x := by
                    subst hjk; subst hmi
                    rw [← hws, List.getD_eq_getElem?_getD, List.getElem?_set_self (by simp; omega)]; rfl
                  rw [v1]
                  exact ifB_true (by simp [hjk]) (ifB_true (by simp [hmi]) (ifB_false (by simp) (ifB_false (by simp [hjk]) (ifB_false (by simp [hmi]) K))))
                · rw [v0 (by omega)]
                  exact ifB_true (by simp [hjk]) (ifB_false (by simp; omega) (ifB_false (by simp [hjk]) (ifB_true (by simp; omega) (ifB_false rfl K))))
              · rw [v0 (by omega)]
                exact ifB_false (by simp; omega) (ifB_true (by simp; omega) (ifB_false rfl K))
            · rw [wrap64_in (by omega)]
              exact ⟨k - (j + 1), by omega, j + 1, rfl, by omega, rfl, S.pick [0, 1, 2, 3, 4] []⟩
          · refine ifB_false rfl (idxI_i rfl rfl (by omega) (ldInt_i (hr2.cell (nz_get' hja)) ?_))
            refine ifB_false (by rw [Int.tmod_eq_emod_of_nonneg (by omega)]; simp; omega) (idxI_i rfl rfl (by omega) (idxI_i rfl rfl (by omega) (ldInt_i (hr2.cell (nz_get' hja)) (ldInt_i (hr1.cell (nz_get' hjl)) ?_))))
            rw [wrap64_in (by omega)]
            refine ifB_false (decide_eq_false (by omega)) (ifB_dec (fun hj0 => ?_) (fun _ => ⟨rfl, S⟩))
            have hj1 : j - 1 < ls.length := by omega
            have hj2 : j - 1 < ats.length := by omega
            have ej : (IntKind.wrap .i64 ((j : Int) - 1)) = ((j - 1 : Nat) : Int) := by rw [wrap64_in (by omega)]; omega
            rw [ej]
            simp only [Int.toNat_natCast]
            have f8 := f7 (j - 1) j _ _ _ (by omega) (List.getElem?_eq_getElem hj2) (List.getElem?_eq_getElem hja) (List.getElem?_eq_getElem hj1)
            refine idxI_i rfl rfl (by omega) (idxI_i rfl rfl (by omega) (idxI_i rfl rfl (by omega) (ldInt_i (hr2.cell (nz_get' hja)) (ldInt_i (hr2.cell (nz_get' hj2)) (ldInt_i (hr1.cell (nz_get' hj1)) ?_)))))
            rw [wrap64_in (by omega)]
            exact ifB_false (decide_eq_false (by omega)) ⟨by trivial, S⟩
        · refine ifB_true rfl ?_
          refine (Err_ok S 4 rfl).mono ?_
          rintro _ _ ⟨rfl, rfl⟩
          refine ⟨_, rfl, ?_⟩
          refine ifB_true rfl ?_
          simp only [Int.toNat_natCast, Nat.mul_one]
          refine idxI_i rfl rfl (by omega) (ldInt_i ((S.own 2 rfl).row.cell (nz_get' hka)) ?_)
          rw [wrap64_in (by omega), wrap64_in (by unfold isW at hw; omega)]
          have e1 : (ats[kk] : Int) + (ii : Int) = ((ats[kk] + ii : Nat) : Int) := by omega
          rw [e1]
          refine (AGet_S S 4 3 rfl rfl hwl (by omega) ((ats[kk] + ii : Nat) : Int)).mono ?_
          rintro _ g3 ⟨rfl, pp, S⟩
          have eg : pget ws 0 0 n ((ats[kk] + ii : Nat) : Int) = (x, 0) := by
            unfold pget
            rw [if_pos (by omega), Int.toNat_natCast, Nat.zero_add, ← hws, List.getD_eq_getElem?_getD, List.getElem?_set_self (by simp; omega)]; rfl
          rw [eg]
          exact ⟨_, rfl, by simp, S.fra⟩
      · refine ifB_false rfl (ifB_false rfl (ifB_false (by simp; omega) (ifB_false ?_ ⟨rfl, S⟩)))
        have : Int.tmod (n : Int) 4 = 0 := by rw [Int.tmod_eq_emod_of_nonneg (by omega)]; omega
        rw [this]; rfl
    · refine ifB_i (fun h0 => ?_) (fun h0 => ⟨q, k, d, ls, rfl, S, hk, by simp at h0; omega, hk8, hls⟩)
      refine newI_S (cs := [.int .i64 1]) S fun b1 h1 _ S => ?_
      replace S := S.toOwn 2 1 1 1 rfl (Nat.le_refl _)
      exact ⟨_, _, _, [1], rfl, S.pick [0, 2] [], rfl, by omega, by omega, by intro n hn; simp at hn; omega⟩
  · refine LoopS_i (fun m s g => ∃ (i : Nat), ∃ q k d ls, s = ((p, l, c), x, ⟨bq, 0, none⟩, true, (q, k, d), (i : Int), ()) ∧ i ≤ l ∧ m = l - i ∧ Sep h no g [blk bq [.int .i64 q0, .int .i64 q1], own 1 q k d (ints (nz ls))] [row p (ints xs)] ∧ ls.length = k ∧ k = i ∧ i ≤ 8 ∧ ∀ n ∈ ls, 1 ≤ n ∧ n ≤ 64) l ⟨0, none, 0, 0, [], rfl, by omega, rfl, S, rfl, rfl, by omega, by intro x hx; cases hx⟩ ?_
    rintro m s g ⟨i, q, k, d, ls, rfl, hi, rfl, S, hk, rfl, hi8, hls⟩
    unfold law07_ArenaApart_l4
    dsimp only
    have fin : ∃ q' k' d' ls', ((x, ⟨bq, 0, none⟩, true, (q, k, d), ()) : Int × Addr × Bool × (Option Addr × Nat × Nat) × Unit) = (x, ⟨bq, 0, none⟩, true, (q', k', d'), ()) ∧ Sep h no g [blk bq [.int .i64 q0, .int .i64 q1], own 1 q' k' d' (ints (nz ls'))] [] ∧ ls'.length = k' ∧ k' ≤ 8 ∧ ∀ n ∈ ls', 1 ≤ n ∧ n ≤ 64 := ⟨q, k, d, ls, rfl, S.pick [0, 1] [], hk, hi8, hls⟩
    refine ifB_dec (fun hlt => ?_) (fun hge => fin)
    refine ifB_dec (fun hlt2 => ?_) (fun hge => fin)
    have hlt' : k < xs.length := by omega
    have hx' := S.row 0 rfl
    obtain ⟨aa, rfl⟩ := hx'.some_of (by rw [ints_length]; omega)
    refine idxI_i rfl rfl (by omega) ?_
    simp only [Int.toNat_natCast, Nat.mul_one]
    refine ldInt_i (hx'.cell (ints_get (List.getElem?_eq_getElem hlt'))) ?_
    have ea := andI_low xs[k] 63 6 rfl (by decide)
    have eb := Int.emod_nonneg xs[k] (b := 64) (by decide)
    have ec := Int.emod_lt_of_pos xs[k] (b := 64) (by decide)
    have ed : IntKind.wrap .i64 (1 + andI .i64 xs[k] 63) = ((1 + (xs[k] % 64).toNat : Nat) : Int) := by
      have e0 : ((63 : Nat) : Int) = 63 := rfl
      rw [e0] at ea
      rw [ea, wrap64_in (by omega)]; omega
    rw [ed]
    have ee : (xs[k] % 64).toNat < 64 := by omega
    generalize (xs[k] % 64).toNat = y at ee
    refine newI_S S (fun b1 _ _ S => ?_)
    refine appI_S S 1 (ys := ints (nz [1 + y])) rfl rfl (by decide) (by omega) (Row.of_at (S.at 2 rfl)) rfl ints_one fun p4 l4 c4 h4 hl4 S => ?_
    rw [wrap64_in (by omega)]
    refine ⟨l - (k + 1), by omega, k + 1, p4, l4, c4, ls ++ [1 + y], rfl, by omega, rfl, ?_, by simp; omega, hl4, by omega, ?_⟩
    · have e : ints (nz (ls ++ [1 + y])) = ints (nz ls) ++ ints (nz [1 + y]) := by simp [ints]
      rw [e]; exact S.pick [0, 1] [0]
    · intro x hx
      rcases List.mem_append.1 hx with hx | hx
      · exact hls x hx
      · simp only [List.mem_singleton] at hx; subst hx; omega

end Go.Proofs.Ytdjofpdmdbcgjaa.G
