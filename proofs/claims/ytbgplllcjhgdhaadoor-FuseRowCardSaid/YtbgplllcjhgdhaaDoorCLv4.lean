/- What a look at a graph says of it: an order, and nodes that are right. -/
import Derived.Test.YtbgplllcjhgdhaaDoorCLv3
namespace Go.Proofs.YtbgplllcjhgdhaaDoor.G
open Go Go.Sh
set_option linter.unusedVariables false
set_option linter.unusedSimpArgs false

theorem stepO_cases (ns : List Nd) (there : List Int) : stepO ns there = there ∨ ∃ (i : Nat) (n : Nd), ns[i]? = some n ∧ ((i : Int) + 1) ∉ there ∧ (∀ j ∈ n.inn, j ∈ there) ∧ stepO ns there = there ++ [(i : Int) + 1] := by
  unfold stepO
  cases h : nextO there ns 0 with
  | none => exact .inl rfl
  | some x =>
    obtain ⟨k, n, hx, hn, h1, h2⟩ := nextO_some h
    rw [Nat.zero_add] at hx
    subst hx
    exact .inr ⟨k, n, hn, h1, h2, rfl⟩
theorem ordK_nodup (ns : List Nd) : ∀ k, (ordK ns k).Nodup
  | 0 => by simp [ordK]
  | k + 1 => by
    have ih := ordK_nodup ns k
    show (stepO ns (ordK ns k)).Nodup
    rcases stepO_cases ns (ordK ns k) with e | ⟨i, n, _, h1, _, e⟩
    · rw [e]; exact ih
    · rw [e, List.nodup_append]
      refine ⟨ih, by simp, fun a ha b hb hab => ?_⟩
      simp only [List.mem_singleton] at hb
      subst hab hb; exact h1 ha
theorem ordK_rank (ns : List Nd) : ∀ (k i : Nat) (n : Nd), ns[i]? = some n → ((i : Int) + 1) ∈ ordK ns k → ∀ j ∈ n.inn, j ∈ ordK ns k ∧ (ordK ns k).idxOf j < (ordK ns k).idxOf ((i : Int) + 1)
  | 0, i, n, _, h, _, _ => by simp [ordK] at h; omega
  | k + 1, i, n, en, h, j, hj => by
    have ih := ordK_rank ns k i n en
    rw [show ordK ns (k + 1) = stepO ns (ordK ns k) from rfl] at h ⊢
    rcases stepO_cases ns (ordK ns k) with e | ⟨q, m, em, h1, h2, e⟩
    · rw [e] at h ⊢; exact ih h j hj
    · rw [e] at h ⊢
      by_cases hi : ((i : Int) + 1) ∈ ordK ns k
      · have := ih hi j hj
        rw [List.idxOf_append, List.idxOf_append, if_pos this.1, if_pos hi]
        exact ⟨by simp [this.1], this.2⟩
      · have hq : i = q := by
          rcases List.mem_append.1 h with h | h
          · exact absurd h hi
          · simp only [List.mem_singleton] at h; omega
        subst hq
        rw [en] at em; cases em
        have hm := h2 j hj
        rw [List.idxOf_append, List.idxOf_append, if_pos hm, if_neg hi]
        have := List.idxOf_lt_length_of_mem hm
        exact ⟨by simp [hm], by omega⟩
theorem ordG_all {ns : List Nd} (h : (ordG ns).length = ns.length) {x : Int} (h1 : 1 ≤ x) (h2 : x ≤ (ns.length : Int)) : x ∈ ordG ns := by
  apply Decidable.byContradiction
  intro hx
  have nd : (x :: ordG ns).Nodup := List.nodup_cons.2 ⟨hx, by
    have := ordK_nodup ns ns.length
    rw [ordK_cons] at this
    exact (List.nodup_cons.1 this).2⟩
  have := nodup_len _ ((List.range ns.length).map fun i : Nat => (i : Int) + 1) nd fun y hy => by
    have : 1 ≤ y ∧ y ≤ (ns.length : Int) := by
      rcases List.mem_cons.1 hy with rfl | hy
      · exact ⟨h1, h2⟩
      · exact ordK_mem ns ns.length y hy
    rw [List.mem_map]
    exact ⟨(y - 1).toNat, by rw [List.mem_range]; omega, by omega⟩
  simp only [List.length_cons, List.length_map, List.length_range] at this
  omega
/-- Where in its order a node stands. -/
def posG (ns : List Nd) (x : Int) : Nat := if x ∈ ordK ns ns.length then (ordK ns ns.length).idxOf x else 0
theorem posG_le (ns : List Nd) (x : Int) : posG ns x ≤ ns.length := by
  unfold posG
  split
  · rename_i h
    have h1 := List.idxOf_lt_length_of_mem h
    have h2 := ordK_length ns ns.length
    rw [List.length_tail] at h2
    omega
  · omega
theorem posG_rank {ns : List Nd} (h : (ordG ns).length = ns.length) {i : Nat} {n : Nd} (en : ns[i]? = some n) {j : Int} (hj : j ∈ n.inn) : posG ns j < posG ns ((i : Int) + 1) := by
  have hi := (List.getElem?_eq_some_iff.1 en).1
  have hm : ((i : Int) + 1) ∈ ordK ns ns.length := by
    rw [ordK_cons]
    exact List.mem_cons_of_mem _ (ordG_all h (by omega) (by omega))
  have := ordK_rank ns ns.length i n en hm j hj
  unfold posG
  rw [if_pos hm, if_pos this.1]; exact this.2

theorem lookL_chk {ns : List Nd} : ∀ (l ws rs : List Int), (lookL ns l ws rs).1 = 0 → (∀ i ∈ l, 1 ≤ i ∧ i ≤ (ns.length : Int)) → ∀ i ∈ l, ∃ n v, ns[i.toNat - 1]? = some n ∧ n.chk v = 0
  | [], _, _, _, _, i, hi => by simp at hi
  | x :: r, ws, rs, h, hl, i, hi => by
    have hx := hl x (by simp)
    obtain ⟨n, en⟩ : ∃ n, ns[x.toNat - 1]? = some n := ⟨_, List.getElem?_eq_getElem (l := ns) (i := x.toNat - 1) (by omega)⟩
    unfold lookL at h
    rw [en] at h
    dsimp only at h
    by_cases hc : n.chk (pickG ws n.inn) ≠ 0
    · rw [if_pos hc] at h; exact absurd h hc
    · rw [if_neg hc] at h
      by_cases hr : rateN n (pickG rs n.inn) < 0
      · rw [if_pos hr] at h; exact absurd (show (15 : Int) = 0 from h) (by decide)
      · rw [if_neg hr] at h
        rcases List.mem_cons.1 hi with rfl | hi
        · exact ⟨n, _, en, Decidable.byContradiction hc⟩
        · exact lookL_chk r _ _ h (fun i hi => hl i (by simp [hi])) i hi

theorem look_zero {g : Gr} (h : g.look.e = 0) : g.first = 0 ∧ (ordG g.nodes).length = g.nodes.length ∧ (lookL g.nodes (ordG g.nodes) (g.width :: List.replicate g.nodes.length 0) (1 :: List.replicate g.nodes.length 0)).1 = 0 := by
  unfold Gr.look at h
  split at h
  · rename_i h1; exact absurd h h1
  · rename_i h1
    split at h
    · cases h
    · rename_i h2
      split at h
      · rename_i h3; exact absurd h h3
      · rename_i h3
        exact ⟨by omega, by omega, by omega⟩
/-- Of a graph that is right. -/
theorem look_inv {g : Gr} (h : g.look.e = 0) : Ranked g.nodes (posG g.nodes) ∧ 1 ≤ g.out ∧ g.out ≤ (g.nodes.length : Int) ∧ 1 ≤ g.nodes.length ∧ g.nodes.length ≤ 12 ∧ (∀ n ∈ g.nodes, n.kind = 9 ∨ n.kind = 10 → n.inn.length = 1) ∧ ∀ n ∈ g.nodes, ∃ v, n.chk v = 0 := by
  obtain ⟨h1, h2, h3⟩ := look_zero h
  obtain ⟨f1, f2, _, _, f5, f6⟩ := first_ok h1
  have chk : ∀ (i : Nat) (n : Nd), g.nodes[i]? = some n → ∃ v, n.chk v = 0 := fun (i : Nat) (n : Nd) en => by
    have hi := (List.getElem?_eq_some_iff.1 en).1
    obtain ⟨m, v, em, hv⟩ := lookL_chk _ _ _ h3 (fun x hx => ordK_mem g.nodes g.nodes.length x hx) ((i : Int) + 1) (ordG_all h2 (by omega) (by omega))
    rw [show ((i : Int) + 1).toNat - 1 = i by omega, en] at em
    cases em
    exact ⟨v, hv⟩
  refine ⟨fun i n en => ?_, f5.1, f5.2, f1, f2, fun n hn hk => ?_, fun n hn => ?_⟩
  · obtain ⟨v, hv⟩ := chk i n en
    obtain ⟨_, _, c1, c2, _, c4, c5, _⟩ := chk_ok hv
    refine ⟨?_, fun j hj => ?_⟩
    · by_cases m : many n.kind
      · have := c4 m; omega
      · have := c5 m; omega
    · have := f6 n (List.mem_of_getElem? en) j hj
      exact ⟨by omega, by omega, fun _ => posG_rank h2 en hj⟩
  · obtain ⟨i, en⟩ := List.mem_iff_getElem?.1 hn
    obtain ⟨v, hv⟩ := chk i n en
    obtain ⟨_, _, c1, c2, _, c4, c5, _⟩ := chk_ok hv
    have := c5 (by rintro (h | h) <;> omega)
    omega
  · obtain ⟨i, en⟩ := List.mem_iff_getElem?.1 hn
    exact chk i n en
/-- The counts of a right graph. -/
theorem look_finv {g : Gr} (h : g.look.e = 0) : FInv g.nodes g.out (liveM g.nodes g.out) (posG g.nodes) := by
  obtain ⟨h1, h2, h3, h4, h5, h6, _⟩ := look_inv h
  exact liveM_inv h1 (posG_le _ _) h2 h3 (by omega) h6
end Go.Proofs.YtbgplllcjhgdhaaDoor.G
