/- Contracts: the program's graph: a graph's own numbers, the order of nodes. -/
import Derived.Test.YtbgplllcjhgdhaaDoorCKindP3
import Derived.Test.YtbgplllcjhgdhaaDoorShRg
namespace Go.Proofs.YtbgplllcjhgdhaaDoor.G
open Go Go.Sh
set_option linter.unusedVariables false
set_option linter.unusedSimpArgs false

/-! maps of whole numbers -/
def lM (M : Int → Option Int) : Int → Option Value := fun n => (M n).map (Value.int .i64)
def upM (M : Int → Option Int) (n m : Int) : Int → Option Int := fun k => if k = n then some m else M k
def dlM (M : Int → Option Int) (n : Int) : Int → Option Int := fun k => if k = n then none else M k
theorem upL_lM (M : Int → Option Int) (n m : Int) : upL (lM M) n (.int .i64 m) = lM (upM M n m) := by
  funext k; unfold upL lM upM; split <;> simp
theorem delL_lM (M : Int → Option Int) (n : Int) : delL (lM M) n = lM (dlM M n) := by
  funext k; unfold delL lM dlM; split <;> simp
theorem lM_none : (fun _ => none : Int → Option Value) = lM fun _ => none := rfl
abbrev mpi (r : Nat) (M : Int → Option Int) : Fact := mp .i64 r (lM M)

/-- A look at such a map. -/
theorem lookI_of {h : Heap} {r : Nat} {M : Int → Option Int} {n z : Int} {K : Value → Bool → Prop} (hm : (mpi r M).P h) (H : K (.int .i64 ((M n).getD z)) (M n).isSome) : lookB .i64 (.int .i64 z) (some r) n h K := by
  refine lookB_of hm ?_
  unfold lM
  cases h : M n with
  | none => rw [h] at H; exact H
  | some m => rw [h] at H; exact H

/-! plain -/
def Gr.first (g : Gr) : Int :=
  if g.nodes.length < 1 ∨ 12 < g.nodes.length then 22
  else if g.width < 1 ∨ 16 < g.width ∨ g.low > g.high ∨ g.low < -32768 ∨ g.high > 32767 ∨ g.out < 1 ∨ g.out > (g.nodes.length : Int) then 1
  else if ∀ n ∈ g.nodes, fitR 0 g.nodes.length n.inn then 0 else 1
/-- The next node that may go: from the i-th one on. -/
def nextO (there : List Int) : List Nd → Nat → Option Int
  | [], _ => none
  | n :: r, i => if ((i : Int) + 1) ∉ there ∧ ∀ j ∈ n.inn, j ∈ there then some ((i : Int) + 1) else nextO there r (i + 1)
def stepO (ns : List Nd) (there : List Int) : List Int :=
  match nextO there ns 0 with
  | some i => there ++ [i]
  | none => there
def ordK (ns : List Nd) : Nat → List Int
  | 0 => [0]
  | k + 1 => stepO ns (ordK ns k)
def ordG (ns : List Nd) : List Int := (ordK ns ns.length).tail

theorem ordK_head (ns : List Nd) : ∀ k, ∃ r, ordK ns k = 0 :: r
  | 0 => ⟨[], rfl⟩
  | k + 1 => by
    obtain ⟨r, hr⟩ := ordK_head ns k
    simp only [ordK, stepO, hr]
    split
    · exact ⟨_, rfl⟩
    · exact ⟨_, rfl⟩
theorem ordK_cons (ns : List Nd) (k : Nat) : ordK ns k = 0 :: (ordK ns k).tail := by
  obtain ⟨r, hr⟩ := ordK_head ns k
  rw [hr]; rfl
theorem ordK_length (ns : List Nd) : ∀ k, (ordK ns k).tail.length ≤ k
  | 0 => by simp [ordK]
  | k + 1 => by
    have := ordK_length ns k
    simp only [ordK, stepO]
    split
    · rw [List.length_tail, List.length_append, List.length_singleton]
      rw [List.length_tail] at this
      omega
    · omega
theorem nextO_some {there : List Int} : ∀ {ns : List Nd} {i : Nat} {x : Int}, nextO there ns i = some x → ∃ (k : Nat) (n : Nd), x = ((i + k : Nat) : Int) + 1 ∧ ns[k]? = some n ∧ x ∉ there ∧ ∀ j ∈ n.inn, j ∈ there
  | [], i, x, h => by simp [nextO] at h
  | n :: r, i, x, h => by
    unfold nextO at h
    split at h
    · rename_i hc
      simp only [Option.some.injEq] at h
      subst h
      exact ⟨0, n, by simp, rfl, hc.1, hc.2⟩
    · obtain ⟨k, n', h1, h2, h3⟩ := nextO_some h
      exact ⟨k + 1, n', by omega, by simpa using h2, h3⟩

section
variable {h : Heap}

theorem may_ok {gv : Gv} (hok : gv.ok) (hn : Row h gv.p (nflat gv.ns)) (hr : (nrows gv.ns).P h) (hl : gv.l < 2 ^ 56) (hs : ∀ n ∈ gv.ns, n.inn.l < 2 ^ 62) : callP P n_graph_may #[gv.v] h fun v h' => v = .int .i64 gv.gr.first ∧ Fra no h h' := by
  refine call_graph_may _ ?_
  unfold graph_may
  have hgl := hok.1
  have hgn : gv.gr.nodes.length = gv.l := by rw [← hgl]; simp [Gv.gr]
  have S := ((Sep.start h no).read (row gv.p (nflat gv.ns)) hn).read (nrows gv.ns) hr
  refine newI_S (cs := gv.cells) S fun b1 h1 _ S => ?_
  dsimp only [List.nil_append, List.cons_append] at S
  refine ldSlice_i (p := gv.p) (l := gv.l) (c := gv.c) (S.cell 0 rfl rfl) ?_
  have r22 : (gv.gr.nodes.length < 1 ∨ 12 < gv.gr.nodes.length) → ∀ g, Sep h no g [blk b1 gv.cells] [row gv.p (nflat gv.ns), nrows gv.ns] → Value.int .i64 22 = .int .i64 gv.gr.first ∧ Fra no h g := fun hh g S => ⟨by unfold Gr.first; rw [if_pos hh], S.fra⟩
  refine ⟨fun s g => s = (⟨b1, 0, none⟩, (gv.l : Int), ()) ∧ ¬ (gv.gr.nodes.length < 1 ∨ 12 < gv.gr.nodes.length) ∧ Sep h no g [blk b1 gv.cells] [row gv.p (nflat gv.ns), nrows gv.ns], ?_, ifB_dec (fun h1 => r22 (by omega) _ S) fun h1 => ifB_dec (fun h2 => r22 (by omega) _ S) fun h2 => ⟨rfl, by omega, S⟩⟩
  rintro s g ⟨rfl, n22, S⟩
  unfold graph_may_j4
  dsimp only
  have ef : gv.gr.first = if gv.gr.nodes.length < 1 ∨ 12 < gv.gr.nodes.length then 22 else if gv.width < 1 ∨ 16 < gv.width ∨ gv.low > gv.high ∨ gv.low < -32768 ∨ gv.high > 32767 ∨ gv.out < 1 ∨ gv.out > (gv.gr.nodes.length : Int) then 1
      else if ∀ n ∈ gv.gr.nodes, fitR 0 gv.gr.nodes.length n.inn then 0 else 1 := rfl
  have r1 : (gv.width < 1 ∨ 16 < gv.width ∨ gv.low > gv.high ∨ gv.low < -32768 ∨ gv.high > 32767 ∨ gv.out < 1 ∨ gv.out > (gv.gr.nodes.length : Int)) → ∀ g, Sep h no g [blk b1 gv.cells] [row gv.p (nflat gv.ns), nrows gv.ns] → Value.int .i64 1 = .int .i64 gv.gr.first ∧ Fra no h g :=
    fun hh g S => ⟨by rw [ef, if_neg n22, if_pos hh], S.fra⟩
  refine ⟨fun s g => s = (⟨b1, 0, none⟩, (gv.l : Int), ()) ∧ ¬ (gv.width < 1 ∨ 16 < gv.width ∨ gv.low > gv.high ∨ gv.low < -32768 ∨ gv.high > 32767 ∨ gv.out < 1 ∨ gv.out > (gv.gr.nodes.length : Int)) ∧ Sep h no g [blk b1 gv.cells] [row gv.p (nflat gv.ns), nrows gv.ns], ?_, ?_⟩
  · rintro s g ⟨rfl, n1, S⟩
    unfold graph_may_j6
    simp only [add_mk, Nat.zero_add]
    refine ldSlice_i (p := gv.p) (l := gv.l) (c := gv.c) (S.cell 0 rfl rfl) ?_
    have e : gv.gr.first = if ∀ n ∈ gv.gr.nodes, fitR 0 gv.gr.nodes.length n.inn then 0 else 1 := by rw [ef, if_neg n22, if_neg n1]
    have bad : (∃ n ∈ gv.ns, ∃ j ∈ n.inn.xs, j < 0 ∨ j > (gv.l : Int)) → gv.gr.first = 1 := by
      rintro ⟨n, hn, j, hj, hb⟩
      rw [e, if_neg]
      intro hall
      have := hall n.nd (List.mem_map_of_mem hn) j hj
      omega
    refine LoopS_i (fun m s g => ∃ i : Nat, s = ((gv.l : Int), (gv.p, gv.l, gv.c), (gv.l : Int), (i : Int), ()) ∧ i ≤ gv.l ∧ m = gv.l - i ∧ (∀ n ∈ gv.ns.take i, fitR 0 (gv.l : Int) n.inn.xs) ∧ Sep h no g [blk b1 gv.cells] [row gv.p (nflat gv.ns), nrows gv.ns]) gv.l ⟨0, rfl, by omega, rfl, by simp, S⟩ ?_
    rintro m s g ⟨i, rfl, hi, rfl, hall, S⟩
    unfold graph_may_l7
    dsimp only
    refine ifB_dec (fun hlt => ?_) (fun hge => ?_)
    · have hix : i < gv.ns.length := by omega
      obtain ⟨n, en⟩ : ∃ n, gv.ns[i]? = some n := ⟨_, List.getElem?_eq_getElem hix⟩
      have hmem := List.mem_of_getElem? en
      have nok := (hok.2.2 n hmem).1
      obtain ⟨a, ea⟩ := (S.row 0 rfl).some_of (by rw [nflat_length]; omega)
      have hrow : Row g (some a) (nflat gv.ns) := by rw [← ea]; exact S.row 0 rfl
      refine idxI_i ea rfl (by omega) ?_
      simp only [Int.toNat_natCast]
      refine ldNode hrow en ?_
      refine newI_S S fun b12 g2 _ S => ?_
      dsimp only [List.cons_append, List.nil_append] at S
      refine stL_S S 1 rfl rfl (mkS_one rfl) fun g3 _ S => ?_
      dsimp only [List.set] at S
      refine ldSlice_i (p := n.inn.p) (l := n.inn.l) (c := n.inn.c) (S.cell 1 rfl rfl) ?_
      have hni := hs n hmem
      have nlen : n.inn.xs.length = n.inn.l := nok.1
      refine LoopS_i (fun m s g' => g' = g3 ∧ ∃ j : Nat, s = ((gv.l : Int), (gv.p, gv.l, gv.c), (gv.l : Int), (i : Int), (n.inn.p, n.inn.l, n.inn.c), (n.inn.l : Int), (j : Int), ()) ∧ j ≤ n.inn.l ∧ m = n.inn.l - j ∧ fitR 0 (gv.l : Int) (n.inn.xs.take j)) n.inn.l ⟨rfl, 0, rfl, by omega, rfl, by rw [List.take_zero]; exact fitR_nil _ _⟩ ?_
      rintro m s g' ⟨rfl, j, rfl, hj, rfl, hf⟩
      unfold graph_may_l10
      dsimp only
      refine ifB_dec (fun hlt2 => ?_) (fun hge2 => ?_)
      · have hjx : j < n.inn.xs.length := by omega
        have irow : Row g' n.inn.p (ints n.inn.xs) := S.r 1 _ rfl _ (List.mem_map_of_mem hmem) n.inn.row (by simp)
        obtain ⟨aa, eaa⟩ := irow.some_of (by rw [ints_length]; omega)
        rw [eaa] at irow
        refine idxI_i eaa rfl (by omega) ?_
        simp only [Int.toNat_natCast, Nat.mul_one]
        refine ldInt_i (irow.cell (ints_get (List.getElem?_eq_getElem hjx))) ?_
        refine ifB_dec (fun h1 => ⟨by rw [bad ⟨n, hmem, _, List.getElem_mem hjx, .inl h1⟩], S.fra⟩) fun h1 => ifB_dec (fun h2 => ⟨by rw [bad ⟨n, hmem, _, List.getElem_mem hjx, .inr h2⟩], S.fra⟩) fun h2 => ?_
        rw [wrap64_in (by omega)]
        exact ⟨n.inn.l - (j + 1), by omega, by trivial, j + 1, rfl, by omega, rfl, (fitR_take_succ hjx).2 ⟨hf, by omega, by omega⟩⟩
      · rw [wrap64_in (by omega)]
        refine ⟨gv.l - (i + 1), by omega, i + 1, rfl, by omega, rfl, fun x hx => ?_, S.pw [0]⟩
        rw [List.take_succ_eq_append_getElem hix] at hx
        rcases List.mem_append.1 hx with hx | hx
        · exact hall x hx
        · simp only [List.mem_singleton] at hx
          rw [List.getElem?_eq_getElem hix] at en
          cases en
          subst hx
          rw [List.take_of_length_le (by omega)] at hf
          exact hf
    · rw [List.take_of_length_le (by omega)] at hall
      refine ⟨?_, S.fra⟩
      rw [e, if_pos]
      intro x hx
      obtain ⟨n, hn, rfl⟩ := List.mem_map.1 hx
      rw [hgn]
      exact hall n hn
  · simp only [add_mk, Nat.zero_add]
    refine ldInt_i (n := gv.width) (S.cell 0 rfl rfl) (ifB_dec (fun h1 => r1 (by omega) _ S) fun h1 => ldInt_i (n := gv.width) (S.cell 0 rfl rfl) (ifB_dec (fun h2 => r1 (by omega) _ S) fun h2 => ?_))
    refine ldInt_i (n := gv.low) (S.cell 0 rfl rfl) (ldInt_i (n := gv.high) (S.cell 0 rfl rfl) (ifB_dec (fun h3 => r1 (by omega) _ S) fun h3 => ?_))
    refine ldInt_i (n := gv.low) (S.cell 0 rfl rfl) (ifB_dec (fun h4 => r1 (by omega) _ S) fun h4 => ldInt_i (n := gv.high) (S.cell 0 rfl rfl) (ifB_dec (fun h5 => r1 (by omega) _ S) fun h5 => ?_))
    refine ldInt_i (n := gv.out) (S.cell 0 rfl rfl) (ifB_dec (fun h6 => r1 (by omega) _ S) fun h6 => ldInt_i (n := gv.out) (S.cell 0 rfl rfl) (ifB_dec (fun h7 => r1 (by omega) _ S) fun h7 => ?_))
    exact ⟨by trivial, by omega, S⟩

/-! the order -/

theorem ordered_1_ok {a : Addr} {r : Nat} {M : Int → Option Int} (ha : cellH h a = some (.map (some r))) (hm : (mpi r M).P h) (j : Int) : callP P n_graph_ordered_1 #[.int .i64 j, .pointer (some a)] h fun v h' => v = .bool (!(M j).isSome) ∧ h' = h := by
  refine call_graph_ordered_1 _ _ ?_
  unfold graph_ordered_1
  exact ⟨_, ha, lookI_of hm ⟨_, _, rfl, rfl, rfl⟩⟩

theorem ContainsO_ok {a : Addr} {r : Nat} {M : Int → Option Int} (ha : cellH h a = some (.map (some r))) (hm : (mpi r M).P h) {p : Option Addr} {l c : Nat} {xs : List Int} (hx : Row h p (ints xs)) (hl : xs.length = l) (hl2 : l < 2 ^ 62) :
    callP P n_slices_ContainsFunc_int_int #[.slice p l c, .func (.func n_graph_ordered_1) #[] #[.pointer (some a)]] h fun v h' => v = .bool (decide (∃ j ∈ xs, M j = none)) ∧ h' = h := by
  refine call_slices_ContainsFunc_int_int_at_graph_ordered_1 _ _ _ _ ?_
  unfold slices_ContainsFunc_int_int_at_graph_ordered_1
  have I : callP P n_slices_IndexFunc_int_int #[.slice p l c, .func (.func n_graph_ordered_1) #[] #[.pointer (some a)]] h fun v h' => ∃ i : Int, v = .int .i64 i ∧ (0 ≤ i ↔ ∃ j ∈ xs, M j = none) ∧ h' = h := by
    refine call_slices_IndexFunc_int_int_at_graph_ordered_1 _ _ _ _ ?_
    unfold slices_IndexFunc_int_int_at_graph_ordered_1
    refine LoopS_i (fun m s g => g = h ∧ ∃ i : Nat, s = ((p, l, c), ((), (a, ())), (l : Int), (i : Int), ()) ∧ i ≤ l ∧ m = l - i ∧ ∀ j ∈ xs.take i, M j ≠ none) l ⟨rfl, 0, rfl, by omega, rfl, by simp⟩ ?_
    rintro m s g ⟨rfl, i, rfl, hi, rfl, hall⟩
    unfold slices_IndexFunc_int_int_at_graph_ordered_1_l2
    dsimp only
    refine ifB_dec (fun hlt => ?_) (fun hge => ?_)
    · have hix : i < xs.length := by omega
      obtain ⟨aa, rfl⟩ := hx.some_of (by rw [ints_length]; omega)
      refine idxI_i rfl rfl (by omega) ?_
      simp only [Int.toNat_natCast, Nat.mul_one]
      refine ldInt_i (hx.cell (ints_get (List.getElem?_eq_getElem hix))) ?_
      refine (ordered_1_ok ha hm xs[i]).mono ?_
      rintro _ _ ⟨rfl, rfl⟩
      refine ⟨_, rfl, ?_⟩
      cases hM : M xs[i] with
      | none => exact ifB_true rfl ⟨_, rfl, ⟨fun _ => ⟨_, List.getElem_mem hix, hM⟩, fun _ => by omega⟩, rfl⟩
      | some y =>
        refine ifB_false rfl ?_
        rw [wrap64_in (by omega)]
        refine ⟨l - (i + 1), by omega, by trivial, i + 1, rfl, by omega, rfl, fun j hj => ?_⟩
        rw [List.take_succ_eq_append_getElem hix] at hj
        rcases List.mem_append.1 hj with hj | hj
        · exact hall j hj
        · simp only [List.mem_singleton] at hj; subst hj; rw [hM]; simp
    · rw [List.take_of_length_le (by omega)] at hall
      exact ⟨_, rfl, ⟨fun h => by omega, fun ⟨j, hj, e⟩ => absurd e (hall j hj)⟩, rfl⟩
  refine I.mono ?_
  rintro _ _ ⟨i, rfl, hi, rfl⟩
  refine ⟨_, rfl, ?_, rfl⟩
  congr 1
  rw [decide_eq_decide]
  exact hi
end

end Go.Proofs.YtbgplllcjhgdhaaDoor.G
