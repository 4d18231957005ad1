/- Contracts: the program's fuse: one node takes another one. -/
import Derived.Test.YtbgplllcjhgdhaaDoorCLive
namespace Go.Proofs.YtbgplllcjhgdhaaDoor.G
open Go Go.Sh
set_option linter.unusedVariables false
set_option linter.unusedSimpArgs false

/-! plain -/
/-- The last live node over node a, of the first j. -/
def userTo (ns : List Nd) (M : LM) (a : Int) : Nat → Int
  | 0 => 0
  | j + 1 => match ns[j]? with
    | some n => if (M ((j : Int) + 1)).isSome ∧ a ∈ n.inn then (j : Int) + 1 else userTo ns M a j
    | none => userTo ns M a j
def userOf (ns : List Nd) (M : LM) (a : Int) : Int := userTo ns M a ns.length
def rep1 (u a : Int) (k : Int) : Int := if k = u then a else k
/-- Node u's users use node a. -/
def repN (u a : Int) (ns : List Nd) : List Nd := ns.mapIdx fun q n => if (q : Int) + 1 = u then n else { n with inn := n.inn.map (rep1 u a) }
abbrev FSt := List Nd × Int × LM
def stepAt (ns : List Nd) (out : Int) (M : LM) (i : Nat) : Option FSt :=
  match ns[i]? with
  | none => none
  | some a =>
    if M ((i : Int) + 1) = some 1 ∧ (i : Int) + 1 ≠ out ∧ wei a.kind then
      match ns[(userOf ns M ((i : Int) + 1) - 1).toNat]? with
      | none => none
      | some nu => (tkN a nu).map fun a' => (repN (userOf ns M ((i : Int) + 1)) ((i : Int) + 1) (ns.set i a'), if out = userOf ns M ((i : Int) + 1) then (i : Int) + 1 else out,
          dlM (upM M ((i : Int) + 1) ((M (userOf ns M ((i : Int) + 1))).getD 0)) (userOf ns M ((i : Int) + 1)))
    else none
def stepF (ns : List Nd) (out : Int) (M : LM) : Nat → Nat → Option FSt
  | 0, _ => none
  | k + 1, i => match stepAt ns out M i with
    | some x => some x
    | none => stepF ns out M k (i + 1)
def stepP (ns : List Nd) (out : Int) (M : LM) : Option FSt := stepF ns out M ns.length 0
/-- A node that one live node is over has a user. -/
def HasUser (ns : List Nd) (M : LM) : Prop := ∀ i : Nat, i < ns.length → M ((i : Int) + 1) = some 1 → 1 ≤ userOf ns M ((i : Int) + 1)
theorem userTo_le (ns : List Nd) (M : LM) (a : Int) : ∀ j, 0 ≤ userTo ns M a j ∧ userTo ns M a j ≤ (j : Int)
  | 0 => by simp [userTo]
  | j + 1 => by
    have := userTo_le ns M a j
    unfold userTo
    split
    · split <;> omega
    · omega

/-! of nodes as they lie -/
def Sl.rep (u a : Int) (s : Sl) : Sl := { s with xs := s.xs.map (rep1 u a) }
def repV (u a : Int) (j : Nat) (ns : List Nv) : List Nv := ns.mapIdx fun q n => if (q : Int) + 1 = u ∨ j ≤ q then n else { n with inn := n.inn.rep u a }
theorem repV_zero (u a : Int) (ns : List Nv) : repV u a 0 ns = ns := by
  unfold repV
  apply List.ext_getElem? 
  intro q
  rw [List.getElem?_mapIdx]
  cases ns[q]? <;> simp
theorem repV_length (u a : Int) (j : Nat) (ns : List Nv) : (repV u a j ns).length = ns.length := by simp [repV]
theorem repV_get (u a : Int) (j q : Nat) (ns : List Nv) : (repV u a j ns)[q]? = ns[q]?.map fun n => if (q : Int) + 1 = u ∨ j ≤ q then n else { n with inn := n.inn.rep u a } := by
  unfold repV; rw [List.getElem?_mapIdx]
theorem repV_nflat (u a : Int) (j : Nat) (ns : List Nv) : nflat (repV u a j ns) = nflat ns := by
  unfold nflat
  congr 1
  apply List.ext_getElem?
  intro q
  rw [List.getElem?_map, List.getElem?_map, repV_get]
  cases ns[q]? with
  | none => rfl
  | some n =>
    simp only [Option.map_some]
    split
    · rfl
    · rw [cells_eq, cells_eq]; rfl
theorem repV_nd (u a : Int) (ns : List Nv) : (repV u a ns.length ns).map Nv.nd = repN u a (ns.map Nv.nd) := by
  apply List.ext_getElem?
  intro q
  rw [List.getElem?_map, repV_get]
  unfold repN
  rw [List.getElem?_mapIdx, List.getElem?_map]
  cases hq : ns[q]? with
  | none => rfl
  | some n =>
    have hlt := (List.getElem?_eq_some_iff.1 hq).1
    simp only [Option.map_some]
    by_cases h : (q : Int) + 1 = u
    · rw [if_pos (.inl h), if_pos h]
    · rw [if_neg (by omega), if_neg h]; rfl
theorem repV_succ {u a : Int} {j : Nat} {ns : List Nv} (hj : j < ns.length) : repV u a (j + 1) ns = if (j : Int) + 1 = u then repV u a j ns else (repV u a j ns).set j { ns[j] with inn := ns[j].inn.rep u a } := by
  apply List.ext_getElem?
  intro q
  rw [repV_get]
  by_cases hu : (j : Int) + 1 = u
  · rw [if_pos hu, repV_get]
    cases hq : ns[q]? with
    | none => rfl
    | some n =>
      simp only [Option.map_some, Option.some.injEq]
      by_cases hqj : q = j
      · subst hqj; rw [if_pos (.inl hu), if_pos (.inl hu)]
      · by_cases h : (q : Int) + 1 = u ∨ j ≤ q
        · rw [if_pos h, if_pos (by omega)]
        · rw [if_neg h, if_neg (by omega)]
  · rw [if_neg hu]
    by_cases hqj : q = j
    · subst hqj
      rw [List.getElem?_set_self (by rw [repV_length]; exact hj), List.getElem?_eq_getElem hj, Option.map_some, if_neg (by omega)]
    · rw [List.getElem?_set_ne (Ne.symm hqj), repV_get]
      cases hq : ns[q]? with
      | none => rfl
      | some n =>
        simp only [Option.map_some, Option.some.injEq]
        by_cases h : (q : Int) + 1 = u ∨ j ≤ q
        · rw [if_pos h, if_pos (by omega)]
        · rw [if_neg h, if_neg (by omega)]
theorem repV_wbs (u a : Int) (j : Nat) (ns : List Nv) : wbs (repV u a j ns) = wbs ns := by
  have : ∀ l m : List Nv, l.length = m.length → (∀ q (h1 : q < l.length) (h2 : q < m.length), l[q].weights = m[q].weights ∧ l[q].bias = m[q].bias) → wbs l = wbs m := by
    intro l
    induction l with
    | nil => intro m hm _; have : m = [] := List.length_eq_zero_iff.1 hm.symm; subst this; rfl
    | cons x r ih =>
      intro m hm hq
      cases m with
      | nil => simp at hm
      | cons y s =>
        have h0 := hq 0 (by simp) (by simp)
        simp only [List.getElem_cons_zero] at h0
        have := ih s (by simpa using hm) fun q h1 h2 => by
          have := hq (q + 1) (by simpa using h1) (by simpa using h2)
          simpa using this
        unfold wbs at this ⊢
        rw [List.flatMap_cons, List.flatMap_cons, this, h0.1, h0.2]
  refine this _ _ (repV_length _ _ _ _) fun q h1 h2 => ?_
  have := repV_get u a j q ns
  rw [List.getElem?_eq_getElem h1, List.getElem?_eq_getElem h2, Option.map_some, Option.some.injEq] at this
  rw [this]
  split <;> exact ⟨rfl, rfl⟩

end Go.Proofs.YtbgplllcjhgdhaaDoor.G
