/- The program's fuse in plain Lean: a step keeps what holds. -/
import Derived.Test.YtbgplllcjhgdhaaDoorCLv2
namespace Go.Proofs.YtbgplllcjhgdhaaDoor.G
open Go Go.Sh
set_option linter.unusedVariables false
set_option linter.unusedSimpArgs false

/-- What a step does. -/
structure Stp (ns : List Nd) (out : Int) (M : LM) (i w : Nat) (na nu a' : Nd) (st : FSt) : Prop where
  ea : ns[i]? = some na
  m1 : M ((i : Int) + 1) = some 1
  no : (i : Int) + 1 ≠ out
  we : wei na.kind
  us : userOf ns M ((i : Int) + 1) = (w : Int) + 1
  eu : ns[w]? = some nu
  tk : tkN na nu = some a'
  st : st = (repN ((w : Int) + 1) ((i : Int) + 1) (ns.set i a'), if out = (w : Int) + 1 then (i : Int) + 1 else out, dlM (upM M ((i : Int) + 1) ((M ((w : Int) + 1)).getD 0)) ((w : Int) + 1))

theorem stepAt_stp {ns : List Nd} {out : Int} {M : LM} {pos : Int → Nat} (I : FInv ns out M pos) {i : Nat} {st : FSt} (h : stepAt ns out M i = some st) : ∃ w na nu a', Stp ns out M i w na nu a' st := by
  unfold stepAt at h
  cases e1 : ns[i]? with
  | none => rw [e1] at h; cases h
  | some na =>
    rw [e1] at h
    replace h : (if M ((i : Int) + 1) = some 1 ∧ (i : Int) + 1 ≠ out ∧ wei na.kind then
      match ns[(userOf ns M ((i : Int) + 1) - 1).toNat]? with
      | none => none
      | some nu => (tkN na nu).map fun a' => (repN (userOf ns M ((i : Int) + 1)) ((i : Int) + 1) (ns.set i a'), if out = userOf ns M ((i : Int) + 1) then (i : Int) + 1 else out,
          dlM (upM M ((i : Int) + 1) ((M (userOf ns M ((i : Int) + 1))).getD 0)) (userOf ns M ((i : Int) + 1)))
      else none) = some st := h
    by_cases hc : M ((i : Int) + 1) = some 1 ∧ (i : Int) + 1 ≠ out ∧ wei na.kind
    · rw [if_pos hc] at h
      obtain ⟨w, hw, _⟩ := I.user (by omega) hc.1
      rw [hw, show ((w : Int) + 1 - 1).toNat = w by omega] at h
      cases e2 : ns[w]? with
      | none => rw [e2] at h; cases h
      | some nu =>
        rw [e2] at h
        replace h : (tkN na nu).map (fun a' => (repN ((w : Int) + 1) ((i : Int) + 1) (ns.set i a'), if out = (w : Int) + 1 then (i : Int) + 1 else out,
          dlM (upM M ((i : Int) + 1) ((M ((w : Int) + 1)).getD 0)) ((w : Int) + 1))) = some st := h
        obtain ⟨a', h1, h2⟩ := Option.map_eq_some_iff.1 h
        exact ⟨w, na, nu, a', e1, hc.1, hc.2.1, hc.2.2, hw, e2, h1, h2.symm⟩
    · rw [if_neg hc] at h; cases h

theorem tkN_rows {a u x : Nd} (h : tkN a u = some x) : x.inn = a.inn ∧ x.kind = a.kind ∧ x.weights = a.weights ∧ x.bias = a.bias ∧ (u.kind = 10 ∨ u.kind = 9) := by
  unfold tkN at h
  split at h
  · rename_i hc; cases h; exact ⟨rfl, rfl, rfl, rfl, .inl hc.1⟩
  · split at h
    · rename_i hc; cases h; exact ⟨rfl, rfl, rfl, rfl, .inr hc.1⟩
    · cases h

theorem repN_get (u a : Int) (ns : List Nd) (q : Nat) : (repN u a ns)[q]? = ns[q]?.map fun n => if (q : Int) + 1 = u then n else { n with inn := n.inn.map (rep1 u a) } := by
  unfold repN; rw [List.getElem?_mapIdx]
theorem repN_length (u a : Int) (ns : List Nd) : (repN u a ns).length = ns.length := by simp [repN]

section
variable {ns : List Nd} {out : Int} {M : LM} {pos : Int → Nat} {i w : Nat} {na nu a' : Nd} {st : FSt}

theorem Stp.len (s : Stp ns out M i w na nu a' st) : st.1.length = ns.length := by rw [s.st]; show (repN _ _ _).length = _; rw [repN_length, List.length_set]
theorem Stp.il (s : Stp ns out M i w na nu a' st) : i < ns.length := (List.getElem?_eq_some_iff.1 s.ea).1
theorem Stp.wl (s : Stp ns out M i w na nu a' st) : w < ns.length := (List.getElem?_eq_some_iff.1 s.eu).1
theorem Stp.inn (I : FInv ns out M pos) (s : Stp ns out M i w na nu a' st) : nu.inn = [(i : Int) + 1] := by
  obtain ⟨v, hv, _, _, hm, _⟩ := I.user (a := (i : Int) + 1) (by omega) s.m1
  have e : v = w := by have := s.us; omega
  subst e
  rw [innOf_at s.eu] at hm
  have h1 := I.one nu (List.mem_of_getElem? s.eu) ((tkN_rows s.tk).2.2.2.2.symm.imp id id)
  obtain ⟨x, hx⟩ := List.length_eq_one_iff.1 h1
  rw [hx] at hm ⊢
  simp only [List.mem_singleton] at hm
  rw [hm]
theorem Stp.live (I : FInv ns out M pos) (s : Stp ns out M i w na nu a' st) : (M ((w : Int) + 1)).isSome ∧ ∀ v : Nat, v < ns.length → (M ((v : Int) + 1)).isSome → ((i : Int) + 1) ∈ innOf ns ((v : Int) + 1) → v = w := by
  obtain ⟨v, hv, _, h1, _, h2⟩ := I.user (a := (i : Int) + 1) (by omega) s.m1
  have e : v = w := by have := s.us; omega
  subst e
  exact ⟨h1, h2⟩
theorem Stp.lt (I : FInv ns out M pos) (s : Stp ns out M i w na nu a' st) : pos ((i : Int) + 1) < pos ((w : Int) + 1) := by
  have := (I.ranked w nu s.eu).2 ((i : Int) + 1) (by rw [s.inn I]; simp)
  exact this.2.2 (by omega)
theorem Stp.ne (I : FInv ns out M pos) (s : Stp ns out M i w na nu a' st) : i ≠ w := fun e => by have := s.lt I; rw [e] at this; omega
/-- The nodes behind a step. -/
theorem Stp.get (s : Stp ns out M i w na nu a' st) (q : Nat) : st.1[q]? = ns[q]?.map fun n => let m := if q = i then a' else n; if (q : Int) + 1 = (w : Int) + 1 then m else { m with inn := m.inn.map (rep1 ((w : Int) + 1) ((i : Int) + 1)) } := by
  rw [s.st]
  show (repN _ _ _)[q]? = _
  rw [repN_get]
  by_cases h : i = q
  · subst h
    rw [List.getElem?_set_self s.il, s.ea]
    simp
  · rw [List.getElem?_set_ne h]
    cases ns[q]? with
    | none => rfl
    | some n => simp only [Option.map_some]; rw [if_neg (Ne.symm h)]
theorem Stp.innOf (s : Stp ns out M i w na nu a' st) (q : Nat) : innOf st.1 ((q : Int) + 1) = if q = w then G.innOf ns ((q : Int) + 1) else (G.innOf ns ((q : Int) + 1)).map (rep1 ((w : Int) + 1) ((i : Int) + 1)) := by
  have hg := s.get q
  cases e : ns[q]? with
  | none =>
    rw [e] at hg
    have h1 : G.innOf st.1 ((q : Int) + 1) = [] := by unfold G.innOf; rw [show ((q : Int) + 1 - 1).toNat = q by omega, hg]; rfl
    have h2 : G.innOf ns ((q : Int) + 1) = [] := by unfold G.innOf; rw [show ((q : Int) + 1 - 1).toNat = q by omega, e]
    rw [h1, h2]; simp
  | some n =>
    rw [e, Option.map_some] at hg
    rw [innOf_at hg, innOf_at e]
    have hi : (if q = i then a' else n).inn = n.inn := by
      split
      · rename_i h; subst h
        have := s.ea; rw [e] at this; cases this
        exact (tkN_rows s.tk).1
      · rfl
    dsimp only
    by_cases h : q = w
    · rw [if_pos (by omega), if_pos h, hi]
    · rw [if_neg (by omega), if_neg h]
      show (if q = i then a' else n).inn.map _ = _
      rw [hi]
theorem rep1_ne {u a k : Int} (h : k ≠ u) : rep1 u a k = k := if_neg h
theorem rep1_eq (u a : Int) : rep1 u a u = a := if_pos rfl
/-- The counts behind a step. -/
theorem Stp.cnt (s : Stp ns out M i w na nu a' st) (x : Int) : st.2.2 x = if x = (w : Int) + 1 then none else if x = (i : Int) + 1 then some ((M ((w : Int) + 1)).getD 0) else M x := by
  rw [s.st]; rfl
theorem Stp.some (I : FInv ns out M pos) (s : Stp ns out M i w na nu a' st) (x : Int) : (st.2.2 x).isSome ↔ (M x).isSome ∧ x ≠ (w : Int) + 1 := by
  rw [s.cnt]
  by_cases h1 : x = (w : Int) + 1
  · rw [if_pos h1]; simp [h1]
  · rw [if_neg h1]
    by_cases h2 : x = (i : Int) + 1
    · rw [if_pos h2, h2, s.m1]; simp; omega
    · rw [if_neg h2]; simp [h1]

theorem Stp.inv (I : FInv ns out M pos) (s : Stp ns out M i w na nu a' st) : FInv st.1 st.2.1 st.2.2 pos := by
  have hlt := s.lt I
  have hne := s.ne I
  have hlen := s.len
  have hil := s.il
  have hwl := s.wl
  have hinn := s.inn I
  have hlive := s.live I
  have hout : st.2.1 = if out = (w : Int) + 1 then (i : Int) + 1 else out := by rw [s.st]
  have innw : G.innOf ns ((w : Int) + 1) = [(i : Int) + 1] := by rw [innOf_at s.eu, hinn]
  have aliv : Lv ns out ((i : Int) + 1) := (I.lv _).1 (by rw [s.m1]; rfl)
  have uliv : Lv ns out ((w : Int) + 1) := (I.lv _).1 hlive.1
  have rank : ∀ q j, j ∈ G.innOf ns ((q : Nat) + 1 : Int) → 0 ≤ j ∧ j ≤ (ns.length : Int) ∧ (0 < j → pos j < pos ((q : Int) + 1)) := fun q j hj => I.ranked.down (by omega) hj
  have edge : ∀ {q : Nat} {n : Nd} {j : Int}, Lv ns out ((q : Int) + 1) → j ∈ G.innOf ns ((q : Int) + 1) → Lv ns out j := fun {q n j} h hj => by
    obtain ⟨i2, n2, e, en, hm⟩ := innOf_mem (by omega) hj
    have : i2 = q := by omega
    subst this
    exact h.inn en hm
  have edge' : ∀ {q : Nat} {j : Int}, Lv st.1 st.2.1 ((q : Int) + 1) → j ∈ G.innOf st.1 ((q : Int) + 1) → Lv st.1 st.2.1 j := fun {q j} h hj => by
    obtain ⟨i2, n2, e, en, hm⟩ := innOf_mem (by omega) hj
    have : i2 = q := by omega
    subst this
    exact h.inn en hm
  have lvs : ∀ x, Lv st.1 st.2.1 x ↔ Lv ns out x ∧ x ≠ (w : Int) + 1 := fun x => by
    constructor
    · intro h
      induction h with
      | out =>
        rw [hout]
        split
        · exact ⟨aliv, by omega⟩
        · rename_i h; exact ⟨.out, h⟩
      | @inn q n j h en hm ih =>
        have hm' : j ∈ G.innOf st.1 ((q : Int) + 1) := by rw [innOf_at en]; exact hm
        rw [s.innOf, if_neg (by have := ih.2; omega)] at hm'
        obtain ⟨k, hk, rfl⟩ := List.mem_map.1 hm'
        by_cases hku : k = (w : Int) + 1
        · rw [hku, rep1_eq]; exact ⟨aliv, by omega⟩
        · rw [rep1_ne hku]; exact ⟨edge (n := n) ih.1 hk, hku⟩
    · rintro ⟨h, hx⟩
      have key : ∀ x, Lv ns out x → (x ≠ (w : Int) + 1 → Lv st.1 st.2.1 x) ∧ (x = (w : Int) + 1 → Lv st.1 st.2.1 ((i : Int) + 1)) := by
        intro x h
        induction h with
        | out =>
          refine ⟨fun h => ?_, fun h => ?_⟩
          · rw [if_neg h] at hout; rw [← hout]; exact .out
          · rw [if_pos h] at hout; rw [← hout]; exact .out
        | @inn q n j h en hm ih =>
          have hm0 : j ∈ G.innOf ns ((q : Int) + 1) := by rw [innOf_at en]; exact hm
          by_cases hq : q = w
          · subst hq
            rw [innw] at hm0
            simp only [List.mem_singleton] at hm0
            have hl := ih.2 rfl
            exact ⟨fun _ => by rw [hm0]; exact hl, fun h => by omega⟩
          · have hl := ih.1 (by omega)
            have hmm : rep1 ((w : Int) + 1) ((i : Int) + 1) j ∈ G.innOf st.1 ((q : Int) + 1) := by
              rw [s.innOf, if_neg hq]; exact List.mem_map_of_mem hm0
            have := edge' hl hmm
            exact ⟨fun h => by rw [rep1_ne h] at this; exact this, fun h => by rw [h, rep1_eq] at this; exact this⟩
      exact (key x h).1 hx
  refine ⟨fun q n en => ?_, ?_, ?_, fun n hn hk => ?_, fun x => ?_, fun x c hx hc => ?_⟩
  · have hm : n.inn = G.innOf st.1 ((q : Int) + 1) := (innOf_at en).symm
    have hq : q < ns.length := by rw [← hlen]; exact (List.getElem?_eq_some_iff.1 en).1
    obtain ⟨n0, en0⟩ : ∃ n0, ns[q]? = Option.some n0 := ⟨_, List.getElem?_eq_getElem hq⟩
    have r0 := I.ranked q n0 en0
    rw [hm, s.innOf, innOf_at en0, hlen]
    by_cases hqw : q = w
    · rw [if_pos hqw]; exact r0
    · rw [if_neg hqw, List.length_map]
      refine ⟨r0.1, fun j hj => ?_⟩
      obtain ⟨k, hk, rfl⟩ := List.mem_map.1 hj
      have rk := r0.2 k hk
      by_cases hku : k = (w : Int) + 1
      · rw [hku, rep1_eq]
        refine ⟨by omega, by omega, fun _ => ?_⟩
        have := rk.2.2 (by omega)
        rw [hku] at this; omega
      · rw [rep1_ne hku]; exact rk
  · rw [hout]; split
    · omega
    · exact I.out1
  · rw [hout, hlen]; split
    · omega
    · exact I.outn
  · obtain ⟨q, hq⟩ := List.mem_iff_getElem?.1 hn
    rw [s.get] at hq
    obtain ⟨n0, en0, e⟩ := Option.map_eq_some_iff.1 hq
    dsimp only at e
    have hi : (if q = i then a' else n0).inn = n0.inn ∧ (if q = i then a' else n0).kind = n0.kind := by
      split
      · rename_i h; subst h
        have := s.ea; rw [en0] at this; cases this
        exact ⟨(tkN_rows s.tk).1, (tkN_rows s.tk).2.1⟩
      · exact ⟨rfl, rfl⟩
    have hk0 : n0.kind = 9 ∨ n0.kind = 10 := by
      rw [← hi.2]
      rw [← e] at hk
      split at hk <;> exact hk
    have := I.one n0 (List.mem_of_getElem? en0) hk0
    rw [← e]
    split
    · rw [hi.1]; exact this
    · show (List.map _ _).length = 1
      rw [List.length_map, hi.1]; exact this
  · rw [s.some I, I.lv, lvs]
  · rw [s.cnt] at hc
    have hxw : x ≠ (w : Int) + 1 := fun e => by rw [if_pos e] at hc; cases hc
    rw [if_neg hxw] at hc
    have filt : ∀ y : Int, (∀ q : Nat, q < ns.length → (((st.2.2 ((q : Int) + 1)).isSome ∧ x ∈ G.innOf st.1 ((q : Int) + 1)) ↔ ((M ((q : Int) + 1)).isSome ∧ y ∈ G.innOf ns ((q : Int) + 1)))) → usersL st.1 st.2.2 x = usersL ns M y := fun y h => by
      unfold usersL
      rw [hlen]
      refine List.filter_congr fun q hq => ?_
      rw [decide_eq_decide]
      exact h q (List.mem_range.1 hq)
    by_cases hxi : x = (i : Int) + 1
    · rw [if_pos hxi] at hc
      obtain ⟨d, hd⟩ := Option.isSome_iff_exists.1 hlive.1
      have := I.ct _ _ (by omega) hd
      rw [filt ((w : Int) + 1) fun q hq => ?_, ← this]
      · rw [hd] at hc; exact (Option.some.inj hc).symm
      · rw [s.some I, s.innOf]
        by_cases hqw : q = w
        · subst hqw
          constructor
          · intro h; exact absurd rfl h.1.2
          · rintro ⟨_, h⟩
            rw [innw] at h; simp only [List.mem_singleton] at h
            omega
        · rw [if_neg hqw]
          constructor
          · rintro ⟨⟨h1, h2⟩, h3⟩
            refine ⟨h1, ?_⟩
            obtain ⟨k, hk, e⟩ := List.mem_map.1 h3
            by_cases hku : k = (w : Int) + 1
            · rw [← hku]; exact hk
            · rw [rep1_ne hku] at e
              rw [e, hxi] at hk
              exact absurd (hlive.2 q hq h1 hk) hqw
          · rintro ⟨h1, h2⟩
            exact ⟨⟨h1, by omega⟩, List.mem_map.2 ⟨_, h2, by rw [rep1_eq, hxi]⟩⟩
    · rw [if_neg hxi] at hc
      have := I.ct _ _ hx hc
      rw [filt x fun q hq => ?_, ← this]
      rw [s.some I, s.innOf]
      by_cases hqw : q = w
      · subst hqw
        constructor
        · intro h; exact absurd rfl h.1.2
        · rintro ⟨_, h⟩
          rw [innw] at h; simp only [List.mem_singleton] at h
          omega
      · rw [if_neg hqw]
        constructor
        · rintro ⟨⟨h1, h2⟩, h3⟩
          refine ⟨h1, ?_⟩
          obtain ⟨k, hk, e⟩ := List.mem_map.1 h3
          by_cases hku : k = (w : Int) + 1
          · rw [hku, rep1_eq] at e; omega
          · rw [rep1_ne hku] at e
            rw [← e]; exact hk
        · rintro ⟨h1, h2⟩
          exact ⟨⟨h1, by omega⟩, List.mem_map.2 ⟨_, h2, rep1_ne hxw⟩⟩

/-! the end -/
def keys (n : Nat) (M : LM) : Nat := ((List.range n).filter fun w : Nat => (M ((w : Int) + 1)).isSome).length
theorem keys_le (n : Nat) (M : LM) : keys n M ≤ n := by have := List.length_filter_le (fun w : Nat => (M ((w : Int) + 1)).isSome) (List.range n); rw [List.length_range] at this; exact this
theorem Stp.keys (I : FInv ns out M pos) (s : Stp ns out M i w na nu a' st) : G.keys ns.length st.2.2 < G.keys ns.length M := by
  have nd : (w :: (List.range ns.length).filter fun v : Nat => (st.2.2 ((v : Int) + 1)).isSome).Nodup := by
    rw [List.nodup_cons]
    refine ⟨fun h => ?_, List.Pairwise.filter _ List.nodup_range⟩
    rw [List.mem_filter] at h
    exact ((s.some I _).1 h.2).2 rfl
  have := nodup_len _ ((List.range ns.length).filter fun v : Nat => (M ((v : Int) + 1)).isSome) nd fun v hv => by
    rw [List.mem_filter, List.mem_range]
    rcases List.mem_cons.1 hv with rfl | hv
    · exact ⟨s.wl, (s.live I).1⟩
    · rw [List.mem_filter, List.mem_range] at hv
      exact ⟨hv.1, ((s.some I _).1 hv.2).1⟩
  simp only [List.length_cons] at this
  unfold G.keys
  omega
end

theorem stepF_at {ns : List Nd} {out : Int} {M : LM} {st : FSt} : ∀ (k i : Nat), stepF ns out M k i = some st → ∃ j, stepAt ns out M j = some st ∧ i ≤ j ∧ ∀ q, i ≤ q → q < j → stepAt ns out M q = none
  | 0, i, h => by cases h
  | k + 1, i, h => by
    cases e : stepAt ns out M i with
    | some x =>
      rw [stepF_some e] at h
      exact ⟨i, by rw [e]; exact h, Nat.le_refl _, fun q h1 h2 => by omega⟩
    | none =>
      rw [stepF_none e] at h
      obtain ⟨j, h1, h2, h3⟩ := stepF_at k (i + 1) h
      exact ⟨j, h1, by omega, fun q hq1 hq2 => by
        by_cases hqi : q = i
        · rw [hqi]; exact e
        · exact h3 q (by omega) hq2⟩
theorem stepP_stp {ns : List Nd} {out : Int} {M : LM} {pos : Int → Nat} (I : FInv ns out M pos) {st : FSt} (h : stepP ns out M = some st) : ∃ i w na nu a', Stp ns out M i w na nu a' st ∧ ∀ q < i, stepAt ns out M q = none := by
  obtain ⟨j, h1, _, h3⟩ := stepF_at _ _ h
  obtain ⟨w, na, nu, a', s⟩ := stepAt_stp I h1
  exact ⟨j, w, na, nu, a', s, fun q hq => h3 q (Nat.zero_le _) hq⟩

/-- As long as a node may take another one, the first does. -/
def fuseIt : Nat → FSt → FSt
  | 0, s => s
  | k + 1, s => match stepP s.1 s.2.1 s.2.2 with
    | some t => fuseIt k t
    | none => s
inductive Fused : FSt → FSt → Prop
  | done {s : FSt} : stepP s.1 s.2.1 s.2.2 = none → Fused s s
  | more {s t f : FSt} : stepP s.1 s.2.1 s.2.2 = some t → Fused t f → Fused s f
theorem fused_it {pos : Int → Nat} : ∀ (k : Nat) (s : FSt), FInv s.1 s.2.1 s.2.2 pos → keys s.1.length s.2.2 < k → Fused s (fuseIt k s)
  | 0, s, _, h => by omega
  | k + 1, s, I, h => by
    unfold fuseIt
    cases e : stepP s.1 s.2.1 s.2.2 with
    | none => exact .done e
    | some t =>
      obtain ⟨i, w, na, nu, a', st, _⟩ := stepP_stp I e
      refine .more e (fused_it k t (st.inv I) ?_)
      have := st.keys I
      rw [st.len]; omega
end Go.Proofs.YtbgplllcjhgdhaaDoor.G
