/- The program's fuse in plain Lean: what is live, and how many live nodes are over a node. -/
import Derived.Test.YtbgplllcjhgdhaaDoorCStep3
namespace Go.Proofs.YtbgplllcjhgdhaaDoor.G
open Go Go.Sh
set_option linter.unusedVariables false
set_option linter.unusedSimpArgs false

theorem nodup_len {α : Type} [DecidableEq α] : ∀ (l1 l2 : List α), l1.Nodup → (∀ x ∈ l1, x ∈ l2) → l1.length ≤ l2.length
  | [], _, _, _ => Nat.zero_le _
  | x :: r, l2, hn, hs => by
    have hx := hs x (by simp)
    rw [List.nodup_cons] at hn
    have := nodup_len r (l2.erase x) hn.2 fun y hy => by
      have hne : y ≠ x := fun e => hn.1 (e ▸ hy)
      exact (List.mem_erase_of_ne hne).2 (hs y (by simp [hy]))
    rw [List.length_erase_of_mem hx] at this
    have := List.length_pos_of_mem hx
    simp only [List.length_cons]; omega

/-! rows that rise -/
theorem insI_sorted (x : Int) : ∀ l : List Int, l.Pairwise (· ≤ ·) → (insI x l).Pairwise (· ≤ ·)
  | [], _ => by simp [insI]
  | y :: r, h => by
    rw [List.pairwise_cons] at h
    unfold insI
    split
    · rename_i hxy
      rw [List.pairwise_cons, List.pairwise_cons]
      refine ⟨fun z hz => ?_, h⟩
      rcases List.mem_cons.1 hz with rfl | hz
      · exact hxy
      · have := h.1 z hz; omega
    · rename_i hxy
      rw [List.pairwise_cons]
      refine ⟨fun z hz => ?_, insI_sorted x r h.2⟩
      rcases (insI_mem x z r).1 hz with rfl | hz
      · omega
      · exact h.1 z hz
theorem sortI_sorted : ∀ xs : List Int, (sortI xs).Pairwise (· ≤ ·)
  | [] => List.Pairwise.nil
  | x :: r => insI_sorted x _ (sortI_sorted r)
theorem comp_lt (l : List Int) : ∀ acc : List Int, acc.Pairwise (· < ·) → l.Pairwise (· ≤ ·) → (∀ y ∈ acc, ∀ z ∈ l, y ≤ z) → (l.foldl compStep acc).Pairwise (· < ·) := by
  induction l with
  | nil => intro acc h _ _; exact h
  | cons x r ih =>
    intro acc h hl ha
    rw [List.pairwise_cons] at hl
    rw [List.foldl_cons]
    have ha' : ∀ y ∈ compStep acc x, ∀ z ∈ r, y ≤ z := fun y hy z hz => by
      unfold compStep at hy
      split at hy
      · exact ha y hy z (by simp [hz])
      · rcases List.mem_append.1 hy with hy | hy
        · exact ha y hy z (by simp [hz])
        · simp only [List.mem_singleton] at hy; subst hy; exact hl.1 z hz
    refine ih _ ?_ hl.2 ha'
    unfold compStep
    split
    · exact h
    · rename_i hne
      rw [List.pairwise_append]
      refine ⟨h, List.pairwise_singleton _ _, fun y hy z hz => ?_⟩
      simp only [List.mem_singleton] at hz; subst hz
      have hle := ha y hy z (by simp)
      rcases Int.lt_or_eq_of_le hle with h' | rfl
      · exact h'
      · exfalso
        obtain ⟨m, e⟩ : ∃ m, acc.getLast? = some m := by
          cases acc with
          | nil => simp at hy
          | cons a s => exact ⟨_, List.getLast?_eq_some_getLast (by simp)⟩
        have hml := ha m (List.mem_of_getLast? e) y (by simp)
        have : y ≤ m := by
          obtain ⟨s, hs⟩ := List.getLast?_eq_some_iff.1 e
          rw [hs] at h hy
          rw [List.pairwise_append] at h
          rcases List.mem_append.1 hy with hy | hy
          · have := h.2.2 y hy m (by simp); omega
          · simp only [List.mem_singleton] at hy; omega
        exact hne (by rw [e]; congr 1; omega)
theorem sd_lt (xs : List Int) : (sd xs).Pairwise (· < ·) := comp_lt _ [] List.Pairwise.nil (sortI_sorted xs) (by simp)
theorem sd_nodup (xs : List Int) : (sd xs).Nodup := (sd_lt xs).imp fun h e => by omega

/-! live -/
/-- Live are Out, and what is among the inputs of a live node. -/
inductive Lv (ns : List Nd) (out : Int) : Int → Prop
  | out : Lv ns out out
  | inn {i : Nat} {n : Nd} {j : Int} : Lv ns out ((i : Int) + 1) → ns[i]? = some n → j ∈ n.inn → Lv ns out j

/-- Of how many of these a node is among the inputs. -/
def cnt (ns : List Nd) (E : List Int) (j : Int) : Nat := (E.filter fun x => decide (j ∈ innOf ns x)).length
theorem cnt_append (ns : List Nd) (E F : List Int) (j : Int) : cnt ns (E ++ F) j = cnt ns E j + cnt ns F j := by simp [cnt, List.filter_append]
theorem cnt_le (ns : List Nd) (E : List Int) (j : Int) : cnt ns E j ≤ E.length := List.length_filter_le _ _
theorem cnt_pos {ns : List Nd} {E : List Int} {j : Int} : 0 < cnt ns E j ↔ ∃ x ∈ E, j ∈ innOf ns x := by
  unfold cnt
  rw [List.length_pos_iff_exists_mem]
  constructor
  · rintro ⟨x, hx⟩
    rw [List.mem_filter] at hx
    exact ⟨x, hx.1, by simpa using hx.2⟩
  · rintro ⟨x, hx, hj⟩
    exact ⟨x, List.mem_filter.2 ⟨hx, by simpa using hj⟩⟩
def addc (o : Option Int) (c : Nat) : Option Int := if c = 0 then o else some (o.getD 0 + c)
theorem addc_zero (o : Option Int) : addc o 0 = o := rfl
theorem addc_add (o : Option Int) (a b : Nat) : addc (addc o a) b = addc o (a + b) := by
  unfold addc
  by_cases h1 : b = 0
  · subst h1; simp
  · rw [if_neg h1, if_neg (show ¬ a + b = 0 by omega)]
    by_cases h2 : a = 0
    · subst h2; simp
    · rw [if_neg h2]; simp; omega
theorem addc_cases {o : Option Int} {c : Nat} {r : Option Int} (h : addc o c = r) : (c = 0 ∧ o = r) ∨ (0 < c ∧ some (o.getD 0 + c) = r) := by
  unfold addc at h
  by_cases h1 : c = 0
  · rw [if_pos h1] at h; exact .inl ⟨h1, h⟩
  · rw [if_neg h1] at h; exact .inr ⟨by omega, h⟩
theorem addc_isSome {o : Option Int} {c : Nat} (h : (addc o c).isSome) : (c = 0 ∧ o.isSome) ∨ 0 < c := by
  unfold addc at h
  by_cases h1 : c = 0
  · rw [if_pos h1] at h; exact .inl ⟨h1, h⟩
  · exact .inr (by omega)
theorem addc_some {o : Option Int} {c : Nat} (h : 0 < c) : addc o c = some (o.getD 0 + c) := by unfold addc; rw [if_neg (by omega)]
theorem bump_eq (M : LM) (j : Int) (h : 0 ≤ (M j).getD 0 ∧ (M j).getD 0 < 2 ^ 62) (k : Int) : bump M j k = addc (M k) (if k = j then 1 else 0) := by
  unfold bump upM
  by_cases hk : k = j
  · subst hk
    rw [if_pos rfl, if_pos rfl, wrap64_in (by omega)]; rfl
  · rw [if_neg hk, if_neg hk]; rfl

/-- What a visit does: nodes E are gone into, each once. -/
structure Went (ns : List Nd) (pos : Int → Nat) (M : LM) (top : Nat) (roots : List Int) (E : List Int) (M' : LM) : Prop where
  nd : E.Nodup
  new : ∀ x ∈ E, M x = none ∧ 0 < x ∧ x ≤ (ns.length : Int) ∧ pos x < top
  lv : ∀ x ∈ E, ∀ out, (∀ r ∈ roots, Lv ns out r) → Lv ns out x
  ct : ∀ j, M' j = addc (M j) (cnt ns E j + if j ∈ roots then 1 else 0)
  cl : ∀ x ∈ E, ∀ j ∈ innOf ns x, 0 < j → j ∈ E ∨ (M j).isSome
  rt : ∀ r ∈ roots, 0 < r → r ∈ E ∨ (M r).isSome
  up : ∀ x ∈ E, x ∈ roots ∨ ∃ y ∈ E, x ∈ innOf ns y

theorem innOf_at {ns : List Nd} {i : Nat} {n : Nd} (h : ns[i]? = some n) : innOf ns ((i : Int) + 1) = n.inn := by
  unfold innOf
  rw [show ((i : Int) + 1 - 1).toNat = i by omega, h]
theorem innOf_mem {ns : List Nd} {x j : Int} (hx : 0 < x) (h : j ∈ innOf ns x) : ∃ (i : Nat) (n : Nd), x = (i : Int) + 1 ∧ ns[i]? = some n ∧ j ∈ n.inn := by
  unfold innOf at h
  cases e : ns[(x - 1).toNat]? with
  | none => rw [e] at h; simp at h
  | some n => rw [e] at h; exact ⟨(x - 1).toNat, n, by omega, e, h⟩
theorem Ranked.down {ns : List Nd} {pos : Int → Nat} (h : Ranked ns pos) {x j : Int} (hx : 0 < x) (hj : j ∈ innOf ns x) : 0 ≤ j ∧ j ≤ (ns.length : Int) ∧ (0 < j → pos j < pos x) := by
  obtain ⟨i, n, rfl, e, hm⟩ := innOf_mem hx hj
  exact (h i n e).2 j hm

theorem visitL_step (ns : List Nd) (k : Nat) (M : LM) (l : List Int) (j : Int) : visitL ns k M (l ++ [j]) = if 0 < j ∧ (bump (visitL ns k M l) j j).getD 0 = 1 then visit ns k (bump (visitL ns k M l) j) j else bump (visitL ns k M l) j := by
  unfold visitL
  rw [List.foldl_append]; rfl

/-- What a row of inputs that is gone into does. -/
theorem visitL_went {ns : List Nd} {pos : Int → Nat} (hr : Ranked ns pos) {k : Nat}
    (ih : ∀ (M : LM) (i : Int) (B : Nat), 0 < i → i ≤ (ns.length : Int) → pos i < k → (∀ j c, M j = some c → 0 ≤ c ∧ c ≤ B) → (∀ j c, pos j < pos i → 0 < j → M j = some c → 1 ≤ c) → B + k * (ns.length + 2) < 2 ^ 62 → ∃ E, Went ns pos M (pos i) (innOf ns i) E (visit ns k M i))
    (M : LM) (top B : Nat) (htop : top ≤ k) (hB : ∀ j c, M j = some c → 0 ≤ c ∧ c ≤ B) (h1 : ∀ j c, pos j < top → 0 < j → M j = some c → 1 ≤ c) (hb : B + (k + 1) * (ns.length + 2) < 2 ^ 62) :
    ∀ (n : Nat) (l : List Int), l.length = n → l.Nodup → (∀ j ∈ l, 0 ≤ j ∧ j ≤ (ns.length : Int) ∧ (0 < j → pos j < top)) → ∃ E, Went ns pos M top l E (visitL ns k M l) := by
  intro n
  induction n with
  | zero =>
    intro l hl _ _
    have : l = [] := List.length_eq_zero_iff.1 hl
    subst this
    exact ⟨[], List.nodup_nil, by simp, by simp, fun j => by simp [cnt, addc_zero, visitL], by simp, by simp, by simp⟩
  | succ n ihn =>
    intro l hl hnd hin
    obtain ⟨s, j, rfl⟩ : ∃ s j, l = s ++ [j] := ⟨l.dropLast, l.getLast (by intro e; subst e; simp at hl), (List.dropLast_concat_getLast _).symm⟩
    have hnd' : s.Nodup ∧ j ∉ s := by
      rw [List.nodup_append] at hnd
      exact ⟨hnd.1, fun hj => hnd.2.2 j hj j (by simp) rfl⟩
    have hjin := hin j (by simp)
    obtain ⟨E, w⟩ := ihn s (by simpa using hl) hnd'.1 fun x hx => hin x (by simp [hx])
    rw [visitL_step]
    generalize hX : visitL ns k M s = X at w ⊢
    have elen : E.length ≤ ns.length := by
      have := nodup_len E ((List.range ns.length).map fun i : Nat => (i : Int) + 1) w.nd fun x hx => by
        have := w.new x hx
        rw [List.mem_map]
        exact ⟨(x - 1).toNat, by rw [List.mem_range]; omega, by omega⟩
      simpa using this
    have hXB : ∀ j c, X j = some c → 0 ≤ c ∧ c ≤ (B + (ns.length + 1) : Nat) := fun y c hy => by
      rw [w.ct y] at hy
      have hc := cnt_le ns E y
      rcases addc_cases hy with ⟨hc, hy⟩ | ⟨hc, hy⟩
      · have := hB y c hy; omega
      · have e := Option.some.inj hy
        have : 0 ≤ (M y).getD 0 ∧ (M y).getD 0 ≤ (B : Int) := by
          cases hM : M y with
          | none => simp
          | some d => simpa using hB y d hM
        have : (if y ∈ s then 1 else 0) ≤ 1 := by split <;> omega
        omega
    have hXj : 0 ≤ (X j).getD 0 ∧ (X j).getD 0 < 2 ^ 62 := by
      cases hM : X j with
      | none => simp
      | some d =>
        have := hXB j d hM
        have : (B + (ns.length + 1)) ≤ B + (k + 1) * (ns.length + 2) := by
          have : 1 * (ns.length + 2) ≤ (k + 1) * (ns.length + 2) := Nat.mul_le_mul_right _ (by omega)
          omega
        simp only [Option.getD_some]; omega
    have hbm := bump_eq X j hXj
    have hEX : ∀ x ∈ E, (X x).isSome := fun x hx => by
      rw [w.ct x]
      rcases w.up x hx with hs | ⟨y, hy, hxy⟩
      · rw [if_pos hs, addc_some (by omega)]; rfl
      · rw [addc_some (by have := cnt_pos.2 ⟨y, hy, hxy⟩; omega)]; rfl
    have hbj : bump X j j = some ((X j).getD 0 + 1) := by rw [hbm j, if_pos rfl]; rfl
    have bct : ∀ y, bump X j y = addc (M y) (cnt ns E y + if y ∈ s ++ [j] then 1 else 0) := fun y => by
      rw [hbm y, w.ct y, addc_add]
      congr 1
      by_cases hy : y = j
      · subst hy; rw [if_pos rfl, if_neg hnd'.2, if_pos (by simp)]
      · rw [if_neg hy]
        by_cases hs : y ∈ s
        · rw [if_pos hs, if_pos (by simp [hs])]
        · rw [if_neg hs, if_neg (by simp [hs, hy])]
    by_cases hcond : 0 < j ∧ (bump X j j).getD 0 = 1
    · rw [if_pos hcond]
      have hXn : X j = none := by
        cases hM : X j with
        | none => rfl
        | some d =>
          exfalso
          rw [hbj, hM] at hcond
          have hd : d = 0 := by have := hcond.2; simp at this; omega
          rw [w.ct j] at hM
          rcases addc_cases hM with ⟨hc, hM⟩ | ⟨hc, hM⟩
          · have := h1 j d (hjin.2.2 hcond.1) hcond.1 hM; omega
          · have e := Option.some.inj hM
            have : 0 ≤ (M j).getD 0 := by
              cases hMj : M j with
              | none => simp
              | some d' => simpa using (hB j d' hMj).1
            omega
      have hMn : M j = none := by
        rw [w.ct j] at hXn
        rcases addc_cases hXn with ⟨hc, hXn⟩ | ⟨hc, hXn⟩
        · exact hXn
        · cases hXn
      have hpj := hjin.2.2 hcond.1
      obtain ⟨F, v⟩ := ih (bump X j) j (B + (ns.length + 2)) hcond.1 hjin.2.1 (by omega) (fun y c hy => by
          rw [hbm y] at hy
          rcases addc_cases hy with ⟨hc, hy⟩ | ⟨hc, hy⟩
          · have := hXB y c hy; omega
          · have hyj : y = j := by
              by_cases h : y = j
              · exact h
              · rw [if_neg h] at hc; omega
            subst hyj
            rw [if_pos rfl, hXn] at hy
            have := Option.some.inj hy
            simp at this; omega) (fun y c hp hy0 hy => by
          have hyj : y ≠ j := fun e => by subst e; omega
          rw [hbm y, if_neg hyj, addc_zero, w.ct y] at hy
          rcases addc_cases hy with ⟨hc, hy⟩ | ⟨hc, hy⟩
          · exact h1 y c (by omega) hy0 hy
          · have e := Option.some.inj hy
            have : 0 ≤ (M y).getD 0 := by
              cases hMj : M y with
              | none => simp
              | some d' => simpa using (hB y d' hMj).1
            omega) (by rw [Nat.add_mul] at hb; omega)
      have hjE : j ∉ E := fun hj => by have := hEX j hj; rw [hXn] at this; cases this
      have hbX : ∀ y, y ≠ j → bump X j y = X y := fun y hy => by rw [hbm y, if_neg hy, addc_zero]
      have fne : ∀ x ∈ F, x ≠ j := fun x hx e => by
        have := (v.new x hx).1
        rw [e, hbj] at this; cases this
      have fX : ∀ x ∈ F, X x = none := fun x hx => by rw [← hbX x (fne x hx)]; exact (v.new x hx).1
      have fM : ∀ x ∈ F, M x = none := fun x hx => by
        have := fX x hx
        rw [w.ct x] at this
        rcases addc_cases this with ⟨hc, this⟩ | ⟨hc, this⟩
        · exact this
        · cases this
      have fE : ∀ x ∈ F, x ∉ E := fun x hx hE => by have := hEX x hE; rw [fX x hx] at this; cases this
      have jlv : ∀ out, (∀ r ∈ s ++ [j], Lv ns out r) → ∀ r ∈ innOf ns j, Lv ns out r := fun out ho r hr' => by
        obtain ⟨i, n', e, en, hm⟩ := innOf_mem hcond.1 hr'
        have := ho j (by simp)
        rw [e] at this
        exact this.inn en hm
      refine ⟨E ++ (j :: F), ?_, ?_, ?_, ?_, ?_, ?_, ?_⟩
      · rw [List.nodup_append, List.nodup_cons]
        refine ⟨w.nd, ⟨fun hj => fne j hj rfl, v.nd⟩, fun x hx y hy e => ?_⟩
        subst e
        rcases List.mem_cons.1 hy with rfl | hy
        · exact hjE hx
        · exact fE x hy hx
      · intro x hx
        rcases List.mem_append.1 hx with hx | hx
        · exact w.new x hx
        · rcases List.mem_cons.1 hx with rfl | hx
          · exact ⟨hMn, hcond.1, hjin.2.1, hpj⟩
          · have := v.new x hx
            exact ⟨fM x hx, this.2.1, this.2.2.1, by omega⟩
      · intro x hx out ho
        rcases List.mem_append.1 hx with hx | hx
        · exact w.lv x hx out fun r hr' => ho r (by simp [hr'])
        · rcases List.mem_cons.1 hx with rfl | hx
          · exact ho x (by simp)
          · exact v.lv x hx out (jlv out ho)
      · intro y
        rw [v.ct y, bct y, addc_add]
        congr 1
        have e : cnt ns (E ++ j :: F) y = cnt ns E y + (cnt ns F y + if y ∈ innOf ns j then 1 else 0) := by
          rw [cnt_append]
          congr 1
          unfold cnt
          rw [List.filter_cons]
          by_cases hy : y ∈ innOf ns j
          · rw [if_pos (by simpa using hy), if_pos hy]; rfl
          · rw [if_neg (by simpa using hy), if_neg hy]; rfl
        rw [e]; omega
      · intro x hx y hy hy0
        have put : ∀ z, z ∈ F ∨ (bump X j z).isSome → 0 < z → z ∈ E ++ j :: F ∨ (M z).isSome := fun z hz h0 => by
          rcases hz with hz | hz
          · exact .inl (by simp [hz])
          · by_cases hzj : z = j
            · exact .inl (by simp [hzj])
            · rw [hbX z hzj, w.ct z] at hz
              rcases addc_isSome hz with ⟨hc, hz⟩ | hc
              · exact .inr hz
              · by_cases hzs : z ∈ s
                · rcases w.rt z hzs h0 with h | h
                  · exact .inl (by simp [h])
                  · exact .inr h
                · rw [if_neg hzs] at hc
                  obtain ⟨x', hx', hzx⟩ := cnt_pos.1 (show 0 < cnt ns E z by omega)
                  rcases w.cl x' hx' z hzx h0 with h | h
                  · exact .inl (by simp [h])
                  · exact .inr h
        rcases List.mem_append.1 hx with hx | hx
        · rcases w.cl x hx y hy hy0 with h | h
          · exact .inl (by simp [h])
          · exact .inr h
        · rcases List.mem_cons.1 hx with rfl | hx
          · exact put y (v.rt y hy hy0) hy0
          · exact put y (v.cl x hx y hy hy0) hy0
      · intro r hr' hr0
        rcases List.mem_append.1 hr' with hr' | hr'
        · rcases w.rt r hr' hr0 with h | h
          · exact .inl (by simp [h])
          · exact .inr h
        · simp only [List.mem_singleton] at hr'; subst hr'
          exact .inl (by simp)
      · intro x hx
        rcases List.mem_append.1 hx with hx | hx
        · rcases w.up x hx with h | ⟨y, hy, h⟩
          · exact .inl (by simp [h])
          · exact .inr ⟨y, by simp [hy], h⟩
        · rcases List.mem_cons.1 hx with rfl | hx
          · exact .inl (by simp)
          · rcases v.up x hx with h | ⟨y, hy, h⟩
            · exact .inr ⟨j, by simp, h⟩
            · exact .inr ⟨y, by simp [hy], h⟩
    · rw [if_neg hcond]
      refine ⟨E, w.nd, w.new, fun x hx out ho => w.lv x hx out fun r hr' => ho r (by simp [hr']), bct, w.cl, ?_, fun x hx => ?_⟩
      · intro r hr' hr0
        rcases List.mem_append.1 hr' with hr' | hr'
        · exact w.rt r hr' hr0
        · simp only [List.mem_singleton] at hr'; subst hr'
          have hXs : (X r).isSome := by
            cases hM : X r with
            | some d => rfl
            | none => exact absurd ⟨hr0, by rw [hbj, hM]; rfl⟩ hcond
          rw [w.ct r] at hXs
          rcases addc_isSome hXs with ⟨hc, hXs⟩ | hc
          · exact .inr hXs
          · rw [if_neg hnd'.2] at hc
            obtain ⟨x', hx', hzx⟩ := cnt_pos.1 (show 0 < cnt ns E r by omega)
            exact w.cl x' hx' r hzx hr0
      · rcases w.up x hx with h | h
        · exact .inl (by simp [h])
        · exact .inr h
end Go.Proofs.YtbgplllcjhgdhaaDoor.G
