/- CRefP CRefL, in one text. -/
import Derived.Test.YtbgplllcjhgdhaaDoorCRenum
import Derived.Test.YtbgplllcjhgdhaaDoorCRef16c
section
/- The document's fuse in plain Lean: what is live, by rounds; the only user. -/
namespace Go.Proofs.YtbgplllcjhgdhaaDoor.G
open Go Go.Sh
set_option linter.unusedVariables false
set_option linter.unusedSimpArgs false

def markR (l : List Bool) (js : List Int) : List Bool := js.foldl (fun l j => l.set j.toNat true) l
theorem markR_length : ∀ (js : List Int) (l : List Bool), (markR l js).length = l.length
  | [], _ => rfl
  | j :: r, l => by
    have := markR_length r (l.set j.toNat true)
    rw [List.length_set] at this
    exact this
theorem markR_get : ∀ (js : List Int) (l : List Bool) (x : Nat), x < l.length → (∀ j ∈ js, 0 ≤ j) → ((markR l js)[x]? = some true ↔ l[x]? = some true ∨ (x : Int) ∈ js)
  | [], l, x, _, _ => by simp [markR]
  | j :: r, l, x, hx, hj => by
    have ih := markR_get r (l.set j.toNat true) x (by rw [List.length_set]; exact hx) fun y hy => hj y (List.mem_cons_of_mem _ hy)
    have h0 := hj j List.mem_cons_self
    have e : markR l (j :: r) = markR (l.set j.toNat true) r := rfl
    rw [e, ih, List.mem_cons]
    by_cases hxj : j.toNat = x
    · rw [hxj, List.getElem?_set_self hx]
      constructor
      · intro _; exact .inr (.inl (by omega))
      · intro _; exact .inl rfl
    · rw [List.getElem?_set_ne hxj]
      constructor
      · rintro (h | h)
        · exact .inl h
        · exact .inr (.inr h)
      · rintro (h | h | h)
        · exact .inl h
        · omega
        · exact .inr h
theorem markR_snoc (l : List Bool) {js : List Int} {t : Nat} (ht : t < js.length) : markR l (js.take (t + 1)) = (markR l (js.take t)).set js[t].toNat true := by
  rw [List.take_succ_eq_append_getElem ht]
  unfold markR
  rw [List.foldl_append]; rfl

/-- A pass over the first i nodes. -/
def passR (ns : List Nd) (l : List Bool) : Nat → List Bool
  | 0 => l
  | i + 1 => match ns[i]? with
    | some n => if (passR ns l i)[i + 1]? = some true then markR (passR ns l i) n.inn else passR ns l i
    | none => passR ns l i
/-- What is live behind k passes. -/
def liveR (ns : List Nd) (out : Int) : Nat → List Bool
  | 0 => (List.replicate (ns.length + 1) false).set out.toNat true
  | k + 1 => passR ns (liveR ns out k) ns.length

section
variable {ns : List Nd}

theorem passR_length (l : List Bool) : ∀ i, (passR ns l i).length = l.length
  | 0 => rfl
  | i + 1 => by
    have ih := passR_length l i
    unfold passR
    split
    · split
      · rw [markR_length]; exact ih
      · exact ih
    · exact ih
theorem liveR_length (out : Int) : ∀ k, (liveR ns out k).length = ns.length + 1
  | 0 => by simp [liveR]
  | k + 1 => by
    show (passR ns (liveR ns out k) ns.length).length = _
    rw [passR_length]; exact liveR_length out k

/-- All inputs are nodes, or the input. -/
def Inn (ns : List Nd) : Prop := ∀ n ∈ ns, ∀ j ∈ n.inn, 0 ≤ j ∧ j ≤ (ns.length : Int)
theorem Ranked.Inn {pos : Int → Nat} (h : Ranked ns pos) : Inn ns := fun n hn j hj => by
  obtain ⟨i, en⟩ := List.mem_iff_getElem?.1 hn
  have := (h i n en).2 j hj
  exact ⟨this.1, this.2.1⟩

/-- What a pass keeps, and brings. -/
theorem passR_mono (hi : Inn ns) {l : List Bool} (hl : l.length = ns.length + 1) : ∀ (i : Nat) (x : Nat), l[x]? = some true → (passR ns l i)[x]? = some true
  | 0, _, h => h
  | i + 1, x, h => by
    have ih := passR_mono hi hl i x h
    unfold passR
    cases e : ns[i]? with
    | none => exact ih
    | some n =>
      dsimp only
      split
      · have hx : x < (passR ns l i).length := (List.getElem?_eq_some_iff.1 ih).1
        exact (markR_get _ _ _ hx fun j hj => (hi n (List.mem_of_getElem? e) j hj).1).2 (.inl ih)
      · exact ih
theorem passR_later (hi : Inn ns) {l : List Bool} (hl : l.length = ns.length + 1) {i x : Nat} (h : (passR ns l i)[x]? = some true) : ∀ d, (passR ns l (i + d))[x]? = some true
  | 0 => h
  | d + 1 => by
    have ih := passR_later hi hl h d
    show (passR ns l ((i + d) + 1))[x]? = some true
    unfold passR
    cases e : ns[i + d]? with
    | none => exact ih
    | some n =>
      dsimp only
      split
      · have hx : x < (passR ns l (i + d)).length := (List.getElem?_eq_some_iff.1 ih).1
        exact (markR_get _ _ _ hx fun j hj => (hi n (List.mem_of_getElem? e) j hj).1).2 (.inl ih)
      · exact ih
/-- What a pass has marked is live. -/
theorem passR_lv (hi : Inn ns) {out : Int} {l : List Bool} (hl : l.length = ns.length + 1) (h : ∀ x : Nat, l[x]? = some true → Lv ns out x) : ∀ (i : Nat) (x : Nat), (passR ns l i)[x]? = some true → Lv ns out x
  | 0, x, hx => h x hx
  | i + 1, x, hx => by
    have ih := passR_lv hi hl h i
    have hlen := passR_length (ns := ns) l i
    unfold passR at hx
    cases e : ns[i]? with
    | none => rw [e] at hx; exact ih x hx
    | some n =>
      rw [e] at hx
      dsimp only at hx
      split at hx
      · rename_i hm
        have hxl : x < (markR (passR ns l i) n.inn).length := (List.getElem?_eq_some_iff.1 hx).1
        rw [markR_length] at hxl
        rcases (markR_get _ _ _ hxl fun j hj => (hi n (List.mem_of_getElem? e) j hj).1).1 hx with h | h
        · exact ih x h
        · have : Lv ns out ((i : Int) + 1) := by
            have := ih (i + 1) hm
            exact this
          exact this.inn e h
      · exact ih x hx
/-- A pass marks the inputs of what was marked. -/
theorem passR_inn (hi : Inn ns) {l : List Bool} (hl : l.length = ns.length + 1) {i : Nat} {n : Nd} (en : ns[i]? = some n) (hm : l[i + 1]? = some true) {j : Int} (hj : j ∈ n.inn) : (passR ns l ns.length)[j.toNat]? = some true := by
  have hin := (List.getElem?_eq_some_iff.1 en).1
  have h1 := passR_mono hi hl i (i + 1) hm
  have hjr := hi n (List.mem_of_getElem? en) j hj
  have h2 : (passR ns l (i + 1))[j.toNat]? = some true := by
    unfold passR
    rw [en]
    dsimp only
    rw [if_pos h1]
    refine (markR_get _ _ _ (by rw [passR_length, hl]; omega) fun y hy => (hi n (List.mem_of_getElem? en) y hy).1).2 (.inr ?_)
    rw [show ((j.toNat : Nat) : Int) = j by omega]; exact hj
  have := passR_later hi hl h2 (ns.length - (i + 1))
  rw [show i + 1 + (ns.length - (i + 1)) = ns.length by omega] at this
  exact this

/-- Nothing is lacking. -/
def Closed (ns : List Nd) (l : List Bool) : Prop := ∀ (i : Nat) (n : Nd), ns[i]? = some n → l[i + 1]? = some true → ∀ j ∈ n.inn, l[j.toNat]? = some true
theorem set_same {l : List Bool} {j : Nat} (h : l[j]? = some true) : l.set j true = l := by
  obtain ⟨hj, e⟩ := List.getElem?_eq_some_iff.1 h
  rw [← e]; exact List.set_getElem_self hj
theorem markR_same {l : List Bool} : ∀ js : List Int, (∀ j ∈ js, l[j.toNat]? = some true) → markR l js = l
  | [], _ => rfl
  | j :: r, h => by
    show markR (l.set j.toNat true) r = l
    rw [set_same (h j List.mem_cons_self)]
    exact markR_same r fun y hy => h y (List.mem_cons_of_mem _ hy)
theorem passR_closed {l : List Bool} (h : Closed ns l) : ∀ i, passR ns l i = l
  | 0 => rfl
  | i + 1 => by
    unfold passR
    rw [passR_closed h i]
    cases e : ns[i]? with
    | none => rfl
    | some n =>
      dsimp only
      split
      · rename_i hm; exact markR_same _ (h i n e hm)
      · rfl
theorem count_lt : ∀ (l m : List Bool), l.length = m.length → (∀ x : Nat, l[x]? = some true → m[x]? = some true) → l.count true ≤ m.count true ∧ ∀ x : Nat, m[x]? = some true → l[x]? ≠ some true → l.count true < m.count true
  | [], [], _, _ => ⟨Nat.le_refl _, fun x h => by simp at h⟩
  | [], _ :: _, h, _ => by simp at h
  | _ :: _, [], h, _ => by simp at h
  | a :: l, b :: m, hlen, hm => by
    have ih := count_lt l m (by simpa using hlen) fun x hx => by have := hm (x + 1) (by simpa using hx); simpa using this
    have h0 := hm 0
    simp only [List.getElem?_cons_zero, Option.some.injEq] at h0
    have ca : (a :: l).count true = l.count true + if a = true then 1 else 0 := by rw [List.count_cons]; simp
    have cb : (b :: m).count true = m.count true + if b = true then 1 else 0 := by rw [List.count_cons]; simp
    rw [ca, cb]
    refine ⟨?_, fun x hx hn => ?_⟩
    · have := ih.1
      by_cases ha : a = true
      · rw [if_pos ha, if_pos (h0 ha)]; omega
      · rw [if_neg ha]; split <;> omega
    · cases x with
      | zero =>
        simp only [List.getElem?_cons_zero, Option.some.injEq] at hx
        have : a ≠ true := fun ha => hn (by simp [ha])
        rw [if_neg this, if_pos hx]
        have := ih.1; omega
      | succ x =>
        have := ih.2 x (by simpa using hx) (by simpa using hn)
        by_cases ha : a = true
        · rw [if_pos ha, if_pos (h0 ha)]; omega
        · rw [if_neg ha]; split <;> omega
theorem liveR_grow (hi : Inn ns) {out : Int} (ho : 0 ≤ out ∧ out ≤ (ns.length : Int)) : ∀ k, Closed ns (liveR ns out k) ∨ k + 1 ≤ (liveR ns out k).count true
  | 0 => .inr (by
    have : (liveR ns out 0)[out.toNat]? = some true := by
      show ((List.replicate (ns.length + 1) false).set out.toNat true)[out.toNat]? = _
      rw [List.getElem?_set_self (by rw [List.length_replicate]; omega)]
    exact List.count_pos_iff.2 (List.mem_of_getElem? this))
  | k + 1 => by
    rcases liveR_grow hi ho k with h | h
    · left
      show Closed ns (passR ns (liveR ns out k) ns.length)
      rw [passR_closed h]; exact h
    · by_cases hc : Closed ns (liveR ns out k)
      · left
        show Closed ns (passR ns (liveR ns out k) ns.length)
        rw [passR_closed hc]; exact hc
      · right
        have hl := liveR_length (ns := ns) out k
        have key : ∃ (i : Nat) (n : Nd) (j : Int), ns[i]? = some n ∧ (liveR ns out k)[i + 1]? = some true ∧ j ∈ n.inn ∧ (liveR ns out k)[j.toNat]? ≠ some true := Classical.byContradiction fun hn => hc fun i n en hm j hj => Classical.byContradiction fun hb => hn ⟨i, n, j, en, hm, hj, hb⟩
        obtain ⟨i, n, j, en, hm, hj, hb⟩ := key
        have := (count_lt (liveR ns out k) (passR ns (liveR ns out k) ns.length) (by rw [passR_length]) (passR_mono hi hl ns.length)).2 j.toNat (passR_inn hi hl en hm hj) hb
        show k + 1 + 1 ≤ (passR ns (liveR ns out k) ns.length).count true
        omega
theorem liveR_mono (hi : Inn ns) (out : Int) : ∀ (k x : Nat), (liveR ns out 0)[x]? = some true → (liveR ns out k)[x]? = some true
  | 0, _, h => h
  | k + 1, x, h => passR_mono hi (liveR_length out k) ns.length x (liveR_mono hi out k x h)
theorem liveR_lv (hi : Inn ns) {out : Int} (ho : 0 ≤ out ∧ out ≤ (ns.length : Int)) : ∀ (k x : Nat), (liveR ns out k)[x]? = some true → Lv ns out x
  | 0, x, h => by
    have h : ((List.replicate (ns.length + 1) false).set out.toNat true)[x]? = some true := h
    by_cases e : out.toNat = x
    · rw [show (x : Int) = out by omega]; exact .out
    · rw [List.getElem?_set_ne e, List.getElem?_replicate] at h
      split at h <;> simp at h
  | k + 1, x, h => passR_lv hi (liveR_length out k) (fun y hy => liveR_lv hi ho k y hy) ns.length x h
/-- What is marked behind as many passes as there are nodes is what is live. -/
theorem liveR_iff (hi : Inn ns) {out : Int} (ho : 0 ≤ out ∧ out ≤ (ns.length : Int)) (x : Nat) : (liveR ns out ns.length)[x]? = some true ↔ Lv ns out x := by
  constructor
  · exact liveR_lv hi ho ns.length x
  · have hl := liveR_length (ns := ns) out ns.length
    have hc : Closed ns (liveR ns out ns.length) := by
      rcases liveR_grow hi ho ns.length with h | h
      · exact h
      · have hle := List.count_le_length (a := true) (l := liveR ns out ns.length)
        have he : (liveR ns out ns.length).count true = (liveR ns out ns.length).length := by omega
        have hall := List.count_eq_length.1 he
        intro i n en hm j hj
        have := hi n (List.mem_of_getElem? en) j hj
        rw [List.getElem?_eq_getElem (by omega)]
        exact congrArg some (hall _ (List.getElem_mem _)).symm
    have key : ∀ y : Int, Lv ns out y → 0 ≤ y ∧ (liveR ns out ns.length)[y.toNat]? = some true := fun y hy => by
      induction hy with
      | out =>
        refine ⟨ho.1, liveR_mono hi out ns.length _ ?_⟩
        show ((List.replicate (ns.length + 1) false).set out.toNat true)[out.toNat]? = _
        rw [List.getElem?_set_self (by rw [List.length_replicate]; omega)]
      | @inn i n j _ en hj ih =>
        have := hi n (List.mem_of_getElem? en) j hj
        refine ⟨this.1, hc i n en ?_ j hj⟩
        have := ih.2
        rw [show ((i : Int) + 1).toNat = i + 1 by omega] at this
        exact this
    intro h
    have := (key _ h).2
    rw [Int.toNat_natCast] at this
    exact this
end

/-- Which nodes are live, as the counts have it. -/
def boolsM (n : Nat) (M : LM) : List Bool := (List.range (n + 1)).map fun x : Nat => (M (x : Int)).isSome
theorem boolsM_length (n : Nat) (M : LM) : (boolsM n M).length = n + 1 := by simp [boolsM]
theorem boolsM_get {n : Nat} {M : LM} {x : Nat} (h : x ≤ n) : (boolsM n M)[x]? = some (M (x : Int)).isSome := by
  unfold boolsM
  rw [List.getElem?_map, List.getElem?_range (by omega)]; rfl
theorem liveR_eq {ns : List Nd} {out : Int} {M : LM} {pos : Int → Nat} (I : FInv ns out M pos) : liveR ns out ns.length = boolsM ns.length M := by
  apply List.ext_getElem?
  intro x
  by_cases hx : x ≤ ns.length
  · rw [boolsM_get hx]
    have h := liveR_iff I.ranked.Inn (out := out) ⟨by have := I.out1; omega, I.outn⟩ x
    rw [← I.lv] at h
    have hlt : x < (liveR ns out ns.length).length := by rw [liveR_length]; omega
    rw [List.getElem?_eq_getElem hlt] at h ⊢
    congr 1
    cases e : (liveR ns out ns.length)[x] with
    | true => rw [e] at h; exact (h.1 rfl).symm
    | false =>
      rw [e] at h
      cases e2 : (M (x : Int)).isSome with
      | false => rfl
      | true => have := h.2 e2; cases this
  · rw [List.getElem?_eq_none (by rw [liveR_length]; omega), List.getElem?_eq_none (by rw [boolsM_length]; omega)]

/-! the only user -/
/-- How many of the first j nodes are live, and over a. -/
def manyTo (ns : List Nd) (M : LM) (a : Int) : Nat → Nat
  | 0 => 0
  | j + 1 => match ns[j]? with
    | some n => if (M ((j : Int) + 1)).isSome ∧ a ∈ n.inn then manyTo ns M a j + 1 else manyTo ns M a j
    | none => manyTo ns M a j
theorem manyTo_eq (ns : List Nd) (M : LM) (a : Int) : ∀ j ≤ ns.length, manyTo ns M a j = ((List.range j).filter fun w : Nat => decide ((M ((w : Int) + 1)).isSome ∧ a ∈ innOf ns ((w : Int) + 1))).length
  | 0, _ => rfl
  | j + 1, hj => by
    have ih := manyTo_eq ns M a j (by omega)
    obtain ⟨n, en⟩ : ∃ n, ns[j]? = some n := ⟨_, List.getElem?_eq_getElem (by omega)⟩
    unfold manyTo
    rw [en]
    dsimp only
    rw [List.range_succ, List.filter_append, List.length_append, ← ih, List.filter_cons, List.filter_nil, innOf_at en]
    split
    · rename_i h; rw [if_pos (decide_eq_true h)]; rfl
    · rename_i h; rw [if_neg (by rw [decide_eq_true_iff]; exact h)]; rfl
theorem manyTo_all (ns : List Nd) (M : LM) (a : Int) : manyTo ns M a ns.length = (usersL ns M a).length := manyTo_eq ns M a _ (Nat.le_refl _)
theorem manyTo_le (ns : List Nd) (M : LM) (a : Int) : ∀ j, manyTo ns M a j ≤ j
  | 0 => Nat.le_refl _
  | j + 1 => by
    have ih := manyTo_le ns M a j
    unfold manyTo
    split
    · split <;> omega
    · omega
/-- The only user; 0: there is none, or more. -/
def userR (ns : List Nd) (M : LM) (a : Int) : Int := if manyTo ns M a ns.length = 1 then userOf ns M a else 0
/-- Which node a takes; 0: none. -/
def takesR (ns : List Nd) (out : Int) (M : LM) (a : Int) : Int :=
  match ns[(a - 1).toNat]? with
  | none => 0
  | some n => if wei n.kind ∧ (M a).isSome ∧ a ≠ out ∧ userR ns M a ≠ 0 then
      match ns[(userR ns M a - 1).toNat]? with
      | none => 0
      | some x => if (tkN n x).isSome then userR ns M a else 0
    else 0
theorem userOf_range {ns : List Nd} {M : LM} {a : Int} : 0 ≤ userOf ns M a ∧ userOf ns M a ≤ (ns.length : Int) := userTo_le ns M a ns.length

/-- The document takes what the program takes. -/
theorem takes_step {ns : List Nd} {out : Int} {M : LM} {pos : Int → Nat} (I : FInv ns out M pos) {i : Nat} (hi : i < ns.length) :
    (takesR ns out M ((i : Int) + 1) = 0 ∧ stepAt ns out M i = none) ∨
    ∃ (w : Nat) (na nu a' : Nd) (st : FSt), takesR ns out M ((i : Int) + 1) = (w : Int) + 1 ∧ Stp ns out M i w na nu a' st ∧ stepAt ns out M i = some st := by
  obtain ⟨n, en⟩ : ∃ n, ns[i]? = some n := ⟨_, List.getElem?_eq_getElem hi⟩
  have c1 : M ((i : Int) + 1) = some 1 ↔ (M ((i : Int) + 1)).isSome ∧ manyTo ns M ((i : Int) + 1) ns.length = 1 := by
    rw [manyTo_all]
    constructor
    · intro h
      have := I.ct _ _ (by omega) h
      exact ⟨by rw [h]; rfl, by omega⟩
    · rintro ⟨h1, h2⟩
      obtain ⟨c, hc⟩ := Option.isSome_iff_exists.1 h1
      have := I.ct _ _ (by omega) hc
      rw [hc, this, h2]; rfl
  have eT : takesR ns out M ((i : Int) + 1) = if wei n.kind ∧ (M ((i : Int) + 1)).isSome ∧ ((i : Int) + 1) ≠ out ∧ userR ns M ((i : Int) + 1) ≠ 0 then
      match ns[(userR ns M ((i : Int) + 1) - 1).toNat]? with
      | none => 0
      | some x => if (tkN n x).isSome then userR ns M ((i : Int) + 1) else 0
    else 0 := by
    unfold takesR
    rw [show ((i : Int) + 1 - 1).toNat = i by omega, en]
  cases hs : stepAt ns out M i with
  | some st =>
    obtain ⟨w, na, nu, a', s⟩ := stepAt_stp I hs
    right
    refine ⟨w, na, nu, a', st, ?_, s, rfl⟩
    have ena : n = na := by have := s.ea; rw [en] at this; cases this; rfl
    subst ena
    have hm := c1.1 s.m1
    have eu : userR ns M ((i : Int) + 1) = (w : Int) + 1 := by unfold userR; rw [if_pos hm.2]; exact s.us
    rw [eT, eu, if_pos ⟨s.we, hm.1, s.no, by omega⟩, show ((w : Int) + 1 - 1).toNat = w by omega, s.eu]
    dsimp only
    rw [s.tk]; rfl
  | none =>
    left
    refine ⟨?_, rfl⟩
    rw [eT]
    by_cases hc : wei n.kind ∧ (M ((i : Int) + 1)).isSome ∧ ((i : Int) + 1) ≠ out ∧ userR ns M ((i : Int) + 1) ≠ 0
    · rw [if_pos hc]
      obtain ⟨h1, h2, h3, h4⟩ := hc
      have hm : manyTo ns M ((i : Int) + 1) ns.length = 1 := Classical.byContradiction fun h => h4 (by unfold userR; rw [if_neg h])
      have eu : userR ns M ((i : Int) + 1) = userOf ns M ((i : Int) + 1) := by unfold userR; rw [if_pos hm]
      have m1 := c1.2 ⟨h2, hm⟩
      unfold stepAt at hs
      rw [en] at hs
      dsimp only at hs
      rw [if_pos ⟨m1, h3, h1⟩] at hs
      rw [eu]
      cases e : ns[(userOf ns M ((i : Int) + 1) - 1).toNat]? with
      | none => rfl
      | some x =>
        rw [e] at hs
        dsimp only at hs ⊢
        rw [Option.map_eq_none_iff] at hs
        rw [hs]; rfl
    · rw [if_neg hc]
end Go.Proofs.YtbgplllcjhgdhaaDoor.G
end

section
/- Contracts: the document's fuse: live, Live, user, takes. -/
namespace Go.Proofs.YtbgplllcjhgdhaaDoor.G
open Go Go.Sh
set_option linter.unusedVariables false
set_option linter.unusedSimpArgs false

def bls (l : List Bool) : List Value := l.map .bool
theorem bls_length (l : List Bool) : (bls l).length = l.length := by simp [bls]
theorem bls_get {l : List Bool} {i : Nat} {b : Bool} (h : l[i]? = some b) : (bls l)[i]? = some (.bool b) := by simp [bls, h]
theorem bls_set (l : List Bool) (i : Nat) (b : Bool) : (bls l).set i (.bool b) = bls (l.set i b) := by simp [bls, List.map_set]

section
variable {h : Heap}

theorem live21_ok {gv : Gv} (hok : gv.ok) (hn : Row h gv.p (nflat gv.ns)) (hr : (nrows gv.ns).P h) (hl : gv.l < 2 ^ 20) (hs : ∀ n ∈ gv.ns, n.inn.l < 2 ^ 40) (hin : Inn gv.gr.nodes) (ho : 0 ≤ gv.out ∧ gv.out ≤ (gv.l : Int)) :
    callP P n_ref21_live #[gv.v] h fun v h' => ∃ b, v = .slice (some ⟨b, 0, none⟩) (gv.l + 1) (gv.l + 1) ∧ Sep h no h' [blk b (bls (liveR gv.gr.nodes gv.out gv.l))] [] := by
  refine call_ref21_live _ ?_
  unfold ref21_live
  have hgl := hok.1
  have hgn : gv.gr.nodes.length = gv.l := by rw [← hgl]; simp [Gv.gr]
  obtain ⟨nds, ends⟩ : ∃ nds, gv.gr.nodes = nds := ⟨_, rfl⟩
  have ends' : gv.ns.map Nv.nd = nds := ends
  rw [ends] at hgn hin ⊢
  have S := ((Sep.start h no).read (row gv.p (nflat gv.ns)) hn).read (nrows gv.ns) hr
  refine newI_S (cs := gv.cells) S fun b1 h1 _ S => ?_
  dsimp only [List.nil_append, List.cons_append] at S
  refine ldSlice_i (p := gv.p) (l := gv.l) (c := gv.c) (S.cell 0 rfl rfl) ?_
  have ew : IntKind.wrap .i64 ((gv.l : Int) + 1) = ((gv.l + 1 : Nat) : Int) := by rw [wrap64_in (by omega)]; omega
  rw [ew]
  simp only [Int.toNat_natCast]
  refine mkI_S S (gv.l + 1) rfl rfl rfl (by decide) (by omega) (by omega) fun b4 h5 _ S => ?_
  have ezero : (List.replicate (gv.l + 1) [Value.bool false]).flatten = bls (List.replicate (gv.l + 1) false) := by rw [repl_one]; simp [bls]
  rw [ezero] at S
  dsimp only [List.cons_append, List.nil_append] at S
  refine ldInt_i (n := gv.out) (S.cell 0 rfl rfl) (idxI_i rfl (k := gv.out.toNat) (by omega) (by omega) ?_)
  simp only [add_mk, Nat.zero_add, Nat.mul_one]
  refine stI_S S 1 rfl (by rw [bls_length, List.length_replicate]; omega) fun h8 _ S => ?_
  rw [bls_set] at S
  dsimp only [List.set] at S
  have e0 : (List.replicate (gv.l + 1) false).set gv.out.toNat true = liveR nds gv.out 0 := by rw [← hgn]; rfl
  rw [e0] at S
  refine LoopS_i (fun mm s g => ∃ k : Nat, s = (⟨b1, 0, none⟩, (some ⟨b4, 0, none⟩, gv.l + 1, gv.l + 1), (k : Int), ()) ∧ k ≤ gv.l ∧ mm = gv.l - k ∧
    Sep h no g [blk b1 gv.cells, blk b4 (bls (liveR nds gv.out k))] [row gv.p (nflat gv.ns), nrows gv.ns]) gv.l ⟨0, rfl, by omega, rfl, S⟩ ?_
  clear S
  rintro mm s g ⟨k, rfl, hk, rfl, S⟩
  unfold ref21_live_l4
  simp only [add_mk, Nat.zero_add]
  refine ldSlice_i (p := gv.p) (l := gv.l) (c := gv.c) (S.cell 0 rfl rfl) ?_
  have ek : IntKind.wrap .i64 ((k : Int) + 1) = ((k + 1 : Nat) : Int) := by rw [wrap64_in (by omega)]; rfl
  have hLl := liveR_length (ns := nds) gv.out k
  refine ifB_dec (fun hlt => ?_) (fun hge => ?_)
  · obtain ⟨L, eL⟩ : ∃ L, liveR nds gv.out k = L := ⟨_, rfl⟩
    rw [eL] at S hLl
    have hp := passR_length (ns := nds) L
    refine LoopS_i (fun mm s g => ∃ t : Nat, s = (⟨b1, 0, none⟩, (some ⟨b4, 0, none⟩, gv.l + 1, gv.l + 1), (k : Int), (t : Int) + 1, ()) ∧ t ≤ gv.l ∧ mm = gv.l - t ∧
      Sep h no g [blk b1 gv.cells, blk b4 (bls (passR nds L t))] [row gv.p (nflat gv.ns), nrows gv.ns]) gv.l ⟨0, rfl, by omega, rfl, S⟩ ?_
    clear S
    rintro mm s g ⟨t, rfl, ht, rfl, S⟩
    unfold ref21_live_l7
    simp only [add_mk, Nat.zero_add]
    refine ldSlice_i (p := gv.p) (l := gv.l) (c := gv.c) (S.cell 0 rfl rfl) ?_
    refine ifB_dec (fun hlt2 => ?_) (fun hge2 => ?_)
    · have htg : t < gv.ns.length := by omega
      obtain ⟨nv, en⟩ : ∃ n, gv.ns[t]? = some n := ⟨_, List.getElem?_eq_getElem htg⟩
      have hmem := List.mem_of_getElem? en
      have nok := hok.2.2 nv hmem
      have ilen : nv.inn.xs.length = nv.inn.l := nok.1.1
      have hsz := hs nv hmem
      have endt : nds[t]? = some nv.nd := by rw [← ends', List.getElem?_map, en]; rfl
      have hxin : ∀ j ∈ nv.inn.xs, 0 ≤ j ∧ j ≤ (gv.l : Int) := fun j hj => by have := hin nv.nd (List.mem_of_getElem? endt) j hj; omega
      refine ldSlice_i (p := gv.p) (l := gv.l) (c := gv.c) (S.cell 0 rfl rfl) ?_
      have et : IntKind.wrap .i64 ((t : Int) + 1 - 1) = (t : Int) := by rw [wrap64_in (by omega)]; omega
      have et2 : IntKind.wrap .i64 ((t : Int) + 1 + 1) = ((t + 1 : Nat) : Int) + 1 := by rw [wrap64_in (by omega)]; rfl
      rw [et]
      obtain ⟨a, ea⟩ := (S.row 0 rfl).some_of (by rw [nflat_length]; omega)
      have hrow : Row g (some a) (nflat gv.ns) := by rw [← ea]; exact S.row 0 rfl
      have hcell : cellH g ((a.add (t * 15)).add 1) = some nv.inn.v := by
        have := hrow.cell (i := t * 15 + 1) (v := nv.inn.v) (by rw [nflat_at en (by decide)]; rfl)
        rw [add_add _ _ (by decide)]; exact this
      refine idxI_i ea rfl (by omega) ?_
      simp only [Int.toNat_natCast]
      refine ldSlice_i (p := nv.inn.p) (l := nv.inn.l) (c := nv.inn.c) hcell ?_
      have hpt := hp t
      have estep : passR nds L (t + 1) = if (passR nds L t)[t + 1]? = some true then markR (passR nds L t) nv.nd.inn else passR nds L t := by
        conv => lhs; unfold passR
        rw [endt]
      have einn : nv.nd.inn = nv.inn.xs := rfl
      rw [einn] at estep
      obtain ⟨Q0, eQ⟩ : ∃ Q0, passR nds L t = Q0 := ⟨_, rfl⟩
      rw [eQ] at S hpt estep
      refine LoopS_i (fun mm s g => ∃ j : Nat, s = (⟨b1, 0, none⟩, (some ⟨b4, 0, none⟩, gv.l + 1, gv.l + 1), (k : Int), (t : Int) + 1, (nv.inn.p, nv.inn.l, nv.inn.c), (j : Int), ()) ∧ j ≤ nv.inn.l ∧ mm = nv.inn.l - j ∧ (0 < j → Q0[t + 1]? = some true) ∧
        Sep h no g [blk b1 gv.cells, blk b4 (bls (markR Q0 (nv.inn.xs.take j)))] [row gv.p (nflat gv.ns), nrows gv.ns]) nv.inn.l ⟨0, rfl, by omega, rfl, by omega, S⟩ ?_
      clear S hrow hcell
      rintro mm s g ⟨j, rfl, hj, rfl, hq, S⟩
      unfold ref21_live_l11
      dsimp only
      have hml : (markR Q0 (nv.inn.xs.take j)).length = gv.l + 1 := by rw [markR_length]; omega
      have fin : ∀ {g : Heap} {X : List Bool}, X = passR nds L (t + 1) → Sep h no g [blk b1 gv.cells, blk b4 (bls X)] [row gv.p (nflat gv.ns), nrows gv.ns] →
          ∃ m', m' < gv.l - t ∧ ∃ t' : Nat, ((⟨b1, 0, none⟩, (some ⟨b4, 0, none⟩, gv.l + 1, gv.l + 1), (k : Int), IntKind.wrap .i64 ((t : Int) + 1 + 1), ()) : Addr × (Option Addr × Nat × Nat) × Int × Int × Unit) = (⟨b1, 0, none⟩, (some ⟨b4, 0, none⟩, gv.l + 1, gv.l + 1), (k : Int), (t' : Int) + 1, ()) ∧ t' ≤ gv.l ∧ m' = gv.l - t' ∧
            Sep h no g [blk b1 gv.cells, blk b4 (bls (passR nds L t'))] [row gv.p (nflat gv.ns), nrows gv.ns] := fun {g X} e S => ⟨gv.l - (t + 1), by omega, t + 1, by rw [et2], by omega, rfl, by rw [← e]; exact S⟩
      refine ifB_dec (fun hlt3 => ?_) (fun hge3 => ?_)
      · have hjx : j < nv.inn.xs.length := by omega
        refine idxI_i rfl (k := t + 1) (by omega) (by omega) ?_
        rw [show ((t : Int) + 1).toNat = t + 1 by omega]
        simp only [add_mk, Nat.zero_add, Nat.mul_one]
        obtain ⟨b, eb⟩ : ∃ b, (markR Q0 (nv.inn.xs.take j))[t + 1]? = some b := ⟨_, List.getElem?_eq_getElem (by omega)⟩
        refine ldBool_i (n := b) (S.cell 1 rfl (bls_get eb)) ?_
        have hxs : ∀ x ∈ nv.inn.xs.take j, 0 ≤ x := fun x hx => (hxin x (List.mem_of_mem_take hx)).1
        refine ifB_known (fun hb => ?_) (fun hb => ?_)
        · subst hb
          have hQ : Q0[t + 1]? = some true := by
            by_cases h0 : 0 < j
            · exact hq h0
            · have : j = 0 := by omega
              subst this
              exact eb
          have irow : Row g nv.inn.p (ints nv.inn.xs) := S.r 1 _ rfl _ (List.mem_map_of_mem hmem) nv.inn.row (by simp)
          obtain ⟨aa, eaa⟩ := irow.some_of (by rw [ints_length]; omega)
          rw [eaa] at irow
          refine idxI_i eaa rfl (by omega) ?_
          simp only [Int.toNat_natCast, Nat.mul_one]
          refine ldInt_i (irow.cell (ints_get (List.getElem?_eq_getElem hjx))) ?_
          have hx := hxin _ (List.getElem_mem hjx)
          obtain ⟨x, ex⟩ : ∃ x : Int, nv.inn.xs[j] = x := ⟨_, rfl⟩
          rw [ex] at hx ⊢
          refine idxI_i rfl (k := x.toNat) (by omega) (by omega) ?_
          simp only [add_mk, Nat.zero_add, Nat.mul_one]
          refine stI_S S 1 rfl (by rw [bls_length]; omega) fun g2 _ S => ?_
          rw [bls_set, ← ex, ← markR_snoc _ hjx] at S
          dsimp only [List.set] at S
          have ej : IntKind.wrap .i64 ((j : Int) + 1) = ((j + 1 : Nat) : Int) := by rw [wrap64_in (by omega)]; rfl
          rw [ej]
          exact ⟨nv.inn.l - (j + 1), by omega, j + 1, rfl, by omega, rfl, fun _ => hQ, S⟩
        · subst hb
          have h0 : j = 0 := by
            by_cases h0 : j = 0
            · exact h0
            · have := (markR_get _ Q0 (t + 1) (by omega) hxs).2 (.inl (hq (by omega)))
              rw [eb] at this; cases this
          subst h0
          refine fin ?_ S
          have eb : Q0[t + 1]? = some false := eb
          rw [estep, eb, if_neg (by simp)]; rfl
      · refine fin ?_ S
        rw [List.take_of_length_le (by omega), estep]
        by_cases h0 : 0 < j
        · rw [if_pos (hq h0)]
        · have : nv.inn.xs = [] := List.length_eq_zero_iff.1 (by omega)
          rw [this]
          split <;> rfl
    · have : t = gv.l := by omega
      subst this
      rw [ek]
      refine ⟨gv.l - (k + 1), by omega, k + 1, rfl, by omega, rfl, ?_⟩
      have e : liveR nds gv.out (k + 1) = passR nds L gv.l := by rw [← eL, ← hgn]; rfl
      rw [e]; exact S
  · have : k = gv.l := by omega
    subst this
    exact ⟨b4, rfl, noR (S.pw [1])⟩

/-- What Live tells. -/
def LivQ (g : Gr) (h : Heap) (v : Value) (h' : Heap) : Prop :=
  ∃ (p : Option Addr) (l c : Nat), v = .slice p l c ∧ (if g.look.e = 0 then boolsM g.nodes.length (liveM g.nodes g.out) else []).length = l ∧ Sep h no h' [row p (bls (if g.look.e = 0 then boolsM g.nodes.length (liveM g.nodes g.out) else []))] []

theorem LivR_ok {gv : Gv} (hok : gv.ok) (hn : Row h gv.p (nflat gv.ns)) (hr : (nrows gv.ns).P h) (hl : gv.l < 2 ^ 20) (hs : ∀ n ∈ gv.ns, n.inn.l < 2 ^ 40 ∧ n.weights.l < 2 ^ 62 ∧ n.bias.l < 2 ^ 62) :
    callP P n_ref21_Live #[gv.v] h (LivQ gv.gr h) := by
  refine call_ref21_Live _ ?_
  unfold ref21_Live
  have hgl := hok.1
  have hgn : gv.gr.nodes.length = gv.l := by rw [← hgl]; simp [Gv.gr]
  have S := ((Sep.start h no).read (row gv.p (nflat gv.ns)) hn).read (nrows gv.ns) hr
  refine newI_S (cs := gv.cells) S fun b1 h1 _ S => ?_
  dsimp only [List.nil_append, List.cons_append] at S
  refine ldAg_S S 0 rfl (x := gv.t) rfl ?_
  refine (Look16_ok hok (S.row 0 rfl) (S.r 1 _ rfl) hl hs).mono ?_
  rintro _ h3 ⟨o, w, r, rfl, _, _, _, _, _, _, S1⟩
  replace S := S.add S1 fun _ _ h => h
  dsimp only [List.cons_append, List.nil_append] at S
  refine ⟨_, _, _, _, _, _, _, _, _, _, rfl, ifB_bne (fun he => ?_) (fun he => ?_)⟩
  · refine ⟨none, 0, 0, rfl, ?_⟩
    rw [if_neg he]
    exact ⟨rfl, pushRow (noR (S.pw [])) none⟩
  · have e0 : gv.gr.look.e = 0 := he
    obtain ⟨rk, o1, o2, n1, n12, one, _⟩ := look_inv e0
    refine ldAg_S S 0 rfl (x := gv.t) rfl ?_
    refine (live21_ok hok (S.row 0 rfl) (S.r 1 _ rfl) hl (fun n hn => (hs n hn).1) rk.Inn ⟨by have : 1 ≤ gv.out := o1; omega, by rw [← hgn]; exact o2⟩).mono ?_
    rintro _ h4 ⟨b, rfl, S2⟩
    have el : liveR gv.gr.nodes gv.out gv.l = boolsM gv.gr.nodes.length (liveM gv.gr.nodes gv.gr.out) := by rw [← hgn]; exact liveR_eq (look_finv e0)
    rw [el] at S2
    replace S := S.add S2 fun _ _ h => h
    dsimp only [List.cons_append, List.nil_append] at S
    refine ⟨_, _, _, rfl, _, _, _, rfl, ?_⟩
    rw [if_pos e0]
    refine ⟨by rw [boolsM_length, hgn], ?_⟩
    have S3 := noR (S.pw [4])
    exact S3.turn 0 rfl (row (some ⟨b, 0, none⟩) _) (fun hh => Row.of_at hh) fun b' hb => by obtain ⟨_, a, ha, hb⟩ := hb; cases ha; exact hb.symm

theorem filter_lt {α : Type} {p q : α → Bool} (hq : ∀ x, q x = true → p x = true) : ∀ l : List α, (l.filter q).length ≤ (l.filter p).length ∧ ∀ x ∈ l, p x = true → q x = false → (l.filter q).length < (l.filter p).length
  | [] => ⟨Nat.le_refl _, by simp⟩
  | a :: r => by
    have ih := filter_lt hq r
    rw [List.filter_cons, List.filter_cons]
    have e1 : (if q a = true then a :: r.filter q else r.filter q).length = (r.filter q).length + if q a = true then 1 else 0 := by split <;> rfl
    have e2 : (if p a = true then a :: r.filter p else r.filter p).length = (r.filter p).length + if p a = true then 1 else 0 := by split <;> rfl
    rw [e1, e2]
    have i1 := ih.1
    refine ⟨?_, fun x hx hp hn => ?_⟩
    · by_cases h : q a = true
      · rw [if_pos h, if_pos (hq a h)]; omega
      · rw [if_neg h]; split <;> omega
    · rcases List.mem_cons.1 hx with rfl | hx
      · rw [if_neg (by rw [hn]; simp), if_pos hp]; omega
      · have := ih.2 x hx hp hn
        by_cases h : q a = true
        · rw [if_pos h, if_pos (hq a h)]; omega
        · rw [if_neg h]; split <;> omega

theorem FInv.range {ns : List Nd} {out : Int} {M : LM} {pos : Int → Nat} (I : FInv ns out M pos) {x : Int} (h : (M x).isSome) : 0 ≤ x ∧ x ≤ (ns.length : Int) := by
  have := (I.lv x).1 h
  induction this with
  | out => exact ⟨by have := I.out1; omega, I.outn⟩
  | @inn i n j _ en hj _ => exact I.ranked.Inn n (List.mem_of_getElem? en) j hj

theorem nodup_born : ∀ {l : List MapEntry} {x y : MapEntry}, (l.map (·.born)).Nodup → x ∈ l → y ∈ l → x.born = y.born → x = y
  | [], _, _, _, h, _, _ => by simp at h
  | a :: r, x, y, hn, hx, hy, e => by
    rw [List.map_cons, List.nodup_cons] at hn
    have key : ∀ z ∈ r, z.born ≠ a.born := fun z hz ez => hn.1 (List.mem_map.2 ⟨z, hz, ez⟩)
    rcases List.mem_cons.1 hx with h1 | h1
    · rcases List.mem_cons.1 hy with h2 | h2
      · rw [h1, h2]
      · exact absurd (by rw [← e, h1]) (key y h2)
    · rcases List.mem_cons.1 hy with h2 | h2
      · exact absurd (by rw [e, h2]) (key x h1)
      · exact nodup_born hn.2 h1 h2 e

theorem LivP_ok (hS : SortedSpec) {gv : Gv} (hok : gv.ok) (hn : Row h gv.p (nflat gv.ns)) (hr : (nrows gv.ns).P h) (hl : gv.l < 2 ^ 20) (hs : ∀ n ∈ gv.ns, n.inn.l < 2 ^ 40 ∧ n.weights.l < 2 ^ 62 ∧ n.bias.l < 2 ^ 62) (hT : KT h) :
    callP P n_fuse_Live #[gv.v] h (LivQ gv.gr h) := by
  refine call_fuse_Live _ ?_
  unfold fuse_Live
  have hgl := hok.1
  have hgn : gv.gr.nodes.length = gv.l := by rw [← hgl]; simp [Gv.gr]
  have S := (((Sep.start h no).read (row gv.p (nflat gv.ns)) hn).read (nrows gv.ns) hr).read (blk 0 (ints kindTab)) hT
  refine newI_S (cs := gv.cells) S fun b1 h1 _ S => ?_
  dsimp only [List.nil_append, List.cons_append] at S
  refine ldAg_S S 0 rfl (x := gv.t) rfl ?_
  refine (GCheck_ok hok (S.row 0 rfl) (S.r 1 _ rfl) hl hs (S.r 2 _ rfl)).mono ?_
  rintro _ h3 ⟨rfl, F⟩
  replace S := S.fra0 F
  refine ⟨_, rfl, ifB_bne (fun he => ?_) (fun he => ?_)⟩
  · refine ⟨none, 0, 0, rfl, ?_⟩
    rw [if_neg he]
    exact ⟨rfl, pushRow (noR (S.pw [])) none⟩
  · have e0 : gv.gr.look.e = 0 := he
    obtain ⟨rk, o1, o2, n1, n12, one, _⟩ := look_inv e0
    have I := look_finv e0
    refine ldSlice_i (p := gv.p) (l := gv.l) (c := gv.c) (S.cell 0 rfl rfl) ?_
    have ew : IntKind.wrap .i64 ((gv.l : Int) + 1) = ((gv.l + 1 : Nat) : Int) := by rw [wrap64_in (by omega)]; omega
    rw [ew]
    simp only [Int.toNat_natCast]
    refine mkI_S S (gv.l + 1) rfl rfl rfl (by decide) (by omega) (by omega) fun b7 h8 _ S => ?_
    have ezero : (List.replicate (gv.l + 1) [Value.bool false]).flatten = bls (List.replicate (gv.l + 1) false) := by rw [repl_one]; simp [bls]
    rw [ezero] at S
    dsimp only [List.cons_append, List.nil_append] at S
    refine ldAg_S S 0 rfl (x := gv.t) rfl ?_
    refine (live_ok hS hok (S.row 0 rfl) (S.r 1 _ rfl) hl rk (posG_le _) ⟨o1, by rw [← hgn]; exact o2⟩).mono ?_
    rintro _ h9 ⟨r, rfl, S1⟩
    replace S := S.add S1 fun _ _ h => h
    dsimp only [List.cons_append, List.nil_append] at S
    refine ⟨_, rfl, ?_⟩
    refine rangeB_S S 2 rfl fun b13 h12 es c m S => ?_
    dsimp only [List.set, List.cons_append, List.nil_append] at S
    obtain ⟨M, eM⟩ : ∃ M, liveM gv.gr.nodes gv.gr.out = M := ⟨_, rfl⟩
    have eM' : liveM gv.gr.nodes gv.out = M := eM
    rw [eM'] at m
    have goalE : LivQ gv.gr h = fun v h' => ∃ (p : Option Addr) (l c : Nat), v = .slice p l c ∧ (boolsM gv.gr.nodes.length M).length = l ∧ Sep h no h' [row p (bls (boolsM gv.gr.nodes.length M))] [] := by
      unfold LivQ; rw [if_pos e0, eM]
    rw [goalE]
    rw [eM] at I
    refine LoopS_i (fun mm s g => ∃ (seen : Array Nat) (X : List Bool), s = ((some ⟨b7, 0, none⟩, gv.l + 1, gv.l + 1), ⟨b13, 0, none⟩, ()) ∧ mm = (es.toList.filter fun e => !seen.contains e.born).length ∧ X.length = gv.l + 1 ∧
      (∀ x : Nat, X[x]? = some true ↔ ∃ e ∈ es.toList, seen.contains e.born = true ∧ e.key = .int .i64 (x : Int)) ∧
      Sep h no g [blk b1 gv.cells, blk b7 (bls X), obj r (.map es c), obj b13 (.mapIter (some r) c seen c)] [row gv.p (nflat gv.ns), nrows gv.ns, blk 0 (ints kindTab)]) (es.toList.filter fun e => !(#[] : Array Nat).contains e.born).length
      ⟨#[], _, rfl, rfl, by rw [List.length_replicate], fun x => ?_, S⟩ ?_
    · constructor
      · intro hx
        rw [List.getElem?_replicate] at hx
        split at hx <;> simp at hx
      · rintro ⟨e, _, h2, _⟩
        simp at h2
    clear S S1
    rintro mm s g ⟨seen, X, rfl, rfl, hXl, hX, S⟩
    unfold fuse_Live_l5
    dsimp only
    refine nextB_S S 2 3 rfl rfl m (fun hall => ?_) (fun e g2 he hs2 S => ?_)
    · refine ifB_false rfl ⟨_, _, _, rfl, by rw [boolsM_length, hgn], ?_⟩
      have eX : X = boolsM gv.gr.nodes.length M := by
        apply List.ext_getElem?
        intro x
        by_cases hx : x ≤ gv.gr.nodes.length
        · rw [boolsM_get hx, List.getElem?_eq_getElem (by omega)]
          have h1 := hX x
          rw [List.getElem?_eq_getElem (by omega)] at h1
          have h2 : X[x] = true ↔ (M (x : Int)).isSome = true := by
            constructor
            · intro hx
              obtain ⟨e, he, _, hk⟩ := h1.1 (by rw [hx])
              have := (m.mem (n := (x : Int)) (v := e.val)).2 ⟨e, he, hk, rfl⟩
              cases eM2 : M (x : Int) with
              | some _ => rfl
              | none =>
                have h0 : lM M (x : Int) = none := by unfold lM; rw [eM2]; rfl
                rw [h0] at this; cases this
            · intro hx
              obtain ⟨k, hk⟩ := Option.isSome_iff_exists.1 hx
              obtain ⟨e, he, hk2, _⟩ := (m.mem (n := (x : Int)) (v := .int .i64 k)).1 (by unfold lM; rw [hk]; rfl)
              exact Option.some.inj (h1.2 ⟨e, he, hall e he, hk2⟩)
          congr 1
          exact Bool.eq_iff_iff.2 h2
        · rw [List.getElem?_eq_none (by omega), List.getElem?_eq_none (by rw [boolsM_length]; omega)]
      rw [← eX]
      have S3 := noR (S.pw [1])
      exact S3.turn 0 rfl (row (some ⟨b7, 0, none⟩) _) (fun hh => Row.of_at hh) fun b' hb => by obtain ⟨_, a, ha, hb⟩ := hb; cases ha; exact hb.symm
    · dsimp only [List.set] at S
      refine ifB_true rfl ?_
      obtain ⟨a, ea⟩ := m.all e he
      have hMa : (M a).isSome := by
        have := (m.mem (n := a) (v := e.val)).2 ⟨e, he, ea, rfl⟩
        cases eM2 : M a with
        | some _ => rfl
        | none =>
          have h0 : lM M a = none := by unfold lM; rw [eM2]; rfl
          rw [h0] at this; cases this
      have ra := I.range hMa
      rw [hgn] at ra
      have hfind : es.find? (fun x => x.born == e.born) = some e := by
        rw [← Array.find?_toList]
        obtain ⟨l1, l2, e12⟩ := List.append_of_mem he
        have hnd := m.nodup
        rw [e12] at hnd ⊢
        rw [List.find?_append, List.find?_cons_of_pos (by simp)]
        have : l1.find? (fun x => x.born == e.born) = none := List.find?_eq_none.2 fun x hx => by
          intro hxe
          have hxe : x.born = e.born := by simpa using hxe
          rw [List.map_append, List.nodup_append] at hnd
          exact hnd.2.2 x.born (List.mem_map_of_mem hx) e.born (by simp) hxe
        rw [this]; rfl
      refine ⟨rfl, r, c, seen.push e.born, c, es, S.w 3 _ rfl, S.w 2 _ rfl, e.born, e, a, by simp, hfind, ea, ?_⟩
      refine idxI_i rfl (k := a.toNat) (by omega) (by omega) ?_
      simp only [add_mk, Nat.zero_add, Nat.mul_one]
      refine stI_S S 1 rfl (by rw [bls_length]; omega) fun g3 _ S => ?_
      rw [bls_set] at S
      dsimp only [List.set] at S
      have hcont : ∀ b : Nat, (seen.push e.born).contains b = true ↔ seen.contains b = true ∨ b = e.born := fun b => by simp
      refine ⟨_, ?_, seen.push e.born, X.set a.toNat true, by trivial, rfl, by rw [List.length_set]; exact hXl, fun x => ?_, S⟩
      · refine (filter_lt (p := fun x : MapEntry => !seen.contains x.born) (q := fun x : MapEntry => !(seen.push e.born).contains x.born) (fun x hx => ?_) es.toList).2 e he (by rw [hs2]; rfl) (by
          have := (hcont e.born).2 (.inr rfl)
          rw [this]; rfl)
        cases hc : seen.contains x.born with
        | false => rfl
        | true =>
          have := (hcont x.born).2 (.inl hc)
          rw [this] at hx; cases hx
      · by_cases hxa : a.toNat = x
        · rw [hxa, List.getElem?_set_self (by omega)]
          constructor
          · intro _
            exact ⟨e, he, (hcont _).2 (.inr rfl), by rw [ea, ← hxa]; congr 1; omega⟩
          · intro _; rfl
        · rw [List.getElem?_set_ne hxa, hX x]
          constructor
          · rintro ⟨e', h1, h2, h3⟩
            exact ⟨e', h1, (hcont _).2 (.inl h2), h3⟩
          · rintro ⟨e', h1, h2, h3⟩
            rcases (hcont _).1 h2 with h2 | h2
            · exact ⟨e', h1, h2, h3⟩
            · exfalso
              have : e' = e := by
                exact nodup_born m.nodup h1 he h2
              subst this
              rw [ea] at h3
              injection h3 with _ h3
              omega
end
end Go.Proofs.YtbgplllcjhgdhaaDoor.G
end
