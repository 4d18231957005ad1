/- CRefP CRefL CRefT CRefK CRefF CRefG, in one text. -/
import Derived.Test.YtbgplllcjhgdhaaDoorCRenum
import Derived.Test.YtbgplllcjhgdhaaDoorCRef16c
section
/- The document's fuse in plain Lean: what is live, by rounds; the only user. -/
namespace Go.Proofs.YtbgplllcjhgdhaaDoor.G
open Go Go.Sh
set_option linter.unusedVariables false
set_option linter.unusedSimpArgs false

def markR (l : List Bool) (js : List Int) : List Bool := js.foldl (fun l j => l.set j.toNat true) l
theorem markR_length : ∀ (js : List Int) (l : List Bool), (markR l js).length = l.length
  | [], _ => rfl
  | j :: r, l => by
    have := markR_length r (l.set j.toNat true)
    rw [List.length_set] at this
    exact this
theorem markR_get : ∀ (js : List Int) (l : List Bool) (x : Nat), x < l.length → (∀ j ∈ js, 0 ≤ j) → ((markR l js)[x]? = some true ↔ l[x]? = some true ∨ (x : Int) ∈ js)
  | [], l, x, _, _ => by simp [markR]
  | j :: r, l, x, hx, hj => by
    have ih := markR_get r (l.set j.toNat true) x (by rw [List.length_set]; exact hx) fun y hy => hj y (List.mem_cons_of_mem _ hy)
    have h0 := hj j List.mem_cons_self
    have e : markR l (j :: r) = markR (l.set j.toNat true) r := rfl
    rw [e, ih, List.mem_cons]
    by_cases hxj : j.toNat = x
    · rw [hxj, List.getElem?_set_self hx]
      constructor
      · intro _; exact .inr (.inl (by omega))
      · intro _; exact .inl rfl
    · rw [List.getElem?_set_ne hxj]
      constructor
      · rintro (h | h)
        · exact .inl h
        · exact .inr (.inr h)
      · rintro (h | h | h)
        · exact .inl h
        · omega
        · exact .inr h
theorem markR_snoc (l : List Bool) {js : List Int} {t : Nat} (ht : t < js.length) : markR l (js.take (t + 1)) = (markR l (js.take t)).set js[t].toNat true := by
  rw [List.take_succ_eq_append_getElem ht]
  unfold markR
  rw [List.foldl_append]; rfl

/-- A pass over the first i nodes. -/
def passR (ns : List Nd) (l : List Bool) : Nat → List Bool
  | 0 => l
  | i + 1 => match ns[i]? with
    | some n => if (passR ns l i)[i + 1]? = some true then markR (passR ns l i) n.inn else passR ns l i
    | none => passR ns l i
/-- What is live behind k passes. -/
def liveR (ns : List Nd) (out : Int) : Nat → List Bool
  | 0 => (List.replicate (ns.length + 1) false).set out.toNat true
  | k + 1 => passR ns (liveR ns out k) ns.length

section
variable {ns : List Nd}

theorem passR_length (l : List Bool) : ∀ i, (passR ns l i).length = l.length
  | 0 => rfl
  | i + 1 => by
    have ih := passR_length l i
    unfold passR
    split
    · split
      · rw [markR_length]; exact ih
      · exact ih
    · exact ih
theorem liveR_length (out : Int) : ∀ k, (liveR ns out k).length = ns.length + 1
  | 0 => by simp [liveR]
  | k + 1 => by
    show (passR ns (liveR ns out k) ns.length).length = _
    rw [passR_length]; exact liveR_length out k

/-- All inputs are nodes, or the input. -/
def Inn (ns : List Nd) : Prop := ∀ n ∈ ns, ∀ j ∈ n.inn, 0 ≤ j ∧ j ≤ (ns.length : Int)
theorem Ranked.Inn {pos : Int → Nat} (h : Ranked ns pos) : Inn ns := fun n hn j hj => by
  obtain ⟨i, en⟩ := List.mem_iff_getElem?.1 hn
  have := (h i n en).2 j hj
  exact ⟨this.1, this.2.1⟩

/-- What a pass keeps, and brings. -/
theorem passR_mono (hi : Inn ns) {l : List Bool} (hl : l.length = ns.length + 1) : ∀ (i : Nat) (x : Nat), l[x]? = some true → (passR ns l i)[x]? = some true
  | 0, _, h => h
  | i + 1, x, h => by
    have ih := passR_mono hi hl i x h
    unfold passR
    cases e : ns[i]? with
    | none => exact ih
    | some n =>
      dsimp only
      split
      · have hx : x < (passR ns l i).length := (List.getElem?_eq_some_iff.1 ih).1
        exact (markR_get _ _ _ hx fun j hj => (hi n (List.mem_of_getElem? e) j hj).1).2 (.inl ih)
      · exact ih
theorem passR_later (hi : Inn ns) {l : List Bool} (hl : l.length = ns.length + 1) {i x : Nat} (h : (passR ns l i)[x]? = some true) : ∀ d, (passR ns l (i + d))[x]? = some true
  | 0 => h
  | d + 1 => by
    have ih := passR_later hi hl h d
    show (passR ns l ((i + d) + 1))[x]? = some true
    unfold passR
    cases e : ns[i + d]? with
    | none => exact ih
    | some n =>
      dsimp only
      split
      · have hx : x < (passR ns l (i + d)).length := (List.getElem?_eq_some_iff.1 ih).1
        exact (markR_get _ _ _ hx fun j hj => (hi n (List.mem_of_getElem? e) j hj).1).2 (.inl ih)
      · exact ih
/-- What a pass has marked is live. -/
theorem passR_lv (hi : Inn ns) {out : Int} {l : List Bool} (hl : l.length = ns.length + 1) (h : ∀ x : Nat, l[x]? = some true → Lv ns out x) : ∀ (i : Nat) (x : Nat), (passR ns l i)[x]? = some true → Lv ns out x
  | 0, x, hx => h x hx
  | i + 1, x, hx => by
    have ih := passR_lv hi hl h i
    have hlen := passR_length (ns := ns) l i
    unfold passR at hx
    cases e : ns[i]? with
    | none => rw [e] at hx; exact ih x hx
    | some n =>
      rw [e] at hx
      dsimp only at hx
      split at hx
      · rename_i hm
        have hxl : x < (markR (passR ns l i) n.inn).length := (List.getElem?_eq_some_iff.1 hx).1
        rw [markR_length] at hxl
        rcases (markR_get _ _ _ hxl fun j hj => (hi n (List.mem_of_getElem? e) j hj).1).1 hx with h | h
        · exact ih x h
        · have : Lv ns out ((i : Int) + 1) := by
            have := ih (i + 1) hm
            exact this
          exact this.inn e h
      · exact ih x hx
/-- A pass marks the inputs of what was marked. -/
theorem passR_inn (hi : Inn ns) {l : List Bool} (hl : l.length = ns.length + 1) {i : Nat} {n : Nd} (en : ns[i]? = some n) (hm : l[i + 1]? = some true) {j : Int} (hj : j ∈ n.inn) : (passR ns l ns.length)[j.toNat]? = some true := by
  have hin := (List.getElem?_eq_some_iff.1 en).1
  have h1 := passR_mono hi hl i (i + 1) hm
  have hjr := hi n (List.mem_of_getElem? en) j hj
  have h2 : (passR ns l (i + 1))[j.toNat]? = some true := by
    unfold passR
    rw [en]
    dsimp only
    rw [if_pos h1]
    refine (markR_get _ _ _ (by rw [passR_length, hl]; omega) fun y hy => (hi n (List.mem_of_getElem? en) y hy).1).2 (.inr ?_)
    rw [show ((j.toNat : Nat) : Int) = j by omega]; exact hj
  have := passR_later hi hl h2 (ns.length - (i + 1))
  rw [show i + 1 + (ns.length - (i + 1)) = ns.length by omega] at this
  exact this

/-- Nothing is lacking. -/
def Closed (ns : List Nd) (l : List Bool) : Prop := ∀ (i : Nat) (n : Nd), ns[i]? = some n → l[i + 1]? = some true → ∀ j ∈ n.inn, l[j.toNat]? = some true
theorem set_same {l : List Bool} {j : Nat} (h : l[j]? = some true) : l.set j true = l := by
  obtain ⟨hj, e⟩ := List.getElem?_eq_some_iff.1 h
  rw [← e]; exact List.set_getElem_self hj
theorem markR_same {l : List Bool} : ∀ js : List Int, (∀ j ∈ js, l[j.toNat]? = some true) → markR l js = l
  | [], _ => rfl
  | j :: r, h => by
    show markR (l.set j.toNat true) r = l
    rw [set_same (h j List.mem_cons_self)]
    exact markR_same r fun y hy => h y (List.mem_cons_of_mem _ hy)
theorem passR_closed {l : List Bool} (h : Closed ns l) : ∀ i, passR ns l i = l
  | 0 => rfl
  | i + 1 => by
    unfold passR
    rw [passR_closed h i]
    cases e : ns[i]? with
    | none => rfl
    | some n =>
      dsimp only
      split
      · rename_i hm; exact markR_same _ (h i n e hm)
      · rfl
theorem count_lt : ∀ (l m : List Bool), l.length = m.length → (∀ x : Nat, l[x]? = some true → m[x]? = some true) → l.count true ≤ m.count true ∧ ∀ x : Nat, m[x]? = some true → l[x]? ≠ some true → l.count true < m.count true
  | [], [], _, _ => ⟨Nat.le_refl _, fun x h => by simp at h⟩
  | [], _ :: _, h, _ => by simp at h
  | _ :: _, [], h, _ => by simp at h
  | a :: l, b :: m, hlen, hm => by
    have ih := count_lt l m (by simpa using hlen) fun x hx => by have := hm (x + 1) (by simpa using hx); simpa using this
    have h0 := hm 0
    simp only [List.getElem?_cons_zero, Option.some.injEq] at h0
    have ca : (a :: l).count true = l.count true + if a = true then 1 else 0 := by rw [List.count_cons]; simp
    have cb : (b :: m).count true = m.count true + if b = true then 1 else 0 := by rw [List.count_cons]; simp
    rw [ca, cb]
    refine ⟨?_, fun x hx hn => ?_⟩
    · have := ih.1
      by_cases ha : a = true
      · rw [if_pos ha, if_pos (h0 ha)]; omega
      · rw [if_neg ha]; split <;> omega
    · cases x with
      | zero =>
        simp only [List.getElem?_cons_zero, Option.some.injEq] at hx
        have : a ≠ true := fun ha => hn (by simp [ha])
        rw [if_neg this, if_pos hx]
        have := ih.1; omega
      | succ x =>
        have := ih.2 x (by simpa using hx) (by simpa using hn)
        by_cases ha : a = true
        · rw [if_pos ha, if_pos (h0 ha)]; omega
        · rw [if_neg ha]; split <;> omega
theorem liveR_grow (hi : Inn ns) {out : Int} (ho : 0 ≤ out ∧ out ≤ (ns.length : Int)) : ∀ k, Closed ns (liveR ns out k) ∨ k + 1 ≤ (liveR ns out k).count true
  | 0 => .inr (by
    have : (liveR ns out 0)[out.toNat]? = some true := by
      show ((List.replicate (ns.length + 1) false).set out.toNat true)[out.toNat]? = _
      rw [List.getElem?_set_self (by rw [List.length_replicate]; omega)]
    exact List.count_pos_iff.2 (List.mem_of_getElem? this))
  | k + 1 => by
    rcases liveR_grow hi ho k with h | h
    · left
      show Closed ns (passR ns (liveR ns out k) ns.length)
      rw [passR_closed h]; exact h
    · by_cases hc : Closed ns (liveR ns out k)
      · left
        show Closed ns (passR ns (liveR ns out k) ns.length)
        rw [passR_closed hc]; exact hc
      · right
        have hl := liveR_length (ns := ns) out k
        have key : ∃ (i : Nat) (n : Nd) (j : Int), ns[i]? = some n ∧ (liveR ns out k)[i + 1]? = some true ∧ j ∈ n.inn ∧ (liveR ns out k)[j.toNat]? ≠ some true := Classical.byContradiction fun hn => hc fun i n en hm j hj => Classical.byContradiction fun hb => hn ⟨i, n, j, en, hm, hj, hb⟩
        obtain ⟨i, n, j, en, hm, hj, hb⟩ := key
        have := (count_lt (liveR ns out k) (passR ns (liveR ns out k) ns.length) (by rw [passR_length]) (passR_mono hi hl ns.length)).2 j.toNat (passR_inn hi hl en hm hj) hb
        show k + 1 + 1 ≤ (passR ns (liveR ns out k) ns.length).count true
        omega
theorem liveR_mono (hi : Inn ns) (out : Int) : ∀ (k x : Nat), (liveR ns out 0)[x]? = some true → (liveR ns out k)[x]? = some true
  | 0, _, h => h
  | k + 1, x, h => passR_mono hi (liveR_length out k) ns.length x (liveR_mono hi out k x h)
theorem liveR_lv (hi : Inn ns) {out : Int} (ho : 0 ≤ out ∧ out ≤ (ns.length : Int)) : ∀ (k x : Nat), (liveR ns out k)[x]? = some true → Lv ns out x
  | 0, x, h => by
    have h : ((List.replicate (ns.length + 1) false).set out.toNat true)[x]? = some true := h
    by_cases e : out.toNat = x
    · rw [show (x : Int) = out by omega]; exact .out
    · rw [List.getElem?_set_ne e, List.getElem?_replicate] at h
      split at h <;> simp at h
  | k + 1, x, h => passR_lv hi (liveR_length out k) (fun y hy => liveR_lv hi ho k y hy) ns.length x h
/-- What is marked behind as many passes as there are nodes is what is live. -/
theorem liveR_iff (hi : Inn ns) {out : Int} (ho : 0 ≤ out ∧ out ≤ (ns.length : Int)) (x : Nat) : (liveR ns out ns.length)[x]? = some true ↔ Lv ns out x := by
  constructor
  · exact liveR_lv hi ho ns.length x
  · have hl := liveR_length (ns := ns) out ns.length
    have hc : Closed ns (liveR ns out ns.length) := by
      rcases liveR_grow hi ho ns.length with h | h
      · exact h
      · have hle := List.count_le_length (a := true) (l := liveR ns out ns.length)
        have he : (liveR ns out ns.length).count true = (liveR ns out ns.length).length := by omega
        have hall := List.count_eq_length.1 he
        intro i n en hm j hj
        have := hi n (List.mem_of_getElem? en) j hj
        rw [List.getElem?_eq_getElem (by omega)]
        exact congrArg some (hall _ (List.getElem_mem _)).symm
    have key : ∀ y : Int, Lv ns out y → 0 ≤ y ∧ (liveR ns out ns.length)[y.toNat]? = some true := fun y hy => by
      induction hy with
      | out =>
        refine ⟨ho.1, liveR_mono hi out ns.length _ ?_⟩
        show ((List.replicate (ns.length + 1) false).set out.toNat true)[out.toNat]? = _
        rw [List.getElem?_set_self (by rw [List.length_replicate]; omega)]
      | @inn i n j _ en hj ih =>
        have := hi n (List.mem_of_getElem? en) j hj
        refine ⟨this.1, hc i n en ?_ j hj⟩
        have := ih.2
        rw [show ((i : Int) + 1).toNat = i + 1 by omega] at this
        exact this
    intro h
    have := (key _ h).2
    rw [Int.toNat_natCast] at this
    exact this
end

/-- Which nodes are live, as the counts have it. -/
def boolsM (n : Nat) (M : LM) : List Bool := (List.range (n + 1)).map fun x : Nat => (M (x : Int)).isSome
theorem boolsM_length (n : Nat) (M : LM) : (boolsM n M).length = n + 1 := by simp [boolsM]
theorem boolsM_get {n : Nat} {M : LM} {x : Nat} (h : x ≤ n) : (boolsM n M)[x]? = some (M (x : Int)).isSome := by
  unfold boolsM
  rw [List.getElem?_map, List.getElem?_range (by omega)]; rfl
theorem liveR_eq {ns : List Nd} {out : Int} {M : LM} {pos : Int → Nat} (I : FInv ns out M pos) : liveR ns out ns.length = boolsM ns.length M := by
  apply List.ext_getElem?
  intro x
  by_cases hx : x ≤ ns.length
  · rw [boolsM_get hx]
    have h := liveR_iff I.ranked.Inn (out := out) ⟨by have := I.out1; omega, I.outn⟩ x
    rw [← I.lv] at h
    have hlt : x < (liveR ns out ns.length).length := by rw [liveR_length]; omega
    rw [List.getElem?_eq_getElem hlt] at h ⊢
    congr 1
    cases e : (liveR ns out ns.length)[x] with
    | true => rw [e] at h; exact (h.1 rfl).symm
    | false =>
      rw [e] at h
      cases e2 : (M (x : Int)).isSome with
      | false => rfl
      | true => have := h.2 e2; cases this
  · rw [List.getElem?_eq_none (by rw [liveR_length]; omega), List.getElem?_eq_none (by rw [boolsM_length]; omega)]

/-! the only user -/
/-- How many of the first j nodes are live, and over a. -/
def manyTo (ns : List Nd) (M : LM) (a : Int) : Nat → Nat
  | 0 => 0
  | j + 1 => match ns[j]? with
    | some n => if (M ((j : Int) + 1)).isSome ∧ a ∈ n.inn then manyTo ns M a j + 1 else manyTo ns M a j
    | none => manyTo ns M a j
theorem manyTo_eq (ns : List Nd) (M : LM) (a : Int) : ∀ j ≤ ns.length, manyTo ns M a j = ((List.range j).filter fun w : Nat => decide ((M ((w : Int) + 1)).isSome ∧ a ∈ innOf ns ((w : Int) + 1))).length
  | 0, _ => rfl
  | j + 1, hj => by
    have ih := manyTo_eq ns M a j (by omega)
    obtain ⟨n, en⟩ : ∃ n, ns[j]? = some n := ⟨_, List.getElem?_eq_getElem (by omega)⟩
    unfold manyTo
    rw [en]
    dsimp only
    rw [List.range_succ, List.filter_append, List.length_append, ← ih, List.filter_cons, List.filter_nil, innOf_at en]
    split
    · rename_i h; rw [if_pos (decide_eq_true h)]; rfl
    · rename_i h; rw [if_neg (by rw [decide_eq_true_iff]; exact h)]; rfl
theorem manyTo_all (ns : List Nd) (M : LM) (a : Int) : manyTo ns M a ns.length = (usersL ns M a).length := manyTo_eq ns M a _ (Nat.le_refl _)
theorem manyTo_le (ns : List Nd) (M : LM) (a : Int) : ∀ j, manyTo ns M a j ≤ j
  | 0 => Nat.le_refl _
  | j + 1 => by
    have ih := manyTo_le ns M a j
    unfold manyTo
    split
    · split <;> omega
    · omega
/-- The only user; 0: there is none, or more. -/
def userR (ns : List Nd) (M : LM) (a : Int) : Int := if manyTo ns M a ns.length = 1 then userOf ns M a else 0
/-- Which node a takes; 0: none. -/
def takesR (ns : List Nd) (out : Int) (M : LM) (a : Int) : Int :=
  match ns[(a - 1).toNat]? with
  | none => 0
  | some n => if wei n.kind ∧ (M a).isSome ∧ a ≠ out ∧ userR ns M a ≠ 0 then
      match ns[(userR ns M a - 1).toNat]? with
      | none => 0
      | some x => if (tkN n x).isSome then userR ns M a else 0
    else 0
theorem userOf_range {ns : List Nd} {M : LM} {a : Int} : 0 ≤ userOf ns M a ∧ userOf ns M a ≤ (ns.length : Int) := userTo_le ns M a ns.length

/-- The document takes what the program takes. -/
theorem takes_step {ns : List Nd} {out : Int} {M : LM} {pos : Int → Nat} (I : FInv ns out M pos) {i : Nat} (hi : i < ns.length) :
    (takesR ns out M ((i : Int) + 1) = 0 ∧ stepAt ns out M i = none) ∨
    ∃ (w : Nat) (na nu a' : Nd) (st : FSt), takesR ns out M ((i : Int) + 1) = (w : Int) + 1 ∧ Stp ns out M i w na nu a' st ∧ stepAt ns out M i = some st := by
  obtain ⟨n, en⟩ : ∃ n, ns[i]? = some n := ⟨_, List.getElem?_eq_getElem hi⟩
  have c1 : M ((i : Int) + 1) = some 1 ↔ (M ((i : Int) + 1)).isSome ∧ manyTo ns M ((i : Int) + 1) ns.length = 1 := by
    rw [manyTo_all]
    constructor
    · intro h
      have := I.ct _ _ (by omega) h
      exact ⟨by rw [h]; rfl, by omega⟩
    · rintro ⟨h1, h2⟩
      obtain ⟨c, hc⟩ := Option.isSome_iff_exists.1 h1
      have := I.ct _ _ (by omega) hc
      rw [hc, this, h2]; rfl
  have eT : takesR ns out M ((i : Int) + 1) = if wei n.kind ∧ (M ((i : Int) + 1)).isSome ∧ ((i : Int) + 1) ≠ out ∧ userR ns M ((i : Int) + 1) ≠ 0 then
      match ns[(userR ns M ((i : Int) + 1) - 1).toNat]? with
      | none => 0
      | some x => if (tkN n x).isSome then userR ns M ((i : Int) + 1) else 0
    else 0 := by
    unfold takesR
    rw [show ((i : Int) + 1 - 1).toNat = i by omega, en]
  cases hs : stepAt ns out M i with
  | some st =>
    obtain ⟨w, na, nu, a', s⟩ := stepAt_stp I hs
    right
    refine ⟨w, na, nu, a', st, ?_, s, rfl⟩
    have ena : n = na := by have := s.ea; rw [en] at this; cases this; rfl
    subst ena
    have hm := c1.1 s.m1
    have eu : userR ns M ((i : Int) + 1) = (w : Int) + 1 := by unfold userR; rw [if_pos hm.2]; exact s.us
    rw [eT, eu, if_pos ⟨s.we, hm.1, s.no, by omega⟩, show ((w : Int) + 1 - 1).toNat = w by omega, s.eu]
    dsimp only
    rw [s.tk]; rfl
  | none =>
    left
    refine ⟨?_, rfl⟩
    rw [eT]
    by_cases hc : wei n.kind ∧ (M ((i : Int) + 1)).isSome ∧ ((i : Int) + 1) ≠ out ∧ userR ns M ((i : Int) + 1) ≠ 0
    · rw [if_pos hc]
      obtain ⟨h1, h2, h3, h4⟩ := hc
      have hm : manyTo ns M ((i : Int) + 1) ns.length = 1 := Classical.byContradiction fun h => h4 (by unfold userR; rw [if_neg h])
      have eu : userR ns M ((i : Int) + 1) = userOf ns M ((i : Int) + 1) := by unfold userR; rw [if_pos hm]
      have m1 := c1.2 ⟨h2, hm⟩
      unfold stepAt at hs
      rw [en] at hs
      dsimp only at hs
      rw [if_pos ⟨m1, h3, h1⟩] at hs
      rw [eu]
      cases e : ns[(userOf ns M ((i : Int) + 1) - 1).toNat]? with
      | none => rfl
      | some x =>
        rw [e] at hs
        dsimp only at hs ⊢
        rw [Option.map_eq_none_iff] at hs
        rw [hs]; rfl
    · rw [if_neg hc]
end Go.Proofs.YtbgplllcjhgdhaaDoor.G
end

section
/- Contracts: the document's fuse: live, Live, user, takes. -/
namespace Go.Proofs.YtbgplllcjhgdhaaDoor.G
open Go Go.Sh
set_option linter.unusedVariables false
set_option linter.unusedSimpArgs false

def bls (l : List Bool) : List Value := l.map .bool
theorem bls_length (l : List Bool) : (bls l).length = l.length := by simp [bls]
theorem bls_get {l : List Bool} {i : Nat} {b : Bool} (h : l[i]? = some b) : (bls l)[i]? = some (.bool b) := by simp [bls, h]
theorem bls_set (l : List Bool) (i : Nat) (b : Bool) : (bls l).set i (.bool b) = bls (l.set i b) := by simp [bls, List.map_set]

section
variable {h : Heap}

theorem live21_ok {gv : Gv} (hok : gv.ok) (hn : Row h gv.p (nflat gv.ns)) (hr : (nrows gv.ns).P h) (hl : gv.l < 2 ^ 20) (hs : ∀ n ∈ gv.ns, n.inn.l < 2 ^ 40) (hin : Inn gv.gr.nodes) (ho : 0 ≤ gv.out ∧ gv.out ≤ (gv.l : Int)) :
    callP P n_ref21_live #[gv.v] h fun v h' => ∃ b, v = .slice (some ⟨b, 0, none⟩) (gv.l + 1) (gv.l + 1) ∧ Sep h no h' [blk b (bls (liveR gv.gr.nodes gv.out gv.l))] [] := by
  refine call_ref21_live _ ?_
  unfold ref21_live
  have hgl := hok.1
  have hgn : gv.gr.nodes.length = gv.l := by rw [← hgl]; simp [Gv.gr]
  obtain ⟨nds, ends⟩ : ∃ nds, gv.gr.nodes = nds := ⟨_, rfl⟩
  have ends' : gv.ns.map Nv.nd = nds := ends
  rw [ends] at hgn hin ⊢
  have S := ((Sep.start h no).read (row gv.p (nflat gv.ns)) hn).read (nrows gv.ns) hr
  refine newI_S (cs := gv.cells) S fun b1 h1 _ S => ?_
  dsimp only [List.nil_append, List.cons_append] at S
  refine ldSlice_i (p := gv.p) (l := gv.l) (c := gv.c) (S.cell 0 rfl rfl) ?_
  have ew : IntKind.wrap .i64 ((gv.l : Int) + 1) = ((gv.l + 1 : Nat) : Int) := by rw [wrap64_in (by omega)]; omega
  rw [ew]
  simp only [Int.toNat_natCast]
  refine mkI_S S (gv.l + 1) rfl rfl rfl (by decide) (by omega) (by omega) fun b4 h5 _ S => ?_
  have ezero : (List.replicate (gv.l + 1) [Value.bool false]).flatten = bls (List.replicate (gv.l + 1) false) := by rw [repl_one]; simp [bls]
  rw [ezero] at S
  dsimp only [List.cons_append, List.nil_append] at S
  refine ldInt_i (n := gv.out) (S.cell 0 rfl rfl) (idxI_i rfl (k := gv.out.toNat) (by omega) (by omega) ?_)
  simp only [add_mk, Nat.zero_add, Nat.mul_one]
  refine stI_S S 1 rfl (by rw [bls_length, List.length_replicate]; omega) fun h8 _ S => ?_
  rw [bls_set] at S
  dsimp only [List.set] at S
  have e0 : (List.replicate (gv.l + 1) false).set gv.out.toNat true = liveR nds gv.out 0 := by rw [← hgn]; rfl
  rw [e0] at S
  refine LoopS_i (fun mm s g => ∃ k : Nat, s = (⟨b1, 0, none⟩, (some ⟨b4, 0, none⟩, gv.l + 1, gv.l + 1), (k : Int), ()) ∧ k ≤ gv.l ∧ mm = gv.l - k ∧
    Sep h no g [blk b1 gv.cells, blk b4 (bls (liveR nds gv.out k))] [row gv.p (nflat gv.ns), nrows gv.ns]) gv.l ⟨0, rfl, by omega, rfl, S⟩ ?_
  clear S
  rintro mm s g ⟨k, rfl, hk, rfl, S⟩
  unfold ref21_live_l4
  simp only [add_mk, Nat.zero_add]
  refine ldSlice_i (p := gv.p) (l := gv.l) (c := gv.c) (S.cell 0 rfl rfl) ?_
  have ek : IntKind.wrap .i64 ((k : Int) + 1) = ((k + 1 : Nat) : Int) := by rw [wrap64_in (by omega)]; rfl
  have hLl := liveR_length (ns := nds) gv.out k
  refine ifB_dec (fun hlt => ?_) (fun hge => ?_)
  · obtain ⟨L, eL⟩ : ∃ L, liveR nds gv.out k = L := ⟨_, rfl⟩
    rw [eL] at S hLl
    have hp := passR_length (ns := nds) L
    refine LoopS_i (fun mm s g => ∃ t : Nat, s = (⟨b1, 0, none⟩, (some ⟨b4, 0, none⟩, gv.l + 1, gv.l + 1), (k : Int), (t : Int) + 1, ()) ∧ t ≤ gv.l ∧ mm = gv.l - t ∧
      Sep h no g [blk b1 gv.cells, blk b4 (bls (passR nds L t))] [row gv.p (nflat gv.ns), nrows gv.ns]) gv.l ⟨0, rfl, by omega, rfl, S⟩ ?_
    clear S
    rintro mm s g ⟨t, rfl, ht, rfl, S⟩
    unfold ref21_live_l7
    simp only [add_mk, Nat.zero_add]
    refine ldSlice_i (p := gv.p) (l := gv.l) (c := gv.c) (S.cell 0 rfl rfl) ?_
    refine ifB_dec (fun hlt2 => ?_) (fun hge2 => ?_)
    · have htg : t < gv.ns.length := by omega
      obtain ⟨nv, en⟩ : ∃ n, gv.ns[t]? = some n := ⟨_, List.getElem?_eq_getElem htg⟩
      have hmem := List.mem_of_getElem? en
      have nok := hok.2.2 nv hmem
      have ilen : nv.inn.xs.length = nv.inn.l := nok.1.1
      have hsz := hs nv hmem
      have endt : nds[t]? = some nv.nd := by rw [← ends', List.getElem?_map, en]; rfl
      have hxin : ∀ j ∈ nv.inn.xs, 0 ≤ j ∧ j ≤ (gv.l : Int) := fun j hj => by have := hin nv.nd (List.mem_of_getElem? endt) j hj; omega
      refine ldSlice_i (p := gv.p) (l := gv.l) (c := gv.c) (S.cell 0 rfl rfl) ?_
      have et : IntKind.wrap .i64 ((t : Int) + 1 - 1) = (t : Int) := by rw [wrap64_in (by omega)]; omega
      have et2 : IntKind.wrap .i64 ((t : Int) + 1 + 1) = ((t + 1 : Nat) : Int) + 1 := by rw [wrap64_in (by omega)]; rfl
      rw [et]
      obtain ⟨a, ea⟩ := (S.row 0 rfl).some_of (by rw [nflat_length]; omega)
      have hrow : Row g (some a) (nflat gv.ns) := by rw [← ea]; exact S.row 0 rfl
      have hcell : cellH g ((a.add (t * 15)).add 1) = some nv.inn.v := by
        have := hrow.cell (i := t * 15 + 1) (v := nv.inn.v) (by rw [nflat_at en (by decide)]; rfl)
        rw [add_add _ _ (by decide)]; exact this
      refine idxI_i ea rfl (by omega) ?_
      simp only [Int.toNat_natCast]
      refine ldSlice_i (p := nv.inn.p) (l := nv.inn.l) (c := nv.inn.c) hcell ?_
      have hpt := hp t
      have estep : passR nds L (t + 1) = if (passR nds L t)[t + 1]? = some true then markR (passR nds L t) nv.nd.inn else passR nds L t := by
        conv => lhs; unfold passR
        rw [endt]
      have einn : nv.nd.inn = nv.inn.xs := rfl
      rw [einn] at estep
      obtain ⟨Q0, eQ⟩ : ∃ Q0, passR nds L t = Q0 := ⟨_, rfl⟩
      rw [eQ] at S hpt estep
      refine LoopS_i (fun mm s g => ∃ j : Nat, s = (⟨b1, 0, none⟩, (some ⟨b4, 0, none⟩, gv.l + 1, gv.l + 1), (k : Int), (t : Int) + 1, (nv.inn.p, nv.inn.l, nv.inn.c), (j : Int), ()) ∧ j ≤ nv.inn.l ∧ mm = nv.inn.l - j ∧ (0 < j → Q0[t + 1]? = some true) ∧
        Sep h no g [blk b1 gv.cells, blk b4 (bls (markR Q0 (nv.inn.xs.take j)))] [row gv.p (nflat gv.ns), nrows gv.ns]) nv.inn.l ⟨0, rfl, by omega, rfl, by omega, S⟩ ?_
      clear S hrow hcell
      rintro mm s g ⟨j, rfl, hj, rfl, hq, S⟩
      unfold ref21_live_l11
      dsimp only
      have hml : (markR Q0 (nv.inn.xs.take j)).length = gv.l + 1 := by rw [markR_length]; omega
      have fin : ∀ {g : Heap} {X : List Bool}, X = passR nds L (t + 1) → Sep h no g [blk b1 gv.cells, blk b4 (bls X)] [row gv.p (nflat gv.ns), nrows gv.ns] →
          ∃ m', m' < gv.l - t ∧ ∃ t' : Nat, ((⟨b1, 0, none⟩, (some ⟨b4, 0, none⟩, gv.l + 1, gv.l + 1), (k : Int), IntKind.wrap .i64 ((t : Int) + 1 + 1), ()) : Addr × (Option Addr × Nat × Nat) × Int × Int × Unit) = (⟨b1, 0, none⟩, (some ⟨b4, 0, none⟩, gv.l + 1, gv.l + 1), (k : Int), (t' : Int) + 1, ()) ∧ t' ≤ gv.l ∧ m' = gv.l - t' ∧
            Sep h no g [blk b1 gv.cells, blk b4 (bls (passR nds L t'))] [row gv.p (nflat gv.ns), nrows gv.ns] := fun {g X} e S => ⟨gv.l - (t + 1), by omega, t + 1, by rw [et2], by omega, rfl, by rw [← e]; exact S⟩
      refine ifB_dec (fun hlt3 => ?_) (fun hge3 => ?_)
      · have hjx : j < nv.inn.xs.length := by omega
        refine idxI_i rfl (k := t + 1) (by omega) (by omega) ?_
        rw [show ((t : Int) + 1).toNat = t + 1 by omega]
        simp only [add_mk, Nat.zero_add, Nat.mul_one]
        obtain ⟨b, eb⟩ : ∃ b, (markR Q0 (nv.inn.xs.take j))[t + 1]? = some b := ⟨_, List.getElem?_eq_getElem (by omega)⟩
        refine ldBool_i (n := b) (S.cell 1 rfl (bls_get eb)) ?_
        have hxs : ∀ x ∈ nv.inn.xs.take j, 0 ≤ x := fun x hx => (hxin x (List.mem_of_mem_take hx)).1
        refine ifB_known (fun hb => ?_) (fun hb => ?_)
        · subst hb
          have hQ : Q0[t + 1]? = some true := by
            by_cases h0 : 0 < j
            · exact hq h0
            · have : j = 0 := by omega
              subst this
              exact eb
          have irow : Row g nv.inn.p (ints nv.inn.xs) := S.r 1 _ rfl _ (List.mem_map_of_mem hmem) nv.inn.row (by simp)
          obtain ⟨aa, eaa⟩ := irow.some_of (by rw [ints_length]; omega)
          rw [eaa] at irow
          refine idxI_i eaa rfl (by omega) ?_
          simp only [Int.toNat_natCast, Nat.mul_one]
          refine ldInt_i (irow.cell (ints_get (List.getElem?_eq_getElem hjx))) ?_
          have hx := hxin _ (List.getElem_mem hjx)
          obtain ⟨x, ex⟩ : ∃ x : Int, nv.inn.xs[j] = x := ⟨_, rfl⟩
          rw [ex] at hx ⊢
          refine idxI_i rfl (k := x.toNat) (by omega) (by omega) ?_
          simp only [add_mk, Nat.zero_add, Nat.mul_one]
          refine stI_S S 1 rfl (by rw [bls_length]; omega) fun g2 _ S => ?_
          rw [bls_set, ← ex, ← markR_snoc _ hjx] at S
          dsimp only [List.set] at S
          have ej : IntKind.wrap .i64 ((j : Int) + 1) = ((j + 1 : Nat) : Int) := by rw [wrap64_in (by omega)]; rfl
          rw [ej]
          exact ⟨nv.inn.l - (j + 1), by omega, j + 1, rfl, by omega, rfl, fun _ => hQ, S⟩
        · subst hb
          have h0 : j = 0 := by
            by_cases h0 : j = 0
            · exact h0
            · have := (markR_get _ Q0 (t + 1) (by omega) hxs).2 (.inl (hq (by omega)))
              rw [eb] at this; cases this
          subst h0
          refine fin ?_ S
          have eb : Q0[t + 1]? = some false := eb
          rw [estep, eb, if_neg (by simp)]; rfl
      · refine fin ?_ S
        rw [List.take_of_length_le (by omega), estep]
        by_cases h0 : 0 < j
        · rw [if_pos (hq h0)]
        · have : nv.inn.xs = [] := List.length_eq_zero_iff.1 (by omega)
          rw [this]
          split <;> rfl
    · have : t = gv.l := by omega
      subst this
      rw [ek]
      refine ⟨gv.l - (k + 1), by omega, k + 1, rfl, by omega, rfl, ?_⟩
      have e : liveR nds gv.out (k + 1) = passR nds L gv.l := by rw [← eL, ← hgn]; rfl
      rw [e]; exact S
  · have : k = gv.l := by omega
    subst this
    exact ⟨b4, rfl, noR (S.pw [1])⟩

/-- What Live tells. -/
def LivQ (g : Gr) (h : Heap) (v : Value) (h' : Heap) : Prop :=
  ∃ (p : Option Addr) (l c : Nat), v = .slice p l c ∧ (if g.look.e = 0 then boolsM g.nodes.length (liveM g.nodes g.out) else []).length = l ∧ Sep h no h' [row p (bls (if g.look.e = 0 then boolsM g.nodes.length (liveM g.nodes g.out) else []))] []

theorem LivR_ok {gv : Gv} (hok : gv.ok) (hn : Row h gv.p (nflat gv.ns)) (hr : (nrows gv.ns).P h) (hl : gv.l < 2 ^ 20) (hs : ∀ n ∈ gv.ns, n.inn.l < 2 ^ 40 ∧ n.weights.l < 2 ^ 62 ∧ n.bias.l < 2 ^ 62) :
    callP P n_ref21_Live #[gv.v] h (LivQ gv.gr h) := by
  refine call_ref21_Live _ ?_
  unfold ref21_Live
  have hgl := hok.1
  have hgn : gv.gr.nodes.length = gv.l := by rw [← hgl]; simp [Gv.gr]
  have S := ((Sep.start h no).read (row gv.p (nflat gv.ns)) hn).read (nrows gv.ns) hr
  refine newI_S (cs := gv.cells) S fun b1 h1 _ S => ?_
  dsimp only [List.nil_append, List.cons_append] at S
  refine ldAg_S S 0 rfl (x := gv.t) rfl ?_
  refine (Look16_ok hok (S.row 0 rfl) (S.r 1 _ rfl) hl hs).mono ?_
  rintro _ h3 ⟨o, w, r, rfl, _, _, _, _, _, _, S1⟩
  replace S := S.add S1 fun _ _ h => h
  dsimp only [List.cons_append, List.nil_append] at S
  refine ⟨_, _, _, _, _, _, _, _, _, _, rfl, ifB_bne (fun he => ?_) (fun he => ?_)⟩
  · refine ⟨none, 0, 0, rfl, ?_⟩
    rw [if_neg he]
    exact ⟨rfl, pushRow (noR (S.pw [])) none⟩
  · have e0 : gv.gr.look.e = 0 := he
    obtain ⟨rk, o1, o2, n1, n12, one, _⟩ := look_inv e0
    refine ldAg_S S 0 rfl (x := gv.t) rfl ?_
    refine (live21_ok hok (S.row 0 rfl) (S.r 1 _ rfl) hl (fun n hn => (hs n hn).1) rk.Inn ⟨by have : 1 ≤ gv.out := o1; omega, by rw [← hgn]; exact o2⟩).mono ?_
    rintro _ h4 ⟨b, rfl, S2⟩
    have el : liveR gv.gr.nodes gv.out gv.l = boolsM gv.gr.nodes.length (liveM gv.gr.nodes gv.gr.out) := by rw [← hgn]; exact liveR_eq (look_finv e0)
    rw [el] at S2
    replace S := S.add S2 fun _ _ h => h
    dsimp only [List.cons_append, List.nil_append] at S
    refine ⟨_, _, _, rfl, _, _, _, rfl, ?_⟩
    rw [if_pos e0]
    refine ⟨by rw [boolsM_length, hgn], ?_⟩
    have S3 := noR (S.pw [4])
    exact S3.turn 0 rfl (row (some ⟨b, 0, none⟩) _) (fun hh => Row.of_at hh) fun b' hb => by obtain ⟨_, a, ha, hb⟩ := hb; cases ha; exact hb.symm

theorem filter_lt {α : Type} {p q : α → Bool} (hq : ∀ x, q x = true → p x = true) : ∀ l : List α, (l.filter q).length ≤ (l.filter p).length ∧ ∀ x ∈ l, p x = true → q x = false → (l.filter q).length < (l.filter p).length
  | [] => ⟨Nat.le_refl _, by simp⟩
  | a :: r => by
    have ih := filter_lt hq r
    rw [List.filter_cons, List.filter_cons]
    have e1 : (if q a = true then a :: r.filter q else r.filter q).length = (r.filter q).length + if q a = true then 1 else 0 := by split <;> rfl
    have e2 : (if p a = true then a :: r.filter p else r.filter p).length = (r.filter p).length + if p a = true then 1 else 0 := by split <;> rfl
    rw [e1, e2]
    have i1 := ih.1
    refine ⟨?_, fun x hx hp hn => ?_⟩
    · by_cases h : q a = true
      · rw [if_pos h, if_pos (hq a h)]; omega
      · rw [if_neg h]; split <;> omega
    · rcases List.mem_cons.1 hx with rfl | hx
      · rw [if_neg (by rw [hn]; simp), if_pos hp]; omega
      · have := ih.2 x hx hp hn
        by_cases h : q a = true
        · rw [if_pos h, if_pos (hq a h)]; omega
        · rw [if_neg h]; split <;> omega

theorem FInv.range {ns : List Nd} {out : Int} {M : LM} {pos : Int → Nat} (I : FInv ns out M pos) {x : Int} (h : (M x).isSome) : 0 ≤ x ∧ x ≤ (ns.length : Int) := by
  have := (I.lv x).1 h
  induction this with
  | out => exact ⟨by have := I.out1; omega, I.outn⟩
  | @inn i n j _ en hj _ => exact I.ranked.Inn n (List.mem_of_getElem? en) j hj

theorem nodup_born : ∀ {l : List MapEntry} {x y : MapEntry}, (l.map (·.born)).Nodup → x ∈ l → y ∈ l → x.born = y.born → x = y
  | [], _, _, _, h, _, _ => by simp at h
  | a :: r, x, y, hn, hx, hy, e => by
    rw [List.map_cons, List.nodup_cons] at hn
    have key : ∀ z ∈ r, z.born ≠ a.born := fun z hz ez => hn.1 (List.mem_map.2 ⟨z, hz, ez⟩)
    rcases List.mem_cons.1 hx with h1 | h1
    · rcases List.mem_cons.1 hy with h2 | h2
      · rw [h1, h2]
      · exact absurd (by rw [← e, h1]) (key y h2)
    · rcases List.mem_cons.1 hy with h2 | h2
      · exact absurd (by rw [e, h2]) (key x h1)
      · exact nodup_born hn.2 h1 h2 e

theorem LivP_ok (hS : SortedSpec) {gv : Gv} (hok : gv.ok) (hn : Row h gv.p (nflat gv.ns)) (hr : (nrows gv.ns).P h) (hl : gv.l < 2 ^ 20) (hs : ∀ n ∈ gv.ns, n.inn.l < 2 ^ 40 ∧ n.weights.l < 2 ^ 62 ∧ n.bias.l < 2 ^ 62) (hT : KT h) :
    callP P n_fuse_Live #[gv.v] h (LivQ gv.gr h) := by
  refine call_fuse_Live _ ?_
  unfold fuse_Live
  have hgl := hok.1
  have hgn : gv.gr.nodes.length = gv.l := by rw [← hgl]; simp [Gv.gr]
  have S := (((Sep.start h no).read (row gv.p (nflat gv.ns)) hn).read (nrows gv.ns) hr).read (blk 0 (ints kindTab)) hT
  refine newI_S (cs := gv.cells) S fun b1 h1 _ S => ?_
  dsimp only [List.nil_append, List.cons_append] at S
  refine ldAg_S S 0 rfl (x := gv.t) rfl ?_
  refine (GCheck_ok hok (S.row 0 rfl) (S.r 1 _ rfl) hl hs (S.r 2 _ rfl)).mono ?_
  rintro _ h3 ⟨rfl, F⟩
  replace S := S.fra0 F
  refine ⟨_, rfl, ifB_bne (fun he => ?_) (fun he => ?_)⟩
  · refine ⟨none, 0, 0, rfl, ?_⟩
    rw [if_neg he]
    exact ⟨rfl, pushRow (noR (S.pw [])) none⟩
  · have e0 : gv.gr.look.e = 0 := he
    obtain ⟨rk, o1, o2, n1, n12, one, _⟩ := look_inv e0
    have I := look_finv e0
    refine ldSlice_i (p := gv.p) (l := gv.l) (c := gv.c) (S.cell 0 rfl rfl) ?_
    have ew : IntKind.wrap .i64 ((gv.l : Int) + 1) = ((gv.l + 1 : Nat) : Int) := by rw [wrap64_in (by omega)]; omega
    rw [ew]
    simp only [Int.toNat_natCast]
    refine mkI_S S (gv.l + 1) rfl rfl rfl (by decide) (by omega) (by omega) fun b7 h8 _ S => ?_
    have ezero : (List.replicate (gv.l + 1) [Value.bool false]).flatten = bls (List.replicate (gv.l + 1) false) := by rw [repl_one]; simp [bls]
    rw [ezero] at S
    dsimp only [List.cons_append, List.nil_append] at S
    refine ldAg_S S 0 rfl (x := gv.t) rfl ?_
    refine (live_ok hS hok (S.row 0 rfl) (S.r 1 _ rfl) hl rk (posG_le _) ⟨o1, by rw [← hgn]; exact o2⟩).mono ?_
    rintro _ h9 ⟨r, rfl, S1⟩
    replace S := S.add S1 fun _ _ h => h
    dsimp only [List.cons_append, List.nil_append] at S
    refine ⟨_, rfl, ?_⟩
    refine rangeB_S S 2 rfl fun b13 h12 es c m S => ?_
    dsimp only [List.set, List.cons_append, List.nil_append] at S
    obtain ⟨M, eM⟩ : ∃ M, liveM gv.gr.nodes gv.gr.out = M := ⟨_, rfl⟩
    have eM' : liveM gv.gr.nodes gv.out = M := eM
    rw [eM'] at m
    have goalE : LivQ gv.gr h = fun v h' => ∃ (p : Option Addr) (l c : Nat), v = .slice p l c ∧ (boolsM gv.gr.nodes.length M).length = l ∧ Sep h no h' [row p (bls (boolsM gv.gr.nodes.length M))] [] := by
      unfold LivQ; rw [if_pos e0, eM]
    rw [goalE]
    rw [eM] at I
    refine LoopS_i (fun mm s g => ∃ (seen : Array Nat) (X : List Bool), s = ((some ⟨b7, 0, none⟩, gv.l + 1, gv.l + 1), ⟨b13, 0, none⟩, ()) ∧ mm = (es.toList.filter fun e => !seen.contains e.born).length ∧ X.length = gv.l + 1 ∧
      (∀ x : Nat, X[x]? = some true ↔ ∃ e ∈ es.toList, seen.contains e.born = true ∧ e.key = .int .i64 (x : Int)) ∧
      Sep h no g [blk b1 gv.cells, blk b7 (bls X), obj r (.map es c), obj b13 (.mapIter (some r) c seen c)] [row gv.p (nflat gv.ns), nrows gv.ns, blk 0 (ints kindTab)]) (es.toList.filter fun e => !(#[] : Array Nat).contains e.born).length
      ⟨#[], _, rfl, rfl, by rw [List.length_replicate], fun x => ?_, S⟩ ?_
    · constructor
      · intro hx
        rw [List.getElem?_replicate] at hx
        split at hx <;> simp at hx
      · rintro ⟨e, _, h2, _⟩
        simp at h2
    clear S S1
    rintro mm s g ⟨seen, X, rfl, rfl, hXl, hX, S⟩
    unfold fuse_Live_l5
    dsimp only
    refine nextB_S S 2 3 rfl rfl m (fun hall => ?_) (fun e g2 he hs2 S => ?_)
    · refine ifB_false rfl ⟨_, _, _, rfl, by rw [boolsM_length, hgn], ?_⟩
      have eX : X = boolsM gv.gr.nodes.length M := by
        apply List.ext_getElem?
        intro x
        by_cases hx : x ≤ gv.gr.nodes.length
        · rw [boolsM_get hx, List.getElem?_eq_getElem (by omega)]
          have h1 := hX x
          rw [List.getElem?_eq_getElem (by omega)] at h1
          have h2 : X[x] = true ↔ (M (x : Int)).isSome = true := by
            constructor
            · intro hx
              obtain ⟨e, he, _, hk⟩ := h1.1 (by rw [hx])
              have := (m.mem (n := (x : Int)) (v := e.val)).2 ⟨e, he, hk, rfl⟩
              cases eM2 : M (x : Int) with
              | some _ => rfl
              | none =>
                have h0 : lM M (x : Int) = none := by unfold lM; rw [eM2]; rfl
                rw [h0] at this; cases this
            · intro hx
              obtain ⟨k, hk⟩ := Option.isSome_iff_exists.1 hx
              obtain ⟨e, he, hk2, _⟩ := (m.mem (n := (x : Int)) (v := .int .i64 k)).1 (by unfold lM; rw [hk]; rfl)
              exact Option.some.inj (h1.2 ⟨e, he, hall e he, hk2⟩)
          congr 1
          exact Bool.eq_iff_iff.2 h2
        · rw [List.getElem?_eq_none (by omega), List.getElem?_eq_none (by rw [boolsM_length]; omega)]
      rw [← eX]
      have S3 := noR (S.pw [1])
      exact S3.turn 0 rfl (row (some ⟨b7, 0, none⟩) _) (fun hh => Row.of_at hh) fun b' hb => by obtain ⟨_, a, ha, hb⟩ := hb; cases ha; exact hb.symm
    · dsimp only [List.set] at S
      refine ifB_true rfl ?_
      obtain ⟨a, ea⟩ := m.all e he
      have hMa : (M a).isSome := by
        have := (m.mem (n := a) (v := e.val)).2 ⟨e, he, ea, rfl⟩
        cases eM2 : M a with
        | some _ => rfl
        | none =>
          have h0 : lM M a = none := by unfold lM; rw [eM2]; rfl
          rw [h0] at this; cases this
      have ra := I.range hMa
      rw [hgn] at ra
      have hfind : es.find? (fun x => x.born == e.born) = some e := by
        rw [← Array.find?_toList]
        obtain ⟨l1, l2, e12⟩ := List.append_of_mem he
        have hnd := m.nodup
        rw [e12] at hnd ⊢
        rw [List.find?_append, List.find?_cons_of_pos (by simp)]
        have : l1.find? (fun x => x.born == e.born) = none := List.find?_eq_none.2 fun x hx => by
          intro hxe
          have hxe : x.born = e.born := by simpa using hxe
          rw [List.map_append, List.nodup_append] at hnd
          exact hnd.2.2 x.born (List.mem_map_of_mem hx) e.born (by simp) hxe
        rw [this]; rfl
      refine ⟨rfl, r, c, seen.push e.born, c, es, S.w 3 _ rfl, S.w 2 _ rfl, e.born, e, a, by simp, hfind, ea, ?_⟩
      refine idxI_i rfl (k := a.toNat) (by omega) (by omega) ?_
      simp only [add_mk, Nat.zero_add, Nat.mul_one]
      refine stI_S S 1 rfl (by rw [bls_length]; omega) fun g3 _ S => ?_
      rw [bls_set] at S
      dsimp only [List.set] at S
      have hcont : ∀ b : Nat, (seen.push e.born).contains b = true ↔ seen.contains b = true ∨ b = e.born := fun b => by simp
      refine ⟨_, ?_, seen.push e.born, X.set a.toNat true, by trivial, rfl, by rw [List.length_set]; exact hXl, fun x => ?_, S⟩
      · refine (filter_lt (p := fun x : MapEntry => !seen.contains x.born) (q := fun x : MapEntry => !(seen.push e.born).contains x.born) (fun x hx => ?_) es.toList).2 e he (by rw [hs2]; rfl) (by
          have := (hcont e.born).2 (.inr rfl)
          rw [this]; rfl)
        cases hc : seen.contains x.born with
        | false => rfl
        | true =>
          have := (hcont x.born).2 (.inl hc)
          rw [this] at hx; cases hx
      · by_cases hxa : a.toNat = x
        · rw [hxa, List.getElem?_set_self (by omega)]
          constructor
          · intro _
            exact ⟨e, he, (hcont _).2 (.inr rfl), by rw [ea, ← hxa]; congr 1; omega⟩
          · intro _; rfl
        · rw [List.getElem?_set_ne hxa, hX x]
          constructor
          · rintro ⟨e', h1, h2, h3⟩
            exact ⟨e', h1, (hcont _).2 (.inl h2), h3⟩
          · rintro ⟨e', h1, h2, h3⟩
            rcases (hcont _).1 h2 with h2 | h2
            · exact ⟨e', h1, h2, h3⟩
            · exfalso
              have : e' = e := by
                exact nodup_born m.nodup h1 he h2
              subst this
              rw [ea] at h3
              injection h3 with _ h3
              omega
end
end Go.Proofs.YtbgplllcjhgdhaaDoor.G
end

section
/- Contracts: the document's fuse: user, takes. -/
namespace Go.Proofs.YtbgplllcjhgdhaaDoor.G
open Go Go.Sh
set_option linter.unusedVariables false
set_option linter.unusedSimpArgs false

section
variable {h : Heap}

theorem user21_ok {gv : Gv} (hok : gv.ok) (hn : Row h gv.p (nflat gv.ns)) (hr : (nrows gv.ns).P h) (hl : gv.l < 2 ^ 20) (hs : ∀ n ∈ gv.ns, n.inn.l < 2 ^ 40) {M : LM} {lp : Option Addr} {ll lc : Nat} (hL : Row h lp (bls (boolsM gv.l M))) (hll : ll = gv.l + 1) (a : Int) :
    callP P n_ref21_user #[gv.v, .slice lp ll lc, .int .i64 a] h fun v h' => v = .int .i64 (userR gv.gr.nodes M a) ∧ Fra no h h' := by
  subst hll
  refine call_ref21_user _ _ _ _ _ ?_
  unfold ref21_user
  have hgl := hok.1
  have hgn : gv.gr.nodes.length = gv.l := by rw [← hgl]; simp [Gv.gr]
  obtain ⟨nds, ends⟩ : ∃ nds, gv.gr.nodes = nds := ⟨_, rfl⟩
  have ends' : gv.ns.map Nv.nd = nds := ends
  rw [ends] at hgn ⊢
  have S := (((Sep.start h no).read (row gv.p (nflat gv.ns)) hn).read (nrows gv.ns) hr).read (row lp (bls (boolsM gv.l M))) hL
  refine newI_S (cs := gv.cells) S fun b1 h1 _ S => ?_
  dsimp only [List.nil_append, List.cons_append] at S
  refine LoopS_i (fun mm s g => ∃ t : Nat, s = ((lp, gv.l + 1, lc), a, ⟨b1, 0, none⟩, userTo nds M a t, ((manyTo nds M a t : Nat) : Int), (t : Int) + 1, ()) ∧ t ≤ gv.l ∧ mm = gv.l - t ∧
    Sep h no g [blk b1 gv.cells] [row gv.p (nflat gv.ns), nrows gv.ns, row lp (bls (boolsM gv.l M))]) gv.l ⟨0, rfl, by omega, rfl, S⟩ ?_
  clear S
  rintro mm s g ⟨t, rfl, ht, rfl, S⟩
  unfold ref21_user_l4
  simp only [add_mk, Nat.zero_add]
  refine ldSlice_i (p := gv.p) (l := gv.l) (c := gv.c) (S.cell 0 rfl rfl) ?_
  have hmt := manyTo_le nds M a t
  refine ifB_dec (fun hlt => ?_) (fun hge => ?_)
  · have htg : t < gv.ns.length := by omega
    obtain ⟨nv, en⟩ : ∃ n, gv.ns[t]? = some n := ⟨_, List.getElem?_eq_getElem htg⟩
    have hmem := List.mem_of_getElem? en
    have nok := hok.2.2 nv hmem
    have ilen : nv.inn.xs.length = nv.inn.l := nok.1.1
    have hsz := hs nv hmem
    have endt : nds[t]? = some nv.nd := by rw [← ends', List.getElem?_map, en]; rfl
    refine ldSlice_i (p := gv.p) (l := gv.l) (c := gv.c) (S.cell 0 rfl rfl) ?_
    have et : IntKind.wrap .i64 ((t : Int) + 1 - 1) = (t : Int) := by rw [wrap64_in (by omega)]; omega
    have et2 : IntKind.wrap .i64 ((t : Int) + 1 + 1) = ((t + 1 : Nat) : Int) + 1 := by rw [wrap64_in (by omega)]; rfl
    rw [et]
    obtain ⟨q, ea⟩ := (S.row 0 rfl).some_of (by rw [nflat_length]; omega)
    have hrow : Row g (some q) (nflat gv.ns) := by rw [← ea]; exact S.row 0 rfl
    have hcell : cellH g ((q.add (t * 15)).add 1) = some nv.inn.v := by
      have := hrow.cell (i := t * 15 + 1) (v := nv.inn.v) (by rw [nflat_at en (by decide)]; rfl)
      rw [add_add _ _ (by decide)]; exact this
    refine idxI_i ea rfl (by omega) ?_
    simp only [Int.toNat_natCast]
    refine ldSlice_i (p := nv.inn.p) (l := nv.inn.l) (c := nv.inn.c) hcell ?_
    have eu : userTo nds M a (t + 1) = if (M ((t : Int) + 1)).isSome ∧ a ∈ nv.inn.xs then (t : Int) + 1 else userTo nds M a t := by
      conv => lhs; unfold userTo
      rw [endt]; rfl
    have em : manyTo nds M a (t + 1) = if (M ((t : Int) + 1)).isSome ∧ a ∈ nv.inn.xs then manyTo nds M a t + 1 else manyTo nds M a t := by
      conv => lhs; unfold manyTo
      rw [endt]; rfl
    refine LoopS_i (fun mm s g => ∃ j : Nat, s = ((lp, gv.l + 1, lc), a, ⟨b1, 0, none⟩, userTo nds M a t, ((manyTo nds M a t : Nat) : Int), (t : Int) + 1, (nv.inn.p, nv.inn.l, nv.inn.c), decide (a ∈ nv.inn.xs.take j), (j : Int), ()) ∧ j ≤ nv.inn.l ∧ mm = nv.inn.l - j ∧
      Sep h no g [blk b1 gv.cells] [row gv.p (nflat gv.ns), nrows gv.ns, row lp (bls (boolsM gv.l M))]) nv.inn.l ⟨0, rfl, by omega, rfl, S⟩ ?_
    clear S hrow hcell
    rintro mm s g ⟨j, rfl, hj, rfl, S⟩
    unfold ref21_user_l9
    dsimp only
    have ej : IntKind.wrap .i64 ((j : Int) + 1) = ((j + 1 : Nat) : Int) := by rw [wrap64_in (by omega)]; rfl
    refine ifB_dec (fun hlt3 => ?_) (fun hge3 => ?_)
    · have hjx : j < nv.inn.xs.length := by omega
      have htk : nv.inn.xs.take (j + 1) = nv.inn.xs.take j ++ [nv.inn.xs[j]] := List.take_succ_eq_append_getElem hjx
      rw [ej]
      refine ifB_dec (fun hb => ?_) (fun hb => ?_)
      · have : decide (a ∈ nv.inn.xs.take (j + 1)) = true := decide_eq_true (by rw [htk]; exact List.mem_append_left _ hb)
        exact ⟨nv.inn.l - (j + 1), by omega, j + 1, by rw [this], by omega, rfl, S⟩
      · have irow : Row g nv.inn.p (ints nv.inn.xs) := S.r 1 _ rfl _ (List.mem_map_of_mem hmem) nv.inn.row (by simp)
        obtain ⟨aa, eaa⟩ := irow.some_of (by rw [ints_length]; omega)
        rw [eaa] at irow
        refine idxI_i eaa rfl (by omega) ?_
        simp only [Int.toNat_natCast, Nat.mul_one]
        refine ldInt_i (irow.cell (ints_get (List.getElem?_eq_getElem hjx))) ?_
        have : decide (a ∈ nv.inn.xs.take (j + 1)) = (nv.inn.xs[j] == a) := by
          rw [Bool.eq_iff_iff, decide_eq_true_iff, beq_iff_eq, htk, List.mem_append, List.mem_singleton]
          constructor
          · rintro (h | h)
            · exact absurd h hb
            · exact h.symm
          · intro h; exact .inr h.symm
        exact ⟨nv.inn.l - (j + 1), by omega, j + 1, by rw [this], by omega, rfl, S⟩
    · have hall : nv.inn.xs.take j = nv.inn.xs := List.take_of_length_le (by omega)
      rw [hall]
      have lrow := S.row 2 rfl
      obtain ⟨la, ela⟩ := lrow.some_of (by rw [bls_length, boolsM_length]; omega)
      rw [ela] at lrow
      refine idxI_i ela (k := t + 1) (by omega) (by omega) ?_
      rw [show ((t : Int) + 1).toNat = t + 1 by omega, Nat.mul_one]
      refine ldBool_i (lrow.cell (bls_get (boolsM_get (by omega)))) ?_
      rw [et2]
      have ec : (((t + 1 : Nat) : Int)) = (t : Int) + 1 := rfl
      rw [ec]
      refine ifB_known (fun hb => ?_) (fun hb => ?_)
      · refine ifB_dec (fun ho => ?_) (fun ho => ?_)
        · have ew : IntKind.wrap .i64 (((manyTo nds M a t : Nat) : Int) + 1) = ((manyTo nds M a t + 1 : Nat) : Int) := by rw [wrap64_in (by omega)]; rfl
          rw [ew]
          exact ⟨gv.l - (t + 1), by omega, t + 1, by rw [eu, em, if_pos ⟨hb, ho⟩, if_pos ⟨hb, ho⟩]; rfl, by omega, rfl, S⟩
        · exact ⟨gv.l - (t + 1), by omega, t + 1, by rw [eu, em, if_neg (fun h => ho h.2), if_neg (fun h => ho h.2)]; rfl, by omega, rfl, S⟩
      · exact ⟨gv.l - (t + 1), by omega, t + 1, by rw [eu, em, if_neg (fun h => by rw [hb] at h; cases h.1), if_neg (fun h => by rw [hb] at h; cases h.1)]; rfl, by omega, rfl, S⟩
  · have : t = gv.l := by omega
    subst this
    have e1 : userR nds M a = if manyTo nds M a gv.l = 1 then userTo nds M a gv.l else 0 := by unfold userR userOf; rw [hgn]
    refine ifB_bne (fun hne => ⟨?_, S.fra⟩) (fun he => ⟨?_, S.fra⟩)
    · rw [e1, if_neg (by omega)]
    · rw [e1, if_pos (by omega)]

theorem takes21_ok {gv : Gv} (hok : gv.ok) (hn : Row h gv.p (nflat gv.ns)) (hr : (nrows gv.ns).P h) (hl : gv.l < 2 ^ 20) (hs : ∀ n ∈ gv.ns, n.inn.l < 2 ^ 40) {M : LM} {lp : Option Addr} {ll lc : Nat} (hL : Row h lp (bls (boolsM gv.l M))) (hll : ll = gv.l + 1) {i : Nat} (hi : i < gv.l) :
    callP P n_ref21_takes #[gv.v, .slice lp ll lc, .int .i64 ((i : Int) + 1)] h fun v h' => v = .int .i64 (takesR gv.gr.nodes gv.out M ((i : Int) + 1)) ∧ Fra no h h' := by
  refine call_ref21_takes _ _ _ _ _ ?_
  unfold ref21_takes
  have hgl := hok.1
  have hgn : gv.gr.nodes.length = gv.l := by rw [← hgl]; simp [Gv.gr]
  obtain ⟨nds, ends⟩ : ∃ nds, gv.gr.nodes = nds := ⟨_, rfl⟩
  have ends' : gv.ns.map Nv.nd = nds := ends
  rw [ends] at hgn ⊢
  have S := (((Sep.start h no).read (row gv.p (nflat gv.ns)) hn).read (nrows gv.ns) hr).read (row lp (bls (boolsM gv.l M))) hL
  refine newI_S (cs := gv.cells) S fun b1 h1 _ S => ?_
  dsimp only [List.nil_append, List.cons_append] at S
  refine ldSlice_i (p := gv.p) (l := gv.l) (c := gv.c) (S.cell 0 rfl rfl) ?_
  have et : IntKind.wrap .i64 ((i : Int) + 1 - 1) = (i : Int) := by rw [wrap64_in (by omega)]; omega
  rw [et]
  obtain ⟨q, ea⟩ := (S.row 0 rfl).some_of (by rw [nflat_length]; omega)
  have hrow : ∀ {g : Heap} {W : List Fact}, Sep h no g W [row gv.p (nflat gv.ns), nrows gv.ns, row lp (bls (boolsM gv.l M))] → Row g (some q) (nflat gv.ns) := fun S => by rw [← ea]; exact S.row 0 rfl
  obtain ⟨nv, en⟩ : ∃ n, gv.ns[i]? = some n := ⟨_, List.getElem?_eq_getElem (by omega)⟩
  have endt : nds[i]? = some nv.nd := by rw [← ends', List.getElem?_map, en]; rfl
  refine idxI_i ea rfl (by omega) ?_
  simp only [Int.toNat_natCast]
  refine ldNode (hrow S) en ?_
  refine newI_S S fun b6 g2 _ S => ?_
  dsimp only [List.cons_append, List.nil_append] at S
  refine stL_S S 1 rfl rfl (mkS_one rfl) fun g3 _ S => ?_
  dsimp only [List.set] at S
  have eT : takesR nds gv.out M ((i : Int) + 1) = if wei nv.kind ∧ (M ((i : Int) + 1)).isSome ∧ ((i : Int) + 1) ≠ gv.out ∧ userR nds M ((i : Int) + 1) ≠ 0 then
      match nds[(userR nds M ((i : Int) + 1) - 1).toNat]? with
      | none => 0
      | some x => if (tkN nv.nd x).isSome then userR nds M ((i : Int) + 1) else 0
    else 0 := by
    unfold takesR
    rw [show ((i : Int) + 1 - 1).toNat = i by omega, endt]; rfl
  generalize hT : takesR nds gv.out M ((i : Int) + 1) = T at eT ⊢
  refine ⟨fun s g => s = ((lp, ll, lc), (i : Int) + 1, ⟨b1, 0, none⟩, ⟨b6, 0, none⟩, decide (wei nv.kind), ()) ∧ Sep h no g [blk b1 gv.cells, blk b6 nv.cells] [row gv.p (nflat gv.ns), nrows gv.ns, row lp (bls (boolsM gv.l M))], ?_, ?_⟩
  · clear S
    rintro s g ⟨rfl, S⟩
    unfold ref21_takes_j3
    dsimp only
    refine ldAg_S S 0 rfl (x := gv.t) rfl ?_
    refine (user21_ok hok (S.row 0 rfl) (S.r 1 _ rfl) hl hs (S.row 2 rfl) hll ((i : Int) + 1)).mono ?_
    rintro _ h4 ⟨rfl, F⟩
    replace S := S.fra0 F
    rw [ends]
    refine ⟨_, rfl, ?_⟩
    have hur : 0 ≤ userR nds M ((i : Int) + 1) ∧ userR nds M ((i : Int) + 1) ≤ (nds.length : Int) := by
      unfold userR
      split
      · exact userOf_range
      · omega
    obtain ⟨u, eu⟩ : ∃ u, userR nds M ((i : Int) + 1) = u := ⟨_, rfl⟩
    rw [eu] at eT hur ⊢
    have none0 : ∀ {g : Heap}, Sep h no g [blk b1 gv.cells, blk b6 nv.cells] [row gv.p (nflat gv.ns), nrows gv.ns, row lp (bls (boolsM gv.l M))] → ¬ (wei nv.kind ∧ (M ((i : Int) + 1)).isSome ∧ ((i : Int) + 1) ≠ gv.out ∧ u ≠ 0) → Value.int .i64 0 = .int .i64 T ∧ Fra no h g := fun S hc => ⟨by rw [eT, if_neg hc], S.fra⟩
    refine ⟨fun s g => s = (⟨b1, 0, none⟩, ⟨b6, 0, none⟩, u, ()) ∧ (wei nv.kind ∧ (M ((i : Int) + 1)).isSome ∧ ((i : Int) + 1) ≠ gv.out ∧ u ≠ 0) ∧ Sep h no g [blk b1 gv.cells, blk b6 nv.cells] [row gv.p (nflat gv.ns), nrows gv.ns, row lp (bls (boolsM gv.l M))], ?_, ?_⟩
    · clear S
      rintro s g ⟨rfl, hc, S⟩
      unfold ref21_takes_j6
      simp only [add_mk, Nat.zero_add]
      refine ldSlice_i (p := gv.p) (l := gv.l) (c := gv.c) (S.cell 0 rfl rfl) ?_
      obtain ⟨w, ew⟩ : ∃ w : Nat, u = (w : Int) + 1 := ⟨(u - 1).toNat, by have := hc.2.2.2; omega⟩
      have hw : w < gv.l := by omega
      obtain ⟨nu, enu⟩ : ∃ n, gv.ns[w]? = some n := ⟨_, List.getElem?_eq_getElem (by omega)⟩
      have endw : nds[w]? = some nu.nd := by rw [← ends', List.getElem?_map, enu]; rfl
      rw [if_pos hc, ew, show ((w : Int) + 1 - 1).toNat = w by omega, endw] at eT
      dsimp only at eT
      rw [ew]
      have ew2 : IntKind.wrap .i64 ((w : Int) + 1 - 1) = (w : Int) := by rw [wrap64_in (by omega)]; omega
      rw [ew2]
      refine idxI_i ea rfl (by omega) ?_
      simp only [Int.toNat_natCast]
      have hk : cellH g (q.add (w * 15)) = some (.int .i64 nu.kind) := (hrow S).cell (i := w * 15) (by have := nflat_at enu (show 0 < 15 by decide); rw [Nat.add_zero] at this; rw [this]; rfl)
      have hk9 : nu.nd.kind = nu.kind := rfl
      have hpo : nv.nd.post = nv.post := rfl
      have ldp : cellH g ⟨b6, 14, none⟩ = some (.int .i64 nv.post) := S.cell 1 rfl rfl
      have yes : (nu.kind = 10 ∧ nv.post = 0 ∨ nu.kind = 9 ∧ andI .i64 nv.post 2 = 0) → Value.int .i64 ((w : Int) + 1) = .int .i64 T ∧ Fra no h g := fun hh => by
        have : (tkN nv.nd nu.nd).isSome = true := by
          unfold tkN
          rw [hk9, hpo]
          split
          · rfl
          · rename_i h1
            rw [if_pos (by rcases hh with hh | hh; exact absurd hh h1; exact hh)]; rfl
        rw [this] at eT
        exact ⟨by rw [eT]; rfl, S.fra⟩
      have nay : ¬ (nu.kind = 10 ∧ nv.post = 0 ∨ nu.kind = 9 ∧ andI .i64 nv.post 2 = 0) → Value.int .i64 0 = .int .i64 T ∧ Fra no h g := fun hh => by
        have : (tkN nv.nd nu.nd).isSome = false := by
          unfold tkN
          rw [hk9, hpo, if_neg (fun h => hh (.inl h)), if_neg (fun h => hh (.inr h))]; rfl
        rw [this] at eT
        exact ⟨by rw [eT]; rfl, S.fra⟩
      refine ldInt_i hk (ifB_beq (fun h10 => ?_) (fun h10 => ?_))
      · refine ldInt_i ldp (ifB_beq (fun h0 => yes (.inl ⟨h10, h0⟩)) (fun h0 => ifB_beq (fun h9 => by omega) (fun h9 => nay ?_)))
        rintro (hh | hh)
        · exact h0 hh.2
        · exact h9 hh.1
      · refine ifB_beq (fun h9 => ldInt_i ldp (ifB_beq (fun h0 => yes (.inr ⟨h9, h0⟩)) (fun h0 => nay ?_))) (fun h9 => nay ?_)
        · rintro (hh | hh)
          · exact h10 hh.1
          · exact h0 hh.2
        · rintro (hh | hh)
          · exact h10 hh.1
          · exact h9 hh.1
    · refine ifB_not (ifB_dec (fun hw => ?_) (fun hw => none0 S fun h => hw h.1))
      have lrow := S.row 2 rfl
      obtain ⟨la, ela⟩ := lrow.some_of (by rw [bls_length, boolsM_length]; omega)
      rw [ela] at lrow
      refine idxI_i ela (k := i + 1) (by omega) (by omega) ?_
      rw [show ((i : Int) + 1).toNat = i + 1 by omega, Nat.mul_one]
      refine ldBool_i (lrow.cell (bls_get (boolsM_get (by omega)))) ?_
      have ec : (((i + 1 : Nat) : Int)) = (i : Int) + 1 := rfl
      rw [ec]
      refine ifB_not (ifB_known (fun hb => ?_) (fun hb => none0 S fun h => by rw [hb] at h; cases h.2.1))
      refine ldInt_i (n := gv.out) (S.cell 0 rfl rfl) (ifB_beq (fun he => none0 S fun h => h.2.2.1 he) (fun he => ?_))
      refine ifB_beq (fun h0 => none0 S fun h => h.2.2.2 h0) (fun h0 => ?_)
      exact ⟨rfl, ⟨hw, hb, he, h0⟩, S⟩
  · refine ldInt_i (n := nv.kind) (S.cell 1 rfl rfl) (ifB_beq (fun h1 => ⟨by rw [decide_eq_true (.inl h1)], S⟩) (fun h1 => ?_))
    refine ldInt_i (n := nv.kind) (S.cell 1 rfl rfl) (ifB_beq (fun h2 => ⟨by rw [decide_eq_true (.inr (.inl h2))], S⟩) (fun h2 => ?_))
    refine ldInt_i (n := nv.kind) (S.cell 1 rfl rfl) ⟨?_, S⟩
    have : (nv.kind == 6) = decide (wei nv.kind) := by
      rw [Bool.eq_iff_iff, decide_eq_true_iff, beq_iff_eq]
      constructor
      · intro h; exact .inr (.inr h)
      · rintro (h | h | h)
        · exact absurd h h1
        · exact absurd h h2
        · exact h
    rw [this]
end
end Go.Proofs.YtbgplllcjhgdhaaDoor.G
end

section
/- Contracts: the document's fuse: taken. -/
namespace Go.Proofs.YtbgplllcjhgdhaaDoor.G
open Go Go.Sh
set_option linter.unusedVariables false
set_option linter.unusedSimpArgs false

/-- Weights, and biases, are those of these nodes. -/
def WB (ns0 ns : List Nv) : Prop := ∀ n ∈ ns, ∃ m ∈ ns0, n.weights = m.weights ∧ n.bias = m.bias
theorem nrowsWB {h : Heap} {ns0 ns : List Nv} (o : (owns (ns.map Nv.inn)).P h) (r : (nrows ns0).P h) (w : WB ns0 ns) : (nrows ns).P h := by
  rintro f hf
  obtain ⟨n, hn, rfl⟩ := List.mem_map.1 hf
  obtain ⟨m, hm, e1, e2⟩ := w n hn
  have hr := r _ (List.mem_map_of_mem hm)
  rintro f hf
  simp only [List.mem_cons, List.not_mem_nil, or_false] at hf
  rcases hf with rfl | rfl | rfl
  · exact owns_row o (List.mem_map_of_mem hn)
  · rw [e1]; exact hr m.weights.row (by simp)
  · rw [e2]; exact hr m.bias.row (by simp)
theorem WB.trans {a b c : List Nv} (h1 : WB a b) (h2 : WB b c) : WB a c := fun n hn => by
  obtain ⟨m, hm, e1, e2⟩ := h2 n hn
  obtain ⟨k, hk, e3, e4⟩ := h1 m hm
  exact ⟨k, hk, e1.trans e3, e2.trans e4⟩
theorem WB.refl (a : List Nv) : WB a a := fun n hn => ⟨n, hn, rfl, rfl⟩

/-- A graph that the document made. -/
def RefQ (g : Gr) (ns0 : List Nv) (h : Heap) (v : Value) (h' : Heap) : Prop :=
  ∃ gv' : Gv, v = gv'.v ∧ gv'.gr = g ∧ gv'.ok ∧ WB ns0 gv'.ns ∧ Sep h no h' [own 15 gv'.p gv'.l gv'.c (nflat gv'.ns), owns (gv'.ns.map Nv.inn)] []

def takenG (g : Gr) (i w : Nat) (a' : Nd) : Gr := { g with nodes := repN ((w : Int) + 1) ((i : Int) + 1) (g.nodes.set i a'), out := if g.out = (w : Int) + 1 then (i : Int) + 1 else g.out }

/-- Of a row, the first m turned. -/
def pmF1 (f : Int → Int) (xs : List Int) (m : Nat) : List Int := (xs.take m).map f ++ xs.drop m
theorem pmF1_zero (f : Int → Int) (xs : List Int) : pmF1 f xs 0 = xs := by simp [pmF1]
theorem pmF1_all (f : Int → Int) (xs : List Int) : pmF1 f xs xs.length = xs.map f := by simp [pmF1]
theorem pmF1_length (f : Int → Int) (xs : List Int) (m : Nat) : (pmF1 f xs m).length = xs.length := by unfold pmF1; simp; omega
theorem pmF1_get (f : Int → Int) {xs : List Int} {m : Nat} (hm : m < xs.length) : (pmF1 f xs m)[m]? = some xs[m] := by
  unfold pmF1
  rw [List.getElem?_append_right (by simp; omega), List.getElem?_drop]
  simp only [List.length_map, List.length_take]
  rw [show m + (m - min m xs.length) = m by omega, List.getElem?_eq_getElem hm]
theorem pmF1_set (f : Int → Int) {xs : List Int} {m : Nat} (hm : m < xs.length) : (pmF1 f xs m).set m (f xs[m]) = pmF1 f xs (m + 1) := by
  unfold pmF1
  rw [List.set_append_right _ _ (by simp; omega), List.length_map, List.length_take, Nat.min_eq_left (by omega), Nat.sub_self, List.drop_eq_getElem_cons hm, List.set_cons_zero, List.take_succ_eq_append_getElem hm, List.map_append, List.append_assoc]
  rfl
theorem pmF1_same (f : Int → Int) {xs : List Int} {m : Nat} (hm : m < xs.length) (h : f xs[m] = xs[m]) : pmF1 f xs m = pmF1 f xs (m + 1) := by
  rw [← pmF1_set f hm, h]
  have := pmF1_get f hm
  rw [List.getElem?_eq_getElem (by rw [pmF1_length]; exact hm)] at this
  have := Option.some.inj this
  rw [← this, List.set_getElem_self]

section
variable {h : Heap}

theorem taken21_ok {gv : Gv} (hok : gv.ok) (hn : Row h gv.p (nflat gv.ns)) (hr : (nrows gv.ns).P h) (hl : gv.l < 2 ^ 20) (hs : ∀ n ∈ gv.ns, n.inn.l < 2 ^ 40) {i w : Nat} {na nu : Nv} (ei : gv.ns[i]? = some na) (ew : gv.ns[w]? = some nu) {a' : Nd} (ht : tkN na.nd nu.nd = some a') :
    callP P n_ref21_taken #[gv.v, .int .i64 ((i : Int) + 1), .int .i64 ((w : Int) + 1)] h (RefQ (takenG gv.gr i w a') gv.ns h) := by
  refine call_ref21_taken _ _ _ ?_
  unfold ref21_taken
  have hgl := hok.1
  have hgn : gv.gr.nodes.length = gv.l := by rw [← hgl]; simp [Gv.gr]
  have hil : i < gv.l := by have := (List.getElem?_eq_some_iff.1 ei).1; omega
  have hwl : w < gv.l := by have := (List.getElem?_eq_some_iff.1 ew).1; omega
  obtain ⟨G', eG⟩ : ∃ G', takenG gv.gr i w a' = G' := ⟨_, rfl⟩
  have eGn : G'.nodes = repN ((w : Int) + 1) ((i : Int) + 1) (gv.gr.nodes.set i a') := by rw [← eG]; rfl
  have eGl : G'.nodes.length = gv.l := by rw [eGn, repN_length, List.length_set]; exact hgn
  have eGg : ∀ {t : Nat} {nv : Nv}, gv.ns[t]? = some nv → G'.nodes[t]? = some (if t = w then (if t = i then a' else nv.nd) else { (if t = i then a' else nv.nd) with inn := (if t = i then a' else nv.nd).inn.map (rep1 ((w : Int) + 1) ((i : Int) + 1)) }) := by
    intro t nv en
    have en' : gv.gr.nodes[t]? = some nv.nd := by show (gv.ns.map Nv.nd)[t]? = _; rw [List.getElem?_map, en]; rfl
    have e1 : (gv.gr.nodes.set i a')[t]? = some (if t = i then a' else nv.nd) := by
      by_cases h : i = t
      · subst h; rw [List.getElem?_set_self (by omega), if_pos rfl]
      · rw [List.getElem?_set_ne h, en', if_neg (Ne.symm h)]
    rw [eGn, repN_get, e1]
    simp only [Option.map_some]
    congr 1
    by_cases h : t = w
    · rw [if_pos (by omega), if_pos h]
    · rw [if_neg (by omega), if_neg h]
  have eGo : G' = { width := gv.width, low := gv.low, high := gv.high, nodes := G'.nodes, out := if gv.out = (w : Int) + 1 then (i : Int) + 1 else gv.out } := by rw [← eG]; rfl
  rw [eG]
  clear eG eGn
  have S := ((Sep.start h no).read (row gv.p (nflat gv.ns)) hn).read (nrows gv.ns) hr
  refine newI_S (cs := gv.cells) S fun b1 h1 _ S => ?_
  dsimp only [List.nil_append, List.cons_append] at S
  refine newI_S (cs := mkS' grSh (zT grSh)) S fun b3 h2 _ S => ?_
  dsimp only [List.nil_append, List.cons_append] at S
  refine ldInt_i (n := gv.width) (S.cell 0 rfl rfl) (ldInt_i (n := gv.low) (S.cell 0 rfl rfl) (ldInt_i (n := gv.high) (S.cell 0 rfl rfl) (ldInt_i (n := gv.out) (S.cell 0 rfl rfl) ?_)))
  refine newI_S (cs := mkS' grSh (zT grSh)) S fun b9 h10 _ S => ?_
  dsimp only [List.nil_append, List.cons_append] at S
  refine stL_S S 2 rfl rfl (mkS_one (l := grSh) (x := (⟨gv.width, gv.low, gv.high, none, 0, 0, gv.out, []⟩ : Gv).t) rfl) fun h11 _ S => ?_
  dsimp only [List.set] at S
  obtain ⟨o', eo'⟩ : ∃ o', (if gv.out = (w : Int) + 1 then (i : Int) + 1 else gv.out) = o' := ⟨_, rfl⟩
  rw [eo'] at eGo
  refine ⟨fun s g => s = ((i : Int) + 1, (w : Int) + 1, ⟨b1, 0, none⟩, ⟨b3, 0, none⟩, ⟨b9, 0, none⟩, ()) ∧ Sep h no g [blk b1 gv.cells, blk b3 (mkS' grSh (zT grSh)), blk b9 (⟨gv.width, gv.low, gv.high, none, 0, 0, o', []⟩ : Gv).cells] [row gv.p (nflat gv.ns), nrows gv.ns], ?_, ?_⟩
  · clear S
    rintro s g ⟨rfl, S⟩
    unfold ref21_taken_j4
    dsimp only
    replace S := owns0_S (S.nil 15)
    dsimp only [List.nil_append, List.cons_append] at S
    refine LoopS_i (fun mm s g => ∃ (t : Nat) (lp : Option Addr) (ll lc : Nat) (V : List Nv), s = ((i : Int) + 1, (w : Int) + 1, ⟨b1, 0, none⟩, ⟨b3, 0, none⟩, ⟨b9, 0, none⟩, (t : Int) + 1, ()) ∧ t ≤ gv.l ∧ mm = gv.l - t ∧ ll = t ∧ V.map Nv.nd = G'.nodes.take t ∧ (∀ n ∈ V, n.ok) ∧ WB gv.ns V ∧
      Sep h no g [blk b1 gv.cells, blk b3 (mkS' grSh (zT grSh)), blk b9 (⟨gv.width, gv.low, gv.high, lp, ll, lc, o', []⟩ : Gv).cells, own 15 lp ll lc (nflat V), owns (V.map Nv.inn)] [row gv.p (nflat gv.ns), nrows gv.ns]) gv.l
      ⟨0, none, 0, 0, [], rfl, by omega, rfl, rfl, rfl, by simp, (by intro n hn; cases hn), S⟩ ?_
    clear S
    rintro mm s g ⟨t, lp, ll, lc, V, rfl, htl, rfl, rfl, hV, hVo, hVw, S⟩
    unfold ref21_taken_l5
    simp only [add_mk, Nat.zero_add]
    refine ldSlice_i (p := gv.p) (l := gv.l) (c := gv.c) (S.cell 0 rfl rfl) ?_
    refine ifB_dec (fun hlt => ?_) (fun hge => ?_)
    · obtain ⟨nv, en⟩ : ∃ n, gv.ns[ll]? = some n := ⟨_, List.getElem?_eq_getElem (by omega)⟩
      have hmem := List.mem_of_getElem? en
      have nok := hok.2.2 nv hmem
      have hsz := hs nv hmem
      have hGt := eGg en
      have hVl : V.length = ll := by have := congrArg List.length hV; simp at this; omega
      have et : IntKind.wrap .i64 ((ll : Int) + 1 - 1) = (ll : Int) := by rw [wrap64_in (by omega)]; omega
      have et2 : IntKind.wrap .i64 ((ll : Int) + 1 + 1) = ((ll + 1 : Nat) : Int) + 1 := by rw [wrap64_in (by omega)]; rfl
      have ewr : IntKind.wrap .i64 ((w : Int) + 1 - 1) = (w : Int) := by rw [wrap64_in (by omega)]; omega
      rw [et, ewr]
      obtain ⟨q, ea⟩ := (S.row 0 rfl).some_of (by rw [nflat_length]; omega)
      have hrow : ∀ {g : Heap} {W : List Fact}, Sep h no g W [row gv.p (nflat gv.ns), nrows gv.ns] → Row g (some q) (nflat gv.ns) := fun S => by rw [← ea]; exact S.row 0 rfl
      refine ldSlice_i (p := gv.p) (l := gv.l) (c := gv.c) (S.cell 0 rfl rfl) (idxI_i ea rfl (by omega) ?_)
      simp only [Int.toNat_natCast]
      refine ldNode (hrow S) en ?_
      refine newI_S S fun b19 g2 _ S => ?_
      dsimp only [List.cons_append, List.nil_append] at S
      refine stL_S S 5 rfl rfl (mkS_one rfl) fun g3 _ S => ?_
      dsimp only [List.set] at S
      refine ldSlice_i (p := gv.p) (l := gv.l) (c := gv.c) (S.cell 0 rfl rfl) (idxI_i ea rfl (by omega) ?_)
      refine ldNode (hrow S) ew ?_
      refine newI_S S fun b25 g4 _ S => ?_
      dsimp only [List.cons_append, List.nil_append] at S
      refine stL_S S 6 rfl rfl (mkS_one rfl) fun g5 _ S => ?_
      dsimp only [List.set] at S
      obtain ⟨W0, eW0⟩ : ∃ W0 : List Fact, W0 = [blk b1 gv.cells, blk b3 (mkS' grSh (zT grSh)), blk b9 (⟨gv.width, gv.low, gv.high, lp, ll, lc, o', []⟩ : Gv).cells, own 15 lp ll lc (nflat V), owns (V.map Nv.inn)] := ⟨_, rfl⟩
      have hna : ll = i → nv = na := fun e => by subst e; rw [en] at ei; exact Option.some.inj ei
      have hk9 : nu.nd.kind = nu.kind := rfl
      have hpo : na.nd.post = na.post := rfl
      refine ⟨fun s g => s = ((i : Int) + 1, (w : Int) + 1, ⟨b1, 0, none⟩, ⟨b3, 0, none⟩, ⟨b9, 0, none⟩, (ll : Int) + 1, ⟨b19, 0, none⟩, ⟨b25, 0, none⟩, ()) ∧
        Sep h no g [blk b1 gv.cells, blk b3 (mkS' grSh (zT grSh)), blk b9 (⟨gv.width, gv.low, gv.high, lp, ll, lc, o', []⟩ : Gv).cells, own 15 lp ll lc (nflat V), owns (V.map Nv.inn), blk b19 (if ll = i ∧ nu.kind = 10 then tkV nv nu else nv).cells, blk b25 nu.cells] [row gv.p (nflat gv.ns), nrows gv.ns], ?_, ?_⟩
      · clear S
        rintro s g ⟨rfl, S⟩
        unfold ref21_taken_j13
        simp only [add_mk, Nat.zero_add]
        obtain ⟨n2, en2⟩ : ∃ n2, (if ll = i then tkV nv nu else nv) = n2 := ⟨_, rfl⟩
        have n2r : n2.inn = nv.inn ∧ n2.weights = nv.weights ∧ n2.bias = nv.bias := by
          rw [← en2]
          split
          · exact tkV_rows _ _
          · exact ⟨rfl, rfl, rfl⟩
        have n2d : n2.nd = if ll = i then a' else nv.nd := by
          rw [← en2]
          by_cases h : ll = i
          · rw [if_pos h, if_pos h, tkV_nd, hna h, ht]; rfl
          · rw [if_neg h, if_neg h]
        refine ⟨fun s g => s = ((i : Int) + 1, (w : Int) + 1, ⟨b1, 0, none⟩, ⟨b3, 0, none⟩, ⟨b9, 0, none⟩, (ll : Int) + 1, ⟨b19, 0, none⟩, ()) ∧
          Sep h no g [blk b1 gv.cells, blk b3 (mkS' grSh (zT grSh)), blk b9 (⟨gv.width, gv.low, gv.high, lp, ll, lc, o', []⟩ : Gv).cells, own 15 lp ll lc (nflat V), owns (V.map Nv.inn), blk b19 n2.cells] [row gv.p (nflat gv.ns), nrows gv.ns], ?_, ?_⟩
        · clear S
          rintro s g ⟨rfl, S⟩
          unfold ref21_taken_j17
          simp only [add_mk, Nat.zero_add]
          refine newI_S (cs := []) S fun b32 g6 _ S => ?_
          dsimp only [List.cons_append, List.nil_append] at S
          refine ldSlice_i (p := n2.inn.p) (l := n2.inn.l) (c := n2.inn.c) (S.cell 5 rfl rfl) ?_
          rw [n2r.1]
          replace S := S.toOwn 6 1 0 0 rfl (Nat.le_refl _)
          dsimp only [List.set, List.take] at S
          have irow : Row g6 nv.inn.p (ints nv.inn.xs) := S.r 1 _ rfl _ (List.mem_map_of_mem hmem) nv.inn.row (by simp)
          have ilen : nv.inn.xs.length = nv.inn.l := nok.1.1
          refine appI_S S 6 (ys := ints nv.inn.xs) rfl rfl (by decide) (by omega) irow (by rw [ints_length]; omega) vals_one fun p35 l35 c35 g7 hl35 S => ?_
          dsimp only [List.set, List.nil_append] at S
          rw [Nat.zero_add] at hl35
          subst hl35
          refine LoopS_i (fun mm s g => ∃ j : Nat, s = ((i : Int) + 1, (w : Int) + 1, ⟨b1, 0, none⟩, ⟨b3, 0, none⟩, ⟨b9, 0, none⟩, (ll : Int) + 1, ⟨b19, 0, none⟩, (p35, nv.inn.l, c35), (j : Int), ()) ∧ j ≤ nv.inn.l ∧ mm = nv.inn.l - j ∧ (ll = w → j = 0) ∧
            Sep h no g [blk b1 gv.cells, blk b3 (mkS' grSh (zT grSh)), blk b9 (⟨gv.width, gv.low, gv.high, lp, ll, lc, o', []⟩ : Gv).cells, own 15 lp ll lc (nflat V), owns (V.map Nv.inn), blk b19 n2.cells, own 1 p35 nv.inn.l c35 (ints (pmF1 (rep1 ((w : Int) + 1) ((i : Int) + 1)) nv.inn.xs j))] [row gv.p (nflat gv.ns), nrows gv.ns]) nv.inn.l
            ⟨0, rfl, by omega, rfl, fun _ => rfl, by rw [pmF1_zero]; exact S⟩ ?_
          clear S irow
          rintro mm s g ⟨j, rfl, hj, rfl, hjw, S⟩
          unfold ref21_taken_l19
          simp only [add_mk, Nat.zero_add]
          have ej : IntKind.wrap .i64 ((j : Int) + 1) = ((j + 1 : Nat) : Int) := by rw [wrap64_in (by omega)]; rfl
          rw [ej]
          obtain ⟨X, eX⟩ : ∃ X : List Int, (if ll = w then nv.inn.xs else nv.inn.xs.map (rep1 ((w : Int) + 1) ((i : Int) + 1))) = X := ⟨_, rfl⟩
          refine ifB_dec (fun hlt3 => ifB_bne (fun hne => ?step) (fun he => ?exit1)) (fun hge => ?exit2)
          case step =>
            have hjx : j < nv.inn.xs.length := by omega
            have hnw : ll ≠ w := by omega
            obtain ⟨aa, eaa⟩ := (S.own 6 rfl).row.some_of (by rw [ints_length, pmF1_length]; omega)
            subst eaa
            refine idxI_i rfl rfl (by omega) ?_
            simp only [Int.toNat_natCast, Nat.mul_one]
            refine ldInt_i ((S.own 6 rfl).row.cell (ints_get (pmF1_get _ hjx))) (ifB_beq (fun he => ?_) (fun hne2 => ?_))
            · refine idxI_i rfl rfl (by omega) ?_
              refine stO_S S 6 rfl (by rw [ints_length, pmF1_length]; exact hjx) fun g8 _ S => ?_
              dsimp only [List.set] at S
              have e : (ints (pmF1 (rep1 ((w : Int) + 1) ((i : Int) + 1)) nv.inn.xs j)).set j (.int .i64 ((i : Int) + 1)) = ints (pmF1 (rep1 ((w : Int) + 1) ((i : Int) + 1)) nv.inn.xs (j + 1)) := by
                rw [ints_set', ← pmF1_set _ hjx, he, rep1_eq]
              rw [e] at S
              exact ⟨nv.inn.l - (j + 1), by omega, j + 1, rfl, by omega, rfl, fun h => absurd h hnw, S⟩
            · rw [pmF1_same _ hjx (rep1_ne hne2)] at S
              exact ⟨nv.inn.l - (j + 1), by omega, j + 1, rfl, by omega, rfl, fun h => absurd h hnw, S⟩
          case' exit1 =>
            have hx : pmF1 (rep1 ((w : Int) + 1) ((i : Int) + 1)) nv.inn.xs j = X := by
              have hw : ll = w := by omega
              rw [hjw hw, pmF1_zero, ← eX, if_pos hw]
          case' exit2 =>
            have hx : pmF1 (rep1 ((w : Int) + 1) ((i : Int) + 1)) nv.inn.xs j = X := by
              by_cases hw : ll = w
              · rw [hjw hw, pmF1_zero, ← eX, if_pos hw]
              · rw [← eX, if_neg hw, show j = nv.inn.xs.length by omega, pmF1_all]
          all_goals
            rw [hx] at S
            have hXl : X.length = nv.inn.l := by rw [← hx, pmF1_length, ilen]
            have hc35 := (S.own 6 rfl).2.1
            refine stI_S S 5 rfl (Nat.le_of_ble_eq_true rfl) fun g8 _ S => ?_
            have e3 : n2.cells.set 1 (.slice p35 nv.inn.l c35) = ({ n2 with inn := ⟨p35, nv.inn.l, c35, X⟩ } : Nv).cells := set_inn n2 ⟨p35, nv.inn.l, c35, X⟩
            rw [e3] at S
            dsimp only [List.set] at S
            obtain ⟨n3, en3⟩ : ∃ n3 : Nv, n3 = { n2 with inn := ⟨p35, nv.inn.l, c35, X⟩ } := ⟨_, rfl⟩
            rw [← en3] at S
            refine ldSlice_i (p := lp) (l := ll) (c := lc) (S.cell 2 rfl rfl) ?_
            refine ldAg_S S 5 rfl (x := n3.t) rfl ?_
            refine newI_S S fun b45 g9 _ S => ?_
            dsimp only [List.cons_append, List.nil_append] at S
            refine appI_S S 3 (ys := n3.cells) rfl rfl (by decide) (by omega) (Row.of_at (S.at 7 rfl)) rfl (mkS_one rfl) fun p' l' c' g10 hl' S => ?_
            dsimp only [List.set] at S
            refine stI_S S 2 rfl (Nat.le_of_ble_eq_true rfl) fun g11 _ S => ?_
            dsimp only [List.set] at S
            subst hl'
            have eown : n3.inn.own = own 1 p35 nv.inn.l c35 (ints X) := by rw [en3]; rfl
            have S1 : Sep h no g11 [blk b1 gv.cells, blk b3 (mkS' grSh (zT grSh)), blk b9 (⟨gv.width, gv.low, gv.high, p', ll + 1, c', o', []⟩ : Gv).cells, own 15 p' (ll + 1) c' (nflat V ++ n3.cells), owns (V.map Nv.inn), blk b19 n3.cells, n3.inn.own, blk b45 n3.cells] [row gv.p (nflat gv.ns), nrows gv.ns] := by
              rw [eown]; exact S
            have S2 := joinO_S S1 [0, 1, 2, 3] 4 6 rfl rfl
            have en1 : nflat V ++ n3.cells = nflat (V ++ [n3]) := by rw [nflat_append, show nflat [n3] = n3.cells by simp [nflat]]
            have n3d : G'.nodes[ll]? = some n3.nd := by
              rw [hGt]
              congr 1
              have e1 : n3.nd = { n2.nd with inn := X } := by rw [en3]; rfl
              have e2 : n2.nd.inn = nv.inn.xs := by show n2.inn.xs = _; rw [n2r.1]
              rw [e1, ← n2d, ← eX]
              by_cases hw : ll = w
              · rw [if_pos hw, if_pos hw, ← e2]
              · rw [if_neg hw, if_neg hw, e2]
            have htk : G'.nodes.take (ll + 1) = G'.nodes.take ll ++ [n3.nd] := by
              rw [List.take_add_one, n3d]; rfl
            rw [et2]
            refine ⟨gv.l - (ll + 1), by omega, ll + 1, p', ll + 1, c', V ++ [n3], rfl, by omega, rfl, rfl, by rw [List.map_append, hV, htk]; rfl, fun n hn => ?_, fun n hn => ?_, ?_⟩
            · rcases List.mem_append.1 hn with hn | hn
              · exact hVo n hn
              · simp only [List.mem_singleton] at hn; subst hn
                rw [en3]
                exact ⟨⟨hXl, hc35⟩, by show n2.weights.ok; rw [n2r.2.1]; exact nok.2.1, by show n2.bias.ok; rw [n2r.2.2]; exact nok.2.2⟩
            · rcases List.mem_append.1 hn with hn | hn
              · exact hVw n hn
              · simp only [List.mem_singleton] at hn; subst hn
                exact ⟨nv, hmem, by rw [en3]; exact n2r.2.1, by rw [en3]; exact n2r.2.2⟩
            · rw [← en1, List.map_append]
              exact S2
        · refine ifB_beq (fun he => ?_) (fun hne => ?_)
          · have hli : ll = i := by omega
            have enva := hna hli
            rw [if_pos hli] at en2
            have ldk : cellH g ⟨b25, 0, none⟩ = some (.int .i64 nu.kind) := S.cell 6 rfl rfl
            refine ldInt_i ldk (ifB_beq (fun h9 => ?_) (fun h9 => ?_))
            · rw [if_neg (fun h => by omega)] at S
              have hp2 : andI .i64 nv.post 2 = 0 := by
                unfold tkN at ht
                rw [hk9, hpo, if_neg (fun h => by omega)] at ht
                split at ht
                · rename_i h; rw [enva]; exact h.2
                · cases ht
              have e2 : tkV nv nu = { nv with post := orI .i64 nv.post 2, low := nu.low, high := nu.high } := by unfold tkV; rw [if_neg (fun h => by omega), if_pos ⟨h9, hp2⟩]
              refine ldInt_i (n := nv.post) (S.cell 5 rfl rfl) ?_
              refine stI_S S 5 rfl (Nat.le_of_ble_eq_true rfl) fun _ _ S => ?_
              rw [set_post] at S
              dsimp only [List.set] at S
              refine ldInt_i (n := nu.low) (S.cell 6 rfl rfl) ?_
              refine stI_S S 5 rfl (Nat.le_of_ble_eq_true rfl) fun _ _ S => ?_
              rw [set_low] at S
              dsimp only [List.set] at S
              refine ldInt_i (n := nu.high) (S.cell 6 rfl rfl) ?_
              refine stI_S S 5 rfl (Nat.le_of_ble_eq_true rfl) fun _ _ S => ?_
              rw [set_high] at S
              dsimp only [List.set] at S
              rw [e2] at en2
              rw [← en2]
              exact ⟨rfl, S.pw [0, 1, 2, 3, 4, 5]⟩
            · have h10 : nu.kind = 10 := by
                unfold tkN at ht
                rw [hk9, hpo] at ht
                split at ht
                · rename_i h; exact h.1
                · split at ht
                  · rename_i h; exact absurd h.1 h9
                  · cases ht
              rw [if_pos ⟨hli, h10⟩, en2] at S
              exact ⟨rfl, S.pw [0, 1, 2, 3, 4, 5]⟩
          · have hli : ll ≠ i := by omega
            rw [if_neg hli] at en2
            rw [if_neg (fun h => hli h.1), en2] at S
            exact ⟨rfl, S.pw [0, 1, 2, 3, 4, 5]⟩
      · refine ifB_beq (fun he => ?_) (fun hne => ?_)
        · have hli : ll = i := by omega
          have enva := hna hli
          have ldk : cellH g5 ⟨b25, 0, none⟩ = some (.int .i64 nu.kind) := S.cell 6 rfl rfl
          refine ldInt_i ldk (ifB_beq (fun h10 => ?_) (fun h10 => ?_))
          · have hp0 : nv.post = 0 := by
              unfold tkN at ht
              rw [hk9, hpo] at ht
              split at ht
              · rename_i h; rw [enva]; exact h.2
              · split at ht
                · rename_i h; omega
                · cases ht
            have e2 : tkV nv nu = { nv with post := 1, mult := nu.mult, shift := nu.shift } := by unfold tkV; rw [if_pos ⟨h10, hp0⟩]
            have eor : orI .i64 nv.post 1 = 1 := by rw [hp0]; decide
            refine ldInt_i (n := nv.post) (S.cell 5 rfl rfl) ?_
            rw [eor]
            refine stI_S S 5 rfl (Nat.le_of_ble_eq_true rfl) fun _ _ S => ?_
            rw [show mkS' ndSh nv.t = nv.cells from rfl, set_post] at S
            dsimp only [List.set] at S
            refine ldInt_i (n := nu.mult) (S.cell 6 rfl rfl) ?_
            refine stI_S S 5 rfl (Nat.le_of_ble_eq_true rfl) fun _ _ S => ?_
            rw [set_mult] at S
            dsimp only [List.set] at S
            refine ldInt_i (n := nu.shift) (S.cell 6 rfl rfl) ?_
            refine stI_S S 5 rfl (Nat.le_of_ble_eq_true rfl) fun _ _ S => ?_
            rw [set_shift] at S
            dsimp only [List.set] at S
            refine ⟨rfl, ?_⟩
            rw [if_pos ⟨hli, h10⟩, e2]
            exact S
          · refine ⟨rfl, ?_⟩
            rw [if_neg (fun h => h10 h.2)]
            exact S
        · refine ⟨rfl, ?_⟩
          rw [if_neg (fun h => hne (by omega))]
          exact S
    · have hll : ll = gv.l := by omega
      refine ldAg_S S 2 rfl (x := (⟨gv.width, gv.low, gv.high, lp, ll, lc, o', V⟩ : Gv).t) rfl ?_
      refine stL_S S 1 rfl rfl (mkS_one rfl) fun g5 _ S => ?_
      dsimp only [List.set] at S
      refine ldAg_S S 1 rfl (x := (⟨gv.width, gv.low, gv.high, lp, ll, lc, o', V⟩ : Gv).t) rfl ?_
      have hV2 : V.map Nv.nd = G'.nodes := by rw [hV, List.take_of_length_le (by omega)]
      refine ⟨⟨gv.width, gv.low, gv.high, lp, ll, lc, o', V⟩, rfl, ?_, ⟨?_, (S.own 3 rfl).2.1, hVo⟩, hVw, noR (S.pw [3, 4])⟩
      · rw [eGo]; show Gr.mk _ _ _ (V.map Nv.nd) _ = _; rw [hV2]
      · have := congrArg List.length hV2
        rw [List.length_map, eGl] at this
        show V.length = ll
        omega
  · refine ldInt_i (n := gv.out) (S.cell 0 rfl rfl) (ifB_beq (fun he => ?_) (fun hne => ?_))
    · rw [if_pos he] at eo'
      refine stI_S S 2 rfl (Nat.le_of_ble_eq_true rfl) fun g5 _ S => ?_
      dsimp only [List.set] at S
      rw [← eo']
      exact ⟨rfl, S⟩
    · rw [if_neg hne] at eo'
      rw [← eo']
      exact ⟨rfl, S⟩
end
end Go.Proofs.YtbgplllcjhgdhaaDoor.G
end

section
/- Contracts: the document's fuse: left. -/
namespace Go.Proofs.YtbgplllcjhgdhaaDoor.G
open Go Go.Sh
set_option linter.unusedVariables false
set_option linter.unusedSimpArgs false

/-- The numbers, as the document has them. -/
def numA (n : Nat) (N : LM) : List Int := (List.range (n + 1)).map fun x : Nat => numF N (x : Int)
theorem numA_length (n : Nat) (N : LM) : (numA n N).length = n + 1 := by simp [numA]
theorem numA_get {n : Nat} {N : LM} {x : Nat} (h : x ≤ n) : (numA n N)[x]? = some (numF N (x : Int)) := by
  unfold numA
  rw [List.getElem?_map, List.getElem?_range (by omega)]; rfl
theorem numA_set {n : Nat} {N : LM} {x : Nat} (h : x ≤ n) (v : Int) : (numA n N).set x v = numA n (upM N (x : Int) v) := by
  apply List.ext_getElem?
  intro y
  by_cases hy : y ≤ n
  · rw [numA_get hy]
    by_cases hxy : x = y
    · subst hxy
      rw [List.getElem?_set_self (by rw [numA_length]; omega)]
      unfold numF upM; rw [if_pos rfl]; rfl
    · rw [List.getElem?_set_ne hxy, numA_get hy]
      unfold numF upM; rw [if_neg (by omega)]
  · rw [List.getElem?_eq_none (by rw [List.length_set, numA_length]; omega), List.getElem?_eq_none (by rw [numA_length]; omega)]
theorem numA_zero (n : Nat) : numA n (upM (fun _ => none) 0 0) = List.replicate (n + 1) 0 := by
  apply List.ext_getElem?
  intro y
  by_cases hy : y ≤ n
  · rw [numA_get hy, List.getElem?_replicate, if_pos (by omega)]
    unfold numF upM
    split <;> rfl
  · rw [List.getElem?_eq_none (by rw [numA_length]; omega), List.getElem?_eq_none (by rw [List.length_replicate]; omega)]

section
variable {h : Heap}

theorem left21_ok {gv : Gv} (hok : gv.ok) (hn : Row h gv.p (nflat gv.ns)) (hr : (nrows gv.ns).P h) (hl : gv.l < 2 ^ 20) (hs : ∀ n ∈ gv.ns, n.inn.l < 2 ^ 40) {M : LM} {pos : Int → Nat} (I : FInv gv.gr.nodes gv.gr.out M pos) :
    callP P n_ref21_left #[gv.v] h (RefQ (leftG gv.gr (gv.gr.nodes, gv.gr.out, M)) gv.ns h) := by
  refine call_ref21_left _ ?_
  unfold ref21_left
  have hgl := hok.1
  have hgn : gv.gr.nodes.length = gv.l := by rw [← hgl]; simp [Gv.gr]
  have ho1 : 1 ≤ gv.out := I.out1
  have ho2 : gv.out ≤ (gv.l : Int) := by rw [← hgn]; exact I.outn
  have hinn := I.ranked.Inn
  have elv : liveR gv.gr.nodes gv.out gv.l = boolsM gv.l M := by rw [← hgn]; exact liveR_eq I
  have S := ((Sep.start h no).read (row gv.p (nflat gv.ns)) hn).read (nrows gv.ns) hr
  refine newI_S (cs := gv.cells) S fun b1 h1 _ S => ?_
  dsimp only [List.nil_append, List.cons_append] at S
  refine newI_S (cs := mkS' grSh (zT grSh)) S fun b3 h2 _ S => ?_
  dsimp only [List.nil_append, List.cons_append] at S
  refine ldAg_S S 0 rfl (x := gv.t) rfl ?_
  refine (live21_ok hok (S.row 0 rfl) (S.r 1 _ rfl) hl hs hinn ⟨by omega, ho2⟩).mono ?_
  rintro _ h4 ⟨b5, rfl, S1⟩
  rw [elv] at S1
  replace S := S.add S1 fun _ _ h => h
  dsimp only [List.nil_append, List.cons_append] at S
  refine ⟨_, _, _, rfl, ?_⟩
  refine ldSlice_i (p := gv.p) (l := gv.l) (c := gv.c) (S.cell 0 rfl rfl) ?_
  have ew : IntKind.wrap .i64 ((gv.l : Int) + 1) = ((gv.l + 1 : Nat) : Int) := by rw [wrap64_in (by omega)]; omega
  rw [ew]
  simp only [Int.toNat_natCast]
  refine mkI_S S (gv.l + 1) rfl rfl rfl (by decide) (by omega) (by omega) fun b9 h10 _ S => ?_
  have ezero : (List.replicate (gv.l + 1) [Value.int .i64 0]).flatten = ints (numA gv.l (upM (fun _ => none) 0 0)) := by rw [repl_one, numA_zero]; simp [ints]
  rw [ezero] at S
  dsimp only [List.cons_append, List.nil_append] at S
  obtain ⟨nds, ends⟩ : ∃ nds, gv.gr.nodes = nds := ⟨_, rfl⟩
  have ends' : gv.ns.map Nv.nd = nds := ends
  rw [ends] at hgn hinn
  have eL : leftG gv.gr (gv.gr.nodes, gv.gr.out, M) = { width := gv.width, low := gv.low, high := gv.high, nodes := (numT nds M gv.l).1.map (Nd.ren (numT nds M gv.l).2), out := numF (numT nds M gv.l).2 gv.out } := by
    unfold leftG; rw [ends, ← hgn]; rfl
  rw [eL]
  clear eL elv
  have nlen : ∀ t, (numT nds M t).1.length ≤ t := fun t => by
    rw [← ends', ← numV_length]; exact numV_le _ _ _
  refine LoopS_i (fun mm s g => ∃ t : Nat, s = (⟨b1, 0, none⟩, ⟨b3, 0, none⟩, (some ⟨b5, 0, none⟩, gv.l + 1, gv.l + 1), (some ⟨b9, 0, none⟩, gv.l + 1, gv.l + 1), (((numT nds M t).1.length : Nat) : Int), (t : Int) + 1, ()) ∧ t ≤ gv.l ∧ mm = gv.l - t ∧
    Sep h no g [blk b1 gv.cells, blk b3 (mkS' grSh (zT grSh)), blk b5 (bls (boolsM gv.l M)), blk b9 (ints (numA gv.l (numT nds M t).2))] [row gv.p (nflat gv.ns), nrows gv.ns]) gv.l ⟨0, rfl, by omega, rfl, S⟩ ?_
  clear S S1
  rintro mm s g ⟨t, rfl, ht, rfl, S⟩
  unfold ref21_left_l5
  simp only [add_mk, Nat.zero_add]
  refine ldSlice_i (p := gv.p) (l := gv.l) (c := gv.c) (S.cell 0 rfl rfl) ?_
  have hnt := nlen t
  refine ifB_dec (fun hlt => ?_) (fun hge => ?_)
  · obtain ⟨nv, en⟩ : ∃ n, gv.ns[t]? = some n := ⟨_, List.getElem?_eq_getElem (by omega)⟩
    have endt : nds[t]? = some nv.nd := by rw [← ends', List.getElem?_map, en]; rfl
    have et2 : IntKind.wrap .i64 ((t : Int) + 1 + 1) = ((t + 1 : Nat) : Int) + 1 := by rw [wrap64_in (by omega)]; rfl
    have eN : numT nds M (t + 1) = if (M ((t : Int) + 1)).isSome then ((numT nds M t).1 ++ [nv.nd], upM (numT nds M t).2 ((t : Int) + 1) (((numT nds M t).1.length + 1 : Nat) : Int)) else numT nds M t := by
      conv => lhs; unfold numT
      rw [endt]
    rw [et2]
    refine idxI_i rfl (k := t + 1) (by omega) (by omega) ?_
    rw [show ((t : Int) + 1).toNat = t + 1 by omega]
    simp only [add_mk, Nat.zero_add, Nat.mul_one]
    refine ldBool_i (S.cell 2 rfl (bls_get (boolsM_get (show t + 1 ≤ gv.l by omega)))) ?_
    have ec : (((t + 1 : Nat) : Int)) = (t : Int) + 1 := rfl
    refine ifB_known (fun hb => ?_) (fun hb => ?_)
    · rw [ec] at hb
      rw [if_pos hb] at eN
      refine idxI_i rfl (k := t + 1) (by omega) (by omega) ?_
      simp only [add_mk, Nat.zero_add, Nat.mul_one]
      have ew2 : IntKind.wrap .i64 ((((numT nds M t).1.length : Nat) : Int) + 1) = (((numT nds M t).1.length + 1 : Nat) : Int) := by rw [wrap64_in (by omega)]; rfl
      rw [ew2]
      refine stI_S S 3 rfl (by rw [ints_length, numA_length]; omega) fun g2 _ S => ?_
      rw [ints_set', numA_set (show t + 1 ≤ gv.l by omega)] at S
      dsimp only [List.set] at S
      refine ⟨gv.l - (t + 1), by omega, t + 1, ?_, by omega, rfl, ?_⟩
      · rw [eN]; simp only [List.length_append, List.length_cons, List.length_nil, Nat.zero_add]
      · rw [eN]; exact S
    · rw [ec] at hb
      rw [if_neg (by rw [hb]; simp)] at eN
      exact ⟨gv.l - (t + 1), by omega, t + 1, by rw [eN], by omega, rfl, by rw [eN]; exact S⟩
  · have htl : t = gv.l := by omega
    subst htl
    obtain ⟨N, eN⟩ : ∃ N, (numT nds M gv.l).2 = N := ⟨_, rfl⟩
    rw [eN] at S ⊢
    refine ldInt_i (n := gv.width) (S.cell 0 rfl rfl) (ldInt_i (n := gv.low) (S.cell 0 rfl rfl) (ldInt_i (n := gv.high) (S.cell 0 rfl rfl) (ldInt_i (n := gv.out) (S.cell 0 rfl rfl) ?_)))
    obtain ⟨ov, eov⟩ : ∃ ov : Nat, gv.out = (ov : Int) := ⟨gv.out.toNat, by omega⟩
    rw [eov]
    refine idxI_i rfl (k := ov) rfl (by omega) ?_
    simp only [Int.toNat_natCast, add_mk, Nat.zero_add, Nat.mul_one]
    refine ldInt_i (n := numF N (ov : Int)) (S.cell 3 rfl (ints_get (numA_get (by omega)))) ?_
    refine newI_S (cs := mkS' grSh (zT grSh)) S fun b23 h24 _ S => ?_
    dsimp only [List.cons_append, List.nil_append] at S
    refine stL_S S 4 rfl rfl (mkS_one (l := grSh) (x := (⟨gv.width, gv.low, gv.high, none, 0, 0, numF N (ov : Int), []⟩ : Gv).t) rfl) fun h11 _ S => ?_
    dsimp only [List.set] at S
    replace S := owns0_S (S.nil 15)
    dsimp only [List.nil_append, List.cons_append] at S
    refine LoopS_i (fun mm s g => ∃ (t : Nat) (lp : Option Addr) (ll lc : Nat) (V : List Nv), s = (⟨b1, 0, none⟩, ⟨b3, 0, none⟩, (some ⟨b5, 0, none⟩, gv.l + 1, gv.l + 1), (some ⟨b9, 0, none⟩, gv.l + 1, gv.l + 1), ⟨b23, 0, none⟩, (t : Int) + 1, ()) ∧ t ≤ gv.l ∧ mm = gv.l - t ∧ ll = V.length ∧ V.map Nv.nd = (numT nds M t).1.map (Nd.ren N) ∧ (∀ n ∈ V, n.ok) ∧ WB gv.ns V ∧
      Sep h no g [blk b1 gv.cells, blk b3 (mkS' grSh (zT grSh)), blk b5 (bls (boolsM gv.l M)), blk b9 (ints (numA gv.l N)), blk b23 (⟨gv.width, gv.low, gv.high, lp, ll, lc, numF N (ov : Int), []⟩ : Gv).cells, own 15 lp ll lc (nflat V), owns (V.map Nv.inn)] [row gv.p (nflat gv.ns), nrows gv.ns]) gv.l
      ⟨0, none, 0, 0, [], rfl, by omega, rfl, rfl, rfl, by simp, (by intro n hn; cases hn), S⟩ ?_
    clear S
    rintro mm s g ⟨t, lp, ll, lc, V, rfl, htl, rfl, hll, hV, hVo, hVw, S⟩
    unfold ref21_left_l12
    simp only [add_mk, Nat.zero_add]
    refine ldSlice_i (p := gv.p) (l := gv.l) (c := gv.c) (S.cell 0 rfl rfl) ?_
    have hVl : V.length ≤ t := by have := congrArg List.length hV; simp at this; have := nlen t; omega
    refine ifB_dec (fun hlt => ?_) (fun hge => ?_)
    · obtain ⟨nv, en⟩ : ∃ n, gv.ns[t]? = some n := ⟨_, List.getElem?_eq_getElem (by omega)⟩
      have hmem := List.mem_of_getElem? en
      have nok := hok.2.2 nv hmem
      have hsz := hs nv hmem
      have ilen : nv.inn.xs.length = nv.inn.l := nok.1.1
      have endt : nds[t]? = some nv.nd := by rw [← ends', List.getElem?_map, en]; rfl
      have hxin : ∀ j ∈ nv.inn.xs, 0 ≤ j ∧ j ≤ (gv.l : Int) := fun j hj => by have := hinn nv.nd (List.mem_of_getElem? endt) j hj; omega
      have et : IntKind.wrap .i64 ((t : Int) + 1 - 1) = (t : Int) := by rw [wrap64_in (by omega)]; omega
      have et2 : IntKind.wrap .i64 ((t : Int) + 1 + 1) = ((t + 1 : Nat) : Int) + 1 := by rw [wrap64_in (by omega)]; rfl
      have eT : numT nds M (t + 1) = if (M ((t : Int) + 1)).isSome then ((numT nds M t).1 ++ [nv.nd], upM (numT nds M t).2 ((t : Int) + 1) (((numT nds M t).1.length + 1 : Nat) : Int)) else numT nds M t := by
        conv => lhs; unfold numT
        rw [endt]
      rw [et, et2]
      obtain ⟨q, ea⟩ := (S.row 0 rfl).some_of (by rw [nflat_length]; omega)
      have hrow : Row g (some q) (nflat gv.ns) := by rw [← ea]; exact S.row 0 rfl
      refine ldSlice_i (p := gv.p) (l := gv.l) (c := gv.c) (S.cell 0 rfl rfl) (idxI_i ea rfl (by omega) ?_)
      simp only [Int.toNat_natCast]
      refine ldNode hrow en ?_
      refine newI_S S fun b31 g2 _ S => ?_
      dsimp only [List.cons_append, List.nil_append] at S
      refine stL_S S 7 rfl rfl (mkS_one rfl) fun g3 _ S => ?_
      dsimp only [List.set] at S
      refine idxI_i rfl (k := t + 1) (by omega) (by omega) ?_
      rw [show ((t : Int) + 1).toNat = t + 1 by omega]
      simp only [add_mk, Nat.zero_add, Nat.mul_one]
      refine ldBool_i (S.cell 2 rfl (bls_get (boolsM_get (show t + 1 ≤ gv.l by omega)))) ?_
      have ec : (((t + 1 : Nat) : Int)) = (t : Int) + 1 := rfl
      refine ifB_not (ifB_known (fun hb => ?_) (fun hb => ?_))
      · rw [ec] at hb
        rw [if_pos hb] at eT
        replace S := S.nil 1
        dsimp only [List.cons_append, List.nil_append] at S
        refine LoopS_i (fun mm s g => ∃ (j : Nat) (ip : Option Addr) (il ic : Nat), s = (⟨b1, 0, none⟩, ⟨b3, 0, none⟩, (some ⟨b5, 0, none⟩, gv.l + 1, gv.l + 1), (some ⟨b9, 0, none⟩, gv.l + 1, gv.l + 1), ⟨b23, 0, none⟩, (t : Int) + 1, ⟨b31, 0, none⟩, (ip, il, ic), (j : Int), ()) ∧ j ≤ nv.inn.l ∧ mm = nv.inn.l - j ∧ il = j ∧
          Sep h no g [blk b1 gv.cells, blk b3 (mkS' grSh (zT grSh)), blk b5 (bls (boolsM gv.l M)), blk b9 (ints (numA gv.l N)), blk b23 (⟨gv.width, gv.low, gv.high, lp, ll, lc, numF N (ov : Int), []⟩ : Gv).cells, own 15 lp ll lc (nflat V), owns (V.map Nv.inn), blk b31 nv.cells, own 1 ip il ic (ints ((nv.inn.xs.take j).map (numF N)))] [row gv.p (nflat gv.ns), nrows gv.ns]) nv.inn.l
          ⟨0, none, 0, 0, rfl, by omega, rfl, rfl, S⟩ ?_
        clear S hrow
        rintro mm s g ⟨j, ip, il, ic, rfl, hj, rfl, rfl, S⟩
        unfold ref21_left_l18
        simp only [add_mk, Nat.zero_add]
        have ej : IntKind.wrap .i64 ((il : Int) + 1) = ((il + 1 : Nat) : Int) := by rw [wrap64_in (by omega)]; rfl
        rw [ej]
        refine ldSlice_i (p := nv.inn.p) (l := nv.inn.l) (c := nv.inn.c) (S.cell 7 rfl rfl) ?_
        refine ifB_dec (fun hlt3 => ?_) (fun hge3 => ?_)
        · have hjx : il < nv.inn.xs.length := by omega
          have hx := hxin _ (List.getElem_mem hjx)
          have irow : Row g nv.inn.p (ints nv.inn.xs) := S.r 1 _ rfl _ (List.mem_map_of_mem hmem) nv.inn.row (by simp)
          obtain ⟨aa, eaa⟩ := irow.some_of (by rw [ints_length]; omega)
          rw [eaa] at irow
          refine ldSlice_i (p := nv.inn.p) (l := nv.inn.l) (c := nv.inn.c) (S.cell 7 rfl rfl) (idxI_i eaa rfl (by omega) ?_)
          simp only [Int.toNat_natCast, Nat.mul_one]
          refine ldInt_i (irow.cell (ints_get (List.getElem?_eq_getElem hjx))) ?_
          obtain ⟨x, ex⟩ : ∃ x : Nat, nv.inn.xs[il] = (x : Int) := ⟨nv.inn.xs[il].toNat, by omega⟩
          rw [ex] at hx ⊢
          refine idxI_i rfl (k := x) rfl (by omega) ?_
          simp only [Int.toNat_natCast, add_mk, Nat.zero_add, Nat.mul_one]
          refine ldInt_i (n := numF N (x : Int)) (S.cell 3 rfl (ints_get (numA_get (by omega)))) ?_
          refine newI_S (cs := [.int .i64 (numF N (x : Int))]) S fun b43 g4 _ S => ?_
          dsimp only [List.cons_append, List.nil_append] at S
          refine appI_S S 8 (ys := ints [numF N (x : Int)]) rfl rfl (by decide) (by omega) (Row.of_at (S.at 9 rfl)) rfl vals_one fun p2 l2 c2 g5 hl2 S => ?_
          dsimp only [List.set] at S
          have e : ints ((nv.inn.xs.take il).map (numF N)) ++ ints [numF N (x : Int)] = ints ((nv.inn.xs.take (il + 1)).map (numF N)) := by
            rw [List.take_succ_eq_append_getElem hjx, ex]
            simp only [ints, List.map_append, List.map_cons, List.map_nil]
          rw [e] at S
          exact ⟨nv.inn.l - (il + 1), by omega, il + 1, p2, l2, c2, rfl, by omega, rfl, hl2, S.pw [0, 1, 2, 3, 4, 5, 6, 7, 8]⟩
        · rw [List.take_of_length_le (by omega)] at S
          have hcc := (S.own 8 rfl).2.1
          refine stI_S S 7 rfl (Nat.le_of_ble_eq_true rfl) fun g8 _ S => ?_
          have e3 : nv.cells.set 1 (.slice ip il ic) = ({ nv with inn := ⟨ip, il, ic, nv.inn.xs.map (numF N)⟩ } : Nv).cells := set_inn nv ⟨ip, il, ic, nv.inn.xs.map (numF N)⟩
          rw [e3] at S
          dsimp only [List.set] at S
          obtain ⟨n3, en3⟩ : ∃ n3 : Nv, n3 = { nv with inn := ⟨ip, il, ic, nv.inn.xs.map (numF N)⟩ } := ⟨_, rfl⟩
          rw [← en3] at S
          refine ldSlice_i (p := lp) (l := ll) (c := lc) (S.cell 4 rfl rfl) ?_
          refine ldAg_S S 7 rfl (x := n3.t) rfl ?_
          refine newI_S S fun b45 g9 _ S => ?_
          dsimp only [List.cons_append, List.nil_append] at S
          refine appI_S S 5 (ys := n3.cells) rfl rfl (by decide) (by omega) (Row.of_at (S.at 9 rfl)) rfl (mkS_one rfl) fun p' l' c' g10 hl' S => ?_
          dsimp only [List.set] at S
          refine stI_S S 4 rfl (Nat.le_of_ble_eq_true rfl) fun g11 _ S => ?_
          dsimp only [List.set] at S
          have eown : n3.inn.own = own 1 ip il ic (ints (nv.inn.xs.map (numF N))) := by rw [en3]; rfl
          have S1 : Sep h no g11 [blk b1 gv.cells, blk b3 (mkS' grSh (zT grSh)), blk b5 (bls (boolsM gv.l M)), blk b9 (ints (numA gv.l N)), blk b23 (⟨gv.width, gv.low, gv.high, p', l', c', numF N (ov : Int), []⟩ : Gv).cells, own 15 p' l' c' (nflat V ++ n3.cells), owns (V.map Nv.inn), blk b31 n3.cells, n3.inn.own, blk b45 n3.cells] [row gv.p (nflat gv.ns), nrows gv.ns] := by
            rw [eown]; exact S
          have S2 := joinO_S S1 [0, 1, 2, 3, 4, 5] 6 8 rfl rfl
          have en1 : nflat V ++ n3.cells = nflat (V ++ [n3]) := by rw [nflat_append, show nflat [n3] = n3.cells by simp [nflat]]
          have n3d : n3.nd = nv.nd.ren N := by rw [en3]; rfl
          rw [et2]
          refine ⟨gv.l - (t + 1), by omega, t + 1, p', l', c', V ++ [n3], rfl, by omega, rfl, by rw [List.length_append]; exact hl'.trans (by rw [hll]; rfl), ?_, fun n hn => ?_, fun n hn => ?_, ?_⟩
          · rw [eT, List.map_append, List.map_append, hV]
            show _ ++ [n3.nd] = _ ++ [nv.nd.ren N]
            rw [n3d]
          · rcases List.mem_append.1 hn with hn | hn
            · exact hVo n hn
            · simp only [List.mem_singleton] at hn; subst hn
              rw [en3]
              exact ⟨⟨by show (nv.inn.xs.map (numF N)).length = il; rw [List.length_map]; omega, hcc⟩, nok.2⟩
          · rcases List.mem_append.1 hn with hn | hn
            · exact hVw n hn
            · simp only [List.mem_singleton] at hn; subst hn
              exact ⟨nv, hmem, by rw [en3], by rw [en3]⟩
          · rw [← en1, List.map_append]
            exact S2
      · rw [ec] at hb
        rw [if_neg (by rw [hb]; simp)] at eT
        exact ⟨gv.l - (t + 1), by omega, t + 1, lp, ll, lc, V, rfl, by omega, rfl, hll, by rw [eT]; exact hV, hVo, hVw, S.pw [0, 1, 2, 3, 4, 5, 6]⟩
    · have htt : t = gv.l := by omega
      rw [htt] at hV
      refine ldAg_S S 4 rfl (x := (⟨gv.width, gv.low, gv.high, lp, ll, lc, numF N (ov : Int), V⟩ : Gv).t) rfl ?_
      refine stL_S S 1 rfl rfl (mkS_one rfl) fun g5 _ S => ?_
      dsimp only [List.set] at S
      refine ldAg_S S 1 rfl (x := (⟨gv.width, gv.low, gv.high, lp, ll, lc, numF N (ov : Int), V⟩ : Gv).t) rfl ?_
      refine ⟨⟨gv.width, gv.low, gv.high, lp, ll, lc, numF N (ov : Int), V⟩, rfl, ?_, ⟨hll.symm, (S.own 5 rfl).2.1, hVo⟩, hVw, noR (S.pw [5, 6])⟩
      show Gr.mk _ _ _ (V.map Nv.nd) _ = _
      rw [hV]
end
end Go.Proofs.YtbgplllcjhgdhaaDoor.G
end

section
/- Contracts: the document's fuse: Fuse. -/
namespace Go.Proofs.YtbgplllcjhgdhaaDoor.G
open Go Go.Sh
set_option linter.unusedVariables false
set_option linter.unusedSimpArgs false

def irows (ns : List Nv) : Fact := reads (ns.map fun n => n.inn.row)
theorem nrowsIR {h : Heap} {ns0 ns : List Nv} (o : (irows ns).P h) (r : (nrows ns0).P h) (w : WB ns0 ns) : (nrows ns).P h := by
  rintro f hf
  obtain ⟨n, hn, rfl⟩ := List.mem_map.1 hf
  obtain ⟨m, hm, e1, e2⟩ := w n hn
  have hr := r _ (List.mem_map_of_mem hm)
  rintro f hf
  simp only [List.mem_cons, List.not_mem_nil, or_false] at hf
  rcases hf with rfl | rfl | rfl
  · exact o _ (List.mem_map.2 ⟨n, hn, rfl⟩)
  · rw [e1]; exact hr m.weights.row (by simp)
  · rw [e2]; exact hr m.bias.row (by simp)
theorem irows_of {h : Heap} {ns : List Nv} (r : (nrows ns).P h) : (irows ns).P h := by
  rintro f hf
  obtain ⟨n, hn, rfl⟩ := List.mem_map.1 hf
  exact r _ (List.mem_map_of_mem hn) n.inn.row (by simp)

section
variable {h0 h : Heap} {T : Nat → Prop} {W R : List Fact}

theorem toRow_S (S : Sep h0 T h W R) (i : Nat) {sz : Nat} {p : Option Addr} {l c : Nat} {xs : List Value} (e : W[i]? = some (own sz p l c xs)) : Sep h0 T h (W.set i (row p xs)) R :=
  S.turn i e _ (fun o => Own.row o) fun b ⟨_, a, ha, hb⟩ => ⟨a, ha, hb⟩
theorem toIrows_S (S : Sep h0 T h W R) (i : Nat) {ns : List Nv} (e : W[i]? = some (owns (ns.map Nv.inn))) : Sep h0 T h (W.set i (irows ns)) R :=
  S.turn i e _ (fun o f hf => by
    obtain ⟨n, hn, rfl⟩ := List.mem_map.1 hf
    exact owns_row o (List.mem_map_of_mem hn)) fun b ⟨f, hf, hb⟩ => by
    obtain ⟨n, hn, rfl⟩ := List.mem_map.1 hf
    obtain ⟨_, a, ha, hb⟩ := hb
    exact ⟨n.inn, List.mem_map_of_mem hn, a, ha, hb⟩

theorem Fuse21_ok {gv : Gv} (hok : gv.ok) (hn : Row h gv.p (nflat gv.ns)) (hr : (nrows gv.ns).P h) (hl : gv.l < 2 ^ 20) (hs : ∀ n ∈ gv.ns, n.inn.l < 2 ^ 40 ∧ n.weights.l < 2 ^ 62 ∧ n.bias.l < 2 ^ 62) :
    callP P n_ref21_Fuse #[gv.v] h (RefQ (fuseG gv.gr) gv.ns h) := by
  refine call_ref21_Fuse _ ?_
  unfold ref21_Fuse
  have hgl := hok.1
  have hgn : gv.gr.nodes.length = gv.l := by rw [← hgl]; simp [Gv.gr]
  have S := ((((Sep.start h no).read (row gv.p (nflat gv.ns)) hn).read (nrows gv.ns) hr).read (row gv.p (nflat gv.ns)) hn).read (irows gv.ns) (irows_of hr)
  refine newI_S (cs := gv.cells) S fun b1 h1 _ S => ?_
  dsimp only [List.nil_append, List.cons_append] at S
  refine newI_S (cs := mkS' grSh (zT grSh)) S fun b3 h2 _ S => ?_
  dsimp only [List.nil_append, List.cons_append] at S
  refine ldAg_S S 0 rfl (x := gv.t) rfl ?_
  refine (Look16_ok hok (S.row 0 rfl) (S.r 1 _ rfl) hl hs).mono ?_
  rintro _ h3 ⟨o, w, r, rfl, _, _, _, _, _, _, S1⟩
  replace S := (S.add S1 fun _ _ h => h).pw [0, 1]
  simp only [List.cons_append, List.nil_append, Sh.pick, List.getElem?_cons_zero, List.getElem?_cons_succ] at S
  refine ⟨_, _, _, _, _, _, _, _, _, _, rfl, ifB_bne (fun he => ?_) (fun he => ?_)⟩
  · refine stL_S S 1 rfl rfl (by decide) fun h4 _ S => ?_
    dsimp only [List.set] at S
    refine ldAg_S S 1 rfl (x := (⟨0, 0, 0, none, 0, 0, 0, []⟩ : Gv).t) rfl ?_
    refine ⟨(⟨0, 0, 0, none, 0, 0, 0, []⟩ : Gv), rfl, by unfold fuseG; rw [if_neg he]; rfl, ⟨rfl, Nat.le_refl _, by intro n hn; cases hn⟩, (by intro n hn; cases hn), ?_⟩
    exact owns0_S ((noR (S.pw [])).nil 15)
  · have e0 : gv.gr.look.e = 0 := he
    have I0 := look_finv e0
    have Fz := fused_it (gv.gr.nodes.length + 1) (gv.gr.nodes, gv.gr.out, liveM gv.gr.nodes gv.gr.out) I0 (Nat.lt_succ_of_le (keys_le _ _))
    have egf : fuseG gv.gr = leftG gv.gr (fuseIt (gv.gr.nodes.length + 1) (gv.gr.nodes, gv.gr.out, liveM gv.gr.nodes gv.gr.out)) := by
      unfold fuseG; rw [if_pos e0]
    rw [egf]
    generalize fuseIt (gv.gr.nodes.length + 1) (gv.gr.nodes, gv.gr.out, liveM gv.gr.nodes gv.gr.out) = F at Fz
    generalize posG gv.gr.nodes = pos at I0
    have hk0 := keys_le gv.l (liveM gv.gr.nodes gv.gr.out)
    generalize liveM gv.gr.nodes gv.gr.out = M0 at Fz I0 hk0
    refine LoopS_i (fun mm s g => ∃ (k : Nat) (cur : Gv) (M : LM), s = (⟨b1, 0, none⟩, ⟨b3, 0, none⟩, (k : Int), ()) ∧ k ≤ gv.l + 1 ∧ mm = gv.l + 1 - k ∧ cur.ok ∧ cur.l = gv.l ∧ WB gv.ns cur.ns ∧ cur.width = gv.width ∧ cur.low = gv.low ∧ cur.high = gv.high ∧
      FInv cur.gr.nodes cur.gr.out M pos ∧ Fused (cur.gr.nodes, cur.gr.out, M) F ∧ (stepP cur.gr.nodes cur.gr.out M = none ∨ keys gv.l M + k ≤ gv.l) ∧
      Sep h no g [blk b1 cur.cells, blk b3 (mkS' grSh (zT grSh))] [row gv.p (nflat gv.ns), nrows gv.ns, row cur.p (nflat cur.ns), irows cur.ns]) (gv.l + 1)
      ⟨0, gv, M0, rfl, by omega, rfl, hok, rfl, WB.refl _, rfl, rfl, rfl, I0, Fz, .inr (by omega), S⟩ ?_
    clear S S1 Fz I0
    rintro mm s g ⟨k, cur, M, rfl, hk, rfl, cok, cl, cwb, cw, clo, chi, I, Fz, hdone, S⟩
    unfold ref21_Fuse_l4
    simp only [add_mk, Nat.zero_add]
    have hcn : cur.gr.nodes.length = gv.l := by rw [← cl, ← cok.1]; simp [Gv.gr]
    have hin : ∀ n ∈ cur.ns, n.inn.l < 2 ^ 40 := fun n hn => by
      have h1 := (cok.2.2 n hn).1.1
      obtain ⟨i, en⟩ := List.mem_iff_getElem?.1 hn
      have := (I.ranked i n.nd (by show (cur.ns.map Nv.nd)[i]? = _; rw [List.getElem?_map, en]; rfl)).1
      have e : n.nd.inn = n.inn.xs := rfl
      rw [e] at this
      omega
    have hcl : cur.l < 2 ^ 20 := by omega
    have ho1 : 1 ≤ cur.out := I.out1
    have ho2 : cur.out ≤ (cur.l : Int) := by have := I.outn; rw [hcn, ← cl] at this; exact this
    have rows : ∀ {g : Heap} {W : List Fact}, Sep h no g W [row gv.p (nflat gv.ns), nrows gv.ns, row cur.p (nflat cur.ns), irows cur.ns] → (nrows cur.ns).P g := fun S => nrowsIR (S.r 3 _ rfl) (S.r 1 _ rfl) cwb
    have ek : IntKind.wrap .i64 ((k : Int) + 1) = ((k + 1 : Nat) : Int) := by rw [wrap64_in (by omega)]; rfl
    refine ldSlice_i (p := cur.p) (l := cur.l) (c := cur.c) (S.cell 0 rfl rfl) ?_
    refine ifB_dec (fun hlt => ?_) (fun hge => ?_)
    · refine ldAg_S S 0 rfl (x := cur.t) rfl ?_
      refine (live21_ok cok (S.row 2 rfl) (rows S) hcl hin I.ranked.Inn ⟨by omega, ho2⟩).mono ?_
      rintro _ h4 ⟨b5, rfl, S1⟩
      have elv : liveR cur.gr.nodes cur.out cur.l = boolsM cur.l M := by
        have := liveR_eq I
        rw [hcn, ← cl] at this; exact this
      rw [elv] at S1
      replace S := S.add S1 fun _ _ h => h
      dsimp only [List.nil_append, List.cons_append] at S
      refine ⟨_, _, _, rfl, ?_⟩
      refine LoopS_i (fun mm s g => ∃ t : Nat, s = (⟨b1, 0, none⟩, ⟨b3, 0, none⟩, (k : Int), (some ⟨b5, 0, none⟩, cur.l + 1, cur.l + 1), (t : Int) + 1, ()) ∧ t ≤ cur.l ∧ mm = cur.l - t ∧ stepF cur.gr.nodes cur.gr.out M (cur.l - t) t = stepP cur.gr.nodes cur.gr.out M ∧
        Sep h no g [blk b1 cur.cells, blk b3 (mkS' grSh (zT grSh)), blk b5 (bls (boolsM cur.l M))] [row gv.p (nflat gv.ns), nrows gv.ns, row cur.p (nflat cur.ns), irows cur.ns]) cur.l
        ⟨0, rfl, by omega, rfl, by unfold stepP; rw [hcn, ← cl]; rfl, S⟩ ?_
      clear S S1
      rintro mm s g ⟨t, rfl, ht, rfl, hst, S⟩
      unfold ref21_Fuse_l8
      simp only [add_mk, Nat.zero_add]
      refine ldSlice_i (p := cur.p) (l := cur.l) (c := cur.c) (S.cell 0 rfl rfl) ?_
      refine ifB_dec (fun hlt2 => ?_) (fun hge2 => ?_)
      · have htl : t < cur.l := by omega
        have hsF : stepF cur.gr.nodes cur.gr.out M (cur.l - t) t = match stepAt cur.gr.nodes cur.gr.out M t with | some x => some x | none => stepF cur.gr.nodes cur.gr.out M (cur.l - (t + 1)) (t + 1) := by
          rw [show cur.l - t = (cur.l - (t + 1)) + 1 by omega]; rfl
        rw [hsF] at hst
        have et2 : IntKind.wrap .i64 ((t : Int) + 1 + 1) = ((t + 1 : Nat) : Int) + 1 := by rw [wrap64_in (by omega)]; rfl
        refine ldAg_S S 0 rfl (x := cur.t) rfl ?_
        have lrow : Row g (some ⟨b5, 0, none⟩) (bls (boolsM cur.l M)) := Row.of_at (S.at 2 rfl)
        refine (takes21_ok cok (S.row 2 rfl) (rows S) hcl hin lrow rfl htl).mono ?_
        rintro _ h5 ⟨rfl, Fr⟩
        replace S := S.fra0 Fr
        refine ⟨_, rfl, ?_⟩
        rcases takes_step I (show t < cur.gr.nodes.length by omega) with ⟨h1, h2⟩ | ⟨w, na, nu, a', st, h1, s, h2⟩
        · have h1' : takesR cur.gr.nodes cur.out M ((t : Int) + 1) = 0 := h1
          rw [h1']
          rw [h2] at hst
          refine ifB_false (by decide) ?_
          rw [et2]
          exact ⟨cur.l - (t + 1), by omega, t + 1, rfl, by omega, rfl, hst, S⟩
        · have h1' : takesR cur.gr.nodes cur.out M ((t : Int) + 1) = (w : Int) + 1 := h1
          rw [h1']
          rw [h2] at hst
          have hst : some st = stepP cur.gr.nodes cur.gr.out M := hst
          refine ifB_true (decide_eq_true (by omega)) ?_
          obtain ⟨nva, ena, ena2⟩ : ∃ nv, cur.ns[t]? = some nv ∧ nv.nd = na := by
            have h := s.ea
            have h : (cur.ns.map Nv.nd)[t]? = some na := h
            rw [List.getElem?_map, Option.map_eq_some_iff] at h
            exact h
          obtain ⟨nvu, enu, enu2⟩ : ∃ nv, cur.ns[w]? = some nv ∧ nv.nd = nu := by
            have h := s.eu
            have h : (cur.ns.map Nv.nd)[w]? = some nu := h
            rw [List.getElem?_map, Option.map_eq_some_iff] at h
            exact h
          refine ldAg_S S 0 rfl (x := cur.t) rfl ?_
          refine (taken21_ok cok (S.row 2 rfl) (rows S) hcl hin ena enu (a' := a') (by rw [ena2, enu2]; exact s.tk)).mono ?_
          rintro _ h6 ⟨nxt, rfl, egr, nok, nwb, S1⟩
          replace S := S.add S1 fun _ _ h => h
          dsimp only [List.nil_append, List.cons_append] at S
          refine exS_i nxt.t ⟨rfl, ?_⟩
          refine stL_S S 0 rfl rfl (mkS_one rfl) fun h7 _ S => ?_
          dsimp only [List.set] at S
          rw [ek]
          have hst2 : st = (nxt.gr.nodes, nxt.gr.out, st.2.2) := by
            have e1 : st.1 = nxt.gr.nodes := by rw [egr, s.st]; rfl
            have e2 : st.2.1 = nxt.gr.out := by rw [egr, s.st]; rfl
            rw [← e1, ← e2]
          have hnl : nxt.gr.nodes.length = gv.l := by rw [egr]; show (repN _ _ _).length = _; rw [repN_length, List.length_set]; exact hcn
          have hnl2 : nxt.l = gv.l := by rw [← hnl, ← nok.1]; simp [Gv.gr]
          have inv := s.inv I
          have key := s.keys I
          rw [hcn] at key
          have ff : Fused st F := by
            cases Fz with
            | done hd =>
              have hd : stepP cur.gr.nodes cur.gr.out M = none := hd
              rw [hd] at hst; cases hst
            | @more _ t' _ he hF =>
              have he : stepP cur.gr.nodes cur.gr.out M = some t' := he
              rw [he] at hst
              cases hst
              exact hF
          have hdone' : keys gv.l M + k ≤ gv.l := by
            rcases hdone with h | h
            · rw [h] at hst; cases hst
            · exact h
          rw [hst2] at inv ff
          have S2 := toRow_S S 3 rfl
          dsimp only [List.set] at S2
          have S3 := toIrows_S S2 4 rfl
          dsimp only [List.set] at S3
          have S4 := (S3.settle [0, 1] [3, 4]).pick [0, 1] [0, 1, 4, 5]
          refine ⟨gv.l + 1 - (k + 1), by omega, k + 1, nxt, st.2.2, rfl, by omega, rfl, nok, hnl2, cwb.trans nwb, ?_, ?_, ?_, inv, ff, .inr (by omega), S4⟩
          · have := congrArg Gr.width egr; exact this.trans cw
          · have := congrArg Gr.low egr; exact this.trans clo
          · have := congrArg Gr.high egr; exact this.trans chi
      · have htl : t = cur.l := by omega
        rw [ek]
        have hN : stepP cur.gr.nodes cur.gr.out M = none := by rw [← hst, htl, Nat.sub_self]; rfl
        exact ⟨gv.l + 1 - (k + 1), by omega, k + 1, cur, M, rfl, by omega, rfl, cok, cl, cwb, cw, clo, chi, I, Fz, .inl hN, S.pw [0, 1]⟩
    · have hN : stepP cur.gr.nodes cur.gr.out M = none := by
        rcases hdone with h | h
        · exact h
        · omega
      have eF : F = (cur.gr.nodes, cur.gr.out, M) := by
        cases Fz with
        | done hd => rfl
        | more he hF =>
          have he : stepP cur.gr.nodes cur.gr.out M = some _ := he
          rw [hN] at he; cases he
      refine ldAg_S S 0 rfl (x := cur.t) rfl ?_
      refine (left21_ok cok (S.row 2 rfl) (rows S) hcl hin I).mono ?_
      rintro _ h6 ⟨nxt, rfl, egr, nok, nwb, S1⟩
      replace S := S.add S1 fun _ _ h => h
      dsimp only [List.nil_append, List.cons_append] at S
      refine exS_i nxt.t ⟨rfl, ?_⟩
      refine stL_S S 1 rfl rfl (mkS_one rfl) fun h7 _ S => ?_
      dsimp only [List.set] at S
      refine ldAg_S S 1 rfl (x := nxt.t) rfl ?_
      refine ⟨nxt, rfl, ?_, nok, cwb.trans nwb, noR (S.pw [2, 3])⟩
      rw [egr, eF]
      unfold leftG
      have e1 : cur.gr.width = gv.gr.width := cw
      have e2 : cur.gr.low = gv.gr.low := clo
      have e3 : cur.gr.high = gv.gr.high := chi
      rw [e1, e2, e3]
end
end Go.Proofs.YtbgplllcjhgdhaaDoor.G
end
