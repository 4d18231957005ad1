/- Sh, part 7: a region in whatever order: a schedule that was checked speaks for all orders. General: for every program. -/
import Derived.Test.YtdjofpdmdbcgjadShCode
namespace Go.Sh
set_option linter.unusedSimpArgs false

def quietAt (P : Program) (ops : Array Oper) (i : Nat) : Prop := ∀ o, ops[i]? = some o → quiet P o = true

/-- 'wpAny', where what is quiet keeps what stood, and behind what is not, what is watched holds. -/
def wpAnyC (P : Program) (ops : Array Oper) (Q : Exit → Act → World → Prop) (W : Watch) : Nat → Array Bool → Act → World → Prop
  | 0, listed, a, w => Region.ready .any ops listed = [] ∧ Q .normal a w
  | fuel + 1, listed, a, w =>
    (Region.ready .any ops listed = [] → Q .normal a w) ∧
    ∀ i ∈ Region.ready .any ops listed, wpOp P ops Q i (fun a' w' => (quietAt P ops i → Keeps w.heap w'.heap) ∧ (∀ o, ops[i]? = some o → quiet P o = false → AllW (liveW o W) w'.heap) ∧ wpAnyC P ops Q W fuel (listed.setIfInBounds i true) a' w') a w

theorem wpAny_of_C {P : Program} {ops : Array Oper} {Q : Exit → Act → World → Prop} {W : Watch} : ∀ (fuel : Nat) (listed : Array Bool) (a : Act) (w : World), wpAnyC P ops Q W fuel listed a w → wpAny P .any ops Q fuel listed a w
  | 0, _, _, _, h => h
  | fuel + 1, _, _, _, h => ⟨h.1, fun i hi => wpOp_mono (fun a' w' h' => wpAny_of_C fuel _ a' w' h'.2.2) (h.2 i hi)⟩

theorem liveW_append (o : Oper) : ∀ (V W : Watch), ∀ x ∈ liveW o W, x ∈ liveW o (V ++ W)
  | [], _, _, hx => hx
  | y :: r, W, x, hx => by
    simp only [List.cons_append, liveW]
    split
    · exact liveW_append o r W x hx
    · exact List.mem_cons_of_mem _ (liveW_append o r W x hx)

theorem wpAnyC_weak {P : Program} {ops : Array Oper} {Q : Exit → Act → World → Prop} {V W : Watch} : ∀ (fuel : Nat) (listed : Array Bool) (a : Act) (w : World), wpAnyC P ops Q (V ++ W) fuel listed a w → wpAnyC P ops Q W fuel listed a w
  | 0, _, _, _, h => h
  | fuel + 1, _, _, _, h => ⟨h.1, fun i hi => wpOp_mono (fun a' w' h' => ⟨h'.1, fun o ho hq x hx => h'.2.1 o ho hq x (liveW_append o V W x hx), wpAnyC_weak fuel _ a' w' h'.2.2⟩) (h.2 i hi)⟩

theorem wpAnyC_first {P : Program} {ops : Array Oper} {Q : Exit → Act → World → Prop} {W : Watch} {S : World → Prop} {i : Nat} {oi : Oper} {v : Value} (hi : ops[i]? = some oi) (hqi : quietAt P ops i)
    (hsel : ∀ (j : Nat) (o : Oper) cs b, ops[j]? = some o → o.op ≠ .select cs b)
    (hQ : ∀ c a w, Q (.panic c) (a.put oi.dst v) w → Q (.panic c) a w) :
    ∀ (fuel : Nat) (listed : Array Bool) (a : Act) (w : World),
      (∀ j oj, ops[j]? = some oj → j ≠ i → listed.getD j true = false → (∀ e ∈ oj.after, Region.binds .any e = true → e.on ≠ i) → oi.apart ops oj = true) →
      (∀ j oj, ops[j]? = some oj → j ≠ i → listed.getD j true = false → (∀ e ∈ oj.after, Region.binds .any e = true → e.on ≠ i) →
        ∀ w w' : World, S w → (quietAt P ops j → Keeps w.heap w'.heap) → (quiet P oj = false → AllW (liveW oj W) w'.heap) → S w') →
      i ∈ Region.ready .any ops listed → YieldsIf P ops S oi v a → S w →
      wpAnyC P ops Q W fuel (listed.setIfInBounds i true) (a.put oi.dst v) w → wpAnyC P ops Q W (fuel + 1) listed a w := by
  intro fuel
  induction fuel with
  | zero =>
    intro listed a w _ _ hr hy hS H
    refine ⟨fun h => (by rw [h] at hr; cases hr), fun j hj => ?_⟩
    by_cases hji : j = i
    · subst hji; exact hy.wpOp hi hS ⟨fun _ => Keeps.refl _, fun o ho hf => absurd (hqi o ho) (by rw [hf]; simp), H⟩
    · have := ready_mono hj hji
      rw [H.1] at this
      cases this
  | succ fuel ih =>
    intro listed a w hfree hkeep hr hy hS H
    refine ⟨fun h => (by rw [h] at hr; cases hr), fun j hj => ?_⟩
    by_cases hji : j = i
    · subst hji; exact hy.wpOp hi hS ⟨fun _ => Keeps.refl _, fun o ho hf => absurd (hqi o ho) (by rw [hf]; simp), H⟩
    · have h1 := H.2 j (ready_mono hj hji)
      obtain ⟨hjun, oj, hoj, hall⟩ := mem_ready.1 hj
      have hnot : ∀ e ∈ oj.after, Region.binds .any e = true → e.on ≠ i := fun e he hb heq => by
        have h1 := hall e he hb
        have h0 := (mem_ready.1 hr).1
        rw [heq] at h1
        rcases Nat.lt_or_ge i listed.size with h' | h'
        · simp [h'] at h0 h1; rw [h0] at h1; cases h1
        · simp [Array.getElem?_eq_none h'] at h1
      have h2 := wpOp_putIf hoj (hfree j oj hoj hji hjun hnot) (fun cs b => hsel i oi cs b hi) (fun cs b => hsel j oj cs b hoj) hQ hy h1
      have hun' : ∀ k, (listed.setIfInBounds j true).getD k true = false → listed.getD k true = false := fun k hun => by
        by_cases hjk : j = k
        · subst hjk; exact hjun
        · rw [getD_set_ne true hjk] at hun; exact hun
      refine wpOp_mono (fun a' w' h3 => ⟨h3.2.1, h3.2.2.1, ih (listed.setIfInBounds j true) a' w' (fun k ok hk hki hun hno => hfree k ok hk hki (hun' k hun) hno)
        (fun k ok hk hki hun hno => hkeep k ok hk hki (hun' k hun) hno) (ready_mono hr (Ne.symm hji)) h3.1 (hkeep j oj hoj hji hjun hnot w w' hS h3.2.1 (h3.2.2.1 oj hoj)) ?_⟩) h2
      rw [Array.setIfInBounds_comm _ _ hji]
      exact h3.2.2.2

/-! ### the check of a schedule, by numbers: bit i of 'done' is set where operation i has come up -/

def has (m i : Nat) : Bool := Nat.testBit m i

def bindsIn (done : Nat) (o : Oper) : Bool := o.after.toList.all fun e => !Region.binds .any e || has done e.on

def readyB (ops : List Oper) (done i : Nat) : Bool :=
  match nthO ops i with
  | some o => !has done i && bindsIn done o
  | none => false

/-- Every operation (from place 'j' on in 'l') that has not come up is i, or waits for it, or is apart from it (and, where i loads, quiet). -/
def freeB (P : Program) (ops : Array Oper) (oi : Oper) (ld : Bool) (done i : Nat) : List Oper → Nat → Bool
  | [], _ => true
  | o :: r, j => (j == i || has done j || waitsFor o i || (oi.apart ops o && (!ld || quiet P o))) && freeB P ops oi ld done i r (j + 1)

def isPure (P : Program) (o : Oper) : Bool :=
  match clsOf P o.op with
  | .pure => true
  | _ => false

def firstB (P : Program) (ops : Array Oper) (done i : Nat) : Bool :=
  match nthO ops.toList i with
  | some o => firstable P o && freeB P ops o (!isPure P o) done i ops.toList 0
  | none => false

def isLoad (o : Oper) : Bool :=
  match o.op with
  | .load .. => true
  | _ => false

def earlyB (P : Program) (ops : Array Oper) (done i : Nat) : Bool :=
  match nthO ops.toList i with
  | some o => isLoad o && freeB P ops o false done i ops.toList 0
  | none => false

def allReadyIn (ops : List Oper) (done : Nat) (seen : List Nat) : List Oper → Nat → Bool
  | [], _ => true
  | o :: r, j => (has done j || !bindsIn done o || seen.contains j) && allReadyIn ops done seen r (j + 1)

def noneReady (done : Nat) : List Oper → Nat → Bool
  | [], _ => true
  | _ :: r, j => has done j && noneReady done r (j + 1)

def schOk (P : Program) (ops : Array Oper) : Sch → (done : Nat) → (seen : List Nat) → Bool
  | .done, done, seen => seen.isEmpty && noneReady done ops.toList 0
  | .stop, done, seen => !seen.isEmpty && allReadyIn ops.toList done seen ops.toList 0
  | .one i r, done, seen => seen.isEmpty && readyB ops.toList done i && firstB P ops done i && schOk P ops r (done ||| 2 ^ i) []
  | .early i r, done, seen => seen.isEmpty && readyB ops.toList done i && earlyB P ops done i && schOk P ops r (done ||| 2 ^ i) []
  | .alt i r rest, done, seen => readyB ops.toList done i && schOk P ops r (done ||| 2 ^ i) [] && schOk P ops rest done (i :: seen)

/-! ### it speaks for all orders -/

/-- The bits and the list. -/
structure Bits (ops : Array Oper) (done : Nat) (listed : Array Bool) : Prop where
  size : listed.size = ops.size
  bit : ∀ i, i < ops.size → listed.getD i true = has done i

theorem Bits.set {ops : Array Oper} {done : Nat} {listed : Array Bool} (b : Bits ops done listed) (i : Nat) : Bits ops (done ||| 2 ^ i) (listed.setIfInBounds i true) := by
  refine ⟨by simp [b.size], fun j hj => ?_⟩
  unfold has
  rw [Nat.testBit_or, Nat.testBit_two_pow]
  by_cases h : i = j
  · subst h; simp [b.size, hj]
  · rw [getD_set_ne true h, b.bit j hj]; simp [has, h]

theorem Bits.false_of {ops : Array Oper} {done : Nat} {listed : Array Bool} (b : Bits ops done listed) {i : Nat} (hi : i < ops.size) : listed.getD i false = has done i := by
  rw [← b.bit i hi]
  simp [b.size, hi]

theorem mem_ready_bits {ops : Array Oper} {done : Nat} {listed : Array Bool} (b : Bits ops done listed) (hlt : ∀ (j : Nat) (o : Oper), ops[j]? = some o → ∀ e ∈ o.after, e.on < ops.size) (j : Nat) :
    j ∈ Region.ready .any ops listed ↔ ∃ o, ops[j]? = some o ∧ has done j = false ∧ bindsIn done o = true := by
  rw [mem_ready]
  constructor
  · rintro ⟨h0, o, ho, hall⟩
    have hj : j < ops.size := (Array.getElem?_eq_some_iff.1 ho).1
    refine ⟨o, ho, by rw [← b.bit j hj]; exact h0, ?_⟩
    simp only [bindsIn, List.all_eq_true, Bool.or_eq_true, Bool.not_eq_true']
    intro e he
    cases hb : Region.binds .any e with
    | false => exact .inl rfl
    | true => right; rw [← b.false_of (hlt j o ho e (Array.mem_toList_iff.1 he))]; exact hall e (Array.mem_toList_iff.1 he) hb
  · rintro ⟨o, ho, h0, hall⟩
    have hj : j < ops.size := (Array.getElem?_eq_some_iff.1 ho).1
    refine ⟨by rw [b.bit j hj]; exact h0, o, ho, fun e he hb => ?_⟩
    simp only [bindsIn, List.all_eq_true, Bool.or_eq_true, Bool.not_eq_true'] at hall
    rcases hall e (Array.mem_toList_iff.2 he) with h | h
    · rw [hb] at h; cases h
    · rw [b.false_of (hlt j o ho e he)]; exact h

theorem freeB_spec {P : Program} {ops : Array Oper} {oi : Oper} {ld : Bool} {done i : Nat} : ∀ {l : List Oper} {j : Nat}, freeB P ops oi ld done i l j = true →
    ∀ k o, l[k]? = some o → j + k ≠ i → has done (j + k) = false → (∀ e ∈ o.after, Region.binds .any e = true → e.on ≠ i) → oi.apart ops o = true ∧ (ld = true → quiet P o = true)
  | [], _, _, k, o, ho => by simp at ho
  | x :: r, j, h, k, o, ho => by
    intro hne hun hno
    simp only [freeB, Bool.and_eq_true] at h
    obtain ⟨h1, h2⟩ := h
    cases k with
    | zero =>
      simp only [List.getElem?_cons_zero, Option.some.injEq] at ho
      subst ho
      simp only [Nat.add_zero] at hne hun
      simp only [Bool.or_eq_true, beq_iff_eq, hne, false_or, hun, Bool.false_eq_true, Bool.and_eq_true] at h1
      rcases h1 with h1 | h1
      · simp only [waitsFor, List.any_eq_true, Bool.and_eq_true, beq_iff_eq] at h1
        obtain ⟨e, he, hb, heq⟩ := h1
        exact absurd heq (hno e (Array.mem_toList_iff.1 he) hb)
      · refine ⟨h1.1, fun hl => ?_⟩
        rcases h1.2 with h3 | h3
        · rw [hl] at h3; simp at h3
        · exact h3
    | succ k =>
      have := freeB_spec h2 k o (by simpa using ho) (by omega) (by rw [show j + 1 + k = j + (k + 1) by omega]; exact hun) hno
      exact this

theorem allReadyIn_spec {ops : List Oper} {done : Nat} {seen : List Nat} : ∀ {l : List Oper} {j : Nat}, allReadyIn ops done seen l j = true →
    ∀ k o, l[k]? = some o → has done (j + k) = false → bindsIn done o = true → j + k ∈ seen
  | [], _, _, k, o, ho => by simp at ho
  | x :: r, j, h, k, o, ho => by
    intro hun hb
    simp only [allReadyIn, Bool.and_eq_true] at h
    cases k with
    | zero =>
      simp only [List.getElem?_cons_zero, Option.some.injEq] at ho
      subst ho
      simp only [Nat.add_zero] at hun ⊢
      have := h.1
      simp only [hun, hb, Bool.not_true, Bool.or_false, Bool.false_or] at this
      simpa using this
    | succ k =>
      have := allReadyIn_spec h.2 k o (by simpa using ho) (by rw [show j + 1 + k = j + (k + 1) by omega]; exact hun) hb
      rw [show j + 1 + k = j + (k + 1) by omega] at this
      exact this

theorem noneReady_spec {done : Nat} : ∀ {l : List Oper} {j : Nat}, noneReady done l j = true → ∀ k o, l[k]? = some o → has done (j + k) = true
  | [], _, _, k, o, ho => by simp at ho
  | x :: r, j, h, k, o, ho => by
    simp only [noneReady, Bool.and_eq_true] at h
    cases k with
    | zero => simpa using h.1
    | succ k =>
      have := noneReady_spec h.2 k o (by simpa using ho)
      rw [show j + 1 + k = j + (k + 1) by omega] at this
      exact this

/-- No selects; what waits waits for what is there. -/
def plainOps (ops : List Oper) : Bool := ops.all fun o => noSel o.op && o.after.toList.all fun e => Nat.blt e.on ops.length

theorem plainOps_sel {ops : Array Oper} (h : plainOps ops.toList = true) {i : Nat} {o : Oper} (ho : ops[i]? = some o) : noSel o.op = true := by
  simp only [plainOps, List.all_eq_true, Bool.and_eq_true] at h
  exact (h o (Array.mem_toList_iff.2 (Array.mem_of_getElem? ho))).1

theorem plainOps_lt {ops : Array Oper} (h : plainOps ops.toList = true) (j : Nat) (o : Oper) (ho : ops[j]? = some o) (e : Edge) (he : e ∈ o.after) : e.on < ops.size := by
  simp only [plainOps, List.all_eq_true, Bool.and_eq_true] at h
  have := (h o (Array.mem_toList_iff.2 (Array.mem_of_getElem? ho))).2 e (Array.mem_toList_iff.2 he)
  have := Nat.le_of_ble_eq_true this
  simp only [Array.length_toList] at this
  exact this

/-- What stands behind a region. -/
def Post (n : Nat) (d0 : List Deferred) (w0 : World) (QI : Exit → Tm → Heap → Prop) (e : Exit) (a : Act) (w : World) : Prop :=
  (match e with | .panic _ => False | .outgrown => False | _ => True) ∧ ∃ t, Rel n t a ∧ Fr w0 w ∧ a.defers = d0 ∧ QI e t w.heap

def countF (listed : Array Bool) : Nat := listed.toList.count false

theorem countF_set {listed : Array Bool} {i : Nat} (hi : i < listed.size) (h : listed.getD i true = false) : countF listed = countF (listed.setIfInBounds i true) + 1 := by
  have hi' : i < listed.toList.length := by simpa using hi
  have hv : listed.toList[i] = false := by simpa [hi] using h
  unfold countF
  rw [Array.toList_setIfInBounds, List.count_set hi']
  simp only [hv]
  have : 0 < listed.toList.count false := List.count_pos_iff.2 (hv ▸ List.getElem_mem hi')
  show _ = _ - 1 + 0 + 1
  omega

theorem quietAt_iff {P : Program} {ops : Array Oper} {i : Nat} {o : Oper} (ho : ops[i]? = some o) : quietAt P ops i ↔ quiet P o = true :=
  ⟨fun h => h o ho, fun h o' ho' => by rw [ho] at ho'; cases ho'; exact h⟩

theorem behind_spec {P : Program} {o : Oper} {W : Watch} {K : Tm → Heap → Prop} {t : Tm} {h : Heap} (H : behind P o W K t h) : (quiet P o = false → AllW (liveW o W) h) ∧ K t h := by
  unfold behind at H
  cases hq : quiet P o with
  | true => simp only [hq] at H; exact ⟨fun h => (by cases h), H⟩
  | false => simp only [hq] at H; exact ⟨fun _ => ((holdW_iff _ h _).1 H).1, ((holdW_iff _ h _).1 H).2⟩

theorem isLoad_quiet {P : Program} {o : Oper} (h : isLoad o = true) : quiet P o = true := by
  obtain ⟨dst, op, type, pos, after, guard⟩ := o
  cases op <;> first | rfl | (simp [isLoad] at h)

theorem firstable_quiet {P : Program} {o : Oper} (h : firstable P o = true) : quiet P o = true := by
  unfold firstable at h; unfold quiet
  split at h <;> simp_all

theorem sch_sound {P : Program} {n : Nat} {ops : Array Oper} {QI : Exit → Tm → Heap → Prop} {d0 : List Deferred} {w0 : World} (hp : plainOps ops.toList = true) (s : Sch) :
    (∀ (W : Watch) (done : Nat) (listed : Array Bool) (t : Tm) (a : Act) (w : World), schOk P ops s done [] = true → Bits ops done listed → Rel n t a → Fr w0 w → a.defers = d0 →
      schI P n ops.toList s W (QI .normal) t w.heap → wpAnyC P ops (Post n d0 w0 QI) W (countF listed) listed a w) ∧
    (∀ (W : Watch) (done : Nat) (seen : List Nat) (listed : Array Bool) (t : Tm) (a : Act) (w : World), schOk P ops s done seen = true → Bits ops done listed → Rel n t a → Fr w0 w → a.defers = d0 →
      (s = .stop ∨ ∃ i r rest, s = .alt i r rest) →
      schI P n ops.toList s W (QI .normal) t w.heap → ∀ j ∈ Region.ready .any ops listed, j ∉ seen →
        wpOp P ops (Post n d0 w0 QI) j (fun a' w' => (quietAt P ops j → Keeps w.heap w'.heap) ∧ (∀ o, ops[j]? = some o → quiet P o = false → AllW (liveW o W) w'.heap) ∧ wpAnyC P ops (Post n d0 w0 QI) W (countF listed - 1) (listed.setIfInBounds j true) a' w') a w) := by
  have hlt := plainOps_lt hp
  have hsel : ∀ (j : Nat) (o : Oper) (cs : Array SelectCase) (bb : Bool), ops[j]? = some o → o.op ≠ .select cs bb := fun j o cs bb hj e => by
    have := plainOps_sel hp hj; rw [e] at this; cases this
  induction s with
  | done =>
    refine ⟨fun W done listed t a w hok b r hf hd H => ?_, fun _ _ _ _ _ _ _ _ _ _ _ _ h => ?_⟩
    · simp only [schOk, Bool.and_eq_true] at hok
      have hnil : Region.ready .any ops listed = [] := by
        rw [List.eq_nil_iff_forall_not_mem]
        intro j hj
        obtain ⟨o, ho, h0, _⟩ := (mem_ready_bits b hlt j).1 hj
        have := noneReady_spec hok.2 j o (by rw [← ho]; simp)
        rw [Nat.zero_add, h0] at this; cases this
      have hq : Post n d0 w0 QI .normal a w := ⟨trivial, t, r, hf, hd, H⟩
      cases countF listed with
      | zero => exact ⟨hnil, hq⟩
      | succ k => exact ⟨fun _ => hq, by rw [hnil]; intro i hi; cases hi⟩
    · rcases h with h | ⟨_, _, _, h⟩ <;> cases h
  | stop =>
    refine ⟨fun W done listed t a w hok => by simp [schOk] at hok, fun W done seen listed t a w hok b r hf hd _ H j hj hjs => ?_⟩
    simp only [schOk, Bool.and_eq_true] at hok
    obtain ⟨o, ho, h0, hb⟩ := (mem_ready_bits b hlt j).1 hj
    have := allReadyIn_spec hok.2 j o (by rw [← ho]; simp) (by rw [Nat.zero_add]; exact h0) hb
    rw [Nat.zero_add] at this
    exact absurd this hjs
  | early i r ih =>
    refine ⟨fun W done listed t a w hok b rel hf hd H => ?_, fun _ _ _ _ _ _ _ _ _ _ _ _ h => ?_⟩
    · simp only [schOk, Bool.and_eq_true] at hok
      obtain ⟨⟨⟨_, hr⟩, hfirst⟩, hok⟩ := hok
      simp only [schI, nthO_eq] at H
      unfold readyB at hr
      unfold earlyB at hfirst
      rw [nthO_eq] at hr hfirst
      cases ho : ops.toList[i]? with
      | none => simp [ho] at hr
      | some o =>
        simp only [ho] at H hr hfirst
        have ho' : ops[i]? = some o := by rw [← ho]; simp
        have hi : i < ops.size := (Array.getElem?_eq_some_iff.1 ho').1
        simp only [Bool.and_eq_true, Bool.not_eq_true'] at hr hfirst
        have hmem : i ∈ Region.ready .any ops listed := (mem_ready_bits b hlt i).2 ⟨o, ho', hr.1, hr.2⟩
        obtain ⟨v, t', W', hat, hy, hall, rel', H'⟩ := opE_yields (plainOps_sel hp ho') rel H
        have hrec := ih.1 _ _ _ t' (a.put o.dst v) w hok (b.set i) rel' hf (by rw [put_defers', hd]) H'
        have hcnt := countF_set (listed := listed) (i := i) (by rw [b.size]; exact hi) (by rw [b.bit i hi]; exact hr.1)
        rw [hcnt]
        have hfree := fun j oj (hj : ops[j]? = some oj) (hne : j ≠ i) (hun : listed.getD j true = false) hno =>
          freeB_spec hfirst.2 j oj (by rw [← hj]; simp) (by omega) (by rw [Nat.zero_add, ← b.bit j (Array.getElem?_eq_some_iff.1 hj).1]; exact hun) hno
        refine wpAnyC_weak _ _ _ _ (wpAnyC_first (S := fun w' => AllW W' w'.heap) ho' ((quietAt_iff ho').2 (isLoad_quiet hfirst.1)) hsel (fun c a w h => h.1.elim) _ listed a w (fun j oj hj hne hun hno => (hfree j oj hj hne hun hno).1)
          (fun j oj hj hne hun hno w1 w2 h1 h2 h3 => ?_) hmem hy hall hrec)
        cases hqj : quiet P oj with
        | true => exact h1.keeps (h2 ((quietAt_iff hj).2 hqj))
        | false =>
          intro x hx
          refine (h3 hqj).live x (List.mem_append_left _ hx) ?_
          rw [hat x hx]
          cases hw : waitsFor oj i with
          | false => rfl
          | true =>
            simp only [waitsFor, List.any_eq_true, Bool.and_eq_true, beq_iff_eq] at hw
            obtain ⟨e, he, hb, heq⟩ := hw
            exact absurd heq (hno e (Array.mem_toList_iff.1 he) hb)
    · rcases h with h | ⟨_, _, _, h⟩ <;> cases h
  | one i r ih =>
    refine ⟨fun W done listed t a w hok b rel hf hd H => ?_, fun _ _ _ _ _ _ _ _ _ _ _ _ h => ?_⟩
    · simp only [schOk, Bool.and_eq_true] at hok
      obtain ⟨⟨⟨_, hr⟩, hfirst⟩, hok⟩ := hok
      simp only [schI, nthO_eq] at H
      unfold readyB at hr
      unfold firstB at hfirst
      rw [nthO_eq] at hr hfirst
      cases ho : ops.toList[i]? with
      | none => simp [ho] at hr
      | some o =>
        simp only [ho] at H hr hfirst
        have ho' : ops[i]? = some o := by rw [← ho]; simp
        have hi : i < ops.size := (Array.getElem?_eq_some_iff.1 ho').1
        simp only [Bool.and_eq_true, Bool.not_eq_true'] at hr hfirst
        have hmem : i ∈ Region.ready .any ops listed := (mem_ready_bits b hlt i).2 ⟨o, ho', hr.1, hr.2⟩
        obtain ⟨v, t', hy, hyp, rel', H'⟩ := op_yields (plainOps_sel hp ho') hfirst.1 rel H
        have hrec := ih.1 W _ _ t' (a.put o.dst v) w hok (b.set i) rel' hf (by rw [put_defers', hd]) (behind_spec H').2
        have hcnt := countF_set (listed := listed) (i := i) (by rw [b.size]; exact hi) (by rw [b.bit i hi]; exact hr.1)
        rw [hcnt]
        have hfree := fun j oj (hj : ops[j]? = some oj) (hne : j ≠ i) (hun : listed.getD j true = false) hno =>
          freeB_spec hfirst.2 j oj (by rw [← hj]; simp) (by omega) (by rw [Nat.zero_add, ← b.bit j (Array.getElem?_eq_some_iff.1 hj).1]; exact hun) hno
        have hqi := (quietAt_iff ho').2 (firstable_quiet hfirst.1)
        cases hpu : isPure P o with
        | true =>
          have hy' : Yields P ops o v a := hyp (by unfold isPure at hpu; split at hpu <;> simp_all)
          exact wpAnyC_first (S := fun _ => True) ho' hqi hsel (fun c a w h => h.1.elim) _ listed a w (fun j oj hj hne hun hno => (hfree j oj hj hne hun hno).1)
            (fun _ _ _ _ _ _ _ _ _ _ _ => trivial) hmem hy'.yieldsIf trivial hrec
        | false =>
          refine wpAnyC_first (S := fun w' => Keeps w.heap w'.heap) ho' hqi hsel (fun c a w h => h.1.elim) _ listed a w (fun j oj hj hne hun hno => (hfree j oj hj hne hun hno).1)
            (fun j oj hj hne hun hno w1 w2 h1 h2 _ => h1.trans (h2 fun o2 ho2 => ?_)) hmem hy (Keeps.refl _) hrec
          rw [hj] at ho2; cases ho2
          exact (hfree j oj hj hne hun hno).2 (by simp [hpu])
    · rcases h with h | ⟨_, _, _, h⟩ <;> cases h
  | alt i r rest ihr ihrest =>
    have B : ∀ (W : Watch) (done : Nat) (seen : List Nat) (listed : Array Bool) (t : Tm) (a : Act) (w : World), schOk P ops (.alt i r rest) done seen = true → Bits ops done listed → Rel n t a → Fr w0 w → a.defers = d0 →
      schI P n ops.toList (.alt i r rest) W (QI .normal) t w.heap → ∀ j ∈ Region.ready .any ops listed, j ∉ seen →
        wpOp P ops (Post n d0 w0 QI) j (fun a' w' => (quietAt P ops j → Keeps w.heap w'.heap) ∧ (∀ o, ops[j]? = some o → quiet P o = false → AllW (liveW o W) w'.heap) ∧ wpAnyC P ops (Post n d0 w0 QI) W (countF listed - 1) (listed.setIfInBounds j true) a' w') a w := by
      intro W done seen listed t a w hok b rel hf hd H j hj hjs
      simp only [schOk, Bool.and_eq_true] at hok
      obtain ⟨⟨hr, hokr⟩, hokrest⟩ := hok
      simp only [schI, nthO_eq] at H
      unfold readyB at hr
      rw [nthO_eq] at hr
      cases ho : ops.toList[i]? with
      | none => simp [ho] at hr
      | some o =>
        simp only [ho] at H hr
        have ho' : ops[i]? = some o := by rw [← ho]; simp
        have hi : i < ops.size := (Array.getElem?_eq_some_iff.1 ho').1
        simp only [Bool.and_eq_true, Bool.not_eq_true'] at hr
        have hop : opO P n ops.toList o (behind P o W (schI P n ops.toList r W (QI .normal))) t w.heap := by
          cases rest <;> first | exact H | exact H.1
        by_cases hji : j = i
        · subst hji
          refine wpOp_mono (fun a' w' h => ?_) (op_aft ho' (plainOps_sel hp ho') rel hop)
          obtain ⟨hkeep, t', rel', hf', hd', H'⟩ := h
          have := ihr.1 W _ _ t' a' w' hokr (b.set j) rel' (hf.trans hf') (by rw [hd', hd]) (behind_spec H').2
          have hcnt := countF_set (listed := listed) (i := j) (by rw [b.size]; exact hi) (by rw [b.bit j hi]; exact hr.1)
          rw [hcnt]
          exact ⟨fun hq => hkeep ((quietAt_iff ho').1 hq), fun o2 ho2 hq => (by rw [ho'] at ho2; cases ho2; exact (behind_spec H').1 hq), this⟩
        · cases hrest : rest with
          | done => subst hrest; simp [schOk] at hokrest
          | one i2 r2 => subst hrest; simp [schOk] at hokrest
          | early i2 r2 => subst hrest; simp [schOk] at hokrest
          | stop =>
            subst hrest
            exact ihrest.2 W done (i :: seen) listed t a w hokrest b rel hf hd (.inl rfl) trivial j hj (by simp [hji, hjs])
          | alt i2 r2 rest2 =>
            subst hrest
            exact ihrest.2 W done (i :: seen) listed t a w hokrest b rel hf hd (.inr ⟨_, _, _, rfl⟩) H.2 j hj (by simp [hji, hjs])
    refine ⟨fun W done listed t a w hok b rel hf hd H => ?_, fun W done seen listed t a w hok b rel hf hd _ H => B W done seen listed t a w hok b rel hf hd H⟩
    have hB := B W done [] listed t a w hok b rel hf hd H
    -- operation i is ready, so there is one to come
    have hr : i ∈ Region.ready .any ops listed := by
      simp only [schOk, Bool.and_eq_true] at hok
      have hr := hok.1.1
      unfold readyB at hr
      rw [nthO_eq] at hr
      cases ho : ops.toList[i]? with
      | none => simp [ho] at hr
      | some o =>
        simp only [ho, Bool.and_eq_true, Bool.not_eq_true'] at hr
        exact (mem_ready_bits b hlt i).2 ⟨o, by rw [← ho]; simp, hr.1, hr.2⟩
    have hi : i < listed.size := by
      obtain ⟨o, ho, _⟩ := (mem_ready_bits b hlt i).1 hr
      rw [b.size]; exact (Array.getElem?_eq_some_iff.1 ho).1
    have hcnt := countF_set (listed := listed) (i := i) hi (mem_ready.1 hr).1
    cases hc : countF listed with
    | zero => omega
    | succ k =>
      rw [hc] at hB
      exact ⟨fun hnil => (by rw [hnil] at hr; cases hr), fun j hj => hB j hj (by simp)⟩

theorem bits_zero (ops : Array Oper) : Bits ops 0 (Array.replicate ops.size false) := ⟨by simp, fun i hi => by simp [hi, has]⟩
theorem countF_zero (ops : Array Oper) : countF (Array.replicate ops.size false) = ops.size := by simp [countF]

/-- **A REGION THAT DRAWS ITS ORDER.** -/
theorem region_draw_sound {P : Program} {n : Nat} {id : Nat} {ops : Array Oper} {QI : Exit → Tm → Heap → Prop} (hm : P.follows .mixedOrders = true) (hp : plainOps ops.toList = true) {s : Sch}
    (hok : schOk P ops s 0 [] = true) {t : Tm} {a : Act} {w : World} (rel : Rel n t a) (H : schI P n ops.toList s [] (QI .normal) t w.heap) :
    (Code.region id ops true).wp P (Post n a.defers w QI) a w := by
  refine wp_region_any hm (wpAny_of_C (W := []) _ _ _ _ ?_)
  have := (sch_sound (w0 := w) hp s).1 [] 0 (Array.replicate ops.size false) t a { w with drawn := w.drawn + 1 } hok (bits_zero ops) rel ⟨rfl, rfl, rfl⟩ rfl H
  rw [countF_zero] at this
  exact this

/-- **A REGION IN THE ORDER OF THE TEXT.** -/
theorem seq_sound {P : Program} {n : Nat} {ops : Array Oper} {QI : Exit → Tm → Heap → Prop} {d0 : List Deferred} {w0 : World} (hp : plainOps ops.toList = true) : ∀ (l : List Oper) (k : Nat), (∀ j, l[j]? = ops[k + j]?) → ∀ (t : Tm) (a : Act) (w : World),
    Rel n t a → Fr w0 w → a.defers = d0 → seqI P n ops.toList l (QI .normal) t w.heap → wpOps P ops (Post n d0 w0 QI) (List.range' k l.length) a w := by
  intro l
  induction l with
  | nil => intro k _ t a w rel hf hd H; exact ⟨trivial, t, rel, hf, hd, H⟩
  | cons o r ih =>
    intro k hk t a w rel hf hd H
    have ho : ops[k]? = some o := by have := hk 0; simpa using this.symm
    rw [List.length_cons, List.range'_succ, wpOps_cons]
    refine wpOp_mono (fun a' w' h => ?_) (op_aft ho (plainOps_sel hp ho) rel H)
    obtain ⟨_, t', rel', hf', hd', H'⟩ := h
    exact ih (k + 1) (fun j => by have := hk (j + 1); simpa [Nat.add_assoc, Nat.add_comm 1] using this) t' a' w' rel' (hf.trans hf') (by rw [hd', hd]) H'

theorem region_sound {P : Program} {n : Nat} {id : Nat} {ops : Array Oper} {QI : Exit → Tm → Heap → Prop} (hp : plainOps ops.toList = true)
    {t : Tm} {a : Act} {w : World} (rel : Rel n t a) (H : seqI P n ops.toList ops.toList (QI .normal) t w.heap) :
    (Code.region id ops false).wp P (Post n a.defers w QI) a w := by
  refine wp_region ?_
  have := seq_sound (w0 := w) (d0 := a.defers) hp ops.toList 0 (fun j => by simp) t a w rel (Fr.refl w) rfl H
  rw [Array.length_toList, ← List.range_eq_range'] at this
  exact this

end Go.Sh
