/- Sh, part 1: heaps, and what an operation's own semantics ('Sem') come to on a heap alone, whatever the tape says. General: for every program. -/
import Derived.Orders
import Derived.OrdersHeld
import Derived.Scope
import Derived.KernelRfl
namespace Go.Sh

abbrev Heap := Array Obj

def cellH (h : Heap) (a : Addr) : Option Value :=
  match h[a.block]? with
  | some (.cells c _ _) => if a.spot.isSome then none else c[a.off]?
  | _ => none

def shapeH (h : Heap) (r : Nat) : Option (TypeId × Nat) :=
  match h[r]? with
  | some (.cells c elem _) => some (elem, c.size)
  | _ => none

def frozenH (h : Heap) (a : Addr) : Bool :=
  match h[a.block]? with
  | some (.cells _ _ (lo, hi)) => lo ≤ a.off && a.off < hi
  | _ => false

def freezeH (h : Heap) (a : Addr) (n : Nat) : Heap :=
  if n = 0 then h else
  h.modify a.block fun
      | .cells c elem (lo, hi) => .cells c elem (if lo == hi then (a.off, a.off + n) else (min lo a.off, max hi (a.off + n)))
      | o => o

def setH (h : Heap) (a : Addr) (v : Value) : Heap :=
  h.modify a.block fun
      | .cells c elem frozen => .cells (if a.spot.isSome then c else c.setIfInBounds a.off v) elem frozen
      | o => o

def isCells : Obj → Bool
  | .cells .. => true
  | _ => false

def one1 : Value → Bool
  | .agg _ | .tuple _ => false
  | _ => true

/-- What a piece of semantics comes to on a heap, at every tape. -/
def semI {α : Type} (p : Program) : Sem α → Heap → (α → Heap → Prop) → Prop
  | .pure a, h, K => K a h
  | .load _ a k, h, K => ∃ v, cellH h a = some v ∧ semI p (k v) h K
  | .store _ a v k, h, K => one1 v = true ∧ (∃ u, cellH h a = some u) ∧ frozenH h a = false ∧ semI p k (setH h a v) K
  | .new o k, h, K => semI p (k h.size) (h.push o) K
  | .shape r k, h, K => semI p (k (shapeH h r)) h K
  | .freeze a n k, h, K => semI p k (freezeH h a n) K
  | .frozen a k, h, K => semI p (k (frozenH h a)) h K
  | .getObj r k, h, K => ∃ o, h[r]? = some o ∧ isCells o = false ∧ semI p (k o) h K
  | .setObj r o k, h, K => ∃ u, h[r]? = some u ∧ isCells u = false ∧ semI p k (h.setIfInBounds r o) K
  | .choose q k, h, K => if q.forced then semI p (k 0) h K else ∀ t, semI p (k (q.cut t)) h K
  | .sys _ _, _, _ => False
  | .program k, h, K => semI p (k p) h K
  | .mark _ k, h, K => semI p k h K
  | .halt _, _, _ => False

/-- The world but for its heap and its tape's place. -/
structure Fr (w w' : World) : Prop where
  tape : w'.tape = w.tape
  os : w'.os = w.os
  output : w'.output = w.output

theorem Fr.refl (w : World) : Fr w w := ⟨rfl, rfl, rfl⟩
theorem Fr.trans {a b c : World} (h : Fr a b) (k : Fr b c) : Fr a c := ⟨k.tape.trans h.tape, k.os.trans h.os, k.output.trans h.output⟩

theorem semI_run {α : Type} (p : Program) (s : Sem α) : ∀ (h : Heap) (K : α → Heap → Prop), semI p s h K → ∀ w : World, w.heap = h →
    ∃ a w', s.run p w = .ok a w' ∧ Fr w w' ∧ K a w'.heap := by
  induction s with
  | pure a => intro h K H w hw; exact ⟨a, w, rfl, Fr.refl w, hw ▸ H⟩
  | load m a k ih =>
    intro h K H w hw
    obtain ⟨v, hv, H⟩ := H
    have hc : w.cell? a = some v := by rw [← hv, ← hw]; rfl
    obtain ⟨x, w', hr, hf, hk⟩ := ih v h K H w hw
    exact ⟨x, w', by simp only [Sem.run, hc]; exact hr, hf, hk⟩
  | store m a v k ih =>
    intro h K H w hw
    obtain ⟨h1, ⟨u, hu⟩, hfz, H⟩ := H
    have hc : w.cell? a = some u := by rw [← hu, ← hw]; rfl
    have hz : w.frozen? a = false := by rw [← hfz, ← hw]; rfl
    obtain ⟨x, w', hr, hf, hk⟩ := ih (setH h a v) K H (w.setCell a v) (by rw [← hw]; rfl)
    refine ⟨x, w', ?_, ⟨hf.tape, hf.os, hf.output⟩, hk⟩
    cases v <;> first | (simp [one1] at h1; done) | (simp only [Sem.run, hc, hz, Bool.false_eq_true, if_false]; exact hr)
  | new o k ih =>
    intro h K H w hw
    subst hw
    obtain ⟨x, w', hr, hf, hk⟩ := ih w.heap.size (w.heap.push o) K H { w with heap := w.heap.push o } rfl
    exact ⟨x, w', hr, ⟨hf.tape, hf.os, hf.output⟩, hk⟩
  | shape r k ih =>
    intro h K H w hw
    subst hw
    obtain ⟨x, w', hr, hf, hk⟩ := ih (shapeH w.heap r) w.heap K H w rfl
    exact ⟨x, w', hr, hf, hk⟩
  | freeze a n k ih =>
    intro h K H w hw
    subst hw
    obtain ⟨x, w', hr, hf, hk⟩ := ih (freezeH w.heap a n) K H (w.freeze a n) (by unfold World.freeze freezeH; split <;> rfl)
    have : Fr w (w.freeze a n) := by unfold World.freeze; split <;> exact ⟨rfl, rfl, rfl⟩
    exact ⟨x, w', hr, this.trans hf, hk⟩
  | frozen a k ih =>
    intro h K H w hw
    subst hw
    obtain ⟨x, w', hr, hf, hk⟩ := ih (frozenH w.heap a) w.heap K H w rfl
    exact ⟨x, w', hr, hf, hk⟩
  | getObj r k ih =>
    intro h K H w hw
    subst hw
    obtain ⟨o, ho, hn, H⟩ := H
    obtain ⟨x, w', hr, hf, hk⟩ := ih o w.heap K H w rfl
    refine ⟨x, w', ?_, hf, hk⟩
    simp only [Sem.run, ho]
    cases o <;> first | (simp [isCells] at hn; done) | exact hr
  | setObj r o k ih =>
    intro h K H w hw
    subst hw
    obtain ⟨u, ho, hn, H⟩ := H
    obtain ⟨x, w', hr, hf, hk⟩ := ih (w.heap.setIfInBounds r o) K H { w with heap := w.heap.setIfInBounds r o } rfl
    refine ⟨x, w', ?_, ⟨hf.tape, hf.os, hf.output⟩, hk⟩
    simp only [Sem.run, ho]
    cases u <;> first | (simp [isCells] at hn; done) | exact hr
  | choose q k ih =>
    intro h K H w hw
    subst hw
    simp only [semI] at H
    by_cases hq : q.forced = true
    · rw [if_pos hq] at H
      obtain ⟨x, w', hr, hf, hk⟩ := ih 0 w.heap K H w rfl
      exact ⟨x, w', by simp only [Sem.run, hq, if_true]; exact hr, hf, hk⟩
    · rw [if_neg hq] at H
      obtain ⟨x, w', hr, hf, hk⟩ := ih _ w.heap K (H (w.tape w.drawn q)) { w with drawn := w.drawn + 1 } rfl
      refine ⟨x, w', ?_, ⟨hf.tape, hf.os, hf.output⟩, hk⟩
      simp only [Sem.run, hq, Bool.false_eq_true, if_false]; exact hr
  | sys c k ih => intro h K H; exact H.elim
  | program k ih =>
    intro h K H w hw
    obtain ⟨x, w', hr, hf, hk⟩ := ih p h K H w hw
    exact ⟨x, w', hr, hf, hk⟩
  | mark m k ih =>
    intro h K H w hw
    obtain ⟨x, w', hr, hf, hk⟩ := ih h K H w hw
    exact ⟨x, w', hr, hf, hk⟩
  | halt e => intro h K H; exact H.elim

theorem semI_bind {α β : Type} (p : Program) (s : Sem α) (f : α → Sem β) : ∀ (h : Heap) (K : β → Heap → Prop),
    semI p (s >>= f) h K ↔ semI p s h (fun a h' => semI p (f a) h' K) := by
  show ∀ (h : Heap) (K : β → Heap → Prop), semI p (Sem.bind s f) h K ↔ _
  induction s with
  | pure a => intro h K; rfl
  | load m a k ih => intro h K; simp only [Sem.bind, semI, ih]
  | store m a v k ih => intro h K; simp only [Sem.bind, semI, ih]
  | new o k ih => intro h K; simp only [Sem.bind, semI, ih]
  | shape r k ih => intro h K; simp only [Sem.bind, semI, ih]
  | freeze a n k ih => intro h K; simp only [Sem.bind, semI, ih]
  | frozen a k ih => intro h K; simp only [Sem.bind, semI, ih]
  | getObj r k ih => intro h K; simp only [Sem.bind, semI, ih]
  | setObj r o k ih => intro h K; simp only [Sem.bind, semI, ih]
  | choose q k ih => intro h K; simp only [Sem.bind, semI, ih]
  | sys c k ih => intro h K; rfl
  | program k ih => intro h K; simp only [Sem.bind, semI, ih]
  | mark m k ih => intro h K; simp only [Sem.bind, semI, ih]
  | halt e => intro h K; rfl

theorem semI_mono {α : Type} (p : Program) (s : Sem α) : ∀ (h : Heap) {K K' : α → Heap → Prop}, semI p s h K → (∀ a h', K a h' → K' a h') → semI p s h K' := by
  induction s with
  | pure a => intro h K K' H hk; exact hk _ _ H
  | load m a k ih => intro h K K' H hk; obtain ⟨v, hv, H⟩ := H; exact ⟨v, hv, ih v h H hk⟩
  | store m a v k ih => intro h K K' H hk; obtain ⟨h1, h2, h3, H⟩ := H; exact ⟨h1, h2, h3, ih _ H hk⟩
  | new o k ih => intro h K K' H hk; exact ih _ _ H hk
  | shape r k ih => intro h K K' H hk; exact ih _ _ H hk
  | freeze a n k ih => intro h K K' H hk; exact ih _ H hk
  | frozen a k ih => intro h K K' H hk; exact ih _ _ H hk
  | getObj r k ih => intro h K K' H hk; obtain ⟨v, hv, h2, H⟩ := H; exact ⟨v, hv, h2, ih v h H hk⟩
  | setObj r o k ih => intro h K K' H hk; obtain ⟨v, hv, h2, H⟩ := H; exact ⟨v, hv, h2, ih _ H hk⟩
  | choose q k ih =>
    intro h K K' H hk
    simp only [semI] at H ⊢
    split at H
    · rename_i hq; rw [if_pos hq]; exact ih _ _ H hk
    · rename_i hq; rw [if_neg hq]; exact fun t => ih _ _ (H t) hk
  | sys c k ih => intro h K K' H; exact H.elim
  | program k ih => intro h K K' H hk; exact ih _ _ H hk
  | mark m k ih => intro h K K' H hk; exact ih _ H hk
  | halt e => intro h K K' H; exact H.elim

/-- What needs neither memory nor tape. -/
def runP {α : Type} (p : Program) : Sem α → Option α
  | .pure a => some a
  | .program k => runP p (k p)
  | .mark _ k => runP p k
  | _ => none

theorem runP_run {α : Type} (p : Program) (s : Sem α) {a : α} (h : runP p s = some a) : ∀ w, s.run p w = .ok a w := by
  induction s with
  | pure b => intro w; simp only [runP, Option.some.injEq] at h; subst h; rfl
  | program k ih => intro w; exact ih p h w
  | mark m k ih => intro w; exact ih h w
  | _ => simp [runP] at h

/-- What makes blocks, and does nothing else with memory. -/
def runA {α : Type} (p : Program) : Sem α → Heap → Option (α × Heap)
  | .pure a, h => some (a, h)
  | .program k, h => runA p (k p) h
  | .mark _ k, h => runA p k h
  | .new o k, h => runA p (k h.size) (h.push o)
  | _, _ => none

theorem runA_semI {α : Type} (p : Program) (s : Sem α) : ∀ {h h' : Heap} {a : α}, runA p s h = some (a, h') → ∀ K : α → Heap → Prop, K a h' → semI p s h K := by
  induction s with
  | pure b => intro h h' a H K hk; simp only [runA, Option.some.injEq, Prod.mk.injEq] at H; obtain ⟨rfl, rfl⟩ := H; exact hk
  | program k ih => intro h h' a H K hk; exact ih p H K hk
  | mark m k ih => intro h h' a H K hk; exact ih H K hk
  | new o k ih => intro h h' a H K hk; exact ih _ H K hk
  | _ => intro h h' a H; simp [runA] at H

end Go.Sh
