/- Sh, part 2: one operation, on a heap: what it comes to, with the shapes of what is read and told named; and that the model does just that. General: for every program. -/
import Derived.Test.YtdjofpdmdbcgjadShSem
namespace Go.Sh

theorem run_bind {α β : Type} (p : Program) (s : Sem α) (f : α → Sem β) : ∀ w, (s >>= f).run p w = match s.run p w with | .ok a w' => (f a).run p w' | .halt e w' => .halt e w' := by
  show ∀ w, (Sem.bind s f).run p w = _
  induction s with
  | pure a => intro w; rfl
  | load m a k ih =>
    intro w; simp only [Sem.bind, Sem.run]
    split
    · exact ih _ w
    · split
      · exact ih _ w
      · rfl
  | store m a v k ih =>
    intro w
    cases v <;> simp only [Sem.bind, Sem.run] <;> (split <;> (split <;> first | rfl | exact ih _))
  | new o k ih => intro w; exact ih _ _
  | shape r k ih => intro w; exact ih _ _
  | freeze a n k ih => intro w; exact ih _
  | frozen a k ih => intro w; exact ih _ _
  | getObj r k ih => intro w; simp only [Sem.bind, Sem.run]; split <;> first | rfl | exact ih _ _
  | setObj r o k ih => intro w; simp only [Sem.bind, Sem.run]; split <;> first | rfl | exact ih _
  | choose q k ih => intro w; simp only [Sem.bind, Sem.run]; split <;> exact ih _ _
  | sys c k ih => intro w; exact ih _ _
  | program k ih => intro w; exact ih _ _
  | mark m k ih => intro w; exact ih _
  | halt e => intro w; rfl

theorem run_pure {α : Type} (p : Program) (a : α) (w : World) : (pure a : Sem α).run p w = .ok a w := rfl

theorem run_underlying' {P : Program} {t : TypeId} {d : TypeDesc} (h : P.underlying t = some d) (w : World) : (underlying t).run P w = .ok d w := by
  simp only [underlying, run_bind, program, Sem.run, h]; rfl

theorem run_typeInfo' {P : Program} {t : TypeId} {i : TypeInfo} (h : P.info? t = some i) (w : World) : (typeInfo t).run P w = .ok i w := by
  simp only [typeInfo, run_bind, program, Sem.run, h]; rfl

theorem run_sizeOf' {P : Program} {t : TypeId} {i : TypeInfo} (h : P.info? t = some i) (w : World) : (sizeOf t).run P w = .ok i.size w := by
  simp only [sizeOf, run_bind, run_typeInfo' h]; rfl

theorem semI_underlying {P : Program} {t : TypeId} {d : TypeDesc} (hd : P.underlying t = some d) (h : Heap) (K : TypeDesc → Heap → Prop) : semI P (underlying t) h K ↔ K d h := by
  simp only [underlying, semI_bind, program, semI, hd]; rfl

theorem semI_typeInfo {P : Program} {t : TypeId} {d : TypeInfo} (hd : P.info? t = some d) (h : Heap) (K : TypeInfo → Heap → Prop) : semI P (typeInfo t) h K ↔ K d h := by
  simp only [typeInfo, semI_bind, program, semI, hd]; rfl

theorem semI_sizeOf {P : Program} {t : TypeId} {d : TypeInfo} (hd : P.info? t = some d) (h : Heap) (K : Nat → Heap → Prop) : semI P (sizeOf t) h K ↔ K d.size h := by
  simp only [sizeOf, semI_bind, semI_typeInfo hd]; rfl

theorem semI_pure {α : Type} (P : Program) (a : α) (h : Heap) (K : α → Heap → Prop) : semI P (pure a) h K ↔ K a h := Iff.rfl

/-! ### slots -/

inductive Tv where
  | bot
  | known (b : Bool)
  | val (v : Value)

def Tv.v : Tv → Value
  | .bot => undef
  | .known b => .bool b
  | .val v => v

abbrev Tm := Nat → Tv

def upd (t : Tm) (d : Nat) (x : Tv) : Tm := fun i => match Nat.beq i d with | true => x | false => t i

def put (n : Nat) (t : Tm) (dst : Option Tmp) (x : Tv) : Tm :=
  match dst with
  | none => t
  | some d => match Nat.blt d n with | true => upd t d x | false => t

def tvO (t : Tm) : Operand → Tv
  | .tmp i => t i
  | .const (.bool b) => .known b
  | .const v => .val v
  | .global g => .val (.pointer (some ⟨g, 0, none⟩))
  | .func f => .val (.func (.func f) #[] #[])

def okO (t : Tm) : Operand → Bool
  | .tmp i => match t i with | .bot => false | _ => true
  | _ => true

def okOs (t : Tm) : List Operand → Bool
  | [] => true
  | x :: r => match okO t x with | true => okOs t r | false => false

/-! ### shapes -/

/-- Some value of the shape of 'z'. -/
def gen1 (z : Value) (K : Value → Prop) : Prop :=
  match z with
  | .int k _ => ∃ n : Int, K (.int k n)
  | .bool _ => ∃ b : Bool, K (.bool b)
  | .string _ => ∃ s : ByteArray, K (.string s)
  | .pointer _ => ∃ p : Option Addr, K (.pointer p)
  | .slice _ _ _ => ∃ (p : Option Addr) (l c : Nat), K (.slice p l c)
  | .map _ => ∃ r : Option Nat, K (.map r)
  | _ => ∃ v : Value, K v

theorem gen1_elim {z : Value} {K : Value → Prop} (h : gen1 z K) : ∃ v, K v := by
  cases z <;> simp only [gen1] at h <;> first | exact h | (obtain ⟨x, h⟩ := h; exact ⟨_, h⟩) | (obtain ⟨x, y, z, h⟩ := h; exact ⟨_, h⟩)

def genL : List Value → (List Value → Prop) → Prop
  | [], K => K []
  | z :: zs, K => gen1 z fun v => genL zs fun vs => K (v :: vs)

theorem genL_elim : ∀ {zs : List Value} {K : List Value → Prop}, genL zs K → ∃ vs, K vs
  | [], _, h => ⟨_, h⟩
  | _ :: _, _, h => by
    obtain ⟨v, h⟩ := gen1_elim h
    obtain ⟨vs, h⟩ := genL_elim h
    exact ⟨_, h⟩

inductive Ty where
  | one (z : Value)
  | agg (zs : List Value)

def isAggD : TypeDesc → Bool
  | .struct _ | .array _ _ => true
  | _ => false

def tyOf (P : Program) (t : TypeId) : Option Ty :=
  match P.underlying t, P.info? t with
  | some d, some i =>
    match isAggD d, i.zero with
    | true, some (.agg zs) => match Nat.beq zs.size i.size with | true => some (.agg zs.toList) | false => none
    | false, some z => some (.one z)
    | _, _ => none
  | _, _ => none

def genT (ty : Ty) (K : Value → Prop) : Prop :=
  match ty with
  | .one z => gen1 z K
  | .agg zs => genL zs fun vs => K (.agg vs.toArray)

theorem genT_elim {ty : Ty} {K : Value → Prop} (h : genT ty K) : ∃ v, K v := by
  cases ty with
  | one z => exact gen1_elim h
  | agg zs => obtain ⟨vs, h⟩ := genL_elim h; exact ⟨_, h⟩

def genTs : List (Option Ty) → (List Value → Prop) → Prop
  | [], K => K []
  | none :: zs, K => ∃ v : Value, genTs zs fun vs => K (v :: vs)
  | some z :: zs, K => genT z fun v => genTs zs fun vs => K (v :: vs)

theorem genTs_elim : ∀ {zs : List (Option Ty)} {K : List Value → Prop}, genTs zs K → ∃ vs, K vs
  | [], _, h => ⟨_, h⟩
  | none :: _, _, h => by obtain ⟨v, h⟩ := h; obtain ⟨vs, h⟩ := genTs_elim h; exact ⟨_, h⟩
  | some _ :: _, _, h => by obtain ⟨v, h⟩ := genT_elim h; obtain ⟨vs, h⟩ := genTs_elim h; exact ⟨_, h⟩

/-- What was told, by its type. -/
def typeI (P : Program) (t : TypeId) (v : Value) (K : Value → Prop) : Prop :=
  match P.underlying t with
  | some (.tuple ts) => genTs (ts.toList.map (tyOf P)) fun vs => v = .tuple vs.toArray ∧ K (.tuple vs.toArray)
  | _ => match tyOf P t with
    | some ty => genT ty fun x => v = x ∧ K x
    | none => K v

theorem typeI_elim {P : Program} {t : TypeId} {v : Value} {K : Value → Prop} (h : typeI P t v K) : K v := by
  unfold typeI at h
  split at h
  · obtain ⟨vs, hv, hk⟩ := genTs_elim h; rw [hv]; exact hk
  · split at h
    · obtain ⟨vs, hv, hk⟩ := genT_elim h; rw [hv]; exact hk
    · exact h

/-! ### memory -/

def load1 (z : Value) (h : Heap) (a : Addr) (K : Value → Prop) : Prop := gen1 z fun v => cellH h a = some v ∧ K v

def loadL : List Value → Heap → Addr → Nat → (List Value → Prop) → Prop
  | [], _, _, _, K => K []
  | z :: zs, h, a, i, K => load1 z h (a.add i) fun v => loadL zs h a (i + 1) fun vs => K (v :: vs)

def loadI (P : Program) (t : TypeId) (h : Heap) (a : Addr) (K : Value → Prop) : Prop :=
  match tyOf P t with
  | some (.one z) => load1 z h a K
  | some (.agg zs) => loadL zs h a 0 fun vs => K (.agg vs.toArray)
  | none => False

def stI (h : Heap) (a : Addr) (v : Value) (K : Heap → Prop) : Prop :=
  (∃ u, cellH h a = some u) ∧ frozenH h a = false ∧ K (setH h a v)

def storeL : List Value → Heap → Addr → Nat → (Heap → Prop) → Prop
  | [], h, _, _, K => K h
  | v :: vs, h, a, i, K => match one1 v with
    | true => stI h (a.add i) v fun h' => storeL vs h' a (i + 1) K
    | false => False

def storeI (P : Program) (t : TypeId) (h : Heap) (a : Addr) (v : Value) (K : Heap → Prop) : Prop :=
  match P.info? t with
  | some i => match Nat.beq v.cells.size i.size with | true => storeL v.cells.toList h a 0 K | false => False
  | none => False

/-- Every cell that stood is as it was. -/
def Keeps (h h' : Heap) : Prop := ∀ (b : Nat) (c : Array Value) (e : TypeId) (f : Nat × Nat), h[b]? = some (Obj.cells c e f) → h'[b]? = some (Obj.cells c e f)
theorem Keeps.refl (h : Heap) : Keeps h h := fun _ _ _ _ x => x
theorem Keeps.trans {a b c : Heap} (h : Keeps a b) (k : Keeps b c) : Keeps a c := fun _ _ _ _ x => k _ _ _ _ (h _ _ _ _ x)
theorem Keeps.push (h : Heap) (o : Obj) : Keeps h (h.push o) := fun b c e f x => by
  have hlt : b < h.size := by
    rcases Nat.lt_or_ge b h.size with h' | h'
    · exact h'
    · rw [Array.getElem?_eq_none h'] at x; cases x
  rw [Array.getElem?_push, if_neg (by omega)]; exact x
theorem Keeps.cell {h h' : Heap} (k : Keeps h h') {a : Addr} {v : Value} (hv : cellH h a = some v) : cellH h' a = some v := by
  unfold cellH at *
  split at hv
  · rename_i c e f hb; rw [k _ _ _ _ hb]; exact hv
  · cases hv

theorem run_load {P : Program} {w : World} {a : Addr} {v : Value} (h : cellH w.heap a = some v) : (load a).run P w = .ok v w := by
  have hc : w.cell? a = some v := h
  simp only [load, Sem.run, hc]

theorem run_isAgg {P : Program} {t : TypeId} {d : TypeDesc} (h : P.underlying t = some d) (w : World) : (isAgg t).run P w = .ok (isAggD d) w := by
  simp only [isAgg, run_bind, run_underlying' h]
  cases d <;> rfl

theorem loadL_run (P : Program) : ∀ (zs : List Value) (h : Heap) (a : Addr) (i : Nat) (K : List Value → Prop), loadL zs h a i K →
    ∃ vs, K vs ∧ vs.length = zs.length ∧ ∀ w : World, Keeps h w.heap → ∀ acc, (loadCellsFrom a i zs.length acc).run P w = .ok (acc ++ vs.toArray) w := by
  intro zs
  induction zs with
  | nil => intro h a i K H; exact ⟨[], H, rfl, fun w _ acc => by simp [loadCellsFrom]⟩
  | cons z zs ih =>
    intro h a i K H
    simp only [loadL, load1] at H
    obtain ⟨v, hv, H⟩ := gen1_elim H
    obtain ⟨vs, hk, hl, hr⟩ := ih h a (i + 1) _ H
    refine ⟨v :: vs, hk, by simp [hl], fun w hw acc => ?_⟩
    simp only [List.length_cons, loadCellsFrom, run_bind, run_load (hw.cell hv)]
    rw [hr w hw]
    simp

/-- A load by its type. -/
theorem loadI_run {P : Program} {t : TypeId} {h : Heap} {a : Addr} {K : Value → Prop} (H : loadI P t h a K) :
    ∃ v, K v ∧ ∀ w : World, Keeps h w.heap → (loadVar t a).run P w = .ok v w := by
  unfold loadI tyOf at H
  cases hu : P.underlying t with
  | none => simp [hu] at H
  | some d =>
    cases hi : P.info? t with
    | none => simp [hu, hi] at H
    | some i =>
      simp only [hu, hi] at H
      cases hd : isAggD d with
      | false =>
        simp only [hd] at H
        cases hz : i.zero with
        | none => simp [hz] at H
        | some z =>
          simp only [hz] at H
          obtain ⟨v, hv, H⟩ := gen1_elim H
          refine ⟨v, H, fun w hw => ?_⟩
          simp only [loadVar, run_bind, run_isAgg hu, hd, Bool.false_eq_true, if_false, run_load (hw.cell hv)]
      | true =>
        cases hz : i.zero with
        | none => simp [hz, hd] at H
        | some z =>
          cases z <;> simp only [hz, hd] at H <;> try exact H.elim
          rename_i zs
          cases hn : Nat.beq zs.size i.size with
          | false => simp [hn] at H
          | true =>
            simp only [hn] at H
            obtain ⟨vs, hk, hl, hr⟩ := loadL_run P zs.toList h a 0 _ H
            refine ⟨_, hk, fun w hw => ?_⟩
            have hr' := hr w hw #[]
            have hsz : i.size = zs.toList.length := by rw [Array.length_toList]; exact (Nat.eq_of_beq_eq_true hn).symm
            simp only [loadVar, run_bind, run_isAgg hu, hd, if_true, run_sizeOf' hi, loadCells, hsz, hr', run_pure, Array.empty_append]

theorem storeL_semI (P : Program) : ∀ (vs : List Value) (h : Heap) (a : Addr) (i : Nat) (K : Heap → Prop), storeL vs h a i K → semI P (storeCells a vs i) h fun _ h' => K h' := by
  intro vs
  induction vs with
  | nil => intro h a i K H; exact H
  | cons v vs ih =>
    intro h a i K H
    simp only [storeL] at H
    cases h1 : one1 v with
    | false => simp [h1] at H
    | true =>
      simp only [h1] at H
      obtain ⟨hu, hf, H⟩ := H
      simp only [storeCells, semI_bind, store, semI]
      exact ⟨h1, hu, hf, ih _ _ _ _ H⟩

theorem storeI_semI {P : Program} {t : TypeId} {h : Heap} {a : Addr} {v : Value} {K : Heap → Prop} (H : storeI P t h a v K) : semI P (storeVar t a v) h fun _ h' => K h' := by
  unfold storeI at H
  cases hi : P.info? t with
  | none => simp [hi] at H
  | some i =>
    simp only [hi] at H
    cases hn : Nat.beq v.cells.size i.size with
    | false => simp [hn] at H
    | true =>
      simp only [hn] at H
      simp only [storeVar, semI_bind, semI_sizeOf hi]
      rw [if_neg (by rw [Nat.eq_of_beq_eq_true hn]; simp)]
      exact storeL_semI P _ _ _ _ _ H

end Go.Sh
