/- Sh, part 6: regions (in whatever order), code, loops, functions. General: for every program. -/
import Derived.Test.YtdjofpdmdbcgjadShSound2
import Derived.Deep.LoopGhost
namespace Go.Sh
set_option linter.unusedSimpArgs false

def nthO : List Oper → Nat → Option Oper
  | [], _ => none
  | x :: _, 0 => some x
  | _ :: xs, n + 1 => nthO xs n

theorem nthO_eq : ∀ (l : List Oper) (i : Nat), nthO l i = l[i]?
  | [], _ => rfl
  | _ :: _, 0 => rfl
  | _ :: xs, n + 1 => by simpa [nthO] using nthO_eq xs n

def runO (P : Program) (n : Nat) (o : Oper) (K : Tm → Heap → Prop) (t : Tm) (h : Heap) : Prop :=
  match okOs t o.op.operands.toList with
  | true => step1 P o (tvO t) h fun x h' => K (put n t o.dst x) h'
  | false => False

def gate (b want : Bool) (A B : Prop) : Prop :=
  match b, want with
  | true, true => A
  | false, false => A
  | true, false => B
  | false, true => B

/-- A guard: 'R' where the operation runs, 'S' where it is passed by. -/
def opG (ops : List Oper) (o : Oper) (t : Tm) (R S : Tm → Prop) : Prop :=
  match o.guard with
  | none => R t
  | some (j, want) =>
    match nthO ops j with
    | some oj =>
      match oj.dst with
      | some d =>
        match t d with
        | .known b => gate b want (R t) (S t)
        | .val (.bool b) =>
          (b = true → gate true want (R (upd t d (.known true))) (S (upd t d (.known true)))) ∧
          (b = false → gate false want (R (upd t d (.known false))) (S (upd t d (.known false))))
        | .val (.tuple _) => S t
        | _ => False
      | none => False
    | none => False

def opO (P : Program) (n : Nat) (ops : List Oper) (o : Oper) (K : Tm → Heap → Prop) (t : Tm) (h : Heap) : Prop :=
  opG ops o t (fun t' => runO P n o K t' h) (fun t' => K (put n t' o.dst (.val undef)) h)

def seqI (P : Program) (n : Nat) (ops : List Oper) : List Oper → (Tm → Heap → Prop) → Tm → Heap → Prop
  | [], K, t, h => K t h
  | o :: r, K, t, h => opO P n ops o (seqI P n ops r K) t h

/-- In which order a region is gone through: where it does not matter, one; where it may, each. 'early': a load that may come up before or behind what writes: its cells are watched. -/
inductive Sch where
  | done
  | stop
  | one (i : Nat) (r : Sch)
  | early (i : Nat) (r : Sch)
  | alt (i : Nat) (r rest : Sch)

/-- Cells that must hold what they held. -/
abbrev Watch := List (Nat × Addr × Value)

def watchL (k : Nat) (a : Addr) : List Value → Nat → Watch
  | [], _ => []
  | v :: r, i => (k, a.add i, v) :: watchL k a r (i + 1)

def watchT (P : Program) (t : TypeId) (k : Nat) (a : Addr) (v : Value) : Watch :=
  match tyOf P t with
  | some (.agg _) => match v with
    | .agg cs => watchL k a cs.toList 0
    | v => [(k, a, v)]
  | _ => [(k, a, v)]

def holdW : Watch → Heap → Prop → Prop
  | [], _, K => K
  | x :: r, h, K => cellH h x.2.1 = some x.2.2 ∧ holdW r h K

def waitsFor (o : Oper) (i : Nat) : Bool := o.after.toList.any fun e => Region.binds .any e && e.on == i

/-- Those that an operation may not turn: of loads that it does not wait for. -/
def liveW (o : Oper) : Watch → Watch
  | [] => []
  | x :: r => match waitsFor o x.1 with | true => liveW o r | false => x :: liveW o r

def quiet (P : Program) (o : Oper) : Bool :=
  match clsOf P o.op with
  | .loud => false
  | _ => true

def behind (P : Program) (o : Oper) (W : Watch) (K : Tm → Heap → Prop) (t : Tm) (h : Heap) : Prop :=
  match quiet P o with
  | true => K t h
  | false => holdW (liveW o W) h (K t h)

/-- A load that may come up early: with what is to be watched. -/
def runE (P : Program) (n : Nat) (k : Nat) (o : Oper) (K : Watch → Tm → Heap → Prop) (t : Tm) (h : Heap) : Prop :=
  match okOs t o.op.operands.toList with
  | true =>
    match o.op with
    | .load ty a => match (tvO t a).v with
      | .pointer (some ad) => loadI P ty h ad fun v => K (watchT P ty k ad v) (put n t o.dst (.val v)) h
      | _ => False
    | _ => False
  | false => False

def opE (P : Program) (n : Nat) (k : Nat) (ops : List Oper) (o : Oper) (K : Watch → Tm → Heap → Prop) (t : Tm) (h : Heap) : Prop :=
  opG ops o t (fun t' => runE P n k o K t' h) (fun t' => K [] (put n t' o.dst (.val undef)) h)

def schI (P : Program) (n : Nat) (ops : List Oper) : Sch → Watch → (Tm → Heap → Prop) → Tm → Heap → Prop
  | .done, _, K, t, h => K t h
  | .stop, _, _, _, _ => True
  | .one i r, W, K, t, h => match nthO ops i with
    | some o => opO P n ops o (behind P o W (schI P n ops r W K)) t h
    | none => False
  | .early i r, W, K, t, h => match nthO ops i with
    | some o => opE P n i ops o (fun W' => schI P n ops r (W' ++ W) K) t h
    | none => False
  | .alt i r rest, W, K, t, h => match nthO ops i with
    | some o => match rest with
      | .stop => opO P n ops o (behind P o W (schI P n ops r W K)) t h
      | rest => opO P n ops o (behind P o W (schI P n ops r W K)) t h ∧ schI P n ops rest W K t h
    | none => False

/-! ### the relation of slots and frame -/

structure Rel (n : Nat) (t : Tm) (a : Act) : Prop where
  size : a.tmps.size = n
  at_ : ∀ i, t i = .bot ∨ (t i).v = a.tmps.getD i undef

theorem upd_same (t : Tm) (d : Nat) (x : Tv) : upd t d x d = x := by simp [upd]
theorem upd_ne (t : Tm) {d i : Nat} (x : Tv) (h : i ≠ d) : upd t d x i = t i := by
  unfold upd
  cases hb : Nat.beq i d with
  | true => exact absurd (Nat.eq_of_beq_eq_true hb) h
  | false => rfl

theorem Rel.put {n : Nat} {t : Tm} {a : Act} (r : Rel n t a) (dst : Option Tmp) (x : Tv) {v : Value} (hx : x.v = v) : Rel n (put n t dst x) (a.put dst v) := by
  cases dst with
  | none => exact r
  | some d =>
    simp only [Sh.put, Act.put]
    cases hb : Nat.blt d n with
    | true =>
      have hlt : d < a.tmps.size := by rw [r.size]; exact Nat.le_of_ble_eq_true hb
      refine ⟨by simp [r.size], fun i => ?_⟩
      by_cases hi : i = d
      · subst hi; right; show (upd t i x i).v = _; rw [upd_same]; simp [hlt, hx]
      · show upd t d x i = .bot ∨ (upd t d x i).v = _
        rw [upd_ne t x hi]
        rcases r.at_ i with h | h
        · exact .inl h
        · right; rw [h]; simp [Array.getElem?_setIfInBounds_ne (Ne.symm hi)]
    | false =>
      have hge : a.tmps.size ≤ d := by
        rw [r.size]
        rcases Nat.lt_or_ge d n with h | h
        · have : Nat.blt d n = true := Nat.ble_eq_true_of_le h
          rw [hb] at this; cases this
        · exact h
      have : a.tmps.setIfInBounds d v = a.tmps := by
        apply Array.ext (by simp)
        intro i h1 h2
        rw [Array.getElem_setIfInBounds_ne]; omega
      rw [this]; exact r

theorem Rel.known {n : Nat} {t : Tm} {a : Act} (r : Rel n t a) (d : Nat) (b : Bool) (h : t d = .val (.bool b)) : Rel n (upd t d (.known b)) a := by
  refine ⟨r.size, fun i => ?_⟩
  by_cases hi : i = d
  · subst hi; right; rw [upd_same]
    rcases r.at_ i with h' | h'
    · rw [h] at h'; cases h'
    · rw [← h', h]; rfl
  · rw [upd_ne t _ hi]; exact r.at_ i

theorem Rel.ev {n : Nat} {t : Tm} {a : Act} (r : Rel n t a) {x : Operand} (h : okO t x = true) : (tvO t x).v = a.eval x := by
  cases x with
  | tmp i =>
    rcases r.at_ i with h' | h'
    · simp [okO, h'] at h
    · exact h'
  | const v => cases v <;> rfl
  | global g => rfl
  | func f => rfl

theorem okOs_mem {t : Tm} : ∀ {l : List Operand}, okOs t l = true → ∀ x ∈ l, okO t x = true
  | [], _, x, hx => by cases hx
  | y :: r, h, x, hx => by
    simp only [okOs] at h
    cases hy : okO t y with
    | false => simp [hy] at h
    | true =>
      simp only [hy] at h
      cases hx with
      | head => exact hy
      | tail _ hm => exact okOs_mem h x hm

def noSel : Op → Bool
  | .select .. => false
  | _ => true

theorem Rel.exec {n : Nat} {t : Tm} {a : Act} (r : Rel n t a) {o : Oper} (hs : noSel o.op = true) (h : okOs t o.op.operands.toList = true) :
    execOp (fun x => (tvO t x).v) o = execOp a.eval o :=
  execOp_congr o (fun cs b e => by rw [e] at hs; cases hs) fun x hx => r.ev (okOs_mem h x (Array.mem_toList_iff.2 hx))

theorem yielded_of {n : Nat} {t : Tm} {a : Act} (r : Rel n t a) {ops : Array Oper} {j d : Nat} {oj : Oper} (hj : ops[j]? = some oj) (hd : oj.dst = some d) :
    (∀ b, (t d).v = .bool b → t d ≠ .bot → yielded ops a.tmps j = some b) ∧ (∀ vs, (t d).v = .tuple vs → t d ≠ .bot → yielded ops a.tmps j = none) := by
  have key : ∀ v, (t d).v = v → t d ≠ .bot → a.tmps.getD d undef = v := fun v hv hb => by
    rcases r.at_ d with h | h
    · exact absurd h hb
    · rw [← h, hv]
  constructor
  · intro b hv hb
    have := key _ hv hb
    unfold yielded
    rw [hj]
    simp only [Option.bind_some, hd]
    rw [Array.getD_eq_getD_getElem?] at this
    cases hg : a.tmps[d]? with
    | none => rw [hg] at this; simp [undef] at this
    | some u => rw [hg] at this; simp at this; rw [this]
  · intro vs hv hb
    have := key _ hv hb
    unfold yielded
    rw [hj]
    simp only [Option.bind_some, hd]
    rw [Array.getD_eq_getD_getElem?] at this
    cases hg : a.tmps[d]? with
    | none => rfl
    | some u => rw [hg] at this; simp at this; rw [this]

def firstable (P : Program) (o : Oper) : Bool :=
  match clsOf P o.op with
  | .pure | .load => true
  | _ => false

/-- What stands behind one operation. -/
def Aft (P : Program) (n : Nat) (o : Oper) (d0 : List Deferred) (w : World) (K : Tm → Heap → Prop) (a' : Act) (w' : World) : Prop :=
  (quiet P o = true → Keeps w.heap w'.heap) ∧ ∃ t', Rel n t' a' ∧ Fr w w' ∧ a'.defers = d0 ∧ K t' w'.heap

theorem put_defers' (a : Act) (dst : Option Tmp) (v : Value) : (a.put dst v).defers = a.defers := by cases dst <;> rfl

theorem runA_keeps {α : Type} (p : Program) (s : Sem α) : ∀ {h h' : Heap} {a : α}, runA p s h = some (a, h') → Keeps h h' := by
  induction s with
  | pure b => intro h h' a H; simp only [runA, Option.some.injEq, Prod.mk.injEq] at H; obtain ⟨_, rfl⟩ := H; exact Keeps.refl _
  | program k ih => intro h h' a H; exact ih p H
  | mark m k ih => intro h h' a H; exact ih H
  | new o k ih => intro h h' a H; exact (Keeps.push h o).trans (ih _ H)
  | _ => intro h h' a H; simp [runA] at H

/-- One operation that runs. -/
theorem run_aft {P : Program} {n : Nat} {o : Oper} {K : Tm → Heap → Prop} {t : Tm} {a : Act} {w : World} {Q : Exit → Act → World → Prop} (hs : noSel o.op = true) (r : Rel n t a)
    (H : runO P n o K t w.heap) : o.wp P a w (Aft P n o a.defers w K) Q := by
  unfold runO at H
  cases hok : okOs t o.op.operands.toList with
  | false => simp [hok] at H
  | true =>
    simp only [hok] at H
    have he := r.exec hs hok
    unfold Oper.wp
    rw [← he]
    by_cases hq : quiet P o = true
    · -- it keeps what stood
      have hval : ∃ v w', (execOp (fun x => (tvO t x).v) o).run P w = .ok (.value v) w' ∧ Fr w w' ∧ Keeps w.heap w'.heap ∧ ∃ x : Tv, x.v = v ∧ K (put n t o.dst x) w'.heap := by
        unfold step1 at H
        unfold quiet at hq
        split at H
        · obtain ⟨x, hx, hr⟩ := pureS_run H
          exact ⟨_, w, hr w, Fr.refl w, Keeps.refl _, x, rfl, hx⟩
        · obtain ⟨x, hx, hr⟩ := loadS_run H
          exact ⟨_, w, hr w (Keeps.refl _), Fr.refl w, Keeps.refl _, x, rfl, hx⟩
        · unfold allocS at H
          split at H
          · rename_i v h' hr
            obtain ⟨nx, w', hrun, hf, e1, e2⟩ := semI_run P _ w.heap (fun nx h'' => nx = .value v ∧ h'' = h') (runA_semI P _ hr _ ⟨rfl, rfl⟩) w rfl
            subst e1
            exact ⟨v, w', hrun, hf, e2 ▸ runA_keeps P _ hr, .val v, rfl, e2 ▸ H⟩
          · exact H.elim
        · rename_i hc; rw [hc] at hq; cases hq
      obtain ⟨v, w', hrun, hf, hkeep, x, hx, hk⟩ := hval
      rw [hrun]
      exact ⟨fun _ => hkeep, _, r.put o.dst x hx, hf, put_defers' _ _ _, hk⟩
    · have := step1_res H w rfl
      cases hrun : (execOp (fun x => (tvO t x).v) o).run P w with
      | halt e w' => rw [hrun] at this; exact this.elim
      | ok nx w' =>
        rw [hrun] at this
        cases nx <;> simp only at this <;> try exact this.elim
        · obtain ⟨hf, x, hx, hk⟩ := this
          exact ⟨fun h => absurd h hq, _, r.put o.dst x hx, hf, put_defers' _ _ _, hk⟩
        · obtain ⟨hf, x, hx, hk⟩ := this
          exact ⟨fun h => absurd h hq, _, r.put o.dst x hx, hf, put_defers' _ _ _, hk⟩
        · obtain ⟨hf, hc⟩ := this
          refine hc.mono ?_
          rintro e w'' ⟨v, rfl, hf2, x, hx, hk⟩
          exact ⟨fun h => absurd h hq, _, r.put o.dst x hx, hf.trans hf2, put_defers' _ _ _, hk⟩

theorem gate_cases {b want : Bool} {A B : Prop} (h : gate b want A B) : (b = want ∧ A) ∨ (b ≠ want ∧ B) := by
  cases b <;> cases want <;> simp_all [gate]

/-- What a guard says: it runs, or it is passed by. -/
theorem opG_cases {n : Nat} {ops : Array Oper} {o : Oper} {R S : Tm → Prop} {t : Tm} {a : Act} (r : Rel n t a)
    (H : opG ops.toList o t R S) : ∃ t', Rel n t' a ∧
      ((Region.wanted o (yielded ops a.tmps) = true ∧ R t') ∨ (Region.wanted o (yielded ops a.tmps) = false ∧ S t')) := by
  unfold opG at H
  cases hg : o.guard with
  | none => simp only [hg] at H; exact ⟨t, r, .inl ⟨by simp [Region.wanted, hg], H⟩⟩
  | some jw =>
    obtain ⟨j, want⟩ := jw
    simp only [hg, nthO_eq] at H
    cases hj : ops.toList[j]? with
    | none => simp [hj] at H
    | some oj =>
      simp only [hj] at H
      have hj' : ops[j]? = some oj := by rw [← hj]; simp
      cases hd : oj.dst with
      | none => simp [hd] at H
      | some d =>
        simp only [hd] at H
        obtain ⟨y1, y2⟩ := yielded_of r hj' hd
        have wb : ∀ b, yielded ops a.tmps j = some b → Region.wanted o (yielded ops a.tmps) = (b == want) := fun b hb => by simp [Region.wanted, hg, hb]
        split at H
        · rename_i b hb
          have hy := wb b (y1 b (by rw [hb]; rfl) (by rw [hb]; simp))
          rcases gate_cases H with ⟨e, H⟩ | ⟨e, H⟩
          · exact ⟨t, r, .inl ⟨by rw [hy]; simp [e], H⟩⟩
          · exact ⟨t, r, .inr ⟨by rw [hy]; simp [e], H⟩⟩
        · rename_i b hb
          have hy := wb b (y1 b (by rw [hb]; rfl) (by rw [hb]; simp))
          cases b with
          | true =>
            rcases gate_cases (H.1 rfl) with ⟨e, H⟩ | ⟨e, H⟩
            · exact ⟨_, r.known d true hb, .inl ⟨by rw [hy]; simp [e], H⟩⟩
            · exact ⟨_, r.known d true hb, .inr ⟨by rw [hy]; simpa using e, H⟩⟩
          | false =>
            rcases gate_cases (H.2 rfl) with ⟨e, H⟩ | ⟨e, H⟩
            · exact ⟨_, r.known d false hb, .inl ⟨by rw [hy]; simp [e], H⟩⟩
            · exact ⟨_, r.known d false hb, .inr ⟨by rw [hy]; simpa using e, H⟩⟩
        · rename_i vs hb
          have hy := y2 vs (by rw [hb]; rfl) (by rw [hb]; simp)
          exact ⟨t, r, .inr ⟨by simp [Region.wanted, hg, hy], H⟩⟩
        · exact H.elim

theorem opO_cases {P : Program} {n : Nat} {ops : Array Oper} {o : Oper} {K : Tm → Heap → Prop} {t : Tm} {a : Act} {h : Heap} (r : Rel n t a)
    (H : opO P n ops.toList o K t h) : ∃ t', Rel n t' a ∧
      ((Region.wanted o (yielded ops a.tmps) = true ∧ runO P n o K t' h) ∨ (Region.wanted o (yielded ops a.tmps) = false ∧ K (put n t' o.dst (.val undef)) h)) :=
  opG_cases r H

theorem op_aft {P : Program} {n : Nat} {ops : Array Oper} {i : Nat} {o : Oper} {K : Tm → Heap → Prop} {t : Tm} {a : Act} {w : World} {Q : Exit → Act → World → Prop}
    (hi : ops[i]? = some o) (hs : noSel o.op = true) (r : Rel n t a) (H : opO P n ops.toList o K t w.heap) : wpOp P ops Q i (Aft P n o a.defers w K) a w := by
  obtain ⟨t', r', H | H⟩ := opO_cases r H
  · simp only [wpOp, hi, H.1, if_true]; exact .inl (run_aft hs r' H.2)
  · simp only [wpOp, hi, H.1, Bool.false_eq_true, if_false]
    exact ⟨fun _ => Keeps.refl _, _, r'.put o.dst _ rfl, Fr.refl w, put_defers' _ _ _, H.2⟩

/-- What only reads yields the same in every world that keeps what stood. -/
theorem op_yields {P : Program} {n : Nat} {ops : Array Oper} {o : Oper} {K : Tm → Heap → Prop} {t : Tm} {a : Act} {h : Heap}
    (hs : noSel o.op = true) (hc : firstable P o = true) (r : Rel n t a) (H : opO P n ops.toList o K t h) :
    ∃ v t', YieldsIf P ops (fun w => Keeps h w.heap) o v a ∧ (clsOf P o.op = .pure → Yields P ops o v a) ∧ Rel n t' (a.put o.dst v) ∧ K t' h := by
  obtain ⟨t', r', H | H⟩ := opO_cases r H
  · obtain ⟨hw, H⟩ := H
    unfold runO at H
    cases hok : okOs t' o.op.operands.toList with
    | false => simp [hok] at H
    | true =>
      simp only [hok] at H
      have he := r'.exec hs hok
      unfold step1 at H
      unfold firstable at hc
      split at H
      · obtain ⟨x, hx, hr⟩ := pureS_run H
        rw [he] at hr
        exact ⟨x.v, _, .inl ⟨hw, fun w _ => hr w⟩, fun _ => .inl ⟨hw, hr⟩, r'.put o.dst x rfl, hx⟩
      · rename_i hl
        obtain ⟨x, hx, hr⟩ := loadS_run H
        rw [he] at hr
        exact ⟨x.v, _, .inl ⟨hw, fun w hk => hr w hk⟩, (fun e => by rw [hl] at e; cases e), r'.put o.dst x rfl, hx⟩
      · rename_i hl; rw [hl] at hc; cases hc
      · rename_i hl; rw [hl] at hc; cases hc
  · exact ⟨undef, _, .inr ⟨H.1, rfl⟩, fun _ => .inr ⟨H.1, rfl⟩, r'.put o.dst (.val undef) rfl, H.2⟩

def AllW (W : Watch) (h : Heap) : Prop := ∀ x ∈ W, cellH h x.2.1 = some x.2.2
def AllAt (k : Nat) (W : Watch) : Prop := ∀ x ∈ W, x.1 = k
theorem AllW.live {o : Oper} : ∀ {W : Watch} {h : Heap}, AllW (liveW o W) h → ∀ x ∈ W, waitsFor o x.1 = false → cellH h x.2.1 = some x.2.2
  | [], _, _, x, hx, _ => by simp at hx
  | y :: r, h, a, x, hx, hw => by
    simp only [liveW] at a
    cases hy : waitsFor o y.1 with
    | true =>
      simp only [hy] at a
      rcases List.mem_cons.1 hx with rfl | hx
      · rw [hw] at hy; cases hy
      · exact AllW.live a x hx hw
    | false =>
      simp only [hy] at a
      rcases List.mem_cons.1 hx with rfl | hx
      · exact a x (by simp)
      · exact AllW.live (fun z hz => a z (List.mem_cons_of_mem _ hz)) x hx hw
theorem holdW_iff : ∀ (W : Watch) (h : Heap) (K : Prop), holdW W h K ↔ AllW W h ∧ K
  | [], h, K => by simp [holdW, AllW]
  | x :: r, h, K => by
    simp only [holdW, holdW_iff r h K, AllW, List.mem_cons, forall_eq_or_imp]
    constructor
    · rintro ⟨h1, h2, h3⟩; exact ⟨⟨h1, h2⟩, h3⟩
    · rintro ⟨⟨h1, h2⟩, h3⟩; exact ⟨h1, h2, h3⟩
theorem AllW.keeps {W : Watch} {h h' : Heap} (a : AllW W h) (k : Keeps h h') : AllW W h' := fun x hx => k.cell (a x hx)
theorem AllW.append {W V : Watch} {h : Heap} (a : AllW W h) (b : AllW V h) : AllW (W ++ V) h := fun x hx => by
  rcases List.mem_append.1 hx with h | h
  · exact a x h
  · exact b x h

theorem loadL_watch (P : Program) (k : Nat) : ∀ (zs : List Value) (h : Heap) (a : Addr) (i : Nat) (K : List Value → Prop), loadL zs h a i K →
    ∃ vs, K vs ∧ vs.length = zs.length ∧ AllAt k (watchL k a vs i) ∧ AllW (watchL k a vs i) h ∧ ∀ w : World, AllW (watchL k a vs i) w.heap → ∀ acc, (loadCellsFrom a i zs.length acc).run P w = .ok (acc ++ vs.toArray) w := by
  intro zs
  induction zs with
  | nil => intro h a i K H; exact ⟨[], H, rfl, fun x hx => by simp [watchL] at hx, fun x hx => by simp [watchL] at hx, fun w _ acc => by simp [loadCellsFrom]⟩
  | cons z zs ih =>
    intro h a i K H
    simp only [loadL, load1] at H
    obtain ⟨v, hv, H⟩ := gen1_elim H
    obtain ⟨vs, hk, hl, hat, hw, hr⟩ := ih h a (i + 1) _ H
    refine ⟨v :: vs, hk, by simp [hl], ?_, ?_, fun w hall acc => ?_⟩
    · intro x hx
      simp only [watchL, List.mem_cons] at hx
      rcases hx with rfl | hx
      · rfl
      · exact hat x hx
    · intro x hx
      simp only [watchL, List.mem_cons] at hx
      rcases hx with rfl | hx
      · exact hv
      · exact hw x hx
    · simp only [List.length_cons, loadCellsFrom, run_bind, run_load (hall (k, a.add i, v) (by simp [watchL]))]
      rw [hr w (fun x hx => hall x (by simp only [watchL, List.mem_cons]; exact .inr hx))]
      simp

/-- A load by its type, where its cells hold what they held. -/
theorem loadI_watch {P : Program} {t : TypeId} {h : Heap} {a : Addr} {K : Value → Prop} (k : Nat) (H : loadI P t h a K) :
    ∃ v, K v ∧ AllAt k (watchT P t k a v) ∧ AllW (watchT P t k a v) h ∧ ∀ w : World, AllW (watchT P t k a v) w.heap → (loadVar t a).run P w = .ok v w := by
  unfold loadI at H
  cases hty : tyOf P t with
  | none => simp [hty] at H
  | some ty =>
    simp only [hty] at H
    unfold tyOf at hty
    cases hu : P.underlying t with
    | none => simp [hu] at hty
    | some d =>
      cases hi : P.info? t with
      | none => simp [hu, hi] at hty
      | some i =>
        simp only [hu, hi] at hty
        have hty' : tyOf P t = some ty := by unfold tyOf; simp only [hu, hi]; exact hty
        cases hd : isAggD d with
        | false =>
          simp only [hd] at hty
          cases hz : i.zero with
          | none => simp [hz] at hty
          | some z =>
            simp only [hz, Option.some.injEq] at hty
            subst hty
            obtain ⟨v, hv, H⟩ := gen1_elim H
            refine ⟨v, H, ?_⟩
            simp only [watchT, hty']
            refine ⟨fun x hx => by simp only [List.mem_singleton] at hx; subst hx; rfl, fun x hx => by simp only [List.mem_singleton] at hx; subst hx; exact hv, fun w hw => ?_⟩
            simp only [loadVar, run_bind, run_isAgg hu, hd, Bool.false_eq_true, if_false, run_load (hw (k, a, v) (by simp))]
        | true =>
          cases hz : i.zero with
          | none => simp [hz, hd] at hty
          | some z =>
            cases z <;> simp only [hz, hd] at hty <;> try (cases hty; done)
            rename_i zs
            cases hn : Nat.beq zs.size i.size with
            | false => simp [hn] at hty
            | true =>
              simp only [hn, Option.some.injEq] at hty
              subst hty
              obtain ⟨vs, hk, hl, hat, hw, hr⟩ := loadL_watch P k zs.toList h a 0 _ H
              refine ⟨_, hk, ?_⟩
              simp only [watchT, hty']
              refine ⟨hat, hw, fun w hall => ?_⟩
              have hr' := hr w hall #[]
              have hsz : i.size = zs.toList.length := by rw [Array.length_toList]; exact (Nat.eq_of_beq_eq_true hn).symm
              simp only [loadVar, run_bind, run_isAgg hu, hd, if_true, run_sizeOf' hi, loadCells, hsz, hr', run_pure, Array.empty_append]

/-- A load that comes up early yields the same wherever its cells hold what they held. -/
theorem opE_yields {P : Program} {n : Nat} {ops : Array Oper} {o : Oper} {K : Watch → Tm → Heap → Prop} {t : Tm} {a : Act} {h : Heap} {k : Nat}
    (hs : noSel o.op = true) (r : Rel n t a) (H : opE P n k ops.toList o K t h) :
    ∃ v t' W, AllAt k W ∧ YieldsIf P ops (fun w => AllW W w.heap) o v a ∧ AllW W h ∧ Rel n t' (a.put o.dst v) ∧ K W t' h := by
  obtain ⟨t', r', ⟨hw, H⟩ | H⟩ := opG_cases r H
  · unfold runE at H
    cases hok : okOs t' o.op.operands.toList with
    | false => simp [hok] at H
    | true =>
      simp only [hok] at H
      have he := r'.exec hs hok
      split at H
      · rename_i ty x ho
        split at H
        · rename_i ad hx
          obtain ⟨v, hv, hat, hall, hr⟩ := loadI_watch k H
          refine ⟨v, _, _, hat, .inl ⟨hw, fun w hall' => ?_⟩, hall, r'.put o.dst (.val v) rfl, hv⟩
          rw [← he]
          obtain ⟨dst, op, type, pos, after, guard⟩ := o
          subst ho
          simp only [execOp, Instr.loadAt, Instr.sureAddr, run_bind, hx, run_pure, hr w hall']
        · exact H.elim
      · exact H.elim
  · exact ⟨undef, _, [], fun x hx => by simp at hx, .inr ⟨H.1, rfl⟩, fun x hx => by simp at hx, r'.put o.dst (.val undef) rfl, H.2⟩

end Go.Sh
