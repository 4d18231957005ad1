/- Sh, part 4: each operation does on the model's machine what part 3 says. General: for every program. -/
import Derived.Test.YtdjofpdmdbcgjadShOp
namespace Go.Sh
set_option linter.unusedSimpArgs false

theorem fallS_run {P : Program} {s : Sem Next} {K : Value → Prop} (H : fallS P s K) : ∃ v, K v ∧ ∀ w, s.run P w = .ok (.value v) w := by
  unfold fallS at H
  split at H
  · rename_i v hv; exact ⟨v, H, runP_run P s hv⟩
  · exact H.elim

theorem bnd_run {P : Program} {x : Option Value} {y d : Nat} {K : Nat → Prop} {code : BoundsCode} (H : bnd x y d K) :
    ∃ n, K n ∧ ∀ w, (match x with | some v => Instr.sliceBound v y code | none => pure d).run P w = .ok n w := by
  unfold bnd at H
  split at H
  · exact ⟨d, H, fun w => rfl⟩
  · rename_i k n
    obtain ⟨h1, h2, H⟩ := H
    refine ⟨_, H, fun w => ?_⟩
    simp only [Instr.sliceBound, asIntOf, run_bind, run_pure, h1, h2, and_self, if_true]
  · exact H.elim

theorem sliceS_run {P : Program} {t : TypeId} {x : Value} {lo hi mx : Option Value} {K : Value → Prop} (H : sliceS P t x lo hi mx K) :
    ∃ v, K v ∧ ∀ w, (Instr.sliceAt t x lo hi mx).run P w = .ok v w := by
  unfold sliceS at H
  split at H
  · rename_i s hu
    split at H
    · obtain ⟨h, H, hh⟩ := bnd_run (P := P) (code := .sliceAlen) H
      obtain ⟨l, H, hl⟩ := bnd_run (P := P) (code := .sliceB) H
      refine ⟨_, H, fun w => ?_⟩
      have e1 := hh w; have e2 := hl w
      cases hi <;> cases lo <;> simp_all [Instr.sliceAt, Instr.slice, Instr.sliceBounds, run_bind, run_underlying' hu, run_pure]
    · exact H.elim
  · rename_i e a len cap hu
    cases hP : P.info? e with
    | none => cases hi <;> cases mx <;> simp [hP] at H
    | some i =>
      cases hi with
      | none =>
        cases mx with
        | some m => simp [hP] at H
        | none =>
          simp only [hP] at H
          obtain ⟨l, H, hl⟩ := bnd_run (P := P) (code := .sliceB) H
          refine ⟨_, H, fun w => ?_⟩
          have e2 := hl w
          cases lo <;> simp_all [Instr.sliceAt, Instr.slice, Instr.sliceBounds, run_bind, run_underlying' hu, run_sizeOf' hP, run_pure]
      | some hv =>
        cases mx with
        | none =>
          simp only [hP] at H
          obtain ⟨m, H, hm⟩ := bnd_run (P := P) (code := .slice3Acap) H
          obtain ⟨h, H, hh⟩ := bnd_run (P := P) (code := .sliceAcap) H
          obtain ⟨l, H, hl⟩ := bnd_run (P := P) (code := .sliceB) H
          refine ⟨_, H, fun w => ?_⟩
          have e1 := hh w; have e2 := hl w; have e3 := hm w
          cases lo <;> simp_all [Instr.sliceAt, Instr.slice, Instr.sliceBounds, run_bind, run_underlying' hu, run_sizeOf' hP, run_pure]
        | some mv =>
          simp only [hP] at H
          obtain ⟨m, H, hm⟩ := bnd_run (P := P) (code := .slice3Acap) H
          obtain ⟨h, H, hh⟩ := bnd_run (P := P) (code := .slice3B) H
          obtain ⟨l, H, hl⟩ := bnd_run (P := P) (code := .slice3C) H
          refine ⟨_, H, fun w => ?_⟩
          have e1 := hh w; have e2 := hl w; have e3 := hm w
          cases lo <;> simp_all [Instr.sliceAt, Instr.slice, Instr.sliceBounds, run_bind, run_underlying' hu, run_sizeOf' hP, run_pure]
  · rename_i n e a hu
    cases hP : P.info? e with
    | none => cases mx <;> simp [hP] at H
    | some i =>
      cases mx with
      | some m => simp [hP] at H
      | none =>
        simp only [hP] at H
        obtain ⟨h, H, hh⟩ := bnd_run (P := P) (code := .sliceAlen) H
        obtain ⟨l, H, hl⟩ := bnd_run (P := P) (code := .sliceB) H
        refine ⟨_, H, fun w => ?_⟩
        have e1 := hh w; have e2 := hl w
        cases hi <;> cases lo <;> simp_all [Instr.sliceAt, Instr.sureAddr, Instr.sliceBounds, run_bind, run_underlying' hu, run_sizeOf' hP, run_pure]
  · exact H.elim

theorem idxAddrS_run {P : Program} {t : TypeId} {x ix : Value} {K : Value → Prop} (H : idxAddrS P t x ix K) :
    ∃ v, K v ∧ ∀ w, (Instr.indexAt t x ix).run P w = .ok v w := by
  unfold idxAddrS at H
  split at H
  · rename_i k i
    split at H
    · rename_i e b len c hu
      split at H
      · rename_i ti hi
        obtain ⟨a, rfl, h1, h2, H⟩ := H
        refine ⟨_, H, fun w => ?_⟩
        simp [Instr.indexAt, asIntOf, run_bind, run_pure, run_underlying' hu, run_sizeOf' hi, h1, h2]
      · exact H.elim
    · rename_i len e a hu
      split at H
      · rename_i ti hi
        obtain ⟨h1, h2, H⟩ := H
        refine ⟨_, H, fun w => ?_⟩
        simp [Instr.indexAt, asIntOf, Instr.sureAddr, run_bind, run_pure, run_underlying' hu, run_sizeOf' hi, h1, h2]
      · exact H.elim
    · exact H.elim
  · exact H.elim

theorem tyOf_one {P : Program} {t : TypeId} {z : Value} (h : tyOf P t = some (.one z)) : ∃ d, P.underlying t = some d ∧ isAggD d = false := by
  unfold tyOf at h
  split at h
  · rename_i d i hd hi
    refine ⟨d, hd, ?_⟩
    split at h <;> first | (split at h <;> simp at h; done) | simp_all
  · cases h

theorem idxS_run {P : Program} {t : TypeId} {x ix : Value} {K : Value → Prop} (H : idxS P t x ix K) :
    ∃ v, K v ∧ ∀ w, (Instr.index t x ix).run P w = .ok v w := by
  unfold idxS at H
  split at H
  · rename_i k i
    split at H
    · rename_i s hu
      obtain ⟨h1, b, hb, H⟩ := H
      refine ⟨_, H, fun w => ?_⟩
      simp [Instr.index, asIntOf, run_bind, run_pure, run_underlying' hu, h1, hb]
    · rename_i len e cs hu
      split at H
      · rename_i z ti hz hi
        obtain ⟨h1, h2, H⟩ := H
        obtain ⟨v, hv, H⟩ := gen1_elim H
        obtain ⟨d, hd, ha⟩ := tyOf_one hz
        refine ⟨_, H, fun w => ?_⟩
        simp [Instr.index, asIntOf, run_bind, run_pure, run_underlying' hu, run_sizeOf' hi, part, run_isAgg hd, ha, h1, h2, hv]
      · exact H.elim
    · exact H.elim
  · exact H.elim

theorem eqGuard_ptr (P : Program) (op : BinOp) (t : TypeId) (x y : Operand) (p q : Option Addr) (w : World) :
    (eqGuard op t x y (.pointer p) (.pointer q)).run P w = .ok () w := by
  unfold eqGuard; cases op <;> rfl
theorem eqGuard_slice (P : Program) (op : BinOp) (t : TypeId) (x y : Operand) (p q : Option Addr) (a b c d : Nat) (w : World) :
    (eqGuard op t x y (.slice p a b) (.slice q c d)).run P w = .ok () w := by
  unfold eqGuard; cases op <;> rfl
theorem eqGuard_map (P : Program) (op : BinOp) (t : TypeId) (x y : Operand) (p q : Option Nat) (w : World) :
    (eqGuard op t x y (.map p) (.map q)).run P w = .ok () w := by
  unfold eqGuard; cases op <;> rfl
theorem eqGuard_int (P : Program) (op : BinOp) (t : TypeId) (x y : Operand) (k k' : IntKind) (p q : Int) (w : World) :
    (eqGuard op t x y (.int k p) (.int k' q)).run P w = .ok () w := by
  unfold eqGuard; cases op <;> rfl

theorem equalIn_ptr {P : Program} {t e : TypeId} {p q : Option Addr} {K : Bool → Prop} (hu : P.underlying t = some (.pointer e)) (H : eqN p q K) (d : Nat) :
    ∃ b, K b ∧ ∀ w, (Op.equalIn (d + 1) t (.pointer p) (.pointer q)).run P w = .ok b w := by
  unfold eqN at H
  cases q with
  | none =>
    refine ⟨_, H, fun w => ?_⟩
    cases p <;> simp [Op.equalIn, run_bind, run_underlying' hu, run_pure]
  | some b =>
    cases p with
    | none => exact ⟨_, H, fun w => by simp [Op.equalIn, run_bind, run_underlying' hu, run_pure]⟩
    | some a => exact H.elim
theorem equalIn_slice {P : Program} {t e : TypeId} {p q : Option Addr} {K : Bool → Prop} (hu : P.underlying t = some (.slice e)) (H : eqN p q K) (d : Nat) :
    ∃ b, K b ∧ ∀ l c l' c' w, (Op.equalIn (d + 1) t (.slice p l c) (.slice q l' c')).run P w = .ok b w := by
  unfold eqN at H
  cases q with
  | none =>
    refine ⟨_, H, fun l c l' c' w => ?_⟩
    cases p <;> simp [Op.equalIn, run_bind, run_underlying' hu, run_pure]
  | some b =>
    cases p with
    | none => exact ⟨_, H, fun l c l' c' w => by simp [Op.equalIn, run_bind, run_underlying' hu, run_pure]⟩
    | some a => exact H.elim
theorem equalIn_map {P : Program} {t e k : TypeId} {p q : Option Nat} {K : Bool → Prop} (hu : P.underlying t = some (.map k e)) (H : eqN p q K) (d : Nat) :
    ∃ b, K b ∧ ∀ w, (Op.equalIn (d + 1) t (.map p) (.map q)).run P w = .ok b w := by
  unfold eqN at H
  cases q with
  | none =>
    refine ⟨_, H, fun w => ?_⟩
    cases p <;> simp [Op.equalIn, run_bind, run_underlying' hu, run_pure]
  | some b =>
    cases p with
    | none => exact ⟨_, H, fun w => by simp [Op.equalIn, run_bind, run_underlying' hu, run_pure]⟩
    | some a => exact H.elim

theorem equal_run {P : Program} {t : TypeId} {x y : Value} {b : Bool} (h : ∀ w, (Op.equalIn (9999 + 1) t x y).run P w = .ok b w) (w : World) : (Op.equal t x y).run P w = .ok b w := h w

theorem eq1_run {P : Program} {t : TypeId} {x y : Value} {b : Bool} (h : eq1 (P.underlying t) x y = some b) (d : Nat) (w : World) :
    (Op.equalIn (d + 1) t x y).run P w = .ok b w := by
  unfold eq1 at h
  split at h
  · rename_i hu
    split at h
    · rename_i hk
      injection h with h
      subst hk; subst h
      simp [Op.equalIn, run_bind, run_underlying' hu, run_pure]
    · cases h
  · rename_i hu
    injection h with h
    subst h
    simp [Op.equalIn, run_bind, run_underlying' hu, run_pure]
  · rename_i hu
    injection h with h
    subst h
    simp [Op.equalIn, run_bind, run_underlying' hu, run_pure]
  · cases h

theorem scalarT_isAgg {P : Program} {t : TypeId} (ht : scalarT P t = true) (w : World) : (isAgg t).run P w = .ok false w := by
  unfold scalarT at ht
  split at ht
  · rename_i k hu; rw [run_isAgg hu]; rfl
  · rename_i hu; rw [run_isAgg hu]; rfl
  · rename_i hu; rw [run_isAgg hu]; rfl
  · cases ht

theorem part_run {P : Program} {t : TypeId} {cs : Array Value} {k : Nat} {v : Value} (ht : scalarT P t = true) (h : cs[k]? = some v) (w : World) : (part t cs k).run P w = .ok v w := by
  simp only [part, run_bind, scalarT_isAgg ht, Bool.false_eq_true, if_false, h]
  rfl

theorem eqL_cons {P : Program} {f : Field} {fs : List Field} {x y : Value} {xs ys : List Value} {b : Bool} (h : eqL P (f :: fs) (x :: xs) (y :: ys) = some b) :
    ∃ b1 b2, eq1 (P.underlying f.type) x y = some b1 ∧ eqL P fs xs ys = some b2 ∧ b = (b1 && b2) := by
  simp only [eqL] at h
  split at h
  · rename_i b1 b2 h1 h2; exact ⟨b1, b2, h1, h2, by injection h with h; exact h.symm⟩
  · cases h

theorem eqFields_run {P : Program} {xs ys : Array Value} (d : Nat) : ∀ (fs : List Field) (k : Nat) (lx ly : List Value) (b : Bool), flatF P fs k = true →
    (∀ j v, lx[j]? = some v → xs[k + j]? = some v) → (∀ j v, ly[j]? = some v → ys[k + j]? = some v) → eqL P fs lx ly = some b → ∀ w : World,
    (forIn fs ((none, ()) : Option Bool × Unit) (fun f __s =>
          if f.name ≠ "_" then do
            let __do_lift ← part f.type xs f.offset
            let __do_lift_1 ← part f.type ys f.offset
            let __do_lift ← Op.equalIn (d + 1) f.type __do_lift __do_lift_1
            if (!__do_lift) = true then pure (ForInStep.done (some false, ())) else pure (ForInStep.yield (none, ()))
          else pure (ForInStep.yield (none, ()))) : Sem (Option Bool × Unit)).run P w = .ok (if b then (none, ()) else (some false, ())) w
  | [], k, lx, ly, b, _, _, _, h, w => by
    cases lx <;> cases ly <;> simp [eqL] at h
    subst h; rfl
  | f :: fs, k, lx, ly, b, hf, hx, hy, h, w => by
    cases lx with
    | nil => simp [eqL] at h
    | cons x lx =>
      cases ly with
      | nil => simp [eqL] at h
      | cons y ly =>
        obtain ⟨b1, b2, h1, h2, rfl⟩ := eqL_cons h
        simp only [flatF, Bool.and_eq_true, bne_iff_ne] at hf
        obtain ⟨⟨⟨hn, ho⟩, hs⟩, hf⟩ := hf
        have ho : f.offset = k := Nat.eq_of_beq_eq_true ho
        have e1 := hx 0 x rfl
        have e2 := hy 0 y rfl
        rw [Nat.add_zero] at e1 e2
        rw [List.forIn_cons, run_bind]
        rw [if_pos hn, ho]
        simp only [run_bind, part_run hs e1, part_run hs e2, eq1_run h1 d]
        cases b1 with
        | false => rfl
        | true =>
          simp only [Bool.not_true, Bool.false_eq_true, if_false, run_pure, Bool.true_and]
          exact eqFields_run d fs (k + 1) lx ly b2 hf (fun j v hj => by have := hx (j + 1) v (by simpa using hj); rw [show k + 1 + j = k + (j + 1) by omega]; exact this)
            (fun j v hj => by have := hy (j + 1) v (by simpa using hj); rw [show k + 1 + j = k + (j + 1) by omega]; exact this) h2 w

theorem equalIn_struct {P : Program} {t : TypeId} {fs : Array Field} {xs ys : Array Value} {b : Bool} (hu : P.underlying t = some (.struct fs)) (hf : flatF P fs.toList 0 = true)
    (hst : P.stoodInHeld t = false) (h : eqL P fs.toList xs.toList ys.toList = some b) (d : Nat) (w : World) : (Op.equalIn (d + 1 + 1) t (.agg xs) (.agg ys)).run P w = .ok b w := by
  have := eqFields_run (P := P) (xs := xs) (ys := ys) d fs.toList 0 xs.toList ys.toList b hf (fun j v hj => by simpa using hj) (fun j v hj => by simpa using hj) h w
  rw [Op.equalIn]
  simp only [run_bind, run_underlying' hu, program, Sem.run, hst, Bool.false_eq_true, if_false]
  rw [← Array.forIn_toList, this]
  cases b <;> rfl

theorem eqGuard_struct {P : Program} {op : BinOp} {t : TypeId} {x y : Operand} {xs ys : Array Value} (hg : P.eqGuardType P.depth t = false) (w : World) :
    (eqGuard op t x y (.agg xs) (.agg ys)).run P w = .ok () w := by
  unfold eqGuard
  cases op <;> simp [run_bind, program, Sem.run, hg, run_pure] <;> rfl

theorem eqS_run {P : Program} {op : BinOp} {t : TypeId} {xo yo : Operand} {x y : Value} {fall : Prop} {K : Value → Prop} (hop : op = .eql ∨ op = .neq)
    (hf : fall → ∃ v, K v ∧ ∀ w, (do eqGuard op t xo yo x y; binOp op t x y : Sem Value).run P w = .ok v w)
    (H : eqS P op t x y fall K) : ∃ v, K v ∧ ∀ w, (do eqGuard op t xo yo x y; binOp op t x y : Sem Value).run P w = .ok v w := by
  unfold eqS at H
  split at H
  · rename_i hu
    obtain ⟨b, hb, hr⟩ := equalIn_ptr hu H 9999
    refine ⟨_, hb, fun w => ?_⟩
    rcases hop with rfl | rfl <;> simp [run_bind, eqGuard_ptr, binOp, equal_run hr, run_pure, neqB]
  · rename_i hu
    obtain ⟨b, hb, hr⟩ := equalIn_slice hu H 9999
    refine ⟨_, hb, fun w => ?_⟩
    rcases hop with rfl | rfl <;> simp [run_bind, eqGuard_slice, binOp, equal_run (hr _ _ _ _), run_pure, neqB]
  · rename_i hu
    obtain ⟨b, hb, hr⟩ := equalIn_map hu H 9999
    refine ⟨_, hb, fun w => ?_⟩
    rcases hop with rfl | rfl <;> simp [run_bind, eqGuard_map, binOp, equal_run hr, run_pure, neqB]
  · rename_i fs xs ys hu
    split at H
    · rename_i b hfl hb
      simp only [flatT, Bool.and_eq_true, Bool.not_eq_true'] at hfl
      obtain ⟨⟨h1, h3⟩, h4⟩ := hfl
      have hr : ∀ w, (Op.equalIn (9999 + 1) t (.agg xs) (.agg ys)).run P w = .ok b w := equalIn_struct hu h1 h3 hb 9998
      refine ⟨_, H, fun w => ?_⟩
      rw [run_bind, eqGuard_struct h4]
      rcases hop with rfl | rfl <;> simp only [binOp, run_bind, equal_run hr, run_pure, neqB]
    · exact H.elim
  · exact hf H

theorem binS_run {P : Program} {op : BinOp} {t : TypeId} {xo yo : Operand} {x y : Value} {fall : Prop} {K : Value → Prop}
    (hf : fall → ∃ v, K v ∧ ∀ w, (do eqGuard op t xo yo x y; binOp op t x y : Sem Value).run P w = .ok v w)
    (H : binS P op t yo x y fall K) : ∃ v, K v ∧ ∀ w, (do eqGuard op t xo yo x y; binOp op t x y : Sem Value).run P w = .ok v w := by
  cases op
  case add =>
    simp only [binS] at H
    split at H
    · obtain ⟨h0, H⟩ := H
      refine ⟨_, H, fun w => ?_⟩
      have := Int.not_lt.2 h0
      rename_i a b
      have e1 : (eqGuard BinOp.add t xo yo (.string a) (.string b)).run P w = .ok () w := rfl
      rw [run_bind, e1]
      simp only [binOp, Op.stringOp]
      rw [if_neg (by omega)]
      rfl
    · exact hf H
  case eql => exact eqS_run (.inl rfl) hf H
  case neq => exact eqS_run (.inr rfl) hf H
  case quo =>
    simp only [binS] at H
    split at H
    · exact hf H
    · split at H
      · split at H
        · rename_i hk; subst hk
          obtain ⟨h0, H⟩ := H
          refine ⟨_, H, fun w => ?_⟩
          simp [run_bind, eqGuard_int, binOp, Op.intDiv, h0, run_pure]
        · exact H.elim
      · exact H.elim
  case rem =>
    simp only [binS] at H
    split at H
    · exact hf H
    · split at H
      · split at H
        · rename_i hk; subst hk
          obtain ⟨h0, H⟩ := H
          refine ⟨_, H, fun w => ?_⟩
          simp [run_bind, eqGuard_int, binOp, Op.intDiv, h0, run_pure]
        · exact H.elim
      · exact H.elim
  case shl =>
    simp only [binS] at H
    split at H
    · exact hf H
    · split at H
      · obtain ⟨h0, H⟩ := H
        refine ⟨_, H, fun w => ?_⟩
        have := Int.not_lt.2 h0
        simp [run_bind, eqGuard_int, binOp, Op.shift, this, run_pure]
      · exact H.elim
  case shr =>
    simp only [binS] at H
    split at H
    · exact hf H
    · split at H
      · obtain ⟨h0, H⟩ := H
        refine ⟨_, H, fun w => ?_⟩
        have := Int.not_lt.2 h0
        simp [run_bind, eqGuard_int, binOp, Op.shift, this, run_pure]
      · exact H.elim
  all_goals exact hf H

theorem pureS_run {P : Program} {o : Oper} {tv : Operand → Tv} {K : Tv → Prop} (H : pureS P o tv K) :
    ∃ x, K x ∧ ∀ w, (execOp (fun x => (tv x).v) o).run P w = .ok (.value x.v) w := by
  have fall : (fallS P (execOp (fun x => (tv x).v) o) fun v => K (.val v)) → ∃ x, K x ∧ ∀ w, (execOp (fun x => (tv x).v) o).run P w = .ok (.value x.v) w := fun H => by
    obtain ⟨v, hv, hr⟩ := fallS_run H
    exact ⟨.val v, hv, hr⟩
  obtain ⟨dst, op, type, pos, after, guard⟩ := o
  unfold pureS at H
  cases op <;> simp only at H
  case move x => exact ⟨_, H, fun w => rfl⟩
  case assign x => exact ⟨_, H, fun w => rfl⟩
  case pick c a b =>
    split at H
    · rename_i hc; exact ⟨_, H, fun w => by simp [execOp, run_bind, hc, Tv.v, asBool, run_pure]⟩
    · rename_i hc; exact ⟨_, H, fun w => by simp [execOp, run_bind, hc, Tv.v, asBool, run_pure]⟩
    · rename_i x hc
      cases x with
      | true => exact ⟨_, H.1 rfl, fun w => by simp [execOp, run_bind, hc, Tv.v, asBool, run_pure]⟩
      | false => exact ⟨_, H.2 rfl, fun w => by simp [execOp, run_bind, hc, Tv.v, asBool, run_pure]⟩
    · exact H.elim
  case nilCheck x =>
    split at H
    · rename_i p hp
      obtain ⟨a, rfl, H⟩ := H
      exact ⟨_, H, fun w => by simp only [execOp, hp]; rfl⟩
    · rename_i f a b hp
      exact ⟨_, H, fun w => by simp only [execOp, hp]; rfl⟩
    · exact H.elim
  case indexAddr t x i =>
    obtain ⟨v, hv, hr⟩ := idxAddrS_run H
    exact ⟨_, hv, fun w => by simp only [execOp]; rw [run_bind, hr w]; rfl⟩
  case index t x i =>
    obtain ⟨v, hv, hr⟩ := idxS_run H
    exact ⟨_, hv, fun w => by simp only [execOp]; rw [run_bind, hr w]; rfl⟩
  case slice t x lo hi mx =>
    obtain ⟨v, hv, hr⟩ := sliceS_run H
    exact ⟨_, hv, fun w => by simp only [execOp]; rw [run_bind, hr w]; rfl⟩
  case binOp op t x y u =>
    have hb : ∃ v, K (.val v) ∧ ∀ w, (do eqGuard op t x y (tv x).v (tv y).v; binOp op t (tv x).v (tv y).v : Sem Value).run P w = .ok v w := by
      refine binS_run (K := fun v => K (.val v)) (fun hf => ?_) H
      obtain ⟨v, hv, hr⟩ := fallS_run hf
      refine ⟨v, hv, fun w => ?_⟩
      have := hr w
      simp only [execOp, run_bind] at this ⊢
      cases h1 : (eqGuard op t x y (tv x).v (tv y).v).run P w with
      | halt e w1 => simp [h1] at this
      | ok a w1 =>
        simp only [h1] at this ⊢
        cases h2 : (binOp op t (tv x).v (tv y).v).run P w1 with
        | halt e w2 => simp [h2] at this
        | ok b w2 =>
          simp only [h2, run_pure] at this
          injection this with e1 e2
          injection e1 with e1
          rw [e1, e2]
    obtain ⟨v, hv, hr⟩ := hb
    refine ⟨_, hv, fun w => ?_⟩
    have := hr w
    simp only [execOp]
    rw [run_bind, this]
    rfl
  all_goals exact fall H

end Go.Sh
