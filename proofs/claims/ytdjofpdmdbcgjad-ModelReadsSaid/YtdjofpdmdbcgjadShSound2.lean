/- Sh, part 5: what loads, makes, stores, appends and calls. General: for every program. -/
import Derived.Test.YtdjofpdmdbcgjadShSound
namespace Go.Sh
set_option linter.unusedSimpArgs false

/-- What an operation's run comes to. -/
def Res (P : Program) (s : Sem Next) (h : Heap) (K : Value → Heap → Prop) : Prop :=
  ∀ w : World, w.heap = h → match s.run P w with
    | .ok (.value v) w' => Fr w w' ∧ K v w'.heap
    | .ok .skip w' => Fr w w' ∧ K undef w'.heap
    | .ok (.enter f args) w' => Fr w w' ∧ Calls P f args w' fun e w'' => ∃ v, e = .returned v ∧ Fr w' w'' ∧ K v w''.heap
    | _ => False

theorem loadS_run {P : Program} {o : Oper} {tv : Operand → Tv} {h : Heap} {K : Tv → Prop} (H : loadS P o tv h K) :
    ∃ x, K x ∧ ∀ w : World, Keeps h w.heap → (execOp (fun x => (tv x).v) o).run P w = .ok (.value x.v) w := by
  obtain ⟨dst, op, type, pos, after, guard⟩ := o
  unfold loadS at H
  cases op <;> simp only at H <;> try exact H.elim
  rename_i t a
  split at H
  · rename_i ad ha
    obtain ⟨v, hv, hr⟩ := loadI_run H
    refine ⟨_, hv, fun w hw => ?_⟩
    simp only [execOp, Instr.loadAt, Instr.sureAddr, run_bind, ha, run_pure, hr w hw]; rfl
  · exact H.elim

theorem semS_res {P : Program} {s : Sem Next} {h : Heap} {K : Tv → Heap → Prop} (H : semS P s h K) : Res P s h fun v h' => ∃ x : Tv, x.v = v ∧ K x h' := by
  intro w hw
  obtain ⟨a, w', hr, hf, hk⟩ := semI_run P s h _ H w hw
  rw [hr]
  cases a <;> simp only at hk ⊢ <;> first | exact ⟨hf, _, rfl, hk⟩ | exact hk.elim

theorem allocS_res {P : Program} {s : Sem Next} {h : Heap} {K : Tv → Heap → Prop} (H : allocS P s h K) : Res P s h fun v h' => ∃ x : Tv, x.v = v ∧ K x h' := by
  unfold allocS at H
  split at H
  · rename_i v h' hr
    have := runA_semI P s hr (fun nx h' => match nx with | .value v => K (.val v) h' | .skip => K (.val undef) h' | _ => False) H
    exact semS_res this
  · exact H.elim

theorem readL_semI (P : Program) : ∀ (n : Nat) (h : Heap) (a : Addr) (i : Nat) (vs : List Value), readL h a i n vs → ∀ (acc : Array Value) (K : Array Value → Heap → Prop), K (acc ++ vs.toArray) h →
    semI P (loadCellsFrom a i n acc) h K := by
  intro n
  induction n with
  | zero => intro h a i vs H acc K hk; simp only [readL] at H; subst H; exact (by simpa using hk : K acc h)
  | succ n ih =>
    intro h a i vs H acc K hk
    obtain ⟨v, r, hv, hr, rfl⟩ := H
    simp only [loadCellsFrom, semI_bind, load, semI]
    refine ⟨v, hv, ih h a (i + 1) r hr (acc.push v) K ?_⟩
    simpa using hk

theorem readO_semI {P : Program} {h : Heap} {a : Option Addr} {size n l c : Nat} {vs : List Value} (H : readO h a (n * size) vs) {K : Array Value → Heap → Prop} (hk : K vs.toArray h) :
    semI P (Builtin.firstCells size n (.slice a l c)) h K := by
  cases a with
  | none => simp only [readO] at H; subst H; exact hk
  | some a => exact readL_semI P _ _ _ _ _ H #[] K (by simpa using hk)

theorem append_plain {P : Program} {t u ty e : TypeId} {x : Value} {base : Option Addr} {len cap : Nat} {h : Heap} {K : Value → Heap → Prop} {ti : TypeInfo} {d : TypeDesc}
    (hn : ∀ k, d ≠ .int k) (hd : P.underlying u = some d) (ht : P.underlying t = some (.slice e)) (hti : P.info? e = some ti)
    (H : semI P (do
      let n ← Builtin.lenOf x
      let need := len + n
      if need ≤ cap then
        let new ← Builtin.firstCells ti.size n x
        if let some a := base then storeCells (a.add (len * ti.size)) new.toList
        pure (Value.slice base need cap)
      else
        if (need : Int) > IntKind.i64.max ∧ (False ∨ ti.bytes = 0) then stuck ""
        if Builtin.nextslicecap need cap * ti.bytes > 2 ^ 48 then stuck ""
        let newCap ← choose (.appendCap need cap e)
        askRoom (newCap * ti.bytes)
        let old ← Builtin.firstCells ti.size len (.slice base len cap)
        let new ← Builtin.firstCells ti.size n x
        let z ← zeroValue e
        pure (.slice (some (← newRow e (old ++ new ++ Builtin.zeroCells z.cells (newCap - need)))) need newCap)) h K) :
    semI P (Builtin.append_ #[t, u] ty #[.slice base len cap, x]) h K := by
  cases d <;> first
    | exact absurd rfl (hn _)
    | (simp only [Builtin.append_, List.getElem?_toArray, List.getElem?_cons_zero, List.getElem?_cons_succ, semI_bind, semI_underlying ht, semI_sizeOf hti, semI_underlying hd, semI_pure, Bool.false_eq_true, if_false, Bool.not_false, if_true] at H ⊢
       refine semI_mono P _ _ H fun n h' H => ?_
       split
       · rename_i hle; rw [if_pos hle] at H; exact H
       · rename_i hle
         rw [if_neg hle] at H
         simp only [semI_bind, semI_typeInfo hti] at H ⊢
         split at H
         · simp only [semI_bind] at H; exact H.elim
         · rename_i h1
           rw [if_neg (by simpa using h1)]
           simp only [semI_pure, semI_bind, semI_typeInfo hti] at H ⊢
           split at H
           · simp only [semI_bind] at H; exact H.elim
           · rename_i h2
             rw [if_neg h2]
             simpa only [semI_pure, semI_bind, semI_typeInfo hti] using H)

theorem askRoom_semI {P : Program} (m : Nat) (h : Heap) (K : PUnit → Heap → Prop) (hk : K ⟨⟩ h) : semI P (askRoom m) h K := by
  unfold askRoom; split <;> exact hk

theorem appS_semI {P : Program} {t u : TypeId} {ty : TypeId} {s x : Value} {h : Heap} {K : Value → Heap → Prop} (hu : isSl P u = true) (H : appS P t s x h K) :
    semI P (Builtin.append_ #[t, u] ty #[s, x]) h K := by
  obtain ⟨d, hd, hni⟩ : ∃ d, P.underlying u = some d ∧ ∀ k, d ≠ .int k := by
    unfold isSl at hu
    split at hu
    · rename_i e he; exact ⟨_, he, fun k => by simp⟩
    · cases hu
  unfold appS at H
  split at H
  · rename_i e base len cap b n c' ht
    split at H
    · rename_i ti hti
      split at H
      · rename_i z hz
        unfold appB at H
        obtain ⟨ys, hys, h1, h2⟩ := H
        have hz' : ∀ h' (K' : Value → Heap → Prop), semI P (zeroValue e) h' K' ↔ K' z h' := by
          intro h' K'
          simp only [zeroValue, semI_bind, semI_typeInfo hti, hz]; rfl
        refine append_plain hni hd ht hti ?_
        simp only [Builtin.lenOf, semI_bind, semI_pure]
        by_cases hle : len + n ≤ cap
        · rw [if_pos hle]
          simp only [semI_bind]
          refine readO_semI hys ?_
          cases base with
          | none => exact h1 hle
          | some a =>
            have := h1 hle
            try simp only [semI_bind]
            exact storeL_semI P _ _ _ _ _ this
        · rw [if_neg hle]
          obtain ⟨hb, hcap, xs, hxs, hk⟩ := h2 (by omega)
          rw [if_neg (by simp [hb])]
          try simp only [semI_pure, semI_bind]
          rw [if_neg (by omega)]
          simp only [semI_pure, semI_bind, choose, semI, Question.forced, Bool.false_eq_true, if_false]
          intro tape
          refine askRoom_semI _ _ _ ?_
          refine readO_semI hxs ?_
          refine readO_semI hys ?_
          rw [hz']
          simp only [newRow, newObj, semI_bind, semI, semI_pure]
          have := hk (Question.cut (.appendCap (len + n) cap e) tape) (by simp only [Question.cut]; omega)
          have e2 : ∀ Z : Array Value, (xs ++ ys ++ Z.toList).toArray = xs.toArray ++ ys.toArray ++ Z := fun Z => by apply Array.ext'; simp
          rw [e2] at this
          exact this
      · exact H.elim
    · exact H.elim
  · exact H.elim

theorem mkS_semI {P : Program} {t : TypeId} {l c : Value} {h : Heap} {K : Value → Heap → Prop} (H : mkS P t l c h K) : semI P (Instr.makeSlice t l c) h K := by
  unfold mkS at H
  split at H
  · rename_i e k1 l k2 c ht
    split at H
    · rename_i ti hti
      split at H
      · rename_i z hz
        unfold mkB at H
        obtain ⟨h0, h1, h2, h3, h4, hk⟩ := H
        have hz' : ∀ h' (K' : Value → Heap → Prop), semI P (zeroValue e) h' K' ↔ K' z h' := by
          intro h' K'
          simp only [zeroValue, semI_bind, semI_typeInfo hti, hz]; rfl
        have wl : IntKind.i64.wrap l = l := by simp only [IntKind.wrap, IntKind.bits, IntKind.signed]; simp; omega
        have wc : IntKind.i64.wrap c = c := by simp only [IntKind.wrap, IntKind.bits, IntKind.signed]; simp; omega
        simp only [Instr.makeSlice, semI_bind, semI_underlying ht, asInt, asIntOf, semI_pure, semI_typeInfo hti, wl, wc]
        rw [if_neg (by simp; omega)]
        have hask : ∀ (m : Nat) (h' : Heap) (K' : PUnit → Heap → Prop), K' ⟨⟩ h' → semI P (askRoom m) h' K' := by
          intro m h' K' hk'
          unfold askRoom
          split <;> exact hk'
        simp only [semI_pure, semI_bind]
        refine hask _ _ _ ?_
        simp only [semI_sizeOf hti]
        by_cases hn : c.toNat * ti.size = 0
        · rw [if_pos hn]
          simp only [semI_pure, newRow, newObj, semI_bind, semI]
          rw [hn] at hk ⊢
          have e0 : ∀ f : Nat → Value, (Array.range 0).map f = #[] := fun f => by simp
          rw [e0] at hk ⊢
          exact hk
        · rw [if_neg hn]
          simp only [semI_bind, hz', semI_pure, newRow, newObj, semI]
          exact hk
      · exact H.elim
    · exact H.elim
  · exact H.elim


theorem cpS_semI {P : Program} {t u ty : TypeId} {s x : Value} {h : Heap} {K : Value → Heap → Prop} (H : cpS P t s x h K) : semI P (Builtin.copy_ #[t, u] ty #[s, x]) h K := by
  unfold cpS at H
  split at H
  · rename_i e base len c b n c' ht
    split at H
    · rename_i ti hti
      obtain ⟨ys, hys, H⟩ := H
      simp only [Builtin.copy_, List.getElem?_toArray, List.getElem?_cons_zero, List.getElem?_cons_succ, semI_bind, semI_underlying ht, semI_sizeOf hti, semI_pure, Builtin.lenOf]
      refine readO_semI hys ?_
      cases base with
      | none => exact H
      | some a =>
        try simp only [semI_bind]
        exact storeL_semI P _ _ _ _ _ H
    · exact H.elim
  · exact H.elim

theorem zeroValue_semI {P : Program} {e : TypeId} {ti : TypeInfo} {z : Value} (hti : P.info? e = some ti) (hz : ti.zero = some z) (h' : Heap) (K' : Value → Heap → Prop) : semI P (zeroValue e) h' K' ↔ K' z h' := by
  simp only [zeroValue, semI_bind, semI_typeInfo hti, hz]; rfl

theorem clS_semI {P : Program} {t ty : TypeId} {s : Value} {h : Heap} {K : Value → Heap → Prop} (H : clS P t s h K) : semI P (Builtin.clear_ #[t] ty #[s]) h K := by
  unfold clS at H
  split at H
  · rename_i e base len c ht
    split at H
    · rename_i ti hti
      split at H
      · rename_i z hz
        unfold clB at H
        cases base with
        | none =>
          simp only [Builtin.clear_, List.getElem?_toArray, List.getElem?_cons_zero, semI_bind, semI_underlying ht, semI_pure]
          exact H
        | some a =>
          cases len with
          | zero =>
            simp only [Builtin.clear_, List.getElem?_toArray, List.getElem?_cons_zero, semI_bind, semI_underlying ht, semI_pure]
            exact H.1 rfl
          | succ n =>
            simp only [Builtin.clear_, List.getElem?_toArray, List.getElem?_cons_zero, semI_bind, semI_underlying ht, semI_pure, zeroValue_semI hti hz]
            exact storeL_semI P _ _ _ _ _ (H.2 (by simp))
      · exact H.elim
    · exact H.elim
  · exact H.elim

theorem b2s_forIn {P : Program} (f : Value → ByteArray → Sem (ForInStep ByteArray))
    (hf : ∀ (b : UInt8) (r : ByteArray) (h : Heap) (K : ForInStep ByteArray → Heap → Prop), K (.yield (r.push b)) h → semI P (f (.int .u8 b.toNat) r) h K) : ∀ (ys : List UInt8) (s : ByteArray) (h : Heap) (K : ByteArray → Heap → Prop),
    K ⟨(s.data.toList ++ ys).toArray⟩ h → semI P (forIn (ys.map fun b => Value.int .u8 (b.toNat : Int)) s f) h K
  | [], s, h, K, hk => by
    rw [List.map_nil, List.forIn_nil]
    have : (⟨(s.data.toList ++ []).toArray⟩ : ByteArray) = s := by simp
    rw [this] at hk; exact hk
  | b :: ys, s, h, K, hk => by
    rw [List.map_cons, List.forIn_cons, semI_bind]
    refine hf b s h _ ?_
    refine b2s_forIn f hf ys (s.push b) h K ?_
    simpa [ByteArray.push] using hk

theorem convS_semI {P : Program} {src dst : TypeId} {x : Value} {h : Heap} {fall : Prop} {K' K : Value → Heap → Prop} (hf : fall → semI P (convert src dst x) h K) (hK : ∀ v h', K' v h' → K v h') (H : convS P src dst x h fall K') :
    semI P (convert src dst x) h K := by
  unfold convS at H
  split at H
  · rename_i e a n c hs hd
    split at H
    · rename_i he
      obtain ⟨ys, hys, hk⟩ := H
      replace hk := hK _ _ hk
      have hread := readO_semI (P := P) (size := 1) (n := n) (l := n) (c := c) (by rw [Nat.mul_one]; exact hys)
        (K := fun cs h' => semI P (do let mut s := ByteArray.empty
                                      for c in cs do
                                        let .int .u8 n := c | stuck "bytesToString: byte expected"
                                        s := s.push (UInt8.ofNat n.toNat)
                                      pure (Value.string s)) h' K) (by
          simp only [semI_bind, List.forIn_toArray]
          refine b2s_forIn _ (fun b r h K hk => ?_) ys _ _ _ ?_
          · have : UInt8.ofNat ((b.toNat : Int)).toNat = b := by simp
            simp only [this]; exact hk
          · exact hk)
      simp only [convert, semI_bind, semI_underlying hs, semI_underlying hd, semI_underlying he, Conv.bytesToString]
      cases a with
      | none =>
        simp only [readO, List.map_eq_nil_iff] at hys
        subst hys
        exact hk
      | some a =>
        simp only [Builtin.firstCells, Nat.mul_one, semI_bind] at hread
        dsimp only
        simp only [semI_bind]
        exact hread
    · exact H.elim
  · rename_i e s hs hd
    split at H
    · rename_i he
      simp only [convert, semI_bind, semI_underlying hs, semI_underlying hd, semI_underlying he, Conv.stringToBytes, choose, semI, Question.forced, Bool.false_eq_true, if_false, newRow, newObj, semI_pure, markStringish, shape]
      intro tape
      have hc : s.size ≤ Question.cut (.appendCap s.size 0 e) tape := by simp only [Question.cut]; omega
      have := hK _ _ (H _ hc)
      have hsh : ∀ o : Array Value, shapeH (h.push (.cells o e)) h.size = some (e, o.size) := fun o => by simp [shapeH]
      simp only [hsh, semI_bind, freeze, semI, semI_pure]
      have hsz : ∀ c, s.size ≤ c → (s.data.map (fun b => Value.int .u8 (b.toNat : Int)) ++ Array.replicate (c - s.size) (Value.int .u8 0)).size = c := fun c hc => by
        simp only [Array.size_append, Array.size_map, Array.size_replicate]
        have : s.data.size = s.size := rfl
        omega
      rw [hsz _ hc]
      have e3 : ∀ (o : Array Value) (n : Nat), freezeH (h.push (.cells o e)) ⟨h.size, n, none⟩ 1 = h.push (.cells o e (n, n + 1)) := fun o n => by
        simp only [freezeH, Nat.one_ne_zero, if_false]
        apply Array.ext
        · simp
        · intro i h1 h2
          simp only [Array.getElem_modify, Array.getElem_push]
          simp only [Array.size_modify, Array.size_push] at h1
          by_cases hi : h.size = i
          · subst hi; simp
          · rw [if_neg hi, dif_pos (by omega), dif_pos (by omega)]
      rw [e3]
      exact this
    · exact H.elim
  · exact hf H

theorem resolve_builtin {ρ : Operand → Value} {c : Call} {type : TypeId} {b : Builtin} (hc : c.callee = .builtin b) :
    ∃ cs, resolve ρ c type = pure { target := .builtin b c.argTypes type cs, args := c.args.map ρ } := by
  unfold resolve; simp only [hc]; exact ⟨_, rfl⟩

theorem call_res {P : Program} {o : Oper} {tv : Operand → Tv} {c : Call} {f : Operand} {g : FuncId} {first captured : Array Value} {h : Heap} {K : Tv → Heap → Prop}
    (ho : o.op = .call c) (hc : c.callee = .value f) (hf : (tv f).v = .func (.func g) first captured)
    (H : callP P g (first.toList ++ c.args.toList.map (fun x => (tv x).v) ++ captured.toList).toArray h fun v h' => typeI P o.type v fun x => K (.val x) h') :
    Res P (execOp (fun x => (tv x).v) o) h fun v h' => ∃ x : Tv, x.v = v ∧ K x h' := by
  intro w hw
  have e1 : (first.toList ++ c.args.toList.map (fun x => (tv x).v) ++ captured.toList).toArray = (first ++ c.args.map (fun x => (tv x).v)) ++ captured := by
    apply Array.ext'; simp
  rw [e1] at H
  have e2 : (execOp (fun x => (tv x).v) o).run P w = .ok (.enter g ((first ++ c.args.map (fun x => (tv x).v)) ++ captured)) w := by
    obtain ⟨dst, op, type, pos, after, guard⟩ := o
    subst ho
    simp only [execOp, resolve, hc, Deferred.ofValue, hf, run_bind, run_pure, invoke]
    exact H.1 w
  rw [e2]
  refine ⟨Fr.refl w, (H.2 w hw).mono ?_⟩
  rintro e w' ⟨v, he, hfr, hk⟩
  exact ⟨v, he, hfr, _, rfl, typeI_elim hk⟩

theorem loudS_res {P : Program} {o : Oper} {tv : Operand → Tv} {h : Heap} {K : Tv → Heap → Prop} (H : loudS P o tv h K) :
    Res P (execOp (fun x => (tv x).v) o) h fun v h' => ∃ x : Tv, x.v = v ∧ K x h' := by
  have gen : semS P (execOp (fun x => (tv x).v) o) h K → Res P (execOp (fun x => (tv x).v) o) h fun v h' => ∃ x : Tv, x.v = v ∧ K x h' := semS_res
  dsimp only [loudS] at H
  split at H
  · rename_i t a x ho
    split at H
    · rename_i ad ha
      refine gen ?_
      obtain ⟨dst, op, type, pos, after, guard⟩ := o
      subst ho
      simp only [semS, execOp, semI_bind, Instr.storeAt, Instr.sureAddr, ha, semI_pure]
      exact storeI_semI H
    · exact H.elim
  · rename_i t l c ho
    refine gen ?_
    obtain ⟨dst, op, type, pos, after, guard⟩ := o
    subst ho
    simp only [semS, execOp, semI_bind, semI_pure]
    exact mkS_semI H
  · rename_i c ho
    split at H
    · rename_i f hc
      split at H
      · rename_i g first captured hf
        exact call_res ho hc hf H
      · exact H.elim
    · rename_i hc
      split at H
      · rename_i s x t u ha ht
        split at H
        · rename_i hu
          refine gen ?_
          obtain ⟨dst, op, type, pos, after, guard⟩ := o
          subst ho
          have h1 : c.args = #[s, x] := by apply Array.ext'; simpa using ha
          have h2 : c.argTypes = #[t, u] := by apply Array.ext'; simpa using ht
          obtain ⟨cs, hcs⟩ := resolve_builtin (ρ := fun x => (tv x).v) (type := type) hc
          simp only [semS, execOp, hcs, semI_bind, semI_pure, invoke, builtin, h1, h2]
          have h3 : (#[s, x] : Array Operand).map (fun x => (tv x).v) = #[(tv s).v, (tv x).v] := by simp
          rw [h3]
          exact semI_mono P _ _ (appS_semI hu H) fun v h' hk => typeI_elim hk
        · exact H.elim
      · exact H.elim
    · rename_i hc
      split at H
      · rename_i s x t u ha ht
        refine gen ?_
        obtain ⟨dst, op, type, pos, after, guard⟩ := o
        subst ho
        have h1 : c.args = #[s, x] := by apply Array.ext'; simpa using ha
        have h2 : c.argTypes = #[t, u] := by apply Array.ext'; simpa using ht
        obtain ⟨cs, hcs⟩ := resolve_builtin (ρ := fun x => (tv x).v) (type := type) hc
        simp only [semS, execOp, hcs, semI_bind, semI_pure, invoke, builtin, h1, h2]
        have h3 : (#[s, x] : Array Operand).map (fun x => (tv x).v) = #[(tv s).v, (tv x).v] := by simp
        rw [h3]
        exact cpS_semI H
      · exact H.elim
    · rename_i hc
      split at H
      · rename_i s t ha ht
        refine gen ?_
        obtain ⟨dst, op, type, pos, after, guard⟩ := o
        subst ho
        have h1 : c.args = #[s] := by apply Array.ext'; simpa using ha
        have h2 : c.argTypes = #[t] := by apply Array.ext'; simpa using ht
        obtain ⟨cs, hcs⟩ := resolve_builtin (ρ := fun x => (tv x).v) (type := type) hc
        simp only [semS, execOp, hcs, semI_bind, semI_pure, invoke, builtin, h1, h2]
        have h3 : (#[s] : Array Operand).map (fun x => (tv x).v) = #[(tv s).v] := by simp
        rw [h3]
        exact clS_semI H
      · exact H.elim
    · exact gen H
  · rename_i src dst x ho
    refine gen ?_
    obtain ⟨dst', op, type, pos, after, guard⟩ := o
    subst ho
    simp only [semS, execOp, semI_bind, semI_pure]
    refine convS_semI (fun hf => ?_) (fun v h' hk => typeI_elim hk) H
    simpa only [semS, execOp, semI_bind, semI_pure] using hf
  · exact gen H

/-- **EACH OPERATION DOES ON THE MACHINE WHAT 'step1' SAYS.** -/
theorem step1_res {P : Program} {o : Oper} {tv : Operand → Tv} {h : Heap} {K : Tv → Heap → Prop} (H : step1 P o tv h K) :
    Res P (execOp (fun x => (tv x).v) o) h fun v h' => ∃ x : Tv, x.v = v ∧ K x h' := by
  unfold step1 at H
  split at H
  · obtain ⟨x, hx, hr⟩ := pureS_run H
    intro w hw; rw [hr w]; exact ⟨Fr.refl w, x, rfl, hw ▸ hx⟩
  · obtain ⟨x, hx, hr⟩ := loadS_run H
    intro w hw; rw [hr w (hw ▸ Keeps.refl _)]; exact ⟨Fr.refl w, x, rfl, hw ▸ hx⟩
  · exact allocS_res H
  · exact loudS_res H

end Go.Sh
