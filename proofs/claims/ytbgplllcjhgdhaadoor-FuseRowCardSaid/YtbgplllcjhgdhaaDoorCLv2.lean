/- The program's fuse in plain Lean: live counts, and what a step keeps. -/
import Derived.Test.YtbgplllcjhgdhaaDoorCLv
namespace Go.Proofs.YtbgplllcjhgdhaaDoor.G
open Go Go.Sh
set_option linter.unusedVariables false
set_option linter.unusedSimpArgs false

theorem Went.roots {ns : List Nd} {pos : Int → Nat} {M : LM} {top : Nat} {r1 r2 : List Int} {E : List Int} {M' : LM} (w : Went ns pos M top r1 E M') (h : ∀ x, x ∈ r1 ↔ x ∈ r2) : Went ns pos M top r2 E M' :=
  ⟨w.nd, w.new, fun x hx out ho => w.lv x hx out fun r hr => ho r ((h r).1 hr), fun j => by
    rw [w.ct j]
    congr 2
    by_cases hj : j ∈ r1
    · rw [if_pos hj, if_pos ((h j).1 hj)]
    · rw [if_neg hj, if_neg (fun hh => hj ((h j).2 hh))], w.cl, fun r hr => w.rt r ((h r).2 hr), fun x hx => (w.up x hx).imp (fun hh => (h x).1 hh) id⟩

theorem visit_went {ns : List Nd} {pos : Int → Nat} (hr : Ranked ns pos) : ∀ (k : Nat) (M : LM) (i : Int) (B : Nat), 0 < i → i ≤ (ns.length : Int) → pos i < k → (∀ j c, M j = some c → 0 ≤ c ∧ c ≤ B) → (∀ j c, pos j < pos i → 0 < j → M j = some c → 1 ≤ c) → B + k * (ns.length + 2) < 2 ^ 62 →
    ∃ E, Went ns pos M (pos i) (innOf ns i) E (visit ns k M i)
  | 0, _, _, _, _, _, h, _, _, _ => by omega
  | k + 1, M, i, B, h0, hn, hp, hB, h1, hb => by
    rw [visit_succ]
    obtain ⟨E, w⟩ := visitL_went hr (visit_went hr k) M (pos i) B (by omega) hB h1 hb _ (sd (innOf ns i)) rfl (sd_nodup _) fun j hj => hr.down h0 ((sd_mem _ _).1 hj)
    exact ⟨E, w.roots fun x => sd_mem x _⟩

/-- The live nodes that have a node among their inputs. -/
def usersL (ns : List Nd) (M : LM) (x : Int) : List Nat := (List.range ns.length).filter fun w => decide ((M ((w : Int) + 1)).isSome ∧ x ∈ innOf ns ((w : Int) + 1))
theorem usersL_mem {ns : List Nd} {M : LM} {x : Int} {w : Nat} : w ∈ usersL ns M x ↔ w < ns.length ∧ (M ((w : Int) + 1)).isSome ∧ x ∈ innOf ns ((w : Int) + 1) := by
  unfold usersL
  rw [List.mem_filter, List.mem_range, decide_eq_true_iff]

/-- What holds of a graph, and of the counts, while it is fused. -/
structure FInv (ns : List Nd) (out : Int) (M : LM) (pos : Int → Nat) : Prop where
  ranked : Ranked ns pos
  out1 : 1 ≤ out
  outn : out ≤ (ns.length : Int)
  one : ∀ n ∈ ns, n.kind = 9 ∨ n.kind = 10 → n.inn.length = 1
  lv : ∀ x, (M x).isSome ↔ Lv ns out x
  ct : ∀ x c, 1 ≤ x → M x = some c → c = ((usersL ns M x).length : Int)

theorem liveM_inv {ns : List Nd} {out : Int} {pos : Int → Nat} (hr : Ranked ns pos) (hp : pos out ≤ ns.length) (h1 : 1 ≤ out) (hn : out ≤ (ns.length : Int)) (hl : ns.length < 2 ^ 20) (one : ∀ n ∈ ns, n.kind = 9 ∨ n.kind = 10 → n.inn.length = 1) :
    FInv ns out (liveM ns out) pos := by
  have hM0 : ∀ x c, upM (fun _ => none : LM) out 0 x = some c → x = out ∧ c = 0 := fun x c h => by
    unfold upM at h
    split at h
    · rename_i e; exact ⟨e, (Option.some.inj h).symm⟩
    · cases h
  obtain ⟨E, w⟩ := visit_went hr (ns.length + 1) (upM (fun _ => none) out 0) out 0 (by omega) hn (by omega) (fun j c h => by have := (hM0 j c h).2; omega) (fun j c hp h0 h => by have := (hM0 j c h).1; subst this; omega) (by
    have : (ns.length + 1) * (ns.length + 2) ≤ 2 ^ 20 * (2 ^ 20 + 1) := Nat.mul_le_mul (by omega) (by omega)
    omega)
  have hMo : upM (fun _ => none : LM) out 0 out = some 0 := by unfold upM; rw [if_pos rfl]
  have hME : ∀ x, (upM (fun _ => none : LM) out 0 x).isSome → x = out := fun x h => by
    obtain ⟨c, hc⟩ := Option.isSome_iff_exists.1 h
    exact (hM0 x c hc).1
  show FInv ns out (visit ns (ns.length + 1) (upM (fun _ => none) out 0) out) pos
  generalize visit ns (ns.length + 1) (upM (fun _ => none) out 0) out = M at w ⊢
  have hoE : out ∉ E := fun h => by have := (w.new out h).1; rw [hMo] at this; cases this
  have hroot : ∀ r ∈ innOf ns out, Lv ns out r := fun r hr' => by
    obtain ⟨i, n, e, en, hm⟩ := innOf_mem (by omega) hr'
    have h : Lv ns out out := .out
    have h : Lv ns out ((i : Int) + 1) := by rw [← e]; exact h
    exact h.inn en hm
  have inE : ∀ x, 0 < x → (M x).isSome → x = out ∨ x ∈ E := fun x h0 hx => by
    rw [w.ct x] at hx
    rcases addc_isSome hx with ⟨_, h⟩ | h
    · exact .inl (hME x h)
    · by_cases hxr : x ∈ innOf ns out
      · rcases w.rt x hxr h0 with h | h
        · exact .inr h
        · exact .inl (hME x h)
      · rw [if_neg hxr] at h
        obtain ⟨y, hy, hxy⟩ := cnt_pos.1 (show 0 < cnt ns E x by omega)
        rcases w.cl y hy x hxy h0 with h | h
        · exact .inr h
        · exact .inl (hME x h)
  have some_of : ∀ y, y = out ∨ y ∈ E → ∀ j, j ∈ innOf ns y → (M j).isSome := fun y hy j hj => by
    rw [w.ct j]
    rcases hy with rfl | hy
    · rw [if_pos hj, addc_some (by omega)]; rfl
    · rw [addc_some (by have := cnt_pos.2 ⟨y, hy, hj⟩; omega)]; rfl
  have outS : (M out).isSome := by
    rw [w.ct out]
    generalize (cnt ns E out + if out ∈ innOf ns out then 1 else 0) = q
    unfold addc
    split
    · rw [hMo]; rfl
    · rfl
  have hlv : ∀ x, (M x).isSome ↔ Lv ns out x := fun x => by
    constructor
    · intro hx
      rw [w.ct x] at hx
      rcases addc_isSome hx with ⟨_, h⟩ | h
      · rw [hME x h]; exact .out
      · by_cases hxr : x ∈ innOf ns out
        · exact hroot x hxr
        · rw [if_neg hxr] at h
          obtain ⟨y, hy, hxy⟩ := cnt_pos.1 (show 0 < cnt ns E x by omega)
          obtain ⟨i, n, e, en, hm⟩ := innOf_mem (w.new y hy).2.1 hxy
          have := w.lv y hy out hroot
          rw [e] at this
          exact this.inn en hm
    · intro hx
      induction hx with
      | out => exact outS
      | @inn i n j h en hm ih => exact some_of _ (inE _ (by omega) ih) j (by rw [innOf_at en]; exact hm)
  refine ⟨hr, h1, hn, one, hlv, fun x c hx hc => ?_⟩
  have ec : c = ((cnt ns (out :: E) x : Nat) : Int) := by
    have e : cnt ns (out :: E) x = cnt ns E x + if x ∈ innOf ns out then 1 else 0 := by
      unfold cnt
      rw [List.filter_cons]
      by_cases hy : x ∈ innOf ns out
      · rw [if_pos (by simpa using hy), if_pos hy]; rfl
      · rw [if_neg (by simpa using hy), if_neg hy]; rfl
    rw [w.ct x] at hc
    rcases addc_cases hc with ⟨h0, hc⟩ | ⟨h0, hc⟩
    · have := (hM0 x c hc).2
      rw [e]; omega
    · have hc := Option.some.inj hc
      have : (upM (fun _ => none : LM) out 0 x).getD 0 = 0 := by
        cases h : upM (fun _ => none : LM) out 0 x with
        | none => rfl
        | some d => rw [(hM0 x d h).2]; rfl
      rw [e]; omega
  rw [ec]
  congr 1
  have nd1 : ((out :: E).filter fun y => decide (x ∈ innOf ns y)).Nodup := List.Pairwise.filter _ (List.nodup_cons.2 ⟨hoE, w.nd⟩)
  have nd2 : ((usersL ns M x).map fun w : Nat => (w : Int) + 1).Nodup := by
    unfold List.Nodup
    rw [List.pairwise_map]
    have : (usersL ns M x).Nodup := List.Pairwise.filter _ List.nodup_range
    exact this.imp fun h e => h (by omega)
  have l1 := nodup_len _ ((usersL ns M x).map fun w : Nat => (w : Int) + 1) nd1 fun y hy => by
    rw [List.mem_filter, decide_eq_true_iff] at hy
    obtain ⟨hy, hxy⟩ := hy
    have hy0 : 0 < y ∧ y ≤ (ns.length : Int) ∧ (M y).isSome := by
      rcases List.mem_cons.1 hy with rfl | hy
      · exact ⟨by omega, hn, outS⟩
      · exact ⟨(w.new y hy).2.1, (w.new y hy).2.2.1, (hlv y).2 (w.lv y hy out hroot)⟩
    rw [List.mem_map]
    have e : (((y - 1).toNat : Nat) : Int) + 1 = y := by omega
    exact ⟨(y - 1).toNat, usersL_mem.2 ⟨by omega, by rw [e]; exact hy0.2.2, by rw [e]; exact hxy⟩, e⟩
  have l2 := nodup_len _ ((out :: E).filter fun y => decide (x ∈ innOf ns y)) nd2 fun y hy => by
    obtain ⟨v, hv, rfl⟩ := List.mem_map.1 hy
    obtain ⟨h1, h2, h3⟩ := usersL_mem.1 hv
    rw [List.mem_filter, decide_eq_true_iff]
    refine ⟨?_, h3⟩
    rcases inE _ (by omega) h2 with h | h
    · rw [h]; simp
    · exact List.mem_cons_of_mem _ h
  rw [List.length_map] at l1 l2
  unfold cnt
  omega

/-! the user of a node -/
theorem userTo_spec {ns : List Nd} {M : LM} {a : Int} : ∀ j : Nat, j ≤ ns.length → (userTo ns M a j = 0 ∧ ∀ w < j, ¬ ((M ((w : Int) + 1)).isSome ∧ a ∈ innOf ns ((w : Int) + 1))) ∨ ∃ w < j, userTo ns M a j = (w : Int) + 1 ∧ (M ((w : Int) + 1)).isSome ∧ a ∈ innOf ns ((w : Int) + 1)
  | 0, _ => .inl ⟨rfl, fun w h => absurd h (Nat.not_lt_zero _)⟩
  | j + 1, hj => by
    have hj' : j < ns.length := by omega
    obtain ⟨n, en⟩ : ∃ n, ns[j]? = some n := ⟨_, List.getElem?_eq_getElem hj'⟩
    have ei := innOf_at en
    unfold userTo
    rw [en]
    show ((if (M ((j : Int) + 1)).isSome ∧ a ∈ n.inn then (j : Int) + 1 else userTo ns M a j) = 0 ∧ _) ∨ ∃ w < j + 1, (if (M ((j : Int) + 1)).isSome ∧ a ∈ n.inn then (j : Int) + 1 else userTo ns M a j) = _ ∧ _
    by_cases hc : (M ((j : Int) + 1)).isSome ∧ a ∈ n.inn
    · rw [if_pos hc]
      exact .inr ⟨j, by omega, rfl, hc.1, by rw [ei]; exact hc.2⟩
    · rw [if_neg hc]
      rcases userTo_spec (ns := ns) (M := M) (a := a) j (by omega) with ⟨h1, h2⟩ | ⟨w, h1, h2⟩
      · refine .inl ⟨h1, fun w hw hh => ?_⟩
        by_cases e : w = j
        · subst e; rw [ei] at hh; exact hc hh
        · exact h2 w (by omega) hh
      · exact .inr ⟨w, by omega, h2⟩
theorem FInv.hasUser {ns : List Nd} {out : Int} {M : LM} {pos : Int → Nat} (I : FInv ns out M pos) : HasUser ns M := by
  intro i hi hM
  have hc := I.ct _ _ (by omega) hM
  have : 0 < (usersL ns M ((i : Int) + 1)).length := by omega
  obtain ⟨w, hw⟩ := List.length_pos_iff_exists_mem.1 this
  obtain ⟨h1, h2, h3⟩ := usersL_mem.1 hw
  unfold userOf
  rcases userTo_spec (M := M) (a := (i : Int) + 1) ns.length (Nat.le_refl _) with ⟨_, h⟩ | ⟨v, _, e, _⟩
  · exact absurd ⟨h2, h3⟩ (h w h1)
  · omega
/-- The one user of a node that one live node is over. -/
theorem FInv.user {ns : List Nd} {out : Int} {M : LM} {pos : Int → Nat} (I : FInv ns out M pos) {a : Int} (ha : 1 ≤ a) (hM : M a = some 1) : ∃ w : Nat, userOf ns M a = (w : Int) + 1 ∧ w < ns.length ∧ (M ((w : Int) + 1)).isSome ∧ a ∈ innOf ns ((w : Int) + 1) ∧
    ∀ v : Nat, v < ns.length → (M ((v : Int) + 1)).isSome → a ∈ innOf ns ((v : Int) + 1) → v = w := by
  have hc := I.ct _ _ ha hM
  have h1 : (usersL ns M a).length = 1 := by omega
  obtain ⟨w, hw⟩ := List.length_eq_one_iff.1 h1
  obtain ⟨w1, w2, w3⟩ := usersL_mem.1 (show w ∈ usersL ns M a by rw [hw]; simp)
  have only : ∀ v : Nat, v < ns.length → (M ((v : Int) + 1)).isSome → a ∈ innOf ns ((v : Int) + 1) → v = w := fun v v1 v2 v3 => by
    have := usersL_mem.2 ⟨v1, v2, v3⟩
    rw [hw] at this; simpa using this
  rcases userTo_spec (M := M) (a := a) ns.length (Nat.le_refl _) with ⟨_, h⟩ | ⟨v, v1, e, v2, v3⟩
  · exact absurd ⟨w2, w3⟩ (h w w1)
  · have := only v v1 v2 v3
    subst this
    exact ⟨v, e, w1, w2, w3, only⟩
end Go.Proofs.YtbgplllcjhgdhaaDoor.G
