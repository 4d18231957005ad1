/- Sh, part 16: rules over aggregates of many cells; facts joined, and told anew. -/
import Derived.Test.YtdjofpdmdbcgjadShM
namespace Go.Sh
set_option linter.unusedVariables false

theorem ldSc_i {s : Sc} {h : Heap} {a : Addr} {x : s.T} {K : s.T → Prop} (hc : cellH h a = some (s.mk x)) (H : K x) : ldSc s h a K := by
  cases s
  case slice => exact ⟨x.1, x.2.1, x.2.2, hc, H⟩
  all_goals exact ⟨x, hc, H⟩
theorem ldAgAt_i : ∀ {l : List Sc} {h : Heap} {a : Addr} {i : Nat} {x : TS l} {K : TS l → Prop}, (∀ j v, (mkS' l x)[j]? = some v → cellH h (Addr.add a (i + j)) = some v) → K x → ldAgAt l h a i K
  | [], _, _, _, _, _, _, H => H
  | s :: r, h, a, i, x, K, hc, H => by
    refine ldSc_i (x := x.1) (by have := hc 0 (s.mk x.1) rfl; rwa [Nat.add_zero] at this) ?_
    refine ldAgAt_i (x := x.2) (fun j v hv => ?_) H
    have := hc (j + 1) v (by simpa [mkS'] using hv)
    rwa [show i + (j + 1) = i + 1 + j by omega] at this
theorem ldAg_i {l : List Sc} {h : Heap} {a : Addr} {x : TS l} {K : TS l → Prop} (hc : ∀ j v, (mkS' l x)[j]? = some v → cellH h (Addr.add a j) = some v) (H : K x) : ldAg l h a K :=
  ldAgAt_i (fun j v hv => by rw [Nat.zero_add]; exact hc j v hv) H
theorem At.agg {h : Heap} {b : Nat} {cs vs : List Value} (a : At h b cs) (hx : cs = vs) : ∀ j v, vs[j]? = some v → cellH h (Addr.add ⟨b, 0, none⟩ j) = some v := fun j v hv => by
  rw [add_mk, Nat.zero_add]; exact a.cell (by rw [hx]; exact hv)
theorem ldAg_S {h0 h : Heap} {T : Nat → Prop} {W R : List Fact} (S : Sep h0 T h W R) (i : Nat) {b : Nat} {cs : List Value} {l : List Sc} {x : TS l} {K : TS l → Prop} (e : W[i]? = some (blk b cs)) (hx : cs = mkS' l x) (H : K x) : ldAg l h ⟨b, 0, none⟩ K :=
  ldAg_i ((S.at i e).agg hx) H
theorem ldAg_R {h0 h : Heap} {T : Nat → Prop} {W R : List Fact} (S : Sep h0 T h W R) (i : Nat) {b : Nat} {cs : List Value} {l : List Sc} {x : TS l} {K : TS l → Prop} (e : R[i]? = some (blk b cs)) (hx : cs = mkS' l x) (H : K x) : ldAg l h ⟨b, 0, none⟩ K :=
  ldAg_i (At.agg (S.r i _ e) hx) H

theorem holdW_i {h : Heap} {K : Prop} (k : Nat) {a : Addr} : ∀ {vs : List Value} {i : Nat}, (∀ j v, vs[j]? = some v → cellH h (Addr.add a (i + j)) = some v) → K → holdW (watchL k a vs i) h K
  | [], _, _, H => H
  | y :: r, i, hc, H => by
    refine ⟨by have := hc 0 y rfl; rwa [Nat.add_zero] at this, holdW_i k (fun j v hv => ?_) H⟩
    have := hc (j + 1) v (by simpa using hv)
    rwa [show i + (j + 1) = i + 1 + j by omega] at this
theorem holdW_S {h0 h : Heap} {T : Nat → Prop} {W R : List Fact} (S : Sep h0 T h W R) (i : Nat) {b k : Nat} {cs vs : List Value} {K : Prop} (e : W[i]? = some (blk b cs)) (hx : cs = vs) (H : K) : holdW (watchL k ⟨b, 0, none⟩ vs 0) h K :=
  holdW_i k (fun j v hv => by rw [Nat.zero_add]; exact (S.at i e).agg hx j v hv) H
theorem holdW_R {h0 h : Heap} {T : Nat → Prop} {W R : List Fact} (S : Sep h0 T h W R) (i : Nat) {b k : Nat} {cs vs : List Value} {K : Prop} (e : R[i]? = some (blk b cs)) (hx : cs = vs) (H : K) : holdW (watchL k ⟨b, 0, none⟩ vs 0) h K :=
  holdW_i k (fun j v hv => by rw [Nat.zero_add]; exact At.agg (S.r i _ e) hx j v hv) H

theorem exSc_i {s : Sc} (x : s.T) {K : s.T → Prop} (H : K x) : exSc s K := by
  cases s
  case slice => exact ⟨x.1, x.2.1, x.2.2, H⟩
  all_goals exact ⟨x, H⟩
theorem exS_i : ∀ {l : List Sc} (x : TS l) {K : TS l → Prop}, K x → exS l K
  | [], _, _, H => H
  | s :: r, x, K, H => exSc_i x.1 (exS_i x.2 H)

def Sc.plain : Sc → Bool
  | .any => false
  | _ => true
theorem mkS_one : ∀ {l : List Sc} {x : TS l}, l.all Sc.plain = true → ∀ y ∈ mkS' l x, one1 y = true
  | [], _, _, y, hy => by cases hy
  | s :: r, x, hl, y, hy => by
    simp only [List.all_cons, Bool.and_eq_true] at hl
    rcases List.mem_cons.1 hy with rfl | hy
    · cases s <;> first | rfl | (exact absurd hl.1 (by decide))
    · exact mkS_one hl.2 y hy
theorem mkS_len : ∀ {l : List Sc} {x : TS l}, (mkS' l x).length = l.length
  | [], _ => rfl
  | s :: r, x => by simp [mkS', mkS_len (l := r)]

/-- All cells of a block are stored. -/
theorem stL_S {h0 h : Heap} {T : Nat → Prop} {W R : List Fact} (S : Sep h0 T h W R) (i : Nat) {b : Nat} {cs vs : List Value} {K : Heap → Prop} (e : W[i]? = some (blk b cs)) (hl : cs.length = vs.length) (h1 : ∀ y ∈ vs, one1 y = true)
    (H : ∀ h', h'.size = h.size → Sep h0 T h' (W.set i (blk b vs)) R → K h') : storeL vs h ⟨b, 0, none⟩ 0 K := by
  refine storeL_own vs h cs 0 0 (S.at i e) (by omega) h1 fun h' hs hat hf => H h' hs (S.upd i e _ hf ?_ fun _ h => .inl h)
  have : cs.take (0 + 0) ++ vs ++ cs.drop (0 + 0 + vs.length) = vs := by
    rw [List.take_zero, List.nil_append, List.drop_of_length_le (by omega), List.append_nil]
  rw [this] at hat
  exact hat

/-- Some cells of a slice that has its block for itself. -/
theorem stLO_S {h0 h : Heap} {T : Nat → Prop} {W R : List Fact} (S : Sep h0 T h W R) (i : Nat) {sz : Nat} {a : Addr} {l c k : Nat} {xs vs : List Value} {K : Heap → Prop} (e : W[i]? = some (own sz (some a) l c xs)) (hk : k + vs.length ≤ xs.length) (h1 : ∀ y ∈ vs, one1 y = true)
    (H : ∀ h', h'.size = h.size → Sep h0 T h' (W.set i (own sz (some a) l c (xs.take k ++ vs ++ xs.drop (k + vs.length)))) R → K h') : storeL vs h (Addr.add a k) 0 K := by
  obtain ⟨o1, o2, ⟨e', _⟩ | ⟨b, cs, e', hb, hat, hlen, ht⟩⟩ := S.own i e
  · cases e'
  · cases e'
    rw [add_mk, Nat.zero_add]
    have hle : xs.length ≤ cs.length := by rw [← ht]; simp; omega
    refine storeL_own vs h cs k 0 hat (by omega) h1 fun h' hs hat' hf => H h' hs (S.upd i e _ (hf.mono fun j _ hj => ⟨_, rfl, hj.symm⟩) ⟨?_, o2, .inr ⟨b, _, rfl, hb, hat', ?_, ?_⟩⟩ fun _ h => .inl h)
    · rw [← o1]; simp; omega
    · rw [← hlen]; simp; omega
    · simp only [Nat.add_zero]
      have e1 : (xs.take k ++ vs ++ xs.drop (k + vs.length)).length = xs.length := by simp; omega
      have e2 : xs.take k = cs.take k := by rw [← ht, List.take_take, Nat.min_eq_left (by omega)]
      rw [e1, e2]
      apply List.ext_getElem?
      intro j
      by_cases hj : j < xs.length
      · rw [List.getElem?_take, if_pos hj]
        by_cases hj2 : j < k + vs.length
        · rw [List.getElem?_append_left (l₁ := cs.take k ++ vs) (l₂ := cs.drop (k + vs.length)) (by simp only [List.length_append, List.length_take]; omega), List.getElem?_append_left (l₁ := cs.take k ++ vs) (l₂ := xs.drop (k + vs.length)) (by simp only [List.length_append, List.length_take]; omega)]
        · rw [List.getElem?_append_right (l₁ := cs.take k ++ vs) (l₂ := cs.drop (k + vs.length)) (by simp only [List.length_append, List.length_take]; omega), List.getElem?_append_right (l₁ := cs.take k ++ vs) (l₂ := xs.drop (k + vs.length)) (by simp only [List.length_append, List.length_take]; omega), List.getElem?_drop, List.getElem?_drop]
          have e3 : xs[k + vs.length + (j - (cs.take k ++ vs).length)]? = cs[k + vs.length + (j - (cs.take k ++ vs).length)]? := by
            conv => lhs; rw [← ht]
            rw [List.getElem?_take, if_pos]
            simp; omega
          rw [e3]
      · rw [List.getElem?_eq_none (by simp; omega), List.getElem?_eq_none (by simp; omega)]

/-- Facts m, as one. -/
theorem Sep.join {h0 h : Heap} {T : Nat → Prop} {W R : List Fact} (S : Sep h0 T h W R) (l m : List Nat) (hl : (l ++ m).Nodup := by decide) : Sep h0 T h (Sh.pick W l ++ [reads (Sh.pick W m)]) R := by
  have hl' := List.nodup_append.1 hl
  have P := S.pw l hl'.1
  have key : ∀ (i : Nat) (f : Fact), (Sh.pick W l ++ [reads (Sh.pick W m)])[i]? = some f → (i < (Sh.pick W l).length ∧ (Sh.pick W l)[i]? = some f) ∨ (i = (Sh.pick W l).length ∧ f = reads (Sh.pick W m)) := fun i f hf => by
    rw [List.getElem?_append] at hf
    split at hf
    · exact .inl ⟨by assumption, hf⟩
    · rw [List.getElem?_singleton] at hf
      split at hf
      · cases hf; exact .inr ⟨by omega, rfl⟩
      · cases hf
  have inm : ∀ g ∈ Sh.pick W m, ∃ i, i ∈ m ∧ W[i]? = some g := fun g hg => by
    obtain ⟨k, hk⟩ := List.getElem?_of_mem hg
    exact pick_mem hk
  have hold : (reads (Sh.pick W m)).P h := fun g hg => by obtain ⟨i, _, hi⟩ := inm g hg; exact S.w i g hi
  have apart : ∀ (i : Nat) (f : Fact), (Sh.pick W l)[i]? = some f → ∀ b, f.foot b → (reads (Sh.pick W m)).foot b → False := fun i f hf b hb ⟨g, hg, hgb⟩ => by
    obtain ⟨i', hi', hi⟩ := pick_mem hf
    obtain ⟨j', hj', hj⟩ := inm g hg
    exact S.ww i' j' f g hi hj (hl'.2.2 _ hi' _ hj') b hb hgb
  refine ⟨S.fra, fun i f hf => ?_, S.r, fun i f hf b hb hlt => ?_, fun i j f g hf hg hij b hb hb' => ?_, fun i j f g hf hg b hb hb' => ?_⟩
  · rcases key i f hf with ⟨_, hf⟩ | ⟨_, rfl⟩
    · exact P.w i f hf
    · exact hold
  · rcases key i f hf with ⟨_, hf⟩ | ⟨_, rfl⟩
    · exact P.ok i f hf b hb hlt
    · obtain ⟨g, hg, hgb⟩ := hb
      obtain ⟨j, _, hj⟩ := inm g hg
      exact S.ok j g hj b hgb hlt
  · rcases key i f hf with ⟨h1, hf⟩ | ⟨h1, rfl⟩ <;> rcases key j g hg with ⟨h2, hg⟩ | ⟨h2, rfl⟩
    · exact P.ww i j f g hf hg hij b hb hb'
    · exact apart i f hf b hb hb'
    · exact apart j g hg b hb' hb
    · omega
  · rcases key i f hf with ⟨_, hf⟩ | ⟨_, rfl⟩
    · exact P.wr i j f g hf hg b hb hb'
    · obtain ⟨f', hf', hfb⟩ := hb
      obtain ⟨i', _, hi⟩ := inm f' hf'
      exact S.wr i' j f' g hi hg b hfb hb'

/-- One more fact that is read, told by one that is. -/
theorem Sep.dup {h0 h : Heap} {T : Nat → Prop} {W R : List Fact} (S : Sep h0 T h W R) (j : Nat) {g : Fact} (e : R[j]? = some g) (g' : Fact) (hp : g.P h → g'.P h) (hs : ∀ b, g'.foot b → g.foot b) : Sep h0 T h W (R ++ [g']) := by
  have key : ∀ (i : Nat) (u : Fact), (R ++ [g'])[i]? = some u → u = g' ∨ R[i]? = some u := fun i u hu => by
    rw [List.getElem?_append] at hu
    split at hu
    · exact .inr hu
    · rw [List.getElem?_singleton] at hu
      split at hu
      · cases hu; exact .inl rfl
      · cases hu
  refine ⟨S.fra, S.w, fun i u hu => ?_, S.ok, S.ww, fun i k f u hf hu b hb hb' => ?_⟩
  · rcases key i u hu with rfl | hu
    · exact hp (S.r j g e)
    · exact S.r i u hu
  · rcases key k u hu with rfl | hu
    · exact S.wr i j f g hf e b hb (hs b hb')
    · exact S.wr i k f u hf hu b hb hb'
theorem Sep.dupOf {h0 h : Heap} {T : Nat → Prop} {W R : List Fact} (S : Sep h0 T h W R) (j : Nat) {l : List Fact} {f : Fact} (hf : f ∈ l) (e : R[j]? = some (reads l) := by rfl) : Sep h0 T h W (R ++ [f]) :=
  S.dup j e f (fun h => h f hf) fun _ hb => ⟨f, hf, hb⟩

/-- A fact more among those that are read. -/
theorem Sep.joinR {h0 h : Heap} {T : Nat → Prop} {W R : List Fact} (S : Sep h0 T h W R) (l : List Nat) (i j : Nat) {A : List Fact} {f : Fact} (e1 : W[i]? = some (reads A)) (e2 : W[j]? = some f) (hl : (l ++ [i, j]).Nodup := by decide) :
    Sep h0 T h (Sh.pick W l ++ [reads (A ++ [f])]) R := by
  have S2 := S.join l [i, j] hl
  have ep : Sh.pick W [i, j] = [reads A, f] := by simp only [Sh.pick, e1, e2]
  rw [ep] at S2
  have e : (Sh.pick W l ++ [reads [reads A, f]])[(Sh.pick W l).length]? = some (reads [reads A, f]) := by rw [List.getElem?_concat_length]
  have S3 := S2.turn (Sh.pick W l).length e (reads (A ++ [f])) (fun H g hg => by
    rcases List.mem_append.1 hg with hg | hg
    · exact H (reads A) (by simp) g hg
    · simp only [List.mem_singleton] at hg; subst hg; exact H g (by simp)) (fun b ⟨g, hg, hb⟩ => by
    rcases List.mem_append.1 hg with hg | hg
    · exact ⟨reads A, by simp, g, hg, hb⟩
    · simp only [List.mem_singleton] at hg; subst hg; exact ⟨g, by simp, hb⟩)
  rw [List.set_append_right _ _ (Nat.le_refl _), Nat.sub_self] at S3
  exact S3
theorem Sep.reads0 {h0 h : Heap} {T : Nat → Prop} {W R : List Fact} (S : Sep h0 T h W R) : Sep h0 T h (W ++ [reads []]) R :=
  S.join (List.range W.length) [] (by simpa using List.nodup_range) |> fun P => by
    have : Sh.pick W (List.range W.length) = W := by
      have key : ∀ (A B : List Fact), Sh.pick (A ++ B) ((List.range B.length).map (· + A.length)) = B := by
        intro A B
        induction B generalizing A with
        | nil => rfl
        | cons f B ih =>
          rw [List.length_cons, List.range_succ_eq_map, List.map_cons, List.map_map]
          simp only [Sh.pick]
          rw [List.getElem?_append_right (by omega)]
          simp only [Nat.zero_add, Nat.sub_self, List.getElem?_cons_zero]
          congr 1
          have h1 := ih (A ++ [f])
          simp only [List.append_assoc, List.singleton_append, List.length_append, List.length_singleton] at h1
          have h2 : List.map ((fun x => x + A.length) ∘ Nat.succ) (List.range B.length) = List.map (fun x => x + (A.length + 1)) (List.range B.length) := by
            apply List.map_congr_left; intro i _; simp; omega
          rw [h2]; exact h1
      simpa using key [] W
    rw [this] at P
    exact P

theorem ldAg_id {l : List Sc} {h : Heap} {a : Addr} {K : TS l → Prop} (H : ldAg l h a K) : ldAg l h a K := H
theorem storeL_id {vs : List Value} {h : Heap} {a : Addr} {i : Nat} {K : Heap → Prop} (H : storeL vs h a i K) : storeL vs h a i K := H
theorem holdW_id {W : Watch} {h : Heap} {K : Prop} (H : holdW W h K) : holdW W h K := H

theorem ifB_beq {a b : Int} {A B : Prop} (ha : a = b → A) (hb : a ≠ b → B) : ifB (a == b) A B := ⟨fun e => ha (by simpa using e), fun e => hb (by simpa using e)⟩
theorem ifB_bne {a b : Int} {A B : Prop} (ha : a ≠ b → A) (hb : a = b → B) : ifB (a != b) A B := ⟨fun e => ha (by simpa using e), fun e => hb (by simpa using e)⟩
theorem ifB_not {b : Bool} {A B : Prop} (h : ifB b B A) : ifB (!b) A B := ⟨fun e => h.2 (by simpa using e), fun e => h.1 (by simpa using e)⟩
theorem ifB_known {b : Bool} {A : Prop} {B : Prop} (h : b = true → A) (h' : b = false → B) : ifB b A B := ⟨h, h'⟩

/-- Facts that are read, told anew all together. -/
theorem reads_mono {l m : List Fact} {h : Heap} (H : (reads l).P h) (hm : ∀ f ∈ m, ∃ g ∈ l, g.P h → f.P h) : (reads m).P h := fun f hf => by
  obtain ⟨g, hg, k⟩ := hm f hf
  exact k (H g hg)

end Go.Sh
