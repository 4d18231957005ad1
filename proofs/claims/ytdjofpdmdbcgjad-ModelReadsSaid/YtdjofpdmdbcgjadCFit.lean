/- The plain law: a graph that is made fits its bytes. -/
import Derived.Test.YtdjofpdmdbcgjadCParse
namespace Go.Proofs.Ytdjofpdmdbcgjad.G
open Go Go.Sh
set_option linter.unusedVariables false
set_option linter.unusedSimpArgs false

theorem fitR_one {a b x : Int} : fitR a b [x] ↔ a ≤ x ∧ x ≤ b := by rw [fitR_cons]; exact ⟨fun h => h.1, fun h => ⟨h, fitR_nil _ _⟩⟩
theorem fitR_two {a b x y : Int} : fitR a b [x, y] ↔ (a ≤ x ∧ x ≤ b) ∧ (a ≤ y ∧ y ≤ b) := by rw [fitR_cons, fitR_one]
theorem fitR_six {a b x0 x1 x2 x3 x4 x5 : Int} : fitR a b [x0, x1, x2, x3, x4, x5] ↔ (a ≤ x0 ∧ x0 ≤ b) ∧ (a ≤ x1 ∧ x1 ≤ b) ∧ (a ≤ x2 ∧ x2 ≤ b) ∧ (a ≤ x3 ∧ x3 ≤ b) ∧ (a ≤ x4 ∧ x4 ≤ b) ∧ (a ≤ x5 ∧ x5 ≤ b) := by
  rw [fitR_cons, fitR_cons, fitR_cons, fitR_cons, fitR_cons, fitR_one]

theorem mul_in {a b A B : Int} (h0 : 0 ≤ a) (h1 : a ≤ A) (h2 : 0 ≤ b) (h3 : b ≤ B) : 0 ≤ a * b ∧ a * b ≤ A * B :=
  ⟨Int.mul_nonneg h0 h2, Int.le_trans (Int.mul_le_mul_of_nonneg_left h3 h0) (Int.mul_le_mul_of_nonneg_right h1 (Int.le_trans h2 h3))⟩

theorem winOk_in {size step gap left right : Int} (h : winOk size step gap left right) : (0 ≤ left ∧ left ≤ 9) ∧ (0 ≤ right ∧ right ≤ 9) := by
  obtain ⟨h1, h2, h3, h4, h5⟩ := h
  have := mul_in (a := size - 1) (b := gap) (A := 3) (B := 3) (by omega) (by omega) (by omega) (by omega)
  omega

/-- A node that is made fits, whatever small numbers its inputs have. -/
theorem good_fit {ins ws : List Int} {st : Bool} {n : Nd} (g : GoodN ins ws st n) (hi : ins.length ≤ 2) (hw : fitR 1 16 ws) (hwl : 1 ≤ ws.length) {inn : List Int} (hl : inn.length = n.inn.length) (hn : fitR 0 255 inn) :
    ({n with inn := inn} : Nd).fit ∧ ({n with inn := inn} : Nd).short := by
  have hw0 : 1 ≤ ws.getD 0 0 ∧ ws.getD 0 0 ≤ 16 := by
    rw [getD_eq (by omega)]; exact hw _ (List.getElem_mem _)
  have hni : inn.length ≤ 2 := by
    rw [hl]
    rcases good_inn g with e | e <;> rw [e]
    · exact hi
    · rw [List.length_take]; omega
  have key : ∀ m : Nd, m.inn = inn → inR m.kind 0 255 → inR m.width 0 255 → inR m.size 0 255 → inR m.step 0 255 → inR m.gap 0 255 → inR m.left 0 255 → inR m.right 0 255 → (m.weights.length ≤ 65535 ∧ fitR lo32 hi32 m.weights) → (m.bias.length ≤ 65535 ∧ fitR lo32 hi32 m.bias) →
      inR m.mult 0 65535 → inR m.shift 0 255 → inR m.low lo32 hi32 → inR m.high lo32 hi32 → inR m.post 0 255 → m.fit ∧ m.short := by
    intro m e h1 h2 h3 h4 h5 h6 h7 h8 h9 h10 h11 h12 h13 h14
    unfold Nd.fit Nd.short
    rw [e, fitR_two, fitR_six, fitR_one, fitR_one, fitR_two, fitR_one]
    exact ⟨⟨⟨h1, by omega, by omega⟩, hn, ⟨h2, h3, h4, h5, h6, h7⟩, h8, h9, h10, h11, ⟨h12, h13⟩, h14⟩, by omega, by omega, by omega⟩
  have nilw : ([] : List Int).length ≤ 65535 ∧ fitR lo32 hi32 [] := ⟨Nat.zero_le _, fitR_nil _ _⟩
  have z : ∀ A : Int, 0 ≤ A → inR 0 0 A := fun A h => ⟨Int.le_refl _, h⟩
  have z32 : inR 0 lo32 hi32 := by decide
  cases g with
  | add _ h => exact key _ rfl (by dsimp only; decide) (by dsimp only; decide) (by dsimp only; decide) (by dsimp only; decide) (by dsimp only; decide) (by dsimp only; decide) (by dsimp only; decide) nilw nilw (by dsimp only; decide) (by dsimp only; decide) z32 z32 (by dsimp only; decide)
  | join _ h => exact key _ rfl (by dsimp only; decide) (by dsimp only; decide) (by dsimp only; decide) (by dsimp only; decide) (by dsimp only; decide) (by dsimp only; decide) (by dsimp only; decide) nilw nilw (by dsimp only; decide) (by dsimp only; decide) z32 z32 (by dsimp only; decide)
  | conv width size step gap left right ww bb hwin hwi hww hbb hwf hbf =>
    have hw2 := winOk_in hwin
    obtain ⟨a1, a2, a3, _, _⟩ := hwin
    have m1 := mul_in (a := width) (b := size) (A := 3) (B := 4) (by omega) (by omega) (by omega) (by omega)
    have m2 := mul_in (a := width * size) (b := ws.getD 0 0) (A := 12) (B := 16) (by omega) (by omega) (by omega) (by omega)
    exact key _ rfl (by dsimp only; decide) (by dsimp only; omega) (by dsimp only; omega) (by dsimp only; omega) (by dsimp only; omega) (by dsimp only; omega) (by dsimp only; omega) ⟨by dsimp only; omega, fitR_mono hwf (by decide) (by decide)⟩ ⟨by dsimp only; omega, fitR_mono hbf (by decide) (by decide)⟩ (by dsimp only; decide) (by dsimp only; decide) z32 z32 (by dsimp only; decide)
  | depth size step gap left right ww bb hwin hww hbb hwf hbf =>
    have hw2 := winOk_in hwin
    obtain ⟨a1, a2, a3, _, _⟩ := hwin
    have m2 := mul_in (a := size) (b := ws.getD 0 0) (A := 4) (B := 16) (by omega) (by omega) (by omega) (by omega)
    exact key _ rfl (by dsimp only; decide) (by dsimp only; omega) (by dsimp only; omega) (by dsimp only; omega) (by dsimp only; omega) (by dsimp only; omega) (by dsimp only; omega) ⟨by dsimp only; omega, fitR_mono hwf (by decide) (by decide)⟩ ⟨by dsimp only; omega, fitR_mono hbf (by decide) (by decide)⟩ (by dsimp only; decide) (by dsimp only; decide) z32 z32 (by dsimp only; decide)
  | pool k size step gap left right hk hwin =>
    have hw2 := winOk_in hwin
    obtain ⟨a1, a2, a3, _, _⟩ := hwin
    exact key _ rfl (by dsimp only; omega) (by dsimp only; omega) (by dsimp only; omega) (by dsimp only; omega) (by dsimp only; omega) (by dsimp only; omega) (by dsimp only; omega) nilw nilw (by dsimp only; decide) (by dsimp only; decide) z32 z32 (by dsimp only; decide)
  | smooth size hs => exact key _ rfl (by dsimp only; decide) (by dsimp only; decide) (by dsimp only; omega) (by dsimp only; decide) (by dsimp only; decide) (by dsimp only; decide) (by dsimp only; decide) nilw nilw (by dsimp only; decide) (by dsimp only; decide) z32 z32 (by dsimp only; decide)
  | whole => exact key _ rfl (by dsimp only; decide) (by dsimp only; decide) (by dsimp only; decide) (by dsimp only; decide) (by dsimp only; decide) (by dsimp only; decide) (by dsimp only; decide) nilw nilw (by dsimp only; decide) (by dsimp only; decide) z32 z32 (by dsimp only; decide)
  | dense _ width ww bb hwi hww hbb hwf hbf =>
    have m2 := mul_in (a := width) (b := ws.getD 0 0) (A := 3) (B := 16) (by omega) (by omega) (by omega) (by omega)
    exact key _ rfl (by dsimp only; decide) (by dsimp only; omega) (by dsimp only; decide) (by dsimp only; decide) (by dsimp only; decide) (by dsimp only; decide) (by dsimp only; decide) ⟨by dsimp only; omega, fitR_mono hwf (by decide) (by decide)⟩ ⟨by dsimp only; omega, fitR_mono hbf (by decide) (by decide)⟩ (by dsimp only; decide) (by dsimp only; decide) z32 z32 (by dsimp only; decide)
  | clamp _ low high h1 h2 => exact key _ rfl (by dsimp only; decide) (by dsimp only; decide) (by dsimp only; decide) (by dsimp only; decide) (by dsimp only; decide) (by dsimp only; decide) (by dsimp only; decide) nilw nilw (by dsimp only; decide) (by dsimp only; decide) (by dsimp only [lo32, hi32]; omega) (by dsimp only [lo32, hi32]; omega) (by dsimp only; decide)
  | scale _ mult shift h1 h2 => exact key _ rfl (by dsimp only; decide) (by dsimp only; decide) (by dsimp only; decide) (by dsimp only; decide) (by dsimp only; decide) (by dsimp only; decide) (by dsimp only; decide) nilw nilw (by dsimp only; omega) (by dsimp only; omega) z32 z32 (by dsimp only; decide)
  | best => exact key _ rfl (by dsimp only; decide) (by dsimp only; decide) (by dsimp only; decide) (by dsimp only; decide) (by dsimp only; decide) (by dsimp only; decide) (by dsimp only; decide) nilw nilw (by dsimp only; decide) (by dsimp only; decide) z32 z32 (by dsimp only; decide)

/-- What the nodes of a graph that is made are: each fits with any small inputs, as many as it has, one at least. -/
theorem Built.fit {w0 : Int} (h0 : inR w0 1 16) {ns : List Nd} {ws rs : List Int} (b : Built w0 ns ws rs) : ∀ n ∈ ns, 1 ≤ n.inn.length ∧ ∀ inn : List Int, inn.length = n.inn.length → fitR 0 255 inn → ({n with inn := inn} : Nd).fit ∧ ({n with inn := inn} : Nd).short := by
  induction b with
  | nil => intro n hn; cases hn
  | snoc ns ws rs n w' r' b st ih =>
    intro m hm
    rcases List.mem_append.1 hm with hm | hm
    · exact ih m hm
    · simp only [List.mem_singleton] at hm; subst hm
      obtain ⟨ins, h12, hi, _, hg, _⟩ := st
      refine ⟨?_, fun inn hl hf => good_fit hg (by omega) (step_ins hi (b.range h0).1) (by rw [List.length_map]; omega) hl hf⟩
      rcases good_inn hg with e | e <;> rw [e]
      · omega
      · rw [List.length_take]; omega

theorem turnX_in {n : Nat} {x : Int} (hn : n ≤ 6) (hx : 0 ≤ x ∧ x ≤ n) : 0 ≤ turnX n x ∧ turnX n x ≤ 255 := by
  unfold turnX; split <;> omega

theorem MadeG.fits {g : Gr} (m : MadeG g) : g.fit ∧ g.short ∧ 1 ≤ g.nodes.length ∧ g.nodes.length ≤ 6 ∧ (∀ n ∈ g.nodes, 1 ≤ n.inn.length) ∧ fitR 0 255 [g.width] := by
  obtain ⟨ns, ws, rs, out, h1, h2, h3, h4, h5, b, h6, e⟩ := m
  have hf := b.fit (by omega)
  have hin := b.inn
  have e1 : ∀ n ∈ ns, n.fit ∧ n.short := fun n hn => by
    have := (hf n hn).2 n.inn rfl (fun x hx => by have := hin n hn x hx; omega)
    exact this
  have e2 : ∀ n ∈ ns, (turnN ns.length n).fit ∧ (turnN ns.length n).short := fun n hn =>
    (hf n hn).2 (n.inn.map (turnX ns.length)) (by rw [List.length_map]) (fun x hx => by
      obtain ⟨y, hy, rfl⟩ := List.mem_map.1 hx
      exact turnX_in h5 (hin n hn y hy))
  have hwd : fitR 0 255 [g.width] := by rw [fitR_one]; omega
  rcases e with e | e
  · rw [e]
    refine ⟨⟨hwd, by rw [fitR_two]; dsimp only [lo32, hi32]; omega, by rw [fitR_one]; dsimp only; omega, fun n hn => (e1 n hn).1, by rw [fitR_one]; dsimp only; omega⟩, ⟨by dsimp only; omega, fun n hn => (e1 n hn).2⟩, h4, h5, fun n hn => (hf n hn).1, hwd⟩
  · rw [e]
    have hl : ((⟨g.width, g.low, g.high, ns, out⟩ : Gr).turned).nodes.length = ns.length := by simp [Gr.turned]
    have hmem : ∀ n ∈ ((⟨g.width, g.low, g.high, ns, out⟩ : Gr).turned).nodes, ∃ o ∈ ns, n = turnN ns.length o := fun n hn => by
      simp only [Gr.turned, List.mem_reverse, List.mem_map] at hn
      obtain ⟨o, ho, rfl⟩ := hn
      exact ⟨o, ho, rfl⟩
    refine ⟨⟨hwd, by rw [fitR_two]; dsimp only [lo32, hi32, Gr.turned]; omega, by rw [fitR_one, hl]; omega, fun n hn => ?_, by rw [fitR_one]; dsimp only [Gr.turned]; omega⟩, ⟨by rw [hl]; omega, fun n hn => ?_⟩, by rw [hl]; omega, by rw [hl]; omega, fun n hn => ?_, hwd⟩
    · obtain ⟨o, ho, rfl⟩ := hmem n hn; exact (e2 o ho).1
    · obtain ⟨o, ho, rfl⟩ := hmem n hn; exact (e2 o ho).2
    · obtain ⟨o, ho, rfl⟩ := hmem n hn
      show 1 ≤ (o.inn.map _).length
      rw [List.length_map]; exact (hf o ho).1

end Go.Proofs.Ytdjofpdmdbcgjad.G
