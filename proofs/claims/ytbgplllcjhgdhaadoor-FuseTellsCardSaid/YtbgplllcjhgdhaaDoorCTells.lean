/- Contracts: chapter 21's law about what is told: tells. -/
import Derived.Test.YtbgplllcjhgdhaaDoorCLaw21
import Derived.Test.YtbgplllcjhgdhaaDoorCRefG
import Derived.Test.YtbgplllcjhgdhaaDoorCSameG
namespace Go.Proofs.YtbgplllcjhgdhaaDoor.G
open Go Go.Sh
set_option linter.unusedVariables false
set_option linter.unusedSimpArgs false

theorem numT_len (ns : List Nd) (M : LM) : ∀ i, (numT ns M i).1.length ≤ i
  | 0 => Nat.le_refl _
  | i + 1 => by
    have ih := numT_len ns M i
    unfold numT
    cases ns[i]? with
    | none => dsimp only; omega
    | some n =>
      dsimp only
      split
      · rw [List.length_append]; simp only [List.length_cons, List.length_nil]; omega
      · omega
theorem fuseIt_len {pos : Int → Nat} : ∀ (k : Nat) (s : FSt), FInv s.1 s.2.1 s.2.2 pos → (fuseIt k s).1.length = s.1.length
  | 0, s, _ => rfl
  | k + 1, s, I => by
    unfold fuseIt
    cases e : stepP s.1 s.2.1 s.2.2 with
    | none => rfl
    | some t =>
      obtain ⟨i, w, na, nu, a', st, _⟩ := stepP_stp I e
      exact (fuseIt_len k t (st.inv I)).trans st.len
theorem fuseG_len (g : Gr) : (fuseG g).nodes.length ≤ g.nodes.length := by
  unfold fuseG
  split
  · rename_i h
    have h1 := fuseIt_len (g.nodes.length + 1) (g.nodes, g.out, liveM g.nodes g.out) (look_finv h)
    have h2 := numT_len (fuseIt (g.nodes.length + 1) (g.nodes, g.out, liveM g.nodes g.out)).1 (fuseIt (g.nodes.length + 1) (g.nodes, g.out, liveM g.nodes g.out)).2.2 (fuseIt (g.nodes.length + 1) (g.nodes, g.out, liveM g.nodes g.out)).1.length
    show (List.map _ _).length ≤ _
    rw [List.length_map]
    have h1 : (fuseIt (g.nodes.length + 1) (g.nodes, g.out, liveM g.nodes g.out)).1.length = g.nodes.length := h1
    omega
  · exact Nat.zero_le _

section
variable {h : Heap}

theorem tells21_ok {gv : Gv} (hok : gv.ok) (hn : Row h gv.p (nflat gv.ns)) (hr : (nrows gv.ns).P h) (hl : gv.l < 2 ^ 20) (hs : ∀ n ∈ gv.ns, n.inn.l < 2 ^ 40 ∧ n.weights.l < 2 ^ 40 ∧ n.bias.l < 2 ^ 40) (hT : KT h) :
    callP P n_law21_tells #[gv.v] h fun v h' => v = .bool true ∧ Fra no h h' := by
  refine call_law21_tells _ ?_
  unfold law21_tells
  have hs2 : ∀ n ∈ gv.ns, n.inn.l < 2 ^ 40 ∧ n.weights.l < 2 ^ 62 ∧ n.bias.l < 2 ^ 62 := fun n hn => by have := hs n hn; omega
  have S := (((Sep.start h no).read (row gv.p (nflat gv.ns)) hn).read (nrows gv.ns) hr).read (blk 0 (ints kindTab)) hT
  refine newI_S (cs := gv.cells) S fun b1 h1 _ S => ?_
  dsimp only [List.nil_append, List.cons_append] at S
  refine ldAg_S S 0 rfl (x := gv.t) rfl ?_
  refine (LivP_ok sorted_spec hok (S.row 0 rfl) (S.r 1 _ rfl) hl hs2 (S.r 2 _ rfl)).mono ?_
  rintro _ h2 ⟨p5, l5, c5, rfl, hl5, S1⟩
  replace S := S.add S1 fun _ _ h => h
  dsimp only [List.cons_append, List.nil_append] at S
  refine ⟨_, _, _, rfl, ?_⟩
  refine ldAg_S S 0 rfl (x := gv.t) rfl ?_
  refine (LivR_ok hok (S.row 0 rfl) (S.r 1 _ rfl) hl hs2).mono ?_
  rintro _ h3 ⟨p8, l8, c8, rfl, hl8, S1⟩
  replace S := S.add S1 fun _ _ h => h
  dsimp only [List.cons_append, List.nil_append] at S
  obtain ⟨X, eX⟩ : ∃ X, (if gv.gr.look.e = 0 then boolsM gv.gr.nodes.length (liveM gv.gr.nodes gv.gr.out) else []) = X := ⟨_, rfl⟩
  rw [eX] at hl5 hl8 S
  refine ⟨_, _, _, rfl, ?_⟩
  refine ldAg_S S 0 rfl (x := gv.t) rfl ?_
  refine ldAg_S S 0 rfl (x := gv.t) rfl ?_
  refine (Fuse_ok sorted_spec hok (S.row 0 rfl) (S.r 1 _ rfl) hl hs (S.r 2 _ rfl)).mono ?_
  rintro _ h4 ⟨g1, rfl, e1, ok1, S1⟩
  replace S := S.add S1 fun _ _ h => h
  dsimp only [List.cons_append, List.nil_append] at S
  refine exS_i g1.t ⟨rfl, holdW_S S 0 rfl rfl ?_⟩
  refine (Fuse21_ok hok (S.row 0 rfl) (S.r 1 _ rfl) hl hs2).mono ?_
  rintro _ h5 ⟨g2, rfl, e2, ok2, wb2, S1⟩
  replace S := S.add S1 fun _ _ h => h
  dsimp only [List.cons_append, List.nil_append] at S
  refine exS_i g2.t ⟨rfl, holdW_S S 0 rfl rfl ?_⟩
  have hB : ∀ n ∈ gv.gr.nodes, n.inn.length < 2 ^ 40 ∧ n.weights.length < 2 ^ 40 ∧ n.bias.length < 2 ^ 40 := fun n hn => by
    obtain ⟨m, hm, rfl⟩ := List.mem_map.1 hn
    have := hs m hm
    have ok := hok.2.2 m hm
    have q1 : m.nd.inn.length = m.inn.l := ok.1.1
    have q2 : m.nd.weights.length = m.weights.l := ok.2.1.1
    have q3 : m.nd.bias.length = m.bias.l := ok.2.2.1
    omega
  have sm := kin_small hB ok1 e1
  have hgl1 : g1.l < 2 ^ 62 := by
    have h1 : g1.gr.nodes.length = g1.l := by rw [← ok1.1]; simp [Gv.gr]
    have h2 := fuseG_len gv.gr
    have h3 : gv.gr.nodes.length = gv.l := by rw [← hok.1]; simp [Gv.gr]
    rw [e1] at h1
    omega
  refine (Same15_ok ok1 ok2 (S.own 3 rfl).row (nrowsO (S.w 4 _ rfl) (S.w 5 _ rfl)) (S.own 6 rfl).row (nrowsWB (S.w 7 _ rfl) (S.r 1 _ rfl) wb2) hgl1 (fun n hn => by have := sm n hn; exact ⟨by omega, by omega, by omega⟩)).mono ?_
  rintro _ h6 ⟨b, rfl, hb, F⟩
  replace S := S.fra0 F
  have hbt : b = true := hb.2 (e1.trans e2.symm)
  subst hbt
  refine ⟨_, rfl, holdW_S S 0 rfl rfl (holdW_S S 0 rfl rfl ?_)⟩
  have el : l8 = l5 := by omega
  subst el
  refine ifB_false (by simp) ?_
  have hXl : X.length ≤ 2 ^ 20 := by
    rw [← eX]
    split
    · rw [boolsM_length]
      have h3 : gv.gr.nodes.length = gv.l := by rw [← hok.1]; simp [Gv.gr]
      omega
    · exact Nat.zero_le _
  refine LoopS_i (fun mm s g => ∃ i : Nat, s = ((p5, l8, c5), (p8, l8, c8), true, (i : Int), ()) ∧ i ≤ l8 ∧ mm = l8 - i ∧ Sep h no g [row p5 (bls X), row p8 (bls X)] []) l8 ⟨0, rfl, by omega, rfl, noR (S.pw [1, 2])⟩ ?_
  clear S
  rintro mm s g ⟨i, rfl, hi, rfl, S⟩
  unfold law21_tells_l7
  dsimp only
  refine ifB_dec (fun hlt => ?_) (fun hge => ⟨rfl, S.fra⟩)
  have hiX : i < X.length := by omega
  have r1 : Row g p5 (bls X) := S.w 0 _ rfl
  have r2 : Row g p8 (bls X) := S.w 1 _ rfl
  obtain ⟨a1, ea1⟩ := r1.some_of (by rw [bls_length]; omega)
  obtain ⟨a2, ea2⟩ := r2.some_of (by rw [bls_length]; omega)
  rw [ea1] at r1
  rw [ea2] at r2
  refine idxI_i ea1 rfl (by omega) (idxI_i ea2 rfl (by omega) ?_)
  simp only [Int.toNat_natCast, Nat.mul_one]
  refine ldBool_i (r1.cell (bls_get (List.getElem?_eq_getElem hiX))) (ldBool_i (r2.cell (bls_get (List.getElem?_eq_getElem hiX))) (ifB_false (by simp) ?_))
  have ei : IntKind.wrap .i64 ((i : Int) + 1) = ((i + 1 : Nat) : Int) := by rw [wrap64_in (by omega)]; rfl
  rw [ei]
  exact ⟨l8 - (i + 1), by omega, i + 1, rfl, by omega, rfl, S⟩
end
end Go.Proofs.YtbgplllcjhgdhaaDoor.G
