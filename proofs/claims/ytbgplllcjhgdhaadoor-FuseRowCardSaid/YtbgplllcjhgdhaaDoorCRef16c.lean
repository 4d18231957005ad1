/- Contracts: the document's graphs (chapter 16): Look. -/
import Derived.Test.YtbgplllcjhgdhaaDoorCRef16b
namespace Go.Proofs.YtbgplllcjhgdhaaDoor.G
open Go Go.Sh
set_option linter.unusedVariables false
set_option linter.unusedSimpArgs false

section
variable {h : Heap}

theorem Look16_ok {gv : Gv} (hok : gv.ok) (hn : Row h gv.p (nflat gv.ns)) (hr : (nrows gv.ns).P h) (hl : gv.l < 2 ^ 20) (hs : ∀ n ∈ gv.ns, n.inn.l < 2 ^ 40 ∧ n.weights.l < 2 ^ 62 ∧ n.bias.l < 2 ^ 62) :
    callP P n_ref16_Look #[gv.v] h (LookR gv.gr.look h) := by
  refine call_ref16_Look _ ?_
  unfold ref16_Look
  have hgl := hok.1
  have hgn : gv.gr.nodes.length = gv.l := by rw [← hgl]; simp [Gv.gr]
  have S := ((Sep.start h no).read (row gv.p (nflat gv.ns)) hn).read (nrows gv.ns) hr
  refine newI_S (cs := gv.cells) S fun b1 h1 _ S => ?_
  dsimp only [List.nil_append, List.cons_append] at S
  refine newI_S (cs := [.slice none 0 0, .slice none 0 0, .slice none 0 0, .int .i64 0]) S fun b3 h2 _ S => ?_
  dsimp only [List.nil_append, List.cons_append] at S
  refine ldAg_S S 0 rfl (x := gv.t) rfl ?_
  refine (first16_ok hok (S.row 0 rfl) (S.r 1 _ rfl) (by omega) (fun n hn => by have := (hs n hn).1; omega)).mono ?_
  rintro _ h3 ⟨rfl, F⟩
  replace S := S.fra0 F
  refine ⟨_, rfl, ?_⟩
  have errs : ∀ {e : Int} {g : Heap} {W R : List Fact}, Sep h no g (blk b1 gv.cells :: blk b3 [.slice none 0 0, .slice none 0 0, .slice none 0 0, .int .i64 0] :: W) R → gv.gr.look = ⟨e, [], [], []⟩ →
      stI g ⟨b3, 0, none⟩ (.slice none 0 0) fun h81 => stI h81 ⟨b3, 1, none⟩ (.slice none 0 0) fun h82 => stI h82 ⟨b3, 2, none⟩ (.slice none 0 0) fun h83 => stI h83 ⟨b3, 3, none⟩ (.int .i64 e) fun h84 =>
        ldSlice h84 ⟨b3, 0, none⟩ fun p85 l85 c85 => ldSlice h84 ⟨b3, 1, none⟩ fun p86 l86 c86 => ldSlice h84 ⟨b3, 2, none⟩ fun p87 l87 c87 => ldInt .i64 h84 ⟨b3, 3, none⟩ fun n88 =>
        LookR gv.gr.look h (.agg #[(.slice p85 l85 c85), (.slice p86 l86 c86), (.slice p87 l87 c87), (.int .i64 n88)]) h84 := by
    intro e g W R S el
    refine stI_S S 1 rfl (Nat.le_of_ble_eq_true rfl) fun _ _ S => ?_
    dsimp only [List.set] at S
    refine stI_S S 1 rfl (Nat.le_of_ble_eq_true rfl) fun _ _ S => ?_
    dsimp only [List.set] at S
    refine stI_S S 1 rfl (Nat.le_of_ble_eq_true rfl) fun _ _ S => ?_
    dsimp only [List.set] at S
    refine stI_S S 1 rfl (Nat.le_of_ble_eq_true rfl) fun _ _ S => ?_
    dsimp only [List.set] at S
    refine ldSlice_i (p := none) (l := 0) (c := 0) (S.cell 1 rfl rfl) (ldSlice_i (p := none) (l := 0) (c := 0) (S.cell 1 rfl rfl) (ldSlice_i (p := none) (l := 0) (c := 0) (S.cell 1 rfl rfl) (ldInt_i (n := e) (S.cell 1 rfl rfl) ?_)))
    exact LookR.err S el
  refine ifB_bne (fun hf => errs S (by unfold Gr.look; rw [if_pos hf])) (fun hf => ?_)
  have nf : ¬ gv.gr.first ≠ 0 := fun h => h hf
  refine ldAg_S S 0 rfl (x := gv.t) rfl ?_
  refine (order16_ok hok (S.row 0 rfl) (S.r 1 _ rfl) (by omega) (fun n hn => by have := (hs n hn).1; omega)).mono ?_
  rintro _ g3 ⟨q, m, d, rfl, hmd, hm, S1⟩
  replace S := S.add S1 fun _ _ h => h
  dsimp only [List.cons_append, List.nil_append] at S
  refine ⟨_, _, _, rfl, ?_⟩
  refine ldSlice_i (p := gv.p) (l := gv.l) (c := gv.c) (S.cell 0 rfl rfl) ?_
  have hole := ordK_length gv.gr.nodes gv.gr.nodes.length
  have hole : (ordG gv.gr.nodes).length ≤ gv.gr.nodes.length := hole
  refine ifB_dec (fun hlt => errs S (by unfold Gr.look; rw [if_neg nf, if_pos (by omega)])) (fun hlt => ?_)
  have ho : (ordG gv.gr.nodes).length = gv.gr.nodes.length := by omega
  refine ldSlice_i (p := gv.p) (l := gv.l) (c := gv.c) (S.cell 0 rfl rfl) (ldSlice_i (p := gv.p) (l := gv.l) (c := gv.c) (S.cell 0 rfl rfl) ?_)
  have ew : IntKind.wrap .i64 ((gv.l : Int) + 1) = ((gv.l + 1 : Nat) : Int) := by rw [wrap64_in (by omega)]; omega
  rw [ew]
  simp only [Int.toNat_natCast]
  have erep : ∀ x : Int, (List.replicate (gv.l + 1) (0 : Int)).set 0 x = x :: List.replicate gv.gr.nodes.length 0 := fun x => by rw [hgn, List.replicate_succ]; rfl
  have ezero : (List.replicate (gv.l + 1) [Value.int .i64 0]).flatten = ints (List.replicate (gv.l + 1) 0) := by rw [repl_one]; simp [ints]
  have h12 := (first_ok hf).2.1
  refine ⟨?_, ?_, ?_⟩
  · refine mkI_S S (gv.l + 1) rfl rfl rfl (by decide) (by omega) (by omega) fun bw _ _ S => ?_
    rw [ezero] at S
    dsimp only [List.cons_append, List.nil_append] at S
    refine and_i (S.cell 0 rfl rfl) (and_i (S.cell 0 rfl rfl) ?_)
    refine ⟨?_, ?_⟩
    · refine mkI_S S (gv.l + 1) rfl rfl rfl (by decide) (by omega) (by omega) fun br _ _ S => ?_
      rw [ezero] at S
      dsimp only [List.cons_append, List.nil_append] at S
      refine and_i (S.cell 0 rfl rfl) (and_i (S.cell 0 rfl rfl) ?_)
      refine newI_S (cs := [.slice none 0 0, .slice none 0 0, .slice none 0 0, .int .i64 0]) S fun bk _ _ S => ?_
      dsimp only [List.cons_append, List.nil_append] at S
      refine stI_S S 5 rfl (Nat.le_of_ble_eq_true rfl) fun _ _ S => ?_
      dsimp only [List.set] at S
      refine stI_S S 5 rfl (Nat.le_of_ble_eq_true rfl) fun _ _ S => ?_
      dsimp only [List.set] at S
      refine stI_S S 5 rfl (Nat.le_of_ble_eq_true rfl) fun _ _ S => ?_
      dsimp only [List.set] at S
      refine stI_S S 5 rfl (Nat.le_of_ble_eq_true rfl) fun _ _ S => ?_
      dsimp only [List.set] at S
      refine ldSlice_i (p := some ⟨bw, 0, none⟩) (l := gv.l + 1) (c := gv.l + 1) (S.cell 5 rfl rfl) (ldInt_i (n := gv.width) (S.cell 0 rfl rfl) (idxI_i rfl (k := 0) rfl (by omega) ?_))
      simp only [Int.toNat_zero, Nat.zero_mul, add_mk, Nat.add_zero]
      refine stI_S S 3 rfl (by rw [ints_length, List.length_replicate]; omega) fun _ _ S => ?_
      rw [ints_set', erep] at S
      dsimp only [List.set] at S
      refine ldSlice_i (p := some ⟨br, 0, none⟩) (l := gv.l + 1) (c := gv.l + 1) (S.cell 5 rfl rfl) (idxI_i rfl (k := 0) rfl (by omega) ?_)
      simp only [Int.toNat_zero, Nat.zero_mul, add_mk, Nat.add_zero]
      refine stI_S S 4 rfl (by rw [ints_length, List.length_replicate]; omega) fun _ _ S => ?_
      rw [ints_set', erep] at S
      dsimp only [List.set] at S
      exact look16_l11_ok hok hf hs ho hm hmd (S.pw [0, 1, 5, 2, 3, 4])
    · refine newI_S (cs := [.slice none 0 0, .slice none 0 0, .slice none 0 0, .int .i64 0]) S fun bk _ _ S => ?_
      dsimp only [List.cons_append, List.nil_append] at S
      refine mkI_S S (gv.l + 1) rfl rfl rfl (by decide) (by omega) (by omega) fun br _ _ S => ?_
      rw [ezero] at S
      dsimp only [List.cons_append, List.nil_append] at S
      refine and_i (S.cell 0 rfl rfl) (and_i (S.cell 0 rfl rfl) ?_)
      refine stI_S S 4 rfl (Nat.le_of_ble_eq_true rfl) fun _ _ S => ?_
      dsimp only [List.set] at S
      refine stI_S S 4 rfl (Nat.le_of_ble_eq_true rfl) fun _ _ S => ?_
      dsimp only [List.set] at S
      refine stI_S S 4 rfl (Nat.le_of_ble_eq_true rfl) fun _ _ S => ?_
      dsimp only [List.set] at S
      refine stI_S S 4 rfl (Nat.le_of_ble_eq_true rfl) fun _ _ S => ?_
      dsimp only [List.set] at S
      refine ldSlice_i (p := some ⟨bw, 0, none⟩) (l := gv.l + 1) (c := gv.l + 1) (S.cell 4 rfl rfl) (ldInt_i (n := gv.width) (S.cell 0 rfl rfl) (idxI_i rfl (k := 0) rfl (by omega) ?_))
      simp only [Int.toNat_zero, Nat.zero_mul, add_mk, Nat.add_zero]
      refine stI_S S 3 rfl (by rw [ints_length, List.length_replicate]; omega) fun _ _ S => ?_
      rw [ints_set', erep] at S
      dsimp only [List.set] at S
      refine ldSlice_i (p := some ⟨br, 0, none⟩) (l := gv.l + 1) (c := gv.l + 1) (S.cell 4 rfl rfl) (idxI_i rfl (k := 0) rfl (by omega) ?_)
      simp only [Int.toNat_zero, Nat.zero_mul, add_mk, Nat.add_zero]
      refine stI_S S 5 rfl (by rw [ints_length, List.length_replicate]; omega) fun _ _ S => ?_
      rw [ints_set', erep] at S
      dsimp only [List.set] at S
      exact look16_l11_ok hok hf hs ho hm hmd (S.pw [0, 1, 4, 2, 3, 5])
  · refine mkI_S S (gv.l + 1) rfl rfl rfl (by decide) (by omega) (by omega) fun br _ _ S => ?_
    rw [ezero] at S
    dsimp only [List.cons_append, List.nil_append] at S
    refine and_i (S.cell 0 rfl rfl) (and_i (S.cell 0 rfl rfl) ?_)
    refine ⟨?_, ?_⟩
    · refine mkI_S S (gv.l + 1) rfl rfl rfl (by decide) (by omega) (by omega) fun bw _ _ S => ?_
      rw [ezero] at S
      dsimp only [List.cons_append, List.nil_append] at S
      refine and_i (S.cell 0 rfl rfl) (and_i (S.cell 0 rfl rfl) ?_)
      refine newI_S (cs := [.slice none 0 0, .slice none 0 0, .slice none 0 0, .int .i64 0]) S fun bk _ _ S => ?_
      dsimp only [List.cons_append, List.nil_append] at S
      refine stI_S S 5 rfl (Nat.le_of_ble_eq_true rfl) fun _ _ S => ?_
      dsimp only [List.set] at S
      refine stI_S S 5 rfl (Nat.le_of_ble_eq_true rfl) fun _ _ S => ?_
      dsimp only [List.set] at S
      refine stI_S S 5 rfl (Nat.le_of_ble_eq_true rfl) fun _ _ S => ?_
      dsimp only [List.set] at S
      refine stI_S S 5 rfl (Nat.le_of_ble_eq_true rfl) fun _ _ S => ?_
      dsimp only [List.set] at S
      refine ldSlice_i (p := some ⟨bw, 0, none⟩) (l := gv.l + 1) (c := gv.l + 1) (S.cell 5 rfl rfl) (ldInt_i (n := gv.width) (S.cell 0 rfl rfl) (idxI_i rfl (k := 0) rfl (by omega) ?_))
      simp only [Int.toNat_zero, Nat.zero_mul, add_mk, Nat.add_zero]
      refine stI_S S 4 rfl (by rw [ints_length, List.length_replicate]; omega) fun _ _ S => ?_
      rw [ints_set', erep] at S
      dsimp only [List.set] at S
      refine ldSlice_i (p := some ⟨br, 0, none⟩) (l := gv.l + 1) (c := gv.l + 1) (S.cell 5 rfl rfl) (idxI_i rfl (k := 0) rfl (by omega) ?_)
      simp only [Int.toNat_zero, Nat.zero_mul, add_mk, Nat.add_zero]
      refine stI_S S 3 rfl (by rw [ints_length, List.length_replicate]; omega) fun _ _ S => ?_
      rw [ints_set', erep] at S
      dsimp only [List.set] at S
      exact look16_l11_ok hok hf hs ho hm hmd (S.pw [0, 1, 5, 2, 4, 3])
    · refine newI_S (cs := [.slice none 0 0, .slice none 0 0, .slice none 0 0, .int .i64 0]) S fun bk _ _ S => ?_
      dsimp only [List.cons_append, List.nil_append] at S
      refine mkI_S S (gv.l + 1) rfl rfl rfl (by decide) (by omega) (by omega) fun bw _ _ S => ?_
      rw [ezero] at S
      dsimp only [List.cons_append, List.nil_append] at S
      refine and_i (S.cell 0 rfl rfl) (and_i (S.cell 0 rfl rfl) ?_)
      refine stI_S S 4 rfl (Nat.le_of_ble_eq_true rfl) fun _ _ S => ?_
      dsimp only [List.set] at S
      refine stI_S S 4 rfl (Nat.le_of_ble_eq_true rfl) fun _ _ S => ?_
      dsimp only [List.set] at S
      refine stI_S S 4 rfl (Nat.le_of_ble_eq_true rfl) fun _ _ S => ?_
      dsimp only [List.set] at S
      refine stI_S S 4 rfl (Nat.le_of_ble_eq_true rfl) fun _ _ S => ?_
      dsimp only [List.set] at S
      refine ldSlice_i (p := some ⟨bw, 0, none⟩) (l := gv.l + 1) (c := gv.l + 1) (S.cell 4 rfl rfl) (ldInt_i (n := gv.width) (S.cell 0 rfl rfl) (idxI_i rfl (k := 0) rfl (by omega) ?_))
      simp only [Int.toNat_zero, Nat.zero_mul, add_mk, Nat.add_zero]
      refine stI_S S 5 rfl (by rw [ints_length, List.length_replicate]; omega) fun _ _ S => ?_
      rw [ints_set', erep] at S
      dsimp only [List.set] at S
      refine ldSlice_i (p := some ⟨br, 0, none⟩) (l := gv.l + 1) (c := gv.l + 1) (S.cell 4 rfl rfl) (idxI_i rfl (k := 0) rfl (by omega) ?_)
      simp only [Int.toNat_zero, Nat.zero_mul, add_mk, Nat.add_zero]
      refine stI_S S 3 rfl (by rw [ints_length, List.length_replicate]; omega) fun _ _ S => ?_
      rw [ints_set', erep] at S
      dsimp only [List.set] at S
      exact look16_l11_ok hok hf hs ho hm hmd (S.pw [0, 1, 4, 2, 5, 3])
  · refine newI_S (cs := [.slice none 0 0, .slice none 0 0, .slice none 0 0, .int .i64 0]) S fun bk _ _ S => ?_
    dsimp only [List.cons_append, List.nil_append] at S
    refine ⟨?_, ?_⟩
    · refine mkI_S S (gv.l + 1) rfl rfl rfl (by decide) (by omega) (by omega) fun bw _ _ S => ?_
      rw [ezero] at S
      dsimp only [List.cons_append, List.nil_append] at S
      refine and_i (S.cell 0 rfl rfl) (and_i (S.cell 0 rfl rfl) ?_)
      refine mkI_S S (gv.l + 1) rfl rfl rfl (by decide) (by omega) (by omega) fun br _ _ S => ?_
      rw [ezero] at S
      dsimp only [List.cons_append, List.nil_append] at S
      refine and_i (S.cell 0 rfl rfl) (and_i (S.cell 0 rfl rfl) ?_)
      refine stI_S S 3 rfl (Nat.le_of_ble_eq_true rfl) fun _ _ S => ?_
      dsimp only [List.set] at S
      refine stI_S S 3 rfl (Nat.le_of_ble_eq_true rfl) fun _ _ S => ?_
      dsimp only [List.set] at S
      refine stI_S S 3 rfl (Nat.le_of_ble_eq_true rfl) fun _ _ S => ?_
      dsimp only [List.set] at S
      refine stI_S S 3 rfl (Nat.le_of_ble_eq_true rfl) fun _ _ S => ?_
      dsimp only [List.set] at S
      refine ldSlice_i (p := some ⟨bw, 0, none⟩) (l := gv.l + 1) (c := gv.l + 1) (S.cell 3 rfl rfl) (ldInt_i (n := gv.width) (S.cell 0 rfl rfl) (idxI_i rfl (k := 0) rfl (by omega) ?_))
      simp only [Int.toNat_zero, Nat.zero_mul, add_mk, Nat.add_zero]
      refine stI_S S 4 rfl (by rw [ints_length, List.length_replicate]; omega) fun _ _ S => ?_
      rw [ints_set', erep] at S
      dsimp only [List.set] at S
      refine ldSlice_i (p := some ⟨br, 0, none⟩) (l := gv.l + 1) (c := gv.l + 1) (S.cell 3 rfl rfl) (idxI_i rfl (k := 0) rfl (by omega) ?_)
      simp only [Int.toNat_zero, Nat.zero_mul, add_mk, Nat.add_zero]
      refine stI_S S 5 rfl (by rw [ints_length, List.length_replicate]; omega) fun _ _ S => ?_
      rw [ints_set', erep] at S
      dsimp only [List.set] at S
      exact look16_l11_ok hok hf hs ho hm hmd (S.pw [0, 1, 3, 2, 4, 5])
    · refine mkI_S S (gv.l + 1) rfl rfl rfl (by decide) (by omega) (by omega) fun br _ _ S => ?_
      rw [ezero] at S
      dsimp only [List.cons_append, List.nil_append] at S
      refine and_i (S.cell 0 rfl rfl) (and_i (S.cell 0 rfl rfl) ?_)
      refine mkI_S S (gv.l + 1) rfl rfl rfl (by decide) (by omega) (by omega) fun bw _ _ S => ?_
      rw [ezero] at S
      dsimp only [List.cons_append, List.nil_append] at S
      refine and_i (S.cell 0 rfl rfl) (and_i (S.cell 0 rfl rfl) ?_)
      refine stI_S S 3 rfl (Nat.le_of_ble_eq_true rfl) fun _ _ S => ?_
      dsimp only [List.set] at S
      refine stI_S S 3 rfl (Nat.le_of_ble_eq_true rfl) fun _ _ S => ?_
      dsimp only [List.set] at S
      refine stI_S S 3 rfl (Nat.le_of_ble_eq_true rfl) fun _ _ S => ?_
      dsimp only [List.set] at S
      refine stI_S S 3 rfl (Nat.le_of_ble_eq_true rfl) fun _ _ S => ?_
      dsimp only [List.set] at S
      refine ldSlice_i (p := some ⟨bw, 0, none⟩) (l := gv.l + 1) (c := gv.l + 1) (S.cell 3 rfl rfl) (ldInt_i (n := gv.width) (S.cell 0 rfl rfl) (idxI_i rfl (k := 0) rfl (by omega) ?_))
      simp only [Int.toNat_zero, Nat.zero_mul, add_mk, Nat.add_zero]
      refine stI_S S 5 rfl (by rw [ints_length, List.length_replicate]; omega) fun _ _ S => ?_
      rw [ints_set', erep] at S
      dsimp only [List.set] at S
      refine ldSlice_i (p := some ⟨br, 0, none⟩) (l := gv.l + 1) (c := gv.l + 1) (S.cell 3 rfl rfl) (idxI_i rfl (k := 0) rfl (by omega) ?_)
      simp only [Int.toNat_zero, Nat.zero_mul, add_mk, Nat.add_zero]
      refine stI_S S 4 rfl (by rw [ints_length, List.length_replicate]; omega) fun _ _ S => ?_
      rw [ints_set', erep] at S
      dsimp only [List.set] at S
      exact look16_l11_ok hok hf hs ho hm hmd (S.pw [0, 1, 3, 2, 5, 4])
end

end Go.Proofs.YtbgplllcjhgdhaaDoor.G
