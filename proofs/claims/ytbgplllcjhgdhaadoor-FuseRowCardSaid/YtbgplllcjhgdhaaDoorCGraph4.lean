/- Contracts: the program's graph: look, Check. -/
import Derived.Test.YtbgplllcjhgdhaaDoorCGraph3
namespace Go.Proofs.YtbgplllcjhgdhaaDoor.G
open Go Go.Sh
set_option linter.unusedVariables false
set_option linter.unusedSimpArgs false

/-- What look tells. -/
def LookP (k : Known) (h : Heap) (v : Value) (h' : Heap) : Prop :=
  ∃ o w r : Sl, v = .tuple #[.agg #[o.v, w.v, r.v], .int .i64 k.e] ∧ o.xs = k.order ∧ w.xs = k.widths ∧ r.xs = k.rates ∧ o.ok ∧ w.ok ∧ r.ok ∧ Sep h no h' [own 1 o.p o.l o.c (ints o.xs), own 1 w.p w.l w.c (ints w.xs), own 1 r.p r.l r.c (ints r.xs)] []

theorem LookP.err {k : Known} {h h' : Heap} {W R : List Fact} (S : Sep h no h' W R) {e : Int} (hk : k = ⟨e, [], [], []⟩) : LookP k h (.tuple #[.agg #[.slice none 0 0, .slice none 0 0, .slice none 0 0], .int .i64 e]) h' := by
  subst hk
  refine ⟨Sl.nil, Sl.nil, Sl.nil, rfl, rfl, rfl, rfl, ⟨rfl, Nat.le_refl _⟩, ⟨rfl, Nat.le_refl _⟩, ⟨rfl, Nat.le_refl _⟩, ?_⟩
  exact (((noR (S.pw [])).nil 1).nil 1).nil 1

theorem getD_pick {xs js : List Int} {B : Int} (hB : ∀ x ∈ xs, 0 ≤ x ∧ x ≤ B) (h0 : 0 ≤ B) : 0 ≤ (pickG xs js).getD 0 0 ∧ (pickG xs js).getD 0 0 ≤ B := by
  rw [List.getD_eq_getElem?_getD]
  cases js with
  | nil => exact ⟨Int.le_refl _, h0⟩
  | cons j r =>
    simp only [pickG, List.map_cons, List.getElem?_cons_zero, Option.getD_some]
    rw [List.getD_eq_getElem?_getD]
    cases hx : xs[j.toNat]? with
    | none => exact ⟨Int.le_refl _, h0⟩
    | some y => exact hB y (List.mem_of_getElem? hx)

section
variable {h : Heap}

theorem look_l10_ok {b1 b3 b31 bw br : Nat} {gv : Gv} {q : Option Addr} {m d : Nat} {g : Heap} (hok : gv.ok) (hfirst : gv.gr.first = 0) (hs : ∀ n ∈ gv.ns, n.inn.l < 2 ^ 40 ∧ n.weights.l < 2 ^ 62 ∧ n.bias.l < 2 ^ 62) (ho : (ordG gv.gr.nodes).length = gv.gr.nodes.length) (hm : (ordG gv.gr.nodes).length = m)
    (S : Sep h no g [blk b1 gv.cells, blk b3 [.slice none 0 0, .slice none 0 0, .slice none 0 0], blk b31 [.slice q m d, .slice (some ⟨bw, 0, none⟩) (gv.l + 1) (gv.l + 1), .slice (some ⟨br, 0, none⟩) (gv.l + 1) (gv.l + 1)], own 1 q m d (ints (ordG gv.gr.nodes)),
      blk bw (ints (gv.width :: List.replicate gv.gr.nodes.length 0)), blk br (ints (1 :: List.replicate gv.gr.nodes.length 0))] [blk 0 (ints kindTab), row gv.p (nflat gv.ns), nrows gv.ns]) :
    LoopS (fun K1 s h' => graph_look_l10 (LookP gv.gr.look h) K1 s.1 s.2.1 s.2.2.1 s.2.2.2.1.1 s.2.2.2.1.2.1 s.2.2.2.1.2.2 s.2.2.2.2.1 s.2.2.2.2.2.1 h') (⟨b1, 0, none⟩, ⟨b3, 0, none⟩, ⟨b31, 0, none⟩, (q, m, d), (m : Int), (0 : Int), ()) g := by
  have hgl := hok.1
  have hgn : gv.gr.nodes.length = gv.l := by rw [← hgl]; simp [Gv.gr]
  obtain ⟨_, h12, _, _, _, hins⟩ := first_ok hfirst
  obtain ⟨nds, ends⟩ : ∃ nds, gv.gr.nodes = nds := ⟨_, rfl⟩
  obtain ⟨ord, eord⟩ : ∃ ord, ordG nds = ord := ⟨_, rfl⟩
  have hordm : ∀ x ∈ ord, 1 ≤ x ∧ x ≤ (nds.length : Int) := fun x hx => ordK_mem nds nds.length x (by rw [← eord] at hx; exact hx)
  rw [ends] at S hins h12 hgn ho hm
  rw [eord] at S ho hm
  have elook : ∀ r, lookL nds ord (gv.width :: List.replicate nds.length 0) (1 :: List.replicate nds.length 0) = r → gv.gr.look = if r.1 ≠ 0 then ⟨r.1, [], [], []⟩ else ⟨0, ord, r.2.1, r.2.2⟩ := by
    intro r hr
    unfold Gr.look
    rw [if_neg (by rw [hfirst]; simp), ends, eord, if_neg (by rw [ho]; simp)]
    have : gv.gr.width = gv.width := rfl
    rw [this, hr]
  refine LoopS_i (fun mm s g => ∃ (i : Nat) (ws rs : List Int), s = (⟨b1, 0, none⟩, ⟨b3, 0, none⟩, ⟨b31, 0, none⟩, (q, m, d), (m : Int), (i : Int), ()) ∧ i ≤ m ∧ mm = m - i ∧ ws.length = gv.l + 1 ∧ rs.length = gv.l + 1 ∧ (∀ x ∈ rs, 0 ≤ x ∧ x ≤ ((4 ^ i : Nat) : Int)) ∧
    lookL nds (ord.drop i) ws rs = lookL nds ord (gv.width :: List.replicate nds.length 0) (1 :: List.replicate nds.length 0) ∧
    Sep h no g [blk b1 gv.cells, blk b3 [.slice none 0 0, .slice none 0 0, .slice none 0 0], blk b31 [.slice q m d, .slice (some ⟨bw, 0, none⟩) (gv.l + 1) (gv.l + 1), .slice (some ⟨br, 0, none⟩) (gv.l + 1) (gv.l + 1)], own 1 q m d (ints ord),
      blk bw (ints ws), blk br (ints rs)] [blk 0 (ints kindTab), row gv.p (nflat gv.ns), nrows gv.ns]) m
    ⟨0, _, _, rfl, by omega, rfl, by simp [hgn], by simp [hgn], ?_, by rw [List.drop_zero], S⟩ ?_
  · intro x hx
    simp only [List.mem_cons, List.mem_replicate] at hx
    rcases hx with rfl | ⟨_, rfl⟩
    · decide
    · decide
  clear S
  rintro mm s g ⟨i, ws, rs, rfl, hi, rfl, hwl, hrl, hrs, hlk, S⟩
  unfold graph_look_l10
  simp only [add_mk, Nat.zero_add]
  refine ifB_dec (fun hlt => ?_) (fun hge => ?_)
  · have hix : i < ord.length := by omega
    have hi12 : i < 12 := by omega
    obtain ⟨qa, eqa⟩ := (S.own 3 rfl).row.some_of (by rw [ints_length]; omega)
    have hq : Row g (some qa) (ints ord) := by rw [← eqa]; exact (S.own 3 rfl).row
    have hxo := hordm _ (List.getElem_mem hix)
    obtain ⟨k, ek⟩ : ∃ k : Nat, ord[i] = ((k + 1 : Nat) : Int) := ⟨(ord[i] - 1).toNat, by omega⟩
    rw [List.drop_eq_getElem_cons hix, ek] at hlk
    have hkn : k < nds.length := by omega
    have hkv : k < gv.ns.length := by omega
    obtain ⟨nv, en⟩ : ∃ n, gv.ns[k]? = some n := ⟨_, List.getElem?_eq_getElem hkv⟩
    have hmem := List.mem_of_getElem? en
    have nok := hok.2.2 nv hmem
    have hsz := hs nv hmem
    have endk : nds[k]? = some nv.nd := by rw [← ends]; simp [Gv.gr, en]
    have hndm : nv.nd ∈ nds := List.mem_of_getElem? endk
    have hinb := hins nv.nd hndm
    refine idxI_i eqa rfl (by omega) ?_
    simp only [Int.toNat_natCast, Nat.mul_one]
    refine ldInt_i (n := ((k + 1 : Nat) : Int)) (hq.cell (ints_get (by rw [List.getElem?_eq_getElem hix, ek]))) ?_
    refine ldSlice_i (p := gv.p) (l := gv.l) (c := gv.c) (S.cell 0 rfl rfl) ?_
    have ewr : IntKind.wrap .i64 (((k + 1 : Nat) : Int) - 1) = (k : Int) := by rw [wrap64_in (by omega)]; omega
    rw [ewr]
    obtain ⟨a, ea⟩ := (S.row 1 rfl).some_of (by rw [nflat_length]; omega)
    have hrow : Row g (some a) (nflat gv.ns) := by rw [← ea]; exact S.row 1 rfl
    refine idxI_i ea rfl (by omega) ?_
    simp only [Int.toNat_natCast]
    refine ldNode hrow en ?_
    refine newI_S S fun b49 g2 _ S => ?_
    dsimp only [List.cons_append, List.nil_append] at S
    refine stL_S S 6 rfl rfl (mkS_one rfl) fun g3 _ S => ?_
    dsimp only [List.set] at S
    have nrow : ∀ {g : Heap} {W : List Fact}, Sep h no g W [blk 0 (ints kindTab), row gv.p (nflat gv.ns), nrows gv.ns] → nv.rows.P g := fun S => S.r 2 _ rfl _ (List.mem_map_of_mem hmem)
    have irow : ∀ {g : Heap} {W : List Fact}, Sep h no g W [blk 0 (ints kindTab), row gv.p (nflat gv.ns), nrows gv.ns] → Row g nv.inn.p (ints nv.inn.xs) := fun S => nrow S nv.inn.row (by simp)
    refine ldSlice_i (p := some ⟨bw, 0, none⟩) (l := gv.l + 1) (c := gv.l + 1) (S.cell 2 rfl rfl) (ldSlice_i (p := nv.inn.p) (l := nv.inn.l) (c := nv.inn.c) (S.cell 6 rfl rfl) ?_)
    have ilen : nv.inn.xs.length = nv.inn.l := nok.1.1
    refine (pick_ok (Row.of_at (S.at 4 rfl)) (irow S) hwl ilen (by omega) (fun j hj => by have := hinb j hj; omega)).mono ?_
    rintro _ g4 ⟨bp, rfl, S1⟩
    replace S := S.add S1 fun _ _ h => h
    dsimp only [List.cons_append, List.nil_append] at S
    refine ⟨_, _, _, rfl, ?_⟩
    refine ldAg_S S 6 rfl (x := nv.t) rfl ?_
    have hpl : (pickG ws nv.inn.xs).length = nv.inn.l := by unfold pickG; rw [List.length_map, ilen]
    refine (Check_ok nok (nrow S) (by omega) hsz.2.1 hsz.2.2 (S.r 0 _ rfl) (Row.of_at (S.at 7 rfl)) hpl (by omega)).mono ?_
    rintro _ _ ⟨rfl, F⟩
    refine ⟨_, rfl, ?_⟩
    replace S := S.fra0 F
    have estep : lookL nds (((k + 1 : Nat) : Int) :: ord.drop (i + 1)) ws rs = if nv.nd.chk (pickG ws nv.inn.xs) ≠ 0 then (nv.nd.chk (pickG ws nv.inn.xs), ws, rs) else if rateN nv.nd (pickG rs nv.inn.xs) < 0 then (15, ws, rs)
        else lookL nds (ord.drop (i + 1)) (ws.set (k + 1) (nv.nd.wid (pickG ws nv.inn.xs))) (rs.set (k + 1) (rateN nv.nd (pickG rs nv.inn.xs))) := by
      conv => lhs; unfold lookL
      rw [show (((k + 1 : Nat) : Int)).toNat = k + 1 from rfl, Nat.add_sub_cancel, endk]
      rfl
    rw [estep] at hlk
    refine ifB_bne (fun hc => ?_) (fun hc => ?_)
    · rw [if_pos hc] at hlk
      have el := elook _ hlk.symm
      rw [if_pos hc] at el
      refine stI_S S 1 rfl (Nat.le_of_ble_eq_true rfl) fun _ _ S => ?_
      dsimp only [List.set] at S
      refine stI_S S 1 rfl (Nat.le_of_ble_eq_true rfl) fun _ _ S => ?_
      dsimp only [List.set] at S
      refine stI_S S 1 rfl (Nat.le_of_ble_eq_true rfl) fun _ _ S => ?_
      dsimp only [List.set] at S
      refine ldSlice_i (p := none) (l := 0) (c := 0) (S.cell 1 rfl rfl) (ldSlice_i (p := none) (l := 0) (c := 0) (S.cell 1 rfl rfl) (ldSlice_i (p := none) (l := 0) (c := 0) (S.cell 1 rfl rfl) ?_))
      exact LookP.err S el
    · rw [if_neg (fun h => h hc)] at hlk
      obtain ⟨c1, c2, c3, c4, c5, c6, c7, c8, c9, c10, _⟩ := chk_ok hc
      have hi1 : 1 ≤ nv.inn.l := by have : (pickG ws nv.nd.inn).length = nv.inn.l := hpl; omega
      have csz := (sized_iff nv _).1 c10
      refine ldAg_S S 6 rfl (x := nv.t) rfl ?_
      refine ldSlice_i (p := some ⟨br, 0, none⟩) (l := gv.l + 1) (c := gv.l + 1) (S.cell 2 rfl rfl) (ldSlice_i (p := nv.inn.p) (l := nv.inn.l) (c := nv.inn.c) (S.cell 6 rfl rfl) ?_)
      refine (pick_ok (Row.of_at (S.at 5 rfl)) (irow S) hrl ilen (by omega) (fun j hj => by have := hinb j hj; omega)).mono ?_
      rintro _ g5 ⟨bp2, rfl, S1⟩
      replace S := S.add S1 fun _ _ h => h
      dsimp only [List.cons_append, List.nil_append] at S
      refine ⟨_, _, _, rfl, ?_⟩
      refine holdW_S S 6 rfl rfl ?_
      have hpl2 : (pickG rs nv.inn.xs).length = nv.inn.l := by unfold pickG; rw [List.length_map, ilen]
      have h4i : (4 ^ i : Nat) ≤ 4 ^ 12 := Nat.pow_le_pow_right (by decide) (by omega)
      have hr0 := getD_pick (js := nv.inn.xs) hrs (Int.natCast_nonneg _)
      have hzg : (-2 ^ 20 ≤ nv.size ∧ nv.size ≤ 2 ^ 20) ∧ (-2 ^ 20 ≤ nv.gap ∧ nv.gap ≤ 2 ^ 20) ∧ (four nv.kind → 1 ≤ nv.step ∧ nv.step ≤ 4) := by
        have e0 := (else0_iff nv).1 c9
        refine ⟨?_, ?_, fun f => (csz.2.1 f).1⟩
        · by_cases hw : wins nv.kind
          · have := csz.1 hw; omega
          · have := e0.2.1 ⟨fun f => hw (.inl f), fun f => hw (.inr f)⟩; omega
        · by_cases hf : four nv.kind
          · have := (csz.2.1 hf).2.1; omega
          · have := (e0.1 hf).2.1; omega
      refine (rate_ok (S.r 0 _ rfl) (Row.of_at (S.at 8 rfl)) hpl2 hi1 (by omega) (by omega) (fun f => by have := hzg.2.2 f; omega) c4.1 hzg.1 hzg.2.1).mono ?_
      rintro _ _ ⟨rfl, F⟩
      refine ⟨_, _, rfl, ?_⟩
      replace S := S.fra0 F
      refine and_i (S.cell 2 rfl rfl) (ifB_not (ifB_dec (fun hrn => ?_) (fun hrn => ?_)))
      · have nlt : ¬ rateN nv.nd (pickG rs nv.inn.xs) < 0 := by omega
        rw [if_neg nlt] at hlk ⊢
        refine ldAg_S S 6 rfl (x := nv.t) rfl ?_
        refine ldSlice_i (p := some ⟨bw, 0, none⟩) (l := gv.l + 1) (c := gv.l + 1) (S.cell 2 rfl rfl) (ldSlice_i (p := some ⟨br, 0, none⟩) (l := gv.l + 1) (c := gv.l + 1) (S.cell 2 rfl rfl) ?_)
        refine (Width_ok nok (nrow S) (by omega) hsz.2.1 hsz.2.2 (S.r 0 _ rfl) (Row.of_at (S.at 7 rfl)) hpl (by omega)).mono ?_
        rintro _ _ ⟨rfl, F⟩
        refine ⟨_, rfl, ?_⟩
        replace S := S.fra0 F
        refine and_i (S.cell 2 rfl rfl) (and_i (S.cell 2 rfl rfl) (idxI_i rfl (k := k + 1) rfl (by omega) ?_))
        simp only [Int.toNat_natCast, Nat.mul_one, add_mk, Nat.zero_add]
        refine stI_S S 4 rfl (by rw [ints_length]; omega) fun g6 _ S => ?_
        rw [ints_set'] at S
        dsimp only [List.set] at S
        refine and_i (S.cell 2 rfl rfl) (idxI_i rfl (k := k + 1) rfl (by omega) ?_)
        simp only [Int.toNat_natCast, Nat.mul_one, add_mk, Nat.zero_add]
        refine stI_S S 5 rfl (by rw [ints_length]; omega) fun g7 _ S => ?_
        rw [ints_set'] at S
        dsimp only [List.set] at S
        rw [wrap64_in (by omega)]
        refine ⟨m - (i + 1), by omega, i + 1, _, _, rfl, by omega, rfl, by rw [List.length_set]; exact hwl, by rw [List.length_set]; exact hrl, fun x hx => ?_, hlk, S.pw [0, 1, 2, 3, 4, 5]⟩
        have e4 : ((4 ^ (i + 1) : Nat) : Int) = 4 * ((4 ^ i : Nat) : Int) := by rw [Nat.pow_succ]; omega
        rcases List.mem_or_eq_of_mem_set hx with hx | rfl
        · have := hrs x hx; omega
        · refine ⟨by omega, ?_⟩
          unfold rateN
          split
          · omega
          split
          · omega
          split
          · omega
          · have hst : 0 ≤ stepN nv.nd.kind nv.nd.step ∧ stepN nv.nd.kind nv.nd.step ≤ 4 := by
              unfold stepN; split
              · rename_i h; have := hzg.2.2 h; exact ⟨by show 0 ≤ nv.step; omega, by show nv.step ≤ 4; omega⟩
              · decide
            have := Int.mul_le_mul hr0.2 hst.2 hst.1 (by omega)
            omega
      · have lt : rateN nv.nd (pickG rs nv.inn.xs) < 0 := by omega
        rw [if_pos lt] at hlk
        have el := elook _ hlk.symm
        rw [if_pos (by show (15 : Int) ≠ 0; decide)] at el
        refine stI_S S 1 rfl (Nat.le_of_ble_eq_true rfl) fun _ _ S => ?_
        dsimp only [List.set] at S
        refine stI_S S 1 rfl (Nat.le_of_ble_eq_true rfl) fun _ _ S => ?_
        dsimp only [List.set] at S
        refine stI_S S 1 rfl (Nat.le_of_ble_eq_true rfl) fun _ _ S => ?_
        dsimp only [List.set] at S
        refine ldSlice_i (p := none) (l := 0) (c := 0) (S.cell 1 rfl rfl) (ldSlice_i (p := none) (l := 0) (c := 0) (S.cell 1 rfl rfl) (ldSlice_i (p := none) (l := 0) (c := 0) (S.cell 1 rfl rfl) ?_))
        exact LookP.err S el
  · have hil : i = m := by omega
    rw [List.drop_of_length_le (by omega)] at hlk
    have el := elook _ hlk.symm
    simp only [lookL, ne_eq, not_true_eq_false, if_false] at el
    refine ldSlice_i (p := q) (l := m) (c := d) (S.cell 2 rfl rfl) (ldSlice_i (p := some ⟨bw, 0, none⟩) (l := gv.l + 1) (c := gv.l + 1) (S.cell 2 rfl rfl) (ldSlice_i (p := some ⟨br, 0, none⟩) (l := gv.l + 1) (c := gv.l + 1) (S.cell 2 rfl rfl) ?_))
    refine stI_S S 1 rfl (Nat.le_of_ble_eq_true rfl) fun _ _ S => ?_
    dsimp only [List.set] at S
    refine stI_S S 1 rfl (Nat.le_of_ble_eq_true rfl) fun _ _ S => ?_
    dsimp only [List.set] at S
    refine stI_S S 1 rfl (Nat.le_of_ble_eq_true rfl) fun _ _ S => ?_
    dsimp only [List.set] at S
    refine ldSlice_i (p := q) (l := m) (c := d) (S.cell 1 rfl rfl) (ldSlice_i (p := some ⟨bw, 0, none⟩) (l := gv.l + 1) (c := gv.l + 1) (S.cell 1 rfl rfl) (ldSlice_i (p := some ⟨br, 0, none⟩) (l := gv.l + 1) (c := gv.l + 1) (S.cell 1 rfl rfl) ?_))
    have o := (S.own 3 rfl).2.1
    rw [el]
    replace S := S.toOwn 4 1 (gv.l + 1) (gv.l + 1) (b := bw) (cs := ints ws) (by rw [ints_length]; omega) (Nat.le_refl _)
    dsimp only [List.set] at S
    replace S := S.toOwn 5 1 (gv.l + 1) (gv.l + 1) (b := br) (cs := ints rs) (by rw [ints_length]; omega) (Nat.le_refl _)
    dsimp only [List.set] at S
    rw [List.take_of_length_le (by rw [ints_length]; omega), List.take_of_length_le (by rw [ints_length]; omega)] at S
    exact ⟨⟨q, m, d, ord⟩, ⟨some ⟨bw, 0, none⟩, gv.l + 1, gv.l + 1, ws⟩, ⟨some ⟨br, 0, none⟩, gv.l + 1, gv.l + 1, rs⟩, rfl, rfl, rfl, rfl, ⟨hm, o⟩, ⟨hwl, Nat.le_refl _⟩, ⟨hrl, Nat.le_refl _⟩, noR (S.pw [3, 4, 5])⟩
end

end Go.Proofs.YtbgplllcjhgdhaaDoor.G
