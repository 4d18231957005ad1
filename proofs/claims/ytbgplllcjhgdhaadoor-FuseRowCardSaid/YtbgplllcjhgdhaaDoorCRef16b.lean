/- Contracts: the document's graphs (chapter 16): what is known of one: node by node. -/
import Derived.Test.YtbgplllcjhgdhaaDoorCRef16
namespace Go.Proofs.YtbgplllcjhgdhaaDoor.G
open Go Go.Sh
set_option linter.unusedVariables false
set_option linter.unusedSimpArgs false

/-- What the document's look tells. -/
def LookR (k : Known) (h : Heap) (v : Value) (h' : Heap) : Prop :=
  ∃ o w r : Sl, v = .agg #[o.v, w.v, r.v, .int .i64 k.e] ∧ o.xs = k.order ∧ w.xs = k.widths ∧ r.xs = k.rates ∧ o.ok ∧ w.ok ∧ r.ok ∧ Sep h no h' [row o.p (ints o.xs), row w.p (ints w.xs), row r.p (ints r.xs)] []

theorem pushRow {h0 h : Heap} {T : Nat → Prop} {W : List Fact} (S : Sep h0 T h W []) (p : Option Addr) : Sep h0 T h (W ++ [row p []]) [] := by
  have := S.add (W1 := [row p []]) (R1 := []) (U := no) (Sep.one (Fra.refl _ _) (Row.nil _ _) fun b hb hlt => absurd rfl hb.1) fun b hb hu => hu
  exact this
theorem LookR.err {k : Known} {h h' : Heap} {W R : List Fact} (S : Sep h no h' W R) {e : Int} (hk : k = ⟨e, [], [], []⟩) : LookR k h (.agg #[.slice none 0 0, .slice none 0 0, .slice none 0 0, .int .i64 e]) h' := by
  subst hk
  refine ⟨Sl.nil, Sl.nil, Sl.nil, rfl, rfl, rfl, rfl, ⟨rfl, Nat.le_refl _⟩, ⟨rfl, Nat.le_refl _⟩, ⟨rfl, Nat.le_refl _⟩, ?_⟩
  exact pushRow (pushRow (pushRow (noR (S.pw [])) none) none) none

section
variable {h : Heap}

theorem look16_l11_ok {b1 b3 b31 bw br : Nat} {gv : Gv} {q : Option Addr} {m d : Nat} {g : Heap} (hok : gv.ok) (hfirst : gv.gr.first = 0) (hs : ∀ n ∈ gv.ns, n.inn.l < 2 ^ 40 ∧ n.weights.l < 2 ^ 62 ∧ n.bias.l < 2 ^ 62) (ho : (ordG gv.gr.nodes).length = gv.gr.nodes.length) (hm : (ordG gv.gr.nodes).length = m) (hmd : m ≤ d)
    (S : Sep h no g [blk b1 gv.cells, blk b3 [.slice none 0 0, .slice none 0 0, .slice none 0 0, .int .i64 0], blk b31 [.slice q m d, .slice (some ⟨bw, 0, none⟩) (gv.l + 1) (gv.l + 1), .slice (some ⟨br, 0, none⟩) (gv.l + 1) (gv.l + 1), .int .i64 0], row q (ints (ordG gv.gr.nodes)),
      blk bw (ints (gv.width :: List.replicate gv.gr.nodes.length 0)), blk br (ints (1 :: List.replicate gv.gr.nodes.length 0))] [row gv.p (nflat gv.ns), nrows gv.ns]) :
    LoopS (S := (Addr × Addr × (Option Addr × Nat × Nat) × Addr × Int × Unit)) (fun K1 s h' => ref16_Look_l11 (LookR gv.gr.look h) K1 s.1 s.2.1 s.2.2.1.1 s.2.2.1.2.1 s.2.2.1.2.2 s.2.2.2.1 s.2.2.2.2.1 h') (⟨b1, 0, none⟩, ⟨b3, 0, none⟩, (q, m, d), ⟨b31, 0, none⟩, (0 : Int), ()) g := by
  have hgl := hok.1
  have hgn : gv.gr.nodes.length = gv.l := by rw [← hgl]; simp [Gv.gr]
  obtain ⟨_, h12, _, _, _, hins⟩ := first_ok hfirst
  obtain ⟨nds, ends⟩ : ∃ nds, gv.gr.nodes = nds := ⟨_, rfl⟩
  obtain ⟨ord, eord⟩ : ∃ ord, ordG nds = ord := ⟨_, rfl⟩
  have hordm : ∀ x ∈ ord, 1 ≤ x ∧ x ≤ (nds.length : Int) := fun x hx => ordK_mem nds nds.length x (by rw [← eord] at hx; exact hx)
  rw [ends] at S hins h12 hgn ho hm
  rw [eord] at S ho hm
  have elook : ∀ r, lookL nds ord (gv.width :: List.replicate nds.length 0) (1 :: List.replicate nds.length 0) = r → gv.gr.look = if r.1 ≠ 0 then ⟨r.1, [], [], []⟩ else ⟨0, ord, r.2.1, r.2.2⟩ := by
    intro r hr
    unfold Gr.look
    rw [if_neg (by rw [hfirst]; simp), ends, eord, if_neg (by rw [ho]; simp)]
    have : gv.gr.width = gv.width := rfl
    rw [this, hr]
  have errs : ∀ {e : Int} {g : Heap} {W R : List Fact}, Sep h no g (blk b1 gv.cells :: blk b3 [.slice none 0 0, .slice none 0 0, .slice none 0 0, .int .i64 0] :: W) R → gv.gr.look = ⟨e, [], [], []⟩ →
      stI g ⟨b3, 0, none⟩ (.slice none 0 0) fun h81 => stI h81 ⟨b3, 1, none⟩ (.slice none 0 0) fun h82 => stI h82 ⟨b3, 2, none⟩ (.slice none 0 0) fun h83 => stI h83 ⟨b3, 3, none⟩ (.int .i64 e) fun h84 =>
        ldSlice h84 ⟨b3, 0, none⟩ fun p85 l85 c85 => ldSlice h84 ⟨b3, 1, none⟩ fun p86 l86 c86 => ldSlice h84 ⟨b3, 2, none⟩ fun p87 l87 c87 => ldInt .i64 h84 ⟨b3, 3, none⟩ fun n88 =>
        LookR gv.gr.look h (.agg #[(.slice p85 l85 c85), (.slice p86 l86 c86), (.slice p87 l87 c87), (.int .i64 n88)]) h84 := by
    intro e g W R S el
    refine stI_S S 1 rfl (Nat.le_of_ble_eq_true rfl) fun _ _ S => ?_
    dsimp only [List.set] at S
    refine stI_S S 1 rfl (Nat.le_of_ble_eq_true rfl) fun _ _ S => ?_
    dsimp only [List.set] at S
    refine stI_S S 1 rfl (Nat.le_of_ble_eq_true rfl) fun _ _ S => ?_
    dsimp only [List.set] at S
    refine stI_S S 1 rfl (Nat.le_of_ble_eq_true rfl) fun _ _ S => ?_
    dsimp only [List.set] at S
    refine ldSlice_i (p := none) (l := 0) (c := 0) (S.cell 1 rfl rfl) (ldSlice_i (p := none) (l := 0) (c := 0) (S.cell 1 rfl rfl) (ldSlice_i (p := none) (l := 0) (c := 0) (S.cell 1 rfl rfl) (ldInt_i (n := e) (S.cell 1 rfl rfl) ?_)))
    exact LookR.err S el
  refine LoopS_i (fun mm s g => ∃ (i : Nat) (ws rs : List Int), s = (⟨b1, 0, none⟩, ⟨b3, 0, none⟩, (q, m, d), ⟨b31, 0, none⟩, (i : Int), ()) ∧ i ≤ m ∧ mm = m - i ∧ ws.length = gv.l + 1 ∧ rs.length = gv.l + 1 ∧ (∀ x ∈ rs, 0 ≤ x ∧ x ≤ ((4 ^ i : Nat) : Int)) ∧
    lookL nds (ord.drop i) ws rs = lookL nds ord (gv.width :: List.replicate nds.length 0) (1 :: List.replicate nds.length 0) ∧
    Sep h no g [blk b1 gv.cells, blk b3 [.slice none 0 0, .slice none 0 0, .slice none 0 0, .int .i64 0], blk b31 [.slice q m d, .slice (some ⟨bw, 0, none⟩) (gv.l + 1) (gv.l + 1), .slice (some ⟨br, 0, none⟩) (gv.l + 1) (gv.l + 1), .int .i64 0], row q (ints ord),
      blk bw (ints ws), blk br (ints rs)] [row gv.p (nflat gv.ns), nrows gv.ns]) m
    ⟨0, _, _, rfl, by omega, rfl, by simp [hgn], by simp [hgn], ?_, by rw [List.drop_zero], S⟩ ?_
  · intro x hx
    simp only [List.mem_cons, List.mem_replicate] at hx
    rcases hx with rfl | ⟨_, rfl⟩
    · decide
    · decide
  clear S
  rintro mm s g ⟨i, ws, rs, rfl, hi, rfl, hwl, hrl, hrs, hlk, S⟩
  unfold ref16_Look_l11
  simp only [add_mk, Nat.zero_add]
  refine ifB_dec (fun hlt => ?_) (fun hge => ?_)
  · have hix : i < ord.length := by omega
    have hi12 : i < 12 := by omega
    have rq : Row g q (ints ord) := S.w 3 _ rfl
    obtain ⟨qa, eqa⟩ := rq.some_of (by rw [ints_length]; omega)
    have hq : ∀ {g : Heap}, Row g q (ints ord) → Row g (some qa) (ints ord) := fun r => by rw [← eqa]; exact r
    have hxo := hordm _ (List.getElem_mem hix)
    obtain ⟨k, ek⟩ : ∃ k : Nat, ord[i] = ((k + 1 : Nat) : Int) := ⟨(ord[i] - 1).toNat, by omega⟩
    rw [List.drop_eq_getElem_cons hix, ek] at hlk
    have hkn : k < nds.length := by omega
    have hkv : k < gv.ns.length := by omega
    obtain ⟨nv, en⟩ : ∃ n, gv.ns[k]? = some n := ⟨_, List.getElem?_eq_getElem hkv⟩
    have hmem := List.mem_of_getElem? en
    have nok := hok.2.2 nv hmem
    have hsz := hs nv hmem
    have endk : nds[k]? = some nv.nd := by rw [← ends]; simp [Gv.gr, en]
    have hndm : nv.nd ∈ nds := List.mem_of_getElem? endk
    have hinb := hins nv.nd hndm
    have ldo : ∀ {g : Heap}, Row g q (ints ord) → cellH g (qa.add i) = some (.int .i64 ((k + 1 : Nat) : Int)) := fun r => (hq r).cell (ints_get (by rw [List.getElem?_eq_getElem hix, ek]))
    refine idxI_i eqa rfl (by omega) ?_
    simp only [Int.toNat_natCast, Nat.mul_one]
    refine ldSlice_i (p := gv.p) (l := gv.l) (c := gv.c) (S.cell 0 rfl rfl) ?_
    refine ldInt_i (n := ((k + 1 : Nat) : Int)) (ldo rq) ?_
    have ewr : IntKind.wrap .i64 (((k + 1 : Nat) : Int) - 1) = (k : Int) := by rw [wrap64_in (by omega)]; omega
    rw [ewr]
    obtain ⟨a, ea⟩ := (S.row 0 rfl).some_of (by rw [nflat_length]; omega)
    have hrow : Row g (some a) (nflat gv.ns) := by rw [← ea]; exact S.row 0 rfl
    refine idxI_i ea rfl (by omega) ?_
    simp only [Int.toNat_natCast]
    refine ldNode hrow en ?_
    refine newI_S S fun b49 g2 _ S => ?_
    dsimp only [List.cons_append, List.nil_append] at S
    refine stL_S S 6 rfl rfl (mkS_one rfl) fun g3 _ S => ?_
    dsimp only [List.set] at S
    have nrow : ∀ {g : Heap} {W : List Fact}, Sep h no g W [row gv.p (nflat gv.ns), nrows gv.ns] → nv.rows.P g := fun S => S.r 1 _ rfl _ (List.mem_map_of_mem hmem)
    have irow : ∀ {g : Heap} {W : List Fact}, Sep h no g W [row gv.p (nflat gv.ns), nrows gv.ns] → Row g nv.inn.p (ints nv.inn.xs) := fun S => nrow S nv.inn.row (by simp)
    have ilen : nv.inn.xs.length = nv.inn.l := nok.1.1
    have hpl : (pickG ws nv.inn.xs).length = nv.inn.l := by unfold pickG; rw [List.length_map, ilen]
    have hpl2 : (pickG rs nv.inn.xs).length = nv.inn.l := by unfold pickG; rw [List.length_map, ilen]
    have fw : nv.cells = nv.cells := rfl
    replace S := (S.nil 1).nil 1
    dsimp only [List.cons_append, List.nil_append] at S
    refine LoopS_i (fun mm s g => ∃ (j : Nat) (pw pr : Option Addr) (lw cw lr cr : Nat), s = (⟨b1, 0, none⟩, ⟨b3, 0, none⟩, (q, m, d), ⟨b31, 0, none⟩, (i : Int), ⟨b49, 0, none⟩, (pw, lw, cw), (pr, lr, cr), (j : Int), ()) ∧ j ≤ nv.inn.l ∧ mm = nv.inn.l - j ∧ lw = j ∧ lr = j ∧
      Sep h no g [blk b1 gv.cells, blk b3 [.slice none 0 0, .slice none 0 0, .slice none 0 0, .int .i64 0], blk b31 [.slice q m d, .slice (some ⟨bw, 0, none⟩) (gv.l + 1) (gv.l + 1), .slice (some ⟨br, 0, none⟩) (gv.l + 1) (gv.l + 1), .int .i64 0], row q (ints ord),
        blk bw (ints ws), blk br (ints rs), blk b49 nv.cells, own 1 pw lw cw (ints ((pickG ws nv.inn.xs).take j)), own 1 pr lr cr (ints ((pickG rs nv.inn.xs).take j))] [row gv.p (nflat gv.ns), nrows gv.ns]) nv.inn.l
      ⟨0, none, none, 0, 0, 0, 0, rfl, by omega, rfl, rfl, rfl, S⟩ ?_
    clear S rq hrow
    rintro mm s g ⟨j, pw, pr, lw, cw, lr, cr, rfl, hj, rfl, elw, elr, S⟩
    unfold ref16_Look_l17
    simp only [add_mk, Nat.zero_add]
    refine ldSlice_i (p := nv.inn.p) (l := nv.inn.l) (c := nv.inn.c) (S.cell 6 rfl rfl) ?_
    refine ifB_dec (fun hlt2 => ?_) (fun hge2 => ?_)
    · have hjx : j < nv.inn.xs.length := by omega
      have hxb := hinb _ (List.getElem_mem hjx)
      have hxb : 0 ≤ nv.inn.xs[j] ∧ nv.inn.xs[j] ≤ (nds.length : Int) := hxb
      obtain ⟨x, ex⟩ : ∃ x : Nat, nv.inn.xs[j] = (x : Int) := ⟨nv.inn.xs[j].toNat, by omega⟩
      obtain ⟨aa, eaa⟩ := (irow S).some_of (by rw [ints_length]; omega)
      have lx : ∀ {g : Heap} {W : List Fact}, Sep h no g W [row gv.p (nflat gv.ns), nrows gv.ns] → cellH g (aa.add j) = some (.int .i64 (x : Int)) := fun S => by
        have := irow S
        rw [eaa] at this
        exact this.cell (ints_get (by rw [List.getElem?_eq_getElem hjx, ex]))
      have pw1 : (pickG ws nv.inn.xs).take (j + 1) = (pickG ws nv.inn.xs).take j ++ [ws.getD x 0] := by
        rw [List.take_succ_eq_append_getElem (by omega)]
        congr 2
        simp only [pickG, List.getElem_map, ex, Int.toNat_natCast]
      have pr1 : (pickG rs nv.inn.xs).take (j + 1) = (pickG rs nv.inn.xs).take j ++ [rs.getD x 0] := by
        rw [List.take_succ_eq_append_getElem (by omega)]
        congr 2
        simp only [pickG, List.getElem_map, ex, Int.toNat_natCast]
      refine ldSlice_i (p := some ⟨bw, 0, none⟩) (l := gv.l + 1) (c := gv.l + 1) (S.cell 2 rfl rfl) (ldSlice_i (p := nv.inn.p) (l := nv.inn.l) (c := nv.inn.c) (S.cell 6 rfl rfl) ?_)
      refine idxI_i eaa rfl (by omega) ?_
      simp only [Int.toNat_natCast, Nat.mul_one]
      refine ldInt_i (lx S) (idxI_i rfl rfl (by omega) ?_)
      simp only [Int.toNat_natCast, Nat.mul_one, add_mk, Nat.zero_add]
      refine ldInt_i (n := ws.getD x 0) (S.cell 4 rfl (ints_get (by rw [List.getElem?_eq_getElem (by omega), getD_eq (by omega)]))) ?_
      refine newI_S S fun b64 h65 _ S => ?_
      dsimp only [List.cons_append, List.nil_append] at S
      refine appI_S S 7 (ys := ints [ws.getD x 0]) rfl rfl (by decide) (by omega) (Row.of_at (S.at 9 rfl)) rfl vals_one fun p66 l66 c66 h67 hl66 S => ?_
      dsimp only [List.set] at S
      refine and_i (S.cell 2 rfl rfl) ?_
      refine ldSlice_i (p := some ⟨br, 0, none⟩) (l := gv.l + 1) (c := gv.l + 1) (S.cell 2 rfl rfl) (ldSlice_i (p := nv.inn.p) (l := nv.inn.l) (c := nv.inn.c) (S.cell 6 rfl rfl) ?_)
      refine idxI_i eaa rfl (by omega) ?_
      try simp only [Int.toNat_natCast, Nat.mul_one]
      refine ldInt_i (lx S) (idxI_i rfl rfl (by omega) ?_)
      try simp only [Int.toNat_natCast, Nat.mul_one, add_mk, Nat.zero_add]
      refine ldInt_i (n := rs.getD x 0) (S.cell 5 rfl (ints_get (by rw [List.getElem?_eq_getElem (by omega), getD_eq (by omega)]))) ?_
      refine newI_S S fun b74 h75 _ S => ?_
      dsimp only [List.cons_append, List.nil_append] at S
      refine appI_S S 8 (ys := ints [rs.getD x 0]) rfl rfl (by decide) (by omega) (Row.of_at (S.at 10 rfl)) rfl vals_one fun p76 l76 c76 h77 hl76 S => ?_
      dsimp only [List.set] at S
      refine and_i (S.cell 2 rfl rfl) ?_
      rw [wrap64_in (n := (j : Int) + 1) (by omega)]
      refine ⟨nv.inn.l - (j + 1), by omega, j + 1, p66, p76, l66, c66, l76, c76, rfl, by omega, rfl, by omega, by omega, ?_⟩
      rw [pw1, pr1]
      have e1 : ∀ (l : List Int) (y : Int), ints (l ++ [y]) = ints l ++ ints [y] := fun l y => by simp only [ints, List.map_append, List.map_cons, List.map_nil]
      rw [e1, e1]
      exact S.pw [0, 1, 2, 3, 4, 5, 6, 7, 8]
    · rw [List.take_of_length_le (by omega), List.take_of_length_le (by omega)] at S
      have hjl : j = nv.inn.l := by omega
      have rw7 : ∀ {g : Heap} {W R : List Fact} {pp : Option Addr} {ll cc : Nat} {xs : List Value} (i : Nat), Sep h no g W R → W[i]? = some (own 1 pp ll cc xs) → Row g pp xs := fun i S e => (S.own i e).row
      refine ldAg_S S 6 rfl (x := nv.t) rfl ?_
      refine (Check14_ok nok (nrow S) (by omega) hsz.2.1 hsz.2.2 (rw7 7 S rfl) (by omega) (by omega)).mono ?_
      rintro _ g4 ⟨rfl, F⟩
      replace S := S.fra0 F
      refine ⟨_, rfl, ?_⟩
      have estep : lookL nds (((k + 1 : Nat) : Int) :: ord.drop (i + 1)) ws rs = if nv.nd.chk (pickG ws nv.inn.xs) ≠ 0 then (nv.nd.chk (pickG ws nv.inn.xs), ws, rs) else if rateN nv.nd (pickG rs nv.inn.xs) < 0 then (15, ws, rs)
          else lookL nds (ord.drop (i + 1)) (ws.set (k + 1) (nv.nd.wid (pickG ws nv.inn.xs))) (rs.set (k + 1) (rateN nv.nd (pickG rs nv.inn.xs))) := by
        conv => lhs; unfold lookL
        rw [show (((k + 1 : Nat) : Int)).toNat = k + 1 from rfl, Nat.add_sub_cancel, endk]
        rfl
      rw [estep] at hlk
      refine ifB_bne (fun hc => ?_) (fun hc => ?_)
      · rw [if_pos hc] at hlk
        have el := elook _ hlk.symm
        rw [if_pos hc] at el
        exact errs S el
      · rw [if_neg (fun h => h hc)] at hlk
        obtain ⟨c1, c2, c3, c4, c5, c6, c7, c8, c9, c10, _⟩ := chk_ok hc
        have hi1 : 1 ≤ nv.inn.l := by have : (pickG ws nv.nd.inn).length = nv.inn.l := hpl; omega
        have csz := (sized_iff nv _).1 c10
        have h4i : (4 ^ i : Nat) ≤ 4 ^ 12 := Nat.pow_le_pow_right (by decide) (by omega)
        have hr0 := getD_pick (js := nv.inn.xs) hrs (Int.natCast_nonneg _)
        have hstp : four nv.kind → 1 ≤ nv.step ∧ nv.step ≤ 4 := fun f => (csz.2.1 f).1
        refine idxI_i eqa rfl (by omega) ?_
        try simp only [Int.toNat_natCast, Nat.mul_one]
        refine ldAg_S S 6 rfl (x := nv.t) rfl ?_
        refine ldSlice_i (p := some ⟨bw, 0, none⟩) (l := gv.l + 1) (c := gv.l + 1) (S.cell 2 rfl rfl) (ldInt_i (n := ((k + 1 : Nat) : Int)) (ldo (S.w 3 _ rfl)) ?_)
        refine (Width14_ok nok (nrow S) (by omega) hsz.2.1 hsz.2.2 (rw7 7 S rfl) (by omega) (by omega)).mono ?_
        rintro _ g5 ⟨rfl, F⟩
        replace S := S.fra0 F
        refine ⟨_, rfl, ?_⟩
        refine and_i (ldo (S.w 3 _ rfl)) (and_i (S.cell 2 rfl rfl) (idxI_i rfl (k := k + 1) rfl (by omega) ?_))
        simp only [Int.toNat_natCast, Nat.mul_one, add_mk, Nat.zero_add]
        refine stI_S S 4 rfl (by rw [ints_length]; omega) fun g6 _ S => ?_
        rw [ints_set'] at S
        dsimp only [List.set] at S
        refine idxI_i eqa rfl (by omega) ?_
        try simp only [Int.toNat_natCast, Nat.mul_one]
        refine ldAg_S S 6 rfl (x := nv.t) rfl ?_
        refine ldSlice_i (p := some ⟨br, 0, none⟩) (l := gv.l + 1) (c := gv.l + 1) (S.cell 2 rfl rfl) (ldInt_i (n := ((k + 1 : Nat) : Int)) (ldo (S.w 3 _ rfl)) ?_)
        refine (rate16_ok (nv := nv) (rw7 8 S rfl) (by omega) (by omega) (by omega) (by omega) (fun f => by have := hstp f; omega)).mono ?_
        rintro _ g7 ⟨rfl, F⟩
        replace S := S.fra0 F
        refine ⟨_, rfl, ?_⟩
        refine and_i (ldo (S.w 3 _ rfl)) (and_i (S.cell 2 rfl rfl) (idxI_i rfl (k := k + 1) rfl (by omega) ?_))
        simp only [Int.toNat_natCast, Nat.mul_one, add_mk, Nat.zero_add]
        refine stI_S S 5 rfl (by rw [ints_length]; omega) fun g8 _ S => ?_
        rw [ints_set'] at S
        dsimp only [List.set] at S
        refine idxI_i eqa rfl (by omega) ?_
        try simp only [Int.toNat_natCast, Nat.mul_one]
        refine ldSlice_i (p := some ⟨br, 0, none⟩) (l := gv.l + 1) (c := gv.l + 1) (S.cell 2 rfl rfl) (ldInt_i (n := ((k + 1 : Nat) : Int)) (ldo (S.w 3 _ rfl)) (idxI_i rfl (k := k + 1) rfl (by omega) ?_))
        simp only [Int.toNat_natCast, Nat.mul_one, add_mk, Nat.zero_add]
        refine ldInt_i (n := rateN nv.nd (pickG rs nv.inn.xs)) (S.cell 5 rfl (ints_get (by rw [List.getElem?_set_self (by omega)]))) ?_
        refine ifB_dec (fun hrn => ?_) (fun hrn => ?_)
        · rw [if_pos hrn] at hlk
          have el := elook _ hlk.symm
          rw [if_pos (by show (15 : Int) ≠ 0; decide)] at el
          exact errs S el
        · rw [if_neg hrn] at hlk
          rw [wrap64_in (by omega)]
          refine ⟨m - (i + 1), by omega, i + 1, _, _, rfl, by omega, rfl, by rw [List.length_set]; exact hwl, by rw [List.length_set]; exact hrl, fun x hx => ?_, hlk, S.pw [0, 1, 2, 3, 4, 5]⟩
          have e4 : ((4 ^ (i + 1) : Nat) : Int) = 4 * ((4 ^ i : Nat) : Int) := by rw [Nat.pow_succ]; omega
          rcases List.mem_or_eq_of_mem_set hx with hx | rfl
          · have := hrs x hx; omega
          · refine ⟨by omega, ?_⟩
            unfold rateN
            split
            · omega
            split
            · omega
            split
            · omega
            · have hst : 0 ≤ stepN nv.nd.kind nv.nd.step ∧ stepN nv.nd.kind nv.nd.step ≤ 4 := by
                unfold stepN; split
                · rename_i h; have := hstp h; exact ⟨by show 0 ≤ nv.step; omega, by show nv.step ≤ 4; omega⟩
                · decide
              have := Int.mul_le_mul hr0.2 hst.2 hst.1 (by omega)
              omega
  · have hil : i = m := by omega
    rw [List.drop_of_length_le (by omega)] at hlk
    have el := elook _ hlk.symm
    simp only [lookL, ne_eq, not_true_eq_false, if_false] at el
    refine ldSlice_i (p := q) (l := m) (c := d) (S.cell 2 rfl rfl) (ldSlice_i (p := some ⟨bw, 0, none⟩) (l := gv.l + 1) (c := gv.l + 1) (S.cell 2 rfl rfl) (ldSlice_i (p := some ⟨br, 0, none⟩) (l := gv.l + 1) (c := gv.l + 1) (S.cell 2 rfl rfl) (ldInt_i (n := 0) (S.cell 2 rfl rfl) ?_)))
    refine stI_S S 1 rfl (Nat.le_of_ble_eq_true rfl) fun _ _ S => ?_
    dsimp only [List.set] at S
    refine stI_S S 1 rfl (Nat.le_of_ble_eq_true rfl) fun _ _ S => ?_
    dsimp only [List.set] at S
    refine stI_S S 1 rfl (Nat.le_of_ble_eq_true rfl) fun _ _ S => ?_
    dsimp only [List.set] at S
    refine stI_S S 1 rfl (Nat.le_of_ble_eq_true rfl) fun _ _ S => ?_
    dsimp only [List.set] at S
    refine ldSlice_i (p := q) (l := m) (c := d) (S.cell 1 rfl rfl) (ldSlice_i (p := some ⟨bw, 0, none⟩) (l := gv.l + 1) (c := gv.l + 1) (S.cell 1 rfl rfl) (ldSlice_i (p := some ⟨br, 0, none⟩) (l := gv.l + 1) (c := gv.l + 1) (S.cell 1 rfl rfl) (ldInt_i (n := 0) (S.cell 1 rfl rfl) ?_)))
    rw [el]
    have S2 := S.turn 4 rfl (row (some ⟨bw, 0, none⟩) (ints ws)) (fun hh => Row.of_at hh) (fun b hb => by obtain ⟨_, a, ha, hb⟩ := hb; cases ha; exact hb.symm)
    dsimp only [List.set] at S2
    have S3 := S2.turn 5 rfl (row (some ⟨br, 0, none⟩) (ints rs)) (fun hh => Row.of_at hh) (fun b hb => by obtain ⟨_, a, ha, hb⟩ := hb; cases ha; exact hb.symm)
    dsimp only [List.set] at S3
    exact ⟨⟨q, m, d, ord⟩, ⟨some ⟨bw, 0, none⟩, gv.l + 1, gv.l + 1, ws⟩, ⟨some ⟨br, 0, none⟩, gv.l + 1, gv.l + 1, rs⟩, rfl, rfl, rfl, rfl, ⟨hm, hmd⟩, ⟨hwl, Nat.le_refl _⟩, ⟨hrl, Nat.le_refl _⟩, noR (S3.pw [3, 4, 5])⟩
end

end Go.Proofs.YtbgplllcjhgdhaaDoor.G
