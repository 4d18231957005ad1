/- The law FuseGood, over heaps. -/
import Derived.Test.YtbgplllcjhgdhaaDoorCLaw21
import Derived.Test.YtbgplllcjhgdhaaDoorCSameG
import Derived.Test.YtbgplllcjhgdhaaDoorCLook19b
namespace Go.Proofs.YtbgplllcjhgdhaaDoor.G
open Go Go.Sh
set_option linter.unusedVariables false
set_option linter.unusedSimpArgs false

theorem val_cell {g : Heap} {p : Option Addr} {a : Addr} {n : Nat} {V : Int → Int} (r : Row g p (ints ((List.range (n + 1)).map fun x : Nat => V x))) (e : p = some a) {k : Nat} (hk : k ≤ n) : cellH g (a.add k) = some (.int .i64 (V (k : Int))) := by
  rw [e] at r
  exact r.cell (ints_get (by rw [List.getElem?_map, List.getElem?_range (by omega)]; rfl))

section
variable {h : Heap} {gv g1 : Gv} {W R Lo Hi : Int → Int} {W1 R1 Lo1 Hi1 : Int → Int} {pos1 : Int → Nat} {b6 b13 b23 b36 : Nat} {o w r o2 w2 r2 : Sl} {XS : List Fact}

/-- What stands in memory behind both looks. -/
abbrev FG (gv g1 : Gv) (b6 b13 b23 b36 : Nat) (o w r o2 w2 r2 : Sl) : List Fact :=
  [own 15 gv.p gv.l gv.c (nflat gv.ns), nrows gv.ns, blk b6 gv.cells, own 15 g1.p g1.l g1.c (nflat g1.ns), owns (g1.ns.map Nv.inn), reads (wbs g1.ns), blk b13 g1.cells, row o.p (ints o.xs), row w.p (ints w.xs), row r.p (ints r.xs), blk b23 [o.v, w.v, r.v, .int .i64 0],
    row o2.p (ints o2.xs), row w2.p (ints w2.xs), row r2.p (ints r2.xs), blk b36 [o2.v, w2.v, r2.v, .int .i64 0]]

theorem good_end (hok : gv.ok) (hok1 : g1.ok) (hs : ∀ n ∈ gv.ns, n.inn.l < 2 ^ 20 ∧ n.weights.l < 2 ^ 40 ∧ n.bias.l < 2 ^ 40) (hs1 : ∀ n ∈ g1.ns, n.inn.l < 2 ^ 20 ∧ n.weights.l < 2 ^ 40 ∧ n.bias.l < 2 ^ 40)
    (rt : Right gv.gr W R (posG gv.gr.nodes)) (rc : Reach gv.gr.nodes R Lo Hi) (rt1 : Right g1.gr W1 R1 pos1) (rc1 : Reach g1.gr.nodes R1 Lo1 Hi1)
    (hb : ∀ x, 0 ≤ x → x ≤ (gv.l : Int) → (-2 ^ 40 ≤ Lo x ∧ Lo x ≤ 2 ^ 40) ∧ (-2 ^ 40 ≤ Hi x ∧ Hi x ≤ 2 ^ 40) ∧ (0 ≤ R x ∧ R x ≤ 2 ^ 30))
    (hb1 : ∀ x, 0 ≤ x → x ≤ (g1.l : Int) → (-2 ^ 40 ≤ Lo1 x ∧ Lo1 x ≤ 2 ^ 40) ∧ (-2 ^ 40 ≤ Hi1 x ∧ Hi1 x ≤ 2 ^ 40) ∧ (0 ≤ R1 x ∧ R1 x ≤ 2 ^ 30))
    (hw : w.xs = (List.range (gv.gr.nodes.length + 1)).map fun x : Nat => W x) (hr : r.xs = (List.range (gv.gr.nodes.length + 1)).map fun x : Nat => R x) (wok : w.ok) (rok : r.ok)
    (hw2 : w2.xs = (List.range (g1.gr.nodes.length + 1)).map fun x : Nat => W1 x) (hr2 : r2.xs = (List.range (g1.gr.nodes.length + 1)).map fun x : Nat => R1 x) (wok2 : w2.ok) (rok2 : r2.ok)
    (q1 : W1 g1.out = W gv.out) (q2 : R1 g1.out = R gv.out) (q3 : Lo1 g1.out = Lo gv.out) (q4 : Hi1 g1.out = Hi gv.out) (hc : (g1.gr.nodes.map Nd.cost).sum ≤ (gv.gr.nodes.map Nd.cost).sum)
    {p53 : Option Addr} {c53 : Nat} {X : List Bool} (hX : X.length = g1.l + 1) (hall : ∀ i, 1 ≤ i → i ≤ g1.l → X[i]? = some true) {g : Heap}
    (S : Sep h no g (FG gv g1 b6 b13 b23 b36 o w r o2 w2 r2 ++ [row p53 (bls X)]) XS) :
    LoopS (S := (Bool × Addr × Addr × Addr × Addr × Bool × (Option Addr × Nat × Nat) × Int × Unit)) (fun K1 s g => law21_FuseGood_l13 (fun v h' => v = .bool true ∧ Fra no h h') K1 s.1 s.2.1 s.2.2.1 s.2.2.2.1 s.2.2.2.2.1 s.2.2.2.2.2.1 s.2.2.2.2.2.2.1.1 s.2.2.2.2.2.2.1.2.1 s.2.2.2.2.2.2.1.2.2 s.2.2.2.2.2.2.2.1 g) (true, ⟨b6, 0, none⟩, ⟨b13, 0, none⟩, ⟨b23, 0, none⟩, ⟨b36, 0, none⟩, true, (p53, g1.l + 1, c53), (1 : Int), ()) g := by
  have hgn : gv.gr.nodes.length = gv.l := by rw [← hok.1]; simp [Gv.gr]
  have hgn1 : g1.gr.nodes.length = g1.l := by rw [← hok1.1]; simp [Gv.gr]
  have f := first_ok rt.first
  have f1 := first_ok rt1.first
  have fo : 1 ≤ gv.out ∧ gv.out ≤ (gv.gr.nodes.length : Int) := f.2.2.2.2.1
  have fo1 : 1 ≤ g1.out ∧ g1.out ≤ (g1.gr.nodes.length : Int) := f1.2.2.2.2.1
  have hl12 : g1.l ≤ 12 := by have := f1.2.1; omega
  refine LoopS_i (fun mm s g => ∃ t : Nat, s = (true, ⟨b6, 0, none⟩, ⟨b13, 0, none⟩, ⟨b23, 0, none⟩, ⟨b36, 0, none⟩, true, (p53, g1.l + 1, c53), (t : Int) + 1, ()) ∧ t ≤ g1.l ∧ mm = g1.l - t ∧ Sep h no g (FG gv g1 b6 b13 b23 b36 o w r o2 w2 r2 ++ [row p53 (bls X)]) XS) g1.l ⟨0, rfl, by omega, rfl, S⟩ ?_
  clear S
  rintro mm s g ⟨t, rfl, ht, rfl, S⟩
  dsimp only [List.cons_append, List.nil_append] at S
  unfold law21_FuseGood_l13
  simp only [add_mk, Nat.zero_add]
  refine ifB_dec (fun hlt => ?_) (fun hge => ?_)
  · have xrow : Row g p53 (bls X) := S.w 15 _ rfl
    obtain ⟨xa, exa⟩ := xrow.some_of (by rw [bls_length]; omega)
    rw [exa] at xrow
    refine idxI_i exa (k := t + 1) (by omega) (by omega) ?_
    rw [show ((t : Int) + 1).toNat = t + 1 by omega, Nat.mul_one]
    refine ldBool_i (xrow.cell (bls_get (hall (t + 1) (by omega) (by omega)))) (ifB_false rfl ?_)
    have et : IntKind.wrap .i64 ((t : Int) + 1 + 1) = ((t + 1 : Nat) : Int) + 1 := by rw [wrap64_in (by omega)]; rfl
    rw [et]
    exact ⟨g1.l - (t + 1), by omega, t + 1, rfl, by omega, rfl, S⟩
  · refine ldAg_S S 2 rfl (x := gv.t) rfl ?_
    refine (Look19_ok hok (S.own 0 rfl).row (S.w 1 _ rfl) hs rt rc hb).mono ?_
    rintro _ g2 ⟨L1, L2, L3, rfl, S1⟩
    replace S := S.add S1 fun _ _ h => h
    dsimp only [List.cons_append, List.nil_append] at S
    refine ⟨_, _, _, _, _, _, _, _, _, _, rfl, ?_⟩
    refine newI_S (cs := [.slice none 0 0, .slice none 0 0, .slice none 0 0, .int .i64 0]) S fun b65 _ _ S => ?_
    dsimp only [List.cons_append, List.nil_append] at S
    refine stI_S S 18 rfl (Nat.le_of_ble_eq_true rfl) fun _ _ S => ?_
    dsimp only [List.set] at S
    refine stI_S S 18 rfl (Nat.le_of_ble_eq_true rfl) fun _ _ S => ?_
    dsimp only [List.set] at S
    refine stI_S S 18 rfl (Nat.le_of_ble_eq_true rfl) fun _ _ S => ?_
    dsimp only [List.set] at S
    refine stI_S S 18 rfl (Nat.le_of_ble_eq_true rfl) fun g3 _ S => ?_
    dsimp only [List.set] at S
    refine ldAg_S S 6 rfl (x := g1.t) rfl ?_
    refine (Look19_ok hok1 (S.own 3 rfl).row (nrowsO (S.w 4 _ rfl) (S.w 5 _ rfl)) hs1 rt1 rc1 hb1).mono ?_
    rintro _ g4 ⟨M1, M2, M3, rfl, S1⟩
    replace S := S.add S1 fun _ _ h => h
    dsimp only [List.cons_append, List.nil_append] at S
    refine ⟨_, _, _, _, _, _, _, _, _, _, rfl, ?_⟩
    refine newI_S (cs := [.slice none 0 0, .slice none 0 0, .slice none 0 0, .int .i64 0]) S fun b78 _ _ S => ?_
    dsimp only [List.cons_append, List.nil_append] at S
    refine stI_S S 21 rfl (Nat.le_of_ble_eq_true rfl) fun _ _ S => ?_
    dsimp only [List.set] at S
    refine stI_S S 21 rfl (Nat.le_of_ble_eq_true rfl) fun _ _ S => ?_
    dsimp only [List.set] at S
    refine stI_S S 21 rfl (Nat.le_of_ble_eq_true rfl) fun _ _ S => ?_
    dsimp only [List.set] at S
    refine stI_S S 21 rfl (Nat.le_of_ble_eq_true rfl) fun g5 _ S => ?_
    dsimp only [List.set] at S
    refine ifB_true rfl (ifB_true rfl ?_)
    obtain ⟨ov, eov⟩ : ∃ ov : Nat, gv.out = (ov : Int) := ⟨gv.out.toNat, by omega⟩
    obtain ⟨ov1, eov1⟩ : ∃ ov : Nat, g1.out = (ov : Int) := ⟨g1.out.toNat, by omega⟩
    rw [eov, eov1] at q1 q2 q3 q4
    have hov : ov ≤ gv.l := by omega
    have hov1 : ov1 ≤ g1.l := by omega
    have ldo : ∀ {g : Heap}, cellH g ⟨b6, 4, none⟩ = some (.int .i64 gv.out) → cellH g ⟨b6, 4, none⟩ = some (.int .i64 (ov : Int)) := fun h => by rw [← eov]; exact h
    have ldo1 : ∀ {g : Heap}, cellH g ⟨b13, 4, none⟩ = some (.int .i64 g1.out) → cellH g ⟨b13, 4, none⟩ = some (.int .i64 (ov1 : Int)) := fun h => by rw [← eov1]; exact h
    have lR : r.xs.length = r.l := rok.1
    have lenR : r.l = gv.l + 1 := by rw [← lR, hr]; simp [hgn]
    have lW : w.xs.length = w.l := wok.1
    have lenW : w.l = gv.l + 1 := by rw [← lW, hw]; simp [hgn]
    have lR2 : r2.xs.length = r2.l := rok2.1
    have lenR2 : r2.l = g1.l + 1 := by rw [← lR2, hr2]; simp [hgn1]
    have lW2 : w2.xs.length = w2.l := wok2.1
    have lenW2 : w2.l = g1.l + 1 := by rw [← lW2, hw2]; simp [hgn1]
    have rr : Row g5 r.p (ints r.xs) := S.w 9 _ rfl
    have rr2 : Row g5 r2.p (ints r2.xs) := S.w 13 _ rfl
    have rw1 : Row g5 w.p (ints w.xs) := S.w 8 _ rfl
    have rw2 : Row g5 w2.p (ints w2.xs) := S.w 12 _ rfl
    obtain ⟨ra, era⟩ := rr.some_of (by rw [ints_length]; omega)
    obtain ⟨ra2, era2⟩ := rr2.some_of (by rw [ints_length]; omega)
    obtain ⟨wa, ewa⟩ := rw1.some_of (by rw [ints_length]; omega)
    obtain ⟨wa2, ewa2⟩ := rw2.some_of (by rw [ints_length]; omega)
    rw [hr, hgn] at rr
    rw [hr2, hgn1] at rr2
    rw [hw, hgn] at rw1
    rw [hw2, hgn1] at rw2
    refine ldSlice_i (p := r.p) (l := r.l) (c := r.c) (S.cell 10 rfl rfl) (ldInt_i (ldo (S.cell 2 rfl rfl)) (idxI_i era (k := ov) rfl (by omega) ?_))
    simp only [Int.toNat_natCast, Nat.mul_one]
    refine ldInt_i (val_cell rr era hov) ?_
    refine ldSlice_i (p := r2.p) (l := r2.l) (c := r2.c) (S.cell 14 rfl rfl) (ldInt_i (ldo1 (S.cell 6 rfl rfl)) (idxI_i era2 (k := ov1) rfl (by omega) ?_))
    simp only [Int.toNat_natCast]
    refine ldInt_i (val_cell rr2 era2 hov1) (ifB_true (by rw [q2]; exact beq_self_eq_true _) ?_)
    refine ldSlice_i (p := w.p) (l := w.l) (c := w.c) (S.cell 10 rfl rfl) (ldInt_i (ldo (S.cell 2 rfl rfl)) (idxI_i ewa (k := ov) rfl (by omega) ?_))
    simp only [Int.toNat_natCast]
    refine ldInt_i (val_cell rw1 ewa hov) ?_
    refine ldSlice_i (p := w2.p) (l := w2.l) (c := w2.c) (S.cell 14 rfl rfl) (ldInt_i (ldo1 (S.cell 6 rfl rfl)) (idxI_i ewa2 (k := ov1) rfl (by omega) ?_))
    simp only [Int.toNat_natCast]
    refine ldInt_i (val_cell rw2 ewa2 hov1) (ifB_true (by rw [q1]; exact beq_self_eq_true _) ?_)
    refine ldSlice_i (p := some ⟨L2, 0, none⟩) (l := gv.l + 1) (c := gv.l + 1) (S.cell 18 rfl rfl) (ldInt_i (ldo (S.cell 2 rfl rfl)) (idxI_i rfl (k := ov) rfl (by omega) ?_))
    simp only [Int.toNat_natCast]
    refine ldInt_i (val_cell (V := Hi) (Row.of_at (S.at 17 rfl)) rfl hov) ?_
    refine ldSlice_i (p := some ⟨M2, 0, none⟩) (l := g1.l + 1) (c := g1.l + 1) (S.cell 21 rfl rfl) (ldInt_i (ldo1 (S.cell 6 rfl rfl)) (idxI_i rfl (k := ov1) rfl (by omega) ?_))
    simp only [Int.toNat_natCast]
    refine ldInt_i (val_cell (V := Hi1) (Row.of_at (S.at 20 rfl)) rfl hov1) (ifB_true (by rw [q4]; exact beq_self_eq_true _) ?_)
    refine ldSlice_i (p := some ⟨L1, 0, none⟩) (l := gv.l + 1) (c := gv.l + 1) (S.cell 18 rfl rfl) (ldInt_i (ldo (S.cell 2 rfl rfl)) (idxI_i rfl (k := ov) rfl (by omega) ?_))
    simp only [Int.toNat_natCast]
    refine ldInt_i (val_cell (V := Lo) (Row.of_at (S.at 16 rfl)) rfl hov) ?_
    refine ldSlice_i (p := some ⟨M1, 0, none⟩) (l := g1.l + 1) (c := g1.l + 1) (S.cell 21 rfl rfl) (ldInt_i (ldo1 (S.cell 6 rfl rfl)) (idxI_i rfl (k := ov1) rfl (by omega) ?_))
    simp only [Int.toNat_natCast]
    refine ldInt_i (val_cell (V := Lo1) (Row.of_at (S.at 19 rfl)) rfl hov1) (ifB_true (by rw [q3]; exact beq_self_eq_true _) ?_)
    refine ldInt_i (n := (((g1.gr.nodes.map Nd.cost).sum : Nat) : Int)) (S.cell 21 rfl rfl) (ldInt_i (n := (((gv.gr.nodes.map Nd.cost).sum : Nat) : Int)) (S.cell 18 rfl rfl) ?_)
    exact ⟨by rw [decide_eq_true (by omega)], S.fra⟩
end

theorem FuseGood_ok {h : Heap} (hT : KT h) {p : Option Addr} {l c : Nat} {L : List Int} (hx : Row h p (ints L)) (hL : L.length = l) (hlc : l ≤ c) (hl : l < 2 ^ 62) (more : Int) :
    callP P n_law21_FuseGood #[.slice p l c, .int .i64 more] h fun v h' => v = .bool true ∧ Fra no h h' := by
  refine call_law21_FuseGood _ _ _ _ ?_
  unfold law21_FuseGood
  have S := ((Sep.start h no).read (row p (ints L)) hx).read (blk 0 (ints kindTab)) hT
  refine (awake21_ok (S.r 1 _ rfl)).mono ?_
  rintro _ h1 ⟨rfl, F⟩
  replace S := S.fra0 F
  refine ⟨_, rfl, ?_⟩
  refine (Made21_S (S.row 0 rfl) hL hlc hl more).mono ?_
  rintro _ h2 ⟨gv, rfl, ok, mg, hl10, sz, S1⟩
  replace S := S.add S1 fun _ _ h => h
  dsimp only [List.cons_append, List.nil_append] at S
  refine exS_i gv.t ⟨rfl, ?_⟩
  obtain ⟨W0, R0, pos0, rt0⟩ := mg.right
  have e0 : gv.gr.look.e = 0 := by rw [rt0.look]
  obtain ⟨W, R, rt⟩ := look_right e0
  obtain ⟨Lo, Hi, rc⟩ := reach_ex rt.ordered R
  obtain ⟨φ, pos1, rt1, rc1, q1, q2, q3, q4, hφ, hc, hlv, hdone, hlen⟩ := fuse_good rt rc
  have hgn : gv.gr.nodes.length = gv.l := by rw [← ok.1]; simp [Gv.gr]
  have n12 := (first_ok rt.first).2.1
  have hs : ∀ n ∈ gv.ns, n.inn.l < 2 ^ 40 ∧ n.weights.l < 2 ^ 40 ∧ n.bias.l < 2 ^ 40 := fun n hn => by have := sz n hn; omega
  have hs2 : ∀ n ∈ gv.ns, n.inn.l < 2 ^ 40 ∧ n.weights.l < 2 ^ 62 ∧ n.bias.l < 2 ^ 62 := fun n hn => by have := sz n hn; omega
  have inn12 : ∀ {g : Gv}, g.ok → g.gr.look.e = 0 → ∀ n ∈ g.ns, n.inn.l ≤ 12 := fun {g} gok ge n hn => by
    have rk := (look_inv ge).1
    have h1 := (gok.2.2 n hn).1.1
    obtain ⟨i, en⟩ := List.mem_iff_getElem?.1 hn
    have := (rk i n.nd (by show (g.ns.map Nv.nd)[i]? = _; rw [List.getElem?_map, en]; rfl)).1
    have e : n.nd.inn = n.inn.xs := rfl
    rw [e] at this
    omega
  have hs3 : ∀ n ∈ gv.ns, n.inn.l < 2 ^ 20 ∧ n.weights.l < 2 ^ 40 ∧ n.bias.l < 2 ^ 40 := fun n hn => by have := sz n hn; have := inn12 ok e0 n hn; omega
  have hb : ∀ x, 0 ≤ x → x ≤ (gv.l : Int) → (-2 ^ 40 ≤ Lo x ∧ Lo x ≤ 2 ^ 40) ∧ (-2 ^ 40 ≤ Hi x ∧ Hi x ≤ 2 ^ 40) ∧ (0 ≤ R x ∧ R x ≤ 2 ^ 30) := fun x h0 h1 => by
    have hp := posG_le gv.gr.nodes x
    have b1 := right_rate rt _ x rfl h0 (by omega)
    have b2 := right_reach rt rc _ x rfl h0 (by omega)
    have b3 : (4 : Int) ^ posG gv.gr.nodes x ≤ 4 ^ 12 := pow4_le (by omega)
    omega
  refine newI_S (cs := mkS' grSh (zT grSh)) S fun b6 h3 _ S => ?_
  dsimp only [List.cons_append, List.nil_append] at S
  refine stL_S S 2 rfl rfl (mkS_one rfl) fun h4 _ S => ?_
  dsimp only [List.set] at S
  refine ldAg_S S 2 rfl (x := gv.t) rfl ?_
  refine (Fuse_ok sorted_spec ok (S.own 0 rfl).row (S.w 1 _ rfl) (by omega) hs (S.r 1 _ rfl)).mono ?_
  rintro _ h5 ⟨g1, rfl, eg, ok1, S1⟩
  replace S := S.add S1 fun _ _ h => h
  dsimp only [List.cons_append, List.nil_append] at S
  refine exS_i g1.t ⟨rfl, ?_⟩
  rw [← eg] at rt1 rc1 q1 q2 q3 q4 hφ hc hlv hdone hlen
  have e1 : g1.gr.look.e = 0 := by rw [rt1.look]
  have hgn1 : g1.gr.nodes.length = g1.l := by rw [← ok1.1]; simp [Gv.gr]
  have hB : ∀ n ∈ gv.gr.nodes, n.inn.length < 2 ^ 40 ∧ n.weights.length < 2 ^ 40 ∧ n.bias.length < 2 ^ 40 := fun n hn => by
    obtain ⟨m, hm, rfl⟩ := List.mem_map.1 hn
    have := hs m hm
    have ok := ok.2.2 m hm
    have q1 : m.nd.inn.length = m.inn.l := ok.1.1
    have q2 : m.nd.weights.length = m.weights.l := ok.2.1.1
    have q3 : m.nd.bias.length = m.bias.l := ok.2.2.1
    omega
  have sm := kin_small hB ok1 eg
  have sm2 : ∀ n ∈ g1.ns, n.inn.l < 2 ^ 40 ∧ n.weights.l < 2 ^ 62 ∧ n.bias.l < 2 ^ 62 := fun n hn => by have := sm n hn; omega
  have sm3 : ∀ n ∈ g1.ns, n.inn.l < 2 ^ 20 ∧ n.weights.l < 2 ^ 40 ∧ n.bias.l < 2 ^ 40 := fun n hn => by have := sm n hn; have := inn12 ok1 e1 n hn; omega
  have hl1 : g1.l ≤ gv.l := by omega
  have hb1 : ∀ x, 0 ≤ x → x ≤ (g1.l : Int) → (-2 ^ 40 ≤ (Lo ∘ φ) x ∧ (Lo ∘ φ) x ≤ 2 ^ 40) ∧ (-2 ^ 40 ≤ (Hi ∘ φ) x ∧ (Hi ∘ φ) x ≤ 2 ^ 40) ∧ (0 ≤ (R ∘ φ) x ∧ (R ∘ φ) x ≤ 2 ^ 30) := fun x h0 h1 => by
    have := hφ x h0 (by omega)
    exact hb (φ x) this.1 (by omega)
  refine newI_S (cs := mkS' grSh (zT grSh)) S fun b13 h6 _ S => ?_
  dsimp only [List.cons_append, List.nil_append] at S
  refine stL_S S 6 rfl rfl (mkS_one rfl) fun h7 _ S => ?_
  dsimp only [List.set] at S
  refine ldAg_S S 2 rfl (x := gv.t) rfl ?_
  refine (Look16_ok ok (S.own 0 rfl).row (S.w 1 _ rfl) (by omega) hs2).mono ?_
  rintro _ h8 ⟨o, w, r, rfl, ho, hw, hr, ook, wok, rok, S1⟩
  rw [rt.look] at ho hw hr
  rw [e0]
  replace S := S.add S1 fun _ _ h => h
  dsimp only [List.cons_append, List.nil_append] at S
  refine ⟨_, _, _, _, _, _, _, _, _, _, rfl, ?_⟩
  refine newI_S (cs := [.slice none 0 0, .slice none 0 0, .slice none 0 0, .int .i64 0]) S fun b23 _ _ S => ?_
  dsimp only [List.cons_append, List.nil_append] at S
  refine stI_S S 10 rfl (Nat.le_of_ble_eq_true rfl) fun _ _ S => ?_
  dsimp only [List.set] at S
  refine stI_S S 10 rfl (Nat.le_of_ble_eq_true rfl) fun _ _ S => ?_
  dsimp only [List.set] at S
  refine stI_S S 10 rfl (Nat.le_of_ble_eq_true rfl) fun _ _ S => ?_
  dsimp only [List.set] at S
  refine stI_S S 10 rfl (Nat.le_of_ble_eq_true rfl) fun h9 _ S => ?_
  dsimp only [List.set] at S
  refine ldAg_S S 6 rfl (x := g1.t) rfl ?_
  refine (Look16_ok ok1 (S.own 3 rfl).row (nrowsO (S.w 4 _ rfl) (S.w 5 _ rfl)) (by omega) sm2).mono ?_
  rintro _ h10 ⟨o2, w2, r2, rfl, ho2, hw2, hr2, ook2, wok2, rok2, S1⟩
  rw [rt1.look] at ho2 hw2 hr2
  rw [e1]
  replace S := S.add S1 fun _ _ h => h
  dsimp only [List.cons_append, List.nil_append] at S
  refine ⟨_, _, _, _, _, _, _, _, _, _, rfl, ?_⟩
  refine newI_S (cs := [.slice none 0 0, .slice none 0 0, .slice none 0 0, .int .i64 0]) S fun b36 _ _ S => ?_
  dsimp only [List.cons_append, List.nil_append] at S
  refine stI_S S 14 rfl (Nat.le_of_ble_eq_true rfl) fun _ _ S => ?_
  dsimp only [List.set] at S
  refine stI_S S 14 rfl (Nat.le_of_ble_eq_true rfl) fun _ _ S => ?_
  dsimp only [List.set] at S
  refine stI_S S 14 rfl (Nat.le_of_ble_eq_true rfl) fun _ _ S => ?_
  dsimp only [List.set] at S
  refine stI_S S 14 rfl (Nat.le_of_ble_eq_true rfl) fun h11 _ S => ?_
  dsimp only [List.set] at S
  refine ⟨fun s g => s = (true, ⟨b6, 0, none⟩, ⟨b13, 0, none⟩, ⟨b23, 0, none⟩, ⟨b36, 0, none⟩, ()) ∧ Sep h no g (FG gv g1 b6 b13 b23 b36 o w r o2 w2 r2) [row p (ints L), blk 0 (ints kindTab)], ?_, ?_⟩
  · clear S S1
    rintro s g ⟨rfl, S⟩
    unfold law21_FuseGood_j8
    simp only [add_mk, Nat.zero_add]
    refine ldAg_S S 6 rfl (x := g1.t) rfl ?_
    refine ldAg_S S 6 rfl (x := g1.t) rfl ?_
    refine (Fuse_ok sorted_spec ok1 (S.own 3 rfl).row (nrowsO (S.w 4 _ rfl) (S.w 5 _ rfl)) (by omega) sm (S.r 1 _ rfl)).mono ?_
    rintro _ h12 ⟨g2, rfl, eg2, ok2, S1⟩
    have S2 := S.add S1 fun _ _ h => h
    dsimp only [List.cons_append, List.nil_append] at S2
    refine exS_i g2.t ⟨rfl, holdW_S S2 6 rfl rfl ?_⟩
    have eg3 : g2.gr = g1.gr := eg2.trans hdone
    have hgn2 : g2.gr.nodes.length = g2.l := by rw [← ok2.1]; simp [Gv.gr]
    have e2 : g2.gr.look.e = 0 := by rw [eg3]; exact e1
    have hB2 : ∀ n ∈ g1.gr.nodes, n.inn.length < 2 ^ 40 ∧ n.weights.length < 2 ^ 40 ∧ n.bias.length < 2 ^ 40 := fun n hn => by
      obtain ⟨m, hm, rfl⟩ := List.mem_map.1 hn
      have := sm m hm
      have ok := ok1.2.2 m hm
      have q1 : m.nd.inn.length = m.inn.l := ok.1.1
      have q2 : m.nd.weights.length = m.weights.l := ok.2.1.1
      have q3 : m.nd.bias.length = m.bias.l := ok.2.2.1
      omega
    have smm := kin_small hB2 ok2 eg2
    refine (Same15_ok ok2 ok1 (S2.own 15 rfl).row (nrowsO (S2.w 16 _ rfl) (S2.w 17 _ rfl)) (S2.own 3 rfl).row (nrowsO (S2.w 4 _ rfl) (S2.w 5 _ rfl)) (by rw [← hgn2, eg3]; omega) (fun n hn => by have := smm n hn; exact ⟨by omega, by omega, by omega⟩)).mono ?_
    rintro _ h13 ⟨b, rfl, hbb, F⟩
    replace S := (S.fra0 S1.fra).fra0 F
    have hbt : b = true := hbb.2 eg3
    subst hbt
    refine ⟨_, rfl, holdW_S S 6 rfl rfl ?_⟩
    refine ldAg_S S 6 rfl (x := g1.t) rfl ?_
    refine (LivP_ok sorted_spec ok1 (S.own 3 rfl).row (nrowsO (S.w 4 _ rfl) (S.w 5 _ rfl)) (by omega) sm2 (S.r 1 _ rfl)).mono ?_
    rintro _ h14 ⟨p53, l53, c53, rfl, hl53, S1⟩
    replace S := S.add S1 fun _ _ h => h
    rw [if_pos e1, hgn1] at hl53 S
    rw [boolsM_length] at hl53
    subst hl53
    have I1 := look_finv e1
    have hall : ∀ i, 1 ≤ i → i ≤ g1.l → (boolsM g1.l (liveM g1.gr.nodes g1.gr.out))[i]? = some true := fun i h1 h2 => by
      rw [boolsM_get h2]
      congr 1
      refine (I1.lv _).2 ?_
      have := hlv (i - 1) (by omega)
      rw [show ((i - 1 : Nat) : Int) + 1 = (i : Int) by omega] at this
      exact this
    generalize hXX : boolsM g1.l (liveM g1.gr.nodes g1.gr.out) = X at S hall
    have hXl : X.length = g1.l + 1 := by rw [← hXX, boolsM_length]
    refine ⟨_, _, _, rfl, ?_⟩
    refine ldSlice_i (p := g1.p) (l := g1.l) (c := g1.c) (S.cell 6 rfl rfl) ?_
    have ew : IntKind.wrap .i64 ((g1.l : Int) + 1) = ((g1.l + 1 : Nat) : Int) := by rw [wrap64_in (by omega)]; omega
    rw [ew]
    refine ifB_false (by simp) ?_
    exact good_end ok ok1 hs3 sm3 rt rc rt1 rc1 hb hb1 hw hr wok rok hw2 hr2 wok2 rok2 q1 q2 q3 q4 hc hXl hall S
  · refine ldInt_i (n := 0) (S.cell 14 rfl rfl) (ifB_false (by decide) ?_)
    refine ldSlice_i (p := g1.p) (l := g1.l) (c := g1.c) (S.cell 6 rfl rfl) (ldSlice_i (p := gv.p) (l := gv.l) (c := gv.c) (S.cell 2 rfl rfl) ?_)
    exact ifB_false (decide_eq_false (by omega)) ⟨by trivial, S⟩
end Go.Proofs.YtbgplllcjhgdhaaDoor.G
