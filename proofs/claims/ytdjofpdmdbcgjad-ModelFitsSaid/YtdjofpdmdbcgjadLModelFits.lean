/- The law ModelFits, over heaps. -/
import Derived.Test.YtdjofpdmdbcgjadCLaw15
import Derived.Test.YtdjofpdmdbcgjadShA
namespace Go.Proofs.Ytdjofpdmdbcgjad.G
open Go Go.Sh
set_option linter.unusedVariables false
set_option linter.unusedSimpArgs false

theorem nflat_set {ns : List Nv} {k : Nat} {nv : Nv} (hk : k < ns.length) : nflat (ns.set k nv) = (nflat ns).take (k * 15) ++ mkS' ndSh nv.t ++ (nflat ns).drop (k * 15 + (mkS' ndSh nv.t).length) := by
  have e1 : ns = ns.take k ++ ([ns[k]] ++ ns.drop (k + 1)) := by
    rw [← List.append_assoc, ← List.take_succ_eq_append_getElem hk, List.take_append_drop]
  have hl : (nflat (ns.take k)).length = k * 15 := by rw [nflat_length, List.length_take, Nat.min_eq_left (by omega)]
  have h1 : (nflat [ns[k]]).length = 15 := by rw [nflat_length]; rfl
  have e2 : nflat ns = nflat (ns.take k) ++ (nflat [ns[k]] ++ nflat (ns.drop (k + 1))) := by
    conv => lhs; rw [e1, nflat_append, nflat_append]
  have e3 : ns.set k nv = ns.take k ++ ([nv] ++ ns.drop (k + 1)) := by
    rw [List.set_eq_take_append_cons_drop, if_pos hk]; rfl
  have e4 : (mkS' ndSh nv.t).length = 15 := rfl
  have e5 : nflat [nv] = mkS' ndSh nv.t := by simp [nflat, Nv.cells]
  rw [e3, nflat_append, nflat_append, e4, e2, List.append_assoc]
  congr 1
  · rw [← hl, List.take_left']
    rfl
  · rw [e5]
    congr 1
    have : k * 15 + 15 = (nflat (ns.take k) ++ nflat [ns[k]]).length := by rw [List.length_append, hl, h1]
    rw [this, ← List.append_assoc, List.drop_left']
    rfl

theorem ints_set (xs : List Int) (i : Nat) (x : Int) : (ints xs).set i (.int .i64 x) = ints (xs.set i x) := by simp [ints, List.map_set]

section
variable {h : Heap} {p : Option Addr} {l c : Nat} {L : List Int}

theorem fits_j36 {g : Heap} {R : List Fact} {gv : Gv} {nv : Nv} {k b8 b18 : Nat} {w lo o : Int} {X : Fact} (ok : gv.ok) (hs : gv.gr.short) (hk : k < gv.ns.length) (hnv : nv.ok) (hsh : nv.nd.short) (hX : ∀ g, (nrows gv.ns).P g → X.P g → nv.rows.P g)
    (S : Sep h no g [own 15 gv.p gv.l gv.c (nflat gv.ns), nrows gv.ns, blk b8 ({gv with width := w, low := lo, out := o} : Gv).cells, blk b18 nv.cells, X] R) :
    law15_ModelFits_j36 (fun v h' => v = .bool true ∧ Fra no h h') true ⟨b8, 0, none⟩ (k : Int) ⟨b18, 0, none⟩ g := by
  unfold law15_ModelFits_j36
  simp only [add_mk, Nat.zero_add]
  have hgl := ok.1
  refine ldSlice_i (p := gv.p) (l := gv.l) (c := gv.c) (S.cell 2 rfl rfl) ?_
  refine ldAg_S S 3 rfl (x := nv.t) rfl ?_
  obtain ⟨a, ea⟩ := (S.own 0 rfl).row.some_of (by rw [nflat_length]; omega)
  refine idxI_i ea rfl (by omega) ?_
  simp only [Int.toNat_natCast]
  refine stLO_S S 0 (by rw [← ea]; rfl) (by rw [nflat_length]; show k * 15 + 15 ≤ _; omega) (mkS_one rfl) fun g1 _ S => ?_
  rw [← nflat_set hk, ← ea] at S
  dsimp only [List.set] at S
  refine ldAg_S S 2 rfl (x := ({gv with width := w, low := lo, out := o} : Gv).t) rfl ?_
  have hr : ∀ g, (nrows gv.ns).P g → X.P g → (nrows (gv.ns.set k nv)).P g := by
    intro g h1 h2 f hf
    obtain ⟨n, hn, rfl⟩ := List.mem_map.1 hf
    rcases List.mem_or_eq_of_mem_set hn with hn | rfl
    · exact h1 _ (List.mem_map_of_mem hn)
    · exact hX _ h1 h2
  have hok : ({gv with width := w, low := lo, out := o, ns := gv.ns.set k nv} : Gv).ok := by
    refine ⟨by rw [← ok.1]; exact List.length_set, ok.2.1, fun n hn => ?_⟩
    rcases List.mem_or_eq_of_mem_set hn with hn | rfl
    · exact ok.2.2 _ hn
    · exact hnv
  have hss : ({gv with width := w, low := lo, out := o, ns := gv.ns.set k nv} : Gv).gr.short := by
    have h1 := hs.1
    refine ⟨?_, fun n hn => ?_⟩
    · simp only [Gv.gr, List.length_map, List.length_set] at h1 ⊢; exact h1
    · obtain ⟨n', hn', rfl⟩ := List.mem_map.1 hn
      rcases List.mem_or_eq_of_mem_set hn' with hn' | rfl
      · exact hs.2 _ (List.mem_map_of_mem hn')
      · exact hsh
  refine (Encode_S (g := {gv with width := w, low := lo, out := o, ns := gv.ns.set k nv}) (S.own 0 rfl).row (hr _ (S.w 1 _ rfl) (S.w 4 _ rfl)) hok hss).mono ?_
  rintro _ g2 ⟨rfl, F⟩
  replace S := S.fra0 F
  refine ⟨_, _, rfl, ?_⟩
  refine ldAg_S S 2 rfl (x := ({gv with width := w, low := lo, out := o} : Gv).t) rfl ?_
  refine (REncode_S (g := {gv with width := w, low := lo, out := o, ns := gv.ns.set k nv}) (S.own 0 rfl).row (hr _ (S.w 1 _ rfl) (S.w 4 _ rfl)) hok hss).mono ?_
  rintro _ g3 ⟨rfl, F⟩
  replace S := S.fra0 F
  refine ⟨_, _, rfl, ?_⟩
  refine ifB_true rfl (ifB_true (by simp) (ifB_true (by simp) ⟨?_, S.fra⟩))
  generalize ({gv with width := w, low := lo, out := o, ns := gv.ns.set k nv} : Gv).gr = G
  rw [show ByteArray.mk #[] = str [] from rfl, toList_beq]
  unfold Gr.out2
  by_cases hf : G.fit
  · rw [if_pos hf]; simp [magic]
  · rw [if_neg hf]; simp

theorem ModelFits_ok (q0 q1 x : Int) (hx : Row h p (ints L)) (hL : L.length = l) (hlc : l ≤ c) (hl : l < 2 ^ 62) :
    callP P n_law15_ModelFits #[.slice p l c, .agg #[.int .i64 q0, .int .i64 q1], .int .i64 x] h fun v h' => v = .bool true ∧ Fra no h h' := by
  refine call_law15_ModelFits _ _ _ _ _ _ ?_
  unfold law15_ModelFits
  have S := (Sep.start h no).read (row p (ints L)) hx
  refine newI_S S (fun b1 _ _ S => ?_)
  dsimp only [List.cons_append, List.nil_append] at S
  refine (awake15_ok).mono ?_
  rintro _ _ ⟨rfl, F⟩
  refine ⟨_, rfl, ?_⟩
  replace S := S.fra0 F
  refine (Made15_S (S.r 0 _ rfl) hL hlc hl).mono ?_
  rintro _ g1 ⟨gv, rfl, ok, hm, hsl, S1⟩
  replace S := S.add S1 fun _ _ h => h
  refine exS_i gv.t ⟨rfl, ?_⟩
  obtain ⟨hf, hs, hn1, hn6, hin, hwd⟩ := hm.fits
  dsimp only [List.cons_append, List.nil_append] at S
  have hgl := ok.1
  have hgn : gv.gr.nodes.length = gv.ns.length := by simp [Gv.gr]
  refine newI_S S fun b8 g2 _ S => ?_
  dsimp only [List.cons_append, List.nil_append] at S
  refine stL_S S 3 rfl rfl (mkS_one rfl) fun g3 _ S => ?_
  dsimp only [List.set] at S
  refine arrI_i (by decide) (by decide) ?_
  simp only [add_mk, Nat.zero_add]
  refine ldInt_i (n := q0) (S.cell 0 rfl rfl) ?_
  refine ldSlice_i (p := gv.p) (l := gv.l) (c := gv.c) (S.cell 3 rfl rfl) ⟨by omega, ?_⟩
  refine ldSlice_i (p := gv.p) (l := gv.l) (c := gv.c) (S.cell 3 rfl rfl) ?_
  refine ldSlice_i (p := gv.p) (l := gv.l) (c := gv.c) (S.cell 3 rfl rfl) ⟨by omega, ?_⟩
  refine ldSlice_i (p := gv.p) (l := gv.l) (c := gv.c) (S.cell 3 rfl rfl) ?_
  obtain ⟨k, ek, hk⟩ := tmod_range q0 (n := gv.l) (by omega) (by omega)
  rw [ek]
  obtain ⟨a, ea⟩ := (S.own 1 rfl).row.some_of (by rw [nflat_length]; omega)
  refine idxI_i ea rfl hk ?_
  simp only [Int.toNat_natCast]
  have hk' : k < gv.ns.length := by omega
  obtain ⟨nv, env⟩ : ∃ nv, gv.ns[k]? = some nv := ⟨_, List.getElem?_eq_getElem hk'⟩
  have hmem : nv ∈ gv.ns := List.mem_of_getElem? env
  have hndm : nv.nd ∈ gv.gr.nodes := List.mem_map_of_mem hmem
  have hno := ok.2.2 _ hmem
  have hnf := hf.2.2.2.1 _ hndm
  have hnsh := hs.2 _ hndm
  have hni := hin _ hndm
  have hrow : Row g3 (some a) (nflat gv.ns) := by rw [← ea]; exact (S.own 1 rfl).row
  refine ldNode hrow env ?_
  refine newI_S S fun b18 g4 _ S => ?_
  dsimp only [List.cons_append, List.nil_append] at S
  refine stL_S S 4 rfl rfl (mkS_one rfl) fun g5 _ S => ?_
  dsimp only [List.set] at S
  have hnr : ∀ g, (nrows gv.ns).P g → nv.rows.P g := fun g hh => hh _ (List.mem_map_of_mem hmem)
  refine ⟨fun s g => ∃ (nv' : Nv) (w lo o : Int) (X : Fact), s = (true, ⟨b8, 0, none⟩, (k : Int), ⟨b18, 0, none⟩, ()) ∧ nv'.ok ∧ nv'.nd.short ∧ (∀ g, (nrows gv.ns).P g → X.P g → nv'.rows.P g) ∧
    Sep h no g [own 15 gv.p gv.l gv.c (nflat gv.ns), nrows gv.ns, blk b8 ({gv with width := w, low := lo, out := o} : Gv).cells, blk b18 nv'.cells, X] [row p (ints L)], ?_, ?_⟩
  · rintro s g ⟨nv', w, lo, o, X, rfl, h1, h2, h3, S⟩
    exact fits_j36 ok hs hk' h1 h2 h3 S
  refine arrI_i (by decide) (by decide) ?_
  refine ldInt_i (n := q1) (S.cell 0 rfl rfl) ?_
  have irow : Row g5 nv.inn.p (ints nv.inn.xs) := hnr _ (S.w 2 _ rfl) nv.inn.row (by simp)
  have wrow : Row g5 nv.weights.p (ints nv.weights.xs) := hnr _ (S.w 2 _ rfl) nv.weights.row (by simp)
  unfold Nd.short at hnsh
  have hsi : nv.inn.xs.length ≤ 2 ^ 20 := hnsh.1
  have hsw : nv.weights.xs.length ≤ 65535 := hnf.2.2.2.1.1
  have oki := hno.1
  have okw := hno.2.1
  have okb := hno.2.2
  have hi1 : 1 ≤ nv.inn.xs.length := hni
  unfold Sl.ok at oki okw okb
  refine ifB_beq (fun _ => ?_) (fun _ => ?_)
  · refine stI_S S 4 rfl (Nat.le_of_ble_eq_true rfl) fun g6 _ S => ?_
    exact ⟨{nv with kind := x}, gv.width, gv.low, gv.out, _, rfl, hno, hnsh, fun g hh _ => hnr g hh, S.pw [1, 2, 3, 4, 0]⟩
  refine ifB_beq (fun _ => ?_) (fun _ => ?_)
  · refine stI_S S 4 rfl (Nat.le_of_ble_eq_true rfl) fun g6 _ S => ?_
    exact ⟨{nv with width := x}, gv.width, gv.low, gv.out, _, rfl, hno, hnsh, fun g hh _ => hnr g hh, S.pw [1, 2, 3, 4, 0]⟩
  refine ifB_beq (fun _ => ?_) (fun _ => ?_)
  · refine stI_S S 4 rfl (Nat.le_of_ble_eq_true rfl) fun g6 _ S => ?_
    exact ⟨{nv with size := x}, gv.width, gv.low, gv.out, _, rfl, hno, hnsh, fun g hh _ => hnr g hh, S.pw [1, 2, 3, 4, 0]⟩
  refine ifB_beq (fun _ => ?_) (fun _ => ?_)
  · refine stI_S S 4 rfl (Nat.le_of_ble_eq_true rfl) fun g6 _ S => ?_
    exact ⟨{nv with right := x}, gv.width, gv.low, gv.out, _, rfl, hno, hnsh, fun g hh _ => hnr g hh, S.pw [1, 2, 3, 4, 0]⟩
  refine ifB_beq (fun _ => ?_) (fun _ => ?_)
  · refine stI_S S 4 rfl (Nat.le_of_ble_eq_true rfl) fun g6 _ S => ?_
    exact ⟨{nv with mult := x}, gv.width, gv.low, gv.out, _, rfl, hno, hnsh, fun g hh _ => hnr g hh, S.pw [1, 2, 3, 4, 0]⟩
  refine ifB_beq (fun _ => ?_) (fun _ => ?_)
  · refine stI_S S 4 rfl (Nat.le_of_ble_eq_true rfl) fun g6 _ S => ?_
    exact ⟨{nv with shift := x}, gv.width, gv.low, gv.out, _, rfl, hno, hnsh, fun g hh _ => hnr g hh, S.pw [1, 2, 3, 4, 0]⟩
  refine ifB_beq (fun _ => ?_) (fun _ => ?_)
  · refine stI_S S 4 rfl (Nat.le_of_ble_eq_true rfl) fun g6 _ S => ?_
    exact ⟨{nv with low := x}, gv.width, gv.low, gv.out, _, rfl, hno, hnsh, fun g hh _ => hnr g hh, S.pw [1, 2, 3, 4, 0]⟩
  refine ifB_beq (fun _ => ?_) (fun _ => ?_)
  · refine stI_S S 4 rfl (Nat.le_of_ble_eq_true rfl) fun g6 _ S => ?_
    exact ⟨{nv with post := x}, gv.width, gv.low, gv.out, _, rfl, hno, hnsh, fun g hh _ => hnr g hh, S.pw [1, 2, 3, 4, 0]⟩
  refine ifB_beq (fun _ => ?_) (fun _ => ?_)
  · refine newI_S S (fun b46 _ _ S => ?_)
    dsimp only [List.cons_append, List.nil_append] at S
    refine ldSlice_i (p := nv.inn.p) (l := nv.inn.l) (c := nv.inn.c) (S.cell 4 rfl rfl) ?_
    replace S := S.toOwn 5 1 0 0 rfl (Nat.le_refl _)
    dsimp only [List.set, List.take] at S
    have irow : Row _ nv.inn.p (ints nv.inn.xs) := hnr _ (S.w 2 _ rfl) nv.inn.row (by simp)
    refine appI_S S 5 rfl rfl (by decide) (by omega) irow (by rw [ints_length]; omega) vals_one fun p' l' c' g7 el S => ?_
    dsimp only [List.set, List.nil_append] at S
    refine stI_S S 4 rfl (Nat.le_of_ble_eq_true rfl) fun g8 _ S => ?_
    dsimp only [List.set] at S
    refine ldSlice_i (p := p') (l := l') (c := c') (S.cell 4 rfl rfl) ?_
    obtain ⟨a', ea'⟩ := (S.own 5 rfl).row.some_of (by rw [ints_length]; omega)
    subst ea'
    refine idxI_i (k := 0) rfl rfl (by omega) ?_
    refine stO_S S 5 rfl (k := 0) (by rw [ints_length]; omega) fun g9 _ S => ?_
    dsimp only [List.set] at S
    rw [ints_set] at S
    have o := S.own 5 rfl
    refine ⟨{nv with inn := ⟨some a', l', c', nv.inn.xs.set 0 x⟩}, gv.width, gv.low, gv.out, _, rfl, ⟨⟨?_, o.2.1⟩, okw, okb⟩, ?_, fun g hh ho => ?_, S.pw [1, 2, 3, 4, 5]⟩
    · show (nv.inn.xs.set 0 x).length = l'; rw [List.length_set]; omega
    · exact ⟨by show (nv.inn.xs.set 0 x).length ≤ _; rw [List.length_set]; omega, hnsh.2⟩
    · intro f hf
      simp only [List.mem_cons, List.not_mem_nil, or_false] at hf
      rcases hf with rfl | rfl | rfl
      · exact Own.row ho
      · exact hnr g hh nv.weights.row (by simp)
      · exact hnr g hh nv.bias.row (by simp)
  refine ifB_beq (fun _ => ?_) (fun _ => ?_)
  · refine newI_S S (fun b55 _ _ S => ?_)
    dsimp only [List.cons_append, List.nil_append] at S
    refine ldSlice_i (p := nv.weights.p) (l := nv.weights.l) (c := nv.weights.c) (S.cell 4 rfl rfl) ?_
    replace S := S.toOwn 5 1 0 0 rfl (Nat.le_refl _)
    dsimp only [List.set, List.take] at S
    have wrow : Row _ nv.weights.p (ints nv.weights.xs) := hnr _ (S.w 2 _ rfl) nv.weights.row (by simp)
    refine appI_S S 5 rfl rfl (by decide) (by omega) wrow (by rw [ints_length]; omega) vals_one fun p' l' c' g7 el S => ?_
    dsimp only [List.set, List.nil_append] at S
    refine newI_S S (fun b60 _ _ S => ?_)
    dsimp only [List.cons_append, List.nil_append] at S
    refine appI_S S 5 rfl rfl (by decide) (by omega) (Row.of_at (S.at 6 rfl)) rfl (by simp [one1]) fun p2 l2 c2 g8 el2 S => ?_
    dsimp only [List.set] at S
    rw [show ints nv.weights.xs ++ [Value.int .i64 x] = ints (nv.weights.xs ++ [x]) by simp [ints]] at S
    refine stI_S S 4 rfl (Nat.le_of_ble_eq_true rfl) fun g9 _ S => ?_
    dsimp only [List.set] at S
    have o := S.own 5 rfl
    refine ⟨{nv with weights := ⟨p2, l2, c2, nv.weights.xs ++ [x]⟩}, gv.width, gv.low, gv.out, _, rfl, ⟨oki, ⟨?_, o.2.1⟩, okb⟩, ?_, fun g hh ho => ?_, S.pw [1, 2, 3, 4, 5]⟩
    · show (nv.weights.xs ++ [x]).length = l2; rw [List.length_append, List.length_singleton]; omega
    · exact ⟨hsi, by show (nv.weights.xs ++ [x]).length ≤ _; rw [List.length_append, List.length_singleton]; omega, hnsh.2.2⟩
    · intro f hf
      simp only [List.mem_cons, List.not_mem_nil, or_false] at hf
      rcases hf with rfl | rfl | rfl
      · exact hnr g hh nv.inn.row (by simp)
      · exact Own.row ho
      · exact hnr g hh nv.bias.row (by simp)
  refine ifB_beq (fun _ => ?_) (fun _ => ?_)
  · refine newI_S S (fun b65 _ _ S => ?_)
    dsimp only [List.cons_append, List.nil_append] at S
    refine stI_S S 4 rfl (Nat.le_of_ble_eq_true rfl) fun g9 _ S => ?_
    dsimp only [List.set] at S
    refine ⟨{nv with bias := ⟨some ⟨b65, 0, none⟩, 1, 1, [x]⟩}, gv.width, gv.low, gv.out, _, rfl, ⟨oki, okw, ⟨rfl, Nat.le_refl _⟩⟩, ⟨hsi, hnsh.2.1, (by show 1 ≤ 2 ^ 20; decide)⟩, fun g hh ho => ?_, S.pw [1, 2, 3, 4, 5]⟩
    intro f hf
    simp only [List.mem_cons, List.not_mem_nil, or_false] at hf
    rcases hf with rfl | rfl | rfl
    · exact hnr g hh nv.inn.row (by simp)
    · exact hnr g hh nv.weights.row (by simp)
    · exact Row.of_at ho
  refine ifB_beq (fun _ => ?_) (fun _ => ?_)
  · refine stI_S S 3 rfl (Nat.le_of_ble_eq_true rfl) fun g6 _ S => ?_
    exact ⟨nv, gv.width, gv.low, x, _, rfl, hno, hnsh, fun g hh _ => hnr g hh, S.pw [1, 2, 3, 4, 0]⟩
  refine ifB_beq (fun _ => ?_) (fun _ => ?_)
  · refine stI_S S 3 rfl (Nat.le_of_ble_eq_true rfl) fun g6 _ S => ?_
    exact ⟨nv, gv.width, x, gv.out, _, rfl, hno, hnsh, fun g hh _ => hnr g hh, S.pw [1, 2, 3, 4, 0]⟩
  refine ifB_beq (fun _ => ?_) (fun _ => ?_)
  · refine stI_S S 3 rfl (Nat.le_of_ble_eq_true rfl) fun g6 _ S => ?_
    exact ⟨nv, x, gv.low, gv.out, _, rfl, hno, hnsh, fun g hh _ => hnr g hh, S.pw [1, 2, 3, 4, 0]⟩
  have ean := andI_low x 511 9 rfl (by decide)
  obtain ⟨n, en, hn⟩ : ∃ n : Nat, andI .i64 x 511 = n ∧ n ≤ 511 := by
    refine ⟨(x % 512).toNat, ?_, by omega⟩
    have e5 : andI .i64 x 511 = x % 512 := ean
    rw [e5]; omega
  rw [en]
  refine mkI_S S n rfl rfl rfl (by decide) (by omega) (by omega) fun b71 g6 _ S => ?_
  dsimp only [List.cons_append, List.nil_append] at S
  rw [repl_one, show List.replicate n (Value.int .i64 0) = ints (List.replicate n 0) by simp [ints]] at S
  refine stI_S S 4 rfl (Nat.le_of_ble_eq_true rfl) fun g9 _ S => ?_
  dsimp only [List.set] at S
  refine ⟨{nv with inn := ⟨some ⟨b71, 0, none⟩, n, n, List.replicate n 0⟩}, gv.width, gv.low, gv.out, _, rfl, ⟨⟨by simp, Nat.le_refl _⟩, okw, okb⟩, ⟨by show (List.replicate n (0 : Int)).length ≤ _; rw [List.length_replicate]; omega, hnsh.2⟩, fun g hh ho => ?_, S.pw [1, 2, 3, 4, 5]⟩
  intro f hf
  simp only [List.mem_cons, List.not_mem_nil, or_false] at hf
  rcases hf with rfl | rfl | rfl
  · exact Row.of_at ho
  · exact hnr g hh nv.weights.row (by simp)
  · exact hnr g hh nv.bias.row (by simp)
end

end Go.Proofs.Ytdjofpdmdbcgjad.G
