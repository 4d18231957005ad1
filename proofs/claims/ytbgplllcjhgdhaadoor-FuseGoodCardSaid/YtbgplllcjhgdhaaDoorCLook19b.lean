/- Contracts: the document's reaches (earshotref19): Look. -/
import Derived.Test.YtbgplllcjhgdhaaDoorCLook19
namespace Go.Proofs.YtbgplllcjhgdhaaDoor.G
open Go Go.Sh
set_option linter.unusedVariables false
set_option linter.unusedSimpArgs false

theorem erase_sum (c : Int → Nat) : ∀ (B : List Int) (x : Int), x ∈ B → (B.map c).sum = c x + ((B.erase x).map c).sum
  | [], x, h => by simp at h
  | y :: r, x, h => by
    by_cases e : y = x
    · subst e
      rw [List.erase_cons_head, List.map_cons, List.sum_cons]
    · have hx : x ∈ r := by
        rcases List.mem_cons.1 h with h | h
        · exact absurd h.symm e
        · exact h
      rw [List.erase_cons_tail (by simpa using e), List.map_cons, List.map_cons, List.sum_cons, List.sum_cons, erase_sum c r x hx]
      omega
theorem sum_nodup (c : Int → Nat) : ∀ (l B : List Int), l.Nodup → (∀ x ∈ l, x ∈ B) → (l.map c).sum ≤ (B.map c).sum
  | [], _, _, _ => Nat.zero_le _
  | x :: r, B, hn, hs => by
    rw [List.nodup_cons] at hn
    have := sum_nodup c r (B.erase x) hn.2 fun y hy => by
      have hne : y ≠ x := fun e => hn.1 (e ▸ hy)
      exact (List.mem_erase_of_ne hne).2 (hs y (List.mem_cons_of_mem _ hy))
    rw [erase_sum c B x (hs x List.mem_cons_self), List.map_cons, List.sum_cons]
    omega
theorem ord_cost {ns : List Nd} (ho : (ordG ns).length = ns.length) : ((ordG ns).map (costX ns)).sum = (ns.map Nd.cost).sum := by
  have hnd : (ordG ns).Nodup := by
    have := ordK_nodup ns ns.length
    rw [ordK_cons] at this
    exact (List.nodup_cons.1 this).2
  have hB : ((List.range ns.length).map fun i : Nat => (i : Int) + 1).Nodup := by
    unfold List.Nodup
    rw [List.pairwise_map]
    exact List.nodup_range.imp fun h e => h (by omega)
  have h1 := sum_nodup (costX ns) (ordG ns) ((List.range ns.length).map fun i : Nat => (i : Int) + 1) hnd fun x hx => by
    have := ordK_mem ns ns.length x hx
    rw [List.mem_map]
    exact ⟨(x - 1).toNat, by rw [List.mem_range]; omega, by omega⟩
  have h2 := sum_nodup (costX ns) _ (ordG ns) hB fun x hx => by
    obtain ⟨i, hi, rfl⟩ := List.mem_map.1 hx
    rw [List.mem_range] at hi
    exact ordG_all ho (by omega) (by omega)
  have e : ((List.range ns.length).map fun i : Nat => (i : Int) + 1).map (costX ns) = ns.map Nd.cost := by
    rw [List.map_map]
    apply List.ext_getElem?
    intro i
    rw [List.getElem?_map, List.getElem?_map]
    by_cases hi : i < ns.length
    · rw [List.getElem?_range hi, List.getElem?_eq_getElem hi]
      simp only [Option.map_some, Function.comp_apply]
      rw [costX_at (List.getElem?_eq_getElem hi)]
    · rw [List.getElem?_eq_none (by rw [List.length_range]; omega), List.getElem?_eq_none (by omega)]; rfl
  rw [e] at h1 h2
  omega

def LookQ19 (n : Nat) (Lo Hi : Int → Int) (mac : Nat) (h : Heap) (v : Value) (h' : Heap) : Prop :=
  ∃ bL bH bR : Nat, v = .agg #[.slice (some ⟨bL, 0, none⟩) (n + 1) (n + 1), .slice (some ⟨bH, 0, none⟩) (n + 1) (n + 1), .slice (some ⟨bR, 0, none⟩) (n + 1) (n + 1), .int .i64 (mac : Int)] ∧
    Sep h no h' [blk bL (ints ((List.range (n + 1)).map fun x : Nat => Lo x)), blk bH (ints ((List.range (n + 1)).map fun x : Nat => Hi x))] []

section
variable {h : Heap} {gv : Gv} {W R Lo Hi : Int → Int} {pos : Int → Nat} {b1 b3 b12 bS bL bH bR : Nat} {o w r : Sl}

theorem mk19_S {g : Heap} {X RR : List Fact} {n : Nat} {K : Nat → Heap → Prop} (S : Sep h no g X RR) (hn : n < 2 ^ 20) (H : ∀ b g', Sep h no g' (X ++ [blk b (ints (List.replicate (n + 1) 0))]) RR → K b g') : ref19_mk n g K := by
  unfold ref19_mk
  have ew : IntKind.wrap .i64 ((n : Int) + 1) = ((n + 1 : Nat) : Int) := by rw [wrap64_in (by omega)]; omega
  rw [ew]
  refine mkI_S S (n + 1) rfl rfl rfl (by decide) (by omega) (by omega) fun b g' _ S => ?_
  have ezero : (List.replicate (n + 1) [Value.int .i64 0]).flatten = ints (List.replicate (n + 1) 0) := by rw [repl_one]; simp [ints]
  rw [ezero] at S
  exact H b g' S

theorem leaf19_ok (hok : gv.ok) (hs : ∀ n ∈ gv.ns, n.inn.l < 2 ^ 20 ∧ n.weights.l < 2 ^ 40 ∧ n.bias.l < 2 ^ 40) (rt : Right gv.gr W R pos) (rc : Reach gv.gr.nodes R Lo Hi)
    (hb : ∀ x, 0 ≤ x → x ≤ (gv.l : Int) → (-2 ^ 40 ≤ Lo x ∧ Lo x ≤ 2 ^ 40) ∧ (-2 ^ 40 ≤ Hi x ∧ Hi x ≤ 2 ^ 40) ∧ (0 ≤ R x ∧ R x ≤ 2 ^ 30))
    (ho : o.xs = ordG gv.gr.nodes) (hw : w.xs = (List.range (gv.gr.nodes.length + 1)).map fun x : Nat => W x) (hr : r.xs = (List.range (gv.gr.nodes.length + 1)).map fun x : Nat => R x) (ook : o.ok) (wok : w.ok) (rok : r.ok) {g : Heap}
    (S : Sep h no g [blk b1 gv.cells, blk b3 [.slice none 0 0, .slice none 0 0, .slice none 0 0, .int .i64 0], row o.p (ints o.xs), row w.p (ints w.xs), row r.p (ints r.xs), blk b12 [o.v, w.v, r.v, .int .i64 0],
      blk bS [.slice none 0 0, .slice none 0 0, .slice none 0 0, .int .i64 0], blk bL (ints (List.replicate (gv.l + 1) 0)), blk bH (ints (List.replicate (gv.l + 1) 0)), blk bR (ints (List.replicate (gv.l + 1) 0))] [row gv.p (nflat gv.ns), nrows gv.ns]) :
    ref19_Look_leaf (LookQ19 gv.l Lo Hi (gv.gr.nodes.map Nd.cost).sum h) b1 b3 b12 gv.l bS bL bH bR g := by
  have hgl := hok.1
  have hgn : gv.gr.nodes.length = gv.l := by rw [← hgl]; simp [Gv.gr]
  have f := first_ok rt.first
  have hl12 : gv.l ≤ 12 := by have := f.2.1; omega
  have hord := rt.ordered
  have lR : r.xs.length = r.l := rok.1
  have lenR : r.l = gv.l + 1 := by rw [← lR, hr]; simp [hgn]
  unfold ref19_Look_leaf
  have ew : IntKind.wrap .i64 ((gv.l : Int) + 1) = ((gv.l + 1 : Nat) : Int) := by rw [wrap64_in (by omega)]; omega
  rw [ew]
  simp only [Int.toNat_natCast]
  refine stI_S S 6 rfl (Nat.le_of_ble_eq_true rfl) fun _ _ S => ?_
  dsimp only [List.set] at S
  refine stI_S S 6 rfl (Nat.le_of_ble_eq_true rfl) fun _ _ S => ?_
  dsimp only [List.set] at S
  refine stI_S S 6 rfl (Nat.le_of_ble_eq_true rfl) fun _ _ S => ?_
  dsimp only [List.set] at S
  refine stI_S S 6 rfl (Nat.le_of_ble_eq_true rfl) fun g4 _ S => ?_
  dsimp only [List.set] at S
  refine ldSlice_i (p := some ⟨bR, 0, none⟩) (l := gv.l + 1) (c := gv.l + 1) (S.cell 6 rfl rfl) (idxI_i rfl (k := 0) rfl (by omega) ?_)
  simp only [Int.toNat_zero, Nat.zero_mul, add_mk, Nat.add_zero]
  refine stI_S S 9 rfl (by rw [ints_length, List.length_replicate]; omega) fun g5 _ S => ?_
  rw [ints_set'] at S
  dsimp only [List.set] at S
  have hro : ((List.replicate (gv.l + 1) (0 : Int)).set 0 1).length = gv.l + 1 := by simp
  generalize (List.replicate (gv.l + 1) (0 : Int)).set 0 1 = ro at S hro
  have eL : List.replicate (gv.l + 1) (0 : Int) = vals gv.l Lo (0 :: (ordG gv.gr.nodes).take 0) := by rw [List.take_zero, vals_zero, rc.l0, List.replicate_succ]
  have eH : List.replicate (gv.l + 1) (0 : Int) = vals gv.l Hi (0 :: (ordG gv.gr.nodes).take 0) := by rw [List.take_zero, vals_zero, rc.h0, List.replicate_succ]
  have S0 : Sep h no g5 (F19 gv b1 b3 b12 bS bL bH bR o w r (vals gv.l Lo (0 :: (ordG gv.gr.nodes).take 0)) (vals gv.l Hi (0 :: (ordG gv.gr.nodes).take 0)) ro ((0 : Nat) : Int)) [row gv.p (nflat gv.ns), nrows gv.ns] := by
    rw [← eL, ← eH]; exact S
  clear S eL eH
  refine LoopS_i (fun mm s g => ∃ (k : Nat) (ro : List Int) (mac : Nat), s = (⟨b1, 0, none⟩, ⟨b3, 0, none⟩, ⟨b12, 0, none⟩, (gv.l : Int), ⟨bS, 0, none⟩, (k : Int), ()) ∧ k ≤ gv.l ∧ mm = gv.l - k ∧ ro.length = gv.l + 1 ∧ mac = (((ordG gv.gr.nodes).take k).map (costX gv.gr.nodes)).sum ∧ mac ≤ k * 2 ^ 40 ∧
    Sep h no g (F19 gv b1 b3 b12 bS bL bH bR o w r (vals gv.l Lo (0 :: (ordG gv.gr.nodes).take k)) (vals gv.l Hi (0 :: (ordG gv.gr.nodes).take k)) ro (mac : Int)) [row gv.p (nflat gv.ns), nrows gv.ns]) gv.l
    ⟨0, ro, 0, rfl, by omega, rfl, hro, rfl, by omega, S0⟩ ?_
  clear S0 hro
  rintro mm s g ⟨k, ro, mac, rfl, hk, rfl, hro, hm, hmac, S⟩
  by_cases hkl : k < gv.l
  · refine look19_l8_ok hok hs rt rc hb ho hw hr ook wok rok hkl hro hmac S fun g' ro' mac' h1 h2 h3 S => ?_
    have hko : k < (ordG gv.gr.nodes).length := by rw [hord, hgn]; exact hkl
    refine ⟨gv.l - (k + 1), by omega, k + 1, ro', mac', rfl, by omega, rfl, h1, ?_, h3, S⟩
    rw [h2, hm, List.take_succ_eq_append_getElem hko, List.map_append, List.sum_append, List.getElem?_eq_getElem hko]
    simp
  · have hkk : k = gv.l := by omega
    subst hkk
    have htk : (ordG gv.gr.nodes).take gv.l = ordG gv.gr.nodes := List.take_of_length_le (by rw [hord, hgn]; exact Nat.le_refl _)
    rw [htk] at hm S
    rw [ord_cost hord] at hm
    have hordK : (0 :: ordG gv.gr.nodes : List Int) = ordK gv.gr.nodes gv.gr.nodes.length := (ordK_cons _ _).symm
    have eL : vals gv.l Lo (0 :: ordG gv.gr.nodes) = (List.range (gv.l + 1)).map fun x : Nat => Lo x := by rw [hordK, ← hgn]; exact vals_all hord Lo
    have eH : vals gv.l Hi (0 :: ordG gv.gr.nodes) = (List.range (gv.l + 1)).map fun x : Nat => Hi x := by rw [hordK, ← hgn]; exact vals_all hord Hi
    rw [eL, eH, hm] at S
    clear hm hmac eL eH
    have hhl : ((List.range (gv.l + 1)).map fun x : Nat => Hi x).length = gv.l + 1 := by simp
    generalize hHL : ((List.range (gv.l + 1)).map fun x : Nat => Hi x) = his at S hhl
    have eQ : LookQ19 gv.l Lo Hi (gv.gr.nodes.map Nd.cost).sum h = fun v h' => ∃ bL bH bR : Nat, v = .agg #[.slice (some ⟨bL, 0, none⟩) (gv.l + 1) (gv.l + 1), .slice (some ⟨bH, 0, none⟩) (gv.l + 1) (gv.l + 1), .slice (some ⟨bR, 0, none⟩) (gv.l + 1) (gv.l + 1), .int .i64 (((gv.gr.nodes.map Nd.cost).sum : Nat) : Int)] ∧
        Sep h no h' [blk bL (ints ((List.range (gv.l + 1)).map fun x : Nat => Lo x)), blk bH (ints his)] [] := by rw [← hHL]; rfl
    rw [eQ]
    generalize (gv.gr.nodes.map Nd.cost).sum = mc at S
    unfold ref19_Look_l8
    dsimp only
    refine ifB_false (decide_eq_false (by omega)) ?_
    refine LoopS_i (fun mm s g => ∃ (t : Nat) (ro : List Int), s = (⟨b1, 0, none⟩, ⟨b3, 0, none⟩, ⟨b12, 0, none⟩, (gv.l : Int), ⟨bS, 0, none⟩, (t : Int) + 1, ()) ∧ t ≤ gv.l ∧ mm = gv.l - t ∧ ro.length = gv.l + 1 ∧
      Sep h no g (F19 gv b1 b3 b12 bS bL bH bR o w r ((List.range (gv.l + 1)).map fun x : Nat => Lo x) his ro (mc : Int)) [row gv.p (nflat gv.ns), nrows gv.ns]) gv.l ⟨0, ro, rfl, by omega, rfl, hro, S⟩ ?_
    clear S hro ro
    rintro mm s g ⟨t, ro, rfl, ht, rfl, hro, S⟩
    unfold ref19_Look_l19
    simp only [add_mk, Nat.zero_add]
    refine ifB_dec (fun hlt => ?_) (fun hge => ?_)
    · have htl : t < gv.l := by omega
      obtain ⟨nv, en⟩ : ∃ n, gv.ns[t]? = some n := ⟨_, List.getElem?_eq_getElem (by omega)⟩
      have hmem := List.mem_of_getElem? en
      have nok := hok.2.2 nv hmem
      have hsz := hs nv hmem
      have ilen : nv.inn.xs.length = nv.inn.l := nok.1.1
      have endt : gv.gr.nodes[t]? = some nv.nd := by show (gv.ns.map Nv.nd)[t]? = _; rw [List.getElem?_map, en]; rfl
      have hcz := chk_size (rt.chk t nv.nd endt)
      have hsize : -2 ^ 20 ≤ nv.size ∧ nv.size ≤ 2 ^ 20 := by have h1 : 0 ≤ nv.size ∧ nv.size ≤ 8 := hcz.1; omega
      have hgap : -2 ^ 20 ≤ nv.gap ∧ nv.gap ≤ 2 ^ 20 := by have h1 : 0 ≤ nv.gap ∧ nv.gap ≤ 4 := hcz.2.1; omega
      have hinn : ∀ j ∈ nv.inn.xs, 0 ≤ j ∧ j ≤ (gv.l : Int) := fun j hj => by have := f.2.2.2.2.2 nv.nd (List.mem_of_getElem? endt) j hj; omega
      have et : IntKind.wrap .i64 ((t : Int) + 1 - 1) = (t : Int) := by rw [wrap64_in (by omega)]; omega
      have et2 : IntKind.wrap .i64 ((t : Int) + 1 + 1) = ((t + 1 : Nat) : Int) + 1 := by rw [wrap64_in (by omega)]; rfl
      rw [et]
      refine ldSlice_i (p := gv.p) (l := gv.l) (c := gv.c) (S.cell 0 rfl rfl) ?_
      obtain ⟨q, ea⟩ := (S.row 0 rfl).some_of (by rw [nflat_length]; omega)
      have hrow : Row g (some q) (nflat gv.ns) := by rw [← ea]; exact S.row 0 rfl
      refine idxI_i ea rfl (by omega) ?_
      simp only [Int.toNat_natCast]
      refine ldNode hrow en ?_
      refine newI_S S fun b118 g2 _ S => ?_
      dsimp only [List.cons_append, List.nil_append] at S
      refine stL_S S 10 rfl rfl (mkS_one rfl) fun g3 _ S => ?_
      dsimp only [List.set] at S
      refine LoopS_i (fun mm s g => ∃ (j : Nat) (ro : List Int), s = (⟨b1, 0, none⟩, ⟨b3, 0, none⟩, ⟨b12, 0, none⟩, (gv.l : Int), ⟨bS, 0, none⟩, (t : Int) + 1, ⟨b118, 0, none⟩, (j : Int), ()) ∧ j ≤ nv.inn.l ∧ mm = nv.inn.l - j ∧ ro.length = gv.l + 1 ∧
        Sep h no g (F19 gv b1 b3 b12 bS bL bH bR o w r ((List.range (gv.l + 1)).map fun x : Nat => Lo x) his ro (mc : Int) ++ [blk b118 nv.cells]) [row gv.p (nflat gv.ns), nrows gv.ns]) nv.inn.l ⟨0, ro, rfl, by omega, rfl, hro, S⟩ ?_
      clear S
      rintro mm s g ⟨j, ro, rfl, hj, rfl, hro, S⟩
      dsimp only [List.cons_append, List.nil_append] at S
      unfold ref19_Look_l23
      simp only [add_mk, Nat.zero_add]
      have ej : IntKind.wrap .i64 ((j : Int) + 1) = ((j + 1 : Nat) : Int) := by rw [wrap64_in (by omega)]; rfl
      rw [ej]
      refine ldSlice_i (p := nv.inn.p) (l := nv.inn.l) (c := nv.inn.c) (S.cell 10 rfl rfl) ?_
      refine ifB_dec (fun hlt2 => ?_) (fun hge2 => ?_)
      · have hjx : j < nv.inn.xs.length := by omega
        refine ldAg_S S 10 rfl (x := nv.t) rfl ?_
        have nrow : ∀ {g : Heap} {W : List Fact}, Sep h no g W [row gv.p (nflat gv.ns), nrows gv.ns] → nv.rows.P g := fun S => S.r 1 _ rfl _ (List.mem_map_of_mem hmem)
        obtain ⟨ia, eia⟩ := (nrow S nv.inn.row (by simp) : Row g nv.inn.p (ints nv.inn.xs)).some_of (by rw [ints_length]; omega)
        have ldi : ∀ {g : Heap} {W : List Fact}, Sep h no g W [row gv.p (nflat gv.ns), nrows gv.ns] → cellH g (ia.add j) = some (.int .i64 nv.inn.xs[j]) := fun S => by
          have : Row _ nv.inn.p (ints nv.inn.xs) := nrow S nv.inn.row (by simp)
          rw [eia] at this
          exact this.cell (ints_get (List.getElem?_eq_getElem hjx))
        have hx := hinn _ (List.getElem_mem hjx)
        obtain ⟨x, ex⟩ : ∃ x : Nat, nv.inn.xs[j] = (x : Int) := ⟨nv.inn.xs[j].toNat, by omega⟩
        rw [ex] at hx ldi
        refine ldSlice_i (p := some ⟨bR, 0, none⟩) (l := gv.l + 1) (c := gv.l + 1) (S.cell 6 rfl rfl) (ldSlice_i (p := nv.inn.p) (l := nv.inn.l) (c := nv.inn.c) (S.cell 10 rfl rfl) (idxI_i eia rfl (by omega) ?_))
        simp only [Int.toNat_natCast, Nat.mul_one]
        refine ldInt_i (ldi S) ?_
        refine ldSlice_i (p := some ⟨bR, 0, none⟩) (l := gv.l + 1) (c := gv.l + 1) (S.cell 6 rfl rfl) (ldSlice_i (p := nv.inn.p) (l := nv.inn.l) (c := nv.inn.c) (S.cell 10 rfl rfl) (idxI_i eia rfl (by omega) ?_))
        refine ldInt_i (ldi S) (idxI_i rfl (k := x) rfl (by omega) ?_)
        simp only [Int.toNat_natCast, add_mk, Nat.zero_add]
        have hxr : x < ro.length := by omega
        refine ldInt_i (n := ro[x]) (S.cell 9 rfl (ints_get (List.getElem?_eq_getElem hxr))) ?_
        refine ldSlice_i (p := r.p) (l := r.l) (c := r.c) (S.cell 5 rfl rfl) ?_
        have rrow : Row g r.p (ints r.xs) := S.w 4 _ rfl
        obtain ⟨ra, era⟩ := rrow.some_of (by rw [ints_length]; omega)
        rw [era] at rrow
        refine idxI_i era (k := t + 1) (by omega) (by omega) ?_
        rw [show ((t : Int) + 1).toNat = t + 1 by omega]
        refine ldInt_i (n := R ((t + 1 : Nat) : Int)) (rrow.cell (ints_get (by rw [hr, List.getElem?_map, List.getElem?_range (by omega)]; rfl))) ?_
        refine (room19_ok (S.w 6 _ rfl) rfl (Row.of_at (S.at 8 rfl)) hhl nok (nrow S) (by omega) (fun j hj => by have := hinn j hj; omega) hsize hgap (show j < nv.inn.l by omega) _).mono ?_
        rintro _ g5 ⟨⟨z, rfl⟩, F⟩
        replace S := S.fra0 F
        refine ⟨_, rfl, S.cell 9 rfl (ints_get (List.getElem?_eq_getElem hxr)), ldi S, S.cell 10 rfl rfl, S.cell 6 rfl rfl, ldi S, S.cell 10 rfl rfl, S.cell 6 rfl rfl, ?_⟩
        refine idxI_i rfl (k := x) rfl (by omega) ?_
        simp only [add_mk, Nat.zero_add]
        refine stI_S S 9 rfl (by rw [ints_length]; omega) fun g6 _ S => ?_
        rw [ints_set'] at S
        dsimp only [List.set] at S
        exact ⟨nv.inn.l - (j + 1), by omega, j + 1, _, rfl, by omega, rfl, by rw [List.length_set]; exact hro, S⟩
      · rw [et2]
        exact ⟨gv.l - (t + 1), by omega, t + 1, ro, rfl, by omega, rfl, hro, S.pw [0, 1, 2, 3, 4, 5, 6, 7, 8, 9]⟩
    · refine ldSlice_i (p := some ⟨bL, 0, none⟩) (l := gv.l + 1) (c := gv.l + 1) (S.cell 6 rfl rfl) (ldSlice_i (p := some ⟨bH, 0, none⟩) (l := gv.l + 1) (c := gv.l + 1) (S.cell 6 rfl rfl) (ldSlice_i (p := some ⟨bR, 0, none⟩) (l := gv.l + 1) (c := gv.l + 1) (S.cell 6 rfl rfl) (ldInt_i (n := (mc : Int)) (S.cell 6 rfl rfl) ?_)))
      refine stI_S S 1 rfl (Nat.le_of_ble_eq_true rfl) fun _ _ S => ?_
      dsimp only [List.set] at S
      refine stI_S S 1 rfl (Nat.le_of_ble_eq_true rfl) fun _ _ S => ?_
      dsimp only [List.set] at S
      refine stI_S S 1 rfl (Nat.le_of_ble_eq_true rfl) fun _ _ S => ?_
      dsimp only [List.set] at S
      refine stI_S S 1 rfl (Nat.le_of_ble_eq_true rfl) fun g9 _ S => ?_
      dsimp only [List.set] at S
      refine ldSlice_i (p := some ⟨bL, 0, none⟩) (l := gv.l + 1) (c := gv.l + 1) (S.cell 1 rfl rfl) (ldSlice_i (p := some ⟨bH, 0, none⟩) (l := gv.l + 1) (c := gv.l + 1) (S.cell 1 rfl rfl) (ldSlice_i (p := some ⟨bR, 0, none⟩) (l := gv.l + 1) (c := gv.l + 1) (S.cell 1 rfl rfl) (ldInt_i (n := (mc : Int)) (S.cell 1 rfl rfl) ?_)))
      exact ⟨bL, bH, bR, rfl, noR (S.pw [7, 8])⟩
end

section
variable {h : Heap}
theorem at10 {h g : Heap} {W R : List Fact} (S : Sep h no g W R) (a b c d : Nat) (hl : [0, 1, 2, 3, 4, 5, a, b, c, d].Nodup := by decide) : Sep h no g (Sh.pick W [0, 1, 2, 3, 4, 5, a, b, c, d]) R := S.pw _ hl
abbrev Z4 : List Value := [.slice none 0 0, .slice none 0 0, .slice none 0 0, .int .i64 0]
set_option maxHeartbeats 4000000 in
theorem Look19_ok {gv : Gv} (hok : gv.ok) (hn : Row h gv.p (nflat gv.ns)) (hrn : (nrows gv.ns).P h) (hs : ∀ n ∈ gv.ns, n.inn.l < 2 ^ 20 ∧ n.weights.l < 2 ^ 40 ∧ n.bias.l < 2 ^ 40) {W R Lo Hi : Int → Int} {pos : Int → Nat} (rt : Right gv.gr W R pos) (rc : Reach gv.gr.nodes R Lo Hi)
    (hb : ∀ x, 0 ≤ x → x ≤ (gv.l : Int) → (-2 ^ 40 ≤ Lo x ∧ Lo x ≤ 2 ^ 40) ∧ (-2 ^ 40 ≤ Hi x ∧ Hi x ≤ 2 ^ 40) ∧ (0 ≤ R x ∧ R x ≤ 2 ^ 30)) :
    callP P n_ref19_Look #[gv.v] h (LookQ19 gv.l Lo Hi (gv.gr.nodes.map Nd.cost).sum h) := by
  refine call_ref19_Look _ ?_
  unfold ref19_Look
  have hgl := hok.1
  have hgn : gv.gr.nodes.length = gv.l := by rw [← hgl]; simp [Gv.gr]
  have f := first_ok rt.first
  have hl20 : gv.l < 2 ^ 20 := by have := f.2.1; omega
  have S := ((Sep.start h no).read (row gv.p (nflat gv.ns)) hn).read (nrows gv.ns) hrn
  refine newI_S (cs := gv.cells) S fun b1 h1 _ S => ?_
  dsimp only [List.nil_append, List.cons_append] at S
  refine newI_S (cs := [.slice none 0 0, .slice none 0 0, .slice none 0 0, .int .i64 0]) S fun b3 h2 _ S => ?_
  dsimp only [List.nil_append, List.cons_append] at S
  refine ldAg_S S 0 rfl (x := gv.t) rfl ?_
  refine (Look16_ok hok (S.row 0 rfl) (S.r 1 _ rfl) hl20 (fun n hn => by have := hs n hn; omega)).mono ?_
  rintro _ h3 ⟨o, w, r, rfl, ho, hw, hr, ook, wok, rok, S1⟩
  rw [rt.look] at ho hw hr
  have e0 : gv.gr.look.e = 0 := by rw [rt.look]
  rw [e0]
  replace S := S.add S1 fun _ _ h => h
  dsimp only [List.cons_append, List.nil_append] at S
  refine ⟨_, _, _, _, _, _, _, _, _, _, rfl, ?_⟩
  refine newI_S (cs := [.slice none 0 0, .slice none 0 0, .slice none 0 0, .int .i64 0]) S fun b12 _ _ S => ?_
  dsimp only [List.cons_append, List.nil_append] at S
  refine stI_S S 5 rfl (Nat.le_of_ble_eq_true rfl) fun _ _ S => ?_
  dsimp only [List.set] at S
  refine stI_S S 5 rfl (Nat.le_of_ble_eq_true rfl) fun _ _ S => ?_
  dsimp only [List.set] at S
  refine stI_S S 5 rfl (Nat.le_of_ble_eq_true rfl) fun _ _ S => ?_
  dsimp only [List.set] at S
  refine stI_S S 5 rfl (Nat.le_of_ble_eq_true rfl) fun h17 _ S => ?_
  dsimp only [List.set] at S
  refine ldInt_i (n := 0) (S.cell 5 rfl rfl) (ifB_false (by decide) ?_)
  refine ldSlice_i (p := gv.p) (l := gv.l) (c := gv.c) (S.cell 0 rfl rfl) ?_
  have leaf := fun (bS bL bH bR : Nat) (g : Heap) => leaf19_ok (h := h) (g := g) (b1 := b1) (b3 := b3) (b12 := b12) (bS := bS) (bL := bL) (bH := bH) (bR := bR) hok hs rt rc hb ho hw hr ook wok rok
  clear S1
  refine And.intro ?_ ?_
  · refine mk19_S S hl20 fun b28 _ S => ?_
    refine And.intro ?_ ?_
    · refine mk19_S S hl20 fun b30 _ S => ?_
      refine And.intro ?_ ?_
      · refine mk19_S S hl20 fun b32 _ S => ?_
        refine newI_S (cs := Z4) S fun b34 _ _ S => ?_
        exact leaf b34 b28 b30 b32 _ (at10 S 9 6 7 8)
      · refine newI_S (cs := Z4) S fun b153 _ _ S => ?_
        refine mk19_S S hl20 fun b155 _ S => ?_
        exact leaf b153 b28 b30 b155 _ (at10 S 8 6 7 9)
    · refine And.intro ?_ ?_
      · refine mk19_S S hl20 fun b274 _ S => ?_
        refine And.intro ?_ ?_
        · refine mk19_S S hl20 fun b276 _ S => ?_
          refine newI_S (cs := Z4) S fun b278 _ _ S => ?_
          exact leaf b278 b28 b276 b274 _ (at10 S 9 6 8 7)
        · refine newI_S (cs := Z4) S fun b397 _ _ S => ?_
          refine mk19_S S hl20 fun b399 _ S => ?_
          exact leaf b397 b28 b399 b274 _ (at10 S 8 6 9 7)
      · refine newI_S (cs := Z4) S fun b518 _ _ S => ?_
        refine And.intro ?_ ?_
        · refine mk19_S S hl20 fun b520 _ S => ?_
          refine mk19_S S hl20 fun b522 _ S => ?_
          exact leaf b518 b28 b520 b522 _ (at10 S 7 6 8 9)
        · refine mk19_S S hl20 fun b641 _ S => ?_
          refine mk19_S S hl20 fun b643 _ S => ?_
          exact leaf b518 b28 b643 b641 _ (at10 S 7 6 9 8)
  · refine And.intro ?_ ?_
    · refine mk19_S S hl20 fun b762 _ S => ?_
      refine And.intro ?_ ?_
      · refine mk19_S S hl20 fun b764 _ S => ?_
        refine And.intro ?_ ?_
        · refine mk19_S S hl20 fun b766 _ S => ?_
          refine newI_S (cs := Z4) S fun b768 _ _ S => ?_
          exact leaf b768 b764 b762 b766 _ (at10 S 9 7 6 8)
        · refine newI_S (cs := Z4) S fun b887 _ _ S => ?_
          refine mk19_S S hl20 fun b889 _ S => ?_
          exact leaf b887 b764 b762 b889 _ (at10 S 8 7 6 9)
      · refine And.intro ?_ ?_
        · refine mk19_S S hl20 fun b1008 _ S => ?_
          refine And.intro ?_ ?_
          · refine mk19_S S hl20 fun b1010 _ S => ?_
            refine newI_S (cs := Z4) S fun b1012 _ _ S => ?_
            exact leaf b1012 b1010 b762 b1008 _ (at10 S 9 8 6 7)
          · refine newI_S (cs := Z4) S fun b1131 _ _ S => ?_
            refine mk19_S S hl20 fun b1133 _ S => ?_
            exact leaf b1131 b1133 b762 b1008 _ (at10 S 8 9 6 7)
        · refine newI_S (cs := Z4) S fun b1252 _ _ S => ?_
          refine And.intro ?_ ?_
          · refine mk19_S S hl20 fun b1254 _ S => ?_
            refine mk19_S S hl20 fun b1256 _ S => ?_
            exact leaf b1252 b1254 b762 b1256 _ (at10 S 7 8 6 9)
          · refine mk19_S S hl20 fun b1375 _ S => ?_
            refine mk19_S S hl20 fun b1377 _ S => ?_
            exact leaf b1252 b1377 b762 b1375 _ (at10 S 7 9 6 8)
    · refine And.intro ?_ ?_
      · refine mk19_S S hl20 fun b1496 _ S => ?_
        refine And.intro ?_ ?_
        · refine mk19_S S hl20 fun b1498 _ S => ?_
          refine And.intro ?_ ?_
          · refine mk19_S S hl20 fun b1500 _ S => ?_
            refine newI_S (cs := Z4) S fun b1502 _ _ S => ?_
            exact leaf b1502 b1498 b1500 b1496 _ (at10 S 9 7 8 6)
          · refine newI_S (cs := Z4) S fun b1621 _ _ S => ?_
            refine mk19_S S hl20 fun b1623 _ S => ?_
            exact leaf b1621 b1498 b1623 b1496 _ (at10 S 8 7 9 6)
        · refine And.intro ?_ ?_
          · refine mk19_S S hl20 fun b1742 _ S => ?_
            refine And.intro ?_ ?_
            · refine mk19_S S hl20 fun b1744 _ S => ?_
              refine newI_S (cs := Z4) S fun b1746 _ _ S => ?_
              exact leaf b1746 b1744 b1742 b1496 _ (at10 S 9 8 7 6)
            · refine newI_S (cs := Z4) S fun b1865 _ _ S => ?_
              refine mk19_S S hl20 fun b1867 _ S => ?_
              exact leaf b1865 b1867 b1742 b1496 _ (at10 S 8 9 7 6)
          · refine newI_S (cs := Z4) S fun b1986 _ _ S => ?_
            refine And.intro ?_ ?_
            · refine mk19_S S hl20 fun b1988 _ S => ?_
              refine mk19_S S hl20 fun b1990 _ S => ?_
              exact leaf b1986 b1988 b1990 b1496 _ (at10 S 7 8 9 6)
            · refine mk19_S S hl20 fun b2109 _ S => ?_
              refine mk19_S S hl20 fun b2111 _ S => ?_
              exact leaf b1986 b2111 b2109 b1496 _ (at10 S 7 9 8 6)
      · refine newI_S (cs := Z4) S fun b2230 _ _ S => ?_
        refine And.intro ?_ ?_
        · refine mk19_S S hl20 fun b2232 _ S => ?_
          refine And.intro ?_ ?_
          · refine mk19_S S hl20 fun b2234 _ S => ?_
            refine mk19_S S hl20 fun b2236 _ S => ?_
            exact leaf b2230 b2232 b2234 b2236 _ (at10 S 6 7 8 9)
          · refine mk19_S S hl20 fun b2355 _ S => ?_
            refine mk19_S S hl20 fun b2357 _ S => ?_
            exact leaf b2230 b2232 b2357 b2355 _ (at10 S 6 7 9 8)
        · refine And.intro ?_ ?_
          · refine mk19_S S hl20 fun b2476 _ S => ?_
            refine And.intro ?_ ?_
            · refine mk19_S S hl20 fun b2478 _ S => ?_
              refine mk19_S S hl20 fun b2480 _ S => ?_
              exact leaf b2230 b2478 b2476 b2480 _ (at10 S 6 8 7 9)
            · refine mk19_S S hl20 fun b2599 _ S => ?_
              refine mk19_S S hl20 fun b2601 _ S => ?_
              exact leaf b2230 b2601 b2476 b2599 _ (at10 S 6 9 7 8)
          · refine mk19_S S hl20 fun b2720 _ S => ?_
            refine And.intro ?_ ?_
            · refine mk19_S S hl20 fun b2722 _ S => ?_
              refine mk19_S S hl20 fun b2724 _ S => ?_
              exact leaf b2230 b2722 b2724 b2720 _ (at10 S 6 8 9 7)
            · refine mk19_S S hl20 fun b2843 _ S => ?_
              refine mk19_S S hl20 fun b2845 _ S => ?_
              exact leaf b2230 b2845 b2843 b2720 _ (at10 S 6 9 8 7)
end
end Go.Proofs.YtbgplllcjhgdhaaDoor.G
