/- Contracts: the document's reaches (earshotref19): room, and what is known node by node. -/
import Derived.Test.YtbgplllcjhgdhaaDoorCReach
namespace Go.Proofs.YtbgplllcjhgdhaaDoor.G
open Go Go.Sh
set_option linter.unusedVariables false
set_option linter.unusedSimpArgs false

section
variable {h : Heap}

theorem room19_ok {bS : Nat} {cs : List Value} {nv : Nv} {hp : Option Addr} {hl hc : Nat} {his : List Int} (hS : (blk bS cs).P h) (hcs : cs[1]? = some (.slice hp hl hc)) (hrow : Row h hp (ints his)) (hhl : his.length = hl) (hok : nv.ok) (hr : nv.rows.P h) (hil : nv.inn.l < 2 ^ 20)
    (hin : ∀ j ∈ nv.inn.xs, 0 ≤ j ∧ j < (his.length : Int)) (hs : -2 ^ 20 ≤ nv.size ∧ nv.size ≤ 2 ^ 20) (hg : -2 ^ 20 ≤ nv.gap ∧ nv.gap ≤ 2 ^ 20) {j : Nat} (hj : j < nv.inn.l) (rate : Int) :
    callP P n_ref19_Field_room #[.pointer (some ⟨bS, 0, none⟩), nv.v, .int .i64 (j : Int), .int .i64 rate] h fun v h' => (∃ x, v = .int .i64 x) ∧ Fra no h h' := by
  refine call_ref19_Field_room _ _ _ _ ?_
  unfold ref19_Field_room
  have S := (((Sep.start h no).read (blk bS cs) hS).read (row hp (ints his)) hrow).read nv.rows hr
  refine newI_S (cs := nv.cells) S fun b1 h1 _ S => ?_
  dsimp only [List.nil_append, List.cons_append] at S
  refine ldInt_i (n := nv.kind) (S.cell 0 rfl rfl) ?_
  refine (Windows14_ok nv.kind).mono ?_
  rintro _ g2 ⟨rfl, rfl⟩
  refine ⟨_, rfl, ifB_known (fun _ => ?_) (fun _ => ?_)⟩
  · refine ldAg_S S 0 rfl (x := nv.t) rfl ?_
    refine (Span14_ok nv hs hg).mono ?_
    rintro _ g3 ⟨rfl, F⟩
    exact ⟨_, rfl, ⟨_, rfl⟩, (S.fra0 F).fra⟩
  · refine ldInt_i (n := nv.kind) (S.cell 0 rfl rfl) ?_
    refine (Many14_ok nv.kind).mono ?_
    rintro _ g3 ⟨rfl, rfl⟩
    refine ⟨_, rfl, ifB_known (fun _ => ⟨⟨_, rfl⟩, S.fra⟩) (fun _ => ?_)⟩
    refine ifB_beq (fun _ => ⟨⟨_, rfl⟩, S.fra⟩) (fun hne => nilI_some (nilI_some ?_))
    simp only [add_mk, Nat.zero_add]
    have ilen : nv.inn.xs.length = nv.inn.l := hok.1.1
    have hjx : j < nv.inn.xs.length := by omega
    refine ldSlice_i (p := hp) (l := hl) (c := hc) (S.cellR 0 rfl hcs) (ldSlice_i (p := nv.inn.p) (l := nv.inn.l) (c := nv.inn.c) (S.cell 0 rfl rfl) (ldSlice_i (p := hp) (l := hl) (c := hc) (S.cellR 0 rfl hcs) (ldSlice_i (p := nv.inn.p) (l := nv.inn.l) (c := nv.inn.c) (S.cell 0 rfl rfl) ?_)))
    have irow : ∀ {g : Heap} {W : List Fact}, Sep h no g W [blk bS cs, row hp (ints his), nv.rows] → Row g nv.inn.p (ints nv.inn.xs) := fun S => S.r 2 _ rfl nv.inn.row (by simp)
    obtain ⟨ia, eia⟩ := (irow S).some_of (by rw [ints_length]; omega)
    have irow2 : ∀ {g : Heap} {W : List Fact}, Sep h no g W [blk bS cs, row hp (ints his), nv.rows] → cellH g (ia.add j) = some (.int .i64 nv.inn.xs[j]) := fun S => by
      have := irow S
      rw [eia] at this
      exact this.cell (ints_get (List.getElem?_eq_getElem hjx))
    have hx := hin _ (List.getElem_mem hjx)
    obtain ⟨x, ex⟩ : ∃ x : Nat, nv.inn.xs[j] = (x : Int) := ⟨nv.inn.xs[j].toNat, by omega⟩
    rw [ex] at hx irow2
    refine idxI_i eia rfl (by omega) ?_
    simp only [Int.toNat_natCast, Nat.mul_one]
    refine ldInt_i (irow2 S) ?_
    obtain ⟨ha, eha⟩ := (S.row 1 rfl).some_of (by rw [ints_length]; omega)
    have hrow2 : ∀ {g : Heap} {W : List Fact}, Sep h no g W [blk bS cs, row hp (ints his), nv.rows] → cellH g (ha.add x) = some (.int .i64 his[x]) := fun S => by
      have := S.row 1 rfl
      rw [eha] at this
      exact this.cell (ints_get (List.getElem?_eq_getElem (by omega)))
    refine idxI_i eha (k := x) rfl (by omega) ?_
    simp only [Int.toNat_natCast, Nat.mul_one]
    refine ldInt_i (hrow2 S) ?_
    refine (of19_ok (S.row 1 rfl) (irow S) hhl ilen hil hin).mono ?_
    rintro _ g4 ⟨p23, c23, rfl, S1⟩
    replace S := S.add S1 fun _ _ h => h
    dsimp only [List.cons_append, List.nil_append] at S
    refine ⟨_, _, _, rfl, hrow2 S, irow2 S, S.cell 0 rfl rfl, S.cellR 0 rfl hcs, ?_⟩
    have hpl : (pickG his nv.inn.xs).length = nv.inn.l := by unfold pickG; rw [List.length_map, ilen]
    refine (most19_ok (S.own 1 rfl).row hpl (by omega) (by omega)).mono ?_
    rintro _ g5 ⟨rfl, hg5⟩
    subst hg5
    exact ⟨_, rfl, hrow2 S, irow2 S, S.cell 0 rfl rfl, S.cellR 0 rfl hcs, S.cell 0 rfl rfl, S.cellR 0 rfl hcs, hne, ⟨_, rfl⟩, S.fra⟩

theorem idxOf_take {l : List Int} {a : Int} {m : Nat} (ha : a ∈ l) (h : l.idxOf a < m) : a ∈ l.take m := by
  have h1 := List.idxOf_lt_length_of_mem ha
  have h2 : l[l.idxOf a] = a := List.getElem_idxOf h1
  rw [List.mem_iff_getElem]
  refine ⟨l.idxOf a, by rw [List.length_take]; omega, ?_⟩
  rw [List.getElem_take]; exact h2
/-- The inputs of what comes k-th are among what came ahead of it. -/
theorem ord_ahead {ns : List Nd} (ho : (ordG ns).length = ns.length) {k : Nat} (hk : k < (ordG ns).length) {i : Nat} {n : Nd} (e : (ordG ns)[k] = (i : Int) + 1) (en : ns[i]? = some n) {j : Int} (hj : j ∈ n.inn) : j ∈ 0 :: (ordG ns).take k := by
  have hord : ordK ns ns.length = 0 :: ordG ns := ordK_cons ns ns.length
  have hnd := ordK_nodup ns ns.length
  have hm : ((i : Int) + 1) ∈ ordK ns ns.length := by rw [hord, ← e]; exact List.mem_cons_of_mem _ (List.getElem_mem hk)
  have hrk := ordK_rank ns ns.length i n en hm j hj
  have hidx : (ordK ns ns.length).idxOf ((i : Int) + 1) = k + 1 := by
    have hlt : k + 1 < (ordK ns ns.length).length := by rw [hord]; simp only [List.length_cons]; omega
    have : (ordK ns ns.length)[k + 1] = (i : Int) + 1 := by
      have h1 : (ordK ns ns.length)[k + 1]? = some ((i : Int) + 1) := by rw [hord, List.getElem?_cons_succ, List.getElem?_eq_getElem hk, e]
      rw [List.getElem?_eq_getElem hlt] at h1
      exact Option.some.inj h1
    rw [← this]
    exact hnd.idxOf_getElem _ _
  rw [hidx] at hrk
  have := idxOf_take hrk.1 hrk.2
  rw [hord, List.take_succ_cons] at this
  exact this
theorem vals_skip {n : Nat} {V : Int → Int} {S : List Int} {x : Int} (h : V x = 0) : vals n V (S ++ [x]) = vals n V S := by
  refine vals_ext fun y _ => ?_
  by_cases h1 : (y : Int) ∈ S
  · rw [if_pos (by simp [h1]), if_pos h1]
  · rw [if_neg h1]
    by_cases h2 : (y : Int) = x
    · rw [if_pos (by simp [h2]), h2, h]
    · rw [if_neg (by simp [h1, h2])]
/-- What a node costs, by its number. -/
def costX (ns : List Nd) (x : Int) : Nat := match ns[(x - 1).toNat]? with | some n => n.cost | none => 0
theorem costX_at {ns : List Nd} {i : Nat} {n : Nd} (h : ns[i]? = some n) : costX ns ((i : Int) + 1) = n.cost := by
  unfold costX
  rw [show ((i : Int) + 1 - 1).toNat = i by omega, h]

/-- What stands in memory while reaches are told. -/
abbrev F19 (gv : Gv) (b1 b3 b12 bS bL bH bR : Nat) (o w r : Sl) (lo hi ro : List Int) (mac : Int) : List Fact :=
  [blk b1 gv.cells, blk b3 [.slice none 0 0, .slice none 0 0, .slice none 0 0, .int .i64 0], row o.p (ints o.xs), row w.p (ints w.xs), row r.p (ints r.xs), blk b12 [o.v, w.v, r.v, .int .i64 0],
    blk bS [.slice (some ⟨bL, 0, none⟩) (gv.l + 1) (gv.l + 1), .slice (some ⟨bH, 0, none⟩) (gv.l + 1) (gv.l + 1), .slice (some ⟨bR, 0, none⟩) (gv.l + 1) (gv.l + 1), .int .i64 mac], blk bL (ints lo), blk bH (ints hi), blk bR (ints ro)]

variable {gv : Gv} {W R Lo Hi : Int → Int} {pos : Int → Nat} {b1 b3 b12 bS bL bH bR : Nat} {o w r : Sl} {Q : Value → Heap → Prop} {K1 : (Addr × Addr × Addr × Int × Addr × Int × Unit) → Heap → Prop}

theorem look19_l8_ok (hok : gv.ok) (hs : ∀ n ∈ gv.ns, n.inn.l < 2 ^ 20 ∧ n.weights.l < 2 ^ 40 ∧ n.bias.l < 2 ^ 40) (rt : Right gv.gr W R pos) (rc : Reach gv.gr.nodes R Lo Hi)
    (hb : ∀ x, 0 ≤ x → x ≤ (gv.l : Int) → (-2 ^ 40 ≤ Lo x ∧ Lo x ≤ 2 ^ 40) ∧ (-2 ^ 40 ≤ Hi x ∧ Hi x ≤ 2 ^ 40) ∧ (0 ≤ R x ∧ R x ≤ 2 ^ 30))
    (ho : o.xs = ordG gv.gr.nodes) (hw : w.xs = (List.range (gv.gr.nodes.length + 1)).map fun x : Nat => W x) (hr : r.xs = (List.range (gv.gr.nodes.length + 1)).map fun x : Nat => R x) (ook : o.ok) (wok : w.ok) (rok : r.ok)
    {k : Nat} (hk : k < gv.l) {ro : List Int} (hro : ro.length = gv.l + 1) {g : Heap} {mac : Nat} (hmac : mac ≤ k * 2 ^ 40)
    (S : Sep h no g (F19 gv b1 b3 b12 bS bL bH bR o w r (vals gv.l Lo (0 :: (ordG gv.gr.nodes).take k)) (vals gv.l Hi (0 :: (ordG gv.gr.nodes).take k)) ro (mac : Int)) [row gv.p (nflat gv.ns), nrows gv.ns])
    (H : ∀ g' (ro' : List Int) (mac' : Nat), ro'.length = gv.l + 1 → mac' = mac + ((((ordG gv.gr.nodes)[k]?).map (costX gv.gr.nodes)).getD 0) → mac' ≤ (k + 1) * 2 ^ 40 →
      Sep h no g' (F19 gv b1 b3 b12 bS bL bH bR o w r (vals gv.l Lo (0 :: (ordG gv.gr.nodes).take (k + 1))) (vals gv.l Hi (0 :: (ordG gv.gr.nodes).take (k + 1))) ro' (mac' : Int)) [row gv.p (nflat gv.ns), nrows gv.ns] →
      K1 (⟨b1, 0, none⟩, ⟨b3, 0, none⟩, ⟨b12, 0, none⟩, (gv.l : Int), ⟨bS, 0, none⟩, ((k + 1 : Nat) : Int), ()) g') :
    ref19_Look_l8 Q K1 ⟨b1, 0, none⟩ ⟨b3, 0, none⟩ ⟨b12, 0, none⟩ (gv.l : Int) ⟨bS, 0, none⟩ (k : Int) g := by
  have hgl := hok.1
  have hgn : gv.gr.nodes.length = gv.l := by rw [← hgl]; simp [Gv.gr]
  have f := first_ok rt.first
  have hl12 : gv.l ≤ 12 := by have := f.2.1; omega
  have hord := rt.ordered
  have hkl : k < (ordG gv.gr.nodes).length := by rw [hord, hgn]; exact hk
  have hxm := ordK_mem gv.gr.nodes gv.gr.nodes.length _ (List.getElem_mem hkl)
  obtain ⟨i, ex⟩ : ∃ i : Nat, (ordG gv.gr.nodes)[k] = (i : Int) + 1 := ⟨((ordG gv.gr.nodes)[k] - 1).toNat, by have : 1 ≤ (ordG gv.gr.nodes)[k] := hxm.1; omega⟩
  have hil : i < gv.l := by
    have h2 : (ordG gv.gr.nodes)[k] ≤ (gv.gr.nodes.length : Int) := hxm.2
    rw [ex] at h2; omega
  obtain ⟨nv, en⟩ : ∃ n, gv.ns[i]? = some n := ⟨_, List.getElem?_eq_getElem (by omega)⟩
  have hmem := List.mem_of_getElem? en
  have nok := hok.2.2 nv hmem
  have hsz := hs nv hmem
  have ilen : nv.inn.xs.length = nv.inn.l := nok.1.1
  have endi : gv.gr.nodes[i]? = some nv.nd := by show (gv.ns.map Nv.nd)[i]? = _; rw [List.getElem?_map, en]; rfl
  have hchk := rt.chk i nv.nd endi
  have hcz := chk_size hchk
  have hsize : -2 ^ 20 ≤ nv.size ∧ nv.size ≤ 2 ^ 20 := by have h1 : 0 ≤ nv.size ∧ nv.size ≤ 8 := hcz.1; omega
  have hgap : -2 ^ 20 ≤ nv.gap ∧ nv.gap ≤ 2 ^ 20 := by have h1 : 0 ≤ nv.gap ∧ nv.gap ≤ 4 := hcz.2.1; omega
  have hinn : ∀ j ∈ nv.inn.xs, 0 ≤ j ∧ j ≤ (gv.l : Int) := fun j hj => by have := f.2.2.2.2.2 nv.nd (List.mem_of_getElem? endi) j hj; omega
  have hahead : ∀ j ∈ nv.inn.xs, j ∈ (0 :: (ordG gv.gr.nodes).take k : List Int) := fun j hj => ord_ahead hord hkl ex endi hj
  have hne : 1 ≤ nv.inn.xs.length := by have := (chk_ok hchk).2.1; rw [List.length_map] at this; exact this
  have htk : (0 :: (ordG gv.gr.nodes).take (k + 1) : List Int) = (0 :: (ordG gv.gr.nodes).take k) ++ [(i : Int) + 1] := by rw [List.take_succ_eq_append_getElem hkl, ex]; rfl
  have hcost : ((((ordG gv.gr.nodes)[k]?).map (costX gv.gr.nodes)).getD 0) = nv.nd.cost := by
    rw [List.getElem?_eq_getElem hkl, ex]
    show costX _ _ = _
    exact costX_at endi
  have hcle : nv.nd.cost ≤ 2 ^ 40 := by
    unfold Nd.cost
    split
    · have e1 : nv.nd.weights.length = nv.weights.l := nok.2.1.1
      omega
    · omega
  rw [hcost] at H
  have hpk : ∀ V : Int → Int, pickG (vals gv.l V (0 :: (ordG gv.gr.nodes).take k)) nv.inn.xs = nv.inn.xs.map V := fun V => vals_pick fun j hj => ⟨hahead j hj, hinn j hj⟩
  have hlt : ∀ j ∈ nv.inn.xs, 0 ≤ j ∧ j < (gv.l + 1 : Int) := fun j hj => by have := hinn j hj; omega
  obtain ⟨x0, ex0, hx0m⟩ : ∃ x0 : Nat, nv.inn.xs[0]'(by omega) = (x0 : Int) ∧ (x0 : Int) ∈ nv.inn.xs := by
    have hm := List.getElem_mem (l := nv.inn.xs) (n := 0) (by omega)
    have := hinn _ hm
    exact ⟨(nv.inn.xs[0]'(by omega)).toNat, by omega, by rw [show (((nv.inn.xs[0]'(by omega)).toNat : Nat) : Int) = nv.inn.xs[0]'(by omega) by omega]; exact hm⟩
  have hx0 := hinn _ hx0m
  have rget : ∀ (V : Int → Int) (x : Nat), x ≤ gv.l → ((List.range (gv.gr.nodes.length + 1)).map fun x : Nat => V x)[x]? = some (V x) := fun V x hx => by
    rw [List.getElem?_map, List.getElem?_range (by omega)]; rfl
  have hinn0 : ∀ V : Int → Int, (nv.nd.inn.map V).getD 0 0 = V (x0 : Int) := fun V => by
    have e1 : nv.nd.inn = nv.inn.xs := rfl
    rw [e1, getD_eq (by rw [List.length_map]; omega), List.getElem_map, ex0]
  have hci : wei nv.kind → nv.nd.chk [W (x0 : Int)] = 0 := fun hwe => by
    have hlen1 : nv.inn.xs.length = 1 := by
      have := (chk_ok hchk).2.2.2.2.2.2.1 (by
        have hk : nv.nd.kind = nv.kind := rfl
        rw [hk]
        rintro (h | h) <;> rcases hwe with h2 | h2 | h2 <;> omega)
      rw [List.length_map] at this; exact this
    obtain ⟨y, hy⟩ := List.length_eq_one_iff.1 hlen1
    have e1 : nv.nd.inn.map W = [W (x0 : Int)] := by
      have e2 : nv.nd.inn = nv.inn.xs := rfl
      have e3 : (x0 : Int) = y := by rw [hy] at hx0m; simpa using hx0m
      rw [e2, hy, e3]; rfl
    rw [← e1]; exact hchk
  have lW : w.xs.length = w.l := wok.1
  have lR : r.xs.length = r.l := rok.1
  have lO : o.xs.length = o.l := ook.1
  have lenW : w.l = gv.l + 1 := by rw [← lW, hw]; simp [hgn]
  have lenR : r.l = gv.l + 1 := by rw [← lR, hr]; simp [hgn]
  have lenO : o.l = gv.l := by rw [← lO, ho, hord, hgn]
  unfold ref19_Look_l8
  simp only [add_mk, Nat.zero_add]
  refine ifB_true (decide_eq_true (by omega)) ?_
  refine ldSlice_i (p := o.p) (l := o.l) (c := o.c) (S.cell 5 rfl rfl) ?_
  have orow : Row g o.p (ints o.xs) := S.w 2 _ rfl
  obtain ⟨oa, eoa⟩ := orow.some_of (by rw [ints_length]; omega)
  rw [eoa] at orow
  refine idxI_i eoa rfl (by omega) ?_
  simp only [Int.toNat_natCast, Nat.mul_one]
  refine ldInt_i (n := (i : Int) + 1) (orow.cell (ints_get (by rw [ho, List.getElem?_eq_getElem hkl, ex]))) ?_
  have ei : IntKind.wrap .i64 ((i : Int) + 1 - 1) = (i : Int) := by rw [wrap64_in (by omega)]; omega
  rw [ei]
  refine ldSlice_i (p := gv.p) (l := gv.l) (c := gv.c) (S.cell 0 rfl rfl) ?_
  obtain ⟨q, ea⟩ := (S.row 0 rfl).some_of (by rw [nflat_length]; omega)
  have hrow : Row g (some q) (nflat gv.ns) := by rw [← ea]; exact S.row 0 rfl
  refine idxI_i ea rfl (by omega) ?_
  simp only [Int.toNat_natCast]
  refine ldNode hrow en ?_
  refine newI_S S fun b50 g2 _ S => ?_
  dsimp only [List.cons_append, List.nil_append] at S
  refine stL_S S 10 rfl rfl (mkS_one rfl) fun g3 _ S => ?_
  dsimp only [List.set] at S
  refine ldSlice_i (p := some ⟨bR, 0, none⟩) (l := gv.l + 1) (c := gv.l + 1) (S.cell 6 rfl rfl) ?_
  refine idxI_i rfl (k := i + 1) (by omega) (by omega) ?_
  rw [show ((i : Int) + 1).toNat = i + 1 by omega]
  simp only [add_mk, Nat.zero_add, Nat.mul_one]
  refine stI_S S 9 rfl (by rw [ints_length]; omega) fun g4 _ S => ?_
  rw [ints_set'] at S
  dsimp only [List.set] at S
  have hro' : (ro.set (i + 1) 1).length = gv.l + 1 := by rw [List.length_set]; exact hro
  generalize ro.set (i + 1) 1 = ro2 at S hro'
  have nrow : ∀ {g : Heap} {W : List Fact}, Sep h no g W [row gv.p (nflat gv.ns), nrows gv.ns] → nv.rows.P g := fun S => S.r 1 _ rfl _ (List.mem_map_of_mem hmem)
  have irow : ∀ {g : Heap} {W : List Fact}, Sep h no g W [row gv.p (nflat gv.ns), nrows gv.ns] → Row g nv.inn.p (ints nv.inn.xs) := fun S => nrow S nv.inn.row (by simp)
  obtain ⟨ia, eia⟩ := (irow S).some_of (by rw [ints_length]; omega)
  have ldi0 : ∀ {g : Heap} {W : List Fact}, Sep h no g W [row gv.p (nflat gv.ns), nrows gv.ns] → cellH g (ia.add 0) = some (.int .i64 (x0 : Int)) := fun S => by
    have := irow S
    rw [eia] at this
    exact this.cell (i := 0) (ints_get (by rw [List.getElem?_eq_getElem (by omega), ex0]))
  have e01 : (0 : Int).toNat = 0 := rfl
  refine ldSlice_i (p := r.p) (l := r.l) (c := r.c) (S.cell 5 rfl rfl) ?_
  have rrow : ∀ {g : Heap} {X : List Fact}, Sep h no g X [row gv.p (nflat gv.ns), nrows gv.ns] → X[4]? = some (row r.p (ints r.xs)) → Row g r.p (ints r.xs) := fun S e => S.w 4 _ e
  have wrow : ∀ {g : Heap} {X : List Fact}, Sep h no g X [row gv.p (nflat gv.ns), nrows gv.ns] → X[3]? = some (row w.p (ints w.xs)) → Row g w.p (ints w.xs) := fun S e => S.w 3 _ e
  obtain ⟨ra, era⟩ := (rrow S rfl).some_of (by rw [ints_length]; omega)
  obtain ⟨wa, ewa⟩ := (wrow S rfl).some_of (by rw [ints_length]; omega)
  have ldr : ∀ {g : Heap} {X : List Fact} (x : Nat), x ≤ gv.l → Sep h no g X [row gv.p (nflat gv.ns), nrows gv.ns] → X[4]? = some (row r.p (ints r.xs)) → cellH g (ra.add x) = some (.int .i64 (R (x : Int))) := fun x hx S e => by
    have := rrow S e
    rw [era] at this
    exact this.cell (ints_get (by rw [hr]; exact rget R x hx))
  have ldw : ∀ {g : Heap} {X : List Fact} (x : Nat), x ≤ gv.l → Sep h no g X [row gv.p (nflat gv.ns), nrows gv.ns] → X[3]? = some (row w.p (ints w.xs)) → cellH g (wa.add x) = some (.int .i64 (W (x : Int))) := fun x hx S e => by
    have := wrow S e
    rw [ewa] at this
    exact this.cell (ints_get (by rw [hw]; exact rget W x hx))
  refine idxI_i era (k := i + 1) (by omega) (by omega) ?_
  refine ldInt_i (n := R ((i : Int) + 1)) (ldr (i + 1) (by omega) S rfl) ?_
  have ek : IntKind.wrap .i64 ((k : Int) + 1) = ((k + 1 : Nat) : Int) := by rw [wrap64_in (by omega)]; rfl
  have ew : IntKind.wrap .i64 ((mac : Int) + (nv.nd.cost : Int)) = ((mac + nv.nd.cost : Nat) : Int) := by rw [wrap64_in (by omega)]; rfl
  have hmac2 : mac + nv.nd.cost ≤ (k + 1) * 2 ^ 40 := by omega
  -- what comes behind, of both
  have fin : ∀ {g : Heap} {lo hi : List Int} {X : List Fact}, lo = vals gv.l Lo (0 :: (ordG gv.gr.nodes).take (k + 1)) → hi = vals gv.l Hi (0 :: (ordG gv.gr.nodes).take (k + 1)) →
      Sep h no g (F19 gv b1 b3 b12 bS bL bH bR o w r lo hi ro2 (mac : Int) ++ (blk b50 nv.cells :: X)) [row gv.p (nflat gv.ns), nrows gv.ns] →
      ldAg A2 g ⟨b50, 0, none⟩ fun x92 => ldInt .i64 g ⟨bS, 3, none⟩ fun n93 => ldSlice g ⟨b12, 1, none⟩ fun p94 l94 c94 => ldSlice g ⟨b50, 1, none⟩ fun p95 l95 c95 => idxI p95 (0 : Int) l95 fun a96 => ldInt .i64 g (Addr.add a96 ((0 : Int).toNat)) fun n97 =>
        idxI p94 n97 l94 fun a98 => ldInt .i64 g (Addr.add a98 n97.toNat) fun n99 => callInt P .i64 n_ref17_Cost #[(agS A2 x92), (.int .i64 n99)] g fun n101 h100 =>
        cellH h100 ⟨b12, 1, none⟩ = some (.slice p94 l94 c94) ∧ cellH h100 ⟨bS, 3, none⟩ = some (.int .i64 n93) ∧ stI h100 ⟨bS, 3, none⟩ (.int .i64 (IntKind.wrap .i64 (n93 + n101))) fun h102 =>
        K1 (⟨b1, 0, none⟩, ⟨b3, 0, none⟩, ⟨b12, 0, none⟩, (gv.l : Int), ⟨bS, 0, none⟩, (IntKind.wrap .i64 ((k : Int) + (1 : Int))), ()) h102 := by
    intro g lo hi X e1 e2 S
    subst e1 e2
    dsimp only [List.cons_append, List.nil_append] at S
    refine ldAg_S S 10 rfl (x := nv.t) rfl ?_
    refine ldInt_i (n := (mac : Int)) (S.cell 6 rfl rfl) (ldSlice_i (p := w.p) (l := w.l) (c := w.c) (S.cell 5 rfl rfl) (ldSlice_i (p := nv.inn.p) (l := nv.inn.l) (c := nv.inn.c) (S.cell 10 rfl rfl) (idxI_i eia (k := 0) rfl (by omega) ?_)))
    rw [e01]
    refine ldInt_i (ldi0 S) (idxI_i ewa (k := x0) rfl (by omega) ?_)
    simp only [Int.toNat_natCast]
    refine ldInt_i (n := W (x0 : Int)) (ldw x0 (by omega) S rfl) ?_
    refine (Cost17_ok nok (nrow S) (by omega) (by omega) (by omega) hci).mono ?_
    rintro _ g5 ⟨rfl, F⟩
    replace S := S.fra0 F
    refine ⟨_, rfl, S.cell 5 rfl rfl, S.cell 6 rfl rfl, ?_⟩
    refine stI_S S 6 rfl (Nat.le_of_ble_eq_true rfl) fun g6 _ S => ?_
    dsimp only [List.set] at S
    rw [ew] at S
    rw [ek]
    exact H g6 ro2 (mac + nv.nd.cost) hro' rfl hmac2 (S.pw [0, 1, 2, 3, 4, 5, 6, 7, 8, 9])
  have hLo := rc.lo i nv.nd endi
  have hHi := rc.hi i nv.nd endi
  refine ifB_dec (fun hpos => ?_) (fun hpos => ?_)
  · have hpos : 0 < R ((i : Int) + 1) := hpos
    rw [if_pos hpos, hinn0 R] at hLo hHi
    have hRb := (hb (x0 : Int) (by omega) hx0.2).2.2
    refine ldSlice_i (p := r.p) (l := r.l) (c := r.c) (S.cell 5 rfl rfl) (ldSlice_i (p := nv.inn.p) (l := nv.inn.l) (c := nv.inn.c) (S.cell 10 rfl rfl) (idxI_i eia (k := 0) rfl (by omega) ?_))
    rw [e01]
    refine ldInt_i (ldi0 S) (idxI_i era (k := x0) rfl (by omega) ?_)
    simp only [Int.toNat_natCast]
    refine ldInt_i (n := R (x0 : Int)) (ldr x0 (by omega) S rfl) ?_
    refine ldSlice_i (p := some ⟨bL, 0, none⟩) (l := gv.l + 1) (c := gv.l + 1) (S.cell 6 rfl rfl) (ldSlice_i (p := some ⟨bL, 0, none⟩) (l := gv.l + 1) (c := gv.l + 1) (S.cell 6 rfl rfl) (ldSlice_i (p := nv.inn.p) (l := nv.inn.l) (c := nv.inn.c) (S.cell 10 rfl rfl) ?_))
    refine ldAg_S S 10 rfl (x := nv.t) rfl ?_
    refine (of19_ok (Row.of_at (S.at 7 rfl)) (irow S) (vals_length _ _ _) ilen (by omega) (fun j hj => by rw [vals_length]; exact hlt j hj)).mono ?_
    rintro _ g5 ⟨p70, c70, rfl, S1⟩
    rw [hpk Lo] at S1
    replace S := S.add S1 fun _ _ h => h
    dsimp only [List.cons_append, List.nil_append] at S
    refine ⟨_, _, _, rfl, holdW_S S 10 rfl rfl ⟨S.cell 6 rfl rfl, ?_⟩⟩
    have hml : (nv.inn.xs.map Lo).length = nv.inn.l := by rw [List.length_map, ilen]
    have hmh : (nv.inn.xs.map Hi).length = nv.inn.l := by rw [List.length_map, ilen]
    refine (least19_ok (S.own 11 rfl).row hml (by omega) (by omega)).mono ?_
    rintro _ g6 ⟨rfl, hg6⟩
    subst hg6
    refine ⟨_, rfl, holdW_S S 10 rfl rfl ⟨S.cell 10 rfl rfl, S.cell 6 rfl rfl, S.cell 6 rfl rfl, ?_⟩⟩
    refine (Left14_ok nv hsize).mono ?_
    rintro _ g7 ⟨rfl, F⟩
    replace S := S.fra0 F
    refine ⟨_, rfl, S.cell 10 rfl rfl, S.cell 6 rfl rfl, S.cell 6 rfl rfl, ?_⟩
    have eLo : IntKind.wrap .i64 (leastL (nv.inn.xs.map Lo) - IntKind.wrap .i64 (R (x0 : Int) * nv.nd.leftN)) = Lo ((i : Int) + 1) := by
      have m1 : 0 ≤ R (x0 : Int) * nv.nd.leftN ∧ R (x0 : Int) * nv.nd.leftN ≤ 2 ^ 30 * 31 := ⟨Int.mul_nonneg hRb.1 hcz.2.2.1.1, Int.mul_le_mul hRb.2 hcz.2.2.1.2 hcz.2.2.1.1 (by omega)⟩
      have hbx := (hb ((i : Int) + 1) (by omega) (by omega)).1
      have e1 : nv.nd.inn = nv.inn.xs := rfl
      rw [e1] at hLo
      rw [wrap64_in (n := R (x0 : Int) * nv.nd.leftN) (by omega), ← hLo, wrap64_in (by omega)]
    rw [eLo]
    refine idxI_i rfl (k := i + 1) (by omega) (by omega) ?_
    simp only [add_mk, Nat.zero_add]
    refine stI_S S 7 rfl (by rw [ints_length, vals_length]; omega) fun g8 _ S => ?_
    rw [ints_set', vals_set (by omega) rfl, ← htk] at S
    dsimp only [List.set] at S
    refine ldSlice_i (p := some ⟨bH, 0, none⟩) (l := gv.l + 1) (c := gv.l + 1) (S.cell 6 rfl rfl) (ldSlice_i (p := some ⟨bH, 0, none⟩) (l := gv.l + 1) (c := gv.l + 1) (S.cell 6 rfl rfl) (ldSlice_i (p := nv.inn.p) (l := nv.inn.l) (c := nv.inn.c) (S.cell 10 rfl rfl) ?_))
    refine ldAg_S S 10 rfl (x := nv.t) rfl ?_
    refine ldAg_S S 10 rfl (x := nv.t) rfl ?_
    refine (of19_ok (Row.of_at (S.at 8 rfl)) (irow S) (vals_length _ _ _) ilen (by omega) (fun j hj => by rw [vals_length]; exact hlt j hj)).mono ?_
    rintro _ g9 ⟨p83, c83, rfl, S1⟩
    rw [hpk Hi] at S1
    replace S := S.add S1 fun _ _ h => h
    dsimp only [List.cons_append, List.nil_append] at S
    refine ⟨_, _, _, rfl, holdW_S S 10 rfl rfl (holdW_S S 10 rfl rfl ⟨S.cell 6 rfl rfl, ?_⟩)⟩
    refine (most19_ok (S.own 12 rfl).row hmh (by omega) (by omega)).mono ?_
    rintro _ g10 ⟨rfl, hg10⟩
    subst hg10
    refine ⟨_, rfl, holdW_S S 10 rfl rfl (holdW_S S 10 rfl rfl ⟨S.cell 10 rfl rfl, S.cell 6 rfl rfl, S.cell 6 rfl rfl, ?_⟩)⟩
    refine (Span14_ok nv hsize hgap).mono ?_
    rintro _ g11 ⟨rfl, F⟩
    replace S := S.fra0 F
    refine ⟨_, rfl, holdW_S S 10 rfl rfl ⟨S.cell 10 rfl rfl, S.cell 6 rfl rfl, S.cell 6 rfl rfl, ?_⟩⟩
    refine (Left14_ok nv hsize).mono ?_
    rintro _ g12 ⟨rfl, F⟩
    replace S := S.fra0 F
    refine ⟨_, rfl, holdW_S S 10 rfl rfl ⟨S.cell 10 rfl rfl, S.cell 6 rfl rfl, S.cell 6 rfl rfl, ?_⟩⟩
    have eHi : IntKind.wrap .i64 (mostL (nv.inn.xs.map Hi) + IntKind.wrap .i64 (R (x0 : Int) * IntKind.wrap .i64 (IntKind.wrap .i64 (nv.nd.span - 1) - nv.nd.leftN))) = Hi ((i : Int) + 1) := by
      have hz4 := hcz.2.2.2.1
      have hz5 := hcz.2.2.2.2.1
      have hz3 := hcz.2.2.1
      have m1 : 0 ≤ R (x0 : Int) * (nv.nd.span - 1 - nv.nd.leftN) ∧ R (x0 : Int) * (nv.nd.span - 1 - nv.nd.leftN) ≤ 2 ^ 30 * 31 := ⟨Int.mul_nonneg hRb.1 hz4.1, Int.mul_le_mul hRb.2 hz4.2 hz4.1 (by omega)⟩
      have hbx := (hb ((i : Int) + 1) (by omega) (by omega)).2.1
      have e1 : nv.nd.inn = nv.inn.xs := rfl
      rw [e1] at hHi
      rw [wrap64_in (n := nv.nd.span - 1) (by omega), wrap64_in (n := nv.nd.span - 1 - nv.nd.leftN) (by omega), wrap64_in (n := R (x0 : Int) * (nv.nd.span - 1 - nv.nd.leftN)) (by omega), ← hHi, wrap64_in (by omega)]
    rw [eHi]
    refine idxI_i rfl (k := i + 1) (by omega) (by omega) ?_
    simp only [add_mk, Nat.zero_add]
    refine stI_S S 8 rfl (by rw [ints_length, vals_length]; omega) fun g13 _ S => ?_
    rw [ints_set', vals_set (by omega) rfl, ← htk] at S
    dsimp only [List.set] at S
    exact fin (X := _) rfl rfl S
  · have hz : R ((i : Int) + 1) = 0 := by
      have := (hb ((i : Int) + 1) (by omega) (by omega)).2.2; omega
    rw [if_neg (by omega)] at hLo hHi
    exact fin (X := []) (by rw [htk, vals_skip hLo]) (by rw [htk, vals_skip hHi]) S
end
end Go.Proofs.YtbgplllcjhgdhaaDoor.G
