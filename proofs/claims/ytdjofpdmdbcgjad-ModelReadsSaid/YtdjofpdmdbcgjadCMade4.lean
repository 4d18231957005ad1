/- Contracts: the document's graphs of plain numbers: turned. -/
import Derived.Test.YtdjofpdmdbcgjadCMade3
namespace Go.Proofs.Ytdjofpdmdbcgjad.G
open Go Go.Sh
set_option linter.unusedVariables false
set_option linter.unusedSimpArgs false

def turnX (n : Nat) (x : Int) : Int := if x > 0 then (n : Int) + 1 - x else x
def turnN (n : Nat) (nd : Nd) : Nd := {nd with inn := nd.inn.map (turnX n)}
/-- A graph whose nodes are numbered the other way round. -/
def Gr.turned (g : Gr) : Gr := ⟨g.width, g.low, g.high, (g.nodes.map (turnN g.nodes.length)).reverse, (g.nodes.length : Int) + 1 - g.out⟩

theorem reads_get {l : List Fact} {h : Heap} (H : (reads l).P h) {f : Fact} (hf : f ∈ l) : f.P h := H f hf
theorem nrows_of {ns : List Nv} {h : Heap} (hi : ∀ n ∈ ns, n.inn.row.P h) (hw : ∀ n ∈ ns, n.weights.row.P h ∧ n.bias.row.P h) : (nrows ns).P h := by
  intro f hf
  obtain ⟨n, hn, rfl⟩ := List.mem_map.1 hf
  intro g hg
  simp only [List.mem_cons, List.not_mem_nil, or_false] at hg
  rcases hg with rfl | rfl | rfl
  · exact hi n hn
  · exact (hw n hn).1
  · exact (hw n hn).2

section
variable {h : Heap} {T : Nat → Prop} {R : List Fact}

set_option maxHeartbeats 1000000 in
theorem turned_S {g : Gv} (S : Sep h T h [own 15 g.p g.l g.c (nflat g.ns), nrows g.ns] R) (hok : ∀ n ∈ g.ns, n.ok) (hl : g.l ≤ 100) (hgl : g.ns.length = g.l) (hs : ∀ n ∈ g.ns, n.inn.l ≤ 2 ^ 20 ∧ n.weights.l ≤ 2 ^ 20 ∧ n.bias.l ≤ 2 ^ 20)
    (hin : ∀ n ∈ g.ns, ∀ x ∈ n.inn.xs, 0 ≤ x ∧ x ≤ 2 ^ 20) (hout : 0 ≤ g.out ∧ g.out ≤ 2 ^ 20) :
    callP P n_ref15_turned #[g.v] h fun v h' => ∃ g' : Gv, v = g'.v ∧ g'.ok ∧ g'.gr = g.gr.turned ∧ (∀ n ∈ g'.ns, n.inn.l ≤ 2 ^ 20 ∧ n.weights.l ≤ 2 ^ 20 ∧ n.bias.l ≤ 2 ^ 20) ∧ Sep h T h' [own 15 g'.p g'.l g'.c (nflat g'.ns), nrows g'.ns] R := by
  refine call_ref15_turned _ ?_
  unfold ref15_turned
  refine newI_S (cs := g.cells) S fun b1 h1 _ S => ?_
  refine newI_S S fun b3 h2 _ S => ?_
  dsimp only [List.cons_append, List.nil_append] at S
  (repeat (first | ((with_reducible refine ldInt_id ?_); refine ldInt_i (S.cell 2 rfl rfl) ?_) | ((with_reducible refine ldSlice_id ?_); refine ldSlice_i (S.cell 2 rfl rfl) ?_)))
  try dsimp only [Gv.t]
  refine newI_S S fun b10 h3 _ S => ?_
  dsimp only [List.cons_append, List.nil_append] at S
  rw [wrap64_in (n := ((g.l : Nat) : Int) + 1) (by omega), wrap64_in (n := ((g.l : Nat) : Int) + 1 - g.out) (by omega)]
  refine stL_S S 4 rfl rfl (mkS_one (l := grSh) (x := (⟨g.width, g.low, g.high, none, 0, 0, ((g.l : Nat) : Int) + 1 - g.out, []⟩ : Gv).t) rfl) fun h8 _ S => ?_
  have S2 : Sep h T h8 [own 15 g.p g.l g.c (nflat g.ns), nrows g.ns, blk b1 g.cells, blk b3 (mkS' grSh (zT grSh)), blk b10 (⟨g.width, g.low, g.high, none, 0, 0, ((g.l : Nat) : Int) + 1 - g.out, []⟩ : Gv).cells] R := S
  clear S
  have S := (S2.nil 15).reads0
  clear S2
  dsimp only [List.cons_append, List.nil_append] at S
  refine LoopS_i (fun m s g2 => ∃ (i : Nat) (q : Option Addr) (k d : Nat) (news : List Nv), s = (⟨b1, 0, none⟩, ⟨b3, 0, none⟩, (g.l : Int), ⟨b10, 0, none⟩, (i : Int), ()) ∧ i ≤ g.l ∧ i = m ∧ news.length = g.l - i ∧ k = g.l - i ∧
    news.map Nv.nd = ((g.ns.drop i).map fun n => turnN g.l n.nd).reverse ∧ (∀ n ∈ news, n.ok ∧ n.inn.l ≤ 2 ^ 20 ∧ n.weights.l ≤ 2 ^ 20 ∧ n.bias.l ≤ 2 ^ 20 ∧ ∃ o ∈ g.ns, n.weights = o.weights ∧ n.bias = o.bias) ∧
    Sep h T g2 [own 15 g.p g.l g.c (nflat g.ns), nrows g.ns, blk b1 g.cells, blk b3 (mkS' grSh (zT grSh)), blk b10 (⟨g.width, g.low, g.high, q, k, d, ((g.l : Nat) : Int) + 1 - g.out, []⟩ : Gv).cells, own 15 q k d (nflat news), reads (news.map fun n => n.inn.row)] R) g.l
    ⟨g.l, none, 0, 0, [], rfl, by omega, rfl, by simp, by omega, by rw [List.drop_of_length_le (by omega)]; rfl, (by intro n hn; cases hn), S⟩ ?_
  clear S
  rintro m s g2 ⟨i, q, k, d, news, rfl, hi, rfl, hnl, hk, hmap, hall, S⟩
  unfold ref15_turned_l4
  dsimp only
  refine ifB_dec (fun hge => ?_) (fun hlt => ?_)
  · obtain ⟨j, rfl⟩ : ∃ j, i = j + 1 := ⟨i - 1, by omega⟩
    have hj : j < g.ns.length := by omega
    have ej : IntKind.wrap .i64 (((j + 1 : Nat) : Int) - 1) = (j : Int) := by rw [wrap64_in (by omega)]; omega
    rw [ej]
    (repeat (first | ((with_reducible refine ldSlice_id ?_); refine ldSlice_i (S.cell 2 rfl rfl) ?_)))
    try dsimp only [Gv.t]
    have hrow := (S.own 0 rfl).row
    obtain ⟨aa, ea⟩ := hrow.some_of (by rw [nflat_length]; omega)
    rw [ea] at hrow
    refine idxI_i ea rfl (by omega) ?_
    simp only [Int.toNat_natCast]
    refine ldNode hrow (List.getElem?_eq_getElem hj) ?_
    have hmem : g.ns[j] ∈ g.ns := List.getElem_mem hj
    have edrop : g.ns.drop j = g.ns[j] :: g.ns.drop (j + 1) := List.drop_eq_getElem_cons hj
    generalize g.ns[j] = nv at hmem edrop
    obtain ⟨nok1, nok2, nok3⟩ := hok nv hmem
    obtain ⟨ns1, ns2, ns3⟩ := hs nv hmem
    refine newI_S S fun b21 h1 _ S => ?_
    refine stL_S S 7 rfl rfl (mkS_one rfl) fun h2 _ S => ?_
    refine newI_S (cs := []) S fun b24 h3 _ S => ?_
    dsimp only [List.set, List.cons_append, List.nil_append] at S
    refine ldSlice_i (p := nv.inn.p) (l := nv.inn.l) (c := nv.inn.c) (S.cell 7 rfl rfl) ?_
    replace S := S.toOwn 8 1 0 0 rfl (Nat.le_refl _)
    dsimp only [List.set] at S
    have hir : Row h3 nv.inn.p (ints nv.inn.xs) := (S.w 1 _ rfl) nv.rows (List.mem_map.2 ⟨nv, hmem, rfl⟩) nv.inn.row (by simp)
    refine appI_S S 8 (ys := ints nv.inn.xs) rfl rfl (by decide) (by omega) hir (by rw [ints_length, Nat.mul_one]; exact nok1.1) vals_one fun p' l' c' h' hl' S => ?_
    dsimp only [List.set, List.take, List.nil_append, Nat.zero_mul] at S
    have hl'' : l' = nv.inn.xs.length := by rw [nok1.1]; omega
    refine LoopS_i (fun m s g3 => ∃ (x : Nat), s = (⟨b1, 0, none⟩, ⟨b3, 0, none⟩, (g.l : Int), ⟨b10, 0, none⟩, ((j + 1 : Nat) : Int), ⟨b21, 0, none⟩, (p', l', c'), (x : Int), ()) ∧ x ≤ l' ∧ m = l' - x ∧
      Sep h T g3 [own 15 g.p g.l g.c (nflat g.ns), nrows g.ns, blk b1 g.cells, blk b3 (mkS' grSh (zT grSh)), blk b10 (⟨g.width, g.low, g.high, q, k, d, ((g.l : Nat) : Int) + 1 - g.out, []⟩ : Gv).cells, own 15 q k d (nflat news), reads (news.map fun n => n.inn.row),
        blk b21 nv.cells, own 1 p' l' c' (ints ((nv.inn.xs.take x).map (turnX g.l) ++ nv.inn.xs.drop x))] R) l' ⟨0, rfl, by omega, rfl, S⟩ ?_
    clear S hir
    rintro m s g3 ⟨x, rfl, hx, rfl, S⟩
    unfold ref15_turned_l9
    dsimp only
    refine ifB_dec (fun hlt => ?_) (fun hge2 => ?_)
    · have hxl : x < nv.inn.xs.length := by omega
      have hlen : ((nv.inn.xs.take x).map (turnX g.l) ++ nv.inn.xs.drop x).length = l' := by simp; omega
      have hgx : ((nv.inn.xs.take x).map (turnX g.l) ++ nv.inn.xs.drop x)[x]? = some nv.inn.xs[x] := by
        rw [List.getElem?_append_right (by simp; omega)]
        simp only [List.length_map, List.length_take, Nat.min_eq_left (Nat.le_of_lt hxl), Nat.sub_self, List.getElem?_drop, Nat.add_zero]
        exact List.getElem?_eq_getElem hxl
      obtain ⟨ap, rfl⟩ := (S.own 8 rfl).row.some_of (by rw [ints_length]; omega)
      have hxr := hin nv hmem _ (List.getElem_mem hxl)
      have hcell := (S.own 8 rfl).row.cell (ints_get hgx)
      have next : ∀ g4 ys, ys = (nv.inn.xs.take (x + 1)).map (turnX g.l) ++ nv.inn.xs.drop (x + 1) → Sep h T g4 [own 15 g.p g.l g.c (nflat g.ns), nrows g.ns, blk b1 g.cells, blk b3 (mkS' grSh (zT grSh)), blk b10 (⟨g.width, g.low, g.high, q, k, d, ((g.l : Nat) : Int) + 1 - g.out, []⟩ : Gv).cells, own 15 q k d (nflat news), reads (news.map fun n => n.inn.row), blk b21 nv.cells, own 1 (some ap) l' c' (ints ys)] R →
          ∃ m, m < l' - x ∧ ∃ x' : Nat, (((⟨b1, 0, none⟩ : Addr), (⟨b3, 0, none⟩ : Addr), (g.l : Int), (⟨b10, 0, none⟩ : Addr), ((j + 1 : Nat) : Int), (⟨b21, 0, none⟩ : Addr), (some ap, l', c'), (x : Int) + 1, ()) : Addr × Addr × Int × Addr × Int × Addr × (Option Addr × Nat × Nat) × Int × Unit) = (⟨b1, 0, none⟩, ⟨b3, 0, none⟩, (g.l : Int), ⟨b10, 0, none⟩, ((j + 1 : Nat) : Int), ⟨b21, 0, none⟩, (some ap, l', c'), (x' : Int), ()) ∧ x' ≤ l' ∧ m = l' - x' ∧
            Sep h T g4 [own 15 g.p g.l g.c (nflat g.ns), nrows g.ns, blk b1 g.cells, blk b3 (mkS' grSh (zT grSh)), blk b10 (⟨g.width, g.low, g.high, q, k, d, ((g.l : Nat) : Int) + 1 - g.out, []⟩ : Gv).cells, own 15 q k d (nflat news), reads (news.map fun n => n.inn.row), blk b21 nv.cells, own 1 (some ap) l' c' (ints ((nv.inn.xs.take x').map (turnX g.l) ++ nv.inn.xs.drop x'))] R :=
        fun g4 ys hy S => ⟨l' - (x + 1), by omega, x + 1, rfl, by omega, rfl, by rw [← hy]; exact S⟩
      have estep : ∀ v, v = turnX g.l nv.inn.xs[x] → ((nv.inn.xs.take x).map (turnX g.l) ++ nv.inn.xs.drop x).set x v = (nv.inn.xs.take (x + 1)).map (turnX g.l) ++ nv.inn.xs.drop (x + 1) := by
        rintro v rfl
        rw [List.set_append_right _ _ (by simp; omega)]
        simp only [List.length_map, List.length_take, Nat.min_eq_left (Nat.le_of_lt hxl), Nat.sub_self]
        rw [List.drop_eq_getElem_cons hxl, List.set_cons_zero, List.take_succ_eq_append_getElem hxl, List.map_append, List.append_assoc]; rfl
      refine idxI_i rfl rfl (by omega) ?_
      simp only [Int.toNat_natCast, Nat.mul_one]
      refine ldInt_i hcell ?_
      rw [wrap64_in (n := (x : Int) + 1) (by omega)]
      refine ifB_dec (fun hpos => ?_) (fun hneg => next _ _ ?_ S)
      · refine idxI_i rfl rfl (by omega) ?_
        refine ldInt_i hcell (idxI_i rfl rfl (by omega) ?_)
        rw [wrap64_in (n := ((g.l : Nat) : Int) + 1) (by omega), wrap64_in (n := ((g.l : Nat) : Int) + 1 - nv.inn.xs[x]) (by omega)]
        refine stO_S S 8 rfl (by rw [ints_length]; omega) fun h2 _ S => ?_
        dsimp only [List.set] at S
        have e : ∀ zs : List Int, (ints zs).set x (.int .i64 (((g.l : Nat) : Int) + 1 - nv.inn.xs[x])) = ints (zs.set x (((g.l : Nat) : Int) + 1 - nv.inn.xs[x])) := fun zs => by simp [ints, List.map_set]
        rw [e] at S
        exact next _ _ (estep _ (by unfold turnX; rw [if_pos hpos])) S
      · rw [← estep nv.inn.xs[x] (by unfold turnX; rw [if_neg hneg])]
        apply List.ext_getElem?
        intro y
        by_cases hy : y = x
        · subst hy; rw [List.getElem?_set_self (by omega), hgx]
        · rw [List.getElem?_set_ne (Ne.symm hy)]
    · have hxe : x = l' := by omega
      rw [hxe, List.take_of_length_le (by omega), List.drop_of_length_le (by omega), List.append_nil] at S
      refine stI_S S 7 rfl (k := 1) (Nat.le_of_ble_eq_true rfl) fun h2 _ S => ?_
      have hsl := own_sl (i := 8) S rfl
      replace S := own_row (i := 8) S rfl
      generalize hinn : (Sl.mk p' l' c' (nv.inn.xs.map (turnX g.l))) = inn at S hsl
      have S2 : Sep h T h2 [own 15 g.p g.l g.c (nflat g.ns), nrows g.ns, blk b1 g.cells, blk b3 (mkS' grSh (zT grSh)), blk b10 (⟨g.width, g.low, g.high, q, k, d, ((g.l : Nat) : Int) + 1 - g.out, []⟩ : Gv).cells, own 15 q k d (nflat news), reads (news.map fun n => n.inn.row),
        blk b21 ({nv with inn := inn} : Nv).cells, inn.row] R := by rw [← hinn]; rw [← hinn] at S; exact S
      clear S
      have S := S2
      clear S2
      refine ldSlice_i (p := q) (l := k) (c := d) (S.cell 4 rfl rfl) ?_
      refine ldAg_S S 7 rfl (x := ({nv with inn := inn} : Nv).t) rfl ?_
      refine newI_S S fun b39 h3 _ S => ?_
      dsimp only [List.cons_append, List.nil_append] at S
      refine appI_S S 5 (ys := ({nv with inn := inn} : Nv).cells) rfl rfl (by decide) (by omega) (Row.of_at (S.at 9 rfl)) rfl (mkS_one rfl) fun p2 l2 c2 h4 hl2 S => ?_
      dsimp only [List.set] at S
      refine stI_S S 4 rfl (k := 3) (Nat.le_of_ble_eq_true rfl) fun h5 _ S => ?_
      rw [wrap64_in (by omega)]
      have eji : ((j + 1 : Nat) : Int) - 1 = (j : Int) := by omega
      rw [eji]
      have S3 := S.joinR [0, 1, 2, 3, 4, 5] 6 8 rfl rfl
      refine ⟨j, by omega, j, p2, l2, c2, news ++ [{nv with inn := inn}], rfl, by omega, rfl, by simp; omega, by omega, ?_, ?_, ?_⟩
      · rw [edrop, List.map_append, hmap]
        simp only [List.map_cons, List.map_nil, List.reverse_cons]
        congr 2
        rw [← hinn]; rfl
      · intro n hn
        rcases List.mem_append.1 hn with hn | hn
        · exact hall n hn
        · simp only [List.mem_singleton] at hn; subst hn
          exact ⟨⟨hsl, nok2, nok3⟩, by rw [← hinn]; show l' ≤ _; omega, ns2, ns3, nv, hmem, rfl, rfl⟩
      · rw [nflat_append, List.map_append]
        have en : nflat [({nv with inn := inn} : Nv)] = ({nv with inn := inn} : Nv).cells := by simp [nflat]
        rw [en]
        exact S3
  · have hi0 : i = 0 := by omega
    subst hi0
    have c0 : cellH g2 ⟨b10, 0, none⟩ = some (.int .i64 g.width) := S.cell 4 rfl rfl
    have c1 : cellH g2 (Addr.add ⟨b10, 0, none⟩ 1) = some (.int .i64 g.low) := S.cell 4 rfl rfl
    have c2 : cellH g2 (Addr.add ⟨b10, 0, none⟩ 2) = some (.int .i64 g.high) := S.cell 4 rfl rfl
    have S4 := S.join [5] [1, 6]
    dsimp only [Sh.pick, List.getElem?_cons_zero, List.getElem?_cons_succ, List.cons_append, List.nil_append] at S4
    have hnl0 : news.length = g.l := by omega
    have hk0 : k = g.l := by omega
    have done : ∀ g3, Sep h T g3 [own 15 q k d (nflat news), reads [nrows g.ns, reads (news.map fun n => n.inn.row)]] R → ∃ g' : Gv, (⟨g.width, g.low, g.high, q, k, d, ((g.l : Nat) : Int) + 1 - g.out, news⟩ : Gv).v = g'.v ∧ g'.ok ∧ g'.gr = g.gr.turned ∧ (∀ n ∈ g'.ns, n.inn.l ≤ 2 ^ 20 ∧ n.weights.l ≤ 2 ^ 20 ∧ n.bias.l ≤ 2 ^ 20) ∧ Sep h T g3 [own 15 g'.p g'.l g'.c (nflat g'.ns), nrows g'.ns] R := by
      intro g3 S
      refine ⟨⟨g.width, g.low, g.high, q, k, d, ((g.l : Nat) : Int) + 1 - g.out, news⟩, rfl, ⟨by show news.length = k; omega, (S.own 0 rfl).2.1, fun n hn => (hall n hn).1⟩, ?_, fun n hn => ⟨(hall n hn).2.1, (hall n hn).2.2.1, (hall n hn).2.2.2.1⟩, ?_⟩
      · have hgn : g.gr.nodes.length = g.l := by simp [Gv.gr]; omega
        show (⟨g.width, g.low, g.high, news.map Nv.nd, ((g.l : Nat) : Int) + 1 - g.out⟩ : Gr) = _
        rw [hmap, List.drop_zero]
        unfold Gr.turned
        rw [hgn]
        simp only [Gv.gr, List.map_map]
        rfl
      · refine S.turn 1 rfl (nrows news) (fun H => nrows_of (fun n hn => reads_get (reads_get H (f := reads (news.map fun n => n.inn.row)) (by simp)) (List.mem_map.2 ⟨n, hn, rfl⟩)) (fun n hn => ?_)) (fun b ⟨f, hf, hb⟩ => ?_)
        · obtain ⟨_, _, _, _, o, ho, e1, e2⟩ := hall n hn
          have := reads_get (reads_get H (f := nrows g.ns) (by simp)) (f := o.rows) (List.mem_map.2 ⟨o, ho, rfl⟩)
          rw [e1, e2]
          exact ⟨reads_get this (by simp), reads_get this (by simp)⟩
        · obtain ⟨n, hn, rfl⟩ := List.mem_map.1 hf
          obtain ⟨_, _, _, _, o, ho, e1, e2⟩ := hall n hn
          obtain ⟨f2, hf2, hb⟩ := hb
          simp only [List.mem_cons, List.not_mem_nil, or_false] at hf2
          rcases hf2 with rfl | rfl | rfl
          · exact ⟨_, List.mem_cons_of_mem _ (List.mem_singleton.2 rfl), _, List.mem_map.2 ⟨n, hn, rfl⟩, hb⟩
          · rw [e1] at hb; exact ⟨_, List.mem_cons_self, o.rows, List.mem_map.2 ⟨o, ho, rfl⟩, _, by simp, hb⟩
          · rw [e2] at hb; exact ⟨_, List.mem_cons_self, o.rows, List.mem_map.2 ⟨o, ho, rfl⟩, _, by simp, hb⟩
    refine ldAg_S S 4 rfl (x := (⟨g.width, g.low, g.high, q, k, d, ((g.l : Nat) : Int) + 1 - g.out, []⟩ : Gv).t) rfl ?_
    refine stL_S S 3 rfl rfl (mkS_one rfl) fun g3 _ S => ?_
    dsimp only [List.set] at S
    refine ldAg_S S 3 rfl (x := (⟨g.width, g.low, g.high, q, k, d, ((g.l : Nat) : Int) + 1 - g.out, []⟩ : Gv).t) rfl ?_
    have S5 := S.join [5] [1, 6]
    exact done g3 S5
end

end Go.Proofs.Ytdjofpdmdbcgjad.G
