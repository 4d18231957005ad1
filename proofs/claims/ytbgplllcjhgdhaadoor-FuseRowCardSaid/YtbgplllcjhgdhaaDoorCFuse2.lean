/- Contracts: the program's fuse: own. -/
import Derived.Test.YtbgplllcjhgdhaaDoorCFuse
namespace Go.Proofs.YtbgplllcjhgdhaaDoor.G
open Go Go.Sh
set_option linter.unusedVariables false
set_option linter.unusedSimpArgs false

def wbs (ns : List Nv) : List Fact := ns.flatMap fun n => [n.weights.own, n.bias.own]
theorem wbs_snoc (ns : List Nv) (n : Nv) : wbs (ns ++ [n]) = wbs ns ++ [n.weights.own] ++ [n.bias.own] := by simp [wbs]
theorem Sl.own_row {s : Sl} {h : Heap} (o : s.own.P h) : Row h s.p (ints s.xs) := Own.row o

section
variable {h : Heap}

theorem own_ok {gv : Gv} (hok : gv.ok) (hn : Row h gv.p (nflat gv.ns)) (hr : (nrows gv.ns).P h) (hl : gv.l < 2 ^ 20) (hs : ∀ n ∈ gv.ns, n.inn.l < 2 ^ 40 ∧ n.weights.l < 2 ^ 40 ∧ n.bias.l < 2 ^ 40) :
    callP P n_fuse_own #[gv.v] h fun v h' => ∃ gv' : Gv, v = gv'.v ∧ gv'.gr = gv.gr ∧ gv'.ok ∧ gv'.l = gv.l ∧ Sep h no h' [own 15 gv'.p gv'.l gv'.c (nflat gv'.ns), owns (gv'.ns.map Nv.inn), reads (wbs gv'.ns)] [] := by
  refine call_fuse_own _ ?_
  unfold fuse_own
  have hgl := hok.1
  have S := ((Sep.start h no).read (row gv.p (nflat gv.ns)) hn).read (nrows gv.ns) hr
  refine newI_S (cs := gv.cells) S fun b1 h1 _ S => ?_
  dsimp only [List.nil_append, List.cons_append] at S
  refine newI_S S fun b3 h2 _ S => ?_
  dsimp only [List.nil_append, List.cons_append] at S
  refine ldSlice_i (p := gv.p) (l := gv.l) (c := gv.c) (S.cell 0 rfl rfl) ?_
  refine (CloneN_ok (S.row 0 rfl) hgl hl).mono ?_
  rintro _ g3 ⟨p7, c7, rfl, S1⟩
  replace S := S.add S1 fun _ _ h => h
  dsimp only [List.nil_append, List.cons_append] at S
  refine ⟨_, _, _, rfl, ?_⟩
  refine stI_S S 0 rfl (Nat.le_of_ble_eq_true rfl) fun g4 _ S => ?_
  dsimp only [List.set] at S
  refine ldSlice_i (p := p7) (l := gv.l) (c := c7) (S.cell 0 rfl rfl) ?_
  replace S := (owns0_S S).reads0
  dsimp only [List.nil_append, List.cons_append] at S
  refine LoopS_i (fun mm s g => ∃ (i : Nat) (ms : List Nv), s = (⟨b1, 0, none⟩, ⟨b3, 0, none⟩, (gv.l : Int), (i : Int), ()) ∧ i ≤ gv.l ∧ mm = gv.l - i ∧ ms.map Nv.nd = gv.ns.map Nv.nd ∧ ms.drop i = gv.ns.drop i ∧ (∀ n ∈ ms, n.ok) ∧
    Sep h no g [blk b1 ({ gv with p := p7, c := c7 } : Gv).cells, blk b3 (mkS' grSh (zT grSh)), own 15 p7 gv.l c7 (nflat ms), owns ((ms.take i).map Nv.inn), reads (wbs (ms.take i))] [row gv.p (nflat gv.ns), nrows gv.ns]) gv.l ⟨0, gv.ns, rfl, by omega, rfl, rfl, rfl, hok.2.2, S⟩ ?_
  clear S
  rintro mm s g ⟨i, ms, rfl, hi, rfl, hnd, hdr, hmo, S⟩
  have hml : ms.length = gv.l := by rw [← hgl]; have := congrArg List.length hnd; simpa using this
  unfold fuse_own_l3
  simp only [nilI_iff, add_mk, Nat.zero_add]
  refine ifB_dec (fun hlt => ?_) (fun hge => ?_)
  · have him : i < ms.length := by omega
    have hig : i < gv.ns.length := by omega
    obtain ⟨nv, en⟩ : ∃ n, gv.ns[i]? = some n := ⟨_, List.getElem?_eq_getElem hig⟩
    have enm : ms[i]? = some nv := by
      have := congrArg (fun z : List Nv => z[0]?) hdr
      simp only [List.getElem?_drop, Nat.add_zero] at this
      rw [this]; exact en
    have hmem := List.mem_of_getElem? en
    have nok := hok.2.2 nv hmem
    have hsz := hs nv hmem
    refine ldSlice_i (p := p7) (l := gv.l) (c := c7) (S.cell 0 rfl rfl) ?_
    obtain ⟨b, eb⟩ : ∃ b, p7 = some ⟨b, 0, none⟩ := by
      obtain ⟨_, _, ⟨_, h0, _⟩ | ⟨b, cs, e, _⟩⟩ := S.own 2 rfl
      · omega
      · exact ⟨b, e⟩
    subst eb
    refine idxI_i rfl rfl (by omega) ?_
    simp only [Int.toNat_natCast, add_mk, Nat.zero_add]
    have ld : ∀ {g : Heap} {W : List Fact} {k : Nat} {j : Nat} {v : Value}, Sep h no g W [row gv.p (nflat gv.ns), nrows gv.ns] → W[k]? = some (own 15 (some ⟨b, 0, none⟩) gv.l c7 (nflat ms)) → j < 15 → nv.cells[j]? = some v → cellH g ⟨b, i * 15 + j, none⟩ = some v := fun S e hj hv => by
      have := (S.own _ e).row.cell (i := i * 15 + _) (by rw [nflat_at enm hj]; exact hv)
      rw [add_mk, Nat.zero_add] at this
      exact this
    refine ldSlice_i (p := nv.inn.p) (l := nv.inn.l) (c := nv.inn.c) (ld S (k := 2) rfl (by decide) rfl) (ldSlice_i (p := nv.weights.p) (l := nv.weights.l) (c := nv.weights.c) (ld S (k := 2) rfl (by decide) rfl) (ldSlice_i (p := nv.bias.p) (l := nv.bias.l) (c := nv.bias.c) (ld S (k := 2) rfl (by decide) rfl) ?_))
    have nrow : ∀ {g : Heap} {W : List Fact}, Sep h no g W [row gv.p (nflat gv.ns), nrows gv.ns] → nv.rows.P g := fun S => S.r 1 _ rfl _ (List.mem_map_of_mem hmem)
    refine (CloneI_ok (nrow S nv.inn.row (by simp)) nok.1.1 hsz.1).mono ?_
    rintro _ g5 ⟨p20, c20, rfl, S1⟩
    replace S := S.add S1 fun _ _ h => h
    dsimp only [List.nil_append, List.cons_append] at S
    refine ⟨_, _, _, rfl, and_i (ld S (k := 2) rfl (by decide) rfl) (and_i (ld S (k := 2) rfl (by decide) rfl) ?_)⟩
    refine (CloneI_ok (nrow S nv.weights.row (by simp)) nok.2.1.1 hsz.2.1).mono ?_
    rintro _ g6 ⟨p22, c22, rfl, S1⟩
    replace S := S.add S1 fun _ _ h => h
    dsimp only [List.nil_append, List.cons_append] at S
    refine ⟨_, _, _, rfl, and_i (ld S (k := 2) rfl (by decide) rfl) (and_i (ld S (k := 2) rfl (by decide) rfl) ?_)⟩
    refine (CloneI_ok (nrow S nv.bias.row (by simp)) nok.2.2.1 hsz.2.2).mono ?_
    rintro _ g7 ⟨p24, c24, rfl, S1⟩
    replace S := S.add S1 fun _ _ h => h
    dsimp only [List.nil_append, List.cons_append] at S
    refine ⟨_, _, _, rfl, and_i (ld S (k := 2) rfl (by decide) rfl) (and_i (ld S (k := 2) rfl (by decide) rfl) ?_)⟩
    have st : ∀ {g : Heap} {W : List Fact} {ms : List Nv} {n n' : Nv} {j : Nat} {v : Value} {K : Heap → Prop}, Sep h no g W [row gv.p (nflat gv.ns), nrows gv.ns] → W[2]? = some (own 15 (some ⟨b, 0, none⟩) gv.l c7 (nflat ms)) → ms[i]? = some n → j < 15 → n.cells.set j v = n'.cells →
        (∀ g', Sep h no g' (W.set 2 (own 15 (some ⟨b, 0, none⟩) gv.l c7 (nflat (ms.set i n')))) [row gv.p (nflat gv.ns), nrows gv.ns] → K g') → stI g ⟨b, i * 15 + j, none⟩ v K := by
      intro g W ms n n' j v K S e hm hj q H
      have hkm : i < ms.length := (List.getElem?_eq_some_iff.1 hm).1
      have := stO_S S 2 (K := K) (v := v) e (k := i * 15 + j) (by rw [nflat_length]; omega) fun g' _ S' => H g' (by rw [nflat_setc hm hj q] at S'; exact S')
      rw [add_mk, Nat.zero_add] at this
      exact this
    refine st S rfl enm (by decide) (set_inn nv ⟨p20, nv.inn.l, c20, nv.inn.xs⟩) fun g8 S => ?_
    dsimp only [List.set] at S
    refine st S rfl (by rw [List.getElem?_set_self him]) (by decide) (set_weights _ ⟨p22, nv.weights.l, c22, nv.weights.xs⟩) fun g9 S => ?_
    dsimp only [List.set] at S
    refine st S rfl (by rw [List.set_set, List.getElem?_set_self him]) (by decide) (set_bias _ ⟨p24, nv.bias.l, c24, nv.bias.xs⟩) fun g10 S => ?_
    dsimp only [List.set] at S
    rw [List.set_set, List.set_set] at S
    obtain ⟨n3, en3⟩ : ∃ n3 : Nv, n3 = { nv with inn := ⟨p20, nv.inn.l, c20, nv.inn.xs⟩, weights := ⟨p22, nv.weights.l, c22, nv.weights.xs⟩, bias := ⟨p24, nv.bias.l, c24, nv.bias.xs⟩ } := ⟨_, rfl⟩
    have eo1 := (S.own 5 rfl).2.1
    have eo2 := (S.own 6 rfl).2.1
    have eo3 := (S.own 7 rfl).2.1
    have S' : Sep h no g10 [blk b1 ({ gv with p := some ⟨b, 0, none⟩, c := c7 } : Gv).cells, blk b3 (mkS' grSh (zT grSh)), own 15 (some ⟨b, 0, none⟩) gv.l c7 (nflat (ms.set i n3)), owns ((ms.take i).map Nv.inn), reads (wbs (ms.take i)), n3.inn.own, n3.weights.own, n3.bias.own] [row gv.p (nflat gv.ns), nrows gv.ns] := by rw [en3]; exact S
    have S2 := joinO_S S' [0, 1, 2, 4, 6, 7] 3 5 rfl rfl
    have S3 := S2.joinR [0, 1, 2, 5, 6] 3 4 rfl rfl
    have S4 := S3.joinR [0, 1, 2, 4] 5 3 rfl rfl
    have etk : (ms.set i n3).take (i + 1) = ms.take i ++ [n3] := by
      rw [List.take_succ_eq_append_getElem (by rw [List.length_set]; exact him), List.getElem_set_self, List.take_set_of_le (Nat.le_refl _)]
    have n3nd : n3.nd = nv.nd := by rw [en3]; rfl
    rw [wrap64_in (by omega)]
    refine ⟨gv.l - (i + 1), by omega, i + 1, ms.set i n3, rfl, by omega, rfl, ?_, ?_, fun n hn => ?_, ?_⟩
    · rw [List.map_set, n3nd, hnd]
      have : (gv.ns.map Nv.nd)[i]? = some nv.nd := by rw [List.getElem?_map, en]; rfl
      have hlt' : i < (gv.ns.map Nv.nd).length := by rw [List.length_map]; exact hig
      rw [List.getElem?_eq_getElem hlt'] at this
      rw [← Option.some.inj this, List.set_getElem_self]
    · rw [List.drop_set_of_lt (by omega)]
      have := congrArg (fun z : List Nv => z.drop 1) hdr
      simpa [List.drop_drop, Nat.add_comm] using this
    · rcases List.mem_or_eq_of_mem_set hn with hn | rfl
      · exact hmo n hn
      · rw [en3]; exact ⟨⟨nok.1.1, eo1⟩, ⟨nok.2.1.1, eo2⟩, ⟨nok.2.2.1, eo3⟩⟩
    · rw [etk, List.map_append, wbs_snoc]
      exact S4
  · have hil : i = ms.length := by omega
    subst hil
    rw [List.take_length] at S
    refine ldAg_S S 0 rfl (x := ({ gv with p := p7, c := c7 } : Gv).t) rfl ?_
    refine stL_S S 1 rfl rfl (mkS_one rfl) fun g5 _ S => ?_
    dsimp only [List.set] at S
    refine ldAg_S S 1 rfl (x := ({ gv with p := p7, c := c7 } : Gv).t) rfl ?_
    exact ⟨{ gv with p := p7, c := c7, ns := ms }, rfl, by unfold Gv.gr; rw [← hnd], ⟨hml, (S.own 2 rfl).2.1, hmo⟩, rfl, noR (S.pw [2, 3, 4])⟩
end

end Go.Proofs.YtbgplllcjhgdhaaDoor.G
