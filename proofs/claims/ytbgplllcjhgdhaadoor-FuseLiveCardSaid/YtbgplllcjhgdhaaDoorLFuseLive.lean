/- The law FuseLive, over heaps. -/
import Derived.Test.YtbgplllcjhgdhaaDoorCLaw21
import Derived.Test.YtbgplllcjhgdhaaDoorCSameG
import Derived.Test.YtbgplllcjhgdhaaDoorCDead
import Derived.Test.YtbgplllcjhgdhaaDoorGenY
namespace Go.Proofs.YtbgplllcjhgdhaaDoor.G
open Go Go.Sh
set_option linter.unusedVariables false
set_option linter.unusedSimpArgs false

theorem nflat_put {ns : List Nv} {k : Nat} {nv : Nv} (hk : k < ns.length) : nflat (ns.set k nv) = (nflat ns).take (k * 15) ++ mkS' ndSh nv.t ++ (nflat ns).drop (k * 15 + (mkS' ndSh nv.t).length) := by
  have e1 : ns = ns.take k ++ ([ns[k]] ++ ns.drop (k + 1)) := by
    rw [← List.append_assoc, ← List.take_succ_eq_append_getElem hk, List.take_append_drop]
  have hl : (nflat (ns.take k)).length = k * 15 := by rw [nflat_length, List.length_take, Nat.min_eq_left (by omega)]
  have h1 : (nflat [ns[k]]).length = 15 := by rw [nflat_length]; rfl
  have e2 : nflat ns = nflat (ns.take k) ++ (nflat [ns[k]] ++ nflat (ns.drop (k + 1))) := by
    conv => lhs; rw [e1, nflat_append, nflat_append]
  have e3 : ns.set k nv = ns.take k ++ ([nv] ++ ns.drop (k + 1)) := by
    rw [List.set_eq_take_append_cons_drop, if_pos hk]; rfl
  have e4 : (mkS' ndSh nv.t).length = 15 := rfl
  have e5 : nflat [nv] = mkS' ndSh nv.t := by simp [nflat, Nv.cells]
  rw [e3, nflat_append, nflat_append, e4, e2, List.append_assoc]
  congr 1
  · rw [← hl, List.take_left']
    rfl
  · rw [e5]
    congr 1
    have : k * 15 + 15 = (nflat (ns.take k) ++ nflat [ns[k]]).length := by rw [List.length_append, hl, h1]
    rw [this, ← List.append_assoc, List.drop_left']
    rfl

theorem fuseL_len (g : Gr) : (fuseG g).nodes.length ≤ 12 := by
  have numT_len : ∀ (ns : List Nd) (M : LM) (i : Nat), (numT ns M i).1.length ≤ i := fun ns M i => by
    induction i with
    | zero => exact Nat.le_refl _
    | succ i ih =>
      unfold numT
      cases ns[i]? with
      | none => dsimp only; omega
      | some n =>
        dsimp only
        split
        · rw [List.length_append]; simp only [List.length_cons, List.length_nil]; omega
        · omega
  have fuseIt_len : ∀ (k : Nat) (s : FSt) (pos : Int → Nat), FInv s.1 s.2.1 s.2.2 pos → (fuseIt k s).1.length = s.1.length := fun k => by
    induction k with
    | zero => intro s pos _; rfl
    | succ k ih =>
      intro s pos I
      unfold fuseIt
      cases e : stepP s.1 s.2.1 s.2.2 with
      | none => rfl
      | some t =>
        obtain ⟨i, w, na, nu, a', st, _⟩ := stepP_stp I e
        exact (ih t pos (st.inv I)).trans st.len
  unfold fuseG
  split
  · rename_i h
    have h1 : (fuseIt (g.nodes.length + 1) (g.nodes, g.out, liveM g.nodes g.out)).1.length = g.nodes.length := fuseIt_len (g.nodes.length + 1) (g.nodes, g.out, liveM g.nodes g.out) _ (look_finv h)
    have h2 := numT_len (fuseIt (g.nodes.length + 1) (g.nodes, g.out, liveM g.nodes g.out)).1 (fuseIt (g.nodes.length + 1) (g.nodes, g.out, liveM g.nodes g.out)).2.2 (fuseIt (g.nodes.length + 1) (g.nodes, g.out, liveM g.nodes g.out)).1.length
    have h3 := (look_inv h).2.2.2.2.1
    show (List.map _ _).length ≤ 12
    rw [List.length_map]
    omega
  · exact Nat.zero_le _

theorem FuseLive_ok {h : Heap} (hT : KT h) {p : Option Addr} {l c : Nat} {L : List Int} (hx : Row h p (ints L)) (hL : L.length = l) (hlc : l ≤ c) (hl : l < 2 ^ 62) (more : Int) :
    callP P n_law21_FuseLive #[.slice p l c, .int .i64 more] h fun v h' => v = .bool true ∧ Fra no h h' := by
  refine call_law21_FuseLive _ _ _ _ ?_
  unfold law21_FuseLive
  have S := ((Sep.start h no).read (row p (ints L)) hx).read (blk 0 (ints kindTab)) hT
  refine (awake21_ok (S.r 1 _ rfl)).mono ?_
  rintro _ h1 ⟨rfl, F⟩
  replace S := S.fra0 F
  refine ⟨_, rfl, ?_⟩
  refine (Made21_S (S.row 0 rfl) hL hlc hl more).mono ?_
  rintro _ h2 ⟨gv, rfl, ok, mg, hl10, sz, S1⟩
  replace S := S.add S1 fun _ _ h => h
  dsimp only [List.cons_append, List.nil_append] at S
  refine exS_i gv.t ⟨rfl, ?_⟩
  obtain ⟨W0, R0, pos0, rt⟩ := mg.right
  have e0 : gv.gr.look.e = 0 := by rw [rt.look]
  have I := look_finv e0
  have hgl := ok.1
  have hgn : gv.gr.nodes.length = gv.l := by rw [← hgl]; simp [Gv.gr]
  have hs : ∀ n ∈ gv.ns, n.inn.l < 2 ^ 40 ∧ n.weights.l < 2 ^ 40 ∧ n.bias.l < 2 ^ 40 := fun n hn => by have := sz n hn; omega
  have hs2 : ∀ n ∈ gv.ns, n.inn.l < 2 ^ 40 ∧ n.weights.l < 2 ^ 62 ∧ n.bias.l < 2 ^ 62 := fun n hn => by have := sz n hn; omega
  obtain ⟨M, eM⟩ : ∃ M, liveM gv.gr.nodes gv.gr.out = M := ⟨_, rfl⟩
  rw [eM] at I
  have ho1 : 1 ≤ gv.out := I.out1
  have ho2 : gv.out ≤ (gv.l : Int) := by have := I.outn; rw [hgn] at this; exact this
  have houtM : (M gv.out).isSome = true := (I.lv _).2 .out
  refine newI_S (cs := mkS' grSh (zT grSh)) S fun b6 h3 _ S => ?_
  dsimp only [List.cons_append, List.nil_append] at S
  refine stL_S S 2 rfl rfl (mkS_one rfl) fun h4 _ S => ?_
  dsimp only [List.set] at S
  refine ldAg_S S 2 rfl (x := gv.t) rfl ?_
  refine (LivP_ok sorted_spec ok (S.own 0 rfl).row (S.w 1 _ rfl) (by omega) hs2 (S.r 1 _ rfl)).mono ?_
  rintro _ h5 ⟨p11, l11, c11, rfl, hl11, S1⟩
  replace S := S.add S1 fun _ _ h => h
  dsimp only [List.cons_append, List.nil_append] at S
  rw [if_pos e0, eM, hgn] at hl11 S
  rw [boolsM_length] at hl11
  subst hl11
  refine ⟨_, _, _, rfl, ?_⟩
  refine ⟨fun s g => s = (true, ⟨b6, 0, none⟩, (p11, gv.l + 1, c11), ()) ∧ Sep h no g [own 15 gv.p gv.l gv.c (nflat gv.ns), nrows gv.ns, blk b6 gv.cells, row p11 (bls (boolsM gv.l M))] [row p (ints L), blk 0 (ints kindTab)], ?_, ?_⟩
  · clear S S1
    rintro s g ⟨rfl, S⟩
    unfold law21_FuseLive_j6
    simp only [add_mk, Nat.zero_add]
    refine ldAg_S S 2 rfl (x := gv.t) rfl ?_
    refine newI_S (cs := mkS' grSh (zT grSh)) S fun b15 h6 _ S => ?_
    dsimp only [List.cons_append, List.nil_append] at S
    refine stL_S S 4 rfl rfl (mkS_one rfl) fun h7 _ S => ?_
    dsimp only [List.set] at S
    refine newI_S (cs := []) S fun b18 h8 _ S => ?_
    dsimp only [List.cons_append, List.nil_append] at S
    refine ldSlice_i (p := gv.p) (l := gv.l) (c := gv.c) (S.cell 2 rfl rfl) ?_
    replace S := S.toOwn 5 15 0 0 rfl (Nat.le_refl _)
    dsimp only [List.set, List.take] at S
    have brow := (S.own 0 rfl).row
    refine appI_S S 5 (ys := nflat gv.ns) rfl rfl (by decide) (by omega) brow (by rw [nflat_length, hgl]) nflat_one fun p21 l21 c21 h13 hl21 S => ?_
    dsimp only [List.set, List.nil_append] at S
    rw [Nat.zero_add] at hl21
    subst hl21
    refine stI_S S 4 rfl (Nat.le_of_ble_eq_true rfl) fun h14 _ S => ?_
    dsimp only [List.set] at S
    have hc21 := (S.own 5 rfl).2.1
    replace S := S.reads0
    dsimp only [List.cons_append, List.nil_append] at S
    obtain ⟨nds, ends⟩ : ∃ nds, gv.gr.nodes = nds := ⟨_, rfl⟩
    have ends' : gv.ns.map Nv.nd = nds := ends
    have hz : deadT M 0 nds = nds := by
      apply List.ext_getElem?
      intro i
      rw [deadT_get]
      cases nds[i]? with
      | none => rfl
      | some n => simp only [Option.map_some]; rw [if_neg (by omega)]
    clear brow
    refine LoopS_i (fun mm s g => ∃ (t : Nat) (V : List Nv) (rs : List Fact), s = (true, ⟨b6, 0, none⟩, (p11, gv.l + 1, c11), ⟨b15, 0, none⟩, (t : Int) + 1, ()) ∧ t ≤ gv.l ∧ mm = gv.l - t ∧ V.map Nv.nd = deadT M t nds ∧ (∀ n ∈ V, n.ok ∧ n.inn.l ≤ 2 ^ 20 ∧ n.weights.l ≤ 2 ^ 20 ∧ n.bias.l ≤ 2 ^ 20) ∧ (∀ n ∈ V, n ∈ gv.ns ∨ n.rows ∈ rs) ∧
      Sep h no g [own 15 gv.p gv.l gv.c (nflat gv.ns), nrows gv.ns, blk b6 gv.cells, row p11 (bls (boolsM gv.l M)), blk b15 ({ gv with p := p21, c := c21 } : Gv).cells, own 15 p21 gv.l c21 (nflat V), reads rs] [row p (ints L), blk 0 (ints kindTab)]) gv.l
      ⟨0, gv.ns, [], rfl, by omega, rfl, by rw [hz]; exact ends', fun n hn => ⟨ok.2.2 n hn, sz n hn⟩, fun n hn => .inl hn, S⟩ ?_
    clear S
    rintro mm s g ⟨t, V, rs, rfl, ht, rfl, hV, hVo, hVr, S⟩
    unfold law21_FuseLive_l9
    simp only [add_mk, Nat.zero_add]
    have hVl : V.length = gv.l := by
      have := congrArg List.length hV
      rw [List.length_map, deadT_length, ← ends, hgn] at this; exact this
    refine ifB_dec (fun hlt => ?_) (fun hge => ?_)
    · have htg : t < gv.ns.length := by omega
      obtain ⟨nv, en⟩ : ∃ n, gv.ns[t]? = some n := ⟨_, List.getElem?_eq_getElem htg⟩
      have hmem := List.mem_of_getElem? en
      have nok := ok.2.2 nv hmem
      have ilen : nv.inn.xs.length = nv.inn.l := nok.1.1
      have hsz := hs nv hmem
      have endt : nds[t]? = some nv.nd := by rw [← ends', List.getElem?_map, en]; rfl
      have et : IntKind.wrap .i64 ((t : Int) + 1 - 1) = (t : Int) := by rw [wrap64_in (by omega)]; omega
      have et2 : IntKind.wrap .i64 ((t : Int) + 1 + 1) = ((t + 1 : Nat) : Int) + 1 := by rw [wrap64_in (by omega)]; rfl
      have ec : (((t + 1 : Nat) : Int)) = (t : Int) + 1 := rfl
      rw [et]
      refine ldSlice_i (p := gv.p) (l := gv.l) (c := gv.c) (S.cell 2 rfl rfl) ?_
      obtain ⟨q, ea⟩ := (S.own 0 rfl).row.some_of (by rw [nflat_length]; omega)
      have hrow : Row g (some q) (nflat gv.ns) := by rw [← ea]; exact (S.own 0 rfl).row
      have hcell : cellH g ((q.add (t * 15)).add 1) = some nv.inn.v := by
        have := hrow.cell (i := t * 15 + 1) (v := nv.inn.v) (by rw [nflat_at en (by decide)]; rfl)
        rw [add_add _ _ (by decide)]; exact this
      refine idxI_i ea rfl (by omega) ?_
      simp only [Int.toNat_natCast]
      refine ldSlice_i (p := nv.inn.p) (l := nv.inn.l) (c := nv.inn.c) hcell ?_
      refine LoopS_i (fun mm s g => ∃ j : Nat, s = (true, ⟨b6, 0, none⟩, (p11, gv.l + 1, c11), ⟨b15, 0, none⟩, (t : Int) + 1, (nv.inn.p, nv.inn.l, nv.inn.c), (j : Int), ()) ∧ j ≤ nv.inn.l ∧ mm = nv.inn.l - j ∧
        Sep h no g [own 15 gv.p gv.l gv.c (nflat gv.ns), nrows gv.ns, blk b6 gv.cells, row p11 (bls (boolsM gv.l M)), blk b15 ({ gv with p := p21, c := c21 } : Gv).cells, own 15 p21 gv.l c21 (nflat V), reads rs] [row p (ints L), blk 0 (ints kindTab)]) nv.inn.l ⟨0, rfl, by omega, rfl, S⟩ ?_
      clear S hrow hcell
      rintro mm s g ⟨j, rfl, hj, rfl, S⟩
      unfold law21_FuseLive_l13
      simp only [add_mk, Nat.zero_add]
      have ej : IntKind.wrap .i64 ((j : Int) + 1) = ((j + 1 : Nat) : Int) := by rw [wrap64_in (by omega)]; rfl
      rw [ej]
      have lrow : Row g p11 (bls (boolsM gv.l M)) := S.w 3 _ rfl
      obtain ⟨la, ela⟩ := lrow.some_of (by rw [bls_length, boolsM_length]; omega)
      rw [ela] at lrow
      have ldl := lrow.cell (bls_get (boolsM_get (n := gv.l) (M := M) (show t + 1 ≤ gv.l by omega)))
      rw [ec] at ldl
      refine ifB_dec (fun hlt2 => ?_) (fun hge2 => ?_)
      · have hjx : j < nv.inn.xs.length := by omega
        have next : ∃ m', m' < nv.inn.l - j ∧ ∃ j' : Nat, ((true, ⟨b6, 0, none⟩, (p11, gv.l + 1, c11), ⟨b15, 0, none⟩, (t : Int) + 1, (nv.inn.p, nv.inn.l, nv.inn.c), ((j + 1 : Nat) : Int), ()) : Bool × Addr × (Option Addr × Nat × Nat) × Addr × Int × (Option Addr × Nat × Nat) × Int × Unit) = (true, ⟨b6, 0, none⟩, (p11, gv.l + 1, c11), ⟨b15, 0, none⟩, (t : Int) + 1, (nv.inn.p, nv.inn.l, nv.inn.c), (j' : Int), ()) ∧ j' ≤ nv.inn.l ∧ m' = nv.inn.l - j' ∧
          Sep h no g [own 15 gv.p gv.l gv.c (nflat gv.ns), nrows gv.ns, blk b6 gv.cells, row p11 (bls (boolsM gv.l M)), blk b15 ({ gv with p := p21, c := c21 } : Gv).cells, own 15 p21 gv.l c21 (nflat V), reads rs] [row p (ints L), blk 0 (ints kindTab)] := ⟨nv.inn.l - (j + 1), by omega, j + 1, rfl, by omega, rfl, S⟩
        refine idxI_i ela (k := t + 1) (by omega) (by omega) ?_
        rw [show ((t : Int) + 1).toNat = t + 1 by omega, Nat.mul_one]
        refine ldBool_i ldl (ifB_known (fun hb => ?_) (fun hb => next))
        have irow : Row g nv.inn.p (ints nv.inn.xs) := S.w 1 _ rfl _ (List.mem_map_of_mem hmem) nv.inn.row (by simp)
        obtain ⟨aa, eaa⟩ := irow.some_of (by rw [ints_length]; omega)
        rw [eaa] at irow
        refine idxI_i eaa rfl (by omega) ?_
        simp only [Int.toNat_natCast, Nat.mul_one]
        refine ldInt_i (irow.cell (ints_get (List.getElem?_eq_getElem hjx))) ?_
        have hjm : nv.inn.xs[j] ∈ nv.nd.inn := List.getElem_mem hjx
        have hx : (M nv.inn.xs[j]).isSome = true := (I.lv _).2 (((I.lv _).1 hb).inn (by rw [ends]; exact endt) hjm)
        have hxr := I.range hx
        rw [hgn] at hxr
        obtain ⟨x, ex⟩ : ∃ x : Nat, nv.inn.xs[j] = (x : Int) := ⟨nv.inn.xs[j].toNat, by omega⟩
        rw [ex] at hx hxr ⊢
        refine idxI_i ela (k := x) rfl (by omega) ?_
        simp only [Int.toNat_natCast, Nat.mul_one]
        refine ldBool_i (lrow.cell (bls_get (boolsM_get (n := gv.l) (M := M) (show x ≤ gv.l by omega)))) ?_
        rw [hx]
        exact ifB_false rfl next
      · refine idxI_i ela (k := t + 1) (by omega) (by omega) ?_
        rw [show ((t : Int) + 1).toNat = t + 1 by omega, Nat.mul_one]
        refine ldBool_i ldl (ifB_not (ifB_known (fun hb => ?_) (fun hb => ?_)))
        · rw [et2]
          have eV : deadT M (t + 1) nds = deadT M t nds := by
            apply List.ext_getElem?
            intro i
            rw [deadT_get, deadT_get]
            by_cases hi : i = t
            · subst hi
              rw [endt]
              simp only [Option.map_some]
              rw [if_neg (fun hh => by rw [hb] at hh; cases hh.2), if_neg (by omega)]
            · cases nds[i]? with
              | none => rfl
              | some n =>
                simp only [Option.map_some]
                congr 1
                by_cases hc : i < t ∧ (M ((i : Int) + 1)).isSome = false
                · rw [if_pos hc, if_pos ⟨by omega, hc.2⟩]
                · rw [if_neg hc, if_neg (fun hh => hc ⟨by omega, hh.2⟩)]
          exact ⟨gv.l - (t + 1), by omega, t + 1, V, rs, rfl, by omega, rfl, by rw [eV]; exact hV, hVo, hVr, S⟩
        · have eV : deadT M (t + 1) nds = (deadT M t nds).set t wholeN := by
            apply List.ext_getElem?
            intro i
            have htn : t < nds.length := (List.getElem?_eq_some_iff.1 endt).1
            by_cases hi : i = t
            · subst hi
              rw [deadT_get, endt, List.getElem?_set_self (by rw [deadT_length]; exact htn)]
              simp only [Option.map_some]
              rw [if_pos ⟨by omega, hb⟩]
            · rw [List.getElem?_set_ne (Ne.symm hi), deadT_get, deadT_get]
              cases nds[i]? with
              | none => rfl
              | some n =>
                simp only [Option.map_some]
                congr 1
                by_cases hc : i < t ∧ (M ((i : Int) + 1)).isSome = false
                · rw [if_pos hc, if_pos ⟨by omega, hc.2⟩]
                · rw [if_neg hc, if_neg (fun hh => hc ⟨by omega, hh.2⟩)]
          rw [et2, et]
          refine ldSlice_i (p := p21) (l := gv.l) (c := c21) (S.cell 4 rfl rfl) ?_
          refine newI_S (cs := [.int .i64 0]) S fun b38 g2 _ S => ?_
          dsimp only [List.cons_append, List.nil_append] at S
          obtain ⟨q2, eq2⟩ := (S.own 5 rfl).row.some_of (by rw [nflat_length]; omega)
          subst eq2
          refine idxI_i rfl rfl (by omega) ?_
          simp only [Int.toNat_natCast]
          obtain ⟨nw, enw⟩ : ∃ nw : Nv, nw = ⟨5, ⟨some ⟨b38, 0, none⟩, 1, 1, [0]⟩, 0, 0, 0, 0, 0, 0, Sl.nil, Sl.nil, 0, 0, 0, 0, 0⟩ := ⟨_, rfl⟩
          have hlen15 : (mkS' ndSh (⟨5, ⟨some ⟨b38, 0, none⟩, 1, 1, [0]⟩, 0, 0, 0, 0, 0, 0, Sl.nil, Sl.nil, 0, 0, 0, 0, 0⟩ : Nv).t).length = 15 := rfl
          refine stLO_S S 5 rfl (k := t * 15) (vs := mkS' ndSh (⟨5, ⟨some ⟨b38, 0, none⟩, 1, 1, [0]⟩, 0, 0, 0, 0, 0, 0, Sl.nil, Sl.nil, 0, 0, 0, 0, 0⟩ : Nv).t) (by rw [nflat_length, hlen15]; omega) (mkS_one rfl) fun g3 _ S => ?_
          rw [← nflat_put (by omega), ← enw] at S
          dsimp only [List.set] at S
          have S2 := oneRow_S S 7 (n := nw) rfl (by rw [enw]) (by rw [enw]) (by rw [enw])
          dsimp only [List.set] at S2
          have S3 := S2.joinR [0, 1, 2, 3, 4, 5] 6 7 rfl rfl
          have nwo : nw.ok ∧ nw.inn.l ≤ 2 ^ 20 ∧ nw.weights.l ≤ 2 ^ 20 ∧ nw.bias.l ≤ 2 ^ 20 := by
            rw [enw]
            exact ⟨⟨⟨rfl, Nat.le_refl _⟩, ⟨rfl, Nat.le_refl _⟩, ⟨rfl, Nat.le_refl _⟩⟩, by show 1 ≤ 2 ^ 20; decide, by show 0 ≤ 2 ^ 20; decide, by show 0 ≤ 2 ^ 20; decide⟩
          refine ⟨gv.l - (t + 1), by omega, t + 1, V.set t nw, rs ++ [nw.rows], rfl, by omega, rfl, ?_, fun n hn => ?_, fun n hn => ?_, S3⟩
          · rw [eV, List.map_set, hV, enw]; rfl
          · rcases List.mem_or_eq_of_mem_set hn with hn | rfl
            · exact hVo n hn
            · exact nwo
          · rcases List.mem_or_eq_of_mem_set hn with hn | rfl
            · exact (hVr n hn).imp id fun h => List.mem_append_left _ h
            · exact .inr (List.mem_append_right _ (List.mem_singleton.2 rfl))
    · have htl : t = gv.l := by omega
      subst htl
      obtain ⟨hv, ehv⟩ : ∃ hv : Gv, hv = { gv with p := p21, c := c21, ns := V } := ⟨_, rfl⟩
      have hvok : hv.ok := by rw [ehv]; exact ⟨hVl, (S.own 5 rfl).2.1, fun n hn => (hVo n hn).1⟩
      have hvl : hv.l = gv.l := by rw [ehv]
      have hvs : ∀ n ∈ hv.ns, n.inn.l < 2 ^ 40 ∧ n.weights.l < 2 ^ 40 ∧ n.bias.l < 2 ^ 40 := fun n hn => by
        rw [ehv] at hn
        have := (hVo n hn).2; omega
      have hvg : hv.gr = deadG gv.gr := by
        rw [ehv]
        unfold deadG
        rw [eM, ends, show nds.length = gv.l by rw [← ends]; exact hgn, ← hV]; rfl
      have ecell : ({ gv with p := p21, c := c21 } : Gv).cells = hv.cells := by rw [ehv]; rfl
      have eown : own 15 p21 gv.l c21 (nflat V) = own 15 hv.p hv.l hv.c (nflat hv.ns) := by rw [ehv]
      rw [ecell, eown] at S
      have hvr : ∀ {g : Heap}, (nrows gv.ns).P g → (reads rs).P g → (nrows hv.ns).P g := fun h1 h2 f hf => by
        rw [ehv] at hf
        obtain ⟨n, hn, rfl⟩ := List.mem_map.1 hf
        rcases hVr n hn with h | h
        · exact h1 _ (List.mem_map_of_mem h)
        · exact h2 _ h
      refine ldAg_S S 2 rfl (x := gv.t) rfl ?_
      refine ldAg_S S 4 rfl (x := hv.t) rfl ?_
      refine (Fuse_ok sorted_spec ok (S.own 0 rfl).row (S.w 1 _ rfl) (by omega) hs (S.r 1 _ rfl)).mono ?_
      rintro _ h20 ⟨g1, rfl, e1, ok1, S1⟩
      replace S := S.add S1 fun _ _ h => h
      dsimp only [List.cons_append, List.nil_append] at S
      refine exS_i g1.t ⟨rfl, holdW_S S 4 rfl rfl ?_⟩
      refine (Fuse_ok sorted_spec hvok (S.own 5 rfl).row (hvr (S.w 1 _ rfl) (S.w 6 _ rfl)) (by omega) hvs (S.r 1 _ rfl)).mono ?_
      rintro _ h21 ⟨g2, rfl, e2, ok2, S1⟩
      replace S := S.add S1 fun _ _ h => h
      dsimp only [List.cons_append, List.nil_append] at S
      refine exS_i g2.t ⟨rfl, holdW_S S 2 rfl rfl ?_⟩
      have hB : ∀ n ∈ gv.gr.nodes, n.inn.length < 2 ^ 40 ∧ n.weights.length < 2 ^ 40 ∧ n.bias.length < 2 ^ 40 := fun n hn => by
        obtain ⟨m, hm, rfl⟩ := List.mem_map.1 hn
        have := hs m hm
        have ok := ok.2.2 m hm
        have q1 : m.nd.inn.length = m.inn.l := ok.1.1
        have q2 : m.nd.weights.length = m.weights.l := ok.2.1.1
        have q3 : m.nd.bias.length = m.bias.l := ok.2.2.1
        omega
      have sm := kin_small hB ok1 e1
      have hgl1 : g1.l < 2 ^ 62 := by
        have h1 : g1.gr.nodes.length = g1.l := by rw [← ok1.1]; simp [Gv.gr]
        have h2 := fuseL_len gv.gr
        rw [e1] at h1
        omega
      refine (Same15_ok ok1 ok2 (S.own 7 rfl).row (nrowsO (S.w 8 _ rfl) (S.w 9 _ rfl)) (S.own 10 rfl).row (nrowsO (S.w 11 _ rfl) (S.w 12 _ rfl)) hgl1 (fun n hn => by have := sm n hn; exact ⟨by omega, by omega, by omega⟩)).mono ?_
      rintro _ h22 ⟨b, rfl, hb, F⟩
      replace S := S.fra0 F
      have hbt : b = true := hb.2 (e1.trans (by rw [e2, hvg, dead_fuse e0]))
      subst hbt
      refine ⟨_, rfl, holdW_S S 4 rfl rfl (holdW_S S 2 rfl rfl (ifB_true rfl ⟨rfl, S.fra⟩))⟩
  · refine ldSlice_i (p := gv.p) (l := gv.l) (c := gv.c) (S.cell 2 rfl rfl) ?_
    have ew : IntKind.wrap .i64 ((gv.l : Int) + 1) = ((gv.l + 1 : Nat) : Int) := by rw [wrap64_in (by omega)]; omega
    rw [ew]
    refine ifB_false (by simp) ?_
    refine ldInt_i (n := gv.out) (S.cell 2 rfl rfl) ?_
    obtain ⟨ov, eov⟩ : ∃ ov : Nat, gv.out = (ov : Int) := ⟨gv.out.toNat, by omega⟩
    rw [eov] at houtM ⊢
    have lrow : Row h5 p11 (bls (boolsM gv.l M)) := S.w 3 _ rfl
    obtain ⟨la, ela⟩ := lrow.some_of (by rw [bls_length, boolsM_length]; omega)
    rw [ela] at lrow
    refine idxI_i ela (k := ov) rfl (by omega) ?_
    simp only [Int.toNat_natCast, Nat.mul_one]
    refine ldBool_i (lrow.cell (bls_get (boolsM_get (n := gv.l) (M := M) (show ov ≤ gv.l by omega)))) ?_
    rw [houtM]
    exact ifB_false rfl ⟨by trivial, S⟩
end Go.Proofs.YtbgplllcjhgdhaaDoor.G
