/- Contracts: the document's reader of a node (earshotref15). -/
import Derived.Test.YtdjofpdmdbcgjadCDec
namespace Go.Proofs.Ytdjofpdmdbcgjad.G
open Go Go.Sh
set_option linter.unusedVariables false
set_option linter.unusedSimpArgs false

theorem wr1 (s : List UInt8) (t : St) : IntKind.wrap .i64 (rget s t 1).1 = (rget s t 1).1 := by
  have := rget_range s t 1; exact wrap64_in (by omega)
theorem wr2 (s : List UInt8) (t : St) : IntKind.wrap .i64 (rget s t 2).1 = (rget s t 2).1 := by
  have := rget_range s t 2; exact wrap64_in (by omega)

section
variable {h : Heap} {T : Nat → Prop} {R : List Fact} {b : Nat} {s : List UInt8} {t : St}

set_option maxHeartbeats 2000000 in
theorem dnode_S (S : Sep h T h [rf b t.at_ s t.err] R) (ht : t.ok s) (hs : s.length < 2 ^ 62) :
    callP P n_ref15_node #[.pointer (some ⟨b, 0, none⟩)] h fun v h' => ∃ nv : Nv, v = nv.v ∧ nv.ok ∧ nv.nd = (dNode s t).1 ∧ Sep h T h' [rf b (dNode s t).2.at_ s (dNode s t).2.err, nv.rows] R := by
  refine call_ref15_node _ ?_
  unfold ref15_node
  refine newI_S S fun b1 h2 _ S => ?_
  dsimp only [List.cons_append, List.nil_append] at S
  refine (Num_S (n := 1) (S.into [0] [] []) ht hs (by decide)).mono ?_
  rintro _ _ ⟨rfl, S1⟩
  refine ⟨_, rfl, ?_⟩
  replace S := S.back [0] S1
  try dsimp only [merge, List.set, List.cons_append, List.nil_append] at S
  have oka := rget_ok ht 1
  dsimp only; rw [wr1]
  generalize hka : rget s t 1 = a at S oka
  refine newI_S S fun b5 h6 _ S => ?_
  dsimp only [List.cons_append, List.nil_append] at S
  refine stL_S S 2 rfl rfl (show ∀ y ∈ ({Nv.zero with kind := a.1} : Nv).cells, one1 y = true from mkS_one rfl) fun h7 _ S => ?_
  dsimp only [List.set] at S
  refine (Num_S (n := 1) (S.into [0] [] []) oka hs (by decide)).mono ?_
  rintro _ _ ⟨rfl, S1⟩
  refine ⟨_, rfl, ?_⟩
  replace S := S.back [0] S1
  try dsimp only [merge, List.set, List.cons_append, List.nil_append] at S
  have okc := rget_ok oka 1
  have hr := rget_range s a.2 1
  dsimp only; rw [wr1]
  generalize hkc : rget s a.2 1 = c at S okc hr
  obtain ⟨kn, ekn⟩ : ∃ kn : Nat, c.1 = kn := ⟨c.1.toNat, by omega⟩
  rw [ekn] at hr ⊢
  have S2 : Sep h T _ [rf b c.2.at_ s c.2.err, blk b1 (mkS' ndSh (zT ndSh)), blk b5 ({Nv.zero with kind := a.1} : Nv).cells] R := S.pw [0, 1, 2]
  clear S
  have S := (S2.nil 1).pw [0, 1, 2, 3]
  clear S2
  dsimp only [Sh.pick, List.getElem?_cons_zero, List.getElem?_cons_succ, List.cons_append, List.nil_append] at S
  refine LoopS_i (fun m s' g => ∃ (i : Nat) (q : Option Addr) (k d : Nat), s' = (some ⟨b, 0, none⟩, ⟨b1, 0, none⟩, ⟨b5, 0, none⟩, (kn : Int), (i : Int), ()) ∧ i ≤ kn ∧ m = kn - i ∧ k = i ∧
    Sep h T g [rf b (rbs s i c.2).2.at_ s (rbs s i c.2).2.err, blk b1 (mkS' ndSh (zT ndSh)), blk b5 ({Nv.zero with kind := a.1, inn := ⟨q, k, d, []⟩} : Nv).cells, own 1 q k d (ints (rbs s i c.2).1)] R) kn ⟨0, none, 0, 0, rfl, by omega, rfl, rfl, S⟩ ?_
  clear S
  rintro m s' g ⟨i, q, k, d, rfl, hi, rfl, rfl, S⟩
  unfold ref15_node_l4
  dsimp only
  refine ifB_dec (fun hlt => ?_) (fun hge => ?_)
  · refine ldSlice_i (p := q) (l := k) (c := d) (S.cell 2 rfl rfl) ?_
    refine (Num_S (n := 1) (S.into [0] [] []) (rbs_ok okc k) hs (by decide)).mono ?_
    rintro _ _ ⟨rfl, S1⟩
    refine ⟨_, rfl, ?_⟩
    replace S := S.back [0] S1
    try dsimp only [merge, List.set, List.cons_append, List.nil_append] at S
    refine and_i (S.cell 2 rfl rfl) ?_
    rw [wr1]
    refine newI_S S (fun b20 _ _ S => ?_)
    try dsimp only [List.cons_append, List.nil_append] at S
    refine appI_S S 3 (ys := ints [(rget s (rbs s k c.2).2 1).1]) rfl rfl (by decide) (by omega) (Row.of_at (S.at 4 rfl)) rfl vals_one fun p' l' c' h' hl' S => ?_
    try dsimp only [List.set] at S
    refine stI_S S 2 rfl (k := 1) (Nat.le_of_ble_eq_true rfl) fun g' _ S => ?_
    rw [wrap64_in (by omega)]
    refine ⟨kn - (k + 1), by omega, k + 1, p', l', c', rfl, by omega, rfl, hl', ?_⟩
    have ei : ints (rbs s k c.2).1 ++ ints [(rget s (rbs s k c.2).2 1).1] = ints (rbs s (k + 1) c.2).1 := by simp [ints, rbs]
    rw [ei] at S
    exact S.pw [0, 1, 2, 3]
  · have hkn : k = kn := by omega
    subst hkn
    have okb := rbs_ok okc k
    generalize hkb : rbs s k c.2 = bb at S okb
    refine newI_S S (fun b19 _ _ S => ?_)
    have S2 : Sep h T _ [rf b bb.2.at_ s bb.2.err, blk b1 (mkS' ndSh (zT ndSh)), blk b5 ({Nv.zero with kind := a.1, inn := ⟨q, k, d, []⟩} : Nv).cells, own 1 q k d (ints bb.1), blk b19 (ints ((rbs s 0 bb.2).1 ++ List.replicate (6 - 0) 0))] R := S
    clear S
    refine LoopS_i (fun m s' g => ∃ (i : Nat), s' = (some ⟨b, 0, none⟩, ⟨b1, 0, none⟩, ⟨b5, 0, none⟩, ⟨b19, 0, none⟩, (i : Int), ()) ∧ i ≤ 6 ∧ m = 6 - i ∧
      Sep h T g [rf b (rbs s i bb.2).2.at_ s (rbs s i bb.2).2.err, blk b1 (mkS' ndSh (zT ndSh)), blk b5 ({Nv.zero with kind := a.1, inn := ⟨q, k, d, []⟩} : Nv).cells, own 1 q k d (ints bb.1), blk b19 (ints ((rbs s i bb.2).1 ++ List.replicate (6 - i) 0))] R) 6 ⟨0, rfl, by omega, rfl, S2⟩ ?_
    clear S2
    rintro m s' g ⟨i, rfl, hi, rfl, S⟩
    unfold ref15_node_l9
    dsimp only
    refine ifB_dec (fun hlt => ?_) (fun hge => ?_)
    · refine (Num_S (n := 1) (S.into [0] [] []) (rbs_ok okb i) hs (by decide)).mono ?_
      rintro _ _ ⟨rfl, S1⟩
      refine ⟨_, rfl, ?_⟩
      replace S := S.back [0] S1
      try dsimp only [merge, List.set, List.cons_append, List.nil_append] at S
      dsimp only; rw [wr1]
      refine arrI_i (by omega) (by omega) ?_
      simp only [Int.toNat_natCast, Nat.mul_one]
      rw [add_mk, Nat.zero_add]
      have hll := rbs_length s bb.2 i
      refine stI_S S 4 rfl (k := i) (by rw [ints_length, List.length_append, List.length_replicate]; omega) fun g' _ S => ?_
      rw [wrap64_in (by omega)]
      refine ⟨6 - (i + 1), by omega, i + 1, rfl, by omega, rfl, ?_⟩
      have ei : (ints ((rbs s i bb.2).1 ++ List.replicate (6 - i) 0)).set i (.int .i64 (rget s (rbs s i bb.2).2 1).1) = ints ((rbs s (i + 1) bb.2).1 ++ List.replicate (6 - (i + 1)) 0) := by
        have e6 : 6 - i = (6 - (i + 1)) + 1 := by omega
        rw [e6, List.replicate_succ]
        simp only [ints, List.map_append, List.map_cons, List.map_nil, rbs, List.append_assoc, List.cons_append, List.nil_append]
        rw [List.set_append]
        simp [hll]
      rw [ei] at S
      exact S
    · have hi6 : i = 6 := by omega
      subst hi6
      have okd := rbs_ok okb 6
      generalize hkd : rbs s 6 bb.2 = cc at S okd
      have hc0 : ∃ x0 x1 x2 x3 x4 x5, cc.1 = [x0, x1, x2, x3, x4, x5] := by rw [← hkd]; exact ⟨_, _, _, _, _, _, rfl⟩
      obtain ⟨x0, x1, x2, x3, x4, x5, ec⟩ := hc0
      rw [ec] at S
      refine arrI_i (by decide) (by decide) (ldInt_i (n := x0) (S.cell 4 rfl rfl) ?_)
      refine stI_S S 2 rfl (k := 2) (Nat.le_of_ble_eq_true rfl) fun h26 _ S => ?_
      refine arrI_i (by decide) (by decide) (ldInt_i (n := x1) (S.cell 4 rfl rfl) ?_)
      refine stI_S S 2 rfl (k := 3) (Nat.le_of_ble_eq_true rfl) fun h26 _ S => ?_
      refine arrI_i (by decide) (by decide) (ldInt_i (n := x2) (S.cell 4 rfl rfl) ?_)
      refine stI_S S 2 rfl (k := 4) (Nat.le_of_ble_eq_true rfl) fun h26 _ S => ?_
      refine arrI_i (by decide) (by decide) (ldInt_i (n := x3) (S.cell 4 rfl rfl) ?_)
      refine stI_S S 2 rfl (k := 5) (Nat.le_of_ble_eq_true rfl) fun h26 _ S => ?_
      refine arrI_i (by decide) (by decide) (ldInt_i (n := x4) (S.cell 4 rfl rfl) ?_)
      refine stI_S S 2 rfl (k := 6) (Nat.le_of_ble_eq_true rfl) fun h26 _ S => ?_
      refine arrI_i (by decide) (by decide) (ldInt_i (n := x5) (S.cell 4 rfl rfl) ?_)
      refine stI_S S 2 rfl (k := 7) (Nat.le_of_ble_eq_true rfl) fun h26 _ S => ?_
      have S2 : Sep h T _ [rf b cc.2.at_ s cc.2.err, blk b1 (mkS' ndSh (zT ndSh)), blk b5 (⟨a.1, ⟨q, k, d, []⟩, x0, x1, x2, x3, x4, x5, Sl.nil, Sl.nil, 0, 0, 0, 0, 0⟩ : Nv).cells, own 1 q k d (ints bb.1)] R := S.pw [0, 1, 2, 3]
      clear S
      have S := S2
      clear S2
      refine (dRow_S (S.into [0] [] []) okd hs).mono ?_
      rintro _ _ ⟨p1, l1, c1, rfl, hl1, S1⟩
      refine ⟨_, _, _, rfl, ?_⟩
      replace S := S.back [0] S1
      try dsimp only [merge, List.set, List.cons_append, List.nil_append] at S
      have oke := rrow_ok okd
      generalize hke : rrow s cc.2 = dd at S oke hl1
      refine stI_S S 2 rfl (k := 8) (Nat.le_of_ble_eq_true rfl) fun g1 _ S => ?_
      refine (dRow_S (S.into [0] [] []) oke hs).mono ?_
      rintro _ _ ⟨p2, l2, c2, rfl, hl2, S1⟩
      refine ⟨_, _, _, rfl, ?_⟩
      replace S := S.back [0] S1
      try dsimp only [merge, List.set, List.cons_append, List.nil_append] at S
      have okf := rrow_ok oke
      generalize hkf : rrow s dd.2 = ee at S okf hl2
      refine stI_S S 2 rfl (k := 9) (Nat.le_of_ble_eq_true rfl) fun g2 _ S => ?_
      refine (Num_S (n := 2) (S.into [0] [] []) okf hs (by decide)).mono ?_
      rintro _ _ ⟨rfl, S1⟩
      refine ⟨_, rfl, ?_⟩
      replace S := S.back [0] S1
      try dsimp only [merge, List.set, List.cons_append, List.nil_append] at S
      have okg := rget_ok okf 2
      dsimp only; rw [wr2]
      generalize hkg : rget s ee.2 2 = ff at S okg
      refine stI_S S 2 rfl (k := 10) (Nat.le_of_ble_eq_true rfl) fun g3 _ S => ?_
      refine (Num_S (n := 1) (S.into [0] [] []) okg hs (by decide)).mono ?_
      rintro _ _ ⟨rfl, S1⟩
      refine ⟨_, rfl, ?_⟩
      replace S := S.back [0] S1
      try dsimp only [merge, List.set, List.cons_append, List.nil_append] at S
      have okh := rget_ok okg 1
      dsimp only; rw [wr1]
      generalize hkh : rget s ff.2 1 = gg at S okh
      refine stI_S S 2 rfl (k := 11) (Nat.le_of_ble_eq_true rfl) fun g3 _ S => ?_
      refine (dWord_S (S.into [0] [] []) okh hs).mono ?_
      rintro _ _ ⟨rfl, S1⟩
      refine ⟨_, rfl, ?_⟩
      replace S := S.back [0] S1
      try dsimp only [merge, List.set, List.cons_append, List.nil_append] at S
      have oki := rget_ok okh 4
      generalize hki : rget s gg.2 4 = ii at S oki
      refine stI_S S 2 rfl (k := 12) (Nat.le_of_ble_eq_true rfl) fun g3 _ S => ?_
      refine (dWord_S (S.into [0] [] []) oki hs).mono ?_
      rintro _ _ ⟨rfl, S1⟩
      refine ⟨_, rfl, ?_⟩
      replace S := S.back [0] S1
      try dsimp only [merge, List.set, List.cons_append, List.nil_append] at S
      have okj := rget_ok oki 4
      generalize hkj : rget s ii.2 4 = jj at S okj
      refine stI_S S 2 rfl (k := 13) (Nat.le_of_ble_eq_true rfl) fun g3 _ S => ?_
      refine (Num_S (n := 1) (S.into [0] [] []) okj hs (by decide)).mono ?_
      rintro _ _ ⟨rfl, S1⟩
      refine ⟨_, rfl, ?_⟩
      replace S := S.back [0] S1
      try dsimp only [merge, List.set, List.cons_append, List.nil_append] at S
      have okk := rget_ok okj 1
      dsimp only; rw [wr1]
      generalize hkk : rget s jj.2 1 = kk at S okk
      refine stI_S S 2 rfl (k := 14) (Nat.le_of_ble_eq_true rfl) fun g3 _ S => ?_
      have hd : dNode s t = (⟨a.1, bb.1, x0, x1, x2, x3, x4, x5, dd.1, ee.1, ff.1, gg.1, sgn ii.1, sgn jj.1, kk.1⟩, kk.2) := by
        have e2 : rbs s 2 t = ([a.1, c.1], c.2) := by simp [rbs, hka, hkc]
        unfold dNode
        simp only [e2, ekn, List.getD_cons_zero, List.getD_cons_succ, Int.toNat_natCast, hkb, hkd, ec, hke, hkf, hkg, hkh, hki, hkj, hkk]
      rw [hd]
      have S2 : Sep h T _ [rf b kk.2.at_ s kk.2.err, blk b1 (mkS' ndSh (zT ndSh)), blk b5 (⟨a.1, ⟨q, k, d, bb.1⟩, x0, x1, x2, x3, x4, x5, ⟨p1, l1, c1, dd.1⟩, ⟨p2, l2, c2, ee.1⟩, ff.1, gg.1, sgn ii.1, sgn jj.1, kk.1⟩ : Nv).cells, own 1 q k d (ints bb.1), own 1 p1 l1 c1 (ints dd.1), own 1 p2 l2 c2 (ints ee.1)] R := S.pw [0, 1, 2, 3, 4, 5]
      clear S
      generalize hnv : (⟨a.1, ⟨q, k, d, bb.1⟩, x0, x1, x2, x3, x4, x5, ⟨p1, l1, c1, dd.1⟩, ⟨p2, l2, c2, ee.1⟩, ff.1, gg.1, sgn ii.1, sgn jj.1, kk.1⟩ : Nv) = nv at S2
      have S := S2
      clear S2
      refine ldAg_S S 2 rfl (x := nv.t) rfl ?_
      refine stL_S S 1 rfl rfl (mkS_one rfl) fun g6 _ S => ?_
      try dsimp only [List.set] at S
      refine ldAg_S S 1 rfl (x := nv.t) rfl ?_
      have o1 := own_sl (i := 3) S rfl
      have o2 := own_sl (i := 4) S rfl
      have o3 := own_sl (i := 5) S rfl
      replace S := own_row (i := 3) S rfl
      replace S := own_row (i := 4) S rfl
      replace S := own_row (i := 5) S rfl
      refine ⟨nv, rfl, by rw [← hnv]; exact ⟨o1, o2, o3⟩, by rw [← hnv]; rfl, ?_⟩
      have S3 := S.join [0] [3, 4, 5]
      rw [← hnv]
      exact S3
end

end Go.Proofs.Ytdjofpdmdbcgjad.G
