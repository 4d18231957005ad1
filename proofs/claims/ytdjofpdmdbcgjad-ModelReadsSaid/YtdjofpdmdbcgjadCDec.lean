/- Contracts: package model's reader: small, node. -/
import Derived.Test.YtdjofpdmdbcgjadCMade4
import Derived.Test.YtdjofpdmdbcgjadCTapeX4
namespace Go.Proofs.Ytdjofpdmdbcgjad.G
open Go Go.Sh
set_option linter.unusedVariables false
set_option linter.unusedSimpArgs false

/-- n bytes, one by one. -/
def rbs (s : List UInt8) : Nat → St → List Int × St
  | 0, t => ([], t)
  | n + 1, t => ((rbs s n t).1 ++ [(rget s (rbs s n t).2 1).1], (rget s (rbs s n t).2 1).2)
theorem rbs_ok {s : List UInt8} {t : St} (h : t.ok s) : ∀ n, (rbs s n t).2.ok s
  | 0 => h
  | n + 1 => rget_ok (rbs_ok h n) 1
theorem rbs_length (s : List UInt8) (t : St) : ∀ n, (rbs s n t).1.length = n
  | 0 => rfl
  | n + 1 => by simp [rbs, rbs_length s t n]
/-- A node that is read. -/
def dNode (s : List UInt8) (t : St) : Nd × St :=
  let a := rbs s 2 t
  let b := rbs s (a.1.getD 1 0).toNat a.2
  let c := rbs s 6 b.2
  let d := rrow s c.2
  let e := rrow s d.2
  let f := rget s e.2 2
  let g := rget s f.2 1
  let i := rget s g.2 4
  let j := rget s i.2 4
  let k := rget s j.2 1
  (⟨a.1.getD 0 0, b.1, c.1.getD 0 0, c.1.getD 1 0, c.1.getD 2 0, c.1.getD 3 0, c.1.getD 4 0, c.1.getD 5 0, d.1, e.1, f.1, g.1, sgn i.1, sgn j.1, k.1⟩, k.2)

theorem dNode_ok {s : List UInt8} {t : St} (h : t.ok s) : (dNode s t).2.ok s := by
  unfold dNode
  exact rget_ok (rget_ok (rget_ok (rget_ok (rget_ok (rrow_ok (rrow_ok (rbs_ok (rbs_ok (rbs_ok h 2) _) 6))) 2) 1) 4) 4) 1

def setsF (u : List Value × List Value) (x : (Bool × Nat) × Int) : List Value × List Value := if x.1.1 = true then (u.1, u.2.set x.1.2 (.int .i64 x.2)) else (u.1.set x.1.2 (.int .i64 x.2), u.2)
def sets (ts : List (Bool × Nat)) (vs : List Int) (u : List Value × List Value) : List Value × List Value := (ts.zip vs).foldl setsF u
theorem sets_snoc {ts : List (Bool × Nat)} {i : Nat} (hi : i < ts.length) {vs : List Int} (hv : vs.length = i) (v : Int) (u : List Value × List Value) : sets (ts.take (i + 1)) (vs ++ [v]) u = setsF (sets (ts.take i) vs u) (ts[i], v) := by
  unfold sets
  rw [List.take_succ_eq_append_getElem hi, List.zip_append (by rw [List.length_take]; omega), List.foldl_append]; rfl
theorem setsF_len (u : List Value × List Value) (x : (Bool × Nat) × Int) : (setsF u x).1.length = u.1.length ∧ (setsF u x).2.length = u.2.length := by
  unfold setsF; split <;> simp
theorem sets_len (u : List Value × List Value) : ∀ (l : List ((Bool × Nat) × Int)), (l.foldl setsF u).1.length = u.1.length ∧ (l.foldl setsF u).2.length = u.2.length := by
  intro l
  induction l generalizing u with
  | nil => exact ⟨rfl, rfl⟩
  | cons x r ih => have := ih (setsF u x); have h2 := setsF_len u x; simp only [List.foldl_cons]; omega

section
variable {h : Heap} {T : Nat → Prop} {R : List Fact} {b A B : Nat} {s : List UInt8} {t : St} {ca cb : List Value}

def tptr (A B : Nat) (x : Bool × Nat) : Value := .pointer (some ⟨if x.1 = true then B else A, x.2, none⟩)

theorem rsmall_S (S : Sep h T h [rd b t.at_ s t.err, blk A ca, blk B cb] R) (ht : t.ok s) (hs : s.length < 2 ^ 62) (ix : Nat) {q : Option Addr} {k d : Nat} {ts : List (Bool × Nat)} (ex : R[ix]? = some (row q (ts.map (tptr A B)))) (hk : ts.length = k) (hk2 : k ≤ 100)
    (hoff : ∀ x ∈ ts, if x.1 = true then x.2 < cb.length else x.2 < ca.length) :
    callP P n_model_reader_small #[.agg #[.pointer (some ⟨b, 0, none⟩)], .slice q k d] h fun v h' => v = .tuple #[] ∧ Sep h T h' [rd b (rbs s k t).2.at_ s (rbs s k t).2.err, blk A (sets ts (rbs s k t).1 (ca, cb)).1, blk B (sets ts (rbs s k t).1 (ca, cb)).2] R := by
  refine call_model_reader_small _ _ _ _ ?_
  unfold model_reader_small
  refine newI_S S (fun b1 _ _ S => ?_)
  dsimp only [List.cons_append, List.nil_append] at S
  refine LoopS_i (fun m s' g => ∃ (i : Nat), s' = (⟨b1, 0, none⟩, (q, k, d), (k : Int), (i : Int), ()) ∧ i ≤ k ∧ m = k - i ∧ Sep h T g [rd b (rbs s i t).2.at_ s (rbs s i t).2.err, blk A (sets (ts.take i) (rbs s i t).1 (ca, cb)).1, blk B (sets (ts.take i) (rbs s i t).1 (ca, cb)).2, blk b1 [.pointer (some ⟨b, 0, none⟩)]] R) k ⟨0, rfl, by omega, rfl, S⟩ ?_
  clear S
  rintro m s' g ⟨i, rfl, hi, rfl, S⟩
  unfold model_reader_small_l2
  dsimp only
  refine ifB_dec (fun hlt => ?_) (fun hge => ?_)
  · have hix : i < ts.length := by omega
    have hx := S.row ix ex
    obtain ⟨aa, rfl⟩ := hx.some_of (by simp; omega)
    refine idxI_i rfl rfl (by omega) ?_
    simp only [Int.toNat_natCast, Nat.mul_one]
    refine ldPtr_i (n := some ⟨if ts[i].1 = true then B else A, ts[i].2, none⟩) (hx.cell (by rw [List.getElem?_map, List.getElem?_eq_getElem hix]; rfl)) ?_
    refine ldPtr_i (S.cell 3 rfl rfl) ?_
    have P0 := S.into [0] [] []
    refine (rByte_S (t := (rbs s i t).2) P0 (rbs_ok ht i) hs).mono ?_
    rintro _ _ ⟨rfl, S1⟩
    refine ⟨_, rfl, ?_⟩
    replace S := S.back [0] S1
    try dsimp only [merge, List.set, List.cons_append, List.nil_append] at S
    refine nilI_some ?_
    rw [wrap64_in (n := (i : Int) + 1) (by omega)]
    have hoffi := hoff _ (List.getElem_mem hix)
    have hvl := rbs_length s t i
    have hlen := sets_len (ca, cb) ((ts.take i).zip (rbs s i t).1)
    have estep := sets_snoc hix hvl (rget s (rbs s i t).2 1).1 (ca, cb)
    generalize ts[i] = x at hoffi estep ⊢
    obtain ⟨xb, xo⟩ := x
    have key : ∀ g', Sep h T g' [rd b (rget s (rbs s i t).2 1).2.at_ s (rget s (rbs s i t).2 1).2.err, blk A (setsF (sets (ts.take i) (rbs s i t).1 (ca, cb)) ((xb, xo), (rget s (rbs s i t).2 1).1)).1, blk B (setsF (sets (ts.take i) (rbs s i t).1 (ca, cb)) ((xb, xo), (rget s (rbs s i t).2 1).1)).2, blk b1 [.pointer (some ⟨b, 0, none⟩)]] R →
        ∃ m, m < k - i ∧ ∃ i' : Nat, (((⟨b1, 0, none⟩ : Addr), (some aa, k, d), (k : Int), (i : Int) + 1, ()) : Addr × (Option Addr × Nat × Nat) × Int × Int × Unit) = (⟨b1, 0, none⟩, (some aa, k, d), (k : Int), (i' : Int), ()) ∧ i' ≤ k ∧ m = k - i' ∧ Sep h T g' [rd b (rbs s i' t).2.at_ s (rbs s i' t).2.err, blk A (sets (ts.take i') (rbs s i' t).1 (ca, cb)).1, blk B (sets (ts.take i') (rbs s i' t).1 (ca, cb)).2, blk b1 [.pointer (some ⟨b, 0, none⟩)]] R :=
      fun g' S => ⟨k - (i + 1), by omega, i + 1, rfl, by omega, rfl, by
        show Sep h T g' [rd b (rget s (rbs s i t).2 1).2.at_ s (rget s (rbs s i t).2 1).2.err, blk A (sets (ts.take (i + 1)) ((rbs s i t).1 ++ [(rget s (rbs s i t).2 1).1]) (ca, cb)).1, blk B (sets (ts.take (i + 1)) ((rbs s i t).1 ++ [(rget s (rbs s i t).2 1).1]) (ca, cb)).2, blk b1 [.pointer (some ⟨b, 0, none⟩)]] R
        rw [estep]; exact S⟩
    cases xb
    · refine stI_S S 1 rfl (k := xo) (Nat.lt_of_lt_of_eq (show xo < ca.length from hoffi) hlen.1.symm) fun g' _ S => ?_
      exact key _ S
    · refine stI_S S 2 rfl (k := xo) (Nat.lt_of_lt_of_eq (show xo < cb.length from hoffi) hlen.2.symm) fun g' _ S => ?_
      exact key _ S
  · have : i = k := by omega
    subst this
    rw [List.take_of_length_le (by omega)] at S
    exact ⟨by trivial, S.pw [0, 1, 2]⟩

set_option maxHeartbeats 2000000 in
theorem rnode_S (S : Sep h T h [rd b t.at_ s t.err] R) (ht : t.ok s) (hs : s.length < 2 ^ 62) :
    callP P n_model_reader_node #[.agg #[.pointer (some ⟨b, 0, none⟩)]] h fun v h' => ∃ nv : Nv, v = nv.v ∧ nv.ok ∧ nv.nd = (dNode s t).1 ∧ Sep h T h' [rd b (dNode s t).2.at_ s (dNode s t).2.err, nv.rows] R := by
  refine call_model_reader_node _ ?_
  unfold model_reader_node
  refine newI_S S (fun b1 _ _ S => ?_)
  refine newI_S S fun b3 h3 _ S => ?_
  refine newI_S S fun b5 h5 _ S => ?_
  refine newI_S S (fun b7 _ _ S => ?_)
  dsimp only [List.cons_append, List.nil_append] at S
  refine stI_S S 4 rfl (k := 0) (Nat.le_of_ble_eq_true rfl) fun h9 _ S => ?_
  refine ldPtr_i (S.cell 1 rfl rfl) ?_
  refine newI_S S (fun b11 _ _ S => ?_)
  have S2 : Sep h T _ [rd b t.at_ s t.err, blk b5 Nv.zero.cells, blk b7 [.int .i64 0], blk b1 [.pointer (some ⟨b, 0, none⟩)], blk b3 (mkS' ndSh (zT ndSh)), blk b11 [tptr b5 b7 (false, 0), tptr b5 b7 (true, 0)]] R := S.pw [0, 3, 4, 1, 2, 5]
  clear S
  have S := S2
  clear S2
  refine (rsmall_S ((S.into [0, 1, 2] [5] []).rowB 0) ht hs 0 (ts := [(false, 0), (true, 0)]) (k := 2) rfl rfl (by decide) (by intro x hx; simp at hx; rcases hx with rfl | rfl <;> exact Nat.le_of_ble_eq_true rfl)).mono ?_
  rintro _ _ ⟨rfl, S1⟩
  refine ⟨rfl, ?_⟩
  replace S := S.back [0,1,2] S1
  try dsimp only [merge, List.set, List.cons_append, List.nil_append] at S
  have oka := rbs_ok ht 2
  generalize hka : (rbs s 2 t) = a at S oka
  have ha0 : ∃ k0 k1, a.1 = [k0, k1] ∧ 0 ≤ k1 ∧ k1 < 256 := by rw [← hka]; exact ⟨_, _, rfl, rget_range s _ 1⟩
  obtain ⟨k0, k1, ea, hk1, hk2⟩ := ha0
  rw [ea] at S
  have S2 : Sep h T _ [rd b a.2.at_ s a.2.err, blk b5 ({Nv.zero with kind := k0} : Nv).cells, blk b7 [.int .i64 k1], blk b1 [.pointer (some ⟨b, 0, none⟩)], blk b3 (mkS' ndSh (zT ndSh))] R := S.pw [0, 1, 2, 3, 4]
  clear S
  have S := (S2.nil 1).pw [0, 1, 2, 3, 4, 5]
  clear S2
  dsimp only [Sh.pick, List.getElem?_cons_zero, List.getElem?_cons_succ, List.cons_append, List.nil_append] at S
  refine ldInt_i (n := k1) (S.cell 2 rfl rfl) ?_
  obtain ⟨kn, rfl⟩ : ∃ kn : Nat, k1 = kn := ⟨k1.toNat, by omega⟩
  refine LoopS_i (fun m s' g => ∃ (i : Nat) (q : Option Addr) (k d : Nat), s' = (⟨b1, 0, none⟩, ⟨b3, 0, none⟩, ⟨b5, 0, none⟩, (kn : Int), (i : Int), ()) ∧ i ≤ kn ∧ m = kn - i ∧ k = i ∧
    Sep h T g [rd b (rbs s i a.2).2.at_ s (rbs s i a.2).2.err, blk b5 ({Nv.zero with kind := k0, inn := ⟨q, k, d, []⟩} : Nv).cells, blk b7 [.int .i64 kn], blk b1 [.pointer (some ⟨b, 0, none⟩)], blk b3 (mkS' ndSh (zT ndSh)), own 1 q k d (ints (rbs s i a.2).1)] R) kn ⟨0, none, 0, 0, rfl, by omega, rfl, rfl, S⟩ ?_
  clear S
  rintro m s' g ⟨i, q, k, d, rfl, hi, rfl, rfl, S⟩
  unfold model_reader_node_l5
  dsimp only
  refine ifB_dec (fun hlt => ?_) (fun hge => ?_)
  · refine ldSlice_i (p := q) (l := k) (c := d) (S.cell 1 rfl rfl) (ldPtr_i (S.cell 3 rfl rfl) ?_)
    refine (rByte_S (t := (rbs s k a.2).2) (S.into [0] [] []) (rbs_ok oka k) hs).mono ?_
    rintro _ _ ⟨rfl, S1⟩
    refine ⟨_, rfl, ?_⟩
    replace S := S.back [0] S1
    try dsimp only [merge, List.set, List.cons_append, List.nil_append] at S
    refine and_i (S.cell 1 rfl rfl) ?_
    refine newI_S S (fun b20 _ _ S => ?_)
    dsimp only [List.cons_append, List.nil_append] at S
    refine appI_S S 5 (ys := ints [(rget s (rbs s k a.2).2 1).1]) rfl rfl (by decide) (by omega) (Row.of_at (S.at 6 rfl)) rfl vals_one fun p' l' c' h' hl' S => ?_
    dsimp only [List.set] at S
    refine stI_S S 1 rfl (k := 1) (Nat.le_of_ble_eq_true rfl) fun g' _ S => ?_
    rw [wrap64_in (by omega)]
    refine ⟨kn - (k + 1), by omega, k + 1, p', l', c', rfl, by omega, rfl, hl', ?_⟩
    have ei : ints (rbs s k a.2).1 ++ ints [(rget s (rbs s k a.2).2 1).1] = ints (rbs s (k + 1) a.2).1 := by simp [ints, rbs]
    rw [ei] at S
    exact S.pw [0, 1, 2, 3, 4, 5]
  · have hkn : k = kn := by omega
    subst hkn
    have okb := rbs_ok oka k
    generalize hkb : rbs s k a.2 = bb at S okb
    refine ldPtr_i (S.cell 3 rfl rfl) ?_
    refine newI_S S (fun b26 _ _ S => ?_)
    have S2 : Sep h T _ [rd b bb.2.at_ s bb.2.err, blk b5 ({Nv.zero with kind := k0, inn := ⟨q, k, d, []⟩} : Nv).cells, blk b7 [.int .i64 k], blk b1 [.pointer (some ⟨b, 0, none⟩)], blk b3 (mkS' ndSh (zT ndSh)), own 1 q k d (ints bb.1), blk b26 [tptr b5 b7 (false, 2), tptr b5 b7 (false, 3), tptr b5 b7 (false, 4), tptr b5 b7 (false, 5), tptr b5 b7 (false, 6), tptr b5 b7 (false, 7)]] R := S
    clear S
    have S := S2
    clear S2
    refine (rsmall_S ((S.into [0, 1, 2] [6] []).rowB 0) okb hs 0 (ts := [(false, 2), (false, 3), (false, 4), (false, 5), (false, 6), (false, 7)]) (k := 6) rfl rfl (by decide) (by intro x hx; simp at hx; rcases hx with rfl | rfl | rfl | rfl | rfl | rfl <;> exact Nat.le_of_ble_eq_true rfl)).mono ?_
    rintro _ _ ⟨rfl, S1⟩
    refine ⟨rfl, ?_⟩
    replace S := S.back [0,1,2] S1
    try dsimp only [merge, List.set, List.cons_append, List.nil_append] at S
    have okc := rbs_ok okb 6
    generalize hkc : rbs s 6 bb.2 = cc at S okc
    have hc0 : ∃ x0 x1 x2 x3 x4 x5, cc.1 = [x0, x1, x2, x3, x4, x5] := by rw [← hkc]; exact ⟨_, _, _, _, _, _, rfl⟩
    obtain ⟨x0, x1, x2, x3, x4, x5, ec⟩ := hc0
    rw [ec] at S
    have S2 : Sep h T _ [rd b cc.2.at_ s cc.2.err, blk b5 (⟨k0, ⟨q, k, d, []⟩, x0, x1, x2, x3, x4, x5, Sl.nil, Sl.nil, 0, 0, 0, 0, 0⟩ : Nv).cells, blk b7 [.int .i64 k], blk b1 [.pointer (some ⟨b, 0, none⟩)], blk b3 (mkS' ndSh (zT ndSh)), own 1 q k d (ints bb.1)] R := S.pw [0, 1, 2, 3, 4, 5]
    clear S
    have S := S2
    clear S2
    refine ldPtr_i (S.cell 3 rfl rfl) (ldPtr_i (S.cell 3 rfl rfl) ?_)
    refine (rRow_S (S.into [0] [] []) okc hs).mono ?_
    rintro _ _ ⟨p1, l1, c1, rfl, hl1, S1⟩
    refine ⟨_, _, _, rfl, ?_⟩
    replace S := S.back [0] S1
    try dsimp only [merge, List.set, List.cons_append, List.nil_append] at S
    have okd := rrow_ok okc
    generalize hkd : rrow s cc.2 = dd at S okd hl1
    refine and_i (S.cell 3 rfl rfl) ?_
    refine (rRow_S (S.into [0] [] []) okd hs).mono ?_
    rintro _ _ ⟨p2, l2, c2, rfl, hl2, S1⟩
    refine ⟨_, _, _, rfl, ?_⟩
    replace S := S.back [0] S1
    try dsimp only [merge, List.set, List.cons_append, List.nil_append] at S
    have oke := rrow_ok okd
    generalize hke : rrow s dd.2 = ee at S oke hl2
    refine and_i (S.cell 3 rfl rfl) ?_
    refine stI_S S 1 rfl (k := 8) (Nat.le_of_ble_eq_true rfl) fun g1 _ S => ?_
    refine and_i (S.cell 3 rfl rfl) ?_
    refine stI_S S 1 rfl (k := 9) (Nat.le_of_ble_eq_true rfl) fun g2 _ S => ?_
    refine ldPtr_i (S.cell 3 rfl rfl) ?_
    refine (rShort_S (S.into [0] [] []) oke hs).mono ?_
    rintro _ _ ⟨rfl, S1⟩
    refine ⟨_, rfl, ?_⟩
    replace S := S.back [0] S1
    try dsimp only [merge, List.set, List.cons_append, List.nil_append] at S
    have okf := rget_ok oke 2
    generalize hkf : rget s ee.2 2 = ff at S okf
    refine stI_S S 1 rfl (k := 10) (Nat.le_of_ble_eq_true rfl) fun g3 _ S => ?_
    refine ldPtr_i (S.cell 3 rfl rfl) ?_
    refine newI_S S (fun b42 _ _ S => ?_)
    have S2 : Sep h T _ [rd b ff.2.at_ s ff.2.err, blk b5 (⟨k0, ⟨q, k, d, []⟩, x0, x1, x2, x3, x4, x5, ⟨p1, l1, c1, []⟩, ⟨p2, l2, c2, []⟩, ff.1, 0, 0, 0, 0⟩ : Nv).cells, blk b7 [.int .i64 k], blk b1 [.pointer (some ⟨b, 0, none⟩)], blk b3 (mkS' ndSh (zT ndSh)), own 1 q k d (ints bb.1), own 1 p1 l1 c1 (ints dd.1), own 1 p2 l2 c2 (ints ee.1), blk b42 [tptr b5 b7 (false, 11)]] R := S
    clear S
    have S := S2
    clear S2
    refine (rsmall_S ((S.into [0, 1, 2] [8] []).rowB 0) okf hs 0 (ts := [(false, 11)]) (k := 1) rfl rfl (by decide) (by intro x hx; simp at hx; subst hx; exact Nat.le_of_ble_eq_true rfl)).mono ?_
    rintro _ _ ⟨rfl, S1⟩
    refine ⟨rfl, ?_⟩
    replace S := S.back [0,1,2] S1
    try dsimp only [merge, List.set, List.cons_append, List.nil_append] at S
    have okg := rget_ok okf 1
    have er1 : rbs s 1 ff.2 = ([(rget s ff.2 1).1], (rget s ff.2 1).2) := rfl
    rw [er1] at S
    generalize hkg : rget s ff.2 1 = gg at S okg
    refine ldPtr_i (S.cell 3 rfl rfl) (ldPtr_i (S.cell 3 rfl rfl) ?_)
    refine (rWord_S (S.into [0] [] []) okg hs).mono ?_
    rintro _ _ ⟨rfl, S1⟩
    refine ⟨_, rfl, ?_⟩
    replace S := S.back [0] S1
    try dsimp only [merge, List.set, List.cons_append, List.nil_append] at S
    have oki := rget_ok okg 4
    generalize hki : rget s gg.2 4 = ii at S oki
    refine and_i (S.cell 3 rfl rfl) ?_
    refine (rWord_S (S.into [0] [] []) oki hs).mono ?_
    rintro _ _ ⟨rfl, S1⟩
    refine ⟨_, rfl, ?_⟩
    replace S := S.back [0] S1
    try dsimp only [merge, List.set, List.cons_append, List.nil_append] at S
    have okj := rget_ok oki 4
    generalize hkj : rget s ii.2 4 = jj at S okj
    refine and_i (S.cell 3 rfl rfl) ?_
    refine stI_S S 1 rfl (k := 12) (Nat.le_of_ble_eq_true rfl) fun g4 _ S => ?_
    refine and_i (S.cell 3 rfl rfl) ?_
    refine stI_S S 1 rfl (k := 13) (Nat.le_of_ble_eq_true rfl) fun g5 _ S => ?_
    refine ldPtr_i (S.cell 3 rfl rfl) ?_
    refine newI_S S (fun b54 _ _ S => ?_)
    have S2 : Sep h T _ [rd b jj.2.at_ s jj.2.err, blk b5 (⟨k0, ⟨q, k, d, []⟩, x0, x1, x2, x3, x4, x5, ⟨p1, l1, c1, []⟩, ⟨p2, l2, c2, []⟩, ff.1, gg.1, sgn ii.1, sgn jj.1, 0⟩ : Nv).cells, blk b7 [.int .i64 k], blk b1 [.pointer (some ⟨b, 0, none⟩)], blk b3 (mkS' ndSh (zT ndSh)), own 1 q k d (ints bb.1), own 1 p1 l1 c1 (ints dd.1), own 1 p2 l2 c2 (ints ee.1), blk b54 [tptr b5 b7 (false, 14)]] R := S.pw [0, 1, 2, 3, 4, 5, 6, 7, 9]
    clear S
    have S := S2
    clear S2
    refine (rsmall_S ((S.into [0, 1, 2] [8] []).rowB 0) okj hs 0 (ts := [(false, 14)]) (k := 1) rfl rfl (by decide) (by intro x hx; simp at hx; subst hx; exact Nat.le_of_ble_eq_true rfl)).mono ?_
    rintro _ _ ⟨rfl, S1⟩
    refine ⟨rfl, ?_⟩
    replace S := S.back [0,1,2] S1
    try dsimp only [merge, List.set, List.cons_append, List.nil_append] at S
    have okk := rget_ok okj 1
    have er1 : rbs s 1 jj.2 = ([(rget s jj.2 1).1], (rget s jj.2 1).2) := rfl
    rw [er1] at S
    generalize hkk : rget s jj.2 1 = kk at S okk
    have hd : dNode s t = (⟨k0, bb.1, x0, x1, x2, x3, x4, x5, dd.1, ee.1, ff.1, gg.1, sgn ii.1, sgn jj.1, kk.1⟩, kk.2) := by
      unfold dNode
      simp only [hka, ea, List.getD_cons_zero, List.getD_cons_succ, Int.toNat_natCast, hkb, hkc, ec, hkd, hke, hkf, hkg, hki, hkj, hkk]
    rw [hd]
    have S2 : Sep h T _ [rd b kk.2.at_ s kk.2.err, blk b5 (⟨k0, ⟨q, k, d, bb.1⟩, x0, x1, x2, x3, x4, x5, ⟨p1, l1, c1, dd.1⟩, ⟨p2, l2, c2, ee.1⟩, ff.1, gg.1, sgn ii.1, sgn jj.1, kk.1⟩ : Nv).cells, blk b7 [.int .i64 k], blk b1 [.pointer (some ⟨b, 0, none⟩)], blk b3 (mkS' ndSh (zT ndSh)), own 1 q k d (ints bb.1), own 1 p1 l1 c1 (ints dd.1), own 1 p2 l2 c2 (ints ee.1)] R := S.pw [0, 1, 2, 3, 4, 5, 6, 7]
    clear S
    generalize hnv : (⟨k0, ⟨q, k, d, bb.1⟩, x0, x1, x2, x3, x4, x5, ⟨p1, l1, c1, dd.1⟩, ⟨p2, l2, c2, ee.1⟩, ff.1, gg.1, sgn ii.1, sgn jj.1, kk.1⟩ : Nv) = nv at S2
    have S := S2
    clear S2
    refine ldAg_S S 1 rfl (x := nv.t) rfl ?_
    refine stL_S S 4 rfl rfl (mkS_one rfl) fun g6 _ S => ?_
    dsimp only [List.set] at S
    refine ldAg_S S 4 rfl (x := nv.t) rfl ?_
    have o1 := own_sl (i := 5) S rfl
    have o2 := own_sl (i := 6) S rfl
    have o3 := own_sl (i := 7) S rfl
    replace S := own_row (i := 5) S rfl
    replace S := own_row (i := 6) S rfl
    replace S := own_row (i := 7) S rfl
    refine ⟨nv, rfl, by rw [← hnv]; exact ⟨o1, o2, o3⟩, by rw [← hnv]; rfl, ?_⟩
    have S3 := S.join [0] [5, 6, 7]
    rw [← hnv]
    exact S3
end

end Go.Proofs.Ytdjofpdmdbcgjad.G
