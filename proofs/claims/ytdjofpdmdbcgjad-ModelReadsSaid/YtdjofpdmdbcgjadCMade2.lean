/- Contracts: the document's nodes of plain numbers: Made. -/
import Derived.Test.YtdjofpdmdbcgjadCMade
namespace Go.Proofs.Ytdjofpdmdbcgjad.G
open Go Go.Sh
set_option linter.unusedVariables false
set_option linter.unusedSimpArgs false

/-- A node without anything. -/
def Nv.zero : Nv := ⟨0, Sl.nil, 0, 0, 0, 0, 0, 0, Sl.nil, Sl.nil, 0, 0, 0, 0, 0⟩
theorem Sl.nil_ok : Sl.nil.ok := ⟨rfl, Nat.le_refl _⟩

def kindsL : List Int := [1, 2, 3, 4, 12, 1, 5, 6, 9, 10, 11, 6]
theorem kindsL_ok : ∀ k : Nat, k < 12 → (∃ K, kindsL[k]? = some K ∧ (K = 1 ∨ K = 2 ∨ K = 6 ∨ K = 3 ∨ K = 4 ∨ K = 12 ∨ K = 9 ∨ K = 10 ∨ K = 5 ∨ K = 11) ∧ (7 ≤ k → K = 6 ∨ K = 9 ∨ K = 10 ∨ K = 11)) := by
  intro k hk
  have : k = 0 ∨ k = 1 ∨ k = 2 ∨ k = 3 ∨ k = 4 ∨ k = 5 ∨ k = 6 ∨ k = 7 ∨ k = 8 ∨ k = 9 ∨ k = 10 ∨ k = 11 := by omega
  rcases this with rfl | rfl | rfl | rfl | rfl | rfl | rfl | rfl | rfl | rfl | rfl | rfl <;> exact ⟨_, rfl, by omega, by omega⟩

section
variable {h0 h : Heap} {T : Nat → Prop} {W R : List Fact} {r l c a : Nat} {p : Option Addr} {L ins ws : List Int} {still : Bool}

/-- What Made tells. -/
def MadeQ (T : Nat → Prop) (h : Heap) (R : List Fact) (r : Nat) (p : Option Addr) (l c : Nat) (ins ws : List Int) (still : Bool) (v : Value) (h' : Heap) : Prop :=
  ∃ (nv : Nv) (a' : Nat), v = nv.v ∧ nv.ok ∧ nv.inn.l ≤ 2 ^ 20 ∧ nv.weights.l ≤ 2 ^ 20 ∧ nv.bias.l ≤ 2 ^ 20 ∧ GoodN ins ws still nv.nd ∧ a' ≤ l ∧ Sep h T h' [rwf r p l c a', nv.rows] R

theorem made_end {g : Heap} {nv : Nv} {t8 n9 : Nat} {xs : List Value} (S : Sep h T g [rwf r p l c a, blk t8 xs, blk n9 nv.cells, nv.inn.row, nv.weights.row, nv.bias.row] R) (hx : xs.length = 15) (ha : a ≤ l) (hok : nv.ok)
    (hs : nv.inn.l ≤ 2 ^ 20 ∧ nv.weights.l ≤ 2 ^ 20 ∧ nv.bias.l ≤ 2 ^ 20) (hg : GoodN ins ws still nv.nd) :
    ldAg ndSh g ⟨n9, 0, none⟩ fun x => storeL (mkS' ndSh x) g ⟨t8, 0, none⟩ 0 fun g2 => ldAg ndSh g2 ⟨t8, 0, none⟩ fun y => MadeQ T h R r p l c ins ws still (agS ndSh y) g2 := by
  refine ldAg_S S 2 rfl (x := nv.t) rfl ?_
  refine stL_S S 1 rfl (by rw [hx]; rfl) (mkS_one rfl) fun g2 _ S => ?_
  dsimp only [List.set] at S
  refine ldAg_S S 1 rfl (x := nv.t) rfl ?_
  exact ⟨nv, a, rfl, hok, hs.1, hs.2.1, hs.2.2, hg, ha, S.join [0] [3, 4, 5]⟩

theorem nil_row (S : Sep h0 T h W R) : Sep h0 T h (W ++ [Sl.nil.row]) R := by
  have S2 := S.nil 1
  have hi : W.length < (W ++ [own 1 none 0 0 []]).length := by simp
  have e : (W ++ [own 1 none 0 0 []])[W.length]? = some (own 1 none 0 0 []) := by rw [List.getElem?_concat_length]
  have S3 := S2.turn W.length e Sl.nil.row (fun o => Own.row o) (fun b hb => by obtain ⟨_, a, ha, _⟩ := hb; cases ha)
  rw [List.set_append_right _ _ (Nat.le_refl _), Nat.sub_self] at S3
  exact S3

theorem own_row {q : Option Addr} {k d i : Nat} {xs : List Int} (S : Sep h0 T h W R) (e : W[i]? = some (own 1 q k d (ints xs))) : Sep h0 T h (W.set i (Sl.row ⟨q, k, d, xs⟩)) R :=
  S.turn i e _ (fun o => Own.row o) fun b hb => hb.2
theorem own_sl {q : Option Addr} {k d i : Nat} {xs : List Int} (S : Sep h0 T h W R) (e : W[i]? = some (own 1 q k d (ints xs))) : (Sl.mk q k d xs).ok := by
  have o := S.own i e
  have := o.1
  rw [ints_length] at this
  exact ⟨by simpa using this, o.2.1⟩

set_option maxHeartbeats 2000000 in
theorem Made14_j22 {g : Heap} {nv : Nv} {t8 n9 bk k : Nat} {w : Int} {xs : List Value} {K0 : Int} {inn : Sl} (hnv : nv = {Nv.zero with kind := K0, inn := inn}) (hix : inn.xs = ins.take 1) (hiok : inn.ok)
    (S : Sep h T g [rwf r p l c a, blk t8 xs, blk n9 nv.cells, inn.row, blk bk (ints kindsL)] R) (hx : xs.length = 15) (iL : Nat) (eL : R[iL]? = some (row p (ints L))) (hL : L.length = l) (ha : a ≤ l) (hl : l < 2 ^ 62)
    (hk : k < 12) (hks : still = true → 7 ≤ k) (hw : w = ws.getD 0 0) (hw2 : 1 ≤ w ∧ w ≤ 16) :
    ref14_Made_j22 (MadeQ T h R r p l c ins ws still) (some ⟨r, 0, none⟩) ⟨t8, 0, none⟩ ⟨n9, 0, none⟩ w ⟨bk, 0, none⟩ (k : Int) g := by
  unfold ref14_Made_j22
  obtain ⟨K, eK, hK, hKs⟩ := kindsL_ok k hk
  have hkl : kindsL.length = 12 := rfl
  have inl : inn.l ≤ 1 := by have := hiok.1; rw [hix, List.length_take] at this; omega
  have hns : K = 1 ∨ K = 2 ∨ K = 3 ∨ K = 4 ∨ K = 12 ∨ K = 5 → still = false := fun h => by
    cases hst : still
    · rfl
    · have := hKs (hks hst); omega
  obtain ⟨wn, ewn⟩ : ∃ wn : Nat, w = wn := ⟨w.toNat, by omega⟩
  refine arrI_i (by omega) (by omega) ?_
  simp only [Int.toNat_natCast, Nat.mul_one]
  have hck : cellH g (Addr.add ⟨bk, 0, none⟩ k) = some (.int .i64 K) := by rw [add_mk, Nat.zero_add]; exact S.cell 4 rfl (ints_get eK)
  refine ldInt_i hck ?_
  refine stI_S S 2 rfl (k := 0) (Nat.le_of_ble_eq_true rfl) fun g2 _ S => ?_
  have S2 : Sep h T g2 [rwf r p l c a, blk t8 xs, blk n9 ({Nv.zero with kind := K, inn := inn} : Nv).cells, inn.row, blk bk (ints kindsL)] R := by rw [hnv] at S; exact S
  clear S
  have S := S2.pw [0, 1, 2, 3]
  clear S2 hnv
  dsimp only [Sh.pick, List.getElem?_cons_zero, List.getElem?_cons_succ] at S
  refine ldInt_i (n := K) (S.cell 2 rfl rfl) ?_
  refine ifB_beq (fun k1 => ?_) (fun k1 => ifB_beq (fun k2 => ?_) (fun k2 => ifB_beq (fun k3 => ?_) (fun k3 => ifB_beq (fun k4 => ?_) (fun k4 => ifB_beq (fun k5 => ?_) (fun k5 => ifB_beq (fun k6 => ?_) (fun k6 => ifB_beq (fun k7 => ?_) (fun k7 => ifB_beq (fun k8 => ?_) (fun k8 => ?_))))))))
  · -- Conv
    subst k1
    obtain rfl := hns (by omega)
    refine ldAg_S S 2 rfl (x := ({Nv.zero with kind := 1, inn := inn} : Nv).t) rfl ?_
    have P0 := S.into [0] [] [iL]
    rw [show Sh.pick R [iL] = [row p (ints L)] by simp only [Sh.pick, eL]] at P0
    refine (window14_S P0 0 rfl hL ha hl (.inl rfl)).mono ?_
    rintro _ g3 ⟨a1, size, step, gap, left, right, rfl, hwin, ha1, S1⟩
    replace S := S.back [0] S1
    dsimp only [merge, List.set] at S
    refine exS_i (Nv.t _) ⟨rfl, ?_⟩
    refine stL_S S 2 rfl rfl (mkS_one rfl) fun g4 _ S => ?_
    dsimp only [List.set] at S
    refine (Next14_S S 0 iL rfl eL hL ha1 hl 3 (by decide) (by decide)).mono ?_
    rintro _ g5 ⟨x1, a2, rfl, hx1, ha2, S⟩
    refine ⟨_, rfl, ?_⟩
    dsimp only [List.set] at S ⊢
    rw [wrap64_in (n := 1 + (x1 : Int)) (by omega)]
    refine stI_S S 2 rfl (k := 2) (Nat.le_of_ble_eq_true rfl) fun g6 _ S => ?_
    refine ldInt_i (n := 1 + (x1 : Int)) (S.cell 2 rfl rfl) (ldInt_i (n := size) (S.cell 2 rfl rfl) ?_)
    obtain ⟨h1, h2, h3, h4, h5⟩ := hwin
    obtain ⟨sn, esn⟩ : ∃ sn : Nat, size = sn := ⟨size.toNat, by omega⟩
    have b1 := bd_mul (a := 1 + (x1 : Int)) (b := size) (x := 3) (y := 4) (by omega) (by omega)
    have b2 := bd_mul (a := (1 + (x1 : Int)) * size) (b := w) (x := 12) (y := 16) (by omega) (by omega)
    rw [wrap64_in (n := (1 + (x1 : Int)) * size) (by omega), wrap64_in (n := (1 + (x1 : Int)) * size * w) (by omega)]
    obtain ⟨m, em⟩ : ∃ m : Nat, (1 + (x1 : Int)) * size * w = m := ⟨((1 + (x1 : Int)) * size * w).toNat, by omega⟩
    rw [em]
    have P0 := S.into [0] [] [iL]
    rw [show Sh.pick R [iL] = [row p (ints L)] by simp only [Sh.pick, eL]] at P0
    refine (row14_S P0 0 rfl hL ha2 hl m (by omega) (-9) (by omega) 19 (by decide) (by decide)).mono ?_
    rintro _ g7 ⟨q1, l1, d1, a3, ww, rfl, hwl, hl1, hwf, ha3, S1⟩
    replace S := S.back [0] S1
    refine ⟨_, _, _, rfl, ?_⟩
    dsimp only [merge, List.set] at S
    refine stI_S S 2 rfl (k := 8) (Nat.le_of_ble_eq_true rfl) fun g8 _ S => ?_
    refine ldInt_i (n := 1 + (x1 : Int)) (S.cell 2 rfl rfl) ?_
    have P0 := S.into [0] [] [iL]
    rw [show Sh.pick R [iL] = [row p (ints L)] by simp only [Sh.pick, eL]] at P0
    have e1x : 1 + (x1 : Int) = ((1 + x1 : Nat) : Int) := by omega
    rw [e1x] at S P0 ⊢
    refine (row14_S P0 0 rfl hL ha3 hl (1 + x1) (by omega) (-50) (by omega) 101 (by decide) (by decide)).mono ?_
    rintro _ g9 ⟨q2, l2, d2, a4, bb, rfl, hbl, hl2, hbf, ha4, S1⟩
    replace S := S.back [0] S1
    refine ⟨_, _, _, rfl, ?_⟩
    dsimp only [merge, List.set] at S
    refine stI_S S 2 rfl (k := 9) (Nat.le_of_ble_eq_true rfl) fun g10 _ S => ?_
    have ok1 := own_sl (i := 4) S rfl
    have ok2 := own_sl (i := 5) S rfl
    replace S := own_row (i := 4) S rfl
    replace S := own_row (i := 5) S rfl
    refine made_end (nv := ⟨1, inn, ((1 + x1 : Nat) : Int), size, step, gap, left, right, ⟨q1, l1, d1, ww⟩, ⟨q2, l2, d2, bb⟩, 0, 0, 0, 0, 0⟩) S hx ha4 ⟨hiok, ok1, ok2⟩ ⟨by show inn.l ≤ _; omega, by show l1 ≤ _; omega, by show l2 ≤ _; omega⟩ ?_
    have := GoodN.conv (ins := ins) (ws := ws) ((1 + x1 : Nat) : Int) size step gap left right ww bb ⟨h1, h2, h3, h4, h5⟩ (by omega) (by rw [← hw, ← e1x]; omega) (by omega) hwf hbf
    rw [← hix] at this
    exact this
  · -- Depth
    subst k2
    obtain rfl := hns (by omega)
    refine ldAg_S S 2 rfl (x := ({Nv.zero with kind := 2, inn := inn} : Nv).t) rfl ?_
    have P0 := S.into [0] [] [iL]
    rw [show Sh.pick R [iL] = [row p (ints L)] by simp only [Sh.pick, eL]] at P0
    refine (window14_S P0 0 rfl hL ha hl (.inr (.inl rfl))).mono ?_
    rintro _ g3 ⟨a1, size, step, gap, left, right, rfl, hwin, ha1, S1⟩
    replace S := S.back [0] S1
    dsimp only [merge, List.set] at S
    refine exS_i (Nv.t _) ⟨rfl, ?_⟩
    refine stL_S S 2 rfl rfl (mkS_one rfl) fun g4 _ S => ?_
    dsimp only [List.set] at S
    refine ldInt_i (n := size) (S.cell 2 rfl rfl) ?_
    obtain ⟨h1, h2, h3, h4, h5⟩ := hwin
    have b1 := bd_mul (a := size) (b := w) (x := 4) (y := 16) (by omega) (by omega)
    rw [wrap64_in (n := size * w) (by omega)]
    obtain ⟨m, em⟩ : ∃ m : Nat, size * w = m := ⟨(size * w).toNat, by omega⟩
    rw [em]
    have P0 := S.into [0] [] [iL]
    rw [show Sh.pick R [iL] = [row p (ints L)] by simp only [Sh.pick, eL]] at P0
    refine (row14_S P0 0 rfl hL ha1 hl m (by omega) (-9) (by omega) 19 (by decide) (by decide)).mono ?_
    rintro _ g7 ⟨q1, l1, d1, a3, ww, rfl, hwl, hl1, hwf, ha3, S1⟩
    replace S := S.back [0] S1
    refine ⟨_, _, _, rfl, ?_⟩
    dsimp only [merge, List.set] at S
    refine stI_S S 2 rfl (k := 8) (Nat.le_of_ble_eq_true rfl) fun g8 _ S => ?_
    have P0 := S.into [0] [] [iL]
    rw [show Sh.pick R [iL] = [row p (ints L)] by simp only [Sh.pick, eL]] at P0
    rw [ewn]
    refine (row14_S P0 0 rfl hL ha3 hl wn (by omega) (-50) (by omega) 101 (by decide) (by decide)).mono ?_
    rintro _ g9 ⟨q2, l2, d2, a4, bb, rfl, hbl, hl2, hbf, ha4, S1⟩
    replace S := S.back [0] S1
    refine ⟨_, _, _, rfl, ?_⟩
    dsimp only [merge, List.set] at S
    refine stI_S S 2 rfl (k := 9) (Nat.le_of_ble_eq_true rfl) fun g10 _ S => ?_
    have ok1 := own_sl (i := 4) S rfl
    have ok2 := own_sl (i := 5) S rfl
    replace S := own_row (i := 4) S rfl
    replace S := own_row (i := 5) S rfl
    refine made_end (nv := ⟨2, inn, 0, size, step, gap, left, right, ⟨q1, l1, d1, ww⟩, ⟨q2, l2, d2, bb⟩, 0, 0, 0, 0, 0⟩) S hx ha4 ⟨hiok, ok1, ok2⟩ ⟨by show inn.l ≤ _; omega, by show l1 ≤ _; omega, by show l2 ≤ _; omega⟩ ?_
    have := GoodN.depth (ins := ins) (ws := ws) size step gap left right ww bb ⟨h1, h2, h3, h4, h5⟩ (by rw [← hw]; omega) (by omega) hwf hbf
    rw [← hix] at this
    exact this
  · -- Dense
    subst k3
    refine (Next14_S S 0 iL rfl eL hL ha hl 3 (by decide) (by decide)).mono ?_
    rintro _ g5 ⟨x1, a2, rfl, hx1, ha2, S⟩
    refine ⟨_, rfl, ?_⟩
    dsimp only [List.set] at S ⊢
    rw [wrap64_in (n := 1 + (x1 : Int)) (by omega)]
    refine stI_S S 2 rfl (k := 2) (Nat.le_of_ble_eq_true rfl) fun g6 _ S => ?_
    refine ldInt_i (n := 1 + (x1 : Int)) (S.cell 2 rfl rfl) ?_
    have b1 := bd_mul (a := 1 + (x1 : Int)) (b := w) (x := 3) (y := 16) (by omega) (by omega)
    rw [wrap64_in (n := (1 + (x1 : Int)) * w) (by omega)]
    obtain ⟨m, em⟩ : ∃ m : Nat, (1 + (x1 : Int)) * w = m := ⟨((1 + (x1 : Int)) * w).toNat, by omega⟩
    rw [em]
    have P0 := S.into [0] [] [iL]
    rw [show Sh.pick R [iL] = [row p (ints L)] by simp only [Sh.pick, eL]] at P0
    refine (row14_S P0 0 rfl hL ha2 hl m (by omega) (-12) (by omega) 25 (by decide) (by decide)).mono ?_
    rintro _ g7 ⟨q1, l1, d1, a3, ww, rfl, hwl, hl1, hwf, ha3, S1⟩
    replace S := S.back [0] S1
    refine ⟨_, _, _, rfl, ?_⟩
    dsimp only [merge, List.set] at S
    refine stI_S S 2 rfl (k := 8) (Nat.le_of_ble_eq_true rfl) fun g8 _ S => ?_
    refine ldInt_i (n := 1 + (x1 : Int)) (S.cell 2 rfl rfl) ?_
    have P0 := S.into [0] [] [iL]
    rw [show Sh.pick R [iL] = [row p (ints L)] by simp only [Sh.pick, eL]] at P0
    have e1x : 1 + (x1 : Int) = ((1 + x1 : Nat) : Int) := by omega
    rw [e1x] at S P0 ⊢
    refine (row14_S P0 0 rfl hL ha3 hl (1 + x1) (by omega) (-5000) (by omega) 10001 (by decide) (by decide)).mono ?_
    rintro _ g9 ⟨q2, l2, d2, a4, bb, rfl, hbl, hl2, hbf, ha4, S1⟩
    replace S := S.back [0] S1
    refine ⟨_, _, _, rfl, ?_⟩
    dsimp only [merge, List.set] at S
    refine stI_S S 2 rfl (k := 9) (Nat.le_of_ble_eq_true rfl) fun g10 _ S => ?_
    have ok1 := own_sl (i := 4) S rfl
    have ok2 := own_sl (i := 5) S rfl
    replace S := own_row (i := 4) S rfl
    replace S := own_row (i := 5) S rfl
    refine made_end (nv := ⟨6, inn, ((1 + x1 : Nat) : Int), 0, 0, 0, 0, 0, ⟨q1, l1, d1, ww⟩, ⟨q2, l2, d2, bb⟩, 0, 0, 0, 0, 0⟩) S hx ha4 ⟨hiok, ok1, ok2⟩ ⟨by show inn.l ≤ _; omega, by show l1 ≤ _; omega, by show l2 ≤ _; omega⟩ ?_
    have := GoodN.dense (ins := ins) (ws := ws) still ((1 + x1 : Nat) : Int) ww bb (by omega) (by rw [← hw, ← e1x]; omega) (by omega) hwf hbf
    rw [← hix] at this
    exact this
  · -- Max
    subst k4
    obtain rfl := hns (by omega)
    refine ldAg_S S 2 rfl (x := ({Nv.zero with kind := 3, inn := inn} : Nv).t) rfl ?_
    have P0 := S.into [0] [] [iL]
    rw [show Sh.pick R [iL] = [row p (ints L)] by simp only [Sh.pick, eL]] at P0
    refine (window14_S P0 0 rfl hL ha hl (.inr (.inr (.inl rfl)))).mono ?_
    rintro _ g3 ⟨a1, size, step, gap, left, right, rfl, hwin, ha1, S1⟩
    replace S := S.back [0] S1
    dsimp only [merge, List.set] at S
    refine exS_i (Nv.t _) ⟨rfl, ?_⟩
    refine stL_S S 2 rfl rfl (mkS_one rfl) fun g4 _ S => ?_
    dsimp only [List.set] at S
    replace S := nil_row (nil_row S)
    refine made_end (nv := ⟨3, inn, 0, size, step, gap, left, right, Sl.nil, Sl.nil, 0, 0, 0, 0, 0⟩) S hx ha1 ⟨hiok, Sl.nil_ok, Sl.nil_ok⟩ ⟨by show inn.l ≤ _; omega, by show 0 ≤ _; omega, by show 0 ≤ _; omega⟩ ?_
    have := GoodN.pool (ins := ins) (ws := ws) 3 size step gap left right (.inl rfl) hwin
    rw [← hix] at this
    exact this
  · -- Mean
    subst k5
    obtain rfl := hns (by omega)
    refine ldAg_S S 2 rfl (x := ({Nv.zero with kind := 4, inn := inn} : Nv).t) rfl ?_
    have P0 := S.into [0] [] [iL]
    rw [show Sh.pick R [iL] = [row p (ints L)] by simp only [Sh.pick, eL]] at P0
    refine (window14_S P0 0 rfl hL ha hl (.inr (.inr (.inr rfl)))).mono ?_
    rintro _ g3 ⟨a1, size, step, gap, left, right, rfl, hwin, ha1, S1⟩
    replace S := S.back [0] S1
    dsimp only [merge, List.set] at S
    refine exS_i (Nv.t _) ⟨rfl, ?_⟩
    refine stL_S S 2 rfl rfl (mkS_one rfl) fun g4 _ S => ?_
    dsimp only [List.set] at S
    replace S := nil_row (nil_row S)
    refine made_end (nv := ⟨4, inn, 0, size, step, gap, left, right, Sl.nil, Sl.nil, 0, 0, 0, 0, 0⟩) S hx ha1 ⟨hiok, Sl.nil_ok, Sl.nil_ok⟩ ⟨by show inn.l ≤ _; omega, by show 0 ≤ _; omega, by show 0 ≤ _; omega⟩ ?_
    have := GoodN.pool (ins := ins) (ws := ws) 4 size step gap left right (.inr rfl) hwin
    rw [← hix] at this
    exact this
  · -- Smooth
    subst k6
    obtain rfl := hns (by omega)
    refine (Next14_S S 0 iL rfl eL hL ha hl 5 (by decide) (by decide)).mono ?_
    rintro _ g5 ⟨x1, a2, rfl, hx1, ha2, S⟩
    refine ⟨_, rfl, ?_⟩
    dsimp only [List.set] at S ⊢
    rw [wrap64_in (n := 1 + (x1 : Int)) (by omega)]
    refine stI_S S 2 rfl (k := 3) (Nat.le_of_ble_eq_true rfl) fun g6 _ S => ?_
    replace S := nil_row (nil_row S)
    refine made_end (nv := ⟨12, inn, 0, 1 + (x1 : Int), 0, 0, 0, 0, Sl.nil, Sl.nil, 0, 0, 0, 0, 0⟩) S hx ha2 ⟨hiok, Sl.nil_ok, Sl.nil_ok⟩ ⟨by show inn.l ≤ _; omega, by show 0 ≤ _; omega, by show 0 ≤ _; omega⟩ ?_
    have := GoodN.smooth (ins := ins) (ws := ws) (1 + (x1 : Int)) (by omega)
    rw [← hix] at this
    exact this
  · -- Clamp
    subst k7
    refine (Next14_S S 0 iL rfl eL hL ha hl 200 (by decide) (by decide)).mono ?_
    rintro _ g5 ⟨x1, a2, rfl, hx1, ha2, S⟩
    refine ⟨_, rfl, ?_⟩
    dsimp only [List.set] at S ⊢
    rw [wrap64_in (n := (x1 : Int) - 150) (by omega)]
    refine stI_S S 2 rfl (k := 12) (Nat.le_of_ble_eq_true rfl) fun g6 _ S => ?_
    refine ldInt_i (n := (x1 : Int) - 150) (S.cell 2 rfl rfl) ?_
    refine (Next14_S S 0 iL rfl eL hL ha2 hl 300 (by decide) (by decide)).mono ?_
    rintro _ g7 ⟨x2, a3, rfl, hx2, ha3, S⟩
    refine ⟨_, rfl, ?_⟩
    dsimp only [List.set] at S ⊢
    refine and_i (S.cell 2 rfl rfl) ?_
    rw [wrap64_in (n := (x1 : Int) - 150 + (x2 : Int)) (by omega)]
    refine stI_S S 2 rfl (k := 13) (Nat.le_of_ble_eq_true rfl) fun g8 _ S => ?_
    replace S := nil_row (nil_row S)
    refine made_end (nv := ⟨9, inn, 0, 0, 0, 0, 0, 0, Sl.nil, Sl.nil, 0, 0, (x1 : Int) - 150, (x1 : Int) - 150 + (x2 : Int), 0⟩) S hx ha3 ⟨hiok, Sl.nil_ok, Sl.nil_ok⟩ ⟨by show inn.l ≤ _; omega, by show 0 ≤ _; omega, by show 0 ≤ _; omega⟩ ?_
    have := GoodN.clamp (ins := ins) (ws := ws) still ((x1 : Int) - 150) ((x1 : Int) - 150 + (x2 : Int)) (by omega) (by omega)
    rw [← hix] at this
    exact this
  · -- Scale
    subst k8
    refine (Next14_S S 0 iL rfl eL hL ha hl 32768 (by decide) (by decide)).mono ?_
    rintro _ g5 ⟨x1, a2, rfl, hx1, ha2, S⟩
    refine ⟨_, rfl, ?_⟩
    dsimp only [List.set] at S ⊢
    refine stI_S S 2 rfl (k := 10) (Nat.le_of_ble_eq_true rfl) fun g6 _ S => ?_
    refine (Next14_S S 0 iL rfl eL hL ha2 hl 20 (by decide) (by decide)).mono ?_
    rintro _ g7 ⟨x2, a3, rfl, hx2, ha3, S⟩
    refine ⟨_, rfl, ?_⟩
    dsimp only [List.set] at S ⊢
    refine stI_S S 2 rfl (k := 11) (Nat.le_of_ble_eq_true rfl) fun g8 _ S => ?_
    replace S := nil_row (nil_row S)
    refine made_end (nv := ⟨10, inn, 0, 0, 0, 0, 0, 0, Sl.nil, Sl.nil, (x1 : Int), (x2 : Int), 0, 0, 0⟩) S hx ha3 ⟨hiok, Sl.nil_ok, Sl.nil_ok⟩ ⟨by show inn.l ≤ _; omega, by show 0 ≤ _; omega, by show 0 ≤ _; omega⟩ ?_
    have := GoodN.scale (ins := ins) (ws := ws) still (x1 : Int) (x2 : Int) (by omega) (by omega)
    rw [← hix] at this
    exact this
  · -- Whole, Best
    replace S := nil_row (nil_row S)
    refine made_end (nv := ⟨K, inn, 0, 0, 0, 0, 0, 0, Sl.nil, Sl.nil, 0, 0, 0, 0, 0⟩) S hx ha ⟨hiok, Sl.nil_ok, Sl.nil_ok⟩ ⟨by show inn.l ≤ _; omega, by show 0 ≤ _; omega, by show 0 ≤ _; omega⟩ ?_
    rcases (show K = 5 ∨ K = 11 by omega) with rfl | rfl
    · obtain rfl := hns (by omega)
      have := GoodN.whole (ins := ins) (ws := ws)
      rw [← hix] at this
      exact this
    · have := GoodN.best (ins := ins) (ws := ws) still
      rw [← hix] at this
      exact this
end

end Go.Proofs.Ytdjofpdmdbcgjad.G
