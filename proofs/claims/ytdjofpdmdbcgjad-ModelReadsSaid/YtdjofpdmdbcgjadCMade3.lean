/- Contracts: the document's nodes of plain numbers: Made, whole. -/
import Derived.Test.YtdjofpdmdbcgjadCMade2
namespace Go.Proofs.Ytdjofpdmdbcgjad.G
open Go Go.Sh
set_option linter.unusedVariables false
set_option linter.unusedSimpArgs false

section
variable {h0 h : Heap} {T : Nat → Prop} {W R : List Fact} {r l c a : Nat} {p : Option Addr} {L ins ws : List Int} {still : Bool}

theorem Made14_j18 {g : Heap} {K0 : Int} {inn : Sl} {t8 n9 : Nat} {w : Int} {xs : List Value} (hix : inn.xs = ins.take 1) (hiok : inn.ok)
    (S : Sep h T g [rwf r p l c a, blk t8 xs, blk n9 ({Nv.zero with kind := K0, inn := inn} : Nv).cells, inn.row] R) (hx : xs.length = 15) (iL : Nat) (eL : R[iL]? = some (row p (ints L))) (hL : L.length = l) (ha : a ≤ l) (hl : l < 2 ^ 62)
    (hw : w = ws.getD 0 0) (hw2 : 1 ≤ w ∧ w ≤ 16) :
    ref14_Made_j18 (MadeQ T h R r p l c ins ws still) (some ⟨r, 0, none⟩) still ⟨t8, 0, none⟩ ⟨n9, 0, none⟩ w g := by
  unfold ref14_Made_j18
  refine newI_S (cs := [.int .i64 0, .int .i64 0, .int .i64 0, .int .i64 0, .int .i64 0, .int .i64 0, .int .i64 0, .int .i64 0, .int .i64 0, .int .i64 0, .int .i64 0, .int .i64 0]) S fun bk h1 _ S => ?_
  refine stL_S S 4 rfl rfl (vals_one (l := kindsL)) fun h2 _ S => ?_
  have S2 : Sep h T h2 [rwf r p l c a, blk t8 xs, blk n9 ({Nv.zero with kind := K0, inn := inn} : Nv).cells, inn.row, blk bk (ints kindsL)] R := S
  clear S
  refine (Next14_S S2 0 iL rfl eL hL ha hl 12 (by decide) (by decide)).mono ?_
  rintro _ g5 ⟨x1, a2, rfl, hx1, ha2, S⟩
  refine ⟨_, rfl, ?_⟩
  dsimp only [List.set] at S ⊢
  refine ⟨fun s g => ∃ k a' : Nat, s = (some ⟨r, 0, none⟩, ⟨t8, 0, none⟩, ⟨n9, 0, none⟩, w, ⟨bk, 0, none⟩, (k : Int), ()) ∧ k < 12 ∧ (still = true → 7 ≤ k) ∧ a' ≤ l ∧ Sep h T g [rwf r p l c a', blk t8 xs, blk n9 ({Nv.zero with kind := K0, inn := inn} : Nv).cells, inn.row, blk bk (ints kindsL)] R, ?_, ?_⟩
  · rintro s g ⟨k, a', rfl, hk, hks, ha', S⟩
    exact Made14_j22 rfl hix hiok S hx iL eL hL ha' hl hk hks hw hw2
  · refine ifB_i (fun hst => ?_) (fun hst => ⟨x1, a2, rfl, hx1, by simp [hst], ha2, S⟩)
    refine (Next14_S S 0 iL rfl eL hL ha2 hl 5 (by decide) (by decide)).mono ?_
    rintro _ g6 ⟨x2, a3, rfl, hx2, ha3, S⟩
    refine ⟨_, rfl, ?_⟩
    dsimp only [List.set] at S ⊢
    rw [wrap64_in (by omega)]
    exact ⟨7 + x2, a3, rfl, by omega, fun _ => by omega, ha3, S⟩

set_option maxHeartbeats 1000000 in
theorem Made14_S {ip wp : Option Addr} {il ic wl wc : Nat} (S : Sep h T h [rwf r p l c a, own 1 ip il ic (ints ins)] R) (iL iw : Nat) (eL : R[iL]? = some (row p (ints L))) (hL : L.length = l) (ha : a ≤ l) (hl : l < 2 ^ 62)
    (ew : R[iw]? = some (row wp (ints ws))) (hwl : ws.length = wl) (hil : il = wl) (h12 : wl = 1 ∨ wl = 2) (hfit : fitR 1 16 ws) :
    callP P n_ref14_Made #[.pointer (some ⟨r, 0, none⟩), .slice ip il ic, .slice wp wl wc, .bool still] h (MadeQ T h R r p l c ins ws still) := by
  refine call_ref14_Made _ _ _ _ _ _ _ _ ?_
  unfold ref14_Made
  have hin := own_sl (i := 1) S rfl
  have hil2 : ins.length = il := hin.1
  have hilc : il ≤ ic := hin.2
  refine newI_S S fun b1 h1 _ S => ?_
  refine newI_S S fun b3 h2 _ S => ?_
  dsimp only [List.cons_append, List.nil_append] at S
  refine stL_S S 3 rfl rfl (mkS_one (l := ndSh) (x := ({Nv.zero with inn := ⟨ip, il, ic, ins⟩} : Nv).t) rfl) fun h3 _ S => ?_
  have S2 : Sep h T h3 [rwf r p l c a, own 1 ip il ic (ints ins), blk b1 (mkS' ndSh (zT ndSh)), blk b3 ({Nv.zero with inn := ⟨ip, il, ic, ins⟩} : Nv).cells] R := S
  clear S
  have S := S2
  clear S2
  have hwr := S.row iw ew
  obtain ⟨aw, rfl⟩ := hwr.some_of (by rw [ints_length]; omega)
  have hw0 := hfit ws[0] (List.getElem_mem (by omega))
  have e0 : ws.getD 0 0 = ws[0] := getD_eq (by omega)
  refine idxI_i rfl (k := 0) rfl (by omega) ?_
  refine ldInt_i (n := ws.getD 0 0) (hwr.cell (i := 0) (ints_get (by rw [List.getElem?_eq_getElem (by omega), e0]))) ?_
  rw [← e0] at hw0
  generalize hwg : ws.getD 0 0 = w at hw0 ⊢
  refine ⟨fun s g => s = (some ⟨r, 0, none⟩, still, ⟨b1, 0, none⟩, ⟨b3, 0, none⟩, w, ()) ∧ ∃ (K0 : Int) (inn : Sl) (a' : Nat), inn.xs = ins.take 1 ∧ inn.ok ∧ a' ≤ l ∧ Sep h T g [rwf r p l c a', blk b1 (mkS' ndSh (zT ndSh)), blk b3 ({Nv.zero with kind := K0, inn := inn} : Nv).cells, inn.row] R, ?_, ?_⟩
  · rintro s g ⟨rfl, K0, inn, a', hix, hiok, ha', S⟩
    exact Made14_j18 hix hiok S rfl iL eL hL ha' hl hwg.symm hw0
  · refine ifB_dec (fun h1 => ?_) (fun h1 => ?_)
    · refine stI_S S 3 rfl (k := 0) (Nat.le_of_ble_eq_true rfl) fun h4 _ S => ?_
      have hrow := own_row (i := 1) S rfl
      have S2 : Sep h T h4 [rwf r p l c a, (Sl.mk ip il ic ins).row, blk b1 (mkS' ndSh (zT ndSh)), blk b3 ({Nv.zero with kind := 8, inn := ⟨ip, il, ic, ins⟩} : Nv).cells] R := hrow
      clear S hrow
      have S := S2.pw [0, 2, 3, 1]
      clear S2
      dsimp only [Sh.pick, List.getElem?_cons_zero, List.getElem?_cons_succ] at S
      refine LoopS_i (fun m s g => ∃ (i : Nat) (same : Bool), s = (some ⟨r, 0, none⟩, (ip, il, ic), (some aw, wl, wc), still, ⟨b1, 0, none⟩, ⟨b3, 0, none⟩, w, sumI (ws.take i), same, (i : Int), ()) ∧ i ≤ wl ∧ m = wl - i ∧ (same = true ↔ ∀ x ∈ ws.take i, x = w) ∧
        Sep h T g [rwf r p l c a, blk b1 (mkS' ndSh (zT ndSh)), blk b3 ({Nv.zero with kind := 8, inn := ⟨ip, il, ic, ins⟩} : Nv).cells, (Sl.mk ip il ic ins).row] R) wl ⟨0, true, rfl, by omega, rfl, by simp, S⟩ ?_
      rintro m s g ⟨i, same, rfl, hi', rfl, hsame, S⟩
      unfold ref14_Made_l8
      dsimp only
      refine ifB_dec (fun hlt => ?_) (fun hge => ?_)
      · have hix : i < ws.length := by omega
        have hc := (S.row iw ew).cell (ints_get (List.getElem?_eq_getElem hix))
        have hsr := sumI_range (fitR_take i hfit)
        rw [List.length_take] at hsr
        have hxi := hfit ws[i] (List.getElem_mem hix)
        have etk := List.take_succ_eq_append_getElem hix
        refine idxI_i rfl rfl (by omega) ?_
        simp only [Int.toNat_natCast, Nat.mul_one]
        refine ldInt_i hc ?_
        rw [wrap64_in (n := sumI (ws.take i) + ws[i]) (by omega), wrap64_in (n := (i : Int) + 1) (by omega), ← sumI_snoc hix]
        refine ifB_i (fun e => idxI_i rfl rfl (by omega) (ldInt_i hc ⟨wl - (i + 1), by omega, i + 1, _, rfl, by omega, rfl, ?_, S⟩)) (fun e => ⟨wl - (i + 1), by omega, i + 1, false, rfl, by omega, rfl, ?_, S⟩)
        · rw [beq_iff_eq, etk]
          constructor
          · intro h9 x hx
            rcases List.mem_append.1 hx with hx | hx
            · exact hsame.1 e x hx
            · simp only [List.mem_singleton] at hx; subst hx; exact h9
          · intro h9; exact h9 _ (List.mem_append_right _ (by simp))
        · constructor
          · intro h9; cases h9
          · intro h9
            rw [hsame.2 (fun x hx => h9 x (by rw [etk]; exact List.mem_append_left _ hx))] at e
            cases e
      · have hie : i = wl := by omega
        subst hie
        rw [List.take_of_length_le (by omega)] at hsame ⊢
        have i2 : 2 ≤ ins.length := by omega
        have fin : ∀ (K : Int) (g : Heap) (a' : Nat), a' ≤ l → GoodN ins ws still (⟨K, ins, 0, 0, 0, 0, 0, 0, [], [], 0, 0, 0, 0, 0⟩ : Nd) → Sep h T g [rwf r p l c a', blk b1 (mkS' ndSh (zT ndSh)), blk b3 ({Nv.zero with kind := K, inn := ⟨ip, il, ic, ins⟩} : Nv).cells, (Sl.mk ip il ic ins).row] R →
            ldAg ndSh g ⟨b3, 0, none⟩ fun x => storeL (mkS' ndSh x) g ⟨b1, 0, none⟩ 0 fun g2 => ldAg ndSh g2 ⟨b1, 0, none⟩ fun y => MadeQ T h R r p l c ins ws still (agS ndSh y) g2 := by
          intro K g a' ha' hgood S
          replace S := nil_row (nil_row S)
          exact made_end (nv := ⟨K, ⟨ip, il, ic, ins⟩, 0, 0, 0, 0, 0, 0, Sl.nil, Sl.nil, 0, 0, 0, 0, 0⟩) S rfl ha' ⟨hin, Sl.nil_ok, Sl.nil_ok⟩ ⟨by show il ≤ _; omega, by show 0 ≤ _; omega, by show 0 ≤ _; omega⟩ hgood
        have cut : ∀ (g : Heap) (a' : Nat), a' ≤ l → Sep h T g [rwf r p l c a', blk b1 (mkS' ndSh (zT ndSh)), blk b3 ({Nv.zero with kind := 8, inn := ⟨ip, il, ic, ins⟩} : Nv).cells, (Sl.mk ip il ic ins).row] R →
            bndI 1 ic fun l134 => stI g (Addr.add ⟨b3, 0, none⟩ 1) (.slice (if ic = 0 then ip else Option.map (fun a => a.add (0 * 1)) ip) (l134 - 0) (ic - 0)) fun h135 =>
              (some (⟨r, 0, none⟩ : Addr), still, (⟨b1, 0, none⟩ : Addr), (⟨b3, 0, none⟩ : Addr), w, ()) = (some ⟨r, 0, none⟩, still, ⟨b1, 0, none⟩, ⟨b3, 0, none⟩, w, ()) ∧ ∃ (K0 : Int) (inn : Sl) (a' : Nat), inn.xs = ins.take 1 ∧ inn.ok ∧ a' ≤ l ∧ Sep h T h135 [rwf r p l c a', blk b1 (mkS' ndSh (zT ndSh)), blk b3 ({Nv.zero with kind := K0, inn := inn} : Nv).cells, inn.row] R := by
          intro g a' ha' S
          refine bndI_i (n := 1) rfl (by omega) ?_
          rw [sl0]
          refine stI_S S 2 rfl (k := 1) (Nat.le_of_ble_eq_true rfl) fun h135 _ S => ?_
          refine ⟨rfl, 8, ⟨ip, 1, ic, ins.take 1⟩, a', rfl, ⟨by simp; omega, by show 1 ≤ ic; omega⟩, ha', ?_⟩
          exact S.turn 3 rfl (Sl.mk ip 1 ic (ins.take 1)).row (fun hh => by
            have := Row.take hh 1
            rw [ints_take] at this
            exact this) (fun b hb => ⟨fun hh => hb.1 (by
              have : ins = [] := by simpa [ints] using hh
              rw [this]; rfl), hb.2⟩)
        refine ifB_i (fun e => ?_) (fun e => ?_)
        · have hall := hsame.1 e
          rw [← hwg] at hall
          refine ifB_dec (fun h5 => ?_) (fun h5 => ?_)
          · refine stI_S S 2 rfl (k := 0) (Nat.le_of_ble_eq_true rfl) fun h5 _ S => ?_
            exact fin 7 h5 a ha (.add _ i2 hall) S
          · refine (Next14_S S 0 iL rfl eL hL ha hl 2 (by decide) (by decide)).mono ?_
            rintro _ g6 ⟨x2, a3, rfl, hx2, ha3, S⟩
            refine ⟨_, rfl, ?_⟩
            dsimp only [List.set] at S ⊢
            refine ifB_beq (fun h6 => ?_) (fun h6 => ifB_dec (fun h7 => fin 8 _ a3 ha3 (.join _ i2 h7) S) (fun h7 => cut _ a3 ha3 S))
            refine stI_S S 2 rfl (k := 0) (Nat.le_of_ble_eq_true rfl) fun h5 _ S => ?_
            exact fin 7 h5 a3 ha3 (.add _ i2 hall) S
        · exact ifB_dec (fun h7 => fin 8 _ a ha (.join _ i2 h7) S) (fun h7 => cut _ a ha S)
    · have hrow := own_row (i := 1) S rfl
      have S2 : Sep h T h3 [rwf r p l c a, (Sl.mk ip il ic ins).row, blk b1 (mkS' ndSh (zT ndSh)), blk b3 ({Nv.zero with inn := ⟨ip, il, ic, ins⟩} : Nv).cells] R := hrow
      refine ⟨rfl, 0, ⟨ip, il, ic, ins⟩, a, ?_, hin, ha, S2.pw [0, 2, 3, 1]⟩
      rw [List.take_of_length_le (by omega)]
end

end Go.Proofs.Ytdjofpdmdbcgjad.G
