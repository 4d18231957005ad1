/- Contracts: the document's nodes of plain numbers (chapter 14). -/
import Derived.Test.YtdjofpdmdbcgjadCKind14d
namespace Go.Proofs.Ytdjofpdmdbcgjad.G
open Go Go.Sh
set_option linter.unusedVariables false
set_option linter.unusedSimpArgs false

/-- Numbers that are taken one by one. -/
abbrev rwf (r : Nat) (p : Option Addr) (l c a : Nat) : Fact := blk r [.slice p l c, .int .i64 a]

abbrev winOk (size step gap left right : Int) : Prop := inR size 1 4 ∧ inR step 1 3 ∧ inR gap 1 3 ∧ inR left 0 ((size - 1) * gap) ∧ inR right 0 ((size - 1) * gap)
/-- A node that is made, over inputs ins of widths ws. -/
inductive GoodN (ins ws : List Int) : Bool → Nd → Prop
  | add (st : Bool) : 2 ≤ ins.length → (∀ x ∈ ws, x = ws.getD 0 0) → GoodN ins ws st ⟨7, ins, 0, 0, 0, 0, 0, 0, [], [], 0, 0, 0, 0, 0⟩
  | join (st : Bool) : 2 ≤ ins.length → sumI ws ≤ 16 → GoodN ins ws st ⟨8, ins, 0, 0, 0, 0, 0, 0, [], [], 0, 0, 0, 0, 0⟩
  | conv (width size step gap left right : Int) (ww bb : List Int) : winOk size step gap left right → inR width 1 3 → (ww.length : Int) = width * size * ws.getD 0 0 → (bb.length : Int) = width → fitR (-9) 9 ww → fitR (-50) 50 bb →
      GoodN ins ws false ⟨1, ins.take 1, width, size, step, gap, left, right, ww, bb, 0, 0, 0, 0, 0⟩
  | depth (size step gap left right : Int) (ww bb : List Int) : winOk size step gap left right → (ww.length : Int) = size * ws.getD 0 0 → (bb.length : Int) = ws.getD 0 0 → fitR (-9) 9 ww → fitR (-50) 50 bb →
      GoodN ins ws false ⟨2, ins.take 1, 0, size, step, gap, left, right, ww, bb, 0, 0, 0, 0, 0⟩
  | pool (k size step gap left right : Int) : k = 3 ∨ k = 4 → winOk size step gap left right → GoodN ins ws false ⟨k, ins.take 1, 0, size, step, gap, left, right, [], [], 0, 0, 0, 0, 0⟩
  | smooth (size : Int) : inR size 1 5 → GoodN ins ws false ⟨12, ins.take 1, 0, size, 0, 0, 0, 0, [], [], 0, 0, 0, 0, 0⟩
  | whole : GoodN ins ws false ⟨5, ins.take 1, 0, 0, 0, 0, 0, 0, [], [], 0, 0, 0, 0, 0⟩
  | dense (st : Bool) (width : Int) (ww bb : List Int) : inR width 1 3 → (ww.length : Int) = width * ws.getD 0 0 → (bb.length : Int) = width → fitR (-12) 12 ww → fitR (-5000) 5000 bb →
      GoodN ins ws st ⟨6, ins.take 1, width, 0, 0, 0, 0, 0, ww, bb, 0, 0, 0, 0, 0⟩
  | clamp (st : Bool) (low high : Int) : inR low (-150) 49 → inR high low (low + 299) → GoodN ins ws st ⟨9, ins.take 1, 0, 0, 0, 0, 0, 0, [], [], 0, 0, low, high, 0⟩
  | scale (st : Bool) (mult shift : Int) : inR mult 0 32767 → inR shift 0 19 → GoodN ins ws st ⟨10, ins.take 1, 0, 0, 0, 0, 0, 0, [], [], mult, shift, 0, 0, 0⟩
  | best (st : Bool) : GoodN ins ws st ⟨11, ins.take 1, 0, 0, 0, 0, 0, 0, [], [], 0, 0, 0, 0, 0⟩

section
variable {h0 h : Heap} {T : Nat → Prop} {W R : List Fact} {r l c a : Nat} {p : Option Addr} {L : List Int}

theorem tmod_range (x : Int) {n : Nat} (h0 : 0 < n) (h1 : n < 2 ^ 60) : ∃ k : Nat, Int.tmod (IntKind.wrap .i64 (Int.tmod x n + n)) n = k ∧ k < n := by
  have hb := tmod_bound x (m := n) (by omega)
  rw [wrap64_in (by omega)]
  have h2 : 0 ≤ Int.tmod x n + n := by omega
  rw [Int.tmod_eq_emod_of_nonneg h2]
  have h3 := Int.emod_nonneg (Int.tmod x n + n) (b := n) (by omega)
  have h4 := Int.emod_lt_of_pos (Int.tmod x n + n) (b := n) (by omega)
  exact ⟨((Int.tmod x n + n) % n).toNat, by omega, by omega⟩

theorem Next14_S (S : Sep h0 T h W R) (ir iL : Nat) (er : W[ir]? = some (rwf r p l c a)) (eL : R[iL]? = some (row p (ints L))) (hL : L.length = l) (ha : a ≤ l) (hl : l < 2 ^ 62) (n : Nat) (h1 : 1 ≤ n) (h2 : n < 2 ^ 60) :
    callP P n_ref14_Row_Next #[.pointer (some ⟨r, 0, none⟩), .int .i64 n] h fun v h' => ∃ (k a' : Nat), v = .int .i64 k ∧ k < n ∧ a' ≤ l ∧ Sep h0 T h' (W.set ir (rwf r p l c a')) R := by
  refine call_ref14_Row_Next _ _ ?_
  unfold ref14_Row_Next
  refine nilI_some (nilI_some (ldInt_i (S.cell ir er rfl) (ldSlice_i (S.cell ir er rfl) (ifB_dec (fun h3 => ⟨0, a, rfl, by omega, ha, S.turn ir er _ (fun h => h) fun _ h => h⟩) fun h3 => nilI_some (ldInt_i (S.cell ir er rfl) (nilI_some ?_))))))
  rw [wrap64_in (n := (a : Int) + 1) (by omega)]
  have ea : (a : Int) + 1 = ((a + 1 : Nat) : Int) := by omega
  rw [ea]
  refine stI_S S ir er (k := 1) (Nat.le_of_ble_eq_true rfl) fun h' _ S => ?_
  have hi : ir < W.length := (List.getElem?_eq_some_iff.1 er).1
  have er' : (W.set ir (rwf r p l c (a + 1)))[ir]? = some (rwf r p l c (a + 1)) := by rw [List.getElem?_set_self hi]
  have S' : Sep h0 T h' (W.set ir (rwf r p l c (a + 1))) R := S
  refine nilI_some (nilI_some (ldSlice_i (S'.cell ir er' rfl) (ldInt_i (S'.cell ir er' rfl) ?_)))
  have ea2 : IntKind.wrap .i64 (((a + 1 : Nat) : Int) - 1) = (a : Int) := by rw [wrap64_in (by omega)]; omega
  rw [ea2]
  have hx := S'.row iL eL
  obtain ⟨aa, rfl⟩ := hx.some_of (by rw [ints_length]; omega)
  refine idxI_i rfl rfl (by omega) ?_
  simp only [Int.toNat_natCast, Nat.mul_one]
  refine ldInt_i (hx.cell (ints_get (List.getElem?_eq_getElem (by omega)))) ⟨by omega, by omega, ?_⟩
  obtain ⟨k, ek, hk⟩ := tmod_range (L[a]'(by omega)) h1 h2
  rw [ek]
  exact ⟨k, a + 1, rfl, hk, by omega, S'⟩

theorem row14_S (S : Sep h T h [rwf r p l c a] R) (iL : Nat) (eL : R[iL]? = some (row p (ints L))) (hL : L.length = l) (ha : a ≤ l) (hl : l < 2 ^ 62) (m : Nat) (hm : m ≤ 2 ^ 20) (lo : Int) (hlo : -2 ^ 20 ≤ lo ∧ lo ≤ 2 ^ 20) (n : Nat) (h1 : 1 ≤ n) (h2 : n < 2 ^ 30) :
    callP P n_ref14_Row_row #[.pointer (some ⟨r, 0, none⟩), .int .i64 m, .int .i64 lo, .int .i64 n] h fun v h' => ∃ (q : Option Addr) (k d a' : Nat) (xs : List Int), v = .slice q k d ∧ xs.length = m ∧ k = m ∧ fitR lo (lo + n - 1) xs ∧ a' ≤ l ∧ Sep h T h' [rwf r p l c a', own 1 q k d (ints xs)] R := by
  refine call_ref14_Row_row _ _ _ _ ?_
  unfold ref14_Row_row
  replace S := S.nil 1
  dsimp only [List.cons_append, List.nil_append] at S
  refine LoopS_i (fun m' s g => ∃ (i a' : Nat) (q : Option Addr) (k d : Nat) (xs : List Int), s = (some ⟨r, 0, none⟩, (m : Int), lo, (n : Int), (q, k, d), (i : Int), ()) ∧ i ≤ m ∧ m' = m - i ∧ xs.length = i ∧ k = i ∧ fitR lo (lo + n - 1) xs ∧ a' ≤ l ∧ Sep h T g [rwf r p l c a', own 1 q k d (ints xs)] R) m
    ⟨0, a, none, 0, 0, [], rfl, by omega, rfl, rfl, rfl, fitR_nil _ _, ha, S⟩ ?_
  rintro m' s g ⟨i, a', q, k, d, xs, rfl, hi', rfl, hxl, rfl, hf, ha', S⟩
  unfold ref14_Row_row_l3
  dsimp only
  refine ifB_dec (fun hlt => ?_) (fun hge => ?_)
  · refine (Next14_S S 0 iL rfl eL hL ha' hl n h1 (by omega)).mono ?_
    rintro _ g2 ⟨x, a2, rfl, hx, ha2, S⟩
    refine ⟨_, rfl, ?_⟩
    dsimp only [List.set] at S ⊢
    rw [wrap64_in (n := lo + (x : Int)) (by omega)]
    refine newI_S S (fun b4 _ _ S => ?_)
    dsimp only [List.cons_append, List.nil_append] at S
    refine appI_S S 1 (ys := ints [lo + (x : Int)]) rfl rfl (by decide) (by omega) (Row.of_at (S.at 2 rfl)) rfl vals_one fun p' l' c' h' hl' S => ?_
    dsimp only [List.set] at S
    rw [wrap64_in (by omega)]
    have ei : ints xs ++ ints [lo + (x : Int)] = ints (xs ++ [lo + (x : Int)]) := by simp [ints]
    rw [ei] at S
    refine ⟨m - (k + 1), by omega, k + 1, a2, p', l', c', xs ++ [lo + (x : Int)], rfl, by omega, rfl, by simp; omega, hl', ?_, ha2, S.pw [0, 1]⟩
    intro y hy
    rcases List.mem_append.1 hy with hy | hy
    · exact hf y hy
    · simp only [List.mem_singleton] at hy; subst hy; omega
  · have : k = m := by omega
    subst this
    exact ⟨q, k, d, a', xs, rfl, hxl, rfl, hf, ha', S⟩

theorem window14_S (S : Sep h T h [rwf r p l c a] R) (iL : Nat) (eL : R[iL]? = some (row p (ints L))) (hL : L.length = l) (ha : a ≤ l) (hl : l < 2 ^ 62) {nv : Nv} (hk : four nv.kind) :
    callP P n_ref14_Row_window #[.pointer (some ⟨r, 0, none⟩), nv.v] h fun v h' => ∃ (a' : Nat) (size step gap left right : Int), v = ({nv with size := size, step := step, gap := gap, left := left, right := right} : Nv).v ∧ winOk size step gap left right ∧ a' ≤ l ∧ Sep h T h' [rwf r p l c a'] R := by
  refine call_ref14_Row_window _ _ ?_
  unfold ref14_Row_window
  refine newI_S (cs := nv.cells) S fun b1 h1 _ S => ?_
  refine newI_S S fun b3 h2 _ S => ?_
  dsimp only [List.cons_append, List.nil_append] at S
  refine (Next14_S S 0 iL rfl eL hL ha hl 4 (by decide) (by decide)).mono ?_
  rintro _ g ⟨k1, a1, rfl, hk1, ha1, S⟩
  refine ⟨_, rfl, ?_⟩
  dsimp only [List.set] at S ⊢
  rw [wrap64_in (n := 1 + (k1 : Int)) (by omega)]
  refine stI_S S 1 rfl (k := 3) (Nat.le_of_ble_eq_true rfl) fun h' _ S => ?_
  refine (Next14_S S 0 iL rfl eL hL ha1 hl 3 (by decide) (by decide)).mono ?_
  rintro _ g ⟨k2, a2, rfl, hk2, ha2, S⟩
  refine ⟨_, rfl, ?_⟩
  dsimp only [List.set] at S ⊢
  rw [wrap64_in (n := 1 + (k2 : Int)) (by omega)]
  refine stI_S S 1 rfl (k := 4) (Nat.le_of_ble_eq_true rfl) fun h' _ S => ?_
  refine (Next14_S S 0 iL rfl eL hL ha2 hl 3 (by decide) (by decide)).mono ?_
  rintro _ g ⟨k3, a3, rfl, hk3, ha3, S⟩
  refine ⟨_, rfl, ?_⟩
  dsimp only [List.set] at S ⊢
  rw [wrap64_in (n := 1 + (k3 : Int)) (by omega)]
  refine stI_S S 1 rfl (k := 5) (Nat.le_of_ble_eq_true rfl) fun h' _ S => ?_
  have S2 : Sep h T h' [rwf r p l c a3, blk b1 ({nv with size := 1 + (k1 : Int), step := 1 + (k2 : Int), gap := 1 + (k3 : Int)} : Nv).cells, blk b3 (mkS' ndSh (zT ndSh))] R := S
  clear S
  have S := S2
  clear S2
  generalize hn2 : ({nv with size := 1 + (k1 : Int), step := 1 + (k2 : Int), gap := 1 + (k3 : Int)} : Nv) = n2 at S
  have hsz : n2.size = 1 + (k1 : Int) := by rw [← hn2]
  have hgp : n2.gap = 1 + (k3 : Int) := by rw [← hn2]
  have hkd : n2.kind = nv.kind := by rw [← hn2]
  have hsp : n2.nd.span = (n2.size - 1) * n2.gap + 1 := by
    show spanN n2.kind n2.size n2.gap = _
    unfold spanN
    rw [hkd, if_neg (by omega), if_pos hk]
  have hm : 0 ≤ (n2.size - 1) * n2.gap ∧ (n2.size - 1) * n2.gap ≤ 9 := bd_mul (x := 3) (y := 3) (by omega) (by omega)
  obtain ⟨m, em⟩ : ∃ m : Nat, (n2.size - 1) * n2.gap + 1 = m := ⟨((n2.size - 1) * n2.gap + 1).toNat, by omega⟩
  rw [em] at hsp
  refine ldAg_S S 1 rfl (x := n2.t) rfl ?_
  refine (Span14_ok n2 (by omega) (by omega)).mono ?_
  rintro _ _ ⟨rfl, F⟩
  refine ⟨_, rfl, ?_⟩
  replace S := S.fra0 F
  rw [hsp]
  refine (Next14_S S 0 iL rfl eL hL ha3 hl m (by omega) (by omega)).mono ?_
  rintro _ g ⟨k4, a4, rfl, hk4, ha4, S⟩
  refine ⟨_, rfl, ?_⟩
  dsimp only [List.set] at S ⊢
  refine stI_S S 1 rfl (k := 6) (Nat.le_of_ble_eq_true rfl) fun h' _ S => ?_
  have S2 : Sep h T h' [rwf r p l c a4, blk b1 ({n2 with left := (k4 : Int)} : Nv).cells, blk b3 (mkS' ndSh (zT ndSh))] R := S
  clear S
  have S := S2
  clear S2
  refine ldAg_S S 1 rfl (x := ({n2 with left := (k4 : Int)} : Nv).t) rfl ?_
  have hsp2 : ({n2 with left := (k4 : Int)} : Nv).nd.span = m := hsp
  refine (Span14_ok ({n2 with left := (k4 : Int)} : Nv) (by show -2 ^ 20 ≤ n2.size ∧ n2.size ≤ 2 ^ 20; omega) (by show -2 ^ 20 ≤ n2.gap ∧ n2.gap ≤ 2 ^ 20; omega)).mono ?_
  rintro _ _ ⟨rfl, F⟩
  refine ⟨_, rfl, ?_⟩
  replace S := S.fra0 F
  rw [hsp2]
  refine (Next14_S S 0 iL rfl eL hL ha4 hl m (by omega) (by omega)).mono ?_
  rintro _ g ⟨k5, a5, rfl, hk5, ha5, S⟩
  refine ⟨_, rfl, ?_⟩
  dsimp only [List.set] at S ⊢
  refine stI_S S 1 rfl (k := 7) (Nat.le_of_ble_eq_true rfl) fun h' _ S => ?_
  have S2 : Sep h T h' [rwf r p l c a5, blk b1 ({n2 with left := (k4 : Int), right := (k5 : Int)} : Nv).cells, blk b3 (mkS' ndSh (zT ndSh))] R := S
  clear S
  have S := S2
  clear S2
  refine ldAg_S S 1 rfl (x := ({n2 with left := (k4 : Int), right := (k5 : Int)} : Nv).t) rfl ?_
  refine stL_S S 2 rfl rfl (mkS_one rfl) fun h4 _ S => ?_
  dsimp only [List.set] at S
  refine ldAg_S S 2 rfl (x := ({n2 with left := (k4 : Int), right := (k5 : Int)} : Nv).t) rfl ?_
  refine ⟨a5, 1 + (k1 : Int), 1 + (k2 : Int), 1 + (k3 : Int), (k4 : Int), (k5 : Int), by rw [← hn2], ⟨by omega, by omega, by omega, ?_, ?_⟩, ha5, S.pw [0]⟩
  · rw [hsz, hgp] at em; omega
  · rw [hsz, hgp] at em; omega
end

end Go.Proofs.Ytdjofpdmdbcgjad.G
