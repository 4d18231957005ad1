/- Contracts: the document's arena; what a script does to arenas. -/
import Derived.Test.YtdjofpdmdbcgjaaCArena3
import Derived.Test.YtdjofpdmdbcgjaaShArg
namespace Go.Proofs.Ytdjofpdmdbcgjaa.G
open Go Go.Sh
set_option linter.unusedVariables false

/-- The document's arena. -/
abbrev rb (b : Nat) (p : Option Addr) (l c : Nat) (err : Int) : Fact := blk b [.slice p l c, .int .i64 err]

section
variable {h0 h : Heap} {T : Nat → Prop} {W R : List Fact} {b l c : Nat} {p : Option Addr} {err : Int} {ws : List Int}

theorem Word_ok (x : Int) : callP P n_ref07_Word #[.int .i64 x] h fun v h' => v = .bool (decide (isW x)) ∧ h' = h := by
  refine call_ref07_Word _ ?_
  unfold ref07_Word
  refine ifB_dec (fun h1 => ⟨?_, rfl⟩) (fun h1 => ⟨?_, rfl⟩)
  · congr 1; rw [decide_eq_decide]; unfold isW; omega
  · congr 1; symm; rw [decide_eq_false_iff_not]; unfold isW; omega

theorem New_R (n : Nat) (hn : n ≤ 4096) : callP P n_ref07_New #[.int .i64 n] h fun v h' => ∃ b q, v = .pointer (some ⟨b, 0, none⟩) ∧ Sep h no h' [own 1 q n n (ints (List.replicate n 0)), rb b q n n 0] [] := by
  refine call_ref07_New _ ?_
  unfold ref07_New
  have S := Sep.start h no
  refine mkI_S S n rfl rfl rfl (by decide) (by omega) (by omega) fun b1 h1 _ S => ?_
  rw [repl_one] at S
  refine newI_S S (fun b3 _ _ S => ?_)
  rw [Int.toNat_natCast] at S
  refine ⟨b3, some ⟨b1, 0, none⟩, rfl, ?_⟩
  have e : ints (List.replicate n 0) = List.replicate n (.int .i64 0) := by simp [ints]
  rw [e]
  have S2 := S.toOwn (cs := List.replicate n (.int .i64 0)) 0 1 n n (by simp) (Nat.le_refl _)
  rw [List.take_of_length_le (by simp)] at S2
  exact S2

theorem May_ok (S : Sep h0 T h W R) (ib : Nat) (e : W[ib]? = some (rb b p l c err)) (k m : Int) (hl : l < 2 ^ 62) :
    callP P n_ref07_Arena_May #[.pointer (some ⟨b, 0, none⟩), .int .i64 k, .int .i64 m] h fun v h' => v = .bool (decide (0 ≤ k ∧ 0 ≤ m ∧ k + m ≤ l)) ∧ h' = h := by
  refine call_ref07_Arena_May _ _ _ ?_
  unfold ref07_Arena_May
  have no_ : ¬ (0 ≤ k ∧ 0 ≤ m ∧ k + m ≤ l) → (Value.bool false = .bool (decide (0 ≤ k ∧ 0 ≤ m ∧ k + m ≤ l)) ∧ h = h) := fun hn => ⟨by rw [decide_eq_false hn], rfl⟩
  refine ifB_dec (fun h1 => ifB_dec (fun h2 => nilI_some (ldSlice_i (S.cell ib e rfl) (ifB_dec (fun h3 => nilI_some (ldSlice_i (S.cell ib e rfl) ⟨?_, rfl⟩)) fun h3 => no_ (by omega)))) fun h2 => no_ (by omega)) fun h1 => no_ (by omega)
  rw [wrap64_in (by omega)]
  congr 1; rw [decide_eq_decide]; omega

theorem rtrouble_S (S : Sep h0 T h W R) (ib : Nat) (e : W[ib]? = some (rb b p l c err)) (x : Int) :
    callP P n_ref07_Arena_trouble #[.pointer (some ⟨b, 0, none⟩), .int .i64 x] h fun v h' => v = .tuple #[] ∧ Sep h0 T h' (W.set ib (rb b p l c (tr err x))) R := by
  refine call_ref07_Arena_trouble _ _ ?_
  unfold ref07_Arena_trouble
  refine nilI_some (ldInt_i (S.cell ib e rfl) ?_)
  refine ifB_i (fun h1 => nilI_some ?_) (fun h1 => ⟨rfl, ?_⟩)
  · refine stI_S S ib e (Nat.le_of_ble_eq_true rfl) fun h' _ S => ⟨rfl, ?_⟩
    have : tr err x = x := by unfold tr; rw [if_pos (by simpa using h1)]
    rw [this]; exact S
  · have : tr err x = err := by unfold tr; rw [if_neg (by simpa using h1)]
    rw [this]
    exact S.turn ib e _ (fun h => h) fun _ h => h

theorem RGet_S (S : Sep h0 T h W R) (ib iw : Nat) (eb : W[ib]? = some (rb b p l c err)) (ew : W[iw]? = some (own 1 p l c (ints ws))) (at_ n : Nat) (hlen : at_ + n ≤ ws.length) (hl : ws.length < 2 ^ 62) (i : Int) :
    callP P n_ref07_Arena_Get #[.pointer (some ⟨b, 0, none⟩), .int .i64 at_, .int .i64 n, .int .i64 i] h fun v h' => v = .int .i64 (pget ws err at_ n i).1 ∧ Sep h0 T h' (W.set ib (rb b p l c (pget ws err at_ n i).2)) R := by
  refine call_ref07_Arena_Get _ _ _ _ ?_
  unfold ref07_Arena_Get
  have bad : ¬ (0 ≤ i ∧ i < n) → callUnit P n_ref07_Arena_trouble #[.pointer (some ⟨b, 0, none⟩), .int .i64 1] h fun h1 => (Value.int .i64 0 = .int .i64 (pget ws err at_ n i).1 ∧ Sep h0 T h1 (W.set ib (rb b p l c (pget ws err at_ n i).2)) R) := fun hn => by
    have e : pget ws err at_ n i = (0, tr err 1) := by unfold pget; rw [if_neg hn]
    rw [e]
    refine (rtrouble_S S ib eb 1).mono ?_
    rintro _ _ ⟨rfl, S⟩
    exact ⟨rfl, rfl, S⟩
  refine ifB_dec (fun h1 => bad (by omega)) fun h1 => ifB_dec (fun h2 => bad (by omega)) fun h2 => nilI_some (ldSlice_i (S.cell ib eb rfl) ?_)
  have e : pget ws err at_ n i = (ws.getD (at_ + i.toNat) 0, err) := by unfold pget; rw [if_pos (by omega)]
  rw [e]
  have o := S.own iw ew
  have hwl : ws.length = l := by have := o.1; rw [ints_length] at this; omega
  obtain ⟨aa, rfl⟩ := o.row.some_of (by rw [ints_length]; omega)
  rw [wrap64_in (by omega)]
  refine idxI_i rfl (k := at_ + i.toNat) (by omega) (by omega) ?_
  have e1 : ((at_ : Int) + i).toNat * 1 = at_ + i.toNat := by omega
  rw [e1]
  have hi : at_ + i.toNat < ws.length := by omega
  refine ldInt_i (n := ws.getD (at_ + i.toNat) 0) (o.row.cell (ints_get (by rw [List.getD_eq_getElem?_getD, List.getElem?_eq_getElem hi]; rfl))) ⟨rfl, ?_⟩
  exact S.turn ib eb _ (fun h => h) fun _ h => h

theorem RPut_S (S : Sep h0 T h W R) (ib iw : Nat) (eb : W[ib]? = some (rb b p l c err)) (ew : W[iw]? = some (own 1 p l c (ints ws))) (hne : ib ≠ iw) (at_ n : Nat) (hlen : at_ + n ≤ ws.length) (hl : ws.length < 2 ^ 62) (i x : Int) :
    callP P n_ref07_Arena_Put #[.pointer (some ⟨b, 0, none⟩), .int .i64 at_, .int .i64 n, .int .i64 i, .int .i64 x] h fun v h' => v = .tuple #[] ∧ Sep h0 T h' ((W.set ib (rb b p l c (pput ws err at_ n i x).2)).set iw (own 1 p l c (ints (pput ws err at_ n i x).1))) R := by
  refine call_ref07_Arena_Put _ _ _ _ _ ?_
  unfold ref07_Arena_Put
  have ew' : ∀ f, (W.set ib f)[iw]? = some (own 1 p l c (ints ws)) := fun f => by rw [List.getElem?_set_ne hne]; exact ew
  have bad : ∀ y, pput ws err at_ n i x = (ws, tr err y) → callUnit P n_ref07_Arena_trouble #[.pointer (some ⟨b, 0, none⟩), .int .i64 y] h fun h1 => (Value.tuple #[] = .tuple #[] ∧ Sep h0 T h1 ((W.set ib (rb b p l c (pput ws err at_ n i x).2)).set iw (own 1 p l c (ints (pput ws err at_ n i x).1))) R) := fun y e => by
    rw [e]
    refine (rtrouble_S S ib eb y).mono ?_
    rintro _ _ ⟨rfl, S⟩
    exact ⟨rfl, rfl, S.turn iw (ew' _) _ (fun h => h) fun _ h => h⟩
  refine (Word_ok x).mono ?_
  rintro _ h' ⟨rfl, hh⟩
  subst hh
  refine ⟨_, rfl, ?_⟩
  refine ifB_dec (fun h1 => bad 1 (by unfold pput; rw [if_neg (by omega)])) fun h1 => ifB_dec (fun h2 => bad 1 (by unfold pput; rw [if_neg (by omega)])) fun h2 => ?_
  by_cases hx : isW x
  · refine ifB_false (by simp [hx]) (nilI_some (ldSlice_i (S.cell ib eb rfl) ?_))
    have e : pput ws err at_ n i x = (ws.set (at_ + i.toNat) x, err) := by unfold pput; rw [if_pos (by omega), if_pos hx]
    rw [e]
    have o := S.own iw ew
    have hwl : ws.length = l := by have := o.1; rw [ints_length] at this; omega
    obtain ⟨aa, rfl⟩ := o.row.some_of (by rw [ints_length]; omega)
    rw [wrap64_in (by omega)]
    refine idxI_i rfl (k := at_ + i.toNat) (by omega) (by omega) ?_
    have e1 : ((at_ : Int) + i).toNat * 1 = at_ + i.toNat := by omega
    rw [e1]
    have S2 := S.turn ib eb (rb b (some aa) l c err) (fun h => h) fun _ h => h
    refine stO_S S2 iw (ew' _) (by rw [ints_length]; omega) fun h' _ S => ⟨rfl, ?_⟩
    have e2 : (ints ws).set (at_ + i.toNat) (.int .i64 x) = ints (ws.set (at_ + i.toNat) x) := by simp [ints, List.map_set]
    rw [e2] at S
    exact S
  · exact ifB_true (by simp [hx]) (bad 16 (by unfold pput; rw [if_pos (by omega), if_neg hx]))

theorem RSet_S (S : Sep h0 T h [rb b p l c err, own 1 p l c (ints ws)] R) (ix : Nat) {q : Option Addr} {k d : Nat} {xs : List Int} (ex : R[ix]? = some (row q (ints xs))) (hk : xs.length = k) (hk2 : k < 2 ^ 40) :
    callP P n_ref07_Arena_Set #[.pointer (some ⟨b, 0, none⟩), .slice q k d] h fun v h' => v = .int .i64 (pset ws xs).1 ∧ ∃ p' l' c', Sep h0 T h' [rb b p' l' c' err, own 1 p' l' c' (ints (pset ws xs).2)] R := by
  refine call_ref07_Arena_Set _ _ _ _ ?_
  unfold ref07_Arena_Set
  have hwl : ws.length = l := by have := (S.own 1 rfl).1; rw [ints_length] at this; omega
  refine nilI_some (ldSlice_i (S.cell 0 rfl rfl) ?_)
  refine ifB_i (fun hne => ?_) (fun he => ?_)
  · have hne : k ≠ l := by simp at hne; omega
    have e : pset ws xs = (22, ws) := by unfold pset; rw [if_pos (by omega)]
    rw [e]
    exact ⟨rfl, _, _, _, S⟩
  · have he : k = l := by simp at he; omega
    have hr := S.row ix ex
    refine LoopS_i (fun m s g => g = h ∧ ∃ i : Nat, s = (some ⟨b, 0, none⟩, (q, k, d), (i : Int), ()) ∧ i ≤ k ∧ m = k - i ∧ ∀ j x, j < i → xs[j]? = some x → isW x) k ⟨rfl, 0, rfl, by omega, rfl, by intro j x hj; omega⟩ ?_
    rintro m s g ⟨rfl, i, rfl, hi, rfl, hw⟩
    unfold ref07_Arena_Set_l4
    dsimp only
    refine ifB_dec (fun hlt => ?_) (fun hge => ?_)
    · have hix : i < xs.length := by omega
      obtain ⟨aa, rfl⟩ := hr.some_of (by rw [ints_length]; omega)
      refine idxI_i rfl rfl (by omega) ?_
      simp only [Int.toNat_natCast, Nat.mul_one]
      refine ldInt_i (hr.cell (ints_get (List.getElem?_eq_getElem hix))) ?_
      refine (Word_ok xs[i]).mono ?_
      rintro _ _ ⟨rfl, rfl⟩
      refine ⟨_, rfl, ?_⟩
      refine ifB_i (fun hb => ?_) (fun hb => ?_)
      · have hn : ¬ isW xs[i] := by simpa using hb
        have e : pset ws xs = (16, ws) := by
          unfold pset
          rw [if_neg (by omega), if_neg (fun h => hn (h _ (List.getElem_mem hix)))]
        rw [e]
        exact ⟨by trivial, _, _, _, S⟩
      · have hn : isW xs[i] := by simpa using hb
        rw [wrap64_in (by omega)]
        refine ⟨k - (i + 1), by omega, by trivial, i + 1, rfl, by omega, rfl, fun j x hj hx => ?_⟩
        by_cases hji : j = i
        · subst hji; rw [List.getElem?_eq_getElem hix] at hx; cases hx; exact hn
        · exact hw j x (by omega) hx
    · have hall : allW xs := fun x hx => by
        obtain ⟨j, hj⟩ := List.getElem?_of_mem hx
        exact hw j x (by have := (List.getElem?_eq_some_iff.1 hj).1; omega) hj
      have e : pset ws xs = (0, xs) := by unfold pset; rw [if_neg (by omega), if_pos hall]
      rw [e]
      refine newI_S (cs := []) S fun b1 h1 _ S => ?_
      replace S := S.toOwn 2 1 0 0 rfl (Nat.le_refl _)
      dsimp only [List.set, List.cons_append, List.nil_append] at S
      refine appI_S S 2 (ys := ints xs) rfl rfl (by decide) (by omega) (S.row ix ex) (by rw [ints_length]; omega) ints_one fun p' l' c' h' hl' S => ?_
      dsimp only [List.set, List.cons_append, List.nil_append] at S
      refine nilI_some ?_
      refine stI_S S 0 rfl (Nat.le_of_ble_eq_true rfl) fun h' _ S => ⟨by trivial, p', l', c', ?_⟩
      exact S.pw [0, 2]

end

/-! what a script does -/
structure Ac where
  k : Int
  i : Int
  x : Int
  far : Bool
  wide : Bool
def Ac.cells (s : Ac) : List Value := [.int .i64 s.k, .int .i64 s.i, .int .i64 s.x, .bool s.far, .bool s.wide]
theorem Ac.cells_length (s : Ac) : s.cells.length = 5 := rfl
abbrev Ac.v (s : Ac) : Value := .agg #[.int .i64 s.k, .int .i64 s.i, .int .i64 s.x, .bool s.far, .bool s.wide]
def Ac.word (s : Ac) : Int := if s.far = true then s.i else IntKind.wrap .i64 (andI .i64 s.i 31 - 2)
def Ac.num (s : Ac) : Int := if s.wide = true then s.x else andI .i64 s.x 2147483647
def Ac.row (s : Ac) (n : Nat) : List Int := (List.range (if s.far = true then n + 1 else n)).map fun i : Nat => IntKind.wrap .i64 (s.num - (i : Int))

theorem acs_of {h : Heap} {n : Nat} : ∀ {xss : List (List Value)}, (∀ xs ∈ xss, Mts h (n + 1) [.int .i64, .int .i64, .int .i64, .bool, .bool] xs) → ∃ its : List Ac, xss = its.map Ac.cells := by
  intro xss he
  obtain ⟨ys, h1, _⟩ := exists_map (f := Ac.cells) (p := fun _ => True) xss fun x hx => by
    obtain ⟨x1, r1, rfl, m1, m⟩ := (he x hx).cons
    obtain ⟨x2, r2, rfl, m2, m⟩ := m.cons
    obtain ⟨x3, r3, rfl, m3, m⟩ := m.cons
    obtain ⟨x4, r4, rfl, m4, m⟩ := m.cons
    obtain ⟨x5, r5, rfl, m5, m⟩ := m.cons
    obtain rfl := m.nil
    obtain ⟨a1, rfl, _⟩ := m1
    obtain ⟨a2, rfl, _⟩ := m2
    obtain ⟨a3, rfl, _⟩ := m3
    obtain ⟨a4, rfl⟩ := m4
    obtain ⟨a5, rfl⟩ := m5
    exact ⟨⟨a1, a2, a3, a4, a5⟩, rfl, trivial⟩
  exact ⟨ys, h1⟩

section
variable {h : Heap}
theorem word_ok (s : Ac) : callP P n_law07_Act_word #[s.v] h fun v h' => v = .int .i64 s.word ∧ Fra no h h' := by
  refine call_law07_Act_word _ _ _ _ _ ?_
  unfold law07_Act_word
  have S := Sep.start h no
  refine newI_S S (fun b1 _ _ S => ?_)
  (repeat (first | with_reducible refine nilI_some ?_ | ((with_reducible refine ldInt_id ?_); (first | refine ldInt_i (S.cell 0 rfl rfl) ?_ | refine ldInt_i (S.cell 1 rfl rfl) ?_ | refine ldInt_i (S.cell 2 rfl rfl) ?_ | refine ldInt_i (S.cell 3 rfl rfl) ?_ | refine ldInt_i (S.cell 4 rfl rfl) ?_ | refine ldInt_i (S.cell 5 rfl rfl) ?_ | refine ldInt_i (S.cell 6 rfl rfl) ?_ | refine ldInt_i (S.cell 7 rfl rfl) ?_ | refine ldInt_i (S.cellR 0 rfl rfl) ?_ | refine ldInt_i (S.cellR 1 rfl rfl) ?_ | refine ldInt_i (S.cellR 2 rfl rfl) ?_)) | ((with_reducible refine ldBool_id ?_); (first | refine ldBool_i (S.cell 0 rfl rfl) ?_ | refine ldBool_i (S.cell 1 rfl rfl) ?_ | refine ldBool_i (S.cell 2 rfl rfl) ?_ | refine ldBool_i (S.cell 3 rfl rfl) ?_ | refine ldBool_i (S.cell 4 rfl rfl) ?_ | refine ldBool_i (S.cell 5 rfl rfl) ?_ | refine ldBool_i (S.cell 6 rfl rfl) ?_ | refine ldBool_i (S.cell 7 rfl rfl) ?_ | refine ldBool_i (S.cellR 0 rfl rfl) ?_ | refine ldBool_i (S.cellR 1 rfl rfl) ?_ | refine ldBool_i (S.cellR 2 rfl rfl) ?_)) | ((with_reducible refine ldPtr_id ?_); (first | refine ldPtr_i (S.cell 0 rfl rfl) ?_ | refine ldPtr_i (S.cell 1 rfl rfl) ?_ | refine ldPtr_i (S.cell 2 rfl rfl) ?_ | refine ldPtr_i (S.cell 3 rfl rfl) ?_ | refine ldPtr_i (S.cell 4 rfl rfl) ?_ | refine ldPtr_i (S.cell 5 rfl rfl) ?_ | refine ldPtr_i (S.cell 6 rfl rfl) ?_ | refine ldPtr_i (S.cell 7 rfl rfl) ?_ | refine ldPtr_i (S.cellR 0 rfl rfl) ?_ | refine ldPtr_i (S.cellR 1 rfl rfl) ?_ | refine ldPtr_i (S.cellR 2 rfl rfl) ?_)) | ((with_reducible refine ldSlice_id ?_); (first | refine ldSlice_i (S.cell 0 rfl rfl) ?_ | refine ldSlice_i (S.cell 1 rfl rfl) ?_ | refine ldSlice_i (S.cell 2 rfl rfl) ?_ | refine ldSlice_i (S.cell 3 rfl rfl) ?_ | refine ldSlice_i (S.cell 4 rfl rfl) ?_ | refine ldSlice_i (S.cell 5 rfl rfl) ?_ | refine ldSlice_i (S.cell 6 rfl rfl) ?_ | refine ldSlice_i (S.cell 7 rfl rfl) ?_ | refine ldSlice_i (S.cellR 0 rfl rfl) ?_ | refine ldSlice_i (S.cellR 1 rfl rfl) ?_ | refine ldSlice_i (S.cellR 2 rfl rfl) ?_)) | ((with_reducible refine ldStr_id ?_); (first | refine ldStr_i (S.cell 0 rfl rfl) ?_ | refine ldStr_i (S.cell 1 rfl rfl) ?_ | refine ldStr_i (S.cell 2 rfl rfl) ?_ | refine ldStr_i (S.cell 3 rfl rfl) ?_ | refine ldStr_i (S.cell 4 rfl rfl) ?_ | refine ldStr_i (S.cell 5 rfl rfl) ?_ | refine ldStr_i (S.cell 6 rfl rfl) ?_ | refine ldStr_i (S.cell 7 rfl rfl) ?_ | refine ldStr_i (S.cellR 0 rfl rfl) ?_ | refine ldStr_i (S.cellR 1 rfl rfl) ?_ | refine ldStr_i (S.cellR 2 rfl rfl) ?_)) | ((with_reducible refine stI_id ?_); (first | refine stI_S S 0 rfl (Nat.le_of_ble_eq_true rfl) (fun _ _ S => ?_) | refine stI_S S 1 rfl (Nat.le_of_ble_eq_true rfl) (fun _ _ S => ?_) | refine stI_S S 2 rfl (Nat.le_of_ble_eq_true rfl) (fun _ _ S => ?_) | refine stI_S S 3 rfl (Nat.le_of_ble_eq_true rfl) (fun _ _ S => ?_) | refine stI_S S 4 rfl (Nat.le_of_ble_eq_true rfl) (fun _ _ S => ?_) | refine stI_S S 5 rfl (Nat.le_of_ble_eq_true rfl) (fun _ _ S => ?_) | refine stI_S S 6 rfl (Nat.le_of_ble_eq_true rfl) (fun _ _ S => ?_) | refine stI_S S 7 rfl (Nat.le_of_ble_eq_true rfl) (fun _ _ S => ?_)); try dsimp only [List.set, List.cons_append, List.nil_append] at S) | ((with_reducible refine and_id ?_); (first | refine and_i (S.cell 0 rfl rfl) ?_ | refine and_i (S.cell 1 rfl rfl) ?_ | refine and_i (S.cell 2 rfl rfl) ?_ | refine and_i (S.cell 3 rfl rfl) ?_ | refine and_i (S.cell 4 rfl rfl) ?_ | refine and_i (S.cell 5 rfl rfl) ?_ | refine and_i (S.cell 6 rfl rfl) ?_ | refine and_i (S.cell 7 rfl rfl) ?_ | refine and_i (S.cellR 0 rfl rfl) ?_ | refine and_i (S.cellR 1 rfl rfl) ?_ | refine and_i (S.cellR 2 rfl rfl) ?_)) | refine arrI_i (by decide) (by decide) ?_))
  unfold Ac.word
  refine ifB_i (fun e => ?_) (fun e => ?_)
  · (repeat (first | with_reducible refine nilI_some ?_ | ((with_reducible refine ldInt_id ?_); (first | refine ldInt_i (S.cell 0 rfl rfl) ?_ | refine ldInt_i (S.cell 1 rfl rfl) ?_ | refine ldInt_i (S.cell 2 rfl rfl) ?_ | refine ldInt_i (S.cell 3 rfl rfl) ?_ | refine ldInt_i (S.cell 4 rfl rfl) ?_ | refine ldInt_i (S.cell 5 rfl rfl) ?_ | refine ldInt_i (S.cell 6 rfl rfl) ?_ | refine ldInt_i (S.cell 7 rfl rfl) ?_ | refine ldInt_i (S.cellR 0 rfl rfl) ?_ | refine ldInt_i (S.cellR 1 rfl rfl) ?_ | refine ldInt_i (S.cellR 2 rfl rfl) ?_)) | ((with_reducible refine ldBool_id ?_); (first | refine ldBool_i (S.cell 0 rfl rfl) ?_ | refine ldBool_i (S.cell 1 rfl rfl) ?_ | refine ldBool_i (S.cell 2 rfl rfl) ?_ | refine ldBool_i (S.cell 3 rfl rfl) ?_ | refine ldBool_i (S.cell 4 rfl rfl) ?_ | refine ldBool_i (S.cell 5 rfl rfl) ?_ | refine ldBool_i (S.cell 6 rfl rfl) ?_ | refine ldBool_i (S.cell 7 rfl rfl) ?_ | refine ldBool_i (S.cellR 0 rfl rfl) ?_ | refine ldBool_i (S.cellR 1 rfl rfl) ?_ | refine ldBool_i (S.cellR 2 rfl rfl) ?_)) | ((with_reducible refine ldPtr_id ?_); (first | refine ldPtr_i (S.cell 0 rfl rfl) ?_ | refine ldPtr_i (S.cell 1 rfl rfl) ?_ | refine ldPtr_i (S.cell 2 rfl rfl) ?_ | refine ldPtr_i (S.cell 3 rfl rfl) ?_ | refine ldPtr_i (S.cell 4 rfl rfl) ?_ | refine ldPtr_i (S.cell 5 rfl rfl) ?_ | refine ldPtr_i (S.cell 6 rfl rfl) ?_ | refine ldPtr_i (S.cell 7 rfl rfl) ?_ | refine ldPtr_i (S.cellR 0 rfl rfl) ?_ | refine ldPtr_i (S.cellR 1 rfl rfl) ?_ | refine ldPtr_i (S.cellR 2 rfl rfl) ?_)) | ((with_reducible refine ldSlice_id ?_); (first | refine ldSlice_i (S.cell 0 rfl rfl) ?_ | refine ldSlice_i (S.cell 1 rfl rfl) ?_ | refine ldSlice_i (S.cell 2 rfl rfl) ?_ | refine ldSlice_i (S.cell 3 rfl rfl) ?_ | refine ldSlice_i (S.cell 4 rfl rfl) ?_ | refine ldSlice_i (S.cell 5 rfl rfl) ?_ | refine ldSlice_i (S.cell 6 rfl rfl) ?_ | refine ldSlice_i (S.cell 7 rfl rfl) ?_ | refine ldSlice_i (S.cellR 0 rfl rfl) ?_ | refine ldSlice_i (S.cellR 1 rfl rfl) ?_ | refine ldSlice_i (S.cellR 2 rfl rfl) ?_)) | ((with_reducible refine ldStr_id ?_); (first | refine ldStr_i (S.cell 0 rfl rfl) ?_ | refine ldStr_i (S.cell 1 rfl rfl) ?_ | refine ldStr_i (S.cell 2 rfl rfl) ?_ | refine ldStr_i (S.cell 3 rfl rfl) ?_ | refine ldStr_i (S.cell 4 rfl rfl) ?_ | refine ldStr_i (S.cell 5 rfl rfl) ?_ | refine ldStr_i (S.cell 6 rfl rfl) ?_ | refine ldStr_i (S.cell 7 rfl rfl) ?_ | refine ldStr_i (S.cellR 0 rfl rfl) ?_ | refine ldStr_i (S.cellR 1 rfl rfl) ?_ | refine ldStr_i (S.cellR 2 rfl rfl) ?_)) | ((with_reducible refine stI_id ?_); (first | refine stI_S S 0 rfl (Nat.le_of_ble_eq_true rfl) (fun _ _ S => ?_) | refine stI_S S 1 rfl (Nat.le_of_ble_eq_true rfl) (fun _ _ S => ?_) | refine stI_S S 2 rfl (Nat.le_of_ble_eq_true rfl) (fun _ _ S => ?_) | refine stI_S S 3 rfl (Nat.le_of_ble_eq_true rfl) (fun _ _ S => ?_) | refine stI_S S 4 rfl (Nat.le_of_ble_eq_true rfl) (fun _ _ S => ?_) | refine stI_S S 5 rfl (Nat.le_of_ble_eq_true rfl) (fun _ _ S => ?_) | refine stI_S S 6 rfl (Nat.le_of_ble_eq_true rfl) (fun _ _ S => ?_) | refine stI_S S 7 rfl (Nat.le_of_ble_eq_true rfl) (fun _ _ S => ?_)); try dsimp only [List.set, List.cons_append, List.nil_append] at S) | ((with_reducible refine and_id ?_); (first | refine and_i (S.cell 0 rfl rfl) ?_ | refine and_i (S.cell 1 rfl rfl) ?_ | refine and_i (S.cell 2 rfl rfl) ?_ | refine and_i (S.cell 3 rfl rfl) ?_ | refine and_i (S.cell 4 rfl rfl) ?_ | refine and_i (S.cell 5 rfl rfl) ?_ | refine and_i (S.cell 6 rfl rfl) ?_ | refine and_i (S.cell 7 rfl rfl) ?_ | refine and_i (S.cellR 0 rfl rfl) ?_ | refine and_i (S.cellR 1 rfl rfl) ?_ | refine and_i (S.cellR 2 rfl rfl) ?_)) | refine arrI_i (by decide) (by decide) ?_))
    rw [if_pos e]; exact ⟨rfl, S.fra⟩
  · (repeat (first | with_reducible refine nilI_some ?_ | ((with_reducible refine ldInt_id ?_); (first | refine ldInt_i (S.cell 0 rfl rfl) ?_ | refine ldInt_i (S.cell 1 rfl rfl) ?_ | refine ldInt_i (S.cell 2 rfl rfl) ?_ | refine ldInt_i (S.cell 3 rfl rfl) ?_ | refine ldInt_i (S.cell 4 rfl rfl) ?_ | refine ldInt_i (S.cell 5 rfl rfl) ?_ | refine ldInt_i (S.cell 6 rfl rfl) ?_ | refine ldInt_i (S.cell 7 rfl rfl) ?_ | refine ldInt_i (S.cellR 0 rfl rfl) ?_ | refine ldInt_i (S.cellR 1 rfl rfl) ?_ | refine ldInt_i (S.cellR 2 rfl rfl) ?_)) | ((with_reducible refine ldBool_id ?_); (first | refine ldBool_i (S.cell 0 rfl rfl) ?_ | refine ldBool_i (S.cell 1 rfl rfl) ?_ | refine ldBool_i (S.cell 2 rfl rfl) ?_ | refine ldBool_i (S.cell 3 rfl rfl) ?_ | refine ldBool_i (S.cell 4 rfl rfl) ?_ | refine ldBool_i (S.cell 5 rfl rfl) ?_ | refine ldBool_i (S.cell 6 rfl rfl) ?_ | refine ldBool_i (S.cell 7 rfl rfl) ?_ | refine ldBool_i (S.cellR 0 rfl rfl) ?_ | refine ldBool_i (S.cellR 1 rfl rfl) ?_ | refine ldBool_i (S.cellR 2 rfl rfl) ?_)) | ((with_reducible refine ldPtr_id ?_); (first | refine ldPtr_i (S.cell 0 rfl rfl) ?_ | refine ldPtr_i (S.cell 1 rfl rfl) ?_ | refine ldPtr_i (S.cell 2 rfl rfl) ?_ | refine ldPtr_i (S.cell 3 rfl rfl) ?_ | refine ldPtr_i (S.cell 4 rfl rfl) ?_ | refine ldPtr_i (S.cell 5 rfl rfl) ?_ | refine ldPtr_i (S.cell 6 rfl rfl) ?_ | refine ldPtr_i (S.cell 7 rfl rfl) ?_ | refine ldPtr_i (S.cellR 0 rfl rfl) ?_ | refine ldPtr_i (S.cellR 1 rfl rfl) ?_ | refine ldPtr_i (S.cellR 2 rfl rfl) ?_)) | ((with_reducible refine ldSlice_id ?_); (first | refine ldSlice_i (S.cell 0 rfl rfl) ?_ | refine ldSlice_i (S.cell 1 rfl rfl) ?_ | refine ldSlice_i (S.cell 2 rfl rfl) ?_ | refine ldSlice_i (S.cell 3 rfl rfl) ?_ | refine ldSlice_i (S.cell 4 rfl rfl) ?_ | refine ldSlice_i (S.cell 5 rfl rfl) ?_ | refine ldSlice_i (S.cell 6 rfl rfl) ?_ | refine ldSlice_i (S.cell 7 rfl rfl) ?_ | refine ldSlice_i (S.cellR 0 rfl rfl) ?_ | refine ldSlice_i (S.cellR 1 rfl rfl) ?_ | refine ldSlice_i (S.cellR 2 rfl rfl) ?_)) | ((with_reducible refine ldStr_id ?_); (first | refine ldStr_i (S.cell 0 rfl rfl) ?_ | refine ldStr_i (S.cell 1 rfl rfl) ?_ | refine ldStr_i (S.cell 2 rfl rfl) ?_ | refine ldStr_i (S.cell 3 rfl rfl) ?_ | refine ldStr_i (S.cell 4 rfl rfl) ?_ | refine ldStr_i (S.cell 5 rfl rfl) ?_ | refine ldStr_i (S.cell 6 rfl rfl) ?_ | refine ldStr_i (S.cell 7 rfl rfl) ?_ | refine ldStr_i (S.cellR 0 rfl rfl) ?_ | refine ldStr_i (S.cellR 1 rfl rfl) ?_ | refine ldStr_i (S.cellR 2 rfl rfl) ?_)) | ((with_reducible refine stI_id ?_); (first | refine stI_S S 0 rfl (Nat.le_of_ble_eq_true rfl) (fun _ _ S => ?_) | refine stI_S S 1 rfl (Nat.le_of_ble_eq_true rfl) (fun _ _ S => ?_) | refine stI_S S 2 rfl (Nat.le_of_ble_eq_true rfl) (fun _ _ S => ?_) | refine stI_S S 3 rfl (Nat.le_of_ble_eq_true rfl) (fun _ _ S => ?_) | refine stI_S S 4 rfl (Nat.le_of_ble_eq_true rfl) (fun _ _ S => ?_) | refine stI_S S 5 rfl (Nat.le_of_ble_eq_true rfl) (fun _ _ S => ?_) | refine stI_S S 6 rfl (Nat.le_of_ble_eq_true rfl) (fun _ _ S => ?_) | refine stI_S S 7 rfl (Nat.le_of_ble_eq_true rfl) (fun _ _ S => ?_)); try dsimp only [List.set, List.cons_append, List.nil_append] at S) | ((with_reducible refine and_id ?_); (first | refine and_i (S.cell 0 rfl rfl) ?_ | refine and_i (S.cell 1 rfl rfl) ?_ | refine and_i (S.cell 2 rfl rfl) ?_ | refine and_i (S.cell 3 rfl rfl) ?_ | refine and_i (S.cell 4 rfl rfl) ?_ | refine and_i (S.cell 5 rfl rfl) ?_ | refine and_i (S.cell 6 rfl rfl) ?_ | refine and_i (S.cell 7 rfl rfl) ?_ | refine and_i (S.cellR 0 rfl rfl) ?_ | refine and_i (S.cellR 1 rfl rfl) ?_ | refine and_i (S.cellR 2 rfl rfl) ?_)) | refine arrI_i (by decide) (by decide) ?_))
    rw [if_neg (by simp [e])]; exact ⟨rfl, S.fra⟩
theorem num_ok (s : Ac) : callP P n_law07_Act_num #[s.v] h fun v h' => v = .int .i64 s.num ∧ Fra no h h' := by
  refine call_law07_Act_num _ _ _ _ _ ?_
  unfold law07_Act_num
  have S := Sep.start h no
  refine newI_S S (fun b1 _ _ S => ?_)
  (repeat (first | with_reducible refine nilI_some ?_ | ((with_reducible refine ldInt_id ?_); (first | refine ldInt_i (S.cell 0 rfl rfl) ?_ | refine ldInt_i (S.cell 1 rfl rfl) ?_ | refine ldInt_i (S.cell 2 rfl rfl) ?_ | refine ldInt_i (S.cell 3 rfl rfl) ?_ | refine ldInt_i (S.cell 4 rfl rfl) ?_ | refine ldInt_i (S.cell 5 rfl rfl) ?_ | refine ldInt_i (S.cell 6 rfl rfl) ?_ | refine ldInt_i (S.cell 7 rfl rfl) ?_ | refine ldInt_i (S.cellR 0 rfl rfl) ?_ | refine ldInt_i (S.cellR 1 rfl rfl) ?_ | refine ldInt_i (S.cellR 2 rfl rfl) ?_)) | ((with_reducible refine ldBool_id ?_); (first | refine ldBool_i (S.cell 0 rfl rfl) ?_ | refine ldBool_i (S.cell 1 rfl rfl) ?_ | refine ldBool_i (S.cell 2 rfl rfl) ?_ | refine ldBool_i (S.cell 3 rfl rfl) ?_ | refine ldBool_i (S.cell 4 rfl rfl) ?_ | refine ldBool_i (S.cell 5 rfl rfl) ?_ | refine ldBool_i (S.cell 6 rfl rfl) ?_ | refine ldBool_i (S.cell 7 rfl rfl) ?_ | refine ldBool_i (S.cellR 0 rfl rfl) ?_ | refine ldBool_i (S.cellR 1 rfl rfl) ?_ | refine ldBool_i (S.cellR 2 rfl rfl) ?_)) | ((with_reducible refine ldPtr_id ?_); (first | refine ldPtr_i (S.cell 0 rfl rfl) ?_ | refine ldPtr_i (S.cell 1 rfl rfl) ?_ | refine ldPtr_i (S.cell 2 rfl rfl) ?_ | refine ldPtr_i (S.cell 3 rfl rfl) ?_ | refine ldPtr_i (S.cell 4 rfl rfl) ?_ | refine ldPtr_i (S.cell 5 rfl rfl) ?_ | refine ldPtr_i (S.cell 6 rfl rfl) ?_ | refine ldPtr_i (S.cell 7 rfl rfl) ?_ | refine ldPtr_i (S.cellR 0 rfl rfl) ?_ | refine ldPtr_i (S.cellR 1 rfl rfl) ?_ | refine ldPtr_i (S.cellR 2 rfl rfl) ?_)) | ((with_reducible refine ldSlice_id ?_); (first | refine ldSlice_i (S.cell 0 rfl rfl) ?_ | refine ldSlice_i (S.cell 1 rfl rfl) ?_ | refine ldSlice_i (S.cell 2 rfl rfl) ?_ | refine ldSlice_i (S.cell 3 rfl rfl) ?_ | refine ldSlice_i (S.cell 4 rfl rfl) ?_ | refine ldSlice_i (S.cell 5 rfl rfl) ?_ | refine ldSlice_i (S.cell 6 rfl rfl) ?_ | refine ldSlice_i (S.cell 7 rfl rfl) ?_ | refine ldSlice_i (S.cellR 0 rfl rfl) ?_ | refine ldSlice_i (S.cellR 1 rfl rfl) ?_ | refine ldSlice_i (S.cellR 2 rfl rfl) ?_)) | ((with_reducible refine ldStr_id ?_); (first | refine ldStr_i (S.cell 0 rfl rfl) ?_ | refine ldStr_i (S.cell 1 rfl rfl) ?_ | refine ldStr_i (S.cell 2 rfl rfl) ?_ | refine ldStr_i (S.cell 3 rfl rfl) ?_ | refine ldStr_i (S.cell 4 rfl rfl) ?_ | refine ldStr_i (S.cell 5 rfl rfl) ?_ | refine ldStr_i (S.cell 6 rfl rfl) ?_ | refine ldStr_i (S.cell 7 rfl rfl) ?_ | refine ldStr_i (S.cellR 0 rfl rfl) ?_ | refine ldStr_i (S.cellR 1 rfl rfl) ?_ | refine ldStr_i (S.cellR 2 rfl rfl) ?_)) | ((with_reducible refine stI_id ?_); (first | refine stI_S S 0 rfl (Nat.le_of_ble_eq_true rfl) (fun _ _ S => ?_) | refine stI_S S 1 rfl (Nat.le_of_ble_eq_true rfl) (fun _ _ S => ?_) | refine stI_S S 2 rfl (Nat.le_of_ble_eq_true rfl) (fun _ _ S => ?_) | refine stI_S S 3 rfl (Nat.le_of_ble_eq_true rfl) (fun _ _ S => ?_) | refine stI_S S 4 rfl (Nat.le_of_ble_eq_true rfl) (fun _ _ S => ?_) | refine stI_S S 5 rfl (Nat.le_of_ble_eq_true rfl) (fun _ _ S => ?_) | refine stI_S S 6 rfl (Nat.le_of_ble_eq_true rfl) (fun _ _ S => ?_) | refine stI_S S 7 rfl (Nat.le_of_ble_eq_true rfl) (fun _ _ S => ?_)); try dsimp only [List.set, List.cons_append, List.nil_append] at S) | ((with_reducible refine and_id ?_); (first | refine and_i (S.cell 0 rfl rfl) ?_ | refine and_i (S.cell 1 rfl rfl) ?_ | refine and_i (S.cell 2 rfl rfl) ?_ | refine and_i (S.cell 3 rfl rfl) ?_ | refine and_i (S.cell 4 rfl rfl) ?_ | refine and_i (S.cell 5 rfl rfl) ?_ | refine and_i (S.cell 6 rfl rfl) ?_ | refine and_i (S.cell 7 rfl rfl) ?_ | refine and_i (S.cellR 0 rfl rfl) ?_ | refine and_i (S.cellR 1 rfl rfl) ?_ | refine and_i (S.cellR 2 rfl rfl) ?_)) | refine arrI_i (by decide) (by decide) ?_))
  unfold Ac.num
  refine ifB_i (fun e => ?_) (fun e => ?_)
  · (repeat (first | with_reducible refine nilI_some ?_ | ((with_reducible refine ldInt_id ?_); (first | refine ldInt_i (S.cell 0 rfl rfl) ?_ | refine ldInt_i (S.cell 1 rfl rfl) ?_ | refine ldInt_i (S.cell 2 rfl rfl) ?_ | refine ldInt_i (S.cell 3 rfl rfl) ?_ | refine ldInt_i (S.cell 4 rfl rfl) ?_ | refine ldInt_i (S.cell 5 rfl rfl) ?_ | refine ldInt_i (S.cell 6 rfl rfl) ?_ | refine ldInt_i (S.cell 7 rfl rfl) ?_ | refine ldInt_i (S.cellR 0 rfl rfl) ?_ | refine ldInt_i (S.cellR 1 rfl rfl) ?_ | refine ldInt_i (S.cellR 2 rfl rfl) ?_)) | ((with_reducible refine ldBool_id ?_); (first | refine ldBool_i (S.cell 0 rfl rfl) ?_ | refine ldBool_i (S.cell 1 rfl rfl) ?_ | refine ldBool_i (S.cell 2 rfl rfl) ?_ | refine ldBool_i (S.cell 3 rfl rfl) ?_ | refine ldBool_i (S.cell 4 rfl rfl) ?_ | refine ldBool_i (S.cell 5 rfl rfl) ?_ | refine ldBool_i (S.cell 6 rfl rfl) ?_ | refine ldBool_i (S.cell 7 rfl rfl) ?_ | refine ldBool_i (S.cellR 0 rfl rfl) ?_ | refine ldBool_i (S.cellR 1 rfl rfl) ?_ | refine ldBool_i (S.cellR 2 rfl rfl) ?_)) | ((with_reducible refine ldPtr_id ?_); (first | refine ldPtr_i (S.cell 0 rfl rfl) ?_ | refine ldPtr_i (S.cell 1 rfl rfl) ?_ | refine ldPtr_i (S.cell 2 rfl rfl) ?_ | refine ldPtr_i (S.cell 3 rfl rfl) ?_ | refine ldPtr_i (S.cell 4 rfl rfl) ?_ | refine ldPtr_i (S.cell 5 rfl rfl) ?_ | refine ldPtr_i (S.cell 6 rfl rfl) ?_ | refine ldPtr_i (S.cell 7 rfl rfl) ?_ | refine ldPtr_i (S.cellR 0 rfl rfl) ?_ | refine ldPtr_i (S.cellR 1 rfl rfl) ?_ | refine ldPtr_i (S.cellR 2 rfl rfl) ?_)) | ((with_reducible refine ldSlice_id ?_); (first | refine ldSlice_i (S.cell 0 rfl rfl) ?_ | refine ldSlice_i (S.cell 1 rfl rfl) ?_ | refine ldSlice_i (S.cell 2 rfl rfl) ?_ | refine ldSlice_i (S.cell 3 rfl rfl) ?_ | refine ldSlice_i (S.cell 4 rfl rfl) ?_ | refine ldSlice_i (S.cell 5 rfl rfl) ?_ | refine ldSlice_i (S.cell 6 rfl rfl) ?_ | refine ldSlice_i (S.cell 7 rfl rfl) ?_ | refine ldSlice_i (S.cellR 0 rfl rfl) ?_ | refine ldSlice_i (S.cellR 1 rfl rfl) ?_ | refine ldSlice_i (S.cellR 2 rfl rfl) ?_)) | ((with_reducible refine ldStr_id ?_); (first | refine ldStr_i (S.cell 0 rfl rfl) ?_ | refine ldStr_i (S.cell 1 rfl rfl) ?_ | refine ldStr_i (S.cell 2 rfl rfl) ?_ | refine ldStr_i (S.cell 3 rfl rfl) ?_ | refine ldStr_i (S.cell 4 rfl rfl) ?_ | refine ldStr_i (S.cell 5 rfl rfl) ?_ | refine ldStr_i (S.cell 6 rfl rfl) ?_ | refine ldStr_i (S.cell 7 rfl rfl) ?_ | refine ldStr_i (S.cellR 0 rfl rfl) ?_ | refine ldStr_i (S.cellR 1 rfl rfl) ?_ | refine ldStr_i (S.cellR 2 rfl rfl) ?_)) | ((with_reducible refine stI_id ?_); (first | refine stI_S S 0 rfl (Nat.le_of_ble_eq_true rfl) (fun _ _ S => ?_) | refine stI_S S 1 rfl (Nat.le_of_ble_eq_true rfl) (fun _ _ S => ?_) | refine stI_S S 2 rfl (Nat.le_of_ble_eq_true rfl) (fun _ _ S => ?_) | refine stI_S S 3 rfl (Nat.le_of_ble_eq_true rfl) (fun _ _ S => ?_) | refine stI_S S 4 rfl (Nat.le_of_ble_eq_true rfl) (fun _ _ S => ?_) | refine stI_S S 5 rfl (Nat.le_of_ble_eq_true rfl) (fun _ _ S => ?_) | refine stI_S S 6 rfl (Nat.le_of_ble_eq_true rfl) (fun _ _ S => ?_) | refine stI_S S 7 rfl (Nat.le_of_ble_eq_true rfl) (fun _ _ S => ?_)); try dsimp only [List.set, List.cons_append, List.nil_append] at S) | ((with_reducible refine and_id ?_); (first | refine and_i (S.cell 0 rfl rfl) ?_ | refine and_i (S.cell 1 rfl rfl) ?_ | refine and_i (S.cell 2 rfl rfl) ?_ | refine and_i (S.cell 3 rfl rfl) ?_ | refine and_i (S.cell 4 rfl rfl) ?_ | refine and_i (S.cell 5 rfl rfl) ?_ | refine and_i (S.cell 6 rfl rfl) ?_ | refine and_i (S.cell 7 rfl rfl) ?_ | refine and_i (S.cellR 0 rfl rfl) ?_ | refine and_i (S.cellR 1 rfl rfl) ?_ | refine and_i (S.cellR 2 rfl rfl) ?_)) | refine arrI_i (by decide) (by decide) ?_))
    rw [if_pos e]; exact ⟨rfl, S.fra⟩
  · (repeat (first | with_reducible refine nilI_some ?_ | ((with_reducible refine ldInt_id ?_); (first | refine ldInt_i (S.cell 0 rfl rfl) ?_ | refine ldInt_i (S.cell 1 rfl rfl) ?_ | refine ldInt_i (S.cell 2 rfl rfl) ?_ | refine ldInt_i (S.cell 3 rfl rfl) ?_ | refine ldInt_i (S.cell 4 rfl rfl) ?_ | refine ldInt_i (S.cell 5 rfl rfl) ?_ | refine ldInt_i (S.cell 6 rfl rfl) ?_ | refine ldInt_i (S.cell 7 rfl rfl) ?_ | refine ldInt_i (S.cellR 0 rfl rfl) ?_ | refine ldInt_i (S.cellR 1 rfl rfl) ?_ | refine ldInt_i (S.cellR 2 rfl rfl) ?_)) | ((with_reducible refine ldBool_id ?_); (first | refine ldBool_i (S.cell 0 rfl rfl) ?_ | refine ldBool_i (S.cell 1 rfl rfl) ?_ | refine ldBool_i (S.cell 2 rfl rfl) ?_ | refine ldBool_i (S.cell 3 rfl rfl) ?_ | refine ldBool_i (S.cell 4 rfl rfl) ?_ | refine ldBool_i (S.cell 5 rfl rfl) ?_ | refine ldBool_i (S.cell 6 rfl rfl) ?_ | refine ldBool_i (S.cell 7 rfl rfl) ?_ | refine ldBool_i (S.cellR 0 rfl rfl) ?_ | refine ldBool_i (S.cellR 1 rfl rfl) ?_ | refine ldBool_i (S.cellR 2 rfl rfl) ?_)) | ((with_reducible refine ldPtr_id ?_); (first | refine ldPtr_i (S.cell 0 rfl rfl) ?_ | refine ldPtr_i (S.cell 1 rfl rfl) ?_ | refine ldPtr_i (S.cell 2 rfl rfl) ?_ | refine ldPtr_i (S.cell 3 rfl rfl) ?_ | refine ldPtr_i (S.cell 4 rfl rfl) ?_ | refine ldPtr_i (S.cell 5 rfl rfl) ?_ | refine ldPtr_i (S.cell 6 rfl rfl) ?_ | refine ldPtr_i (S.cell 7 rfl rfl) ?_ | refine ldPtr_i (S.cellR 0 rfl rfl) ?_ | refine ldPtr_i (S.cellR 1 rfl rfl) ?_ | refine ldPtr_i (S.cellR 2 rfl rfl) ?_)) | ((with_reducible refine ldSlice_id ?_); (first | refine ldSlice_i (S.cell 0 rfl rfl) ?_ | refine ldSlice_i (S.cell 1 rfl rfl) ?_ | refine ldSlice_i (S.cell 2 rfl rfl) ?_ | refine ldSlice_i (S.cell 3 rfl rfl) ?_ | refine ldSlice_i (S.cell 4 rfl rfl) ?_ | refine ldSlice_i (S.cell 5 rfl rfl) ?_ | refine ldSlice_i (S.cell 6 rfl rfl) ?_ | refine ldSlice_i (S.cell 7 rfl rfl) ?_ | refine ldSlice_i (S.cellR 0 rfl rfl) ?_ | refine ldSlice_i (S.cellR 1 rfl rfl) ?_ | refine ldSlice_i (S.cellR 2 rfl rfl) ?_)) | ((with_reducible refine ldStr_id ?_); (first | refine ldStr_i (S.cell 0 rfl rfl) ?_ | refine ldStr_i (S.cell 1 rfl rfl) ?_ | refine ldStr_i (S.cell 2 rfl rfl) ?_ | refine ldStr_i (S.cell 3 rfl rfl) ?_ | refine ldStr_i (S.cell 4 rfl rfl) ?_ | refine ldStr_i (S.cell 5 rfl rfl) ?_ | refine ldStr_i (S.cell 6 rfl rfl) ?_ | refine ldStr_i (S.cell 7 rfl rfl) ?_ | refine ldStr_i (S.cellR 0 rfl rfl) ?_ | refine ldStr_i (S.cellR 1 rfl rfl) ?_ | refine ldStr_i (S.cellR 2 rfl rfl) ?_)) | ((with_reducible refine stI_id ?_); (first | refine stI_S S 0 rfl (Nat.le_of_ble_eq_true rfl) (fun _ _ S => ?_) | refine stI_S S 1 rfl (Nat.le_of_ble_eq_true rfl) (fun _ _ S => ?_) | refine stI_S S 2 rfl (Nat.le_of_ble_eq_true rfl) (fun _ _ S => ?_) | refine stI_S S 3 rfl (Nat.le_of_ble_eq_true rfl) (fun _ _ S => ?_) | refine stI_S S 4 rfl (Nat.le_of_ble_eq_true rfl) (fun _ _ S => ?_) | refine stI_S S 5 rfl (Nat.le_of_ble_eq_true rfl) (fun _ _ S => ?_) | refine stI_S S 6 rfl (Nat.le_of_ble_eq_true rfl) (fun _ _ S => ?_) | refine stI_S S 7 rfl (Nat.le_of_ble_eq_true rfl) (fun _ _ S => ?_)); try dsimp only [List.set, List.cons_append, List.nil_append] at S) | ((with_reducible refine and_id ?_); (first | refine and_i (S.cell 0 rfl rfl) ?_ | refine and_i (S.cell 1 rfl rfl) ?_ | refine and_i (S.cell 2 rfl rfl) ?_ | refine and_i (S.cell 3 rfl rfl) ?_ | refine and_i (S.cell 4 rfl rfl) ?_ | refine and_i (S.cell 5 rfl rfl) ?_ | refine and_i (S.cell 6 rfl rfl) ?_ | refine and_i (S.cell 7 rfl rfl) ?_ | refine and_i (S.cellR 0 rfl rfl) ?_ | refine and_i (S.cellR 1 rfl rfl) ?_ | refine and_i (S.cellR 2 rfl rfl) ?_)) | refine arrI_i (by decide) (by decide) ?_))
    rw [if_neg (by simp [e])]; exact ⟨rfl, S.fra⟩

theorem row_S (s : Ac) (n : Nat) (hn : n ≤ 4096) : callP P n_law07_Act_row #[s.v, .int .i64 n] h fun v h' => ∃ q k d, v = .slice q k d ∧ (s.row n).length = k ∧ k ≤ 5000 ∧ Sep h no h' [own 1 q k d (ints (s.row n))] [] := by
  refine call_law07_Act_row _ _ _ _ _ _ ?_
  unfold law07_Act_row
  have S := Sep.start h no
  refine newI_S S (fun b1 _ _ S => ?_)
  refine ⟨fun s' g => ∃ m : Nat, s' = ((m : Int), ⟨b1, 0, none⟩, ()) ∧ m = (if s.far = true then n + 1 else n) ∧ Sep h no g [blk b1 s.cells] [], ?_, ?_⟩
  · rintro s' g ⟨m, rfl, hm, S⟩
    unfold law07_Act_row_j3
    dsimp only
    have hm2 : m ≤ 5000 := by split at hm <;> omega
    replace S := S.nil 1
    refine LoopS_i (fun k' s' g => ∃ i : Nat, ∃ q k d, s' = ((m : Int), ⟨b1, 0, none⟩, (q, k, d), (i : Int), ()) ∧ i ≤ m ∧ k' = m - i ∧ k = i ∧ Sep h no g [blk b1 s.cells, own 1 q k d (ints ((List.range i).map fun i : Nat => IntKind.wrap .i64 (s.num - (i : Int))))] []) m ⟨0, none, 0, 0, rfl, by omega, rfl, rfl, S⟩ ?_
    rintro k' s' g ⟨i, q, k, d, rfl, hi, rfl, rfl, S⟩
    unfold law07_Act_row_l5
    dsimp only
    refine ifB_dec (fun hlt => ?_) (fun hge => ?_)
    · have c0 := S.cell 0 (k := 0) rfl rfl
      have c1 := S.cell 0 (k := 1) rfl rfl
      have c2 := S.cell 0 (k := 2) rfl rfl
      have c3 := S.cell 0 (k := 3) rfl rfl
      have c4 := S.cell 0 (k := 4) rfl rfl
      refine ldInt_i c0 (ldInt_i c1 (ldInt_i c2 (ldBool_i c3 (ldBool_i c4 ?_))))
      refine (num_ok s).mono ?_
      rintro _ _ ⟨rfl, F⟩
      refine ⟨_, rfl, ?_⟩
      replace S := S.fra0 F
      refine newI_S S (fun b2 _ _ S => ?_)
      refine appI_S S 1 (ys := ints [IntKind.wrap .i64 (s.num - (k : Int))]) rfl rfl (by decide) (by omega) (Row.of_at (S.at 2 rfl)) rfl ints_one fun p' l' c' h' hl' S => ?_
      rw [wrap64_in (by omega)]
      refine ⟨m - (k + 1), by omega, k + 1, p', l', c', rfl, by omega, rfl, hl', ?_⟩
      rw [List.range_succ, List.map_append, ← ints_append]
      exact S.pick [0, 1] []
    · have : k = m := by omega
      subst this
      refine ⟨_, _, _, rfl, ?_, hm2, ?_⟩
      · unfold Ac.row; rw [← hm]; simp
      · unfold Ac.row; rw [← hm]; exact S.pick [1] []
  · (repeat (first | with_reducible refine nilI_some ?_ | ((with_reducible refine ldInt_id ?_); (first | refine ldInt_i (S.cell 0 rfl rfl) ?_ | refine ldInt_i (S.cell 1 rfl rfl) ?_ | refine ldInt_i (S.cell 2 rfl rfl) ?_ | refine ldInt_i (S.cell 3 rfl rfl) ?_ | refine ldInt_i (S.cell 4 rfl rfl) ?_ | refine ldInt_i (S.cell 5 rfl rfl) ?_ | refine ldInt_i (S.cell 6 rfl rfl) ?_ | refine ldInt_i (S.cell 7 rfl rfl) ?_ | refine ldInt_i (S.cellR 0 rfl rfl) ?_ | refine ldInt_i (S.cellR 1 rfl rfl) ?_ | refine ldInt_i (S.cellR 2 rfl rfl) ?_)) | ((with_reducible refine ldBool_id ?_); (first | refine ldBool_i (S.cell 0 rfl rfl) ?_ | refine ldBool_i (S.cell 1 rfl rfl) ?_ | refine ldBool_i (S.cell 2 rfl rfl) ?_ | refine ldBool_i (S.cell 3 rfl rfl) ?_ | refine ldBool_i (S.cell 4 rfl rfl) ?_ | refine ldBool_i (S.cell 5 rfl rfl) ?_ | refine ldBool_i (S.cell 6 rfl rfl) ?_ | refine ldBool_i (S.cell 7 rfl rfl) ?_ | refine ldBool_i (S.cellR 0 rfl rfl) ?_ | refine ldBool_i (S.cellR 1 rfl rfl) ?_ | refine ldBool_i (S.cellR 2 rfl rfl) ?_)) | ((with_reducible refine ldPtr_id ?_); (first | refine ldPtr_i (S.cell 0 rfl rfl) ?_ | refine ldPtr_i (S.cell 1 rfl rfl) ?_ | refine ldPtr_i (S.cell 2 rfl rfl) ?_ | refine ldPtr_i (S.cell 3 rfl rfl) ?_ | refine ldPtr_i (S.cell 4 rfl rfl) ?_ | refine ldPtr_i (S.cell 5 rfl rfl) ?_ | refine ldPtr_i (S.cell 6 rfl rfl) ?_ | refine ldPtr_i (S.cell 7 rfl rfl) ?_ | refine ldPtr_i (S.cellR 0 rfl rfl) ?_ | refine ldPtr_i (S.cellR 1 rfl rfl) ?_ | refine ldPtr_i (S.cellR 2 rfl rfl) ?_)) | ((with_reducible refine ldSlice_id ?_); (first | refine ldSlice_i (S.cell 0 rfl rfl) ?_ | refine ldSlice_i (S.cell 1 rfl rfl) ?_ | refine ldSlice_i (S.cell 2 rfl rfl) ?_ | refine ldSlice_i (S.cell 3 rfl rfl) ?_ | refine ldSlice_i (S.cell 4 rfl rfl) ?_ | refine ldSlice_i (S.cell 5 rfl rfl) ?_ | refine ldSlice_i (S.cell 6 rfl rfl) ?_ | refine ldSlice_i (S.cell 7 rfl rfl) ?_ | refine ldSlice_i (S.cellR 0 rfl rfl) ?_ | refine ldSlice_i (S.cellR 1 rfl rfl) ?_ | refine ldSlice_i (S.cellR 2 rfl rfl) ?_)) | ((with_reducible refine ldStr_id ?_); (first | refine ldStr_i (S.cell 0 rfl rfl) ?_ | refine ldStr_i (S.cell 1 rfl rfl) ?_ | refine ldStr_i (S.cell 2 rfl rfl) ?_ | refine ldStr_i (S.cell 3 rfl rfl) ?_ | refine ldStr_i (S.cell 4 rfl rfl) ?_ | refine ldStr_i (S.cell 5 rfl rfl) ?_ | refine ldStr_i (S.cell 6 rfl rfl) ?_ | refine ldStr_i (S.cell 7 rfl rfl) ?_ | refine ldStr_i (S.cellR 0 rfl rfl) ?_ | refine ldStr_i (S.cellR 1 rfl rfl) ?_ | refine ldStr_i (S.cellR 2 rfl rfl) ?_)) | ((with_reducible refine stI_id ?_); (first | refine stI_S S 0 rfl (Nat.le_of_ble_eq_true rfl) (fun _ _ S => ?_) | refine stI_S S 1 rfl (Nat.le_of_ble_eq_true rfl) (fun _ _ S => ?_) | refine stI_S S 2 rfl (Nat.le_of_ble_eq_true rfl) (fun _ _ S => ?_) | refine stI_S S 3 rfl (Nat.le_of_ble_eq_true rfl) (fun _ _ S => ?_) | refine stI_S S 4 rfl (Nat.le_of_ble_eq_true rfl) (fun _ _ S => ?_) | refine stI_S S 5 rfl (Nat.le_of_ble_eq_true rfl) (fun _ _ S => ?_) | refine stI_S S 6 rfl (Nat.le_of_ble_eq_true rfl) (fun _ _ S => ?_) | refine stI_S S 7 rfl (Nat.le_of_ble_eq_true rfl) (fun _ _ S => ?_)); try dsimp only [List.set, List.cons_append, List.nil_append] at S) | ((with_reducible refine and_id ?_); (first | refine and_i (S.cell 0 rfl rfl) ?_ | refine and_i (S.cell 1 rfl rfl) ?_ | refine and_i (S.cell 2 rfl rfl) ?_ | refine and_i (S.cell 3 rfl rfl) ?_ | refine and_i (S.cell 4 rfl rfl) ?_ | refine and_i (S.cell 5 rfl rfl) ?_ | refine and_i (S.cell 6 rfl rfl) ?_ | refine and_i (S.cell 7 rfl rfl) ?_ | refine and_i (S.cellR 0 rfl rfl) ?_ | refine and_i (S.cellR 1 rfl rfl) ?_ | refine and_i (S.cellR 2 rfl rfl) ?_)) | refine arrI_i (by decide) (by decide) ?_))
    refine ifB_i (fun e => ?_) (fun e => ?_)
    · rw [wrap64_in (by omega)]
      exact ⟨n + 1, rfl, by rw [if_pos e], S⟩
    · exact ⟨n, rfl, by rw [if_neg (by simp [e])], S⟩
end

end Go.Proofs.Ytdjofpdmdbcgjaa.G
