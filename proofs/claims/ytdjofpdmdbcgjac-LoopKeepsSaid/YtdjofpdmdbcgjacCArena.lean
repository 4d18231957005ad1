/- Contracts: package arena (New, Part, Get, Put, Set, Words, Zero, Err, Len), package sat's Fits. -/
import Derived.Test.YtdjofpdmdbcgjacGen
import Derived.Test.YtdjofpdmdbcgjacShM
namespace Go.Proofs.Ytdjofpdmdbcgjac.G
open Go Go.Sh
set_option linter.unusedVariables false

/-- An arena's head, its words, a part of it. -/
abbrev ar (a bw n : Nat) (err : Int) : Fact := blk a [.slice (some ⟨bw, 0, none⟩) n n, .int .i64 err]
abbrev wds (bw : Nat) (ws : List Int) : Fact := blk bw (ints ws)
def pq (bw at_ n : Nat) : Option Addr := if n = 0 then some ⟨bw, 0, none⟩ else some ⟨bw, at_, none⟩
abbrev pt (p a bw at_ n : Nat) : Fact := blk p [.pointer (some ⟨a, 0, none⟩), .slice (pq bw at_ n) n n]

/-- The first trouble. -/
def tr (err e : Int) : Int := if err = 0 then e else err
/-- A word. -/
def isW (x : Int) : Prop := -2147483648 ≤ x ∧ x ≤ 2147483647
instance (x : Int) : Decidable (isW x) := by unfold isW; infer_instance

section
variable {h0 h : Heap} {T : Nat → Prop} {W R : List Fact} {a bw n p at_ k : Nat} {err : Int} {ws : List Int}

theorem ends32 : callP P n_sat_ends #[.int .i64 32] h fun v h' => v = .tuple #[.int .i64 (-2147483648), .int .i64 2147483647, .bool true] ∧ h' = h := by
  refine call_sat_ends _ ?_
  unfold sat_ends
  refine ifB_false (by decide) (ifB_false (by decide) ⟨by decide, ?_, rfl⟩)
  have e1 : shrI (-9223372036854775808 : Int) (min (IntKind.wrap .i64 ((64 : Int) - 32)).toNat 64) = -2147483648 := by decide
  rw [e1]
  have e2 : xorI .i64 (-1) (-2147483648) = 2147483647 := by decide
  rw [e2]

theorem Fits_ok (x : Int) : callP P n_sat_Fits #[.int .i64 x, .int .i64 32] h fun v h' => v = .bool (decide (isW x)) ∧ h' = h := by
  refine call_sat_Fits _ _ ?_
  unfold sat_Fits
  refine ends32.mono ?_
  rintro _ _ ⟨rfl, rfl⟩
  refine ⟨_, _, _, rfl, ?_⟩
  refine ifB_true rfl (ifB_dec (fun h1 => ⟨?_, rfl⟩) (fun h1 => ⟨?_, rfl⟩))
  · congr 1; rw [decide_eq_decide]; exact ⟨fun h => ⟨h1, h⟩, fun h => h.2⟩
  · rw [decide_eq_false]; unfold isW; intro hh; exact h1 hh.1

theorem New_S (n : Nat) (hn : n ≤ 4096) : callP P n_arena_New #[.int .i64 n] h fun v h' => ∃ a bw, v = .pointer (some ⟨a, 0, none⟩) ∧ Sep h no h' [wds bw (List.replicate n 0), ar a bw n 0] [] := by
  refine call_arena_New _ ?_
  unfold arena_New
  have S := Sep.start h no
  refine ifB_false (decide_eq_false (by omega)) (ifB_false (decide_eq_false (by omega)) ?_)
  refine mkI_S S n rfl rfl rfl (by decide) (by omega) (by omega) fun b1 h1 _ S => ?_
  rw [repl_one] at S
  refine newI_S S (fun b3 _ _ S => ?_)
  rw [Int.toNat_natCast] at S
  refine ⟨b3, b1, rfl, ?_⟩
  have e : ints (List.replicate n 0) = List.replicate n (.int .i64 0) := by simp [ints]
  unfold wds
  rw [e]
  exact S
theorem New_not (x : Int) (hx : x < 0 ∨ 4096 < x) : callP P n_arena_New #[.int .i64 x] h fun v h' => v = .pointer none ∧ h' = h := by
  refine call_arena_New _ ?_
  unfold arena_New
  exact ifB_dec (fun _ => ⟨rfl, rfl⟩) fun h1 => ifB_true (decide_eq_true (by omega)) ⟨rfl, rfl⟩

theorem Err_ok (S : Sep h0 T h W R) (ia : Nat) (e : W[ia]? = some (ar a bw n err)) : callP P n_arena_Arena_Err #[.pointer (some ⟨a, 0, none⟩)] h fun v h' => v = .int .i64 err ∧ h' = h := by
  refine call_arena_Arena_Err _ ?_
  unfold arena_Arena_Err
  refine ifB_false rfl (nilI_some ?_)
  exact ldInt_i (S.cell ia e rfl) ⟨rfl, rfl⟩

theorem trouble_S (S : Sep h0 T h W R) (ia : Nat) (e : W[ia]? = some (ar a bw n err)) (x : Int) :
    callP P n_arena_Arena_trouble #[.pointer (some ⟨a, 0, none⟩), .int .i64 x] h fun v h' => v = .tuple #[] ∧ Sep h0 T h' (W.set ia (ar a bw n (tr err x))) R := by
  refine call_arena_Arena_trouble _ _ ?_
  unfold arena_Arena_trouble
  refine nilI_some (ldInt_i (S.cell ia e rfl) ?_)
  refine ifB_i (fun h1 => nilI_some ?_) (fun h1 => ⟨rfl, ?_⟩)
  · refine stI_S S ia e (Nat.le_of_ble_eq_true rfl) fun h' _ S => ⟨rfl, ?_⟩
    have : tr err x = x := by unfold tr; rw [if_pos (by simpa using h1)]
    rw [this]; exact S
  · have : tr err x = err := by unfold tr; rw [if_neg (by simpa using h1)]
    rw [this]
    exact S.turn ia e _ (fun h => h) fun _ h => h

/-- A part: of numbers that are within. -/
theorem Part_S (S : Sep h0 T h W R) (ia : Nat) (e : W[ia]? = some (ar a bw n err)) (k m : Nat) (hn : n ≤ 4096) (hkm : k + m ≤ n) :
    callP P n_arena_Arena_Part #[.pointer (some ⟨a, 0, none⟩), .int .i64 k, .int .i64 m] h fun v h' => ∃ p, v = .pointer (some ⟨p, 0, none⟩) ∧ Sep h0 T h' (W ++ [pt p a bw k m]) R := by
  refine call_arena_Arena_Part _ _ _ ?_
  unfold arena_Arena_Part
  refine ⟨fun s g => s = (some ⟨a, 0, none⟩, (k : Int), (m : Int), ()) ∧ g = h, ?_, ?_⟩
  · rintro s g ⟨rfl, hg⟩
    subst hg
    unfold arena_Arena_Part_j3
    dsimp only
    refine nilI_some (ldSlice_i (S.cell ia e rfl) ?_)
    rw [wrap64_in (by omega)]
    refine bndI_i (n := k + m) (by omega) (by omega) (bndI_i (n := k + m) (by omega) (Nat.le_refl _) (bndI_i (n := k) rfl (by omega) ?_))
    refine newI_S S (fun b8 _ _ S => ?_)
    refine ⟨b8, rfl, ?_⟩
    have e1 : (if k + m = k then some (⟨bw, 0, none⟩ : Addr) else Option.map (fun a => Addr.add a (k * 1)) (some ⟨bw, 0, none⟩)) = pq bw k m := by
      unfold pq
      by_cases hm : m = 0
      · rw [if_pos (by omega), if_pos hm]
      · rw [if_neg (by omega), if_neg hm, Option.map_some, add_mk]; simp
    rw [e1, Nat.add_sub_cancel_left] at S
    exact S
  · refine ifB_false rfl (ifB_false (decide_eq_false (by omega)) (ifB_false (decide_eq_false (by omega)) (nilI_some (ldSlice_i (S.cell ia e rfl) ?_))))
    refine ifB_false (decide_eq_false (by omega)) (nilI_some (ldSlice_i (S.cell ia e rfl) ?_))
    rw [wrap64_in (by omega)]
    exact ifB_false (decide_eq_false (by omega)) ⟨rfl, rfl⟩

theorem Part_not (S : Sep h0 T h W R) (ia : Nat) (e : W[ia]? = some (ar a bw n err)) (k m : Int) (hn : n ≤ 4096) (hk : ¬ (0 ≤ k ∧ 0 ≤ m ∧ k + m ≤ n)) :
    callP P n_arena_Arena_Part #[.pointer (some ⟨a, 0, none⟩), .int .i64 k, .int .i64 m] h fun v h' => v = .pointer none ∧ h' = h := by
  refine call_arena_Arena_Part _ _ _ ?_
  unfold arena_Arena_Part
  refine ⟨fun s g => False, fun s g h => h.elim, ?_⟩
  refine ifB_false rfl (ifB_dec (fun _ => ⟨rfl, rfl⟩) fun h1 => ifB_dec (fun _ => ⟨rfl, rfl⟩) fun h2 => nilI_some (ldSlice_i (S.cell ia e rfl) ?_))
  refine ifB_dec (fun _ => ⟨rfl, rfl⟩) fun h3 => nilI_some (ldSlice_i (S.cell ia e rfl) ?_)
  rw [wrap64_in (by omega)]
  exact ifB_true (decide_eq_true (by omega)) ⟨rfl, rfl⟩

/-- What is told of a word of a part. -/
def pget (ws : List Int) (err : Int) (at_ n : Nat) (i : Int) : Int × Int := if 0 ≤ i ∧ i < n then (ws.getD (at_ + i.toNat) 0, err) else (0, tr err 1)
/-- What is put there. -/
def pput (ws : List Int) (err : Int) (at_ n : Nat) (i x : Int) : List Int × Int :=
  if 0 ≤ i ∧ i < n then (if isW x then (ws.set (at_ + i.toNat) x, err) else (ws, tr err 16)) else (ws, tr err 1)
theorem pput_length (ws : List Int) (err : Int) (at_ n : Nat) (i x : Int) : (pput ws err at_ n i x).1.length = ws.length := by
  unfold pput
  (repeat' split) <;> simp

theorem Get_S (S : Sep h0 T h W R) (ia ip iw : Nat) (ea : W[ia]? = some (ar a bw n err)) (ep : W[ip]? = some (pt p a bw at_ k)) (ew : W[iw]? = some (wds bw ws)) (hlen : at_ + k ≤ ws.length) (i : Int) :
    callP P n_arena_Part_Get #[.pointer (some ⟨p, 0, none⟩), .int .i64 i] h fun v h' => v = .int .i64 (pget ws err at_ k i).1 ∧ Sep h0 T h' (W.set ia (ar a bw n (pget ws err at_ k i).2)) R := by
  refine call_arena_Part_Get _ _ ?_
  unfold arena_Part_Get
  refine ifB_false rfl ?_
  refine ifB_dec (fun h1 => nilI_some (ldPtr_i (S.cell ip ep rfl) ?_)) (fun h1 => nilI_some (ldSlice_i (S.cell ip ep rfl) ?_))
  · have e : pget ws err at_ k i = (0, tr err 1) := by unfold pget; rw [if_neg (by omega)]
    rw [e]
    refine (trouble_S S ia ea 1).mono ?_
    rintro _ _ ⟨rfl, S⟩
    exact ⟨rfl, rfl, S⟩
  · refine ifB_dec (fun h2 => nilI_some (ldPtr_i (S.cell ip ep rfl) ?_)) (fun h2 => nilI_some (ldSlice_i (S.cell ip ep rfl) ?_))
    · have e : pget ws err at_ k i = (0, tr err 1) := by unfold pget; rw [if_neg (by omega)]
      rw [e]
      refine (trouble_S S ia ea 1).mono ?_
      rintro _ _ ⟨rfl, S⟩
      exact ⟨rfl, rfl, S⟩
    · have e : pget ws err at_ k i = (ws.getD (at_ + i.toNat) 0, err) := by unfold pget; rw [if_pos (by omega)]
      rw [e]
      have e1 : pq bw at_ k = some ⟨bw, at_, none⟩ := by unfold pq; rw [if_neg (by omega)]
      refine idxI_i e1 (k := i.toNat) (by omega) (by omega) ?_
      rw [Nat.mul_one, add_mk]
      have hi : at_ + i.toNat < ws.length := by omega
      refine ldInt_i (n := ws.getD (at_ + i.toNat) 0) (S.cell iw ew (ints_get (by rw [List.getD_eq_getElem?_getD, List.getElem?_eq_getElem hi]; rfl))) ⟨rfl, ?_⟩
      exact S.turn ia ea _ (fun h => h) fun _ h => h

theorem Put_S (S : Sep h0 T h W R) (ia ip iw : Nat) (ea : W[ia]? = some (ar a bw n err)) (ep : W[ip]? = some (pt p a bw at_ k)) (ew : W[iw]? = some (wds bw ws)) (hne : ia ≠ iw) (hlen : at_ + k ≤ ws.length) (i x : Int) :
    callP P n_arena_Part_Put #[.pointer (some ⟨p, 0, none⟩), .int .i64 i, .int .i64 x] h fun v h' => v = .tuple #[] ∧ Sep h0 T h' ((W.set ia (ar a bw n (pput ws err at_ k i x).2)).set iw (wds bw (pput ws err at_ k i x).1)) R := by
  refine call_arena_Part_Put _ _ _ ?_
  unfold arena_Part_Put
  have same : ∀ (h' : Heap) (W' : List Fact), Sep h0 T h' W' R → W'[iw]? = some (wds bw ws) → Sep h0 T h' (W'.set iw (wds bw ws)) R := fun h' W' S e => S.turn iw e _ (fun h => h) fun _ h => h
  have ew' : ∀ f, (W.set ia f)[iw]? = some (wds bw ws) := fun f => by rw [List.getElem?_set_ne hne]; exact ew
  have bad : ∀ y, pput ws err at_ k i x = (ws, tr err y) → ∀ h', Sep h0 T h' (W.set ia (ar a bw n (tr err y))) R → Sep h0 T h' ((W.set ia (ar a bw n (pput ws err at_ k i x).2)).set iw (wds bw (pput ws err at_ k i x).1)) R := fun y e h' S => by
    rw [e]; exact same h' _ S (ew' _)
  refine ifB_false rfl ?_
  refine ifB_dec (fun h1 => nilI_some (ldPtr_i (S.cell ip ep rfl) ?_)) (fun h1 => nilI_some (ldSlice_i (S.cell ip ep rfl) ?_))
  · refine (trouble_S S ia ea 1).mono ?_
    rintro _ h' ⟨rfl, S⟩
    exact ⟨rfl, rfl, bad 1 (by unfold pput; rw [if_neg (by omega)]) h' S⟩
  · refine ifB_dec (fun h2 => nilI_some (ldPtr_i (S.cell ip ep rfl) ?_)) (fun h2 => ?_)
    · refine (trouble_S S ia ea 1).mono ?_
      rintro _ h' ⟨rfl, S⟩
      exact ⟨rfl, rfl, bad 1 (by unfold pput; rw [if_neg (by omega)]) h' S⟩
    · refine (Fits_ok x).mono ?_
      rintro _ h' ⟨rfl, hh⟩
      subst hh
      refine ⟨_, rfl, ?_⟩
      by_cases hx : isW x
      · refine ifB_false (by simp [hx]) (nilI_some (ldSlice_i (S.cell ip ep rfl) ?_))
        have e1 : pq bw at_ k = some ⟨bw, at_, none⟩ := by unfold pq; rw [if_neg (by omega)]
        have e : pput ws err at_ k i x = (ws.set (at_ + i.toNat) x, err) := by unfold pput; rw [if_pos (by omega), if_pos hx]
        rw [e]
        refine idxI_i e1 (k := i.toNat) (by omega) (by omega) ?_
        rw [Nat.mul_one, add_mk]
        have hi : at_ + i.toNat < ws.length := by omega
        have S2 := S.turn ia ea (ar a bw n err) (fun h => h) fun _ h => h
        refine stI_S S2 iw (ew' _) (by rw [ints_length]; exact hi) fun h' _ S => ⟨rfl, ?_⟩
        have e2 : (ints ws).set (at_ + i.toNat) (.int .i64 x) = ints (ws.set (at_ + i.toNat) x) := by simp [ints, List.map_set]
        rw [e2] at S
        exact S
      · refine ifB_true (by simp [hx]) (nilI_some (ldPtr_i (S.cell ip ep rfl) ?_))
        refine (trouble_S S ia ea 16).mono ?_
        rintro _ h' ⟨rfl, S⟩
        exact ⟨rfl, rfl, bad 16 (by unfold pput; rw [if_pos (by omega), if_neg hx]) h' S⟩
end

end Go.Proofs.Ytdjofpdmdbcgjac.G
