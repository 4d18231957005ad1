/- Contracts: package arena, the rest: Set, Words, Zero, whole, Get and Put of an arena; the nil ones. -/
import Derived.Test.YtdjofpdmdbcgjacCArena
namespace Go.Proofs.Ytdjofpdmdbcgjac.G
open Go Go.Sh
set_option linter.unusedVariables false

section
variable {h0 h : Heap} {T : Nat → Prop} {W R : List Fact} {a bw n p at_ k : Nat} {err : Int} {ws : List Int}

theorem same_fact (S : Sep h0 T h W R) (i : Nat) {f : Fact} (e : W[i]? = some f) : Sep h0 T h (W.set i f) R := S.turn i e _ (fun h => h) fun _ h => h

theorem Set1_ok (x : Int) : callP P n_arena_Arena_Set_1 #[.int .i64 x] h fun v h' => v = .bool (!decide (isW x)) ∧ h' = h := by
  refine call_arena_Arena_Set_1 _ ?_
  unfold arena_Arena_Set_1
  refine (Fits_ok x).mono ?_
  rintro _ _ ⟨rfl, rfl⟩
  exact ⟨_, rfl, rfl, rfl⟩

/-- Are all of them words? -/
def allW (xs : List Int) : Prop := ∀ x ∈ xs, isW x
instance (xs : List Int) : Decidable (allW xs) := by unfold allW; infer_instance

theorem Index_ok {q : Option Addr} {l c : Nat} {xs : List Int} (hx : Row h q (ints xs)) (hl : xs.length = l) (hl2 : l < 2 ^ 62) :
    callP P n_slices_IndexFunc_int_int #[.slice q l c, .func (.func n_arena_Arena_Set_1) #[] #[]] h fun v h' => (∃ r : Int, v = .int .i64 r ∧ (0 ≤ r ↔ ¬ allW xs)) ∧ h' = h := by
  refine call_slices_IndexFunc_int_int_at_arena_Arena_Set_1 _ _ _ ?_
  unfold slices_IndexFunc_int_int_at_arena_Arena_Set_1
  refine LoopS_i (fun m s g => g = h ∧ ∃ i : Nat, s = ((q, l, c), ((), ()), (l : Int), (i : Int), ()) ∧ i ≤ l ∧ m = l - i ∧ ∀ j x, j < i → xs[j]? = some x → isW x) l ⟨rfl, 0, rfl, by omega, rfl, by intro j x hj; omega⟩ ?_
  rintro m s g ⟨rfl, i, rfl, hi, rfl, hw⟩
  unfold slices_IndexFunc_int_int_at_arena_Arena_Set_1_l2
  dsimp only
  refine ifB_dec (fun hlt => ?_) (fun hge => ⟨⟨_, rfl, ?_⟩, by trivial⟩)
  · have hix : i < xs.length := by omega
    obtain ⟨aa, rfl⟩ := hx.some_of (by rw [ints_length]; omega)
    refine idxI_i rfl rfl (by omega) ?_
    simp only [Int.toNat_natCast, Nat.mul_one]
    refine ldInt_i (hx.cell (ints_get (List.getElem?_eq_getElem hix))) ?_
    refine (Set1_ok xs[i]).mono ?_
    rintro _ _ ⟨rfl, rfl⟩
    refine ⟨_, rfl, ?_⟩
    refine ifB_i (fun hb => ⟨⟨_, rfl, ?_⟩, by trivial⟩) (fun hb => ?_)
    · have hn : ¬ isW xs[i] := by simpa using hb
      exact ⟨fun _ h => hn (h _ (List.getElem_mem hix)), fun _ => by omega⟩
    · have hn : isW xs[i] := by simpa using hb
      rw [wrap64_in (by omega)]
      refine ⟨l - (i + 1), by omega, by trivial, i + 1, rfl, by omega, rfl, fun j x hj hx => ?_⟩
      by_cases hji : j = i
      · subst hji; rw [List.getElem?_eq_getElem hix] at hx; cases hx; exact hn
      · exact hw j x (by omega) hx
  · refine ⟨fun h => absurd h (by decide), fun h => absurd ?_ h⟩
    intro x hx
    obtain ⟨j, hj⟩ := List.getElem?_of_mem hx
    exact hw j x (by have := (List.getElem?_eq_some_iff.1 hj).1; omega) hj

theorem Contains_ok {q : Option Addr} {l c : Nat} {xs : List Int} (hx : Row h q (ints xs)) (hl : xs.length = l) (hl2 : l < 2 ^ 62) :
    callP P n_slices_ContainsFunc_int_int #[.slice q l c, .func (.func n_arena_Arena_Set_1) #[] #[]] h fun v h' => v = .bool (!decide (allW xs)) ∧ h' = h := by
  refine call_slices_ContainsFunc_int_int_at_arena_Arena_Set_1 _ _ _ ?_
  unfold slices_ContainsFunc_int_int_at_arena_Arena_Set_1
  refine (Index_ok hx hl hl2).mono ?_
  rintro _ _ ⟨⟨r, rfl, hr⟩, rfl⟩
  refine ⟨_, rfl, ?_, rfl⟩
  congr 1
  by_cases hw : allW xs
  · rw [decide_eq_true hw, decide_eq_false (fun h => hr.1 h hw)]; rfl
  · rw [decide_eq_false hw, decide_eq_true (hr.2 hw)]; rfl

/-- Set: what is told, and the words then. -/
def pset (ws xs : List Int) : Int × List Int := if xs.length ≠ ws.length then (22, ws) else if allW xs then (0, xs) else (16, ws)
theorem pset_length (ws xs : List Int) : (pset ws xs).2.length = ws.length := by
  unfold pset
  split
  · rfl
  · split
    · simp only; omega
    · rfl

theorem ints_one {xs : List Int} : ∀ y ∈ ints xs, one1 y = true := by
  intro y hy
  simp only [ints, List.mem_map] at hy
  obtain ⟨x, _, rfl⟩ := hy; rfl

theorem Set_S (S : Sep h0 T h W R) (ia iw : Nat) (ea : W[ia]? = some (ar a bw n err)) (ew : W[iw]? = some (wds bw ws)) (hn : ws.length = n) (hn2 : n ≤ 4096) {q : Option Addr} {l c : Nat} {xs : List Int} (hx : Row h q (ints xs)) (hl : xs.length = l) (hl2 : l < 2 ^ 62) :
    callP P n_arena_Arena_Set #[.pointer (some ⟨a, 0, none⟩), .slice q l c] h fun v h' => v = .int .i64 (pset ws xs).1 ∧ Sep h0 T h' (W.set iw (wds bw (pset ws xs).2)) R := by
  refine call_arena_Arena_Set _ _ _ _ ?_
  unfold arena_Arena_Set
  refine ifB_false rfl (nilI_some (ldSlice_i (S.cell ia ea rfl) ?_))
  refine ifB_i (fun hne => ?_) (fun he => ?_)
  · have hne : l ≠ n := by simp at hne; omega
    have e : pset ws xs = (22, ws) := by unfold pset; rw [if_pos (by omega)]
    rw [e]
    exact ⟨rfl, same_fact S iw ew⟩
  · have he : l = n := by simp at he; omega
    subst he
    refine (Contains_ok hx hl hl2).mono ?_
    rintro _ _ ⟨rfl, rfl⟩
    refine ⟨_, rfl, ?_⟩
    by_cases hw : allW xs
    · have e : pset ws xs = (0, xs) := by unfold pset; rw [if_neg (by omega), if_pos hw]
      rw [e]
      refine ifB_false (by simp [hw]) (nilI_some (ldSlice_i (S.cell ia ea rfl) ?_))
      refine cpI_S S iw ew hx (by rw [ints_length, hl, Nat.mul_one]; exact (Nat.min_self l).symm) ints_one (by rw [ints_length, ints_length]; omega) fun h' _ S => ⟨rfl, ?_⟩
      have e2 : (ints ws).take 0 ++ ints xs ++ (ints ws).drop (0 + (ints xs).length) = ints xs := by
        rw [List.take_zero, List.nil_append, Nat.zero_add, List.drop_of_length_le (by rw [ints_length, ints_length]; omega), List.append_nil]
      rw [e2] at S
      exact S
    · have e : pset ws xs = (16, ws) := by unfold pset; rw [if_neg (by omega), if_neg hw]
      rw [e]
      exact ifB_true (by simp [hw]) ⟨rfl, same_fact S iw ew⟩

theorem Clone_N {q : Addr} {l c : Nat} {xs : List Int} (hx : Row h (some q) (ints xs)) (hl : xs.length = l) (hl2 : l < 2 ^ 40) :
    callP P n_slices_Clone_int_int #[.slice (some q) l c] h fun v h' => ∃ p' l' c', v = .slice p' l' c' ∧ l' = xs.length ∧ Sep h no h' [own 1 p' l' c' (ints xs)] [] := by
  refine call_slices_Clone_int_int _ _ _ ?_
  unfold slices_Clone_int_int
  have S := (Sep.start h no).read (row (some q) (ints xs)) hx
  refine ifB_false rfl ?_
  refine newI_S (cs := []) S fun b1 h1 _ S => ?_
  replace S := S.toOwn 0 1 0 0 rfl (Nat.le_refl _)
  refine appI_S S 0 (ys := ints xs) rfl rfl (by decide) (by omega) (S.row 0 rfl) (by rw [ints_length]; omega) ints_one fun p' l' c' h' hl' S => ?_
  exact ⟨p', l', c', rfl, by omega, S.pick [0] []⟩

theorem Words_N (S : Sep h0 T h W R) (ia iw : Nat) (ea : W[ia]? = some (ar a bw n err)) (ew : W[iw]? = some (wds bw ws)) (hn : ws.length = n) (hn2 : n ≤ 4096) :
    callP P n_arena_Arena_Words #[.pointer (some ⟨a, 0, none⟩)] h fun v h' => ∃ p' l' c', v = .slice p' l' c' ∧ l' = ws.length ∧ Sep h no h' [own 1 p' l' c' (ints ws)] [] := by
  refine call_arena_Arena_Words _ ?_
  unfold arena_Arena_Words
  refine ifB_false rfl (nilI_some (ldSlice_i (S.cell ia ea rfl) ?_))
  refine (Clone_N (Row.of_at (S.at iw ew)) hn (by omega)).mono ?_
  rintro _ h' ⟨p', l', c', rfl, hl', S1⟩
  exact ⟨_, _, _, rfl, p', l', c', rfl, hl', S1⟩

end

end Go.Proofs.Ytdjofpdmdbcgjac.G
