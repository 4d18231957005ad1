/- The law ArenaLays: things are laid out as the document says. -/
import Derived.Test.YtdjofpdmdbcgjaaCLayout
namespace Go.Proofs.Ytdjofpdmdbcgjaa.G
open Go Go.Sh
set_option linter.unusedVariables false

theorem lays_ok {p : Option Addr} {l c : Nat} {h : Heap} {xs : List Int} (hx : Row h p (ints xs)) (hxl : xs.length = l) (hb : l ≤ 2 ^ 32) (hr : ∀ n ∈ xs, -2 ^ 63 ≤ n ∧ n < 2 ^ 63) :
    callP P n_law07_lays #[.slice p l c] h fun v h' => v = .bool true ∧ Fra no h h' := by
  refine call_law07_lays _ _ _ ?_
  unfold law07_lays
  refine (layout_ok hx hxl hb hr).mono ?_
  rintro v h1 ⟨p1, l1, c1, rfl, ho1, hf1⟩
  refine ⟨_, _, _, _, _, rfl, ?_⟩
  refine (rlayout_ok (hx.frame0 hf1) hxl hb hr).mono ?_
  rintro v h2 ⟨p2, l2, c2, rfl, ho2, hf2⟩
  refine ⟨_, _, _, _, _, rfl, ?_⟩
  refine newI_i (cs := [.slice none 0 0, .int .i64 0, .int .i64 0]) fun b h3 hb3 hs3 hat3 hf3 => ?_
  refine stI_i hat3 (by simp) fun h4 hs4 hat4 hf4 => stI_i hat4 (by simp) fun h5 hs5 hat5 hf5 => stI_i hat5 (by simp) fun h6 hs6 hat6 hf6 => ?_
  refine ldSlice_i (hat6.cell rfl) ?_
  have hs1 := hf1.size
  have hs2 := hf2.size
  have f16 : Fra no h1 h6 := (((hf2.trans hf3).one hf4 (by omega)).one hf5 (by omega)).one hf6 (by omega)
  have f26 : Fra no h2 h6 := ((hf3.one hf4 (by omega)).one hf5 (by omega)).one hf6 (by omega)
  have e1 := ho1.1
  have e2 := ho2.1
  have hlen : (layout xs).1.length ≤ 2 ^ 61 := by
    have key : ∀ (xs : List Int) e x, lay xs e = some x → x.1.length = xs.length := by
      intro xs
      induction xs with
      | nil => intro e x hx; simp only [lay, Option.some.injEq] at hx; subst hx; rfl
      | cons n r ih =>
        intro e x hx
        simp only [lay] at hx
        split at hx
        · cases hx
        · cases hl : lay r ((e + n + 3) / 4 * 4) with
          | none => rw [hl] at hx; cases hx
          | some y => rw [hl] at hx; simp only [Option.map_some, Option.some.injEq] at hx; subst hx; simp [ih _ _ hl]
    unfold layout
    split
    · simp
    · split
      · simp
      · rename_i x hx; rw [key _ _ _ hx]; omega
  rw [ints_length] at e1 e2
  refine (same_ok (ho1.row.frame0 f16) (by omega) (ho2.row.frame0 f26) (by omega) (by omega)).mono ?_
  rintro v h7 ⟨rfl, rfl⟩
  refine ⟨_, rfl, ?_⟩
  refine ifB_true (by simp) ?_
  refine ldInt_i (hat6.cell rfl) ?_
  refine ifB_true (by simp) ?_
  refine ldInt_i (hat6.cell rfl) ?_
  exact ⟨by simp, hf1.trans f16⟩

theorem awake_ok {h : Heap} : callP P n_law07_awake #[] h fun v h' => v = .bool true ∧ Fra no h h' := by
  refine call_law07_awake ?_
  unfold law07_awake
  refine newI_i (cs := [.int .i64 3, .int .i64 5, .int .i64 1]) fun b h1 hb1 hs1 hat1 hf1 => ?_
  refine (layout_ok (xs := [3, 5, 1]) (Row.of_at hat1) rfl (by simp) (by simp)).mono ?_
  rintro v h2 ⟨p1, l1, c1, rfl, ho1, hf2⟩
  refine ⟨_, _, _, _, _, rfl, ?_⟩
  refine newI_i (cs := [.int .i64 0, .int .i64 4, .int .i64 12]) fun b3 h3 hb3 hs3 hat3 hf3 => ?_
  have hl : layout [3, 5, 1] = ([0, 4, 12], 16, 0) := by decide
  rw [hl] at ho1
  have e1 := ho1.1
  rw [hl]
  simp [ints] at e1
  refine (same_ok (xs := [0, 4, 12]) (ys := [0, 4, 12]) (ho1.row.frame0 hf3) (by simpa using e1) (Row.of_at hat3) rfl (by omega)).mono ?_
  rintro v h7 ⟨rfl, rfl⟩
  refine ⟨_, rfl, ifB_true rfl (ifB_true rfl ⟨rfl, (hf1.trans hf2).trans hf3⟩)⟩

theorem andI_1023 (n : Int) : 0 ≤ andI .i64 n 1023 ∧ andI .i64 n 1023 ≤ 1023 := by
  unfold andI
  have : ((BitVec.ofInt IntKind.i64.bits n &&& BitVec.ofInt IntKind.i64.bits 1023).toNat) ≤ 1023 := by
    rw [BitVec.toNat_and]
    exact Nat.and_le_right
  rw [wrap64_in (by omega)]
  omega

theorem ArenaLays_ok {p q : Option Addr} {l c l' c' : Nat} {h : Heap} {xs ys : List Int} (hx : Row h p (ints xs)) (hxl : xs.length = l) (hy : Row h q (ints ys)) (hyl : ys.length = l') (hlc : l ≤ c) (hb : l < 2 ^ 62) (hb' : l' < 2 ^ 62)
    (hr : ∀ n ∈ xs, -2 ^ 63 ≤ n ∧ n < 2 ^ 63) (hr' : ∀ n ∈ ys, -2 ^ 63 ≤ n ∧ n < 2 ^ 63) :
    callP P n_law07_ArenaLays #[.slice p l c, .slice q l' c'] h fun v h' => v = .bool true ∧ Fra no h h' := by
  refine call_law07_ArenaLays _ _ _ _ _ _ ?_
  unfold law07_ArenaLays
  refine awake_ok.mono ?_
  rintro v h1 ⟨rfl, hf1⟩
  refine ⟨_, rfl, ?_⟩
  refine ⟨fun s h2 => Fra no h h2 ∧ ∃ k d zs, s = ((p, k, d), (q, l', c'), true, ()) ∧ Row h2 p (ints zs) ∧ zs.length = k ∧ k ≤ 12 ∧ ∀ n ∈ zs, -2 ^ 63 ≤ n ∧ n < 2 ^ 63, ?_, ?_⟩
  · rintro s h2 ⟨hf2, k, d, zs, rfl, hz, hzl, hk, hzr⟩
    unfold law07_ArenaLays_j4
    dsimp only
    refine LoopS_i (fun m s h3 => Fra no h2 h3 ∧ ∃ (i : Nat) (o : Option Addr) (a b : Nat) (acc : List Int), s = ((p, k, d), (q, l', c'), true, (o, a, b), (i : Int), ()) ∧ i ≤ l' ∧ m = l' - i ∧ a = i ∧ i ≤ 12 ∧ Own h3 h2.size 1 o a b (ints acc) ∧ ∀ n ∈ acc, 0 ≤ n ∧ n ≤ 1023) l'
      ⟨Fra.refl _ _, 0, none, 0, 0, [], rfl, by omega, by omega, rfl, by omega, Own.nil _ _ _, by simp⟩ ?_
    rintro m s h3 ⟨hf3, i, o, a, b, acc, rfl, hi, rfl, rfl, hi12, ho, hacc⟩
    unfold law07_ArenaLays_l6
    dsimp only
    have fin : ifB true (callBool P n_law07_lays #[.slice p k d] h3 fun b13 h12 => ifB b13 (callBool P n_law07_lays #[.slice o a b] h12 fun b15 h14 => (Value.bool b15 = .bool true ∧ Fra no h h14)) (Value.bool false = .bool true ∧ Fra no h h12)) (Value.bool false = .bool true ∧ Fra no h h3) := by
      refine ifB_true rfl ?_
      refine (lays_ok (hz.frame0 hf3) hzl (by omega) hzr).mono ?_
      rintro v h4 ⟨rfl, hf4⟩
      refine ⟨_, rfl, ifB_true rfl ?_⟩
      have e := ho.1
      rw [ints_length] at e
      refine (lays_ok (ho.row.frame0 hf4) (by omega) (by omega) (fun n hn => by have := hacc n hn; omega)).mono ?_
      rintro v h5 ⟨rfl, hf5⟩
      exact ⟨_, rfl, rfl, (((hf2.trans hf3).trans hf4).trans hf5)⟩
    refine ifB_dec (fun hlt => ?_) (fun hge => fin)
    refine ifB_dec (fun hlt12 => ?_) (fun hge => fin)
    have hlt : a < l' := by omega
    have hy3 := hy.frame0 (hf2.trans hf3)
    obtain ⟨ad, rfl⟩ := hy.some_of (by rw [ints_length]; omega)
    refine idxI_i rfl rfl hlt ?_
    simp only [Int.toNat_natCast, Nat.mul_one]
    refine ldInt_i (hy3.cell (ints_get (List.getElem?_eq_getElem (by omega)))) ?_
    refine newI_i (cs := [.int .i64 (andI .i64 ys[a] 1023)]) fun b4 h4 hb4 hs4 hat4 hf4 => ?_
    refine appI_own (xs := ints acc) (ys := ints [andI .i64 ys[a] 1023]) (ho.frame0 hf4) (by have := hf3.size; omega) rfl (by omega) (by omega) (Row.of_at hat4) rfl ints_one ?_
    intro p' l2 c2 h5 hl2 ho5 hf5 hs5
    rw [wrap64_in (by omega)]
    refine ⟨l' - (a + 1), by omega, (hf3.trans hf4).own hf5 (Nat.le_refl _), a + 1, p', l2, c2, acc ++ [andI .i64 ys[a] 1023], rfl, by omega, rfl, hl2, by omega, ?_, ?_⟩
    · rw [← ints_append]; exact ho5
    · intro n hn
      rcases List.mem_append.1 hn with hn | hn
      · exact hacc n hn
      · simp only [List.mem_singleton] at hn; subst hn; exact andI_1023 _
  · refine ifB_dec (fun hgt => ?_) (fun hle => ?_)
    · refine bndI_i (n := 12) rfl (by omega) ?_
      rw [map_add0]
      refine ⟨hf1, 12, c - 0, xs.take 12, by simp, ?_, by simp; omega, by omega, fun n hn => hr n (List.mem_of_mem_take hn)⟩
      have := (hx.frame0 hf1).take 12
      simpa [ints] using this
    · exact ⟨hf1, l, c, xs, rfl, hx.frame0 hf1, hxl, by omega, hr⟩

end Go.Proofs.Ytdjofpdmdbcgjaa.G
