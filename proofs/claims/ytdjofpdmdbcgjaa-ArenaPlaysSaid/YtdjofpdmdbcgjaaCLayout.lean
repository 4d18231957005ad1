/- Contracts: arena.Layout, earshotref07.up, earshotref07.Layout. -/
import Derived.Test.YtdjofpdmdbcgjaaCSame
namespace Go.Proofs.Ytdjofpdmdbcgjaa.G
open Go Go.Sh
set_option linter.unusedVariables false

/-- Where things of these sizes lie, from e on; none: they do not fit. -/
def lay : List Int → Int → Option (List Int × Int)
  | [], e => some ([], e)
  | n :: r, e => if n > 4096 - e then none else (lay r ((e + n + 3) / 4 * 4)).map fun x => (e :: x.1, x.2)

def layout (xs : List Int) : List Int × Int × Int :=
  if ∃ n ∈ xs, n < 0 then ([], 0, 1) else match lay xs 0 with
    | none => ([], 0, 17)
    | some x => (x.1, x.2, 0)

theorem lay_step {xs : List Int} {i : Nat} {e : Int} {acc : List Int} (hi : i < xs.length) (h : lay xs 0 = (lay (xs.drop i) e).map fun x => (acc ++ x.1, x.2)) :
    (xs[i] > 4096 - e → lay xs 0 = none) ∧ (¬ xs[i] > 4096 - e → lay xs 0 = (lay (xs.drop (i + 1)) ((e + xs[i] + 3) / 4 * 4)).map fun x => ((acc ++ [e]) ++ x.1, x.2)) := by
  rw [List.drop_eq_getElem_cons hi] at h
  simp only [lay] at h
  constructor
  · intro hg; rw [if_pos hg] at h; exact h
  · intro hg; rw [if_neg hg] at h; rw [h]; cases lay (List.drop (i + 1) xs) ((e + xs[i] + 3) / 4 * 4) <;> simp

theorem layout_neg {xs : List Int} {i : Nat} (hi : i < xs.length) (h : xs[i] < 0) : layout xs = ([], 0, 1) := by
  unfold layout; rw [if_pos ⟨_, List.getElem_mem hi, h⟩]
theorem layout_none {xs : List Int} (hn : ∀ n ∈ xs, 0 ≤ n) (h : lay xs 0 = none) : layout xs = ([], 0, 17) := by
  unfold layout; rw [if_neg (by rintro ⟨n, hm, hl⟩; have := hn n hm; omega), h]
theorem layout_some {xs : List Int} {x : List Int × Int} (hn : ∀ n ∈ xs, 0 ≤ n) (h : lay xs 0 = some x) : layout xs = (x.1, x.2, 0) := by
  unfold layout; rw [if_neg (by rintro ⟨n, hm, hl⟩; have := hn n hm; omega), h]

theorem all_of_take {xs : List Int} {p : Int → Prop} (h : ∀ j (hj : j < xs.length), p xs[j]) : ∀ n ∈ xs, p n := by
  intro n hn
  obtain ⟨j, hj, rfl⟩ := List.getElem_of_mem hn
  exact h j hj

theorem ints_append (a b : List Int) : ints a ++ ints b = ints (a ++ b) := by simp [ints]
theorem ints_one {xs : List Int} : ∀ y ∈ ints xs, one1 y = true := by
  intro y hy; simp only [ints, List.mem_map] at hy; obtain ⟨n, _, rfl⟩ := hy; rfl

/-- What Layout tells, in memory. -/
def LayoutPost (xs : List Int) (h : Heap) (v : Value) (h' : Heap) : Prop :=
  ∃ p l c, v = .tuple #[.slice p l c, .int .i64 (layout xs).2.1, .int .i64 (layout xs).2.2] ∧ Own h' h.size 1 p l c (ints (layout xs).1) ∧ Fra no h h'

theorem layout_ok {p : Option Addr} {l c : Nat} {h : Heap} {xs : List Int} (hx : Row h p (ints xs)) (hxl : xs.length = l) (hb : l ≤ 2 ^ 32) (hr : ∀ n ∈ xs, -2 ^ 63 ≤ n ∧ n < 2 ^ 63) :
    callP P n_arena_Layout #[.slice p l c] h (LayoutPost xs h) := by
  refine call_arena_Layout _ _ _ ?_
  unfold arena_Layout
  refine LoopS_i (fun m s h' => h' = h ∧ ∃ i : Nat, s = ((p, l, c), (p, l, c), (l : Int), (i : Int), ()) ∧ i ≤ l ∧ m = l - i ∧ ∀ j (hj : j < i) (hj' : j < xs.length), 0 ≤ xs[j]) l ⟨rfl, 0, rfl, by omega, by omega, by intro j hj; omega⟩ ?_
  rintro m s h' ⟨rfl, i, rfl, hi, rfl, hn⟩
  unfold arena_Layout_l2
  dsimp only
  refine ifB_dec (fun hlt => ?_) (fun hge => ?_)
  · have hlt : i < l := by omega
    have hlt' : i < xs.length := by omega
    obtain ⟨a, rfl⟩ := hx.some_of (by rw [ints_length]; omega)
    refine idxI_i rfl rfl hlt ?_
    simp only [Int.toNat_natCast, Nat.mul_one]
    refine ldInt_i (hx.cell (ints_get (List.getElem?_eq_getElem hlt'))) ?_
    refine ifB_dec (fun hneg => ?_) (fun hpos => ?_)
    · refine ⟨none, 0, 0, ?_, ?_, Fra.refl _ _⟩
      · rw [layout_neg hlt' hneg]
      · rw [layout_neg hlt' hneg]; exact Own.nil _ _ _
    · rw [wrap64_in (by omega)]
      refine ⟨l - (i + 1), by omega, by trivial, i + 1, rfl, by omega, rfl, fun j hj hj' => ?_⟩
      by_cases e : j = i
      · subst e; omega
      · exact hn j (by omega) hj'
  · have hnn : ∀ n ∈ xs, 0 ≤ n := all_of_take fun j hj => hn j (by omega) hj
    clear hn hge
    refine LoopS_i (fun m s h2 => Fra no h' h2 ∧ ∃ (i : Nat) (q : Option Addr) (k d : Nat) (e : Int) (acc : List Int), s = ((q, k, d), e, (p, l, c), (l : Int), (i : Int), ()) ∧ i ≤ l ∧ m = l - i ∧ k = i ∧ Own h2 h'.size 1 q k d (ints acc) ∧
      0 ≤ e ∧ e ≤ 4096 ∧ lay xs 0 = (lay (xs.drop i) e).map fun x => (acc ++ x.1, x.2)) l ⟨Fra.refl _ _, 0, none, 0, 0, 0, [], rfl, by omega, by omega, rfl, Own.nil _ _ _, by omega, by omega, by simp⟩ ?_
    rintro m s h2 ⟨hf, i, q, k, d, e, acc, rfl, hi, rfl, rfl, ho, he0, he1, hlay⟩
    unfold arena_Layout_l10
    dsimp only
    refine ifB_dec (fun hlt => ?_) (fun hge => ?_)
    · have hlt : k < l := by omega
      have hlt' : k < xs.length := by omega
      have hx2 := hx.frame0 hf
      obtain ⟨a, rfl⟩ := hx.some_of (by rw [ints_length]; omega)
      refine idxI_i rfl rfl hlt ?_
      simp only [Int.toNat_natCast, Nat.mul_one]
      refine ldInt_i (hx2.cell (ints_get (List.getElem?_eq_getElem hlt'))) ?_
      obtain ⟨s1, s2⟩ := lay_step hlt' hlay
      have h0 := hnn _ (List.getElem_mem hlt')
      rw [wrap64_in (n := 4096 - e) (by omega)]
      refine ifB_dec (fun hbig => ?_) (fun hsm => ?_)
      · refine ⟨none, 0, 0, ?_, ?_, hf⟩
        · rw [layout_none hnn (s1 hbig)]
        · rw [layout_none hnn (s1 hbig)]; exact Own.nil _ _ _
      · refine newI_i (cs := [.int .i64 e]) fun b h3 hb hs3 hat hf3 => ?_
        have ho3 := ho.frame0 hf3
        refine appI_own (xs := ints acc) (ys := [.int .i64 e]) ho3 (by have := hf.size; omega) rfl (by omega) (by omega) (Row.of_at hat) rfl (by simp [one1]) ?_
        intro p' l' c' h4 hl' ho4 hf4 hsz
        have hf04 : Fra no h' h4 := (hf.trans hf3).own hf4 (Nat.le_refl _)
        rw [wrap64_in (n := e + _) (by omega), wrap64_in (n := _ + 4) (by omega), wrap64_in (n := _ - 1) (by omega), Int.tdiv_eq_ediv_of_nonneg (by omega), wrap64_in (n := _ / 4) (by omega), wrap64_in (n := _ * 4) (by omega), wrap64_in (n := (k : Int) + 1) (by omega)]
        refine ⟨l - (k + 1), by omega, hf04, k + 1, p', l', c', (e + xs[k] + 3) / 4 * 4, acc ++ [e], ?_, by omega, rfl, hl', ?_, by omega, by omega, s2 hsm⟩
        · rw [show e + xs[k] + 4 - 1 = e + xs[k] + 3 by omega]; rfl
        · rw [← ints_append]; exact ho4
    · have : k = l := by omega
      rw [List.drop_of_length_le (by omega)] at hlay
      simp only [lay, Option.map_some, List.append_nil] at hlay
      refine ⟨q, k, d, ?_, ?_, hf⟩
      · rw [layout_some hnn hlay]
      · rw [layout_some hnn hlay]; exact ho

theorem up_ok {h : Heap} {n : Int} (h0 : 0 ≤ n) (h1 : n ≤ 2 ^ 32) : callP P n_ref07_up #[.int .i64 n] h fun v h' => v = .int .i64 ((n + 3) / 4 * 4) ∧ h' = h := by
  refine call_ref07_up _ ?_
  unfold ref07_up
  rw [wrap64_in (n := n + 3) (by omega), Int.tdiv_eq_ediv_of_nonneg (by omega), wrap64_in (n := _ / 4) (by omega), wrap64_in (n := _ * 4) (by omega)]
  exact ⟨rfl, rfl⟩

/-- What the document's Layout tells, in memory. -/
def RLayoutPost (xs : List Int) (h : Heap) (v : Value) (h' : Heap) : Prop :=
  ∃ p l c, v = .agg #[.slice p l c, .int .i64 (layout xs).2.1, .int .i64 (layout xs).2.2] ∧ Own h' h.size 1 p l c (ints (layout xs).1) ∧ Fra no h h'

theorem rlayout_ok {p : Option Addr} {l c : Nat} {h : Heap} {xs : List Int} (hx : Row h p (ints xs)) (hxl : xs.length = l) (hb : l ≤ 2 ^ 32) (hr : ∀ n ∈ xs, -2 ^ 63 ≤ n ∧ n < 2 ^ 63) :
    callP P n_ref07_Layout #[.slice p l c] h (RLayoutPost xs h) := by
  refine call_ref07_Layout _ _ _ ?_
  unfold ref07_Layout
  refine newI_i (cs := [.slice none 0 0, .int .i64 0, .int .i64 0]) fun b1 h1 hb1 hs1 hat1 hf1 => ?_
  refine newI_i (cs := [.slice none 0 0, .int .i64 0, .int .i64 0]) fun b2 h2 hb2 hs2 hat2 hf2 => ?_
  refine stI_i hat2 (by simp) fun h3 hs3 hat3 hf3 => stI_i hat3 (by simp) fun h4 hs4 hat4 hf4 => stI_i hat4 (by simp) fun h5 hs5 hat5 hf5 => ?_
  have hat1 : At h5 b1 [.slice none 0 0, .int .i64 0, .int .i64 0] := hf5.at (hf4.at (hf3.at (hf2.at0 hat1) (by omega)) (by omega)) (by omega)
  have hf : Fra no h h5 := (((hf1.trans hf2).one hf3 (by omega)).one hf4 (by omega)).one hf5 (by omega)
  have hsz : h5.size = h.size + 2 := by omega
  simp only [List.set_cons_zero, List.set_cons_succ] at hat5
  clear hat2 hat3 hat4 hf1 hf2 hf3 hf4 hf5
  refine LoopS_i (fun m s h' => h' = h5 ∧ ∃ i : Nat, s = ((p, l, c), ⟨b1, 0, none⟩, ⟨b2, 0, none⟩, (i : Int), ()) ∧ i ≤ l ∧ m = l - i ∧ ∀ j (hj : j < i) (hj' : j < xs.length), 0 ≤ xs[j]) l ⟨rfl, 0, rfl, by omega, by omega, by intro j hj; omega⟩ ?_
  rintro m s h' ⟨rfl, i, rfl, hi, rfl, hn⟩
  unfold ref07_Layout_l3
  dsimp only
  have hx5 := hx.frame0 hf
  refine ifB_dec (fun hlt => ?_) (fun hge => ?_)
  · have hlt : i < l := by omega
    have hlt' : i < xs.length := by omega
    obtain ⟨a, rfl⟩ := hx.some_of (by rw [ints_length]; omega)
    refine idxI_i rfl rfl hlt ?_
    simp only [Int.toNat_natCast, Nat.mul_one]
    refine ldInt_i (hx5.cell (ints_get (List.getElem?_eq_getElem hlt'))) ?_
    refine ifB_dec (fun hneg => ?_) (fun hpos => ?_)
    · refine stI_i hat1 (by simp) fun h6 hs6 hat6 hf6 => ?_
      rw [add_mk]
      refine stI_i hat6 (by simp) fun h7 hs7 hat7 hf7 => ?_
      rw [add_mk]
      refine stI_i hat7 (by simp) fun h8 hs8 hat8 hf8 => ?_
      refine ldSlice_i (hat8.cell rfl) (ldInt_i (hat8.cell rfl) (ldInt_i (hat8.cell rfl) ⟨none, 0, 0, ?_, ?_, ((hf.one hf6 (by omega)).one hf7 (by omega)).one hf8 (by omega)⟩))
      · rw [layout_neg hlt' hneg]
      · rw [layout_neg hlt' hneg]; exact Own.nil _ _ _
    · rw [wrap64_in (by omega)]
      refine ⟨l - (i + 1), by omega, by trivial, i + 1, rfl, by omega, rfl, fun j hj hj' => ?_⟩
      by_cases e : j = i
      · subst e; omega
      · exact hn j (by omega) hj'
  · have hnn : ∀ n ∈ xs, 0 ≤ n := all_of_take fun j hj => hn j (by omega) hj
    refine LoopS_i (fun m s h2 => Fra no h h2 ∧ ∃ (i : Nat) (q : Option Addr) (k d : Nat) (e : Int) (acc : List Int), s = ((p, l, c), ⟨b1, 0, none⟩, ⟨b2, 0, none⟩, (i : Int), ()) ∧ i ≤ l ∧ m = l - i ∧ k = i ∧
      At h2 b1 [.slice none 0 0, .int .i64 0, .int .i64 0] ∧ At h2 b2 [.slice q k d, .int .i64 e, .int .i64 0] ∧ Own h2 (h.size + 2) 1 q k d (ints acc) ∧
      0 ≤ e ∧ e ≤ 4096 ∧ e % 4 = 0 ∧ lay xs 0 = (lay (xs.drop i) e).map fun x => (acc ++ x.1, x.2)) l ⟨hf, 0, none, 0, 0, 0, [], rfl, by omega, by omega, rfl, hat1, hat5, Own.nil _ _ _, by omega, by omega, by omega, by simp⟩ ?_
    rintro m s h2 ⟨hf2, i, q, k, d, e, acc, rfl, hi, rfl, rfl, ha1, ha2, ho, he0, he1, he4, hlay⟩
    unfold ref07_Layout_l8
    dsimp only
    have hfs := hf2.size
    have hb1l := ha1.lt
    have hb2l := ha2.lt
    refine ifB_dec (fun hlt => ?_) (fun hge => ?_)
    · have hlt : k < l := by omega
      have hlt' : k < xs.length := by omega
      have hx2 := hx.frame0 hf2
      obtain ⟨a, rfl⟩ := hx.some_of (by rw [ints_length]; omega)
      obtain ⟨s1, s2⟩ := lay_step hlt' hlay
      have h0 := hnn _ (List.getElem_mem hlt')
      refine idxI_i rfl rfl hlt ?_
      simp only [Int.toNat_natCast, Nat.mul_one, add_mk, Nat.zero_add]
      refine ldInt_i (hx2.cell (ints_get (List.getElem?_eq_getElem hlt'))) ?_
      have room : ∀ (h3 : Heap), Fra no h h3 → At h3 b1 [.slice none 0 0, .int .i64 0, .int .i64 0] → lay xs 0 = none →
          stI h3 ⟨b1, 0, none⟩ (.slice none 0 0) fun h20 => stI h20 ⟨b1, 1, none⟩ (.int .i64 0) fun h21 => stI h21 ⟨b1, 2, none⟩ (.int .i64 17) fun h22 =>
            ldSlice h22 ⟨b1, 0, none⟩ fun p23 l23 c23 => ldInt .i64 h22 ⟨b1, 1, none⟩ fun n24 => ldInt .i64 h22 ⟨b1, 2, none⟩ fun n25 =>
              RLayoutPost xs h (.agg #[.slice p23 l23 c23, .int .i64 n24, .int .i64 n25]) h22 := by
        intro h3 hf3 ha hn
        refine stI_i ha (by simp) fun h6 hs6 hat6 hf6 => stI_i hat6 (by simp) fun h7 hs7 hat7 hf7 => stI_i hat7 (by simp) fun h8 hs8 hat8 hf8 => ?_
        refine ldSlice_i (hat8.cell rfl) (ldInt_i (hat8.cell rfl) (ldInt_i (hat8.cell rfl) ⟨none, 0, 0, ?_, ?_, ((hf3.one hf6 (by omega)).one hf7 (by omega)).one hf8 (by omega)⟩))
        · rw [layout_none hnn hn]
        · rw [layout_none hnn hn]; exact Own.nil _ _ _
      refine ifB_dec (fun hbig => ?_) (fun hsm => ?_)
      · exact room h2 hf2 ha1 (s1 (by omega))
      · refine ldSlice_i (ha2.cell rfl) (ldInt_i (ha2.cell rfl) ?_)
        refine newI_i (cs := [.int .i64 e]) fun b3 h3 hb3 hs3 hat3 hf3 => ?_
        refine appI_own (xs := ints acc) (ys := [.int .i64 e]) (ho.frame0 hf3) (by omega) rfl (by omega) (by omega) (Row.of_at hat3) rfl (by simp [one1]) ?_
        intro p' l' c' h4 hl' ho4 hf4 hsz4
        have ha14 : At h4 b1 _ := hf4.at (hf3.at0 ha1) (by omega)
        have ha24 : At h4 b2 _ := hf4.at (hf3.at0 ha2) (by omega)
        refine stI_i ha24 (by simp) fun h5' hs5' hat5' hf5' => ?_
        have ha15 := hf5'.at ha14 (by omega)
        have ho5 := ho4.frame hf5' (fun b hb _ => by omega)
        have hf05 : Fra no h h5' := ((hf2.trans hf3).own hf4 (by omega)).one hf5' (by omega)
        refine idxI_i rfl rfl hlt ?_
        refine ldInt_i (hat5'.cell rfl) (ldInt_i ((hx.frame0 hf05).cell (ints_get (List.getElem?_eq_getElem hlt'))) ?_)
        rw [wrap64_in (n := e + _) (by omega)]
        refine (up_ok (by omega) (by omega)).mono ?_
        rintro v h6 ⟨rfl, rfl⟩
        refine ⟨_, rfl, hat5'.cell rfl, ?_⟩
        refine stI_i hat5' (by simp) fun h7 hs7 hat7 hf7 => ?_
        refine ldInt_i (hat7.cell rfl) ?_
        refine ifB_dec (fun hbig => ?_) (fun hfit => ?_)
        · exact room h7 (hf05.one hf7 (by omega)) (hf7.at ha15 (by omega)) (s1 (by omega))
        · rw [wrap64_in (by omega)]
          refine ⟨l - (k + 1), by omega, hf05.one hf7 (by omega), k + 1, p', l', c', (e + xs[k] + 3) / 4 * 4, acc ++ [e], rfl, by omega, rfl, hl', hf7.at ha15 (by omega), hat7, ?_, by omega, by omega, by omega, s2 (by omega)⟩
          rw [← ints_append]
          exact ho5.frame hf7 (fun b hb _ => by omega)
    · have : k = l := by omega
      rw [List.drop_of_length_le (by omega)] at hlay
      simp only [lay, Option.map_some, List.append_nil] at hlay
      simp only [add_mk, Nat.zero_add]
      refine ldSlice_i (ha2.cell rfl) (ldInt_i (ha2.cell rfl) (ldInt_i (ha2.cell rfl) ?_))
      refine stI_i ha1 (by simp) fun h6 hs6 hat6 hf6 => stI_i hat6 (by simp) fun h7 hs7 hat7 hf7 => stI_i hat7 (by simp) fun h8 hs8 hat8 hf8 => ?_
      refine ldSlice_i (hat8.cell rfl) (ldInt_i (hat8.cell rfl) (ldInt_i (hat8.cell rfl) ⟨q, k, d, ?_, ?_, ((hf2.one hf6 (by omega)).one hf7 (by omega)).one hf8 (by omega)⟩))
      · rw [layout_some hnn hlay]
      · rw [layout_some hnn hlay]
        exact (((ho.frame hf6 (fun b hb _ => by omega)).frame hf7 (fun b hb _ => by omega)).frame hf8 (fun b hb _ => by omega)).mono (by omega)

end Go.Proofs.Ytdjofpdmdbcgjaa.G
