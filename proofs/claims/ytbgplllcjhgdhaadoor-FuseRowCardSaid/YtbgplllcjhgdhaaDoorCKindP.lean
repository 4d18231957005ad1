/- Contracts: the program's kinds of nodes (kind): what one has. -/
import Derived.Test.YtbgplllcjhgdhaaDoorCKind14d
namespace Go.Proofs.YtbgplllcjhgdhaaDoor.G
open Go Go.Sh
set_option linter.unusedVariables false
set_option linter.unusedSimpArgs false

/-! plain -/
abbrev kindTab : List Int := [0, 7, 5, 1, 1, 0, 6, 8, 8, 32, 64, 0, 16]
/-- The program's table of kinds, as it lies in memory. -/
abbrev KT (h : Heap) : Prop := At h 0 (ints kindTab)
def maskB (k : Nat) (b1 b2 : Bool) : Int :=
  let a := kindTab.getD k 0
  let a := if b1 then orI .i64 a 64 else a
  if b2 then orI .i64 a 32 else a
def hasP (k post what : Int) : Prop := 1 ≤ k ∧ k ≤ 12 ∧ andI .i64 (maskB k.toNat (andI .i64 post 1 != 0) (andI .i64 post 2 != 0)) what ≠ 0
instance (k post what : Int) : Decidable (hasP k post what) := by unfold hasP; infer_instance

theorem has_of {k post what : Int} {p : Nat → Bool → Bool → Prop} (hp : ∀ k, k < 13 → ∀ b1 b2 : Bool, (andI .i64 (maskB k b1 b2) what ≠ 0 ↔ p k b1 b2)) : hasP k post what ↔ 1 ≤ k ∧ k ≤ 12 ∧ p k.toNat (andI .i64 post 1 != 0) (andI .i64 post 2 != 0) := by
  unfold hasP
  constructor
  · rintro ⟨h1, h2, h3⟩; exact ⟨h1, h2, (hp _ (by omega) _ _).1 h3⟩
  · rintro ⟨h1, h2, h3⟩; exact ⟨h1, h2, (hp _ (by omega) _ _).2 h3⟩
theorem has1 {k post : Int} : hasP k post 1 ↔ four k := by
  rw [has_of (p := fun k _ _ => k = 1 ∨ k = 2 ∨ k = 3 ∨ k = 4) (by decide +kernel)]; unfold four; omega
theorem has2 {k post : Int} : hasP k post 2 ↔ wide k := by
  rw [has_of (p := fun k _ _ => k = 1 ∨ k = 6) (by decide +kernel)]; unfold wide; omega
theorem has4 {k post : Int} : hasP k post 4 ↔ wei k := by
  rw [has_of (p := fun k _ _ => k = 1 ∨ k = 2 ∨ k = 6) (by decide +kernel)]; unfold wei; omega
theorem has8 {k post : Int} : hasP k post 8 ↔ many k := by
  rw [has_of (p := fun k _ _ => k = 7 ∨ k = 8) (by decide +kernel)]; unfold many; omega
theorem has16 {k post : Int} : hasP k post 16 ↔ k = 12 := by
  rw [has_of (p := fun k _ _ => k = 12) (by decide +kernel)]; omega
theorem has17 {k post : Int} : hasP k post 17 ↔ wins k := by
  rw [has_of (p := fun k _ _ => k = 1 ∨ k = 2 ∨ k = 3 ∨ k = 4 ∨ k = 12) (by decide +kernel)]; unfold wins four; omega
theorem bit1 (x : Int) : andI .i64 x 1 = x % 2 := andI_low x 1 1 rfl (by decide)
theorem bit2 (x : Int) : andI .i64 x 2 = 0 ∨ andI .i64 x 2 = 2 := by
  have h3 := andI_low x 3 2 rfl (by decide)
  have key : ∀ b : Bool, ∀ c : Bool, True := fun _ _ => trivial
  unfold andI
  have e : BitVec.ofInt 64 x &&& BitVec.ofInt 64 2 = if (BitVec.ofInt 64 x).getLsbD 1 then 2#64 else 0#64 := by
    apply BitVec.eq_of_getLsbD_eq
    intro i hi
    rw [BitVec.getLsbD_and]
    by_cases h1 : i = 1
    · subst h1
      cases hb : (BitVec.ofInt 64 x).getLsbD 1 <;> simp [hb]
    · have h2 : (BitVec.ofInt 64 2).getLsbD i = false := by
        have : (BitVec.ofInt 64 2) = 2#64 := by decide
        rw [this]
        rw [BitVec.getLsbD_ofNat]
        have : Nat.testBit 2 i = false := by
          rw [show (2 : Nat) = 2 ^ 1 from rfl, Nat.testBit_two_pow]; simp; omega
        simp [this]
      rw [h2, Bool.and_false]
      split
      · rw [BitVec.getLsbD_ofNat]
        have : Nat.testBit 2 i = false := by
          rw [show (2 : Nat) = 2 ^ 1 from rfl, Nat.testBit_two_pow]; simp; omega
        simp [this]
      · simp
  show IntKind.wrap .i64 ((BitVec.ofInt 64 x &&& BitVec.ofInt 64 2).toNat : Int) = 0 ∨ IntKind.wrap .i64 ((BitVec.ofInt 64 x &&& BitVec.ofInt 64 2).toNat : Int) = 2
  rw [e]
  cases (BitVec.ofInt 64 x).getLsbD 1
  · left; decide
  · right; decide
theorem has32 {k post : Int} (h : 1 ≤ k ∧ k ≤ 12) : hasP k post 32 ↔ clm k post := by
  rw [has_of (p := fun k _ b2 => k = 9 ∨ b2 = true) (by decide +kernel)]
  have := bit2 post
  unfold clm
  rw [bne_iff_ne]
  omega
theorem has64 {k post : Int} (h : 1 ≤ k ∧ k ≤ 12) : hasP k post 64 ↔ scl k post := by
  rw [has_of (p := fun k b1 _ => k = 10 ∨ b1 = true) (by decide +kernel)]
  have := bit1 post
  unfold scl
  rw [bne_iff_ne]
  omega

section
variable {h : Heap}

theorem has_ok (nv : Nv) (what : Int) (hT : KT h) : callP P n_kind_has #[nv.v, .int .i64 what] h fun v h' => v = .bool (decide (hasP nv.kind nv.post what)) ∧ Fra no h h' := by
  refine call_kind_has _ _ ?_
  unfold kind_has
  have S := (Sep.start h no).read (blk 0 (ints kindTab)) hT
  refine newI_S (cs := nv.cells) S fun b1 h1 _ S => ?_
  dsimp only [List.cons_append, List.nil_append] at S
  have no1 : ¬ (1 ≤ nv.kind ∧ nv.kind ≤ 12) → Value.bool false = .bool (decide (hasP nv.kind nv.post what)) := fun hn => by rw [decide_eq_false]; rintro ⟨h1, h2, _⟩; exact hn ⟨h1, h2⟩
  refine ldInt_i (n := nv.kind) (S.cell 0 rfl rfl) (ifB_dec (fun h1 => ⟨no1 (by omega), S.fra⟩) fun h1 => ?_)
  refine ldInt_i (n := nv.kind) (S.cell 0 rfl rfl) (ifB_dec (fun h2 => ⟨no1 (by omega), S.fra⟩) fun h2 => ?_)
  refine ldInt_i (n := nv.kind) (S.cell 0 rfl rfl) (arrI_i (by omega) (by omega) ?_)
  obtain ⟨k, ek⟩ : ∃ k : Nat, nv.kind = k := ⟨nv.kind.toNat, by omega⟩
  have hk : k < kindTab.length := by show k < 13; omega
  rw [ek]
  simp only [add_mk, Int.toNat_natCast, Nat.mul_one, Nat.zero_add]
  refine ldInt_i (n := kindTab.getD k 0) (S.cellR 0 rfl (by rw [List.getD_eq_getElem?_getD, List.getElem?_eq_getElem hk]; exact ints_get (List.getElem?_eq_getElem hk))) ?_
  refine ldInt_i (n := nv.post) (S.cell 0 rfl rfl) ?_
  have fin : ∀ x : Int, x = maskB k (andI .i64 nv.post 1 != 0) (andI .i64 nv.post 2 != 0) → Value.bool (andI .i64 x what != 0) = .bool (decide (hasP (k : Int) nv.post what)) := by
    rintro x rfl
    congr 1
    rw [Bool.eq_iff_iff, bne_iff_ne, decide_eq_true_iff]
    unfold hasP
    rw [Int.toNat_natCast]
    exact ⟨fun h => ⟨by omega, by omega, h⟩, fun h => h.2.2⟩
  refine ifB_bne (fun e1 => ?_) (fun e1 => ?_)
  · refine ldInt_i (n := nv.post) (S.cell 0 rfl rfl) (ifB_bne (fun e2 => ?_) (fun e2 => ?_))
    · exact ⟨fin _ (by unfold maskB; rw [bne_iff_ne.2 e1, bne_iff_ne.2 e2]; rfl), S.fra⟩
    · exact ⟨fin _ (by unfold maskB; rw [bne_iff_ne.2 e1, e2]; rfl), S.fra⟩
  · refine ldInt_i (n := nv.post) (S.cell 0 rfl rfl) (ifB_bne (fun e2 => ?_) (fun e2 => ?_))
    · exact ⟨fin _ (by unfold maskB; rw [e1, bne_iff_ne.2 e2]; rfl), S.fra⟩
    · exact ⟨fin _ (by unfold maskB; rw [e1, e2]; rfl), S.fra⟩

theorem in_ok (x lo hi : Int) : callP P n_kind_in #[.int .i64 x, .int .i64 lo, .int .i64 hi] h fun v h' => v = .bool (decide (inR x lo hi)) ∧ h' = h := by
  refine call_kind_in _ _ _ ?_
  unfold kind_in
  refine ifB_dec (fun h1 => ⟨?_, rfl⟩) (fun h1 => ⟨?_, rfl⟩)
  · congr 1; rw [decide_eq_decide]; omega
  · rw [decide_eq_false (by omega)]

theorem every_ok {p : Option Addr} {l c : Nat} {xs : List Int} (hx : Row h p (ints xs)) (hl : xs.length = l) (hl2 : l < 2 ^ 62) (lo hi : Int) :
    callP P n_kind_every #[.slice p l c, .int .i64 lo, .int .i64 hi] h fun v h' => v = .bool (decide (fitR lo hi xs)) ∧ h' = h := by
  refine call_kind_every _ _ _ _ _ ?_
  unfold kind_every
  refine LoopS_i (fun m s g => g = h ∧ ∃ i : Nat, s = (lo, hi, (p, l, c), (l : Int), (i : Int), ()) ∧ i ≤ l ∧ m = l - i ∧ fitR lo hi (xs.take i)) l ⟨rfl, 0, rfl, by omega, rfl, by rw [List.take_zero]; exact fitR_nil _ _⟩ ?_
  rintro m s g ⟨rfl, i, rfl, hi', rfl, hf⟩
  unfold kind_every_l2
  dsimp only
  refine ifB_dec (fun hlt => ?_) (fun hge => ?_)
  · have hix : i < xs.length := by omega
    obtain ⟨aa, rfl⟩ := hx.some_of (by rw [ints_length]; omega)
    have hc := hx.cell (ints_get (List.getElem?_eq_getElem hix))
    refine idxI_i rfl rfl (by omega) ?_
    simp only [Int.toNat_natCast, Nat.mul_one]
    refine ldInt_i hc ?_
    refine (in_ok xs[i] lo hi).mono ?_
    rintro _ _ ⟨rfl, rfl⟩
    refine ⟨_, rfl, ?_⟩
    refine ifB_not (ifB_dec (fun h1 => ?_) (fun h1 => ?_))
    · rw [wrap64_in (by omega)]
      exact ⟨l - (i + 1), by omega, by trivial, i + 1, rfl, by omega, rfl, (fitR_take_succ hix).2 ⟨hf, h1⟩⟩
    · exact ⟨by rw [decide_eq_false (fun h => h1 (h _ (List.getElem_mem hix)))], by trivial⟩
  · rw [List.take_of_length_le (by omega)] at hf
    exact ⟨by rw [decide_eq_true hf], by trivial⟩

theorem Span_ok (nv : Nv) (hT : KT h) (hs : -2 ^ 20 ≤ nv.size ∧ nv.size ≤ 2 ^ 20) (hg : -2 ^ 20 ≤ nv.gap ∧ nv.gap ≤ 2 ^ 20) : callP P n_kind_Span #[nv.v] h fun v h' => v = .int .i64 nv.nd.span ∧ Fra no h h' := by
  refine call_kind_Span _ ?_
  unfold kind_Span
  have S := (Sep.start h no).read (blk 0 (ints kindTab)) hT
  refine newI_S (cs := nv.cells) S fun b1 h1 _ S => ?_
  dsimp only [List.cons_append, List.nil_append] at S
  refine ldAg_S S 0 rfl (x := nv.t) rfl ?_
  have e : nv.nd.span = if nv.kind = 12 then nv.size else if four nv.kind then (nv.size - 1) * nv.gap + 1 else 1 := rfl
  rw [e]
  refine (has_ok nv 1 (S.r 0 _ rfl)).mono ?_
  rintro _ _ ⟨rfl, F⟩
  refine ⟨_, rfl, ?_⟩
  replace S := S.fra0 F
  refine ifB_dec (fun h2 => ?_) (fun h2 => ?_)
  · rw [has1] at h2
    refine ldInt_i (n := nv.size) (S.cell 0 rfl rfl) (ldInt_i (n := nv.gap) (S.cell 0 rfl rfl) ?_)
    rw [if_neg (by unfold four at h2; omega), if_pos h2]
    have h3 : -2 ^ 42 ≤ (nv.size - 1) * nv.gap ∧ (nv.size - 1) * nv.gap ≤ 2 ^ 42 := by
      have a1 : (nv.size - 1).natAbs ≤ 2 ^ 21 := by omega
      have a2 : nv.gap.natAbs ≤ 2 ^ 20 := by omega
      have a3 : ((nv.size - 1) * nv.gap).natAbs ≤ 2 ^ 21 * 2 ^ 20 := by rw [Int.natAbs_mul]; exact Nat.mul_le_mul a1 a2
      omega
    rw [wrap64_in (n := nv.size - 1) (by omega), wrap64_in (n := (nv.size - 1) * nv.gap) (by omega), wrap64_in (by omega)]
    exact ⟨rfl, S.fra⟩
  · rw [has1] at h2
    refine ldAg_S S 0 rfl (x := nv.t) rfl ?_
    refine (has_ok nv 16 (S.r 0 _ rfl)).mono ?_
    rintro _ _ ⟨rfl, F⟩
    refine ⟨_, rfl, ?_⟩
    replace S := S.fra0 F
    refine ifB_dec (fun h3 => ?_) (fun h3 => ?_)
    · rw [has16] at h3
      refine ldInt_i (n := nv.size) (S.cell 0 rfl rfl) ?_
      rw [if_pos h3]; exact ⟨rfl, S.fra⟩
    · rw [has16] at h3
      rw [if_neg h3, if_neg h2]; exact ⟨rfl, S.fra⟩

theorem Step_ok (nv : Nv) (hT : KT h) : callP P n_kind_Step #[nv.v] h fun v h' => v = .int .i64 (stepN nv.kind nv.step) ∧ Fra no h h' := by
  refine call_kind_Step _ ?_
  unfold kind_Step
  have S := (Sep.start h no).read (blk 0 (ints kindTab)) hT
  refine newI_S (cs := nv.cells) S fun b1 h1 _ S => ?_
  dsimp only [List.cons_append, List.nil_append] at S
  refine ldAg_S S 0 rfl (x := nv.t) rfl ?_
  refine (has_ok nv 1 (S.r 0 _ rfl)).mono ?_
  rintro _ _ ⟨rfl, F⟩
  refine ⟨_, rfl, ?_⟩
  replace S := S.fra0 F
  unfold stepN
  refine ifB_dec (fun h2 => ?_) (fun h2 => ?_)
  · rw [has1] at h2
    refine ldInt_i (n := nv.step) (S.cell 0 rfl rfl) ?_
    rw [if_pos h2]; exact ⟨rfl, S.fra⟩
  · rw [has1] at h2
    rw [if_neg h2]; exact ⟨rfl, S.fra⟩
end

end Go.Proofs.YtbgplllcjhgdhaaDoor.G
