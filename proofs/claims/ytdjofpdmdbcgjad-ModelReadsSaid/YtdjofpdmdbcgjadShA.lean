/- Sh, part 12: bits of whole numbers. -/
import Derived.Test.YtdjofpdmdbcgjadShS
namespace Go.Sh

/-- The lowest bits of a number. -/
theorem andI_low (x : Int) (m k : Nat) (hm : m + 1 = 2 ^ k) (hk : k < 63) : andI .i64 x (m : Int) = x % ((m : Int) + 1) := by
  have hb : IntKind.i64.bits = 64 := rfl
  have e1 : (BitVec.ofInt 64 (m : Int)).toNat = m := by
    rw [BitVec.toNat_ofInt]
    have : m < 2 ^ 64 := by
      have : (2:Nat) ^ k ≤ 2 ^ 62 := Nat.pow_le_pow_right (by omega) (by omega)
      omega
    simp; omega
  have hpos : (0 : Int) < (m : Int) + 1 := by omega
  have e2 : ((BitVec.ofInt 64 x &&& BitVec.ofInt 64 (m : Int)).toNat : Int) = x % ((m : Int) + 1) := by
    rw [BitVec.toNat_and, e1, BitVec.toNat_ofInt]
    have : m = 2 ^ k - 1 := by omega
    rw [this, Nat.and_two_pow_sub_one_eq_mod]
    have hd : ((2 ^ k : Nat) : Int) ∣ ((2 ^ 64 : Nat) : Int) := by
      refine ⟨((2 ^ (64 - k) : Nat) : Int), ?_⟩
      rw [← Int.natCast_mul, ← Nat.pow_add]
      congr 2; omega
    have hp : (0 : Int) ≤ x % ((2 ^ 64 : Nat) : Int) := Int.emod_nonneg _ (by decide)
    rw [Int.natCast_emod, Int.toNat_of_nonneg hp, Int.emod_emod_of_dvd _ hd]
    congr 1
    have : (1 : Nat) ≤ 2 ^ k := Nat.one_le_two_pow
    omega
  unfold andI
  rw [hb, e2]
  have h0 := Int.emod_nonneg x (b := (m : Int) + 1) (by omega)
  have h1 := Int.emod_lt_of_pos x hpos
  have : (2:Nat) ^ k ≤ 2 ^ 62 := Nat.pow_le_pow_right (by omega) (by omega)
  exact wrap64_in ⟨by omega, by omega⟩

theorem tmod_bound (x : Int) {m : Int} (hm : 0 < m) : -m < Int.tmod x m ∧ Int.tmod x m < m := by
  constructor
  · have := Int.lt_tmod_of_pos x hm; omega
  · exact Int.tmod_lt_of_pos x hm

end Go.Sh
