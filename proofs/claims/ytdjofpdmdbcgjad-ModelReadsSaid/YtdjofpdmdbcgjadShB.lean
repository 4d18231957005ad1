/- Sh, part 13: bytes, and strings of them. -/
import Derived.Test.YtdjofpdmdbcgjadShA
namespace Go.Sh

def u8s (bs : List UInt8) : List Value := bs.map fun b => Value.int .u8 (b.toNat : Int)
def str (bs : List UInt8) : ByteArray := ⟨bs.toArray⟩

theorem u8s_length (bs : List UInt8) : (u8s bs).length = bs.length := by simp [u8s]
theorem u8s_append (a b : List UInt8) : u8s (a ++ b) = u8s a ++ u8s b := by simp [u8s]
theorem u8s_one (bs : List UInt8) : ∀ y ∈ u8s bs, one1 y = true := by
  intro y hy
  simp only [u8s, List.mem_map] at hy
  obtain ⟨b, _, rfl⟩ := hy; rfl
theorem u8s_get {bs : List UInt8} {i : Nat} {b : UInt8} (h : bs[i]? = some b) : (u8s bs)[i]? = some (.int .u8 (b.toNat : Int)) := by simp [u8s, h]
theorem str_append (a b : List UInt8) : str a ++ str b = str (a ++ b) := by
  apply ByteArray.ext
  simp [str, ByteArray.data_append]
theorem str_size (a : List UInt8) : (str a).size = a.length := by simp [str, ByteArray.size]
theorem str_get (a : List UInt8) (i : Nat) : (str a)[i]? = a[i]? := by
  by_cases h : i < a.length
  · rw [List.getElem?_eq_getElem h, getElem?_pos (str a) i (by rw [str_size]; exact h)]
    rfl
  · rw [List.getElem?_eq_none (by omega), getElem?_neg (str a) i (by rw [str_size]; exact h)]
theorem str_inj {a b : List UInt8} (h : str a = str b) : a = b := by
  have : a.toArray = b.toArray := by have := congrArg ByteArray.data h; exact this
  simpa using this
theorem of_str (s : ByteArray) : ∃ bs : List UInt8, s = str bs := ⟨s.data.toList, by simp [str]⟩

theorem loop_str (bs : List UInt8) : ∀ (n i : Nat) (r : List UInt8), bs.length - i = n → ByteArray.toList.loop (str bs) i r = r.reverse ++ bs.drop i
  | 0, i, r, h => by
    unfold ByteArray.toList.loop
    rw [if_neg (by rw [str_size]; omega), List.drop_eq_nil_of_le (by omega), List.append_nil]
  | n + 1, i, r, h => by
    unfold ByteArray.toList.loop
    have hi : i < bs.length := by omega
    rw [if_pos (by rw [str_size]; exact hi), loop_str bs n (i + 1) _ (by omega)]
    have : (str bs).get! i = bs[i] := by simp [str, ByteArray.get!, hi]
    rw [this, List.reverse_cons, List.append_assoc, List.drop_eq_getElem_cons hi]
    rfl
theorem str_toList (bs : List UInt8) : (str bs).toList = bs := by
  unfold ByteArray.toList
  rw [loop_str bs bs.length 0 [] rfl]
  rfl
theorem toList_beq (a b : List UInt8) : ((str a).toList == (str b).toList) = decide (a = b) := by
  rw [str_toList, str_toList, Bool.eq_iff_iff]; simp

theorem b2sB_i {p : Option Addr} {n : Nat} {h : Heap} {bs : List UInt8} {K : ByteArray → Prop} (r : Row h p (u8s bs)) (hl : bs.length = n) (H : K (str bs)) : b2sB p n h K :=
  ⟨bs, r.readO (by rw [u8s_length]; exact hl), H⟩
theorem strI_i {s : ByteArray} {bs : List UInt8} {i : Int} {k : Nat} {b : UInt8} {K : UInt8 → Prop} (hs : s = str bs) (hi : i = k) (hb : bs[k]? = some b) (H : K b) : strI s i K := by
  subst hs; subst hi
  exact ⟨by omega, b, by rw [Int.toNat_natCast, str_get]; exact hb, H⟩
theorem addStrI_i {a b : ByteArray} {K : Unit → Prop} (h : a.size + b.size < 2 ^ 62) (H : K ()) : addStrI a b K := by
  have e : IntKind.max .i64 = 2 ^ 63 - 1 := by decide
  exact ⟨by rw [e]; omega, H⟩

/-- A byte out of a number. -/
def lowByte (x : Int) : UInt8 := UInt8.ofNat (x % 256).toNat
theorem wrap_u8 (x : Int) : IntKind.wrap .u8 x = x % 256 := by
  simp only [IntKind.wrap, IntKind.bits, IntKind.signed]; simp
theorem lowByte_toNat (x : Int) : ((lowByte x).toNat : Int) = x % 256 := by
  unfold lowByte
  have h0 := Int.emod_nonneg x (b := 256) (by decide)
  have h1 := Int.emod_lt_of_pos x (b := 256) (by decide)
  rw [UInt8.toNat_ofNat', Nat.mod_eq_of_lt (by omega), Int.toNat_of_nonneg h0]
theorem wrap_u64 (x : Int) : IntKind.wrap .u64 x = x % 18446744073709551616 := by
  simp only [IntKind.wrap, IntKind.bits, IntKind.signed]; simp
theorem wrap_i32 (x : Int) : IntKind.wrap .i32 x = (x + 2147483648) % 4294967296 - 2147483648 := by
  simp only [IntKind.wrap, IntKind.bits, IntKind.signed]; simp; omega
theorem wrap_i64 (x : Int) : IntKind.wrap .i64 x = (x + 9223372036854775808) % 18446744073709551616 - 9223372036854775808 := by
  simp only [IntKind.wrap, IntKind.bits, IntKind.signed]; simp; omega
theorem wrap_u32 (x : Int) : IntKind.wrap .u32 x = x % 4294967296 := by
  simp only [IntKind.wrap, IntKind.bits, IntKind.signed]; simp

theorem shrI_ediv (x : Int) (n : Nat) : shrI x n = x / 2 ^ n := by
  unfold shrI
  exact Int.fdiv_eq_ediv_of_nonneg _ (Int.pow_nonneg (by decide))
theorem div_pow_succ (x : Int) (i : Nat) : x / 256 ^ i / 256 = x / 256 ^ (i + 1) := by
  rw [Int.pow_succ, ← Int.ediv_ediv_of_nonneg (Int.pow_nonneg (by decide))]

/-- The lowest n bytes of a number, the lowest first. -/
def low (x : Int) : Nat → List UInt8
  | 0 => []
  | n + 1 => lowByte x :: low (x / 256) n
theorem low_length (x : Int) (n : Nat) : (low x n).length = n := by
  induction n generalizing x with
  | zero => rfl
  | succ n ih => simp [low, ih]

theorem low_snoc (x : Int) : ∀ (n : Nat), low x (n + 1) = low x n ++ [lowByte (x / 256 ^ n)]
  | 0 => by simp [low]
  | n + 1 => by
    rw [low, low_snoc (x / 256) n, low, Int.pow_succ', Int.ediv_ediv_of_nonneg (show (0:Int) ≤ 256 by decide)]
    rfl

/-- The number of some bytes, the lowest first. -/
def num : List UInt8 → Int
  | [] => 0
  | b :: r => b.toNat + 256 * num r
theorem num_low (x : Int) : ∀ (n : Nat), num (low x n) = x % 256 ^ n
  | 0 => by simp [low, num]
  | n + 1 => by
    simp only [low, num, lowByte_toNat, num_low (x / 256) n]
    have hp : (0 : Int) < 256 ^ n := Int.pow_pos (by decide)
    rw [Int.pow_succ, Int.mul_comm (256 ^ n) 256]
    rw [Int.emod_def, Int.emod_def (x / 256), Int.emod_def x (256 * 256 ^ n), ← Int.ediv_ediv_of_nonneg (show (0:Int) ≤ 256 by decide)]
    rw [Int.mul_sub, Int.mul_assoc]
    omega
theorem num_range : ∀ (bs : List UInt8), 0 ≤ num bs ∧ num bs < 256 ^ bs.length
  | [] => by simp [num]
  | b :: r => by
    obtain ⟨h0, h1⟩ := num_range r
    have hb : b.toNat < 256 := UInt8.toNat_lt b
    simp only [num, List.length_cons, Int.pow_succ]
    omega

theorem str_extract (bs : List UInt8) (i j : Nat) : (str bs).extract i j = str ((bs.drop i).take (j - i)) := by
  apply ByteArray.ext
  simp [str, ByteArray.data_extract]

theorem num_append : ∀ (a b : List UInt8), num (a ++ b) = num a + 256 ^ a.length * num b
  | [], b => by simp [num]
  | x :: r, b => by
    simp only [List.cons_append, num, num_append r b, List.length_cons, Int.pow_succ]
    rw [Int.mul_add, Int.mul_comm (256 ^ r.length) 256, Int.mul_assoc]
    omega
theorem num_take_succ {bs : List UInt8} {i : Nat} {b : UInt8} (hb : bs[i]? = some b) : num (bs.take (i + 1)) = num (bs.take i) + b.toNat * 256 ^ i := by
  have hi := (List.getElem?_eq_some_iff.1 hb).1
  have he := (List.getElem?_eq_some_iff.1 hb).2
  rw [List.take_succ_eq_append_getElem hi, num_append, he, List.length_take, Nat.min_eq_left (by omega)]
  simp only [num]
  rw [Int.mul_zero, Int.add_zero, Int.mul_comm]
theorem pow256_le {a b : Nat} (h : a ≤ b) : (256 : Int) ^ a ≤ 256 ^ b := by
  have := Int.ofNat_le.2 (Nat.pow_le_pow_right (show 0 < 256 by decide) h)
  rw [Int.natCast_pow, Int.natCast_pow] at this
  exact this
theorem num_range' (bs : List UInt8) (n : Nat) (h : bs.length ≤ n) : 0 ≤ num bs ∧ num bs < 256 ^ n := by
  obtain ⟨h0, h1⟩ := num_range bs
  exact ⟨h0, Int.lt_of_lt_of_le h1 (pow256_le h)⟩

/-- Bits that do not meet: or is plus. -/
theorem orI_add {x y : Int} {k : Nat} (hx : 0 ≤ x ∧ x < 2 ^ k) (hy : 0 ≤ y) (hs : y * 2 ^ k + x < 2 ^ 64) : orI .u64 x (y * 2 ^ k) = x + y * 2 ^ k := by
  obtain ⟨a, rfl⟩ := Int.eq_ofNat_of_zero_le hx.1
  obtain ⟨c, rfl⟩ := Int.eq_ofNat_of_zero_le hy
  have ha : a < 2 ^ k := by
    apply Int.ofNat_lt.1
    rw [Int.natCast_pow]; exact hx.2
  have hs' : c * 2 ^ k + a < 2 ^ 64 := by
    apply Int.ofNat_lt.1
    rw [Int.natCast_add, Int.natCast_mul, Int.natCast_pow, Int.natCast_pow]; exact hs
  have e1 : (BitVec.ofInt 64 (a : Int)).toNat = a := by
    rw [BitVec.ofInt_natCast, BitVec.toNat_ofNat, Nat.mod_eq_of_lt (by omega)]
  have e2 : (BitVec.ofInt 64 ((c : Int) * 2 ^ k)).toNat = c * 2 ^ k := by
    have : ((c : Int) * 2 ^ k) = ((c * 2 ^ k : Nat) : Int) := by rw [Int.natCast_mul, Int.natCast_pow]; rfl
    rw [this, BitVec.ofInt_natCast, BitVec.toNat_ofNat, Nat.mod_eq_of_lt (by omega)]
  unfold orI
  have hb : IntKind.u64.bits = 64 := rfl
  rw [hb, BitVec.toNat_or, e1, e2]
  have e3 : a ||| c * 2 ^ k = c * 2 ^ k + a := by
    rw [Nat.or_comm, Nat.mul_comm, ← Nat.two_pow_add_eq_or_of_lt ha]
  rw [e3, wrap_u64, Int.emod_eq_of_lt (by omega) (by omega), Int.natCast_add, Int.natCast_mul, Int.natCast_pow]
  exact Int.add_comm _ _

end Go.Sh
