/- Integers of a width, and the bits of an int: plain lemmas on numbers. No program is named here. -/
import Derived.Laws.BitsAllLaws
import Derived.Laws.BitsLemmas
import Derived.IntWalk
import Derived.RowKit
import Derived.Below
set_option linter.unusedSimpArgs false
set_option linter.unusedVariables false
namespace Go.Proofs.Ytgmcajojigedaaa

theorem toNat_i64 (a : Int) (ha : 0 ≤ a) (h : a < 9223372036854775808) : (BitVec.ofInt 64 a).toNat = a.toNat := by
  rw [BitVec.toNat_ofInt]
  congr 1
  exact Int.emod_eq_of_lt ha (by omega)

theorem wrap_small (n : Int) (h0 : -9223372036854775808 ≤ n) (h1 : n < 9223372036854775808) : IntKind.i64.wrap n = n := by
  rw [IntKind.wrap_i64]; omega

/-- 'n & (2^k - 1)'. -/
theorem bits_mask (n : Int) (k : Nat) (hk : k ≤ 62) : bits .and .i64 n (2 ^ k - 1) = n % 2 ^ k := by
  have hp : (2 : Nat) ^ k ≤ 2 ^ 62 := Nat.pow_le_pow_right (by omega) hk
  have h1 : ((2 : Int) ^ k - 1) = ((2 ^ k - 1 : Nat) : Int) := by
    have : 0 < (2 : Nat) ^ k := Nat.two_pow_pos k
    rw [Int.natCast_sub (by omega)]; simp
  have h2 : (BitVec.ofInt 64 ((2 : Int) ^ k - 1)).toNat = 2 ^ k - 1 := by
    rw [h1, BitVec.ofInt_natCast, BitVec.toNat_ofNat]
    exact Nat.mod_eq_of_lt (by omega)
  show IntKind.i64.wrap ((BitVec.ofInt 64 n &&& BitVec.ofInt 64 ((2 : Int) ^ k - 1)).toNat : Int) = _
  rw [BitVec.toNat_and, h2, Nat.and_two_pow_sub_one_eq_mod, BitVec.toNat_ofInt]
  have hpos : (0 : Int) < 2 ^ k := Int.pow_pos (by omega)
  have h3 : (((n % (2 ^ 64 : Nat)).toNat % 2 ^ k : Nat) : Int) = n % 2 ^ k := by
    rw [Int.natCast_emod, Int.toNat_of_nonneg (Int.emod_nonneg _ (by decide))]
    have hd : (2 : Int) ^ k ∣ ((2 ^ 64 : Nat) : Int) := by
      refine ⟨2 ^ (64 - k), ?_⟩
      rw [← Int.pow_add]
      have : k + (64 - k) = 64 := by omega
      rw [this]; decide
    have : ((2 ^ k : Nat) : Int) = 2 ^ k := by simp
    rw [this]
    exact Int.emod_emod_of_dvd n hd
  have e := Int.emod_lt_of_pos n hpos
  have e0 := Int.emod_nonneg n (Int.ne_of_gt hpos)
  have hp' : (2 : Int) ^ k ≤ 2 ^ 62 := by
    have : ((2 ^ k : Nat) : Int) ≤ ((2 ^ 62 : Nat) : Int) := Int.ofNat_le.2 hp
    simpa using this
  rw [h3]
  exact wrap_small _ (by omega) (by omega)

theorem bits_and_one (n : Int) : bits .and .i64 n 1 = n % 2 := bits_mask n 1 (by omega)

theorem i64_and_nat (a b : Nat) (ha : a < 9223372036854775808) (hb : b < 9223372036854775808) : bits .and .i64 (a : Int) (b : Int) = ((a &&& b : Nat) : Int) := by
  have hx : a &&& b < 2 ^ 63 := Nat.and_lt_two_pow _ (by omega)
  show IntKind.i64.wrap ((BitVec.ofInt 64 (a : Int) &&& BitVec.ofInt 64 (b : Int)).toNat : Int) = _
  rw [BitVec.toNat_and, toNat_i64 _ (by omega) (by omega), toNat_i64 _ (by omega) (by omega), IntKind.wrap_i64]
  simp only [Int.toNat_natCast]
  omega
theorem i64_or_nat (a b : Nat) (ha : a < 9223372036854775808) (hb : b < 9223372036854775808) : bits .or .i64 (a : Int) (b : Int) = ((a ||| b : Nat) : Int) := by
  have hx : a ||| b < 2 ^ 63 := Nat.or_lt_two_pow (by omega) (by omega)
  show IntKind.i64.wrap ((BitVec.ofInt 64 (a : Int) ||| BitVec.ofInt 64 (b : Int)).toNat : Int) = _
  rw [BitVec.toNat_or, toNat_i64 _ (by omega) (by omega), toNat_i64 _ (by omega) (by omega), IntKind.wrap_i64]
  simp only [Int.toNat_natCast]
  omega
theorem i64_xor_nat (a b : Nat) (ha : a < 9223372036854775808) (hb : b < 9223372036854775808) : bits .xor .i64 (a : Int) (b : Int) = ((a ^^^ b : Nat) : Int) := by
  have hx : a ^^^ b < 2 ^ 63 := Nat.xor_lt_two_pow (by omega) (by omega)
  show IntKind.i64.wrap ((BitVec.ofInt 64 (a : Int) ^^^ BitVec.ofInt 64 (b : Int)).toNat : Int) = _
  rw [BitVec.toNat_xor, toNat_i64 _ (by omega) (by omega), toNat_i64 _ (by omega) (by omega), IntKind.wrap_i64]
  simp only [Int.toNat_natCast]
  omega

/-- 'v | 1<<k' where v is below 2^k. -/
theorem or_pow (v : Int) (k : Nat) (hk : k ≤ 60) (h0 : 0 ≤ v) (h1 : v < 2 ^ k) : bits .or .i64 v (Go.RowKit.wrap64 (2 ^ k)) = v + 2 ^ k := by
  have hp : (2 : Nat) ^ k ≤ 2 ^ 60 := Nat.pow_le_pow_right (by omega) hk
  have hpi : ((2 ^ k : Nat) : Int) = 2 ^ k := by simp
  have hp' : (2 : Int) ^ k ≤ 2 ^ 60 := by rw [← hpi]; exact_mod_cast hp
  have hp0 : (0 : Int) < 2 ^ k := Int.pow_pos (by omega)
  have hw : Go.RowKit.wrap64 (2 ^ k) = ((2 ^ k : Nat) : Int) := by
    rw [hpi]; unfold Go.RowKit.wrap64; omega
  obtain ⟨n, rfl⟩ := Int.eq_ofNat_of_zero_le h0
  have hn : n < 2 ^ k := by rw [← hpi] at h1; exact_mod_cast h1
  have e := Nat.two_pow_add_eq_or_of_lt hn 1
  rw [Nat.mul_one] at e
  rw [hw, i64_or_nat n (2 ^ k) (by omega) (by omega), Nat.or_comm, ← e]
  rw [Int.natCast_add, hpi]; omega

/-- The other literal of a node. -/
def notL (x : Int) : Int := if x % 2 = 0 then x + 1 else x - 1
theorem nat_xor_one (a : Nat) : a ^^^ 1 = if a % 2 = 0 then a + 1 else a - 1 := by
  have h1 := @Nat.xor_div_two_pow a 1 1
  have h2 := @Nat.xor_mod_two_eq_one a 1
  simp at h1
  split <;> omega
theorem bits_xor_one (x : Int) (h0 : 0 ≤ x) (h : x < 9223372036854775807) : bits .xor .i64 x 1 = notL x := by
  obtain ⟨a, rfl⟩ := Int.eq_ofNat_of_zero_le h0
  have := i64_xor_nat a 1 (by omega) (by omega)
  rw [show ((1 : Nat) : Int) = 1 from rfl] at this
  rw [this, nat_xor_one]
  unfold notL
  split <;> split <;> omega

/-- The integer of a width that is equal modulo 2^width. -/
def wrapW (w n : Int) : Int := if 2 ≤ w ∧ w ≤ 8 then Int.bmod n (2 ^ w.toNat) else 0

theorem wr_out {w : Int} (n : Int) (h : w < 2 ∨ 8 < w) : wrapW w n = 0 := if_neg (by omega)
theorem width_cases {w : Int} (h1 : 2 ≤ w) (h2 : w ≤ 8) : w = 2 ∨ w = 3 ∨ w = 4 ∨ w = 5 ∨ w = 6 ∨ w = 7 ∨ w = 8 := by omega
theorem wr_2 (n : Int) : wrapW 2 n = Int.bmod n 4 := rfl
theorem wr_3 (n : Int) : wrapW 3 n = Int.bmod n 8 := rfl
theorem wr_4 (n : Int) : wrapW 4 n = Int.bmod n 16 := rfl
theorem wr_5 (n : Int) : wrapW 5 n = Int.bmod n 32 := rfl
theorem wr_6 (n : Int) : wrapW 6 n = Int.bmod n 64 := rfl
theorem wr_7 (n : Int) : wrapW 7 n = Int.bmod n 128 := rfl
theorem wr_8 (n : Int) : wrapW 8 n = Int.bmod n 256 := rfl

end Go.Proofs.Ytgmcajojigedaaa
