/- Bits of numbers known. -/
import Derived.Test.YtcandjdomeompaaDoorK
namespace Go.SX
open Go

theorem bv_and {w a b : Nat} {p q : Int} (hp : p = a) (hq : q = b) (ha : a < 2 ^ w) (hb : b < 2 ^ w) : (BitVec.ofInt w p &&& BitVec.ofInt w q).toNat = a &&& b := by
  subst hp hq
  rw [BitVec.ofInt_natCast, BitVec.ofInt_natCast, BitVec.toNat_and, BitVec.toNat_ofNat, BitVec.toNat_ofNat, Nat.mod_eq_of_lt ha, Nat.mod_eq_of_lt hb]
theorem bv_or {w a b : Nat} {p q : Int} (hp : p = a) (hq : q = b) (ha : a < 2 ^ w) (hb : b < 2 ^ w) : (BitVec.ofInt w p ||| BitVec.ofInt w q).toNat = a ||| b := by
  subst hp hq
  rw [BitVec.ofInt_natCast, BitVec.ofInt_natCast, BitVec.toNat_or, BitVec.toNat_ofNat, BitVec.toNat_ofNat, Nat.mod_eq_of_lt ha, Nat.mod_eq_of_lt hb]

theorem and32 {a b : Nat} {p q : Int} (hp : p = a) (hq : q = b) (ha : a < 2 ^ 32) (hb : b < 2 ^ 32) : IntKind.u32.wrap (BitVec.ofInt IntKind.u32.bits p &&& BitVec.ofInt IntKind.u32.bits q).toNat = ((a &&& b : Nat) : Int) := by
  rw [show IntKind.u32.bits = 32 from rfl, bv_and hp hq ha hb]
  have : a &&& b ≤ a := Nat.and_le_left
  exact IntWalk.u32_in _ (by omega)
theorem or32 {a b : Nat} {p q : Int} (hp : p = a) (hq : q = b) (ha : a < 2 ^ 32) (hb : b < 2 ^ 32) : IntKind.u32.wrap (BitVec.ofInt IntKind.u32.bits p ||| BitVec.ofInt IntKind.u32.bits q).toNat = ((a ||| b : Nat) : Int) := by
  rw [show IntKind.u32.bits = 32 from rfl, bv_or hp hq ha hb]
  have : a ||| b < 2 ^ 32 := Nat.or_lt_two_pow ha hb
  exact IntWalk.u32_in _ (by omega)
theorem and64 {a b : Nat} {p q : Int} (hp : p = a) (hq : q = b) (ha : a < 2 ^ 64) (hb : b < 2 ^ 64) : IntKind.u64.wrap (BitVec.ofInt IntKind.u64.bits p &&& BitVec.ofInt IntKind.u64.bits q).toNat = ((a &&& b : Nat) : Int) := by
  rw [show IntKind.u64.bits = 64 from rfl, bv_and hp hq ha hb]
  have : a &&& b ≤ a := Nat.and_le_left
  exact IntWalk.u64_in _ (by omega)
theorem or64 {a b : Nat} {p q : Int} (hp : p = a) (hq : q = b) (ha : a < 2 ^ 64) (hb : b < 2 ^ 64) : IntKind.u64.wrap (BitVec.ofInt IntKind.u64.bits p ||| BitVec.ofInt IntKind.u64.bits q).toNat = ((a ||| b : Nat) : Int) := by
  rw [show IntKind.u64.bits = 64 from rfl, bv_or hp hq ha hb]
  have : a ||| b < 2 ^ 64 := Nat.or_lt_two_pow ha hb
  exact IntWalk.u64_in _ (by omega)
/-- 'p & (2^k - 1)' of an int, negative or not. -/
theorem andI {p : Int} {q : Int} {k : Nat} (hq : q = 2 ^ k - 1) (hk : k ≤ 62) : IntKind.i64.wrap (BitVec.ofInt IntKind.i64.bits p &&& BitVec.ofInt IntKind.i64.bits q).toNat = p % 2 ^ k := by
  subst hq
  have hpow : (2 : Nat) ^ k ≤ 2 ^ 62 := Nat.pow_le_pow_right (by omega) hk
  have h1 : ((2 : Int) ^ k - 1) = ((2 ^ k - 1 : Nat) : Int) := by
    have := Nat.one_le_two_pow (n := k)
    rw [Int.natCast_sub this]; simp
  have h2 : (BitVec.ofInt 64 p).toNat = (p % 18446744073709551616).toNat := by rw [BitVec.toNat_ofInt]; rfl
  rw [show IntKind.i64.bits = 64 from rfl, h1, BitVec.ofInt_natCast, BitVec.toNat_and, BitVec.toNat_ofNat, Nat.mod_eq_of_lt (by omega), h2, Nat.and_two_pow_sub_one_eq_mod]
  have h3 : (((p % 18446744073709551616).toNat % 2 ^ k : Nat) : Int) = p % 2 ^ k := by
    rw [Int.natCast_emod, Int.toNat_of_nonneg (Int.emod_nonneg _ (by decide))]
    have : ((2 ^ k : Nat) : Int) ∣ 18446744073709551616 := by
      have : (2 ^ k : Nat) ∣ 2 ^ 64 := Nat.pow_dvd_pow 2 (by omega)
      exact Int.ofNat_dvd.2 this
    rw [Int.emod_emod_of_dvd _ this]; simp
  rw [h3]
  have h4 := Int.emod_nonneg p (show (2 : Int) ^ k ≠ 0 from by have : (0 : Int) < 2 ^ k := Int.pow_pos (by decide); omega)
  have h5 := Int.emod_lt_of_pos p (show (0 : Int) < 2 ^ k from Int.pow_pos (by decide))
  have h6 : ((2 : Int) ^ k) ≤ 4611686018427387904 := by
    have : ((2 ^ k : Nat) : Int) ≤ ((2 ^ 62 : Nat) : Int) := Int.ofNat_le.2 hpow
    simpa using this
  exact IntWalk.i64_in _ (by omega)

end Go.SX
