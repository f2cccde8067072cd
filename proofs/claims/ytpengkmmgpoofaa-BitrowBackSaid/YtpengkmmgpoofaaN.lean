/- Plain laws: thirty-two bits in the other order. -/
import Derived.Test.YtpengkmmgpoofaaM
namespace Go.Bit

def sw (k m y : Nat) : Nat := ((y / 2 ^ k) &&& m) ||| ((y &&& m) * 2 ^ k)
def rev (y : Nat) : Nat :=
  let a := sw 8 16711935 (sw 4 252645135 (sw 2 858993459 (sw 1 1431655765 y)))
  (a / 2 ^ 16) ||| (a * 2 ^ 16 % 2 ^ 32)

theorem tb (x i : Nat) : x.testBit i = decide (x / 2 ^ i % 2 = 1) := Nat.testBit_eq_decide_div_mod_eq
theorem shr_bit (y k i : Nat) : (y / 2 ^ k).testBit i = y.testBit (k + i) := by rw [← Nat.shiftRight_eq_div_pow, Nat.testBit_shiftRight]
theorem shl_bit (y k i : Nat) : (y * 2 ^ k).testBit i = (decide (k ≤ i) && y.testBit (i - k)) := by rw [← Nat.shiftLeft_eq, Nat.testBit_shiftLeft]
theorem m1 : ∀ j, j < 32 → Nat.testBit 1431655765 j = decide (j % 2 = 0) := by decide
theorem m2 : ∀ j, j < 32 → Nat.testBit 858993459 j = decide (j / 2 % 2 = 0) := by decide
theorem m4 : ∀ j, j < 32 → Nat.testBit 252645135 j = decide (j / 4 % 2 = 0) := by decide
theorem m8 : ∀ j, j < 32 → Nat.testBit 16711935 j = decide (j / 8 % 2 = 0) := by decide
theorem s1 (y i : Nat) (h : i < 32) : (sw 1 1431655765 y).testBit i = y.testBit (if i % 2 = 0 then i + 1 else i - 1) := by
  unfold sw
  rw [Nat.testBit_or, Nat.testBit_and, shr_bit, shl_bit, Nat.testBit_and, m1 i h, m1 (i - 1) (by omega)]
  by_cases hi : i % 2 = 0
  · rw [if_pos hi, Nat.add_comm 1 i]
    by_cases h0 : 1 ≤ i
    · have : ¬ (i - 1) % 2 = 0 := by omega
      simp [hi, this]
    · have : i = 0 := by omega
      subst this; simp
  · rw [if_neg hi]
    have : (i - 1) % 2 = 0 := by omega
    have h1 : 1 ≤ i := by omega
    simp [hi, this, h1]
theorem s2 (y i : Nat) (h : i < 32) : (sw 2 858993459 y).testBit i = y.testBit (if i / 2 % 2 = 0 then i + 2 else i - 2) := by
  unfold sw
  rw [Nat.testBit_or, Nat.testBit_and, shr_bit, shl_bit, Nat.testBit_and, m2 i h, m2 (i - 2) (by omega)]
  by_cases hi : i / 2 % 2 = 0
  · rw [if_pos hi, Nat.add_comm 2 i]
    by_cases h0 : 2 ≤ i
    · have : ¬ (i - 2) / 2 % 2 = 0 := by omega
      simp [hi, this]
    · simp [hi, h0]
  · rw [if_neg hi]
    have : (i - 2) / 2 % 2 = 0 := by omega
    have h1 : 2 ≤ i := by omega
    simp [hi, this, h1]
theorem s4 (y i : Nat) (h : i < 32) : (sw 4 252645135 y).testBit i = y.testBit (if i / 4 % 2 = 0 then i + 4 else i - 4) := by
  unfold sw
  rw [Nat.testBit_or, Nat.testBit_and, shr_bit, shl_bit, Nat.testBit_and, m4 i h, m4 (i - 4) (by omega)]
  by_cases hi : i / 4 % 2 = 0
  · rw [if_pos hi, Nat.add_comm 4 i]
    by_cases h0 : 4 ≤ i
    · have : ¬ (i - 4) / 4 % 2 = 0 := by omega
      simp [hi, this]
    · simp [hi, h0]
  · rw [if_neg hi]
    have : (i - 4) / 4 % 2 = 0 := by omega
    have h1 : 4 ≤ i := by omega
    simp [hi, this, h1]
theorem s8 (y i : Nat) (h : i < 32) : (sw 8 16711935 y).testBit i = y.testBit (if i / 8 % 2 = 0 then i + 8 else i - 8) := by
  unfold sw
  rw [Nat.testBit_or, Nat.testBit_and, shr_bit, shl_bit, Nat.testBit_and, m8 i h, m8 (i - 8) (by omega)]
  by_cases hi : i / 8 % 2 = 0
  · rw [if_pos hi, Nat.add_comm 8 i]
    by_cases h0 : 8 ≤ i
    · have : ¬ (i - 8) / 8 % 2 = 0 := by omega
      simp [hi, this]
    · simp [hi, h0]
  · rw [if_neg hi]
    have : (i - 8) / 8 % 2 = 0 := by omega
    have h1 : 8 ≤ i := by omega
    simp [hi, this, h1]
theorem sw_lt (k m y : Nat) (hm : m < 2 ^ 32) (hmk : m * 2 ^ k < 2 ^ 32) : sw k m y < 2 ^ 32 := by
  unfold sw
  apply Nat.or_lt_two_pow
  · exact Nat.lt_of_le_of_lt Nat.and_le_right hm
  · exact Nat.lt_of_le_of_lt (Nat.mul_le_mul_right _ Nat.and_le_right) hmk
theorem s16 (a i : Nat) (ha : a < 2 ^ 32) (h : i < 32) : ((a / 2 ^ 16) ||| (a * 2 ^ 16 % 2 ^ 32)).testBit i = a.testBit (if i < 16 then i + 16 else i - 16) := by
  rw [Nat.testBit_or, shr_bit, Nat.testBit_mod_two_pow, shl_bit]
  by_cases hi : i < 16
  · rw [if_pos hi, Nat.add_comm 16 i]
    have : ¬ 16 ≤ i := by omega
    simp [this]
  · rw [if_neg hi]
    have h1 : 16 ≤ i := by omega
    have h2 : a.testBit (16 + i) = false := Nat.testBit_lt_two_pow (Nat.lt_of_lt_of_le ha (Nat.pow_le_pow_right (by omega) (by omega)))
    simp [h1, h2, h]
def p1 (i : Nat) := if i % 2 = 0 then i + 1 else i - 1
def p2 (i : Nat) := if i / 2 % 2 = 0 then i + 2 else i - 2
def p4 (i : Nat) := if i / 4 % 2 = 0 then i + 4 else i - 4
def p8 (i : Nat) := if i / 8 % 2 = 0 then i + 8 else i - 8
def p16 (i : Nat) := if i < 16 then i + 16 else i - 16
theorem all_p : ∀ i, i < 32 → p16 i < 32 ∧ p8 (p16 i) < 32 ∧ p4 (p8 (p16 i)) < 32 ∧ p2 (p4 (p8 (p16 i))) < 32 ∧ p1 (p2 (p4 (p8 (p16 i)))) = 31 - i := by decide
theorem rev_bit (y i : Nat) (h : i < 32) : (rev y).testBit i = y.testBit (31 - i) := by
  obtain ⟨h1, h2, h3, h4, h5⟩ := all_p i h
  unfold rev
  rw [s16 _ i (sw_lt _ _ _ (by decide) (by decide)) h]
  show Nat.testBit _ (p16 i) = _
  rw [s8 _ _ h1]
  show Nat.testBit _ (p8 (p16 i)) = _
  rw [s4 _ _ h2]
  show Nat.testBit _ (p4 (p8 (p16 i))) = _
  rw [s2 _ _ h3]
  show Nat.testBit _ (p2 (p4 (p8 (p16 i)))) = _
  rw [s1 _ _ h4]
  show Nat.testBit _ (p1 (p2 (p4 (p8 (p16 i))))) = _
  rw [h5]
theorem rev_lt (y : Nat) : rev y < 2 ^ 32 := by
  unfold rev
  apply Nat.or_lt_two_pow
  · exact Nat.lt_of_le_of_lt (Nat.div_le_self _ _) (sw_lt _ _ _ (by decide) (by decide))
  · exact Nat.mod_lt _ (by decide)
theorem rev_turn (y : Nat) : rev y = turn y 32 :=
  ext_bits 32 _ _ (rev_lt y) (turn_lt y 32) (fun i hi => by
    have h := rev_bit y i hi
    rw [tb, tb] at h
    have h1 := bit_lt (rev y) i
    have h2 := bit_lt y (31 - i)
    rw [turn_bit _ _ _ hi]
    have : (rev y / 2 ^ i % 2 = 1) ↔ (y / 2 ^ (31 - i) % 2 = 1) := by simpa using h
    show _ = y / 2 ^ (31 - i) % 2
    omega)

end Go.Bit
