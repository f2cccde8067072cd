/- Plain laws: the places of the bits that are set, the table of the lowest one. -/
import Derived.Test.YtcandjdomeompaaDoorZM
namespace Go.Chr

def tab : List Nat := [0,1,56,2,57,49,28,3,61,58,42,50,38,29,17,4,62,47,59,36,45,43,51,22,53,39,33,30,24,18,12,5,63,55,48,27,60,41,37,16,46,35,44,21,52,32,23,11,54,26,40,15,34,20,31,10,25,14,19,9,13,8,7,6]
theorem tab_ok : ∀ t, t < 64 → tab[2 ^ t * 285870213051353865 % 2 ^ 64 / 2 ^ 58]? = some t := by decide +kernel

/-- The places of the bits of a word that are set. -/
def pos (x : Nat) : List Nat := (List.range 64).filter fun j => decide (x / 2 ^ j % 2 = 1)
theorem pos_zero : pos 0 = [] := by simp [pos]
theorem range_split (t : Nat) (h : t < 64) : List.range 64 = List.range t ++ t :: (List.range (63 - t)).map (fun j => t + 1 + j) := by
  have e : (64 : Nat) = t + (1 + (63 - t)) := by omega
  conv => lhs; rw [e, List.range_add, List.range_add]
  simp [List.map_map, Function.comp_def, Nat.add_assoc]
theorem bit_low (t m j : Nat) (h : j < t) : 2 ^ t * (2 * m + 1) / 2 ^ j % 2 = 0 := by
  obtain ⟨d, rfl⟩ : ∃ d, t = j + (d + 1) := ⟨t - j - 1, by omega⟩
  rw [Nat.pow_add, Nat.mul_assoc, Nat.mul_div_cancel_left _ (Nat.two_pow_pos _), Nat.pow_succ, Nat.mul_comm (2 ^ d) 2, Nat.mul_assoc, Nat.mul_mod_right]
theorem bit_at (t m : Nat) : 2 ^ t * (2 * m + 1) / 2 ^ t % 2 = 1 := by
  rw [Nat.mul_div_cancel_left _ (Nat.two_pow_pos _)]; omega
theorem bit_above (t m j : Nat) : 2 ^ t * (2 * m + 1) / 2 ^ (t + 1 + j) % 2 = m / 2 ^ j % 2 := by
  rw [Nat.add_assoc, Nat.pow_add, ← Nat.div_div_eq_div_mul, Nat.mul_div_cancel_left _ (Nat.two_pow_pos _), Nat.pow_add, ← Nat.div_div_eq_div_mul]
  congr 2; omega
theorem bit_even (t m j : Nat) : 2 ^ t * (2 * m) / 2 ^ (t + 1 + j) % 2 = m / 2 ^ j % 2 := by
  rw [Nat.add_assoc, Nat.pow_add, ← Nat.div_div_eq_div_mul, Nat.mul_div_cancel_left _ (Nat.two_pow_pos _), Nat.pow_add, ← Nat.div_div_eq_div_mul]
  congr 2; omega
theorem bit_even_low (t m j : Nat) (h : j ≤ t) : 2 ^ t * (2 * m) / 2 ^ j % 2 = 0 := by
  obtain ⟨d, rfl⟩ : ∃ d, t = j + d := ⟨t - j, by omega⟩
  rw [Nat.pow_add, Nat.mul_assoc, Nat.mul_div_cancel_left _ (Nat.two_pow_pos _), Nat.mul_left_comm, Nat.mul_mod_right]
theorem pos_step (t m : Nat) (h : t < 64) : pos (2 ^ t * (2 * m + 1)) = t :: pos (2 ^ t * (2 * m)) := by
  unfold pos
  rw [range_split t h, List.filter_append, List.filter_append, List.filter_cons, List.filter_cons]
  have e1 : (List.range t).filter (fun j => decide (2 ^ t * (2 * m + 1) / 2 ^ j % 2 = 1)) = [] := by
    apply List.filter_eq_nil_iff.2
    intro j hj
    rw [bit_low t m j (List.mem_range.1 hj)]; simp
  have e2 : (List.range t).filter (fun j => decide (2 ^ t * (2 * m) / 2 ^ j % 2 = 1)) = [] := by
    apply List.filter_eq_nil_iff.2
    intro j hj
    rw [bit_even_low t m j (Nat.le_of_lt (List.mem_range.1 hj))]; simp
  rw [e1, e2, bit_at, bit_even_low t m t (Nat.le_refl _)]
  simp only [List.nil_append, decide_true, if_true, List.filter_map]
  congr 2
  apply List.filter_congr
  intro j _
  simp only [Function.comp]
  rw [bit_above, bit_even]

end Go.Chr
