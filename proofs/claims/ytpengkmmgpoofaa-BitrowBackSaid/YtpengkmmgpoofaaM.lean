/- Plain laws of rows of bits: a text is a number, the first byte worth least. -/
import Derived.IntWalk
namespace Go.Bit

abbrev Bs := List UInt8

def num : Bs → Nat
  | [] => 0
  | c :: s => c.toNat + 256 * num s
theorem num_lt : ∀ s : Bs, num s < 2 ^ (8 * s.length)
  | [] => by simp [num]
  | c :: s => by
    have h := num_lt s
    have hc := c.toNat_lt
    simp only [num, List.length_cons]
    rw [show 8 * (s.length + 1) = 8 * s.length + 8 by omega, Nat.pow_add]
    generalize 2 ^ (8 * s.length) = p at *
    omega
theorem num_app : ∀ a b : Bs, num (a ++ b) = num a + 2 ^ (8 * a.length) * num b
  | [], b => by simp [num]
  | c :: a, b => by
    simp only [List.cons_append, num, num_app a b, List.length_cons]
    rw [show 8 * (a.length + 1) = 8 * a.length + 8 by omega, Nat.pow_add, Nat.mul_add, ← Nat.mul_assoc, Nat.mul_comm 256 (2 ^ (8 * a.length)), show (2 : Nat) ^ 8 = 256 from rfl]
    omega
theorem num_drop (s : Bs) (k : Nat) : num (s.drop k) = num s / 2 ^ (8 * k) := by
  by_cases hk : k ≤ s.length
  · have h := num_app (s.take k) (s.drop k)
    rw [List.take_append_drop, List.length_take, Nat.min_eq_left hk] at h
    have hl := num_lt (s.take k)
    rw [List.length_take, Nat.min_eq_left hk] at hl
    rw [h, Nat.add_mul_div_left _ _ (Nat.two_pow_pos _), Nat.div_eq_of_lt hl, Nat.zero_add]
  · have hl := num_lt s
    have : 2 ^ (8 * s.length) ≤ 2 ^ (8 * k) := Nat.pow_le_pow_right (by omega) (by omega)
    rw [List.drop_eq_nil_of_le (by omega), Nat.div_eq_of_lt (by omega)]; rfl
theorem num_take (s : Bs) (k : Nat) : num (s.take k) = num s % 2 ^ (8 * k) := by
  by_cases hk : k ≤ s.length
  · have h := num_app (s.take k) (s.drop k)
    rw [List.take_append_drop, List.length_take, Nat.min_eq_left hk] at h
    have hl := num_lt (s.take k)
    rw [List.length_take, Nat.min_eq_left hk] at hl
    rw [h, Nat.add_mul_mod_self_left, Nat.mod_eq_of_lt hl]
  · have hl := num_lt s
    have : 2 ^ (8 * s.length) ≤ 2 ^ (8 * k) := Nat.pow_le_pow_right (by omega) (by omega)
    rw [List.take_of_length_le (by omega), Nat.mod_eq_of_lt (by omega)]
theorem num_get {s : Bs} {i : Nat} {c : UInt8} (h : s[i]? = some c) : c.toNat = num s / 2 ^ (8 * i) % 256 := by
  rw [← num_drop]
  obtain ⟨hi, rfl⟩ := List.getElem?_eq_some_iff.1 h
  rw [List.drop_eq_getElem_cons hi, num, Nat.add_mul_mod_self_left, Nat.mod_eq_of_lt (s[i].toNat_lt)]

/-- n bits of x from bit 'at' on. -/
def pk (x at_ n : Nat) : Nat := x / 2 ^ at_ % 2 ^ n
theorem pk_lt (x a n : Nat) : pk x a n < 2 ^ n := Nat.mod_lt _ (Nat.two_pow_pos _)
theorem pk_split (x a m n : Nat) : pk x a (m + n) = pk x a m + 2 ^ m * pk x (a + m) n := by
  unfold pk
  rw [Nat.pow_add, Nat.mod_mul, Nat.pow_add, Nat.div_div_eq_div_mul]
theorem pk_one (x a n : Nat) : pk x a (n + 1) = 2 * pk x (a + 1) n + x / 2 ^ a % 2 := by
  rw [Nat.add_comm n 1, pk_split]; unfold pk; rw [Nat.pow_one]; omega
theorem pk_zero (x a : Nat) : pk x a 0 = 0 := by simp [pk, Nat.mod_one]
theorem pk_mod {x a n m : Nat} (h : a + n ≤ m) : pk (x % 2 ^ m) a n = pk x a n := by
  unfold pk
  obtain ⟨d, rfl⟩ : ∃ d, m = a + (n + d) := ⟨m - (a + n), by omega⟩
  rw [Nat.pow_add, Nat.mod_mul_right_div_self, Nat.pow_add, Nat.mod_mul_right_mod]
theorem pk_div (x a b n : Nat) : pk (x / 2 ^ a) b n = pk x (a + b) n := by unfold pk; rw [Nat.div_div_eq_div_mul, Nat.pow_add]
theorem bit_lt (x i : Nat) : x / 2 ^ i % 2 < 2 := Nat.mod_lt _ (by omega)

/-- the first n bits in the other order. -/
def turn (x : Nat) : Nat → Nat
  | 0 => 0
  | i + 1 => 2 * turn x i + x / 2 ^ i % 2
theorem turn_lt (x : Nat) : ∀ n, turn x n < 2 ^ n
  | 0 => by simp [turn]
  | n + 1 => by have := turn_lt x n; have := bit_lt x n; simp only [turn, Nat.pow_succ]; omega
theorem turn_bit (x : Nat) : ∀ n i, i < n → turn x n / 2 ^ i % 2 = x / 2 ^ (n - 1 - i) % 2
  | 0, i, h => by omega
  | n + 1, 0, _ => by have := bit_lt x n; simp only [turn]; simp
  | n + 1, i + 1, h => by
    have ih := turn_bit x n i (by omega)
    have hb := bit_lt x n
    rw [show n + 1 - 1 - (i + 1) = n - 1 - i by omega, ← ih, Nat.pow_succ', ← Nat.div_div_eq_div_mul]
    congr 2
    simp only [turn]; omega
theorem ext_bits : ∀ n x y, x < 2 ^ n → y < 2 ^ n → (∀ i, i < n → x / 2 ^ i % 2 = y / 2 ^ i % 2) → x = y
  | 0, x, y, hx, hy, _ => by simp at hx hy; omega
  | n + 1, x, y, hx, hy, h => by
    have h0 := h 0 (by omega)
    have h1 := ext_bits n (x / 2) (y / 2) (by rw [Nat.pow_succ] at hx; omega) (by rw [Nat.pow_succ] at hy; omega) (fun i hi => by
      have := h (i + 1) (by omega)
      rw [Nat.pow_succ', ← Nat.div_div_eq_div_mul, ← Nat.div_div_eq_div_mul] at this; exact this)
    simp at h0; omega
theorem mod_bit (x n i : Nat) (h : i < n) : x % 2 ^ n / 2 ^ i % 2 = x / 2 ^ i % 2 := by
  have h1 := pk_mod (x := x) (a := i) (n := 1) (m := n) (by omega)
  simpa [pk] using h1
theorem turn_turn (x n : Nat) : turn (turn x n) n = x % 2 ^ n :=
  ext_bits n _ _ (turn_lt _ _) (Nat.mod_lt _ (Nat.two_pow_pos _)) (fun i hi => by
    rw [turn_bit _ _ _ hi, turn_bit _ _ _ (by omega), mod_bit _ _ _ hi]; congr 3; omega)
theorem turn_div (x : Nat) {n m : Nat} (h : n ≤ m) : turn x m / 2 ^ (m - n) = turn x n := by
  obtain ⟨d, rfl⟩ : ∃ d, m = n + d := ⟨m - n, by omega⟩
  rw [Nat.add_sub_cancel_left]
  clear h
  induction d with
  | zero => simp
  | succ d ih =>
    rw [← ih, show n + (d + 1) = n + d + 1 by omega, turn, Nat.pow_succ', ← Nat.div_div_eq_div_mul]
    have := bit_lt x (n + d)
    congr 1; omega
theorem turn_mod {x n m : Nat} (h : n ≤ m) : turn (x % 2 ^ m) n = turn x n := by
  induction n with
  | zero => rfl
  | succ n ih => rw [turn, turn, ih (by omega), mod_bit _ _ _ (by omega)]

/-- k digits of base 256. -/
def digs (x : Nat) : Nat → Bs
  | 0 => []
  | k + 1 => digs x k ++ [UInt8.ofNat (x / 2 ^ (8 * k) % 256)]
theorem digs_len (x : Nat) : ∀ k, (digs x k).length = k
  | 0 => rfl
  | k + 1 => by rw [digs, List.length_append, digs_len x k]; rfl
theorem u8_of (n : Nat) : (UInt8.ofNat (n % 256)).toNat = n % 256 := by simp
theorem digs_num (x : Nat) : ∀ k, num (digs x k) = x % 2 ^ (8 * k)
  | 0 => by simp [digs, num, Nat.mod_one]
  | k + 1 => by
    rw [digs, num_app, digs_num x k, digs_len]
    simp only [num, u8_of, Nat.mul_zero, Nat.add_zero]
    rw [show 8 * (k + 1) = 8 * k + 8 by omega, Nat.pow_add, Nat.mod_mul]
theorem digs_congr {x y : Nat} : ∀ k, x % 2 ^ (8 * k) = y % 2 ^ (8 * k) → digs x k = digs y k
  | 0, _ => rfl
  | k + 1, h => by
    rw [show 8 * (k + 1) = 8 * k + 8 by omega, Nat.pow_add, Nat.mod_mul, Nat.mod_mul] at h
    have hx := Nat.mod_lt x (Nat.two_pow_pos (8 * k))
    have hy := Nat.mod_lt y (Nat.two_pow_pos (8 * k))
    have h1 : x % 2 ^ (8 * k) = y % 2 ^ (8 * k) := by
      have := congrArg (· % 2 ^ (8 * k)) h
      simpa [Nat.add_mul_mod_self_left] using this
    have h2 : x / 2 ^ (8 * k) % 2 ^ 8 = y / 2 ^ (8 * k) % 2 ^ 8 := by
      rw [h1] at h
      exact Nat.eq_of_mul_eq_mul_left (Nat.two_pow_pos (8 * k)) (by omega)
    rw [digs, digs, digs_congr k h1]
    have h3 : x / 2 ^ (8 * k) % 256 = y / 2 ^ (8 * k) % 256 := h2
    rw [h3]
theorem digs_get (x : Nat) : ∀ (k i : Nat), i < k → (digs x k)[i]? = some (UInt8.ofNat (x / 2 ^ (8 * i) % 256))
  | 0, i, h => by omega
  | k + 1, i, h => by
    rw [digs]
    by_cases hi : i < k
    · rw [List.getElem?_append_left (by rw [digs_len]; exact hi), digs_get x k i hi]
    · have : i = k := by omega
      subst this
      rw [List.getElem?_append_right (by rw [digs_len]; omega), digs_len]; simp
theorem num_inj : ∀ (a b : Bs), a.length = b.length → num a = num b → a = b
  | [], [], _, _ => rfl
  | [], _ :: _, h, _ => by simp at h
  | _ :: _, [], h, _ => by simp at h
  | c :: a, d :: b, h, e => by
    simp only [num] at e
    have hc := c.toNat_lt
    have hd := d.toNat_lt
    have h1 : c.toNat = d.toNat := by omega
    rw [num_inj a b (by simpa using h) (by omega), UInt8.toNat_inj.1 h1]
theorem digs_app (x y : Nat) (k : Nat) (s : Bs) (h : y = x % 2 ^ (8 * k) + 2 ^ (8 * k) * num s) : digs y (k + s.length) = digs x k ++ s := by
  apply num_inj
  · rw [digs_len, List.length_append, digs_len]
  · rw [digs_num, num_app, digs_num, digs_len, ← h]
    apply Nat.mod_eq_of_lt
    have h1 := Nat.mod_lt x (Nat.two_pow_pos (8 * k))
    have h2 := num_lt s
    have h3 : 2 ^ (8 * k) * (num s + 1) ≤ 2 ^ (8 * k) * 2 ^ (8 * s.length) := Nat.mul_le_mul_left _ h2
    rw [Nat.mul_add, Nat.mul_one, ← Nat.pow_add, ← Nat.mul_add] at h3
    omega

/-- The bits of x, one by one. -/
def bl (x : Nat) (n : Nat) : Bs := (List.range n).map fun i => UInt8.ofNat (x / 2 ^ i % 2)
theorem bl_len (x n : Nat) : (bl x n).length = n := by simp [bl]
theorem bl_get {x n i : Nat} (h : i < n) : (bl x n)[i]? = some (UInt8.ofNat (x / 2 ^ i % 2)) := by simp [bl, h]
theorem u8_bit (x i : Nat) : (UInt8.ofNat (x / 2 ^ i % 2)).toNat = x / 2 ^ i % 2 := by
  have := bit_lt x i
  simp; omega
theorem bl_congr {x y n : Nat} (h : x % 2 ^ n = y % 2 ^ n) : bl x n = bl y n := by
  unfold bl
  apply List.map_congr_left
  intro i hi
  have hi := List.mem_range.1 hi
  rw [← mod_bit x n i hi, h, mod_bit y n i hi]
theorem bl_snoc (x n : Nat) : bl x (n + 1) = bl x n ++ [UInt8.ofNat (x / 2 ^ n % 2)] := by
  simp [bl, List.range_succ]
/-- v in n bits behind x. -/
def put (x len v : Nat) : Nat := x + 2 ^ len * v
theorem put_lt {x len v n : Nat} (hx : x < 2 ^ len) (hv : v < 2 ^ n) : put x len v < 2 ^ (len + n) := by
  unfold put
  have h3 : 2 ^ len * (v + 1) ≤ 2 ^ len * 2 ^ n := Nat.mul_le_mul_left _ hv
  rw [Nat.mul_add, Nat.mul_one, ← Nat.pow_add] at h3
  omega
theorem bl_put (x len v : Nat) (hx : x < 2 ^ len) (i : Nat) : bl (put x len v) (len + (i + 1)) = bl (put x len v) (len + i) ++ [UInt8.ofNat (v / 2 ^ i % 2)] := by
  rw [← Nat.add_assoc, bl_snoc]
  unfold put
  rw [Nat.pow_add, ← Nat.div_div_eq_div_mul, Nat.add_mul_div_left _ _ (Nat.two_pow_pos _), Nat.div_eq_of_lt hx, Nat.zero_add]
theorem bl_put0 (x len v : Nat) : bl (put x len v) len = bl x len := by
  apply bl_congr
  unfold put
  rw [Nat.add_mul_mod_self_left]

end Go.Bit
