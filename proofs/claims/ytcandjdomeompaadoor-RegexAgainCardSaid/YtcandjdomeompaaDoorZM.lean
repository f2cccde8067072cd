/- Plain laws of words of bits: how many are set, which is the lowest. -/
import Derived.IntWalk
namespace Go.Chr

theorem bit_lt (x i : Nat) : x / 2 ^ i % 2 < 2 := Nat.mod_lt _ (by omega)
/-- How many of the first n bits are set. -/
def pop (x : Nat) : Nat → Nat
  | 0 => 0
  | n + 1 => x % 2 + pop (x / 2) n
theorem pop_le (x n : Nat) : pop x n ≤ n := by
  induction n generalizing x with
  | zero => simp [pop]
  | succ n ih => have := ih (x / 2); have := Nat.mod_lt x (show 2 > 0 by decide); simp only [pop]; omega

/-- Fields of k bits, each with its neighbour: the sums, in fields of 2k bits. -/
def ps (k : Nat) : Nat → Nat → Nat
  | 0, _ => 0
  | n + 1, x => x % 2 ^ k + x / 2 ^ k % 2 ^ k + 2 ^ (2 * k) * ps k n (x / 2 ^ (2 * k))
/-- The mask of each other field. -/
def mk (k : Nat) : Nat → Nat
  | 0 => 0
  | n + 1 => 2 ^ k - 1 + 2 ^ (2 * k) * mk k n
/-- The sum of n fields of k bits. -/
def ds (k : Nat) : Nat → Nat → Nat
  | 0, _ => 0
  | n + 1, x => x % 2 ^ k + ds k n (x / 2 ^ k)

theorem and_split (m a b c d : Nat) (ha : a < 2 ^ m) (hc : c < 2 ^ m) : (a + 2 ^ m * b) &&& (c + 2 ^ m * d) = (a &&& c) + 2 ^ m * (b &&& d) := by
  have hac : a &&& c < 2 ^ m := Nat.lt_of_le_of_lt Nat.and_le_left ha
  apply Nat.eq_of_testBit_eq
  intro i
  rw [Nat.testBit_and, Nat.add_comm a, Nat.add_comm c, Nat.add_comm (a &&& c), Nat.testBit_two_pow_mul_add _ ha, Nat.testBit_two_pow_mul_add _ hc, Nat.testBit_two_pow_mul_add _ hac]
  by_cases h : i < m
  · simp [h, Nat.testBit_and]
  · simp [h, Nat.testBit_and]
theorem and_mask (k : Nat) (n : Nat) : ∀ x, x &&& mk k n = (match n with | 0 => 0 | n + 1 => x % 2 ^ k + 2 ^ (2 * k) * (x / 2 ^ (2 * k) &&& mk k n)) := by
  intro x
  cases n with
  | zero => simp [mk]
  | succ n =>
    have hx : x = x % 2 ^ (2 * k) + 2 ^ (2 * k) * (x / 2 ^ (2 * k)) := (Nat.mod_add_div _ _).symm
    have h1 : 2 ^ k - 1 < 2 ^ (2 * k) := by
      have : 2 ^ k ≤ 2 ^ (2 * k) := Nat.pow_le_pow_right (by omega) (by omega)
      have := Nat.two_pow_pos k
      omega
    show x &&& (2 ^ k - 1 + 2 ^ (2 * k) * mk k n) = _
    conv => lhs; rw [hx]
    rw [and_split _ _ _ _ _ (Nat.mod_lt _ (Nat.two_pow_pos _)) h1, Nat.and_two_pow_sub_one_eq_mod, Nat.mod_mod_of_dvd _ (Nat.pow_dvd_pow 2 (by omega))]
theorem pair_sum (k : Nat) : ∀ n x, ((x / 2 ^ k) &&& mk k n) + (x &&& mk k n) = ps k n x
  | 0, x => by simp [mk, ps]
  | n + 1, x => by
    rw [and_mask k (n + 1), and_mask k (n + 1)]
    have ih := pair_sum k n (x / 2 ^ (2 * k))
    have e : x / 2 ^ k / 2 ^ (2 * k) = x / 2 ^ (2 * k) / 2 ^ k := by rw [Nat.div_div_eq_div_mul, Nat.div_div_eq_div_mul, Nat.mul_comm]
    simp only [ps, e, ← ih, Nat.mul_add]
    omega
theorem pop_ds : ∀ n x, pop x n = ds 1 n x
  | 0, _ => rfl
  | n + 1, x => by simp [pop, ds, pop_ds n]

theorem ds_ps (k : Nat) (hk : 1 ≤ k) : ∀ n x, ds (2 * k) n (ps k n x) = ds k (2 * n) x
  | 0, _ => rfl
  | n + 1, x => by
    have ih := ds_ps k hk n (x / 2 ^ (2 * k))
    have ha := Nat.mod_lt x (Nat.two_pow_pos k)
    have hb := Nat.mod_lt (x / 2 ^ k) (Nat.two_pow_pos k)
    have hp : 2 ^ (2 * k) = 2 ^ k * 2 ^ k := by rw [← Nat.pow_add]; congr 1; omega
    have h2 : 2 ≤ 2 ^ k := by have : 2 ^ 1 ≤ 2 ^ k := Nat.pow_le_pow_right (by omega) hk
                              omega
    have hs : x % 2 ^ k + x / 2 ^ k % 2 ^ k < 2 ^ (2 * k) := by
      rw [hp]
      have : 2 * 2 ^ k ≤ 2 ^ k * 2 ^ k := Nat.mul_le_mul_right _ h2
      omega
    rw [show 2 * (n + 1) = 2 * n + 1 + 1 by omega]
    simp only [ds, ps]
    rw [Nat.add_mul_mod_self_left, Nat.mod_eq_of_lt hs, Nat.add_mul_div_left _ _ (Nat.two_pow_pos _), Nat.div_eq_of_lt hs, Nat.zero_add, ih, Nat.div_div_eq_div_mul, ← hp]
    omega
/-- n fields of k bits, none above c; nothing beyond. -/
def Dg (k c : Nat) : Nat → Nat → Prop
  | 0, x => x = 0
  | n + 1, x => x % 2 ^ k ≤ c ∧ Dg k c n (x / 2 ^ k)
theorem dg_ps (k c : Nat) (hc : 2 * c < 2 ^ (2 * k)) : ∀ n x, Dg k c (2 * n) x → Dg (2 * k) (2 * c) n (ps k n x)
  | 0, x, _ => rfl
  | n + 1, x, h => by
    rw [show 2 * (n + 1) = 2 * n + 1 + 1 by omega] at h
    obtain ⟨h1, h2, h3⟩ := h
    have hp : 2 ^ (2 * k) = 2 ^ k * 2 ^ k := by rw [← Nat.pow_add]; congr 1; omega
    rw [Nat.div_div_eq_div_mul, ← hp] at h3
    have ih := dg_ps k c hc n _ h3
    have hs : x % 2 ^ k + x / 2 ^ k % 2 ^ k < 2 ^ (2 * k) := by omega
    simp only [Dg, ps]
    rw [Nat.add_mul_mod_self_left, Nat.mod_eq_of_lt hs, Nat.add_mul_div_left _ _ (Nat.two_pow_pos _), Nat.div_eq_of_lt hs, Nat.zero_add]
    exact ⟨by omega, ih⟩
theorem dg_one : ∀ n x, x < 2 ^ n → Dg 1 1 n x
  | 0, x, h => by simp at h; exact h
  | n + 1, x, h => ⟨by omega, dg_one n (x / 2) (by rw [Nat.pow_succ] at h; omega)⟩
theorem dv (a b k : Nat) (h : a < k) : (a + k * b) / k = b := by rw [Nat.add_mul_div_left _ _ (by omega), Nat.div_eq_of_lt h, Nat.zero_add]
theorem late_e3 (d0 d1 e0 r : Nat) (h0 : d0 ≤ 4) (h1 : d1 ≤ 4) (h2 : e0 ≤ 4) : ((d1 + 16 * (e0 + 16 * r)) + (d0 + 16 * (d1 + 16 * (e0 + 16 * r)))) / 256 = r + (e0 + 16 * r) := by
  have e : (d1 + 16 * (e0 + 16 * r)) + (d0 + 16 * (d1 + 16 * (e0 + 16 * r))) = (d0 + d1 + 16 * (d1 + e0)) + 256 * (r + (e0 + 16 * r)) := by omega
  rw [e]; exact dv _ _ _ (by omega)
theorem late_e2 (x : Nat) (h1 : x % 16 ≤ 4) (h2 : x / 16 % 16 ≤ 4) (h4 : x / 256 % 16 ≤ 4) : (x / 16 + x) / 256 = x / 256 / 16 + x / 256 := by
  have h := late_e3 (x % 16) (x / 16 % 16) (x / 256 % 16) (x / 256 / 16) h1 h2 h4
  have a1 : x / 256 % 16 + 16 * (x / 256 / 16) = x / 256 := Nat.mod_add_div _ _
  have a3 : x / 16 / 16 = x / 256 := by rw [Nat.div_div_eq_div_mul]
  have a2 : x / 16 % 16 + 16 * (x / 256) = x / 16 := by rw [← a3]; exact Nat.mod_add_div _ _
  have a4 : x % 16 + 16 * (x / 16) = x := Nat.mod_add_div _ _
  rw [a1, a2, a4] at h
  exact h
/-- One mask behind the sum, where no field runs over. -/
theorem late_mask : ∀ n x, Dg 4 4 (2 * n) x → ((x / 16 + x) &&& mk 4 n) = ps 4 n x
  | 0, x, _ => by simp [mk, ps]
  | n + 1, x, h => by
    rw [show 2 * (n + 1) = 2 * n + 1 + 1 by omega] at h
    obtain ⟨h1, h2, h3⟩ := h
    have hd : ∀ m y, Dg 4 4 m y → y % 16 ≤ 4 := fun m y h => by
      cases m with
      | zero => simp [Dg] at h; subst h; decide
      | succ m => exact h.1
    have h4 := hd _ _ h3
    rw [Nat.div_div_eq_div_mul, show (2 : Nat) ^ 4 * 2 ^ 4 = 256 from rfl] at h3 h4
    have ih := late_mask n (x / 256) h3
    rw [and_mask 4 (n + 1)]
    simp only [ps]
    have e1 : (x / 16 + x) % 2 ^ 4 = x % 2 ^ 4 + x / 2 ^ 4 % 2 ^ 4 := by
      simp only [show (2 : Nat) ^ 4 = 16 from rfl] at *; omega
    have e2 : (x / 16 + x) / 2 ^ (2 * 4) = x / 256 / 16 + x / 256 := by
      exact late_e2 x h1 h2 h4
    rw [e1, e2, ih]
/-- The bytes' sum, by three adds. -/
theorem fold_eight (d0 d1 d2 d3 d4 d5 d6 d7 : Nat) (h0 : d0 ≤ 8) (h1 : d1 ≤ 8) (h2 : d2 ≤ 8) (h3 : d3 ≤ 8) (h4 : d4 ≤ 8) (h5 : d5 ≤ 8) (h6 : d6 ≤ 8) (h7 : d7 ≤ 8)
    (x y s r u q : Nat) (hy : y = d1 + 256 * d2 + 65536 * d3 + 16777216 * d4 + 4294967296 * d5 + 1099511627776 * d6 + 281474976710656 * d7) (hx : x = d0 + 256 * y) (hs : s = x + y)
    (hr : r = (d2 + d3) + 256 * (d3 + d4) + 65536 * (d4 + d5) + 16777216 * (d5 + d6) + 4294967296 * (d6 + d7) + 1099511627776 * d7) (hu : u = s + r) (hq : q = (d4 + d5 + d6 + d7) + 256 * (d5 + d6 + d7) + 65536 * (d6 + d7) + 16777216 * d7) :
    x / 256 = y ∧ s / 65536 = r ∧ u / 4294967296 = q ∧ (u + q) % 128 = d0 + d1 + d2 + d3 + d4 + d5 + d6 + d7 := by
  have e0 : s = ((d0 + d1) + 256 * (d1 + d2)) + 65536 * r := by subst hr hs hx hy; omega
  have e1 : u = ((d0 + d1 + d2 + d3) + 256 * (d1 + d2 + d3 + d4) + 65536 * (d2 + d3 + d4 + d5) + 16777216 * (d3 + d4 + d5 + d6)) + 4294967296 * q := by subst hq hu hr hs hx hy; omega
  have e2 : u + q = (d0 + d1 + d2 + d3 + d4 + d5 + d6 + d7) + 128 * (2 * ((d1 + d2 + d3 + d4 + d5 + d6 + d7) + 256 * (d2 + d3 + d4 + d5 + d6 + d7) + 65536 * (d3 + d4 + d5 + d6 + d7)) + 33554432 * q) := by
    rw [e1, hq]; clear e1 e0 hu hs hx hy hr; omega
  refine ⟨by rw [hx]; exact dv _ _ _ (by omega), by rw [e0]; exact dv _ _ _ (by clear e0 e1 e2 hx hy hs hr hu hq; omega), by rw [e1]; exact dv _ _ _ (by clear e0 e1 e2 hx hy hs hr hu hq; omega), ?_⟩
  rw [e2, Nat.add_mul_mod_self_left]
  exact Nat.mod_eq_of_lt (by clear e0 e1 e2 hx hy hs hr hu hq; omega)

def x1 (x : Nat) : Nat := ((x / 2 ^ 1) &&& 6148914691236517205) + (x &&& 6148914691236517205)
def x2 (x : Nat) : Nat := ((x1 x / 2 ^ 2) &&& 3689348814741910323) + (x1 x &&& 3689348814741910323)
def x3 (x : Nat) : Nat := (x2 x / 2 ^ 4 + x2 x) &&& 1085102592571150095
theorem x1_eq (x : Nat) : x1 x = ps 1 32 x := by rw [← pair_sum]; rfl
theorem x2_eq (x : Nat) : x2 x = ps 2 16 (x1 x) := by rw [← pair_sum]; rfl
theorem count_all {x : Nat} (h : x < 2 ^ 64) : Dg 2 2 32 (x1 x) ∧ Dg 4 4 16 (x2 x) ∧ Dg 8 8 8 (x3 x) ∧ ds 8 8 (x3 x) = pop x 64 := by
  have d0 := dg_one 64 x h
  have d1 : Dg 2 2 32 (x1 x) := by rw [x1_eq]; exact dg_ps 1 1 (by decide) 32 x d0
  have d2 : Dg 4 4 16 (x2 x) := by rw [x2_eq]; exact dg_ps 2 2 (by decide) 16 _ d1
  have e3 : x3 x = ps 4 8 (x2 x) := late_mask 8 _ d2
  have d3 : Dg 8 8 8 (x3 x) := by rw [e3]; exact dg_ps 4 4 (by decide) 8 _ d2
  refine ⟨d1, d2, d3, ?_⟩
  rw [e3, show (8 : Nat) = 2 * 4 from rfl]
  rw [show ds (2 * 4) (2 * 4) (ps 4 (2 * 4) (x2 x)) = ds 4 16 (x2 x) from ds_ps 4 (by decide) 8 (x2 x)]
  rw [x2_eq, show ds 4 16 (ps 2 16 (x1 x)) = ds 2 32 (x1 x) from ds_ps 2 (by decide) 16 _, x1_eq, show ds 2 32 (ps 1 32 x) = ds 1 64 x from ds_ps 1 (by decide) 32 x, pop_ds]
theorem dg_lt (k c : Nat) (hc : c < 2 ^ k) : ∀ n x, Dg k c n x → x < 2 ^ (k * n)
  | 0, x, h => by simp [Dg] at h; subst h; simp
  | n + 1, x, h => by
    have ih := dg_lt k c hc n _ h.2
    rw [Nat.mul_succ, Nat.pow_add]
    exact (Nat.div_lt_iff_lt_mul (Nat.two_pow_pos k)).1 ih

def rp (k : Nat) : Nat → Nat
  | 0 => 0
  | n + 1 => 1 + 2 ^ k * rp k n
theorem dg_le (k c : Nat) : ∀ n x, Dg k c n x → x ≤ c * rp k n
  | 0, x, h => by simp [Dg] at h; subst h; simp
  | n + 1, x, h => by
    have ih := dg_le k c n _ h.2
    have h1 := h.1
    have h2 := Nat.mod_add_div x (2 ^ k)
    have h3 : 2 ^ k * (x / 2 ^ k) ≤ 2 ^ k * (c * rp k n) := Nat.mul_le_mul_left _ ih
    simp only [rp, Nat.mul_add, Nat.mul_one]
    rw [Nat.mul_left_comm c]
    omega
theorem eight_small (x : Nat) (h : Dg 8 8 8 x) : x ≤ 578721382704613384 := by
  have := dg_le 8 8 8 x h
  rwa [show 8 * rp 8 8 = 578721382704613384 by decide] at this
theorem two_small (x : Nat) (h : Dg 4 4 16 x) : x / 2 ^ 4 + x < 2 ^ 64 := by
  have := dg_le 4 4 16 x h
  rw [show 4 * rp 4 16 = 4919131752989213764 by decide] at this
  have h2 : x / 2 ^ 4 ≤ x := Nat.div_le_self _ _
  omega
theorem chain (d1 d2 d3 d4 d5 d6 d7 y1 y2 y3 y4 y5 y6 y7 : Nat) (m1 : d1 + 2 ^ 8 * y2 = y1) (m2 : d2 + 2 ^ 8 * y3 = y2) (m3 : d3 + 2 ^ 8 * y4 = y3) (m4 : d4 + 2 ^ 8 * y5 = y4) (m5 : d5 + 2 ^ 8 * y6 = y5) (m6 : d6 + 2 ^ 8 * y7 = y6) (m7 : d7 + 2 ^ 8 * 0 = y7) :
    y1 = d1 + 256 * d2 + 65536 * d3 + 16777216 * d4 + 4294967296 * d5 + 1099511627776 * d6 + 281474976710656 * d7 := by
  subst m7 m6 m5 m4 m3 m2 m1
  omega
theorem fold_ds (x : Nat) (h : Dg 8 8 8 x) (s u w : Nat) (hs : s = x + x / 2 ^ 8) (hu : u = s + s / 2 ^ 16) (hw : w = u + u / 2 ^ 32) : w % 2 ^ 7 = ds 8 8 x := by
  simp only [Dg, ds] at h ⊢
  obtain ⟨h0, h1, h2, h3, h4, h5, h6, h7, h8⟩ := h
  have m0 := Nat.mod_add_div x (2 ^ 8)
  generalize x / 2 ^ 8 = y1 at *
  have m1 := Nat.mod_add_div y1 (2 ^ 8)
  generalize y1 / 2 ^ 8 = y2 at *
  have m2 := Nat.mod_add_div y2 (2 ^ 8)
  generalize y2 / 2 ^ 8 = y3 at *
  have m3 := Nat.mod_add_div y3 (2 ^ 8)
  generalize y3 / 2 ^ 8 = y4 at *
  have m4 := Nat.mod_add_div y4 (2 ^ 8)
  generalize y4 / 2 ^ 8 = y5 at *
  have m5 := Nat.mod_add_div y5 (2 ^ 8)
  generalize y5 / 2 ^ 8 = y6 at *
  have m6 := Nat.mod_add_div y6 (2 ^ 8)
  generalize y6 / 2 ^ 8 = y7 at *
  have m7 := Nat.mod_add_div y7 (2 ^ 8)
  rw [h8] at m7
  generalize x % 2 ^ 8 = d0 at *
  generalize y1 % 2 ^ 8 = d1 at *
  generalize y2 % 2 ^ 8 = d2 at *
  generalize y3 % 2 ^ 8 = d3 at *
  generalize y4 % 2 ^ 8 = d4 at *
  generalize y5 % 2 ^ 8 = d5 at *
  generalize y6 % 2 ^ 8 = d6 at *
  generalize y7 % 2 ^ 8 = d7 at *
  have hy := chain d1 d2 d3 d4 d5 d6 d7 y1 y2 y3 y4 y5 y6 y7 m1 m2 m3 m4 m5 m6 m7
  have hx : x = d0 + 256 * y1 := m0.symm
  obtain ⟨_, f2, f3, f4⟩ := fold_eight d0 d1 d2 d3 d4 d5 d6 d7 h0 h1 h2 h3 h4 h5 h6 h7 x y1 s _ (s + s / 65536) _ hy hx hs rfl (by
    have f := (fold_eight d0 d1 d2 d3 d4 d5 d6 d7 h0 h1 h2 h3 h4 h5 h6 h7 x y1 s _ _ _ hy hx hs rfl rfl rfl).2.1
    rw [f]) rfl
  have hu2 : u = s + s / 65536 := hu
  rw [← hu2] at f3 f4
  have hw2 : w = u + u / 4294967296 := hw
  rw [hw2, f3, show (2 : Nat) ^ 7 = 128 from rfl, f4]
  simp only [Nat.add_assoc, Nat.add_zero]

/-- The lowest bit that is set. -/
theorem low {x : Nat} (h : x ≠ 0) : ∃ t m, x = 2 ^ t * (2 * m + 1) := by
  induction x using Nat.strongRecOn with
  | ind x ih =>
    by_cases h2 : x % 2 = 1
    · exact ⟨0, x / 2, by rw [Nat.pow_zero]; omega⟩
    · obtain ⟨t, m, e⟩ := ih (x / 2) (by omega) (by omega)
      exact ⟨t + 1, m, by rw [Nat.pow_succ, Nat.mul_comm (2 ^ t) 2, Nat.mul_assoc, ← e]; omega⟩
theorem low_and {t m : Nat} (h : 2 ^ t * (2 * m + 1) < 2 ^ 64) : t < 64 ∧ (2 ^ t * (2 * m + 1)) &&& (2 ^ 64 - 2 ^ t * (2 * m + 1)) = 2 ^ t := by
  have ht : t < 64 := by
    by_cases h1 : t < 64
    · exact h1
    · have : 2 ^ 64 ≤ 2 ^ t := Nat.pow_le_pow_right (by omega) (by omega)
      have h2 : 2 ^ t * 1 ≤ 2 ^ t * (2 * m + 1) := Nat.mul_le_mul_left _ (by omega)
      omega
  refine ⟨ht, ?_⟩
  have hp : (2 : Nat) ^ 64 = 2 ^ t * (2 * 2 ^ (63 - t)) := by rw [← Nat.pow_succ', ← Nat.pow_add]; congr 1; omega
  have hm : m < 2 ^ (63 - t) := by
    rw [hp] at h
    have := Nat.lt_of_mul_lt_mul_left h
    omega
  have e : 2 ^ 64 - 2 ^ t * (2 * m + 1) = 0 + 2 ^ t * (1 + 2 ^ 1 * (2 ^ (63 - t) - (m + 1))) := by
    rw [hp, ← Nat.mul_sub, Nat.zero_add]; congr 1; omega
  have e2 : 2 ^ t * (2 * m + 1) = 0 + 2 ^ t * (1 + 2 ^ 1 * m) := by rw [Nat.zero_add]; congr 1; omega
  rw [e]
  conv => lhs; arg 1; rw [e2]
  rw [and_split t 0 _ 0 _ (Nat.two_pow_pos _) (Nat.two_pow_pos _), and_split 1 1 _ 1 _ (by decide) (by decide)]
  have : m &&& (2 ^ (63 - t) - (m + 1)) = 0 := by
    apply Nat.eq_of_testBit_eq
    intro i
    rw [Nat.testBit_and, Nat.testBit_two_pow_sub_succ hm]
    by_cases hb : m.testBit i = true <;> simp [hb]
  rw [this]; simp
theorem low_off (t m : Nat) : (2 ^ t * (2 * m + 1)) &&& (2 ^ t * (2 * m + 1) - 1) = 2 ^ t * (2 * m) := by
  have hp := Nat.two_pow_pos t
  have e2 : 2 ^ t * (2 * m + 1) = 0 + 2 ^ t * (1 + 2 ^ 1 * m) := by rw [Nat.zero_add]; congr 1; omega
  have e3 : 2 ^ t * (2 * m + 1) - 1 = (2 ^ t - 1) + 2 ^ t * (0 + 2 ^ 1 * m) := by
    have : 2 ^ t * (2 * m + 1) = 2 ^ t * (2 * m) + 2 ^ t := by rw [Nat.mul_add, Nat.mul_one]
    have e4 : 2 ^ t * (0 + 2 ^ 1 * m) = 2 ^ t * (2 * m) := by congr 1; omega
    omega
  rw [e3]
  conv => lhs; arg 1; rw [e2]
  rw [and_split t 0 _ _ _ hp (by omega), and_split 1 1 _ 0 _ (by decide) (by decide), Nat.and_self]
  simp

end Go.Chr
