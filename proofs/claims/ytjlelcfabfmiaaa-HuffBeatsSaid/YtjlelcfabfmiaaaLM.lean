/- Plain laws of code lengths: sums, codes, the intervals of fifteen bits. -/
import Derived.IntWalk
namespace Go.Lens

abbrev Ns := List Nat

/-- What the codes of no more than k bits take. -/
def K (ns : Ns) : Nat → Nat
  | 0 => 0
  | k + 1 => K ns k + ns.count (k + 1) * 2 ^ (14 - k)
/-- The first code of b bits. -/
def st (ns : Ns) : Nat → Nat
  | 0 => 0
  | 1 => 0
  | b + 2 => 2 * (st ns (b + 1) + ns.count (b + 1))
def w (x : Nat) : Nat := if x = 0 then 0 else 2 ^ (15 - x)
def kr (ns : Ns) : Nat := (ns.map w).sum
def Ok (ns : Ns) : Prop := ∀ x ∈ ns, x ≤ 15

theorem st_K (ns : Ns) : ∀ b, b ≤ 14 → st ns (b + 1) * 2 ^ (14 - b) = K ns b
  | 0, _ => by simp [st, K]
  | b + 1, h => by
    have ih := st_K ns b (by omega)
    have e : 14 - b = (14 - (b + 1)) + 1 := by omega
    show 2 * (st ns (b + 1) + ns.count (b + 1)) * 2 ^ (14 - (b + 1)) = K ns b + ns.count (b + 1) * 2 ^ (14 - b)
    rw [← ih, e, Nat.pow_succ]
    generalize 2 ^ (14 - (b + 1)) = p
    generalize st ns (b + 1) = a
    generalize ns.count (b + 1) = c
    rw [Nat.mul_assoc, Nat.add_mul, Nat.mul_add, ← Nat.mul_assoc, ← Nat.mul_assoc, ← Nat.mul_assoc, ← Nat.mul_assoc, Nat.mul_comm 2 a, Nat.mul_comm 2 c, Nat.mul_right_comm, Nat.mul_right_comm c]
theorem K_cons (x : Nat) (xs : Ns) : ∀ k, k ≤ 15 → K (x :: xs) k = K xs k + (if 1 ≤ x ∧ x ≤ k then 2 ^ (15 - x) else 0)
  | 0, _ => by rw [if_neg (by omega)]; rfl
  | k + 1, h => by
    have ih := K_cons x xs k (by omega)
    simp only [K]
    rw [ih, List.count_cons]
    by_cases hx : x = k + 1
    · subst hx
      have e1 : (if 1 ≤ k + 1 ∧ k + 1 ≤ k then 2 ^ (15 - (k + 1)) else 0) = 0 := if_neg (by omega)
      have e2 : (if 1 ≤ k + 1 ∧ k + 1 ≤ k + 1 then 2 ^ (15 - (k + 1)) else 0) = 2 ^ (14 - k) := by rw [if_pos (by omega), show 15 - (k + 1) = 14 - k by omega]
      have e3 : (if ((k + 1 == k + 1) = true) then 1 else 0) = 1 := by simp
      rw [e1, e2, e3, Nat.add_mul, Nat.one_mul]; omega
    · have : (x == k + 1) = false := by simpa using hx
      rw [this]
      have e3 : (if (false = true) then 1 else 0) = 0 := rfl
      rw [e3, Nat.add_zero]
      by_cases h2 : 1 ≤ x ∧ x ≤ k
      · rw [if_pos h2, if_pos (by omega)]; omega
      · rw [if_neg h2, if_neg (by omega)]; omega
theorem kr_eq : ∀ (ns : Ns), Ok ns → kr ns = K ns 15
  | [], _ => by decide
  | x :: xs, h => by
    have ih := kr_eq xs (fun y hy => h y (by simp [hy]))
    rw [K_cons x xs 15 (Nat.le_refl _), ← ih]
    have hx := h x (by simp)
    simp only [kr, List.map_cons, List.sum_cons, w]
    by_cases h0 : x = 0
    · rw [if_pos h0, if_neg (by omega)]; omega
    · rw [if_neg h0, if_pos (by omega)]; omega
theorem K_mono (ns : Ns) {j k : Nat} (h : j ≤ k) : K ns j ≤ K ns k := by
  induction k with
  | zero => have : j = 0 := by omega
            subst this; exact Nat.le_refl _
  | succ k ih =>
    by_cases hj : j = k + 1
    · subst hj; exact Nat.le_refl _
    · have := ih (by omega); simp only [K]; omega
theorem take_snoc {α : Type} {l : List α} {i : Nat} {x : α} (h : l[i]? = some x) : l.take (i + 1) = l.take i ++ [x] := by
  rw [List.take_add_one, h]; rfl
theorem count_step {ns : Ns} {i x : Nat} (h : ns[i]? = some x) (y : Nat) : (ns.take (i + 1)).count y = (ns.take i).count y + (if x = y then 1 else 0) := by
  rw [take_snoc h, List.count_append, List.count_singleton]
  congr 1
  by_cases hxy : x = y
  · subst hxy; simp
  · rw [if_neg hxy]; simp [hxy]
theorem count_take_mono (ns : Ns) (y : Nat) {i k : Nat} (h : i ≤ k) : (ns.take i).count y ≤ (ns.take k).count y := by
  have e : ns.take i = (ns.take k).take i := by rw [List.take_take]; congr 1; omega
  rw [e]
  exact List.Sublist.count_le _ (List.take_sublist _ _)
theorem count_take_le (ns : Ns) (y i : Nat) : (ns.take i).count y ≤ ns.count y := List.Sublist.count_le _ (List.take_sublist _ _)
theorem count_lt {ns : Ns} {i x : Nat} (h : ns[i]? = some x) : (ns.take i).count x + 1 ≤ ns.count x := by
  have := count_take_le ns x (i + 1)
  rw [count_step h, if_pos rfl] at this; exact this
theorem count_lt' {ns : Ns} {i k x : Nat} (h : ns[i]? = some x) (hk : i < k) : (ns.take i).count x + 1 ≤ (ns.take k).count x := by
  have := count_take_mono ns x (show i + 1 ≤ k from hk)
  rw [count_step h, if_pos rfl] at this; exact this
theorem count_len (ns : Ns) (y : Nat) : ns.count y ≤ ns.length := List.count_le_length

/-- The code of place i, whose length is x. -/
def code (ns : Ns) (i x : Nat) : Nat := if x = 0 then 0 else st ns x + (ns.take i).count x
def lo (ns : Ns) (i x : Nat) : Nat := K ns (x - 1) + (ns.take i).count x * 2 ^ (15 - x)
theorem code_lo (ns : Ns) (i x : Nat) (h : 1 ≤ x ∧ x ≤ 15) : code ns i x * 2 ^ (15 - x) = lo ns i x := by
  have := st_K ns (x - 1) (by omega)
  rw [show x - 1 + 1 = x by omega, show 14 - (x - 1) = 15 - x by omega] at this
  unfold code lo
  rw [if_neg (by omega), Nat.add_mul, this]
theorem hi_le {ns : Ns} {i x : Nat} (h : ns[i]? = some x) (hx : 1 ≤ x ∧ x ≤ 15) : lo ns i x + 2 ^ (15 - x) ≤ K ns x := by
  have h1 := count_lt h
  obtain ⟨b, rfl⟩ : ∃ b, x = b + 1 := ⟨x - 1, by omega⟩
  simp only [lo, K, Nat.add_sub_cancel]
  rw [show 15 - (b + 1) = 14 - b by omega]
  have h2 := Nat.mul_le_mul_right (2 ^ (14 - b)) h1
  rw [Nat.add_mul, Nat.one_mul] at h2
  omega
theorem apart {ns : Ns} {i k x y : Nat} (hi : ns[i]? = some x) (hk : ns[k]? = some y) (hx : 1 ≤ x ∧ x ≤ 15) (hy : 1 ≤ y ∧ y ≤ 15) (h : x < y ∨ x = y ∧ i < k) : lo ns i x + 2 ^ (15 - x) ≤ lo ns k y := by
  rcases h with h | ⟨rfl, h⟩
  · have h1 := hi_le hi hx
    have h2 := K_mono ns (show x ≤ y - 1 by omega)
    unfold lo at *; omega
  · have h1 := Nat.mul_le_mul_right (2 ^ (15 - x)) (count_lt' hi h)
    rw [Nat.add_mul, Nat.one_mul] at h1
    unfold lo; omega
theorem two_pos (k : Nat) : 1 ≤ 2 ^ k := Nat.one_le_two_pow
theorem code_lt {ns : Ns} {i x : Nat} (h : ns[i]? = some x) (hx : x ≤ 15) (hK : K ns 15 ≤ 32768) : code ns i x < 2 ^ x := by
  by_cases h0 : x = 0
  · subst h0; simp [code]
  · have h1 := hi_le h ⟨by omega, hx⟩
    have h2 := K_mono ns hx
    rw [← code_lo ns i x ⟨by omega, hx⟩] at h1
    have h3 : (code ns i x + 1) * 2 ^ (15 - x) ≤ 2 ^ x * 2 ^ (15 - x) := by
      rw [← Nat.pow_add, show x + (15 - x) = 15 by omega, Nat.add_mul, Nat.one_mul]; omega
    exact Nat.lt_of_succ_le (Nat.le_of_mul_le_mul_right h3 (two_pos _))
theorem st_le {ns : Ns} {b : Nat} (h : b ≤ 15) (hK : K ns 15 ≤ 32768) : st ns b ≤ 32768 := by
  by_cases h0 : b = 0
  · subst h0; simp [st]
  · have h1 := st_K ns (b - 1) (by omega)
    rw [show b - 1 + 1 = b by omega] at h1
    have h2 := K_mono ns (show b - 1 ≤ 15 by omega)
    have h3 : st ns b * 1 ≤ st ns b * 2 ^ (14 - (b - 1)) := Nat.mul_le_mul_left _ (two_pos _)
    omega
theorem K_le (ns : Ns) : ∀ k, K ns k ≤ k * (ns.length * 16384)
  | 0 => by simp [K]
  | k + 1 => by
    have ih := K_le ns k
    have h1 := count_len ns (k + 1)
    have h2 : (2:Nat) ^ (14 - k) ≤ 2 ^ 14 := Nat.pow_le_pow_right (by omega) (by omega)
    have h3 := Nat.mul_le_mul h1 h2
    simp only [K, Nat.succ_mul]; omega
/-- fifteen bits begin with the code of place i. -/
theorem begins (ns : Ns) (i x v : Nat) (hx : 1 ≤ x ∧ x ≤ 15) : v / 2 ^ (15 - x) = code ns i x ↔ lo ns i x ≤ v ∧ v < lo ns i x + 2 ^ (15 - x) := by
  rw [← code_lo ns i x hx]
  have hp := two_pos (15 - x)
  generalize 2 ^ (15 - x) = p at *
  generalize code ns i x = c at *
  constructor
  · rintro rfl
    have h1 := Nat.div_add_mod v p
    have h2 := Nat.mod_lt v (show p > 0 by omega)
    rw [Nat.mul_comm] at h1
    omega
  · intro ⟨h1, h2⟩
    exact Nat.div_eq_of_lt_le h1 (by rw [Nat.succ_mul]; exact h2)
theorem find_place : ∀ (ns : Ns) (b r : Nat), r < ns.count b → ∃ i, ns[i]? = some b ∧ (ns.take i).count b = r
  | [], b, r, h => by simp at h
  | x :: xs, b, r, h => by
    rw [List.count_cons] at h
    by_cases hx : x = b
    · subst hx
      by_cases hr : r = 0
      · subst hr; exact ⟨0, by simp, by simp⟩
      · simp at h
        obtain ⟨i, h1, h2⟩ := find_place xs x (r - 1) (by omega)
        exact ⟨i + 1, by simpa using h1, by rw [List.take_succ_cons, List.count_cons, h2]; simp; omega⟩
    · have : (x == b) = false := by simpa using hx
      rw [this] at h
      obtain ⟨i, h1, h2⟩ := find_place xs b r (by simpa using h)
      exact ⟨i + 1, by simpa using h1, by rw [List.take_succ_cons, List.count_cons, h2, this]; simp⟩
theorem find_len (ns : Ns) (v : Nat) : ∀ k, v < K ns k → ∃ b, 1 ≤ b ∧ b ≤ k ∧ K ns (b - 1) ≤ v ∧ v < K ns b
  | 0, h => by simp [K] at h
  | k + 1, h => by
    by_cases hk : v < K ns k
    · obtain ⟨b, h1, h2, h3⟩ := find_len ns v k hk
      exact ⟨b, h1, by omega, h3⟩
    · exact ⟨k + 1, by omega, Nat.le_refl _, by simpa using hk, h⟩
theorem cover {ns : Ns} (hK : K ns 15 = 32768) {v : Nat} (hv : v < 32768) : ∃ i x, ns[i]? = some x ∧ 1 ≤ x ∧ x ≤ 15 ∧ lo ns i x ≤ v ∧ v < lo ns i x + 2 ^ (15 - x) := by
  obtain ⟨b, h1, h2, h3, h4⟩ := find_len ns v 15 (by omega)
  obtain ⟨c, rfl⟩ : ∃ c, b = c + 1 := ⟨b - 1, by omega⟩
  simp only [Nat.add_sub_cancel] at h3
  simp only [K] at h4
  have hp := two_pos (14 - c)
  have hr : (v - K ns c) / 2 ^ (14 - c) < ns.count (c + 1) := (Nat.div_lt_iff_lt_mul hp).2 (by omega)
  obtain ⟨i, g1, g2⟩ := find_place ns (c + 1) _ hr
  have h5 := Nat.div_add_mod (v - K ns c) (2 ^ (14 - c))
  have h6 := Nat.mod_lt (v - K ns c) (show 2 ^ (14 - c) > 0 from hp)
  rw [Nat.mul_comm] at h5
  refine ⟨i, c + 1, g1, h1, h2, ?_⟩
  unfold lo
  rw [g2, Nat.add_sub_cancel, show 15 - (c + 1) = 14 - c by omega]
  omega
theorem only {ns : Ns} {i k x y v : Nat} (hi : ns[i]? = some x) (hk : ns[k]? = some y) (hx : 1 ≤ x ∧ x ≤ 15) (hy : 1 ≤ y ∧ y ≤ 15) (h1 : lo ns i x ≤ v ∧ v < lo ns i x + 2 ^ (15 - x)) (h2 : lo ns k y ≤ v ∧ v < lo ns k y + 2 ^ (15 - y)) : i = k := by
  rcases Nat.lt_trichotomy i k with h | h | h
  · rcases Nat.lt_trichotomy x y with g | g | g
    · have := apart hi hk hx hy (.inl g); omega
    · have := apart hi hk hx hy (.inr ⟨g, h⟩); omega
    · have := apart hk hi hy hx (.inl g); omega
  · exact h
  · rcases Nat.lt_trichotomy x y with g | g | g
    · have := apart hi hk hx hy (.inl g); omega
    · have := apart hk hi hy hx (.inr ⟨g.symm, h⟩); omega
    · have := apart hk hi hy hx (.inl g); omega

/-- How many are not 0. -/
def used (ns : Ns) : Nat := ns.length - ns.count 0
theorem count0_le (ns : Ns) : ns.count 0 ≤ ns.length := List.count_le_length
def some0 (ns : Ns) : Nat := (ns.filter (fun x => x != 0)).length
theorem some_used (ns : Ns) : some0 ns + ns.count 0 = ns.length := by
  induction ns with
  | nil => rfl
  | cons x xs ih =>
    simp only [some0, List.filter_cons, List.count_cons, List.length_cons] at *
    by_cases h : x = 0 <;> simp [h] <;> omega
theorem one_used : ∀ (ns : Ns), Ok ns → ns.length - ns.count 0 = 1 → (ns.count 1 = 1 ↔ K ns 15 = 16384)
  | [], _, h => by simp at h
  | x :: xs, ho, h => by
    have hc := count0_le xs
    have hx := ho x (by simp)
    rw [K_cons x xs 15 (Nat.le_refl _), List.count_cons]
    rw [List.count_cons, List.length_cons] at h
    by_cases h0 : x = 0
    · subst h0
      have := one_used xs (fun y hy => ho y (by simp [hy])) (by simp at h; omega)
      simp; exact this
    · have hx0 : (x == 0) = false := by simpa using h0
      rw [hx0] at h
      have hall : xs.length = xs.count 0 := by simp at h; omega
      have hz : ∀ y ∈ xs, 0 = y := List.count_eq_length.1 hall.symm
      have hc1 : ∀ j, 1 ≤ j → xs.count j = 0 := fun j hj => List.count_eq_zero.2 (fun hm => by have := hz j hm; omega)
      have hK0 : ∀ k, K xs k = 0 := by
        intro k; induction k with
        | zero => rfl
        | succ k ih => simp only [K, ih, hc1 (k + 1) (by omega)]; simp
      have e : (if 1 ≤ x ∧ x ≤ 15 then 2 ^ (15 - x) else 0) = 2 ^ (15 - x) := if_pos (by omega)
      rw [hK0, hc1 1 (by omega), e]
      have : ∀ x : Nat, 1 ≤ x → x ≤ 15 → ((0 + (if (x == 1) = true then 1 else 0) = 1) ↔ 0 + 2 ^ (15 - x) = 16384) := by
        intro x h1 h2
        have : ∀ y : Fin 16, 1 ≤ y.val → ((0 + (if (y.val == 1) = true then 1 else 0) = 1) ↔ 0 + 2 ^ (15 - y.val) = 16384) := by decide
        exact this ⟨x, by omega⟩ h1
      exact this x (by omega) hx

end Go.Lens
