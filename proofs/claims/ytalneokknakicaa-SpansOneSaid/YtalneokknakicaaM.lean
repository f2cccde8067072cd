/- Plain laws of the symbols: bases. -/
import Derived.IntWalk
namespace Go.Spans

def bse (e b : Int) : Nat → Int
  | 0 => b
  | k + 1 => bse e b k + 2 ^ (max 0 ((k : Int) / e - 1)).toNat

def bt (e : Int) (k : Nat) : Int := max 0 ((k : Int) / e - 1)

def Pair (e b : Int) (c : Nat) : Prop := (e = 4 ∧ b = 3 ∧ c ≤ 28) ∨ (e = 2 ∧ b = 1 ∧ c ≤ 30)

theorem bse_lt4 : ∀ k : Nat, k < 29 → 3 ≤ bse 4 3 k ∧ bse 4 3 k ≤ 300 ∧ 0 ≤ bt 4 k ∧ bt 4 k ≤ 15 := by decide +kernel
theorem bse_lt2 : ∀ k : Nat, k < 31 → 1 ≤ bse 2 1 k ∧ bse 2 1 k ≤ 33000 ∧ 0 ≤ bt 2 k ∧ bt 2 k ≤ 15 := by decide +kernel

theorem bse_bd {e b : Int} {c : Nat} (h : Pair e b c) (k : Nat) (hk : k ≤ c) : 1 ≤ bse e b k ∧ bse e b k ≤ 33000 ∧ 0 ≤ bt e k ∧ bt e k ≤ 15 := by
  rcases h with ⟨rfl, rfl, hc⟩ | ⟨rfl, rfl, hc⟩
  · have := bse_lt4 k (by omega); omega
  · exact bse_lt2 k (by omega)

theorem bse_succ (e b : Int) (k : Nat) : bse e b (k + 1) = bse e b k + 2 ^ (bt e k).toNat := rfl
theorem pow_pos' (q : Int) : (0 : Int) < 2 ^ q.toNat := Int.pow_pos (by omega)
theorem pow_le' (q : Int) (h : q ≤ 15) : (2 : Int) ^ q.toNat ≤ 32768 := by
  have h1 : q.toNat ≤ 15 := by omega
  have h2 : (2 : Nat) ^ q.toNat ≤ 2 ^ 15 := Nat.pow_le_pow_right (by omega) h1
  have h3 : ((2 ^ q.toNat : Nat) : Int) ≤ ((2 ^ 15 : Nat) : Int) := by exact_mod_cast h2
  simpa using h3

theorem bse_mono {e b : Int} {i j : Nat} (h : i ≤ j) : bse e b i ≤ bse e b j := by
  induction j with
  | zero => have : i = 0 := by omega
            subst this; exact Int.le_refl _
  | succ j ih =>
    by_cases hij : i = j + 1
    · subst hij; exact Int.le_refl _
    · have := ih (by omega); rw [bse_succ]; have := pow_pos' (bt e j); omega

/-- The greatest place up to i whose base is not above n. -/
def srch (e b n : Int) : Nat → Nat
  | 0 => 0
  | i + 1 => if bse e b (i + 1) ≤ n then i + 1 else srch e b n i

theorem srch_le (e b n : Int) : ∀ i, srch e b n i ≤ i
  | 0 => Nat.le_refl _
  | i + 1 => by unfold srch; split; exact Nat.le_refl _; have := srch_le e b n i; omega
theorem srch_base (e b n : Int) (h : b ≤ n) : ∀ i, bse e b (srch e b n i) ≤ n
  | 0 => h
  | i + 1 => by unfold srch; split; assumption; exact srch_base e b n h i
theorem srch_stop (e b n : Int) {i : Nat} (h : bse e b i ≤ n) : srch e b n i = i := by
  cases i with
  | zero => rfl
  | succ i => unfold srch; rw [if_pos h]
theorem srch_step (e b n : Int) {i : Nat} (h : ¬ bse e b (i + 1) ≤ n) : srch e b n (i + 1) = srch e b n i := by
  conv => lhs; unfold srch
  rw [if_neg h]
theorem srch_up (e b n : Int) : ∀ i, srch e b n i < i → n < bse e b (srch e b n i + 1)
  | 0, h => by omega
  | i + 1, h => by
    unfold srch at h ⊢
    split at h
    · omega
    · rename_i hn
      rw [if_neg hn]
      by_cases hs : srch e b n i < i
      · exact srch_up e b n i hs
      · have := srch_le e b n i
        have hs' : srch e b n i = i := by omega
        rw [hs']; omega
theorem srch_eq (e b n : Int) {i j : Nat} (hij : i ≤ j) (h1 : bse e b i ≤ n) (h2 : i < j → n < bse e b (i + 1)) : srch e b n j = i := by
  induction j with
  | zero => have : i = 0 := by omega
            subst this; rfl
  | succ j ih =>
    by_cases he : i = j + 1
    · subst he; exact srch_stop e b n h1
    · have h3 := h2 (by omega)
      have : bse e b (i + 1) ≤ bse e b (j + 1) := bse_mono (by omega)
      rw [srch_step e b n (by omega)]
      exact ih (by omega) (fun h => h3)

def ofS (f : Int) (c : Nat) (b e : Int) (s : Int) : Int × Int × Bool := if s < f ∨ f + c ≤ s then (0, 0, false) else (bse e b (s - f).toNat, bt e (s - f).toNat, true)
def lenS (s : Int) : Int × Int × Bool := if s = 285 then (258, 0, true) else ofS 257 28 3 4 s
def distS (s : Int) : Int × Int × Bool := ofS 0 30 1 2 s
def ofLenS (n : Int) : Int × Int × Int × Int := if n < 3 ∨ 258 < n then (0, 0, 0, 1) else if n = 258 then (285, 0, 0, 0) else
  (257 + (srch 4 3 n 27 : Nat), bt 4 (srch 4 3 n 27), n - bse 4 3 (srch 4 3 n 27), 0)
def ofDistS (n : Int) : Int × Int × Int × Int := if n < 1 ∨ 32768 < n then (0, 0, 0, 1) else
  (0 + (srch 2 1 n 29 : Nat), bt 2 (srch 2 1 n 29), n - bse 2 1 (srch 2 1 n 29), 0)

theorem bse29 : bse 2 1 29 = 24577 ∧ bt 2 29 = 13 := by decide +kernel
theorem bse27 : bse 4 3 27 = 227 ∧ bt 4 27 = 5 := by decide +kernel

/-- What is left of a number above its base. -/
theorem dist_left {k : Int} (h1 : 1 ≤ k) (h2 : k ≤ 32768) : 0 ≤ k - bse 2 1 (srch 2 1 k 29) ∧ k - bse 2 1 (srch 2 1 k 29) < 2 ^ (bt 2 (srch 2 1 k 29)).toNat := by
  have hb := srch_base 2 1 k h1 29
  refine ⟨by omega, ?_⟩
  by_cases hlt : srch 2 1 k 29 < 29
  · have := srch_up 2 1 k 29 hlt
    rw [bse_succ] at this; omega
  · have h9 : srch 2 1 k 29 = 29 := by have := srch_le 2 1 k 29; omega
    rw [h9, bse29.1, bse29.2]; simp; omega
theorem len_left {k : Int} (h1 : 3 ≤ k) (h2 : k < 258) : 0 ≤ k - bse 4 3 (srch 4 3 k 27) ∧ k - bse 4 3 (srch 4 3 k 27) < 2 ^ (bt 4 (srch 4 3 k 27)).toNat := by
  have hb := srch_base 4 3 k h1 27
  refine ⟨by omega, ?_⟩
  by_cases hlt : srch 4 3 k 27 < 27
  · have := srch_up 4 3 k 27 hlt
    rw [bse_succ] at this; omega
  · have h9 : srch 4 3 k 27 = 27 := by have := srch_le 4 3 k 27; omega
    rw [h9, bse27.1, bse27.2]; simp; omega

end Go.Spans
