/- Plain laws: the rows of coins and packets. -/
import Derived.Test.YtjlelcfabfmiaaaM2
namespace Go.Hf
set_option linter.unusedVariables false
set_option linter.unusedSimpArgs false
def rowsV (coins : List Coin) : Nat → List Coin
  | 0 => coins
  | k + 1 => mg leC coins (pk (rowsV coins k))
theorem rows_len_succ (coins : List Coin) (k : Nat) : (rowsV coins (k + 1)).length = coins.length + (rowsV coins k).length / 2 := by
  rw [rowsV, mg_len, pk_len]
theorem rows_ge (coins : List Coin) : ∀ (k t : Nat), coins.length ≤ 2 ^ (k + 1) * t → 2 * coins.length ≤ (rowsV coins k).length + 2 * t
  | 0, t, h => by rw [rowsV]; omega
  | k + 1, t, h => by
    have h1 := rows_ge coins k (2 * t) (by rw [← Nat.mul_assoc, ← Nat.pow_succ]; exact h)
    rw [rows_len_succ]; omega
theorem rows_le (coins : List Coin) : ∀ k : Nat, (rowsV coins k).length ≤ 2 * coins.length
  | 0 => by rw [rowsV]; omega
  | k + 1 => by
    have h1 := rows_le coins k
    rw [rows_len_succ]; omega
theorem pk_mem {c : Coin} : ∀ {l : List Coin}, c ∈ pk l → ∃ x ∈ l, ∃ y ∈ l, c = (x.1 + y.1, x.2 ++ y.2)
  | [], h => by simp [pk] at h
  | [x], h => by simp [pk] at h
  | x :: y :: r, h => by
    rw [pk] at h
    rcases List.mem_cons.1 h with rfl | h
    · exact ⟨x, by simp, y, by simp, rfl⟩
    · obtain ⟨u, hu, v, hv, e⟩ := pk_mem h
      exact ⟨u, by simp [hu], v, by simp [hv], e⟩
/-- What a coin of a row may be. -/
structure CB (n : Nat) (B : Int) (k : Nat) (c : Coin) : Prop where
  nn : 0 ≤ c.1
  le : c.1 ≤ ((2 ^ k : Nat) : Int) * B
  len : c.2.length ≤ 2 ^ k
  lt : ∀ r ∈ c.2, r < n
theorem CB.up {n : Nat} {B : Int} {k : Nat} {c : Coin} (hB : 0 ≤ B) (h : CB n B k c) : CB n B (k + 1) c := by
  have e : (((2 ^ (k + 1) : Nat) : Int)) * B = ((2 ^ k : Nat) : Int) * B + ((2 ^ k : Nat) : Int) * B := by rw [Nat.pow_succ, Nat.mul_two, Int.natCast_add, Int.add_mul]
  have h0 : 0 ≤ ((2 ^ k : Nat) : Int) * B := Int.mul_nonneg (Int.natCast_nonneg _) hB
  have := h.le
  have h2 := h.len
  have e2 : 2 ^ (k + 1) = 2 ^ k + 2 ^ k := by rw [Nat.pow_succ, Nat.mul_two]
  exact ⟨h.nn, by omega, by omega, h.lt⟩
theorem CB.two {n : Nat} {B : Int} {k : Nat} {x y : Coin} (hx : CB n B k x) (hy : CB n B k y) : CB n B (k + 1) (x.1 + y.1, x.2 ++ y.2) := by
  have e : (((2 ^ (k + 1) : Nat) : Int)) * B = ((2 ^ k : Nat) : Int) * B + ((2 ^ k : Nat) : Int) * B := by rw [Nat.pow_succ, Nat.mul_two, Int.natCast_add, Int.add_mul]
  have e2 : 2 ^ (k + 1) = 2 ^ k + 2 ^ k := by rw [Nat.pow_succ, Nat.mul_two]
  have h1 := hx.le
  have h2 := hy.le
  have h3 := hx.nn
  have h4 := hy.nn
  have h5 := hx.len
  have h6 := hy.len
  refine ⟨by show 0 ≤ x.1 + y.1; omega, by show x.1 + y.1 ≤ _; omega, by show (x.2 ++ y.2).length ≤ _; rw [List.length_append]; omega, fun r hr => ?_⟩
  rcases List.mem_append.1 (show r ∈ x.2 ++ y.2 from hr) with h | h
  · exact hx.lt r h
  · exact hy.lt r h
theorem rows_cb {coins : List Coin} {n : Nat} {B : Int} (hB : 0 ≤ B) (h0 : ∀ c ∈ coins, CB n B 0 c) : ∀ (k : Nat), ∀ c ∈ rowsV coins k, CB n B k c
  | 0, c, hc => h0 c hc
  | k + 1, c, hc => by
    have hup : ∀ k, ∀ c ∈ coins, CB n B k c := fun k => by
      induction k with
      | zero => exact h0
      | succ k ih => exact fun c hc => (ih c hc).up hB
    rcases mg_mem leC c _ _ hc with h | h
    · exact hup (k + 1) c h
    · obtain ⟨x, hx, y, hy, rfl⟩ := pk_mem h
      exact (rows_cb hB h0 k x hx).two (rows_cb hB h0 k y hy)
theorem CB.weak {n : Nat} {k : Nat} {c : Coin} (h : CB n 4294967296 k c) (hk : k ≤ 15) : c.1 ≤ 1152921504606846976 ∧ c.2.length ≤ 32768 := by
  have h1 := h.le
  have h2 := h.len
  have h3 : 2 ^ k ≤ 2 ^ 15 := Nat.pow_le_pow_right (by omega) hk
  have h4 : ((2 ^ k : Nat) : Int) ≤ 32768 := Int.ofNat_le.2 h3
  omega
def countV (n : Nat) (s : List Nat) : List Nat := (List.range n).map fun r => s.count r
def symsV (row : List Coin) : List Nat := row.flatMap (·.2)
theorem count_len (n : Nat) (s : List Nat) : (countV n s).length = n := by simp [countV]
theorem count_get {n r : Nat} (s : List Nat) (h : r < n) : (countV n s)[r]? = some (s.count r) := by
  rw [countV, List.getElem?_map, List.getElem?_range h]; rfl
theorem count_more {n r : Nat} (s : List Nat) (h : r < n) : (countV n s).set r (s.count r + 1) = countV n (s ++ [r]) := by
  apply List.ext_getElem?
  intro i
  rcases Nat.lt_or_ge i n with hi | hi
  · rw [count_get _ hi, List.getElem?_set]
    by_cases e : r = i
    · subst e
      rw [if_pos rfl, if_pos (by rw [count_len]; exact h), List.count_append]; simp
    · rw [if_neg e, count_get _ hi, List.count_append]
      have : [r].count i = 0 := by rw [List.count_singleton]; simp [e]
      rw [this]; rfl
  · rw [List.getElem?_eq_none (by rw [List.length_set, count_len]; exact hi), List.getElem?_eq_none (by rw [count_len]; exact hi)]
theorem count_nil (n : Nat) : countV n [] = List.replicate n 0 := by
  unfold countV
  rw [List.eq_replicate_iff]
  simp
theorem syms_succ {row : List Coin} {j : Nat} {z : Coin} (h : row[j]? = some z) : symsV (row.take (j + 1)) = symsV (row.take j) ++ z.2 := by
  unfold symsV
  rw [List.take_add_one, h, List.flatMap_append]; simp
theorem syms_len (row : List Coin) (B : Nat) (h : ∀ c ∈ row, c.2.length ≤ B) : (symsV row).length ≤ B * row.length := by
  induction row with
  | nil => simp [symsV]
  | cons c row ih =>
    have h1 := ih (fun c hc => h c (by simp [hc]))
    have h2 := h c (by simp)
    unfold symsV at h1 ⊢
    rw [List.flatMap_cons, List.length_append, List.length_cons, Nat.mul_succ]; omega
/-- Numbers put into a row, at the places of us. -/
def outV (us : List Nat) (g : Nat → Int) (n len : Nat) : List Int := (List.range n).foldl (fun l i => l.set (us.getD i 0) (g i)) (List.replicate len 0)
theorem out_succ (us : List Nat) (g : Nat → Int) (n len : Nat) : outV us g (n + 1) len = (outV us g n len).set (us.getD n 0) (g n) := by
  unfold outV; rw [List.range_succ, List.foldl_append]; rfl
theorem out_len (us : List Nat) (g : Nat → Int) (n len : Nat) : (outV us g n len).length = len := by
  induction n with
  | zero => simp [outV]
  | succ n ih => rw [out_succ, List.length_set, ih]
end Go.Hf
