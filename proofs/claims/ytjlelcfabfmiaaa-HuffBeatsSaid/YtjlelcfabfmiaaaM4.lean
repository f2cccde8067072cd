/- Plain laws: packets of coins cost the least. -/
import Derived.Test.YtjlelcfabfmiaaaM3
namespace Go.Hf
set_option linter.unusedVariables false
set_option linter.unusedSimpArgs false
def sumN : Nat → (Nat → Nat) → Nat
  | 0, _ => 0
  | n + 1, f => sumN n f + f n
def sumZ : Nat → (Nat → Int) → Int
  | 0, _ => 0
  | n + 1, f => sumZ n f + f n
theorem sumN_congr {f g : Nat → Nat} : ∀ n, (∀ r, r < n → f r = g r) → sumN n f = sumN n g
  | 0, _ => rfl
  | n + 1, h => by rw [sumN, sumN, sumN_congr n (fun r hr => h r (by omega)), h n (by omega)]
theorem sumZ_congr {f g : Nat → Int} : ∀ n, (∀ r, r < n → f r = g r) → sumZ n f = sumZ n g
  | 0, _ => rfl
  | n + 1, h => by rw [sumZ, sumZ, sumZ_congr n (fun r hr => h r (by omega)), h n (by omega)]
theorem sumN_add (f g : Nat → Nat) : ∀ n, sumN n (fun r => f r + g r) = sumN n f + sumN n g
  | 0 => rfl
  | n + 1 => by simp only [sumN]; rw [sumN_add f g n]; omega
theorem sumZ_add (f g : Nat → Int) : ∀ n, sumZ n (fun r => f r + g r) = sumZ n f + sumZ n g
  | 0 => rfl
  | n + 1 => by simp only [sumZ]; rw [sumZ_add f g n]; omega
theorem sumZ_le {f g : Nat → Int} : ∀ n, (∀ r, r < n → f r ≤ g r) → sumZ n f ≤ sumZ n g
  | 0, _ => Int.le_refl _
  | n + 1, h => by
    have h1 := sumZ_le n (fun r hr => h r (by omega))
    have h2 := h n (by omega)
    simp only [sumZ]; omega
theorem sumN_le {f g : Nat → Nat} : ∀ n, (∀ r, r < n → f r ≤ g r) → sumN n f ≤ sumN n g
  | 0, _ => Nat.le_refl _
  | n + 1, h => by
    have h1 := sumN_le n (fun r hr => h r (by omega))
    have h2 := h n (by omega)
    simp only [sumN]; omega
theorem sumN_zero : ∀ n, sumN n (fun _ => 0) = 0
  | 0 => rfl
  | n + 1 => by simp only [sumN]; rw [sumN_zero n]
theorem sumZ_zero : ∀ n, sumZ n (fun _ => 0) = 0
  | 0 => rfl
  | n + 1 => by simp only [sumZ]; rw [sumZ_zero n]; rfl
theorem sumN_const (c : Nat) : ∀ n, sumN n (fun _ => c) = n * c
  | 0 => by simp [sumN]
  | n + 1 => by simp only [sumN]; rw [sumN_const c n, Nat.succ_mul]
theorem sumN_lt (c p : Nat) : ∀ n, sumN n (fun r => if r < p then c else 0) = (if p ≤ n then p else n) * c
  | 0 => by
    by_cases h : p ≤ 0
    · rw [if_pos h, show p = 0 by omega]; simp [sumN]
    · rw [if_neg h]; simp [sumN]
  | n + 1 => by
    simp only [sumN]
    rw [sumN_lt c p n]
    by_cases h1 : p ≤ n
    · rw [if_pos h1, if_neg (show ¬ n < p by omega), if_pos (show p ≤ n + 1 by omega)]; rfl
    · rw [if_neg h1, if_pos (show n < p by omega)]
      split
      · rw [show p = n + 1 by omega, Nat.succ_mul]
      · rw [Nat.succ_mul]
theorem sumZ_one (w : Nat → Int) (r : Nat) : ∀ n, sumZ n (fun x => w x * (if x = r then 1 else 0)) = if r < n then w r else 0
  | 0 => by simp [sumZ]
  | n + 1 => by
    simp only [sumZ]
    rw [sumZ_one w r n]
    by_cases h : n = r
    · subst h; simp
    · rw [if_neg h]
      by_cases h2 : r < n
      · rw [if_pos h2, if_pos (by omega)]; simp
      · rw [if_neg h2, if_neg (by omega)]; simp
def SW : List Coin → Int
  | [] => 0
  | c :: r => c.1 + SW r
theorem SW_append : ∀ a b : List Coin, SW (a ++ b) = SW a + SW b
  | [], b => by simp [SW]
  | c :: a, b => by rw [List.cons_append, SW, SW, SW_append a b]; omega
theorem SW_perm {a b : List Coin} (h : a.Perm b) : SW a = SW b := by
  induction h with
  | nil => rfl
  | cons x _ ih => simp only [SW]; omega
  | swap x y l => simp only [SW]; omega
  | trans _ _ h1 h2 => omega
abbrev Srt (l : List Coin) : Prop := l.Pairwise fun x y => leC x y = true
theorem leC_iff {x y : Coin} : leC x y = true ↔ x.1 ≤ y.1 := by simp [leC]
theorem leC_tot (x y : Coin) : leC x y = true ∨ leC y x = true := by rw [leC_iff, leC_iff]; omega
theorem leC_tr (x y z : Coin) (h1 : leC x y = true) (h2 : leC y z = true) : leC x z = true := by rw [leC_iff] at *; omega
abbrev NN (l : List Coin) : Prop := ∀ c ∈ l, 0 ≤ c.1
theorem SW_nn : ∀ {l : List Coin}, NN l → 0 ≤ SW l
  | [], _ => Int.le_refl _
  | c :: l, h => by
    have h1 := h c (by simp)
    have h2 := SW_nn (l := l) (fun c hc => h c (by simp [hc]))
    rw [SW]; omega
theorem SW_mono {l : List Coin} (h : NN l) {m m' : Nat} (hm : m ≤ m') : SW (l.take m) ≤ SW (l.take m') := by
  have e : l.take m' = l.take m ++ (l.drop m).take (m' - m) := by
    rw [show m' = m + (m' - m) by omega, List.take_add, Nat.add_sub_cancel_left]
  rw [e, SW_append]
  have := SW_nn (l := (l.drop m).take (m' - m)) (fun c hc => h c (List.mem_of_mem_drop (List.mem_of_mem_take hc)))
  omega
theorem take_ge {x : Int} : ∀ {l : List Coin} {q : Nat}, (∀ c ∈ l, x ≤ c.1) → q < l.length → SW (l.take q) + x ≤ SW (l.take (q + 1))
  | [], q, _, h => by simp at h
  | c :: l, 0, h, _ => by
    have := h c (by simp)
    simp [SW]; omega
  | c :: l, q + 1, h, hq => by
    have := take_ge (l := l) (q := q) (fun c hc => h c (by simp [hc])) (by simpa using hq)
    rw [List.take_succ_cons, List.take_succ_cons, SW, SW]; omega
theorem mg_min : ∀ (a b : List Coin) (p q : Nat), p ≤ a.length → q ≤ b.length → Srt a → Srt b → SW ((mg leC a b).take (p + q)) ≤ SW (a.take p) + SW (b.take q) := by
  intro a b
  generalize hn : a.length + b.length = n
  induction n generalizing a b with
  | zero =>
    have ha : a = [] := List.eq_nil_of_length_eq_zero (by omega)
    have hb : b = [] := List.eq_nil_of_length_eq_zero (by omega)
    subst ha hb
    intro p q _ _ _ _
    rw [mg_nil_left]; simp [SW]
  | succ n ih =>
    cases a with
    | nil =>
      intro p q hp hq _ _
      obtain rfl : p = 0 := by simpa using hp
      rw [mg_nil_left]; simp [SW]
    | cons x a =>
      cases b with
      | nil =>
        intro p q hp hq _ _
        obtain rfl : q = 0 := by simpa using hq
        rw [mg_nil_right]; simp [SW]
      | cons y b =>
        simp only [List.length_cons] at hn
        intro p q hp hq ha hb
        have ha' := List.pairwise_cons.1 ha
        have hb' := List.pairwise_cons.1 hb
        rw [mg_cons]
        split
        · rename_i hle
          have hle' := leC_iff.1 hle
          cases p with
          | succ p =>
            have := ih a (y :: b) (by simp only [List.length_cons]; omega) p q (by simpa using hp) hq ha'.2 hb
            rw [show p + 1 + q = (p + q) + 1 by omega, List.take_succ_cons, List.take_succ_cons, SW, SW]; omega
          | zero =>
            cases q with
            | zero => simp [SW]
            | succ q =>
              have h1 := ih a (y :: b) (by simp only [List.length_cons]; omega) 0 q (by omega) (by omega) ha'.2 hb
              have h2 := take_ge (x := x.1) (l := y :: b) (q := q) (fun c hc => (List.mem_cons.1 hc).elim (fun e => e ▸ hle') (fun h => Int.le_trans hle' (leC_iff.1 (hb'.1 c h)))) (by omega)
              rw [show 0 + (q + 1) = (0 + q) + 1 by omega, List.take_succ_cons, SW]
              simp only [List.take_zero, SW] at h1 ⊢
              omega
        · rename_i hle
          have hle' : y.1 < x.1 := by
            rcases (show y.1 < x.1 ∨ x.1 ≤ y.1 by omega) with h | h
            · exact h
            · exact absurd (leC_iff.2 h) hle
          cases q with
          | succ q =>
            have := ih (x :: a) b (by simp only [List.length_cons]; omega) p q hp (by simpa using hq) ha hb'.2
            rw [show p + (q + 1) = (p + q) + 1 by omega, List.take_succ_cons, List.take_succ_cons, SW, SW]; omega
          | zero =>
            cases p with
            | zero => simp [SW]
            | succ p =>
              have h1 := ih (x :: a) b (by simp only [List.length_cons]; omega) p 0 (by omega) (by omega) ha hb'.2
              have h2 := take_ge (x := y.1) (l := x :: a) (q := p) (fun c hc => (List.mem_cons.1 hc).elim (fun e => by rw [e]; omega) (fun h => by have := leC_iff.1 (ha'.1 c h); omega)) (by omega)
              rw [show p + 1 + 0 = p + 1 by omega, List.take_succ_cons, SW]
              simp only [List.take_zero, SW, Nat.add_zero] at h1 ⊢
              omega
theorem mg_take : ∀ (m : Nat) (a b : List Coin), Srt a → m ≤ a.length + b.length → ∃ p q, p + q = m ∧ p ≤ a.length ∧ q ≤ b.length ∧ ((mg leC a b).take m).Perm (a.take p ++ b.take q) ∧ (∀ x y, a[p]? = some x → 0 < q → b[q - 1]? = some y → y.1 < x.1)
  | 0, a, b, _, _ => ⟨0, 0, rfl, Nat.zero_le _, Nat.zero_le _, by simp, fun x y _ h _ => absurd h (by omega)⟩
  | m + 1, [], b, _, hm => ⟨0, m + 1, by omega, Nat.zero_le _, by simpa using hm, by rw [mg_nil_left]; simp, fun x y h _ _ => by simp at h⟩
  | m + 1, x :: a, [], _, hm => ⟨m + 1, 0, rfl, by simpa using hm, Nat.zero_le _, by rw [mg_nil_right]; simp, fun x y _ h _ => absurd h (by omega)⟩
  | m + 1, x :: a, y :: b, ha, hm => by
    have ha' := List.pairwise_cons.1 ha
    simp only [List.length_cons] at hm
    rw [mg_cons]
    split
    · obtain ⟨p, q, h1, h2, h3, h4, h5⟩ := mg_take m a (y :: b) ha'.2 (by simp only [List.length_cons]; omega)
      refine ⟨p + 1, q, by omega, by simpa using h2, h3, ?_, fun u v hu hq hv => h5 u v (by simpa using hu) hq hv⟩
      rw [List.take_succ_cons, List.take_succ_cons, List.cons_append]
      exact h4.cons x
    · rename_i hle
      have hle' : y.1 < x.1 := by
        rcases (show y.1 < x.1 ∨ x.1 ≤ y.1 by omega) with h | h
        · exact h
        · exact absurd (leC_iff.2 h) hle
      obtain ⟨p, q, h1, h2, h3, h4, h5⟩ := mg_take m (x :: a) b ha (by simp only [List.length_cons]; omega)
      refine ⟨p, q + 1, by omega, h2, by simpa using h3, ?_, fun u v hu _ hv => ?_⟩
      · rw [List.take_succ_cons, List.take_succ_cons]
        exact (h4.cons y).trans List.perm_middle.symm
      · cases q with
        | zero =>
          have hv : y = v := by simpa using hv
          subst hv
          cases p with
          | zero => have hu : x = u := by simpa using hu
                    subst hu; exact hle'
          | succ p =>
            have hu : a[p]? = some u := by simpa using hu
            have := leC_iff.1 (ha'.1 u (List.mem_of_getElem? hu)); omega
        | succ q => exact h5 u v hu (by omega) (by simpa using hv)
theorem pk_take : ∀ (q : Nat) (l : List Coin), 2 * q ≤ l.length → symsV ((pk l).take q) = symsV (l.take (2 * q)) ∧ SW ((pk l).take q) = SW (l.take (2 * q))
  | 0, l, _ => by simp [symsV, SW]
  | q + 1, x :: y :: l, h => by
    have ih := pk_take q l (by simp only [List.length_cons] at h; omega)
    rw [pk, show 2 * (q + 1) = (2 * q) + 1 + 1 by omega, List.take_succ_cons, List.take_succ_cons, List.take_succ_cons]
    refine ⟨?_, ?_⟩
    · have h1 := ih.1
      unfold symsV at h1 ⊢
      simp only [List.flatMap_cons]
      rw [h1, List.append_assoc]
    · simp only [SW]; rw [ih.2]; omega
  | q + 1, [], h => by simp at h
  | q + 1, [_], h => by simp at h; omega
theorem pk_srt : ∀ {l : List Coin}, Srt l → Srt (pk l)
  | [], _ => List.Pairwise.nil
  | [_], _ => List.Pairwise.nil
  | x :: y :: r, h => by
    have h1 := List.pairwise_cons.1 h
    have h2 := List.pairwise_cons.1 h1.2
    rw [pk]
    refine List.pairwise_cons.2 ⟨fun c hc => ?_, pk_srt h2.2⟩
    obtain ⟨u, hu, v, hv, rfl⟩ := pk_mem hc
    have a1 := leC_iff.1 (h1.1 u (by simp [hu]))
    have a2 := leC_iff.1 (h2.1 v hv)
    rw [leC_iff]; show x.1 + y.1 ≤ u.1 + v.1; omega
theorem pk_last : ∀ (q : Nat) (l : List Coin), Srt l → NN l → 2 * (q + 1) ≤ l.length → ∀ c ∈ l.take (2 * (q + 1)), ∃ z, (pk l)[q]? = some z ∧ c.1 ≤ z.1
  | q, [], _, _, h => by simp at h
  | q, [_], _, _, h => by simp at h; omega
  | 0, x :: y :: r, hs, hn, h => fun c hc => by
    refine ⟨(x.1 + y.1, x.2 ++ y.2), by simp [pk], ?_⟩
    have h1 := hn x (by simp)
    have h2 := hn y (by simp)
    have hc : c = x ∨ c = y := by simpa using hc
    show c.1 ≤ x.1 + y.1
    rcases hc with rfl | rfl <;> omega
  | q + 1, x :: y :: r, hs, hn, h => fun c hc => by
    have s1 := List.pairwise_cons.1 hs
    have s2 := List.pairwise_cons.1 s1.2
    have hl : 2 * (q + 1) ≤ r.length := by simp only [List.length_cons] at h; omega
    have ih := pk_last q r s2.2 (fun c hc => hn c (by simp [hc])) hl
    rw [show 2 * (q + 1 + 1) = (2 * (q + 1)) + 1 + 1 by omega, List.take_succ_cons, List.take_succ_cons] at hc
    have big : ∀ u ∈ r, x.1 ≤ u.1 ∧ y.1 ≤ u.1 := fun u hu => ⟨leC_iff.1 (s1.1 u (by simp [hu])), leC_iff.1 (s2.1 u hu)⟩
    have goal : ∀ c, (∃ z, (pk r)[q]? = some z ∧ c ≤ z.1) → ∃ z, (pk (x :: y :: r))[q + 1]? = some z ∧ c ≤ z.1 := fun c ⟨z, hz, hc⟩ => ⟨z, by rw [pk]; simpa using hz, hc⟩
    have low : ∀ t : Int, (∀ u ∈ r, t ≤ u.1) → ∃ z, (pk r)[q]? = some z ∧ t ≤ z.1 := fun t ht => by
      have hr0 : 0 < (r.take (2 * (q + 1))).length := by rw [List.length_take]; omega
      obtain ⟨z, hz, hu⟩ := ih _ (List.getElem_mem hr0)
      exact ⟨z, hz, Int.le_trans (ht _ (List.mem_of_mem_take (List.getElem_mem hr0))) hu⟩
    rcases List.mem_cons.1 hc with rfl | hc
    · exact goal _ (low _ (fun u hu => (big u hu).1))
    · rcases List.mem_cons.1 hc with rfl | hc
      · exact goal _ (low _ (fun u hu => (big u hu).2))
      · exact goal _ (ih c hc)
def coinsW (w : Nat → Int) (n : Nat) : List Coin := (List.range n).map fun j => (w j, [j])
structure WOK (w : Nat → Int) (n : Nat) : Prop where
  nn : ∀ r, r < n → 0 ≤ w r
  mono : ∀ r s, r ≤ s → s < n → w r ≤ w s
section
variable {w : Nat → Int} {n : Nat}
theorem coins_get (w : Nat → Int) {n j : Nat} (h : j < n) : (coinsW w n)[j]? = some (w j, [j]) := by
  rw [coinsW, List.getElem?_map, List.getElem?_range h]; rfl
theorem coinsW_len (w : Nat → Int) (n : Nat) : (coinsW w n).length = n := by simp [coinsW]
theorem coins_take (w : Nat → Int) {n p : Nat} (h : p ≤ n) : (coinsW w n).take p = coinsW w p := by
  unfold coinsW
  rw [← List.map_take, List.take_range, Nat.min_eq_left h]
theorem coins_syms (w : Nat → Int) (p : Nat) : symsV (coinsW w p) = List.range p := by
  induction p with
  | zero => rfl
  | succ p ih =>
    unfold symsV coinsW at *
    rw [List.range_succ, List.map_append, List.flatMap_append, ih]; rfl
theorem coins_SW (w : Nat → Int) (p : Nat) : SW (coinsW w p) = sumZ p w := by
  induction p with
  | zero => rfl
  | succ p ih =>
    have e : coinsW w (p + 1) = coinsW w p ++ [(w p, [p])] := by unfold coinsW; rw [List.range_succ, List.map_append]; rfl
    rw [e, SW_append, ih]; simp [SW, sumZ]
theorem coins_srt (h : WOK w n) : Srt (coinsW w n) := by
  unfold Srt coinsW
  rw [List.pairwise_map]
  refine List.Pairwise.imp_of_mem (fun {a b} ha hb (hab : a < b) => ?_) List.pairwise_lt_range
  rw [List.mem_range] at hb
  exact leC_iff.2 (h.mono a b (by omega) hb)
theorem coins_nn (h : WOK w n) : NN (coinsW w n) := by
  intro c hc
  obtain ⟨j, hj, rfl⟩ := List.mem_map.1 hc
  exact h.nn j (List.mem_range.1 hj)
theorem rows_nn (h : WOK w n) : ∀ k, NN (rowsV (coinsW w n) k)
  | 0 => coins_nn h
  | k + 1 => fun c hc => by
    rcases mg_mem leC c _ _ hc with h1 | h1
    · exact coins_nn h c h1
    · obtain ⟨u, hu, v, hv, rfl⟩ := pk_mem h1
      have a := rows_nn h k u hu
      have b := rows_nn h k v hv
      show 0 ≤ u.1 + v.1; omega
theorem rows_srt (h : WOK w n) : ∀ k, Srt (rowsV (coinsW w n) k)
  | 0 => coins_srt h
  | k + 1 => mg_sorted leC leC_tot leC_tr _ _ (coins_srt h) (pk_srt (rows_srt h k))
theorem count_range (p r : Nat) : (List.range p).count r = if r < p then 1 else 0 := by
  induction p with
  | zero => simp
  | succ p ih =>
    rw [List.range_succ, List.count_append, ih, List.count_singleton]
    by_cases h : p = r
    · subst h; simp
    · have hb : (p == r) = false := by simp [h]
      rw [hb]
      by_cases h2 : r < p
      · rw [if_pos h2, if_pos (show r < p + 1 by omega)]; rfl
      · rw [if_neg h2, if_neg (show ¬ r < p + 1 by omega)]; rfl
/-- How often each symbol is among the first m of row k. -/
def tkC (w : Nat → Int) (n k m r : Nat) : Nat := (symsV ((rowsV (coinsW w n) k).take m)).count r
structure Str (w : Nat → Int) (n k m p : Nat) : Prop where
  pn : p ≤ n
  pos : ∀ r, 0 < tkC w n k m r ↔ r < p
  top : ∀ r, tkC w n k m r ≤ k + 1
  anti : ∀ r s, r ≤ s → tkC w n k m s ≤ tkC w n k m r
  kraft : sumN n (fun r => 2 ^ (k + 1) - 2 ^ (k + 1 - tkC w n k m r)) = m * 2 ^ k
  mem : ∀ i, i < p → (w i, [i]) ∈ (rowsV (coinsW w n) k).take m
theorem two_le (k t : Nat) : 2 ^ (k - t) ≤ 2 ^ k := Nat.pow_le_pow_right (by omega) (by omega)
theorem symsV_perm {a b : List Coin} (h : a.Perm b) : (symsV a).Perm (symsV b) := h.flatMap_right _
theorem symsV_append (a b : List Coin) : symsV (a ++ b) = symsV a ++ symsV b := by unfold symsV; exact List.flatMap_append
theorem str (h : WOK w n) : ∀ k m, m ≤ (rowsV (coinsW w n) k).length → ∃ p, Str w n k m p
  | 0, m, hm => by
    have hm' : m ≤ n := by rw [rowsV, coinsW_len] at hm; exact hm
    have e : ∀ r, tkC w n 0 m r = if r < m then 1 else 0 := fun r => by rw [tkC, rowsV, coins_take w hm', coins_syms, count_range]
    refine ⟨m, hm', fun r => ?_, fun r => ?_, fun r s hrs => ?_, ?_, fun i hi => ?_⟩
    · rw [e]; split <;> omega
    · rw [e]; split <;> omega
    · rw [e, e]; split <;> split <;> omega
    · have : sumN n (fun r => 2 ^ (0 + 1) - 2 ^ (0 + 1 - tkC w n 0 m r)) = sumN n (fun r => if r < m then 1 else 0) := sumN_congr n (fun r _ => by rw [e]; split <;> rfl)
      rw [this, sumN_lt, if_pos hm', Nat.mul_one]
    · rw [rowsV, coins_take w hm']
      exact List.mem_of_getElem? (coins_get w hi)
  | k + 1, m, hm => by
    have hs := rows_srt h k
    have hnn := rows_nn h k
    obtain ⟨p, q, h1, h2, h3, h4, h5⟩ := mg_take m (coinsW w n) (pk (rowsV (coinsW w n) k)) (coins_srt h) (by rw [rowsV, mg_len] at hm; exact hm)
    rw [coinsW_len] at h2
    rw [pk_len] at h3
    obtain ⟨p', S⟩ := str h k (2 * q) (by omega)
    have hq2 : 2 * q ≤ (rowsV (coinsW w n) k).length := by omega
    have hp : p' ≤ p := by
      rcases Nat.lt_or_ge p p' with hlt | hge
      · exfalso
        have hm1 := S.mem p hlt
        have hq : 0 < q := by
          rcases Nat.eq_zero_or_pos q with e | e
          · subst e; simp at hm1
          · exact e
        obtain ⟨q, rfl⟩ : ∃ q', q = q' + 1 := ⟨q - 1, by omega⟩
        obtain ⟨z, hz, hc⟩ := pk_last q _ hs hnn hq2 _ hm1
        have hpn := S.pn
        have := h5 _ z (coins_get w (show p < n by omega)) (by omega) (by simpa using hz)
        omega
      · exact hge
    have e : ∀ r, tkC w n (k + 1) m r = (if r < p then 1 else 0) + tkC w n k (2 * q) r := fun r => by
      rw [tkC, rowsV, (symsV_perm h4).count_eq, symsV_append, List.count_append, coins_take w h2, coins_syms, count_range, (pk_take q _ hq2).1]; rfl
    have z0 : ∀ r, p ≤ r → tkC w n k (2 * q) r = 0 := fun r hr => by
      have := S.pos r
      rcases Nat.eq_zero_or_pos (tkC w n k (2 * q) r) with e | e
      · exact e
      · have := this.1 e; omega
    refine ⟨p, h2, fun r => ?_, fun r => ?_, fun r s hrs => ?_, ?_, fun i hi => ?_⟩
    · rw [e]
      rcases Nat.lt_or_ge r p with hr | hr
      · rw [if_pos hr]; omega
      · rw [if_neg (by omega), z0 r hr]; omega
    · rw [e]
      have := S.top r
      split <;> omega
    · rw [e, e]
      have := S.anti r s hrs
      split <;> split <;> omega
    · have : sumN n (fun r => 2 ^ (k + 1 + 1) - 2 ^ (k + 1 + 1 - tkC w n (k + 1) m r)) = sumN n (fun r => (if r < p then 2 ^ (k + 1) else 0) + (2 ^ (k + 1) - 2 ^ (k + 1 - tkC w n k (2 * q) r))) := sumN_congr n (fun r _ => by
        rw [e]
        rcases Nat.lt_or_ge r p with hr | hr
        · rw [if_pos hr, if_pos hr, show k + 1 + 1 - (1 + tkC w n k (2 * q) r) = k + 1 - tkC w n k (2 * q) r by omega, Nat.pow_succ 2 (k + 1)]
          have := two_le (k + 1) (tkC w n k (2 * q) r)
          omega
        · rw [if_neg (by omega), if_neg (by omega), z0 r hr]; simp)
      rw [this, sumN_add, sumN_lt, if_pos h2, S.kraft, ← h1, Nat.add_mul, Nat.pow_succ]
      congr 1
      rw [Nat.mul_comm 2 q, Nat.mul_assoc, Nat.mul_comm 2]
    · rw [rowsV]
      refine h4.mem_iff.2 (List.mem_append.2 (.inl ?_))
      rw [coins_take w h2]
      exact List.mem_of_getElem? (coins_get w hi)
def wsum (w : Nat → Int) : List Nat → Int
  | [] => 0
  | r :: s => w r + wsum w s
theorem wsum_append (w : Nat → Int) : ∀ a b, wsum w (a ++ b) = wsum w a + wsum w b
  | [], b => by simp [wsum]
  | r :: a, b => by rw [List.cons_append, wsum, wsum, wsum_append w a b]; omega
theorem rows_ws (w : Nat → Int) (n : Nat) : ∀ k, ∀ c ∈ rowsV (coinsW w n) k, c.1 = wsum w c.2
  | 0, c, hc => by
    obtain ⟨j, _, rfl⟩ := List.mem_map.1 (show c ∈ (List.range n).map fun j => (w j, [j]) from hc)
    simp [wsum]
  | k + 1, c, hc => by
    rcases mg_mem leC c _ _ hc with h | h
    · obtain ⟨j, _, rfl⟩ := List.mem_map.1 (show c ∈ (List.range n).map fun j => (w j, [j]) from h)
      simp [wsum]
    · obtain ⟨u, hu, v, hv, rfl⟩ := pk_mem h
      show u.1 + v.1 = wsum w (u.2 ++ v.2)
      rw [wsum_append, ← rows_ws w n k u hu, ← rows_ws w n k v hv]
theorem SW_syms (w : Nat → Int) : ∀ l : List Coin, (∀ c ∈ l, c.1 = wsum w c.2) → SW l = wsum w (symsV l)
  | [], _ => rfl
  | c :: l, h => by
    have ih := SW_syms w l (fun c hc => h c (by simp [hc]))
    unfold symsV at *
    rw [SW, List.flatMap_cons, wsum_append, ← ih, ← h c (by simp)]
theorem wsum_count (w : Nat → Int) (n : Nat) : ∀ s : List Nat, (∀ r ∈ s, r < n) → wsum w s = sumZ n (fun r => w r * (s.count r : Nat))
  | [], _ => by
    rw [wsum, sumZ_congr (g := fun _ => 0) n (fun r _ => by simp), sumZ_zero]
  | r :: s, h => by
    rw [wsum, wsum_count w n s (fun x hx => h x (by simp [hx]))]
    have hr := h r (by simp)
    have e := sumZ_one w r n
    rw [if_pos hr] at e
    rw [← e, ← sumZ_add]
    refine sumZ_congr n (fun x _ => ?_)
    rw [List.count_cons, Int.natCast_add, Int.mul_add]
    by_cases hx : x = r
    · subst hx; simp; omega
    · rw [if_neg hx, if_neg (by simpa using fun h => hx h.symm)]; simp
theorem rows_lt (w : Nat → Int) (n : Nat) : ∀ k, ∀ c ∈ rowsV (coinsW w n) k, ∀ r ∈ c.2, r < n
  | 0, c, hc => by
    obtain ⟨j, hj, rfl⟩ := List.mem_map.1 (show c ∈ (List.range n).map fun j => (w j, [j]) from hc)
    intro r hr
    have : r = j := by simpa using hr
    rw [List.mem_range] at hj; omega
  | k + 1, c, hc => by
    rcases mg_mem leC c _ _ hc with h | h
    · obtain ⟨j, hj, rfl⟩ := List.mem_map.1 (show c ∈ (List.range n).map fun j => (w j, [j]) from h)
      intro r hr
      have : r = j := by simpa using hr
      rw [List.mem_range] at hj; omega
    · obtain ⟨u, hu, v, hv, rfl⟩ := pk_mem h
      intro r hr
      rcases List.mem_append.1 (show r ∈ u.2 ++ v.2 from hr) with h1 | h1
      · exact rows_lt w n k u hu r h1
      · exact rows_lt w n k v hv r h1
theorem take_cost (w : Nat → Int) (n k m : Nat) : SW ((rowsV (coinsW w n) k).take m) = sumZ n (fun r => w r * (tkC w n k m r : Nat)) := by
  rw [SW_syms w _ (fun c hc => rows_ws w n k c (List.mem_of_mem_take hc)), wsum_count w n]
  · rfl
  · intro r hr
    obtain ⟨c, hc, hr⟩ := List.mem_flatMap.1 hr
    exact rows_lt w n k c (List.mem_of_mem_take hc) r hr
def cntN (n : Nat) (l : Nat → Nat) : Nat := sumN n (fun r => if 0 < l r then 1 else 0)
theorem cnt_le (l : Nat → Nat) : ∀ n, cntN n l ≤ n
  | 0 => Nat.le_refl _
  | n + 1 => by
    have := cnt_le l n
    unfold cntN at *
    simp only [sumN]
    split <;> omega
theorem cnt_mul (c : Nat) (l : Nat → Nat) : ∀ n, sumN n (fun r => if 0 < l r then c else 0) = cntN n l * c
  | 0 => by simp [sumN, cntN]
  | n + 1 => by
    have ih := cnt_mul c l n
    unfold cntN at *
    simp only [sumN]
    rw [ih, Nat.add_mul]
    split <;> simp
theorem sub_ge (h : ∀ r s, r ≤ s → s < n → w r ≤ w s) (l : Nat → Nat) : ∀ m, m ≤ n → sumZ (cntN m l) w ≤ sumZ m (fun r => if 0 < l r then w r else 0)
  | 0, _ => Int.le_refl _
  | m + 1, hm => by
    have ih := sub_ge h l m (by omega)
    have hc := cnt_le l m
    simp only [sumZ]
    by_cases h0 : 0 < l m
    · have e : cntN (m + 1) l = cntN m l + 1 := by unfold cntN; simp only [sumN]; rw [if_pos h0]
      rw [e, if_pos h0]
      simp only [sumZ]
      have := h (cntN m l) m hc (by omega)
      omega
    · have e : cntN (m + 1) l = cntN m l := by unfold cntN; simp only [sumN]; rw [if_neg h0]; rfl
      rw [e, if_neg h0]; omega
theorem low (h : WOK w n) : ∀ (k : Nat) (l : Nat → Nat), (∀ r, r < n → l r ≤ k + 1) →
    sumN n (fun r => 2 ^ (k + 1) - 2 ^ (k + 1 - l r)) / 2 ^ k ≤ (rowsV (coinsW w n) k).length ∧
    SW ((rowsV (coinsW w n) k).take (sumN n (fun r => 2 ^ (k + 1) - 2 ^ (k + 1 - l r)) / 2 ^ k)) ≤ sumZ n (fun r => w r * (l r : Nat))
  | 0, l, hl => by
    have e : sumN n (fun r => 2 ^ (0 + 1) - 2 ^ (0 + 1 - l r)) = cntN n l := sumN_congr n (fun r hr => by
      have h1 := hl r hr
      by_cases h0 : 0 < l r
      · rw [if_pos h0, show 0 + 1 - l r = 0 by omega]
      · rw [if_neg h0, show 0 + 1 - l r = 1 by omega])
    have e2 : sumZ n (fun r => w r * (l r : Nat)) = sumZ n (fun r => if 0 < l r then w r else 0) := sumZ_congr n (fun r hr => by
      have h1 := hl r hr
      by_cases h0 : 0 < l r
      · rw [if_pos h0, show l r = 1 by omega]; simp
      · rw [if_neg h0, show l r = 0 by omega]; simp)
    rw [e, e2, Nat.pow_zero, Nat.div_one, rowsV, coinsW_len, coins_take w (cnt_le l n), coins_SW]
    exact ⟨cnt_le l n, sub_ge h.mono l n (Nat.le_refl _)⟩
  | k + 1, l, hl => by
    obtain ⟨i1, i2⟩ := low h k (fun r => l r - 1) (fun r hr => by have := hl r hr; show l r - 1 ≤ k + 1; omega)
    generalize hV : sumN n (fun r => 2 ^ (k + 1) - 2 ^ (k + 1 - (l r - 1))) = V at i1 i2
    have e : sumN n (fun r => 2 ^ (k + 1 + 1) - 2 ^ (k + 1 + 1 - l r)) = cntN n l * 2 ^ (k + 1) + V := by
      rw [← cnt_mul, ← hV, ← sumN_add]
      refine sumN_congr n (fun r hr => ?_)
      by_cases h0 : 0 < l r
      · rw [if_pos h0, show k + 1 + 1 - l r = k + 1 - (l r - 1) by omega, Nat.pow_succ 2 (k + 1)]
        have := two_le (k + 1) (l r - 1)
        omega
      · rw [if_neg h0, show l r = 0 by omega]; simp
    have e2 : sumZ n (fun r => w r * (l r : Nat)) = sumZ n (fun r => if 0 < l r then w r else 0) + sumZ n (fun r => w r * ((l r - 1 : Nat) : Int)) := by
      rw [← sumZ_add]
      refine sumZ_congr n (fun r hr => ?_)
      by_cases h0 : 0 < l r
      · rw [if_pos h0]
        obtain ⟨j, hj⟩ : ∃ j, l r = j + 1 := ⟨l r - 1, by omega⟩
        rw [hj, Nat.add_sub_cancel, Int.natCast_add, Int.mul_add]; simp; omega
      · rw [if_neg h0, show l r = 0 by omega]; simp
    have e3 : sumN n (fun r => 2 ^ (k + 1 + 1) - 2 ^ (k + 1 + 1 - l r)) / 2 ^ (k + 1) = cntN n l + V / 2 ^ k / 2 := by
      rw [e, Nat.mul_comm, Nat.mul_add_div (Nat.pow_pos (by omega)), Nat.pow_succ, Nat.div_div_eq_div_mul]
    rw [e3, e2]
    have hq : 2 * (V / 2 ^ k / 2) ≤ (rowsV (coinsW w n) k).length := by omega
    refine ⟨by rw [rows_len_succ, coinsW_len]; have := cnt_le l n; omega, ?_⟩
    have m1 := mg_min (coinsW w n) (pk (rowsV (coinsW w n) k)) (cntN n l) (V / 2 ^ k / 2) (by rw [coinsW_len]; exact cnt_le l n) (by rw [pk_len]; omega) (coins_srt h) (pk_srt (rows_srt h k))
    rw [(pk_take _ _ hq).2, coins_take w (cnt_le l n), coins_SW] at m1
    have m2 := SW_mono (rows_nn h k) (m := 2 * (V / 2 ^ k / 2)) (m' := V / 2 ^ k) (by omega)
    have m3 := sub_ge h.mono l n (Nat.le_refl _)
    rw [rowsV]
    omega
/-- The lengths that come of the packets: they fit, and cost the least. -/
theorem package (h : WOK w n) (k : Nat) (hn : 2 ≤ n) (hfit : n ≤ 2 ^ (k + 1)) :
    (∀ r, r < n → 1 ≤ tkC w n k (2 * (n - 1)) r) ∧ (∀ r, tkC w n k (2 * (n - 1)) r ≤ k + 1) ∧ (∀ r s, r ≤ s → tkC w n k (2 * (n - 1)) s ≤ tkC w n k (2 * (n - 1)) r) ∧
    sumN n (fun r => 2 ^ (k + 1 - tkC w n k (2 * (n - 1)) r)) = 2 ^ (k + 1) ∧
    ∀ l : Nat → Nat, (∀ r, r < n → l r ≤ k + 1) → sumN n (fun r => 2 ^ (k + 1 - l r)) ≤ 2 ^ (k + 1) → sumZ n (fun r => w r * (tkC w n k (2 * (n - 1)) r : Nat)) ≤ sumZ n (fun r => w r * (l r : Nat)) := by
  have hge := rows_ge (coinsW w n) k 1 (by rw [coinsW_len, Nat.mul_one]; exact hfit)
  rw [coinsW_len] at hge
  obtain ⟨p, S⟩ := str h k (2 * (n - 1)) (by omega)
  have conv : ∀ t : Nat → Nat, sumN n (fun r => 2 ^ (k + 1) - 2 ^ (k + 1 - t r)) + sumN n (fun r => 2 ^ (k + 1 - t r)) = n * 2 ^ (k + 1) := fun t => by
    rw [← sumN_add, ← sumN_const]
    exact sumN_congr n (fun r _ => by have := two_le (k + 1) (t r); omega)
  have hk := conv (tkC w n k (2 * (n - 1)))
  rw [S.kraft] at hk
  have e0 : 2 * (n - 1) * 2 ^ k = (n - 1) * 2 ^ (k + 1) := by rw [Nat.pow_succ, Nat.mul_comm 2 (n - 1), Nat.mul_assoc, Nat.mul_comm 2]
  have e1 : n * 2 ^ (k + 1) = (n - 1) * 2 ^ (k + 1) + 2 ^ (k + 1) := by
    obtain ⟨j, rfl⟩ : ∃ j, n = j + 1 := ⟨n - 1, by omega⟩
    rw [Nat.add_sub_cancel, Nat.succ_mul]
  have hkr : sumN n (fun r => 2 ^ (k + 1 - tkC w n k (2 * (n - 1)) r)) = 2 ^ (k + 1) := by omega
  refine ⟨fun r hr => ?_, S.top, S.anti, hkr, fun l hl hf => ?_⟩
  · -- a symbol of length 0 would fill the whole sum alone
    rcases Nat.eq_zero_or_pos (tkC w n k (2 * (n - 1)) r) with h0 | h0
    · exfalso
      have hlast : tkC w n k (2 * (n - 1)) (n - 1) = 0 := by have := S.anti r (n - 1) (by omega); omega
      obtain ⟨j, rfl⟩ : ∃ j, n = j + 2 := ⟨n - 2, by omega⟩
      rw [show j + 2 - 1 = j + 1 by omega] at hlast
      simp only [sumN] at hkr
      rw [show j + 2 - 1 = j + 1 by omega, hlast, Nat.sub_zero] at hkr
      have : 0 < 2 ^ (k + 1 - tkC w (j + 2) k (2 * (j + 1)) j) := Nat.pow_pos (by omega)
      omega
    · exact h0
  · have hc := conv l
    have hV : 2 * (n - 1) ≤ sumN n (fun r => 2 ^ (k + 1) - 2 ^ (k + 1 - l r)) / 2 ^ k := by
      rw [Nat.le_div_iff_mul_le (Nat.pow_pos (by omega)), e0]; omega
    have h1 := (low h k l hl).2
    have h2 := SW_mono (rows_nn h k) hV
    rw [take_cost] at h2
    omega
end
end Go.Hf
