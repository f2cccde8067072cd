/- Plain laws: the frequencies in falling order; the least cost, each way tried. -/
import Derived.Test.YtjlelcfabfmiaaaM6
namespace Go.Proofs.Ytjlelcfabfmiaaa
open Go.SX Go.Hf
set_option linter.unusedVariables false
set_option linter.unusedSimpArgs false
def insD (x : Int) : List Int → List Int
  | [] => [x]
  | y :: r => if x ≤ y then y :: insD x r else x :: y :: r
def srtF (fs : List Int) : Nat → List Int
  | 0 => []
  | i + 1 => if 0 < fs.getD i 0 then insD (fs.getD i 0) (srtF fs i) else srtF fs i
theorem ins_at {x : Int} : ∀ {l : List Int} {k : Nat}, k ≤ l.length → (∀ j y, j < k → l[j]? = some y → x ≤ y) → (∀ y, l[k]? = some y → ¬ x ≤ y) → insD x l = (l.take k ++ [x]) ++ l.drop k
  | [], k, hk, _, _ => by
    obtain rfl : k = 0 := by simpa using hk
    rfl
  | y :: r, 0, _, _, h => by
    rw [insD, if_neg (h y rfl)]; rfl
  | y :: r, k + 1, hk, h1, h2 => by
    rw [insD, if_pos (h1 0 y (by omega) rfl), ins_at (k := k) (by simpa using hk) (fun j z hj hz => h1 (j + 1) z (by omega) (by simpa using hz)) (fun z hz => h2 z (by simpa using hz))]
    rfl
theorem ins_perm (x : Int) : ∀ l, (insD x l).Perm (x :: l)
  | [] => List.Perm.refl _
  | y :: r => by
    rw [insD]; split
    · exact ((ins_perm x r).cons y).trans (List.Perm.swap _ _ _)
    · exact List.Perm.refl _
theorem ins_mem {x z : Int} {l : List Int} (h : z ∈ insD x l) : z = x ∨ z ∈ l := by
  have := (ins_perm x l).mem_iff.1 h
  simpa using this
theorem ins_srt {x : Int} : ∀ {l : List Int}, l.Pairwise (fun a b => b ≤ a) → (insD x l).Pairwise (fun a b => b ≤ a)
  | [], _ => by simp [insD]
  | y :: r, h => by
    obtain ⟨h1, h2⟩ := List.pairwise_cons.1 h
    rw [insD]; split
    · rename_i hxy
      refine List.pairwise_cons.2 ⟨fun z hz => ?_, ins_srt h2⟩
      rcases ins_mem hz with rfl | hz
      · exact hxy
      · exact h1 z hz
    · rename_i hxy
      refine List.pairwise_cons.2 ⟨fun z hz => ?_, h⟩
      rcases List.mem_cons.1 hz with rfl | hz
      · omega
      · have := h1 z hz; omega
theorem srt_len (fs : List Int) : ∀ i, (srtF fs i).length ≤ i
  | 0 => Nat.le_refl _
  | i + 1 => by
    have := srt_len fs i
    rw [srtF]; split
    · rw [(ins_perm _ _).length_eq]; simpa using this
    · omega
theorem srt_srt (fs : List Int) : ∀ i, (srtF fs i).Pairwise (fun a b => b ≤ a)
  | 0 => List.Pairwise.nil
  | i + 1 => by
    rw [srtF]; split
    · exact ins_srt (srt_srt fs i)
    · exact srt_srt fs i
theorem srt_perm (fs : List Int) : ∀ i, (srtF fs i).Perm ((downL fs i).map fun s => fs.getD s 0)
  | 0 => by simp [srtF, downL]
  | i + 1 => by
    rw [srtF, down_succ]; split
    · exact (ins_perm _ _).trans (by rw [List.map_cons]; exact (srt_perm fs i).cons _)
    · exact srt_perm fs i
theorem srt_is {fs : List Int} {most : Int} (h : Good fs most) : srtF fs fs.length = ((List.range (usedV fs).length).map (wU fs)).reverse := by
  have hw := wU_ok h
  have hp : (((List.range (usedV fs).length).map (wU fs)).reverse).Perm ((usedL fs).map fun s => fs.getD s 0) := by
    refine (List.reverse_perm _).trans ?_
    refine List.Perm.trans ?_ ((used_perm fs).map fun s => fs.getD s 0)
    have e : (List.range (usedV fs).length).map (wU fs) = (usedV fs).map fun s => fs.getD s 0 := by
      conv => rhs; rw [← map_getD (usedV fs)]
      rw [List.map_map]; rfl
    rw [e]
  refine List.Perm.eq_of_pairwise (le := fun a b => b ≤ a) (fun a b _ _ h1 h2 => by omega) (srt_srt fs _) ?_ ((srt_perm fs _).trans hp.symm)
  rw [List.pairwise_reverse]
  refine List.Pairwise.map _ (fun a b hab => hab) ?_
  refine List.Pairwise.imp_of_mem (fun {a b} ha hb (hab : a < b) => ?_) List.pairwise_lt_range
  rw [List.mem_range] at ha hb
  exact hw.mono a b (by omega) hb
/-! each way -/
def cst : List Int → List Nat → Int
  | x :: s, l :: r => x * l + cst s r
  | _, _ => 0
def uSum (most : Nat) : List Nat → Nat
  | [] => 0
  | l :: r => 2 ^ (most - l) + uSum most r
/-- Lengths for the frequencies of a row: they do not fall, are from n to most, and fit into what is left. -/
structure Way (most n left : Nat) (s : List Int) (ls : List Nat) : Prop where
  len : ls.length = s.length
  up : ls.Pairwise (fun a b => a ≤ b)
  lo : ∀ x ∈ ls, n ≤ x
  hi : ∀ x ∈ ls, x ≤ most
  fit : uSum most ls ≤ left
/-- The least of the ways of a kind. -/
def Best (S : List Nat → Prop) (s : List Int) (r : Int) : Prop :=
  (r = -1 ∧ ∀ ls, ¬ S ls) ∨ (0 ≤ r ∧ (∃ ls, S ls ∧ cst s ls = r) ∧ ∀ ls, S ls → r ≤ cst s ls)
def Pos (s : List Int) : Prop := ∀ x ∈ s, 0 ≤ x ∧ x ≤ 4294967296
theorem cst_bd : ∀ {s : List Int} {ls : List Nat} {most : Nat}, Pos s → (∀ x ∈ ls, x ≤ most) → 0 ≤ cst s ls ∧ cst s ls ≤ 4294967296 * most * s.length
  | [], ls, _, _, _ => by cases ls <;> simp [cst]
  | x :: s, [], most, _, _ => by
    simp only [cst, Int.le_refl, true_and]
    exact Int.mul_nonneg (Int.mul_nonneg (by decide) (Int.natCast_nonneg _)) (Int.natCast_nonneg _)
  | x :: s, l :: r, most, hp, hl => by
    obtain ⟨h1, h2⟩ := cst_bd (s := s) (ls := r) (most := most) (fun y hy => hp y (by simp [hy])) (fun y hy => hl y (by simp [hy]))
    obtain ⟨h3, h4⟩ := hp x (by simp)
    have h5 := hl l (by simp)
    have h6 : x * l ≤ 4294967296 * most := Int.mul_le_mul h4 (Int.ofNat_le.2 h5) (Int.natCast_nonneg _) (by decide)
    have h7 : 0 ≤ x * l := Int.mul_nonneg h3 (Int.natCast_nonneg _)
    simp only [cst, List.length_cons]
    have e : (4294967296 : Int) * most * ((s.length + 1 : Nat) : Int) = 4294967296 * most * s.length + 4294967296 * most := by
      rw [Int.natCast_add, Int.mul_add]; simp
    omega
theorem Best.bd {S : List Nat → Prop} {s : List Int} {r : Int} {most : Nat} (h : Best S s r) (hp : Pos s) (hS : ∀ ls, S ls → ∀ x ∈ ls, x ≤ most) : -1 ≤ r ∧ r ≤ 4294967296 * most * s.length := by
  rcases h with ⟨rfl, _⟩ | ⟨h1, ⟨ls, h2, h3⟩, _⟩
  · have : (0 : Int) ≤ 4294967296 * most * s.length := Int.mul_nonneg (Int.mul_nonneg (by decide) (Int.natCast_nonneg _)) (Int.natCast_nonneg _)
    omega
  · have := cst_bd hp (hS ls h2); omega
theorem Best.iff {S T : List Nat → Prop} {s : List Int} {r : Int} (h : Best S s r) (e : ∀ ls, S ls ↔ T ls) : Best T s r := by
  have : S = T := funext fun ls => propext (e ls)
  rw [← this]; exact h
/-- Of two kinds: the least of both. -/
theorem Best.or {S T : List Nat → Prop} {s : List Int} {a b : Int} (ha : Best S s a) (hb : Best T s b) :
    Best (fun ls => S ls ∨ T ls) s (if 0 ≤ b ∧ (a < 0 ∨ b < a) then b else a) := by
  rcases hb with ⟨rfl, h⟩ | ⟨h1, ⟨l1, h2, h3⟩, h4⟩
  · rw [if_neg (by omega)]
    exact ha.iff fun ls => ⟨.inl, fun q => q.elim id (fun q => absurd q (h ls))⟩
  · rcases ha with ⟨rfl, h⟩ | ⟨g1, ⟨k1, g2, g3⟩, g4⟩
    · rw [if_pos (by omega)]
      exact .inr ⟨h1, ⟨l1, .inr h2, h3⟩, fun ls q => q.elim (fun q => absurd q (h ls)) (h4 ls)⟩
    · split
      · exact .inr ⟨h1, ⟨l1, .inr h2, h3⟩, fun ls q => q.elim (fun q => by have := g4 ls q; omega) (h4 ls)⟩
      · exact .inr ⟨g1, ⟨k1, .inl g2, g3⟩, fun ls q => q.elim (g4 ls) (fun q => by have := h4 ls q; omega)⟩
/-- What the first j cost at the length n. -/
def pre (n : Nat) : Nat → List Int → Int
  | 0, _ => 0
  | _ + 1, [] => 0
  | j + 1, x :: s => x * n + pre n j s
theorem pre_snoc (n : Nat) : ∀ (j : Nat) (s : List Int) (x : Int), s[j]? = some x → pre n (j + 1) s = pre n j s + x * n
  | 0, [], x, h => by simp at h
  | 0, y :: s, x, h => by
    simp at h; subst h; simp [pre]
  | j + 1, [], x, h => by simp at h
  | j + 1, y :: s, x, h => by
    have := pre_snoc n j s x (by simpa using h)
    rw [pre, this, pre]; omega
theorem pre_bd {n : Nat} : ∀ (j : Nat) {s : List Int}, Pos s → 0 ≤ pre n j s ∧ pre n j s ≤ 4294967296 * n * j
  | 0, s, _ => by simp [pre]
  | j + 1, [], _ => by
    simp only [pre, Int.le_refl, true_and]
    exact Int.mul_nonneg (Int.mul_nonneg (by decide) (Int.natCast_nonneg _)) (Int.natCast_nonneg _)
  | j + 1, x :: s, hp => by
    obtain ⟨h1, h2⟩ := pre_bd (n := n) j (s := s) (fun y hy => hp y (by simp [hy]))
    obtain ⟨h3, h4⟩ := hp x (by simp)
    have h6 : x * n ≤ 4294967296 * n := Int.mul_le_mul_of_nonneg_right h4 (Int.natCast_nonneg _)
    have h7 : 0 ≤ x * n := Int.mul_nonneg h3 (Int.natCast_nonneg _)
    have e : (4294967296 : Int) * n * ((j + 1 : Nat) : Int) = 4294967296 * n * j + 4294967296 * n := by
      rw [Int.natCast_add, Int.mul_add]; simp
    rw [pre]; omega
theorem cst_pre (n : Nat) : ∀ (j : Nat) (s : List Int) (ls : List Nat), j ≤ s.length → cst s (List.replicate j n ++ ls) = pre n j s + cst (s.drop j) ls
  | 0, s, ls, _ => by simp [pre]
  | j + 1, [], ls, h => by simp at h
  | j + 1, x :: s, ls, h => by
    rw [List.replicate_succ, List.cons_append, cst, cst_pre n j s ls (by simpa using h), pre, List.drop_succ_cons]; omega
theorem uSum_pre (most n : Nat) : ∀ (j : Nat) (ls : List Nat), uSum most (List.replicate j n ++ ls) = j * 2 ^ (most - n) + uSum most ls
  | 0, ls => by simp
  | j + 1, ls => by
    rw [List.replicate_succ, List.cons_append, uSum, uSum_pre most n j ls, Nat.add_mul]; omega
/-- The ways whose first j lengths, and these alone, are n. -/
def WayJ (most n left : Nat) (s : List Int) (j : Nat) (ls : List Nat) : Prop := ∃ q, ls = List.replicate j n ++ q ∧ j ≤ s.length ∧ j * 2 ^ (most - n) ≤ left ∧ Way most (n + 1) (left - j * 2 ^ (most - n)) (s.drop j) q
theorem wayJ_way {most n left : Nat} {s : List Int} {j : Nat} {ls : List Nat} (hn : n ≤ most) (h : WayJ most n left s j ls) : Way most n left s ls := by
  obtain ⟨q, rfl, hj, hu, w⟩ := h
  refine ⟨?_, ?_, ?_, ?_, ?_⟩
  · have := w.len
    rw [List.length_drop] at this
    rw [List.length_append, List.length_replicate]; omega
  · refine List.pairwise_append.2 ⟨?_, w.up, fun a ha b hb => ?_⟩
    · exact List.pairwise_replicate.2 (.inr (Nat.le_refl _))
    · have := w.lo b hb
      rw [List.mem_replicate] at ha; omega
  · intro x hx
    rcases List.mem_append.1 hx with h1 | h1
    · rw [List.mem_replicate] at h1; omega
    · have := w.lo x h1; omega
  · intro x hx
    rcases List.mem_append.1 hx with h1 | h1
    · rw [List.mem_replicate] at h1; omega
    · exact w.hi x h1
  · rw [uSum_pre]; have := w.fit; omega
theorem way_wayJ {most n left : Nat} : ∀ {s : List Int} {ls : List Nat}, Way most n left s ls → ∃ j, WayJ most n left s j ls
  | s, [], w => ⟨0, [], rfl, Nat.zero_le _, by omega, by simpa using ⟨w.len, List.Pairwise.nil, by simp, by simp, by simp [uSum]⟩⟩
  | [], l :: r, w => absurd w.len (by simp)
  | x :: s, l :: r, w => by
    obtain ⟨p1, p2⟩ := List.pairwise_cons.1 w.up
    have hl := w.lo l (by simp)
    have hf := w.fit
    simp only [uSum] at hf
    by_cases h : l = n
    · subst h
      have w' : Way most l (left - 2 ^ (most - l)) s r := ⟨by have := w.len; simpa using this, p2, fun x hx => w.lo x (by simp [hx]), fun x hx => w.hi x (by simp [hx]), by omega⟩
      obtain ⟨j, q, e, h1, h2, h3⟩ := way_wayJ w'
      refine ⟨j + 1, q, by rw [e]; rfl, by simpa using h1, by rw [Nat.add_mul]; omega, ?_⟩
      rw [show left - (j + 1) * 2 ^ (most - l) = left - 2 ^ (most - l) - j * 2 ^ (most - l) by rw [Nat.add_mul]; omega]
      exact h3
    · refine ⟨0, l :: r, rfl, Nat.zero_le _, by omega, ?_⟩
      simp only [Nat.zero_mul, Nat.sub_zero, List.drop_zero]
      refine ⟨w.len, w.up, fun y hy => ?_, w.hi, w.fit⟩
      rcases List.mem_cons.1 hy with rfl | hy
      · omega
      · have := p1 y hy; omega
/-- The ways whose first lengths, up to j of them, are n. -/
def WayTo (most n left : Nat) (s : List Int) (m : Nat) (ls : List Nat) : Prop := ∃ j, j ≤ m ∧ WayJ most n left s j ls
theorem wayTo_zero {most n left : Nat} {s : List Int} (ls : List Nat) : Way most (n + 1) left s ls ↔ WayTo most n left s 0 ls := by
  refine ⟨fun h => ⟨0, Nat.le_refl _, ls, rfl, Nat.zero_le _, by omega, by simpa using h⟩, fun ⟨j, hj, q, e, _, _, h⟩ => ?_⟩
  obtain rfl : j = 0 := by omega
  rw [e]; simpa using h
theorem wayTo_succ {most n left : Nat} {s : List Int} {m : Nat} (ls : List Nat) : (WayTo most n left s m ls ∨ WayJ most n left s (m + 1) ls) ↔ WayTo most n left s (m + 1) ls := by
  refine ⟨fun h => h.elim (fun ⟨j, h1, h2⟩ => ⟨j, by omega, h2⟩) (fun h => ⟨m + 1, Nat.le_refl _, h⟩), fun ⟨j, h1, h2⟩ => ?_⟩
  by_cases h : j = m + 1
  · subst h; exact .inr h2
  · exact .inl ⟨j, by omega, h2⟩
theorem wayTo_all {most n left : Nat} {s : List Int} {m : Nat} (hn : n ≤ most) (hm : s.length ≤ m ∨ left < (m + 1) * 2 ^ (most - n)) (ls : List Nat) : WayTo most n left s m ls ↔ Way most n left s ls := by
  refine ⟨fun ⟨j, _, h⟩ => wayJ_way hn h, fun h => ?_⟩
  obtain ⟨j, q⟩ := way_wayJ h
  refine ⟨j, ?_, q⟩
  obtain ⟨_, _, h1, h2, _⟩ := q
  rcases hm with hm | hm
  · omega
  · refine Nat.le_of_not_lt fun hj => ?_
    have := Nat.mul_le_mul_right (2 ^ (most - n)) (show m + 1 ≤ j from hj)
    omega
theorem best_J {most n left : Nat} {s : List Int} {j : Nat} {r : Int} (hj : j ≤ s.length) (hu : j * 2 ^ (most - n) ≤ left) (hp : Pos s) (h : Best (Way most (n + 1) (left - j * 2 ^ (most - n)) (s.drop j)) (s.drop j) r) :
    Best (WayJ most n left s j) s (if 0 ≤ r then pre n j s + r else -1) := by
  have hpre := pre_bd (n := n) j hp
  rcases h with ⟨rfl, h⟩ | ⟨h1, ⟨q, h2, h3⟩, h4⟩
  · rw [if_neg (by omega)]
    exact .inl ⟨rfl, fun ls ⟨q, _, _, _, w⟩ => h q w⟩
  · rw [if_pos h1]
    refine .inr ⟨by omega, ⟨_, ⟨q, rfl, hj, hu, h2⟩, by rw [cst_pre n j s q hj, h3]⟩, fun ls ⟨q', e, _, _, w⟩ => ?_⟩
    rw [e, cst_pre n j s q' hj]
    have := h4 q' w; omega
theorem best_nil {most n left : Nat} {s : List Int} (h : s.length = 0) : Best (Way most n left s) s 0 := by
  obtain rfl := List.eq_nil_of_length_eq_zero h
  refine .inr ⟨Int.le_refl _, ⟨[], ⟨rfl, List.Pairwise.nil, by simp, by simp, by simp [uSum]⟩, rfl⟩, fun ls w => ?_⟩
  have := w.len
  obtain rfl := List.eq_nil_of_length_eq_zero (by simpa using this)
  exact Int.le_refl _
theorem best_none {most n left : Nat} {s : List Int} (h : s.length ≠ 0) (hn : most < n) : Best (Way most n left s) s (-1) := by
  refine .inl ⟨rfl, fun ls w => ?_⟩
  have hl := w.len
  cases ls with
  | nil => simp at hl; omega
  | cons x r => have h1 := w.lo x (by simp); have h2 := w.hi x (by simp); omega
/-- One round of the loop. -/
theorem best_step {most n left : Nat} {s : List Int} {j : Nat} {best r : Int} (hj : j + 1 ≤ s.length) (hu : (j + 1) * 2 ^ (most - n) ≤ left) (hp : Pos s) (hb : Best (WayTo most n left s j) s best)
    (h : Best (Way most (n + 1) (left - (j + 1) * 2 ^ (most - n)) (s.drop (j + 1))) (s.drop (j + 1)) r) :
    Best (WayTo most n left s (j + 1)) s (if 0 ≤ r ∧ (best < 0 ∨ pre n (j + 1) s + r < best) then pre n (j + 1) s + r else best) := by
  have h1 := hb.or (best_J hj hu hp h)
  have h2 := h1.iff (fun ls => wayTo_succ ls)
  have hpre := pre_bd (n := n) (j + 1) hp
  by_cases h0 : 0 ≤ r
  · rw [if_pos h0] at h2
    by_cases h3 : best < 0 ∨ pre n (j + 1) s + r < best
    · rw [if_pos ⟨by omega, h3⟩] at h2; rw [if_pos ⟨h0, h3⟩]; exact h2
    · rw [if_neg (fun h => h3 h.2)] at h2; rw [if_neg (fun h => h3 h.2)]; exact h2
  · rw [if_neg h0, if_neg (by omega)] at h2
    rw [if_neg (by omega)]; exact h2
/-! the least is what is found -/
theorem uSum_map (most : Nat) (g : Nat → Nat) : ∀ n, uSum most (((List.range n).map g).reverse) = sumN n (fun i => 2 ^ (most - g i))
  | 0 => rfl
  | n + 1 => by
    rw [List.range_succ, List.map_append, List.reverse_append]
    simp only [List.map_cons, List.map_nil, List.reverse_cons, List.reverse_nil, List.nil_append, List.cons_append, uSum, sumN]
    rw [uSum_map most g n]; omega
theorem cst_map (f : Nat → Int) (g : Nat → Nat) : ∀ n, cst (((List.range n).map f).reverse) (((List.range n).map g).reverse) = sumZ n (fun i => f i * (g i : Nat))
  | 0 => rfl
  | n + 1 => by
    rw [List.range_succ, List.map_append, List.reverse_append, List.map_append, List.reverse_append]
    simp only [List.map_cons, List.map_nil, List.reverse_cons, List.reverse_nil, List.nil_append, List.cons_append, cst, sumZ]
    rw [cst_map f g n]; omega
theorem rev_map (ls : List Nat) : ((List.range ls.length).map fun i => ls.getD (ls.length - 1 - i) 0).reverse = ls := by
  apply List.ext_getElem?
  intro i
  by_cases h : i < ls.length
  · rw [List.getElem?_reverse (by simpa using h), List.getElem?_map, List.length_map, List.length_range, List.getElem?_range (by omega)]
    simp only [Option.map_some]
    rw [show ls.length - 1 - (ls.length - 1 - i) = i by omega]
    exact (getD_some h).symm
  · rw [List.getElem?_eq_none (by simpa using h), List.getElem?_eq_none (by omega)]
theorem least_is {fs : List Int} {most : Int} {r : Int} (h : Good fs most) (hb : Best (Way most.toNat 1 (2 ^ most.toNat) (srtF fs fs.length)) (srtF fs fs.length) r) : r = costV fs (lensV fs most) := by
  obtain ⟨g, F⟩ := found h
  have hm1 := h.most1
  have hfit : sumN (usedV fs).length (fun i => 2 ^ (most.toNat - g i)) ≤ 2 ^ most.toNat := by
    rcases Nat.lt_or_ge (usedV fs).length 2 with h2 | h2
    · rcases Nat.lt_or_ge (usedV fs).length 1 with h3 | h3
      · rw [show (usedV fs).length = 0 by omega]; exact Nat.zero_le _
      · have h4 : (usedV fs).length = 1 := by omega
        rw [h4]; simp only [sumN, Nat.zero_add]
        exact Nat.pow_le_pow_right (by omega) (by omega)
    · exact Nat.le_of_eq (F.kraft h2)
  have hway : Way most.toNat 1 (2 ^ most.toNat) (srtF fs fs.length) (((List.range (usedV fs).length).map g).reverse) := by
    refine ⟨by rw [srt_is h]; simp, ?_, fun x hx => ?_, fun x hx => ?_, by rw [uSum_map]; exact hfit⟩
    · rw [List.pairwise_reverse]
      refine List.Pairwise.map _ (fun a b hab => hab) ?_
      refine List.Pairwise.imp_of_mem (fun {a b} ha hb (hab : a < b) => ?_) List.pairwise_lt_range
      rw [List.mem_range] at ha hb
      exact F.anti a b (by omega) hb
    · simp only [List.mem_reverse, List.mem_map, List.mem_range] at hx
      obtain ⟨i, hi, rfl⟩ := hx
      exact F.pos i hi
    · simp only [List.mem_reverse, List.mem_map, List.mem_range] at hx
      obtain ⟨i, hi, rfl⟩ := hx
      have := F.top i hi; omega
  rw [F.cost h]
  rcases hb with ⟨_, h1⟩ | ⟨h1, ⟨ls, w, hc⟩, h3⟩
  · exact absurd hway (h1 _)
  · have hle := h3 _ hway
    rw [srt_is h, cst_map] at hle
    have hl : ls.length = (usedV fs).length := by have := w.len; rw [srt_is h] at this; simpa using this
    have hge := F.best (fun i => ls.getD (ls.length - 1 - i) 0) (fun i hi => w.lo _ (getD_mem (by omega))) (fun i hi => w.hi _ (getD_mem (by omega)))
      (by rw [← uSum_map, ← hl, rev_map]; exact w.fit)
    have e2 : sumZ (usedV fs).length (fun i => wU fs i * ((ls.getD (ls.length - 1 - i) 0 : Nat) : Int)) = cst (srtF fs fs.length) ls := by
      rw [← cst_map (wU fs) (fun i => ls.getD (ls.length - 1 - i) 0), ← srt_is h]
      congr 1
      rw [← hl]; exact rev_map ls
    rw [e2, hc] at hge
    omega
end Go.Proofs.Ytjlelcfabfmiaaa
