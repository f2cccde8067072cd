/- Plain laws: costs and sums of the lengths that are found. -/
import Derived.Test.YtjlelcfabfmiaaaM5
import Derived.Test.YtjlelcfabfmiaaaLW3
namespace Go.Proofs.Ytjlelcfabfmiaaa
open Go.SX Go.Hf
set_option linter.unusedVariables false
set_option linter.unusedSimpArgs false
theorem sumZ_front (f : Nat → Int) : ∀ n, sumZ (n + 1) f = f 0 + sumZ n (fun i => f (i + 1))
  | 0 => by simp [sumZ]
  | n + 1 => by
    have h := sumZ_front f n
    have e : sumZ (n + 1 + 1) f = sumZ (n + 1) f + f (n + 1) := rfl
    rw [e, h]
    simp only [sumZ]; omega
theorem costA_sum : ∀ (fs ls : List Int) (acc : Int), fs.length = ls.length → (∀ f ∈ fs, ¬ badF f) → (∀ l ∈ ls, ¬ badL l) → costA acc fs ls = acc + sumZ fs.length (fun s => fs.getD s 0 * ls.getD s 0)
  | [], [], acc, _, _, _ => by simp [costA, sumZ]
  | [], _ :: _, _, h, _, _ => by simp at h
  | _ :: _, [], _, h, _, _ => by simp at h
  | f :: fs, l :: ls, acc, h, hf, hl => by
    have h1 := hf f (by simp)
    have h2 := hl l (by simp)
    rw [costA, if_neg (fun h => h.elim h1 h2), costA_sum fs ls _ (by simpa using h) (fun f hf' => hf f (by simp [hf'])) (fun l hl' => hl l (by simp [hl'])), List.length_cons, sumZ_front]
    simp only [List.getD_cons_zero, List.getD_cons_succ]; omega
theorem kr_sum : ∀ ns : List Nat, ((Go.Lens.kr ns : Nat) : Int) = sumZ ns.length (fun s => (Go.Lens.w (ns.getD s 0) : Nat))
  | [] => rfl
  | x :: ns => by
    have h := kr_sum ns
    rw [List.length_cons, sumZ_front]
    simp only [List.getD_cons_zero, List.getD_cons_succ]
    rw [← h]; simp [Go.Lens.kr]
theorem getD_mem {α : Type} {l : List α} {s : Nat} {d : α} (h : s < l.length) : l.getD s d ∈ l := List.mem_of_getElem? (getD_some h)
theorem used_split {fs : List Int} {s : Nat} : (∃ p, p < (usedV fs).length ∧ (usedV fs).getD p 0 = s) ∨ (∀ i, i < (usedV fs).length → (usedV fs).getD i 0 ≠ s) := by
  by_cases h : s < fs.length ∧ 0 < fs.getD s 0
  · exact .inl (used_find h.1 h.2)
  · exact .inr (fun i hi e => h (by have := used_at hi; rw [e] at this; exact this))
section
variable {fs : List Int} {most : Int} {g : Nat → Nat}
theorem Found.val (F : Found fs most g) (h : Good fs most) (s : Nat) : 0 ≤ (lensV fs most).getD s 0 ∧ (lensV fs most).getD s 0 ≤ most ∧ (s < fs.length → (0 < (lensV fs most).getD s 0 ↔ 0 < fs.getD s 0)) := by
  have hm := h.most1
  rcases used_split (fs := fs) (s := s) with ⟨p, hp, rfl⟩ | hs
  · have h1 := F.pos p hp
    have h2 := F.top p hp
    have h3 := used_at hp
    rw [F.at_ p hp]
    exact ⟨by omega, h2, fun _ => ⟨fun _ => h3.2, fun _ => by omega⟩⟩
  · rw [F.off s hs]
    exact ⟨by omega, by omega, fun hl => ⟨fun h => by omega, fun h0 => by obtain ⟨p, hp, e⟩ := used_find hl h0; exact absurd e (hs p hp)⟩⟩
theorem Found.fine (F : Found fs most g) (h : Good fs most) : ∀ l ∈ lensV fs most, ¬ badL l := by
  intro l hl
  obtain ⟨s, hs, e⟩ := List.getElem_of_mem hl
  have hv := F.val h s
  rw [getD_of (List.getElem?_eq_getElem hs), e] at hv
  have := h.most15
  unfold badL; omega
theorem good_bad (h : Good fs most) : ∀ f ∈ fs, ¬ badF f := h.ok
theorem good_nn (h : Good fs most) (s : Nat) (hs : s < fs.length) : 0 ≤ fs.getD s 0 := by
  have := h.ok _ (getD_mem (d := 0) hs)
  unfold badF at this; omega
theorem cost_used (h : Good fs most) (ls : List Int) (hl : ls.length = fs.length) (hb : ∀ l ∈ ls, ¬ badL l) : costV fs ls = sumZ (usedV fs).length (fun i => wU fs i * ls.getD ((usedV fs).getD i 0) 0) := by
  have hlen := h.len
  rw [costV, if_neg (by omega), costA_sum fs ls 0 hl.symm h.ok hb, Int.zero_add]
  refine Eq.trans ?_ (sum_used (fun s => fs.getD s 0 * ls.getD s 0) fs)
  refine sumZ_congr _ (fun s hs => ?_)
  have := good_nn h s hs
  by_cases h0 : 0 < fs.getD s 0
  · rw [if_pos h0]
  · rw [if_neg h0, show fs.getD s 0 = 0 by omega, Int.zero_mul]
theorem Found.cost (F : Found fs most g) (h : Good fs most) : costV fs (lensV fs most) = sumZ (usedV fs).length (fun i => wU fs i * (g i : Nat)) := by
  rw [cost_used h _ F.len (F.fine h)]
  exact sumZ_congr _ (fun i hi => by rw [F.at_ i hi])
/-- The lengths as numbers. -/
def natsV (fs : List Int) (most : Int) : List Nat := (lensV fs most).map Int.toNat
theorem Found.nats (F : Found fs most g) (h : Good fs most) : lensV fs most = (natsV fs most).map fun (x : Nat) => (x : Int) := by
  unfold natsV
  rw [List.map_map]
  conv => lhs; rw [← List.map_id (lensV fs most)]
  apply List.map_congr_left
  intro x hx
  have := F.fine h x hx
  unfold badL at this
  simp; omega
theorem nats_get (s : Nat) : (natsV fs most).getD s 0 = ((lensV fs most).getD s 0).toNat := by
  unfold natsV
  rw [List.getD_eq_getElem?_getD, List.getD_eq_getElem?_getD, List.getElem?_map]
  cases (lensV fs most)[s]? <;> rfl
theorem Found.nats_len (F : Found fs most g) : (natsV fs most).length = fs.length := by unfold natsV; rw [List.length_map, F.len]
theorem Found.nats_ok (F : Found fs most g) (h : Good fs most) : Go.Lens.Ok (natsV fs most) := by
  intro x hx
  obtain ⟨y, hy, rfl⟩ := List.mem_map.1 hx
  have := F.fine h y hy
  unfold badL at this; omega
theorem w_pos {x : Nat} (h : 1 ≤ x) : Go.Lens.w x = 2 ^ (15 - x) := by unfold Go.Lens.w; rw [if_neg (by omega)]
theorem Found.kr (F : Found fs most g) (h : Good fs most) : Go.Lens.kr (natsV fs most) = sumN (usedV fs).length (fun i => 2 ^ (15 - g i)) := by
  have e : ((Go.Lens.kr (natsV fs most) : Nat) : Int) = ((sumN (usedV fs).length (fun i => 2 ^ (15 - g i)) : Nat) : Int) := by
    rw [kr_sum, F.nats_len, sumN_cast]
    have h1 := sum_used (fun s => ((Go.Lens.w ((natsV fs most).getD s 0) : Nat) : Int)) fs
    rw [sumZ_congr (g := fun i => ((2 ^ (15 - g i) : Nat) : Int)) (usedV fs).length (fun i hi => by
      rw [nats_get, F.at_ i hi, Int.toNat_natCast, w_pos (F.pos i hi)])] at h1
    rw [← h1]
    refine sumZ_congr _ (fun s hs => ?_)
    by_cases h0 : 0 < fs.getD s 0
    · rw [if_pos h0]
    · rw [if_neg h0]
      have hv := F.val h s
      have : (lensV fs most).getD s 0 = 0 := by
        have h2 := hv.2.2 hs
        have h3 := hv.1
        omega
      rw [nats_get, this]; rfl
  exact Int.ofNat.inj e
theorem sumN_mul (c : Nat) (f : Nat → Nat) : ∀ n, sumN n (fun i => c * f i) = c * sumN n f
  | 0 => by simp [sumN]
  | n + 1 => by simp only [sumN]; rw [sumN_mul c f n, Nat.mul_add]
theorem Found.full (F : Found fs most g) (h : Good fs most) (hn : 2 ≤ (usedV fs).length) : Go.Lens.kr (natsV fs most) = 32768 := by
  have hk := F.kraft hn
  have hm := h.most15
  have hm1 := h.most1
  rw [F.kr h, sumN_congr (g := fun i => 2 ^ (15 - most.toNat) * 2 ^ (most.toNat - g i)) _ (fun i hi => by
    have := F.top i hi
    rw [← Nat.pow_add]; congr 1; omega), sumN_mul, hk, ← Nat.pow_add, show 15 - most.toNat + most.toNat = 15 by omega]
theorem Found.lone (F : Found fs most g) (h : Good fs most) (hn : (usedV fs).length = 1) : Go.Lens.kr (natsV fs most) = 16384 := by
  rw [F.kr h, hn]
  simp only [sumN]
  rw [F.one hn]
def cntP (ls : List Int) : Nat → Nat
  | 0 => 0
  | i + 1 => cntP ls i + (if 0 < ls.getD i 0 then 1 else 0)
theorem cntP_sum (ls : List Int) : ∀ i, ((cntP ls i : Nat) : Int) = sumZ i (fun s => if 0 < ls.getD s 0 then 1 else 0)
  | 0 => rfl
  | i + 1 => by simp only [cntP, sumZ]; rw [Int.natCast_add, cntP_sum ls i]; split <;> rfl
theorem sumZ_ones : ∀ n : Nat, sumZ n (fun _ => 1) = (n : Int)
  | 0 => rfl
  | n + 1 => by simp only [sumZ]; rw [sumZ_ones n]; rfl
theorem Found.cnt (F : Found fs most g) (h : Good fs most) : cntP (lensV fs most) fs.length = (usedV fs).length := by
  have e : ((cntP (lensV fs most) fs.length : Nat) : Int) = ((usedV fs).length : Nat) := by
    rw [cntP_sum, ← sumZ_ones, ← sum_used (fun _ => 1)]
    refine sumZ_congr _ (fun s hs => ?_)
    have hv := (F.val h s).2.2 hs
    by_cases h0 : 0 < fs.getD s 0
    · rw [if_pos h0, if_pos (hv.2 h0)]
    · rw [if_neg h0, if_neg (fun h => h0 (hv.1 h))]
  exact Int.ofNat.inj e
theorem Found.order (F : Found fs most g) {i k : Nat} (hi : i < fs.length) (hk : k < fs.length) (fi : 0 < fs.getD i 0) (fk : 0 < fs.getD k 0) :
    (fs.getD i 0 < fs.getD k 0 ∨ fs.getD i 0 = fs.getD k 0 ∧ k < i → (lensV fs most).getD k 0 ≤ (lensV fs most).getD i 0) := by
  intro hh
  obtain ⟨p, hp, rfl⟩ := used_find hi fi
  obtain ⟨q, hq, rfl⟩ := used_find hk fk
  rw [F.at_ p hp, F.at_ q hq]
  have hpq : p ≤ q := by
    rcases Nat.lt_or_ge q p with h1 | h1
    · have := order_at h1 hp; omega
    · exact h1
  exact Int.ofNat_le.2 (F.anti p q hpq hq)
end
/-- Lengths that fit cost no less. -/
theorem beats {fs : List Int} (h : Good fs 15) (ns : List Nat) (hl : ns.length = fs.length) (hok : Go.Lens.Ok ns) (hk : Go.Lens.kr ns ≤ 32768) (hp : ∀ s, s < fs.length → 0 < fs.getD s 0 → ns.getD s 0 ≠ 0) :
    costV fs (lensV fs 15) ≤ costV fs (ns.map fun (x : Nat) => (x : Int)) := by
  obtain ⟨g, F⟩ := found h
  have hg : ∀ s, (ns.map fun (x : Nat) => (x : Int)).getD s 0 = (ns.getD s 0 : Int) := fun s => by
    rw [List.getD_eq_getElem?_getD, List.getD_eq_getElem?_getD, List.getElem?_map]
    cases ns[s]? <;> rfl
  have hb : ∀ l ∈ ns.map (fun (x : Nat) => (x : Int)), ¬ badL l := fun l hl => by
    obtain ⟨x, hx, rfl⟩ := List.mem_map.1 hl
    have := hok x hx
    unfold badL; omega
  rw [F.cost h, cost_used h _ (by rw [List.length_map]; exact hl) hb]
  rw [sumZ_congr (f := fun i => wU fs i * (ns.map fun (x : Nat) => (x : Int)).getD ((usedV fs).getD i 0) 0) (g := fun i => wU fs i * ((ns.getD ((usedV fs).getD i 0) 0 : Nat) : Int)) _ (fun i _ => by rw [hg])]
  refine F.best (fun i => ns.getD ((usedV fs).getD i 0) 0) (fun i hi => ?_) (fun i hi => ?_) ?_
  · have := used_at hi
    have := hp _ this.1 this.2
    omega
  · exact hok _ (getD_mem (by rw [hl]; exact (used_at hi).1))
  · have e : (15 : Int).toNat = 15 := rfl
    rw [e]
    have h1 : ((sumN (usedV fs).length (fun i => 2 ^ (15 - ns.getD ((usedV fs).getD i 0) 0)) : Nat) : Int) ≤ (Go.Lens.kr ns : Nat) := by
      rw [sumN_cast, kr_sum, hl]
      have h2 := sum_used (fun s => ((2 ^ (15 - ns.getD s 0) : Nat) : Int)) fs
      rw [← h2]
      refine sumZ_le _ (fun s hs => ?_)
      split
      · rename_i h0
        have := hp s hs h0
        rw [w_pos (by omega)]; exact Int.le_refl _
      · exact Int.natCast_nonneg _
    have h3 := Int.ofNat_le.1 h1
    have h4 : (2 : Nat) ^ 15 = 32768 := rfl
    omega
end Go.Proofs.Ytjlelcfabfmiaaa
