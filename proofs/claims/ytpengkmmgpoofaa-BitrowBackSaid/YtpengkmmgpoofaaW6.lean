/- The walks of the document's writer; the law of what is written. -/
import Derived.Test.YtpengkmmgpoofaaW4
namespace Go.Proofs.Ytpengkmmgpoofaa
open Go.SX Go.Bit
attribute [local irreducible] X E N Ct
set_option linter.unusedVariables false

/-- The document's writer: its bits. -/
structure RefW (H : Heap) (r : Nat) (wv : Value) (x len : Nat) : Prop where
  cell : H[r]? = some (.cells [wv].toArray 47 (0, 0))
  own : Own H 5 1 wv len (bv (bl x len))
  sep : r ∉ blk wv
theorem RefW.keep {H H' : Heap} {p : Nat} {sv : Value} {x len : Nat} {S : List Nat} (h : RefW H p sv x len) (hk : Kp S H H') (hS : ∀ b ∈ p :: blk sv, b ∉ S) : RefW H' p sv x len :=
  ⟨hk.keep h.cell (hS p (by simp)), h.own.keep hk (fun b hb => hS b (by simp [hb])), h.sep⟩
theorem RefW.blks {H : Heap} {p : Nat} {sv : Value} {x len : Nat} (h : RefW H p sv x len) : ∀ b ∈ p :: blk sv, b < H.size := by
  intro b hb
  rcases List.mem_cons.1 hb with rfl | hb
  · exact lt_of h.cell
  · exact h.own.lt b hb
/-- A slice's header is laid into the document's writer. -/
theorem RefW.stored {A B C : Heap} {r : Nat} {w0 w1 : Value} {x len x1 len1 : Nat} (h : RefW A r w0 x len) (ho : Own B 5 1 w1 len1 (bv (bl x1 len1))) (hk : Kp (blk w0) A B) (hb : ∀ b ∈ blk w1, b ∈ blk w0 ∨ A.size ≤ b)
    (hc : C[r]? = some (.cells [w1].toArray 47 (0, 0))) (hk2 : Kp [r] B C) : RefW C r w1 x1 len1 ∧ Chg r w0 A C w1 := by
  have hs : r ∉ blk w1 := fun hh => (hb r hh).elim h.sep (fun hh => by have := lt_of h.cell; omega)
  exact ⟨⟨hc, ho.keep hk2 (fun b hbb hh => hs (by simp at hh; exact hh ▸ hbb)), hs⟩, (hk.mono (T := r :: blk w0) (fun b hh => .inl (by simp [hh]))).trans hk2 (by simp), hb⟩
theorem bv_one1 (a : Nat) (h : a < 256) : [Value.int .u8 (a : Int)] = bv [UInt8.ofNat a] := by
  show _ = [Value.int .u8 (((UInt8.ofNat a).toNat : Nat) : Int)]
  rw [show (UInt8.ofNat a).toNat = a by simp; omega]
theorem put_put (x len a m b : Nat) : put (put x len a) (len + m) b = put x len (a + 2 ^ m * b) := by
  unfold put; rw [Nat.pow_add, Nat.mul_add, Nat.add_assoc, Nat.mul_assoc]
def putV (x len : Nat) (v n : Int) : Int × Nat × Nat := if n < 0 ∨ 32 < n ∨ v < 0 ∨ 2 ^ n.toNat ≤ v.toNat then (1, x, len) else (0, put x len v.toNat, len + n.toNat)
def codeV (x len : Nat) (v n : Int) : Int × Nat × Nat := if n < 0 ∨ 32 < n ∨ v < 0 ∨ 2 ^ n.toNat ≤ v.toNat then (1, x, len) else (0, put x len (turn v.toNat n.toNat), len + n.toNat)
theorem putV_lt (x len : Nat) (v n : Int) : (putV x len v n).2.2 ≤ len + 32 := by
  unfold putV; split
  · show len ≤ _; omega
  · rename_i h; show len + n.toNat ≤ _; omega
theorem codeV_lt (x len : Nat) (v n : Int) : (codeV x len v n).2.2 ≤ len + 32 := by
  unfold codeV; split
  · show len ≤ _; omega
  · rename_i h; show len + n.toNat ≤ _; omega
theorem put_all (p : Nat) (sv : Value) (x len : Nat) (H : Heap) (hW : Wr H p sv x len) (hlb : len ≤ 10000000) (v n : Int) : Ct Try.prog 13 #[ptr p, i64 v, i64 n] H fun u H' =>
    u = i64 (putV x len v n).1 ∧ ∃ sv', Wr H' p sv' (putV x len v n).2.1 (putV x len v n).2.2 ∧ Chg p sv H H' sv' := by
  unfold putV
  by_cases h : n < 0 ∨ 32 < n ∨ v < 0 ∨ 2 ^ n.toNat ≤ v.toNat
  · rw [if_pos h]
    have same : ∀ u H', (u = i64 1 ∧ H' = H) → (u = i64 1 ∧ ∃ sv', Wr H' p sv' x len ∧ Chg p sv H H' sv') := fun u H' ⟨h1, h2⟩ => by subst h2; exact ⟨h1, sv, hW, Chg.refl _ _ _⟩
    by_cases hn : n < 0 ∨ 32 < n
    · exact (put_badn_ct p sv x len H hW v n hn).mono same
    · by_cases hv : v < 0
      · exact (put_badv_ct p sv x len H hW v n (by omega) hv).mono same
      · obtain ⟨n', rfl⟩ := Int.eq_ofNat_of_zero_le (show 0 ≤ n by omega)
        obtain ⟨v', rfl⟩ := Int.eq_ofNat_of_zero_le (show 0 ≤ v by omega)
        have h2 : 2 ^ (n' : Int).toNat ≤ (v' : Int).toNat := by rcases h with h | h | h | h; omega; omega; omega; exact h
        exact (put_badw_ct p sv x len H hW v' n' (by omega) h2).mono same
  · rw [if_neg h]
    have h2 : ¬ 2 ^ n.toNat ≤ v.toNat := fun hh => h (.inr (.inr (.inr hh)))
    have h1 : ¬ (n < 0 ∨ 32 < n ∨ v < 0) := fun hh => h (by rcases hh with hh | hh | hh; exact .inl hh; exact .inr (.inl hh); exact .inr (.inr (.inl hh)))
    obtain ⟨n', rfl⟩ := Int.eq_ofNat_of_zero_le (show 0 ≤ n by omega)
    obtain ⟨v', rfl⟩ := Int.eq_ofNat_of_zero_le (show 0 ≤ v by omega)
    exact put_ct p sv x len H hW v' n' (by omega) (Nat.lt_of_not_le h2) hlb
theorem code_all (p : Nat) (sv : Value) (x len : Nat) (H : Heap) (hW : Wr H p sv x len) (hlb : len ≤ 10000000) (v n : Int) : Ct Try.prog 14 #[ptr p, i64 v, i64 n] H fun u H' =>
    u = i64 (codeV x len v n).1 ∧ ∃ sv', Wr H' p sv' (codeV x len v n).2.1 (codeV x len v n).2.2 ∧ Chg p sv H H' sv' := by
  unfold codeV
  by_cases h : n < 0 ∨ 32 < n ∨ v < 0 ∨ 2 ^ n.toNat ≤ v.toNat
  · rw [if_pos h]
    have same : ∀ u H', (u = i64 1 ∧ H' = H) → (u = i64 1 ∧ ∃ sv', Wr H' p sv' x len ∧ Chg p sv H H' sv') := fun u H' ⟨h1, h2⟩ => by subst h2; exact ⟨h1, sv, hW, Chg.refl _ _ _⟩
    by_cases hn : n < 0 ∨ 32 < n
    · exact (code_badn_ct p sv x len H hW v n hn).mono same
    · by_cases hv : v < 0
      · exact (code_badv_ct p sv x len H hW v n (by omega) hv).mono same
      · obtain ⟨n', rfl⟩ := Int.eq_ofNat_of_zero_le (show 0 ≤ n by omega)
        obtain ⟨v', rfl⟩ := Int.eq_ofNat_of_zero_le (show 0 ≤ v by omega)
        have h2 : 2 ^ (n' : Int).toNat ≤ (v' : Int).toNat := by rcases h with h | h | h | h; omega; omega; omega; exact h
        exact (code_badw_ct p sv x len H hW v' n' (by omega) h2).mono same
  · rw [if_neg h]
    have h2 : ¬ 2 ^ n.toNat ≤ v.toNat := fun hh => h (.inr (.inr (.inr hh)))
    have h1 : ¬ (n < 0 ∨ 32 < n ∨ v < 0) := fun hh => h (by rcases hh with hh | hh | hh; exact .inl hh; exact .inr (.inl hh); exact .inr (.inr (.inl hh)))
    obtain ⟨n', rfl⟩ := Int.eq_ofNat_of_zero_le (show 0 ≤ n by omega)
    obtain ⟨v', rfl⟩ := Int.eq_ofNat_of_zero_le (show 0 ≤ v by omega)
    exact code_ct p sv x len H hW v' n' (by omega) (Nat.lt_of_not_le h2) hlb

theorem rput_bad0 (r : Nat) (H : Heap) (v n : Int) (hn : n < 0) : Ct Try.prog 23 #[ptr r, i64 v, i64 n] H fun u H' => u = i64 1 ∧ H' = H := by
  refine Ct.into 45 Try.func23 rfl [(0, ptr r), (1, i64 v), (2, i64 n)] rfl ⟨rfl, rfl, rfl, trivial⟩ ?_
  refine E.seq ?_
  refine E.region ?_
  refine X.asg rfl rfl rfl rfl rfl ?_
  refine X.done [(0, _), (1, _), (2, _), (6, _)] ⟨rfl, rfl, rfl, rfl, trivial⟩ ?_
  refine N.then ?_
  refine E.seq ?_
  refine E.seq ?_
  refine E.region ?_
  refine X.mv rfl rfl rfl rfl rfl ?_
  refine X.lssT rfl rfl rfl rfl rfl rfl (by omega) ?_
  refine X.mv rfl rfl rfl rfl rfl ?_
  refine X.skip rfl rfl rfl ?_
  refine X.skip rfl rfl rfl ?_
  refine X.pickT rfl rfl rfl rfl rfl rfl ?_
  refine X.mv rfl rfl rfl rfl rfl ?_
  refine X.skip rfl rfl rfl ?_
  refine X.skip rfl rfl rfl ?_
  refine X.pickT rfl rfl rfl rfl rfl rfl ?_
  refine X.mv rfl rfl rfl rfl rfl ?_
  refine X.skip rfl rfl rfl ?_
  refine X.skip rfl rfl rfl ?_
  refine X.skip rfl rfl rfl ?_
  refine X.skip rfl rfl rfl ?_
  refine X.skip rfl rfl rfl ?_
  refine X.pickT rfl rfl rfl rfl rfl rfl ?_
  refine X.done [(0, _), (1, _), (2, _), (6, _), (24, _)] ⟨rfl, rfl, rfl, rfl, rfl, trivial⟩ ?_
  refine N.then ?_
  refine E.condT rfl ?_
  refine E.seq ?_
  refine E.region ?_
  refine X.asg rfl rfl rfl rfl rfl ?_
  refine X.done [(0, _), (1, _), (2, _), (6, _)] ⟨rfl, rfl, rfl, rfl, trivial⟩ ?_
  refine N.then ?_
  refine E.ret ?_
  refine N.thenR ?_
  exact N.retH [_] ⟨_, _, rfl, rfl, rfl⟩ ⟨rfl, rfl⟩

theorem rput_bad1 (r : Nat) (H : Heap) (v n : Int) (hn : 32 < n) : Ct Try.prog 23 #[ptr r, i64 v, i64 n] H fun u H' => u = i64 1 ∧ H' = H := by
  refine Ct.into 45 Try.func23 rfl [(0, ptr r), (1, i64 v), (2, i64 n)] rfl ⟨rfl, rfl, rfl, trivial⟩ ?_
  refine E.seq ?_
  refine E.region ?_
  refine X.asg rfl rfl rfl rfl rfl ?_
  refine X.done [(0, _), (1, _), (2, _), (6, _)] ⟨rfl, rfl, rfl, rfl, trivial⟩ ?_
  refine N.then ?_
  refine E.seq ?_
  refine E.seq ?_
  refine E.region ?_
  refine X.mv rfl rfl rfl rfl rfl ?_
  refine X.lssF rfl rfl rfl rfl rfl rfl (by omega) ?_
  refine X.mv rfl rfl rfl rfl rfl ?_
  refine X.mv rfl rfl rfl rfl rfl ?_
  refine X.gtrT rfl rfl rfl rfl rfl rfl (by omega) ?_
  refine X.pickF rfl rfl rfl rfl rfl rfl ?_
  refine X.mv rfl rfl rfl rfl rfl ?_
  refine X.skip rfl rfl rfl ?_
  refine X.skip rfl rfl rfl ?_
  refine X.pickT rfl rfl rfl rfl rfl rfl ?_
  refine X.mv rfl rfl rfl rfl rfl ?_
  refine X.skip rfl rfl rfl ?_
  refine X.skip rfl rfl rfl ?_
  refine X.skip rfl rfl rfl ?_
  refine X.skip rfl rfl rfl ?_
  refine X.skip rfl rfl rfl ?_
  refine X.pickT rfl rfl rfl rfl rfl rfl ?_
  refine X.done [(0, _), (1, _), (2, _), (6, _), (24, _)] ⟨rfl, rfl, rfl, rfl, rfl, trivial⟩ ?_
  refine N.then ?_
  refine E.condT rfl ?_
  refine E.seq ?_
  refine E.region ?_
  refine X.asg rfl rfl rfl rfl rfl ?_
  refine X.done [(0, _), (1, _), (2, _), (6, _)] ⟨rfl, rfl, rfl, rfl, trivial⟩ ?_
  refine N.then ?_
  refine E.ret ?_
  refine N.thenR ?_
  exact N.retH [_] ⟨_, _, rfl, rfl, rfl⟩ ⟨rfl, rfl⟩

theorem rput_badv (r : Nat) (H : Heap) (v n : Int) (hn : 0 ≤ n ∧ n ≤ 32) (hv : v < 0) : Ct Try.prog 23 #[ptr r, i64 v, i64 n] H fun u H' => u = i64 1 ∧ H' = H := by
  refine Ct.into 45 Try.func23 rfl [(0, ptr r), (1, i64 v), (2, i64 n)] rfl ⟨rfl, rfl, rfl, trivial⟩ ?_
  refine E.seq ?_
  refine E.region ?_
  refine X.asg rfl rfl rfl rfl rfl ?_
  refine X.done [(0, _), (1, _), (2, _), (6, _)] ⟨rfl, rfl, rfl, rfl, trivial⟩ ?_
  refine N.then ?_
  refine E.seq ?_
  refine E.seq ?_
  refine E.region ?_
  refine X.mv rfl rfl rfl rfl rfl ?_
  refine X.lssF rfl rfl rfl rfl rfl rfl (by omega) ?_
  refine X.mv rfl rfl rfl rfl rfl ?_
  refine X.mv rfl rfl rfl rfl rfl ?_
  refine X.gtrF rfl rfl rfl rfl rfl rfl (by omega) ?_
  refine X.pickF rfl rfl rfl rfl rfl rfl ?_
  refine X.mv rfl rfl rfl rfl rfl ?_
  refine X.mv rfl rfl rfl rfl rfl ?_
  refine X.lssT rfl rfl rfl rfl rfl rfl (by omega) ?_
  refine X.pickF rfl rfl rfl rfl rfl rfl ?_
  refine X.mv rfl rfl rfl rfl rfl ?_
  refine X.skip rfl rfl rfl ?_
  refine X.skip rfl rfl rfl ?_
  refine X.skip rfl rfl rfl ?_
  refine X.skip rfl rfl rfl ?_
  refine X.skip rfl rfl rfl ?_
  refine X.pickT rfl rfl rfl rfl rfl rfl ?_
  refine X.done [(0, _), (1, _), (2, _), (6, _), (24, _)] ⟨rfl, rfl, rfl, rfl, rfl, trivial⟩ ?_
  refine N.then ?_
  refine E.condT rfl ?_
  refine E.seq ?_
  refine E.region ?_
  refine X.asg rfl rfl rfl rfl rfl ?_
  refine X.done [(0, _), (1, _), (2, _), (6, _)] ⟨rfl, rfl, rfl, rfl, trivial⟩ ?_
  refine N.then ?_
  refine E.ret ?_
  refine N.thenR ?_
  exact N.retH [_] ⟨_, _, rfl, rfl, rfl⟩ ⟨rfl, rfl⟩

theorem rput_badw (r : Nat) (H : Heap) (v n : Nat) (hn : n ≤ 32) (hv : 2 ^ n ≤ v) : Ct Try.prog 23 #[ptr r, i64 v, i64 n] H fun u H' => u = i64 1 ∧ H' = H := by
  have hpn : 2 ^ n ≤ 2 ^ 32 := Nat.pow_le_pow_right (by omega) hn
  have eN : ((2 ^ n : Nat) : Int) = 1 * 2 ^ n := by simp
  have bN : 0 ≤ (1 : Int) * 2 ^ n ∧ (1 : Int) * 2 ^ n ≤ 4294967296 := by rw [← eN]; exact ⟨Int.natCast_nonneg _, Int.ofNat_le.2 hpn⟩
  refine Ct.into 45 Try.func23 rfl [(0, ptr r), (1, i64 v), (2, i64 n)] rfl ⟨rfl, rfl, rfl, trivial⟩ ?_
  refine E.seq ?_
  refine E.region ?_
  refine X.asg rfl rfl rfl rfl rfl ?_
  refine X.done [(0, _), (1, _), (2, _), (6, _)] ⟨rfl, rfl, rfl, rfl, trivial⟩ ?_
  refine N.then ?_
  refine E.seq ?_
  refine E.seq ?_
  refine E.region ?_
  refine X.mv rfl rfl rfl rfl rfl ?_
  refine X.lssF rfl rfl rfl rfl rfl rfl (by omega) ?_
  refine X.mv rfl rfl rfl rfl rfl ?_
  refine X.mv rfl rfl rfl rfl rfl ?_
  refine X.gtrF rfl rfl rfl rfl rfl rfl (by omega) ?_
  refine X.pickF rfl rfl rfl rfl rfl rfl ?_
  refine X.mv rfl rfl rfl rfl rfl ?_
  refine X.mv rfl rfl rfl rfl rfl ?_
  refine X.lssF rfl rfl rfl rfl rfl rfl (by omega) ?_
  refine X.pickF rfl rfl rfl rfl rfl rfl ?_
  refine X.mv rfl rfl rfl rfl rfl ?_
  refine X.mv rfl rfl rfl rfl rfl ?_
  refine X.mv rfl rfl rfl rfl rfl ?_
  refine X.convE (zz := (n : Int)) rfl rfl rfl rfl rfl Try.underlying24 Try.us3 (IntWalk.u64_in _ (by omega)) ?_
  refine X.shlE (zz := ((2 ^ n : Nat) : Int)) rfl rfl rfl rfl rfl rfl (by omega) (by rw [eN]; exact shlN rfl (by omega) (by omega) (by omega)) ?_
  refine X.geqT rfl rfl rfl rfl rfl rfl (Int.ofNat_le.2 hv) ?_
  refine X.pickF rfl rfl rfl rfl rfl rfl ?_
  refine X.done [(0, _), (1, _), (2, _), (6, _), (24, _)] ⟨rfl, rfl, rfl, rfl, rfl, trivial⟩ ?_
  refine N.then ?_
  refine E.condT rfl ?_
  refine E.seq ?_
  refine E.region ?_
  refine X.asg rfl rfl rfl rfl rfl ?_
  refine X.done [(0, _), (1, _), (2, _), (6, _)] ⟨rfl, rfl, rfl, rfl, trivial⟩ ?_
  refine N.then ?_
  refine E.ret ?_
  refine N.thenR ?_
  exact N.retH [_] ⟨_, _, rfl, rfl, rfl⟩ ⟨rfl, rfl⟩

theorem rcode_bad0 (r : Nat) (H : Heap) (v n : Int) (hn : n < 0) : Ct Try.prog 24 #[ptr r, i64 v, i64 n] H fun u H' => u = i64 1 ∧ H' = H := by
  refine Ct.into 30 Try.func24 rfl [(0, ptr r), (1, i64 v), (2, i64 n)] rfl ⟨rfl, rfl, rfl, trivial⟩ ?_
  refine E.seq ?_
  refine E.region ?_
  refine X.asg rfl rfl rfl rfl rfl ?_
  refine X.done [(0, _), (1, _), (2, _), (6, _)] ⟨rfl, rfl, rfl, rfl, trivial⟩ ?_
  refine N.then ?_
  refine E.seq ?_
  refine E.seq ?_
  refine E.region ?_
  refine X.mv rfl rfl rfl rfl rfl ?_
  refine X.lssT rfl rfl rfl rfl rfl rfl (by omega) ?_
  refine X.mv rfl rfl rfl rfl rfl ?_
  refine X.skip rfl rfl rfl ?_
  refine X.skip rfl rfl rfl ?_
  refine X.pickT rfl rfl rfl rfl rfl rfl ?_
  refine X.mv rfl rfl rfl rfl rfl ?_
  refine X.skip rfl rfl rfl ?_
  refine X.skip rfl rfl rfl ?_
  refine X.pickT rfl rfl rfl rfl rfl rfl ?_
  refine X.mv rfl rfl rfl rfl rfl ?_
  refine X.skip rfl rfl rfl ?_
  refine X.skip rfl rfl rfl ?_
  refine X.skip rfl rfl rfl ?_
  refine X.skip rfl rfl rfl ?_
  refine X.skip rfl rfl rfl ?_
  refine X.pickT rfl rfl rfl rfl rfl rfl ?_
  refine X.done [(0, _), (1, _), (2, _), (6, _), (23, _)] ⟨rfl, rfl, rfl, rfl, rfl, trivial⟩ ?_
  refine N.then ?_
  refine E.condT rfl ?_
  refine E.seq ?_
  refine E.region ?_
  refine X.asg rfl rfl rfl rfl rfl ?_
  refine X.done [(0, _), (1, _), (2, _), (6, _)] ⟨rfl, rfl, rfl, rfl, trivial⟩ ?_
  refine N.then ?_
  refine E.ret ?_
  refine N.thenR ?_
  exact N.retH [_] ⟨_, _, rfl, rfl, rfl⟩ ⟨rfl, rfl⟩

theorem rcode_bad1 (r : Nat) (H : Heap) (v n : Int) (hn : 32 < n) : Ct Try.prog 24 #[ptr r, i64 v, i64 n] H fun u H' => u = i64 1 ∧ H' = H := by
  refine Ct.into 30 Try.func24 rfl [(0, ptr r), (1, i64 v), (2, i64 n)] rfl ⟨rfl, rfl, rfl, trivial⟩ ?_
  refine E.seq ?_
  refine E.region ?_
  refine X.asg rfl rfl rfl rfl rfl ?_
  refine X.done [(0, _), (1, _), (2, _), (6, _)] ⟨rfl, rfl, rfl, rfl, trivial⟩ ?_
  refine N.then ?_
  refine E.seq ?_
  refine E.seq ?_
  refine E.region ?_
  refine X.mv rfl rfl rfl rfl rfl ?_
  refine X.lssF rfl rfl rfl rfl rfl rfl (by omega) ?_
  refine X.mv rfl rfl rfl rfl rfl ?_
  refine X.mv rfl rfl rfl rfl rfl ?_
  refine X.gtrT rfl rfl rfl rfl rfl rfl (by omega) ?_
  refine X.pickF rfl rfl rfl rfl rfl rfl ?_
  refine X.mv rfl rfl rfl rfl rfl ?_
  refine X.skip rfl rfl rfl ?_
  refine X.skip rfl rfl rfl ?_
  refine X.pickT rfl rfl rfl rfl rfl rfl ?_
  refine X.mv rfl rfl rfl rfl rfl ?_
  refine X.skip rfl rfl rfl ?_
  refine X.skip rfl rfl rfl ?_
  refine X.skip rfl rfl rfl ?_
  refine X.skip rfl rfl rfl ?_
  refine X.skip rfl rfl rfl ?_
  refine X.pickT rfl rfl rfl rfl rfl rfl ?_
  refine X.done [(0, _), (1, _), (2, _), (6, _), (23, _)] ⟨rfl, rfl, rfl, rfl, rfl, trivial⟩ ?_
  refine N.then ?_
  refine E.condT rfl ?_
  refine E.seq ?_
  refine E.region ?_
  refine X.asg rfl rfl rfl rfl rfl ?_
  refine X.done [(0, _), (1, _), (2, _), (6, _)] ⟨rfl, rfl, rfl, rfl, trivial⟩ ?_
  refine N.then ?_
  refine E.ret ?_
  refine N.thenR ?_
  exact N.retH [_] ⟨_, _, rfl, rfl, rfl⟩ ⟨rfl, rfl⟩

theorem rcode_badv (r : Nat) (H : Heap) (v n : Int) (hn : 0 ≤ n ∧ n ≤ 32) (hv : v < 0) : Ct Try.prog 24 #[ptr r, i64 v, i64 n] H fun u H' => u = i64 1 ∧ H' = H := by
  refine Ct.into 30 Try.func24 rfl [(0, ptr r), (1, i64 v), (2, i64 n)] rfl ⟨rfl, rfl, rfl, trivial⟩ ?_
  refine E.seq ?_
  refine E.region ?_
  refine X.asg rfl rfl rfl rfl rfl ?_
  refine X.done [(0, _), (1, _), (2, _), (6, _)] ⟨rfl, rfl, rfl, rfl, trivial⟩ ?_
  refine N.then ?_
  refine E.seq ?_
  refine E.seq ?_
  refine E.region ?_
  refine X.mv rfl rfl rfl rfl rfl ?_
  refine X.lssF rfl rfl rfl rfl rfl rfl (by omega) ?_
  refine X.mv rfl rfl rfl rfl rfl ?_
  refine X.mv rfl rfl rfl rfl rfl ?_
  refine X.gtrF rfl rfl rfl rfl rfl rfl (by omega) ?_
  refine X.pickF rfl rfl rfl rfl rfl rfl ?_
  refine X.mv rfl rfl rfl rfl rfl ?_
  refine X.mv rfl rfl rfl rfl rfl ?_
  refine X.lssT rfl rfl rfl rfl rfl rfl (by omega) ?_
  refine X.pickF rfl rfl rfl rfl rfl rfl ?_
  refine X.mv rfl rfl rfl rfl rfl ?_
  refine X.skip rfl rfl rfl ?_
  refine X.skip rfl rfl rfl ?_
  refine X.skip rfl rfl rfl ?_
  refine X.skip rfl rfl rfl ?_
  refine X.skip rfl rfl rfl ?_
  refine X.pickT rfl rfl rfl rfl rfl rfl ?_
  refine X.done [(0, _), (1, _), (2, _), (6, _), (23, _)] ⟨rfl, rfl, rfl, rfl, rfl, trivial⟩ ?_
  refine N.then ?_
  refine E.condT rfl ?_
  refine E.seq ?_
  refine E.region ?_
  refine X.asg rfl rfl rfl rfl rfl ?_
  refine X.done [(0, _), (1, _), (2, _), (6, _)] ⟨rfl, rfl, rfl, rfl, trivial⟩ ?_
  refine N.then ?_
  refine E.ret ?_
  refine N.thenR ?_
  exact N.retH [_] ⟨_, _, rfl, rfl, rfl⟩ ⟨rfl, rfl⟩

theorem rcode_badw (r : Nat) (H : Heap) (v n : Nat) (hn : n ≤ 32) (hv : 2 ^ n ≤ v) : Ct Try.prog 24 #[ptr r, i64 v, i64 n] H fun u H' => u = i64 1 ∧ H' = H := by
  have hpn : 2 ^ n ≤ 2 ^ 32 := Nat.pow_le_pow_right (by omega) hn
  have eN : ((2 ^ n : Nat) : Int) = 1 * 2 ^ n := by simp
  have bN : 0 ≤ (1 : Int) * 2 ^ n ∧ (1 : Int) * 2 ^ n ≤ 4294967296 := by rw [← eN]; exact ⟨Int.natCast_nonneg _, Int.ofNat_le.2 hpn⟩
  refine Ct.into 30 Try.func24 rfl [(0, ptr r), (1, i64 v), (2, i64 n)] rfl ⟨rfl, rfl, rfl, trivial⟩ ?_
  refine E.seq ?_
  refine E.region ?_
  refine X.asg rfl rfl rfl rfl rfl ?_
  refine X.done [(0, _), (1, _), (2, _), (6, _)] ⟨rfl, rfl, rfl, rfl, trivial⟩ ?_
  refine N.then ?_
  refine E.seq ?_
  refine E.seq ?_
  refine E.region ?_
  refine X.mv rfl rfl rfl rfl rfl ?_
  refine X.lssF rfl rfl rfl rfl rfl rfl (by omega) ?_
  refine X.mv rfl rfl rfl rfl rfl ?_
  refine X.mv rfl rfl rfl rfl rfl ?_
  refine X.gtrF rfl rfl rfl rfl rfl rfl (by omega) ?_
  refine X.pickF rfl rfl rfl rfl rfl rfl ?_
  refine X.mv rfl rfl rfl rfl rfl ?_
  refine X.mv rfl rfl rfl rfl rfl ?_
  refine X.lssF rfl rfl rfl rfl rfl rfl (by omega) ?_
  refine X.pickF rfl rfl rfl rfl rfl rfl ?_
  refine X.mv rfl rfl rfl rfl rfl ?_
  refine X.mv rfl rfl rfl rfl rfl ?_
  refine X.mv rfl rfl rfl rfl rfl ?_
  refine X.convE (zz := (n : Int)) rfl rfl rfl rfl rfl Try.underlying24 Try.us3 (IntWalk.u64_in _ (by omega)) ?_
  refine X.shlE (zz := ((2 ^ n : Nat) : Int)) rfl rfl rfl rfl rfl rfl (by omega) (by rw [eN]; exact shlN rfl (by omega) (by omega) (by omega)) ?_
  refine X.geqT rfl rfl rfl rfl rfl rfl (Int.ofNat_le.2 hv) ?_
  refine X.pickF rfl rfl rfl rfl rfl rfl ?_
  refine X.done [(0, _), (1, _), (2, _), (6, _), (23, _)] ⟨rfl, rfl, rfl, rfl, rfl, trivial⟩ ?_
  refine N.then ?_
  refine E.condT rfl ?_
  refine E.seq ?_
  refine E.region ?_
  refine X.asg rfl rfl rfl rfl rfl ?_
  refine X.done [(0, _), (1, _), (2, _), (6, _)] ⟨rfl, rfl, rfl, rfl, trivial⟩ ?_
  refine N.then ?_
  refine E.ret ?_
  refine N.thenR ?_
  exact N.retH [_] ⟨_, _, rfl, rfl, rfl⟩ ⟨rfl, rfl⟩

theorem rput_ok (r : Nat) (wv : Value) (x len : Nat) (H : Heap) (hW : RefW H r wv x len) (hx : x < 2 ^ len) (hlb : len ≤ 10000000) (v n : Nat) (hn : n ≤ 32) (hv : v < 2 ^ n) : Ct Try.prog 23 #[ptr r, i64 v, i64 n] H fun u H' => u = i64 0 ∧ ∃ wv', RefW H' r wv' (put x len v) (len + n) ∧ Chg r wv H H' wv' := by
  have hpn : 2 ^ n ≤ 2 ^ 32 := Nat.pow_le_pow_right (by omega) hn
  have eN : ((2 ^ n : Nat) : Int) = 1 * 2 ^ n := by simp
  have bN : 0 ≤ (1 : Int) * 2 ^ n ∧ (1 : Int) * 2 ^ n ≤ 4294967296 := by rw [← eN]; exact ⟨Int.natCast_nonneg _, Int.ofNat_le.2 hpn⟩
  refine Ct.into 45 Try.func23 rfl [(0, ptr r), (1, i64 v), (2, i64 n)] rfl ⟨rfl, rfl, rfl, trivial⟩ ?_
  refine E.seq ?_
  refine E.region ?_
  refine X.asg rfl rfl rfl rfl rfl ?_
  refine X.done [(0, _), (1, _), (2, _), (6, _)] ⟨rfl, rfl, rfl, rfl, trivial⟩ ?_
  refine N.then ?_
  refine E.seq ?_
  refine E.seq ?_
  refine E.region ?_
  refine X.mv rfl rfl rfl rfl rfl ?_
  refine X.lssF rfl rfl rfl rfl rfl rfl (by omega) ?_
  refine X.mv rfl rfl rfl rfl rfl ?_
  refine X.mv rfl rfl rfl rfl rfl ?_
  refine X.gtrF rfl rfl rfl rfl rfl rfl (by omega) ?_
  refine X.pickF rfl rfl rfl rfl rfl rfl ?_
  refine X.mv rfl rfl rfl rfl rfl ?_
  refine X.mv rfl rfl rfl rfl rfl ?_
  refine X.lssF rfl rfl rfl rfl rfl rfl (by omega) ?_
  refine X.pickF rfl rfl rfl rfl rfl rfl ?_
  refine X.mv rfl rfl rfl rfl rfl ?_
  refine X.mv rfl rfl rfl rfl rfl ?_
  refine X.mv rfl rfl rfl rfl rfl ?_
  refine X.convE (zz := (n : Int)) rfl rfl rfl rfl rfl Try.underlying24 Try.us3 (IntWalk.u64_in _ (by omega)) ?_
  refine X.shlE (zz := ((2 ^ n : Nat) : Int)) rfl rfl rfl rfl rfl rfl (by omega) (by rw [eN]; exact shlN rfl (by omega) (by omega) (by omega)) ?_
  refine X.geqF rfl rfl rfl rfl rfl rfl (Int.not_le.2 (Int.ofNat_lt.2 hv)) ?_
  refine X.pickF rfl rfl rfl rfl rfl rfl ?_
  refine X.done [(0, _), (1, _), (2, _), (6, _), (24, _)] ⟨rfl, rfl, rfl, rfl, rfl, trivial⟩ ?_
  refine N.then ?_
  refine E.condF rfl ?_
  refine E.skip ?_
  refine N.then ?_
  refine E.seq ?_
  refine E.seq ?_
  refine E.region ?_
  refine X.asg rfl rfl rfl rfl rfl ?_
  refine X.done [(0, _), (1, _), (2, _), (6, _), (7, _)] ⟨rfl, rfl, rfl, rfl, rfl, trivial⟩ ?_
  refine N.then ?_
  refine E.block ?_
  -- MISSING in G: [6]
  refine E.loop (fun (i : Nat) => [(0, ptr r), (1, i64 v), (2, i64 n), (7, i64 i)]) (fun (i : Nat) H' => i ≤ n ∧ ∃ wv', RefW H' r wv' (put x len v) (len + i) ∧ Chg r wv H H' wv') (fun (i : Nat) => n - i) 0 ⟨rfl, rfl, rfl, rfl, trivial⟩ ⟨Nat.zero_le _, wv, ⟨hW.cell, by rw [Nat.add_zero, bl_put0]; exact hW.own, hW.sep⟩, Chg.refl _ _ _⟩ ?_
  rintro i H1 ⟨hi, w1, hW1, hg1⟩
  obtain ⟨a1, c1, rfl⟩ := hW1.own.len
  have hbt := bit_lt v i
  have hdl : v / 2 ^ i ≤ v := Nat.div_le_self _ _
  refine E.seq ?_
  refine E.seq ?_
  refine E.region ?_
  refine X.mv rfl rfl rfl rfl rfl ?_
  refine X.mv rfl rfl rfl rfl rfl ?_
  refine X.lss rfl rfl rfl rfl rfl rfl ?_
  refine X.done [(0, _), (1, _), (2, _), (7, _), (25, _), (26, _), (27, _)] ⟨rfl, rfl, rfl, rfl, rfl, rfl, rfl, trivial⟩ ?_
  refine N.then ?_
  refine E.condD rfl (fun hc => ?_) (fun hc => ?_)
  · refine E.skip ?_
    refine N.then ?_
    refine E.seq ?_
    refine E.block ?_
    refine E.region ?_
    refine X.mv rfl rfl rfl rfl rfl ?_
    refine X.mv rfl rfl rfl rfl rfl ?_
    refine X.nilP rfl rfl rfl rfl rfl ?_
    refine X.fld rfl rfl rfl rfl rfl Try.off47_0 ?_
    refine X.ld rfl rfl rfl rfl Try.ag45 (hW1.cell) (rfl) ?_
    refine X.mv rfl rfl rfl rfl rfl ?_
    refine X.mv rfl rfl rfl rfl rfl ?_
    refine X.convE (zz := (i : Int)) rfl rfl rfl rfl rfl Try.underlying24 Try.us3 (IntWalk.u64_in _ (by omega)) ?_
    refine X.shrE (zz := ((v / 2 ^ i : Nat) : Int)) rfl rfl rfl rfl rfl rfl (by omega) (shrN (rfl) (rfl) (by show _ ≤ 64; omega)) ?_
    refine X.remE (zz := ((v / 2 ^ i % 2 : Nat) : Int)) rfl rfl rfl rfl rfl rfl (by omega) (tmod2 _) ?_
    refine X.convE (zz := ((v / 2 ^ i % 2 : Nat) : Int)) rfl rfl rfl rfl rfl Try.underlying5 Try.us3 (IntWalk.u8_in _ (by omega)) ?_
    refine X.lit (e := 5) (cs := [.int .u8 ((v / 2 ^ i % 2 : Nat) : Int)]) rfl rfl rfl rfl rfl (fun _ => by kernel_rfl) ?_
    intro b2 H2 hn2 hb2 hk2
    refine X.app T5 rfl rfl rfl rfl rfl rfl (hW1.own.keep hk2 (by simp)) (.inl ⟨rfl, _, _, rfl, .inr ⟨b2, 0, _, _, _, rfl, hb2, fun j u hj => by rw [Nat.zero_add]; exact hj⟩⟩) (.inl ⟨5, Try.underlying45, _, _, rfl⟩) (by simp [Value.oneCell']) (by first | (simp only [maxLen]; omega) | omega) (by first | (simp only [maxLen]; omega) | omega) ?_
    intro v3 H3 ho3 hk3 hb3 hn3
    obtain ⟨a3, c3, rfl⟩ := ho3.len
    rw [bv_one1 _ (by omega), ← bv_append, ← bl_put x len v hx i] at ho3
    have hb3 : ∀ b ∈ blk (.slice a3 (len + i + 1) c3), b ∈ blk (.slice a1 (len + i) c1) ∨ H1.size ≤ b := fun b hb => hb3.elim (fun h => .inl (h ▸ hb)) (fun h => .inr (Nat.le_trans hk2.size (h b hb)))
    have hk23 : Kp (blk (.slice a1 (len + i) c1)) H1 H3 := (hk2.mono (by simp)).trans hk3 (fun b hb => .inl hb)
    refine X.nilP rfl rfl rfl rfl rfl ?_
    refine X.fld rfl rfl rfl rfl rfl Try.off47_0 ?_
    refine X.st rfl rfl rfl rfl rfl rfl rfl Try.sz45 (hk23.keep hW1.cell hW1.sep) (by simp) ?_
    intro H4 hb4 hk4
    obtain ⟨hW4, hg4⟩ := hW1.stored (x1 := put x len v) (len1 := len + (i + 1)) (w1 := .slice a3 (len + i + 1) c3) ho3 hk23 hb3 hb4 hk4
    refine X.done [(0, _), (1, _), (2, _), (7, _), (25, _), (26, _), (27, _), (30, _), (31, _), (32, _), (33, _), (34, _), (35, _), (36, _), (37, _), (38, _), (39, _), (40, _), (41, _), (42, _), (43, _), (44, _)] ⟨rfl, rfl, rfl, rfl, rfl, rfl, rfl, rfl, rfl, rfl, rfl, rfl, rfl, rfl, rfl, rfl, rfl, rfl, rfl, rfl, rfl, rfl, trivial⟩ ?_
    refine N.blk ?_
    refine N.then ?_
    refine E.region ?_
    refine X.mv rfl rfl rfl rfl rfl ?_
    refine X.add rfl rfl rfl rfl rfl rfl (by omega) ?_
    refine X.asg rfl rfl rfl rfl rfl ?_
    refine X.done [(0, _), (1, _), (2, _), (7, _), (25, _), (26, _), (27, _), (30, _), (31, _), (32, _), (33, _), (34, _), (35, _), (36, _), (37, _), (38, _), (39, _), (40, _), (41, _), (42, _), (43, _), (44, _), (28, _), (29, _)] ⟨rfl, rfl, rfl, rfl, rfl, rfl, rfl, rfl, rfl, rfl, rfl, rfl, rfl, rfl, rfl, rfl, rfl, rfl, rfl, rfl, rfl, rfl, rfl, rfl, trivial⟩ ?_
    exact N.next (G := fun (i : Nat) => _) (i + 1) ⟨rfl, rfl, rfl, rfl, trivial⟩ ⟨by omega, _, hW4, hg1.trans hg4⟩ (by show n - (i + 1) < n - i; omega)
  · refine E.exit ?_
    refine N.thenX ?_
    refine N.loopX ?_
    refine N.blkX ?_
    refine N.then ?_
    refine E.seq ?_
    refine E.region ?_
    refine X.asg rfl rfl rfl rfl rfl ?_
    refine X.done [(6, _)] ⟨rfl, trivial⟩ ?_
    refine N.then ?_
    refine E.ret ?_
    exact N.retH [_] ⟨_, _, rfl, rfl, rfl⟩ ⟨rfl, _, by rw [show n = i by omega]; exact hW1, hg1⟩

theorem rcode_ok (r : Nat) (wv : Value) (x len : Nat) (H : Heap) (hW : RefW H r wv x len) (hx : x < 2 ^ len) (hlb : len ≤ 10000000) (v n : Nat) (hn : n ≤ 32) (hv : v < 2 ^ n) : Ct Try.prog 24 #[ptr r, i64 v, i64 n] H fun u H' => u = i64 0 ∧ ∃ wv', RefW H' r wv' (put x len (turn v n)) (len + n) ∧ Chg r wv H H' wv' := by
  have hpn : 2 ^ n ≤ 2 ^ 32 := Nat.pow_le_pow_right (by omega) hn
  have eN : ((2 ^ n : Nat) : Int) = 1 * 2 ^ n := by simp
  have bN : 0 ≤ (1 : Int) * 2 ^ n ∧ (1 : Int) * 2 ^ n ≤ 4294967296 := by rw [← eN]; exact ⟨Int.natCast_nonneg _, Int.ofNat_le.2 hpn⟩
  have hT : turnV v n = turn v n := turnV_of v n (by omega) hn
  refine Ct.into 30 Try.func24 rfl [(0, ptr r), (1, i64 v), (2, i64 n)] rfl ⟨rfl, rfl, rfl, trivial⟩ ?_
  refine E.seq ?_
  refine E.region ?_
  refine X.asg rfl rfl rfl rfl rfl ?_
  refine X.done [(0, _), (1, _), (2, _), (6, _)] ⟨rfl, rfl, rfl, rfl, trivial⟩ ?_
  refine N.then ?_
  refine E.seq ?_
  refine E.seq ?_
  refine E.region ?_
  refine X.mv rfl rfl rfl rfl rfl ?_
  refine X.lssF rfl rfl rfl rfl rfl rfl (by omega) ?_
  refine X.mv rfl rfl rfl rfl rfl ?_
  refine X.mv rfl rfl rfl rfl rfl ?_
  refine X.gtrF rfl rfl rfl rfl rfl rfl (by omega) ?_
  refine X.pickF rfl rfl rfl rfl rfl rfl ?_
  refine X.mv rfl rfl rfl rfl rfl ?_
  refine X.mv rfl rfl rfl rfl rfl ?_
  refine X.lssF rfl rfl rfl rfl rfl rfl (by omega) ?_
  refine X.pickF rfl rfl rfl rfl rfl rfl ?_
  refine X.mv rfl rfl rfl rfl rfl ?_
  refine X.mv rfl rfl rfl rfl rfl ?_
  refine X.mv rfl rfl rfl rfl rfl ?_
  refine X.convE (zz := (n : Int)) rfl rfl rfl rfl rfl Try.underlying24 Try.us3 (IntWalk.u64_in _ (by omega)) ?_
  refine X.shlE (zz := ((2 ^ n : Nat) : Int)) rfl rfl rfl rfl rfl rfl (by omega) (by rw [eN]; exact shlN rfl (by omega) (by omega) (by omega)) ?_
  refine X.geqF rfl rfl rfl rfl rfl rfl (Int.not_le.2 (Int.ofNat_lt.2 hv)) ?_
  refine X.pickF rfl rfl rfl rfl rfl rfl ?_
  refine X.done [(0, _), (1, _), (2, _), (6, _), (23, _)] ⟨rfl, rfl, rfl, rfl, rfl, trivial⟩ ?_
  refine N.then ?_
  refine E.condF rfl ?_
  refine E.skip ?_
  refine N.then ?_
  refine E.seq ?_
  refine E.region ?_
  refine X.mv rfl rfl rfl rfl rfl ?_
  refine X.mv rfl rfl rfl rfl rfl ?_
  refine X.mv rfl rfl rfl rfl rfl ?_
  refine X.call rfl rfl rfl rfl rfl Try.cl10 (rturn_ct v n H) ?_
  rintro _ H1 ⟨rfl, eH1⟩
  obtain rfl := eH1.symm
  rw [hT]
  refine X.mv rfl rfl rfl rfl rfl ?_
  refine X.call rfl rfl rfl rfl rfl Try.cl23 (rput_ok r wv x len H hW hx hlb (turn v n) n hn (turn_lt v n)) ?_
  rintro _ H2 ⟨rfl, w2, hW2, hg2⟩
  refine X.asg rfl rfl rfl rfl rfl ?_
  refine X.done [(6, _)] ⟨rfl, trivial⟩ ?_
  refine N.then ?_
  refine E.ret ?_
  exact N.retH [_] ⟨_, _, rfl, rfl, rfl⟩ ⟨rfl, w2, hW2, hg2⟩


theorem rput_all (r : Nat) (wv : Value) (x len : Nat) (H : Heap) (hW : RefW H r wv x len) (hx : x < 2 ^ len) (hlb : len ≤ 10000000) (v n : Int) : Ct Try.prog 23 #[ptr r, i64 v, i64 n] H fun u H' =>
    u = i64 (putV x len v n).1 ∧ ∃ wv', RefW H' r wv' (putV x len v n).2.1 (putV x len v n).2.2 ∧ Chg r wv H H' wv' := by
  unfold putV
  by_cases h : n < 0 ∨ 32 < n ∨ v < 0 ∨ 2 ^ n.toNat ≤ v.toNat
  · rw [if_pos h]
    have same : ∀ u H', (u = i64 1 ∧ H' = H) → (u = i64 1 ∧ ∃ wv', RefW H' r wv' x len ∧ Chg r wv H H' wv') := fun u H' ⟨h1, h2⟩ => by subst h2; exact ⟨h1, wv, hW, Chg.refl _ _ _⟩
    by_cases hn : n < 0
    · exact (rput_bad0 r H v n hn).mono same
    · by_cases hn2 : 32 < n
      · exact (rput_bad1 r H v n hn2).mono same
      · by_cases hv : v < 0
        · exact (rput_badv r H v n (by omega) hv).mono same
        · obtain ⟨n', rfl⟩ := Int.eq_ofNat_of_zero_le (show 0 ≤ n by omega)
          obtain ⟨v', rfl⟩ := Int.eq_ofNat_of_zero_le (show 0 ≤ v by omega)
          have h2 : 2 ^ (n' : Int).toNat ≤ (v' : Int).toNat := by rcases h with h | h | h | h; omega; omega; omega; exact h
          exact (rput_badw r H v' n' (by omega) h2).mono same
  · rw [if_neg h]
    have h2 : ¬ 2 ^ n.toNat ≤ v.toNat := fun hh => h (.inr (.inr (.inr hh)))
    have h1 : ¬ (n < 0 ∨ 32 < n ∨ v < 0) := fun hh => h (by rcases hh with hh | hh | hh; exact .inl hh; exact .inr (.inl hh); exact .inr (.inr (.inl hh)))
    obtain ⟨n', rfl⟩ := Int.eq_ofNat_of_zero_le (show 0 ≤ n by omega)
    obtain ⟨v', rfl⟩ := Int.eq_ofNat_of_zero_le (show 0 ≤ v by omega)
    exact rput_ok r wv x len H hW hx hlb v' n' (by omega) (Nat.lt_of_not_le h2)


theorem rcode_all (r : Nat) (wv : Value) (x len : Nat) (H : Heap) (hW : RefW H r wv x len) (hx : x < 2 ^ len) (hlb : len ≤ 10000000) (v n : Int) : Ct Try.prog 24 #[ptr r, i64 v, i64 n] H fun u H' =>
    u = i64 (codeV x len v n).1 ∧ ∃ wv', RefW H' r wv' (codeV x len v n).2.1 (codeV x len v n).2.2 ∧ Chg r wv H H' wv' := by
  unfold codeV
  by_cases h : n < 0 ∨ 32 < n ∨ v < 0 ∨ 2 ^ n.toNat ≤ v.toNat
  · rw [if_pos h]
    have same : ∀ u H', (u = i64 1 ∧ H' = H) → (u = i64 1 ∧ ∃ wv', RefW H' r wv' x len ∧ Chg r wv H H' wv') := fun u H' ⟨h1, h2⟩ => by subst h2; exact ⟨h1, wv, hW, Chg.refl _ _ _⟩
    by_cases hn : n < 0
    · exact (rcode_bad0 r H v n hn).mono same
    · by_cases hn2 : 32 < n
      · exact (rcode_bad1 r H v n hn2).mono same
      · by_cases hv : v < 0
        · exact (rcode_badv r H v n (by omega) hv).mono same
        · obtain ⟨n', rfl⟩ := Int.eq_ofNat_of_zero_le (show 0 ≤ n by omega)
          obtain ⟨v', rfl⟩ := Int.eq_ofNat_of_zero_le (show 0 ≤ v by omega)
          have h2 : 2 ^ (n' : Int).toNat ≤ (v' : Int).toNat := by rcases h with h | h | h | h; omega; omega; omega; exact h
          exact (rcode_badw r H v' n' (by omega) h2).mono same
  · rw [if_neg h]
    have h2 : ¬ 2 ^ n.toNat ≤ v.toNat := fun hh => h (.inr (.inr (.inr hh)))
    have h1 : ¬ (n < 0 ∨ 32 < n ∨ v < 0) := fun hh => h (by rcases hh with hh | hh | hh; exact .inl hh; exact .inr (.inl hh); exact .inr (.inr (.inl hh)))
    obtain ⟨n', rfl⟩ := Int.eq_ofNat_of_zero_le (show 0 ≤ n by omega)
    obtain ⟨v', rfl⟩ := Int.eq_ofNat_of_zero_le (show 0 ≤ v by omega)
    exact rcode_ok r wv x len H hW hx hlb v' n' (by omega) (Nat.lt_of_not_le h2)

theorem rwalign_ct (r : Nat) (wv : Value) (x len : Nat) (H : Heap) (hW : RefW H r wv x len) (hx : x < 2 ^ len) (hlb : len ≤ 10000000) : Ct Try.prog 26 #[ptr r] H fun u H' => u = .tuple #[] ∧ ∃ wv', RefW H' r wv' x (8 * ((len + 7) / 8)) ∧ Chg r wv H H' wv' := by
  refine Ct.into 18 Try.func26 rfl [(0, ptr r)] rfl ⟨rfl, trivial⟩ ?_
  refine E.block ?_
  refine E.loop (fun (m : Nat) => [(0, ptr r)]) (fun (m : Nat) H' => len ≤ m ∧ m ≤ 8 * ((len + 7) / 8) ∧ ∃ wv', RefW H' r wv' x m ∧ Chg r wv H H' wv') (fun (m : Nat) => 8 * ((len + 7) / 8) - m) len ⟨rfl, trivial⟩ ⟨Nat.le_refl _, by omega, wv, hW, Chg.refl _ _ _⟩ ?_
  rintro m H1 ⟨hm1, hm2, w1, hW1, hg1⟩
  obtain ⟨a1, c1, rfl⟩ := hW1.own.len
  refine E.seq ?_
  refine E.seq ?_
  refine E.region ?_
  refine X.mv rfl rfl rfl rfl rfl ?_
  refine X.nilP rfl rfl rfl rfl rfl ?_
  refine X.fld rfl rfl rfl rfl rfl Try.off47_0 ?_
  refine X.ld rfl rfl rfl rfl Try.ag45 (hW1.cell) (rfl) ?_
  refine X.lenS rfl rfl rfl rfl rfl Try.underlying45 ?_
  refine X.remE (zz := ((m % 8 : Nat) : Int)) rfl rfl rfl rfl rfl rfl (by omega) (by rw [IntWalk.rem_in _ _ (by omega)] <;> omega) ?_
  refine X.neq rfl rfl rfl rfl rfl rfl ?_
  refine X.done [(0, _), (2, _), (3, _), (4, _), (5, _), (6, _), (7, _), (8, _)] ⟨rfl, rfl, rfl, rfl, rfl, rfl, rfl, rfl, trivial⟩ ?_
  refine N.then ?_
  refine E.condD rfl (fun hc => ?_) (fun hc => ?_)
  · refine E.skip ?_
    refine N.then ?_
    refine E.block ?_
    refine E.region ?_
    refine X.mv rfl rfl rfl rfl rfl ?_
    refine X.mv rfl rfl rfl rfl rfl ?_
    refine X.nilP rfl rfl rfl rfl rfl ?_
    refine X.fld rfl rfl rfl rfl rfl Try.off47_0 ?_
    refine X.ld rfl rfl rfl rfl Try.ag45 (hW1.cell) (rfl) ?_
    refine X.lit (e := 5) (cs := [.int .u8 ((0 : Nat) : Int)]) rfl rfl rfl rfl rfl (fun _ => by kernel_rfl) ?_
    intro b2 H2 hn2 hb2 hk2
    refine X.app T5 rfl rfl rfl rfl rfl rfl (hW1.own.keep hk2 (by simp)) (.inl ⟨rfl, _, _, rfl, .inr ⟨b2, 0, _, _, _, rfl, hb2, fun j u hj => by rw [Nat.zero_add]; exact hj⟩⟩) (.inl ⟨5, Try.underlying45, _, _, rfl⟩) (by simp [Value.oneCell']) (by first | (simp only [maxLen]; omega) | omega) (by first | (simp only [maxLen]; omega) | omega) ?_
    intro v3 H3 ho3 hk3 hb3 hn3
    obtain ⟨a3, c3, rfl⟩ := ho3.len
    have ez : [UInt8.ofNat 0] = [UInt8.ofNat (x / 2 ^ m % 2)] := by rw [Nat.div_eq_of_lt (lt_up hx hm1)]
    rw [bv_one1 0 (by omega), ← bv_append, ez, ← bl_snoc] at ho3
    have hb3 : ∀ b ∈ blk (.slice a3 (m + 1) c3), b ∈ blk (.slice a1 m c1) ∨ H1.size ≤ b := fun b hb => hb3.elim (fun h => .inl (h ▸ hb)) (fun h => .inr (Nat.le_trans hk2.size (h b hb)))
    have hk23 : Kp (blk (.slice a1 m c1)) H1 H3 := (hk2.mono (by simp)).trans hk3 (fun b hb => .inl hb)
    refine X.nilP rfl rfl rfl rfl rfl ?_
    refine X.fld rfl rfl rfl rfl rfl Try.off47_0 ?_
    refine X.st rfl rfl rfl rfl rfl rfl rfl Try.sz45 (hk23.keep hW1.cell hW1.sep) (by simp) ?_
    intro H4 hb4 hk4
    obtain ⟨hW4, hg4⟩ := hW1.stored (x1 := x) (len1 := m + 1) (w1 := .slice a3 (m + 1) c3) ho3 hk23 hb3 hb4 hk4
    refine X.done [(0, _), (2, _), (3, _), (4, _), (5, _), (6, _), (7, _), (8, _), (9, _), (10, _), (11, _), (12, _), (13, _), (14, _), (15, _), (16, _), (17, _)] ⟨rfl, rfl, rfl, rfl, rfl, rfl, rfl, rfl, rfl, rfl, rfl, rfl, rfl, rfl, rfl, rfl, rfl, trivial⟩ ?_
    refine N.blk ?_
    exact N.next (G := fun (m : Nat) => _) (m + 1) ⟨rfl, trivial⟩ ⟨by omega, by omega, _, hW4, hg1.trans hg4⟩ (by show _ - (m + 1) < _ - m; omega)
  · refine E.exit ?_
    refine N.thenX ?_
    refine N.loopX ?_
    refine N.blkX ?_
    exact N.endH [] rfl ⟨rfl, _, by rw [show 8 * ((len + 7) / 8) = m by omega]; exact hW1, hg1⟩

theorem rwbytes_ct (r : Nat) (wv : Value) (x len : Nat) (H : Heap) (hW : RefW H r wv x len) (hx : x < 2 ^ len) (hlb : len ≤ 9000000) (s : Bs) (hs : s.length ≤ 10000) : Ct Try.prog 28 #[ptr r, str s] H fun u H' => u = .tuple #[] ∧ ∃ wv', RefW H' r wv' (put x (8 * ((len + 7) / 8)) (num s)) ((8 * ((len + 7) / 8)) + 8 * s.length) ∧ Chg r wv H H' wv' := by
  obtain ⟨L, hL⟩ : ∃ L, (8 * ((len + 7) / 8)) = L := ⟨_, rfl⟩
  have hxL : x < 2 ^ L := lt_up hx (by omega)
  refine Ct.into 19 Try.func28 rfl [(0, ptr r), (1, str s)] rfl ⟨rfl, rfl, trivial⟩ ?_
  refine E.seq ?_
  refine E.region ?_
  refine X.mv rfl rfl rfl rfl rfl ?_
  refine X.call rfl rfl rfl rfl rfl Try.cl26 (rwalign_ct r wv x len H hW hx (by omega)) ?_
  rintro _ H1 ⟨rfl, w1, hW1, hg1⟩
  rw [hL] at hW1
  refine X.done [(0, _), (1, _)] ⟨rfl, rfl, trivial⟩ ?_
  refine N.then ?_
  refine E.seq ?_
  refine E.region ?_
  refine X.asg rfl rfl rfl rfl rfl ?_
  refine X.done [(0, _), (1, _), (4, _)] ⟨rfl, rfl, rfl, trivial⟩ ?_
  refine N.then ?_
  refine E.block ?_
  refine E.loop (fun (i : Nat) => [(0, ptr r), (1, str s), (4, i64 i)]) (fun (i : Nat) H' => i ≤ s.length ∧ ∃ wv', RefW H' r wv' (put x L (num (s.take i))) (L + 8 * i) ∧ Chg r wv H H' wv') (fun (i : Nat) => s.length - i) 0 ⟨rfl, rfl, rfl, trivial⟩ ⟨Nat.zero_le _, w1, by rw [show put x L (num (s.take 0)) = x by simp [num, put]]; exact hW1, hg1⟩ ?_
  rintro i H2 ⟨hi, w2, hW2, hg2⟩
  refine E.seq ?_
  refine E.seq ?_
  refine E.region ?_
  refine X.mv rfl rfl rfl rfl rfl ?_
  refine X.mv rfl rfl rfl rfl rfl ?_
  refine X.lenL rfl rfl rfl rfl rfl Try.underlying9 ?_
  refine X.lss rfl rfl rfl rfl rfl rfl ?_
  refine X.done [(0, _), (1, _), (4, _), (7, _), (8, _), (9, _), (10, _)] ⟨rfl, rfl, rfl, rfl, rfl, rfl, rfl, trivial⟩ ?_
  refine N.then ?_
  refine E.condD rfl (fun hc => ?_) (fun hc => ?_)
  · refine E.skip ?_
    refine N.then ?_
    refine E.seq ?_
    refine E.block ?_
    obtain ⟨c, hc1⟩ : ∃ c, s[i]? = some c := ⟨_, List.getElem?_eq_getElem (by omega)⟩
    refine E.region ?_
    refine X.mv rfl rfl rfl rfl rfl ?_
    refine X.mv rfl rfl rfl rfl rfl ?_
    refine X.mv rfl rfl rfl rfl rfl ?_
    refine X.ixS rfl rfl rfl rfl rfl rfl Try.underlying9 (by omega) (hc1) ?_
    refine X.convE (zz := (c.toNat : Int)) rfl rfl rfl rfl rfl Try.underlying3 Try.us5 (IntWalk.i64_in _ (by have := c.toNat_lt; omega)) ?_
    refine X.call rfl rfl rfl rfl rfl Try.cl23 (rput_ok r w2 _ _ H2 hW2 (put_lt hxL (num_take_lt s i)) (by omega) c.toNat 8 (by omega) (by have := c.toNat_lt; omega)) ?_
    rintro _ H3 ⟨rfl, w3, hW3, hg3⟩
    rw [put_put, ← num_snoc s i c hc1] at hW3
    refine X.done [(0, _), (1, _), (4, _), (7, _), (8, _), (9, _), (10, _), (13, _), (14, _), (15, _), (16, _), (17, _)] ⟨rfl, rfl, rfl, rfl, rfl, rfl, rfl, rfl, rfl, rfl, rfl, rfl, trivial⟩ ?_
    refine N.blk ?_
    refine N.then ?_
    refine E.region ?_
    refine X.mv rfl rfl rfl rfl rfl ?_
    refine X.add rfl rfl rfl rfl rfl rfl (by omega) ?_
    refine X.asg rfl rfl rfl rfl rfl ?_
    refine X.done [(0, _), (1, _), (4, _), (7, _), (8, _), (9, _), (10, _), (13, _), (14, _), (15, _), (16, _), (17, _), (11, _), (12, _)] ⟨rfl, rfl, rfl, rfl, rfl, rfl, rfl, rfl, rfl, rfl, rfl, rfl, rfl, rfl, trivial⟩ ?_
    exact N.next (G := fun (i : Nat) => _) (i + 1) ⟨rfl, rfl, rfl, trivial⟩ ⟨by omega, w3, by rw [show L + 8 * (i + 1) = L + 8 * i + 8 by omega]; exact hW3, hg2.trans hg3⟩ (by show s.length - (i + 1) < s.length - i; omega)
  · refine E.exit ?_
    refine N.thenX ?_
    refine N.loopX ?_
    refine N.blkX ?_
    exact N.endH [] rfl ⟨rfl, w2, by rw [hL, show s.length = i by omega]; rw [List.take_of_length_le (by omega)] at hW2; exact hW2, hg2⟩


theorem digs_zero {y k : Nat} (h : y < 2 ^ (8 * k)) : digs y (k + 1) = digs y k ++ [UInt8.ofNat 0] := by
  rw [digs, Nat.div_eq_of_lt h]
theorem text_step (x i : Nat) : x % 2 ^ i / 2 ^ (8 * (i / 8)) % 256 + x / 2 ^ i % 2 * 2 ^ (i % 8) = x % 2 ^ (i + 1) / 2 ^ (8 * (i / 8)) % 256 := by
  have hm : x % 2 ^ (i + 1) = x % 2 ^ i + 2 ^ i * (x / 2 ^ i % 2) := by rw [Nat.pow_succ, Nat.mod_mul]
  have hp : (2 : Nat) ^ i = 2 ^ (8 * (i / 8)) * 2 ^ (i % 8) := by rw [← Nat.pow_add]; congr 1; omega
  have hb := bit_lt x i
  have hl : x % 2 ^ i / 2 ^ (8 * (i / 8)) < 2 ^ (i % 8) := by
    apply (Nat.div_lt_iff_lt_mul (Nat.two_pow_pos _)).2
    rw [Nat.mul_comm, ← hp]; exact Nat.mod_lt _ (Nat.two_pow_pos _)
  have h7 : 2 ^ (i % 8) ≤ 2 ^ 7 := Nat.pow_le_pow_right (by omega) (by omega)
  rw [hm]
  conv => rhs; rw [hp, Nat.mul_assoc, ← hp, Nat.add_mul_div_left _ _ (Nat.two_pow_pos _)]
  generalize x % 2 ^ i / 2 ^ (8 * (i / 8)) = d at *
  generalize 2 ^ (i % 8) = p at *
  rcases (show x / 2 ^ i % 2 = 0 ∨ x / 2 ^ i % 2 = 1 by omega) with h | h <;> rw [h] <;> simp <;> omega
theorem text_set (x i : Nat) (v : Int) (hv : v = ((x % 2 ^ (i + 1) / 2 ^ (8 * (i / 8)) % 256 : Nat) : Int)) : (bv (digs (x % 2 ^ i) (i / 8 + 1))).set (i / 8) (.int .u8 v) = bv (digs (x % 2 ^ (i + 1)) (i / 8 + 1)) := by
  have e : digs (x % 2 ^ (i + 1)) (i / 8) = digs (x % 2 ^ i) (i / 8) := by
    apply digs_congr
    rw [Nat.mod_mod_of_dvd _ (Nat.pow_dvd_pow 2 (by omega)), Nat.mod_mod_of_dvd _ (Nat.pow_dvd_pow 2 (by omega))]
  rw [digs, digs, bv_append, bv_append, List.set_append_right _ _ (by rw [length_bv, digs_len]; omega), length_bv, digs_len, Nat.sub_self, e]
  congr 1
  subst hv
  show [Value.int .u8 _] = [Value.int .u8 _]
  congr 3
  rw [u8_of]

theorem shl8 (p k : Nat) (hk : k ≤ 7) (h : p * 2 ^ k ≤ 128) : IntKind.u8.wrap ((p : Int) * 2 ^ (min (k : Int).toNat IntKind.u8.bits)) = ((p * 2 ^ k : Nat) : Int) := by
  have e : min (k : Int).toNat IntKind.u8.bits = k := by simp [IntKind.bits]; omega
  have h2 : ((p * 2 ^ k : Nat) : Int) = (p : Int) * 2 ^ k := by simp
  rw [e, ← h2]; exact IntWalk.u8_in _ (by omega)
theorem add8 (a b : Nat) (h : a + b < 256) : IntKind.u8.wrap ((a : Int) + (b : Int)) = ((a + b : Nat) : Int) := by rw [IntWalk.u8_in _ (by omega)]; omega
theorem rtext_ct (r : Nat) (wv : Value) (x len : Nat) (H : Heap) (hW : RefW H r wv x len) (hx : x < 2 ^ len) (hlb : len ≤ 10000000) : Ct Try.prog 29 #[ptr r] H fun u H' => u = str (digs x ((len + 7) / 8)) ∧ Kp [] H H' := by
  obtain ⟨aw, cw, rfl⟩ := hW.own.len
  refine Ct.into 43 Try.func29 rfl [(0, ptr r)] rfl ⟨rfl, trivial⟩ ?_
  refine E.seq ?_
  refine E.region ?_
  refine X.asg rfl rfl rfl rfl rfl ?_
  refine X.done [(0, _), (2, _)] ⟨rfl, rfl, trivial⟩ ?_
  refine N.then ?_
  refine E.seq ?_
  refine E.region ?_
  refine X.asg rfl rfl rfl rfl rfl ?_
  refine X.done [(0, _), (2, _), (3, _)] ⟨rfl, rfl, rfl, trivial⟩ ?_
  refine N.then ?_
  refine E.seq ?_
  refine E.seq ?_
  refine E.region ?_
  refine X.asg rfl rfl rfl rfl rfl ?_
  refine X.done [(0, _), (2, _), (3, _), (4, _)] ⟨rfl, rfl, rfl, rfl, trivial⟩ ?_
  refine N.then ?_
  refine E.block ?_
  -- MISSING in G: [2]
  refine E.loop (fun (q : Nat × Value) => [(0, ptr r), (3, q.2), (4, i64 q.1)]) (fun (q : Nat × Value) H' => q.1 ≤ len ∧ Own H' 5 1 q.2 ((q.1 + 7) / 8) (bv (digs (x % 2 ^ q.1) ((q.1 + 7) / 8))) ∧ Kp [] H H' ∧ ∀ b ∈ blk q.2, H.size ≤ b) (fun (q : Nat × Value) => len - q.1) (0, .slice none 0 0) ⟨rfl, rfl, rfl, trivial⟩ ⟨Nat.zero_le _, Own.nil _ _ _, Kp.refl _ _, by simp [blk]⟩ ?_
  rintro ⟨i, ov⟩ H1 hJ
  dsimp only at hJ ⊢
  obtain ⟨hi, ho, hk1, hf⟩ := hJ
  have hW1 := hW.keep hk1 (by simp)
  refine E.seq ?_
  refine E.seq ?_
  refine E.region ?_
  refine X.mv rfl rfl rfl rfl rfl ?_
  refine X.mv rfl rfl rfl rfl rfl ?_
  refine X.nilP rfl rfl rfl rfl rfl ?_
  refine X.fld rfl rfl rfl rfl rfl Try.off47_0 ?_
  refine X.ld rfl rfl rfl rfl Try.ag45 (hW1.cell) (rfl) ?_
  refine X.lenS rfl rfl rfl rfl rfl Try.underlying45 ?_
  refine X.lss rfl rfl rfl rfl rfl rfl ?_
  refine X.done [(0, _), (3, _), (4, _), (5, _), (6, _), (7, _), (8, _), (9, _), (10, _), (11, _)] ⟨rfl, rfl, rfl, rfl, rfl, rfl, rfl, rfl, rfl, rfl, trivial⟩ ?_
  refine N.then ?_
  refine E.condD rfl (fun hc => ?_) (fun hc => ?_)
  · refine E.skip ?_
    refine N.then ?_
    refine E.seq ?_
    refine E.block ?_
    refine E.seq ?_
    refine E.seq ?_
    refine E.region ?_
    refine X.mv rfl rfl rfl rfl rfl ?_
    refine X.remE (zz := ((i % 8 : Nat) : Int)) rfl rfl rfl rfl rfl rfl (by omega) (by rw [IntWalk.rem_in _ _ (by omega)] <;> omega) ?_
    refine X.eql rfl rfl rfl rfl rfl rfl ?_
    refine X.done [(0, _), (3, _), (4, _), (5, _), (6, _), (7, _), (8, _), (9, _), (10, _), (11, _), (14, _), (15, _), (16, _)] ⟨rfl, rfl, rfl, rfl, rfl, rfl, rfl, rfl, rfl, rfl, rfl, rfl, rfl, trivial⟩ ?_
    refine N.then ?_
    refine E.condD rfl (fun hc => ?_) (fun hc => ?_)
    · refine E.region ?_
      refine X.mv rfl rfl rfl rfl rfl ?_
      refine X.lit (e := 5) (cs := [.int .u8 ((0 : Nat) : Int)]) rfl rfl rfl rfl rfl (fun _ => by kernel_rfl) ?_
      intro b2 H2 hn2 hb2 hk2
      refine X.app T5 rfl rfl rfl rfl rfl rfl (ho.keep hk2 (by simp)) (.inl ⟨rfl, _, _, rfl, .inr ⟨b2, 0, _, _, _, rfl, hb2, fun j u hj => by rw [Nat.zero_add]; exact hj⟩⟩) (.inl ⟨5, Try.underlying45, _, _, rfl⟩) (by simp [Value.oneCell']) (by first | (simp only [maxLen]; omega) | omega) (by first | (simp only [maxLen]; omega) | omega) ?_
      intro v3 H3 ho3 hk3 hb3 hn3
      have e78 : (i + 7) / 8 = i / 8 := by omega
      have e80 : i = 8 * (i / 8) := by omega
      have hyl : x % 2 ^ i < 2 ^ (8 * (i / 8)) := by rw [← e80]; exact Nat.mod_lt _ (Nat.two_pow_pos _)
      rw [bv_one1 0 (by omega), ← bv_append, e78, ← digs_zero hyl] at ho3
      have hf3 : ∀ b ∈ blk v3, H.size ≤ b := fun b hb => hb3.elim (fun h => hf b (h ▸ hb)) (fun h => Nat.le_trans (Nat.le_trans hk1.size hk2.size) (h b hb))
      have hkA : Kp [] H H3 := (hk1.trans hk2 (by simp)).trans (hk3.mono (T := blk ov) (fun b hb => .inl hb)) (fun b hb => .inr (hf b hb))
      refine X.asg rfl rfl rfl rfl rfl ?_
      refine X.done [(0, _), (3, _), (4, _), (5, _), (6, _), (7, _), (8, _), (9, _), (10, _), (11, _), (14, _), (15, _), (16, _), (17, _), (18, _), (19, _)] ⟨rfl, rfl, rfl, rfl, rfl, rfl, rfl, rfl, rfl, rfl, rfl, rfl, rfl, rfl, rfl, rfl, trivial⟩ ?_
      refine N.then ?_
      skip
      obtain ⟨ho9, hk9, hf9⟩ : Own _ 5 1 _ (i / 8 + 1) (bv (digs (x % 2 ^ i) (i / 8 + 1))) ∧ Kp [] H _ ∧ (∀ b ∈ blk _, H.size ≤ b) := ⟨ho3, hkA, hf3⟩
      have hW9 := hW.keep hk9 (by simp)
      rcases ho9.2 with ⟨z1, z2⟩ | ⟨b, cap, sp, hvs, hbc, hcp, hmc, hcx⟩
      · omega
      subst hvs
      have hgt : (bv (digs (x % 2 ^ i) (i / 8 + 1)) ++ sp)[0 + ((i / 8 : Nat) : Int).toNat * 1]? = some (.int .u8 ((x % 2 ^ i / 2 ^ (8 * (i / 8)) % 256 : Nat) : Int)) := by
        have hg := bv_get (digs_get (x % 2 ^ i) (i / 8 + 1) (i / 8) (by omega))
        rw [Nat.zero_add, Nat.mul_one, Int.toNat_natCast, List.getElem?_append_left (by rw [length_bv, digs_len]; omega), hg, u8_of]
      have hts := text_step x i
      have hbt := bit_lt x i
      have hp7 : 2 ^ (i % 8) ≤ 2 ^ 7 := Nat.pow_le_pow_right (by omega) (by omega)
      have hbs : x / 2 ^ i % 2 * 2 ^ (i % 8) ≤ 128 := Nat.le_trans (Nat.mul_le_mul (show x / 2 ^ i % 2 ≤ 1 by omega) hp7) (by decide)
      rcases hW9.own.2 with ⟨z1, z2⟩ | ⟨bw, capw, spw, hvw, hbw, hcw, hmw, hcxw⟩
      · omega
      obtain ⟨rfl, _, rfl⟩ := Value.slice.inj hvw
      have hgb : (bv (bl x len) ++ spw)[0 + ((i : Nat) : Int).toNat * 1]? = some (.int .u8 ((x / 2 ^ i % 2 : Nat) : Int)) := by
        have hg := bv_get (bl_get (x := x) (n := len) (i := i) (by omega))
        rw [Nat.zero_add, Nat.mul_one, Int.toNat_natCast, List.getElem?_append_left (by rw [length_bv, bl_len]; omega), hg, u8_bit]
      have hfb : H.size ≤ b := hf9 b (by simp [blk])
      refine E.regionD (fun H' => H'[b]? = some (.cells (bv (digs (x % 2 ^ i) (i / 8 + 1)) ++ sp).toArray 5 (0, 0)) ∧ H'[r]? = some (.cells [Value.slice (some ⟨bw, 0, none⟩) len cw].toArray 47 (0, 0)) ∧ H'[bw]? = some (.cells (bv (bl x len) ++ spw).toArray 5 (0, 0))) [(0, .pu), (1, .pu), (2, .pu), (3, .pu), (4, .pu), (5, .pu), (6, .pu), (7, .st), (8, .pu), (9, .pu), (10, .pu), (11, .st), (12, .pu), (13, .pu), (14, .st), (15, .pu), (16, .pu), (17, .pu), (18, .pu), (19, .pu), (20, .pu), (21, .mv)] Try.mixed (by kernel_rfl) (⟨hbc, hW9.cell, hbw⟩) ?_
      refine X.mv rfl rfl rfl rfl rfl ?_
      refine X.mv rfl rfl rfl rfl rfl ?_
      refine X.quoE (zz := ((i / 8 : Nat) : Int)) rfl rfl rfl rfl rfl rfl (by omega) (by rw [IntWalk.i64_quo _ _ (by omega)] <;> omega) ?_
      refine X.mv rfl rfl rfl rfl rfl ?_
      refine X.mv rfl rfl rfl rfl rfl ?_
      refine X.quoE (zz := ((i / 8 : Nat) : Int)) rfl rfl rfl rfl rfl rfl (by omega) (by rw [IntWalk.i64_quo _ _ (by omega)] <;> omega) ?_
      refine X.ixA rfl rfl rfl rfl rfl rfl Try.underlying45 Try.sz5 (by omega) ?_
      refine X.ld rfl rfl rfl rfl Try.ag5 (fun H' hF => hF.1) (hgt) ?_
      refine X.mv rfl rfl rfl rfl rfl ?_
      refine X.nilP rfl rfl rfl rfl rfl ?_
      refine X.fld rfl rfl rfl rfl rfl Try.off47_0 ?_
      refine X.ld rfl rfl rfl rfl Try.ag45 (fun H' hF => hF.2.1) (rfl) ?_
      refine X.mv rfl rfl rfl rfl rfl ?_
      refine X.ixA rfl rfl rfl rfl rfl rfl Try.underlying45 Try.sz5 (by omega) ?_
      refine X.ld rfl rfl rfl rfl Try.ag5 (fun H' hF => hF.2.2) (hgb) ?_
      refine X.mv rfl rfl rfl rfl rfl ?_
      refine X.remE (zz := ((i % 8 : Nat) : Int)) rfl rfl rfl rfl rfl rfl (by omega) (by rw [IntWalk.rem_in _ _ (by omega)] <;> omega) ?_
      refine X.convE (zz := ((i % 8 : Nat) : Int)) rfl rfl rfl rfl rfl Try.underlying24 Try.us3 (IntWalk.u64_in _ (by omega)) ?_
      refine X.shlE (zz := ((x / 2 ^ i % 2 * 2 ^ (i % 8) : Nat) : Int)) rfl rfl rfl rfl rfl rfl (by omega) (shl8 _ _ (by omega) hbs) ?_
      refine X.addE (zz := ((x % 2 ^ (i + 1) / 2 ^ (8 * (i / 8)) % 256 : Nat) : Int)) rfl rfl rfl rfl rfl rfl (by rw [← hts]; exact add8 _ _ (by rw [hts]; exact Nat.mod_lt _ (by decide))) ?_
      refine X.ixA rfl rfl rfl rfl rfl rfl Try.underlying45 Try.sz5 (by omega) ?_
      refine X.st rfl rfl rfl rfl rfl rfl rfl Try.sz5 hbc (by rw [List.length_append, length_bv, digs_len]; omega) ?_
      intro H5 hb5 hk5s
      have e5 : 0 + ((i / 8 : Nat) : Int).toNat * 1 = i / 8 := by omega
      rw [e5, List.set_append_left _ _ (by rw [length_bv, digs_len]; omega), text_set x i _ rfl] at hb5
      have ho5 : Own H5 5 1 (.slice (some ⟨b, 0, none⟩) (i / 8 + 1) cap) (i / 8 + 1) (bv (digs (x % 2 ^ (i + 1)) (i / 8 + 1))) := ⟨by rw [length_bv, digs_len]; omega, .inr ⟨b, cap, sp, rfl, hb5, by rw [List.length_append, length_bv, digs_len] at hcp ⊢; exact hcp, hmc, hcx⟩⟩
      have hk5 : Kp [] H H5 := hk9.trans hk5s (by simp; exact hfb)
      have hf5 : ∀ x ∈ blk (.slice (some ⟨b, 0, none⟩) (i / 8 + 1) cap), H.size ≤ x := by simp [blk]; exact hfb
      refine X.done [(0, _), (3, _), (4, _), (5, _), (6, _), (7, _), (8, _), (9, _), (10, _), (11, _), (14, _), (15, _), (16, _), (17, _), (18, _), (19, _), (20, _), (21, _), (22, _), (23, _), (24, _), (25, _), (26, _), (27, _), (28, _), (29, _), (30, _), (31, _), (32, _), (33, _), (34, _), (35, _), (36, _), (37, _), (38, _), (39, _), (40, _)] ⟨rfl, rfl, rfl, rfl, rfl, rfl, rfl, rfl, rfl, rfl, rfl, rfl, rfl, rfl, rfl, rfl, rfl, rfl, rfl, rfl, rfl, rfl, rfl, rfl, rfl, rfl, rfl, rfl, rfl, rfl, rfl, rfl, rfl, rfl, rfl, rfl, rfl, trivial⟩ ?_
      refine N.blk ?_
      refine N.then ?_
      refine E.region ?_
      refine X.mv rfl rfl rfl rfl rfl ?_
      refine X.add rfl rfl rfl rfl rfl rfl (by omega) ?_
      refine X.asg rfl rfl rfl rfl rfl ?_
      refine X.done [(0, _), (3, _), (4, _), (5, _), (6, _), (7, _), (8, _), (9, _), (10, _), (11, _), (14, _), (15, _), (16, _), (17, _), (18, _), (19, _), (20, _), (21, _), (22, _), (23, _), (24, _), (25, _), (26, _), (27, _), (28, _), (29, _), (30, _), (31, _), (32, _), (33, _), (34, _), (35, _), (36, _), (37, _), (38, _), (39, _), (40, _), (12, _), (13, _)] ⟨rfl, rfl, rfl, rfl, rfl, rfl, rfl, rfl, rfl, rfl, rfl, rfl, rfl, rfl, rfl, rfl, rfl, rfl, rfl, rfl, rfl, rfl, rfl, rfl, rfl, rfl, rfl, rfl, rfl, rfl, rfl, rfl, rfl, rfl, rfl, rfl, rfl, rfl, rfl, trivial⟩ ?_
      exact N.next (G := fun (q : Nat × Value) => _) (i + 1, _) ⟨rfl, rfl, rfl, trivial⟩ ⟨by show i + 1 ≤ len; omega, by show Own H5 5 1 _ ((i + 1 + 7) / 8) _; rw [show (i + 1 + 7) / 8 = i / 8 + 1 by omega]; exact ho5, hk5, hf5⟩ (by show len - (i + 1) < len - i; omega)
    · refine E.skip ?_
      refine N.then ?_
      skip
      obtain ⟨ho9, hk9, hf9⟩ : Own _ 5 1 _ (i / 8 + 1) (bv (digs (x % 2 ^ i) (i / 8 + 1))) ∧ Kp [] H _ ∧ (∀ b ∈ blk _, H.size ≤ b) := ⟨(show (i + 7) / 8 = i / 8 + 1 by omega) ▸ ho, hk1, hf⟩
      have hW9 := hW.keep hk9 (by simp)
      rcases ho9.2 with ⟨z1, z2⟩ | ⟨b, cap, sp, hvs, hbc, hcp, hmc, hcx⟩
      · omega
      subst hvs
      have hgt : (bv (digs (x % 2 ^ i) (i / 8 + 1)) ++ sp)[0 + ((i / 8 : Nat) : Int).toNat * 1]? = some (.int .u8 ((x % 2 ^ i / 2 ^ (8 * (i / 8)) % 256 : Nat) : Int)) := by
        have hg := bv_get (digs_get (x % 2 ^ i) (i / 8 + 1) (i / 8) (by omega))
        rw [Nat.zero_add, Nat.mul_one, Int.toNat_natCast, List.getElem?_append_left (by rw [length_bv, digs_len]; omega), hg, u8_of]
      have hts := text_step x i
      have hbt := bit_lt x i
      have hp7 : 2 ^ (i % 8) ≤ 2 ^ 7 := Nat.pow_le_pow_right (by omega) (by omega)
      have hbs : x / 2 ^ i % 2 * 2 ^ (i % 8) ≤ 128 := Nat.le_trans (Nat.mul_le_mul (show x / 2 ^ i % 2 ≤ 1 by omega) hp7) (by decide)
      rcases hW9.own.2 with ⟨z1, z2⟩ | ⟨bw, capw, spw, hvw, hbw, hcw, hmw, hcxw⟩
      · omega
      obtain ⟨rfl, _, rfl⟩ := Value.slice.inj hvw
      have hgb : (bv (bl x len) ++ spw)[0 + ((i : Nat) : Int).toNat * 1]? = some (.int .u8 ((x / 2 ^ i % 2 : Nat) : Int)) := by
        have hg := bv_get (bl_get (x := x) (n := len) (i := i) (by omega))
        rw [Nat.zero_add, Nat.mul_one, Int.toNat_natCast, List.getElem?_append_left (by rw [length_bv, bl_len]; omega), hg, u8_bit]
      have hfb : H.size ≤ b := hf9 b (by simp [blk])
      refine E.regionD (fun H' => H'[b]? = some (.cells (bv (digs (x % 2 ^ i) (i / 8 + 1)) ++ sp).toArray 5 (0, 0)) ∧ H'[r]? = some (.cells [Value.slice (some ⟨bw, 0, none⟩) len cw].toArray 47 (0, 0)) ∧ H'[bw]? = some (.cells (bv (bl x len) ++ spw).toArray 5 (0, 0))) [(0, .pu), (1, .pu), (2, .pu), (3, .pu), (4, .pu), (5, .pu), (6, .pu), (7, .st), (8, .pu), (9, .pu), (10, .pu), (11, .st), (12, .pu), (13, .pu), (14, .st), (15, .pu), (16, .pu), (17, .pu), (18, .pu), (19, .pu), (20, .pu), (21, .mv)] Try.mixed (by kernel_rfl) (⟨hbc, hW9.cell, hbw⟩) ?_
      refine X.mv rfl rfl rfl rfl rfl ?_
      refine X.mv rfl rfl rfl rfl rfl ?_
      refine X.quoE (zz := ((i / 8 : Nat) : Int)) rfl rfl rfl rfl rfl rfl (by omega) (by rw [IntWalk.i64_quo _ _ (by omega)] <;> omega) ?_
      refine X.mv rfl rfl rfl rfl rfl ?_
      refine X.mv rfl rfl rfl rfl rfl ?_
      refine X.quoE (zz := ((i / 8 : Nat) : Int)) rfl rfl rfl rfl rfl rfl (by omega) (by rw [IntWalk.i64_quo _ _ (by omega)] <;> omega) ?_
      refine X.ixA rfl rfl rfl rfl rfl rfl Try.underlying45 Try.sz5 (by omega) ?_
      refine X.ld rfl rfl rfl rfl Try.ag5 (fun H' hF => hF.1) (hgt) ?_
      refine X.mv rfl rfl rfl rfl rfl ?_
      refine X.nilP rfl rfl rfl rfl rfl ?_
      refine X.fld rfl rfl rfl rfl rfl Try.off47_0 ?_
      refine X.ld rfl rfl rfl rfl Try.ag45 (fun H' hF => hF.2.1) (rfl) ?_
      refine X.mv rfl rfl rfl rfl rfl ?_
      refine X.ixA rfl rfl rfl rfl rfl rfl Try.underlying45 Try.sz5 (by omega) ?_
      refine X.ld rfl rfl rfl rfl Try.ag5 (fun H' hF => hF.2.2) (hgb) ?_
      refine X.mv rfl rfl rfl rfl rfl ?_
      refine X.remE (zz := ((i % 8 : Nat) : Int)) rfl rfl rfl rfl rfl rfl (by omega) (by rw [IntWalk.rem_in _ _ (by omega)] <;> omega) ?_
      refine X.convE (zz := ((i % 8 : Nat) : Int)) rfl rfl rfl rfl rfl Try.underlying24 Try.us3 (IntWalk.u64_in _ (by omega)) ?_
      refine X.shlE (zz := ((x / 2 ^ i % 2 * 2 ^ (i % 8) : Nat) : Int)) rfl rfl rfl rfl rfl rfl (by omega) (shl8 _ _ (by omega) hbs) ?_
      refine X.addE (zz := ((x % 2 ^ (i + 1) / 2 ^ (8 * (i / 8)) % 256 : Nat) : Int)) rfl rfl rfl rfl rfl rfl (by rw [← hts]; exact add8 _ _ (by rw [hts]; exact Nat.mod_lt _ (by decide))) ?_
      refine X.ixA rfl rfl rfl rfl rfl rfl Try.underlying45 Try.sz5 (by omega) ?_
      refine X.st rfl rfl rfl rfl rfl rfl rfl Try.sz5 hbc (by rw [List.length_append, length_bv, digs_len]; omega) ?_
      intro H5 hb5 hk5s
      have e5 : 0 + ((i / 8 : Nat) : Int).toNat * 1 = i / 8 := by omega
      rw [e5, List.set_append_left _ _ (by rw [length_bv, digs_len]; omega), text_set x i _ rfl] at hb5
      have ho5 : Own H5 5 1 (.slice (some ⟨b, 0, none⟩) (i / 8 + 1) cap) (i / 8 + 1) (bv (digs (x % 2 ^ (i + 1)) (i / 8 + 1))) := ⟨by rw [length_bv, digs_len]; omega, .inr ⟨b, cap, sp, rfl, hb5, by rw [List.length_append, length_bv, digs_len] at hcp ⊢; exact hcp, hmc, hcx⟩⟩
      have hk5 : Kp [] H H5 := hk9.trans hk5s (by simp; exact hfb)
      have hf5 : ∀ x ∈ blk (.slice (some ⟨b, 0, none⟩) (i / 8 + 1) cap), H.size ≤ x := by simp [blk]; exact hfb
      refine X.done [(0, _), (3, _), (4, _), (5, _), (6, _), (7, _), (8, _), (9, _), (10, _), (11, _), (14, _), (15, _), (16, _), (20, _), (21, _), (22, _), (23, _), (24, _), (25, _), (26, _), (27, _), (28, _), (29, _), (30, _), (31, _), (32, _), (33, _), (34, _), (35, _), (36, _), (37, _), (38, _), (39, _), (40, _)] ⟨rfl, rfl, rfl, rfl, rfl, rfl, rfl, rfl, rfl, rfl, rfl, rfl, rfl, rfl, rfl, rfl, rfl, rfl, rfl, rfl, rfl, rfl, rfl, rfl, rfl, rfl, rfl, rfl, rfl, rfl, rfl, rfl, rfl, rfl, trivial⟩ ?_
      refine N.blk ?_
      refine N.then ?_
      refine E.region ?_
      refine X.mv rfl rfl rfl rfl rfl ?_
      refine X.add rfl rfl rfl rfl rfl rfl (by omega) ?_
      refine X.asg rfl rfl rfl rfl rfl ?_
      refine X.done [(0, _), (3, _), (4, _), (5, _), (6, _), (7, _), (8, _), (9, _), (10, _), (11, _), (14, _), (15, _), (16, _), (20, _), (21, _), (22, _), (23, _), (24, _), (25, _), (26, _), (27, _), (28, _), (29, _), (30, _), (31, _), (32, _), (33, _), (34, _), (35, _), (36, _), (37, _), (38, _), (39, _), (40, _), (12, _), (13, _)] ⟨rfl, rfl, rfl, rfl, rfl, rfl, rfl, rfl, rfl, rfl, rfl, rfl, rfl, rfl, rfl, rfl, rfl, rfl, rfl, rfl, rfl, rfl, rfl, rfl, rfl, rfl, rfl, rfl, rfl, rfl, rfl, rfl, rfl, rfl, rfl, rfl, trivial⟩ ?_
      exact N.next (G := fun (q : Nat × Value) => _) (i + 1, _) ⟨rfl, rfl, rfl, trivial⟩ ⟨by show i + 1 ≤ len; omega, by show Own H5 5 1 _ ((i + 1 + 7) / 8) _; rw [show (i + 1 + 7) / 8 = i / 8 + 1 by omega]; exact ho5, hk5, hf5⟩ (by show len - (i + 1) < len - i; omega)
  · refine E.exit ?_
    refine N.thenX ?_
    refine N.loopX ?_
    refine N.blkX ?_
    refine N.then ?_
    refine E.seq ?_
    refine E.region ?_
    refine X.mv rfl rfl rfl rfl rfl ?_
    refine X.b2s rfl rfl rfl rfl Try.underlying45 Try.underlying5 Try.underlying9 (ho.rd) ?_
    refine X.asg rfl rfl rfl rfl rfl ?_
    refine X.done [(2, _)] ⟨rfl, trivial⟩ ?_
    refine N.then ?_
    refine E.ret ?_
    exact N.retH [_] ⟨_, _, rfl, rfl, rfl⟩ ⟨by rw [show i = len by omega, Nat.mod_eq_of_lt hx]; rfl, hk1⟩

end Go.Proofs.Ytpengkmmgpoofaa