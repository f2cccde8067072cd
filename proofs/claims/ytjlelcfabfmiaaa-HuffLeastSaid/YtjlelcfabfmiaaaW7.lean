/- The walk: lengths. -/
import Derived.Test.YtjlelcfabfmiaaaW6
import Derived.Test.YtjlelcfabfmiaaaM3
namespace Go.Proofs.Ytjlelcfabfmiaaa
open Go.SX Go.Hf
attribute [local irreducible] X E N Ct
set_option linter.unusedVariables false
set_option linter.unusedSimpArgs false
def coinsV (fs : List Int) (m : Nat) : List Coin := (List.range m).map fun j => (fs.getD ((usedV fs).getD j 0) 0, [j])
def takenV (fs : List Int) (k : Nat) : List Nat := countV (usedV fs).length (symsV ((rowsV (coinsV fs (usedV fs).length) k).take (2 * ((usedV fs).length - 1))))
def flV (fs : List Int) (k : Nat) : List Nat := ms (leO (gtT (takenV fs k))) (List.range (usedV fs).length)
def lensV (fs : List Int) (most : Int) : List Int :=
  if (usedV fs).length < 2 then outV (usedV fs) (fun _ => 1) (usedV fs).length fs.length
  else outV (usedV fs) (fun i => (((takenV fs (most.toNat - 1)).getD ((flV fs (most.toNat - 1)).getD i 0) 0 : Nat) : Int)) (usedV fs).length fs.length
theorem mayA_pos : ∀ (fs : List Int) (acc r : Int), mayA acc fs = some r → r = acc + ((fs.filter fun f => decide (0 < f)).length : Nat) ∧ ∀ f ∈ fs, ¬ badF f
  | [], acc, r, h => by
    simp only [mayA, Option.some.injEq] at h
    subst h; simp
  | f :: fs, acc, r, h => by
    rw [mayA] at h
    by_cases hb : badF f
    · rw [if_pos hb] at h; simp at h
    · rw [if_neg hb] at h
      obtain ⟨h1, h2⟩ := mayA_pos fs _ r h
      refine ⟨?_, fun u hu => (List.mem_cons.1 hu).elim (fun e => e ▸ hb) (h2 u)⟩
      rw [h1, List.filter_cons]
      by_cases hf : 0 < f
      · rw [if_pos hf, if_pos (decide_eq_true hf), List.length_cons]; omega
      · rw [if_neg hf, if_neg (by simpa using hf)]
theorem down_count (fs : List Int) : ∀ k, k ≤ fs.length → (downL fs k).length = ((fs.take k).filter fun f => decide (0 < f)).length
  | 0, _ => by simp [downL]
  | k + 1, h => by
    obtain ⟨f, hf⟩ := get_of (xs := fs) (i := k) (by omega)
    rw [down_succ, getD_of hf, List.take_add_one, hf, List.filter_append, List.length_append, ← down_count fs k (by omega)]
    by_cases h0 : 0 < f
    · rw [if_pos h0]; simp [h0]
    · rw [if_neg h0]; simp [h0]
theorem used_len (fs : List Int) : (usedV fs).length = (usedL fs).length := by rw [usedV, List.length_map, ordU, ms_len, List.length_range]
theorem used_len_le (fs : List Int) : (usedV fs).length ≤ fs.length := by rw [used_len]; exact down_len _ _
theorem used_mem {fs : List Int} {u : Nat} (h : u ∈ usedV fs) : u ∈ usedL fs := by
  obtain ⟨i, hi, rfl⟩ := List.mem_map.1 h
  rw [ordU, ms_mem, List.mem_range] at hi
  obtain ⟨w, hw⟩ : ∃ w, (usedL fs)[i]? = some w := ⟨_, List.getElem?_eq_getElem hi⟩
  rw [getD_of hw]; exact List.mem_of_getElem? hw
theorem used_bound {fs : List Int} {u : Nat} (h : u ∈ usedV fs) : u < fs.length := used_lt (used_mem h)
structure Good (fs : List Int) (most : Int) : Prop where
  len : fs.length ≤ 320
  most1 : 1 ≤ most
  most15 : most ≤ 15
  n : (mayV fs most).1 = ((usedV fs).length : Nat)
  fit : (usedV fs).length ≤ 2 ^ most.toNat
  ok : ∀ f ∈ fs, ¬ badF f
theorem may_good {fs : List Int} {most : Int} (h : (mayV fs most).2 = 0) : Good fs most := by
  by_cases h1 : 320 < fs.length
  · rw [mayV, if_pos h1] at h; simp at h
  by_cases h2 : most < 1 ∨ 15 < most
  · rw [mayV, if_neg h1, if_pos h2] at h; simp at h
  cases h3 : mayA 0 fs with
  | none => rw [may_none h1 h2 h3] at h; simp at h
  | some n =>
    by_cases h4 : ((2 ^ most.toNat : Nat) : Int) < n
    · rw [may_over h1 h2 h3 h4] at h; simp at h
    · obtain ⟨h5, h6⟩ := mayA_pos fs 0 n h3
      have h7 := down_count fs fs.length (Nat.le_refl _)
      rw [List.take_length] at h7
      have h8 : (usedV fs).length = (fs.filter fun f => decide (0 < f)).length := by rw [used_len]; exact h7
      have h9 : n = ((usedV fs).length : Nat) := by rw [h5, h8]; omega
      exact ⟨by omega, by omega, by omega, by rw [may_ok h1 h2 h3 h4]; exact h9, by rw [h9] at h4; omega, h6⟩
theorem coins_cb {fs : List Int} {most : Int} (h : Good fs most) : ∀ c ∈ coinsV fs (usedV fs).length, CB (usedV fs).length 4294967296 0 c := by
  intro c hc
  obtain ⟨j, hj, rfl⟩ := List.mem_map.1 hc
  rw [List.mem_range] at hj
  obtain ⟨s, hs⟩ : ∃ s, (usedV fs)[j]? = some s := ⟨_, List.getElem?_eq_getElem hj⟩
  obtain ⟨f, hf⟩ := get_of (xs := fs) (i := s) (used_bound (List.mem_of_getElem? hs))
  have hb := h.ok f (List.mem_of_getElem? hf)
  unfold badF at hb
  refine ⟨?_, ?_, by show [j].length ≤ 1; simp, fun r hr => ?_⟩
  · show 0 ≤ fs.getD ((usedV fs).getD j 0) 0
    rw [getD_of hs, getD_of hf]; omega
  · show fs.getD ((usedV fs).getD j 0) 0 ≤ 1 * 4294967296
    rw [getD_of hs, getD_of hf]; omega
  · have : r = j := by simpa using hr
    omega
theorem coins_len (fs : List Int) (m : Nat) : (coinsV fs m).length = m := by simp [coinsV]
theorem coins_succ (fs : List Int) (m : Nat) : coinsV fs (m + 1) = coinsV fs m ++ [(fs.getD ((usedV fs).getD m 0) 0, [m])] := by unfold coinsV; rw [List.range_succ, List.map_append]; rfl
theorem own_cr {H : Heap} {v : Value} {zs : List CE} (h : Own H 40 2 v zs.length (zs.flatMap cel)) : ∃ a c, v = .slice a zs.length c ∧ CR H a c zs := by
  have hr := h.rd
  rcases h.2 with ⟨h1, h2⟩ | ⟨b, cap, sp, h1, h2, h3, h4, h5⟩
  · subst h1
    exact ⟨none, 0, by rw [h2], by rw [← h2] at hr ⊢; exact hr, by omega⟩
  · subst h1; exact ⟨_, cap, rfl, hr, h4⟩
theorem iv_set {l : List Int} {s : Nat} {x : Int} : (iv l).set (0 + ((s : Nat) : Int).toNat * 1) (i64 x) = iv (l.set s x) := by
  rw [Nat.zero_add, Nat.mul_one, Int.toNat_natCast, ← List.map_set]
theorem out_zero (us : List Nat) (g : Nat → Int) (len : Nat) : outV us g 0 len = List.replicate len 0 := rfl
theorem most_le {most : Int} {k : Nat} (h : (k : Int) ≤ most - 1) (h2 : most ≤ 15) : k ≤ 15 := by omega
theorem nvset {l : List Nat} {s x : Nat} : (nv l).set (0 + ((s : Nat) : Int).toNat * 1) (i64 (x : Int)) = nv (l.set s x) := by
  rw [Nat.zero_add, Nat.mul_one, Int.toNat_natCast, ← List.map_set]
structure LS where
  j : Nat
  zs : List CE
  v : Value

theorem lengths_ct (fs : List Int) (a : Option Addr) (b o c : Nat) (most : Int) (H : Heap) (hF : Row1 H a b o (iv fs)) (hmx : fs.length ≤ 1000000) : Ct Try.prog 8 #[.slice a fs.length c, i64 most] H fun v H' => Kp [] H H' ∧ ((mayV fs most).2 ≠ 0 ∧ v = .tuple #[.slice none 0 0, i64 (mayV fs most).2] ∨ (mayV fs most).2 = 0 ∧ ∃ lb, v = .tuple #[sl0 lb fs.length, i64 0] ∧ H'[lb]? = some (.cells (iv (lensV fs most)).toArray 3 (0, 0)) ∧ H.size ≤ lb) := by
  refine Ct.into 128 Try.func8 rfl [(0, .slice a fs.length c), (1, i64 most)] rfl ⟨rfl, rfl, trivial⟩ ?_
  refine E.seq ?_
  refine E.region ?_
  refine X.asg rfl rfl rfl rfl rfl ?_
  refine X.asg rfl rfl rfl rfl rfl ?_
  refine X.done [(0, _), (1, _), (4, _), (5, _)] ⟨rfl, rfl, rfl, rfl, trivial⟩ ?_
  refine N.then ?_
  refine E.seq ?_
  refine E.region ?_
  refine X.mv rfl rfl rfl rfl rfl ?_
  refine X.mv rfl rfl rfl rfl rfl ?_
  refine X.call rfl rfl rfl rfl rfl Try.cl16 (may_ct fs a b o c most H hF hmx) ?_
  rintro _ H0 ⟨rfl, eh⟩
  obtain rfl := eh.symm
  refine X.mv rfl rfl rfl rfl rfl ?_
  refine X.extract rfl rfl rfl rfl rfl rfl ?_
  refine X.extract rfl rfl rfl rfl rfl rfl ?_
  refine X.asg rfl rfl rfl rfl rfl ?_
  refine X.asg rfl rfl rfl rfl rfl ?_
  refine X.done [(0, _), (1, _), (4, _), (5, _), (6, _), (7, _)] ⟨rfl, rfl, rfl, rfl, rfl, rfl, trivial⟩ ?_
  refine N.then ?_
  refine E.seq ?_
  refine E.seq ?_
  refine E.region ?_
  refine X.mv rfl rfl rfl rfl rfl ?_
  refine X.neq rfl rfl rfl rfl rfl rfl ?_
  refine X.done [(0, _), (1, _), (4, _), (5, _), (6, _), (7, _), (31, _)] ⟨rfl, rfl, rfl, rfl, rfl, rfl, rfl, trivial⟩ ?_
  refine N.then ?_
  refine E.condD rfl (fun hc => ?_) (fun hc => ?_)
  · refine E.seq ?_
    refine E.region ?_
    refine X.mv rfl rfl rfl rfl rfl ?_
    refine X.asg rfl rfl rfl rfl rfl ?_
    refine X.asg rfl rfl rfl rfl rfl ?_
    refine X.done [(0, _), (1, _), (4, _), (5, _), (6, _)] ⟨rfl, rfl, rfl, rfl, rfl, trivial⟩ ?_
    refine N.then ?_
    refine E.ret ?_
    refine N.thenR ?_
    exact N.retH [_, _] ⟨_, _, rfl, rfl, _, _, rfl, rfl, rfl⟩ ⟨Kp.refl _ _, .inl ⟨hc, rfl⟩⟩
  · refine E.skip ?_
    refine N.then ?_
    refine E.seq ?_
    have hc0 := hc
    have hg : Good fs most := may_good (by simpa using hc)
    rw [hg.n]
    have hnl := used_len_le fs
    have hfl := hg.len
    have hm1 := hg.most1
    have hm15 := hg.most15
    refine E.region ?_
    refine X.mv rfl rfl rfl rfl rfl ?_
    refine X.lenS rfl rfl rfl rfl rfl Try.underlying22 ?_
    refine X.mk Try.underlying22 Try.zi3_22 rfl rfl rfl rfl rfl rfl rfl (by omega) (by omega) (by simp only [maxLen]; omega) ?_
    intro lb H1 hnl1 hl hk1
    replace hl : H1[lb]? = some (.cells (iv (List.replicate fs.length 0)).toArray 3 (0, 0)) := by rw [hl]; simp
    have qlb := lt_of hl
    refine X.asg rfl rfl rfl rfl rfl ?_
    refine X.done [(0, _), (1, _), (4, _), (5, _), (6, _), (8, _)] ⟨rfl, rfl, rfl, rfl, rfl, rfl, trivial⟩ ?_
    refine N.then ?_
    refine E.seq ?_
    refine E.region ?_
    refine X.mv rfl rfl rfl rfl rfl ?_
    refine X.call rfl rfl rfl rfl rfl Try.cl17 (used_ct fs a b o c H1 (hF.keepN hk1) (by omega)) ?_
    rintro vu H2 ⟨hU, hUb, hk2⟩
    obtain ⟨ua, uc, rfl⟩ := hU.len
    replace hl := hk2.keep hl (by simp)
    have kk2 := hk1.trans hk2 (by simp)
    have hulb : ∀ b ∈ blk (.slice ua (usedV fs).length uc), b ≠ lb ∧ H.size ≤ b := fun b hb => by
      have h1 := hUb b hb
      have h2 := hk1.size
      exact ⟨by omega, by omega⟩
    refine X.asg rfl rfl rfl rfl rfl ?_
    refine X.done [(0, _), (1, _), (4, _), (5, _), (6, _), (8, _), (9, _)] ⟨rfl, rfl, rfl, rfl, rfl, rfl, rfl, trivial⟩ ?_
    refine N.then ?_
    refine E.seq ?_
    refine E.seq ?_
    refine E.region ?_
    refine X.mv rfl rfl rfl rfl rfl ?_
    refine X.lss rfl rfl rfl rfl rfl rfl ?_
    refine X.done [(0, _), (1, _), (4, _), (5, _), (6, _), (8, _), (9, _), (39, _)] ⟨rfl, rfl, rfl, rfl, rfl, rfl, rfl, rfl, trivial⟩ ?_
    refine N.then ?_
    refine E.condD rfl (fun hc => ?_) (fun hc => ?_)
    · refine E.seq ?_
      refine E.seq ?_
      refine E.region ?_
      refine X.mv rfl rfl rfl rfl rfl ?_
      refine X.lenS rfl rfl rfl rfl rfl Try.underlying22 ?_
      refine X.mv rfl rfl rfl rfl rfl ?_
      refine X.done [(0, _), (1, _), (4, _), (5, _), (6, _), (8, _), (9, _), (40, _), (41, _), (42, _)] ⟨rfl, rfl, rfl, rfl, rfl, rfl, rfl, rfl, rfl, rfl, trivial⟩ ?_
      refine N.then ?_
      refine E.block ?_
      -- MISSING in G: [0, 1, 6, 9]
      refine E.loop (fun (j : Nat) => [(4, .slice none 0 0), (5, i64 0), (8, sl0 lb fs.length), (40, .slice ua (usedV fs).length uc), (41, i64 (usedV fs).length), (42, i64 (j : Int))]) (fun (j : Nat) H' => j ≤ (usedV fs).length ∧ H'[lb]? = some (.cells (iv (outV (usedV fs) (fun _ => 1) j fs.length)).toArray 3 (0, 0)) ∧ Own H' 3 1 (.slice ua (usedV fs).length uc) (usedV fs).length (nv (usedV fs)) ∧ Kp [] H H') (fun (j : Nat) => (usedV fs).length - j) 0 ⟨rfl, rfl, rfl, rfl, rfl, rfl, trivial⟩ ⟨Nat.zero_le _, hl, hU, kk2⟩ ?_
      intro j H3 hJ
      obtain ⟨hj, hl, hU, kk⟩ := hJ
      refine E.seq ?_
      refine E.region ?_
      refine X.lss rfl rfl rfl rfl rfl rfl ?_
      refine X.done [(4, _), (5, _), (8, _), (40, _), (41, _), (42, _), (43, _)] ⟨rfl, rfl, rfl, rfl, rfl, rfl, rfl, trivial⟩ ?_
      refine N.then ?_
      refine E.seq ?_
      refine E.condD rfl (fun hc => ?_) (fun hc => ?_)
      · refine E.skip ?_
        refine N.then ?_
        refine E.seq ?_
        refine E.block ?_
        refine E.seq ?_
        obtain ⟨s, hs⟩ : ∃ s, (usedV fs)[j]? = some s := ⟨_, List.getElem?_eq_getElem (by omega)⟩
        have hsl := used_bound (List.mem_of_getElem? hs)
        obtain ⟨ub, uo, uc2, ucs, uct, ufz, hve, hub, huc⟩ := rd_nv hU.rd hs
        refine E.region ?_
        refine X.ixAe rfl rfl rfl rfl rfl rfl Try.underlying22 Try.sz3 ((Value.slice.inj hve).1) (by omega) ?_
        refine X.ld rfl rfl rfl rfl Try.ag3 (hub) (huc) ?_
        refine X.asg rfl rfl rfl rfl rfl ?_
        refine X.done [(4, _), (5, _), (8, _), (40, _), (41, _), (42, _), (43, _), (44, _), (45, _), (11, _)] ⟨rfl, rfl, rfl, rfl, rfl, rfl, rfl, rfl, rfl, rfl, trivial⟩ ?_
        refine N.then ?_
        refine E.region ?_
        refine X.mv rfl rfl rfl rfl rfl ?_
        refine X.mv rfl rfl rfl rfl rfl ?_
        refine X.ixA rfl rfl rfl rfl rfl rfl Try.underlying22 Try.sz3 (by omega) ?_
        refine X.st rfl rfl rfl rfl rfl rfl rfl Try.sz3 hl (by rw [List.length_map, out_len]; simpa using hsl) ?_
        intro H4 hln hk4
        rw [iv_set] at hln
        have hU4 := hU.keep hk4 (fun b hb => by simp; exact (hulb b hb).1)
        have kk4 := kk.trans hk4 (by simp; exact hnl1)
        refine X.done [(4, _), (5, _), (8, _), (40, _), (41, _), (42, _), (43, _), (44, _), (45, _), (11, _), (46, _), (47, _), (48, _)] ⟨rfl, rfl, rfl, rfl, rfl, rfl, rfl, rfl, rfl, rfl, rfl, rfl, rfl, trivial⟩ ?_
        refine N.blk ?_
        refine N.then ?_
        refine E.region ?_
        refine X.addE (zz := ((j + 1 : Nat) : Int)) rfl rfl rfl rfl rfl rfl (by rw [IntWalk.i64_in _ (by omega)] <;> omega) ?_
        refine X.mv rfl rfl rfl rfl rfl ?_
        refine X.done [(4, _), (5, _), (8, _), (40, _), (41, _), (42, _), (43, _), (44, _), (45, _), (11, _), (46, _), (47, _), (48, _), (49, _)] ⟨rfl, rfl, rfl, rfl, rfl, rfl, rfl, rfl, rfl, rfl, rfl, rfl, rfl, rfl, trivial⟩ ?_
        exact N.next (G := fun (j : Nat) => _) (j + 1) ⟨rfl, rfl, rfl, rfl, rfl, rfl, trivial⟩ ⟨by omega, by rw [hln, out_succ, getD_of hs], hU4, kk4⟩ (by omega)
      · refine E.exit ?_
        refine N.thenX ?_
        refine N.loopX ?_
        refine N.blkX ?_
        refine N.then ?_
        refine E.seq ?_
        refine E.region ?_
        refine X.mv rfl rfl rfl rfl rfl ?_
        refine X.asg rfl rfl rfl rfl rfl ?_
        refine X.asg rfl rfl rfl rfl rfl ?_
        refine X.done [(4, _), (5, _), (8, _)] ⟨rfl, rfl, rfl, trivial⟩ ?_
        refine N.then ?_
        refine E.ret ?_
        refine N.thenR ?_
        have hjn : j = (usedV fs).length := by omega
        exact N.retH [_, _] ⟨_, _, rfl, rfl, _, _, rfl, rfl, rfl⟩ ⟨kk, .inr ⟨by simpa using hc0, lb, rfl, by rw [lensV, if_pos (by omega), hl, hjn], hnl1⟩⟩
    · refine E.skip ?_
      refine N.then ?_
      refine E.seq ?_
      have hn2 : 2 ≤ (usedV fs).length := by omega
      refine E.region ?_
      refine X.asg rfl rfl rfl rfl rfl ?_
      refine X.done [(0, _), (1, _), (4, _), (5, _), (6, _), (8, _), (9, _), (12, _)] ⟨rfl, rfl, rfl, rfl, rfl, rfl, rfl, rfl, trivial⟩ ?_
      refine N.then ?_
      refine E.seq ?_
      refine E.seq ?_
      refine E.region ?_
      refine X.mv rfl rfl rfl rfl rfl ?_
      refine X.lenS rfl rfl rfl rfl rfl Try.underlying22 ?_
      refine X.mv rfl rfl rfl rfl rfl ?_
      refine X.done [(0, _), (1, _), (4, _), (5, _), (6, _), (8, _), (9, _), (12, _), (51, _), (52, _), (53, _)] ⟨rfl, rfl, rfl, rfl, rfl, rfl, rfl, rfl, rfl, rfl, rfl, trivial⟩ ?_
      refine N.then ?_
      refine E.block ?_
      refine E.loop (fun (q : LS) => [(4, .slice none 0 0), (5, i64 0), (0, .slice a fs.length c), (1, i64 most), (6, i64 (usedV fs).length), (8, sl0 lb fs.length), (9, .slice ua (usedV fs).length uc), (12, q.v), (51, .slice ua (usedV fs).length uc), (52, i64 (usedV fs).length), (53, i64 q.j)]) (fun (q : LS) H' => q.j ≤ (usedV fs).length ∧ Own H' 40 2 q.v q.zs.length (q.zs.flatMap cel) ∧ q.zs.map spec = coinsV fs q.j ∧ (∀ z ∈ q.zs, SymOK H' z ∧ ∀ b ∈ blk z.v, b < H'.size ∧ b ∉ blk q.v) ∧ (∀ b ∈ blk q.v, H.size ≤ b ∧ b ≠ lb ∧ b ∉ blk (.slice ua (usedV fs).length uc)) ∧ q.zs.length = q.j ∧ H'[lb]? = some (.cells (iv (List.replicate fs.length 0)).toArray 3 (0, 0)) ∧ Own H' 3 1 (.slice ua (usedV fs).length uc) (usedV fs).length (nv (usedV fs)) ∧ Kp [] H H') (fun (q : LS) => (usedV fs).length - q.j) ⟨0, [], .slice none 0 0⟩ ⟨rfl, rfl, rfl, rfl, rfl, rfl, rfl, rfl, rfl, rfl, rfl, trivial⟩ ⟨Nat.zero_le _, Own.nil _ _ _, rfl, by simp, by simp [blk], rfl, hl, hU, kk2⟩ ?_
      rintro ⟨j, zs, v⟩ H3 hJ
      dsimp only at hJ ⊢
      obtain ⟨hj, hO, hzs, hsz, hvb, hzl, hl, hU, kk⟩ := hJ
      have hvl3 := hO.lt
      refine E.seq ?_
      refine E.region ?_
      refine X.lss rfl rfl rfl rfl rfl rfl ?_
      refine X.done [(4, _), (5, _), (0, _), (1, _), (6, _), (8, _), (9, _), (12, _), (51, _), (52, _), (53, _), (54, _)] ⟨rfl, rfl, rfl, rfl, rfl, rfl, rfl, rfl, rfl, rfl, rfl, rfl, trivial⟩ ?_
      refine N.then ?_
      refine E.seq ?_
      refine E.condD rfl (fun hc => ?_) (fun hc => ?_)
      · refine E.skip ?_
        refine N.then ?_
        refine E.seq ?_
        refine E.block ?_
        refine E.seq ?_
        obtain ⟨s, hs⟩ : ∃ s, (usedV fs)[j]? = some s := ⟨_, List.getElem?_eq_getElem (by omega)⟩
        have hsl := used_bound (List.mem_of_getElem? hs)
        obtain ⟨ub, uo, uc2, ucs, uct, ufz, hve, hub, huc⟩ := rd_nv hU.rd hs
        obtain ⟨f, hf⟩ := get_of hsl
        obtain ⟨hae, cs, ct, fz, hb, hcf⟩ := row_at hF hf
        replace hb := kk.keep hb (by simp)
        refine E.region ?_
        refine X.mv rfl rfl rfl rfl rfl ?_
        refine X.ixAe rfl rfl rfl rfl rfl rfl Try.underlying22 Try.sz3 ((Value.slice.inj hve).1) (by omega) ?_
        refine X.ld rfl rfl rfl rfl Try.ag3 (hub) (huc) ?_
        refine X.asg rfl rfl rfl rfl rfl ?_
        refine X.asg rfl rfl rfl rfl rfl ?_
        refine X.done [(4, _), (5, _), (0, _), (1, _), (6, _), (8, _), (9, _), (12, _), (51, _), (52, _), (53, _), (54, _), (55, _), (56, _), (57, _), (13, _), (14, _)] ⟨rfl, rfl, rfl, rfl, rfl, rfl, rfl, rfl, rfl, rfl, rfl, rfl, rfl, rfl, rfl, rfl, rfl, trivial⟩ ?_
        refine N.then ?_
        refine E.region ?_
        refine X.mv rfl rfl rfl rfl rfl ?_
        refine X.mv rfl rfl rfl rfl rfl ?_
        refine X.mv rfl rfl rfl rfl rfl ?_
        refine X.ixAe rfl rfl rfl rfl rfl rfl Try.underlying22 Try.sz3 (hae) (by omega) ?_
        refine X.ld rfl rfl rfl rfl Try.ag3 (hb) (hcf) ?_
        refine X.mv rfl rfl rfl rfl rfl ?_
        refine X.lit (e := 3) (cs := [i64 (j : Int)]) rfl rfl rfl rfl rfl (fun _ => by kernel_rfl) ?_
        intro b6 H6 hn6 hb6 hk6
        replace hl := hk6.keep hl (by simp)
        replace hU := hU.keep hk6 (by simp)
        replace hO := hO.keep hk6 (by simp)
        have kk6 := kk.trans hk6 (by simp)
        have q6 := lt_of hb6
        refine X.build (v := .agg ([i64 f, .slice (some ⟨b6, 0, none⟩) 1 1] : List Value).toArray) rfl rfl rfl rfl rfl (fun _ => by kernel_rfl) ?_
        refine X.lit (e := 40) (cs := [i64 f, .slice (some ⟨b6, 0, none⟩) 1 1]) rfl rfl rfl rfl rfl (fun _ => by kernel_rfl) ?_
        intro b7 H7 hn7 hb7 hk7
        replace hl := hk7.keep hl (by simp)
        replace hU := hU.keep hk7 (by simp)
        replace hO := hO.keep hk7 (by simp)
        replace hb6 := hk7.keep hb6 (by simp)
        have kk7 := kk6.trans hk7 (by simp)
        refine X.app TC rfl rfl rfl rfl rfl rfl (hO) (by exact .inl (rd_one (x := ⟨f, .slice (some ⟨b6, 0, none⟩) 1 1, [j]⟩) hb7)) (.inl ⟨40, Try.underlying38, _, _, rfl⟩) (one_cel ⟨f, .slice (some ⟨b6, 0, none⟩) 1 1, [j]⟩ rfl) (by first | (simp only [maxLen]; omega) | omega) (by first | (simp only [maxLen]; omega) | omega) ?_
        intro v9 H9 hO9 hk9 hb9 hn9
        have hvlt := hO.lt
        have qU := hU.lt
        have ql := lt_of hl
        replace hl := hk9.keep hl (fun h => (hvb _ h).2.1 rfl)
        replace hU := hU.keep hk9 (fun b hb h => (hvb b h).2.2 hb)
        have kk9 := kk7.trans hk9 (fun b hb => .inr (hvb b hb).1)
        have hvb9 : ∀ b ∈ blk v9, H.size ≤ b ∧ b ≠ lb ∧ b ∉ blk (.slice ua (usedV fs).length uc) := fun b hb => hb9.elim (fun h => hvb b (h ▸ hb)) (fun h => by have h8 := h b hb; have := kk7.size; exact ⟨by omega, by omega, fun h9 => absurd (qU b h9) (by omega)⟩)
        have hzs9 : ∀ z ∈ zs ++ [(⟨f, .slice (some ⟨b6, 0, none⟩) 1 1, [j]⟩ : CE)], SymOK H9 z ∧ ∀ b ∈ blk z.v, b < H9.size ∧ b ∉ blk v9 := by
          intro z hz
          rcases List.mem_append.1 hz with hz | hz
          · obtain ⟨hz1, hz2⟩ := hsz z hz
            refine ⟨Rd.keep ((hz1.keep hk6).keep hk7) hk9 (fun b hb => (hz2 b hb).2), fun b hb => ⟨by have := (hz2 b hb).1; have := hk6.size; have := hk7.size; have := hk9.size; omega, fun hb2 => ?_⟩⟩
            rcases hb9 with h | h
            · exact (hz2 b hb).2 (h ▸ hb2)
            · have h1 := h b hb2
              have h2 := (hz2 b hb).1
              have h3 := hk6.size
              have h4 := hk7.size
              omega
          · obtain rfl : z = ⟨f, .slice (some ⟨b6, 0, none⟩) 1 1, [j]⟩ := by simpa using hz
            have hb6v : b6 ∉ blk v := fun h => absurd (hvl3 b6 h) (by omega)
            refine ⟨Rd.keep (show SymOK _ ⟨f, .slice (some ⟨b6, 0, none⟩) 1 1, [j]⟩ from rdi hb6) hk9 (fun b hb hb2 => ?_), fun b hb => ?_⟩
            · simp [blk] at hb; subst hb; exact hb6v hb2
            · simp [blk] at hb; subst hb
              have h1 := lt_of hb6
              refine ⟨by have := hk9.size; omega, fun hb2 => ?_⟩
              rcases hb9 with h | h
              · exact hb6v (h ▸ hb2)
              · have := h _ hb2; omega
        have hO10 : Own H9 40 2 v9 (zs ++ [(⟨f, .slice (some ⟨b6, 0, none⟩) 1 1, [j]⟩ : CE)]).length ((zs ++ [(⟨f, .slice (some ⟨b6, 0, none⟩) 1 1, [j]⟩ : CE)]).flatMap cel) := by rw [List.length_append, List.flatMap_append]; simpa using hO9
        refine X.asg rfl rfl rfl rfl rfl ?_
        refine X.done [(4, _), (5, _), (0, _), (1, _), (6, _), (8, _), (9, _), (12, _), (51, _), (52, _), (53, _), (54, _), (55, _), (56, _), (57, _), (13, _), (14, _), (58, _), (59, _), (60, _), (61, _), (62, _), (63, _), (64, _), (65, _), (66, _), (67, _)] ⟨rfl, rfl, rfl, rfl, rfl, rfl, rfl, rfl, rfl, rfl, rfl, rfl, rfl, rfl, rfl, rfl, rfl, rfl, rfl, rfl, rfl, rfl, rfl, rfl, rfl, rfl, rfl, trivial⟩ ?_
        refine N.blk ?_
        refine N.then ?_
        refine E.region ?_
        refine X.addE (zz := ((j + 1 : Nat) : Int)) rfl rfl rfl rfl rfl rfl (by rw [IntWalk.i64_in _ (by omega)] <;> omega) ?_
        refine X.mv rfl rfl rfl rfl rfl ?_
        refine X.done [(4, _), (5, _), (0, _), (1, _), (6, _), (8, _), (9, _), (12, _), (51, _), (52, _), (53, _), (54, _), (55, _), (56, _), (57, _), (13, _), (14, _), (58, _), (59, _), (60, _), (61, _), (62, _), (63, _), (64, _), (65, _), (66, _), (67, _), (68, _)] ⟨rfl, rfl, rfl, rfl, rfl, rfl, rfl, rfl, rfl, rfl, rfl, rfl, rfl, rfl, rfl, rfl, rfl, rfl, rfl, rfl, rfl, rfl, rfl, rfl, rfl, rfl, rfl, rfl, trivial⟩ ?_
        exact N.next (G := fun (q : LS) => _) ⟨j + 1, zs ++ [⟨f, .slice (some ⟨b6, 0, none⟩) 1 1, [j]⟩], v9⟩ ⟨rfl, rfl, rfl, rfl, rfl, rfl, rfl, rfl, rfl, rfl, rfl, trivial⟩ ⟨by show j + 1 ≤ (usedV fs).length; omega, hO10, by rw [List.map_append, hzs, coins_succ, getD_of hs, getD_of hf]; rfl, hzs9, hvb9, by show (zs ++ [_]).length = j + 1; rw [List.length_append, hzl]; rfl, hl, hU, kk9⟩ (by show (usedV fs).length - (j + 1) < (usedV fs).length - j; omega)
      · refine E.exit ?_
        refine N.thenX ?_
        refine N.loopX ?_
        refine N.blkX ?_
        refine N.then ?_
        refine E.seq ?_
        refine E.region ?_
        refine X.mv rfl rfl rfl rfl rfl ?_
        refine X.asg rfl rfl rfl rfl rfl ?_
        refine X.done [(4, _), (5, _), (1, _), (6, _), (8, _), (9, _), (12, _), (15, _)] ⟨rfl, rfl, rfl, rfl, rfl, rfl, rfl, rfl, trivial⟩ ?_
        refine N.then ?_
        refine E.seq ?_
        refine E.seq ?_
        obtain rfl : j = (usedV fs).length := by omega
        have hszA : ∀ z ∈ zs, SymOK H3 z := fun z hz => (hsz z hz).1
        obtain ⟨ca, cc, rfl, hCC⟩ := own_cr hO
        refine E.region ?_
        refine X.mv rfl rfl rfl rfl rfl ?_
        refine X.sbE (zz := (most - 1)) rfl rfl rfl rfl rfl rfl (by rw [IntWalk.i64_in _ (by omega)] <;> omega) ?_
        refine X.mv rfl rfl rfl rfl rfl ?_
        refine X.done [(4, _), (5, _), (6, _), (8, _), (9, _), (12, _), (15, _), (71, _), (72, _)] ⟨rfl, rfl, rfl, rfl, rfl, rfl, rfl, rfl, rfl, trivial⟩ ?_
        refine N.then ?_
        refine E.block ?_
        refine E.loop (fun (q : LS) => [(4, .slice none 0 0), (5, i64 0), (6, i64 (usedV fs).length), (8, sl0 lb fs.length), (9, .slice ua (usedV fs).length uc), (12, .slice ca zs.length cc), (15, q.v), (71, i64 (most - 1)), (72, i64 q.j)]) (fun (q : LS) H' => (q.j : Int) ≤ most - 1 ∧ Own H' 40 2 q.v q.zs.length (q.zs.flatMap cel) ∧ q.zs.map spec = rowsV (coinsV fs (usedV fs).length) q.j ∧ (∀ z ∈ q.zs, SymOK H' z) ∧ Kp [] H3 H') (fun (q : LS) => most.toNat - q.j) ⟨0, zs, .slice ca zs.length cc⟩ ⟨rfl, rfl, rfl, rfl, rfl, rfl, rfl, rfl, rfl, trivial⟩ ⟨by show (0 : Int) ≤ most - 1; omega, hO, hzs, hszA, Kp.refl _ _⟩ ?_
        rintro ⟨k, ys, v⟩ H6 hJ
        dsimp only at hJ ⊢
        obtain ⟨hk, hY, hys, hsy, hkA⟩ := hJ
        refine E.seq ?_
        refine E.region ?_
        refine X.lss rfl rfl rfl rfl rfl rfl ?_
        refine X.done [(4, _), (5, _), (6, _), (8, _), (9, _), (12, _), (15, _), (71, _), (72, _), (73, _)] ⟨rfl, rfl, rfl, rfl, rfl, rfl, rfl, rfl, rfl, rfl, trivial⟩ ?_
        refine N.then ?_
        refine E.seq ?_
        refine E.condD rfl (fun hc => ?_) (fun hc => ?_)
        · refine E.skip ?_
          refine N.then ?_
          refine E.seq ?_
          refine E.block ?_
          obtain ⟨ya, yc, rfl, hCY⟩ := own_cr hY
          have hcb6 : ∀ x ∈ ys, CB (usedV fs).length 4294967296 k (spec x) := fun x hx => rows_cb (by decide) (coins_cb hg) k _ (by rw [← hys]; exact List.mem_map_of_mem hx)
          have hyl : ys.length ≤ 2 * (usedV fs).length := by
            have h := rows_le (coinsV fs (usedV fs).length) k
            rw [← hys, List.length_map, coins_len] at h; exact h
          refine E.region ?_
          refine X.mv rfl rfl rfl rfl rfl ?_
          refine X.mv rfl rfl rfl rfl rfl ?_
          refine X.call rfl rfl rfl rfl rfl Try.cl19 (packets_ct ys ya yc H6 hCY hsy (fun x hx => by have := (hcb6 x hx); have hw := this.weak (most_le (by omega) hg.most15); exact ⟨this.nn, hw.1⟩) (fun x hx => by have hw := (hcb6 x hx).weak (most_le (by omega) hg.most15); have : x.s.length ≤ 32768 := hw.2; omega) (by omega)) ?_
          rintro vp H7 ⟨ps, hps, hOp, hsp, hk7⟩
          obtain ⟨pa, pc, rfl, hCP⟩ := own_cr hOp
          have hkk7 := hkA.trans hk7 (by simp)
          have hpl : ps.length ≤ ys.length := by rw [← List.length_map (f := spec), hps, pk_len, List.length_map]; omega
          refine X.call rfl rfl rfl rfl rfl Try.cl18 (merged_ct zs ps ca cc pa pc H7 (hCC.keep hkk7 (by simp)) hCP (fun x hx => (hszA x hx).keep hkk7) hsp (by omega)) ?_
          rintro vm H8 ⟨hOm, hmb, hk8⟩
          have hkk8 := hkk7.trans hk8 (by simp)
          have hsm : ∀ z ∈ mg leE zs ps, SymOK H8 z := fun z hz => (mg_mem leE z _ _ hz).elim (fun h => (hszA z h).keep hkk8) (fun h => (hsp z h).keep hk8)
          have hms : (mg leE zs ps).map spec = rowsV (coinsV fs (usedV fs).length) (k + 1) := by rw [mg_map leE leC spec (fun _ _ => rfl), hps, hys, hzs, rowsV]
          refine X.asg rfl rfl rfl rfl rfl ?_
          refine X.done [(4, _), (5, _), (6, _), (8, _), (9, _), (12, _), (15, _), (71, _), (72, _), (73, _), (74, _), (75, _), (76, _), (77, _)] ⟨rfl, rfl, rfl, rfl, rfl, rfl, rfl, rfl, rfl, rfl, rfl, rfl, rfl, rfl, trivial⟩ ?_
          refine N.blk ?_
          refine N.then ?_
          refine E.region ?_
          refine X.addE (zz := ((k + 1 : Nat) : Int)) rfl rfl rfl rfl rfl rfl (by rw [IntWalk.i64_in _ (by omega)] <;> omega) ?_
          refine X.mv rfl rfl rfl rfl rfl ?_
          refine X.done [(4, _), (5, _), (6, _), (8, _), (9, _), (12, _), (15, _), (71, _), (72, _), (73, _), (74, _), (75, _), (76, _), (77, _), (78, _)] ⟨rfl, rfl, rfl, rfl, rfl, rfl, rfl, rfl, rfl, rfl, rfl, rfl, rfl, rfl, rfl, trivial⟩ ?_
          exact N.next (G := fun (q : LS) => _) ⟨k + 1, mg leE zs ps, vm⟩ ⟨rfl, rfl, rfl, rfl, rfl, rfl, rfl, rfl, rfl, trivial⟩ ⟨by show ((k + 1 : Nat) : Int) ≤ most - 1; omega, hOm, hms, hsm, hkk8⟩ (by show most.toNat - (k + 1) < most.toNat - k; omega)
        · refine E.exit ?_
          refine N.thenX ?_
          refine N.loopX ?_
          refine N.blkX ?_
          refine N.then ?_
          refine E.seq ?_
          have hkm : k = most.toNat - 1 := by omega
          obtain ⟨ya, yc, rfl, hCY⟩ := own_cr hY
          have hcb6 : ∀ x ∈ ys, CB (usedV fs).length 4294967296 k (spec x) := fun x hx => rows_cb (by decide) (coins_cb hg) k _ (by rw [← hys]; exact List.mem_map_of_mem hx)
          have hyl : ys.length ≤ 2 * (usedV fs).length := by
            have h := rows_le (coinsV fs (usedV fs).length) k
            rw [← hys, List.length_map, coins_len] at h; exact h
          have hyg : 2 * ((usedV fs).length - 1) ≤ ys.length := by
            have h := rows_ge (coinsV fs (usedV fs).length) k 1 (by rw [coins_len, Nat.mul_one, show k + 1 = most.toNat by omega]; exact hg.fit)
            rw [← hys, List.length_map, coins_len] at h; omega
          have hyc := hCY.cap
          have q3 := lt_of hl
          have qA := hkA.size
          refine E.region ?_
          refine X.mv rfl rfl rfl rfl rfl ?_
          refine X.mk Try.underlying22 Try.zi3_22 rfl rfl rfl rfl rfl rfl rfl (by omega) (by omega) (by simp only [maxLen]; omega) ?_
          intro tb H7 hnt htb hk7
          replace htb : H7[tb]? = some (.cells (nv (countV (usedV fs).length [])).toArray 3 (0, 0)) := by rw [htb, count_nil]; simp
          have qtb := lt_of htb
          refine X.alloc (z := .slice none 0 0) (cs := [.slice none 0 0]) rfl rfl rfl rfl (by kernel_rfl) rfl ?_
          intro tc H8 hnc htc hk8
          replace htb := hk8.keep htb (by simp)
          have hk68 := hk7.trans hk8 (by simp)
          refine X.st rfl rfl rfl rfl rfl rfl rfl Try.sz22 htc (by show 0 < 1; omega) ?_
          intro H9 htcn hk9
          replace htc : H9[tc]? = some (.cells ([sl0 tb (usedV fs).length] : List Value).toArray 22 (0, 0)) := htcn
          replace htb := hk9.keep htb (by simp; omega)
          have hk69 : Kp [] H6 H9 := hk68.trans hk9 (by simp; have := hk7.size; omega)
          have hk39 : Kp [] H3 H9 := hkA.trans hk69 (by simp)
          have q9 := hk69.size
          have hne : tc ≠ lb ∧ tb ≠ lb ∧ tb ≠ tc ∧ H6.size ≤ tb := ⟨by have := hk7.size; omega, by omega, by omega, hnt⟩
          refine X.done [(4, _), (5, _), (6, _), (8, _), (9, _), (15, _), (16, _)] ⟨rfl, rfl, rfl, rfl, rfl, rfl, rfl, trivial⟩ ?_
          refine N.then ?_
          refine E.seq ?_
          refine E.seq ?_
          refine E.region ?_
          refine X.mv rfl rfl rfl rfl rfl ?_
          refine X.mv rfl rfl rfl rfl rfl ?_
          refine X.sbE (zz := (((usedV fs).length - 1 : Nat) : Int)) rfl rfl rfl rfl rfl rfl (by rw [IntWalk.i64_in _ (by omega)] <;> omega) ?_
          refine X.mulE (zz := ((2 * ((usedV fs).length - 1) : Nat) : Int)) rfl rfl rfl rfl rfl rfl (by rw [IntWalk.i64_in _ (by omega)] <;> omega) ?_
          refine X.sl2 rfl rfl rfl rfl rfl rfl Try.underlying38 Try.is40 (by omega) ?_
          rw [Int.toNat_natCast]
          refine X.lenS rfl rfl rfl rfl rfl Try.underlying38 ?_
          refine X.mv rfl rfl rfl rfl rfl ?_
          refine X.done [(4, _), (5, _), (6, _), (8, _), (9, _), (16, _), (85, _), (86, _), (87, _)] ⟨rfl, rfl, rfl, rfl, rfl, rfl, rfl, rfl, rfl, trivial⟩ ?_
          refine N.then ?_
          refine E.block ?_
          refine E.loop (fun (j : Nat) => [(4, .slice none 0 0), (5, i64 0), (6, i64 (usedV fs).length), (8, sl0 lb fs.length), (9, .slice ua (usedV fs).length uc), (16, ptr tc), (85, .slice ya (2 * ((usedV fs).length - 1)) yc), (86, i64 ((2 * ((usedV fs).length - 1) : Nat) : Int)), (87, i64 (j : Int))]) (fun (j : Nat) H' => j ≤ 2 * ((usedV fs).length - 1) ∧ H'[tc]? = some (.cells ([sl0 tb (usedV fs).length] : List Value).toArray 22 (0, 0)) ∧ H'[tb]? = some (.cells (nv (countV (usedV fs).length (symsV ((ys.map spec).take j)))).toArray 3 (0, 0)) ∧ Kp [tb] H9 H') (fun (j : Nat) => 2 * ((usedV fs).length - 1) - j) 0 ⟨rfl, rfl, rfl, rfl, rfl, rfl, rfl, rfl, rfl, trivial⟩ ⟨Nat.zero_le _, htc, htb, Kp.refl _ _⟩ ?_
          intro j H10 hJ
          obtain ⟨hj, htc, htb, hkT⟩ := hJ
          have htc0 := htc
          have htb0 := htb
          have hkT0 := hkT
          refine E.seq ?_
          refine E.region ?_
          refine X.lss rfl rfl rfl rfl rfl rfl ?_
          refine X.done [(4, _), (5, _), (6, _), (8, _), (9, _), (16, _), (85, _), (86, _), (87, _), (88, _)] ⟨rfl, rfl, rfl, rfl, rfl, rfl, rfl, rfl, rfl, rfl, trivial⟩ ?_
          refine N.then ?_
          refine E.seq ?_
          refine E.condD rfl (fun hc => ?_) (fun hc => ?_)
          · refine E.skip ?_
            refine N.then ?_
            refine E.seq ?_
            refine E.block ?_
            refine E.seq ?_
            obtain ⟨y, hy⟩ : ∃ y, ys[j]? = some y := ⟨_, List.getElem?_eq_getElem (by omega)⟩
            have hmy := List.mem_of_getElem? hy
            obtain ⟨bb, oo, cc', cs, ct, fz, hv, hbb, hel⟩ := hCY.rd.get cel_len (i := j) hy (by decide)
            have hcy := hcb6 y hmy
            have hSy := hsy y hmy
            obtain ⟨xa, xc, hxv⟩ := hSy.sl
            have hbl : bb ≠ tb := by have := lt_of hbb; omega
            replace hbb := (hk69.keep hbb (by simp))
            replace hbb := hkT.keep hbb (by simp; exact hbl)
            have hSl := rd_lt hSy
            rcases y with ⟨w, yv, ss⟩
            dsimp only at hxv
            subst hxv
            have hsl32 : ss.length ≤ 32768 := ((hcb6 _ hmy).weak (most_le (by omega) hg.most15)).2
            refine E.region ?_
            refine X.ixAe rfl rfl rfl rfl rfl rfl Try.underlying38 Try.sz40 ((Value.slice.inj hv).1) (by omega) ?_
            refine X.ldA rfl rfl rfl rfl Try.ag40 Try.sz40 (hbb) (vs := [i64 w, .slice xa ss.length xc]) rfl (fun j u hj => hel j u hj) ?_
            refine X.alloc (z := .agg ([.int .i64 0, .slice none 0 0] : List Value).toArray) (cs := [.int .i64 0, .slice none 0 0]) rfl rfl rfl rfl (by kernel_rfl) rfl ?_
            intro b18 H11 hn18 hb18 hk11
            replace htc := hk11.keep htc (by simp)
            replace htb := hk11.keep htb (by simp)
            replace hkT := hkT.trans hk11 (by simp)
            have q18t := lt_of htb
            have q18c := lt_of htc
            have q18 := lt_of hb18
            refine X.stA rfl rfl rfl rfl rfl rfl (by simp [Value.oneCell']) Try.sz40 hb18 (Nat.le_refl _) ?_
            intro H12 hbn hk12
            replace hb18 : H12[b18]? = some (.cells ([i64 w, .slice xa ss.length xc] : List Value).toArray 40 (0, 0)) := hbn
            have hbt : tc ≠ b18 ∧ tb ≠ b18 := ⟨by have := lt_of htc0; omega, by have := lt_of htb0; omega⟩
            replace htc := hk12.keep htc (by simp; exact hbt.1)
            replace htb := hk12.keep htb (by simp; exact hbt.2)
            replace hkT := hkT.trans hk12 (by simp; right; have := hkT0.size; omega)
            refine X.done [(4, _), (5, _), (6, _), (8, _), (9, _), (16, _), (85, _), (86, _), (87, _), (88, _), (89, _), (90, _), (18, _)] ⟨rfl, rfl, rfl, rfl, rfl, rfl, rfl, rfl, rfl, rfl, rfl, rfl, rfl, trivial⟩ ?_
            refine N.then ?_
            refine E.seq ?_
            refine E.region ?_
            refine X.fld rfl rfl rfl rfl rfl Try.off40_1 ?_
            refine X.ld rfl rfl rfl rfl Try.ag22 (hb18) (rfl) ?_
            refine X.lenS rfl rfl rfl rfl rfl Try.underlying22 ?_
            refine X.mv rfl rfl rfl rfl rfl ?_
            refine X.done [(4, _), (5, _), (6, _), (8, _), (9, _), (16, _), (85, _), (86, _), (87, _), (88, _), (89, _), (90, _), (18, _), (91, _), (92, _), (93, _), (94, _)] ⟨rfl, rfl, rfl, rfl, rfl, rfl, rfl, rfl, rfl, rfl, rfl, rfl, rfl, rfl, rfl, rfl, rfl, trivial⟩ ?_
            refine N.then ?_
            refine E.block ?_
            -- MISSING in G: [88, 89, 90, 18, 91]
            refine E.loop (fun (i : Nat) => [(4, .slice none 0 0), (5, i64 0), (6, i64 (usedV fs).length), (8, sl0 lb fs.length), (9, .slice ua (usedV fs).length uc), (16, ptr tc), (85, .slice ya (2 * ((usedV fs).length - 1)) yc), (86, i64 ((2 * ((usedV fs).length - 1) : Nat) : Int)), (87, i64 (j : Int)), (92, .slice xa ss.length xc), (93, i64 ss.length), (94, i64 (i : Int))]) (fun (i : Nat) H' => i ≤ ss.length ∧ H'[tc]? = some (.cells ([sl0 tb (usedV fs).length] : List Value).toArray 22 (0, 0)) ∧ H'[tb]? = some (.cells (nv (countV (usedV fs).length (symsV ((ys.map spec).take j) ++ ss.take i))).toArray 3 (0, 0)) ∧ Kp [tb] H9 H') (fun (i : Nat) => ss.length - i) 0 ⟨rfl, rfl, rfl, rfl, rfl, rfl, rfl, rfl, rfl, rfl, rfl, rfl, trivial⟩ ⟨Nat.zero_le _, htc, by rw [htb, List.take_zero, List.append_nil], hkT⟩ ?_
            intro i H13 hJ
            obtain ⟨hi, htc, htb, hkT⟩ := hJ
            refine E.seq ?_
            refine E.region ?_
            refine X.lss rfl rfl rfl rfl rfl rfl ?_
            refine X.done [(4, _), (5, _), (6, _), (8, _), (9, _), (16, _), (85, _), (86, _), (87, _), (92, _), (93, _), (94, _), (95, _)] ⟨rfl, rfl, rfl, rfl, rfl, rfl, rfl, rfl, rfl, rfl, rfl, rfl, rfl, trivial⟩ ?_
            refine N.then ?_
            refine E.seq ?_
            refine E.condD rfl (fun hc => ?_) (fun hc => ?_)
            · refine E.skip ?_
              refine N.then ?_
              refine E.seq ?_
              refine E.block ?_
              refine E.seq ?_
              obtain ⟨r, hr⟩ : ∃ r, ss[i]? = some r := ⟨_, List.getElem?_eq_getElem (by omega)⟩
              have hrn : r < (usedV fs).length := hcy.lt r (List.mem_of_getElem? hr)
              have hSb : ∀ b ∈ blk (.slice xa ss.length xc), b ∉ [tb] := fun b hb => by
                rcases hSl b hb with h | h
                · simp; omega
                · have h : ss = [] := h
                  subst h; simp at hr
              have hS13 : Rd H13 1 (.slice xa ss.length xc) ss.length (nv ss) := Rd.keep (Rd.keep hSy hk69 (by simp)) hkT hSb
              obtain ⟨sb, so, sc2, scs, sct, sfz, hsve, hsb, hsc⟩ := rd_nv hS13 hr
              have hcg := count_get (n := (usedV fs).length) (symsV ((ys.map spec).take j) ++ ss.take i) hrn
              have hcl : (symsV ((ys.map spec).take j) ++ ss.take i).count r ≤ 40000000 := by
                have h1 := List.count_le_length (a := r) (l := symsV ((ys.map spec).take j) ++ ss.take i)
                have h2 := syms_len ((ys.map spec).take j) 32768 (fun c hc => by
                  obtain ⟨z, hz, rfl⟩ := List.mem_map.1 (List.mem_of_mem_take hc)
                  exact ((hcb6 z hz).weak (most_le (by omega) hg.most15)).2)
                rw [List.length_append, List.length_take] at h1
                have h3 : ((ys.map spec).take j).length ≤ 640 := by rw [List.length_take, List.length_map]; omega
                have h4 : 32768 * ((ys.map spec).take j).length ≤ 32768 * 640 := Nat.mul_le_mul_left _ h3
                omega
              refine E.region ?_
              refine X.ixAe rfl rfl rfl rfl rfl rfl Try.underlying22 Try.sz3 ((Value.slice.inj hsve).1) (by omega) ?_
              refine X.ld rfl rfl rfl rfl Try.ag3 (hsb) (hsc) ?_
              refine X.asg rfl rfl rfl rfl rfl ?_
              refine X.done [(4, _), (5, _), (6, _), (8, _), (9, _), (16, _), (85, _), (86, _), (87, _), (92, _), (93, _), (94, _), (95, _), (96, _), (97, _), (20, _)] ⟨rfl, rfl, rfl, rfl, rfl, rfl, rfl, rfl, rfl, rfl, rfl, rfl, rfl, rfl, rfl, rfl, trivial⟩ ?_
              refine N.then ?_
              refine E.region ?_
              refine X.ld rfl rfl rfl rfl Try.ag22 (htc) (rfl) ?_
              refine X.mv rfl rfl rfl rfl rfl ?_
              refine X.ixA rfl rfl rfl rfl rfl rfl Try.underlying22 Try.sz3 (by omega) ?_
              refine X.ld rfl rfl rfl rfl Try.ag3 (htb) (nv_at hcg) ?_
              refine X.addE (zz := ((((symsV ((ys.map spec).take j) ++ ss.take i).count r) + 1 : Nat) : Int)) rfl rfl rfl rfl rfl rfl (by rw [IntWalk.i64_in _ (by omega)] <;> omega) ?_
              refine X.ixA rfl rfl rfl rfl rfl rfl Try.underlying22 Try.sz3 (by omega) ?_
              refine X.st rfl rfl rfl rfl rfl rfl rfl Try.sz3 htb (by rw [List.length_map, count_len]; simpa using hrn) ?_
              intro H14 htn hk14
              rw [nvset, count_more _ hrn] at htn
              replace htc := hk14.keep htc (by simp; exact fun h => hne.2.2.1 h.symm)
              replace hkT := hkT.trans hk14 (by simp)
              refine X.done [(4, _), (5, _), (6, _), (8, _), (9, _), (16, _), (85, _), (86, _), (87, _), (92, _), (93, _), (94, _), (95, _), (96, _), (97, _), (20, _), (98, _), (99, _), (100, _), (101, _), (102, _), (103, _)] ⟨rfl, rfl, rfl, rfl, rfl, rfl, rfl, rfl, rfl, rfl, rfl, rfl, rfl, rfl, rfl, rfl, rfl, rfl, rfl, rfl, rfl, rfl, trivial⟩ ?_
              refine N.blk ?_
              refine N.then ?_
              refine E.region ?_
              refine X.addE (zz := ((i + 1 : Nat) : Int)) rfl rfl rfl rfl rfl rfl (by rw [IntWalk.i64_in _ (by omega)] <;> omega) ?_
              refine X.mv rfl rfl rfl rfl rfl ?_
              refine X.done [(4, _), (5, _), (6, _), (8, _), (9, _), (16, _), (85, _), (86, _), (87, _), (92, _), (93, _), (94, _), (95, _), (96, _), (97, _), (20, _), (98, _), (99, _), (100, _), (101, _), (102, _), (103, _), (104, _)] ⟨rfl, rfl, rfl, rfl, rfl, rfl, rfl, rfl, rfl, rfl, rfl, rfl, rfl, rfl, rfl, rfl, rfl, rfl, rfl, rfl, rfl, rfl, rfl, trivial⟩ ?_
              exact N.next (G := fun (i : Nat) => _) (i + 1) ⟨rfl, rfl, rfl, rfl, rfl, rfl, rfl, rfl, rfl, rfl, rfl, rfl, trivial⟩ ⟨by omega, htc, by rw [htn, List.take_add_one, hr, List.append_assoc]; rfl, hkT⟩ (by omega)
            · refine E.exit ?_
              refine N.thenX ?_
              refine N.loopX ?_
              refine N.blkX ?_
              refine N.blk ?_
              refine N.then ?_
              refine E.region ?_
              refine X.addE (zz := ((j + 1 : Nat) : Int)) rfl rfl rfl rfl rfl rfl (by rw [IntWalk.i64_in _ (by omega)] <;> omega) ?_
              refine X.mv rfl rfl rfl rfl rfl ?_
              refine X.done [(4, _), (5, _), (6, _), (8, _), (9, _), (16, _), (85, _), (86, _), (87, _), (92, _), (93, _), (94, _), (95, _), (105, _)] ⟨rfl, rfl, rfl, rfl, rfl, rfl, rfl, rfl, rfl, rfl, rfl, rfl, rfl, rfl, trivial⟩ ?_
              exact N.next (G := fun (j : Nat) => _) (j + 1) ⟨rfl, rfl, rfl, rfl, rfl, rfl, rfl, rfl, rfl, trivial⟩ ⟨by omega, htc, by rw [htb, syms_succ (z := spec ⟨w, .slice xa ss.length xc, ss⟩) (by rw [List.getElem?_map, hy]; rfl)]; rw [show i = ss.length by omega, List.take_length]; rfl, hkT⟩ (by omega)
          · refine E.exit ?_
            refine N.thenX ?_
            refine N.loopX ?_
            refine N.blkX ?_
            refine N.then ?_
            refine E.seq ?_
            obtain rfl : j = 2 * ((usedV fs).length - 1) := by omega
            rw [hys, hkm] at htb
            replace htb : H10[tb]? = some (.cells (nv (takenV fs (most.toNat - 1))).toArray 3 (0, 0)) := htb
            have hl10 := hkT.keep (hk39.keep hl (by simp)) (by simp; omega)
            have hU10 := (hU.keep hk39 (by simp)).keep hkT (fun b hb => by have := hU.lt b hb; simp; omega)
            have hk10 : Kp [] H H10 := (kk.trans hk39 (by simp)).trans hkT (by simp; have := kk.size; omega)
            refine E.region ?_
            refine X.mv rfl rfl rfl rfl rfl ?_
            refine X.fn rfl rfl rfl rfl rfl rfl ?_
            refine X.call rfl rfl rfl rfl rfl Try.cl20 (ordered_ct (usedV fs).length (gtT (takenV fs (most.toNat - 1))) 21 [ptr tc] H10 (by omega) Try.cl21 (fun H' hk x y hx hy => ahead_len _ tc tb _ H' (hk.keep htc (by simp)) (hk.keep htb (by simp)) (count_len _ _) x y hx hy)) ?_
            rintro _ H14 ⟨fb, rfl, hfb, hfl0, hk14⟩
            replace hfb : H14[fb]? = some (.cells (nv (flV fs (most.toNat - 1))).toArray 3 (0, 0)) := hfb
            have htc14 := hk14.keep htc (by simp)
            have htb14 := hk14.keep htb (by simp)
            have hl14 := hk14.keep hl10 (by simp)
            have hU14 := hU10.keep hk14 (by simp)
            have hkH14 := hk10.trans hk14 (by simp)
            replace hne : tc ≠ lb ∧ tb ≠ lb ∧ fb ≠ lb := ⟨hne.1, hne.2.1, by have := lt_of hl10; omega⟩
            refine X.asg rfl rfl rfl rfl rfl ?_
            refine X.done [(4, _), (5, _), (8, _), (9, _), (16, _), (21, _)] ⟨rfl, rfl, rfl, rfl, rfl, rfl, trivial⟩ ?_
            refine N.then ?_
            refine E.seq ?_
            refine E.seq ?_
            refine E.region ?_
            refine X.mv rfl rfl rfl rfl rfl ?_
            refine X.lenS rfl rfl rfl rfl rfl Try.underlying22 ?_
            refine X.mv rfl rfl rfl rfl rfl ?_
            refine X.done [(4, _), (5, _), (8, _), (16, _), (21, _), (109, _), (110, _), (111, _)] ⟨rfl, rfl, rfl, rfl, rfl, rfl, rfl, rfl, trivial⟩ ?_
            refine N.then ?_
            refine E.block ?_
            refine E.loop (fun (j : Nat) => [(4, .slice none 0 0), (5, i64 0), (8, sl0 lb fs.length), (16, ptr tc), (21, sl0 fb (usedV fs).length), (109, .slice ua (usedV fs).length uc), (110, i64 (usedV fs).length), (111, i64 (j : Int))]) (fun (j : Nat) H' => j ≤ (usedV fs).length ∧ H'[lb]? = some (.cells (iv (outV (usedV fs) (fun i => (((takenV fs (most.toNat - 1)).getD ((flV fs (most.toNat - 1)).getD i 0) 0 : Nat) : Int)) j fs.length)).toArray 3 (0, 0)) ∧ Kp [lb] H14 H') (fun (j : Nat) => (usedV fs).length - j) 0 ⟨rfl, rfl, rfl, rfl, rfl, rfl, rfl, rfl, trivial⟩ ⟨Nat.zero_le _, hl14, Kp.refl _ _⟩ ?_
            intro j H15 hJ
            obtain ⟨hj, hl, hkL⟩ := hJ
            refine E.seq ?_
            refine E.region ?_
            refine X.lss rfl rfl rfl rfl rfl rfl ?_
            refine X.done [(4, _), (5, _), (8, _), (16, _), (21, _), (109, _), (110, _), (111, _), (112, _)] ⟨rfl, rfl, rfl, rfl, rfl, rfl, rfl, rfl, rfl, trivial⟩ ?_
            refine N.then ?_
            refine E.seq ?_
            refine E.condD rfl (fun hc => ?_) (fun hc => ?_)
            · refine E.skip ?_
              refine N.then ?_
              refine E.seq ?_
              refine E.block ?_
              refine E.seq ?_
              obtain ⟨s, hs⟩ : ∃ s, (usedV fs)[j]? = some s := ⟨_, List.getElem?_eq_getElem (by omega)⟩
              have hsl := used_bound (List.mem_of_getElem? hs)
              have hU15 := hU14.keep hkL (fun b hb => by simp; exact (hulb b hb).1)
              obtain ⟨ub, uo, uc2, ucs, uct, ufz, hve, hub, huc⟩ := rd_nv hU15.rd hs
              obtain ⟨x, hx⟩ : ∃ x, (flV fs (most.toNat - 1))[j]? = some x := ⟨_, List.getElem?_eq_getElem (by rw [flV, ms_len, List.length_range]; omega)⟩
              have hxn : x < (usedV fs).length := by have := List.mem_of_getElem? hx; rw [flV, ms_mem, List.mem_range] at this; exact this
              obtain ⟨t, ht⟩ : ∃ t, (takenV fs (most.toNat - 1))[x]? = some t := ⟨_, List.getElem?_eq_getElem (by rw [takenV, count_len]; exact hxn)⟩
              have htc15 := hkL.keep htc14 (by simp; exact hne.1)
              have htb15 := hkL.keep htb14 (by simp; exact hne.2.1)
              have hfb15 := hkL.keep hfb (by simp; exact hne.2.2)
              refine E.region ?_
              refine X.mv rfl rfl rfl rfl rfl ?_
              refine X.ixAe rfl rfl rfl rfl rfl rfl Try.underlying22 Try.sz3 ((Value.slice.inj hve).1) (by omega) ?_
              refine X.ld rfl rfl rfl rfl Try.ag3 (hub) (huc) ?_
              refine X.asg rfl rfl rfl rfl rfl ?_
              refine X.asg rfl rfl rfl rfl rfl ?_
              refine X.done [(4, _), (5, _), (8, _), (16, _), (21, _), (109, _), (110, _), (111, _), (112, _), (113, _), (114, _), (115, _), (22, _), (23, _)] ⟨rfl, rfl, rfl, rfl, rfl, rfl, rfl, rfl, rfl, rfl, rfl, rfl, rfl, rfl, trivial⟩ ?_
              refine N.then ?_
              refine E.regionD (fun H' => H' = H15) [(0, .pu), (1, .pu), (2, .st), (3, .pu), (4, .pu), (5, .pu), (6, .st), (7, .pu), (8, .st), (9, .pu), (10, .mv)] Try.mixed (by kernel_rfl) (rfl) ?_
              refine X.mv rfl rfl rfl rfl rfl ?_
              refine X.mv rfl rfl rfl rfl rfl ?_
              refine X.ld rfl rfl rfl rfl Try.ag22 (fun H' hF => by subst hF; exact htc15) (rfl) ?_
              refine X.mv rfl rfl rfl rfl rfl ?_
              refine X.mv rfl rfl rfl rfl rfl ?_
              refine X.ixA rfl rfl rfl rfl rfl rfl Try.underlying22 Try.sz3 (by omega) ?_
              refine X.ld rfl rfl rfl rfl Try.ag3 (fun H' hF => by subst hF; exact hfb15) (nv_at hx) ?_
              refine X.ixA rfl rfl rfl rfl rfl rfl Try.underlying22 Try.sz3 (by omega) ?_
              refine X.ld rfl rfl rfl rfl Try.ag3 (fun H' hF => by subst hF; exact htb15) (nv_at ht) ?_
              refine X.ixA rfl rfl rfl rfl rfl rfl Try.underlying22 Try.sz3 (by omega) ?_
              refine X.st rfl rfl rfl rfl rfl rfl rfl Try.sz3 hl (by rw [List.length_map, out_len]; simpa using hsl) ?_
              intro H16 hln hk16
              rw [iv_set] at hln
              have hkL2 := hkL.trans hk16 (by simp)
              refine X.done [(4, _), (5, _), (8, _), (16, _), (21, _), (109, _), (110, _), (111, _), (112, _), (113, _), (114, _), (115, _), (22, _), (23, _), (116, _), (117, _), (118, _), (119, _), (120, _), (121, _), (122, _), (123, _), (124, _), (125, _)] ⟨rfl, rfl, rfl, rfl, rfl, rfl, rfl, rfl, rfl, rfl, rfl, rfl, rfl, rfl, rfl, rfl, rfl, rfl, rfl, rfl, rfl, rfl, rfl, rfl, trivial⟩ ?_
              refine N.blk ?_
              refine N.then ?_
              refine E.region ?_
              refine X.addE (zz := ((j + 1 : Nat) : Int)) rfl rfl rfl rfl rfl rfl (by rw [IntWalk.i64_in _ (by omega)] <;> omega) ?_
              refine X.mv rfl rfl rfl rfl rfl ?_
              refine X.done [(4, _), (5, _), (8, _), (16, _), (21, _), (109, _), (110, _), (111, _), (112, _), (113, _), (114, _), (115, _), (22, _), (23, _), (116, _), (117, _), (118, _), (119, _), (120, _), (121, _), (122, _), (123, _), (124, _), (125, _), (126, _)] ⟨rfl, rfl, rfl, rfl, rfl, rfl, rfl, rfl, rfl, rfl, rfl, rfl, rfl, rfl, rfl, rfl, rfl, rfl, rfl, rfl, rfl, rfl, rfl, rfl, rfl, trivial⟩ ?_
              exact N.next (G := fun (j : Nat) => _) (j + 1) ⟨rfl, rfl, rfl, rfl, rfl, rfl, rfl, rfl, trivial⟩ ⟨by omega, by rw [hln, out_succ, getD_of hs, getD_of hx, getD_of ht], hkL2⟩ (by omega)
            · refine E.exit ?_
              refine N.thenX ?_
              refine N.loopX ?_
              refine N.blkX ?_
              refine N.then ?_
              refine E.seq ?_
              refine E.region ?_
              refine X.mv rfl rfl rfl rfl rfl ?_
              refine X.asg rfl rfl rfl rfl rfl ?_
              refine X.asg rfl rfl rfl rfl rfl ?_
              refine X.done [(4, _), (5, _)] ⟨rfl, rfl, trivial⟩ ?_
              refine N.then ?_
              refine E.ret ?_
              have hjn : j = (usedV fs).length := by omega
              exact N.retH [_, _] ⟨_, _, rfl, rfl, _, _, rfl, rfl, rfl⟩ ⟨hkH14.trans hkL (by simp; exact hnl1), .inr ⟨by simpa using hc0, lb, rfl, by rw [lensV, if_neg (by omega), hl, hjn], hnl1⟩⟩

end Go.Proofs.Ytjlelcfabfmiaaa