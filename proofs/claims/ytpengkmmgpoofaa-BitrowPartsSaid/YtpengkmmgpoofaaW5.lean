/- The laws of parts and of what is read. -/
import Derived.Test.YtpengkmmgpoofaaW4
namespace Go.Proofs.Ytpengkmmgpoofaa
open Go.SX Go.Bit
attribute [local irreducible] X E N Ct
set_option linter.unusedVariables false

structure OpR where
  k : Int
  n : Int
abbrev opr (x : OpR) : List Value := [i64 x.k, i64 x.n]
theorem opr_len (x : OpR) : (opr x).length = 2 := rfl
/-- What holds between two steps. -/
structure SR (H0 H : Heap) (s : Bs) (p r at_ : Nat) : Prop where
  rd : Rdr H p s at_
  rf : Rrf H r s at_
  le : at_ ≤ 8 * s.length
  ne : p ≠ r
  kp : Kp [] H0 H
  np : H0.size ≤ p
  nr : H0.size ≤ r
theorem SR.step {H0 A B C : Heap} {s : Bs} {p r at_ at2 : Nat} (h : SR H0 A s p r at_) (h1 : Rdr B p s at2) (k1 : Kp [p] A B) (h2 : Rrf C r s at2) (k2 : Kp [r] B C) (hle : at2 ≤ 8 * s.length) : SR H0 C s p r at2 :=
  ⟨k2.keep h1 (by simp; exact h.ne), h2, hle, h.ne, (h.kp.trans k1 (by simp; exact h.np)).trans k2 (by simp; exact h.nr), h.np, h.nr⟩
theorem SR.rfB {H0 A B : Heap} {s : Bs} {p r at_ : Nat} (h : SR H0 A s p r at_) (k1 : Kp [p] A B) : Rrf B r s at_ := k1.keep h.rf (by simp; exact Ne.symm h.ne)

theorem reads_long (s : Bs) (at0 : Int) (a : Option Addr) (c : Nat) (xs : List OpR) (H : Heap) (hS : Rd H 2 (.slice a xs.length c) xs.length (xs.flatMap opr)) (hcx : xs.length ≤ c ∧ c ≤ maxLen) (hl : 10000 < s.length) : Ct Try.prog 7 #[str s, i64 at0, .slice a xs.length c] H fun v H' => v = .bool true ∧ Kp [] H H' := by
  refine Ct.into 164 Try.func7 rfl [(0, str s), (1, i64 at0), (2, .slice a xs.length c)] rfl ⟨rfl, rfl, rfl, trivial⟩ ?_
  refine E.seq ?_
  refine E.region ?_
  refine X.asg rfl rfl rfl rfl rfl ?_
  refine X.done [(0, _), (1, _), (2, _), (6, _)] ⟨rfl, rfl, rfl, rfl, trivial⟩ ?_
  refine N.then ?_
  refine E.seq ?_
  refine E.seq ?_
  refine E.region ?_
  refine X.mv rfl rfl rfl rfl rfl ?_
  refine X.lenL rfl rfl rfl rfl rfl Try.underlying9 ?_
  refine X.gtrT rfl rfl rfl rfl rfl rfl (by omega) ?_
  refine X.done [(0, _), (1, _), (2, _), (6, _), (24, _)] ⟨rfl, rfl, rfl, rfl, rfl, trivial⟩ ?_
  refine N.then ?_
  refine E.condT rfl ?_
  refine E.seq ?_
  refine E.region ?_
  refine X.call rfl rfl rfl rfl rfl Try.cl11 (known_ct H) ?_
  rintro _ HK ⟨rfl, hkK⟩
  refine X.asg rfl rfl rfl rfl rfl ?_
  refine X.done [(0, _), (1, _), (2, _), (6, _)] ⟨rfl, rfl, rfl, rfl, trivial⟩ ?_
  refine N.then ?_
  refine E.ret ?_
  refine N.thenR ?_
  exact N.retH [_] ⟨_, _, rfl, rfl, rfl⟩ ⟨rfl, hkK⟩

theorem reads_bad0 (s : Bs) (at0 : Int) (a : Option Addr) (c : Nat) (xs : List OpR) (H : Heap) (hS : Rd H 2 (.slice a xs.length c) xs.length (xs.flatMap opr)) (hcx : xs.length ≤ c ∧ c ≤ maxLen) (hl : s.length ≤ 10000) (hb : at0 < 0) : Ct Try.prog 7 #[str s, i64 at0, .slice a xs.length c] H fun v H' => v = .bool true ∧ Kp [] H H' := by
  have hcm := hcx.2
  simp only [maxLen] at hcm
  refine Ct.into 164 Try.func7 rfl [(0, str s), (1, i64 at0), (2, .slice a xs.length c)] rfl ⟨rfl, rfl, rfl, trivial⟩ ?_
  refine E.seq ?_
  refine E.region ?_
  refine X.asg rfl rfl rfl rfl rfl ?_
  refine X.done [(0, _), (1, _), (2, _), (6, _)] ⟨rfl, rfl, rfl, rfl, trivial⟩ ?_
  refine N.then ?_
  refine E.seq ?_
  refine E.seq ?_
  refine E.region ?_
  refine X.mv rfl rfl rfl rfl rfl ?_
  refine X.lenL rfl rfl rfl rfl rfl Try.underlying9 ?_
  refine X.gtrF rfl rfl rfl rfl rfl rfl (by omega) ?_
  refine X.done [(0, _), (1, _), (2, _), (6, _), (24, _)] ⟨rfl, rfl, rfl, rfl, rfl, trivial⟩ ?_
  refine N.then ?_
  refine E.condF rfl ?_
  refine E.skip ?_
  refine N.then ?_
  refine E.seq ?_
  refine E.region ?_
  refine X.mv rfl rfl rfl rfl rfl ?_
  refine X.mv rfl rfl rfl rfl rfl ?_
  refine X.call rfl rfl rfl rfl rfl Try.cl15 (new_bad0_ct s at0 H (by omega) hb) ?_
  rintro _ H1 ⟨rfl, eH1⟩
  obtain rfl := eH1.symm
  refine X.mv rfl rfl rfl rfl rfl ?_
  refine X.extract rfl rfl rfl rfl rfl rfl ?_
  refine X.extract rfl rfl rfl rfl rfl rfl ?_
  refine X.asg rfl rfl rfl rfl rfl ?_
  refine X.asg rfl rfl rfl rfl rfl ?_
  refine X.done [(0, _), (1, _), (2, _), (6, _), (7, _), (8, _)] ⟨rfl, rfl, rfl, rfl, rfl, rfl, trivial⟩ ?_
  refine N.then ?_
  refine E.seq ?_
  refine E.region ?_
  refine X.mv rfl rfl rfl rfl rfl ?_
  refine X.mv rfl rfl rfl rfl rfl ?_
  refine X.call rfl rfl rfl rfl rfl Try.cl30 (rnew_bad0_ct s at0 H (by omega) hb) ?_
  rintro _ H2 ⟨q, rfl, hk2⟩
  refine X.mv rfl rfl rfl rfl rfl ?_
  refine X.extract rfl rfl rfl rfl rfl rfl ?_
  refine X.extract rfl rfl rfl rfl rfl rfl ?_
  refine X.asg rfl rfl rfl rfl rfl ?_
  refine X.asg rfl rfl rfl rfl rfl ?_
  refine X.done [(2, _), (6, _), (7, _), (8, _), (9, _), (10, _)] ⟨rfl, rfl, rfl, rfl, rfl, rfl, trivial⟩ ?_
  refine N.then ?_
  refine E.seq ?_
  refine E.seq ?_
  refine E.region ?_
  refine X.mv rfl rfl rfl rfl rfl ?_
  refine X.mv rfl rfl rfl rfl rfl ?_
  refine X.neqF rfl rfl rfl rfl rfl rfl (fun h => h rfl) ?_
  refine X.mv rfl rfl rfl rfl rfl ?_
  refine X.mv rfl rfl rfl rfl rfl ?_
  refine X.neqP0 rfl rfl rfl rfl rfl rfl Try.underlying33 ?_
  refine X.mv rfl rfl rfl rfl rfl ?_
  refine X.eqlF rfl rfl rfl rfl rfl rfl (by decide) ?_
  refine X.neqBF rfl rfl rfl rfl rfl rfl Try.underlying4 (rfl) ?_
  refine X.pickF rfl rfl rfl rfl rfl rfl ?_
  refine X.done [(2, _), (6, _), (7, _), (9, _), (47, _)] ⟨rfl, rfl, rfl, rfl, rfl, trivial⟩ ?_
  refine N.then ?_
  refine E.condF rfl ?_
  refine E.skip ?_
  refine N.then ?_
  refine E.seq ?_
  refine E.seq ?_
  refine E.region ?_
  refine X.asg rfl rfl rfl rfl rfl ?_
  refine X.done [(2, _), (6, _), (7, _), (9, _), (11, _)] ⟨rfl, rfl, rfl, rfl, rfl, trivial⟩ ?_
  refine N.then ?_
  refine E.block ?_
  -- MISSING in G: [6, 9]
  refine E.loop (fun (i : Nat) => [(2, .slice a xs.length c), (7, .pointer none), (11, i64 0)]) (fun (i : Nat) H' => H' = H2) (fun (i : Nat) => 0) 0 ⟨rfl, rfl, rfl, trivial⟩ rfl ?_
  rintro i H9 eH9
  obtain rfl := eH9.symm
  refine E.seq ?_
  refine E.seq ?_
  refine E.region ?_
  refine X.mv rfl rfl rfl rfl rfl ?_
  refine X.mv rfl rfl rfl rfl rfl ?_
  refine X.lenS rfl rfl rfl rfl rfl Try.underlying49 ?_
  refine X.lssC rfl rfl rfl rfl rfl rfl (fun hc => ?_) (fun hc => ?_)
  · refine X.mv rfl rfl rfl rfl rfl ?_
    refine X.mv rfl rfl rfl rfl rfl ?_
    refine X.lssC rfl rfl rfl rfl rfl rfl (fun hc => ?_) (fun hc => ?_)
    · refine X.pickT rfl rfl rfl rfl rfl rfl ?_
      refine X.mv rfl rfl rfl rfl rfl ?_
      refine X.mv rfl rfl rfl rfl rfl ?_
      refine X.neqP0 rfl rfl rfl rfl rfl rfl Try.underlying33 ?_
      refine X.pickT rfl rfl rfl rfl rfl rfl ?_
      refine X.done [(2, _), (7, _), (11, _), (48, _), (49, _), (50, _), (51, _), (52, _), (53, _), (54, _), (55, _), (56, _), (57, _), (58, _), (59, _)] ⟨rfl, rfl, rfl, rfl, rfl, rfl, rfl, rfl, rfl, rfl, rfl, rfl, rfl, rfl, rfl, trivial⟩ ?_
      refine N.then ?_
      refine E.condF rfl ?_
      refine E.exit ?_
      refine N.thenX ?_
      refine N.loopX ?_
      refine N.blkX ?_
      refine N.then ?_
      refine E.seq ?_
      refine E.region ?_
      refine X.call rfl rfl rfl rfl rfl Try.cl11 (known_ct H2) ?_
      rintro _ HK ⟨rfl, hkK⟩
      refine X.asg rfl rfl rfl rfl rfl ?_
      refine X.done [(6, _)] ⟨rfl, trivial⟩ ?_
      refine N.then ?_
      refine E.ret ?_
      exact N.retH [_] ⟨_, _, rfl, rfl, rfl⟩ ⟨rfl, hk2.trans hkK (by simp)⟩
    · refine X.pickT rfl rfl rfl rfl rfl rfl ?_
      refine X.mv rfl rfl rfl rfl rfl ?_
      refine X.skip rfl rfl rfl ?_
      refine X.skip rfl rfl rfl ?_
      refine X.pickF rfl rfl rfl rfl rfl rfl ?_
      refine X.done [(2, _), (7, _), (11, _), (48, _), (49, _), (50, _), (51, _), (52, _), (53, _), (54, _), (55, _), (56, _), (57, _), (58, _), (59, _)] ⟨rfl, rfl, rfl, rfl, rfl, rfl, rfl, rfl, rfl, rfl, rfl, rfl, rfl, rfl, rfl, trivial⟩ ?_
      refine N.then ?_
      refine E.condF rfl ?_
      refine E.exit ?_
      refine N.thenX ?_
      refine N.loopX ?_
      refine N.blkX ?_
      refine N.then ?_
      refine E.seq ?_
      refine E.region ?_
      refine X.call rfl rfl rfl rfl rfl Try.cl11 (known_ct H2) ?_
      rintro _ HK ⟨rfl, hkK⟩
      refine X.asg rfl rfl rfl rfl rfl ?_
      refine X.done [(6, _)] ⟨rfl, trivial⟩ ?_
      refine N.then ?_
      refine E.ret ?_
      exact N.retH [_] ⟨_, _, rfl, rfl, rfl⟩ ⟨rfl, hk2.trans hkK (by simp)⟩
  · refine X.mv rfl rfl rfl rfl rfl ?_
    refine X.skip rfl rfl rfl ?_
    refine X.skip rfl rfl rfl ?_
    refine X.pickF rfl rfl rfl rfl rfl rfl ?_
    refine X.mv rfl rfl rfl rfl rfl ?_
    refine X.skip rfl rfl rfl ?_
    refine X.skip rfl rfl rfl ?_
    refine X.pickF rfl rfl rfl rfl rfl rfl ?_
    refine X.done [(2, _), (7, _), (11, _), (48, _), (49, _), (50, _), (51, _), (52, _), (53, _), (54, _), (55, _), (56, _), (57, _), (58, _), (59, _)] ⟨rfl, rfl, rfl, rfl, rfl, rfl, rfl, rfl, rfl, rfl, rfl, rfl, rfl, rfl, rfl, trivial⟩ ?_
    refine N.then ?_
    refine E.condF rfl ?_
    refine E.exit ?_
    refine N.thenX ?_
    refine N.loopX ?_
    refine N.blkX ?_
    refine N.then ?_
    refine E.seq ?_
    refine E.region ?_
    refine X.call rfl rfl rfl rfl rfl Try.cl11 (known_ct H2) ?_
    rintro _ HK ⟨rfl, hkK⟩
    refine X.asg rfl rfl rfl rfl rfl ?_
    refine X.done [(6, _)] ⟨rfl, trivial⟩ ?_
    refine N.then ?_
    refine E.ret ?_
    exact N.retH [_] ⟨_, _, rfl, rfl, rfl⟩ ⟨rfl, hk2.trans hkK (by simp)⟩

theorem reads_bad1 (s : Bs) (at0 : Int) (a : Option Addr) (c : Nat) (xs : List OpR) (H : Heap) (hS : Rd H 2 (.slice a xs.length c) xs.length (xs.flatMap opr)) (hcx : xs.length ≤ c ∧ c ≤ maxLen) (hl : s.length ≤ 10000) (hb : 8 * (s.length : Int) < at0) : Ct Try.prog 7 #[str s, i64 at0, .slice a xs.length c] H fun v H' => v = .bool true ∧ Kp [] H H' := by
  have hcm := hcx.2
  simp only [maxLen] at hcm
  refine Ct.into 164 Try.func7 rfl [(0, str s), (1, i64 at0), (2, .slice a xs.length c)] rfl ⟨rfl, rfl, rfl, trivial⟩ ?_
  refine E.seq ?_
  refine E.region ?_
  refine X.asg rfl rfl rfl rfl rfl ?_
  refine X.done [(0, _), (1, _), (2, _), (6, _)] ⟨rfl, rfl, rfl, rfl, trivial⟩ ?_
  refine N.then ?_
  refine E.seq ?_
  refine E.seq ?_
  refine E.region ?_
  refine X.mv rfl rfl rfl rfl rfl ?_
  refine X.lenL rfl rfl rfl rfl rfl Try.underlying9 ?_
  refine X.gtrF rfl rfl rfl rfl rfl rfl (by omega) ?_
  refine X.done [(0, _), (1, _), (2, _), (6, _), (24, _)] ⟨rfl, rfl, rfl, rfl, rfl, trivial⟩ ?_
  refine N.then ?_
  refine E.condF rfl ?_
  refine E.skip ?_
  refine N.then ?_
  refine E.seq ?_
  refine E.region ?_
  refine X.mv rfl rfl rfl rfl rfl ?_
  refine X.mv rfl rfl rfl rfl rfl ?_
  refine X.call rfl rfl rfl rfl rfl Try.cl15 (new_bad1_ct s at0 H (by omega) hb) ?_
  rintro _ H1 ⟨rfl, eH1⟩
  obtain rfl := eH1.symm
  refine X.mv rfl rfl rfl rfl rfl ?_
  refine X.extract rfl rfl rfl rfl rfl rfl ?_
  refine X.extract rfl rfl rfl rfl rfl rfl ?_
  refine X.asg rfl rfl rfl rfl rfl ?_
  refine X.asg rfl rfl rfl rfl rfl ?_
  refine X.done [(0, _), (1, _), (2, _), (6, _), (7, _), (8, _)] ⟨rfl, rfl, rfl, rfl, rfl, rfl, trivial⟩ ?_
  refine N.then ?_
  refine E.seq ?_
  refine E.region ?_
  refine X.mv rfl rfl rfl rfl rfl ?_
  refine X.mv rfl rfl rfl rfl rfl ?_
  refine X.call rfl rfl rfl rfl rfl Try.cl30 (rnew_bad1_ct s at0 H (by omega) hb) ?_
  rintro _ H2 ⟨q, rfl, hk2⟩
  refine X.mv rfl rfl rfl rfl rfl ?_
  refine X.extract rfl rfl rfl rfl rfl rfl ?_
  refine X.extract rfl rfl rfl rfl rfl rfl ?_
  refine X.asg rfl rfl rfl rfl rfl ?_
  refine X.asg rfl rfl rfl rfl rfl ?_
  refine X.done [(2, _), (6, _), (7, _), (8, _), (9, _), (10, _)] ⟨rfl, rfl, rfl, rfl, rfl, rfl, trivial⟩ ?_
  refine N.then ?_
  refine E.seq ?_
  refine E.seq ?_
  refine E.region ?_
  refine X.mv rfl rfl rfl rfl rfl ?_
  refine X.mv rfl rfl rfl rfl rfl ?_
  refine X.neqF rfl rfl rfl rfl rfl rfl (fun h => h rfl) ?_
  refine X.mv rfl rfl rfl rfl rfl ?_
  refine X.mv rfl rfl rfl rfl rfl ?_
  refine X.neqP0 rfl rfl rfl rfl rfl rfl Try.underlying33 ?_
  refine X.mv rfl rfl rfl rfl rfl ?_
  refine X.eqlF rfl rfl rfl rfl rfl rfl (by decide) ?_
  refine X.neqBF rfl rfl rfl rfl rfl rfl Try.underlying4 (rfl) ?_
  refine X.pickF rfl rfl rfl rfl rfl rfl ?_
  refine X.done [(2, _), (6, _), (7, _), (9, _), (47, _)] ⟨rfl, rfl, rfl, rfl, rfl, trivial⟩ ?_
  refine N.then ?_
  refine E.condF rfl ?_
  refine E.skip ?_
  refine N.then ?_
  refine E.seq ?_
  refine E.seq ?_
  refine E.region ?_
  refine X.asg rfl rfl rfl rfl rfl ?_
  refine X.done [(2, _), (6, _), (7, _), (9, _), (11, _)] ⟨rfl, rfl, rfl, rfl, rfl, trivial⟩ ?_
  refine N.then ?_
  refine E.block ?_
  -- MISSING in G: [6, 9]
  refine E.loop (fun (i : Nat) => [(2, .slice a xs.length c), (7, .pointer none), (11, i64 0)]) (fun (i : Nat) H' => H' = H2) (fun (i : Nat) => 0) 0 ⟨rfl, rfl, rfl, trivial⟩ rfl ?_
  rintro i H9 eH9
  obtain rfl := eH9.symm
  refine E.seq ?_
  refine E.seq ?_
  refine E.region ?_
  refine X.mv rfl rfl rfl rfl rfl ?_
  refine X.mv rfl rfl rfl rfl rfl ?_
  refine X.lenS rfl rfl rfl rfl rfl Try.underlying49 ?_
  refine X.lssC rfl rfl rfl rfl rfl rfl (fun hc => ?_) (fun hc => ?_)
  · refine X.mv rfl rfl rfl rfl rfl ?_
    refine X.mv rfl rfl rfl rfl rfl ?_
    refine X.lssC rfl rfl rfl rfl rfl rfl (fun hc => ?_) (fun hc => ?_)
    · refine X.pickT rfl rfl rfl rfl rfl rfl ?_
      refine X.mv rfl rfl rfl rfl rfl ?_
      refine X.mv rfl rfl rfl rfl rfl ?_
      refine X.neqP0 rfl rfl rfl rfl rfl rfl Try.underlying33 ?_
      refine X.pickT rfl rfl rfl rfl rfl rfl ?_
      refine X.done [(2, _), (7, _), (11, _), (48, _), (49, _), (50, _), (51, _), (52, _), (53, _), (54, _), (55, _), (56, _), (57, _), (58, _), (59, _)] ⟨rfl, rfl, rfl, rfl, rfl, rfl, rfl, rfl, rfl, rfl, rfl, rfl, rfl, rfl, rfl, trivial⟩ ?_
      refine N.then ?_
      refine E.condF rfl ?_
      refine E.exit ?_
      refine N.thenX ?_
      refine N.loopX ?_
      refine N.blkX ?_
      refine N.then ?_
      refine E.seq ?_
      refine E.region ?_
      refine X.call rfl rfl rfl rfl rfl Try.cl11 (known_ct H2) ?_
      rintro _ HK ⟨rfl, hkK⟩
      refine X.asg rfl rfl rfl rfl rfl ?_
      refine X.done [(6, _)] ⟨rfl, trivial⟩ ?_
      refine N.then ?_
      refine E.ret ?_
      exact N.retH [_] ⟨_, _, rfl, rfl, rfl⟩ ⟨rfl, hk2.trans hkK (by simp)⟩
    · refine X.pickT rfl rfl rfl rfl rfl rfl ?_
      refine X.mv rfl rfl rfl rfl rfl ?_
      refine X.skip rfl rfl rfl ?_
      refine X.skip rfl rfl rfl ?_
      refine X.pickF rfl rfl rfl rfl rfl rfl ?_
      refine X.done [(2, _), (7, _), (11, _), (48, _), (49, _), (50, _), (51, _), (52, _), (53, _), (54, _), (55, _), (56, _), (57, _), (58, _), (59, _)] ⟨rfl, rfl, rfl, rfl, rfl, rfl, rfl, rfl, rfl, rfl, rfl, rfl, rfl, rfl, rfl, trivial⟩ ?_
      refine N.then ?_
      refine E.condF rfl ?_
      refine E.exit ?_
      refine N.thenX ?_
      refine N.loopX ?_
      refine N.blkX ?_
      refine N.then ?_
      refine E.seq ?_
      refine E.region ?_
      refine X.call rfl rfl rfl rfl rfl Try.cl11 (known_ct H2) ?_
      rintro _ HK ⟨rfl, hkK⟩
      refine X.asg rfl rfl rfl rfl rfl ?_
      refine X.done [(6, _)] ⟨rfl, trivial⟩ ?_
      refine N.then ?_
      refine E.ret ?_
      exact N.retH [_] ⟨_, _, rfl, rfl, rfl⟩ ⟨rfl, hk2.trans hkK (by simp)⟩
  · refine X.mv rfl rfl rfl rfl rfl ?_
    refine X.skip rfl rfl rfl ?_
    refine X.skip rfl rfl rfl ?_
    refine X.pickF rfl rfl rfl rfl rfl rfl ?_
    refine X.mv rfl rfl rfl rfl rfl ?_
    refine X.skip rfl rfl rfl ?_
    refine X.skip rfl rfl rfl ?_
    refine X.pickF rfl rfl rfl rfl rfl rfl ?_
    refine X.done [(2, _), (7, _), (11, _), (48, _), (49, _), (50, _), (51, _), (52, _), (53, _), (54, _), (55, _), (56, _), (57, _), (58, _), (59, _)] ⟨rfl, rfl, rfl, rfl, rfl, rfl, rfl, rfl, rfl, rfl, rfl, rfl, rfl, rfl, rfl, trivial⟩ ?_
    refine N.then ?_
    refine E.condF rfl ?_
    refine E.exit ?_
    refine N.thenX ?_
    refine N.loopX ?_
    refine N.blkX ?_
    refine N.then ?_
    refine E.seq ?_
    refine E.region ?_
    refine X.call rfl rfl rfl rfl rfl Try.cl11 (known_ct H2) ?_
    rintro _ HK ⟨rfl, hkK⟩
    refine X.asg rfl rfl rfl rfl rfl ?_
    refine X.done [(6, _)] ⟨rfl, trivial⟩ ?_
    refine N.then ?_
    refine E.ret ?_
    exact N.retH [_] ⟨_, _, rfl, rfl, rfl⟩ ⟨rfl, hk2.trans hkK (by simp)⟩

theorem reads_ok (s : Bs) (at0 : Nat) (a : Option Addr) (c : Nat) (xs : List OpR) (H : Heap) (hS : Rd H 2 (.slice a xs.length c) xs.length (xs.flatMap opr)) (hcx : xs.length ≤ c ∧ c ≤ maxLen) (hl : s.length ≤ 10000) (hb : at0 ≤ 8 * s.length) : Ct Try.prog 7 #[str s, i64 at0, .slice a xs.length c] H fun v H' => v = .bool true ∧ Kp [] H H' := by
  have hcm := hcx.2
  simp only [maxLen] at hcm
  have hl5 : s.length ≤ 100000 := by omega
  refine Ct.into 164 Try.func7 rfl [(0, str s), (1, i64 at0), (2, .slice a xs.length c)] rfl ⟨rfl, rfl, rfl, trivial⟩ ?_
  refine E.seq ?_
  refine E.region ?_
  refine X.asg rfl rfl rfl rfl rfl ?_
  refine X.done [(0, _), (1, _), (2, _), (6, _)] ⟨rfl, rfl, rfl, rfl, trivial⟩ ?_
  refine N.then ?_
  refine E.seq ?_
  refine E.seq ?_
  refine E.region ?_
  refine X.mv rfl rfl rfl rfl rfl ?_
  refine X.lenL rfl rfl rfl rfl rfl Try.underlying9 ?_
  refine X.gtrF rfl rfl rfl rfl rfl rfl (by omega) ?_
  refine X.done [(0, _), (1, _), (2, _), (6, _), (24, _)] ⟨rfl, rfl, rfl, rfl, rfl, trivial⟩ ?_
  refine N.then ?_
  refine E.condF rfl ?_
  refine E.skip ?_
  refine N.then ?_
  refine E.seq ?_
  refine E.region ?_
  refine X.mv rfl rfl rfl rfl rfl ?_
  refine X.mv rfl rfl rfl rfl rfl ?_
  refine X.call rfl rfl rfl rfl rfl Try.cl15 (new_ct s at0 H hl5 hb) ?_
  rintro _ H1 ⟨p, rfl, hp, hR1, hk1⟩
  refine X.mv rfl rfl rfl rfl rfl ?_
  refine X.extract rfl rfl rfl rfl rfl rfl ?_
  refine X.extract rfl rfl rfl rfl rfl rfl ?_
  refine X.asg rfl rfl rfl rfl rfl ?_
  refine X.asg rfl rfl rfl rfl rfl ?_
  refine X.done [(0, _), (1, _), (2, _), (6, _), (7, _), (8, _)] ⟨rfl, rfl, rfl, rfl, rfl, rfl, trivial⟩ ?_
  refine N.then ?_
  refine E.seq ?_
  refine E.region ?_
  refine X.mv rfl rfl rfl rfl rfl ?_
  refine X.mv rfl rfl rfl rfl rfl ?_
  refine X.call rfl rfl rfl rfl rfl Try.cl30 (rnew_ct s at0 H1 hl5 hb) ?_
  rintro _ H2 ⟨r, rfl, hr, hR2, hk2⟩
  have S2 : SR H H2 s p r at0 := ⟨hk2.keep hR1 (by simp), hR2, hb, ne_of_ge hR1 hr, hk1.trans hk2 (by simp), hp, Nat.le_trans hk1.size hr⟩
  refine X.mv rfl rfl rfl rfl rfl ?_
  refine X.extract rfl rfl rfl rfl rfl rfl ?_
  refine X.extract rfl rfl rfl rfl rfl rfl ?_
  refine X.asg rfl rfl rfl rfl rfl ?_
  refine X.asg rfl rfl rfl rfl rfl ?_
  refine X.done [(2, _), (6, _), (7, _), (8, _), (9, _), (10, _)] ⟨rfl, rfl, rfl, rfl, rfl, rfl, trivial⟩ ?_
  refine N.then ?_
  refine E.seq ?_
  refine E.seq ?_
  refine E.region ?_
  refine X.mv rfl rfl rfl rfl rfl ?_
  refine X.mv rfl rfl rfl rfl rfl ?_
  refine X.neqF rfl rfl rfl rfl rfl rfl (fun h => h rfl) ?_
  refine X.mv rfl rfl rfl rfl rfl ?_
  refine X.mv rfl rfl rfl rfl rfl ?_
  refine X.neqP1 rfl rfl rfl rfl rfl rfl Try.underlying33 ?_
  refine X.mv rfl rfl rfl rfl rfl ?_
  refine X.eqlT rfl rfl rfl rfl rfl rfl (rfl) ?_
  refine X.neqBF rfl rfl rfl rfl rfl rfl Try.underlying4 (rfl) ?_
  refine X.pickF rfl rfl rfl rfl rfl rfl ?_
  refine X.done [(2, _), (6, _), (7, _), (9, _), (47, _)] ⟨rfl, rfl, rfl, rfl, rfl, trivial⟩ ?_
  refine N.then ?_
  refine E.condF rfl ?_
  refine E.skip ?_
  refine N.then ?_
  refine E.seq ?_
  refine E.seq ?_
  refine E.region ?_
  refine X.asg rfl rfl rfl rfl rfl ?_
  refine X.done [(2, _), (6, _), (7, _), (9, _), (11, _)] ⟨rfl, rfl, rfl, rfl, rfl, trivial⟩ ?_
  refine N.then ?_
  refine E.block ?_
  -- MISSING in G: [6]
  refine E.loop (fun (q : Nat × Nat) => [(2, .slice a xs.length c), (7, ptr q.2), (9, ptr r), (11, i64 q.1)]) (fun (q : Nat × Nat) H' => q.1 ≤ xs.length ∧ ∃ t, SR H H' s q.2 r t) (fun (q : Nat × Nat) => xs.length - q.1) (0, p) ⟨rfl, rfl, rfl, rfl, trivial⟩ ⟨Nat.zero_le _, _, S2⟩ ?_
  rintro ⟨i, p⟩ H3 hJ
  dsimp only at hJ ⊢
  obtain ⟨hi, t, S3⟩ := hJ
  refine E.seq ?_
  refine E.seq ?_
  refine E.region ?_
  refine X.mv rfl rfl rfl rfl rfl ?_
  refine X.mv rfl rfl rfl rfl rfl ?_
  refine X.lenS rfl rfl rfl rfl rfl Try.underlying49 ?_
  refine X.lssC rfl rfl rfl rfl rfl rfl (fun hc => ?_) (fun hc => ?_)
  · refine X.mv rfl rfl rfl rfl rfl ?_
    refine X.mv rfl rfl rfl rfl rfl ?_
    refine X.lssC rfl rfl rfl rfl rfl rfl (fun hc => ?_) (fun hc => ?_)
    · refine X.pickT rfl rfl rfl rfl rfl rfl ?_
      refine X.mv rfl rfl rfl rfl rfl ?_
      refine X.mv rfl rfl rfl rfl rfl ?_
      refine X.neqP1 rfl rfl rfl rfl rfl rfl Try.underlying33 ?_
      refine X.pickT rfl rfl rfl rfl rfl rfl ?_
      refine X.done [(2, _), (7, _), (9, _), (11, _), (48, _), (49, _), (50, _), (51, _), (52, _), (53, _), (54, _), (55, _), (56, _), (57, _), (58, _), (59, _)] ⟨rfl, rfl, rfl, rfl, rfl, rfl, rfl, rfl, rfl, rfl, rfl, rfl, rfl, rfl, rfl, rfl, trivial⟩ ?_
      refine N.then ?_
      refine E.condT rfl ?_
      refine E.skip ?_
      refine N.then ?_
      refine E.seq ?_
      refine E.block ?_
      refine E.seq ?_
      obtain ⟨x, hx⟩ : ∃ x, xs[i]? = some x := ⟨_, List.getElem?_eq_getElem (by omega)⟩
      obtain ⟨bb, oo, cc, cs, ct, fz, hv, hbb, hel⟩ := (hS.keep S3.kp (by simp)).get opr_len hx (by decide)
      obtain ⟨rfl, _, rfl⟩ := Value.slice.inj hv
      have hk0 := hel 0 _ rfl
      have hk1 := hel 1 _ rfl
      refine E.region ?_
      refine X.mv rfl rfl rfl rfl rfl ?_
      refine X.mv rfl rfl rfl rfl rfl ?_
      refine X.ixA rfl rfl rfl rfl rfl rfl Try.underlying49 Try.sz54 (by omega) ?_
      refine X.fld rfl rfl rfl rfl rfl Try.off54_1 ?_
      refine X.ld rfl rfl rfl rfl Try.ag3 (hbb) (hk1) ?_
      refine X.asg rfl rfl rfl rfl rfl ?_
      refine X.done [(2, _), (7, _), (9, _), (11, _), (48, _), (49, _), (50, _), (51, _), (52, _), (53, _), (54, _), (55, _), (56, _), (57, _), (58, _), (59, _), (62, _), (63, _), (64, _), (65, _), (66, _), (12, _)] ⟨rfl, rfl, rfl, rfl, rfl, rfl, rfl, rfl, rfl, rfl, rfl, rfl, rfl, rfl, rfl, rfl, rfl, rfl, rfl, rfl, rfl, rfl, trivial⟩ ?_
      refine N.then ?_
      refine E.seq ?_
      refine E.seq ?_
      refine E.region ?_
      refine X.mv rfl rfl rfl rfl rfl ?_
      refine X.mv rfl rfl rfl rfl rfl ?_
      refine X.ixA rfl rfl rfl rfl rfl rfl Try.underlying49 Try.sz54 (by omega) ?_
      refine X.fld rfl rfl rfl rfl rfl Try.off54_0 ?_
      refine X.ld rfl rfl rfl rfl Try.ag3 (hbb) (hk0) ?_
      refine X.done [(2, _), (7, _), (9, _), (11, _), (48, _), (49, _), (50, _), (51, _), (52, _), (53, _), (54, _), (55, _), (56, _), (57, _), (58, _), (59, _), (62, _), (63, _), (64, _), (65, _), (66, _), (12, _), (67, _), (68, _), (69, _), (70, _), (71, _)] ⟨rfl, rfl, rfl, rfl, rfl, rfl, rfl, rfl, rfl, rfl, rfl, rfl, rfl, rfl, rfl, rfl, rfl, rfl, rfl, rfl, rfl, rfl, rfl, rfl, rfl, rfl, rfl, trivial⟩ ?_
      refine N.then ?_
      refine E.block ?_
      refine E.seq ?_
      refine E.region ?_
      refine X.eql rfl rfl rfl rfl rfl rfl ?_
      refine X.asg rfl rfl rfl rfl rfl ?_
      refine X.done [(2, _), (7, _), (9, _), (11, _), (48, _), (49, _), (50, _), (51, _), (52, _), (53, _), (54, _), (55, _), (56, _), (57, _), (58, _), (59, _), (62, _), (63, _), (64, _), (65, _), (66, _), (12, _), (67, _), (68, _), (69, _), (70, _), (71, _), (78, _), (77, _)] ⟨rfl, rfl, rfl, rfl, rfl, rfl, rfl, rfl, rfl, rfl, rfl, rfl, rfl, rfl, rfl, rfl, rfl, rfl, rfl, rfl, rfl, rfl, rfl, rfl, rfl, rfl, rfl, rfl, rfl, trivial⟩ ?_
      refine N.then ?_
      refine E.condD rfl (fun hc => ?_) (fun hc => ?_)
      · refine E.seq ?_
        refine E.region ?_
        refine X.mv rfl rfl rfl rfl rfl ?_
        refine X.mv rfl rfl rfl rfl rfl ?_
        refine X.call rfl rfl rfl rfl rfl Try.cl18 (bits_all p s t H3 S3.rd ⟨hl5, S3.le⟩ x.n) ?_
        rintro _ H4 ⟨rfl, hR4, hk4⟩
        refine X.mv rfl rfl rfl rfl rfl ?_
        refine X.extract rfl rfl rfl rfl rfl rfl ?_
        refine X.extract rfl rfl rfl rfl rfl rfl ?_
        refine X.asg rfl rfl rfl rfl rfl ?_
        refine X.asg rfl rfl rfl rfl rfl ?_
        refine X.done [(2, _), (7, _), (9, _), (11, _), (48, _), (49, _), (50, _), (51, _), (52, _), (53, _), (54, _), (55, _), (56, _), (57, _), (58, _), (59, _), (62, _), (63, _), (64, _), (65, _), (66, _), (12, _), (67, _), (68, _), (69, _), (70, _), (71, _), (78, _), (77, _), (80, _), (81, _), (82, _), (79, _), (83, _), (84, _), (13, _), (14, _)] ⟨rfl, rfl, rfl, rfl, rfl, rfl, rfl, rfl, rfl, rfl, rfl, rfl, rfl, rfl, rfl, rfl, rfl, rfl, rfl, rfl, rfl, rfl, rfl, rfl, rfl, rfl, rfl, rfl, rfl, rfl, rfl, rfl, rfl, rfl, rfl, rfl, rfl, trivial⟩ ?_
        refine N.then ?_
        refine E.seq ?_
        refine E.region ?_
        refine X.mv rfl rfl rfl rfl rfl ?_
        refine X.mv rfl rfl rfl rfl rfl ?_
        refine X.call rfl rfl rfl rfl rfl Try.cl31 (rbits_all r s t H4 (S3.rfB hk4) ⟨hl5, S3.le⟩ x.n) ?_
        rintro _ H5 ⟨rfl, hR5, hk5⟩
        have SF := S3.step hR4 hk4 hR5 hk5 (bitsV_le s t x.n S3.le)
        refine X.mv rfl rfl rfl rfl rfl ?_
        refine X.extract rfl rfl rfl rfl rfl rfl ?_
        refine X.extract rfl rfl rfl rfl rfl rfl ?_
        refine X.asg rfl rfl rfl rfl rfl ?_
        refine X.asg rfl rfl rfl rfl rfl ?_
        refine X.done [(2, _), (7, _), (9, _), (11, _), (48, _), (49, _), (50, _), (51, _), (52, _), (53, _), (54, _), (55, _), (56, _), (57, _), (58, _), (59, _), (62, _), (63, _), (64, _), (65, _), (66, _), (12, _), (67, _), (68, _), (69, _), (70, _), (71, _), (78, _), (77, _), (80, _), (81, _), (82, _), (79, _), (83, _), (84, _), (13, _), (14, _), (86, _), (87, _), (88, _), (85, _), (89, _), (90, _), (15, _), (16, _)] ⟨rfl, rfl, rfl, rfl, rfl, rfl, rfl, rfl, rfl, rfl, rfl, rfl, rfl, rfl, rfl, rfl, rfl, rfl, rfl, rfl, rfl, rfl, rfl, rfl, rfl, rfl, rfl, rfl, rfl, rfl, rfl, rfl, rfl, rfl, rfl, rfl, rfl, rfl, rfl, rfl, rfl, rfl, rfl, rfl, rfl, trivial⟩ ?_
        refine N.then ?_
        refine E.seq ?_
        refine E.region ?_
        refine X.mv rfl rfl rfl rfl rfl ?_
        refine X.mv rfl rfl rfl rfl rfl ?_
        refine X.neqF rfl rfl rfl rfl rfl rfl (fun h => h rfl) ?_
        refine X.mv rfl rfl rfl rfl rfl ?_
        refine X.mv rfl rfl rfl rfl rfl ?_
        refine X.mv rfl rfl rfl rfl rfl ?_
        refine X.neqF rfl rfl rfl rfl rfl rfl (fun h => h rfl) ?_
        refine X.pickF rfl rfl rfl rfl rfl rfl ?_
        refine X.done [(2, _), (7, _), (9, _), (11, _), (48, _), (49, _), (50, _), (51, _), (52, _), (53, _), (54, _), (55, _), (56, _), (57, _), (58, _), (59, _), (62, _), (63, _), (64, _), (65, _), (66, _), (12, _), (67, _), (68, _), (69, _), (70, _), (71, _), (78, _), (77, _), (80, _), (81, _), (82, _), (79, _), (83, _), (84, _), (13, _), (14, _), (86, _), (87, _), (88, _), (85, _), (89, _), (90, _), (15, _), (16, _), (91, _), (92, _), (93, _), (94, _), (95, _), (96, _), (97, _), (98, _)] ⟨rfl, rfl, rfl, rfl, rfl, rfl, rfl, rfl, rfl, rfl, rfl, rfl, rfl, rfl, rfl, rfl, rfl, rfl, rfl, rfl, rfl, rfl, rfl, rfl, rfl, rfl, rfl, rfl, rfl, rfl, rfl, rfl, rfl, rfl, rfl, rfl, rfl, rfl, rfl, rfl, rfl, rfl, rfl, rfl, rfl, rfl, rfl, rfl, rfl, rfl, rfl, rfl, rfl, trivial⟩ ?_
        refine N.then ?_
        refine E.condF rfl ?_
        refine E.skip ?_
        refine N.blk ?_
        refine N.then ?_
        refine E.seq ?_
        refine E.regionD (fun H' => Rrf H' r s _) [(0, .pu), (1, .pu), (2, .pu), (3, .pu), (5, .pu), (6, .pu), (7, .pu), (8, .st), (4, .mk), (9, .pu), (10, .pu), (11, .pu), (12, .pu), (14, .pu), (13, .mk), (15, .mk), (16, .pu), (17, .pu)] Try.mixed (by kernel_rfl) (SF.rf) ?_
        refine X.mv rfl rfl rfl rfl rfl ?_
        refine X.eqlP1 rfl rfl rfl rfl rfl rfl Try.underlying33 ?_
        refine X.mv rfl rfl rfl rfl rfl ?_
        refine X.mv rfl rfl rfl rfl rfl ?_
        refine X.mv rfl rfl rfl rfl rfl ?_
        refine X.nilP rfl rfl rfl rfl rfl ?_
        refine X.fld rfl rfl rfl rfl rfl Try.off60_1 ?_
        refine X.ld rfl rfl rfl rfl Try.ag3 (fun H' hF => hF) (rfl) ?_
        refine X.call rfl rfl rfl rfl rfl Try.cl19 (at_ct _ s _ _ SF.rd ⟨hl5, SF.le⟩) ?_
        rintro _ H20 ⟨rfl, eH20⟩
        obtain rfl := eH20.symm
        refine ⟨SF.rf, ?_⟩
        refine X.neqF rfl rfl rfl rfl rfl rfl (fun h => h rfl) ?_
        refine X.pickF rfl rfl rfl rfl rfl rfl ?_
        refine X.mv rfl rfl rfl rfl rfl ?_
        refine X.mv rfl rfl rfl rfl rfl ?_
        refine X.mv rfl rfl rfl rfl rfl ?_
        refine X.call rfl rfl rfl rfl rfl Try.cl21 (left_ct _ s _ _ SF.rd ⟨hl5, SF.le⟩) ?_
        rintro _ H21 ⟨rfl, eH21⟩
        obtain rfl := eH21.symm
        refine ⟨SF.rf, ?_⟩
        refine X.call rfl rfl rfl rfl rfl Try.cl40 (rleft_ct r s _ _ SF.rf ⟨hl5, SF.le⟩) ?_
        rintro _ H22 ⟨rfl, eH22⟩
        obtain rfl := eH22.symm
        refine ⟨SF.rf, ?_⟩
        refine X.neqF rfl rfl rfl rfl rfl rfl (fun h => h rfl) ?_
        refine X.pickF rfl rfl rfl rfl rfl rfl ?_
        refine X.done [(2, _), (7, _), (9, _), (11, _), (48, _), (49, _), (50, _), (51, _), (52, _), (53, _), (54, _), (55, _), (56, _), (57, _), (58, _), (59, _), (62, _), (63, _), (64, _), (65, _), (66, _), (12, _), (67, _), (68, _), (69, _), (70, _), (71, _), (78, _), (77, _), (80, _), (81, _), (82, _), (79, _), (83, _), (84, _), (13, _), (14, _), (86, _), (87, _), (88, _), (85, _), (89, _), (90, _), (15, _), (16, _), (91, _), (92, _), (93, _), (94, _), (95, _), (96, _), (97, _), (98, _), (145, _), (146, _), (147, _), (148, _), (150, _), (151, _), (152, _), (153, _), (149, _), (154, _), (155, _), (156, _), (157, _), (159, _), (158, _), (160, _), (161, _), (162, _)] ⟨rfl, rfl, rfl, rfl, rfl, rfl, rfl, rfl, rfl, rfl, rfl, rfl, rfl, rfl, rfl, rfl, rfl, rfl, rfl, rfl, rfl, rfl, rfl, rfl, rfl, rfl, rfl, rfl, rfl, rfl, rfl, rfl, rfl, rfl, rfl, rfl, rfl, rfl, rfl, rfl, rfl, rfl, rfl, rfl, rfl, rfl, rfl, rfl, rfl, rfl, rfl, rfl, rfl, rfl, rfl, rfl, rfl, rfl, rfl, rfl, rfl, rfl, rfl, rfl, rfl, rfl, rfl, rfl, rfl, rfl, rfl, trivial⟩ ?_
        refine N.then ?_
        refine E.condF rfl ?_
        refine E.skip ?_
        refine N.blk ?_
        refine N.then ?_
        refine E.region ?_
        refine X.mv rfl rfl rfl rfl rfl ?_
        refine X.add rfl rfl rfl rfl rfl rfl (by omega) ?_
        refine X.asg rfl rfl rfl rfl rfl ?_
        refine X.done [(2, _), (7, _), (9, _), (11, _), (48, _), (49, _), (50, _), (51, _), (52, _), (53, _), (54, _), (55, _), (56, _), (57, _), (58, _), (59, _), (62, _), (63, _), (64, _), (65, _), (66, _), (12, _), (67, _), (68, _), (69, _), (70, _), (71, _), (78, _), (77, _), (80, _), (81, _), (82, _), (79, _), (83, _), (84, _), (13, _), (14, _), (86, _), (87, _), (88, _), (85, _), (89, _), (90, _), (15, _), (16, _), (91, _), (92, _), (93, _), (94, _), (95, _), (96, _), (97, _), (98, _), (145, _), (146, _), (147, _), (148, _), (150, _), (151, _), (152, _), (153, _), (149, _), (154, _), (155, _), (156, _), (157, _), (159, _), (158, _), (160, _), (161, _), (162, _), (60, _), (61, _)] ⟨rfl, rfl, rfl, rfl, rfl, rfl, rfl, rfl, rfl, rfl, rfl, rfl, rfl, rfl, rfl, rfl, rfl, rfl, rfl, rfl, rfl, rfl, rfl, rfl, rfl, rfl, rfl, rfl, rfl, rfl, rfl, rfl, rfl, rfl, rfl, rfl, rfl, rfl, rfl, rfl, rfl, rfl, rfl, rfl, rfl, rfl, rfl, rfl, rfl, rfl, rfl, rfl, rfl, rfl, rfl, rfl, rfl, rfl, rfl, rfl, rfl, rfl, rfl, rfl, rfl, rfl, rfl, rfl, rfl, rfl, rfl, rfl, rfl, trivial⟩ ?_
        exact N.next (G := fun (q : Nat × Nat) => _) (i + 1, _) ⟨rfl, rfl, rfl, rfl, trivial⟩ ⟨by show i + 1 ≤ xs.length; omega, _, SF⟩ (by show xs.length - (i + 1) < xs.length - i; omega)
      · refine E.seq ?_
        refine E.region ?_
        refine X.eql rfl rfl rfl rfl rfl rfl ?_
        refine X.asg rfl rfl rfl rfl rfl ?_
        refine X.done [(2, _), (7, _), (9, _), (11, _), (48, _), (49, _), (50, _), (51, _), (52, _), (53, _), (54, _), (55, _), (56, _), (57, _), (58, _), (59, _), (62, _), (63, _), (64, _), (65, _), (66, _), (12, _), (67, _), (68, _), (69, _), (70, _), (71, _), (78, _), (77, _), (100, _), (99, _)] ⟨rfl, rfl, rfl, rfl, rfl, rfl, rfl, rfl, rfl, rfl, rfl, rfl, rfl, rfl, rfl, rfl, rfl, rfl, rfl, rfl, rfl, rfl, rfl, rfl, rfl, rfl, rfl, rfl, rfl, rfl, rfl, trivial⟩ ?_
        refine N.then ?_
        refine E.condD rfl (fun hc => ?_) (fun hc => ?_)
        · refine E.seq ?_
          refine E.region ?_
          refine X.mv rfl rfl rfl rfl rfl ?_
          refine X.mv rfl rfl rfl rfl rfl ?_
          refine X.call rfl rfl rfl rfl rfl Try.cl17 (peek_all p s t H3 S3.rd ⟨hl5, S3.le⟩ x.n) ?_
          rintro _ H4 ⟨rfl, eH4⟩
          obtain rfl := eH4.symm
          refine X.mv rfl rfl rfl rfl rfl ?_
          refine X.mv rfl rfl rfl rfl rfl ?_
          refine X.call rfl rfl rfl rfl rfl Try.cl32 (rpeek_all r s t H3 S3.rf ⟨hl5, S3.le⟩ x.n) ?_
          rintro _ H5 ⟨rfl, eH5⟩
          obtain rfl := eH5.symm
          have SF := S3
          refine X.neqF rfl rfl rfl rfl rfl rfl (fun h => h rfl) ?_
          refine X.done [(2, _), (7, _), (9, _), (11, _), (48, _), (49, _), (50, _), (51, _), (52, _), (53, _), (54, _), (55, _), (56, _), (57, _), (58, _), (59, _), (62, _), (63, _), (64, _), (65, _), (66, _), (12, _), (67, _), (68, _), (69, _), (70, _), (71, _), (78, _), (77, _), (100, _), (99, _), (101, _), (102, _), (103, _), (104, _), (105, _), (106, _), (107, _)] ⟨rfl, rfl, rfl, rfl, rfl, rfl, rfl, rfl, rfl, rfl, rfl, rfl, rfl, rfl, rfl, rfl, rfl, rfl, rfl, rfl, rfl, rfl, rfl, rfl, rfl, rfl, rfl, rfl, rfl, rfl, rfl, rfl, rfl, rfl, rfl, rfl, rfl, rfl, trivial⟩ ?_
          refine N.then ?_
          refine E.condF rfl ?_
          refine E.skip ?_
          refine N.blk ?_
          refine N.then ?_
          refine E.seq ?_
          refine E.regionD (fun H' => Rrf H' r s _) [(0, .pu), (1, .pu), (2, .pu), (3, .pu), (5, .pu), (6, .pu), (7, .pu), (8, .st), (4, .mk), (9, .pu), (10, .pu), (11, .pu), (12, .pu), (14, .pu), (13, .mk), (15, .mk), (16, .pu), (17, .pu)] Try.mixed (by kernel_rfl) (SF.rf) ?_
          refine X.mv rfl rfl rfl rfl rfl ?_
          refine X.eqlP1 rfl rfl rfl rfl rfl rfl Try.underlying33 ?_
          refine X.mv rfl rfl rfl rfl rfl ?_
          refine X.mv rfl rfl rfl rfl rfl ?_
          refine X.mv rfl rfl rfl rfl rfl ?_
          refine X.nilP rfl rfl rfl rfl rfl ?_
          refine X.fld rfl rfl rfl rfl rfl Try.off60_1 ?_
          refine X.ld rfl rfl rfl rfl Try.ag3 (fun H' hF => hF) (rfl) ?_
          refine X.call rfl rfl rfl rfl rfl Try.cl19 (at_ct _ s _ _ SF.rd ⟨hl5, SF.le⟩) ?_
          rintro _ H20 ⟨rfl, eH20⟩
          obtain rfl := eH20.symm
          refine ⟨SF.rf, ?_⟩
          refine X.neqF rfl rfl rfl rfl rfl rfl (fun h => h rfl) ?_
          refine X.pickF rfl rfl rfl rfl rfl rfl ?_
          refine X.mv rfl rfl rfl rfl rfl ?_
          refine X.mv rfl rfl rfl rfl rfl ?_
          refine X.mv rfl rfl rfl rfl rfl ?_
          refine X.call rfl rfl rfl rfl rfl Try.cl21 (left_ct _ s _ _ SF.rd ⟨hl5, SF.le⟩) ?_
          rintro _ H21 ⟨rfl, eH21⟩
          obtain rfl := eH21.symm
          refine ⟨SF.rf, ?_⟩
          refine X.call rfl rfl rfl rfl rfl Try.cl40 (rleft_ct r s _ _ SF.rf ⟨hl5, SF.le⟩) ?_
          rintro _ H22 ⟨rfl, eH22⟩
          obtain rfl := eH22.symm
          refine ⟨SF.rf, ?_⟩
          refine X.neqF rfl rfl rfl rfl rfl rfl (fun h => h rfl) ?_
          refine X.pickF rfl rfl rfl rfl rfl rfl ?_
          refine X.done [(2, _), (7, _), (9, _), (11, _), (48, _), (49, _), (50, _), (51, _), (52, _), (53, _), (54, _), (55, _), (56, _), (57, _), (58, _), (59, _), (62, _), (63, _), (64, _), (65, _), (66, _), (12, _), (67, _), (68, _), (69, _), (70, _), (71, _), (78, _), (77, _), (100, _), (99, _), (101, _), (102, _), (103, _), (104, _), (105, _), (106, _), (107, _), (145, _), (146, _), (147, _), (148, _), (150, _), (151, _), (152, _), (153, _), (149, _), (154, _), (155, _), (156, _), (157, _), (159, _), (158, _), (160, _), (161, _), (162, _)] ⟨rfl, rfl, rfl, rfl, rfl, rfl, rfl, rfl, rfl, rfl, rfl, rfl, rfl, rfl, rfl, rfl, rfl, rfl, rfl, rfl, rfl, rfl, rfl, rfl, rfl, rfl, rfl, rfl, rfl, rfl, rfl, rfl, rfl, rfl, rfl, rfl, rfl, rfl, rfl, rfl, rfl, rfl, rfl, rfl, rfl, rfl, rfl, rfl, rfl, rfl, rfl, rfl, rfl, rfl, rfl, rfl, trivial⟩ ?_
          refine N.then ?_
          refine E.condF rfl ?_
          refine E.skip ?_
          refine N.blk ?_
          refine N.then ?_
          refine E.region ?_
          refine X.mv rfl rfl rfl rfl rfl ?_
          refine X.add rfl rfl rfl rfl rfl rfl (by omega) ?_
          refine X.asg rfl rfl rfl rfl rfl ?_
          refine X.done [(2, _), (7, _), (9, _), (11, _), (48, _), (49, _), (50, _), (51, _), (52, _), (53, _), (54, _), (55, _), (56, _), (57, _), (58, _), (59, _), (62, _), (63, _), (64, _), (65, _), (66, _), (12, _), (67, _), (68, _), (69, _), (70, _), (71, _), (78, _), (77, _), (100, _), (99, _), (101, _), (102, _), (103, _), (104, _), (105, _), (106, _), (107, _), (145, _), (146, _), (147, _), (148, _), (150, _), (151, _), (152, _), (153, _), (149, _), (154, _), (155, _), (156, _), (157, _), (159, _), (158, _), (160, _), (161, _), (162, _), (60, _), (61, _)] ⟨rfl, rfl, rfl, rfl, rfl, rfl, rfl, rfl, rfl, rfl, rfl, rfl, rfl, rfl, rfl, rfl, rfl, rfl, rfl, rfl, rfl, rfl, rfl, rfl, rfl, rfl, rfl, rfl, rfl, rfl, rfl, rfl, rfl, rfl, rfl, rfl, rfl, rfl, rfl, rfl, rfl, rfl, rfl, rfl, rfl, rfl, rfl, rfl, rfl, rfl, rfl, rfl, rfl, rfl, rfl, rfl, rfl, rfl, trivial⟩ ?_
          exact N.next (G := fun (q : Nat × Nat) => _) (i + 1, _) ⟨rfl, rfl, rfl, rfl, trivial⟩ ⟨by show i + 1 ≤ xs.length; omega, _, SF⟩ (by show xs.length - (i + 1) < xs.length - i; omega)
        · refine E.seq ?_
          refine E.region ?_
          refine X.eql rfl rfl rfl rfl rfl rfl ?_
          refine X.asg rfl rfl rfl rfl rfl ?_
          refine X.done [(2, _), (7, _), (9, _), (11, _), (48, _), (49, _), (50, _), (51, _), (52, _), (53, _), (54, _), (55, _), (56, _), (57, _), (58, _), (59, _), (62, _), (63, _), (64, _), (65, _), (66, _), (12, _), (67, _), (68, _), (69, _), (70, _), (71, _), (78, _), (77, _), (100, _), (99, _), (109, _), (108, _)] ⟨rfl, rfl, rfl, rfl, rfl, rfl, rfl, rfl, rfl, rfl, rfl, rfl, rfl, rfl, rfl, rfl, rfl, rfl, rfl, rfl, rfl, rfl, rfl, rfl, rfl, rfl, rfl, rfl, rfl, rfl, rfl, rfl, rfl, trivial⟩ ?_
          refine N.then ?_
          refine E.condD rfl (fun hc => ?_) (fun hc => ?_)
          · refine E.seq ?_
            refine E.region ?_
            refine X.mv rfl rfl rfl rfl rfl ?_
            refine X.mv rfl rfl rfl rfl rfl ?_
            refine X.call rfl rfl rfl rfl rfl Try.cl33 (skip_all p s t H3 S3.rd ⟨hl5, S3.le⟩ x.n) ?_
            rintro _ H4 ⟨rfl, hR4, hk4⟩
            refine X.mv rfl rfl rfl rfl rfl ?_
            refine X.mv rfl rfl rfl rfl rfl ?_
            refine X.call rfl rfl rfl rfl rfl Try.cl34 (rskip_all r s t H4 (S3.rfB hk4) ⟨hl5, S3.le⟩ x.n) ?_
            rintro _ H5 ⟨rfl, hR5, hk5⟩
            have SF := S3.step hR4 hk4 hR5 hk5 (bitsV_le s t x.n S3.le)
            refine X.neqF rfl rfl rfl rfl rfl rfl (fun h => h rfl) ?_
            refine X.done [(2, _), (7, _), (9, _), (11, _), (48, _), (49, _), (50, _), (51, _), (52, _), (53, _), (54, _), (55, _), (56, _), (57, _), (58, _), (59, _), (62, _), (63, _), (64, _), (65, _), (66, _), (12, _), (67, _), (68, _), (69, _), (70, _), (71, _), (78, _), (77, _), (100, _), (99, _), (109, _), (108, _), (110, _), (111, _), (112, _), (113, _), (114, _), (115, _), (116, _)] ⟨rfl, rfl, rfl, rfl, rfl, rfl, rfl, rfl, rfl, rfl, rfl, rfl, rfl, rfl, rfl, rfl, rfl, rfl, rfl, rfl, rfl, rfl, rfl, rfl, rfl, rfl, rfl, rfl, rfl, rfl, rfl, rfl, rfl, rfl, rfl, rfl, rfl, rfl, rfl, rfl, trivial⟩ ?_
            refine N.then ?_
            refine E.condF rfl ?_
            refine E.skip ?_
            refine N.blk ?_
            refine N.then ?_
            refine E.seq ?_
            refine E.regionD (fun H' => Rrf H' r s _) [(0, .pu), (1, .pu), (2, .pu), (3, .pu), (5, .pu), (6, .pu), (7, .pu), (8, .st), (4, .mk), (9, .pu), (10, .pu), (11, .pu), (12, .pu), (14, .pu), (13, .mk), (15, .mk), (16, .pu), (17, .pu)] Try.mixed (by kernel_rfl) (SF.rf) ?_
            refine X.mv rfl rfl rfl rfl rfl ?_
            refine X.eqlP1 rfl rfl rfl rfl rfl rfl Try.underlying33 ?_
            refine X.mv rfl rfl rfl rfl rfl ?_
            refine X.mv rfl rfl rfl rfl rfl ?_
            refine X.mv rfl rfl rfl rfl rfl ?_
            refine X.nilP rfl rfl rfl rfl rfl ?_
            refine X.fld rfl rfl rfl rfl rfl Try.off60_1 ?_
            refine X.ld rfl rfl rfl rfl Try.ag3 (fun H' hF => hF) (rfl) ?_
            refine X.call rfl rfl rfl rfl rfl Try.cl19 (at_ct _ s _ _ SF.rd ⟨hl5, SF.le⟩) ?_
            rintro _ H20 ⟨rfl, eH20⟩
            obtain rfl := eH20.symm
            refine ⟨SF.rf, ?_⟩
            refine X.neqF rfl rfl rfl rfl rfl rfl (fun h => h rfl) ?_
            refine X.pickF rfl rfl rfl rfl rfl rfl ?_
            refine X.mv rfl rfl rfl rfl rfl ?_
            refine X.mv rfl rfl rfl rfl rfl ?_
            refine X.mv rfl rfl rfl rfl rfl ?_
            refine X.call rfl rfl rfl rfl rfl Try.cl21 (left_ct _ s _ _ SF.rd ⟨hl5, SF.le⟩) ?_
            rintro _ H21 ⟨rfl, eH21⟩
            obtain rfl := eH21.symm
            refine ⟨SF.rf, ?_⟩
            refine X.call rfl rfl rfl rfl rfl Try.cl40 (rleft_ct r s _ _ SF.rf ⟨hl5, SF.le⟩) ?_
            rintro _ H22 ⟨rfl, eH22⟩
            obtain rfl := eH22.symm
            refine ⟨SF.rf, ?_⟩
            refine X.neqF rfl rfl rfl rfl rfl rfl (fun h => h rfl) ?_
            refine X.pickF rfl rfl rfl rfl rfl rfl ?_
            refine X.done [(2, _), (7, _), (9, _), (11, _), (48, _), (49, _), (50, _), (51, _), (52, _), (53, _), (54, _), (55, _), (56, _), (57, _), (58, _), (59, _), (62, _), (63, _), (64, _), (65, _), (66, _), (12, _), (67, _), (68, _), (69, _), (70, _), (71, _), (78, _), (77, _), (100, _), (99, _), (109, _), (108, _), (110, _), (111, _), (112, _), (113, _), (114, _), (115, _), (116, _), (145, _), (146, _), (147, _), (148, _), (150, _), (151, _), (152, _), (153, _), (149, _), (154, _), (155, _), (156, _), (157, _), (159, _), (158, _), (160, _), (161, _), (162, _)] ⟨rfl, rfl, rfl, rfl, rfl, rfl, rfl, rfl, rfl, rfl, rfl, rfl, rfl, rfl, rfl, rfl, rfl, rfl, rfl, rfl, rfl, rfl, rfl, rfl, rfl, rfl, rfl, rfl, rfl, rfl, rfl, rfl, rfl, rfl, rfl, rfl, rfl, rfl, rfl, rfl, rfl, rfl, rfl, rfl, rfl, rfl, rfl, rfl, rfl, rfl, rfl, rfl, rfl, rfl, rfl, rfl, rfl, rfl, trivial⟩ ?_
            refine N.then ?_
            refine E.condF rfl ?_
            refine E.skip ?_
            refine N.blk ?_
            refine N.then ?_
            refine E.region ?_
            refine X.mv rfl rfl rfl rfl rfl ?_
            refine X.add rfl rfl rfl rfl rfl rfl (by omega) ?_
            refine X.asg rfl rfl rfl rfl rfl ?_
            refine X.done [(2, _), (7, _), (9, _), (11, _), (48, _), (49, _), (50, _), (51, _), (52, _), (53, _), (54, _), (55, _), (56, _), (57, _), (58, _), (59, _), (62, _), (63, _), (64, _), (65, _), (66, _), (12, _), (67, _), (68, _), (69, _), (70, _), (71, _), (78, _), (77, _), (100, _), (99, _), (109, _), (108, _), (110, _), (111, _), (112, _), (113, _), (114, _), (115, _), (116, _), (145, _), (146, _), (147, _), (148, _), (150, _), (151, _), (152, _), (153, _), (149, _), (154, _), (155, _), (156, _), (157, _), (159, _), (158, _), (160, _), (161, _), (162, _), (60, _), (61, _)] ⟨rfl, rfl, rfl, rfl, rfl, rfl, rfl, rfl, rfl, rfl, rfl, rfl, rfl, rfl, rfl, rfl, rfl, rfl, rfl, rfl, rfl, rfl, rfl, rfl, rfl, rfl, rfl, rfl, rfl, rfl, rfl, rfl, rfl, rfl, rfl, rfl, rfl, rfl, rfl, rfl, rfl, rfl, rfl, rfl, rfl, rfl, rfl, rfl, rfl, rfl, rfl, rfl, rfl, rfl, rfl, rfl, rfl, rfl, rfl, rfl, trivial⟩ ?_
            exact N.next (G := fun (q : Nat × Nat) => _) (i + 1, _) ⟨rfl, rfl, rfl, rfl, trivial⟩ ⟨by show i + 1 ≤ xs.length; omega, _, SF⟩ (by show xs.length - (i + 1) < xs.length - i; omega)
          · refine E.seq ?_
            refine E.region ?_
            refine X.eql rfl rfl rfl rfl rfl rfl ?_
            refine X.asg rfl rfl rfl rfl rfl ?_
            refine X.done [(2, _), (7, _), (9, _), (11, _), (48, _), (49, _), (50, _), (51, _), (52, _), (53, _), (54, _), (55, _), (56, _), (57, _), (58, _), (59, _), (62, _), (63, _), (64, _), (65, _), (66, _), (12, _), (67, _), (68, _), (69, _), (70, _), (71, _), (78, _), (77, _), (100, _), (99, _), (109, _), (108, _), (118, _), (117, _)] ⟨rfl, rfl, rfl, rfl, rfl, rfl, rfl, rfl, rfl, rfl, rfl, rfl, rfl, rfl, rfl, rfl, rfl, rfl, rfl, rfl, rfl, rfl, rfl, rfl, rfl, rfl, rfl, rfl, rfl, rfl, rfl, rfl, rfl, rfl, rfl, trivial⟩ ?_
            refine N.then ?_
            refine E.condD rfl (fun hc => ?_) (fun hc => ?_)
            · refine E.seq ?_
              refine E.region ?_
              refine X.mv rfl rfl rfl rfl rfl ?_
              refine X.call rfl rfl rfl rfl rfl Try.cl35 (ralign_ct p s t H3 S3.rd ⟨hl5, S3.le⟩) ?_
              rintro _ H4 ⟨rfl, hR4, hk4⟩
              refine X.done [(2, _), (7, _), (9, _), (11, _), (48, _), (49, _), (50, _), (51, _), (52, _), (53, _), (54, _), (55, _), (56, _), (57, _), (58, _), (59, _), (62, _), (63, _), (64, _), (65, _), (66, _), (12, _), (67, _), (68, _), (69, _), (70, _), (71, _), (78, _), (77, _), (100, _), (99, _), (109, _), (108, _), (118, _), (117, _), (119, _)] ⟨rfl, rfl, rfl, rfl, rfl, rfl, rfl, rfl, rfl, rfl, rfl, rfl, rfl, rfl, rfl, rfl, rfl, rfl, rfl, rfl, rfl, rfl, rfl, rfl, rfl, rfl, rfl, rfl, rfl, rfl, rfl, rfl, rfl, rfl, rfl, rfl, trivial⟩ ?_
              refine N.then ?_
              refine E.region ?_
              refine X.mv rfl rfl rfl rfl rfl ?_
              refine X.call rfl rfl rfl rfl rfl Try.cl36 (rralign_ct r s t H4 (S3.rfB hk4) ⟨hl5, S3.le⟩) ?_
              rintro _ H5 ⟨rfl, hR5, hk5⟩
              have SF := S3.step hR4 hk4 hR5 hk5 (by have := S3.le; omega)
              refine X.done [(2, _), (7, _), (9, _), (11, _), (48, _), (49, _), (50, _), (51, _), (52, _), (53, _), (54, _), (55, _), (56, _), (57, _), (58, _), (59, _), (62, _), (63, _), (64, _), (65, _), (66, _), (12, _), (67, _), (68, _), (69, _), (70, _), (71, _), (78, _), (77, _), (100, _), (99, _), (109, _), (108, _), (118, _), (117, _), (119, _), (121, _)] ⟨rfl, rfl, rfl, rfl, rfl, rfl, rfl, rfl, rfl, rfl, rfl, rfl, rfl, rfl, rfl, rfl, rfl, rfl, rfl, rfl, rfl, rfl, rfl, rfl, rfl, rfl, rfl, rfl, rfl, rfl, rfl, rfl, rfl, rfl, rfl, rfl, rfl, trivial⟩ ?_
              refine N.blk ?_
              refine N.then ?_
              refine E.seq ?_
              refine E.regionD (fun H' => Rrf H' r s _) [(0, .pu), (1, .pu), (2, .pu), (3, .pu), (5, .pu), (6, .pu), (7, .pu), (8, .st), (4, .mk), (9, .pu), (10, .pu), (11, .pu), (12, .pu), (14, .pu), (13, .mk), (15, .mk), (16, .pu), (17, .pu)] Try.mixed (by kernel_rfl) (SF.rf) ?_
              refine X.mv rfl rfl rfl rfl rfl ?_
              refine X.eqlP1 rfl rfl rfl rfl rfl rfl Try.underlying33 ?_
              refine X.mv rfl rfl rfl rfl rfl ?_
              refine X.mv rfl rfl rfl rfl rfl ?_
              refine X.mv rfl rfl rfl rfl rfl ?_
              refine X.nilP rfl rfl rfl rfl rfl ?_
              refine X.fld rfl rfl rfl rfl rfl Try.off60_1 ?_
              refine X.ld rfl rfl rfl rfl Try.ag3 (fun H' hF => hF) (rfl) ?_
              refine X.call rfl rfl rfl rfl rfl Try.cl19 (at_ct _ s _ _ SF.rd ⟨hl5, SF.le⟩) ?_
              rintro _ H20 ⟨rfl, eH20⟩
              obtain rfl := eH20.symm
              refine ⟨SF.rf, ?_⟩
              refine X.neqF rfl rfl rfl rfl rfl rfl (fun h => h rfl) ?_
              refine X.pickF rfl rfl rfl rfl rfl rfl ?_
              refine X.mv rfl rfl rfl rfl rfl ?_
              refine X.mv rfl rfl rfl rfl rfl ?_
              refine X.mv rfl rfl rfl rfl rfl ?_
              refine X.call rfl rfl rfl rfl rfl Try.cl21 (left_ct _ s _ _ SF.rd ⟨hl5, SF.le⟩) ?_
              rintro _ H21 ⟨rfl, eH21⟩
              obtain rfl := eH21.symm
              refine ⟨SF.rf, ?_⟩
              refine X.call rfl rfl rfl rfl rfl Try.cl40 (rleft_ct r s _ _ SF.rf ⟨hl5, SF.le⟩) ?_
              rintro _ H22 ⟨rfl, eH22⟩
              obtain rfl := eH22.symm
              refine ⟨SF.rf, ?_⟩
              refine X.neqF rfl rfl rfl rfl rfl rfl (fun h => h rfl) ?_
              refine X.pickF rfl rfl rfl rfl rfl rfl ?_
              refine X.done [(2, _), (7, _), (9, _), (11, _), (48, _), (49, _), (50, _), (51, _), (52, _), (53, _), (54, _), (55, _), (56, _), (57, _), (58, _), (59, _), (62, _), (63, _), (64, _), (65, _), (66, _), (12, _), (67, _), (68, _), (69, _), (70, _), (71, _), (78, _), (77, _), (100, _), (99, _), (109, _), (108, _), (118, _), (117, _), (119, _), (121, _), (145, _), (146, _), (147, _), (148, _), (150, _), (151, _), (152, _), (153, _), (149, _), (154, _), (155, _), (156, _), (157, _), (159, _), (158, _), (160, _), (161, _), (162, _)] ⟨rfl, rfl, rfl, rfl, rfl, rfl, rfl, rfl, rfl, rfl, rfl, rfl, rfl, rfl, rfl, rfl, rfl, rfl, rfl, rfl, rfl, rfl, rfl, rfl, rfl, rfl, rfl, rfl, rfl, rfl, rfl, rfl, rfl, rfl, rfl, rfl, rfl, rfl, rfl, rfl, rfl, rfl, rfl, rfl, rfl, rfl, rfl, rfl, rfl, rfl, rfl, rfl, rfl, rfl, rfl, trivial⟩ ?_
              refine N.then ?_
              refine E.condF rfl ?_
              refine E.skip ?_
              refine N.blk ?_
              refine N.then ?_
              refine E.region ?_
              refine X.mv rfl rfl rfl rfl rfl ?_
              refine X.add rfl rfl rfl rfl rfl rfl (by omega) ?_
              refine X.asg rfl rfl rfl rfl rfl ?_
              refine X.done [(2, _), (7, _), (9, _), (11, _), (48, _), (49, _), (50, _), (51, _), (52, _), (53, _), (54, _), (55, _), (56, _), (57, _), (58, _), (59, _), (62, _), (63, _), (64, _), (65, _), (66, _), (12, _), (67, _), (68, _), (69, _), (70, _), (71, _), (78, _), (77, _), (100, _), (99, _), (109, _), (108, _), (118, _), (117, _), (119, _), (121, _), (145, _), (146, _), (147, _), (148, _), (150, _), (151, _), (152, _), (153, _), (149, _), (154, _), (155, _), (156, _), (157, _), (159, _), (158, _), (160, _), (161, _), (162, _), (60, _), (61, _)] ⟨rfl, rfl, rfl, rfl, rfl, rfl, rfl, rfl, rfl, rfl, rfl, rfl, rfl, rfl, rfl, rfl, rfl, rfl, rfl, rfl, rfl, rfl, rfl, rfl, rfl, rfl, rfl, rfl, rfl, rfl, rfl, rfl, rfl, rfl, rfl, rfl, rfl, rfl, rfl, rfl, rfl, rfl, rfl, rfl, rfl, rfl, rfl, rfl, rfl, rfl, rfl, rfl, rfl, rfl, rfl, rfl, rfl, trivial⟩ ?_
              exact N.next (G := fun (q : Nat × Nat) => _) (i + 1, _) ⟨rfl, rfl, rfl, rfl, trivial⟩ ⟨by show i + 1 ≤ xs.length; omega, _, SF⟩ (by show xs.length - (i + 1) < xs.length - i; omega)
            · refine E.seq ?_
              refine E.region ?_
              refine X.eql rfl rfl rfl rfl rfl rfl ?_
              refine X.asg rfl rfl rfl rfl rfl ?_
              refine X.done [(2, _), (7, _), (9, _), (11, _), (48, _), (49, _), (50, _), (51, _), (52, _), (53, _), (54, _), (55, _), (56, _), (57, _), (58, _), (59, _), (62, _), (63, _), (64, _), (65, _), (66, _), (12, _), (67, _), (68, _), (69, _), (70, _), (71, _), (78, _), (77, _), (100, _), (99, _), (109, _), (108, _), (118, _), (117, _), (124, _), (123, _)] ⟨rfl, rfl, rfl, rfl, rfl, rfl, rfl, rfl, rfl, rfl, rfl, rfl, rfl, rfl, rfl, rfl, rfl, rfl, rfl, rfl, rfl, rfl, rfl, rfl, rfl, rfl, rfl, rfl, rfl, rfl, rfl, rfl, rfl, rfl, rfl, rfl, rfl, trivial⟩ ?_
              refine N.then ?_
              refine E.condD rfl (fun hc => ?_) (fun hc => ?_)
              · refine E.seq ?_
                refine E.region ?_
                refine X.mv rfl rfl rfl rfl rfl ?_
                refine X.mv rfl rfl rfl rfl rfl ?_
                refine X.call rfl rfl rfl rfl rfl Try.cl37 (bytes_all p s t H3 S3.rd ⟨hl5, S3.le⟩ x.n) ?_
                rintro _ H4 ⟨rfl, hR4, hk4⟩
                refine X.mv rfl rfl rfl rfl rfl ?_
                refine X.extract rfl rfl rfl rfl rfl rfl ?_
                refine X.extract rfl rfl rfl rfl rfl rfl ?_
                refine X.asg rfl rfl rfl rfl rfl ?_
                refine X.asg rfl rfl rfl rfl rfl ?_
                refine X.done [(2, _), (7, _), (9, _), (11, _), (48, _), (49, _), (50, _), (51, _), (52, _), (53, _), (54, _), (55, _), (56, _), (57, _), (58, _), (59, _), (62, _), (63, _), (64, _), (65, _), (66, _), (12, _), (67, _), (68, _), (69, _), (70, _), (71, _), (78, _), (77, _), (100, _), (99, _), (109, _), (108, _), (118, _), (117, _), (124, _), (123, _), (126, _), (127, _), (128, _), (125, _), (129, _), (130, _), (17, _), (18, _)] ⟨rfl, rfl, rfl, rfl, rfl, rfl, rfl, rfl, rfl, rfl, rfl, rfl, rfl, rfl, rfl, rfl, rfl, rfl, rfl, rfl, rfl, rfl, rfl, rfl, rfl, rfl, rfl, rfl, rfl, rfl, rfl, rfl, rfl, rfl, rfl, rfl, rfl, rfl, rfl, rfl, rfl, rfl, rfl, rfl, rfl, trivial⟩ ?_
                refine N.then ?_
                refine E.seq ?_
                refine E.region ?_
                refine X.mv rfl rfl rfl rfl rfl ?_
                refine X.mv rfl rfl rfl rfl rfl ?_
                refine X.call rfl rfl rfl rfl rfl Try.cl38 (rrbytes_all r s t H4 (S3.rfB hk4) ⟨hl5, S3.le⟩ x.n) ?_
                rintro _ H5 ⟨rfl, hR5, hk5⟩
                have SF := S3.step hR4 hk4 hR5 hk5 (bytesV_le s t x.n S3.le)
                refine X.mv rfl rfl rfl rfl rfl ?_
                refine X.extract rfl rfl rfl rfl rfl rfl ?_
                refine X.extract rfl rfl rfl rfl rfl rfl ?_
                refine X.asg rfl rfl rfl rfl rfl ?_
                refine X.asg rfl rfl rfl rfl rfl ?_
                refine X.done [(2, _), (7, _), (9, _), (11, _), (48, _), (49, _), (50, _), (51, _), (52, _), (53, _), (54, _), (55, _), (56, _), (57, _), (58, _), (59, _), (62, _), (63, _), (64, _), (65, _), (66, _), (12, _), (67, _), (68, _), (69, _), (70, _), (71, _), (78, _), (77, _), (100, _), (99, _), (109, _), (108, _), (118, _), (117, _), (124, _), (123, _), (126, _), (127, _), (128, _), (125, _), (129, _), (130, _), (17, _), (18, _), (132, _), (133, _), (134, _), (131, _), (135, _), (136, _), (19, _), (20, _)] ⟨rfl, rfl, rfl, rfl, rfl, rfl, rfl, rfl, rfl, rfl, rfl, rfl, rfl, rfl, rfl, rfl, rfl, rfl, rfl, rfl, rfl, rfl, rfl, rfl, rfl, rfl, rfl, rfl, rfl, rfl, rfl, rfl, rfl, rfl, rfl, rfl, rfl, rfl, rfl, rfl, rfl, rfl, rfl, rfl, rfl, rfl, rfl, rfl, rfl, rfl, rfl, rfl, rfl, trivial⟩ ?_
                refine N.then ?_
                refine E.seq ?_
                refine E.region ?_
                refine X.mv rfl rfl rfl rfl rfl ?_
                refine X.mv rfl rfl rfl rfl rfl ?_
                refine X.neqSF rfl rfl rfl rfl rfl rfl (rfl) ?_
                refine X.mv rfl rfl rfl rfl rfl ?_
                refine X.mv rfl rfl rfl rfl rfl ?_
                refine X.mv rfl rfl rfl rfl rfl ?_
                refine X.neqF rfl rfl rfl rfl rfl rfl (fun h => h rfl) ?_
                refine X.pickF rfl rfl rfl rfl rfl rfl ?_
                refine X.done [(2, _), (7, _), (9, _), (11, _), (48, _), (49, _), (50, _), (51, _), (52, _), (53, _), (54, _), (55, _), (56, _), (57, _), (58, _), (59, _), (62, _), (63, _), (64, _), (65, _), (66, _), (12, _), (67, _), (68, _), (69, _), (70, _), (71, _), (78, _), (77, _), (100, _), (99, _), (109, _), (108, _), (118, _), (117, _), (124, _), (123, _), (126, _), (127, _), (128, _), (125, _), (129, _), (130, _), (17, _), (18, _), (132, _), (133, _), (134, _), (131, _), (135, _), (136, _), (19, _), (20, _), (137, _), (138, _), (139, _), (140, _), (141, _), (142, _), (143, _), (144, _)] ⟨rfl, rfl, rfl, rfl, rfl, rfl, rfl, rfl, rfl, rfl, rfl, rfl, rfl, rfl, rfl, rfl, rfl, rfl, rfl, rfl, rfl, rfl, rfl, rfl, rfl, rfl, rfl, rfl, rfl, rfl, rfl, rfl, rfl, rfl, rfl, rfl, rfl, rfl, rfl, rfl, rfl, rfl, rfl, rfl, rfl, rfl, rfl, rfl, rfl, rfl, rfl, rfl, rfl, rfl, rfl, rfl, rfl, rfl, rfl, rfl, rfl, trivial⟩ ?_
                refine N.then ?_
                refine E.condF rfl ?_
                refine E.skip ?_
                refine N.blk ?_
                refine N.then ?_
                refine E.seq ?_
                refine E.regionD (fun H' => Rrf H' r s _) [(0, .pu), (1, .pu), (2, .pu), (3, .pu), (5, .pu), (6, .pu), (7, .pu), (8, .st), (4, .mk), (9, .pu), (10, .pu), (11, .pu), (12, .pu), (14, .pu), (13, .mk), (15, .mk), (16, .pu), (17, .pu)] Try.mixed (by kernel_rfl) (SF.rf) ?_
                refine X.mv rfl rfl rfl rfl rfl ?_
                refine X.eqlP1 rfl rfl rfl rfl rfl rfl Try.underlying33 ?_
                refine X.mv rfl rfl rfl rfl rfl ?_
                refine X.mv rfl rfl rfl rfl rfl ?_
                refine X.mv rfl rfl rfl rfl rfl ?_
                refine X.nilP rfl rfl rfl rfl rfl ?_
                refine X.fld rfl rfl rfl rfl rfl Try.off60_1 ?_
                refine X.ld rfl rfl rfl rfl Try.ag3 (fun H' hF => hF) (rfl) ?_
                refine X.call rfl rfl rfl rfl rfl Try.cl19 (at_ct _ s _ _ SF.rd ⟨hl5, SF.le⟩) ?_
                rintro _ H20 ⟨rfl, eH20⟩
                obtain rfl := eH20.symm
                refine ⟨SF.rf, ?_⟩
                refine X.neqF rfl rfl rfl rfl rfl rfl (fun h => h rfl) ?_
                refine X.pickF rfl rfl rfl rfl rfl rfl ?_
                refine X.mv rfl rfl rfl rfl rfl ?_
                refine X.mv rfl rfl rfl rfl rfl ?_
                refine X.mv rfl rfl rfl rfl rfl ?_
                refine X.call rfl rfl rfl rfl rfl Try.cl21 (left_ct _ s _ _ SF.rd ⟨hl5, SF.le⟩) ?_
                rintro _ H21 ⟨rfl, eH21⟩
                obtain rfl := eH21.symm
                refine ⟨SF.rf, ?_⟩
                refine X.call rfl rfl rfl rfl rfl Try.cl40 (rleft_ct r s _ _ SF.rf ⟨hl5, SF.le⟩) ?_
                rintro _ H22 ⟨rfl, eH22⟩
                obtain rfl := eH22.symm
                refine ⟨SF.rf, ?_⟩
                refine X.neqF rfl rfl rfl rfl rfl rfl (fun h => h rfl) ?_
                refine X.pickF rfl rfl rfl rfl rfl rfl ?_
                refine X.done [(2, _), (7, _), (9, _), (11, _), (48, _), (49, _), (50, _), (51, _), (52, _), (53, _), (54, _), (55, _), (56, _), (57, _), (58, _), (59, _), (62, _), (63, _), (64, _), (65, _), (66, _), (12, _), (67, _), (68, _), (69, _), (70, _), (71, _), (78, _), (77, _), (100, _), (99, _), (109, _), (108, _), (118, _), (117, _), (124, _), (123, _), (126, _), (127, _), (128, _), (125, _), (129, _), (130, _), (17, _), (18, _), (132, _), (133, _), (134, _), (131, _), (135, _), (136, _), (19, _), (20, _), (137, _), (138, _), (139, _), (140, _), (141, _), (142, _), (143, _), (144, _), (145, _), (146, _), (147, _), (148, _), (150, _), (151, _), (152, _), (153, _), (149, _), (154, _), (155, _), (156, _), (157, _), (159, _), (158, _), (160, _), (161, _), (162, _)] ⟨rfl, rfl, rfl, rfl, rfl, rfl, rfl, rfl, rfl, rfl, rfl, rfl, rfl, rfl, rfl, rfl, rfl, rfl, rfl, rfl, rfl, rfl, rfl, rfl, rfl, rfl, rfl, rfl, rfl, rfl, rfl, rfl, rfl, rfl, rfl, rfl, rfl, rfl, rfl, rfl, rfl, rfl, rfl, rfl, rfl, rfl, rfl, rfl, rfl, rfl, rfl, rfl, rfl, rfl, rfl, rfl, rfl, rfl, rfl, rfl, rfl, rfl, rfl, rfl, rfl, rfl, rfl, rfl, rfl, rfl, rfl, rfl, rfl, rfl, rfl, rfl, rfl, rfl, rfl, trivial⟩ ?_
                refine N.then ?_
                refine E.condF rfl ?_
                refine E.skip ?_
                refine N.blk ?_
                refine N.then ?_
                refine E.region ?_
                refine X.mv rfl rfl rfl rfl rfl ?_
                refine X.add rfl rfl rfl rfl rfl rfl (by omega) ?_
                refine X.asg rfl rfl rfl rfl rfl ?_
                refine X.done [(2, _), (7, _), (9, _), (11, _), (48, _), (49, _), (50, _), (51, _), (52, _), (53, _), (54, _), (55, _), (56, _), (57, _), (58, _), (59, _), (62, _), (63, _), (64, _), (65, _), (66, _), (12, _), (67, _), (68, _), (69, _), (70, _), (71, _), (78, _), (77, _), (100, _), (99, _), (109, _), (108, _), (118, _), (117, _), (124, _), (123, _), (126, _), (127, _), (128, _), (125, _), (129, _), (130, _), (17, _), (18, _), (132, _), (133, _), (134, _), (131, _), (135, _), (136, _), (19, _), (20, _), (137, _), (138, _), (139, _), (140, _), (141, _), (142, _), (143, _), (144, _), (145, _), (146, _), (147, _), (148, _), (150, _), (151, _), (152, _), (153, _), (149, _), (154, _), (155, _), (156, _), (157, _), (159, _), (158, _), (160, _), (161, _), (162, _), (60, _), (61, _)] ⟨rfl, rfl, rfl, rfl, rfl, rfl, rfl, rfl, rfl, rfl, rfl, rfl, rfl, rfl, rfl, rfl, rfl, rfl, rfl, rfl, rfl, rfl, rfl, rfl, rfl, rfl, rfl, rfl, rfl, rfl, rfl, rfl, rfl, rfl, rfl, rfl, rfl, rfl, rfl, rfl, rfl, rfl, rfl, rfl, rfl, rfl, rfl, rfl, rfl, rfl, rfl, rfl, rfl, rfl, rfl, rfl, rfl, rfl, rfl, rfl, rfl, rfl, rfl, rfl, rfl, rfl, rfl, rfl, rfl, rfl, rfl, rfl, rfl, rfl, rfl, rfl, rfl, rfl, rfl, rfl, rfl, trivial⟩ ?_
                exact N.next (G := fun (q : Nat × Nat) => _) (i + 1, _) ⟨rfl, rfl, rfl, rfl, trivial⟩ ⟨by show i + 1 ≤ xs.length; omega, _, SF⟩ (by show xs.length - (i + 1) < xs.length - i; omega)
              · refine E.seq ?_
                refine E.region ?_
                refine X.mv rfl rfl rfl rfl rfl ?_
                refine X.call rfl rfl rfl rfl rfl Try.cl39 (copy_ct p s t H3 S3.rd ⟨hl5, S3.le⟩) ?_
                rintro _ H4 ⟨p4, rfl, hp4, hR4, hk4⟩
                refine X.asg rfl rfl rfl rfl rfl ?_
                refine X.done [(2, _), (7, _), (9, _), (11, _), (48, _), (49, _), (50, _), (51, _), (52, _), (53, _), (54, _), (55, _), (56, _), (57, _), (58, _), (59, _), (62, _), (63, _), (64, _), (65, _), (66, _), (12, _), (67, _), (68, _), (69, _), (70, _), (71, _), (78, _), (77, _), (100, _), (99, _), (109, _), (108, _), (118, _), (117, _), (124, _), (123, _), (72, _), (73, _), (21, _)] ⟨rfl, rfl, rfl, rfl, rfl, rfl, rfl, rfl, rfl, rfl, rfl, rfl, rfl, rfl, rfl, rfl, rfl, rfl, rfl, rfl, rfl, rfl, rfl, rfl, rfl, rfl, rfl, rfl, rfl, rfl, rfl, rfl, rfl, rfl, rfl, rfl, rfl, rfl, rfl, rfl, trivial⟩ ?_
                refine N.then ?_
                refine E.seq ?_
                refine E.region ?_
                refine X.mv rfl rfl rfl rfl rfl ?_
                refine X.call rfl rfl rfl rfl rfl Try.cl33 (skip_all p s t H4 (hk4.keep S3.rd (by simp)) ⟨hl5, S3.le⟩ 1) ?_
                rintro _ H5 ⟨rfl, hR5, hk5⟩
                have hpp4 : p ≠ p4 := ne_of_ge S3.rd hp4
                have hrp4 : r ≠ p4 := ne_of_ge S3.rf hp4
                have SF : SR H H5 s p4 r t := ⟨hk5.keep hR4 (by simp; exact Ne.symm hpp4), hk5.keep (hk4.keep S3.rf (by simp)) (by simp; exact Ne.symm S3.ne), S3.le, Ne.symm hrp4, (S3.kp.trans hk4 (by simp)).trans hk5 (by simp; exact S3.np), Nat.le_trans S3.kp.size hp4, S3.nr⟩
                refine X.done [(2, _), (7, _), (9, _), (11, _), (48, _), (49, _), (50, _), (51, _), (52, _), (53, _), (54, _), (55, _), (56, _), (57, _), (58, _), (59, _), (62, _), (63, _), (64, _), (65, _), (66, _), (12, _), (67, _), (68, _), (69, _), (70, _), (71, _), (78, _), (77, _), (100, _), (99, _), (109, _), (108, _), (118, _), (117, _), (124, _), (123, _), (72, _), (73, _), (21, _), (74, _)] ⟨rfl, rfl, rfl, rfl, rfl, rfl, rfl, rfl, rfl, rfl, rfl, rfl, rfl, rfl, rfl, rfl, rfl, rfl, rfl, rfl, rfl, rfl, rfl, rfl, rfl, rfl, rfl, rfl, rfl, rfl, rfl, rfl, rfl, rfl, rfl, rfl, rfl, rfl, rfl, rfl, rfl, trivial⟩ ?_
                refine N.then ?_
                refine E.region ?_
                refine X.mv rfl rfl rfl rfl rfl ?_
                refine X.asg rfl rfl rfl rfl rfl ?_
                refine X.done [(2, _), (7, _), (9, _), (11, _), (48, _), (49, _), (50, _), (51, _), (52, _), (53, _), (54, _), (55, _), (56, _), (57, _), (58, _), (59, _), (62, _), (63, _), (64, _), (65, _), (66, _), (12, _), (67, _), (68, _), (69, _), (70, _), (71, _), (78, _), (77, _), (100, _), (99, _), (109, _), (108, _), (118, _), (117, _), (124, _), (123, _), (72, _), (73, _), (21, _), (74, _), (76, _)] ⟨rfl, rfl, rfl, rfl, rfl, rfl, rfl, rfl, rfl, rfl, rfl, rfl, rfl, rfl, rfl, rfl, rfl, rfl, rfl, rfl, rfl, rfl, rfl, rfl, rfl, rfl, rfl, rfl, rfl, rfl, rfl, rfl, rfl, rfl, rfl, rfl, rfl, rfl, rfl, rfl, rfl, rfl, trivial⟩ ?_
                refine N.blk ?_
                refine N.then ?_
                refine E.seq ?_
                refine E.regionD (fun H' => Rrf H' r s _) [(0, .pu), (1, .pu), (2, .pu), (3, .pu), (5, .pu), (6, .pu), (7, .pu), (8, .st), (4, .mk), (9, .pu), (10, .pu), (11, .pu), (12, .pu), (14, .pu), (13, .mk), (15, .mk), (16, .pu), (17, .pu)] Try.mixed (by kernel_rfl) (SF.rf) ?_
                refine X.mv rfl rfl rfl rfl rfl ?_
                refine X.eqlP1 rfl rfl rfl rfl rfl rfl Try.underlying33 ?_
                refine X.mv rfl rfl rfl rfl rfl ?_
                refine X.mv rfl rfl rfl rfl rfl ?_
                refine X.mv rfl rfl rfl rfl rfl ?_
                refine X.nilP rfl rfl rfl rfl rfl ?_
                refine X.fld rfl rfl rfl rfl rfl Try.off60_1 ?_
                refine X.ld rfl rfl rfl rfl Try.ag3 (fun H' hF => hF) (rfl) ?_
                refine X.call rfl rfl rfl rfl rfl Try.cl19 (at_ct _ s _ _ SF.rd ⟨hl5, SF.le⟩) ?_
                rintro _ H20 ⟨rfl, eH20⟩
                obtain rfl := eH20.symm
                refine ⟨SF.rf, ?_⟩
                refine X.neqF rfl rfl rfl rfl rfl rfl (fun h => h rfl) ?_
                refine X.pickF rfl rfl rfl rfl rfl rfl ?_
                refine X.mv rfl rfl rfl rfl rfl ?_
                refine X.mv rfl rfl rfl rfl rfl ?_
                refine X.mv rfl rfl rfl rfl rfl ?_
                refine X.call rfl rfl rfl rfl rfl Try.cl21 (left_ct _ s _ _ SF.rd ⟨hl5, SF.le⟩) ?_
                rintro _ H21 ⟨rfl, eH21⟩
                obtain rfl := eH21.symm
                refine ⟨SF.rf, ?_⟩
                refine X.call rfl rfl rfl rfl rfl Try.cl40 (rleft_ct r s _ _ SF.rf ⟨hl5, SF.le⟩) ?_
                rintro _ H22 ⟨rfl, eH22⟩
                obtain rfl := eH22.symm
                refine ⟨SF.rf, ?_⟩
                refine X.neqF rfl rfl rfl rfl rfl rfl (fun h => h rfl) ?_
                refine X.pickF rfl rfl rfl rfl rfl rfl ?_
                refine X.done [(2, _), (7, _), (9, _), (11, _), (48, _), (49, _), (50, _), (51, _), (52, _), (53, _), (54, _), (55, _), (56, _), (57, _), (58, _), (59, _), (62, _), (63, _), (64, _), (65, _), (66, _), (12, _), (67, _), (68, _), (69, _), (70, _), (71, _), (78, _), (77, _), (100, _), (99, _), (109, _), (108, _), (118, _), (117, _), (124, _), (123, _), (72, _), (73, _), (21, _), (74, _), (76, _), (145, _), (146, _), (147, _), (148, _), (150, _), (151, _), (152, _), (153, _), (149, _), (154, _), (155, _), (156, _), (157, _), (159, _), (158, _), (160, _), (161, _), (162, _)] ⟨rfl, rfl, rfl, rfl, rfl, rfl, rfl, rfl, rfl, rfl, rfl, rfl, rfl, rfl, rfl, rfl, rfl, rfl, rfl, rfl, rfl, rfl, rfl, rfl, rfl, rfl, rfl, rfl, rfl, rfl, rfl, rfl, rfl, rfl, rfl, rfl, rfl, rfl, rfl, rfl, rfl, rfl, rfl, rfl, rfl, rfl, rfl, rfl, rfl, rfl, rfl, rfl, rfl, rfl, rfl, rfl, rfl, rfl, rfl, rfl, trivial⟩ ?_
                refine N.then ?_
                refine E.condF rfl ?_
                refine E.skip ?_
                refine N.blk ?_
                refine N.then ?_
                refine E.region ?_
                refine X.mv rfl rfl rfl rfl rfl ?_
                refine X.add rfl rfl rfl rfl rfl rfl (by omega) ?_
                refine X.asg rfl rfl rfl rfl rfl ?_
                refine X.done [(2, _), (7, _), (9, _), (11, _), (48, _), (49, _), (50, _), (51, _), (52, _), (53, _), (54, _), (55, _), (56, _), (57, _), (58, _), (59, _), (62, _), (63, _), (64, _), (65, _), (66, _), (12, _), (67, _), (68, _), (69, _), (70, _), (71, _), (78, _), (77, _), (100, _), (99, _), (109, _), (108, _), (118, _), (117, _), (124, _), (123, _), (72, _), (73, _), (21, _), (74, _), (76, _), (145, _), (146, _), (147, _), (148, _), (150, _), (151, _), (152, _), (153, _), (149, _), (154, _), (155, _), (156, _), (157, _), (159, _), (158, _), (160, _), (161, _), (162, _), (60, _), (61, _)] ⟨rfl, rfl, rfl, rfl, rfl, rfl, rfl, rfl, rfl, rfl, rfl, rfl, rfl, rfl, rfl, rfl, rfl, rfl, rfl, rfl, rfl, rfl, rfl, rfl, rfl, rfl, rfl, rfl, rfl, rfl, rfl, rfl, rfl, rfl, rfl, rfl, rfl, rfl, rfl, rfl, rfl, rfl, rfl, rfl, rfl, rfl, rfl, rfl, rfl, rfl, rfl, rfl, rfl, rfl, rfl, rfl, rfl, rfl, rfl, rfl, rfl, rfl, trivial⟩ ?_
                exact N.next (G := fun (q : Nat × Nat) => _) (i + 1, _) ⟨rfl, rfl, rfl, rfl, trivial⟩ ⟨by show i + 1 ≤ xs.length; omega, _, SF⟩ (by show xs.length - (i + 1) < xs.length - i; omega)
    · refine X.pickT rfl rfl rfl rfl rfl rfl ?_
      refine X.mv rfl rfl rfl rfl rfl ?_
      refine X.skip rfl rfl rfl ?_
      refine X.skip rfl rfl rfl ?_
      refine X.pickF rfl rfl rfl rfl rfl rfl ?_
      refine X.done [(2, _), (7, _), (9, _), (11, _), (48, _), (49, _), (50, _), (51, _), (52, _), (53, _), (54, _), (55, _), (56, _), (57, _), (58, _), (59, _)] ⟨rfl, rfl, rfl, rfl, rfl, rfl, rfl, rfl, rfl, rfl, rfl, rfl, rfl, rfl, rfl, rfl, trivial⟩ ?_
      refine N.then ?_
      refine E.condF rfl ?_
      refine E.exit ?_
      refine N.thenX ?_
      refine N.loopX ?_
      refine N.blkX ?_
      refine N.then ?_
      refine E.seq ?_
      refine E.region ?_
      refine X.call rfl rfl rfl rfl rfl Try.cl11 (known_ct H3) ?_
      rintro _ HK ⟨rfl, hkK⟩
      refine X.asg rfl rfl rfl rfl rfl ?_
      refine X.done [(6, _)] ⟨rfl, trivial⟩ ?_
      refine N.then ?_
      refine E.ret ?_
      exact N.retH [_] ⟨_, _, rfl, rfl, rfl⟩ ⟨rfl, S3.kp.trans hkK (by simp)⟩
  · refine X.mv rfl rfl rfl rfl rfl ?_
    refine X.skip rfl rfl rfl ?_
    refine X.skip rfl rfl rfl ?_
    refine X.pickF rfl rfl rfl rfl rfl rfl ?_
    refine X.mv rfl rfl rfl rfl rfl ?_
    refine X.skip rfl rfl rfl ?_
    refine X.skip rfl rfl rfl ?_
    refine X.pickF rfl rfl rfl rfl rfl rfl ?_
    refine X.done [(2, _), (7, _), (9, _), (11, _), (48, _), (49, _), (50, _), (51, _), (52, _), (53, _), (54, _), (55, _), (56, _), (57, _), (58, _), (59, _)] ⟨rfl, rfl, rfl, rfl, rfl, rfl, rfl, rfl, rfl, rfl, rfl, rfl, rfl, rfl, rfl, rfl, trivial⟩ ?_
    refine N.then ?_
    refine E.condF rfl ?_
    refine E.exit ?_
    refine N.thenX ?_
    refine N.loopX ?_
    refine N.blkX ?_
    refine N.then ?_
    refine E.seq ?_
    refine E.region ?_
    refine X.call rfl rfl rfl rfl rfl Try.cl11 (known_ct H3) ?_
    rintro _ HK ⟨rfl, hkK⟩
    refine X.asg rfl rfl rfl rfl rfl ?_
    refine X.done [(6, _)] ⟨rfl, trivial⟩ ?_
    refine N.then ?_
    refine E.ret ?_
    exact N.retH [_] ⟨_, _, rfl, rfl, rfl⟩ ⟨rfl, S3.kp.trans hkK (by simp)⟩


theorem reads_ct (s : Bs) (at0 : Int) (a : Option Addr) (c : Nat) (xs : List OpR) (H : Heap) (hS : Rd H 2 (.slice a xs.length c) xs.length (xs.flatMap opr)) (hcx : xs.length ≤ c ∧ c ≤ maxLen) : Ct Try.prog 7 #[str s, i64 at0, .slice a xs.length c] H fun v H' => v = .bool true ∧ Kp [] H H' := by
  by_cases h0 : 10000 < s.length
  · exact reads_long s at0 a c xs H hS hcx h0
  · by_cases h1 : at0 < 0
    · exact reads_bad0 s at0 a c xs H hS hcx (by omega) h1
    · by_cases h2 : 8 * (s.length : Int) < at0
      · exact reads_bad1 s at0 a c xs H hS hcx (by omega) h2
      · obtain ⟨t, rfl⟩ := Int.eq_ofNat_of_zero_le (show 0 ≤ at0 by omega)
        exact reads_ok s t a c xs H hS hcx (by omega) (by omega)

theorem parts_long (s : Bs) (at0 : Int) (pa pb : Nat) (H : Heap) (ha0 : -9223372036854775808 ≤ at0 ∧ at0 ≤ 9223372036854775807) (hpa : pa ≤ 255) (hpb : pb ≤ 255) (hl : 10000 < s.length) : Ct Try.prog 5 #[str s, i64 at0, .agg [Value.int .u8 (pa : Int), Value.int .u8 (pb : Int)].toArray] H fun v H' => v = .bool true ∧ Kp [] H H' := by
  refine Ct.into 146 Try.func5 rfl [(0, str s), (1, i64 at0), (2, .agg [Value.int .u8 (pa : Int), Value.int .u8 (pb : Int)].toArray)] rfl ⟨rfl, rfl, rfl, trivial⟩ ?_
  refine E.seq ?_
  refine E.region ?_
  refine X.box rfl rfl rfl rfl rfl rfl ?_
  intro b5 H5 hn5 hb5 hk5
  refine X.asg rfl rfl rfl rfl rfl ?_
  refine X.done [(0, _), (1, _), (5, _), (6, _)] ⟨rfl, rfl, rfl, rfl, trivial⟩ ?_
  refine N.then ?_
  refine E.seq ?_
  refine E.seq ?_
  refine E.region ?_
  refine X.mv rfl rfl rfl rfl rfl ?_
  refine X.lenL rfl rfl rfl rfl rfl Try.underlying9 ?_
  refine X.gtrT rfl rfl rfl rfl rfl rfl (by omega) ?_
  refine X.done [(0, _), (1, _), (5, _), (6, _), (22, _)] ⟨rfl, rfl, rfl, rfl, rfl, trivial⟩ ?_
  refine N.then ?_
  refine E.condT rfl ?_
  refine E.seq ?_
  refine E.region ?_
  refine X.call rfl rfl rfl rfl rfl Try.cl11 (known_ct H5) ?_
  rintro _ HK ⟨rfl, hkK⟩
  refine X.asg rfl rfl rfl rfl rfl ?_
  refine X.done [(0, _), (1, _), (5, _), (6, _)] ⟨rfl, rfl, rfl, rfl, trivial⟩ ?_
  refine N.then ?_
  refine E.ret ?_
  refine N.thenR ?_
  exact N.retH [_] ⟨_, _, rfl, rfl, rfl⟩ ⟨rfl, hk5.trans hkK (by simp)⟩

theorem parts1a (s : Bs) (at0 : Int) (pa pb : Nat) (H : Heap) (ha0 : -9223372036854775808 ≤ at0 ∧ at0 ≤ 9223372036854775807) (hpa : pa ≤ 255) (hpb : pb ≤ 255) (hl : s.length ≤ 10000) (hcase : ∀ k u w : Nat, cnt at0 (8 * s.length + 1) = k → pa % 17 = u → pb % 17 = w → 8 * s.length - k < u ∧ w ≤ 8 * s.length - k) : Ct Try.prog 5 #[str s, i64 at0, .agg [Value.int .u8 (pa : Int), Value.int .u8 (pb : Int)].toArray] H fun v H' => v = .bool true ∧ Kp [] H H' := by
  obtain ⟨k, hk⟩ := Int.eq_ofNat_of_zero_le (cnt_bd at0 (8 * s.length + 1) (by omega)).1
  have hk2 := (cnt_bd at0 (8 * s.length + 1) (by omega)).2
  rw [hk] at hk2
  have cK : ∀ H, Ct Try.prog 22 #[i64 at0, i64 ((8 * s.length + 1 : Nat) : Int)] H fun v H' => v = i64 (k : Int) ∧ H' = H := by
    intro H; have h := count_ct at0 (8 * s.length + 1) H ha0 (by omega); rw [hk] at h; exact h
  obtain ⟨u, hu⟩ : ∃ u, pa % 17 = u := ⟨_, rfl⟩
  obtain ⟨w, hw⟩ : ∃ w, pb % 17 = w := ⟨_, rfl⟩
  have hu16 : u ≤ 16 := by omega
  have hw16 : w ≤ 16 := by omega
  have hlk : s.length ≤ 100000 ∧ k ≤ 8 * s.length := by omega
  have HC := hcase k u w hk hu hw
  refine Ct.into 146 Try.func5 rfl [(0, str s), (1, i64 at0), (2, .agg [Value.int .u8 (pa : Int), Value.int .u8 (pb : Int)].toArray)] rfl ⟨rfl, rfl, rfl, trivial⟩ ?_
  refine E.seq ?_
  refine E.region ?_
  refine X.box rfl rfl rfl rfl rfl rfl ?_
  intro b5 H5 hn5 hb5 hk5
  refine X.asg rfl rfl rfl rfl rfl ?_
  refine X.done [(0, _), (1, _), (5, _), (6, _)] ⟨rfl, rfl, rfl, rfl, trivial⟩ ?_
  refine N.then ?_
  refine E.seq ?_
  refine E.seq ?_
  refine E.region ?_
  refine X.mv rfl rfl rfl rfl rfl ?_
  refine X.lenL rfl rfl rfl rfl rfl Try.underlying9 ?_
  refine X.gtrF rfl rfl rfl rfl rfl rfl (by omega) ?_
  refine X.done [(0, _), (1, _), (5, _), (6, _), (22, _)] ⟨rfl, rfl, rfl, rfl, rfl, trivial⟩ ?_
  refine N.then ?_
  refine E.condF rfl ?_
  refine E.skip ?_
  refine N.then ?_
  refine E.seq ?_
  refine E.region ?_
  refine X.mv rfl rfl rfl rfl rfl ?_
  refine X.mv rfl rfl rfl rfl rfl ?_
  refine X.lenL rfl rfl rfl rfl rfl Try.underlying9 ?_
  refine X.mulE (zz := ((8 * s.length : Nat) : Int)) rfl rfl rfl rfl rfl rfl (by rw [IntWalk.i64_in _ (by omega)] <;> omega) ?_
  refine X.addE (zz := ((8 * s.length + 1 : Nat) : Int)) rfl rfl rfl rfl rfl rfl (by rw [IntWalk.i64_in _ (by omega)] <;> omega) ?_
  refine X.call rfl rfl rfl rfl rfl Try.cl22 (cK H5) ?_
  rintro _ H6 ⟨rfl, eH6⟩
  obtain rfl := eH6.symm
  refine X.asg rfl rfl rfl rfl rfl ?_
  refine X.done [(0, _), (5, _), (6, _), (7, _)] ⟨rfl, rfl, rfl, rfl, trivial⟩ ?_
  refine N.then ?_
  refine E.seq ?_
  refine E.region ?_
  refine X.ixP rfl rfl rfl rfl rfl rfl Try.underlying42 Try.sz5 (by omega) ?_
  refine X.ld rfl rfl rfl rfl Try.ag5 (hb5) (rfl) ?_
  refine X.convE (zz := (pa : Int)) rfl rfl rfl rfl rfl Try.underlying3 Try.us5 (IntWalk.i64_in _ (by omega)) ?_
  refine X.remE (zz := (u : Int)) rfl rfl rfl rfl rfl rfl (by omega) (by rw [IntWalk.rem_in _ _ (by omega)] <;> omega) ?_
  refine X.asg rfl rfl rfl rfl rfl ?_
  refine X.done [(0, _), (5, _), (6, _), (7, _), (8, _)] ⟨rfl, rfl, rfl, rfl, rfl, trivial⟩ ?_
  refine N.then ?_
  refine E.seq ?_
  refine E.region ?_
  refine X.ixP rfl rfl rfl rfl rfl rfl Try.underlying42 Try.sz5 (by omega) ?_
  refine X.ld rfl rfl rfl rfl Try.ag5 (hb5) (rfl) ?_
  refine X.convE (zz := (pb : Int)) rfl rfl rfl rfl rfl Try.underlying3 Try.us5 (IntWalk.i64_in _ (by omega)) ?_
  refine X.remE (zz := (w : Int)) rfl rfl rfl rfl rfl rfl (by omega) (by rw [IntWalk.rem_in _ _ (by omega)] <;> omega) ?_
  refine X.asg rfl rfl rfl rfl rfl ?_
  refine X.done [(0, _), (6, _), (7, _), (8, _), (9, _)] ⟨rfl, rfl, rfl, rfl, rfl, trivial⟩ ?_
  refine N.then ?_
  refine E.seq ?_
  refine E.region ?_
  refine X.mv rfl rfl rfl rfl rfl ?_
  refine X.mv rfl rfl rfl rfl rfl ?_
  refine X.call rfl rfl rfl rfl rfl Try.cl15 (new_ct s k H5 hlk.1 hlk.2) ?_
  rintro _ H1 ⟨p, rfl, hp, hR1, hk1⟩
  refine X.mv rfl rfl rfl rfl rfl ?_
  refine X.extract rfl rfl rfl rfl rfl rfl ?_
  refine X.extract rfl rfl rfl rfl rfl rfl ?_
  refine X.asg rfl rfl rfl rfl rfl ?_
  refine X.asg rfl rfl rfl rfl rfl ?_
  refine X.done [(0, _), (6, _), (7, _), (8, _), (9, _), (10, _), (11, _)] ⟨rfl, rfl, rfl, rfl, rfl, rfl, rfl, trivial⟩ ?_
  refine N.then ?_
  refine E.seq ?_
  refine E.region ?_
  refine X.mv rfl rfl rfl rfl rfl ?_
  refine X.mv rfl rfl rfl rfl rfl ?_
  refine X.call rfl rfl rfl rfl rfl Try.cl15 (new_ct s k H1 hlk.1 hlk.2) ?_
  rintro _ H2 ⟨r, rfl, hr, hR2, hk2⟩
  have hpr : p ≠ r := ne_of_ge hR1 hr
  have hRp := hk2.keep hR1 (by simp)
  have hkA : Kp [] H H2 := (hk5.trans hk1 (by simp)).trans hk2 (by simp)
  have hnp : H.size ≤ p := Nat.le_trans hk5.size hp
  have hnr : H.size ≤ r := Nat.le_trans (Nat.le_trans hk5.size hk1.size) hr
  refine X.mv rfl rfl rfl rfl rfl ?_
  refine X.extract rfl rfl rfl rfl rfl rfl ?_
  refine X.extract rfl rfl rfl rfl rfl rfl ?_
  refine X.asg rfl rfl rfl rfl rfl ?_
  refine X.asg rfl rfl rfl rfl rfl ?_
  refine X.done [(0, _), (6, _), (7, _), (8, _), (9, _), (10, _), (11, _), (12, _), (13, _)] ⟨rfl, rfl, rfl, rfl, rfl, rfl, rfl, rfl, rfl, trivial⟩ ?_
  refine N.then ?_
  refine E.seq ?_
  refine E.seq ?_
  refine E.region ?_
  refine X.mv rfl rfl rfl rfl rfl ?_
  refine X.neqF rfl rfl rfl rfl rfl rfl (fun h => h rfl) ?_
  refine X.mv rfl rfl rfl rfl rfl ?_
  refine X.mv rfl rfl rfl rfl rfl ?_
  refine X.neqF rfl rfl rfl rfl rfl rfl (fun h => h rfl) ?_
  refine X.pickF rfl rfl rfl rfl rfl rfl ?_
  refine X.mv rfl rfl rfl rfl rfl ?_
  refine X.mv rfl rfl rfl rfl rfl ?_
  refine X.eqlP1 rfl rfl rfl rfl rfl rfl Try.underlying33 ?_
  refine X.pickF rfl rfl rfl rfl rfl rfl ?_
  refine X.mv rfl rfl rfl rfl rfl ?_
  refine X.mv rfl rfl rfl rfl rfl ?_
  refine X.eqlP1 rfl rfl rfl rfl rfl rfl Try.underlying33 ?_
  refine X.pickF rfl rfl rfl rfl rfl rfl ?_
  refine X.done [(0, _), (6, _), (7, _), (8, _), (9, _), (10, _), (12, _), (63, _)] ⟨rfl, rfl, rfl, rfl, rfl, rfl, rfl, rfl, trivial⟩ ?_
  refine N.then ?_
  refine E.condF rfl ?_
  refine E.skip ?_
  refine N.then ?_
  refine E.seq ?_
  refine E.region ?_
  refine X.mv rfl rfl rfl rfl rfl ?_
  refine X.mv rfl rfl rfl rfl rfl ?_
  refine X.call rfl rfl rfl rfl rfl Try.cl18 (bits_far_ct p s k H2 hRp hlk u (by omega) HC.1) ?_
  rintro _ H3 ⟨rfl, eH3⟩
  obtain rfl := eH3.symm
  refine X.mv rfl rfl rfl rfl rfl ?_
  refine X.extract rfl rfl rfl rfl rfl rfl ?_
  refine X.extract rfl rfl rfl rfl rfl rfl ?_
  refine X.asg rfl rfl rfl rfl rfl ?_
  refine X.asg rfl rfl rfl rfl rfl ?_
  refine X.done [(0, _), (6, _), (7, _), (8, _), (9, _), (10, _), (12, _), (14, _), (15, _)] ⟨rfl, rfl, rfl, rfl, rfl, rfl, rfl, rfl, rfl, trivial⟩ ?_
  refine N.then ?_
  refine E.seq ?_
  refine E.region ?_
  refine X.mv rfl rfl rfl rfl rfl ?_
  refine X.mv rfl rfl rfl rfl rfl ?_
  refine X.call rfl rfl rfl rfl rfl Try.cl18 (bits_ct p s k H2 hRp hlk w (by omega) HC.2) ?_
  rintro _ H4 ⟨rfl, hR4, hk4⟩
  have hRr := hk4.keep hR2 (by simp; exact Ne.symm hpr)
  have hkA := hkA.trans hk4 (by simp; exact hnp)
  refine X.mv rfl rfl rfl rfl rfl ?_
  refine X.extract rfl rfl rfl rfl rfl rfl ?_
  refine X.extract rfl rfl rfl rfl rfl rfl ?_
  refine X.asg rfl rfl rfl rfl rfl ?_
  refine X.asg rfl rfl rfl rfl rfl ?_
  refine X.done [(0, _), (6, _), (7, _), (8, _), (9, _), (10, _), (12, _), (14, _), (15, _), (16, _), (17, _)] ⟨rfl, rfl, rfl, rfl, rfl, rfl, rfl, rfl, rfl, rfl, rfl, trivial⟩ ?_
  refine N.then ?_
  refine E.seq ?_
  refine E.region ?_
  refine X.mv rfl rfl rfl rfl rfl ?_
  refine X.mv rfl rfl rfl rfl rfl ?_
  refine X.mv rfl rfl rfl rfl rfl ?_
  refine X.addE (zz := ((u + w : Nat) : Int)) rfl rfl rfl rfl rfl rfl (by rw [IntWalk.i64_in _ (by omega)] <;> omega) ?_
  refine X.call rfl rfl rfl rfl rfl Try.cl18 (bits_far_ct r s k H4 hRr hlk (u + w) (by omega) (by omega)) ?_
  rintro _ H8 ⟨rfl, eH8⟩
  obtain rfl := eH8.symm
  refine X.mv rfl rfl rfl rfl rfl ?_
  refine X.extract rfl rfl rfl rfl rfl rfl ?_
  refine X.extract rfl rfl rfl rfl rfl rfl ?_
  refine X.asg rfl rfl rfl rfl rfl ?_
  refine X.asg rfl rfl rfl rfl rfl ?_
  refine X.done [(0, _), (6, _), (7, _), (8, _), (9, _), (10, _), (12, _), (14, _), (15, _), (16, _), (17, _), (18, _), (19, _)] ⟨rfl, rfl, rfl, rfl, rfl, rfl, rfl, rfl, rfl, rfl, rfl, rfl, rfl, trivial⟩ ?_
  refine N.then ?_
  refine E.seq ?_
  refine E.seq ?_
  refine E.region ?_
  refine X.mv rfl rfl rfl rfl rfl ?_
  refine X.mv rfl rfl rfl rfl rfl ?_
  refine X.addE (zz := ((u + w : Nat) : Int)) rfl rfl rfl rfl rfl rfl (by rw [IntWalk.i64_in _ (by omega)] <;> omega) ?_
  refine X.mv rfl rfl rfl rfl rfl ?_
  refine X.lenL rfl rfl rfl rfl rfl Try.underlying9 ?_
  refine X.mulE (zz := ((8 * s.length : Nat) : Int)) rfl rfl rfl rfl rfl rfl (by rw [IntWalk.i64_in _ (by omega)] <;> omega) ?_
  refine X.mv rfl rfl rfl rfl rfl ?_
  refine X.sbE (zz := ((8 * s.length - k : Nat) : Int)) rfl rfl rfl rfl rfl rfl (by rw [IntWalk.i64_in _ (by omega)] <;> omega) ?_
  refine X.gtrT rfl rfl rfl rfl rfl rfl (by omega) ?_
  refine X.done [(6, _), (7, _), (8, _), (10, _), (12, _), (14, _), (15, _), (16, _), (17, _), (18, _), (19, _), (92, _)] ⟨rfl, rfl, rfl, rfl, rfl, rfl, rfl, rfl, rfl, rfl, rfl, rfl, trivial⟩ ?_
  refine N.then ?_
  refine E.condT rfl ?_
  refine E.seq ?_
  refine E.region ?_
  refine X.mv rfl rfl rfl rfl rfl ?_
  refine X.eqlT rfl rfl rfl rfl rfl rfl (rfl) ?_
  refine X.mv rfl rfl rfl rfl rfl ?_
  refine X.mv rfl rfl rfl rfl rfl ?_
  refine X.eqlT rfl rfl rfl rfl rfl rfl (rfl) ?_
  refine X.pickT rfl rfl rfl rfl rfl rfl ?_
  refine X.mv rfl rfl rfl rfl rfl ?_
  refine X.mv rfl rfl rfl rfl rfl ?_
  refine X.call rfl rfl rfl rfl rfl Try.cl19 (at_ct r s k H4 hRr hlk) ?_
  rintro _ H9 ⟨rfl, eH9⟩
  obtain rfl := eH9.symm
  refine X.mv rfl rfl rfl rfl rfl ?_
  refine X.eqlT rfl rfl rfl rfl rfl rfl (rfl) ?_
  refine X.pickT rfl rfl rfl rfl rfl rfl ?_
  refine X.mv rfl rfl rfl rfl rfl ?_
  refine X.mv rfl rfl rfl rfl rfl ?_
  refine X.neqT rfl rfl rfl rfl rfl rfl (by decide) ?_
  refine X.mv rfl rfl rfl rfl rfl ?_
  refine X.skip rfl rfl rfl ?_
  refine X.skip rfl rfl rfl ?_
  refine X.pickT rfl rfl rfl rfl rfl rfl ?_
  refine X.pickT rfl rfl rfl rfl rfl rfl ?_
  refine X.mv rfl rfl rfl rfl rfl ?_
  refine X.call rfl rfl rfl rfl rfl Try.cl11 (known_ct H4) ?_
  rintro _ HK ⟨rfl, hkK⟩
  refine X.pickT rfl rfl rfl rfl rfl rfl ?_
  refine X.asg rfl rfl rfl rfl rfl ?_
  refine X.done [(6, _), (8, _), (10, _), (12, _), (14, _), (15, _), (16, _), (17, _), (18, _), (19, _)] ⟨rfl, rfl, rfl, rfl, rfl, rfl, rfl, rfl, rfl, rfl, trivial⟩ ?_
  refine N.then ?_
  refine E.ret ?_
  refine N.thenR ?_
  exact N.retH [_] ⟨_, _, rfl, rfl, rfl⟩ ⟨rfl, hkA.trans hkK (by simp)⟩

theorem parts1b (s : Bs) (at0 : Int) (pa pb : Nat) (H : Heap) (ha0 : -9223372036854775808 ≤ at0 ∧ at0 ≤ 9223372036854775807) (hpa : pa ≤ 255) (hpb : pb ≤ 255) (hl : s.length ≤ 10000) (hcase : ∀ k u w : Nat, cnt at0 (8 * s.length + 1) = k → pa % 17 = u → pb % 17 = w → 8 * s.length - k < u ∧ 8 * s.length - k < w) : Ct Try.prog 5 #[str s, i64 at0, .agg [Value.int .u8 (pa : Int), Value.int .u8 (pb : Int)].toArray] H fun v H' => v = .bool true ∧ Kp [] H H' := by
  obtain ⟨k, hk⟩ := Int.eq_ofNat_of_zero_le (cnt_bd at0 (8 * s.length + 1) (by omega)).1
  have hk2 := (cnt_bd at0 (8 * s.length + 1) (by omega)).2
  rw [hk] at hk2
  have cK : ∀ H, Ct Try.prog 22 #[i64 at0, i64 ((8 * s.length + 1 : Nat) : Int)] H fun v H' => v = i64 (k : Int) ∧ H' = H := by
    intro H; have h := count_ct at0 (8 * s.length + 1) H ha0 (by omega); rw [hk] at h; exact h
  obtain ⟨u, hu⟩ : ∃ u, pa % 17 = u := ⟨_, rfl⟩
  obtain ⟨w, hw⟩ : ∃ w, pb % 17 = w := ⟨_, rfl⟩
  have hu16 : u ≤ 16 := by omega
  have hw16 : w ≤ 16 := by omega
  have hlk : s.length ≤ 100000 ∧ k ≤ 8 * s.length := by omega
  have HC := hcase k u w hk hu hw
  refine Ct.into 146 Try.func5 rfl [(0, str s), (1, i64 at0), (2, .agg [Value.int .u8 (pa : Int), Value.int .u8 (pb : Int)].toArray)] rfl ⟨rfl, rfl, rfl, trivial⟩ ?_
  refine E.seq ?_
  refine E.region ?_
  refine X.box rfl rfl rfl rfl rfl rfl ?_
  intro b5 H5 hn5 hb5 hk5
  refine X.asg rfl rfl rfl rfl rfl ?_
  refine X.done [(0, _), (1, _), (5, _), (6, _)] ⟨rfl, rfl, rfl, rfl, trivial⟩ ?_
  refine N.then ?_
  refine E.seq ?_
  refine E.seq ?_
  refine E.region ?_
  refine X.mv rfl rfl rfl rfl rfl ?_
  refine X.lenL rfl rfl rfl rfl rfl Try.underlying9 ?_
  refine X.gtrF rfl rfl rfl rfl rfl rfl (by omega) ?_
  refine X.done [(0, _), (1, _), (5, _), (6, _), (22, _)] ⟨rfl, rfl, rfl, rfl, rfl, trivial⟩ ?_
  refine N.then ?_
  refine E.condF rfl ?_
  refine E.skip ?_
  refine N.then ?_
  refine E.seq ?_
  refine E.region ?_
  refine X.mv rfl rfl rfl rfl rfl ?_
  refine X.mv rfl rfl rfl rfl rfl ?_
  refine X.lenL rfl rfl rfl rfl rfl Try.underlying9 ?_
  refine X.mulE (zz := ((8 * s.length : Nat) : Int)) rfl rfl rfl rfl rfl rfl (by rw [IntWalk.i64_in _ (by omega)] <;> omega) ?_
  refine X.addE (zz := ((8 * s.length + 1 : Nat) : Int)) rfl rfl rfl rfl rfl rfl (by rw [IntWalk.i64_in _ (by omega)] <;> omega) ?_
  refine X.call rfl rfl rfl rfl rfl Try.cl22 (cK H5) ?_
  rintro _ H6 ⟨rfl, eH6⟩
  obtain rfl := eH6.symm
  refine X.asg rfl rfl rfl rfl rfl ?_
  refine X.done [(0, _), (5, _), (6, _), (7, _)] ⟨rfl, rfl, rfl, rfl, trivial⟩ ?_
  refine N.then ?_
  refine E.seq ?_
  refine E.region ?_
  refine X.ixP rfl rfl rfl rfl rfl rfl Try.underlying42 Try.sz5 (by omega) ?_
  refine X.ld rfl rfl rfl rfl Try.ag5 (hb5) (rfl) ?_
  refine X.convE (zz := (pa : Int)) rfl rfl rfl rfl rfl Try.underlying3 Try.us5 (IntWalk.i64_in _ (by omega)) ?_
  refine X.remE (zz := (u : Int)) rfl rfl rfl rfl rfl rfl (by omega) (by rw [IntWalk.rem_in _ _ (by omega)] <;> omega) ?_
  refine X.asg rfl rfl rfl rfl rfl ?_
  refine X.done [(0, _), (5, _), (6, _), (7, _), (8, _)] ⟨rfl, rfl, rfl, rfl, rfl, trivial⟩ ?_
  refine N.then ?_
  refine E.seq ?_
  refine E.region ?_
  refine X.ixP rfl rfl rfl rfl rfl rfl Try.underlying42 Try.sz5 (by omega) ?_
  refine X.ld rfl rfl rfl rfl Try.ag5 (hb5) (rfl) ?_
  refine X.convE (zz := (pb : Int)) rfl rfl rfl rfl rfl Try.underlying3 Try.us5 (IntWalk.i64_in _ (by omega)) ?_
  refine X.remE (zz := (w : Int)) rfl rfl rfl rfl rfl rfl (by omega) (by rw [IntWalk.rem_in _ _ (by omega)] <;> omega) ?_
  refine X.asg rfl rfl rfl rfl rfl ?_
  refine X.done [(0, _), (6, _), (7, _), (8, _), (9, _)] ⟨rfl, rfl, rfl, rfl, rfl, trivial⟩ ?_
  refine N.then ?_
  refine E.seq ?_
  refine E.region ?_
  refine X.mv rfl rfl rfl rfl rfl ?_
  refine X.mv rfl rfl rfl rfl rfl ?_
  refine X.call rfl rfl rfl rfl rfl Try.cl15 (new_ct s k H5 hlk.1 hlk.2) ?_
  rintro _ H1 ⟨p, rfl, hp, hR1, hk1⟩
  refine X.mv rfl rfl rfl rfl rfl ?_
  refine X.extract rfl rfl rfl rfl rfl rfl ?_
  refine X.extract rfl rfl rfl rfl rfl rfl ?_
  refine X.asg rfl rfl rfl rfl rfl ?_
  refine X.asg rfl rfl rfl rfl rfl ?_
  refine X.done [(0, _), (6, _), (7, _), (8, _), (9, _), (10, _), (11, _)] ⟨rfl, rfl, rfl, rfl, rfl, rfl, rfl, trivial⟩ ?_
  refine N.then ?_
  refine E.seq ?_
  refine E.region ?_
  refine X.mv rfl rfl rfl rfl rfl ?_
  refine X.mv rfl rfl rfl rfl rfl ?_
  refine X.call rfl rfl rfl rfl rfl Try.cl15 (new_ct s k H1 hlk.1 hlk.2) ?_
  rintro _ H2 ⟨r, rfl, hr, hR2, hk2⟩
  have hpr : p ≠ r := ne_of_ge hR1 hr
  have hRp := hk2.keep hR1 (by simp)
  have hkA : Kp [] H H2 := (hk5.trans hk1 (by simp)).trans hk2 (by simp)
  have hnp : H.size ≤ p := Nat.le_trans hk5.size hp
  have hnr : H.size ≤ r := Nat.le_trans (Nat.le_trans hk5.size hk1.size) hr
  refine X.mv rfl rfl rfl rfl rfl ?_
  refine X.extract rfl rfl rfl rfl rfl rfl ?_
  refine X.extract rfl rfl rfl rfl rfl rfl ?_
  refine X.asg rfl rfl rfl rfl rfl ?_
  refine X.asg rfl rfl rfl rfl rfl ?_
  refine X.done [(0, _), (6, _), (7, _), (8, _), (9, _), (10, _), (11, _), (12, _), (13, _)] ⟨rfl, rfl, rfl, rfl, rfl, rfl, rfl, rfl, rfl, trivial⟩ ?_
  refine N.then ?_
  refine E.seq ?_
  refine E.seq ?_
  refine E.region ?_
  refine X.mv rfl rfl rfl rfl rfl ?_
  refine X.neqF rfl rfl rfl rfl rfl rfl (fun h => h rfl) ?_
  refine X.mv rfl rfl rfl rfl rfl ?_
  refine X.mv rfl rfl rfl rfl rfl ?_
  refine X.neqF rfl rfl rfl rfl rfl rfl (fun h => h rfl) ?_
  refine X.pickF rfl rfl rfl rfl rfl rfl ?_
  refine X.mv rfl rfl rfl rfl rfl ?_
  refine X.mv rfl rfl rfl rfl rfl ?_
  refine X.eqlP1 rfl rfl rfl rfl rfl rfl Try.underlying33 ?_
  refine X.pickF rfl rfl rfl rfl rfl rfl ?_
  refine X.mv rfl rfl rfl rfl rfl ?_
  refine X.mv rfl rfl rfl rfl rfl ?_
  refine X.eqlP1 rfl rfl rfl rfl rfl rfl Try.underlying33 ?_
  refine X.pickF rfl rfl rfl rfl rfl rfl ?_
  refine X.done [(0, _), (6, _), (7, _), (8, _), (9, _), (10, _), (12, _), (63, _)] ⟨rfl, rfl, rfl, rfl, rfl, rfl, rfl, rfl, trivial⟩ ?_
  refine N.then ?_
  refine E.condF rfl ?_
  refine E.skip ?_
  refine N.then ?_
  refine E.seq ?_
  refine E.region ?_
  refine X.mv rfl rfl rfl rfl rfl ?_
  refine X.mv rfl rfl rfl rfl rfl ?_
  refine X.call rfl rfl rfl rfl rfl Try.cl18 (bits_far_ct p s k H2 hRp hlk u (by omega) HC.1) ?_
  rintro _ H3 ⟨rfl, eH3⟩
  obtain rfl := eH3.symm
  refine X.mv rfl rfl rfl rfl rfl ?_
  refine X.extract rfl rfl rfl rfl rfl rfl ?_
  refine X.extract rfl rfl rfl rfl rfl rfl ?_
  refine X.asg rfl rfl rfl rfl rfl ?_
  refine X.asg rfl rfl rfl rfl rfl ?_
  refine X.done [(0, _), (6, _), (7, _), (8, _), (9, _), (10, _), (12, _), (14, _), (15, _)] ⟨rfl, rfl, rfl, rfl, rfl, rfl, rfl, rfl, rfl, trivial⟩ ?_
  refine N.then ?_
  refine E.seq ?_
  refine E.region ?_
  refine X.mv rfl rfl rfl rfl rfl ?_
  refine X.mv rfl rfl rfl rfl rfl ?_
  refine X.call rfl rfl rfl rfl rfl Try.cl18 (bits_far_ct p s k H2 hRp hlk w (by omega) HC.2) ?_
  rintro _ H4 ⟨rfl, eH4⟩
  have hRr : Rdr H4 r s k := by rw [eH4]; exact hR2
  rw [← eH4] at hkA
  refine X.mv rfl rfl rfl rfl rfl ?_
  refine X.extract rfl rfl rfl rfl rfl rfl ?_
  refine X.extract rfl rfl rfl rfl rfl rfl ?_
  refine X.asg rfl rfl rfl rfl rfl ?_
  refine X.asg rfl rfl rfl rfl rfl ?_
  refine X.done [(0, _), (6, _), (7, _), (8, _), (9, _), (10, _), (12, _), (14, _), (15, _), (16, _), (17, _)] ⟨rfl, rfl, rfl, rfl, rfl, rfl, rfl, rfl, rfl, rfl, rfl, trivial⟩ ?_
  refine N.then ?_
  refine E.seq ?_
  refine E.region ?_
  refine X.mv rfl rfl rfl rfl rfl ?_
  refine X.mv rfl rfl rfl rfl rfl ?_
  refine X.mv rfl rfl rfl rfl rfl ?_
  refine X.addE (zz := ((u + w : Nat) : Int)) rfl rfl rfl rfl rfl rfl (by rw [IntWalk.i64_in _ (by omega)] <;> omega) ?_
  refine X.call rfl rfl rfl rfl rfl Try.cl18 (bits_far_ct r s k H4 hRr hlk (u + w) (by omega) (by omega)) ?_
  rintro _ H8 ⟨rfl, eH8⟩
  obtain rfl := eH8.symm
  refine X.mv rfl rfl rfl rfl rfl ?_
  refine X.extract rfl rfl rfl rfl rfl rfl ?_
  refine X.extract rfl rfl rfl rfl rfl rfl ?_
  refine X.asg rfl rfl rfl rfl rfl ?_
  refine X.asg rfl rfl rfl rfl rfl ?_
  refine X.done [(0, _), (6, _), (7, _), (8, _), (9, _), (10, _), (12, _), (14, _), (15, _), (16, _), (17, _), (18, _), (19, _)] ⟨rfl, rfl, rfl, rfl, rfl, rfl, rfl, rfl, rfl, rfl, rfl, rfl, rfl, trivial⟩ ?_
  refine N.then ?_
  refine E.seq ?_
  refine E.seq ?_
  refine E.region ?_
  refine X.mv rfl rfl rfl rfl rfl ?_
  refine X.mv rfl rfl rfl rfl rfl ?_
  refine X.addE (zz := ((u + w : Nat) : Int)) rfl rfl rfl rfl rfl rfl (by rw [IntWalk.i64_in _ (by omega)] <;> omega) ?_
  refine X.mv rfl rfl rfl rfl rfl ?_
  refine X.lenL rfl rfl rfl rfl rfl Try.underlying9 ?_
  refine X.mulE (zz := ((8 * s.length : Nat) : Int)) rfl rfl rfl rfl rfl rfl (by rw [IntWalk.i64_in _ (by omega)] <;> omega) ?_
  refine X.mv rfl rfl rfl rfl rfl ?_
  refine X.sbE (zz := ((8 * s.length - k : Nat) : Int)) rfl rfl rfl rfl rfl rfl (by rw [IntWalk.i64_in _ (by omega)] <;> omega) ?_
  refine X.gtrT rfl rfl rfl rfl rfl rfl (by omega) ?_
  refine X.done [(6, _), (7, _), (8, _), (10, _), (12, _), (14, _), (15, _), (16, _), (17, _), (18, _), (19, _), (92, _)] ⟨rfl, rfl, rfl, rfl, rfl, rfl, rfl, rfl, rfl, rfl, rfl, rfl, trivial⟩ ?_
  refine N.then ?_
  refine E.condT rfl ?_
  refine E.seq ?_
  refine E.region ?_
  refine X.mv rfl rfl rfl rfl rfl ?_
  refine X.eqlT rfl rfl rfl rfl rfl rfl (rfl) ?_
  refine X.mv rfl rfl rfl rfl rfl ?_
  refine X.mv rfl rfl rfl rfl rfl ?_
  refine X.eqlT rfl rfl rfl rfl rfl rfl (rfl) ?_
  refine X.pickT rfl rfl rfl rfl rfl rfl ?_
  refine X.mv rfl rfl rfl rfl rfl ?_
  refine X.mv rfl rfl rfl rfl rfl ?_
  refine X.call rfl rfl rfl rfl rfl Try.cl19 (at_ct r s k H4 hRr hlk) ?_
  rintro _ H9 ⟨rfl, eH9⟩
  obtain rfl := eH9.symm
  refine X.mv rfl rfl rfl rfl rfl ?_
  refine X.eqlT rfl rfl rfl rfl rfl rfl (rfl) ?_
  refine X.pickT rfl rfl rfl rfl rfl rfl ?_
  refine X.mv rfl rfl rfl rfl rfl ?_
  refine X.mv rfl rfl rfl rfl rfl ?_
  refine X.neqT rfl rfl rfl rfl rfl rfl (by decide) ?_
  refine X.mv rfl rfl rfl rfl rfl ?_
  refine X.skip rfl rfl rfl ?_
  refine X.skip rfl rfl rfl ?_
  refine X.pickT rfl rfl rfl rfl rfl rfl ?_
  refine X.pickT rfl rfl rfl rfl rfl rfl ?_
  refine X.mv rfl rfl rfl rfl rfl ?_
  refine X.call rfl rfl rfl rfl rfl Try.cl11 (known_ct H4) ?_
  rintro _ HK ⟨rfl, hkK⟩
  refine X.pickT rfl rfl rfl rfl rfl rfl ?_
  refine X.asg rfl rfl rfl rfl rfl ?_
  refine X.done [(6, _), (8, _), (10, _), (12, _), (14, _), (15, _), (16, _), (17, _), (18, _), (19, _)] ⟨rfl, rfl, rfl, rfl, rfl, rfl, rfl, rfl, rfl, rfl, trivial⟩ ?_
  refine N.then ?_
  refine E.ret ?_
  refine N.thenR ?_
  exact N.retH [_] ⟨_, _, rfl, rfl, rfl⟩ ⟨rfl, hkA.trans hkK (by simp)⟩

theorem parts2 (s : Bs) (at0 : Int) (pa pb : Nat) (H : Heap) (ha0 : -9223372036854775808 ≤ at0 ∧ at0 ≤ 9223372036854775807) (hpa : pa ≤ 255) (hpb : pb ≤ 255) (hl : s.length ≤ 10000) (hcase : ∀ k u w : Nat, cnt at0 (8 * s.length + 1) = k → pa % 17 = u → pb % 17 = w → u ≤ 8 * s.length - k ∧ 8 * s.length - (k + u) < w) : Ct Try.prog 5 #[str s, i64 at0, .agg [Value.int .u8 (pa : Int), Value.int .u8 (pb : Int)].toArray] H fun v H' => v = .bool true ∧ Kp [] H H' := by
  obtain ⟨k, hk⟩ := Int.eq_ofNat_of_zero_le (cnt_bd at0 (8 * s.length + 1) (by omega)).1
  have hk2 := (cnt_bd at0 (8 * s.length + 1) (by omega)).2
  rw [hk] at hk2
  have cK : ∀ H, Ct Try.prog 22 #[i64 at0, i64 ((8 * s.length + 1 : Nat) : Int)] H fun v H' => v = i64 (k : Int) ∧ H' = H := by
    intro H; have h := count_ct at0 (8 * s.length + 1) H ha0 (by omega); rw [hk] at h; exact h
  obtain ⟨u, hu⟩ : ∃ u, pa % 17 = u := ⟨_, rfl⟩
  obtain ⟨w, hw⟩ : ∃ w, pb % 17 = w := ⟨_, rfl⟩
  have hu16 : u ≤ 16 := by omega
  have hw16 : w ≤ 16 := by omega
  have hlk : s.length ≤ 100000 ∧ k ≤ 8 * s.length := by omega
  have HC := hcase k u w hk hu hw
  refine Ct.into 146 Try.func5 rfl [(0, str s), (1, i64 at0), (2, .agg [Value.int .u8 (pa : Int), Value.int .u8 (pb : Int)].toArray)] rfl ⟨rfl, rfl, rfl, trivial⟩ ?_
  refine E.seq ?_
  refine E.region ?_
  refine X.box rfl rfl rfl rfl rfl rfl ?_
  intro b5 H5 hn5 hb5 hk5
  refine X.asg rfl rfl rfl rfl rfl ?_
  refine X.done [(0, _), (1, _), (5, _), (6, _)] ⟨rfl, rfl, rfl, rfl, trivial⟩ ?_
  refine N.then ?_
  refine E.seq ?_
  refine E.seq ?_
  refine E.region ?_
  refine X.mv rfl rfl rfl rfl rfl ?_
  refine X.lenL rfl rfl rfl rfl rfl Try.underlying9 ?_
  refine X.gtrF rfl rfl rfl rfl rfl rfl (by omega) ?_
  refine X.done [(0, _), (1, _), (5, _), (6, _), (22, _)] ⟨rfl, rfl, rfl, rfl, rfl, trivial⟩ ?_
  refine N.then ?_
  refine E.condF rfl ?_
  refine E.skip ?_
  refine N.then ?_
  refine E.seq ?_
  refine E.region ?_
  refine X.mv rfl rfl rfl rfl rfl ?_
  refine X.mv rfl rfl rfl rfl rfl ?_
  refine X.lenL rfl rfl rfl rfl rfl Try.underlying9 ?_
  refine X.mulE (zz := ((8 * s.length : Nat) : Int)) rfl rfl rfl rfl rfl rfl (by rw [IntWalk.i64_in _ (by omega)] <;> omega) ?_
  refine X.addE (zz := ((8 * s.length + 1 : Nat) : Int)) rfl rfl rfl rfl rfl rfl (by rw [IntWalk.i64_in _ (by omega)] <;> omega) ?_
  refine X.call rfl rfl rfl rfl rfl Try.cl22 (cK H5) ?_
  rintro _ H6 ⟨rfl, eH6⟩
  obtain rfl := eH6.symm
  refine X.asg rfl rfl rfl rfl rfl ?_
  refine X.done [(0, _), (5, _), (6, _), (7, _)] ⟨rfl, rfl, rfl, rfl, trivial⟩ ?_
  refine N.then ?_
  refine E.seq ?_
  refine E.region ?_
  refine X.ixP rfl rfl rfl rfl rfl rfl Try.underlying42 Try.sz5 (by omega) ?_
  refine X.ld rfl rfl rfl rfl Try.ag5 (hb5) (rfl) ?_
  refine X.convE (zz := (pa : Int)) rfl rfl rfl rfl rfl Try.underlying3 Try.us5 (IntWalk.i64_in _ (by omega)) ?_
  refine X.remE (zz := (u : Int)) rfl rfl rfl rfl rfl rfl (by omega) (by rw [IntWalk.rem_in _ _ (by omega)] <;> omega) ?_
  refine X.asg rfl rfl rfl rfl rfl ?_
  refine X.done [(0, _), (5, _), (6, _), (7, _), (8, _)] ⟨rfl, rfl, rfl, rfl, rfl, trivial⟩ ?_
  refine N.then ?_
  refine E.seq ?_
  refine E.region ?_
  refine X.ixP rfl rfl rfl rfl rfl rfl Try.underlying42 Try.sz5 (by omega) ?_
  refine X.ld rfl rfl rfl rfl Try.ag5 (hb5) (rfl) ?_
  refine X.convE (zz := (pb : Int)) rfl rfl rfl rfl rfl Try.underlying3 Try.us5 (IntWalk.i64_in _ (by omega)) ?_
  refine X.remE (zz := (w : Int)) rfl rfl rfl rfl rfl rfl (by omega) (by rw [IntWalk.rem_in _ _ (by omega)] <;> omega) ?_
  refine X.asg rfl rfl rfl rfl rfl ?_
  refine X.done [(0, _), (6, _), (7, _), (8, _), (9, _)] ⟨rfl, rfl, rfl, rfl, rfl, trivial⟩ ?_
  refine N.then ?_
  refine E.seq ?_
  refine E.region ?_
  refine X.mv rfl rfl rfl rfl rfl ?_
  refine X.mv rfl rfl rfl rfl rfl ?_
  refine X.call rfl rfl rfl rfl rfl Try.cl15 (new_ct s k H5 hlk.1 hlk.2) ?_
  rintro _ H1 ⟨p, rfl, hp, hR1, hk1⟩
  refine X.mv rfl rfl rfl rfl rfl ?_
  refine X.extract rfl rfl rfl rfl rfl rfl ?_
  refine X.extract rfl rfl rfl rfl rfl rfl ?_
  refine X.asg rfl rfl rfl rfl rfl ?_
  refine X.asg rfl rfl rfl rfl rfl ?_
  refine X.done [(0, _), (6, _), (7, _), (8, _), (9, _), (10, _), (11, _)] ⟨rfl, rfl, rfl, rfl, rfl, rfl, rfl, trivial⟩ ?_
  refine N.then ?_
  refine E.seq ?_
  refine E.region ?_
  refine X.mv rfl rfl rfl rfl rfl ?_
  refine X.mv rfl rfl rfl rfl rfl ?_
  refine X.call rfl rfl rfl rfl rfl Try.cl15 (new_ct s k H1 hlk.1 hlk.2) ?_
  rintro _ H2 ⟨r, rfl, hr, hR2, hk2⟩
  have hpr : p ≠ r := ne_of_ge hR1 hr
  have hRp := hk2.keep hR1 (by simp)
  have hkA : Kp [] H H2 := (hk5.trans hk1 (by simp)).trans hk2 (by simp)
  have hnp : H.size ≤ p := Nat.le_trans hk5.size hp
  have hnr : H.size ≤ r := Nat.le_trans (Nat.le_trans hk5.size hk1.size) hr
  refine X.mv rfl rfl rfl rfl rfl ?_
  refine X.extract rfl rfl rfl rfl rfl rfl ?_
  refine X.extract rfl rfl rfl rfl rfl rfl ?_
  refine X.asg rfl rfl rfl rfl rfl ?_
  refine X.asg rfl rfl rfl rfl rfl ?_
  refine X.done [(0, _), (6, _), (7, _), (8, _), (9, _), (10, _), (11, _), (12, _), (13, _)] ⟨rfl, rfl, rfl, rfl, rfl, rfl, rfl, rfl, rfl, trivial⟩ ?_
  refine N.then ?_
  refine E.seq ?_
  refine E.seq ?_
  refine E.region ?_
  refine X.mv rfl rfl rfl rfl rfl ?_
  refine X.neqF rfl rfl rfl rfl rfl rfl (fun h => h rfl) ?_
  refine X.mv rfl rfl rfl rfl rfl ?_
  refine X.mv rfl rfl rfl rfl rfl ?_
  refine X.neqF rfl rfl rfl rfl rfl rfl (fun h => h rfl) ?_
  refine X.pickF rfl rfl rfl rfl rfl rfl ?_
  refine X.mv rfl rfl rfl rfl rfl ?_
  refine X.mv rfl rfl rfl rfl rfl ?_
  refine X.eqlP1 rfl rfl rfl rfl rfl rfl Try.underlying33 ?_
  refine X.pickF rfl rfl rfl rfl rfl rfl ?_
  refine X.mv rfl rfl rfl rfl rfl ?_
  refine X.mv rfl rfl rfl rfl rfl ?_
  refine X.eqlP1 rfl rfl rfl rfl rfl rfl Try.underlying33 ?_
  refine X.pickF rfl rfl rfl rfl rfl rfl ?_
  refine X.done [(0, _), (6, _), (7, _), (8, _), (9, _), (10, _), (12, _), (63, _)] ⟨rfl, rfl, rfl, rfl, rfl, rfl, rfl, rfl, trivial⟩ ?_
  refine N.then ?_
  refine E.condF rfl ?_
  refine E.skip ?_
  refine N.then ?_
  refine E.seq ?_
  refine E.region ?_
  refine X.mv rfl rfl rfl rfl rfl ?_
  refine X.mv rfl rfl rfl rfl rfl ?_
  refine X.call rfl rfl rfl rfl rfl Try.cl18 (bits_ct p s k H2 hRp hlk u (by omega) HC.1) ?_
  rintro _ H3 ⟨rfl, hR3, hk3⟩
  refine X.mv rfl rfl rfl rfl rfl ?_
  refine X.extract rfl rfl rfl rfl rfl rfl ?_
  refine X.extract rfl rfl rfl rfl rfl rfl ?_
  refine X.asg rfl rfl rfl rfl rfl ?_
  refine X.asg rfl rfl rfl rfl rfl ?_
  refine X.done [(0, _), (6, _), (7, _), (8, _), (9, _), (10, _), (12, _), (14, _), (15, _)] ⟨rfl, rfl, rfl, rfl, rfl, rfl, rfl, rfl, rfl, trivial⟩ ?_
  refine N.then ?_
  refine E.seq ?_
  refine E.region ?_
  refine X.mv rfl rfl rfl rfl rfl ?_
  refine X.mv rfl rfl rfl rfl rfl ?_
  refine X.call rfl rfl rfl rfl rfl Try.cl18 (bits_far_ct p s (k + u) H3 hR3 (by omega) w (by omega) HC.2) ?_
  rintro _ H4 ⟨rfl, eH4⟩
  obtain rfl := eH4.symm
  have hRr := hk3.keep hR2 (by simp; exact Ne.symm hpr)
  have hkA := hkA.trans hk3 (by simp; exact hnp)
  refine X.mv rfl rfl rfl rfl rfl ?_
  refine X.extract rfl rfl rfl rfl rfl rfl ?_
  refine X.extract rfl rfl rfl rfl rfl rfl ?_
  refine X.asg rfl rfl rfl rfl rfl ?_
  refine X.asg rfl rfl rfl rfl rfl ?_
  refine X.done [(0, _), (6, _), (7, _), (8, _), (9, _), (10, _), (12, _), (14, _), (15, _), (16, _), (17, _)] ⟨rfl, rfl, rfl, rfl, rfl, rfl, rfl, rfl, rfl, rfl, rfl, trivial⟩ ?_
  refine N.then ?_
  refine E.seq ?_
  refine E.region ?_
  refine X.mv rfl rfl rfl rfl rfl ?_
  refine X.mv rfl rfl rfl rfl rfl ?_
  refine X.mv rfl rfl rfl rfl rfl ?_
  refine X.addE (zz := ((u + w : Nat) : Int)) rfl rfl rfl rfl rfl rfl (by rw [IntWalk.i64_in _ (by omega)] <;> omega) ?_
  refine X.call rfl rfl rfl rfl rfl Try.cl18 (bits_far_ct r s k H3 hRr hlk (u + w) (by omega) (by omega)) ?_
  rintro _ H8 ⟨rfl, eH8⟩
  obtain rfl := eH8.symm
  refine X.mv rfl rfl rfl rfl rfl ?_
  refine X.extract rfl rfl rfl rfl rfl rfl ?_
  refine X.extract rfl rfl rfl rfl rfl rfl ?_
  refine X.asg rfl rfl rfl rfl rfl ?_
  refine X.asg rfl rfl rfl rfl rfl ?_
  refine X.done [(0, _), (6, _), (7, _), (8, _), (9, _), (10, _), (12, _), (14, _), (15, _), (16, _), (17, _), (18, _), (19, _)] ⟨rfl, rfl, rfl, rfl, rfl, rfl, rfl, rfl, rfl, rfl, rfl, rfl, rfl, trivial⟩ ?_
  refine N.then ?_
  refine E.seq ?_
  refine E.seq ?_
  refine E.region ?_
  refine X.mv rfl rfl rfl rfl rfl ?_
  refine X.mv rfl rfl rfl rfl rfl ?_
  refine X.addE (zz := ((u + w : Nat) : Int)) rfl rfl rfl rfl rfl rfl (by rw [IntWalk.i64_in _ (by omega)] <;> omega) ?_
  refine X.mv rfl rfl rfl rfl rfl ?_
  refine X.lenL rfl rfl rfl rfl rfl Try.underlying9 ?_
  refine X.mulE (zz := ((8 * s.length : Nat) : Int)) rfl rfl rfl rfl rfl rfl (by rw [IntWalk.i64_in _ (by omega)] <;> omega) ?_
  refine X.mv rfl rfl rfl rfl rfl ?_
  refine X.sbE (zz := ((8 * s.length - k : Nat) : Int)) rfl rfl rfl rfl rfl rfl (by rw [IntWalk.i64_in _ (by omega)] <;> omega) ?_
  refine X.gtrT rfl rfl rfl rfl rfl rfl (by omega) ?_
  refine X.done [(6, _), (7, _), (8, _), (10, _), (12, _), (14, _), (15, _), (16, _), (17, _), (18, _), (19, _), (92, _)] ⟨rfl, rfl, rfl, rfl, rfl, rfl, rfl, rfl, rfl, rfl, rfl, rfl, trivial⟩ ?_
  refine N.then ?_
  refine E.condT rfl ?_
  refine E.seq ?_
  refine E.region ?_
  refine X.mv rfl rfl rfl rfl rfl ?_
  refine X.eqlT rfl rfl rfl rfl rfl rfl (rfl) ?_
  refine X.mv rfl rfl rfl rfl rfl ?_
  refine X.mv rfl rfl rfl rfl rfl ?_
  refine X.eqlT rfl rfl rfl rfl rfl rfl (rfl) ?_
  refine X.pickT rfl rfl rfl rfl rfl rfl ?_
  refine X.mv rfl rfl rfl rfl rfl ?_
  refine X.mv rfl rfl rfl rfl rfl ?_
  refine X.call rfl rfl rfl rfl rfl Try.cl19 (at_ct r s k H3 hRr hlk) ?_
  rintro _ H9 ⟨rfl, eH9⟩
  obtain rfl := eH9.symm
  refine X.mv rfl rfl rfl rfl rfl ?_
  refine X.eqlT rfl rfl rfl rfl rfl rfl (rfl) ?_
  refine X.pickT rfl rfl rfl rfl rfl rfl ?_
  refine X.mv rfl rfl rfl rfl rfl ?_
  refine X.mv rfl rfl rfl rfl rfl ?_
  refine X.neqF rfl rfl rfl rfl rfl rfl (fun h => h rfl) ?_
  refine X.mv rfl rfl rfl rfl rfl ?_
  refine X.mv rfl rfl rfl rfl rfl ?_
  refine X.neqT rfl rfl rfl rfl rfl rfl (by decide) ?_
  refine X.pickF rfl rfl rfl rfl rfl rfl ?_
  refine X.pickT rfl rfl rfl rfl rfl rfl ?_
  refine X.mv rfl rfl rfl rfl rfl ?_
  refine X.call rfl rfl rfl rfl rfl Try.cl11 (known_ct H3) ?_
  rintro _ HK ⟨rfl, hkK⟩
  refine X.pickT rfl rfl rfl rfl rfl rfl ?_
  refine X.asg rfl rfl rfl rfl rfl ?_
  refine X.done [(6, _), (8, _), (10, _), (12, _), (14, _), (15, _), (16, _), (17, _), (18, _), (19, _)] ⟨rfl, rfl, rfl, rfl, rfl, rfl, rfl, rfl, rfl, rfl, trivial⟩ ?_
  refine N.then ?_
  refine E.ret ?_
  refine N.thenR ?_
  exact N.retH [_] ⟨_, _, rfl, rfl, rfl⟩ ⟨rfl, hkA.trans hkK (by simp)⟩

theorem parts3 (s : Bs) (at0 : Int) (pa pb : Nat) (H : Heap) (ha0 : -9223372036854775808 ≤ at0 ∧ at0 ≤ 9223372036854775807) (hpa : pa ≤ 255) (hpb : pb ≤ 255) (hl : s.length ≤ 10000) (hcase : ∀ k u w : Nat, cnt at0 (8 * s.length + 1) = k → pa % 17 = u → pb % 17 = w → u + w ≤ 8 * s.length - k) : Ct Try.prog 5 #[str s, i64 at0, .agg [Value.int .u8 (pa : Int), Value.int .u8 (pb : Int)].toArray] H fun v H' => v = .bool true ∧ Kp [] H H' := by
  obtain ⟨k, hk⟩ := Int.eq_ofNat_of_zero_le (cnt_bd at0 (8 * s.length + 1) (by omega)).1
  have hk2 := (cnt_bd at0 (8 * s.length + 1) (by omega)).2
  rw [hk] at hk2
  have cK : ∀ H, Ct Try.prog 22 #[i64 at0, i64 ((8 * s.length + 1 : Nat) : Int)] H fun v H' => v = i64 (k : Int) ∧ H' = H := by
    intro H; have h := count_ct at0 (8 * s.length + 1) H ha0 (by omega); rw [hk] at h; exact h
  obtain ⟨u, hu⟩ : ∃ u, pa % 17 = u := ⟨_, rfl⟩
  obtain ⟨w, hw⟩ : ∃ w, pb % 17 = w := ⟨_, rfl⟩
  have hu16 : u ≤ 16 := by omega
  have hw16 : w ≤ 16 := by omega
  have hlk : s.length ≤ 100000 ∧ k ≤ 8 * s.length := by omega
  have HC := hcase k u w hk hu hw
  have hsp := pk_split (num s) k u w
  have hl1 := pk_lt (num s) (k + u) w
  have hp1 : 2 ^ u ≤ 2 ^ 16 := Nat.pow_le_pow_right (by omega) hu16
  have hp2 : 2 ^ w ≤ 2 ^ 16 := Nat.pow_le_pow_right (by omega) hw16
  have hl2 := pk_lt (num s) k u
  have hB : pk (num s) (k + u) w * 2 ^ u ≤ 2 ^ 16 * 2 ^ 16 := Nat.mul_le_mul (by omega) hp1
  have eC : ((pk (num s) (k + u) w * 2 ^ u : Nat) : Int) = (pk (num s) (k + u) w : Int) * 2 ^ u := by simp
  have bC : 0 ≤ (pk (num s) (k + u) w : Int) * 2 ^ u ∧ (pk (num s) (k + u) w : Int) * 2 ^ u ≤ 4294967296 := by rw [← eC]; exact ⟨Int.natCast_nonneg _, Int.ofNat_le.2 hB⟩
  refine Ct.into 146 Try.func5 rfl [(0, str s), (1, i64 at0), (2, .agg [Value.int .u8 (pa : Int), Value.int .u8 (pb : Int)].toArray)] rfl ⟨rfl, rfl, rfl, trivial⟩ ?_
  refine E.seq ?_
  refine E.region ?_
  refine X.box rfl rfl rfl rfl rfl rfl ?_
  intro b5 H5 hn5 hb5 hk5
  refine X.asg rfl rfl rfl rfl rfl ?_
  refine X.done [(0, _), (1, _), (5, _), (6, _)] ⟨rfl, rfl, rfl, rfl, trivial⟩ ?_
  refine N.then ?_
  refine E.seq ?_
  refine E.seq ?_
  refine E.region ?_
  refine X.mv rfl rfl rfl rfl rfl ?_
  refine X.lenL rfl rfl rfl rfl rfl Try.underlying9 ?_
  refine X.gtrF rfl rfl rfl rfl rfl rfl (by omega) ?_
  refine X.done [(0, _), (1, _), (5, _), (6, _), (22, _)] ⟨rfl, rfl, rfl, rfl, rfl, trivial⟩ ?_
  refine N.then ?_
  refine E.condF rfl ?_
  refine E.skip ?_
  refine N.then ?_
  refine E.seq ?_
  refine E.region ?_
  refine X.mv rfl rfl rfl rfl rfl ?_
  refine X.mv rfl rfl rfl rfl rfl ?_
  refine X.lenL rfl rfl rfl rfl rfl Try.underlying9 ?_
  refine X.mulE (zz := ((8 * s.length : Nat) : Int)) rfl rfl rfl rfl rfl rfl (by rw [IntWalk.i64_in _ (by omega)] <;> omega) ?_
  refine X.addE (zz := ((8 * s.length + 1 : Nat) : Int)) rfl rfl rfl rfl rfl rfl (by rw [IntWalk.i64_in _ (by omega)] <;> omega) ?_
  refine X.call rfl rfl rfl rfl rfl Try.cl22 (cK H5) ?_
  rintro _ H6 ⟨rfl, eH6⟩
  obtain rfl := eH6.symm
  refine X.asg rfl rfl rfl rfl rfl ?_
  refine X.done [(0, _), (5, _), (6, _), (7, _)] ⟨rfl, rfl, rfl, rfl, trivial⟩ ?_
  refine N.then ?_
  refine E.seq ?_
  refine E.region ?_
  refine X.ixP rfl rfl rfl rfl rfl rfl Try.underlying42 Try.sz5 (by omega) ?_
  refine X.ld rfl rfl rfl rfl Try.ag5 (hb5) (rfl) ?_
  refine X.convE (zz := (pa : Int)) rfl rfl rfl rfl rfl Try.underlying3 Try.us5 (IntWalk.i64_in _ (by omega)) ?_
  refine X.remE (zz := (u : Int)) rfl rfl rfl rfl rfl rfl (by omega) (by rw [IntWalk.rem_in _ _ (by omega)] <;> omega) ?_
  refine X.asg rfl rfl rfl rfl rfl ?_
  refine X.done [(0, _), (5, _), (6, _), (7, _), (8, _)] ⟨rfl, rfl, rfl, rfl, rfl, trivial⟩ ?_
  refine N.then ?_
  refine E.seq ?_
  refine E.region ?_
  refine X.ixP rfl rfl rfl rfl rfl rfl Try.underlying42 Try.sz5 (by omega) ?_
  refine X.ld rfl rfl rfl rfl Try.ag5 (hb5) (rfl) ?_
  refine X.convE (zz := (pb : Int)) rfl rfl rfl rfl rfl Try.underlying3 Try.us5 (IntWalk.i64_in _ (by omega)) ?_
  refine X.remE (zz := (w : Int)) rfl rfl rfl rfl rfl rfl (by omega) (by rw [IntWalk.rem_in _ _ (by omega)] <;> omega) ?_
  refine X.asg rfl rfl rfl rfl rfl ?_
  refine X.done [(0, _), (6, _), (7, _), (8, _), (9, _)] ⟨rfl, rfl, rfl, rfl, rfl, trivial⟩ ?_
  refine N.then ?_
  refine E.seq ?_
  refine E.region ?_
  refine X.mv rfl rfl rfl rfl rfl ?_
  refine X.mv rfl rfl rfl rfl rfl ?_
  refine X.call rfl rfl rfl rfl rfl Try.cl15 (new_ct s k H5 hlk.1 hlk.2) ?_
  rintro _ H1 ⟨p, rfl, hp, hR1, hk1⟩
  refine X.mv rfl rfl rfl rfl rfl ?_
  refine X.extract rfl rfl rfl rfl rfl rfl ?_
  refine X.extract rfl rfl rfl rfl rfl rfl ?_
  refine X.asg rfl rfl rfl rfl rfl ?_
  refine X.asg rfl rfl rfl rfl rfl ?_
  refine X.done [(0, _), (6, _), (7, _), (8, _), (9, _), (10, _), (11, _)] ⟨rfl, rfl, rfl, rfl, rfl, rfl, rfl, trivial⟩ ?_
  refine N.then ?_
  refine E.seq ?_
  refine E.region ?_
  refine X.mv rfl rfl rfl rfl rfl ?_
  refine X.mv rfl rfl rfl rfl rfl ?_
  refine X.call rfl rfl rfl rfl rfl Try.cl15 (new_ct s k H1 hlk.1 hlk.2) ?_
  rintro _ H2 ⟨r, rfl, hr, hR2, hk2⟩
  have hpr : p ≠ r := ne_of_ge hR1 hr
  have hRp := hk2.keep hR1 (by simp)
  have hkA : Kp [] H H2 := (hk5.trans hk1 (by simp)).trans hk2 (by simp)
  have hnp : H.size ≤ p := Nat.le_trans hk5.size hp
  have hnr : H.size ≤ r := Nat.le_trans (Nat.le_trans hk5.size hk1.size) hr
  refine X.mv rfl rfl rfl rfl rfl ?_
  refine X.extract rfl rfl rfl rfl rfl rfl ?_
  refine X.extract rfl rfl rfl rfl rfl rfl ?_
  refine X.asg rfl rfl rfl rfl rfl ?_
  refine X.asg rfl rfl rfl rfl rfl ?_
  refine X.done [(0, _), (6, _), (7, _), (8, _), (9, _), (10, _), (11, _), (12, _), (13, _)] ⟨rfl, rfl, rfl, rfl, rfl, rfl, rfl, rfl, rfl, trivial⟩ ?_
  refine N.then ?_
  refine E.seq ?_
  refine E.seq ?_
  refine E.region ?_
  refine X.mv rfl rfl rfl rfl rfl ?_
  refine X.neqF rfl rfl rfl rfl rfl rfl (fun h => h rfl) ?_
  refine X.mv rfl rfl rfl rfl rfl ?_
  refine X.mv rfl rfl rfl rfl rfl ?_
  refine X.neqF rfl rfl rfl rfl rfl rfl (fun h => h rfl) ?_
  refine X.pickF rfl rfl rfl rfl rfl rfl ?_
  refine X.mv rfl rfl rfl rfl rfl ?_
  refine X.mv rfl rfl rfl rfl rfl ?_
  refine X.eqlP1 rfl rfl rfl rfl rfl rfl Try.underlying33 ?_
  refine X.pickF rfl rfl rfl rfl rfl rfl ?_
  refine X.mv rfl rfl rfl rfl rfl ?_
  refine X.mv rfl rfl rfl rfl rfl ?_
  refine X.eqlP1 rfl rfl rfl rfl rfl rfl Try.underlying33 ?_
  refine X.pickF rfl rfl rfl rfl rfl rfl ?_
  refine X.done [(0, _), (6, _), (7, _), (8, _), (9, _), (10, _), (12, _), (63, _)] ⟨rfl, rfl, rfl, rfl, rfl, rfl, rfl, rfl, trivial⟩ ?_
  refine N.then ?_
  refine E.condF rfl ?_
  refine E.skip ?_
  refine N.then ?_
  refine E.seq ?_
  refine E.region ?_
  refine X.mv rfl rfl rfl rfl rfl ?_
  refine X.mv rfl rfl rfl rfl rfl ?_
  refine X.call rfl rfl rfl rfl rfl Try.cl18 (bits_ct p s k H2 hRp hlk u (by omega) (by omega)) ?_
  rintro _ H3 ⟨rfl, hR3, hk3⟩
  refine X.mv rfl rfl rfl rfl rfl ?_
  refine X.extract rfl rfl rfl rfl rfl rfl ?_
  refine X.extract rfl rfl rfl rfl rfl rfl ?_
  refine X.asg rfl rfl rfl rfl rfl ?_
  refine X.asg rfl rfl rfl rfl rfl ?_
  refine X.done [(0, _), (6, _), (7, _), (8, _), (9, _), (10, _), (12, _), (14, _), (15, _)] ⟨rfl, rfl, rfl, rfl, rfl, rfl, rfl, rfl, rfl, trivial⟩ ?_
  refine N.then ?_
  refine E.seq ?_
  refine E.region ?_
  refine X.mv rfl rfl rfl rfl rfl ?_
  refine X.mv rfl rfl rfl rfl rfl ?_
  refine X.call rfl rfl rfl rfl rfl Try.cl18 (bits_ct p s (k + u) H3 hR3 (by omega) w (by omega) (by omega)) ?_
  rintro _ H4 ⟨rfl, hR4, hk4⟩
  have hRr := (hk3.trans hk4 (by simp)).keep hR2 (by simp; exact Ne.symm hpr)
  have hkA := (hkA.trans hk3 (by simp; exact hnp)).trans hk4 (by simp; exact hnp)
  refine X.mv rfl rfl rfl rfl rfl ?_
  refine X.extract rfl rfl rfl rfl rfl rfl ?_
  refine X.extract rfl rfl rfl rfl rfl rfl ?_
  refine X.asg rfl rfl rfl rfl rfl ?_
  refine X.asg rfl rfl rfl rfl rfl ?_
  refine X.done [(0, _), (6, _), (7, _), (8, _), (9, _), (10, _), (12, _), (14, _), (15, _), (16, _), (17, _)] ⟨rfl, rfl, rfl, rfl, rfl, rfl, rfl, rfl, rfl, rfl, rfl, trivial⟩ ?_
  refine N.then ?_
  refine E.seq ?_
  refine E.region ?_
  refine X.mv rfl rfl rfl rfl rfl ?_
  refine X.mv rfl rfl rfl rfl rfl ?_
  refine X.mv rfl rfl rfl rfl rfl ?_
  refine X.addE (zz := ((u + w : Nat) : Int)) rfl rfl rfl rfl rfl rfl (by rw [IntWalk.i64_in _ (by omega)] <;> omega) ?_
  refine X.call rfl rfl rfl rfl rfl Try.cl18 (bits_ct r s k H4 hRr hlk (u + w) (by omega) (by omega)) ?_
  rintro _ H8 ⟨rfl, hR8, hk8⟩
  have hRp8 := hk8.keep hR4 (by simp; exact hpr)
  have hkA := hkA.trans hk8 (by simp; exact hnr)
  refine X.mv rfl rfl rfl rfl rfl ?_
  refine X.extract rfl rfl rfl rfl rfl rfl ?_
  refine X.extract rfl rfl rfl rfl rfl rfl ?_
  refine X.asg rfl rfl rfl rfl rfl ?_
  refine X.asg rfl rfl rfl rfl rfl ?_
  refine X.done [(0, _), (6, _), (7, _), (8, _), (9, _), (10, _), (12, _), (14, _), (15, _), (16, _), (17, _), (18, _), (19, _)] ⟨rfl, rfl, rfl, rfl, rfl, rfl, rfl, rfl, rfl, rfl, rfl, rfl, rfl, trivial⟩ ?_
  refine N.then ?_
  refine E.seq ?_
  refine E.seq ?_
  refine E.region ?_
  refine X.mv rfl rfl rfl rfl rfl ?_
  refine X.mv rfl rfl rfl rfl rfl ?_
  refine X.addE (zz := ((u + w : Nat) : Int)) rfl rfl rfl rfl rfl rfl (by rw [IntWalk.i64_in _ (by omega)] <;> omega) ?_
  refine X.mv rfl rfl rfl rfl rfl ?_
  refine X.lenL rfl rfl rfl rfl rfl Try.underlying9 ?_
  refine X.mulE (zz := ((8 * s.length : Nat) : Int)) rfl rfl rfl rfl rfl rfl (by rw [IntWalk.i64_in _ (by omega)] <;> omega) ?_
  refine X.mv rfl rfl rfl rfl rfl ?_
  refine X.sbE (zz := ((8 * s.length - k : Nat) : Int)) rfl rfl rfl rfl rfl rfl (by rw [IntWalk.i64_in _ (by omega)] <;> omega) ?_
  refine X.gtrF rfl rfl rfl rfl rfl rfl (by omega) ?_
  refine X.done [(6, _), (7, _), (8, _), (10, _), (12, _), (14, _), (15, _), (16, _), (17, _), (18, _), (19, _), (92, _)] ⟨rfl, rfl, rfl, rfl, rfl, rfl, rfl, rfl, rfl, rfl, rfl, rfl, trivial⟩ ?_
  refine N.then ?_
  refine E.condF rfl ?_
  refine E.skip ?_
  refine N.then ?_
  refine E.seq ?_
  refine E.region ?_
  refine X.mv rfl rfl rfl rfl rfl ?_
  refine X.eqlT rfl rfl rfl rfl rfl rfl (rfl) ?_
  refine X.mv rfl rfl rfl rfl rfl ?_
  refine X.mv rfl rfl rfl rfl rfl ?_
  refine X.eqlT rfl rfl rfl rfl rfl rfl (rfl) ?_
  refine X.pickT rfl rfl rfl rfl rfl rfl ?_
  refine X.mv rfl rfl rfl rfl rfl ?_
  refine X.mv rfl rfl rfl rfl rfl ?_
  refine X.eqlT rfl rfl rfl rfl rfl rfl (rfl) ?_
  refine X.pickT rfl rfl rfl rfl rfl rfl ?_
  refine X.mv rfl rfl rfl rfl rfl ?_
  refine X.mv rfl rfl rfl rfl rfl ?_
  refine X.mv rfl rfl rfl rfl rfl ?_
  refine X.mv rfl rfl rfl rfl rfl ?_
  refine X.mv rfl rfl rfl rfl rfl ?_
  refine X.convE (zz := (u : Int)) rfl rfl rfl rfl rfl Try.underlying24 Try.us3 (IntWalk.u64_in _ (by omega)) ?_
  refine X.shlE (zz := ((pk (num s) (k + u) w * 2 ^ u : Nat) : Int)) rfl rfl rfl rfl rfl rfl (by omega) (by rw [eC]; exact shlN rfl (by omega) (by omega) (by omega)) ?_
  refine X.addE (zz := ((pk (num s) k u + pk (num s) (k + u) w * 2 ^ u : Nat) : Int)) rfl rfl rfl rfl rfl rfl (add2 _ _ (by omega)) ?_
  refine X.eqlT rfl rfl rfl rfl rfl rfl (by rw [hsp, Nat.mul_comm (2 ^ u)]) ?_
  refine X.pickT rfl rfl rfl rfl rfl rfl ?_
  refine X.mv rfl rfl rfl rfl rfl ?_
  refine X.mv rfl rfl rfl rfl rfl ?_
  refine X.call rfl rfl rfl rfl rfl Try.cl19 (at_ct p s _ H8 hRp8 (by omega)) ?_
  rintro _ H9 ⟨rfl, eH9⟩
  obtain rfl := eH9.symm
  refine X.mv rfl rfl rfl rfl rfl ?_
  refine X.call rfl rfl rfl rfl rfl Try.cl19 (at_ct r s _ H8 hR8 (by omega)) ?_
  rintro _ H9 ⟨rfl, eH9⟩
  obtain rfl := eH9.symm
  refine X.eqlT rfl rfl rfl rfl rfl rfl (by rw [Nat.add_assoc]) ?_
  refine X.pickT rfl rfl rfl rfl rfl rfl ?_
  refine X.mv rfl rfl rfl rfl rfl ?_
  refine X.call rfl rfl rfl rfl rfl Try.cl11 (known_ct H8) ?_
  rintro _ HK ⟨rfl, hkK⟩
  refine X.pickT rfl rfl rfl rfl rfl rfl ?_
  refine X.asg rfl rfl rfl rfl rfl ?_
  refine X.done [(6, _)] ⟨rfl, trivial⟩ ?_
  refine N.then ?_
  refine E.ret ?_
  exact N.retH [_] ⟨_, _, rfl, rfl, rfl⟩ ⟨rfl, hkA.trans hkK (by simp)⟩


theorem parts_ct (s : Bs) (at0 : Int) (pa pb : Nat) (H : Heap) (ha0 : -9223372036854775808 ≤ at0 ∧ at0 ≤ 9223372036854775807) (hpa : pa ≤ 255) (hpb : pb ≤ 255) : Ct Try.prog 5 #[str s, i64 at0, .agg [Value.int .u8 (pa : Int), Value.int .u8 (pb : Int)].toArray] H fun v H' => v = .bool true ∧ Kp [] H H' := by
  by_cases h0 : 10000 < s.length
  · exact parts_long s at0 pa pb H ha0 hpa hpb h0
  · obtain ⟨k, hk⟩ := Int.eq_ofNat_of_zero_le (cnt_bd at0 (8 * s.length + 1) (by omega)).1
    have hk2 := (cnt_bd at0 (8 * s.length + 1) (by omega)).2
    by_cases h1 : 8 * s.length - k < pa % 17
    · by_cases h2 : pb % 17 ≤ 8 * s.length - k
      · exact parts1a s at0 pa pb H ha0 hpa hpb (by omega) (fun k' u w e1 e2 e3 => by omega)
      · exact parts1b s at0 pa pb H ha0 hpa hpb (by omega) (fun k' u w e1 e2 e3 => by omega)
    · by_cases h2 : 8 * s.length - (k + pa % 17) < pb % 17
      · exact parts2 s at0 pa pb H ha0 hpa hpb (by omega) (fun k' u w e1 e2 e3 => by omega)
      · exact parts3 s at0 pa pb H ha0 hpa hpb (by omega) (fun k' u w e1 e2 e3 => by omega)

end Go.Proofs.Ytpengkmmgpoofaa