/- The laws' functions of layer 5: each gives true. -/
import Derived.Test.YtoilfnbbkemapaaW3
namespace Go.Proofs.Ytoilfnbbkemapaa
open Go.SX Go.Lens
attribute [local irreducible] X E N Ct
set_option linter.unusedVariables false
theorem fin_at {ns : Ns} {i x : Nat} (h : ns[i]? = some x) : fin ns i = code ns i x := by unfold fin; rw [getD_of h]
theorem pre_ne {ns : Ns} {i k x y : Nat} (hi : ns[i]? = some x) (hk : ns[k]? = some y) (hx : 1 ≤ x ∧ x ≤ y ∧ y ≤ 15) (hne : i ≠ k) : code ns k y / 2 ^ (y - x) ≠ code ns i x := by
  intro h
  apply hne
  have h1 : lo ns k y / 2 ^ (15 - x) = code ns i x := by
    rw [← h, ← code_lo ns k y (by omega), show 15 - x = (15 - y) + (y - x) by omega, Nat.pow_add, Nat.mul_comm (code ns k y), Nat.mul_div_mul_left _ _ (two_pos _)]
  have h2 := (begins ns i x _ (by omega)).1 h1
  have h3 := two_pos (15 - y)
  exact only hi hk (by omega) (by omega) h2 ⟨Nat.le_refl _, by omega⟩

theorem codes0 (m : Nat) (a : Option Addr) (c : Nat) (H : Heap) (lone : Bool) (hm : 1000 < m) : Ct Try.prog 3 #[.slice a m c, .bool lone] H fun v H' => v = .bool true ∧ Kp [] H H' := by
  refine Ct.into 74 Try.func3 rfl [(0, .slice a m c), (1, .bool lone)] rfl ⟨rfl, rfl, trivial⟩ ?_
  refine E.seq ?_
  refine E.region ?_
  refine X.asg rfl rfl rfl rfl rfl ?_
  refine X.done [(0, _), (1, _), (4, _)] ⟨rfl, rfl, rfl, trivial⟩ ?_
  refine N.then ?_
  refine E.seq ?_
  refine E.seq ?_
  refine E.region ?_
  refine X.mv rfl rfl rfl rfl rfl ?_
  refine X.lenS rfl rfl rfl rfl rfl Try.underlying22 ?_
  refine X.gtrT rfl rfl rfl rfl rfl rfl (by omega) ?_
  refine X.done [(0, _), (1, _), (4, _), (15, _)] ⟨rfl, rfl, rfl, rfl, trivial⟩ ?_
  refine N.then ?_
  refine E.condT rfl ?_
  refine E.seq ?_
  refine E.region ?_
  refine X.call rfl rfl rfl rfl rfl Try.cl7 (known_ct H) ?_
  rintro _ HK ⟨rfl, hkK⟩
  refine X.asg rfl rfl rfl rfl rfl ?_
  refine X.done [(0, _), (1, _), (4, _)] ⟨rfl, rfl, rfl, trivial⟩ ?_
  refine N.then ?_
  refine E.ret ?_
  refine N.thenR ?_
  exact N.retH [_] ⟨_, _, rfl, rfl, rfl⟩ ⟨rfl, hkK⟩

theorem codes1 (m : Nat) (a : Option Addr) (b o c : Nat) (vs : List Value) (H : Heap) (A : Row1 H a b o vs) (e k f : Int) (lone : Bool) (hm : m ≤ 1000) (c8 : ∀ H, Row1 H a b o vs → Ct Try.prog 8 #[.slice a m c] H fun v H' => v = .tuple #[.slice none 0 0, i64 e] ∧ Kp [] H H') (c9 : ∀ H, Row1 H a b o vs → Ct Try.prog 9 #[.slice a m c] H fun v H' => v = .tuple #[.slice none 0 0, i64 e] ∧ Kp [] H H') (c11 : ∀ H, Row1 H a b o vs → Ct Try.prog 11 #[.slice a m c] H fun v H' => v = i64 k ∧ Kp [] H H') (c12 : ∀ H, Row1 H a b o vs → Ct Try.prog 12 #[.slice a m c] H fun v H' => v = i64 k ∧ Kp [] H H') (c13 : ∀ H, Row1 H a b o vs → Ct Try.prog 13 #[.slice a m c, .bool lone] H fun v H' => v = i64 f ∧ Kp [] H H') (c14 : ∀ H, Row1 H a b o vs → Ct Try.prog 14 #[.slice a m c, .bool lone] H fun v H' => v = i64 f ∧ Kp [] H H') : Ct Try.prog 3 #[.slice a m c, .bool lone] H fun v H' => v = .bool true ∧ Kp [] H H' := by
  have hkA := Kp.refl [] H
  refine Ct.into 74 Try.func3 rfl [(0, .slice a m c), (1, .bool lone)] rfl ⟨rfl, rfl, trivial⟩ ?_
  refine E.seq ?_
  refine E.region ?_
  refine X.asg rfl rfl rfl rfl rfl ?_
  refine X.done [(0, _), (1, _), (4, _)] ⟨rfl, rfl, rfl, trivial⟩ ?_
  refine N.then ?_
  refine E.seq ?_
  refine E.seq ?_
  refine E.region ?_
  refine X.mv rfl rfl rfl rfl rfl ?_
  refine X.lenS rfl rfl rfl rfl rfl Try.underlying22 ?_
  refine X.gtrF rfl rfl rfl rfl rfl rfl (by omega) ?_
  refine X.done [(0, _), (1, _), (4, _), (15, _)] ⟨rfl, rfl, rfl, rfl, trivial⟩ ?_
  refine N.then ?_
  refine E.condF rfl ?_
  refine E.skip ?_
  refine N.then ?_
  refine E.seq ?_
  refine E.region ?_
  refine X.mv rfl rfl rfl rfl rfl ?_
  refine X.call rfl rfl rfl rfl rfl Try.cl8 (c8 H (A)) ?_
  rintro _ H1 ⟨rfl, hk1⟩
  replace hk1 := hkA.trans hk1 (by simp)
  have hkA := hk1
  refine X.mv rfl rfl rfl rfl rfl ?_
  refine X.extract rfl rfl rfl rfl rfl rfl ?_
  refine X.extract rfl rfl rfl rfl rfl rfl ?_
  refine X.asg rfl rfl rfl rfl rfl ?_
  refine X.asg rfl rfl rfl rfl rfl ?_
  refine X.done [(0, _), (1, _), (4, _), (5, _), (6, _)] ⟨rfl, rfl, rfl, rfl, rfl, trivial⟩ ?_
  refine N.then ?_
  refine E.seq ?_
  refine E.region ?_
  refine X.mv rfl rfl rfl rfl rfl ?_
  refine X.call rfl rfl rfl rfl rfl Try.cl9 (c9 H1 (A.keepN hkA)) ?_
  rintro _ H2 ⟨rfl, hk2⟩
  replace hk2 := hkA.trans hk2 (by simp)
  have hkA := hk2
  refine X.mv rfl rfl rfl rfl rfl ?_
  refine X.extract rfl rfl rfl rfl rfl rfl ?_
  refine X.extract rfl rfl rfl rfl rfl rfl ?_
  refine X.asg rfl rfl rfl rfl rfl ?_
  refine X.asg rfl rfl rfl rfl rfl ?_
  refine X.done [(0, _), (1, _), (4, _), (5, _), (6, _), (7, _), (8, _)] ⟨rfl, rfl, rfl, rfl, rfl, rfl, rfl, trivial⟩ ?_
  refine N.then ?_
  refine E.seq ?_
  refine E.region ?_
  refine X.mv rfl rfl rfl rfl rfl ?_
  refine X.mv rfl rfl rfl rfl rfl ?_
  refine X.call rfl rfl rfl rfl rfl Try.cl10 (ints_ct [] none none 0 0 0 0 0 0 H2 ⟨fun i v h => by simp at h⟩ ⟨fun i v h => by simp at h⟩ (by simp)) ?_
  rintro _ H3 ⟨rfl, eH3⟩
  obtain rfl := eH3.symm
  refine X.mv rfl rfl rfl rfl rfl ?_
  refine X.mv rfl rfl rfl rfl rfl ?_
  refine X.mv rfl rfl rfl rfl rfl ?_
  refine X.eqlT rfl rfl rfl rfl rfl rfl (rfl) ?_
  refine X.pickT rfl rfl rfl rfl rfl rfl ?_
  refine X.mv rfl rfl rfl rfl rfl ?_
  refine X.mv rfl rfl rfl rfl rfl ?_
  refine X.call rfl rfl rfl rfl rfl Try.cl11 (c11 H2 (A.keepN hkA)) ?_
  rintro _ H4 ⟨rfl, hk4⟩
  replace hk4 := hkA.trans hk4 (by simp)
  have hkA := hk4
  refine X.mv rfl rfl rfl rfl rfl ?_
  refine X.call rfl rfl rfl rfl rfl Try.cl12 (c12 H4 (A.keepN hkA)) ?_
  rintro _ H5 ⟨rfl, hk5⟩
  replace hk5 := hkA.trans hk5 (by simp)
  have hkA := hk5
  refine X.eqlT rfl rfl rfl rfl rfl rfl (rfl) ?_
  refine X.pickT rfl rfl rfl rfl rfl rfl ?_
  refine X.mv rfl rfl rfl rfl rfl ?_
  refine X.mv rfl rfl rfl rfl rfl ?_
  refine X.mv rfl rfl rfl rfl rfl ?_
  refine X.call rfl rfl rfl rfl rfl Try.cl13 (c13 H5 (A.keepN hkA)) ?_
  rintro _ H6 ⟨rfl, hk6⟩
  replace hk6 := hkA.trans hk6 (by simp)
  have hkA := hk6
  refine X.mv rfl rfl rfl rfl rfl ?_
  refine X.mv rfl rfl rfl rfl rfl ?_
  refine X.call rfl rfl rfl rfl rfl Try.cl14 (c14 H6 (A.keepN hkA)) ?_
  rintro _ H7 ⟨rfl, hk7⟩
  replace hk7 := hkA.trans hk7 (by simp)
  have hkA := hk7
  refine X.eqlT rfl rfl rfl rfl rfl rfl (rfl) ?_
  refine X.pickT rfl rfl rfl rfl rfl rfl ?_
  refine X.asg rfl rfl rfl rfl rfl ?_
  refine X.done [(0, _), (4, _), (5, _), (7, _), (9, _)] ⟨rfl, rfl, rfl, rfl, rfl, trivial⟩ ?_
  refine N.then ?_
  refine E.seq ?_
  refine E.seq ?_
  refine E.region ?_
  refine X.asg rfl rfl rfl rfl rfl ?_
  refine X.done [(0, _), (4, _), (5, _), (7, _), (9, _), (10, _)] ⟨rfl, rfl, rfl, rfl, rfl, rfl, trivial⟩ ?_
  refine N.then ?_
  refine E.block ?_
  -- MISSING in G: [4]
  refine E.loop (fun (i : Nat) => [(0, .slice a m c), (5, .slice none 0 0), (7, .slice none 0 0), (9, .bool true), (10, i64 0)]) (fun (i : Nat) H' => H' = H7) (fun (i : Nat) => 0) 0 ⟨rfl, rfl, rfl, rfl, rfl, trivial⟩ rfl ?_
  rintro i H9 eH9
  obtain rfl := eH9.symm
  refine E.seq ?_
  refine E.seq ?_
  refine E.region ?_
  refine X.mv rfl rfl rfl rfl rfl ?_
  refine X.mv rfl rfl rfl rfl rfl ?_
  refine X.lenS rfl rfl rfl rfl rfl Try.underlying22 ?_
  refine X.lssF rfl rfl rfl rfl rfl rfl (by omega) ?_
  refine X.done [(0, _), (5, _), (7, _), (9, _), (10, _), (51, _), (52, _), (53, _), (54, _)] ⟨rfl, rfl, rfl, rfl, rfl, rfl, rfl, rfl, rfl, trivial⟩ ?_
  refine N.then ?_
  refine E.condF rfl ?_
  refine E.exit ?_
  refine N.thenX ?_
  refine N.loopX ?_
  refine N.blkX ?_
  refine N.then ?_
  refine E.seq ?_
  refine E.region ?_
  refine X.mv rfl rfl rfl rfl rfl ?_
  refine X.call rfl rfl rfl rfl rfl Try.cl8 (c8 H7 (A.keepN hkA)) ?_
  rintro _ H8 ⟨rfl, hk8⟩
  replace hk8 := hkA.trans hk8 (by simp)
  have hkA := hk8
  refine X.mv rfl rfl rfl rfl rfl ?_
  refine X.extract rfl rfl rfl rfl rfl rfl ?_
  refine X.extract rfl rfl rfl rfl rfl rfl ?_
  refine X.asg rfl rfl rfl rfl rfl ?_
  refine X.asg rfl rfl rfl rfl rfl ?_
  refine X.done [(7, _), (9, _), (11, _)] ⟨rfl, rfl, rfl, trivial⟩ ?_
  refine N.then ?_
  refine E.seq ?_
  refine E.region ?_
  refine X.mv rfl rfl rfl rfl rfl ?_
  refine X.mv rfl rfl rfl rfl rfl ?_
  refine X.mv rfl rfl rfl rfl rfl ?_
  refine X.mv rfl rfl rfl rfl rfl ?_
  refine X.call rfl rfl rfl rfl rfl Try.cl10 (ints_ct [] none none 0 0 0 0 0 0 H8 ⟨fun i v h => by simp at h⟩ ⟨fun i v h => by simp at h⟩ (by simp)) ?_
  rintro _ H9 ⟨rfl, eH9⟩
  obtain rfl := eH9.symm
  refine X.pickT rfl rfl rfl rfl rfl rfl ?_
  refine X.mv rfl rfl rfl rfl rfl ?_
  refine X.call rfl rfl rfl rfl rfl Try.cl7 (known_ct H8) ?_
  rintro _ HK ⟨rfl, hkK⟩
  refine X.pickT rfl rfl rfl rfl rfl rfl ?_
  refine X.asg rfl rfl rfl rfl rfl ?_
  refine X.done [(4, _)] ⟨rfl, trivial⟩ ?_
  refine N.then ?_
  refine E.ret ?_
  exact N.retH [_] ⟨_, _, rfl, rfl, rfl⟩ ⟨rfl, (hkA).trans hkK (by simp)⟩

theorem codes2 (m : Nat) (a : Option Addr) (b o c : Nat) (vs : List Value) (H : Heap) (A : Row1 H a b o vs) (k f : Int) (q : Nat → Nat) (lone : Bool) (hm : m ≤ 1000) (c8 : ∀ H, Row1 H a b o vs → Ct Try.prog 8 #[.slice a m c] H fun v H' => ∃ b', v = .tuple #[.slice (some ⟨b', 0, none⟩) m m, i64 0] ∧ H.size ≤ b' ∧ H'[b']? = some (.cells (rg m q).toArray 3 (0, 0)) ∧ Kp [] H H') (c9 : ∀ H, Row1 H a b o vs → Ct Try.prog 9 #[.slice a m c] H fun v H' => ∃ b', v = .tuple #[.slice (some ⟨b', 0, none⟩) m m, i64 0] ∧ H.size ≤ b' ∧ H'[b']? = some (.cells (rg m q).toArray 3 (0, 0)) ∧ Kp [] H H') (c11 : ∀ H, Row1 H a b o vs → Ct Try.prog 11 #[.slice a m c] H fun v H' => v = i64 k ∧ Kp [] H H') (c12 : ∀ H, Row1 H a b o vs → Ct Try.prog 12 #[.slice a m c] H fun v H' => v = i64 k ∧ Kp [] H H') (c13 : ∀ H, Row1 H a b o vs → Ct Try.prog 13 #[.slice a m c, .bool lone] H fun v H' => v = i64 f ∧ Kp [] H H') (c14 : ∀ H, Row1 H a b o vs → Ct Try.prog 14 #[.slice a m c, .bool lone] H fun v H' => v = i64 f ∧ Kp [] H H') : Ct Try.prog 3 #[.slice a m c, .bool lone] H fun v H' => v = .bool true ∧ Kp [] H H' := by
  have hkA := Kp.refl [] H
  have cI : ∀ (b1 b2 : Nat) (H : Heap), H[b1]? = some (.cells (rg m q).toArray 3 (0, 0)) → H[b2]? = some (.cells (rg m q).toArray 3 (0, 0)) → Ct Try.prog 10 #[.slice (some ⟨b1, 0, none⟩) m m, .slice (some ⟨b2, 0, none⟩) m m] H fun v H' => v = .bool true ∧ H' = H := by
    intro b1 b2 H h1 h2
    have h := ints_ct (((List.range m).map q).map fun (x : Nat) => (x : Int)) (some ⟨b1, 0, none⟩) (some ⟨b2, 0, none⟩) b1 b2 0 0 m m H (by rw [← rg_nv]; exact Row1.cells0 h1) (by rw [← rg_nv]; exact Row1.cells0 h2) (by simp; omega)
    rw [List.length_map, List.length_map, List.length_range] at h
    exact h
  refine Ct.into 74 Try.func3 rfl [(0, .slice a m c), (1, .bool lone)] rfl ⟨rfl, rfl, trivial⟩ ?_
  refine E.seq ?_
  refine E.region ?_
  refine X.asg rfl rfl rfl rfl rfl ?_
  refine X.done [(0, _), (1, _), (4, _)] ⟨rfl, rfl, rfl, trivial⟩ ?_
  refine N.then ?_
  refine E.seq ?_
  refine E.seq ?_
  refine E.region ?_
  refine X.mv rfl rfl rfl rfl rfl ?_
  refine X.lenS rfl rfl rfl rfl rfl Try.underlying22 ?_
  refine X.gtrF rfl rfl rfl rfl rfl rfl (by omega) ?_
  refine X.done [(0, _), (1, _), (4, _), (15, _)] ⟨rfl, rfl, rfl, rfl, trivial⟩ ?_
  refine N.then ?_
  refine E.condF rfl ?_
  refine E.skip ?_
  refine N.then ?_
  refine E.seq ?_
  refine E.region ?_
  refine X.mv rfl rfl rfl rfl rfl ?_
  refine X.call rfl rfl rfl rfl rfl Try.cl8 (c8 H (A)) ?_
  rintro _ H1 ⟨b1, rfl, hf1, hb1, hk1⟩
  have hkA := hkA.trans hk1 (by simp)
  refine X.mv rfl rfl rfl rfl rfl ?_
  refine X.extract rfl rfl rfl rfl rfl rfl ?_
  refine X.extract rfl rfl rfl rfl rfl rfl ?_
  refine X.asg rfl rfl rfl rfl rfl ?_
  refine X.asg rfl rfl rfl rfl rfl ?_
  refine X.done [(0, _), (1, _), (4, _), (5, _), (6, _)] ⟨rfl, rfl, rfl, rfl, rfl, trivial⟩ ?_
  refine N.then ?_
  refine E.seq ?_
  refine E.region ?_
  refine X.mv rfl rfl rfl rfl rfl ?_
  refine X.call rfl rfl rfl rfl rfl Try.cl9 (c9 H1 (A.keepN hkA)) ?_
  rintro _ H2 ⟨b2, rfl, hf2, hb2, hk2⟩
  have hkA := hkA.trans hk2 (by simp)
  have hn12 : b1 ≠ b2 := ne_of_ge hb1 hf2
  have hB1 := hk2.keep hb1 (by simp)
  have hF2 : H.size ≤ b2 := Nat.le_trans hk1.size hf2
  refine X.mv rfl rfl rfl rfl rfl ?_
  refine X.extract rfl rfl rfl rfl rfl rfl ?_
  refine X.extract rfl rfl rfl rfl rfl rfl ?_
  refine X.asg rfl rfl rfl rfl rfl ?_
  refine X.asg rfl rfl rfl rfl rfl ?_
  refine X.done [(0, _), (1, _), (4, _), (5, _), (6, _), (7, _), (8, _)] ⟨rfl, rfl, rfl, rfl, rfl, rfl, rfl, trivial⟩ ?_
  refine N.then ?_
  refine E.seq ?_
  refine E.region ?_
  refine X.mv rfl rfl rfl rfl rfl ?_
  refine X.mv rfl rfl rfl rfl rfl ?_
  refine X.call rfl rfl rfl rfl rfl Try.cl10 (cI b1 b2 H2 hB1 hb2) ?_
  rintro _ H3 ⟨rfl, eH3⟩
  obtain rfl := eH3.symm
  refine X.mv rfl rfl rfl rfl rfl ?_
  refine X.mv rfl rfl rfl rfl rfl ?_
  refine X.mv rfl rfl rfl rfl rfl ?_
  refine X.eqlT rfl rfl rfl rfl rfl rfl (rfl) ?_
  refine X.pickT rfl rfl rfl rfl rfl rfl ?_
  refine X.mv rfl rfl rfl rfl rfl ?_
  refine X.mv rfl rfl rfl rfl rfl ?_
  refine X.call rfl rfl rfl rfl rfl Try.cl11 (c11 H2 (A.keepN hkA)) ?_
  rintro _ H4 ⟨rfl, hk4⟩
  replace hB1 := hk4.keep hB1 (by simp)
  replace hb2 := hk4.keep hb2 (by simp)
  have hkA := hkA.trans hk4 (by simp)
  refine X.mv rfl rfl rfl rfl rfl ?_
  refine X.call rfl rfl rfl rfl rfl Try.cl12 (c12 H4 (A.keepN hkA)) ?_
  rintro _ H5 ⟨rfl, hk5⟩
  replace hB1 := hk5.keep hB1 (by simp)
  replace hb2 := hk5.keep hb2 (by simp)
  have hkA := hkA.trans hk5 (by simp)
  refine X.eqlT rfl rfl rfl rfl rfl rfl (rfl) ?_
  refine X.pickT rfl rfl rfl rfl rfl rfl ?_
  refine X.mv rfl rfl rfl rfl rfl ?_
  refine X.mv rfl rfl rfl rfl rfl ?_
  refine X.mv rfl rfl rfl rfl rfl ?_
  refine X.call rfl rfl rfl rfl rfl Try.cl13 (c13 H5 (A.keepN hkA)) ?_
  rintro _ H6 ⟨rfl, hk6⟩
  replace hB1 := hk6.keep hB1 (by simp)
  replace hb2 := hk6.keep hb2 (by simp)
  have hkA := hkA.trans hk6 (by simp)
  refine X.mv rfl rfl rfl rfl rfl ?_
  refine X.mv rfl rfl rfl rfl rfl ?_
  refine X.call rfl rfl rfl rfl rfl Try.cl14 (c14 H6 (A.keepN hkA)) ?_
  rintro _ H7 ⟨rfl, hk7⟩
  replace hB1 := hk7.keep hB1 (by simp)
  replace hb2 := hk7.keep hb2 (by simp)
  have hkA := hkA.trans hk7 (by simp)
  refine X.eqlT rfl rfl rfl rfl rfl rfl (rfl) ?_
  refine X.pickT rfl rfl rfl rfl rfl rfl ?_
  refine X.asg rfl rfl rfl rfl rfl ?_
  refine X.done [(0, _), (4, _), (5, _), (7, _), (9, _)] ⟨rfl, rfl, rfl, rfl, rfl, trivial⟩ ?_
  refine N.then ?_
  refine E.seq ?_
  refine E.seq ?_
  refine E.region ?_
  refine X.asg rfl rfl rfl rfl rfl ?_
  refine X.done [(0, _), (4, _), (5, _), (7, _), (9, _), (10, _)] ⟨rfl, rfl, rfl, rfl, rfl, rfl, trivial⟩ ?_
  refine N.then ?_
  refine E.block ?_
  -- MISSING in G: [4]
  refine E.loop (fun (i : Nat) => [(0, .slice a m c), (5, .slice (some ⟨b1, 0, none⟩) m m), (7, .slice (some ⟨b2, 0, none⟩) m m), (9, .bool true), (10, i64 i)]) (fun (i : Nat) H' => i ≤ m ∧ (∃ z : List Value, z.length = m ∧ H'[b1]? = some (.cells z.toArray 3 (0, 0))) ∧ H'[b2]? = some (.cells (rg m q).toArray 3 (0, 0)) ∧ Kp [] H H') (fun (i : Nat) => m - i) 0 ⟨rfl, rfl, rfl, rfl, rfl, trivial⟩ ⟨Nat.zero_le _, ⟨_, rg_len m q, hB1⟩, hb2, hkA⟩ ?_
  rintro i H9 ⟨hi, ⟨z, hz, hB1⟩, hb2, hkA⟩
  refine E.seq ?_
  refine E.seq ?_
  refine E.region ?_
  refine X.mv rfl rfl rfl rfl rfl ?_
  refine X.mv rfl rfl rfl rfl rfl ?_
  refine X.lenS rfl rfl rfl rfl rfl Try.underlying22 ?_
  refine X.lss rfl rfl rfl rfl rfl rfl ?_
  refine X.done [(0, _), (5, _), (7, _), (9, _), (10, _), (51, _), (52, _), (53, _), (54, _)] ⟨rfl, rfl, rfl, rfl, rfl, rfl, rfl, rfl, rfl, trivial⟩ ?_
  refine N.then ?_
  refine E.condD rfl (fun hc => ?_) (fun hc => ?_)
  · refine E.skip ?_
    refine N.then ?_
    refine E.seq ?_
    refine E.block ?_
    refine E.region ?_
    refine X.mv rfl rfl rfl rfl rfl ?_
    refine X.mv rfl rfl rfl rfl rfl ?_
    refine X.ixA rfl rfl rfl rfl rfl rfl Try.underlying22 Try.sz3 (by omega) ?_
    refine X.st rfl rfl rfl rfl rfl rfl rfl Try.sz3 hB1 (by rw [hz]; omega) ?_
    intro H11 hB11 hk11
    refine X.done [(0, _), (5, _), (7, _), (9, _), (10, _), (51, _), (52, _), (53, _), (54, _), (57, _), (58, _), (59, _)] ⟨rfl, rfl, rfl, rfl, rfl, rfl, rfl, rfl, rfl, rfl, rfl, rfl, trivial⟩ ?_
    refine N.blk ?_
    refine N.then ?_
    refine E.region ?_
    refine X.mv rfl rfl rfl rfl rfl ?_
    refine X.add rfl rfl rfl rfl rfl rfl (by omega) ?_
    refine X.asg rfl rfl rfl rfl rfl ?_
    refine X.done [(0, _), (5, _), (7, _), (9, _), (10, _), (51, _), (52, _), (53, _), (54, _), (57, _), (58, _), (59, _), (55, _), (56, _)] ⟨rfl, rfl, rfl, rfl, rfl, rfl, rfl, rfl, rfl, rfl, rfl, rfl, rfl, rfl, trivial⟩ ?_
    exact N.next (G := fun (i : Nat) => _) (i + 1) ⟨rfl, rfl, rfl, rfl, rfl, trivial⟩ ⟨by omega, ⟨_, by rw [List.length_set, hz], hB11⟩, hk11.keep hb2 (by simp; exact Ne.symm hn12), hkA.trans hk11 (by simp; exact hf1)⟩ (by show m - (i + 1) < m - i; omega)
  · refine E.exit ?_
    refine N.thenX ?_
    refine N.loopX ?_
    refine N.blkX ?_
    refine N.then ?_
    refine E.seq ?_
    refine E.region ?_
    refine X.mv rfl rfl rfl rfl rfl ?_
    refine X.call rfl rfl rfl rfl rfl Try.cl8 (c8 H9 (A.keepN hkA)) ?_
    rintro _ H12 ⟨b12, rfl, hf12, hb12, hk12⟩
    replace hb2 := hk12.keep hb2 (by simp)
    have hkA := hkA.trans hk12 (by simp)
    refine X.mv rfl rfl rfl rfl rfl ?_
    refine X.extract rfl rfl rfl rfl rfl rfl ?_
    refine X.extract rfl rfl rfl rfl rfl rfl ?_
    refine X.asg rfl rfl rfl rfl rfl ?_
    refine X.asg rfl rfl rfl rfl rfl ?_
    refine X.done [(7, _), (9, _), (11, _)] ⟨rfl, rfl, rfl, trivial⟩ ?_
    refine N.then ?_
    refine E.seq ?_
    refine E.region ?_
    refine X.mv rfl rfl rfl rfl rfl ?_
    refine X.mv rfl rfl rfl rfl rfl ?_
    refine X.mv rfl rfl rfl rfl rfl ?_
    refine X.mv rfl rfl rfl rfl rfl ?_
    refine X.call rfl rfl rfl rfl rfl Try.cl10 (cI b12 b2 H12 hb12 hb2) ?_
    rintro _ H13 ⟨rfl, eH13⟩
    obtain rfl := eH13.symm
    refine X.pickT rfl rfl rfl rfl rfl rfl ?_
    refine X.mv rfl rfl rfl rfl rfl ?_
    refine X.call rfl rfl rfl rfl rfl Try.cl7 (known_ct H12) ?_
    rintro _ HK ⟨rfl, hkK⟩
    refine X.pickT rfl rfl rfl rfl rfl rfl ?_
    refine X.asg rfl rfl rfl rfl rfl ?_
    refine X.done [(4, _)] ⟨rfl, trivial⟩ ?_
    refine N.then ?_
    refine E.ret ?_
    exact N.retH [_] ⟨_, _, rfl, rfl, rfl⟩ ⟨rfl, (hkA).trans hkK (by simp)⟩


theorem lenscodes_ct (ls : List Int) (a : Option Addr) (b o c : Nat) (H : Heap) (A : Row1 H a b o (iv ls)) (lone : Bool) : Ct Try.prog 3 #[.slice a ls.length c, .bool lone] H fun v H' => v = .bool true ∧ Kp [] H H' := by
  by_cases hm : 1000 < ls.length
  · exact codes0 _ a c H lone hm
  · rcases wrong_cases ls with hw | ⟨ns, rfl, ho, hl⟩
    · exact codes1 ls.length a b o c (iv ls) H A (wrongV ls) (-1) (wrongV ls) lone (by omega) (fun H A => codes_bad ls a b o c H A hw) (fun H A => (rcodes_bad ls a b o c H A hw).mono (fun v H' ⟨h1, h2⟩ => ⟨h1, h2 ▸ Kp.refl _ _⟩))
        (fun H A => kraft_bad ls a b o c H A hw) (fun H A => (rkraft_bad ls a b o c H A hw).mono (fun v H' ⟨h1, h2⟩ => ⟨h1, h2 ▸ Kp.refl _ _⟩)) (fun H A => fits_bad ls a b o c H A hw lone) (fun H A => rfits_bad ls a b o c H A hw lone)
    · rw [List.length_map]
      rw [nv_iv] at A
      have hkr := kr_eq ns ho
      by_cases hK : 32768 < K ns 15
      · exact codes1 ns.length a b o c (nv ns) H A 7 (K ns 15) 7 lone (by omega) (fun H A => codes_over ns a b o c H A ho hl hK) (fun H A => (rcodes_over ns a b o c H A ho hl hK).mono (fun v H' ⟨h1, h2⟩ => ⟨h1, h2 ▸ Kp.refl _ _⟩))
          (fun H A => kraft_ok ns a b o c H A ho hl) (fun H A => (rkraft_ok ns a b o c H A ho hl).mono (fun v H' ⟨h1, h2⟩ => ⟨by rw [h1, hkr], h2 ▸ Kp.refl _ _⟩)) (fun H A => fits_over ns a b o c H A ho hl hK lone) (fun H A => rfits_over ns a b o c H A ho hl hK lone)
      · exact codes2 ns.length a b o c (nv ns) H A (K ns 15) (fitV ns lone) (fin ns) lone (by omega) (fun H A => codes_ok ns a b o c H A ho hl (by omega)) (fun H A => rcodes_ok ns a b o c H A ho hl (by omega))
          (fun H A => kraft_ok ns a b o c H A ho hl) (fun H A => (rkraft_ok ns a b o c H A ho hl).mono (fun v H' ⟨h1, h2⟩ => ⟨by rw [h1, hkr], h2 ▸ Kp.refl _ _⟩)) (fun H A => fits_ok ns a b o c H A ho hl (by omega) lone) (fun H A => rfits_ok ns a b o c H A ho hl (by omega) lone)

theorem apart0 (m : Nat) (a : Option Addr) (c : Nat) (H : Heap) (hm : 320 < m) : Ct Try.prog 4 #[.slice a m c] H fun v H' => v = .bool true ∧ Kp [] H H' := by
  refine Ct.into 103 Try.func4 rfl [(0, .slice a m c)] rfl ⟨rfl, trivial⟩ ?_
  refine E.seq ?_
  refine E.region ?_
  refine X.asg rfl rfl rfl rfl rfl ?_
  refine X.done [(0, _), (2, _)] ⟨rfl, rfl, trivial⟩ ?_
  refine N.then ?_
  refine E.seq ?_
  refine E.seq ?_
  refine E.region ?_
  refine X.mv rfl rfl rfl rfl rfl ?_
  refine X.lenS rfl rfl rfl rfl rfl Try.underlying22 ?_
  refine X.gtrT rfl rfl rfl rfl rfl rfl (by omega) ?_
  refine X.done [(0, _), (2, _), (9, _)] ⟨rfl, rfl, rfl, trivial⟩ ?_
  refine N.then ?_
  refine E.condT rfl ?_
  refine E.seq ?_
  refine E.region ?_
  refine X.call rfl rfl rfl rfl rfl Try.cl7 (known_ct H) ?_
  rintro _ HK ⟨rfl, hkK⟩
  refine X.asg rfl rfl rfl rfl rfl ?_
  refine X.done [(0, _), (2, _)] ⟨rfl, rfl, trivial⟩ ?_
  refine N.then ?_
  refine E.ret ?_
  refine N.thenR ?_
  exact N.retH [_] ⟨_, _, rfl, rfl, rfl⟩ ⟨rfl, hkK⟩

theorem apart1 (m : Nat) (a : Option Addr) (c : Nat) (H : Heap) (hm : m ≤ 320) (e : Int) (he : e ≠ 0) (c8 : Ct Try.prog 8 #[.slice a m c] H fun v H' => v = .tuple #[.slice none 0 0, i64 e] ∧ Kp [] H H') : Ct Try.prog 4 #[.slice a m c] H fun v H' => v = .bool true ∧ Kp [] H H' := by
  refine Ct.into 103 Try.func4 rfl [(0, .slice a m c)] rfl ⟨rfl, trivial⟩ ?_
  refine E.seq ?_
  refine E.region ?_
  refine X.asg rfl rfl rfl rfl rfl ?_
  refine X.done [(0, _), (2, _)] ⟨rfl, rfl, trivial⟩ ?_
  refine N.then ?_
  refine E.seq ?_
  refine E.seq ?_
  refine E.region ?_
  refine X.mv rfl rfl rfl rfl rfl ?_
  refine X.lenS rfl rfl rfl rfl rfl Try.underlying22 ?_
  refine X.gtrF rfl rfl rfl rfl rfl rfl (by omega) ?_
  refine X.done [(0, _), (2, _), (9, _)] ⟨rfl, rfl, rfl, trivial⟩ ?_
  refine N.then ?_
  refine E.condF rfl ?_
  refine E.skip ?_
  refine N.then ?_
  refine E.seq ?_
  refine E.region ?_
  refine X.mv rfl rfl rfl rfl rfl ?_
  refine X.call rfl rfl rfl rfl rfl Try.cl8 (c8) ?_
  rintro _ H1 ⟨rfl, hk1⟩
  refine X.mv rfl rfl rfl rfl rfl ?_
  refine X.extract rfl rfl rfl rfl rfl rfl ?_
  refine X.extract rfl rfl rfl rfl rfl rfl ?_
  refine X.asg rfl rfl rfl rfl rfl ?_
  refine X.asg rfl rfl rfl rfl rfl ?_
  refine X.done [(0, _), (2, _), (3, _), (4, _)] ⟨rfl, rfl, rfl, rfl, trivial⟩ ?_
  refine N.then ?_
  refine E.seq ?_
  refine E.seq ?_
  refine E.region ?_
  refine X.mv rfl rfl rfl rfl rfl ?_
  refine X.neqT rfl rfl rfl rfl rfl rfl (he) ?_
  refine X.done [(0, _), (2, _), (3, _), (17, _)] ⟨rfl, rfl, rfl, rfl, trivial⟩ ?_
  refine N.then ?_
  refine E.condT rfl ?_
  refine E.seq ?_
  refine E.region ?_
  refine X.mv rfl rfl rfl rfl rfl ?_
  refine X.lenS rfl rfl rfl rfl rfl Try.underlying22 ?_
  refine X.eqlT rfl rfl rfl rfl rfl rfl (rfl) ?_
  refine X.mv rfl rfl rfl rfl rfl ?_
  refine X.call rfl rfl rfl rfl rfl Try.cl7 (known_ct H1) ?_
  rintro _ HK ⟨rfl, hkK⟩
  refine X.pickT rfl rfl rfl rfl rfl rfl ?_
  refine X.asg rfl rfl rfl rfl rfl ?_
  refine X.done [(0, _), (2, _), (3, _)] ⟨rfl, rfl, rfl, trivial⟩ ?_
  refine N.then ?_
  refine E.ret ?_
  refine N.thenR ?_
  exact N.retH [_] ⟨_, _, rfl, rfl, rfl⟩ ⟨rfl, (hk1).trans hkK (by simp)⟩

theorem apart2 (ns : Ns) (a : Option Addr) (b o c : Nat) (H : Heap) (A : Row1 H a b o (nv ns)) (ho : Ok ns) (hl : ns.length ≤ 320) (hK : K ns 15 ≤ 32768) : Ct Try.prog 4 #[.slice a ns.length c] H fun v H' => v = .bool true ∧ Kp [] H H' := by
  refine Ct.into 103 Try.func4 rfl [(0, .slice a ns.length c)] rfl ⟨rfl, trivial⟩ ?_
  refine E.seq ?_
  refine E.region ?_
  refine X.asg rfl rfl rfl rfl rfl ?_
  refine X.done [(0, _), (2, _)] ⟨rfl, rfl, trivial⟩ ?_
  refine N.then ?_
  refine E.seq ?_
  refine E.seq ?_
  refine E.region ?_
  refine X.mv rfl rfl rfl rfl rfl ?_
  refine X.lenS rfl rfl rfl rfl rfl Try.underlying22 ?_
  refine X.gtrF rfl rfl rfl rfl rfl rfl (by omega) ?_
  refine X.done [(0, _), (2, _), (9, _)] ⟨rfl, rfl, rfl, trivial⟩ ?_
  refine N.then ?_
  refine E.condF rfl ?_
  refine E.skip ?_
  refine N.then ?_
  refine E.seq ?_
  refine E.region ?_
  refine X.mv rfl rfl rfl rfl rfl ?_
  refine X.call rfl rfl rfl rfl rfl Try.cl8 (codes_ok ns a b o c H A ho hl hK) ?_
  rintro _ H1 ⟨b1, rfl, hf1, hb1, hk1⟩
  refine X.mv rfl rfl rfl rfl rfl ?_
  refine X.extract rfl rfl rfl rfl rfl rfl ?_
  refine X.extract rfl rfl rfl rfl rfl rfl ?_
  refine X.asg rfl rfl rfl rfl rfl ?_
  refine X.asg rfl rfl rfl rfl rfl ?_
  refine X.done [(0, _), (2, _), (3, _), (4, _)] ⟨rfl, rfl, rfl, rfl, trivial⟩ ?_
  refine N.then ?_
  refine E.seq ?_
  refine E.seq ?_
  refine E.region ?_
  refine X.mv rfl rfl rfl rfl rfl ?_
  refine X.neqF rfl rfl rfl rfl rfl rfl (fun h => h rfl) ?_
  refine X.done [(0, _), (2, _), (3, _), (17, _)] ⟨rfl, rfl, rfl, rfl, trivial⟩ ?_
  refine N.then ?_
  refine E.condF rfl ?_
  refine E.skip ?_
  refine N.then ?_
  refine E.seq ?_
  refine E.seq ?_
  refine E.region ?_
  refine X.mv rfl rfl rfl rfl rfl ?_
  refine X.lenS rfl rfl rfl rfl rfl Try.underlying22 ?_
  refine X.mv rfl rfl rfl rfl rfl ?_
  refine X.lenS rfl rfl rfl rfl rfl Try.underlying22 ?_
  refine X.neqF rfl rfl rfl rfl rfl rfl (fun h => h rfl) ?_
  refine X.done [(0, _), (2, _), (3, _), (28, _)] ⟨rfl, rfl, rfl, rfl, trivial⟩ ?_
  refine N.then ?_
  refine E.condF rfl ?_
  refine E.skip ?_
  refine N.then ?_
  refine E.seq ?_
  refine E.seq ?_
  refine E.region ?_
  refine X.asg rfl rfl rfl rfl rfl ?_
  refine X.done [(0, _), (2, _), (3, _), (5, _)] ⟨rfl, rfl, rfl, rfl, trivial⟩ ?_
  refine N.then ?_
  refine E.block ?_
  refine E.loop (fun (i : Nat) => [(0, .slice a ns.length c), (2, .bool false), (3, .slice (some ⟨b1, 0, none⟩) ns.length ns.length), (5, i64 i)]) (fun (i : Nat) H' => i ≤ ns.length ∧ H' = H1) (fun (i : Nat) => ns.length - i) 0 ⟨rfl, rfl, rfl, rfl, trivial⟩ ⟨Nat.zero_le _, rfl⟩ ?_
  rintro i H2 ⟨hi, eH2⟩
  obtain rfl := eH2.symm
  refine E.seq ?_
  refine E.seq ?_
  refine E.region ?_
  refine X.mv rfl rfl rfl rfl rfl ?_
  refine X.mv rfl rfl rfl rfl rfl ?_
  refine X.lenS rfl rfl rfl rfl rfl Try.underlying22 ?_
  refine X.lss rfl rfl rfl rfl rfl rfl ?_
  refine X.done [(0, _), (2, _), (3, _), (5, _), (29, _), (30, _), (31, _), (32, _)] ⟨rfl, rfl, rfl, rfl, rfl, rfl, rfl, rfl, trivial⟩ ?_
  refine N.then ?_
  refine E.condD rfl (fun hc => ?_) (fun hc => ?_)
  · refine E.skip ?_
    refine N.then ?_
    refine E.seq ?_
    refine E.block ?_
    refine E.seq ?_
    refine E.seq ?_
    obtain ⟨x, hx⟩ : ∃ x, ns[i]? = some x := ⟨_, List.getElem?_eq_getElem (by omega)⟩
    have hx15 := ho x (List.mem_of_getElem? hx)
    obtain ⟨ha, cs, ct, fz, hbb, hel⟩ := (A.keepN hk1).get i _ (nv_get hx)
    have hg := rg_get (fin ns) (show i < ns.length by omega)
    have hfx : fin ns i = code ns i x := fin_at hx
    have hlt := code_lt hx hx15 hK
    have hp16 : 2 ^ x ≤ 2 ^ 15 := Nat.pow_le_pow_right (by omega) hx15
    have eP : ((2 ^ x : Nat) : Int) = 1 * 2 ^ x := by simp
    refine E.regionD (fun H' => H'[b1]? = some (.cells (rg ns.length (fin ns)).toArray 3 (0, 0)) ∧ H'[b]? = some (.cells cs.toArray ct fz)) [(0, .pu), (1, .pu), (2, .pu), (3, .st), (4, .pu), (5, .pu), (6, .pu), (7, .pu), (8, .pu), (9, .st), (10, .pu), (11, .pu), (12, .pu), (13, .st), (14, .pu), (15, .pu), (16, .pu), (17, .pu)] Try.mixed (by kernel_rfl) (⟨hb1, hbb⟩) ?_
    refine X.mv rfl rfl rfl rfl rfl ?_
    refine X.mv rfl rfl rfl rfl rfl ?_
    refine X.ixA rfl rfl rfl rfl rfl rfl Try.underlying22 Try.sz3 (by omega) ?_
    refine X.ld rfl rfl rfl rfl Try.ag3 (fun H' hF => hF.1) (by rw [Nat.zero_add, Nat.mul_one]; exact hg) ?_
    refine X.lssF rfl rfl rfl rfl rfl rfl (by omega) ?_
    refine X.mv rfl rfl rfl rfl rfl ?_
    refine X.mv rfl rfl rfl rfl rfl ?_
    refine X.mv rfl rfl rfl rfl rfl ?_
    refine X.ixA rfl rfl rfl rfl rfl rfl Try.underlying22 Try.sz3 (by omega) ?_
    refine X.ld rfl rfl rfl rfl Try.ag3 (fun H' hF => hF.1) (by rw [Nat.zero_add, Nat.mul_one]; exact hg) ?_
    refine X.mv rfl rfl rfl rfl rfl ?_
    refine X.mv rfl rfl rfl rfl rfl ?_
    refine X.ixAe rfl rfl rfl rfl rfl rfl Try.underlying22 Try.sz3 (ha) (by omega) ?_
    refine X.ld rfl rfl rfl rfl Try.ag3 (fun H' hF => hF.2) (by rw [Nat.mul_one]; exact hel) ?_
    refine X.convE (zz := (x : Int)) rfl rfl rfl rfl rfl Try.underlying31 Try.us3 (IntWalk.u64_in _ (by omega)) ?_
    refine X.shlE (zz := ((2 ^ x : Nat) : Int)) rfl rfl rfl rfl rfl rfl (by omega) (by rw [eP]; exact shlN rfl (by omega) (by omega) (by omega)) ?_
    refine X.geqF rfl rfl rfl rfl rfl rfl (by omega) ?_
    refine X.pickF rfl rfl rfl rfl rfl rfl ?_
    refine X.done [(0, _), (2, _), (3, _), (5, _), (29, _), (30, _), (31, _), (32, _), (35, _), (36, _), (37, _), (38, _), (39, _), (40, _), (41, _), (42, _), (43, _), (44, _), (45, _), (46, _), (47, _), (48, _), (49, _), (50, _), (51, _), (52, _)] ⟨rfl, rfl, rfl, rfl, rfl, rfl, rfl, rfl, rfl, rfl, rfl, rfl, rfl, rfl, rfl, rfl, rfl, rfl, rfl, rfl, rfl, rfl, rfl, rfl, rfl, rfl, trivial⟩ ?_
    refine N.then ?_
    refine E.condF rfl ?_
    refine E.skip ?_
    refine N.then ?_
    refine E.seq ?_
    refine E.region ?_
    refine X.asg rfl rfl rfl rfl rfl ?_
    refine X.done [(0, _), (2, _), (3, _), (5, _), (29, _), (30, _), (31, _), (32, _), (35, _), (36, _), (37, _), (38, _), (39, _), (40, _), (41, _), (42, _), (43, _), (44, _), (45, _), (46, _), (47, _), (48, _), (49, _), (50, _), (51, _), (52, _), (6, _)] ⟨rfl, rfl, rfl, rfl, rfl, rfl, rfl, rfl, rfl, rfl, rfl, rfl, rfl, rfl, rfl, rfl, rfl, rfl, rfl, rfl, rfl, rfl, rfl, rfl, rfl, rfl, rfl, trivial⟩ ?_
    refine N.then ?_
    refine E.block ?_
    -- MISSING in G: [29, 30, 31, 32, 35, 36, 37, 38, 39, 40, 41, 42, 43, 44, 45, 46, 47, 48, 49, 50, 51, 52]
    refine E.loop (fun (k : Nat) => [(0, .slice a ns.length c), (2, .bool false), (3, .slice (some ⟨b1, 0, none⟩) ns.length ns.length), (5, i64 i), (6, i64 k)]) (fun (k : Nat) H' => k ≤ ns.length ∧ H' = H1) (fun (k : Nat) => ns.length - k) 0 ⟨rfl, rfl, rfl, rfl, rfl, trivial⟩ ⟨Nat.zero_le _, rfl⟩ ?_
    rintro k H3 ⟨hk, eH3⟩
    obtain rfl := eH3.symm
    refine E.seq ?_
    refine E.seq ?_
    refine E.region ?_
    refine X.mv rfl rfl rfl rfl rfl ?_
    refine X.mv rfl rfl rfl rfl rfl ?_
    refine X.lenS rfl rfl rfl rfl rfl Try.underlying22 ?_
    refine X.lss rfl rfl rfl rfl rfl rfl ?_
    refine X.done [(0, _), (2, _), (3, _), (5, _), (6, _), (53, _), (54, _), (55, _), (56, _)] ⟨rfl, rfl, rfl, rfl, rfl, rfl, rfl, rfl, rfl, trivial⟩ ?_
    refine N.then ?_
    refine E.condD rfl (fun hc => ?_) (fun hc => ?_)
    · refine E.skip ?_
      refine N.then ?_
      refine E.seq ?_
      refine E.block ?_
      refine E.seq ?_
      obtain ⟨y, hy⟩ : ∃ y, ns[k]? = some y := ⟨_, List.getElem?_eq_getElem (by omega)⟩
      have hy15 := ho y (List.mem_of_getElem? hy)
      obtain ⟨hak, csk, ctk, fzk, hbbk, helk⟩ := (A.keepN hk1).get k _ (nv_get hy)
      have hgk := rg_get (fin ns) (show k < ns.length by omega)
      have hfy : fin ns k = code ns k y := fin_at hy
      have hne : (i ≠ k ∧ 1 ≤ x ∧ x ≤ y) → fin ns k / 2 ^ (y - x) ≠ fin ns i := fun h => by rw [hfx, hfy]; exact pre_ne hx hy ⟨h.2.1, h.2.2, hy15⟩ h.1
      refine E.regionD (fun H' => H'[b1]? = some (.cells (rg ns.length (fin ns)).toArray 3 (0, 0)) ∧ H'[b]? = some (.cells cs.toArray ct fz) ∧ H'[b]? = some (.cells csk.toArray ctk fzk)) [(0, .pu), (1, .pu), (2, .pu), (3, .pu), (4, .pu), (5, .pu), (6, .pu), (7, .st), (8, .pu), (9, .pu), (10, .pu), (11, .pu), (12, .pu), (13, .pu), (14, .st), (15, .pu), (16, .pu), (17, .pu), (18, .st), (19, .pu), (20, .pu), (21, .pu), (22, .pu), (23, .pu), (24, .pu), (25, .st), (26, .pu), (27, .pu), (28, .pu), (29, .st), (30, .pu), (31, .pu), (32, .pu), (33, .st), (34, .pu), (35, .pu), (36, .pu), (37, .pu), (38, .pu), (39, .pu), (40, .st), (41, .pu), (42, .pu)] Try.mixed (by kernel_rfl) (⟨hb1, hbb, hbbk⟩) ?_
      refine X.mv rfl rfl rfl rfl rfl ?_
      refine X.mv rfl rfl rfl rfl rfl ?_
      refine X.neqC rfl rfl rfl rfl rfl rfl (fun hc => ?_) (fun hc => ?_)
      · refine X.mv rfl rfl rfl rfl rfl ?_
        refine X.mv rfl rfl rfl rfl rfl ?_
        refine X.mv rfl rfl rfl rfl rfl ?_
        refine X.ixAe rfl rfl rfl rfl rfl rfl Try.underlying22 Try.sz3 (ha) (by omega) ?_
        refine X.ld rfl rfl rfl rfl Try.ag3 (fun H' hF => hF.2.1) (by rw [Nat.mul_one]; exact hel) ?_
        refine X.gtrC rfl rfl rfl rfl rfl rfl (fun hc => ?_) (fun hc => ?_)
        · refine X.pickT rfl rfl rfl rfl rfl rfl ?_
          refine X.mv rfl rfl rfl rfl rfl ?_
          refine X.mv rfl rfl rfl rfl rfl ?_
          refine X.mv rfl rfl rfl rfl rfl ?_
          refine X.ixAe rfl rfl rfl rfl rfl rfl Try.underlying22 Try.sz3 (hak) (by omega) ?_
          refine X.ld rfl rfl rfl rfl Try.ag3 (fun H' hF => hF.2.2) (by rw [Nat.mul_one]; exact helk) ?_
          refine X.mv rfl rfl rfl rfl rfl ?_
          refine X.mv rfl rfl rfl rfl rfl ?_
          refine X.ixAe rfl rfl rfl rfl rfl rfl Try.underlying22 Try.sz3 (ha) (by omega) ?_
          refine X.ld rfl rfl rfl rfl Try.ag3 (fun H' hF => hF.2.1) (by rw [Nat.mul_one]; exact hel) ?_
          refine X.geqC rfl rfl rfl rfl rfl rfl (fun hc => ?_) (fun hc => ?_)
          · refine X.pickT rfl rfl rfl rfl rfl rfl ?_
            refine X.mv rfl rfl rfl rfl rfl ?_
            refine X.mv rfl rfl rfl rfl rfl ?_
            refine X.mv rfl rfl rfl rfl rfl ?_
            refine X.ixA rfl rfl rfl rfl rfl rfl Try.underlying22 Try.sz3 (by omega) ?_
            refine X.ld rfl rfl rfl rfl Try.ag3 (fun H' hF => hF.1) (by rw [Nat.zero_add, Nat.mul_one]; exact hgk) ?_
            refine X.mv rfl rfl rfl rfl rfl ?_
            refine X.mv rfl rfl rfl rfl rfl ?_
            refine X.ixAe rfl rfl rfl rfl rfl rfl Try.underlying22 Try.sz3 (hak) (by omega) ?_
            refine X.ld rfl rfl rfl rfl Try.ag3 (fun H' hF => hF.2.2) (by rw [Nat.mul_one]; exact helk) ?_
            refine X.mv rfl rfl rfl rfl rfl ?_
            refine X.mv rfl rfl rfl rfl rfl ?_
            refine X.ixAe rfl rfl rfl rfl rfl rfl Try.underlying22 Try.sz3 (ha) (by omega) ?_
            refine X.ld rfl rfl rfl rfl Try.ag3 (fun H' hF => hF.2.1) (by rw [Nat.mul_one]; exact hel) ?_
            refine X.sbE (zz := ((y - x : Nat) : Int)) rfl rfl rfl rfl rfl rfl (by rw [IntWalk.i64_in _ (by omega)]; omega) ?_
            refine X.convE (zz := ((y - x : Nat) : Int)) rfl rfl rfl rfl rfl Try.underlying31 Try.us3 (IntWalk.u64_in _ (by omega)) ?_
            refine X.shrE (zz := ((fin ns k / 2 ^ (y - x) : Nat) : Int)) rfl rfl rfl rfl rfl rfl (by omega) (shrN rfl rfl (by show y - x ≤ 64; omega)) ?_
            have hne := hne ⟨by omega, by omega, by omega⟩
            refine X.mv rfl rfl rfl rfl rfl ?_
            refine X.mv rfl rfl rfl rfl rfl ?_
            refine X.ixA rfl rfl rfl rfl rfl rfl Try.underlying22 Try.sz3 (by omega) ?_
            refine X.ld rfl rfl rfl rfl Try.ag3 (fun H' hF => hF.1) (by rw [Nat.zero_add, Nat.mul_one]; exact hg) ?_
            refine X.eqlF rfl rfl rfl rfl rfl rfl (fun h => hne (Int.ofNat.inj h)) ?_
            refine X.pickT rfl rfl rfl rfl rfl rfl ?_
            refine X.done [(0, _), (2, _), (3, _), (5, _), (6, _), (53, _), (54, _), (55, _), (56, _), (59, _), (60, _), (61, _), (62, _), (63, _), (64, _), (65, _), (66, _), (67, _), (68, _), (69, _), (70, _), (71, _), (72, _), (73, _), (74, _), (75, _), (76, _), (77, _), (78, _), (79, _), (80, _), (81, _), (82, _), (83, _), (84, _), (85, _), (86, _), (87, _), (88, _), (89, _), (90, _), (91, _), (92, _), (93, _), (94, _), (95, _), (96, _), (97, _), (98, _), (99, _), (100, _), (101, _)] ⟨rfl, rfl, rfl, rfl, rfl, rfl, rfl, rfl, rfl, rfl, rfl, rfl, rfl, rfl, rfl, rfl, rfl, rfl, rfl, rfl, rfl, rfl, rfl, rfl, rfl, rfl, rfl, rfl, rfl, rfl, rfl, rfl, rfl, rfl, rfl, rfl, rfl, rfl, rfl, rfl, rfl, rfl, rfl, rfl, rfl, rfl, rfl, rfl, rfl, rfl, rfl, rfl, trivial⟩ ?_
            refine N.then ?_
            refine E.condF rfl ?_
            refine E.skip ?_
            refine N.blk ?_
            refine N.then ?_
            refine E.region ?_
            refine X.mv rfl rfl rfl rfl rfl ?_
            refine X.add rfl rfl rfl rfl rfl rfl (by omega) ?_
            refine X.asg rfl rfl rfl rfl rfl ?_
            refine X.done [(0, _), (2, _), (3, _), (5, _), (6, _), (53, _), (54, _), (55, _), (56, _), (59, _), (60, _), (61, _), (62, _), (63, _), (64, _), (65, _), (66, _), (67, _), (68, _), (69, _), (70, _), (71, _), (72, _), (73, _), (74, _), (75, _), (76, _), (77, _), (78, _), (79, _), (80, _), (81, _), (82, _), (83, _), (84, _), (85, _), (86, _), (87, _), (88, _), (89, _), (90, _), (91, _), (92, _), (93, _), (94, _), (95, _), (96, _), (97, _), (98, _), (99, _), (100, _), (101, _), (57, _), (58, _)] ⟨rfl, rfl, rfl, rfl, rfl, rfl, rfl, rfl, rfl, rfl, rfl, rfl, rfl, rfl, rfl, rfl, rfl, rfl, rfl, rfl, rfl, rfl, rfl, rfl, rfl, rfl, rfl, rfl, rfl, rfl, rfl, rfl, rfl, rfl, rfl, rfl, rfl, rfl, rfl, rfl, rfl, rfl, rfl, rfl, rfl, rfl, rfl, rfl, rfl, rfl, rfl, rfl, rfl, rfl, trivial⟩ ?_
            exact N.next (G := fun (k : Nat) => _) (k + 1) ⟨rfl, rfl, rfl, rfl, rfl, trivial⟩ ⟨by omega, rfl⟩ (by show _ - (k + 1) < _ - k; omega)
          · refine X.pickT rfl rfl rfl rfl rfl rfl ?_
            refine X.mv rfl rfl rfl rfl rfl ?_
            refine X.skip rfl rfl rfl ?_
            refine X.skip rfl rfl rfl ?_
            refine X.skip rfl rfl rfl ?_
            refine X.skip rfl rfl rfl ?_
            refine X.skip rfl rfl rfl ?_
            refine X.skip rfl rfl rfl ?_
            refine X.skip rfl rfl rfl ?_
            refine X.skip rfl rfl rfl ?_
            refine X.skip rfl rfl rfl ?_
            refine X.skip rfl rfl rfl ?_
            refine X.skip rfl rfl rfl ?_
            refine X.skip rfl rfl rfl ?_
            refine X.skip rfl rfl rfl ?_
            refine X.skip rfl rfl rfl ?_
            refine X.skip rfl rfl rfl ?_
            refine X.skip rfl rfl rfl ?_
            refine X.skip rfl rfl rfl ?_
            refine X.skip rfl rfl rfl ?_
            refine X.skip rfl rfl rfl ?_
            refine X.skip rfl rfl rfl ?_
            refine X.pickF rfl rfl rfl rfl rfl rfl ?_
            refine X.done [(0, _), (2, _), (3, _), (5, _), (6, _), (53, _), (54, _), (55, _), (56, _), (59, _), (60, _), (61, _), (62, _), (63, _), (64, _), (65, _), (66, _), (67, _), (68, _), (69, _), (70, _), (71, _), (72, _), (73, _), (74, _), (75, _), (76, _), (77, _), (78, _), (79, _), (80, _), (81, _), (82, _), (83, _), (84, _), (85, _), (86, _), (87, _), (88, _), (89, _), (90, _), (91, _), (92, _), (93, _), (94, _), (95, _), (96, _), (97, _), (98, _), (99, _), (100, _), (101, _)] ⟨rfl, rfl, rfl, rfl, rfl, rfl, rfl, rfl, rfl, rfl, rfl, rfl, rfl, rfl, rfl, rfl, rfl, rfl, rfl, rfl, rfl, rfl, rfl, rfl, rfl, rfl, rfl, rfl, rfl, rfl, rfl, rfl, rfl, rfl, rfl, rfl, rfl, rfl, rfl, rfl, rfl, rfl, rfl, rfl, rfl, rfl, rfl, rfl, rfl, rfl, rfl, rfl, trivial⟩ ?_
            refine N.then ?_
            refine E.condF rfl ?_
            refine E.skip ?_
            refine N.blk ?_
            refine N.then ?_
            refine E.region ?_
            refine X.mv rfl rfl rfl rfl rfl ?_
            refine X.add rfl rfl rfl rfl rfl rfl (by omega) ?_
            refine X.asg rfl rfl rfl rfl rfl ?_
            refine X.done [(0, _), (2, _), (3, _), (5, _), (6, _), (53, _), (54, _), (55, _), (56, _), (59, _), (60, _), (61, _), (62, _), (63, _), (64, _), (65, _), (66, _), (67, _), (68, _), (69, _), (70, _), (71, _), (72, _), (73, _), (74, _), (75, _), (76, _), (77, _), (78, _), (79, _), (80, _), (81, _), (82, _), (83, _), (84, _), (85, _), (86, _), (87, _), (88, _), (89, _), (90, _), (91, _), (92, _), (93, _), (94, _), (95, _), (96, _), (97, _), (98, _), (99, _), (100, _), (101, _), (57, _), (58, _)] ⟨rfl, rfl, rfl, rfl, rfl, rfl, rfl, rfl, rfl, rfl, rfl, rfl, rfl, rfl, rfl, rfl, rfl, rfl, rfl, rfl, rfl, rfl, rfl, rfl, rfl, rfl, rfl, rfl, rfl, rfl, rfl, rfl, rfl, rfl, rfl, rfl, rfl, rfl, rfl, rfl, rfl, rfl, rfl, rfl, rfl, rfl, rfl, rfl, rfl, rfl, rfl, rfl, rfl, rfl, trivial⟩ ?_
            exact N.next (G := fun (k : Nat) => _) (k + 1) ⟨rfl, rfl, rfl, rfl, rfl, trivial⟩ ⟨by omega, rfl⟩ (by show _ - (k + 1) < _ - k; omega)
        · refine X.pickT rfl rfl rfl rfl rfl rfl ?_
          refine X.mv rfl rfl rfl rfl rfl ?_
          refine X.skip rfl rfl rfl ?_
          refine X.skip rfl rfl rfl ?_
          refine X.skip rfl rfl rfl ?_
          refine X.skip rfl rfl rfl ?_
          refine X.skip rfl rfl rfl ?_
          refine X.skip rfl rfl rfl ?_
          refine X.skip rfl rfl rfl ?_
          refine X.skip rfl rfl rfl ?_
          refine X.skip rfl rfl rfl ?_
          refine X.pickF rfl rfl rfl rfl rfl rfl ?_
          refine X.mv rfl rfl rfl rfl rfl ?_
          refine X.skip rfl rfl rfl ?_
          refine X.skip rfl rfl rfl ?_
          refine X.skip rfl rfl rfl ?_
          refine X.skip rfl rfl rfl ?_
          refine X.skip rfl rfl rfl ?_
          refine X.skip rfl rfl rfl ?_
          refine X.skip rfl rfl rfl ?_
          refine X.skip rfl rfl rfl ?_
          refine X.skip rfl rfl rfl ?_
          refine X.skip rfl rfl rfl ?_
          refine X.skip rfl rfl rfl ?_
          refine X.skip rfl rfl rfl ?_
          refine X.skip rfl rfl rfl ?_
          refine X.skip rfl rfl rfl ?_
          refine X.skip rfl rfl rfl ?_
          refine X.skip rfl rfl rfl ?_
          refine X.skip rfl rfl rfl ?_
          refine X.skip rfl rfl rfl ?_
          refine X.skip rfl rfl rfl ?_
          refine X.skip rfl rfl rfl ?_
          refine X.pickF rfl rfl rfl rfl rfl rfl ?_
          refine X.done [(0, _), (2, _), (3, _), (5, _), (6, _), (53, _), (54, _), (55, _), (56, _), (59, _), (60, _), (61, _), (62, _), (63, _), (64, _), (65, _), (66, _), (67, _), (68, _), (69, _), (70, _), (71, _), (72, _), (73, _), (74, _), (75, _), (76, _), (77, _), (78, _), (79, _), (80, _), (81, _), (82, _), (83, _), (84, _), (85, _), (86, _), (87, _), (88, _), (89, _), (90, _), (91, _), (92, _), (93, _), (94, _), (95, _), (96, _), (97, _), (98, _), (99, _), (100, _), (101, _)] ⟨rfl, rfl, rfl, rfl, rfl, rfl, rfl, rfl, rfl, rfl, rfl, rfl, rfl, rfl, rfl, rfl, rfl, rfl, rfl, rfl, rfl, rfl, rfl, rfl, rfl, rfl, rfl, rfl, rfl, rfl, rfl, rfl, rfl, rfl, rfl, rfl, rfl, rfl, rfl, rfl, rfl, rfl, rfl, rfl, rfl, rfl, rfl, rfl, rfl, rfl, rfl, rfl, trivial⟩ ?_
          refine N.then ?_
          refine E.condF rfl ?_
          refine E.skip ?_
          refine N.blk ?_
          refine N.then ?_
          refine E.region ?_
          refine X.mv rfl rfl rfl rfl rfl ?_
          refine X.add rfl rfl rfl rfl rfl rfl (by omega) ?_
          refine X.asg rfl rfl rfl rfl rfl ?_
          refine X.done [(0, _), (2, _), (3, _), (5, _), (6, _), (53, _), (54, _), (55, _), (56, _), (59, _), (60, _), (61, _), (62, _), (63, _), (64, _), (65, _), (66, _), (67, _), (68, _), (69, _), (70, _), (71, _), (72, _), (73, _), (74, _), (75, _), (76, _), (77, _), (78, _), (79, _), (80, _), (81, _), (82, _), (83, _), (84, _), (85, _), (86, _), (87, _), (88, _), (89, _), (90, _), (91, _), (92, _), (93, _), (94, _), (95, _), (96, _), (97, _), (98, _), (99, _), (100, _), (101, _), (57, _), (58, _)] ⟨rfl, rfl, rfl, rfl, rfl, rfl, rfl, rfl, rfl, rfl, rfl, rfl, rfl, rfl, rfl, rfl, rfl, rfl, rfl, rfl, rfl, rfl, rfl, rfl, rfl, rfl, rfl, rfl, rfl, rfl, rfl, rfl, rfl, rfl, rfl, rfl, rfl, rfl, rfl, rfl, rfl, rfl, rfl, rfl, rfl, rfl, rfl, rfl, rfl, rfl, rfl, rfl, rfl, rfl, trivial⟩ ?_
          exact N.next (G := fun (k : Nat) => _) (k + 1) ⟨rfl, rfl, rfl, rfl, rfl, trivial⟩ ⟨by omega, rfl⟩ (by show _ - (k + 1) < _ - k; omega)
      · refine X.mv rfl rfl rfl rfl rfl ?_
        refine X.skip rfl rfl rfl ?_
        refine X.skip rfl rfl rfl ?_
        refine X.skip rfl rfl rfl ?_
        refine X.skip rfl rfl rfl ?_
        refine X.skip rfl rfl rfl ?_
        refine X.pickF rfl rfl rfl rfl rfl rfl ?_
        refine X.mv rfl rfl rfl rfl rfl ?_
        refine X.skip rfl rfl rfl ?_
        refine X.skip rfl rfl rfl ?_
        refine X.skip rfl rfl rfl ?_
        refine X.skip rfl rfl rfl ?_
        refine X.skip rfl rfl rfl ?_
        refine X.skip rfl rfl rfl ?_
        refine X.skip rfl rfl rfl ?_
        refine X.skip rfl rfl rfl ?_
        refine X.skip rfl rfl rfl ?_
        refine X.pickF rfl rfl rfl rfl rfl rfl ?_
        refine X.mv rfl rfl rfl rfl rfl ?_
        refine X.skip rfl rfl rfl ?_
        refine X.skip rfl rfl rfl ?_
        refine X.skip rfl rfl rfl ?_
        refine X.skip rfl rfl rfl ?_
        refine X.skip rfl rfl rfl ?_
        refine X.skip rfl rfl rfl ?_
        refine X.skip rfl rfl rfl ?_
        refine X.skip rfl rfl rfl ?_
        refine X.skip rfl rfl rfl ?_
        refine X.skip rfl rfl rfl ?_
        refine X.skip rfl rfl rfl ?_
        refine X.skip rfl rfl rfl ?_
        refine X.skip rfl rfl rfl ?_
        refine X.skip rfl rfl rfl ?_
        refine X.skip rfl rfl rfl ?_
        refine X.skip rfl rfl rfl ?_
        refine X.skip rfl rfl rfl ?_
        refine X.skip rfl rfl rfl ?_
        refine X.skip rfl rfl rfl ?_
        refine X.skip rfl rfl rfl ?_
        refine X.pickF rfl rfl rfl rfl rfl rfl ?_
        refine X.done [(0, _), (2, _), (3, _), (5, _), (6, _), (53, _), (54, _), (55, _), (56, _), (59, _), (60, _), (61, _), (62, _), (63, _), (64, _), (65, _), (66, _), (67, _), (68, _), (69, _), (70, _), (71, _), (72, _), (73, _), (74, _), (75, _), (76, _), (77, _), (78, _), (79, _), (80, _), (81, _), (82, _), (83, _), (84, _), (85, _), (86, _), (87, _), (88, _), (89, _), (90, _), (91, _), (92, _), (93, _), (94, _), (95, _), (96, _), (97, _), (98, _), (99, _), (100, _), (101, _)] ⟨rfl, rfl, rfl, rfl, rfl, rfl, rfl, rfl, rfl, rfl, rfl, rfl, rfl, rfl, rfl, rfl, rfl, rfl, rfl, rfl, rfl, rfl, rfl, rfl, rfl, rfl, rfl, rfl, rfl, rfl, rfl, rfl, rfl, rfl, rfl, rfl, rfl, rfl, rfl, rfl, rfl, rfl, rfl, rfl, rfl, rfl, rfl, rfl, rfl, rfl, rfl, rfl, trivial⟩ ?_
        refine N.then ?_
        refine E.condF rfl ?_
        refine E.skip ?_
        refine N.blk ?_
        refine N.then ?_
        refine E.region ?_
        refine X.mv rfl rfl rfl rfl rfl ?_
        refine X.add rfl rfl rfl rfl rfl rfl (by omega) ?_
        refine X.asg rfl rfl rfl rfl rfl ?_
        refine X.done [(0, _), (2, _), (3, _), (5, _), (6, _), (53, _), (54, _), (55, _), (56, _), (59, _), (60, _), (61, _), (62, _), (63, _), (64, _), (65, _), (66, _), (67, _), (68, _), (69, _), (70, _), (71, _), (72, _), (73, _), (74, _), (75, _), (76, _), (77, _), (78, _), (79, _), (80, _), (81, _), (82, _), (83, _), (84, _), (85, _), (86, _), (87, _), (88, _), (89, _), (90, _), (91, _), (92, _), (93, _), (94, _), (95, _), (96, _), (97, _), (98, _), (99, _), (100, _), (101, _), (57, _), (58, _)] ⟨rfl, rfl, rfl, rfl, rfl, rfl, rfl, rfl, rfl, rfl, rfl, rfl, rfl, rfl, rfl, rfl, rfl, rfl, rfl, rfl, rfl, rfl, rfl, rfl, rfl, rfl, rfl, rfl, rfl, rfl, rfl, rfl, rfl, rfl, rfl, rfl, rfl, rfl, rfl, rfl, rfl, rfl, rfl, rfl, rfl, rfl, rfl, rfl, rfl, rfl, rfl, rfl, rfl, rfl, trivial⟩ ?_
        exact N.next (G := fun (k : Nat) => _) (k + 1) ⟨rfl, rfl, rfl, rfl, rfl, trivial⟩ ⟨by omega, rfl⟩ (by show _ - (k + 1) < _ - k; omega)
    · refine E.exit ?_
      refine N.thenX ?_
      refine N.loopX ?_
      refine N.blkX ?_
      refine N.blk ?_
      refine N.then ?_
      refine E.region ?_
      refine X.mv rfl rfl rfl rfl rfl ?_
      refine X.add rfl rfl rfl rfl rfl rfl (by omega) ?_
      refine X.asg rfl rfl rfl rfl rfl ?_
      refine X.done [(0, _), (2, _), (3, _), (5, _), (6, _), (53, _), (54, _), (55, _), (56, _), (33, _), (34, _)] ⟨rfl, rfl, rfl, rfl, rfl, rfl, rfl, rfl, rfl, rfl, rfl, trivial⟩ ?_
      exact N.next (G := fun (i : Nat) => _) (i + 1) ⟨rfl, rfl, rfl, rfl, trivial⟩ ⟨by omega, rfl⟩ (by show _ - (i + 1) < _ - i; omega)
  · refine E.exit ?_
    refine N.thenX ?_
    refine N.loopX ?_
    refine N.blkX ?_
    refine N.then ?_
    refine E.seq ?_
    refine E.region ?_
    refine X.call rfl rfl rfl rfl rfl Try.cl7 (known_ct H1) ?_
    rintro _ HK ⟨rfl, hkK⟩
    refine X.asg rfl rfl rfl rfl rfl ?_
    refine X.done [(2, _)] ⟨rfl, trivial⟩ ?_
    refine N.then ?_
    refine E.ret ?_
    exact N.retH [_] ⟨_, _, rfl, rfl, rfl⟩ ⟨rfl, (hk1).trans hkK (by simp)⟩


theorem lensapart_ct (ls : List Int) (a : Option Addr) (b o c : Nat) (H : Heap) (A : Row1 H a b o (iv ls)) : Ct Try.prog 4 #[.slice a ls.length c] H fun v H' => v = .bool true ∧ Kp [] H H' := by
  by_cases hm : 320 < ls.length
  · exact apart0 _ a c H hm
  · rcases wrong_cases ls with hw | ⟨ns, rfl, ho, hl⟩
    · exact apart1 _ a c H (by omega) _ hw (codes_bad ls a b o c H A hw)
    · rw [List.length_map]
      rw [nv_iv] at A
      by_cases hK : 32768 < K ns 15
      · exact apart1 _ a c H (by omega) 7 (by decide) (codes_over ns a b o c H A ho hl hK)
      · exact apart2 ns a b o c H A ho hl (by omega)

theorem whole0 (m : Nat) (a : Option Addr) (c : Nat) (v0 : Int) (H : Heap) (hm : 320 < m) : Ct Try.prog 5 #[.slice a m c, .int .u16 v0] H fun v H' => v = .bool true ∧ Kp [] H H' := by
  refine Ct.into 81 Try.func5 rfl [(0, .slice a m c), (1, .int .u16 v0)] rfl ⟨rfl, rfl, trivial⟩ ?_
  refine E.seq ?_
  refine E.region ?_
  refine X.asg rfl rfl rfl rfl rfl ?_
  refine X.done [(0, _), (1, _), (4, _)] ⟨rfl, rfl, rfl, trivial⟩ ?_
  refine N.then ?_
  refine E.seq ?_
  refine E.seq ?_
  refine E.region ?_
  refine X.mv rfl rfl rfl rfl rfl ?_
  refine X.lenS rfl rfl rfl rfl rfl Try.underlying22 ?_
  refine X.gtrT rfl rfl rfl rfl rfl rfl (by omega) ?_
  refine X.mv rfl rfl rfl rfl rfl ?_
  refine X.skip rfl rfl rfl ?_
  refine X.skip rfl rfl rfl ?_
  refine X.skip rfl rfl rfl ?_
  refine X.pickT rfl rfl rfl rfl rfl rfl ?_
  refine X.done [(0, _), (1, _), (4, _), (17, _)] ⟨rfl, rfl, rfl, rfl, trivial⟩ ?_
  refine N.then ?_
  refine E.condT rfl ?_
  refine E.seq ?_
  refine E.region ?_
  refine X.call rfl rfl rfl rfl rfl Try.cl7 (known_ct H) ?_
  rintro _ HK ⟨rfl, hkK⟩
  refine X.asg rfl rfl rfl rfl rfl ?_
  refine X.done [(0, _), (1, _), (4, _)] ⟨rfl, rfl, rfl, trivial⟩ ?_
  refine N.then ?_
  refine E.ret ?_
  refine N.thenR ?_
  exact N.retH [_] ⟨_, _, rfl, rfl, rfl⟩ ⟨rfl, hkK⟩

theorem whole1 (m : Nat) (a : Option Addr) (c : Nat) (v0 : Int) (H : Heap) (hm : m ≤ 320) (e : Int) (he : e ≠ 0) (c13 : Ct Try.prog 13 #[.slice a m c, .bool false] H fun v H' => v = i64 e ∧ Kp [] H H') : Ct Try.prog 5 #[.slice a m c, .int .u16 v0] H fun v H' => v = .bool true ∧ Kp [] H H' := by
  refine Ct.into 81 Try.func5 rfl [(0, .slice a m c), (1, .int .u16 v0)] rfl ⟨rfl, rfl, trivial⟩ ?_
  refine E.seq ?_
  refine E.region ?_
  refine X.asg rfl rfl rfl rfl rfl ?_
  refine X.done [(0, _), (1, _), (4, _)] ⟨rfl, rfl, rfl, trivial⟩ ?_
  refine N.then ?_
  refine E.seq ?_
  refine E.seq ?_
  refine E.region ?_
  refine X.mv rfl rfl rfl rfl rfl ?_
  refine X.lenS rfl rfl rfl rfl rfl Try.underlying22 ?_
  refine X.gtrF rfl rfl rfl rfl rfl rfl (by omega) ?_
  refine X.mv rfl rfl rfl rfl rfl ?_
  refine X.mv rfl rfl rfl rfl rfl ?_
  refine X.call rfl rfl rfl rfl rfl Try.cl13 (c13) ?_
  rintro _ H1 ⟨rfl, hk1⟩
  refine X.neqT rfl rfl rfl rfl rfl rfl (he) ?_
  refine X.pickF rfl rfl rfl rfl rfl rfl ?_
  refine X.done [(0, _), (1, _), (4, _), (17, _)] ⟨rfl, rfl, rfl, rfl, trivial⟩ ?_
  refine N.then ?_
  refine E.condT rfl ?_
  refine E.seq ?_
  refine E.region ?_
  refine X.call rfl rfl rfl rfl rfl Try.cl7 (known_ct H1) ?_
  rintro _ HK ⟨rfl, hkK⟩
  refine X.asg rfl rfl rfl rfl rfl ?_
  refine X.done [(0, _), (1, _), (4, _)] ⟨rfl, rfl, rfl, trivial⟩ ?_
  refine N.then ?_
  refine E.ret ?_
  refine N.thenR ?_
  exact N.retH [_] ⟨_, _, rfl, rfl, rfl⟩ ⟨rfl, (hk1).trans hkK (by simp)⟩

theorem whole2 (ns : Ns) (a : Option Addr) (b o c : Nat) (H : Heap) (A : Row1 H a b o (nv ns)) (ho : Ok ns) (hl : ns.length ≤ 320) (hK : K ns 15 = 32768) (v0 : Nat) (hv0 : v0 ≤ 65535) : Ct Try.prog 5 #[.slice a ns.length c, .int .u16 v0] H fun v H' => v = .bool true ∧ Kp [] H H' := by
  obtain ⟨i0, x0, g0, g1, g2, g3⟩ := Go.Lens.cover hK (show v0 % 32768 < 32768 by omega)
  have hmod : ((v0 : Int) % 32768) = ((v0 % 32768 : Nat) : Int) := by simp
  refine Ct.into 81 Try.func5 rfl [(0, .slice a ns.length c), (1, .int .u16 v0)] rfl ⟨rfl, rfl, trivial⟩ ?_
  refine E.seq ?_
  refine E.region ?_
  refine X.asg rfl rfl rfl rfl rfl ?_
  refine X.done [(0, _), (1, _), (4, _)] ⟨rfl, rfl, rfl, trivial⟩ ?_
  refine N.then ?_
  refine E.seq ?_
  refine E.seq ?_
  refine E.region ?_
  refine X.mv rfl rfl rfl rfl rfl ?_
  refine X.lenS rfl rfl rfl rfl rfl Try.underlying22 ?_
  refine X.gtrF rfl rfl rfl rfl rfl rfl (by omega) ?_
  refine X.mv rfl rfl rfl rfl rfl ?_
  refine X.mv rfl rfl rfl rfl rfl ?_
  refine X.call rfl rfl rfl rfl rfl Try.cl13 (fits_ok ns a b o c H A ho hl (by omega) false) ?_
  rintro _ H0 ⟨rfl, hk0⟩
  refine X.neqF rfl rfl rfl rfl rfl rfl (fun h => h (by rw [fitV_f, if_pos hK])) ?_
  refine X.pickF rfl rfl rfl rfl rfl rfl ?_
  refine X.done [(0, _), (1, _), (4, _), (17, _)] ⟨rfl, rfl, rfl, rfl, trivial⟩ ?_
  refine N.then ?_
  refine E.condF rfl ?_
  refine E.skip ?_
  refine N.then ?_
  refine E.seq ?_
  refine E.region ?_
  refine X.mv rfl rfl rfl rfl rfl ?_
  refine X.call rfl rfl rfl rfl rfl Try.cl8 (codes_ok ns a b o c H0 (A.keepN hk0) ho hl (by omega)) ?_
  rintro _ H2 ⟨b1, rfl, hf1, hb2, hk2⟩
  refine X.mv rfl rfl rfl rfl rfl ?_
  refine X.extract rfl rfl rfl rfl rfl rfl ?_
  refine X.extract rfl rfl rfl rfl rfl rfl ?_
  refine X.asg rfl rfl rfl rfl rfl ?_
  refine X.asg rfl rfl rfl rfl rfl ?_
  refine X.done [(0, _), (1, _), (4, _), (5, _), (6, _)] ⟨rfl, rfl, rfl, rfl, rfl, trivial⟩ ?_
  refine N.then ?_
  refine E.seq ?_
  refine E.seq ?_
  refine E.region ?_
  refine X.mv rfl rfl rfl rfl rfl ?_
  refine X.neqF rfl rfl rfl rfl rfl rfl (fun h => h rfl) ?_
  refine X.mv rfl rfl rfl rfl rfl ?_
  refine X.mv rfl rfl rfl rfl rfl ?_
  refine X.lenS rfl rfl rfl rfl rfl Try.underlying22 ?_
  refine X.mv rfl rfl rfl rfl rfl ?_
  refine X.lenS rfl rfl rfl rfl rfl Try.underlying22 ?_
  refine X.neqF rfl rfl rfl rfl rfl rfl (fun h => h rfl) ?_
  refine X.pickF rfl rfl rfl rfl rfl rfl ?_
  refine X.mv rfl rfl rfl rfl rfl ?_
  refine X.mv rfl rfl rfl rfl rfl ?_
  refine X.call rfl rfl rfl rfl rfl Try.cl11 (kraft_ok ns a b o c H2 (A.keepN (hk0.trans hk2 (by simp))) ho hl) ?_
  rintro _ H1 ⟨rfl, hk3⟩
  have hb1 := hk3.keep hb2 (by simp)
  have hk1 := (hk0.trans hk2 (by simp)).trans hk3 (by simp)
  refine X.neqF rfl rfl rfl rfl rfl rfl (fun h => h (by rw [hK]; rfl)) ?_
  refine X.pickF rfl rfl rfl rfl rfl rfl ?_
  refine X.done [(0, _), (1, _), (4, _), (5, _), (37, _)] ⟨rfl, rfl, rfl, rfl, rfl, trivial⟩ ?_
  refine N.then ?_
  refine E.condF rfl ?_
  refine E.skip ?_
  refine N.then ?_
  refine E.seq ?_
  refine E.region ?_
  refine X.mv rfl rfl rfl rfl rfl ?_
  refine X.convE (zz := (v0 : Int)) rfl rfl rfl rfl rfl Try.underlying3 Try.us33 (IntWalk.i64_in _ (by omega)) ?_
  refine X.rem rfl rfl rfl rfl rfl rfl (by omega) ?_
  rw [hmod]
  refine X.asg rfl rfl rfl rfl rfl ?_
  refine X.done [(0, _), (4, _), (5, _), (7, _)] ⟨rfl, rfl, rfl, rfl, trivial⟩ ?_
  refine N.then ?_
  refine E.seq ?_
  refine E.region ?_
  refine X.asg rfl rfl rfl rfl rfl ?_
  refine X.done [(0, _), (4, _), (5, _), (7, _), (8, _)] ⟨rfl, rfl, rfl, rfl, rfl, trivial⟩ ?_
  refine N.then ?_
  refine E.seq ?_
  refine E.seq ?_
  refine E.region ?_
  refine X.asg rfl rfl rfl rfl rfl ?_
  refine X.done [(0, _), (4, _), (5, _), (7, _), (8, _), (9, _)] ⟨rfl, rfl, rfl, rfl, rfl, rfl, trivial⟩ ?_
  refine N.then ?_
  refine E.block ?_
  -- MISSING in G: [4]
  refine E.loop (fun (i : Nat) => [(0, .slice a ns.length c), (5, .slice (some ⟨b1, 0, none⟩) ns.length ns.length), (7, i64 ((v0 % 32768 : Nat) : Int)), (8, i64 ((if i0 < i then 1 else 0 : Nat) : Int)), (9, i64 i)]) (fun (i : Nat) H' => i ≤ ns.length ∧ H' = H1) (fun (i : Nat) => ns.length - i) 0 ⟨rfl, rfl, rfl, rfl, rfl, trivial⟩ ⟨Nat.zero_le _, rfl⟩ ?_
  rintro i H4 ⟨hi, eH4⟩
  obtain rfl := eH4.symm
  refine E.seq ?_
  refine E.seq ?_
  refine E.region ?_
  refine X.mv rfl rfl rfl rfl rfl ?_
  refine X.mv rfl rfl rfl rfl rfl ?_
  refine X.lenS rfl rfl rfl rfl rfl Try.underlying22 ?_
  refine X.lss rfl rfl rfl rfl rfl rfl ?_
  refine X.done [(0, _), (5, _), (7, _), (8, _), (9, _), (41, _), (42, _), (43, _), (44, _)] ⟨rfl, rfl, rfl, rfl, rfl, rfl, rfl, rfl, rfl, trivial⟩ ?_
  refine N.then ?_
  refine E.condD rfl (fun hc => ?_) (fun hc => ?_)
  · refine E.skip ?_
    refine N.then ?_
    refine E.seq ?_
    refine E.block ?_
    refine E.seq ?_
    obtain ⟨x, hx⟩ : ∃ x, ns[i]? = some x := ⟨_, List.getElem?_eq_getElem (by omega)⟩
    have hx15 := ho x (List.mem_of_getElem? hx)
    obtain ⟨ha, cs, ct, fz, hbb, hel⟩ := (A.keepN hk1).get i _ (nv_get hx)
    have hg := rg_get (fin ns) (show i < ns.length by omega)
    have hfx : fin ns i = code ns i x := fin_at hx
    have hbg : 1 ≤ x → ((v0 % 32768) / 2 ^ (15 - x) = fin ns i ↔ i = i0) := fun h1 => by
      rw [hfx, begins ns i x _ ⟨h1, hx15⟩]
      constructor
      · intro h; exact only hx g0 ⟨h1, hx15⟩ ⟨g1, g2⟩ h g3
      · intro h; subst h; rw [hx] at g0; cases g0; exact g3
    have hx0 : x = 0 → i ≠ i0 := fun h e => by subst e; rw [hx] at g0; cases g0; omega
    have hsame : (x = 0 ∨ ¬ ((v0 % 32768) / 2 ^ (15 - x) : Nat) = (fin ns i : Nat)) → (if i0 < i + 1 then 1 else 0 : Nat) = (if i0 < i then 1 else 0) := fun h => by
      have hne : i ≠ i0 := by
        rcases h with h | h
        · exact hx0 h
        · by_cases h1 : x = 0
          · exact hx0 h1
          · exact fun e => h ((hbg (by omega)).2 e)
      by_cases h3 : i0 < i
      · rw [if_pos h3, if_pos (by omega)]
      · rw [if_neg h3, if_neg (by omega)]
    refine E.regionD (fun H' => H'[b1]? = some (.cells (rg ns.length (fin ns)).toArray 3 (0, 0)) ∧ H'[b]? = some (.cells cs.toArray ct fz)) [(0, .pu), (1, .pu), (2, .pu), (3, .st), (4, .pu), (5, .pu), (6, .pu), (7, .pu), (8, .pu), (9, .st), (10, .pu), (11, .pu), (12, .pu), (13, .pu), (14, .pu), (15, .pu), (16, .pu), (17, .st), (18, .pu), (19, .pu), (20, .pu), (21, .pu), (22, .pu), (23, .pu), (24, .st), (25, .pu), (26, .pu)] Try.mixed (by kernel_rfl) (⟨hb1, hbb⟩) ?_
    refine X.mv rfl rfl rfl rfl rfl ?_
    refine X.mv rfl rfl rfl rfl rfl ?_
    refine X.ixAe rfl rfl rfl rfl rfl rfl Try.underlying22 Try.sz3 (ha) (by omega) ?_
    refine X.ld rfl rfl rfl rfl Try.ag3 (fun H' hF => hF.2) (by rw [Nat.mul_one]; exact hel) ?_
    refine X.gtrC rfl rfl rfl rfl rfl rfl (fun hc => ?_) (fun hc => ?_)
    · refine X.mv rfl rfl rfl rfl rfl ?_
      refine X.mv rfl rfl rfl rfl rfl ?_
      refine X.mv rfl rfl rfl rfl rfl ?_
      refine X.ixAe rfl rfl rfl rfl rfl rfl Try.underlying22 Try.sz3 (ha) (by omega) ?_
      refine X.ld rfl rfl rfl rfl Try.ag3 (fun H' hF => hF.2) (by rw [Nat.mul_one]; exact hel) ?_
      refine X.leqT rfl rfl rfl rfl rfl rfl (by omega) ?_
      refine X.pickT rfl rfl rfl rfl rfl rfl ?_
      refine X.mv rfl rfl rfl rfl rfl ?_
      refine X.mv rfl rfl rfl rfl rfl ?_
      refine X.mv rfl rfl rfl rfl rfl ?_
      refine X.mv rfl rfl rfl rfl rfl ?_
      refine X.ixAe rfl rfl rfl rfl rfl rfl Try.underlying22 Try.sz3 (ha) (by omega) ?_
      refine X.ld rfl rfl rfl rfl Try.ag3 (fun H' hF => hF.2) (by rw [Nat.mul_one]; exact hel) ?_
      refine X.sbE (zz := ((15 - x : Nat) : Int)) rfl rfl rfl rfl rfl rfl (by rw [IntWalk.i64_in _ (by omega)]; omega) ?_
      refine X.convE (zz := ((15 - x : Nat) : Int)) rfl rfl rfl rfl rfl Try.underlying31 Try.us3 (IntWalk.u64_in _ (by omega)) ?_
      refine X.shrE (zz := (((v0 % 32768) / 2 ^ (15 - x) : Nat) : Int)) rfl rfl rfl rfl rfl rfl (by omega) (shrN rfl rfl (by show 15 - x ≤ 64; omega)) ?_
      refine X.mv rfl rfl rfl rfl rfl ?_
      refine X.mv rfl rfl rfl rfl rfl ?_
      refine X.ixA rfl rfl rfl rfl rfl rfl Try.underlying22 Try.sz3 (by omega) ?_
      refine X.ld rfl rfl rfl rfl Try.ag3 (fun H' hF => hF.1) (by rw [Nat.zero_add, Nat.mul_one]; exact hg) ?_
      refine X.eql rfl rfl rfl rfl rfl rfl ?_
      refine X.pickT rfl rfl rfl rfl rfl rfl ?_
      refine X.done [(0, _), (5, _), (7, _), (8, _), (9, _), (41, _), (42, _), (43, _), (44, _), (47, _), (48, _), (49, _), (50, _), (51, _), (52, _), (53, _), (54, _), (55, _), (56, _), (57, _), (58, _), (59, _), (60, _), (61, _), (62, _), (63, _), (64, _), (65, _), (66, _), (67, _), (68, _), (69, _), (70, _), (71, _), (72, _), (73, _)] ⟨rfl, rfl, rfl, rfl, rfl, rfl, rfl, rfl, rfl, rfl, rfl, rfl, rfl, rfl, rfl, rfl, rfl, rfl, rfl, rfl, rfl, rfl, rfl, rfl, rfl, rfl, rfl, rfl, rfl, rfl, rfl, rfl, rfl, rfl, rfl, rfl, trivial⟩ ?_
      refine N.then ?_
      refine E.condD rfl (fun hc => ?_) (fun hc => ?_)
      · have hnow : i0 < i + 1 ∧ ¬ i0 < i := by
          have e := (hbg (by omega)).1 (Int.ofNat.inj hc)
          omega
        refine E.region ?_
        refine X.mv rfl rfl rfl rfl rfl ?_
        refine X.addE (zz := ((1 : Nat) : Int)) rfl rfl rfl rfl rfl rfl (by rw [if_neg hnow.2]; rfl) ?_
        refine X.asg rfl rfl rfl rfl rfl ?_
        refine X.done [(0, _), (5, _), (7, _), (8, _), (9, _), (41, _), (42, _), (43, _), (44, _), (47, _), (48, _), (49, _), (50, _), (51, _), (52, _), (53, _), (54, _), (55, _), (56, _), (57, _), (58, _), (59, _), (60, _), (61, _), (62, _), (63, _), (64, _), (65, _), (66, _), (67, _), (68, _), (69, _), (70, _), (71, _), (72, _), (73, _), (74, _), (75, _)] ⟨rfl, rfl, rfl, rfl, rfl, rfl, rfl, rfl, rfl, rfl, rfl, rfl, rfl, rfl, rfl, rfl, rfl, rfl, rfl, rfl, rfl, rfl, rfl, rfl, rfl, rfl, rfl, rfl, rfl, rfl, rfl, rfl, rfl, rfl, rfl, rfl, rfl, rfl, trivial⟩ ?_
        refine N.blk ?_
        refine N.then ?_
        refine E.region ?_
        refine X.mv rfl rfl rfl rfl rfl ?_
        refine X.add rfl rfl rfl rfl rfl rfl (by omega) ?_
        refine X.asg rfl rfl rfl rfl rfl ?_
        refine X.done [(0, _), (5, _), (7, _), (8, _), (9, _), (41, _), (42, _), (43, _), (44, _), (47, _), (48, _), (49, _), (50, _), (51, _), (52, _), (53, _), (54, _), (55, _), (56, _), (57, _), (58, _), (59, _), (60, _), (61, _), (62, _), (63, _), (64, _), (65, _), (66, _), (67, _), (68, _), (69, _), (70, _), (71, _), (72, _), (73, _), (74, _), (75, _), (45, _), (46, _)] ⟨rfl, rfl, rfl, rfl, rfl, rfl, rfl, rfl, rfl, rfl, rfl, rfl, rfl, rfl, rfl, rfl, rfl, rfl, rfl, rfl, rfl, rfl, rfl, rfl, rfl, rfl, rfl, rfl, rfl, rfl, rfl, rfl, rfl, rfl, rfl, rfl, rfl, rfl, rfl, rfl, trivial⟩ ?_
        first
          | exact N.next (G := fun (i : Nat) => _) (i + 1) ⟨rfl, rfl, rfl, by rw [if_pos hnow.1]; rfl, rfl, trivial⟩ ⟨by omega, rfl⟩ (by show _ - (i + 1) < _ - i; omega)
          | exact N.next (G := fun (i : Nat) => _) (i + 1) ⟨rfl, rfl, rfl, by rw [hsame (by omega)]; rfl, rfl, trivial⟩ ⟨by omega, rfl⟩ (by show _ - (i + 1) < _ - i; omega)
      · refine E.skip ?_
        refine N.blk ?_
        refine N.then ?_
        refine E.region ?_
        refine X.mv rfl rfl rfl rfl rfl ?_
        refine X.add rfl rfl rfl rfl rfl rfl (by omega) ?_
        refine X.asg rfl rfl rfl rfl rfl ?_
        refine X.done [(0, _), (5, _), (7, _), (8, _), (9, _), (41, _), (42, _), (43, _), (44, _), (47, _), (48, _), (49, _), (50, _), (51, _), (52, _), (53, _), (54, _), (55, _), (56, _), (57, _), (58, _), (59, _), (60, _), (61, _), (62, _), (63, _), (64, _), (65, _), (66, _), (67, _), (68, _), (69, _), (70, _), (71, _), (72, _), (73, _), (45, _), (46, _)] ⟨rfl, rfl, rfl, rfl, rfl, rfl, rfl, rfl, rfl, rfl, rfl, rfl, rfl, rfl, rfl, rfl, rfl, rfl, rfl, rfl, rfl, rfl, rfl, rfl, rfl, rfl, rfl, rfl, rfl, rfl, rfl, rfl, rfl, rfl, rfl, rfl, rfl, rfl, trivial⟩ ?_
        first
          | exact N.next (G := fun (i : Nat) => _) (i + 1) ⟨rfl, rfl, rfl, by rw [if_pos hnow.1]; rfl, rfl, trivial⟩ ⟨by omega, rfl⟩ (by show _ - (i + 1) < _ - i; omega)
          | exact N.next (G := fun (i : Nat) => _) (i + 1) ⟨rfl, rfl, rfl, by rw [hsame (by omega)]; rfl, rfl, trivial⟩ ⟨by omega, rfl⟩ (by show _ - (i + 1) < _ - i; omega)
    · refine X.mv rfl rfl rfl rfl rfl ?_
      refine X.skip rfl rfl rfl ?_
      refine X.skip rfl rfl rfl ?_
      refine X.skip rfl rfl rfl ?_
      refine X.skip rfl rfl rfl ?_
      refine X.skip rfl rfl rfl ?_
      refine X.pickF rfl rfl rfl rfl rfl rfl ?_
      refine X.mv rfl rfl rfl rfl rfl ?_
      refine X.skip rfl rfl rfl ?_
      refine X.skip rfl rfl rfl ?_
      refine X.skip rfl rfl rfl ?_
      refine X.skip rfl rfl rfl ?_
      refine X.skip rfl rfl rfl ?_
      refine X.skip rfl rfl rfl ?_
      refine X.skip rfl rfl rfl ?_
      refine X.skip rfl rfl rfl ?_
      refine X.skip rfl rfl rfl ?_
      refine X.skip rfl rfl rfl ?_
      refine X.skip rfl rfl rfl ?_
      refine X.skip rfl rfl rfl ?_
      refine X.skip rfl rfl rfl ?_
      refine X.pickF rfl rfl rfl rfl rfl rfl ?_
      refine X.done [(0, _), (5, _), (7, _), (8, _), (9, _), (41, _), (42, _), (43, _), (44, _), (47, _), (48, _), (49, _), (50, _), (51, _), (52, _), (53, _), (54, _), (55, _), (56, _), (57, _), (58, _), (59, _), (60, _), (61, _), (62, _), (63, _), (64, _), (65, _), (66, _), (67, _), (68, _), (69, _), (70, _), (71, _), (72, _), (73, _)] ⟨rfl, rfl, rfl, rfl, rfl, rfl, rfl, rfl, rfl, rfl, rfl, rfl, rfl, rfl, rfl, rfl, rfl, rfl, rfl, rfl, rfl, rfl, rfl, rfl, rfl, rfl, rfl, rfl, rfl, rfl, rfl, rfl, rfl, rfl, rfl, rfl, trivial⟩ ?_
      refine N.then ?_
      refine E.condF rfl ?_
      refine E.skip ?_
      refine N.blk ?_
      refine N.then ?_
      refine E.region ?_
      refine X.mv rfl rfl rfl rfl rfl ?_
      refine X.add rfl rfl rfl rfl rfl rfl (by omega) ?_
      refine X.asg rfl rfl rfl rfl rfl ?_
      refine X.done [(0, _), (5, _), (7, _), (8, _), (9, _), (41, _), (42, _), (43, _), (44, _), (47, _), (48, _), (49, _), (50, _), (51, _), (52, _), (53, _), (54, _), (55, _), (56, _), (57, _), (58, _), (59, _), (60, _), (61, _), (62, _), (63, _), (64, _), (65, _), (66, _), (67, _), (68, _), (69, _), (70, _), (71, _), (72, _), (73, _), (45, _), (46, _)] ⟨rfl, rfl, rfl, rfl, rfl, rfl, rfl, rfl, rfl, rfl, rfl, rfl, rfl, rfl, rfl, rfl, rfl, rfl, rfl, rfl, rfl, rfl, rfl, rfl, rfl, rfl, rfl, rfl, rfl, rfl, rfl, rfl, rfl, rfl, rfl, rfl, rfl, rfl, trivial⟩ ?_
      first
        | exact N.next (G := fun (i : Nat) => _) (i + 1) ⟨rfl, rfl, rfl, by rw [if_pos hnow.1]; rfl, rfl, trivial⟩ ⟨by omega, rfl⟩ (by show _ - (i + 1) < _ - i; omega)
        | exact N.next (G := fun (i : Nat) => _) (i + 1) ⟨rfl, rfl, rfl, by rw [hsame (by omega)]; rfl, rfl, trivial⟩ ⟨by omega, rfl⟩ (by show _ - (i + 1) < _ - i; omega)
  · refine E.exit ?_
    refine N.thenX ?_
    refine N.loopX ?_
    refine N.blkX ?_
    refine N.then ?_
    refine E.seq ?_
    refine E.region ?_
    refine X.mv rfl rfl rfl rfl rfl ?_
    refine X.eqlT rfl rfl rfl rfl rfl rfl (by rw [if_pos (by have := (List.getElem?_eq_some_iff.1 g0).1; omega)]; rfl) ?_
    refine X.mv rfl rfl rfl rfl rfl ?_
    refine X.call rfl rfl rfl rfl rfl Try.cl7 (known_ct H1) ?_
    rintro _ HK ⟨rfl, hkK⟩
    refine X.pickT rfl rfl rfl rfl rfl rfl ?_
    refine X.asg rfl rfl rfl rfl rfl ?_
    refine X.done [(4, _)] ⟨rfl, trivial⟩ ?_
    refine N.then ?_
    refine E.ret ?_
    exact N.retH [_] ⟨_, _, rfl, rfl, rfl⟩ ⟨rfl, (hk1).trans hkK (by simp)⟩


theorem lenswhole_ct (ls : List Int) (a : Option Addr) (b o c : Nat) (H : Heap) (A : Row1 H a b o (iv ls)) (v0 : Nat) (hv0 : v0 ≤ 65535) : Ct Try.prog 5 #[.slice a ls.length c, .int .u16 v0] H fun v H' => v = .bool true ∧ Kp [] H H' := by
  by_cases hm : 320 < ls.length
  · exact whole0 _ a c _ H hm
  · rcases wrong_cases ls with hw | ⟨ns, rfl, ho, hl⟩
    · exact whole1 _ a c _ H (by omega) _ hw (fits_bad ls a b o c H A hw false)
    · rw [List.length_map]
      rw [nv_iv] at A
      by_cases hK : 32768 < K ns 15
      · exact whole1 _ a c _ H (by omega) 7 (by decide) (fits_over ns a b o c H A ho hl hK false)
      · by_cases hK2 : K ns 15 = 32768
        · exact whole2 ns a b o c H A ho hl hK2 v0 hv0
        · exact whole1 _ a c _ H (by omega) _ (fitV_ne hK2) (fits_ok ns a b o c H A ho hl (by omega) false)

theorem order0 (m : Nat) (a : Option Addr) (c : Nat) (p q : Int) (H : Heap) (hm : m = 0) : Ct Try.prog 6 #[.slice a m c, .int .u16 p, .int .u16 q] H fun v H' => v = .bool true ∧ Kp [] H H' := by
  refine Ct.into 109 Try.func6 rfl [(0, .slice a m c), (1, .int .u16 p), (2, .int .u16 q)] rfl ⟨rfl, rfl, rfl, trivial⟩ ?_
  refine E.seq ?_
  refine E.region ?_
  refine X.asg rfl rfl rfl rfl rfl ?_
  refine X.done [(0, _), (1, _), (2, _), (6, _)] ⟨rfl, rfl, rfl, rfl, trivial⟩ ?_
  refine N.then ?_
  refine E.seq ?_
  refine E.seq ?_
  refine E.region ?_
  refine X.mv rfl rfl rfl rfl rfl ?_
  refine X.lenS rfl rfl rfl rfl rfl Try.underlying22 ?_
  refine X.eqlT rfl rfl rfl rfl rfl rfl (by omega) ?_
  refine X.mv rfl rfl rfl rfl rfl ?_
  refine X.skip rfl rfl rfl ?_
  refine X.skip rfl rfl rfl ?_
  refine X.skip rfl rfl rfl ?_
  refine X.pickT rfl rfl rfl rfl rfl rfl ?_
  refine X.done [(0, _), (1, _), (2, _), (6, _), (18, _)] ⟨rfl, rfl, rfl, rfl, rfl, trivial⟩ ?_
  refine N.then ?_
  refine E.condT rfl ?_
  refine E.seq ?_
  refine E.region ?_
  refine X.call rfl rfl rfl rfl rfl Try.cl7 (known_ct H) ?_
  rintro _ HK ⟨rfl, hkK⟩
  refine X.asg rfl rfl rfl rfl rfl ?_
  refine X.done [(0, _), (1, _), (2, _), (6, _)] ⟨rfl, rfl, rfl, rfl, trivial⟩ ?_
  refine N.then ?_
  refine E.ret ?_
  refine N.thenR ?_
  exact N.retH [_] ⟨_, _, rfl, rfl, rfl⟩ ⟨rfl, hkK⟩

theorem order1 (m : Nat) (a : Option Addr) (c : Nat) (p q : Int) (H : Heap) (hm : 320 < m) : Ct Try.prog 6 #[.slice a m c, .int .u16 p, .int .u16 q] H fun v H' => v = .bool true ∧ Kp [] H H' := by
  refine Ct.into 109 Try.func6 rfl [(0, .slice a m c), (1, .int .u16 p), (2, .int .u16 q)] rfl ⟨rfl, rfl, rfl, trivial⟩ ?_
  refine E.seq ?_
  refine E.region ?_
  refine X.asg rfl rfl rfl rfl rfl ?_
  refine X.done [(0, _), (1, _), (2, _), (6, _)] ⟨rfl, rfl, rfl, rfl, trivial⟩ ?_
  refine N.then ?_
  refine E.seq ?_
  refine E.seq ?_
  refine E.region ?_
  refine X.mv rfl rfl rfl rfl rfl ?_
  refine X.lenS rfl rfl rfl rfl rfl Try.underlying22 ?_
  refine X.eqlF rfl rfl rfl rfl rfl rfl (by omega) ?_
  refine X.mv rfl rfl rfl rfl rfl ?_
  refine X.mv rfl rfl rfl rfl rfl ?_
  refine X.lenS rfl rfl rfl rfl rfl Try.underlying22 ?_
  refine X.gtrT rfl rfl rfl rfl rfl rfl (by omega) ?_
  refine X.pickF rfl rfl rfl rfl rfl rfl ?_
  refine X.done [(0, _), (1, _), (2, _), (6, _), (18, _)] ⟨rfl, rfl, rfl, rfl, rfl, trivial⟩ ?_
  refine N.then ?_
  refine E.condT rfl ?_
  refine E.seq ?_
  refine E.region ?_
  refine X.call rfl rfl rfl rfl rfl Try.cl7 (known_ct H) ?_
  rintro _ HK ⟨rfl, hkK⟩
  refine X.asg rfl rfl rfl rfl rfl ?_
  refine X.done [(0, _), (1, _), (2, _), (6, _)] ⟨rfl, rfl, rfl, rfl, trivial⟩ ?_
  refine N.then ?_
  refine E.ret ?_
  refine N.thenR ?_
  exact N.retH [_] ⟨_, _, rfl, rfl, rfl⟩ ⟨rfl, hkK⟩

theorem order2 (m : Nat) (a : Option Addr) (c : Nat) (p q : Int) (H : Heap) (hm : 1 ≤ m ∧ m ≤ 320) (e : Int) (he : e ≠ 0) (c8 : Ct Try.prog 8 #[.slice a m c] H fun v H' => v = .tuple #[.slice none 0 0, i64 e] ∧ Kp [] H H') : Ct Try.prog 6 #[.slice a m c, .int .u16 p, .int .u16 q] H fun v H' => v = .bool true ∧ Kp [] H H' := by
  refine Ct.into 109 Try.func6 rfl [(0, .slice a m c), (1, .int .u16 p), (2, .int .u16 q)] rfl ⟨rfl, rfl, rfl, trivial⟩ ?_
  refine E.seq ?_
  refine E.region ?_
  refine X.asg rfl rfl rfl rfl rfl ?_
  refine X.done [(0, _), (1, _), (2, _), (6, _)] ⟨rfl, rfl, rfl, rfl, trivial⟩ ?_
  refine N.then ?_
  refine E.seq ?_
  refine E.seq ?_
  refine E.region ?_
  refine X.mv rfl rfl rfl rfl rfl ?_
  refine X.lenS rfl rfl rfl rfl rfl Try.underlying22 ?_
  refine X.eqlF rfl rfl rfl rfl rfl rfl (by omega) ?_
  refine X.mv rfl rfl rfl rfl rfl ?_
  refine X.mv rfl rfl rfl rfl rfl ?_
  refine X.lenS rfl rfl rfl rfl rfl Try.underlying22 ?_
  refine X.gtrF rfl rfl rfl rfl rfl rfl (by omega) ?_
  refine X.pickF rfl rfl rfl rfl rfl rfl ?_
  refine X.done [(0, _), (1, _), (2, _), (6, _), (18, _)] ⟨rfl, rfl, rfl, rfl, rfl, trivial⟩ ?_
  refine N.then ?_
  refine E.condF rfl ?_
  refine E.skip ?_
  refine N.then ?_
  refine E.seq ?_
  refine E.region ?_
  refine X.mv rfl rfl rfl rfl rfl ?_
  refine X.call rfl rfl rfl rfl rfl Try.cl8 (c8) ?_
  rintro _ H1 ⟨rfl, hk1⟩
  refine X.mv rfl rfl rfl rfl rfl ?_
  refine X.extract rfl rfl rfl rfl rfl rfl ?_
  refine X.extract rfl rfl rfl rfl rfl rfl ?_
  refine X.asg rfl rfl rfl rfl rfl ?_
  refine X.asg rfl rfl rfl rfl rfl ?_
  refine X.done [(0, _), (1, _), (2, _), (6, _), (7, _), (8, _)] ⟨rfl, rfl, rfl, rfl, rfl, rfl, trivial⟩ ?_
  refine N.then ?_
  refine E.seq ?_
  refine E.seq ?_
  refine E.region ?_
  refine X.mv rfl rfl rfl rfl rfl ?_
  refine X.neqT rfl rfl rfl rfl rfl rfl (he) ?_
  refine X.done [(0, _), (1, _), (2, _), (6, _), (7, _), (26, _)] ⟨rfl, rfl, rfl, rfl, rfl, rfl, trivial⟩ ?_
  refine N.then ?_
  refine E.condT rfl ?_
  refine E.seq ?_
  refine E.region ?_
  refine X.call rfl rfl rfl rfl rfl Try.cl7 (known_ct H1) ?_
  rintro _ HK ⟨rfl, hkK⟩
  refine X.asg rfl rfl rfl rfl rfl ?_
  refine X.done [(0, _), (1, _), (2, _), (6, _), (7, _)] ⟨rfl, rfl, rfl, rfl, rfl, trivial⟩ ?_
  refine N.then ?_
  refine E.ret ?_
  refine N.thenR ?_
  exact N.retH [_] ⟨_, _, rfl, rfl, rfl⟩ ⟨rfl, (hk1).trans hkK (by simp)⟩

theorem order3 (ns : Ns) (a : Option Addr) (b o c : Nat) (H : Heap) (A : Row1 H a b o (nv ns)) (ho : Ok ns) (hl : ns.length ≤ 320) (h1n : 1 ≤ ns.length) (hK : K ns 15 ≤ 32768) (p q : Nat) (hp : p ≤ 65535) (hq : q ≤ 65535) : Ct Try.prog 6 #[.slice a ns.length c, .int .u16 p, .int .u16 q] H fun v H' => v = .bool true ∧ Kp [] H H' := by
  obtain ⟨i, hi⟩ : ∃ i, i = p % ns.length := ⟨_, rfl⟩
  obtain ⟨k, hk⟩ : ∃ k, k = q % ns.length := ⟨_, rfl⟩
  have hmi : ((p : Int) % (ns.length : Int)) = (i : Int) := by rw [hi]; simp
  have hmk : ((q : Int) % (ns.length : Int)) = (k : Int) := by rw [hk]; simp
  have hin : i < ns.length := by rw [hi]; exact Nat.mod_lt _ (by omega)
  have hkn : k < ns.length := by rw [hk]; exact Nat.mod_lt _ (by omega)
  clear hi hk
  refine Ct.into 109 Try.func6 rfl [(0, .slice a ns.length c), (1, .int .u16 p), (2, .int .u16 q)] rfl ⟨rfl, rfl, rfl, trivial⟩ ?_
  refine E.seq ?_
  refine E.region ?_
  refine X.asg rfl rfl rfl rfl rfl ?_
  refine X.done [(0, _), (1, _), (2, _), (6, _)] ⟨rfl, rfl, rfl, rfl, trivial⟩ ?_
  refine N.then ?_
  refine E.seq ?_
  refine E.seq ?_
  refine E.region ?_
  refine X.mv rfl rfl rfl rfl rfl ?_
  refine X.lenS rfl rfl rfl rfl rfl Try.underlying22 ?_
  refine X.eqlF rfl rfl rfl rfl rfl rfl (by omega) ?_
  refine X.mv rfl rfl rfl rfl rfl ?_
  refine X.mv rfl rfl rfl rfl rfl ?_
  refine X.lenS rfl rfl rfl rfl rfl Try.underlying22 ?_
  refine X.gtrF rfl rfl rfl rfl rfl rfl (by omega) ?_
  refine X.pickF rfl rfl rfl rfl rfl rfl ?_
  refine X.done [(0, _), (1, _), (2, _), (6, _), (18, _)] ⟨rfl, rfl, rfl, rfl, rfl, trivial⟩ ?_
  refine N.then ?_
  refine E.condF rfl ?_
  refine E.skip ?_
  refine N.then ?_
  refine E.seq ?_
  refine E.region ?_
  refine X.mv rfl rfl rfl rfl rfl ?_
  refine X.call rfl rfl rfl rfl rfl Try.cl8 (codes_ok ns a b o c H A ho hl hK) ?_
  rintro _ H1 ⟨b1, rfl, hf1, hb1, hk1⟩
  refine X.mv rfl rfl rfl rfl rfl ?_
  refine X.extract rfl rfl rfl rfl rfl rfl ?_
  refine X.extract rfl rfl rfl rfl rfl rfl ?_
  refine X.asg rfl rfl rfl rfl rfl ?_
  refine X.asg rfl rfl rfl rfl rfl ?_
  refine X.done [(0, _), (1, _), (2, _), (6, _), (7, _), (8, _)] ⟨rfl, rfl, rfl, rfl, rfl, rfl, trivial⟩ ?_
  refine N.then ?_
  refine E.seq ?_
  refine E.seq ?_
  refine E.region ?_
  refine X.mv rfl rfl rfl rfl rfl ?_
  refine X.neqF rfl rfl rfl rfl rfl rfl (fun h => h rfl) ?_
  refine X.done [(0, _), (1, _), (2, _), (6, _), (7, _), (26, _)] ⟨rfl, rfl, rfl, rfl, rfl, rfl, trivial⟩ ?_
  refine N.then ?_
  refine E.condF rfl ?_
  refine E.skip ?_
  refine N.then ?_
  refine E.seq ?_
  refine E.region ?_
  refine X.mv rfl rfl rfl rfl rfl ?_
  refine X.convE (zz := (p : Int)) rfl rfl rfl rfl rfl Try.underlying3 Try.us33 (IntWalk.i64_in _ (by omega)) ?_
  refine X.mv rfl rfl rfl rfl rfl ?_
  refine X.lenS rfl rfl rfl rfl rfl Try.underlying22 ?_
  refine X.rem rfl rfl rfl rfl rfl rfl (by omega) ?_
  rw [hmi]
  refine X.asg rfl rfl rfl rfl rfl ?_
  refine X.done [(0, _), (2, _), (6, _), (7, _), (9, _)] ⟨rfl, rfl, rfl, rfl, rfl, trivial⟩ ?_
  refine N.then ?_
  refine E.seq ?_
  refine E.region ?_
  refine X.mv rfl rfl rfl rfl rfl ?_
  refine X.convE (zz := (q : Int)) rfl rfl rfl rfl rfl Try.underlying3 Try.us33 (IntWalk.i64_in _ (by omega)) ?_
  refine X.mv rfl rfl rfl rfl rfl ?_
  refine X.lenS rfl rfl rfl rfl rfl Try.underlying22 ?_
  refine X.rem rfl rfl rfl rfl rfl rfl (by omega) ?_
  rw [hmk]
  refine X.asg rfl rfl rfl rfl rfl ?_
  refine X.done [(0, _), (6, _), (7, _), (9, _), (10, _)] ⟨rfl, rfl, rfl, rfl, rfl, trivial⟩ ?_
  refine N.then ?_
  refine E.seq ?_
  refine E.seq ?_
  refine E.region ?_
  refine X.mv rfl rfl rfl rfl rfl ?_
  refine X.lenS rfl rfl rfl rfl rfl Try.underlying22 ?_
  refine X.mv rfl rfl rfl rfl rfl ?_
  refine X.lenS rfl rfl rfl rfl rfl Try.underlying22 ?_
  refine X.neqF rfl rfl rfl rfl rfl rfl (fun h => h rfl) ?_
  refine X.done [(0, _), (6, _), (7, _), (9, _), (10, _), (42, _)] ⟨rfl, rfl, rfl, rfl, rfl, rfl, trivial⟩ ?_
  refine N.then ?_
  refine E.condF rfl ?_
  refine E.skip ?_
  refine N.then ?_
  refine E.seq ?_
  refine E.seq ?_
  obtain ⟨x, hx⟩ : ∃ x, ns[i]? = some x := ⟨_, List.getElem?_eq_getElem (by omega)⟩
  have hx15 := ho x (List.mem_of_getElem? hx)
  obtain ⟨ha, cs, ct, fz, hbb, hel⟩ := (A.keepN hk1).get i _ (nv_get hx)
  have hg := rg_get (fin ns) (show i < ns.length by omega)
  obtain ⟨y, hy⟩ : ∃ y, ns[k]? = some y := ⟨_, List.getElem?_eq_getElem (by omega)⟩
  have hy15 := ho y (List.mem_of_getElem? hy)
  obtain ⟨hak, csk, ctk, fzk, hbbk, helk⟩ := (A.keepN hk1).get k _ (nv_get hy)
  have hgk := rg_get (fin ns) (show k < ns.length by omega)
  have hfx : fin ns i = code ns i x := fin_at hx
  have hfy : fin ns k = code ns k y := fin_at hy
  refine E.regionD (fun H' => H'[b]? = some (.cells cs.toArray ct fz) ∧ H'[b]? = some (.cells csk.toArray ctk fzk)) [(0, .pu), (1, .pu), (2, .pu), (3, .st), (4, .pu), (5, .pu), (6, .pu), (7, .pu), (8, .pu), (9, .st), (10, .pu), (11, .pu), (12, .pu), (13, .pu), (14, .pu), (15, .pu), (16, .st), (17, .pu), (18, .pu), (19, .pu), (20, .st), (21, .pu), (22, .pu), (23, .pu), (24, .pu), (25, .pu), (26, .pu), (27, .st), (28, .pu), (29, .pu), (30, .pu), (31, .st), (32, .pu), (33, .pu), (34, .pu), (35, .pu), (36, .pu), (37, .pu), (38, .pu)] Try.mixed (by kernel_rfl) (⟨hbb, hbbk⟩) ?_
  refine X.mv rfl rfl rfl rfl rfl ?_
  refine X.mv rfl rfl rfl rfl rfl ?_
  refine X.ixAe rfl rfl rfl rfl rfl rfl Try.underlying22 Try.sz3 (ha) (by omega) ?_
  refine X.ld rfl rfl rfl rfl Try.ag3 (fun H' hF => hF.1) (by rw [Nat.mul_one]; exact hel) ?_
  refine X.eqlC rfl rfl rfl rfl rfl rfl (fun hc => ?_) (fun hc => ?_)
  · refine X.mv rfl rfl rfl rfl rfl ?_
    refine X.skip rfl rfl rfl ?_
    refine X.skip rfl rfl rfl ?_
    refine X.skip rfl rfl rfl ?_
    refine X.skip rfl rfl rfl ?_
    refine X.skip rfl rfl rfl ?_
    refine X.pickT rfl rfl rfl rfl rfl rfl ?_
    refine X.mv rfl rfl rfl rfl rfl ?_
    refine X.skip rfl rfl rfl ?_
    refine X.skip rfl rfl rfl ?_
    refine X.skip rfl rfl rfl ?_
    refine X.skip rfl rfl rfl ?_
    refine X.skip rfl rfl rfl ?_
    refine X.skip rfl rfl rfl ?_
    refine X.skip rfl rfl rfl ?_
    refine X.skip rfl rfl rfl ?_
    refine X.skip rfl rfl rfl ?_
    refine X.pickT rfl rfl rfl rfl rfl rfl ?_
    refine X.mv rfl rfl rfl rfl rfl ?_
    refine X.skip rfl rfl rfl ?_
    refine X.skip rfl rfl rfl ?_
    refine X.skip rfl rfl rfl ?_
    refine X.skip rfl rfl rfl ?_
    refine X.skip rfl rfl rfl ?_
    refine X.skip rfl rfl rfl ?_
    refine X.skip rfl rfl rfl ?_
    refine X.skip rfl rfl rfl ?_
    refine X.skip rfl rfl rfl ?_
    refine X.skip rfl rfl rfl ?_
    refine X.skip rfl rfl rfl ?_
    refine X.skip rfl rfl rfl ?_
    refine X.skip rfl rfl rfl ?_
    refine X.skip rfl rfl rfl ?_
    refine X.pickT rfl rfl rfl rfl rfl rfl ?_
    refine X.done [(0, _), (6, _), (7, _), (9, _), (10, _), (81, _)] ⟨rfl, rfl, rfl, rfl, rfl, rfl, trivial⟩ ?_
    refine N.then ?_
    refine E.condT rfl ?_
    refine E.seq ?_
    refine E.region ?_
    refine X.call rfl rfl rfl rfl rfl Try.cl7 (known_ct H1) ?_
    rintro _ HK ⟨rfl, hkK⟩
    refine X.asg rfl rfl rfl rfl rfl ?_
    refine X.done [(0, _), (6, _), (7, _), (9, _), (10, _)] ⟨rfl, rfl, rfl, rfl, rfl, trivial⟩ ?_
    refine N.then ?_
    refine E.ret ?_
    refine N.thenR ?_
    exact N.retH [_] ⟨_, _, rfl, rfl, rfl⟩ ⟨rfl, (hk1).trans hkK (by simp)⟩
  · refine X.mv rfl rfl rfl rfl rfl ?_
    refine X.mv rfl rfl rfl rfl rfl ?_
    refine X.mv rfl rfl rfl rfl rfl ?_
    refine X.ixAe rfl rfl rfl rfl rfl rfl Try.underlying22 Try.sz3 (hak) (by omega) ?_
    refine X.ld rfl rfl rfl rfl Try.ag3 (fun H' hF => hF.2) (by rw [Nat.mul_one]; exact helk) ?_
    refine X.eqlC rfl rfl rfl rfl rfl rfl (fun hc => ?_) (fun hc => ?_)
    · refine X.pickF rfl rfl rfl rfl rfl rfl ?_
      refine X.mv rfl rfl rfl rfl rfl ?_
      refine X.skip rfl rfl rfl ?_
      refine X.skip rfl rfl rfl ?_
      refine X.skip rfl rfl rfl ?_
      refine X.skip rfl rfl rfl ?_
      refine X.skip rfl rfl rfl ?_
      refine X.skip rfl rfl rfl ?_
      refine X.skip rfl rfl rfl ?_
      refine X.skip rfl rfl rfl ?_
      refine X.skip rfl rfl rfl ?_
      refine X.pickT rfl rfl rfl rfl rfl rfl ?_
      refine X.mv rfl rfl rfl rfl rfl ?_
      refine X.skip rfl rfl rfl ?_
      refine X.skip rfl rfl rfl ?_
      refine X.skip rfl rfl rfl ?_
      refine X.skip rfl rfl rfl ?_
      refine X.skip rfl rfl rfl ?_
      refine X.skip rfl rfl rfl ?_
      refine X.skip rfl rfl rfl ?_
      refine X.skip rfl rfl rfl ?_
      refine X.skip rfl rfl rfl ?_
      refine X.skip rfl rfl rfl ?_
      refine X.skip rfl rfl rfl ?_
      refine X.skip rfl rfl rfl ?_
      refine X.skip rfl rfl rfl ?_
      refine X.skip rfl rfl rfl ?_
      refine X.pickT rfl rfl rfl rfl rfl rfl ?_
      refine X.done [(0, _), (6, _), (7, _), (9, _), (10, _), (81, _)] ⟨rfl, rfl, rfl, rfl, rfl, rfl, trivial⟩ ?_
      refine N.then ?_
      refine E.condT rfl ?_
      refine E.seq ?_
      refine E.region ?_
      refine X.call rfl rfl rfl rfl rfl Try.cl7 (known_ct H1) ?_
      rintro _ HK ⟨rfl, hkK⟩
      refine X.asg rfl rfl rfl rfl rfl ?_
      refine X.done [(0, _), (6, _), (7, _), (9, _), (10, _)] ⟨rfl, rfl, rfl, rfl, rfl, trivial⟩ ?_
      refine N.then ?_
      refine E.ret ?_
      refine N.thenR ?_
      exact N.retH [_] ⟨_, _, rfl, rfl, rfl⟩ ⟨rfl, (hk1).trans hkK (by simp)⟩
    · refine X.pickF rfl rfl rfl rfl rfl rfl ?_
      refine X.mv rfl rfl rfl rfl rfl ?_
      refine X.mv rfl rfl rfl rfl rfl ?_
      refine X.mv rfl rfl rfl rfl rfl ?_
      refine X.ixAe rfl rfl rfl rfl rfl rfl Try.underlying22 Try.sz3 (ha) (by omega) ?_
      refine X.ld rfl rfl rfl rfl Try.ag3 (fun H' hF => hF.1) (by rw [Nat.mul_one]; exact hel) ?_
      refine X.mv rfl rfl rfl rfl rfl ?_
      refine X.mv rfl rfl rfl rfl rfl ?_
      refine X.ixAe rfl rfl rfl rfl rfl rfl Try.underlying22 Try.sz3 (hak) (by omega) ?_
      refine X.ld rfl rfl rfl rfl Try.ag3 (fun H' hF => hF.2) (by rw [Nat.mul_one]; exact helk) ?_
      refine X.gtrC rfl rfl rfl rfl rfl rfl (fun hc => ?_) (fun hc => ?_)
      · refine X.pickF rfl rfl rfl rfl rfl rfl ?_
        refine X.mv rfl rfl rfl rfl rfl ?_
        refine X.skip rfl rfl rfl ?_
        refine X.skip rfl rfl rfl ?_
        refine X.skip rfl rfl rfl ?_
        refine X.skip rfl rfl rfl ?_
        refine X.skip rfl rfl rfl ?_
        refine X.skip rfl rfl rfl ?_
        refine X.skip rfl rfl rfl ?_
        refine X.skip rfl rfl rfl ?_
        refine X.skip rfl rfl rfl ?_
        refine X.skip rfl rfl rfl ?_
        refine X.skip rfl rfl rfl ?_
        refine X.skip rfl rfl rfl ?_
        refine X.skip rfl rfl rfl ?_
        refine X.skip rfl rfl rfl ?_
        refine X.pickT rfl rfl rfl rfl rfl rfl ?_
        refine X.done [(0, _), (6, _), (7, _), (9, _), (10, _), (81, _)] ⟨rfl, rfl, rfl, rfl, rfl, rfl, trivial⟩ ?_
        refine N.then ?_
        refine E.condT rfl ?_
        refine E.seq ?_
        refine E.region ?_
        refine X.call rfl rfl rfl rfl rfl Try.cl7 (known_ct H1) ?_
        rintro _ HK ⟨rfl, hkK⟩
        refine X.asg rfl rfl rfl rfl rfl ?_
        refine X.done [(0, _), (6, _), (7, _), (9, _), (10, _)] ⟨rfl, rfl, rfl, rfl, rfl, trivial⟩ ?_
        refine N.then ?_
        refine E.ret ?_
        refine N.thenR ?_
        exact N.retH [_] ⟨_, _, rfl, rfl, rfl⟩ ⟨rfl, (hk1).trans hkK (by simp)⟩
      · refine X.pickF rfl rfl rfl rfl rfl rfl ?_
        refine X.mv rfl rfl rfl rfl rfl ?_
        refine X.mv rfl rfl rfl rfl rfl ?_
        refine X.mv rfl rfl rfl rfl rfl ?_
        refine X.ixAe rfl rfl rfl rfl rfl rfl Try.underlying22 Try.sz3 (ha) (by omega) ?_
        refine X.ld rfl rfl rfl rfl Try.ag3 (fun H' hF => hF.1) (by rw [Nat.mul_one]; exact hel) ?_
        refine X.mv rfl rfl rfl rfl rfl ?_
        refine X.mv rfl rfl rfl rfl rfl ?_
        refine X.ixAe rfl rfl rfl rfl rfl rfl Try.underlying22 Try.sz3 (hak) (by omega) ?_
        refine X.ld rfl rfl rfl rfl Try.ag3 (fun H' hF => hF.2) (by rw [Nat.mul_one]; exact helk) ?_
        refine X.eqlC rfl rfl rfl rfl rfl rfl (fun hc => ?_) (fun hc => ?_)
        · refine X.mv rfl rfl rfl rfl rfl ?_
          refine X.mv rfl rfl rfl rfl rfl ?_
          refine X.mv rfl rfl rfl rfl rfl ?_
          refine X.geq rfl rfl rfl rfl rfl rfl ?_
          refine X.pickT rfl rfl rfl rfl rfl rfl ?_
          refine X.pickF rfl rfl rfl rfl rfl rfl ?_
          refine X.done [(0, _), (6, _), (7, _), (9, _), (10, _), (81, _)] ⟨rfl, rfl, rfl, rfl, rfl, rfl, trivial⟩ ?_
          refine N.then ?_
          refine E.condD rfl (fun hc => ?_) (fun hc => ?_)
          · refine E.seq ?_
            refine E.region ?_
            refine X.call rfl rfl rfl rfl rfl Try.cl7 (known_ct H1) ?_
            rintro _ HK ⟨rfl, hkK⟩
            refine X.asg rfl rfl rfl rfl rfl ?_
            refine X.done [(0, _), (6, _), (7, _), (9, _), (10, _)] ⟨rfl, rfl, rfl, rfl, rfl, trivial⟩ ?_
            refine N.then ?_
            refine E.ret ?_
            refine N.thenR ?_
            exact N.retH [_] ⟨_, _, rfl, rfl, rfl⟩ ⟨rfl, (hk1).trans hkK (by simp)⟩
          · refine E.skip ?_
            refine N.then ?_
            refine E.seq ?_
            have hlx : fin ns i * 2 ^ (15 - x) = lo ns i x := by rw [hfx]; exact code_lo ns i x (by omega)
            have hly : fin ns k * 2 ^ (15 - y) = lo ns k y := by rw [hfy]; exact code_lo ns k y (by omega)
            have hhx := hi_le hx (by omega)
            have hhy := hi_le hy (by omega)
            have hmx := K_mono ns hx15
            have hmy := K_mono ns hy15
            have htx := two_pos (15 - x)
            have hty := two_pos (15 - y)
            have eX : ((fin ns i * 2 ^ (15 - x) : Nat) : Int) = (fin ns i : Int) * 2 ^ (15 - x) := by simp
            have eY : ((fin ns k * 2 ^ (15 - y) : Nat) : Int) = (fin ns k : Int) * 2 ^ (15 - y) := by simp
            have nX : fin ns i * 2 ^ (15 - x) ≤ 32768 := by omega
            have nY : fin ns k * 2 ^ (15 - y) ≤ 32768 := by omega
            have bX : 0 ≤ (fin ns i : Int) * 2 ^ (15 - x) ∧ (fin ns i : Int) * 2 ^ (15 - x) ≤ 32768 := by rw [← eX]; exact ⟨Int.natCast_nonneg _, Int.ofNat_le.2 nX⟩
            have bY : 0 ≤ (fin ns k : Int) * 2 ^ (15 - y) ∧ (fin ns k : Int) * 2 ^ (15 - y) ≤ 32768 := by rw [← eY]; exact ⟨Int.natCast_nonneg _, Int.ofNat_le.2 nY⟩
            have hord : x < y ∨ x = y ∧ i < k → fin ns i * 2 ^ (15 - x) < fin ns k * 2 ^ (15 - y) := fun h => by
              have := apart hx hy (by omega) (by omega) h
              omega
            refine E.regionD (fun H' => H'[b1]? = some (.cells (rg ns.length (fin ns)).toArray 3 (0, 0)) ∧ H'[b]? = some (.cells cs.toArray ct fz) ∧ H'[b]? = some (.cells csk.toArray ctk fzk)) [(0, .pu), (1, .pu), (2, .pu), (3, .st), (4, .pu), (5, .pu), (6, .pu), (7, .st), (8, .pu), (9, .pu), (10, .pu), (11, .pu), (12, .pu), (13, .pu), (14, .st), (15, .pu), (16, .pu), (17, .pu), (18, .st), (19, .pu), (20, .pu), (21, .pu), (22, .pu), (23, .pu), (24, .mk), (25, .pu), (26, .pu)] Try.mixed (by kernel_rfl) (⟨hb1, hbb, hbbk⟩) ?_
            refine X.mv rfl rfl rfl rfl rfl ?_
            refine X.mv rfl rfl rfl rfl rfl ?_
            refine X.ixA rfl rfl rfl rfl rfl rfl Try.underlying22 Try.sz3 (by omega) ?_
            refine X.ld rfl rfl rfl rfl Try.ag3 (fun H' hF => hF.1) (by rw [Nat.zero_add, Nat.mul_one]; exact hg) ?_
            refine X.mv rfl rfl rfl rfl rfl ?_
            refine X.mv rfl rfl rfl rfl rfl ?_
            refine X.ixAe rfl rfl rfl rfl rfl rfl Try.underlying22 Try.sz3 (ha) (by omega) ?_
            refine X.ld rfl rfl rfl rfl Try.ag3 (fun H' hF => hF.2.1) (by rw [Nat.mul_one]; exact hel) ?_
            refine X.sbE (zz := ((15 - x : Nat) : Int)) rfl rfl rfl rfl rfl rfl (by rw [IntWalk.i64_in _ (by omega)]; omega) ?_
            refine X.convE (zz := ((15 - x : Nat) : Int)) rfl rfl rfl rfl rfl Try.underlying31 Try.us3 (IntWalk.u64_in _ (by omega)) ?_
            refine X.shlE (zz := ((fin ns i * 2 ^ (15 - x) : Nat) : Int)) rfl rfl rfl rfl rfl rfl (by omega) (by rw [eX]; exact shlN rfl (by omega) (by omega) (by omega)) ?_
            refine X.mv rfl rfl rfl rfl rfl ?_
            refine X.mv rfl rfl rfl rfl rfl ?_
            refine X.ixA rfl rfl rfl rfl rfl rfl Try.underlying22 Try.sz3 (by omega) ?_
            refine X.ld rfl rfl rfl rfl Try.ag3 (fun H' hF => hF.1) (by rw [Nat.zero_add, Nat.mul_one]; exact hgk) ?_
            refine X.mv rfl rfl rfl rfl rfl ?_
            refine X.mv rfl rfl rfl rfl rfl ?_
            refine X.ixAe rfl rfl rfl rfl rfl rfl Try.underlying22 Try.sz3 (hak) (by omega) ?_
            refine X.ld rfl rfl rfl rfl Try.ag3 (fun H' hF => hF.2.2) (by rw [Nat.mul_one]; exact helk) ?_
            refine X.sbE (zz := ((15 - y : Nat) : Int)) rfl rfl rfl rfl rfl rfl (by rw [IntWalk.i64_in _ (by omega)]; omega) ?_
            refine X.convE (zz := ((15 - y : Nat) : Int)) rfl rfl rfl rfl rfl Try.underlying31 Try.us3 (IntWalk.u64_in _ (by omega)) ?_
            refine X.shlE (zz := ((fin ns k * 2 ^ (15 - y) : Nat) : Int)) rfl rfl rfl rfl rfl rfl (by omega) (by rw [eY]; exact shlN rfl (by omega) (by omega) (by omega)) ?_
            refine X.lssT rfl rfl rfl rfl rfl rfl (Int.ofNat_lt.2 (hord (by omega))) ?_
            refine X.mv rfl rfl rfl rfl rfl ?_
            refine X.call rfl rfl rfl rfl rfl Try.cl7 (known_ct H1) ?_
            rintro _ HK ⟨rfl, hkK⟩
            refine ⟨⟨hkK.keep hb1 (by simp), hkK.keep hbb (by simp), hkK.keep hbbk (by simp)⟩, ?_⟩
            refine X.pickT rfl rfl rfl rfl rfl rfl ?_
            refine X.asg rfl rfl rfl rfl rfl ?_
            refine X.done [(6, _)] ⟨rfl, trivial⟩ ?_
            refine N.then ?_
            refine E.ret ?_
            exact N.retH [_] ⟨_, _, rfl, rfl, rfl⟩ ⟨rfl, (hk1).trans hkK (by simp)⟩
        · refine X.mv rfl rfl rfl rfl rfl ?_
          refine X.skip rfl rfl rfl ?_
          refine X.skip rfl rfl rfl ?_
          refine X.skip rfl rfl rfl ?_
          refine X.pickF rfl rfl rfl rfl rfl rfl ?_
          refine X.pickF rfl rfl rfl rfl rfl rfl ?_
          refine X.done [(0, _), (6, _), (7, _), (9, _), (10, _), (81, _)] ⟨rfl, rfl, rfl, rfl, rfl, rfl, trivial⟩ ?_
          refine N.then ?_
          refine E.condF rfl ?_
          refine E.skip ?_
          refine N.then ?_
          refine E.seq ?_
          have hlx : fin ns i * 2 ^ (15 - x) = lo ns i x := by rw [hfx]; exact code_lo ns i x (by omega)
          have hly : fin ns k * 2 ^ (15 - y) = lo ns k y := by rw [hfy]; exact code_lo ns k y (by omega)
          have hhx := hi_le hx (by omega)
          have hhy := hi_le hy (by omega)
          have hmx := K_mono ns hx15
          have hmy := K_mono ns hy15
          have htx := two_pos (15 - x)
          have hty := two_pos (15 - y)
          have eX : ((fin ns i * 2 ^ (15 - x) : Nat) : Int) = (fin ns i : Int) * 2 ^ (15 - x) := by simp
          have eY : ((fin ns k * 2 ^ (15 - y) : Nat) : Int) = (fin ns k : Int) * 2 ^ (15 - y) := by simp
          have nX : fin ns i * 2 ^ (15 - x) ≤ 32768 := by omega
          have nY : fin ns k * 2 ^ (15 - y) ≤ 32768 := by omega
          have bX : 0 ≤ (fin ns i : Int) * 2 ^ (15 - x) ∧ (fin ns i : Int) * 2 ^ (15 - x) ≤ 32768 := by rw [← eX]; exact ⟨Int.natCast_nonneg _, Int.ofNat_le.2 nX⟩
          have bY : 0 ≤ (fin ns k : Int) * 2 ^ (15 - y) ∧ (fin ns k : Int) * 2 ^ (15 - y) ≤ 32768 := by rw [← eY]; exact ⟨Int.natCast_nonneg _, Int.ofNat_le.2 nY⟩
          have hord : x < y ∨ x = y ∧ i < k → fin ns i * 2 ^ (15 - x) < fin ns k * 2 ^ (15 - y) := fun h => by
            have := apart hx hy (by omega) (by omega) h
            omega
          refine E.regionD (fun H' => H'[b1]? = some (.cells (rg ns.length (fin ns)).toArray 3 (0, 0)) ∧ H'[b]? = some (.cells cs.toArray ct fz) ∧ H'[b]? = some (.cells csk.toArray ctk fzk)) [(0, .pu), (1, .pu), (2, .pu), (3, .st), (4, .pu), (5, .pu), (6, .pu), (7, .st), (8, .pu), (9, .pu), (10, .pu), (11, .pu), (12, .pu), (13, .pu), (14, .st), (15, .pu), (16, .pu), (17, .pu), (18, .st), (19, .pu), (20, .pu), (21, .pu), (22, .pu), (23, .pu), (24, .mk), (25, .pu), (26, .pu)] Try.mixed (by kernel_rfl) (⟨hb1, hbb, hbbk⟩) ?_
          refine X.mv rfl rfl rfl rfl rfl ?_
          refine X.mv rfl rfl rfl rfl rfl ?_
          refine X.ixA rfl rfl rfl rfl rfl rfl Try.underlying22 Try.sz3 (by omega) ?_
          refine X.ld rfl rfl rfl rfl Try.ag3 (fun H' hF => hF.1) (by rw [Nat.zero_add, Nat.mul_one]; exact hg) ?_
          refine X.mv rfl rfl rfl rfl rfl ?_
          refine X.mv rfl rfl rfl rfl rfl ?_
          refine X.ixAe rfl rfl rfl rfl rfl rfl Try.underlying22 Try.sz3 (ha) (by omega) ?_
          refine X.ld rfl rfl rfl rfl Try.ag3 (fun H' hF => hF.2.1) (by rw [Nat.mul_one]; exact hel) ?_
          refine X.sbE (zz := ((15 - x : Nat) : Int)) rfl rfl rfl rfl rfl rfl (by rw [IntWalk.i64_in _ (by omega)]; omega) ?_
          refine X.convE (zz := ((15 - x : Nat) : Int)) rfl rfl rfl rfl rfl Try.underlying31 Try.us3 (IntWalk.u64_in _ (by omega)) ?_
          refine X.shlE (zz := ((fin ns i * 2 ^ (15 - x) : Nat) : Int)) rfl rfl rfl rfl rfl rfl (by omega) (by rw [eX]; exact shlN rfl (by omega) (by omega) (by omega)) ?_
          refine X.mv rfl rfl rfl rfl rfl ?_
          refine X.mv rfl rfl rfl rfl rfl ?_
          refine X.ixA rfl rfl rfl rfl rfl rfl Try.underlying22 Try.sz3 (by omega) ?_
          refine X.ld rfl rfl rfl rfl Try.ag3 (fun H' hF => hF.1) (by rw [Nat.zero_add, Nat.mul_one]; exact hgk) ?_
          refine X.mv rfl rfl rfl rfl rfl ?_
          refine X.mv rfl rfl rfl rfl rfl ?_
          refine X.ixAe rfl rfl rfl rfl rfl rfl Try.underlying22 Try.sz3 (hak) (by omega) ?_
          refine X.ld rfl rfl rfl rfl Try.ag3 (fun H' hF => hF.2.2) (by rw [Nat.mul_one]; exact helk) ?_
          refine X.sbE (zz := ((15 - y : Nat) : Int)) rfl rfl rfl rfl rfl rfl (by rw [IntWalk.i64_in _ (by omega)]; omega) ?_
          refine X.convE (zz := ((15 - y : Nat) : Int)) rfl rfl rfl rfl rfl Try.underlying31 Try.us3 (IntWalk.u64_in _ (by omega)) ?_
          refine X.shlE (zz := ((fin ns k * 2 ^ (15 - y) : Nat) : Int)) rfl rfl rfl rfl rfl rfl (by omega) (by rw [eY]; exact shlN rfl (by omega) (by omega) (by omega)) ?_
          refine X.lssT rfl rfl rfl rfl rfl rfl (Int.ofNat_lt.2 (hord (by omega))) ?_
          refine X.mv rfl rfl rfl rfl rfl ?_
          refine X.call rfl rfl rfl rfl rfl Try.cl7 (known_ct H1) ?_
          rintro _ HK ⟨rfl, hkK⟩
          refine ⟨⟨hkK.keep hb1 (by simp), hkK.keep hbb (by simp), hkK.keep hbbk (by simp)⟩, ?_⟩
          refine X.pickT rfl rfl rfl rfl rfl rfl ?_
          refine X.asg rfl rfl rfl rfl rfl ?_
          refine X.done [(6, _)] ⟨rfl, trivial⟩ ?_
          refine N.then ?_
          refine E.ret ?_
          exact N.retH [_] ⟨_, _, rfl, rfl, rfl⟩ ⟨rfl, (hk1).trans hkK (by simp)⟩


theorem lensorder_ct (ls : List Int) (a : Option Addr) (b o c : Nat) (H : Heap) (A : Row1 H a b o (iv ls)) (p q : Nat) (hp : p ≤ 65535) (hq : q ≤ 65535) : Ct Try.prog 6 #[.slice a ls.length c, .int .u16 p, .int .u16 q] H fun v H' => v = .bool true ∧ Kp [] H H' := by
  by_cases h0 : ls.length = 0
  · exact order0 _ a c _ _ H h0
  · by_cases hm : 320 < ls.length
    · exact order1 _ a c _ _ H hm
    · rcases wrong_cases ls with hw | ⟨ns, rfl, ho, hl⟩
      · exact order2 _ a c _ _ H (by omega) _ hw (codes_bad ls a b o c H A hw)
      · rw [List.length_map] at h0 ⊢
        rw [nv_iv] at A
        by_cases hK : 32768 < K ns 15
        · exact order2 _ a c _ _ H (by omega) 7 (by decide) (codes_over ns a b o c H A ho hl hK)
        · exact order3 ns a b o c H A ho hl (by omega) (by omega) p q hp hq

end Go.Proofs.Ytoilfnbbkemapaa