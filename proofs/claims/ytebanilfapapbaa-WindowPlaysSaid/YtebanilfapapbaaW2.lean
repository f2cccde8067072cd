/- The walks of the window's copy, and of the document's functions. -/
import Derived.Test.YtebanilfapapbaaW1
namespace Go.Proofs.Ytebanilfapapbaa
open Go.SX Go.Win
attribute [local irreducible] X E N Ct
set_option linter.unusedVariables false
abbrev i64 (x : Int) : Value := .int .i64 x

theorem copyN_ct (pv : Value) (H : Heap) (hno : Ct Try.prog 20 #[pv] H fun v H' => v = .bool false ∧ H' = H) (d n : Int) : Ct Try.prog 10 #[pv, i64 d, i64 n] H fun v H' => v = .tuple #[str [], i64 25] ∧ H' = H := by
  refine Ct.into 81 Try.func10 rfl [(0, pv), (1, i64 d), (2, i64 n)] rfl ⟨rfl, rfl, rfl, trivial⟩ ?_
  refine E.seq ?_
  refine E.region ?_
  refine X.asg rfl rfl rfl rfl rfl ?_
  refine X.asg rfl rfl rfl rfl rfl ?_
  refine X.done [(0, _), (1, _), (2, _), (6, _), (7, _)] ⟨rfl, rfl, rfl, rfl, rfl, trivial⟩ ?_
  refine N.then ?_
  refine E.seq ?_
  refine E.block ?_
  refine E.seq ?_
  refine E.region ?_
  refine X.mv rfl rfl rfl rfl rfl ?_
  refine X.call rfl rfl rfl rfl rfl Try.cl20 (hno) ?_
  rintro _ H1 ⟨rfl, eH1⟩
  obtain rfl := eH1.symm
  refine X.notF rfl rfl rfl rfl rfl ?_
  refine X.asg rfl rfl rfl rfl rfl ?_
  refine X.done [(0, _), (1, _), (2, _), (6, _), (7, _), (13, _)] ⟨rfl, rfl, rfl, rfl, rfl, rfl, trivial⟩ ?_
  refine N.then ?_
  refine E.condT rfl ?_
  refine E.seq ?_
  refine E.region ?_
  refine X.asg rfl rfl rfl rfl rfl ?_
  refine X.asg rfl rfl rfl rfl rfl ?_
  refine X.done [(0, _), (1, _), (2, _), (6, _), (7, _)] ⟨rfl, rfl, rfl, rfl, rfl, trivial⟩ ?_
  refine N.then ?_
  refine E.ret ?_
  refine N.blkR ?_
  refine N.thenR ?_
  exact N.retH [_, _] ⟨_, _, rfl, rfl, _, _, rfl, rfl, rfl⟩ ⟨rfl, rfl⟩

theorem copy_bad_ct (p : Nat) (sv : Value) (l : Bs) (H : Heap) (hW : Win H p sv l) (d n : Int) (hb : n < 0 ∨ 65536 < n ∨ d < 1) : Ct Try.prog 10 #[ptr p, i64 d, i64 n] H fun v H' => v = .tuple #[str [], i64 1] ∧ H' = H := by
  refine Ct.into 81 Try.func10 rfl [(0, ptr p), (1, i64 d), (2, i64 n)] rfl ⟨rfl, rfl, rfl, trivial⟩ ?_
  refine E.seq ?_
  refine E.region ?_
  refine X.asg rfl rfl rfl rfl rfl ?_
  refine X.asg rfl rfl rfl rfl rfl ?_
  refine X.done [(0, _), (1, _), (2, _), (6, _), (7, _)] ⟨rfl, rfl, rfl, rfl, rfl, trivial⟩ ?_
  refine N.then ?_
  refine E.seq ?_
  refine E.block ?_
  refine E.seq ?_
  refine E.region ?_
  refine X.mv rfl rfl rfl rfl rfl ?_
  refine X.call rfl rfl rfl rfl rfl Try.cl20 (there_ct p _ l H hW) ?_
  rintro _ H1 ⟨rfl, eH1⟩
  obtain rfl := eH1.symm
  refine X.notT rfl rfl rfl rfl rfl ?_
  refine X.asg rfl rfl rfl rfl rfl ?_
  refine X.done [(0, _), (1, _), (2, _), (6, _), (7, _), (13, _)] ⟨rfl, rfl, rfl, rfl, rfl, rfl, trivial⟩ ?_
  refine N.then ?_
  refine E.condF rfl ?_
  refine E.seq ?_
  refine E.region ?_
  refine X.mv rfl rfl rfl rfl rfl ?_
  refine X.lssC rfl rfl rfl rfl rfl rfl (fun hc => ?_) (fun hc => ?_)
  · refine X.mv rfl rfl rfl rfl rfl ?_
    refine X.skip rfl rfl rfl ?_
    refine X.skip rfl rfl rfl ?_
    refine X.pickT rfl rfl rfl rfl rfl rfl ?_
    refine X.mv rfl rfl rfl rfl rfl ?_
    refine X.skip rfl rfl rfl ?_
    refine X.skip rfl rfl rfl ?_
    refine X.pickT rfl rfl rfl rfl rfl rfl ?_
    refine X.asg rfl rfl rfl rfl rfl ?_
    refine X.done [(0, _), (1, _), (2, _), (6, _), (7, _), (17, _)] ⟨rfl, rfl, rfl, rfl, rfl, rfl, trivial⟩ ?_
    refine N.then ?_
    refine E.condT rfl ?_
    refine E.seq ?_
    refine E.region ?_
    refine X.asg rfl rfl rfl rfl rfl ?_
    refine X.asg rfl rfl rfl rfl rfl ?_
    refine X.done [(0, _), (1, _), (2, _), (6, _), (7, _)] ⟨rfl, rfl, rfl, rfl, rfl, trivial⟩ ?_
    refine N.then ?_
    refine E.ret ?_
    refine N.blkR ?_
    refine N.thenR ?_
    exact N.retH [_, _] ⟨_, _, rfl, rfl, _, _, rfl, rfl, rfl⟩ ⟨rfl, rfl⟩
  · refine X.mv rfl rfl rfl rfl rfl ?_
    refine X.mv rfl rfl rfl rfl rfl ?_
    refine X.gtrC rfl rfl rfl rfl rfl rfl (fun hc => ?_) (fun hc => ?_)
    · refine X.pickF rfl rfl rfl rfl rfl rfl ?_
      refine X.mv rfl rfl rfl rfl rfl ?_
      refine X.skip rfl rfl rfl ?_
      refine X.skip rfl rfl rfl ?_
      refine X.pickT rfl rfl rfl rfl rfl rfl ?_
      refine X.asg rfl rfl rfl rfl rfl ?_
      refine X.done [(0, _), (1, _), (2, _), (6, _), (7, _), (17, _)] ⟨rfl, rfl, rfl, rfl, rfl, rfl, trivial⟩ ?_
      refine N.then ?_
      refine E.condT rfl ?_
      refine E.seq ?_
      refine E.region ?_
      refine X.asg rfl rfl rfl rfl rfl ?_
      refine X.asg rfl rfl rfl rfl rfl ?_
      refine X.done [(0, _), (1, _), (2, _), (6, _), (7, _)] ⟨rfl, rfl, rfl, rfl, rfl, trivial⟩ ?_
      refine N.then ?_
      refine E.ret ?_
      refine N.blkR ?_
      refine N.thenR ?_
      exact N.retH [_, _] ⟨_, _, rfl, rfl, _, _, rfl, rfl, rfl⟩ ⟨rfl, rfl⟩
    · refine X.pickF rfl rfl rfl rfl rfl rfl ?_
      refine X.mv rfl rfl rfl rfl rfl ?_
      refine X.mv rfl rfl rfl rfl rfl ?_
      refine X.lssT rfl rfl rfl rfl rfl rfl (by omega) ?_
      refine X.pickF rfl rfl rfl rfl rfl rfl ?_
      refine X.asg rfl rfl rfl rfl rfl ?_
      refine X.done [(0, _), (1, _), (2, _), (6, _), (7, _), (17, _)] ⟨rfl, rfl, rfl, rfl, rfl, rfl, trivial⟩ ?_
      refine N.then ?_
      refine E.condT rfl ?_
      refine E.seq ?_
      refine E.region ?_
      refine X.asg rfl rfl rfl rfl rfl ?_
      refine X.asg rfl rfl rfl rfl rfl ?_
      refine X.done [(0, _), (1, _), (2, _), (6, _), (7, _)] ⟨rfl, rfl, rfl, rfl, rfl, trivial⟩ ?_
      refine N.then ?_
      refine E.ret ?_
      refine N.blkR ?_
      refine N.thenR ?_
      exact N.retH [_, _] ⟨_, _, rfl, rfl, _, _, rfl, rfl, rfl⟩ ⟨rfl, rfl⟩

theorem copy_far_ct (p : Nat) (sv : Value) (l : Bs) (H : Heap) (hW : Win H p sv l) (d n : Int) (hb : 0 ≤ n ∧ n ≤ 65536 ∧ 1 ≤ d) (hf : (min l.length 32768 : Nat) < d) : Ct Try.prog 10 #[ptr p, i64 d, i64 n] H fun v H' => v = .tuple #[str [], i64 10] ∧ H' = H := by
  refine Ct.into 81 Try.func10 rfl [(0, ptr p), (1, i64 d), (2, i64 n)] rfl ⟨rfl, rfl, rfl, trivial⟩ ?_
  refine E.seq ?_
  refine E.region ?_
  refine X.asg rfl rfl rfl rfl rfl ?_
  refine X.asg rfl rfl rfl rfl rfl ?_
  refine X.done [(0, _), (1, _), (2, _), (6, _), (7, _)] ⟨rfl, rfl, rfl, rfl, rfl, trivial⟩ ?_
  refine N.then ?_
  refine E.seq ?_
  refine E.block ?_
  refine E.seq ?_
  refine E.region ?_
  refine X.mv rfl rfl rfl rfl rfl ?_
  refine X.call rfl rfl rfl rfl rfl Try.cl20 (there_ct p _ l H hW) ?_
  rintro _ H1 ⟨rfl, eH1⟩
  obtain rfl := eH1.symm
  refine X.notT rfl rfl rfl rfl rfl ?_
  refine X.asg rfl rfl rfl rfl rfl ?_
  refine X.done [(0, _), (1, _), (2, _), (6, _), (7, _), (13, _)] ⟨rfl, rfl, rfl, rfl, rfl, rfl, trivial⟩ ?_
  refine N.then ?_
  refine E.condF rfl ?_
  refine E.seq ?_
  refine E.region ?_
  refine X.mv rfl rfl rfl rfl rfl ?_
  refine X.lssF rfl rfl rfl rfl rfl rfl (by omega) ?_
  refine X.mv rfl rfl rfl rfl rfl ?_
  refine X.mv rfl rfl rfl rfl rfl ?_
  refine X.gtrF rfl rfl rfl rfl rfl rfl (by omega) ?_
  refine X.pickF rfl rfl rfl rfl rfl rfl ?_
  refine X.mv rfl rfl rfl rfl rfl ?_
  refine X.mv rfl rfl rfl rfl rfl ?_
  refine X.lssF rfl rfl rfl rfl rfl rfl (by omega) ?_
  refine X.pickF rfl rfl rfl rfl rfl rfl ?_
  refine X.asg rfl rfl rfl rfl rfl ?_
  refine X.done [(0, _), (1, _), (2, _), (6, _), (7, _), (17, _)] ⟨rfl, rfl, rfl, rfl, rfl, rfl, trivial⟩ ?_
  refine N.then ?_
  refine E.condF rfl ?_
  refine E.seq ?_
  refine E.region ?_
  refine X.mv rfl rfl rfl rfl rfl ?_
  refine X.mv rfl rfl rfl rfl rfl ?_
  refine X.call rfl rfl rfl rfl rfl Try.cl12 (len_ct p _ l H hW) ?_
  rintro _ H2 ⟨rfl, eH2⟩
  obtain rfl := eH2.symm
  refine X.gtrT rfl rfl rfl rfl rfl rfl (by omega) ?_
  refine X.asg rfl rfl rfl rfl rfl ?_
  refine X.done [(0, _), (1, _), (2, _), (6, _), (7, _), (28, _)] ⟨rfl, rfl, rfl, rfl, rfl, rfl, trivial⟩ ?_
  refine N.then ?_
  refine E.condT rfl ?_
  refine E.seq ?_
  refine E.region ?_
  refine X.asg rfl rfl rfl rfl rfl ?_
  refine X.asg rfl rfl rfl rfl rfl ?_
  refine X.done [(0, _), (1, _), (2, _), (6, _), (7, _)] ⟨rfl, rfl, rfl, rfl, rfl, trivial⟩ ?_
  refine N.then ?_
  refine E.ret ?_
  refine N.blkR ?_
  refine N.thenR ?_
  exact N.retH [_, _] ⟨_, _, rfl, rfl, _, _, rfl, rfl, rfl⟩ ⟨rfl, rfl⟩

theorem copy_ct (p : Nat) (sv : Value) (l : Bs) (H : Heap) (hW : Win H p sv l) (d n : Nat) (hl : l.length ≤ 131072) (hb : n ≤ 65536 ∧ 1 ≤ d) (hf : d ≤ min l.length 32768) : Ct Try.prog 10 #[ptr p, i64 d, i64 n] H fun v H' => v = .tuple #[str ((ext d n l).drop l.length), i64 0] ∧ ∃ sv', Win H' p sv' (trimL (ext d n l)) ∧ Chg p sv H H' sv' := by
  obtain ⟨sa, sc, rfl⟩ := hW.own.len
  have hdl : d ≤ l.length := by omega
  refine Ct.into 81 Try.func10 rfl [(0, ptr p), (1, i64 d), (2, i64 n)] rfl ⟨rfl, rfl, rfl, trivial⟩ ?_
  refine E.seq ?_
  refine E.region ?_
  refine X.asg rfl rfl rfl rfl rfl ?_
  refine X.asg rfl rfl rfl rfl rfl ?_
  refine X.done [(0, _), (1, _), (2, _), (6, _), (7, _)] ⟨rfl, rfl, rfl, rfl, rfl, trivial⟩ ?_
  refine N.then ?_
  refine E.seq ?_
  refine E.block ?_
  refine E.seq ?_
  refine E.region ?_
  refine X.mv rfl rfl rfl rfl rfl ?_
  refine X.call rfl rfl rfl rfl rfl Try.cl20 (there_ct p _ l H hW) ?_
  rintro _ H1 ⟨rfl, eH1⟩
  obtain rfl := eH1.symm
  refine X.notT rfl rfl rfl rfl rfl ?_
  refine X.asg rfl rfl rfl rfl rfl ?_
  refine X.done [(0, _), (1, _), (2, _), (6, _), (7, _), (13, _)] ⟨rfl, rfl, rfl, rfl, rfl, rfl, trivial⟩ ?_
  refine N.then ?_
  refine E.condF rfl ?_
  refine E.seq ?_
  refine E.region ?_
  refine X.mv rfl rfl rfl rfl rfl ?_
  refine X.lssF rfl rfl rfl rfl rfl rfl (by omega) ?_
  refine X.mv rfl rfl rfl rfl rfl ?_
  refine X.mv rfl rfl rfl rfl rfl ?_
  refine X.gtrF rfl rfl rfl rfl rfl rfl (by omega) ?_
  refine X.pickF rfl rfl rfl rfl rfl rfl ?_
  refine X.mv rfl rfl rfl rfl rfl ?_
  refine X.mv rfl rfl rfl rfl rfl ?_
  refine X.lssF rfl rfl rfl rfl rfl rfl (by omega) ?_
  refine X.pickF rfl rfl rfl rfl rfl rfl ?_
  refine X.asg rfl rfl rfl rfl rfl ?_
  refine X.done [(0, _), (1, _), (2, _), (6, _), (7, _), (17, _)] ⟨rfl, rfl, rfl, rfl, rfl, rfl, trivial⟩ ?_
  refine N.then ?_
  refine E.condF rfl ?_
  refine E.seq ?_
  refine E.region ?_
  refine X.mv rfl rfl rfl rfl rfl ?_
  refine X.mv rfl rfl rfl rfl rfl ?_
  refine X.call rfl rfl rfl rfl rfl Try.cl12 (len_ct p _ l H hW) ?_
  rintro _ H2 ⟨rfl, eH2⟩
  obtain rfl := eH2.symm
  refine X.gtrF rfl rfl rfl rfl rfl rfl (by omega) ?_
  refine X.asg rfl rfl rfl rfl rfl ?_
  refine X.done [(0, _), (1, _), (2, _), (6, _), (7, _), (28, _)] ⟨rfl, rfl, rfl, rfl, rfl, rfl, trivial⟩ ?_
  refine N.then ?_
  refine E.condF rfl ?_
  refine E.skip ?_
  refine N.blk ?_
  refine N.then ?_
  refine E.seq ?_
  refine E.region ?_
  refine X.mv rfl rfl rfl rfl rfl ?_
  refine X.nilP rfl rfl rfl rfl rfl ?_
  refine X.fld rfl rfl rfl rfl rfl Try.off45_1 ?_
  refine X.ld rfl rfl rfl rfl Try.ag43 (hW.cell) (rfl) ?_
  refine X.lenS rfl rfl rfl rfl rfl Try.underlying43 ?_
  refine X.asg rfl rfl rfl rfl rfl ?_
  refine X.done [(0, _), (1, _), (2, _), (6, _), (7, _), (8, _)] ⟨rfl, rfl, rfl, rfl, rfl, rfl, trivial⟩ ?_
  refine N.then ?_
  refine E.seq ?_
  refine E.seq ?_
  refine E.region ?_
  refine X.mv rfl rfl rfl rfl rfl ?_
  refine X.asg rfl rfl rfl rfl rfl ?_
  refine X.done [(0, _), (1, _), (6, _), (7, _), (8, _), (9, _)] ⟨rfl, rfl, rfl, rfl, rfl, rfl, trivial⟩ ?_
  refine N.then ?_
  refine E.block ?_
  refine E.loop (fun (k : Nat) => [(0, ptr p), (1, i64 d), (6, str []), (7, i64 0), (8, i64 l.length), (9, i64 k)]) (fun (k : Nat) H' => k ≤ n ∧ ∃ sv', Win H' p sv' (ext d (n - k) l) ∧ Chg p (.slice sa l.length sc) H H' sv') (fun (k : Nat) => k) n ⟨rfl, rfl, rfl, rfl, rfl, rfl, trivial⟩ ⟨Nat.le_refl _, _, by rw [Nat.sub_self]; exact hW, Chg.refl _ _ _⟩ ?_
  rintro k H2 ⟨hk, sv2, hW2, hg2⟩
  obtain ⟨a2, c2, rfl⟩ := hW2.own.len
  have hL := ext_len (d := d) (n - k) l hb.2 hdl
  have hcap := hW2.own.cap
  have hcx := hcap.2
  simp only [maxLen] at hcx
  refine E.seq ?_
  refine E.seq ?_
  refine E.region ?_
  refine X.mv rfl rfl rfl rfl rfl ?_
  refine X.gtr rfl rfl rfl rfl rfl rfl ?_
  refine X.done [(0, _), (1, _), (6, _), (7, _), (8, _), (9, _), (39, _), (40, _)] ⟨rfl, rfl, rfl, rfl, rfl, rfl, rfl, rfl, trivial⟩ ?_
  refine N.then ?_
  refine E.condD rfl (fun hc => ?_) (fun hc => ?_)
  · refine E.skip ?_
    refine N.then ?_
    refine E.block ?_
    refine E.seq ?_
    refine E.regionD (fun H' => Win H' p (.slice a2 (ext d (n - k) l).length c2) (ext d (n - k) l)) [(0, .pu), (1, .pu), (2, .pu), (3, .st), (4, .pu), (5, .pu), (6, .pu), (7, .st), (8, .pu), (9, .pu), (10, .pu), (11, .pu), (12, .pu)] Try.mixed (by kernel_rfl) (hW2) ?_
    refine X.mv rfl rfl rfl rfl rfl ?_
    refine X.nilP rfl rfl rfl rfl rfl ?_
    refine X.fld rfl rfl rfl rfl rfl Try.off45_1 ?_
    refine X.ld rfl rfl rfl rfl Try.ag43 (fun H' hF => hF.cell) (rfl) ?_
    refine X.mv rfl rfl rfl rfl rfl ?_
    refine X.nilP rfl rfl rfl rfl rfl ?_
    refine X.fld rfl rfl rfl rfl rfl Try.off45_1 ?_
    refine X.ld rfl rfl rfl rfl Try.ag43 (fun H' hF => hF.cell) (rfl) ?_
    refine X.lenS rfl rfl rfl rfl rfl Try.underlying43 ?_
    refine X.mv rfl rfl rfl rfl rfl ?_
    refine X.sbE (zz := (((ext d (n - k) l).length - d : Nat) : Int)) rfl rfl rfl rfl rfl rfl (by rw [IntWalk.i64_in _ (by omega)]; omega) ?_
    refine X.sl1 rfl rfl rfl rfl rfl rfl Try.underlying43 Try.sz5 (by omega) ?_
    refine X.asg rfl rfl rfl rfl rfl ?_
    refine X.done [(0, _), (1, _), (6, _), (7, _), (8, _), (9, _), (39, _), (40, _), (41, _), (42, _), (43, _), (44, _), (45, _), (46, _), (47, _), (48, _), (49, _), (50, _), (51, _), (52, _), (10, _)] ⟨rfl, rfl, rfl, rfl, rfl, rfl, rfl, rfl, rfl, rfl, rfl, rfl, rfl, rfl, rfl, rfl, rfl, rfl, rfl, rfl, rfl, trivial⟩ ?_
    refine N.then ?_
    refine E.seq ?_
    refine E.region ?_
    refine X.mv rfl rfl rfl rfl rfl ?_
    refine X.mv rfl rfl rfl rfl rfl ?_
    refine X.mv rfl rfl rfl rfl rfl ?_
    refine X.mnE (zz := ((min k d : Nat) : Int)) rfl rfl rfl rfl rfl rfl (by split <;> omega) ?_
    refine X.sl2 rfl rfl rfl rfl rfl rfl Try.underlying43 Try.is5 (by omega) ?_
    refine X.asg rfl rfl rfl rfl rfl ?_
    refine X.done [(0, _), (1, _), (6, _), (7, _), (8, _), (9, _), (39, _), (40, _), (41, _), (42, _), (43, _), (44, _), (45, _), (46, _), (47, _), (48, _), (49, _), (50, _), (51, _), (52, _), (10, _), (53, _), (54, _), (55, _), (56, _), (57, _), (11, _)] ⟨rfl, rfl, rfl, rfl, rfl, rfl, rfl, rfl, rfl, rfl, rfl, rfl, rfl, rfl, rfl, rfl, rfl, rfl, rfl, rfl, rfl, rfl, rfl, rfl, rfl, rfl, rfl, trivial⟩ ?_
    refine N.then ?_
    refine E.seq ?_
    refine E.region ?_
    refine X.mv rfl rfl rfl rfl rfl ?_
    refine X.mv rfl rfl rfl rfl rfl ?_
    refine X.nilP rfl rfl rfl rfl rfl ?_
    refine X.fld rfl rfl rfl rfl rfl Try.off45_1 ?_
    refine X.ld rfl rfl rfl rfl Try.ag43 (hW2.cell) (rfl) ?_
    refine X.mv rfl rfl rfl rfl rfl ?_
    refine X.app T43 rfl rfl rfl rfl rfl rfl (hW2.own) (.inl ((hW2.own.rd.drop hcap.1 (p := (((ext d (n - k) l).length - d : Nat) : Int).toNat) (by omega)).take (q := ((min k d : Nat) : Int).toNat) (by omega))) (.inl ⟨5, Try.underlying43, _, _, rfl⟩) (fun u hu => bv_one _ u (List.mem_of_mem_drop (List.mem_of_mem_take hu))) (by first | (simp only [maxLen]; omega) | omega) (by first | (simp only [maxLen]; omega) | omega) ?_
    intro v1 H1 ho1 hk1 hb1 hn1
    obtain ⟨a1, c1, rfl⟩ := ho1.len
    simp only [Int.toNat_natCast, Nat.mul_one, bv_drop, bv_take, ← bv_append] at ho1
    have e1 : ext d (n - (k - min k d)) l = ext d (n - k) l ++ ((ext d (n - k) l).drop ((ext d (n - k) l).length - d)).take (min k d) := by
      rw [← ext_chunk _ hb.2 (by omega) _ (by omega), ← ext_add]; congr 1; omega
    have hL1 := ext_len (d := d) (n - (k - min k d)) l hb.2 hdl
    rw [← e1] at ho1
    have hb1 : ∀ b ∈ blk (.slice a1 ((ext d (n - k) l).length + ((min k d : Nat) : Int).toNat) c1), b ∈ blk (.slice a2 (ext d (n - k) l).length c2) ∨ H2.size ≤ b := fun b hb => hb1.elim (fun h => .inl (h ▸ hb)) (fun h => .inr (h b hb))
    have e2 : (ext d (n - k) l).length + ((min k d : Nat) : Int).toNat = (ext d (n - (k - min k d)) l).length := by omega
    refine X.nilP rfl rfl rfl rfl rfl ?_
    refine X.fld rfl rfl rfl rfl rfl Try.off45_1 ?_
    refine X.st rfl rfl rfl rfl rfl rfl rfl Try.sz43 (hk1.keep hW2.cell hW2.sep) (by simp) ?_
    intro H3 hb3 hk3
    obtain ⟨hW3, hg3⟩ := hW2.stored (l1 := ext d (n - (k - min k d)) l) (s1 := .slice a1 ((ext d (n - k) l).length + ((min k d : Nat) : Int).toNat) c1) (by rw [← e2]; exact ho1) hk1 hb1 hb3 hk3
    refine X.done [(0, _), (1, _), (6, _), (7, _), (8, _), (9, _), (39, _), (40, _), (41, _), (42, _), (43, _), (44, _), (45, _), (46, _), (47, _), (48, _), (49, _), (50, _), (51, _), (52, _), (10, _), (53, _), (54, _), (55, _), (56, _), (57, _), (11, _), (58, _), (59, _), (60, _), (61, _), (62, _), (63, _), (64, _), (65, _), (66, _)] ⟨rfl, rfl, rfl, rfl, rfl, rfl, rfl, rfl, rfl, rfl, rfl, rfl, rfl, rfl, rfl, rfl, rfl, rfl, rfl, rfl, rfl, rfl, rfl, rfl, rfl, rfl, rfl, rfl, rfl, rfl, rfl, rfl, rfl, rfl, rfl, rfl, trivial⟩ ?_
    refine N.then ?_
    refine E.region ?_
    refine X.mv rfl rfl rfl rfl rfl ?_
    refine X.mv rfl rfl rfl rfl rfl ?_
    refine X.lenS rfl rfl rfl rfl rfl Try.underlying43 ?_
    refine X.sbE (zz := ((k - min k d : Nat) : Int)) rfl rfl rfl rfl rfl rfl (by rw [IntWalk.i64_in _ (by omega)]; omega) ?_
    refine X.asg rfl rfl rfl rfl rfl ?_
    refine X.done [(0, _), (1, _), (6, _), (7, _), (8, _), (9, _), (39, _), (40, _), (41, _), (42, _), (43, _), (44, _), (45, _), (46, _), (47, _), (48, _), (49, _), (50, _), (51, _), (52, _), (10, _), (53, _), (54, _), (55, _), (56, _), (57, _), (11, _), (58, _), (59, _), (60, _), (61, _), (62, _), (63, _), (64, _), (65, _), (66, _), (67, _), (68, _), (69, _), (70, _)] ⟨rfl, rfl, rfl, rfl, rfl, rfl, rfl, rfl, rfl, rfl, rfl, rfl, rfl, rfl, rfl, rfl, rfl, rfl, rfl, rfl, rfl, rfl, rfl, rfl, rfl, rfl, rfl, rfl, rfl, rfl, rfl, rfl, rfl, rfl, rfl, rfl, rfl, rfl, rfl, rfl, trivial⟩ ?_
    refine N.blk ?_
    exact N.next (G := fun (k : Nat) => _) (k - min k d) ⟨rfl, rfl, rfl, rfl, rfl, rfl, trivial⟩ ⟨by omega, _, hW3, hg2.trans hg3⟩ (by show k - min k d < k; omega)
  · refine E.exit ?_
    refine N.thenX ?_
    refine N.loopX ?_
    refine N.blkX ?_
    refine N.then ?_
    refine E.seq ?_
    obtain rfl : k = 0 := by omega
    have hW3 := hW2
    simp only [Nat.sub_zero] at hW3 hL hg2 hcap
    have hrd := hW3.own.rd.dropB hcap.1 (p := (l.length : Int).toNat) (by omega)
    refine E.region ?_
    refine X.mv rfl rfl rfl rfl rfl ?_
    refine X.nilP rfl rfl rfl rfl rfl ?_
    refine X.fld rfl rfl rfl rfl rfl Try.off45_1 ?_
    refine X.ld rfl rfl rfl rfl Try.ag43 (hW3.cell) (rfl) ?_
    refine X.mv rfl rfl rfl rfl rfl ?_
    refine X.sl1 rfl rfl rfl rfl rfl rfl Try.underlying43 Try.sz5 (by omega) ?_
    refine X.b2s rfl rfl rfl rfl Try.underlying43 Try.underlying5 Try.underlying9 (hrd) ?_
    refine X.asg rfl rfl rfl rfl rfl ?_
    refine X.done [(0, _), (6, _), (7, _), (12, _)] ⟨rfl, rfl, rfl, rfl, trivial⟩ ?_
    refine N.then ?_
    refine E.seq ?_
    refine E.region ?_
    refine X.mv rfl rfl rfl rfl rfl ?_
    refine X.call rfl rfl rfl rfl rfl Try.cl21 (trim_ct p _ _ _ hW3) ?_
    rintro _ H4 ⟨rfl, sv4, hW4, hg4⟩
    refine X.done [(6, _), (7, _), (12, _)] ⟨rfl, rfl, rfl, trivial⟩ ?_
    refine N.then ?_
    refine E.seq ?_
    refine E.region ?_
    refine X.mv rfl rfl rfl rfl rfl ?_
    refine X.asg rfl rfl rfl rfl rfl ?_
    refine X.asg rfl rfl rfl rfl rfl ?_
    refine X.done [(6, _), (7, _)] ⟨rfl, rfl, trivial⟩ ?_
    refine N.then ?_
    refine E.ret ?_
    exact N.retH [_, _] ⟨_, _, rfl, rfl, _, _, rfl, rfl, rfl⟩ ⟨rfl, sv4, hW4, hg2.trans hg4⟩


def cnt (n m : Int) : Int := (if n < 0 then -(n + 1) else n) % m
theorem cnt_bd (n m : Int) (h : 1 ≤ m) : 0 ≤ cnt n m ∧ cnt n m < m := ⟨Int.emod_nonneg _ (by omega), Int.emod_lt_of_pos _ (by omega)⟩

theorem count_ct (n m : Int) (H : Heap) (hn : -9223372036854775808 ≤ n ∧ n ≤ 9223372036854775807) (hm : 1 ≤ m) : Ct Try.prog 9 #[i64 n, i64 m] H fun v H' => v = i64 (cnt n m) ∧ H' = H := by
  refine Ct.into 13 Try.func9 rfl [(0, i64 n), (1, i64 m)] rfl ⟨rfl, rfl, trivial⟩ ?_
  refine E.seq ?_
  refine E.region ?_
  refine X.asg rfl rfl rfl rfl rfl ?_
  refine X.done [(0, _), (1, _), (4, _)] ⟨rfl, rfl, rfl, trivial⟩ ?_
  refine N.then ?_
  refine E.seq ?_
  refine E.seq ?_
  refine E.region ?_
  refine X.mv rfl rfl rfl rfl rfl ?_
  refine X.lss rfl rfl rfl rfl rfl rfl ?_
  refine X.done [(0, _), (1, _), (4, _), (6, _)] ⟨rfl, rfl, rfl, rfl, trivial⟩ ?_
  refine N.then ?_
  refine E.condD rfl (fun hc => ?_) (fun hc => ?_)
  · refine E.region ?_
    refine X.mv rfl rfl rfl rfl rfl ?_
    refine X.add rfl rfl rfl rfl rfl rfl (by omega) ?_
    refine X.neg rfl rfl rfl rfl rfl (by omega) ?_
    refine X.asg rfl rfl rfl rfl rfl ?_
    refine X.done [(0, _), (1, _), (4, _)] ⟨rfl, rfl, rfl, trivial⟩ ?_
    refine N.then ?_
    refine E.seq ?_
    refine E.region ?_
    refine X.mv rfl rfl rfl rfl rfl ?_
    refine X.mv rfl rfl rfl rfl rfl ?_
    refine X.rem rfl rfl rfl rfl rfl rfl (by omega) ?_
    refine X.asg rfl rfl rfl rfl rfl ?_
    refine X.done [(4, _)] ⟨rfl, trivial⟩ ?_
    refine N.then ?_
    refine E.ret ?_
    exact N.retH [_] ⟨_, _, rfl, rfl, rfl⟩ ⟨by unfold cnt; first | (rw [if_pos hc]; rfl) | (rw [if_neg hc]; rfl), rfl⟩
  · refine E.skip ?_
    refine N.then ?_
    refine E.seq ?_
    refine E.region ?_
    refine X.mv rfl rfl rfl rfl rfl ?_
    refine X.mv rfl rfl rfl rfl rfl ?_
    refine X.rem rfl rfl rfl rfl rfl rfl (by omega) ?_
    refine X.asg rfl rfl rfl rfl rfl ?_
    refine X.done [(4, _)] ⟨rfl, trivial⟩ ?_
    refine N.then ?_
    refine E.ret ?_
    exact N.retH [_] ⟨_, _, rfl, rfl, rfl⟩ ⟨by unfold cnt; first | (rw [if_pos hc]; rfl) | (rw [if_neg hc]; rfl), rfl⟩

theorem again_ct (s : Bs) (n : Nat) (H : Heap) (hb : n ≤ 1000 ∧ s.length ≤ 3000) : Ct Try.prog 13 #[str s, i64 n] H fun v H' => v = str (rep s n) ∧ Kp [] H H' := by
  refine Ct.into 17 Try.func13 rfl [(0, str s), (1, i64 n)] rfl ⟨rfl, rfl, trivial⟩ ?_
  refine E.seq ?_
  refine E.region ?_
  refine X.asg rfl rfl rfl rfl rfl ?_
  refine X.done [(0, _), (1, _), (4, _)] ⟨rfl, rfl, rfl, trivial⟩ ?_
  refine N.then ?_
  refine E.seq ?_
  refine E.region ?_
  refine X.asg rfl rfl rfl rfl rfl ?_
  refine X.done [(0, _), (1, _), (4, _), (5, _)] ⟨rfl, rfl, rfl, rfl, trivial⟩ ?_
  refine N.then ?_
  refine E.seq ?_
  refine E.seq ?_
  refine E.region ?_
  refine X.asg rfl rfl rfl rfl rfl ?_
  refine X.done [(0, _), (1, _), (4, _), (5, _), (6, _)] ⟨rfl, rfl, rfl, rfl, rfl, trivial⟩ ?_
  refine N.then ?_
  refine E.block ?_
  refine E.loop (fun (q : Nat × Value) => [(0, str s), (1, i64 n), (4, str []), (5, q.2), (6, i64 q.1)]) (fun (q : Nat × Value) H' => q.1 ≤ n ∧ Own H' 5 1 q.2 (rep s q.1).length (bv (rep s q.1)) ∧ Kp [] H H' ∧ ∀ b ∈ blk q.2, H.size ≤ b) (fun (q : Nat × Value) => n - q.1) (0, .slice none 0 0) ⟨rfl, rfl, rfl, rfl, rfl, trivial⟩ ⟨Nat.zero_le _, Own.nil _ _ _, Kp.refl _ _, by simp [blk]⟩ ?_
  rintro ⟨k, v⟩ H1 hJ
  dsimp only at hJ ⊢
  obtain ⟨hk, ho, hkp, hf⟩ := hJ
  have hrl := rep_len s k
  have hrb : k * s.length ≤ 1000 * 3000 := Nat.mul_le_mul (by omega) hb.2
  refine E.seq ?_
  refine E.seq ?_
  refine E.region ?_
  refine X.mv rfl rfl rfl rfl rfl ?_
  refine X.mv rfl rfl rfl rfl rfl ?_
  refine X.lss rfl rfl rfl rfl rfl rfl ?_
  refine X.done [(0, _), (1, _), (4, _), (5, _), (6, _), (7, _), (8, _), (9, _)] ⟨rfl, rfl, rfl, rfl, rfl, rfl, rfl, rfl, trivial⟩ ?_
  refine N.then ?_
  refine E.condD rfl (fun hc => ?_) (fun hc => ?_)
  · refine E.skip ?_
    refine N.then ?_
    refine E.seq ?_
    refine E.block ?_
    refine E.region ?_
    refine X.mv rfl rfl rfl rfl rfl ?_
    refine X.mv rfl rfl rfl rfl rfl ?_
    refine X.app T9 rfl rfl rfl rfl rfl rfl (ho) (srcS _ _) (.inr ⟨Try.underlying9, _, rfl⟩) (bv_one s) (by first | (simp only [maxLen]; omega) | omega) (by first | (simp only [maxLen]; omega) | omega) ?_
    intro v2 H2 ho2 hk2 hb2 hn2
    rw [← bv_append, ← List.length_append] at ho2
    refine X.asg rfl rfl rfl rfl rfl ?_
    refine X.done [(0, _), (1, _), (4, _), (5, _), (6, _), (7, _), (8, _), (9, _), (12, _), (13, _), (14, _)] ⟨rfl, rfl, rfl, rfl, rfl, rfl, rfl, rfl, rfl, rfl, rfl, trivial⟩ ?_
    refine N.blk ?_
    refine N.then ?_
    refine E.region ?_
    refine X.mv rfl rfl rfl rfl rfl ?_
    refine X.add rfl rfl rfl rfl rfl rfl (by omega) ?_
    refine X.asg rfl rfl rfl rfl rfl ?_
    refine X.done [(0, _), (1, _), (4, _), (5, _), (6, _), (7, _), (8, _), (9, _), (12, _), (13, _), (14, _), (10, _), (11, _)] ⟨rfl, rfl, rfl, rfl, rfl, rfl, rfl, rfl, rfl, rfl, rfl, rfl, rfl, trivial⟩ ?_
    exact N.next (G := fun (q : Nat × Value) => _) (k + 1, v2) ⟨rfl, rfl, rfl, rfl, rfl, trivial⟩ ⟨by show k + 1 ≤ n; omega, ho2, hkp.trans (hk2.mono (T := blk v) (fun b hb => .inl hb)) (fun b hb => .inr (hf b hb)), fun b hb => hb2.elim (fun h => hf b (h ▸ hb)) (fun h => Nat.le_trans hkp.size (h b hb))⟩ (by show n - (k + 1) < n - k; omega)
  · refine E.exit ?_
    refine N.thenX ?_
    refine N.loopX ?_
    refine N.blkX ?_
    refine N.then ?_
    refine E.seq ?_
    refine E.region ?_
    refine X.mv rfl rfl rfl rfl rfl ?_
    refine X.b2s rfl rfl rfl rfl Try.underlying43 Try.underlying5 Try.underlying9 (ho.rd) ?_
    refine X.asg rfl rfl rfl rfl rfl ?_
    refine X.done [(4, _)] ⟨rfl, trivial⟩ ?_
    refine N.then ?_
    refine E.ret ?_
    exact N.retH [_] ⟨_, _, rfl, rfl, rfl⟩ ⟨by rw [show k = n by omega]; rfl, hkp⟩


theorem take1_get {l : Bs} {i : Nat} {c : UInt8} (h : l[i]? = some c) : (l.drop i).take 1 = [c] := by
  obtain ⟨hi, rfl⟩ := List.getElem?_eq_some_iff.1 h
  rw [List.drop_eq_getElem_cons hi]; rfl
def Rf (H : Heap) (r : Nat) (v : Bs) : Prop := H[r]? = some (.cells [str v].toArray 38 (0, 0))

theorem rput_ct (r : Nat) (v : Bs) (H : Heap) (hR : Rf H r v) (s : Bs) (hv : v.length ≤ 1000000 ∧ s.length ≤ 1000000) : Ct Try.prog 15 #[ptr r, str s] H fun u H' => u = .tuple #[] ∧ Rf H' r (lst 32768 (v ++ s)) ∧ Kp [r] H H' := by
  have hl : (v ++ s).length = v.length + s.length := List.length_append
  refine Ct.into 33 Try.func15 rfl [(0, ptr r), (1, str s)] rfl ⟨rfl, rfl, trivial⟩ ?_
  refine E.seq ?_
  refine E.region ?_
  refine X.mv rfl rfl rfl rfl rfl ?_
  refine X.mv rfl rfl rfl rfl rfl ?_
  refine X.nilP rfl rfl rfl rfl rfl ?_
  refine X.fld rfl rfl rfl rfl rfl Try.off38_0 ?_
  refine X.ld rfl rfl rfl rfl Try.ag9 (hR) (rfl) ?_
  refine X.mv rfl rfl rfl rfl rfl ?_
  refine X.cat rfl rfl rfl rfl rfl rfl (by omega) ?_
  refine X.nilP rfl rfl rfl rfl rfl ?_
  refine X.fld rfl rfl rfl rfl rfl Try.off38_0 ?_
  refine X.st rfl rfl rfl rfl rfl rfl rfl Try.sz9 hR (by simp) ?_
  intro H1 hb1 hk1
  refine X.done [(0, _)] ⟨rfl, trivial⟩ ?_
  refine N.then ?_
  refine E.seq ?_
  refine E.region ?_
  refine X.mv rfl rfl rfl rfl rfl ?_
  refine X.nilP rfl rfl rfl rfl rfl ?_
  refine X.fld rfl rfl rfl rfl rfl Try.off38_0 ?_
  refine X.ld rfl rfl rfl rfl Try.ag9 (hb1) (rfl) ?_
  refine X.lenL rfl rfl rfl rfl rfl Try.underlying9 ?_
  refine X.gtr rfl rfl rfl rfl rfl rfl ?_
  refine X.done [(0, _), (18, _)] ⟨rfl, rfl, trivial⟩ ?_
  refine N.then ?_
  refine E.condD rfl (fun hc => ?_) (fun hc => ?_)
  · refine E.regionD (fun H' => H'[r]? = some (.cells [str (v ++ s)].toArray 38 (0, 0))) [(0, .pu), (1, .pu), (2, .pu), (3, .pu), (4, .st), (5, .pu), (6, .pu), (7, .pu), (8, .st), (9, .pu), (10, .pu), (11, .pu), (12, .pu), (13, .pu), (14, .mv)] Try.mixed (by kernel_rfl) (hb1) ?_
    refine X.mv rfl rfl rfl rfl rfl ?_
    refine X.mv rfl rfl rfl rfl rfl ?_
    refine X.nilP rfl rfl rfl rfl rfl ?_
    refine X.fld rfl rfl rfl rfl rfl Try.off38_0 ?_
    refine X.ld rfl rfl rfl rfl Try.ag9 (fun H' hF => hF) (rfl) ?_
    refine X.mv rfl rfl rfl rfl rfl ?_
    refine X.nilP rfl rfl rfl rfl rfl ?_
    refine X.fld rfl rfl rfl rfl rfl Try.off38_0 ?_
    refine X.ld rfl rfl rfl rfl Try.ag9 (fun H' hF => hF) (rfl) ?_
    refine X.lenL rfl rfl rfl rfl rfl Try.underlying9 ?_
    refine X.sb rfl rfl rfl rfl rfl rfl (by omega) ?_
    refine X.slS1 rfl rfl rfl rfl rfl rfl Try.underlying9 (by omega) ?_
    refine X.nilP rfl rfl rfl rfl rfl ?_
    refine X.fld rfl rfl rfl rfl rfl Try.off38_0 ?_
    refine X.st rfl rfl rfl rfl rfl rfl rfl Try.sz9 hb1 (by simp) ?_
    intro H2 hb2 hk2
    refine X.done [] trivial ?_
    exact N.endH [] rfl ⟨rfl, by
      have e : ((v ++ s).length - 32768 : Int).toNat = (v ++ s).length - 32768 := by omega
      show H2[r]? = some (.cells [str ((v ++ s).drop ((v ++ s).length - 32768))].toArray 38 (0, 0))
      rw [← e]; exact hb2, hk1.trans hk2 (by simp)⟩
  · refine E.skip ?_
    exact N.endH [] rfl ⟨rfl, by rw [lst_all (by omega)]; exact hb1, hk1⟩

theorem rlast_ct (r : Nat) (v : Bs) (H : Heap) (hR : Rf H r v) (n : Int) (hv : v.length ≤ 32768) : Ct Try.prog 17 #[ptr r, i64 n] H fun u H' => u = str (lastS n v) ∧ H' = H := by
  refine Ct.into 30 Try.func17 rfl [(0, ptr r), (1, i64 n)] rfl ⟨rfl, rfl, trivial⟩ ?_
  refine E.seq ?_
  refine E.region ?_
  refine X.asg rfl rfl rfl rfl rfl ?_
  refine X.done [(0, _), (1, _), (4, _)] ⟨rfl, rfl, rfl, trivial⟩ ?_
  refine N.then ?_
  refine E.seq ?_
  refine E.seq ?_
  refine E.region ?_
  refine X.mv rfl rfl rfl rfl rfl ?_
  refine X.lss rfl rfl rfl rfl rfl rfl ?_
  refine X.done [(0, _), (1, _), (4, _), (6, _)] ⟨rfl, rfl, rfl, rfl, trivial⟩ ?_
  refine N.then ?_
  refine E.condD rfl (fun hc => ?_) (fun hc => ?_)
  · refine E.seq ?_
    refine E.region ?_
    refine X.asg rfl rfl rfl rfl rfl ?_
    refine X.done [(0, _), (1, _), (4, _)] ⟨rfl, rfl, rfl, trivial⟩ ?_
    refine N.then ?_
    refine E.ret ?_
    refine N.thenR ?_
    exact N.retH [_] ⟨_, _, rfl, rfl, rfl⟩ ⟨by rw [lastS, if_pos (by omega)]; rfl, rfl⟩
  · refine E.skip ?_
    refine N.then ?_
    refine E.seq ?_
    refine E.seq ?_
    refine E.region ?_
    refine X.mv rfl rfl rfl rfl rfl ?_
    refine X.mv rfl rfl rfl rfl rfl ?_
    refine X.nilP rfl rfl rfl rfl rfl ?_
    refine X.fld rfl rfl rfl rfl rfl Try.off38_0 ?_
    refine X.ld rfl rfl rfl rfl Try.ag9 (hR) (rfl) ?_
    refine X.lenL rfl rfl rfl rfl rfl Try.underlying9 ?_
    refine X.gtr rfl rfl rfl rfl rfl rfl ?_
    refine X.done [(0, _), (1, _), (4, _), (13, _)] ⟨rfl, rfl, rfl, rfl, trivial⟩ ?_
    refine N.then ?_
    refine E.condD rfl (fun hc => ?_) (fun hc => ?_)
    · refine E.seq ?_
      refine E.region ?_
      refine X.mv rfl rfl rfl rfl rfl ?_
      refine X.nilP rfl rfl rfl rfl rfl ?_
      refine X.fld rfl rfl rfl rfl rfl Try.off38_0 ?_
      refine X.ld rfl rfl rfl rfl Try.ag9 (hR) (rfl) ?_
      refine X.asg rfl rfl rfl rfl rfl ?_
      refine X.done [(0, _), (1, _), (4, _)] ⟨rfl, rfl, rfl, trivial⟩ ?_
      refine N.then ?_
      refine E.ret ?_
      refine N.thenR ?_
      exact N.retH [_] ⟨_, _, rfl, rfl, rfl⟩ ⟨by rw [lastS, if_neg (by omega), lst_all (by omega)]; rfl, rfl⟩
    · refine E.skip ?_
      refine N.then ?_
      refine E.seq ?_
      refine E.regionD (fun H' => H'[r]? = some (.cells [str v].toArray 38 (0, 0))) [(0, .pu), (1, .pu), (2, .pu), (3, .st), (4, .pu), (5, .pu), (6, .pu), (7, .st), (8, .pu), (9, .pu), (10, .pu), (11, .pu), (12, .pu)] Try.mixed (by kernel_rfl) (hR) ?_
      refine X.mv rfl rfl rfl rfl rfl ?_
      refine X.nilP rfl rfl rfl rfl rfl ?_
      refine X.fld rfl rfl rfl rfl rfl Try.off38_0 ?_
      refine X.ld rfl rfl rfl rfl Try.ag9 (fun H' hF => hF) (rfl) ?_
      refine X.mv rfl rfl rfl rfl rfl ?_
      refine X.nilP rfl rfl rfl rfl rfl ?_
      refine X.fld rfl rfl rfl rfl rfl Try.off38_0 ?_
      refine X.ld rfl rfl rfl rfl Try.ag9 (fun H' hF => hF) (rfl) ?_
      refine X.lenL rfl rfl rfl rfl rfl Try.underlying9 ?_
      refine X.mv rfl rfl rfl rfl rfl ?_
      refine X.sb rfl rfl rfl rfl rfl rfl (by omega) ?_
      refine X.slS1 rfl rfl rfl rfl rfl rfl Try.underlying9 (by omega) ?_
      refine X.asg rfl rfl rfl rfl rfl ?_
      refine X.done [(4, _)] ⟨rfl, trivial⟩ ?_
      refine N.then ?_
      refine E.ret ?_
      exact N.retH [_] ⟨_, _, rfl, rfl, rfl⟩ ⟨by
        rw [lastS, if_neg (by omega), lst]
        show str _ = str _
        congr 2
        omega, rfl⟩

theorem rcopy_bad_ct (r : Nat) (v : Bs) (H : Heap) (hR : Rf H r v) (d n : Int) (hb : n < 0 ∨ 65536 < n ∨ d < 1) : Ct Try.prog 16 #[ptr r, i64 d, i64 n] H fun u H' => u = .tuple #[str [], i64 1] ∧ H' = H := by
  refine Ct.into 60 Try.func16 rfl [(0, ptr r), (1, i64 d), (2, i64 n)] rfl ⟨rfl, rfl, rfl, trivial⟩ ?_
  refine E.seq ?_
  refine E.region ?_
  refine X.asg rfl rfl rfl rfl rfl ?_
  refine X.asg rfl rfl rfl rfl rfl ?_
  refine X.done [(0, _), (1, _), (2, _), (6, _), (7, _)] ⟨rfl, rfl, rfl, rfl, rfl, trivial⟩ ?_
  refine N.then ?_
  refine E.seq ?_
  refine E.seq ?_
  refine E.region ?_
  refine X.mv rfl rfl rfl rfl rfl ?_
  refine X.lssC rfl rfl rfl rfl rfl rfl (fun hc => ?_) (fun hc => ?_)
  · refine X.mv rfl rfl rfl rfl rfl ?_
    refine X.skip rfl rfl rfl ?_
    refine X.skip rfl rfl rfl ?_
    refine X.pickT rfl rfl rfl rfl rfl rfl ?_
    refine X.mv rfl rfl rfl rfl rfl ?_
    refine X.skip rfl rfl rfl ?_
    refine X.skip rfl rfl rfl ?_
    refine X.pickT rfl rfl rfl rfl rfl rfl ?_
    refine X.done [(0, _), (1, _), (2, _), (6, _), (7, _), (20, _)] ⟨rfl, rfl, rfl, rfl, rfl, rfl, trivial⟩ ?_
    refine N.then ?_
    refine E.condT rfl ?_
    refine E.seq ?_
    refine E.region ?_
    refine X.asg rfl rfl rfl rfl rfl ?_
    refine X.asg rfl rfl rfl rfl rfl ?_
    refine X.done [(0, _), (1, _), (2, _), (6, _), (7, _)] ⟨rfl, rfl, rfl, rfl, rfl, trivial⟩ ?_
    refine N.then ?_
    refine E.ret ?_
    refine N.thenR ?_
    exact N.retH [_, _] ⟨_, _, rfl, rfl, _, _, rfl, rfl, rfl⟩ ⟨rfl, rfl⟩
  · refine X.mv rfl rfl rfl rfl rfl ?_
    refine X.mv rfl rfl rfl rfl rfl ?_
    refine X.gtrC rfl rfl rfl rfl rfl rfl (fun hc => ?_) (fun hc => ?_)
    · refine X.pickF rfl rfl rfl rfl rfl rfl ?_
      refine X.mv rfl rfl rfl rfl rfl ?_
      refine X.skip rfl rfl rfl ?_
      refine X.skip rfl rfl rfl ?_
      refine X.pickT rfl rfl rfl rfl rfl rfl ?_
      refine X.done [(0, _), (1, _), (2, _), (6, _), (7, _), (20, _)] ⟨rfl, rfl, rfl, rfl, rfl, rfl, trivial⟩ ?_
      refine N.then ?_
      refine E.condT rfl ?_
      refine E.seq ?_
      refine E.region ?_
      refine X.asg rfl rfl rfl rfl rfl ?_
      refine X.asg rfl rfl rfl rfl rfl ?_
      refine X.done [(0, _), (1, _), (2, _), (6, _), (7, _)] ⟨rfl, rfl, rfl, rfl, rfl, trivial⟩ ?_
      refine N.then ?_
      refine E.ret ?_
      refine N.thenR ?_
      exact N.retH [_, _] ⟨_, _, rfl, rfl, _, _, rfl, rfl, rfl⟩ ⟨rfl, rfl⟩
    · refine X.pickF rfl rfl rfl rfl rfl rfl ?_
      refine X.mv rfl rfl rfl rfl rfl ?_
      refine X.mv rfl rfl rfl rfl rfl ?_
      refine X.lssT rfl rfl rfl rfl rfl rfl (by omega) ?_
      refine X.pickF rfl rfl rfl rfl rfl rfl ?_
      refine X.done [(0, _), (1, _), (2, _), (6, _), (7, _), (20, _)] ⟨rfl, rfl, rfl, rfl, rfl, rfl, trivial⟩ ?_
      refine N.then ?_
      refine E.condT rfl ?_
      refine E.seq ?_
      refine E.region ?_
      refine X.asg rfl rfl rfl rfl rfl ?_
      refine X.asg rfl rfl rfl rfl rfl ?_
      refine X.done [(0, _), (1, _), (2, _), (6, _), (7, _)] ⟨rfl, rfl, rfl, rfl, rfl, trivial⟩ ?_
      refine N.then ?_
      refine E.ret ?_
      refine N.thenR ?_
      exact N.retH [_, _] ⟨_, _, rfl, rfl, _, _, rfl, rfl, rfl⟩ ⟨rfl, rfl⟩

theorem rcopy_far_ct (r : Nat) (v : Bs) (H : Heap) (hR : Rf H r v) (d n : Int) (hb : 0 ≤ n ∧ n ≤ 65536 ∧ 1 ≤ d) (hf : v.length < d) : Ct Try.prog 16 #[ptr r, i64 d, i64 n] H fun u H' => u = .tuple #[str [], i64 10] ∧ H' = H := by
  refine Ct.into 60 Try.func16 rfl [(0, ptr r), (1, i64 d), (2, i64 n)] rfl ⟨rfl, rfl, rfl, trivial⟩ ?_
  refine E.seq ?_
  refine E.region ?_
  refine X.asg rfl rfl rfl rfl rfl ?_
  refine X.asg rfl rfl rfl rfl rfl ?_
  refine X.done [(0, _), (1, _), (2, _), (6, _), (7, _)] ⟨rfl, rfl, rfl, rfl, rfl, trivial⟩ ?_
  refine N.then ?_
  refine E.seq ?_
  refine E.seq ?_
  refine E.region ?_
  refine X.mv rfl rfl rfl rfl rfl ?_
  refine X.lssF rfl rfl rfl rfl rfl rfl (by omega) ?_
  refine X.mv rfl rfl rfl rfl rfl ?_
  refine X.mv rfl rfl rfl rfl rfl ?_
  refine X.gtrF rfl rfl rfl rfl rfl rfl (by omega) ?_
  refine X.pickF rfl rfl rfl rfl rfl rfl ?_
  refine X.mv rfl rfl rfl rfl rfl ?_
  refine X.mv rfl rfl rfl rfl rfl ?_
  refine X.lssF rfl rfl rfl rfl rfl rfl (by omega) ?_
  refine X.pickF rfl rfl rfl rfl rfl rfl ?_
  refine X.done [(0, _), (1, _), (2, _), (6, _), (7, _), (20, _)] ⟨rfl, rfl, rfl, rfl, rfl, rfl, trivial⟩ ?_
  refine N.then ?_
  refine E.condF rfl ?_
  refine E.skip ?_
  refine N.then ?_
  refine E.seq ?_
  refine E.seq ?_
  refine E.region ?_
  refine X.mv rfl rfl rfl rfl rfl ?_
  refine X.mv rfl rfl rfl rfl rfl ?_
  refine X.nilP rfl rfl rfl rfl rfl ?_
  refine X.fld rfl rfl rfl rfl rfl Try.off38_0 ?_
  refine X.ld rfl rfl rfl rfl Try.ag9 (hR) (rfl) ?_
  refine X.lenL rfl rfl rfl rfl rfl Try.underlying9 ?_
  refine X.gtrT rfl rfl rfl rfl rfl rfl (by omega) ?_
  refine X.done [(0, _), (1, _), (2, _), (6, _), (7, _), (27, _)] ⟨rfl, rfl, rfl, rfl, rfl, rfl, trivial⟩ ?_
  refine N.then ?_
  refine E.condT rfl ?_
  refine E.seq ?_
  refine E.region ?_
  refine X.asg rfl rfl rfl rfl rfl ?_
  refine X.asg rfl rfl rfl rfl rfl ?_
  refine X.done [(0, _), (1, _), (2, _), (6, _), (7, _)] ⟨rfl, rfl, rfl, rfl, rfl, trivial⟩ ?_
  refine N.then ?_
  refine E.ret ?_
  refine N.thenR ?_
  exact N.retH [_, _] ⟨_, _, rfl, rfl, _, _, rfl, rfl, rfl⟩ ⟨rfl, rfl⟩

theorem rcopy_ct (r : Nat) (v : Bs) (H : Heap) (hR : Rf H r v) (d n : Nat) (hv : v.length ≤ 32768) (hb : n ≤ 65536 ∧ 1 ≤ d) (hf : d ≤ v.length) : Ct Try.prog 16 #[ptr r, i64 d, i64 n] H fun u H' => u = .tuple #[str ((ext d n v).drop v.length), i64 0] ∧ Rf H' r (lst 32768 (ext d n v)) ∧ Kp [r] H H' := by
  have hln := ext_len (d := d) n v hb.2 hf
  have hdl : ((ext d n v).drop v.length).length = n := by rw [List.length_drop]; omega
  refine Ct.into 60 Try.func16 rfl [(0, ptr r), (1, i64 d), (2, i64 n)] rfl ⟨rfl, rfl, rfl, trivial⟩ ?_
  refine E.seq ?_
  refine E.region ?_
  refine X.asg rfl rfl rfl rfl rfl ?_
  refine X.asg rfl rfl rfl rfl rfl ?_
  refine X.done [(0, _), (1, _), (2, _), (6, _), (7, _)] ⟨rfl, rfl, rfl, rfl, rfl, trivial⟩ ?_
  refine N.then ?_
  refine E.seq ?_
  refine E.seq ?_
  refine E.region ?_
  refine X.mv rfl rfl rfl rfl rfl ?_
  refine X.lssF rfl rfl rfl rfl rfl rfl (by omega) ?_
  refine X.mv rfl rfl rfl rfl rfl ?_
  refine X.mv rfl rfl rfl rfl rfl ?_
  refine X.gtrF rfl rfl rfl rfl rfl rfl (by omega) ?_
  refine X.pickF rfl rfl rfl rfl rfl rfl ?_
  refine X.mv rfl rfl rfl rfl rfl ?_
  refine X.mv rfl rfl rfl rfl rfl ?_
  refine X.lssF rfl rfl rfl rfl rfl rfl (by omega) ?_
  refine X.pickF rfl rfl rfl rfl rfl rfl ?_
  refine X.done [(0, _), (1, _), (2, _), (6, _), (7, _), (20, _)] ⟨rfl, rfl, rfl, rfl, rfl, rfl, trivial⟩ ?_
  refine N.then ?_
  refine E.condF rfl ?_
  refine E.skip ?_
  refine N.then ?_
  refine E.seq ?_
  refine E.seq ?_
  refine E.region ?_
  refine X.mv rfl rfl rfl rfl rfl ?_
  refine X.mv rfl rfl rfl rfl rfl ?_
  refine X.nilP rfl rfl rfl rfl rfl ?_
  refine X.fld rfl rfl rfl rfl rfl Try.off38_0 ?_
  refine X.ld rfl rfl rfl rfl Try.ag9 (hR) (rfl) ?_
  refine X.lenL rfl rfl rfl rfl rfl Try.underlying9 ?_
  refine X.gtrF rfl rfl rfl rfl rfl rfl (by omega) ?_
  refine X.done [(0, _), (1, _), (2, _), (6, _), (7, _), (27, _)] ⟨rfl, rfl, rfl, rfl, rfl, rfl, trivial⟩ ?_
  refine N.then ?_
  refine E.condF rfl ?_
  refine E.skip ?_
  refine N.then ?_
  refine E.seq ?_
  refine E.region ?_
  refine X.asg rfl rfl rfl rfl rfl ?_
  refine X.done [(0, _), (1, _), (2, _), (6, _), (7, _), (8, _)] ⟨rfl, rfl, rfl, rfl, rfl, rfl, trivial⟩ ?_
  refine N.then ?_
  refine E.seq ?_
  refine E.region ?_
  refine X.mv rfl rfl rfl rfl rfl ?_
  refine X.mv rfl rfl rfl rfl rfl ?_
  refine X.nilP rfl rfl rfl rfl rfl ?_
  refine X.fld rfl rfl rfl rfl rfl Try.off38_0 ?_
  refine X.ld rfl rfl rfl rfl Try.ag9 (hR) (rfl) ?_
  refine X.app T9 rfl rfl rfl rfl rfl rfl (Own.nil _ _ _) (srcS _ _) (.inr ⟨Try.underlying9, _, rfl⟩) (bv_one v) (by first | (simp only [maxLen]; omega) | omega) (by first | (simp only [maxLen]; omega) | omega) ?_
  intro v1 H1 ho1 hk1 hb1 hn1
  rw [Nat.zero_add, List.nil_append] at ho1
  have hk1 : Kp [] H H1 := hk1
  have hb1 : ∀ b ∈ blk v1, H.size ≤ b := fun b hb => hb1.elim (fun h => by rw [h] at hb; simp [blk] at hb) (fun h => h b hb)
  refine X.asg rfl rfl rfl rfl rfl ?_
  refine X.done [(0, _), (1, _), (2, _), (6, _), (7, _), (8, _)] ⟨rfl, rfl, rfl, rfl, rfl, rfl, trivial⟩ ?_
  refine N.then ?_
  refine E.seq ?_
  refine E.seq ?_
  refine E.region ?_
  refine X.asg rfl rfl rfl rfl rfl ?_
  refine X.done [(0, _), (1, _), (2, _), (6, _), (7, _), (8, _), (9, _)] ⟨rfl, rfl, rfl, rfl, rfl, rfl, rfl, trivial⟩ ?_
  refine N.then ?_
  refine E.block ?_
  refine E.loop (fun (q : Nat × Value) => [(0, ptr r), (1, i64 d), (2, i64 n), (6, str []), (7, i64 0), (8, q.2), (9, i64 q.1)]) (fun (q : Nat × Value) H' => q.1 ≤ n ∧ Own H' 5 1 q.2 (ext d q.1 v).length (bv (ext d q.1 v)) ∧ Kp [] H H' ∧ ∀ b ∈ blk q.2, H.size ≤ b) (fun (q : Nat × Value) => n - q.1) (0, v1) ⟨rfl, rfl, rfl, rfl, rfl, rfl, rfl, trivial⟩ ⟨Nat.zero_le _, ho1, hk1, hb1⟩ ?_
  rintro ⟨k, w⟩ H2 hJ
  dsimp only at hJ ⊢
  obtain ⟨hk, ho, hkp, hf2⟩ := hJ
  have hL := ext_len (d := d) k v hb.2 hf
  have hix : (ext d k v).length - d < (ext d k v).length := by omega
  obtain ⟨c, hc0⟩ : ∃ c, (ext d k v)[(ext d k v).length - d]? = some c := ⟨_, List.getElem?_eq_getElem hix⟩
  rcases ho.2 with ⟨h1, h2⟩ | ⟨b, cap, sp, rfl, hbc, hcp, hmc, hcx⟩
  · omega
  have hgt : (bv (ext d k v) ++ sp)[0 + (((ext d k v).length - d : Nat) : Int).toNat * 1]? = some (.int .u8 c.toNat) := by
    rw [Nat.zero_add, Nat.mul_one, Int.toNat_natCast, List.getElem?_append_left (by rw [length_bv]; exact hix)]; exact bv_get hc0
  have hfb : H.size ≤ b := hf2 b (by simp [blk])
  refine E.seq ?_
  refine E.seq ?_
  refine E.region ?_
  refine X.mv rfl rfl rfl rfl rfl ?_
  refine X.mv rfl rfl rfl rfl rfl ?_
  refine X.lss rfl rfl rfl rfl rfl rfl ?_
  refine X.done [(0, _), (1, _), (2, _), (6, _), (7, _), (8, _), (9, _), (34, _), (35, _), (36, _)] ⟨rfl, rfl, rfl, rfl, rfl, rfl, rfl, rfl, rfl, rfl, trivial⟩ ?_
  refine N.then ?_
  refine E.condD rfl (fun hc => ?_) (fun hc => ?_)
  · refine E.skip ?_
    refine N.then ?_
    refine E.seq ?_
    refine E.block ?_
    refine E.region ?_
    refine X.mv rfl rfl rfl rfl rfl ?_
    refine X.mv rfl rfl rfl rfl rfl ?_
    refine X.mv rfl rfl rfl rfl rfl ?_
    refine X.lenS rfl rfl rfl rfl rfl Try.underlying43 ?_
    refine X.mv rfl rfl rfl rfl rfl ?_
    refine X.sbE (zz := (((ext d k v).length - d : Nat) : Int)) rfl rfl rfl rfl rfl rfl (by rw [IntWalk.i64_in _ (by omega)]; omega) ?_
    refine X.ixA rfl rfl rfl rfl rfl rfl Try.underlying43 Try.sz5 (by omega) ?_
    refine X.ld rfl rfl rfl rfl Try.ag5 (hbc) (hgt) ?_
    refine X.lit (e := 5) (cs := [.int .u8 c.toNat]) rfl rfl rfl rfl rfl (fun _ => by kernel_rfl) ?_
    intro b3 H3 hn3 hb3 hk3
    refine X.app T43 rfl rfl rfl rfl rfl rfl (ho.keep hk3 (by simp [blk])) (.inl ⟨rfl, _, _, rfl, .inr ⟨b3, 0, _, _, _, rfl, hb3, fun j u hj => by rw [Nat.zero_add]; exact hj⟩⟩) (.inl ⟨5, Try.underlying43, _, _, rfl⟩) (by simp [Value.oneCell']) (by first | (simp only [maxLen]; omega) | omega) (by first | (simp only [maxLen]; omega) | omega) ?_
    intro v4 H4 ho4 hk4 hb4 hn4
    have e4 : ext d (k + 1) v = ext d k v ++ [c] := by
      rw [ext_add d k 1]
      show _ ++ List.take 1 _ = _
      rw [take1_get hc0]
    have ho5 : Own H4 5 1 v4 (ext d (k + 1) v).length (bv (ext d (k + 1) v)) := by rw [e4, bv_append, List.length_append]; exact ho4
    have hkk : Kp [] H H4 := (hkp.trans hk3 (by simp)).trans (hk4.mono (T := [b]) (fun x hx => .inl hx)) (fun x hx => .inr (hf2 x hx))
    have hbb : ∀ x ∈ blk v4, H.size ≤ x := fun x hx => hb4.elim (fun h => hf2 x (h ▸ hx)) (fun h => Nat.le_trans (Nat.le_trans hkp.size hk3.size) (h x hx))
    refine X.asg rfl rfl rfl rfl rfl ?_
    refine X.done [(0, _), (1, _), (2, _), (6, _), (7, _), (8, _), (9, _), (34, _), (35, _), (36, _), (39, _), (40, _), (41, _), (42, _), (43, _), (44, _), (45, _), (46, _), (47, _), (48, _)] ⟨rfl, rfl, rfl, rfl, rfl, rfl, rfl, rfl, rfl, rfl, rfl, rfl, rfl, rfl, rfl, rfl, rfl, rfl, rfl, rfl, trivial⟩ ?_
    refine N.blk ?_
    refine N.then ?_
    refine E.region ?_
    refine X.mv rfl rfl rfl rfl rfl ?_
    refine X.add rfl rfl rfl rfl rfl rfl (by omega) ?_
    refine X.asg rfl rfl rfl rfl rfl ?_
    refine X.done [(0, _), (1, _), (2, _), (6, _), (7, _), (8, _), (9, _), (34, _), (35, _), (36, _), (39, _), (40, _), (41, _), (42, _), (43, _), (44, _), (45, _), (46, _), (47, _), (48, _), (37, _), (38, _)] ⟨rfl, rfl, rfl, rfl, rfl, rfl, rfl, rfl, rfl, rfl, rfl, rfl, rfl, rfl, rfl, rfl, rfl, rfl, rfl, rfl, rfl, rfl, trivial⟩ ?_
    exact N.next (G := fun (q : Nat × Value) => _) (k + 1, v4) ⟨rfl, rfl, rfl, rfl, rfl, rfl, rfl, trivial⟩ ⟨by show k + 1 ≤ n; omega, ho5, hkk, hbb⟩ (by show n - (k + 1) < n - k; omega)
  · refine E.exit ?_
    refine N.thenX ?_
    refine N.loopX ?_
    refine N.blkX ?_
    refine N.then ?_
    refine E.seq ?_
    obtain rfl : n = k := by omega
    have hrd := ho.rd.dropB hmc (p := (v.length : Int).toNat) (by omega)
    refine E.region ?_
    refine X.mv rfl rfl rfl rfl rfl ?_
    refine X.mv rfl rfl rfl rfl rfl ?_
    refine X.lenS rfl rfl rfl rfl rfl Try.underlying43 ?_
    refine X.mv rfl rfl rfl rfl rfl ?_
    refine X.sbE (zz := (v.length : Int)) rfl rfl rfl rfl rfl rfl (by rw [IntWalk.i64_in _ (by omega)]; omega) ?_
    refine X.sl1 rfl rfl rfl rfl rfl rfl Try.underlying43 Try.sz5 (by omega) ?_
    refine X.b2s rfl rfl rfl rfl Try.underlying43 Try.underlying5 Try.underlying9 (hrd) ?_
    refine X.asg rfl rfl rfl rfl rfl ?_
    refine X.done [(0, _), (6, _), (7, _), (10, _)] ⟨rfl, rfl, rfl, rfl, trivial⟩ ?_
    refine N.then ?_
    refine E.seq ?_
    refine E.region ?_
    refine X.mv rfl rfl rfl rfl rfl ?_
    refine X.mv rfl rfl rfl rfl rfl ?_
    refine X.call rfl rfl rfl rfl rfl Try.cl15 (rput_ct r v _ (hkp.keep hR (by simp)) ((ext d n v).drop v.length) (by omega)) ?_
    rintro _ H4 ⟨rfl, hR4, hk4⟩
    refine X.done [(6, _), (7, _), (10, _)] ⟨rfl, rfl, rfl, trivial⟩ ?_
    refine N.then ?_
    refine E.seq ?_
    refine E.region ?_
    refine X.mv rfl rfl rfl rfl rfl ?_
    refine X.asg rfl rfl rfl rfl rfl ?_
    refine X.asg rfl rfl rfl rfl rfl ?_
    refine X.done [(6, _), (7, _)] ⟨rfl, rfl, trivial⟩ ?_
    refine N.then ?_
    refine E.ret ?_
    exact N.retH [_, _] ⟨_, _, rfl, rfl, _, _, rfl, rfl, rfl⟩ ⟨rfl, by rw [ext_drop] at hR4; exact hR4, (hkp.mono (T := [r]) (by simp)).trans hk4 (by simp)⟩

end Go.Proofs.Ytebanilfapapbaa