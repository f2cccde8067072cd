/- The walks: right nodes by the document. -/
import Derived.Test.YtcandjdomeompaaDoorTA
namespace Go.Proofs.YtcandjdomeompaaDoor
open Go.SX Go.Chr
attribute [local irreducible] X E N Ct
set_option linter.unusedVariables false
set_option linter.unusedSimpArgs false

theorem right_ct (x : Nd) (H : Heap) : Ct Tryd.prog 19 #[ndv x] H fun v H' => v = .bool (decide (rtP x)) ∧ Kp [] H H' := by
  refine Ct.into 102 Tryd.func19 rfl [(0, ndv x)] rfl ⟨rfl, trivial⟩ ?_
  refine E.seq ?_
  refine E.region ?_
  refine X.box rfl rfl rfl rfl rfl rfl ?_
  intro b1 H1 hn1 hb1 hkk
  refine X.asg rfl rfl rfl rfl rfl ?_
  refine X.done [(1, _), (2, _)] ⟨rfl, rfl, trivial⟩ ?_
  refine N.then ?_
  refine E.seq ?_
  refine E.region ?_
  refine X.fld rfl rfl rfl rfl rfl Tryd.off38_3 ?_
  refine X.ld rfl rfl rfl rfl Tryd.ag3 (hb1) (rfl) ?_
  refine X.eqlC rfl rfl rfl rfl rfl rfl (fun hc => ?_) (fun hc => ?_)
  · refine X.mv rfl rfl rfl rfl rfl ?_
    refine X.fld rfl rfl rfl rfl rfl Tryd.off38_4 ?_
    refine X.ld rfl rfl rfl rfl Tryd.ag3 (hb1) (rfl) ?_
    refine X.eql rfl rfl rfl rfl rfl rfl ?_
    refine X.pickT rfl rfl rfl rfl rfl rfl ?_
    refine X.asg rfl rfl rfl rfl rfl ?_
    refine X.done [(1, _), (2, _), (3, _)] ⟨rfl, rfl, rfl, trivial⟩ ?_
    refine N.then ?_
    refine E.seq ?_
    refine E.region ?_
    refine X.fld rfl rfl rfl rfl rfl Tryd.off38_2 ?_
    refine X.ldA rfl rfl rfl rfl Tryd.ag36 Tryd.sz36 (hb1) (uv4 x.set.2) (ncel_set x) ?_
    refine X.build rfl rfl rfl rfl rfl build_z4 ?_
    refine X.eqlW' (a := x.set) (b := s0) rfl rfl rfl rfl rfl rfl ?_
    refine X.asg rfl rfl rfl rfl rfl ?_
    refine X.done [(1, _), (2, _), (3, _), (4, _)] ⟨rfl, rfl, rfl, rfl, trivial⟩ ?_
    refine N.then ?_
    refine E.seq ?_
    refine E.seq ?_
    refine E.region ?_
    refine X.fld rfl rfl rfl rfl rfl Tryd.off38_0 ?_
    refine X.ld rfl rfl rfl rfl Tryd.ag3 (hb1) (rfl) ?_
    refine X.done [(1, _), (2, _), (3, _), (4, _), (18, _)] ⟨rfl, rfl, rfl, rfl, rfl, trivial⟩ ?_
    refine N.then ?_
    refine E.block ?_
    refine E.seq ?_
    refine E.region ?_
    refine X.eql rfl rfl rfl rfl rfl rfl ?_
    refine X.asg rfl rfl rfl rfl rfl ?_
    refine X.done [(1, _), (2, _), (3, _), (4, _), (18, _), (19, _)] ⟨rfl, rfl, rfl, rfl, rfl, rfl, trivial⟩ ?_
    refine N.then ?_
    refine E.condD rfl (fun hc => ?_) (fun hc => ?_)
    · refine E.seq ?_
      refine E.region ?_
      refine X.fld rfl rfl rfl rfl rfl Tryd.off38_1 ?_
      refine X.ld rfl rfl rfl rfl Tryd.ag3 (hb1) (rfl) ?_
      refine X.eqlC rfl rfl rfl rfl rfl rfl (fun hc => ?_) (fun hc => ?_)
      · refine X.mv rfl rfl rfl rfl rfl ?_
        refine X.mv rfl rfl rfl rfl rfl ?_
        rcases Decidable.em (x.set = s0) with hz | hz
        rw [decide_eq_true hz]
        rotate_left
        rw [decide_eq_false hz]
        rotate_left
        · refine X.notT rfl rfl rfl rfl rfl ?_
          refine X.pickT rfl rfl rfl rfl rfl rfl ?_
          refine X.mv rfl rfl rfl rfl rfl ?_
          refine X.skip rfl rfl rfl ?_
          refine X.pickF rfl rfl rfl rfl rfl rfl ?_
          refine X.asg rfl rfl rfl rfl rfl ?_
          refine X.done [(2, _)] ⟨rfl, trivial⟩ ?_
          refine N.then ?_
          refine E.ret ?_
          refine N.blkR ?_
          refine N.thenR ?_
          exact N.retH [_] ⟨_, _, rfl, rfl, rfl⟩ ⟨congrArg Value.bool (rt_of (by (try simp only [cntV, decide_eq_true_eq, Bool.false_eq_true, false_iff, true_iff, nd_eq, knd]); first | grind [rtP] | (unfold rtP; simp_all; omega))), hkk⟩
        · refine X.notF rfl rfl rfl rfl rfl ?_
          refine X.pickT rfl rfl rfl rfl rfl rfl ?_
          refine X.mv rfl rfl rfl rfl rfl ?_
          refine X.mv rfl rfl rfl rfl rfl ?_
          refine X.pickT rfl rfl rfl rfl rfl rfl ?_
          refine X.asg rfl rfl rfl rfl rfl ?_
          refine X.done [(2, _)] ⟨rfl, trivial⟩ ?_
          refine N.then ?_
          refine E.ret ?_
          refine N.blkR ?_
          refine N.thenR ?_
          exact N.retH [_] ⟨_, _, rfl, rfl, rfl⟩ ⟨congrArg Value.bool (rt_of (by (try simp only [cntV, decide_eq_true_eq, Bool.false_eq_true, false_iff, true_iff, nd_eq, knd]); first | grind [rtP] | (unfold rtP; simp_all; omega))), hkk⟩
      · refine X.mv rfl rfl rfl rfl rfl ?_
        refine X.skip rfl rfl rfl ?_
        refine X.skip rfl rfl rfl ?_
        refine X.pickF rfl rfl rfl rfl rfl rfl ?_
        refine X.mv rfl rfl rfl rfl rfl ?_
        refine X.skip rfl rfl rfl ?_
        refine X.pickF rfl rfl rfl rfl rfl rfl ?_
        refine X.asg rfl rfl rfl rfl rfl ?_
        refine X.done [(2, _)] ⟨rfl, trivial⟩ ?_
        refine N.then ?_
        refine E.ret ?_
        refine N.blkR ?_
        refine N.thenR ?_
        exact N.retH [_] ⟨_, _, rfl, rfl, rfl⟩ ⟨congrArg Value.bool (rt_of (by (try simp only [cntV, decide_eq_true_eq, Bool.false_eq_true, false_iff, true_iff, nd_eq, knd]); first | grind [rtP] | (unfold rtP; simp_all; omega))), hkk⟩
    · refine E.seq ?_
      refine E.region ?_
      refine X.eql rfl rfl rfl rfl rfl rfl ?_
      refine X.asg rfl rfl rfl rfl rfl ?_
      refine X.done [(1, _), (2, _), (3, _), (4, _), (18, _), (31, _)] ⟨rfl, rfl, rfl, rfl, rfl, rfl, trivial⟩ ?_
      refine N.then ?_
      refine E.condD rfl (fun hc => ?_) (fun hc => ?_)
      · refine E.seq ?_
        refine E.region ?_
        refine X.fld rfl rfl rfl rfl rfl Tryd.off38_1 ?_
        refine X.ld rfl rfl rfl rfl Tryd.ag3 (hb1) (rfl) ?_
        refine X.eqlC rfl rfl rfl rfl rfl rfl (fun hc => ?_) (fun hc => ?_)
        · refine X.mv rfl rfl rfl rfl rfl ?_
          refine X.mv rfl rfl rfl rfl rfl ?_
          rcases Decidable.em (x.set = s0) with hz | hz
          rw [decide_eq_true hz]
          rotate_left
          rw [decide_eq_false hz]
          rotate_left
          · refine X.pickT rfl rfl rfl rfl rfl rfl ?_
            refine X.mv rfl rfl rfl rfl rfl ?_
            refine X.mv rfl rfl rfl rfl rfl ?_
            refine X.pickT rfl rfl rfl rfl rfl rfl ?_
            refine X.asg rfl rfl rfl rfl rfl ?_
            refine X.done [(2, _)] ⟨rfl, trivial⟩ ?_
            refine N.then ?_
            refine E.ret ?_
            refine N.blkR ?_
            refine N.thenR ?_
            exact N.retH [_] ⟨_, _, rfl, rfl, rfl⟩ ⟨congrArg Value.bool (rt_of (by (try simp only [cntV, decide_eq_true_eq, Bool.false_eq_true, false_iff, true_iff, nd_eq, knd]); first | grind [rtP] | (unfold rtP; simp_all; omega))), hkk⟩
          · refine X.pickT rfl rfl rfl rfl rfl rfl ?_
            refine X.mv rfl rfl rfl rfl rfl ?_
            refine X.skip rfl rfl rfl ?_
            refine X.pickF rfl rfl rfl rfl rfl rfl ?_
            refine X.asg rfl rfl rfl rfl rfl ?_
            refine X.done [(2, _)] ⟨rfl, trivial⟩ ?_
            refine N.then ?_
            refine E.ret ?_
            refine N.blkR ?_
            refine N.thenR ?_
            exact N.retH [_] ⟨_, _, rfl, rfl, rfl⟩ ⟨congrArg Value.bool (rt_of (by (try simp only [cntV, decide_eq_true_eq, Bool.false_eq_true, false_iff, true_iff, nd_eq, knd]); first | grind [rtP] | (unfold rtP; simp_all; omega))), hkk⟩
        · refine X.mv rfl rfl rfl rfl rfl ?_
          refine X.skip rfl rfl rfl ?_
          refine X.pickF rfl rfl rfl rfl rfl rfl ?_
          refine X.mv rfl rfl rfl rfl rfl ?_
          refine X.skip rfl rfl rfl ?_
          refine X.pickF rfl rfl rfl rfl rfl rfl ?_
          refine X.asg rfl rfl rfl rfl rfl ?_
          refine X.done [(2, _)] ⟨rfl, trivial⟩ ?_
          refine N.then ?_
          refine E.ret ?_
          refine N.blkR ?_
          refine N.thenR ?_
          exact N.retH [_] ⟨_, _, rfl, rfl, rfl⟩ ⟨congrArg Value.bool (rt_of (by (try simp only [cntV, decide_eq_true_eq, Bool.false_eq_true, false_iff, true_iff, nd_eq, knd]); first | grind [rtP] | (unfold rtP; simp_all; omega))), hkk⟩
      · refine E.seq ?_
        refine E.seq ?_
        refine E.region ?_
        refine X.eql rfl rfl rfl rfl rfl rfl ?_
        rcases Decidable.em (x.kind = 3) with hz3 | hz3
        rw [decide_eq_true hz3]
        rotate_left
        rw [decide_eq_false hz3]
        rotate_left
        · refine X.asg rfl rfl rfl rfl rfl ?_
          refine X.done [(1, _), (2, _), (3, _), (4, _), (18, _), (42, _)] ⟨rfl, rfl, rfl, rfl, rfl, rfl, trivial⟩ ?_
          refine N.then ?_
          refine E.condT rfl ?_
          refine E.skip ?_
          refine N.then ?_
          refine E.condT rfl ?_
          refine E.seq ?_
          refine E.region ?_
          refine X.fld rfl rfl rfl rfl rfl Tryd.off38_1 ?_
          refine X.ld rfl rfl rfl rfl Tryd.ag3 (hb1) (rfl) ?_
          refine X.geqC rfl rfl rfl rfl rfl rfl (fun hc => ?_) (fun hc => ?_)
          · refine X.mv rfl rfl rfl rfl rfl ?_
            refine X.mv rfl rfl rfl rfl rfl ?_
            rcases Decidable.em (x.set = s0) with hz | hz
            rw [decide_eq_true hz]
            rotate_left
            rw [decide_eq_false hz]
            rotate_left
            · refine X.pickT rfl rfl rfl rfl rfl rfl ?_
              refine X.mv rfl rfl rfl rfl rfl ?_
              refine X.mv rfl rfl rfl rfl rfl ?_
              refine X.pickT rfl rfl rfl rfl rfl rfl ?_
              refine X.asg rfl rfl rfl rfl rfl ?_
              refine X.done [(2, _)] ⟨rfl, trivial⟩ ?_
              refine N.then ?_
              refine E.ret ?_
              refine N.blkR ?_
              refine N.thenR ?_
              exact N.retH [_] ⟨_, _, rfl, rfl, rfl⟩ ⟨congrArg Value.bool (rt_of (by (try simp only [cntV, decide_eq_true_eq, Bool.false_eq_true, false_iff, true_iff, nd_eq, knd]); first | grind [rtP] | (unfold rtP; simp_all; omega))), hkk⟩
            · refine X.pickT rfl rfl rfl rfl rfl rfl ?_
              refine X.mv rfl rfl rfl rfl rfl ?_
              refine X.skip rfl rfl rfl ?_
              refine X.pickF rfl rfl rfl rfl rfl rfl ?_
              refine X.asg rfl rfl rfl rfl rfl ?_
              refine X.done [(2, _)] ⟨rfl, trivial⟩ ?_
              refine N.then ?_
              refine E.ret ?_
              refine N.blkR ?_
              refine N.thenR ?_
              exact N.retH [_] ⟨_, _, rfl, rfl, rfl⟩ ⟨congrArg Value.bool (rt_of (by (try simp only [cntV, decide_eq_true_eq, Bool.false_eq_true, false_iff, true_iff, nd_eq, knd]); first | grind [rtP] | (unfold rtP; simp_all; omega))), hkk⟩
          · refine X.mv rfl rfl rfl rfl rfl ?_
            refine X.skip rfl rfl rfl ?_
            refine X.pickF rfl rfl rfl rfl rfl rfl ?_
            refine X.mv rfl rfl rfl rfl rfl ?_
            refine X.skip rfl rfl rfl ?_
            refine X.pickF rfl rfl rfl rfl rfl rfl ?_
            refine X.asg rfl rfl rfl rfl rfl ?_
            refine X.done [(2, _)] ⟨rfl, trivial⟩ ?_
            refine N.then ?_
            refine E.ret ?_
            refine N.blkR ?_
            refine N.thenR ?_
            exact N.retH [_] ⟨_, _, rfl, rfl, rfl⟩ ⟨congrArg Value.bool (rt_of (by (try simp only [cntV, decide_eq_true_eq, Bool.false_eq_true, false_iff, true_iff, nd_eq, knd]); first | grind [rtP] | (unfold rtP; simp_all; omega))), hkk⟩
        · refine X.asg rfl rfl rfl rfl rfl ?_
          refine X.done [(1, _), (2, _), (3, _), (4, _), (18, _), (42, _)] ⟨rfl, rfl, rfl, rfl, rfl, rfl, trivial⟩ ?_
          refine N.then ?_
          refine E.condF rfl ?_
          refine E.region ?_
          refine X.eql rfl rfl rfl rfl rfl rfl ?_
          rcases Decidable.em (x.kind = 4) with hz4 | hz4
          rw [decide_eq_true hz4]
          rotate_left
          rw [decide_eq_false hz4]
          rotate_left
          · refine X.asg rfl rfl rfl rfl rfl ?_
            refine X.done [(1, _), (2, _), (3, _), (4, _), (18, _), (42, _)] ⟨rfl, rfl, rfl, rfl, rfl, rfl, trivial⟩ ?_
            refine N.then ?_
            refine E.condT rfl ?_
            refine E.seq ?_
            refine E.region ?_
            refine X.fld rfl rfl rfl rfl rfl Tryd.off38_1 ?_
            refine X.ld rfl rfl rfl rfl Tryd.ag3 (hb1) (rfl) ?_
            refine X.geqC rfl rfl rfl rfl rfl rfl (fun hc => ?_) (fun hc => ?_)
            · refine X.mv rfl rfl rfl rfl rfl ?_
              refine X.mv rfl rfl rfl rfl rfl ?_
              rcases Decidable.em (x.set = s0) with hz | hz
              rw [decide_eq_true hz]
              rotate_left
              rw [decide_eq_false hz]
              rotate_left
              · refine X.pickT rfl rfl rfl rfl rfl rfl ?_
                refine X.mv rfl rfl rfl rfl rfl ?_
                refine X.mv rfl rfl rfl rfl rfl ?_
                refine X.pickT rfl rfl rfl rfl rfl rfl ?_
                refine X.asg rfl rfl rfl rfl rfl ?_
                refine X.done [(2, _)] ⟨rfl, trivial⟩ ?_
                refine N.then ?_
                refine E.ret ?_
                refine N.blkR ?_
                refine N.thenR ?_
                exact N.retH [_] ⟨_, _, rfl, rfl, rfl⟩ ⟨congrArg Value.bool (rt_of (by (try simp only [cntV, decide_eq_true_eq, Bool.false_eq_true, false_iff, true_iff, nd_eq, knd]); first | grind [rtP] | (unfold rtP; simp_all; omega))), hkk⟩
              · refine X.pickT rfl rfl rfl rfl rfl rfl ?_
                refine X.mv rfl rfl rfl rfl rfl ?_
                refine X.skip rfl rfl rfl ?_
                refine X.pickF rfl rfl rfl rfl rfl rfl ?_
                refine X.asg rfl rfl rfl rfl rfl ?_
                refine X.done [(2, _)] ⟨rfl, trivial⟩ ?_
                refine N.then ?_
                refine E.ret ?_
                refine N.blkR ?_
                refine N.thenR ?_
                exact N.retH [_] ⟨_, _, rfl, rfl, rfl⟩ ⟨congrArg Value.bool (rt_of (by (try simp only [cntV, decide_eq_true_eq, Bool.false_eq_true, false_iff, true_iff, nd_eq, knd]); first | grind [rtP] | (unfold rtP; simp_all; omega))), hkk⟩
            · refine X.mv rfl rfl rfl rfl rfl ?_
              refine X.skip rfl rfl rfl ?_
              refine X.pickF rfl rfl rfl rfl rfl rfl ?_
              refine X.mv rfl rfl rfl rfl rfl ?_
              refine X.skip rfl rfl rfl ?_
              refine X.pickF rfl rfl rfl rfl rfl rfl ?_
              refine X.asg rfl rfl rfl rfl rfl ?_
              refine X.done [(2, _)] ⟨rfl, trivial⟩ ?_
              refine N.then ?_
              refine E.ret ?_
              refine N.blkR ?_
              refine N.thenR ?_
              exact N.retH [_] ⟨_, _, rfl, rfl, rfl⟩ ⟨congrArg Value.bool (rt_of (by (try simp only [cntV, decide_eq_true_eq, Bool.false_eq_true, false_iff, true_iff, nd_eq, knd]); first | grind [rtP] | (unfold rtP; simp_all; omega))), hkk⟩
          · refine X.asg rfl rfl rfl rfl rfl ?_
            refine X.done [(1, _), (2, _), (3, _), (4, _), (18, _), (42, _)] ⟨rfl, rfl, rfl, rfl, rfl, rfl, trivial⟩ ?_
            refine N.then ?_
            refine E.condF rfl ?_
            refine E.seq ?_
            refine E.seq ?_
            refine E.region ?_
            refine X.eql rfl rfl rfl rfl rfl rfl ?_
            rcases Decidable.em (x.kind = 5) with hz5 | hz5
            rw [decide_eq_true hz5]
            rotate_left
            rw [decide_eq_false hz5]
            rotate_left
            · refine X.asg rfl rfl rfl rfl rfl ?_
              refine X.done [(1, _), (2, _), (3, _), (4, _), (18, _), (54, _)] ⟨rfl, rfl, rfl, rfl, rfl, rfl, trivial⟩ ?_
              refine N.then ?_
              refine E.condT rfl ?_
              refine E.skip ?_
              refine N.then ?_
              refine E.condT rfl ?_
              refine E.seq ?_
              refine E.region ?_
              refine X.fld rfl rfl rfl rfl rfl Tryd.off38_1 ?_
              refine X.ld rfl rfl rfl rfl Tryd.ag3 (hb1) (rfl) ?_
              refine X.eqlC rfl rfl rfl rfl rfl rfl (fun hc => ?_) (fun hc => ?_)
              · refine X.mv rfl rfl rfl rfl rfl ?_
                refine X.mv rfl rfl rfl rfl rfl ?_
                rcases Decidable.em (x.set = s0) with hz | hz
                rw [decide_eq_true hz]
                rotate_left
                rw [decide_eq_false hz]
                rotate_left
                · refine X.pickT rfl rfl rfl rfl rfl rfl ?_
                  refine X.mv rfl rfl rfl rfl rfl ?_
                  refine X.mv rfl rfl rfl rfl rfl ?_
                  refine X.pickT rfl rfl rfl rfl rfl rfl ?_
                  refine X.asg rfl rfl rfl rfl rfl ?_
                  refine X.done [(2, _)] ⟨rfl, trivial⟩ ?_
                  refine N.then ?_
                  refine E.ret ?_
                  refine N.blkR ?_
                  refine N.thenR ?_
                  exact N.retH [_] ⟨_, _, rfl, rfl, rfl⟩ ⟨congrArg Value.bool (rt_of (by (try simp only [cntV, decide_eq_true_eq, Bool.false_eq_true, false_iff, true_iff, nd_eq, knd]); first | grind [rtP] | (unfold rtP; simp_all; omega))), hkk⟩
                · refine X.pickT rfl rfl rfl rfl rfl rfl ?_
                  refine X.mv rfl rfl rfl rfl rfl ?_
                  refine X.skip rfl rfl rfl ?_
                  refine X.pickF rfl rfl rfl rfl rfl rfl ?_
                  refine X.asg rfl rfl rfl rfl rfl ?_
                  refine X.done [(2, _)] ⟨rfl, trivial⟩ ?_
                  refine N.then ?_
                  refine E.ret ?_
                  refine N.blkR ?_
                  refine N.thenR ?_
                  exact N.retH [_] ⟨_, _, rfl, rfl, rfl⟩ ⟨congrArg Value.bool (rt_of (by (try simp only [cntV, decide_eq_true_eq, Bool.false_eq_true, false_iff, true_iff, nd_eq, knd]); first | grind [rtP] | (unfold rtP; simp_all; omega))), hkk⟩
              · refine X.mv rfl rfl rfl rfl rfl ?_
                refine X.skip rfl rfl rfl ?_
                refine X.pickF rfl rfl rfl rfl rfl rfl ?_
                refine X.mv rfl rfl rfl rfl rfl ?_
                refine X.skip rfl rfl rfl ?_
                refine X.pickF rfl rfl rfl rfl rfl rfl ?_
                refine X.asg rfl rfl rfl rfl rfl ?_
                refine X.done [(2, _)] ⟨rfl, trivial⟩ ?_
                refine N.then ?_
                refine E.ret ?_
                refine N.blkR ?_
                refine N.thenR ?_
                exact N.retH [_] ⟨_, _, rfl, rfl, rfl⟩ ⟨congrArg Value.bool (rt_of (by (try simp only [cntV, decide_eq_true_eq, Bool.false_eq_true, false_iff, true_iff, nd_eq, knd]); first | grind [rtP] | (unfold rtP; simp_all; omega))), hkk⟩
            · refine X.asg rfl rfl rfl rfl rfl ?_
              refine X.done [(1, _), (2, _), (3, _), (4, _), (18, _), (54, _)] ⟨rfl, rfl, rfl, rfl, rfl, rfl, trivial⟩ ?_
              refine N.then ?_
              refine E.condF rfl ?_
              refine E.seq ?_
              refine E.region ?_
              refine X.eql rfl rfl rfl rfl rfl rfl ?_
              rcases Decidable.em (x.kind = 6) with hz6 | hz6
              rw [decide_eq_true hz6]
              rotate_left
              rw [decide_eq_false hz6]
              rotate_left
              · refine X.asg rfl rfl rfl rfl rfl ?_
                refine X.done [(1, _), (2, _), (3, _), (4, _), (18, _), (54, _)] ⟨rfl, rfl, rfl, rfl, rfl, rfl, trivial⟩ ?_
                refine N.then ?_
                refine E.condT rfl ?_
                refine E.skip ?_
                refine N.then ?_
                refine E.condT rfl ?_
                refine E.seq ?_
                refine E.region ?_
                refine X.fld rfl rfl rfl rfl rfl Tryd.off38_1 ?_
                refine X.ld rfl rfl rfl rfl Tryd.ag3 (hb1) (rfl) ?_
                refine X.eqlC rfl rfl rfl rfl rfl rfl (fun hc => ?_) (fun hc => ?_)
                · refine X.mv rfl rfl rfl rfl rfl ?_
                  refine X.mv rfl rfl rfl rfl rfl ?_
                  rcases Decidable.em (x.set = s0) with hz | hz
                  rw [decide_eq_true hz]
                  rotate_left
                  rw [decide_eq_false hz]
                  rotate_left
                  · refine X.pickT rfl rfl rfl rfl rfl rfl ?_
                    refine X.mv rfl rfl rfl rfl rfl ?_
                    refine X.mv rfl rfl rfl rfl rfl ?_
                    refine X.pickT rfl rfl rfl rfl rfl rfl ?_
                    refine X.asg rfl rfl rfl rfl rfl ?_
                    refine X.done [(2, _)] ⟨rfl, trivial⟩ ?_
                    refine N.then ?_
                    refine E.ret ?_
                    refine N.blkR ?_
                    refine N.thenR ?_
                    exact N.retH [_] ⟨_, _, rfl, rfl, rfl⟩ ⟨congrArg Value.bool (rt_of (by (try simp only [cntV, decide_eq_true_eq, Bool.false_eq_true, false_iff, true_iff, nd_eq, knd]); first | grind [rtP] | (unfold rtP; simp_all; omega))), hkk⟩
                  · refine X.pickT rfl rfl rfl rfl rfl rfl ?_
                    refine X.mv rfl rfl rfl rfl rfl ?_
                    refine X.skip rfl rfl rfl ?_
                    refine X.pickF rfl rfl rfl rfl rfl rfl ?_
                    refine X.asg rfl rfl rfl rfl rfl ?_
                    refine X.done [(2, _)] ⟨rfl, trivial⟩ ?_
                    refine N.then ?_
                    refine E.ret ?_
                    refine N.blkR ?_
                    refine N.thenR ?_
                    exact N.retH [_] ⟨_, _, rfl, rfl, rfl⟩ ⟨congrArg Value.bool (rt_of (by (try simp only [cntV, decide_eq_true_eq, Bool.false_eq_true, false_iff, true_iff, nd_eq, knd]); first | grind [rtP] | (unfold rtP; simp_all; omega))), hkk⟩
                · refine X.mv rfl rfl rfl rfl rfl ?_
                  refine X.skip rfl rfl rfl ?_
                  refine X.pickF rfl rfl rfl rfl rfl rfl ?_
                  refine X.mv rfl rfl rfl rfl rfl ?_
                  refine X.skip rfl rfl rfl ?_
                  refine X.pickF rfl rfl rfl rfl rfl rfl ?_
                  refine X.asg rfl rfl rfl rfl rfl ?_
                  refine X.done [(2, _)] ⟨rfl, trivial⟩ ?_
                  refine N.then ?_
                  refine E.ret ?_
                  refine N.blkR ?_
                  refine N.thenR ?_
                  exact N.retH [_] ⟨_, _, rfl, rfl, rfl⟩ ⟨congrArg Value.bool (rt_of (by (try simp only [cntV, decide_eq_true_eq, Bool.false_eq_true, false_iff, true_iff, nd_eq, knd]); first | grind [rtP] | (unfold rtP; simp_all; omega))), hkk⟩
              · refine X.asg rfl rfl rfl rfl rfl ?_
                refine X.done [(1, _), (2, _), (3, _), (4, _), (18, _), (54, _)] ⟨rfl, rfl, rfl, rfl, rfl, rfl, trivial⟩ ?_
                refine N.then ?_
                refine E.condF rfl ?_
                refine E.region ?_
                refine X.eql rfl rfl rfl rfl rfl rfl ?_
                rcases Decidable.em (x.kind = 7) with hz7 | hz7
                rw [decide_eq_true hz7]
                rotate_left
                rw [decide_eq_false hz7]
                rotate_left
                · refine X.asg rfl rfl rfl rfl rfl ?_
                  refine X.done [(1, _), (2, _), (3, _), (4, _), (18, _), (54, _)] ⟨rfl, rfl, rfl, rfl, rfl, rfl, trivial⟩ ?_
                  refine N.then ?_
                  refine E.condT rfl ?_
                  refine E.seq ?_
                  refine E.region ?_
                  refine X.fld rfl rfl rfl rfl rfl Tryd.off38_1 ?_
                  refine X.ld rfl rfl rfl rfl Tryd.ag3 (hb1) (rfl) ?_
                  refine X.eqlC rfl rfl rfl rfl rfl rfl (fun hc => ?_) (fun hc => ?_)
                  · refine X.mv rfl rfl rfl rfl rfl ?_
                    refine X.mv rfl rfl rfl rfl rfl ?_
                    rcases Decidable.em (x.set = s0) with hz | hz
                    rw [decide_eq_true hz]
                    rotate_left
                    rw [decide_eq_false hz]
                    rotate_left
                    · refine X.pickT rfl rfl rfl rfl rfl rfl ?_
                      refine X.mv rfl rfl rfl rfl rfl ?_
                      refine X.mv rfl rfl rfl rfl rfl ?_
                      refine X.pickT rfl rfl rfl rfl rfl rfl ?_
                      refine X.asg rfl rfl rfl rfl rfl ?_
                      refine X.done [(2, _)] ⟨rfl, trivial⟩ ?_
                      refine N.then ?_
                      refine E.ret ?_
                      refine N.blkR ?_
                      refine N.thenR ?_
                      exact N.retH [_] ⟨_, _, rfl, rfl, rfl⟩ ⟨congrArg Value.bool (rt_of (by (try simp only [cntV, decide_eq_true_eq, Bool.false_eq_true, false_iff, true_iff, nd_eq, knd]); first | grind [rtP] | (unfold rtP; simp_all; omega))), hkk⟩
                    · refine X.pickT rfl rfl rfl rfl rfl rfl ?_
                      refine X.mv rfl rfl rfl rfl rfl ?_
                      refine X.skip rfl rfl rfl ?_
                      refine X.pickF rfl rfl rfl rfl rfl rfl ?_
                      refine X.asg rfl rfl rfl rfl rfl ?_
                      refine X.done [(2, _)] ⟨rfl, trivial⟩ ?_
                      refine N.then ?_
                      refine E.ret ?_
                      refine N.blkR ?_
                      refine N.thenR ?_
                      exact N.retH [_] ⟨_, _, rfl, rfl, rfl⟩ ⟨congrArg Value.bool (rt_of (by (try simp only [cntV, decide_eq_true_eq, Bool.false_eq_true, false_iff, true_iff, nd_eq, knd]); first | grind [rtP] | (unfold rtP; simp_all; omega))), hkk⟩
                  · refine X.mv rfl rfl rfl rfl rfl ?_
                    refine X.skip rfl rfl rfl ?_
                    refine X.pickF rfl rfl rfl rfl rfl rfl ?_
                    refine X.mv rfl rfl rfl rfl rfl ?_
                    refine X.skip rfl rfl rfl ?_
                    refine X.pickF rfl rfl rfl rfl rfl rfl ?_
                    refine X.asg rfl rfl rfl rfl rfl ?_
                    refine X.done [(2, _)] ⟨rfl, trivial⟩ ?_
                    refine N.then ?_
                    refine E.ret ?_
                    refine N.blkR ?_
                    refine N.thenR ?_
                    exact N.retH [_] ⟨_, _, rfl, rfl, rfl⟩ ⟨congrArg Value.bool (rt_of (by (try simp only [cntV, decide_eq_true_eq, Bool.false_eq_true, false_iff, true_iff, nd_eq, knd]); first | grind [rtP] | (unfold rtP; simp_all; omega))), hkk⟩
                · refine X.asg rfl rfl rfl rfl rfl ?_
                  refine X.done [(1, _), (2, _), (3, _), (4, _), (18, _), (54, _)] ⟨rfl, rfl, rfl, rfl, rfl, rfl, trivial⟩ ?_
                  refine N.then ?_
                  refine E.condF rfl ?_
                  refine E.seq ?_
                  refine E.region ?_
                  refine X.eql rfl rfl rfl rfl rfl rfl ?_
                  refine X.asg rfl rfl rfl rfl rfl ?_
                  refine X.done [(1, _), (2, _), (4, _), (67, _)] ⟨rfl, rfl, rfl, rfl, trivial⟩ ?_
                  refine N.then ?_
                  refine E.condD rfl (fun hc => ?_) (fun hc => ?_)
                  · refine E.seq ?_
                    refine E.region ?_
                    refine X.fld rfl rfl rfl rfl rfl Tryd.off38_1 ?_
                    refine X.ld rfl rfl rfl rfl Tryd.ag3 (hb1) (rfl) ?_
                    refine X.eqlC rfl rfl rfl rfl rfl rfl (fun hc => ?_) (fun hc => ?_)
                    · refine X.mv rfl rfl rfl rfl rfl ?_
                      refine X.mv rfl rfl rfl rfl rfl ?_
                      rcases Decidable.em (x.set = s0) with hz | hz
                      rw [decide_eq_true hz]
                      rotate_left
                      rw [decide_eq_false hz]
                      rotate_left
                      · refine X.pickT rfl rfl rfl rfl rfl rfl ?_
                        refine X.mv rfl rfl rfl rfl rfl ?_
                        refine X.fld rfl rfl rfl rfl rfl Tryd.off38_3 ?_
                        refine X.ld rfl rfl rfl rfl Tryd.ag3 (hb1) (rfl) ?_
                        refine X.geqC rfl rfl rfl rfl rfl rfl (fun hc => ?_) (fun hc => ?_)
                        · refine X.pickT rfl rfl rfl rfl rfl rfl ?_
                          refine X.mv rfl rfl rfl rfl rfl ?_
                          refine X.fld rfl rfl rfl rfl rfl Tryd.off38_3 ?_
                          refine X.ld rfl rfl rfl rfl Tryd.ag3 (hb1) (rfl) ?_
                          refine X.leqC rfl rfl rfl rfl rfl rfl (fun hc => ?_) (fun hc => ?_)
                          · refine X.pickT rfl rfl rfl rfl rfl rfl ?_
                            refine X.mv rfl rfl rfl rfl rfl ?_
                            refine X.fld rfl rfl rfl rfl rfl Tryd.off38_4 ?_
                            refine X.ld rfl rfl rfl rfl Tryd.ag3 (hb1) (rfl) ?_
                            refine X.eqlC rfl rfl rfl rfl rfl rfl (fun hc => ?_) (fun hc => ?_)
                            · refine X.mv rfl rfl rfl rfl rfl ?_
                              refine X.skip rfl rfl rfl ?_
                              refine X.skip rfl rfl rfl ?_
                              refine X.skip rfl rfl rfl ?_
                              refine X.skip rfl rfl rfl ?_
                              refine X.skip rfl rfl rfl ?_
                              refine X.skip rfl rfl rfl ?_
                              refine X.skip rfl rfl rfl ?_
                              refine X.skip rfl rfl rfl ?_
                              refine X.skip rfl rfl rfl ?_
                              refine X.skip rfl rfl rfl ?_
                              refine X.pickT rfl rfl rfl rfl rfl rfl ?_
                              refine X.pickT rfl rfl rfl rfl rfl rfl ?_
                              refine X.asg rfl rfl rfl rfl rfl ?_
                              refine X.done [(2, _)] ⟨rfl, trivial⟩ ?_
                              refine N.then ?_
                              refine E.ret ?_
                              refine N.blkR ?_
                              refine N.thenR ?_
                              exact N.retH [_] ⟨_, _, rfl, rfl, rfl⟩ ⟨congrArg Value.bool (rt_of (by (try simp only [cntV, decide_eq_true_eq, Bool.false_eq_true, false_iff, true_iff, nd_eq, knd]); first | grind [rtP] | (unfold rtP; simp_all; omega))), hkk⟩
                            · refine X.mv rfl rfl rfl rfl rfl ?_
                              refine X.fld rfl rfl rfl rfl rfl Tryd.off38_4 ?_
                              refine X.ld rfl rfl rfl rfl Tryd.ag3 (hb1) (rfl) ?_
                              refine X.fld rfl rfl rfl rfl rfl Tryd.off38_3 ?_
                              refine X.ld rfl rfl rfl rfl Tryd.ag3 (hb1) (rfl) ?_
                              refine X.geqC rfl rfl rfl rfl rfl rfl (fun hc => ?_) (fun hc => ?_)
                              · refine X.mv rfl rfl rfl rfl rfl ?_
                                refine X.fld rfl rfl rfl rfl rfl Tryd.off38_4 ?_
                                refine X.ld rfl rfl rfl rfl Tryd.ag3 (hb1) (rfl) ?_
                                refine X.leq rfl rfl rfl rfl rfl rfl ?_
                                refine X.pickT rfl rfl rfl rfl rfl rfl ?_
                                refine X.pickF rfl rfl rfl rfl rfl rfl ?_
                                refine X.pickT rfl rfl rfl rfl rfl rfl ?_
                                refine X.asg rfl rfl rfl rfl rfl ?_
                                refine X.done [(2, _)] ⟨rfl, trivial⟩ ?_
                                refine N.then ?_
                                refine E.ret ?_
                                refine N.blkR ?_
                                refine N.thenR ?_
                                exact N.retH [_] ⟨_, _, rfl, rfl, rfl⟩ ⟨congrArg Value.bool (rt_of (by (try simp only [cntV, decide_eq_true_eq, Bool.false_eq_true, false_iff, true_iff, nd_eq, knd]); first | grind [rtP] | (unfold rtP; simp_all; omega))), hkk⟩
                              · refine X.mv rfl rfl rfl rfl rfl ?_
                                refine X.skip rfl rfl rfl ?_
                                refine X.skip rfl rfl rfl ?_
                                refine X.skip rfl rfl rfl ?_
                                refine X.pickF rfl rfl rfl rfl rfl rfl ?_
                                refine X.pickF rfl rfl rfl rfl rfl rfl ?_
                                refine X.pickT rfl rfl rfl rfl rfl rfl ?_
                                refine X.asg rfl rfl rfl rfl rfl ?_
                                refine X.done [(2, _)] ⟨rfl, trivial⟩ ?_
                                refine N.then ?_
                                refine E.ret ?_
                                refine N.blkR ?_
                                refine N.thenR ?_
                                exact N.retH [_] ⟨_, _, rfl, rfl, rfl⟩ ⟨congrArg Value.bool (rt_of (by (try simp only [cntV, decide_eq_true_eq, Bool.false_eq_true, false_iff, true_iff, nd_eq, knd]); first | grind [rtP] | (unfold rtP; simp_all; omega))), hkk⟩
                          · refine X.pickT rfl rfl rfl rfl rfl rfl ?_
                            refine X.mv rfl rfl rfl rfl rfl ?_
                            refine X.skip rfl rfl rfl ?_
                            refine X.skip rfl rfl rfl ?_
                            refine X.skip rfl rfl rfl ?_
                            refine X.skip rfl rfl rfl ?_
                            refine X.skip rfl rfl rfl ?_
                            refine X.skip rfl rfl rfl ?_
                            refine X.skip rfl rfl rfl ?_
                            refine X.skip rfl rfl rfl ?_
                            refine X.skip rfl rfl rfl ?_
                            refine X.skip rfl rfl rfl ?_
                            refine X.skip rfl rfl rfl ?_
                            refine X.skip rfl rfl rfl ?_
                            refine X.skip rfl rfl rfl ?_
                            refine X.skip rfl rfl rfl ?_
                            refine X.skip rfl rfl rfl ?_
                            refine X.pickF rfl rfl rfl rfl rfl rfl ?_
                            refine X.asg rfl rfl rfl rfl rfl ?_
                            refine X.done [(2, _)] ⟨rfl, trivial⟩ ?_
                            refine N.then ?_
                            refine E.ret ?_
                            refine N.blkR ?_
                            refine N.thenR ?_
                            exact N.retH [_] ⟨_, _, rfl, rfl, rfl⟩ ⟨congrArg Value.bool (rt_of (by (try simp only [cntV, decide_eq_true_eq, Bool.false_eq_true, false_iff, true_iff, nd_eq, knd]); first | grind [rtP] | (unfold rtP; simp_all; omega))), hkk⟩
                        · refine X.pickT rfl rfl rfl rfl rfl rfl ?_
                          refine X.mv rfl rfl rfl rfl rfl ?_
                          refine X.skip rfl rfl rfl ?_
                          refine X.skip rfl rfl rfl ?_
                          refine X.skip rfl rfl rfl ?_
                          refine X.pickF rfl rfl rfl rfl rfl rfl ?_
                          refine X.mv rfl rfl rfl rfl rfl ?_
                          refine X.skip rfl rfl rfl ?_
                          refine X.skip rfl rfl rfl ?_
                          refine X.skip rfl rfl rfl ?_
                          refine X.skip rfl rfl rfl ?_
                          refine X.skip rfl rfl rfl ?_
                          refine X.skip rfl rfl rfl ?_
                          refine X.skip rfl rfl rfl ?_
                          refine X.skip rfl rfl rfl ?_
                          refine X.skip rfl rfl rfl ?_
                          refine X.skip rfl rfl rfl ?_
                          refine X.skip rfl rfl rfl ?_
                          refine X.skip rfl rfl rfl ?_
                          refine X.skip rfl rfl rfl ?_
                          refine X.skip rfl rfl rfl ?_
                          refine X.skip rfl rfl rfl ?_
                          refine X.pickF rfl rfl rfl rfl rfl rfl ?_
                          refine X.asg rfl rfl rfl rfl rfl ?_
                          refine X.done [(2, _)] ⟨rfl, trivial⟩ ?_
                          refine N.then ?_
                          refine E.ret ?_
                          refine N.blkR ?_
                          refine N.thenR ?_
                          exact N.retH [_] ⟨_, _, rfl, rfl, rfl⟩ ⟨congrArg Value.bool (rt_of (by (try simp only [cntV, decide_eq_true_eq, Bool.false_eq_true, false_iff, true_iff, nd_eq, knd]); first | grind [rtP] | (unfold rtP; simp_all; omega))), hkk⟩
                      · refine X.pickT rfl rfl rfl rfl rfl rfl ?_
                        refine X.mv rfl rfl rfl rfl rfl ?_
                        refine X.skip rfl rfl rfl ?_
                        refine X.skip rfl rfl rfl ?_
                        refine X.skip rfl rfl rfl ?_
                        refine X.pickF rfl rfl rfl rfl rfl rfl ?_
                        refine X.mv rfl rfl rfl rfl rfl ?_
                        refine X.skip rfl rfl rfl ?_
                        refine X.skip rfl rfl rfl ?_
                        refine X.skip rfl rfl rfl ?_
                        refine X.pickF rfl rfl rfl rfl rfl rfl ?_
                        refine X.mv rfl rfl rfl rfl rfl ?_
                        refine X.skip rfl rfl rfl ?_
                        refine X.skip rfl rfl rfl ?_
                        refine X.skip rfl rfl rfl ?_
                        refine X.skip rfl rfl rfl ?_
                        refine X.skip rfl rfl rfl ?_
                        refine X.skip rfl rfl rfl ?_
                        refine X.skip rfl rfl rfl ?_
                        refine X.skip rfl rfl rfl ?_
                        refine X.skip rfl rfl rfl ?_
                        refine X.skip rfl rfl rfl ?_
                        refine X.skip rfl rfl rfl ?_
                        refine X.skip rfl rfl rfl ?_
                        refine X.skip rfl rfl rfl ?_
                        refine X.skip rfl rfl rfl ?_
                        refine X.skip rfl rfl rfl ?_
                        refine X.pickF rfl rfl rfl rfl rfl rfl ?_
                        refine X.asg rfl rfl rfl rfl rfl ?_
                        refine X.done [(2, _)] ⟨rfl, trivial⟩ ?_
                        refine N.then ?_
                        refine E.ret ?_
                        refine N.blkR ?_
                        refine N.thenR ?_
                        exact N.retH [_] ⟨_, _, rfl, rfl, rfl⟩ ⟨congrArg Value.bool (rt_of (by (try simp only [cntV, decide_eq_true_eq, Bool.false_eq_true, false_iff, true_iff, nd_eq, knd]); first | grind [rtP] | (unfold rtP; simp_all; omega))), hkk⟩
                    · refine X.mv rfl rfl rfl rfl rfl ?_
                      refine X.skip rfl rfl rfl ?_
                      refine X.pickF rfl rfl rfl rfl rfl rfl ?_
                      refine X.mv rfl rfl rfl rfl rfl ?_
                      refine X.skip rfl rfl rfl ?_
                      refine X.skip rfl rfl rfl ?_
                      refine X.skip rfl rfl rfl ?_
                      refine X.pickF rfl rfl rfl rfl rfl rfl ?_
                      refine X.mv rfl rfl rfl rfl rfl ?_
                      refine X.skip rfl rfl rfl ?_
                      refine X.skip rfl rfl rfl ?_
                      refine X.skip rfl rfl rfl ?_
                      refine X.pickF rfl rfl rfl rfl rfl rfl ?_
                      refine X.mv rfl rfl rfl rfl rfl ?_
                      refine X.skip rfl rfl rfl ?_
                      refine X.skip rfl rfl rfl ?_
                      refine X.skip rfl rfl rfl ?_
                      refine X.skip rfl rfl rfl ?_
                      refine X.skip rfl rfl rfl ?_
                      refine X.skip rfl rfl rfl ?_
                      refine X.skip rfl rfl rfl ?_
                      refine X.skip rfl rfl rfl ?_
                      refine X.skip rfl rfl rfl ?_
                      refine X.skip rfl rfl rfl ?_
                      refine X.skip rfl rfl rfl ?_
                      refine X.skip rfl rfl rfl ?_
                      refine X.skip rfl rfl rfl ?_
                      refine X.skip rfl rfl rfl ?_
                      refine X.skip rfl rfl rfl ?_
                      refine X.pickF rfl rfl rfl rfl rfl rfl ?_
                      refine X.asg rfl rfl rfl rfl rfl ?_
                      refine X.done [(2, _)] ⟨rfl, trivial⟩ ?_
                      refine N.then ?_
                      refine E.ret ?_
                      refine N.blkR ?_
                      refine N.thenR ?_
                      exact N.retH [_] ⟨_, _, rfl, rfl, rfl⟩ ⟨congrArg Value.bool (rt_of (by (try simp only [cntV, decide_eq_true_eq, Bool.false_eq_true, false_iff, true_iff, nd_eq, knd]); first | grind [rtP] | (unfold rtP; simp_all; omega))), hkk⟩
                  · refine E.skip ?_
                    refine N.blk ?_
                    refine N.then ?_
                    refine E.seq ?_
                    refine E.region ?_
                    refine X.asg rfl rfl rfl rfl rfl ?_
                    refine X.done [(2, _)] ⟨rfl, trivial⟩ ?_
                    refine N.then ?_
                    refine E.ret ?_
                    exact N.retH [_] ⟨_, _, rfl, rfl, rfl⟩ ⟨congrArg Value.bool (rt_of (by (try simp only [cntV, decide_eq_true_eq, Bool.false_eq_true, false_iff, true_iff, nd_eq, knd]); first | grind [rtP] | (unfold rtP; simp_all; omega))), hkk⟩
  · refine X.mv rfl rfl rfl rfl rfl ?_
    refine X.skip rfl rfl rfl ?_
    refine X.skip rfl rfl rfl ?_
    refine X.skip rfl rfl rfl ?_
    refine X.pickF rfl rfl rfl rfl rfl rfl ?_
    refine X.asg rfl rfl rfl rfl rfl ?_
    refine X.done [(1, _), (2, _), (3, _)] ⟨rfl, rfl, rfl, trivial⟩ ?_
    refine N.then ?_
    refine E.seq ?_
    refine E.region ?_
    refine X.fld rfl rfl rfl rfl rfl Tryd.off38_2 ?_
    refine X.ldA rfl rfl rfl rfl Tryd.ag36 Tryd.sz36 (hb1) (uv4 x.set.2) (ncel_set x) ?_
    refine X.build rfl rfl rfl rfl rfl build_z4 ?_
    refine X.eqlW' (a := x.set) (b := s0) rfl rfl rfl rfl rfl rfl ?_
    refine X.asg rfl rfl rfl rfl rfl ?_
    refine X.done [(1, _), (2, _), (3, _), (4, _)] ⟨rfl, rfl, rfl, rfl, trivial⟩ ?_
    refine N.then ?_
    refine E.seq ?_
    refine E.seq ?_
    refine E.region ?_
    refine X.fld rfl rfl rfl rfl rfl Tryd.off38_0 ?_
    refine X.ld rfl rfl rfl rfl Tryd.ag3 (hb1) (rfl) ?_
    refine X.done [(1, _), (2, _), (3, _), (4, _), (18, _)] ⟨rfl, rfl, rfl, rfl, rfl, trivial⟩ ?_
    refine N.then ?_
    refine E.block ?_
    refine E.seq ?_
    refine E.region ?_
    refine X.eql rfl rfl rfl rfl rfl rfl ?_
    refine X.asg rfl rfl rfl rfl rfl ?_
    refine X.done [(1, _), (2, _), (3, _), (4, _), (18, _), (19, _)] ⟨rfl, rfl, rfl, rfl, rfl, rfl, trivial⟩ ?_
    refine N.then ?_
    refine E.condD rfl (fun hc => ?_) (fun hc => ?_)
    · refine E.seq ?_
      refine E.region ?_
      refine X.fld rfl rfl rfl rfl rfl Tryd.off38_1 ?_
      refine X.ld rfl rfl rfl rfl Tryd.ag3 (hb1) (rfl) ?_
      refine X.eqlC rfl rfl rfl rfl rfl rfl (fun hc => ?_) (fun hc => ?_)
      · refine X.mv rfl rfl rfl rfl rfl ?_
        refine X.mv rfl rfl rfl rfl rfl ?_
        rcases Decidable.em (x.set = s0) with hz | hz
        rw [decide_eq_true hz]
        rotate_left
        rw [decide_eq_false hz]
        rotate_left
        · refine X.notT rfl rfl rfl rfl rfl ?_
          refine X.pickT rfl rfl rfl rfl rfl rfl ?_
          refine X.mv rfl rfl rfl rfl rfl ?_
          refine X.skip rfl rfl rfl ?_
          refine X.pickF rfl rfl rfl rfl rfl rfl ?_
          refine X.asg rfl rfl rfl rfl rfl ?_
          refine X.done [(2, _)] ⟨rfl, trivial⟩ ?_
          refine N.then ?_
          refine E.ret ?_
          refine N.blkR ?_
          refine N.thenR ?_
          exact N.retH [_] ⟨_, _, rfl, rfl, rfl⟩ ⟨congrArg Value.bool (rt_of (by (try simp only [cntV, decide_eq_true_eq, Bool.false_eq_true, false_iff, true_iff, nd_eq, knd]); first | grind [rtP] | (unfold rtP; simp_all; omega))), hkk⟩
        · refine X.notF rfl rfl rfl rfl rfl ?_
          refine X.pickT rfl rfl rfl rfl rfl rfl ?_
          refine X.mv rfl rfl rfl rfl rfl ?_
          refine X.mv rfl rfl rfl rfl rfl ?_
          refine X.pickT rfl rfl rfl rfl rfl rfl ?_
          refine X.asg rfl rfl rfl rfl rfl ?_
          refine X.done [(2, _)] ⟨rfl, trivial⟩ ?_
          refine N.then ?_
          refine E.ret ?_
          refine N.blkR ?_
          refine N.thenR ?_
          exact N.retH [_] ⟨_, _, rfl, rfl, rfl⟩ ⟨congrArg Value.bool (rt_of (by (try simp only [cntV, decide_eq_true_eq, Bool.false_eq_true, false_iff, true_iff, nd_eq, knd]); first | grind [rtP] | (unfold rtP; simp_all; omega))), hkk⟩
      · refine X.mv rfl rfl rfl rfl rfl ?_
        refine X.skip rfl rfl rfl ?_
        refine X.skip rfl rfl rfl ?_
        refine X.pickF rfl rfl rfl rfl rfl rfl ?_
        refine X.mv rfl rfl rfl rfl rfl ?_
        refine X.skip rfl rfl rfl ?_
        refine X.pickF rfl rfl rfl rfl rfl rfl ?_
        refine X.asg rfl rfl rfl rfl rfl ?_
        refine X.done [(2, _)] ⟨rfl, trivial⟩ ?_
        refine N.then ?_
        refine E.ret ?_
        refine N.blkR ?_
        refine N.thenR ?_
        exact N.retH [_] ⟨_, _, rfl, rfl, rfl⟩ ⟨congrArg Value.bool (rt_of (by (try simp only [cntV, decide_eq_true_eq, Bool.false_eq_true, false_iff, true_iff, nd_eq, knd]); first | grind [rtP] | (unfold rtP; simp_all; omega))), hkk⟩
    · refine E.seq ?_
      refine E.region ?_
      refine X.eql rfl rfl rfl rfl rfl rfl ?_
      refine X.asg rfl rfl rfl rfl rfl ?_
      refine X.done [(1, _), (2, _), (3, _), (4, _), (18, _), (31, _)] ⟨rfl, rfl, rfl, rfl, rfl, rfl, trivial⟩ ?_
      refine N.then ?_
      refine E.condD rfl (fun hc => ?_) (fun hc => ?_)
      · refine E.seq ?_
        refine E.region ?_
        refine X.fld rfl rfl rfl rfl rfl Tryd.off38_1 ?_
        refine X.ld rfl rfl rfl rfl Tryd.ag3 (hb1) (rfl) ?_
        refine X.eqlC rfl rfl rfl rfl rfl rfl (fun hc => ?_) (fun hc => ?_)
        · refine X.mv rfl rfl rfl rfl rfl ?_
          refine X.mv rfl rfl rfl rfl rfl ?_
          rcases Decidable.em (x.set = s0) with hz | hz
          rw [decide_eq_true hz]
          rotate_left
          rw [decide_eq_false hz]
          rotate_left
          · refine X.pickT rfl rfl rfl rfl rfl rfl ?_
            refine X.mv rfl rfl rfl rfl rfl ?_
            refine X.mv rfl rfl rfl rfl rfl ?_
            refine X.pickT rfl rfl rfl rfl rfl rfl ?_
            refine X.asg rfl rfl rfl rfl rfl ?_
            refine X.done [(2, _)] ⟨rfl, trivial⟩ ?_
            refine N.then ?_
            refine E.ret ?_
            refine N.blkR ?_
            refine N.thenR ?_
            exact N.retH [_] ⟨_, _, rfl, rfl, rfl⟩ ⟨congrArg Value.bool (rt_of (by (try simp only [cntV, decide_eq_true_eq, Bool.false_eq_true, false_iff, true_iff, nd_eq, knd]); first | grind [rtP] | (unfold rtP; simp_all; omega))), hkk⟩
          · refine X.pickT rfl rfl rfl rfl rfl rfl ?_
            refine X.mv rfl rfl rfl rfl rfl ?_
            refine X.skip rfl rfl rfl ?_
            refine X.pickF rfl rfl rfl rfl rfl rfl ?_
            refine X.asg rfl rfl rfl rfl rfl ?_
            refine X.done [(2, _)] ⟨rfl, trivial⟩ ?_
            refine N.then ?_
            refine E.ret ?_
            refine N.blkR ?_
            refine N.thenR ?_
            exact N.retH [_] ⟨_, _, rfl, rfl, rfl⟩ ⟨congrArg Value.bool (rt_of (by (try simp only [cntV, decide_eq_true_eq, Bool.false_eq_true, false_iff, true_iff, nd_eq, knd]); first | grind [rtP] | (unfold rtP; simp_all; omega))), hkk⟩
        · refine X.mv rfl rfl rfl rfl rfl ?_
          refine X.skip rfl rfl rfl ?_
          refine X.pickF rfl rfl rfl rfl rfl rfl ?_
          refine X.mv rfl rfl rfl rfl rfl ?_
          refine X.skip rfl rfl rfl ?_
          refine X.pickF rfl rfl rfl rfl rfl rfl ?_
          refine X.asg rfl rfl rfl rfl rfl ?_
          refine X.done [(2, _)] ⟨rfl, trivial⟩ ?_
          refine N.then ?_
          refine E.ret ?_
          refine N.blkR ?_
          refine N.thenR ?_
          exact N.retH [_] ⟨_, _, rfl, rfl, rfl⟩ ⟨congrArg Value.bool (rt_of (by (try simp only [cntV, decide_eq_true_eq, Bool.false_eq_true, false_iff, true_iff, nd_eq, knd]); first | grind [rtP] | (unfold rtP; simp_all; omega))), hkk⟩
      · refine E.seq ?_
        refine E.seq ?_
        refine E.region ?_
        refine X.eql rfl rfl rfl rfl rfl rfl ?_
        rcases Decidable.em (x.kind = 3) with hz3 | hz3
        rw [decide_eq_true hz3]
        rotate_left
        rw [decide_eq_false hz3]
        rotate_left
        · refine X.asg rfl rfl rfl rfl rfl ?_
          refine X.done [(1, _), (2, _), (3, _), (4, _), (18, _), (42, _)] ⟨rfl, rfl, rfl, rfl, rfl, rfl, trivial⟩ ?_
          refine N.then ?_
          refine E.condT rfl ?_
          refine E.skip ?_
          refine N.then ?_
          refine E.condT rfl ?_
          refine E.seq ?_
          refine E.region ?_
          refine X.fld rfl rfl rfl rfl rfl Tryd.off38_1 ?_
          refine X.ld rfl rfl rfl rfl Tryd.ag3 (hb1) (rfl) ?_
          refine X.geqC rfl rfl rfl rfl rfl rfl (fun hc => ?_) (fun hc => ?_)
          · refine X.mv rfl rfl rfl rfl rfl ?_
            refine X.mv rfl rfl rfl rfl rfl ?_
            rcases Decidable.em (x.set = s0) with hz | hz
            rw [decide_eq_true hz]
            rotate_left
            rw [decide_eq_false hz]
            rotate_left
            · refine X.pickT rfl rfl rfl rfl rfl rfl ?_
              refine X.mv rfl rfl rfl rfl rfl ?_
              refine X.mv rfl rfl rfl rfl rfl ?_
              refine X.pickT rfl rfl rfl rfl rfl rfl ?_
              refine X.asg rfl rfl rfl rfl rfl ?_
              refine X.done [(2, _)] ⟨rfl, trivial⟩ ?_
              refine N.then ?_
              refine E.ret ?_
              refine N.blkR ?_
              refine N.thenR ?_
              exact N.retH [_] ⟨_, _, rfl, rfl, rfl⟩ ⟨congrArg Value.bool (rt_of (by (try simp only [cntV, decide_eq_true_eq, Bool.false_eq_true, false_iff, true_iff, nd_eq, knd]); first | grind [rtP] | (unfold rtP; simp_all; omega))), hkk⟩
            · refine X.pickT rfl rfl rfl rfl rfl rfl ?_
              refine X.mv rfl rfl rfl rfl rfl ?_
              refine X.skip rfl rfl rfl ?_
              refine X.pickF rfl rfl rfl rfl rfl rfl ?_
              refine X.asg rfl rfl rfl rfl rfl ?_
              refine X.done [(2, _)] ⟨rfl, trivial⟩ ?_
              refine N.then ?_
              refine E.ret ?_
              refine N.blkR ?_
              refine N.thenR ?_
              exact N.retH [_] ⟨_, _, rfl, rfl, rfl⟩ ⟨congrArg Value.bool (rt_of (by (try simp only [cntV, decide_eq_true_eq, Bool.false_eq_true, false_iff, true_iff, nd_eq, knd]); first | grind [rtP] | (unfold rtP; simp_all; omega))), hkk⟩
          · refine X.mv rfl rfl rfl rfl rfl ?_
            refine X.skip rfl rfl rfl ?_
            refine X.pickF rfl rfl rfl rfl rfl rfl ?_
            refine X.mv rfl rfl rfl rfl rfl ?_
            refine X.skip rfl rfl rfl ?_
            refine X.pickF rfl rfl rfl rfl rfl rfl ?_
            refine X.asg rfl rfl rfl rfl rfl ?_
            refine X.done [(2, _)] ⟨rfl, trivial⟩ ?_
            refine N.then ?_
            refine E.ret ?_
            refine N.blkR ?_
            refine N.thenR ?_
            exact N.retH [_] ⟨_, _, rfl, rfl, rfl⟩ ⟨congrArg Value.bool (rt_of (by (try simp only [cntV, decide_eq_true_eq, Bool.false_eq_true, false_iff, true_iff, nd_eq, knd]); first | grind [rtP] | (unfold rtP; simp_all; omega))), hkk⟩
        · refine X.asg rfl rfl rfl rfl rfl ?_
          refine X.done [(1, _), (2, _), (3, _), (4, _), (18, _), (42, _)] ⟨rfl, rfl, rfl, rfl, rfl, rfl, trivial⟩ ?_
          refine N.then ?_
          refine E.condF rfl ?_
          refine E.region ?_
          refine X.eql rfl rfl rfl rfl rfl rfl ?_
          rcases Decidable.em (x.kind = 4) with hz4 | hz4
          rw [decide_eq_true hz4]
          rotate_left
          rw [decide_eq_false hz4]
          rotate_left
          · refine X.asg rfl rfl rfl rfl rfl ?_
            refine X.done [(1, _), (2, _), (3, _), (4, _), (18, _), (42, _)] ⟨rfl, rfl, rfl, rfl, rfl, rfl, trivial⟩ ?_
            refine N.then ?_
            refine E.condT rfl ?_
            refine E.seq ?_
            refine E.region ?_
            refine X.fld rfl rfl rfl rfl rfl Tryd.off38_1 ?_
            refine X.ld rfl rfl rfl rfl Tryd.ag3 (hb1) (rfl) ?_
            refine X.geqC rfl rfl rfl rfl rfl rfl (fun hc => ?_) (fun hc => ?_)
            · refine X.mv rfl rfl rfl rfl rfl ?_
              refine X.mv rfl rfl rfl rfl rfl ?_
              rcases Decidable.em (x.set = s0) with hz | hz
              rw [decide_eq_true hz]
              rotate_left
              rw [decide_eq_false hz]
              rotate_left
              · refine X.pickT rfl rfl rfl rfl rfl rfl ?_
                refine X.mv rfl rfl rfl rfl rfl ?_
                refine X.mv rfl rfl rfl rfl rfl ?_
                refine X.pickT rfl rfl rfl rfl rfl rfl ?_
                refine X.asg rfl rfl rfl rfl rfl ?_
                refine X.done [(2, _)] ⟨rfl, trivial⟩ ?_
                refine N.then ?_
                refine E.ret ?_
                refine N.blkR ?_
                refine N.thenR ?_
                exact N.retH [_] ⟨_, _, rfl, rfl, rfl⟩ ⟨congrArg Value.bool (rt_of (by (try simp only [cntV, decide_eq_true_eq, Bool.false_eq_true, false_iff, true_iff, nd_eq, knd]); first | grind [rtP] | (unfold rtP; simp_all; omega))), hkk⟩
              · refine X.pickT rfl rfl rfl rfl rfl rfl ?_
                refine X.mv rfl rfl rfl rfl rfl ?_
                refine X.skip rfl rfl rfl ?_
                refine X.pickF rfl rfl rfl rfl rfl rfl ?_
                refine X.asg rfl rfl rfl rfl rfl ?_
                refine X.done [(2, _)] ⟨rfl, trivial⟩ ?_
                refine N.then ?_
                refine E.ret ?_
                refine N.blkR ?_
                refine N.thenR ?_
                exact N.retH [_] ⟨_, _, rfl, rfl, rfl⟩ ⟨congrArg Value.bool (rt_of (by (try simp only [cntV, decide_eq_true_eq, Bool.false_eq_true, false_iff, true_iff, nd_eq, knd]); first | grind [rtP] | (unfold rtP; simp_all; omega))), hkk⟩
            · refine X.mv rfl rfl rfl rfl rfl ?_
              refine X.skip rfl rfl rfl ?_
              refine X.pickF rfl rfl rfl rfl rfl rfl ?_
              refine X.mv rfl rfl rfl rfl rfl ?_
              refine X.skip rfl rfl rfl ?_
              refine X.pickF rfl rfl rfl rfl rfl rfl ?_
              refine X.asg rfl rfl rfl rfl rfl ?_
              refine X.done [(2, _)] ⟨rfl, trivial⟩ ?_
              refine N.then ?_
              refine E.ret ?_
              refine N.blkR ?_
              refine N.thenR ?_
              exact N.retH [_] ⟨_, _, rfl, rfl, rfl⟩ ⟨congrArg Value.bool (rt_of (by (try simp only [cntV, decide_eq_true_eq, Bool.false_eq_true, false_iff, true_iff, nd_eq, knd]); first | grind [rtP] | (unfold rtP; simp_all; omega))), hkk⟩
          · refine X.asg rfl rfl rfl rfl rfl ?_
            refine X.done [(1, _), (2, _), (3, _), (4, _), (18, _), (42, _)] ⟨rfl, rfl, rfl, rfl, rfl, rfl, trivial⟩ ?_
            refine N.then ?_
            refine E.condF rfl ?_
            refine E.seq ?_
            refine E.seq ?_
            refine E.region ?_
            refine X.eql rfl rfl rfl rfl rfl rfl ?_
            rcases Decidable.em (x.kind = 5) with hz5 | hz5
            rw [decide_eq_true hz5]
            rotate_left
            rw [decide_eq_false hz5]
            rotate_left
            · refine X.asg rfl rfl rfl rfl rfl ?_
              refine X.done [(1, _), (2, _), (3, _), (4, _), (18, _), (54, _)] ⟨rfl, rfl, rfl, rfl, rfl, rfl, trivial⟩ ?_
              refine N.then ?_
              refine E.condT rfl ?_
              refine E.skip ?_
              refine N.then ?_
              refine E.condT rfl ?_
              refine E.seq ?_
              refine E.region ?_
              refine X.fld rfl rfl rfl rfl rfl Tryd.off38_1 ?_
              refine X.ld rfl rfl rfl rfl Tryd.ag3 (hb1) (rfl) ?_
              refine X.eqlC rfl rfl rfl rfl rfl rfl (fun hc => ?_) (fun hc => ?_)
              · refine X.mv rfl rfl rfl rfl rfl ?_
                refine X.mv rfl rfl rfl rfl rfl ?_
                rcases Decidable.em (x.set = s0) with hz | hz
                rw [decide_eq_true hz]
                rotate_left
                rw [decide_eq_false hz]
                rotate_left
                · refine X.pickT rfl rfl rfl rfl rfl rfl ?_
                  refine X.mv rfl rfl rfl rfl rfl ?_
                  refine X.mv rfl rfl rfl rfl rfl ?_
                  refine X.pickT rfl rfl rfl rfl rfl rfl ?_
                  refine X.asg rfl rfl rfl rfl rfl ?_
                  refine X.done [(2, _)] ⟨rfl, trivial⟩ ?_
                  refine N.then ?_
                  refine E.ret ?_
                  refine N.blkR ?_
                  refine N.thenR ?_
                  exact N.retH [_] ⟨_, _, rfl, rfl, rfl⟩ ⟨congrArg Value.bool (rt_of (by (try simp only [cntV, decide_eq_true_eq, Bool.false_eq_true, false_iff, true_iff, nd_eq, knd]); first | grind [rtP] | (unfold rtP; simp_all; omega))), hkk⟩
                · refine X.pickT rfl rfl rfl rfl rfl rfl ?_
                  refine X.mv rfl rfl rfl rfl rfl ?_
                  refine X.skip rfl rfl rfl ?_
                  refine X.pickF rfl rfl rfl rfl rfl rfl ?_
                  refine X.asg rfl rfl rfl rfl rfl ?_
                  refine X.done [(2, _)] ⟨rfl, trivial⟩ ?_
                  refine N.then ?_
                  refine E.ret ?_
                  refine N.blkR ?_
                  refine N.thenR ?_
                  exact N.retH [_] ⟨_, _, rfl, rfl, rfl⟩ ⟨congrArg Value.bool (rt_of (by (try simp only [cntV, decide_eq_true_eq, Bool.false_eq_true, false_iff, true_iff, nd_eq, knd]); first | grind [rtP] | (unfold rtP; simp_all; omega))), hkk⟩
              · refine X.mv rfl rfl rfl rfl rfl ?_
                refine X.skip rfl rfl rfl ?_
                refine X.pickF rfl rfl rfl rfl rfl rfl ?_
                refine X.mv rfl rfl rfl rfl rfl ?_
                refine X.skip rfl rfl rfl ?_
                refine X.pickF rfl rfl rfl rfl rfl rfl ?_
                refine X.asg rfl rfl rfl rfl rfl ?_
                refine X.done [(2, _)] ⟨rfl, trivial⟩ ?_
                refine N.then ?_
                refine E.ret ?_
                refine N.blkR ?_
                refine N.thenR ?_
                exact N.retH [_] ⟨_, _, rfl, rfl, rfl⟩ ⟨congrArg Value.bool (rt_of (by (try simp only [cntV, decide_eq_true_eq, Bool.false_eq_true, false_iff, true_iff, nd_eq, knd]); first | grind [rtP] | (unfold rtP; simp_all; omega))), hkk⟩
            · refine X.asg rfl rfl rfl rfl rfl ?_
              refine X.done [(1, _), (2, _), (3, _), (4, _), (18, _), (54, _)] ⟨rfl, rfl, rfl, rfl, rfl, rfl, trivial⟩ ?_
              refine N.then ?_
              refine E.condF rfl ?_
              refine E.seq ?_
              refine E.region ?_
              refine X.eql rfl rfl rfl rfl rfl rfl ?_
              rcases Decidable.em (x.kind = 6) with hz6 | hz6
              rw [decide_eq_true hz6]
              rotate_left
              rw [decide_eq_false hz6]
              rotate_left
              · refine X.asg rfl rfl rfl rfl rfl ?_
                refine X.done [(1, _), (2, _), (3, _), (4, _), (18, _), (54, _)] ⟨rfl, rfl, rfl, rfl, rfl, rfl, trivial⟩ ?_
                refine N.then ?_
                refine E.condT rfl ?_
                refine E.skip ?_
                refine N.then ?_
                refine E.condT rfl ?_
                refine E.seq ?_
                refine E.region ?_
                refine X.fld rfl rfl rfl rfl rfl Tryd.off38_1 ?_
                refine X.ld rfl rfl rfl rfl Tryd.ag3 (hb1) (rfl) ?_
                refine X.eqlC rfl rfl rfl rfl rfl rfl (fun hc => ?_) (fun hc => ?_)
                · refine X.mv rfl rfl rfl rfl rfl ?_
                  refine X.mv rfl rfl rfl rfl rfl ?_
                  rcases Decidable.em (x.set = s0) with hz | hz
                  rw [decide_eq_true hz]
                  rotate_left
                  rw [decide_eq_false hz]
                  rotate_left
                  · refine X.pickT rfl rfl rfl rfl rfl rfl ?_
                    refine X.mv rfl rfl rfl rfl rfl ?_
                    refine X.mv rfl rfl rfl rfl rfl ?_
                    refine X.pickT rfl rfl rfl rfl rfl rfl ?_
                    refine X.asg rfl rfl rfl rfl rfl ?_
                    refine X.done [(2, _)] ⟨rfl, trivial⟩ ?_
                    refine N.then ?_
                    refine E.ret ?_
                    refine N.blkR ?_
                    refine N.thenR ?_
                    exact N.retH [_] ⟨_, _, rfl, rfl, rfl⟩ ⟨congrArg Value.bool (rt_of (by (try simp only [cntV, decide_eq_true_eq, Bool.false_eq_true, false_iff, true_iff, nd_eq, knd]); first | grind [rtP] | (unfold rtP; simp_all; omega))), hkk⟩
                  · refine X.pickT rfl rfl rfl rfl rfl rfl ?_
                    refine X.mv rfl rfl rfl rfl rfl ?_
                    refine X.skip rfl rfl rfl ?_
                    refine X.pickF rfl rfl rfl rfl rfl rfl ?_
                    refine X.asg rfl rfl rfl rfl rfl ?_
                    refine X.done [(2, _)] ⟨rfl, trivial⟩ ?_
                    refine N.then ?_
                    refine E.ret ?_
                    refine N.blkR ?_
                    refine N.thenR ?_
                    exact N.retH [_] ⟨_, _, rfl, rfl, rfl⟩ ⟨congrArg Value.bool (rt_of (by (try simp only [cntV, decide_eq_true_eq, Bool.false_eq_true, false_iff, true_iff, nd_eq, knd]); first | grind [rtP] | (unfold rtP; simp_all; omega))), hkk⟩
                · refine X.mv rfl rfl rfl rfl rfl ?_
                  refine X.skip rfl rfl rfl ?_
                  refine X.pickF rfl rfl rfl rfl rfl rfl ?_
                  refine X.mv rfl rfl rfl rfl rfl ?_
                  refine X.skip rfl rfl rfl ?_
                  refine X.pickF rfl rfl rfl rfl rfl rfl ?_
                  refine X.asg rfl rfl rfl rfl rfl ?_
                  refine X.done [(2, _)] ⟨rfl, trivial⟩ ?_
                  refine N.then ?_
                  refine E.ret ?_
                  refine N.blkR ?_
                  refine N.thenR ?_
                  exact N.retH [_] ⟨_, _, rfl, rfl, rfl⟩ ⟨congrArg Value.bool (rt_of (by (try simp only [cntV, decide_eq_true_eq, Bool.false_eq_true, false_iff, true_iff, nd_eq, knd]); first | grind [rtP] | (unfold rtP; simp_all; omega))), hkk⟩
              · refine X.asg rfl rfl rfl rfl rfl ?_
                refine X.done [(1, _), (2, _), (3, _), (4, _), (18, _), (54, _)] ⟨rfl, rfl, rfl, rfl, rfl, rfl, trivial⟩ ?_
                refine N.then ?_
                refine E.condF rfl ?_
                refine E.region ?_
                refine X.eql rfl rfl rfl rfl rfl rfl ?_
                rcases Decidable.em (x.kind = 7) with hz7 | hz7
                rw [decide_eq_true hz7]
                rotate_left
                rw [decide_eq_false hz7]
                rotate_left
                · refine X.asg rfl rfl rfl rfl rfl ?_
                  refine X.done [(1, _), (2, _), (3, _), (4, _), (18, _), (54, _)] ⟨rfl, rfl, rfl, rfl, rfl, rfl, trivial⟩ ?_
                  refine N.then ?_
                  refine E.condT rfl ?_
                  refine E.seq ?_
                  refine E.region ?_
                  refine X.fld rfl rfl rfl rfl rfl Tryd.off38_1 ?_
                  refine X.ld rfl rfl rfl rfl Tryd.ag3 (hb1) (rfl) ?_
                  refine X.eqlC rfl rfl rfl rfl rfl rfl (fun hc => ?_) (fun hc => ?_)
                  · refine X.mv rfl rfl rfl rfl rfl ?_
                    refine X.mv rfl rfl rfl rfl rfl ?_
                    rcases Decidable.em (x.set = s0) with hz | hz
                    rw [decide_eq_true hz]
                    rotate_left
                    rw [decide_eq_false hz]
                    rotate_left
                    · refine X.pickT rfl rfl rfl rfl rfl rfl ?_
                      refine X.mv rfl rfl rfl rfl rfl ?_
                      refine X.mv rfl rfl rfl rfl rfl ?_
                      refine X.pickT rfl rfl rfl rfl rfl rfl ?_
                      refine X.asg rfl rfl rfl rfl rfl ?_
                      refine X.done [(2, _)] ⟨rfl, trivial⟩ ?_
                      refine N.then ?_
                      refine E.ret ?_
                      refine N.blkR ?_
                      refine N.thenR ?_
                      exact N.retH [_] ⟨_, _, rfl, rfl, rfl⟩ ⟨congrArg Value.bool (rt_of (by (try simp only [cntV, decide_eq_true_eq, Bool.false_eq_true, false_iff, true_iff, nd_eq, knd]); first | grind [rtP] | (unfold rtP; simp_all; omega))), hkk⟩
                    · refine X.pickT rfl rfl rfl rfl rfl rfl ?_
                      refine X.mv rfl rfl rfl rfl rfl ?_
                      refine X.skip rfl rfl rfl ?_
                      refine X.pickF rfl rfl rfl rfl rfl rfl ?_
                      refine X.asg rfl rfl rfl rfl rfl ?_
                      refine X.done [(2, _)] ⟨rfl, trivial⟩ ?_
                      refine N.then ?_
                      refine E.ret ?_
                      refine N.blkR ?_
                      refine N.thenR ?_
                      exact N.retH [_] ⟨_, _, rfl, rfl, rfl⟩ ⟨congrArg Value.bool (rt_of (by (try simp only [cntV, decide_eq_true_eq, Bool.false_eq_true, false_iff, true_iff, nd_eq, knd]); first | grind [rtP] | (unfold rtP; simp_all; omega))), hkk⟩
                  · refine X.mv rfl rfl rfl rfl rfl ?_
                    refine X.skip rfl rfl rfl ?_
                    refine X.pickF rfl rfl rfl rfl rfl rfl ?_
                    refine X.mv rfl rfl rfl rfl rfl ?_
                    refine X.skip rfl rfl rfl ?_
                    refine X.pickF rfl rfl rfl rfl rfl rfl ?_
                    refine X.asg rfl rfl rfl rfl rfl ?_
                    refine X.done [(2, _)] ⟨rfl, trivial⟩ ?_
                    refine N.then ?_
                    refine E.ret ?_
                    refine N.blkR ?_
                    refine N.thenR ?_
                    exact N.retH [_] ⟨_, _, rfl, rfl, rfl⟩ ⟨congrArg Value.bool (rt_of (by (try simp only [cntV, decide_eq_true_eq, Bool.false_eq_true, false_iff, true_iff, nd_eq, knd]); first | grind [rtP] | (unfold rtP; simp_all; omega))), hkk⟩
                · refine X.asg rfl rfl rfl rfl rfl ?_
                  refine X.done [(1, _), (2, _), (3, _), (4, _), (18, _), (54, _)] ⟨rfl, rfl, rfl, rfl, rfl, rfl, trivial⟩ ?_
                  refine N.then ?_
                  refine E.condF rfl ?_
                  refine E.seq ?_
                  refine E.region ?_
                  refine X.eql rfl rfl rfl rfl rfl rfl ?_
                  refine X.asg rfl rfl rfl rfl rfl ?_
                  refine X.done [(1, _), (2, _), (4, _), (67, _)] ⟨rfl, rfl, rfl, rfl, trivial⟩ ?_
                  refine N.then ?_
                  refine E.condD rfl (fun hc => ?_) (fun hc => ?_)
                  · refine E.seq ?_
                    refine E.region ?_
                    refine X.fld rfl rfl rfl rfl rfl Tryd.off38_1 ?_
                    refine X.ld rfl rfl rfl rfl Tryd.ag3 (hb1) (rfl) ?_
                    refine X.eqlC rfl rfl rfl rfl rfl rfl (fun hc => ?_) (fun hc => ?_)
                    · refine X.mv rfl rfl rfl rfl rfl ?_
                      refine X.mv rfl rfl rfl rfl rfl ?_
                      rcases Decidable.em (x.set = s0) with hz | hz
                      rw [decide_eq_true hz]
                      rotate_left
                      rw [decide_eq_false hz]
                      rotate_left
                      · refine X.pickT rfl rfl rfl rfl rfl rfl ?_
                        refine X.mv rfl rfl rfl rfl rfl ?_
                        refine X.fld rfl rfl rfl rfl rfl Tryd.off38_3 ?_
                        refine X.ld rfl rfl rfl rfl Tryd.ag3 (hb1) (rfl) ?_
                        refine X.geqC rfl rfl rfl rfl rfl rfl (fun hc => ?_) (fun hc => ?_)
                        · refine X.pickT rfl rfl rfl rfl rfl rfl ?_
                          refine X.mv rfl rfl rfl rfl rfl ?_
                          refine X.fld rfl rfl rfl rfl rfl Tryd.off38_3 ?_
                          refine X.ld rfl rfl rfl rfl Tryd.ag3 (hb1) (rfl) ?_
                          refine X.leqC rfl rfl rfl rfl rfl rfl (fun hc => ?_) (fun hc => ?_)
                          · refine X.pickT rfl rfl rfl rfl rfl rfl ?_
                            refine X.mv rfl rfl rfl rfl rfl ?_
                            refine X.fld rfl rfl rfl rfl rfl Tryd.off38_4 ?_
                            refine X.ld rfl rfl rfl rfl Tryd.ag3 (hb1) (rfl) ?_
                            refine X.eqlC rfl rfl rfl rfl rfl rfl (fun hc => ?_) (fun hc => ?_)
                            · refine X.mv rfl rfl rfl rfl rfl ?_
                              refine X.skip rfl rfl rfl ?_
                              refine X.skip rfl rfl rfl ?_
                              refine X.skip rfl rfl rfl ?_
                              refine X.skip rfl rfl rfl ?_
                              refine X.skip rfl rfl rfl ?_
                              refine X.skip rfl rfl rfl ?_
                              refine X.skip rfl rfl rfl ?_
                              refine X.skip rfl rfl rfl ?_
                              refine X.skip rfl rfl rfl ?_
                              refine X.skip rfl rfl rfl ?_
                              refine X.pickT rfl rfl rfl rfl rfl rfl ?_
                              refine X.pickT rfl rfl rfl rfl rfl rfl ?_
                              refine X.asg rfl rfl rfl rfl rfl ?_
                              refine X.done [(2, _)] ⟨rfl, trivial⟩ ?_
                              refine N.then ?_
                              refine E.ret ?_
                              refine N.blkR ?_
                              refine N.thenR ?_
                              exact N.retH [_] ⟨_, _, rfl, rfl, rfl⟩ ⟨congrArg Value.bool (rt_of (by (try simp only [cntV, decide_eq_true_eq, Bool.false_eq_true, false_iff, true_iff, nd_eq, knd]); first | grind [rtP] | (unfold rtP; simp_all; omega))), hkk⟩
                            · refine X.mv rfl rfl rfl rfl rfl ?_
                              refine X.fld rfl rfl rfl rfl rfl Tryd.off38_4 ?_
                              refine X.ld rfl rfl rfl rfl Tryd.ag3 (hb1) (rfl) ?_
                              refine X.fld rfl rfl rfl rfl rfl Tryd.off38_3 ?_
                              refine X.ld rfl rfl rfl rfl Tryd.ag3 (hb1) (rfl) ?_
                              refine X.geqC rfl rfl rfl rfl rfl rfl (fun hc => ?_) (fun hc => ?_)
                              · refine X.mv rfl rfl rfl rfl rfl ?_
                                refine X.fld rfl rfl rfl rfl rfl Tryd.off38_4 ?_
                                refine X.ld rfl rfl rfl rfl Tryd.ag3 (hb1) (rfl) ?_
                                refine X.leq rfl rfl rfl rfl rfl rfl ?_
                                refine X.pickT rfl rfl rfl rfl rfl rfl ?_
                                refine X.pickF rfl rfl rfl rfl rfl rfl ?_
                                refine X.pickT rfl rfl rfl rfl rfl rfl ?_
                                refine X.asg rfl rfl rfl rfl rfl ?_
                                refine X.done [(2, _)] ⟨rfl, trivial⟩ ?_
                                refine N.then ?_
                                refine E.ret ?_
                                refine N.blkR ?_
                                refine N.thenR ?_
                                exact N.retH [_] ⟨_, _, rfl, rfl, rfl⟩ ⟨congrArg Value.bool (rt_of (by (try simp only [cntV, decide_eq_true_eq, Bool.false_eq_true, false_iff, true_iff, nd_eq, knd]); first | grind [rtP] | (unfold rtP; simp_all; omega))), hkk⟩
                              · refine X.mv rfl rfl rfl rfl rfl ?_
                                refine X.skip rfl rfl rfl ?_
                                refine X.skip rfl rfl rfl ?_
                                refine X.skip rfl rfl rfl ?_
                                refine X.pickF rfl rfl rfl rfl rfl rfl ?_
                                refine X.pickF rfl rfl rfl rfl rfl rfl ?_
                                refine X.pickT rfl rfl rfl rfl rfl rfl ?_
                                refine X.asg rfl rfl rfl rfl rfl ?_
                                refine X.done [(2, _)] ⟨rfl, trivial⟩ ?_
                                refine N.then ?_
                                refine E.ret ?_
                                refine N.blkR ?_
                                refine N.thenR ?_
                                exact N.retH [_] ⟨_, _, rfl, rfl, rfl⟩ ⟨congrArg Value.bool (rt_of (by (try simp only [cntV, decide_eq_true_eq, Bool.false_eq_true, false_iff, true_iff, nd_eq, knd]); first | grind [rtP] | (unfold rtP; simp_all; omega))), hkk⟩
                          · refine X.pickT rfl rfl rfl rfl rfl rfl ?_
                            refine X.mv rfl rfl rfl rfl rfl ?_
                            refine X.skip rfl rfl rfl ?_
                            refine X.skip rfl rfl rfl ?_
                            refine X.skip rfl rfl rfl ?_
                            refine X.skip rfl rfl rfl ?_
                            refine X.skip rfl rfl rfl ?_
                            refine X.skip rfl rfl rfl ?_
                            refine X.skip rfl rfl rfl ?_
                            refine X.skip rfl rfl rfl ?_
                            refine X.skip rfl rfl rfl ?_
                            refine X.skip rfl rfl rfl ?_
                            refine X.skip rfl rfl rfl ?_
                            refine X.skip rfl rfl rfl ?_
                            refine X.skip rfl rfl rfl ?_
                            refine X.skip rfl rfl rfl ?_
                            refine X.skip rfl rfl rfl ?_
                            refine X.pickF rfl rfl rfl rfl rfl rfl ?_
                            refine X.asg rfl rfl rfl rfl rfl ?_
                            refine X.done [(2, _)] ⟨rfl, trivial⟩ ?_
                            refine N.then ?_
                            refine E.ret ?_
                            refine N.blkR ?_
                            refine N.thenR ?_
                            exact N.retH [_] ⟨_, _, rfl, rfl, rfl⟩ ⟨congrArg Value.bool (rt_of (by (try simp only [cntV, decide_eq_true_eq, Bool.false_eq_true, false_iff, true_iff, nd_eq, knd]); first | grind [rtP] | (unfold rtP; simp_all; omega))), hkk⟩
                        · refine X.pickT rfl rfl rfl rfl rfl rfl ?_
                          refine X.mv rfl rfl rfl rfl rfl ?_
                          refine X.skip rfl rfl rfl ?_
                          refine X.skip rfl rfl rfl ?_
                          refine X.skip rfl rfl rfl ?_
                          refine X.pickF rfl rfl rfl rfl rfl rfl ?_
                          refine X.mv rfl rfl rfl rfl rfl ?_
                          refine X.skip rfl rfl rfl ?_
                          refine X.skip rfl rfl rfl ?_
                          refine X.skip rfl rfl rfl ?_
                          refine X.skip rfl rfl rfl ?_
                          refine X.skip rfl rfl rfl ?_
                          refine X.skip rfl rfl rfl ?_
                          refine X.skip rfl rfl rfl ?_
                          refine X.skip rfl rfl rfl ?_
                          refine X.skip rfl rfl rfl ?_
                          refine X.skip rfl rfl rfl ?_
                          refine X.skip rfl rfl rfl ?_
                          refine X.skip rfl rfl rfl ?_
                          refine X.skip rfl rfl rfl ?_
                          refine X.skip rfl rfl rfl ?_
                          refine X.skip rfl rfl rfl ?_
                          refine X.pickF rfl rfl rfl rfl rfl rfl ?_
                          refine X.asg rfl rfl rfl rfl rfl ?_
                          refine X.done [(2, _)] ⟨rfl, trivial⟩ ?_
                          refine N.then ?_
                          refine E.ret ?_
                          refine N.blkR ?_
                          refine N.thenR ?_
                          exact N.retH [_] ⟨_, _, rfl, rfl, rfl⟩ ⟨congrArg Value.bool (rt_of (by (try simp only [cntV, decide_eq_true_eq, Bool.false_eq_true, false_iff, true_iff, nd_eq, knd]); first | grind [rtP] | (unfold rtP; simp_all; omega))), hkk⟩
                      · refine X.pickT rfl rfl rfl rfl rfl rfl ?_
                        refine X.mv rfl rfl rfl rfl rfl ?_
                        refine X.skip rfl rfl rfl ?_
                        refine X.skip rfl rfl rfl ?_
                        refine X.skip rfl rfl rfl ?_
                        refine X.pickF rfl rfl rfl rfl rfl rfl ?_
                        refine X.mv rfl rfl rfl rfl rfl ?_
                        refine X.skip rfl rfl rfl ?_
                        refine X.skip rfl rfl rfl ?_
                        refine X.skip rfl rfl rfl ?_
                        refine X.pickF rfl rfl rfl rfl rfl rfl ?_
                        refine X.mv rfl rfl rfl rfl rfl ?_
                        refine X.skip rfl rfl rfl ?_
                        refine X.skip rfl rfl rfl ?_
                        refine X.skip rfl rfl rfl ?_
                        refine X.skip rfl rfl rfl ?_
                        refine X.skip rfl rfl rfl ?_
                        refine X.skip rfl rfl rfl ?_
                        refine X.skip rfl rfl rfl ?_
                        refine X.skip rfl rfl rfl ?_
                        refine X.skip rfl rfl rfl ?_
                        refine X.skip rfl rfl rfl ?_
                        refine X.skip rfl rfl rfl ?_
                        refine X.skip rfl rfl rfl ?_
                        refine X.skip rfl rfl rfl ?_
                        refine X.skip rfl rfl rfl ?_
                        refine X.skip rfl rfl rfl ?_
                        refine X.pickF rfl rfl rfl rfl rfl rfl ?_
                        refine X.asg rfl rfl rfl rfl rfl ?_
                        refine X.done [(2, _)] ⟨rfl, trivial⟩ ?_
                        refine N.then ?_
                        refine E.ret ?_
                        refine N.blkR ?_
                        refine N.thenR ?_
                        exact N.retH [_] ⟨_, _, rfl, rfl, rfl⟩ ⟨congrArg Value.bool (rt_of (by (try simp only [cntV, decide_eq_true_eq, Bool.false_eq_true, false_iff, true_iff, nd_eq, knd]); first | grind [rtP] | (unfold rtP; simp_all; omega))), hkk⟩
                    · refine X.mv rfl rfl rfl rfl rfl ?_
                      refine X.skip rfl rfl rfl ?_
                      refine X.pickF rfl rfl rfl rfl rfl rfl ?_
                      refine X.mv rfl rfl rfl rfl rfl ?_
                      refine X.skip rfl rfl rfl ?_
                      refine X.skip rfl rfl rfl ?_
                      refine X.skip rfl rfl rfl ?_
                      refine X.pickF rfl rfl rfl rfl rfl rfl ?_
                      refine X.mv rfl rfl rfl rfl rfl ?_
                      refine X.skip rfl rfl rfl ?_
                      refine X.skip rfl rfl rfl ?_
                      refine X.skip rfl rfl rfl ?_
                      refine X.pickF rfl rfl rfl rfl rfl rfl ?_
                      refine X.mv rfl rfl rfl rfl rfl ?_
                      refine X.skip rfl rfl rfl ?_
                      refine X.skip rfl rfl rfl ?_
                      refine X.skip rfl rfl rfl ?_
                      refine X.skip rfl rfl rfl ?_
                      refine X.skip rfl rfl rfl ?_
                      refine X.skip rfl rfl rfl ?_
                      refine X.skip rfl rfl rfl ?_
                      refine X.skip rfl rfl rfl ?_
                      refine X.skip rfl rfl rfl ?_
                      refine X.skip rfl rfl rfl ?_
                      refine X.skip rfl rfl rfl ?_
                      refine X.skip rfl rfl rfl ?_
                      refine X.skip rfl rfl rfl ?_
                      refine X.skip rfl rfl rfl ?_
                      refine X.skip rfl rfl rfl ?_
                      refine X.pickF rfl rfl rfl rfl rfl rfl ?_
                      refine X.asg rfl rfl rfl rfl rfl ?_
                      refine X.done [(2, _)] ⟨rfl, trivial⟩ ?_
                      refine N.then ?_
                      refine E.ret ?_
                      refine N.blkR ?_
                      refine N.thenR ?_
                      exact N.retH [_] ⟨_, _, rfl, rfl, rfl⟩ ⟨congrArg Value.bool (rt_of (by (try simp only [cntV, decide_eq_true_eq, Bool.false_eq_true, false_iff, true_iff, nd_eq, knd]); first | grind [rtP] | (unfold rtP; simp_all; omega))), hkk⟩
                  · refine E.skip ?_
                    refine N.blk ?_
                    refine N.then ?_
                    refine E.seq ?_
                    refine E.region ?_
                    refine X.asg rfl rfl rfl rfl rfl ?_
                    refine X.done [(2, _)] ⟨rfl, trivial⟩ ?_
                    refine N.then ?_
                    refine E.ret ?_
                    exact N.retH [_] ⟨_, _, rfl, rfl, rfl⟩ ⟨congrArg Value.bool (rt_of (by (try simp only [cntV, decide_eq_true_eq, Bool.false_eq_true, false_iff, true_iff, nd_eq, knd]); first | grind [rtP] | (unfold rtP; simp_all; omega))), hkk⟩

end Go.Proofs.YtcandjdomeompaaDoor