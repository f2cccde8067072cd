/- The walk: a tree, shown and read again. -/
import Derived.Test.YtcandjdomeompaaDoorTH
namespace Go.Proofs.YtcandjdomeompaaDoor
open Go.SX Go.Chr
attribute [local irreducible] X E N Ct
set_option linter.unusedVariables false
set_option linter.unusedSimpArgs false

theorem back_ct (l : List Nd) (a : Option Addr) (c : Nat) (H : Heap) (hN : NR H (.slice a l.length c) l) (hT : Tab H) : Ct Tryd.prog 4 #[(.slice a l.length c)] H fun v H' => v = .bool true ∧ Kp [] H H' := by
  have hkk := Kp.refl [] H
  obtain ⟨m, e, b, hm⟩ : ∃ m e b, prs (showV l) = (m, e, b) := ⟨_, _, _, rfl⟩
  refine Ct.into 47 Tryd.func4 rfl [(0, (.slice a l.length c))] rfl ⟨rfl, trivial⟩ ?_
  refine E.seq ?_
  refine E.region ?_
  refine X.asg rfl rfl rfl rfl rfl ?_
  refine X.done [(0, _), (2, _)] ⟨rfl, rfl, trivial⟩ ?_
  refine N.then ?_
  refine E.seq ?_
  refine E.seq ?_
  refine E.region ?_
  refine X.mv rfl rfl rfl rfl rfl ?_
  refine X.lenS rfl rfl rfl rfl rfl Tryd.underlying22 ?_
  refine X.gtr rfl rfl rfl rfl rfl rfl ?_
  refine X.done [(0, _), (2, _), (9, _)] ⟨rfl, rfl, rfl, trivial⟩ ?_
  refine N.then ?_
  refine E.condD rfl (fun hc => ?_) (fun hc => ?_)
  · refine E.seq ?_
    refine E.region ?_
    refine X.call rfl rfl rfl rfl rfl Tryd.cl7 (known_ct _ (tabN hT hkk)) ?_
    rintro _ H9 ⟨rfl, hk9⟩
    replace hkk := hkk.trans hk9 (by simp)
    refine X.asg rfl rfl rfl rfl rfl ?_
    refine X.done [(0, _), (2, _)] ⟨rfl, rfl, trivial⟩ ?_
    refine N.then ?_
    refine E.ret ?_
    refine N.thenR ?_
    exact N.retH [_] ⟨_, _, rfl, rfl, rfl⟩ ⟨rfl, hkk⟩
  · refine E.skip ?_
    refine N.then ?_
    refine E.seq ?_
    refine E.region ?_
    refine X.mv rfl rfl rfl rfl rfl ?_
    refine X.call rfl rfl rfl rfl rfl Tryd.cl10 (show15_ct l a c _ hN (tabN hT hkk) (by omega)) ?_
    rintro _ H1 ⟨rfl, hkz⟩
    replace hkk := hkk.trans hkz (by simp)
    replace hN := hN.keepN hkz
    refine X.asg rfl rfl rfl rfl rfl ?_
    refine X.done [(0, _), (2, _), (3, _)] ⟨rfl, rfl, rfl, trivial⟩ ?_
    refine N.then ?_
    refine E.seq ?_
    refine E.seq ?_
    refine E.region ?_
    refine X.mv rfl rfl rfl rfl rfl ?_
    refine X.call rfl rfl rfl rfl rfl Tryd.cl8 (check_ct l a c _ hN (by omega)) ?_
    rintro _ H2 ⟨rfl, hkz⟩
    replace hkk := hkk.trans hkz (by simp)
    replace hN := hN.keepN hkz
    refine X.neq rfl rfl rfl rfl rfl rfl ?_
    refine X.done [(0, _), (2, _), (3, _), (15, _)] ⟨rfl, rfl, rfl, rfl, trivial⟩ ?_
    refine N.then ?_
    refine E.condD rfl (fun hc => ?_) (fun hc => ?_)
    · refine E.seq ?_
      refine E.region ?_
      refine X.mv rfl rfl rfl rfl rfl ?_
      refine X.eqlST rfl rfl rfl rfl rfl rfl (by rw [showV_n (by assumption)]) ?_
      refine X.mv rfl rfl rfl rfl rfl ?_
      refine X.call rfl rfl rfl rfl rfl Tryd.cl7 (known_ct _ (tabN hT hkk)) ?_
      rintro _ H9 ⟨rfl, hk9⟩
      replace hkk := hkk.trans hk9 (by simp)
      refine X.pickT rfl rfl rfl rfl rfl rfl ?_
      refine X.asg rfl rfl rfl rfl rfl ?_
      refine X.done [(0, _), (2, _), (3, _)] ⟨rfl, rfl, rfl, trivial⟩ ?_
      refine N.then ?_
      refine E.ret ?_
      refine N.thenR ?_
      exact N.retH [_] ⟨_, _, rfl, rfl, rfl⟩ ⟨rfl, hkk⟩
    · refine E.skip ?_
      refine N.then ?_
      refine E.seq ?_
      refine E.region ?_
      refine X.mv rfl rfl rfl rfl rfl ?_
      refine X.call rfl rfl rfl rfl rfl Tryd.cl14 (parseA_ct (showV l) m e b hm _ (tabN hT hkk)) ?_
      rintro _ H4 ⟨w, rfl, hr, hk4⟩
      replace hkk := hkk.trans hk4 (by simp)
      replace hN := hN.keepN hk4
      have hr0 := hr.1
      obtain ⟨wa, wc, rfl⟩ := hr0.sl
      obtain ⟨t, hlt, hRt, hl4⟩ := chk_tree (show chkV l = 0 by omega)
      have hsv : showV l = shT t := showV_t (by omega) hlt hRt.wf
      have hpos : 0 < (showV l).length := by
        obtain ⟨d, r, ed, _⟩ := start t hRt
        rw [hsv, ed]; simp
      refine X.mv rfl rfl rfl rfl rfl ?_
      refine X.extract rfl rfl rfl rfl rfl rfl ?_
      refine X.extract rfl rfl rfl rfl rfl rfl ?_
      refine X.extract rfl rfl rfl rfl rfl rfl ?_
      refine X.asg rfl rfl rfl rfl rfl ?_
      refine X.asg rfl rfl rfl rfl rfl ?_
      refine X.asg rfl rfl rfl rfl rfl ?_
      refine X.done [(0, _), (2, _), (3, _), (4, _), (5, _)] ⟨rfl, rfl, rfl, rfl, rfl, trivial⟩ ?_
      refine N.then ?_
      refine E.seq ?_
      refine E.region ?_
      refine X.mv rfl rfl rfl rfl rfl ?_
      refine X.lenL rfl rfl rfl rfl rfl Tryd.underlying9 ?_
      refine X.gtrT rfl rfl rfl rfl rfl rfl (by omega) ?_
      refine X.mv rfl rfl rfl rfl rfl ?_
      refine X.mv rfl rfl rfl rfl rfl ?_
      refine X.lenL rfl rfl rfl rfl rfl Tryd.underlying9 ?_
      refine X.gtrC rfl rfl rfl rfl rfl rfl (fun hc => ?_) (fun hc => ?_)
      · refine X.mv rfl rfl rfl rfl rfl ?_
        refine X.skip rfl rfl rfl ?_
        refine X.skip rfl rfl rfl ?_
        refine X.skip rfl rfl rfl ?_
        refine X.skip rfl rfl rfl ?_
        refine X.skip rfl rfl rfl ?_
        refine X.skip rfl rfl rfl ?_
        refine X.skip rfl rfl rfl ?_
        refine X.pickT rfl rfl rfl rfl rfl rfl ?_
        refine X.pickT rfl rfl rfl rfl rfl rfl ?_
        refine X.mv rfl rfl rfl rfl rfl ?_
        refine X.call rfl rfl rfl rfl rfl Tryd.cl7 (known_ct _ (tabN hT hkk)) ?_
        rintro _ H9 ⟨rfl, hk9⟩
        replace hkk := hkk.trans hk9 (by simp)
        refine X.pickT rfl rfl rfl rfl rfl rfl ?_
        refine X.asg rfl rfl rfl rfl rfl ?_
        refine X.done [(2, _)] ⟨rfl, trivial⟩ ?_
        refine N.then ?_
        refine E.ret ?_
        exact N.retH [_] ⟨_, _, rfl, rfl, rfl⟩ ⟨rfl, hkk⟩
      · refine X.mv rfl rfl rfl rfl rfl ?_
        have hps : prs (showV l) = (l, 0, 0) := by rw [hsv, hlt]; exact prs_show hRt (by rw [← hlt]; exact hl4) (by rw [← hsv]; omega)
        rw [hm] at hps
        have hml : m = l := congrArg Prod.fst hps
        have he0 : e = 0 := congrArg (fun q => q.2.1) hps
        refine X.mv rfl rfl rfl rfl rfl ?_
        refine X.eqlT rfl rfl rfl rfl rfl rfl (by rw [he0]) ?_
        refine X.mv rfl rfl rfl rfl rfl ?_
        refine X.mv rfl rfl rfl rfl rfl ?_
        refine X.mv rfl rfl rfl rfl rfl ?_
        refine X.call rfl rfl rfl rfl rfl Tryd.cl15 (same_ct m l wa wc a c _ hr0 hN (by rw [hml]; omega)) ?_
        rintro _ Hx ⟨rfl, e9⟩
        obtain rfl := e9.symm
        rw [decide_eq_true hml]
        refine X.pickT rfl rfl rfl rfl rfl rfl ?_
        refine X.pickF rfl rfl rfl rfl rfl rfl ?_
        refine X.pickT rfl rfl rfl rfl rfl rfl ?_
        refine X.mv rfl rfl rfl rfl rfl ?_
        refine X.call rfl rfl rfl rfl rfl Tryd.cl7 (known_ct _ (tabN hT hkk)) ?_
        rintro _ H9 ⟨rfl, hk9⟩
        replace hkk := hkk.trans hk9 (by simp)
        refine X.pickT rfl rfl rfl rfl rfl rfl ?_
        refine X.asg rfl rfl rfl rfl rfl ?_
        refine X.done [(2, _)] ⟨rfl, trivial⟩ ?_
        refine N.then ?_
        refine E.ret ?_
        exact N.retH [_] ⟨_, _, rfl, rfl, rfl⟩ ⟨rfl, hkk⟩

end Go.Proofs.YtcandjdomeompaaDoor