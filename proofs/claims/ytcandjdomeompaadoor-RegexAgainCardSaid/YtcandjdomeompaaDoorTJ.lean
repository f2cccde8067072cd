/- The walk: a text, read, shown and read again. -/
import Derived.Test.YtcandjdomeompaaDoorTI
namespace Go.Proofs.YtcandjdomeompaaDoor
open Go.SX Go.Chr
attribute [local irreducible] X E N Ct
set_option linter.unusedVariables false
set_option linter.unusedSimpArgs false

theorem again_ct (s : Bs) (H : Heap) (hT : Tab H) : Ct Tryd.prog 5 #[str s] H fun v H' => v = .bool true ∧ Kp [] H H' := by
  have hkk := Kp.refl [] H
  obtain ⟨l, e, b, hm⟩ : ∃ l e b, prs s = (l, e, b) := ⟨_, _, _, rfl⟩
  obtain ⟨m, f, g, hm2⟩ : ∃ m f g, prs (showV l) = (m, f, g) := ⟨_, _, _, rfl⟩
  refine Ct.into 76 Tryd.func5 rfl [(0, str s)] rfl ⟨rfl, trivial⟩ ?_
  refine E.seq ?_
  refine E.region ?_
  refine X.asg rfl rfl rfl rfl rfl ?_
  refine X.done [(0, _), (2, _)] ⟨rfl, rfl, trivial⟩ ?_
  refine N.then ?_
  refine E.seq ?_
  refine E.seq ?_
  refine E.region ?_
  refine X.mv rfl rfl rfl rfl rfl ?_
  refine X.lenL rfl rfl rfl rfl rfl Tryd.underlying9 ?_
  refine X.gtr rfl rfl rfl rfl rfl rfl ?_
  refine X.done [(0, _), (2, _), (12, _)] ⟨rfl, rfl, rfl, trivial⟩ ?_
  refine N.then ?_
  refine E.condD rfl (fun hc => ?_) (fun hc => ?_)
  · refine E.seq ?_
    refine E.region ?_
    refine X.call rfl rfl rfl rfl rfl Tryd.cl7 (known_ct _ (tabN hT hkk)) ?_
    rintro _ H9 ⟨rfl, hk9⟩
    replace hkk := hkk.trans hk9 (by simp)
    refine X.asg rfl rfl rfl rfl rfl ?_
    refine X.done [(0, _), (2, _)] ⟨rfl, rfl, trivial⟩ ?_
    refine N.then ?_
    refine E.ret ?_
    refine N.thenR ?_
    exact N.retH [_] ⟨_, _, rfl, rfl, rfl⟩ ⟨rfl, hkk⟩
  · refine E.skip ?_
    refine N.then ?_
    refine E.seq ?_
    refine E.region ?_
    refine X.mv rfl rfl rfl rfl rfl ?_
    refine X.call rfl rfl rfl rfl rfl Tryd.cl14 (parseA_ct s l e b hm _ (tabN hT hkk)) ?_
    rintro _ H3 ⟨w, rfl, hr, hk3⟩
    replace hkk := hkk.trans hk3 (by simp)
    have hN := hr.1
    obtain ⟨wa, wc, rfl⟩ := hN.sl
    refine X.mv rfl rfl rfl rfl rfl ?_
    refine X.extract rfl rfl rfl rfl rfl rfl ?_
    refine X.extract rfl rfl rfl rfl rfl rfl ?_
    refine X.extract rfl rfl rfl rfl rfl rfl ?_
    refine X.asg rfl rfl rfl rfl rfl ?_
    refine X.asg rfl rfl rfl rfl rfl ?_
    refine X.asg rfl rfl rfl rfl rfl ?_
    refine X.done [(0, _), (2, _), (3, _), (4, _), (5, _)] ⟨rfl, rfl, rfl, rfl, rfl, trivial⟩ ?_
    refine N.then ?_
    refine E.seq ?_
    refine E.seq ?_
    refine E.region ?_
    refine X.mv rfl rfl rfl rfl rfl ?_
    refine X.neq rfl rfl rfl rfl rfl rfl ?_
    refine X.done [(0, _), (2, _), (3, _), (5, _), (21, _)] ⟨rfl, rfl, rfl, rfl, rfl, trivial⟩ ?_
    refine N.then ?_
    refine E.condD rfl (fun hc => ?_) (fun hc => ?_)
    · refine E.seq ?_
      have hbad := (prs_law hm).2 (by assumption)
      have hl0 : l.length = 0 := by rw [hbad.1]; rfl
      refine E.region ?_
      refine X.mv rfl rfl rfl rfl rfl ?_
      refine X.lenS rfl rfl rfl rfl rfl Tryd.underlying22 ?_
      refine X.eqlT rfl rfl rfl rfl rfl rfl (by omega) ?_
      refine X.mv rfl rfl rfl rfl rfl ?_
      refine X.mv rfl rfl rfl rfl rfl ?_
      refine X.geqT rfl rfl rfl rfl rfl rfl (by omega) ?_
      refine X.pickT rfl rfl rfl rfl rfl rfl ?_
      refine X.mv rfl rfl rfl rfl rfl ?_
      refine X.mv rfl rfl rfl rfl rfl ?_
      refine X.mv rfl rfl rfl rfl rfl ?_
      refine X.lenL rfl rfl rfl rfl rfl Tryd.underlying9 ?_
      refine X.leqT rfl rfl rfl rfl rfl rfl (by omega) ?_
      refine X.pickT rfl rfl rfl rfl rfl rfl ?_
      refine X.mv rfl rfl rfl rfl rfl ?_
      refine X.call rfl rfl rfl rfl rfl Tryd.cl7 (known_ct _ (tabN hT hkk)) ?_
      rintro _ H9 ⟨rfl, hk9⟩
      replace hkk := hkk.trans hk9 (by simp)
      refine X.pickT rfl rfl rfl rfl rfl rfl ?_
      refine X.asg rfl rfl rfl rfl rfl ?_
      refine X.done [(2, _), (3, _), (5, _)] ⟨rfl, rfl, rfl, trivial⟩ ?_
      refine N.then ?_
      refine E.ret ?_
      refine N.thenR ?_
      exact N.retH [_] ⟨_, _, rfl, rfl, rfl⟩ ⟨rfl, hkk⟩
    · refine E.skip ?_
      refine N.then ?_
      refine E.seq ?_
      obtain ⟨hck, hb0⟩ := (prs_law hm).1 (by omega)
      obtain ⟨t, hlt, hRt, hl4⟩ := chk_tree hck
      have hsv : showV l = shT t := showV_t hck hlt hRt.wf
      refine E.region ?_
      refine X.mv rfl rfl rfl rfl rfl ?_
      refine X.call rfl rfl rfl rfl rfl Tryd.cl10 (show15_ct l wa wc _ hN (tabN hT hkk) (by omega)) ?_
      rintro _ H6 ⟨rfl, hkz⟩
      replace hkk := hkk.trans hkz (by simp)
      replace hN := hN.keepN hkz
      refine X.asg rfl rfl rfl rfl rfl ?_
      refine X.done [(2, _), (3, _), (5, _), (6, _)] ⟨rfl, rfl, rfl, rfl, trivial⟩ ?_
      refine N.then ?_
      refine E.seq ?_
      refine E.region ?_
      refine X.mv rfl rfl rfl rfl rfl ?_
      refine X.call rfl rfl rfl rfl rfl Tryd.cl14 (parseA_ct (showV l) m f g hm2 _ (tabN hT hkk)) ?_
      rintro _ H7 ⟨w2, rfl, hr2, hkz⟩
      replace hkk := hkk.trans hkz (by simp)
      replace hN := hN.keepN hkz
      have hM := hr2.1
      obtain ⟨wa2, wc2, rfl⟩ := hM.sl
      refine X.mv rfl rfl rfl rfl rfl ?_
      refine X.extract rfl rfl rfl rfl rfl rfl ?_
      refine X.extract rfl rfl rfl rfl rfl rfl ?_
      refine X.extract rfl rfl rfl rfl rfl rfl ?_
      refine X.asg rfl rfl rfl rfl rfl ?_
      refine X.asg rfl rfl rfl rfl rfl ?_
      refine X.asg rfl rfl rfl rfl rfl ?_
      refine X.done [(2, _), (3, _), (5, _), (6, _), (7, _), (8, _)] ⟨rfl, rfl, rfl, rfl, rfl, rfl, trivial⟩ ?_
      refine N.then ?_
      refine E.seq ?_
      refine E.region ?_
      refine X.mv rfl rfl rfl rfl rfl ?_
      refine X.call rfl rfl rfl rfl rfl Tryd.cl8 (check_ct l wa wc _ hN (by omega)) ?_
      rintro _ H8 ⟨rfl, hkz⟩
      replace hkk := hkk.trans hkz (by simp)
      replace hN := hN.keepN hkz
      replace hM := hM.keepN hkz
      refine X.eqlT rfl rfl rfl rfl rfl rfl (by rw [hck]) ?_
      refine X.mv rfl rfl rfl rfl rfl ?_
      refine X.mv rfl rfl rfl rfl rfl ?_
      refine X.eqlT rfl rfl rfl rfl rfl rfl (by omega) ?_
      refine X.pickT rfl rfl rfl rfl rfl rfl ?_
      refine X.mv rfl rfl rfl rfl rfl ?_
      refine X.mv rfl rfl rfl rfl rfl ?_
      refine X.lenL rfl rfl rfl rfl rfl Tryd.underlying9 ?_
      refine X.gtrC rfl rfl rfl rfl rfl rfl (fun hc => ?_) (fun hc => ?_)
      · refine X.mv rfl rfl rfl rfl rfl ?_
        refine X.skip rfl rfl rfl ?_
        refine X.skip rfl rfl rfl ?_
        refine X.skip rfl rfl rfl ?_
        refine X.skip rfl rfl rfl ?_
        refine X.skip rfl rfl rfl ?_
        refine X.skip rfl rfl rfl ?_
        refine X.skip rfl rfl rfl ?_
        refine X.skip rfl rfl rfl ?_
        refine X.skip rfl rfl rfl ?_
        refine X.skip rfl rfl rfl ?_
        refine X.skip rfl rfl rfl ?_
        refine X.skip rfl rfl rfl ?_
        refine X.skip rfl rfl rfl ?_
        refine X.pickT rfl rfl rfl rfl rfl rfl ?_
        refine X.pickT rfl rfl rfl rfl rfl rfl ?_
        refine X.mv rfl rfl rfl rfl rfl ?_
        refine X.call rfl rfl rfl rfl rfl Tryd.cl7 (known_ct _ (tabN hT hkk)) ?_
        rintro _ H9 ⟨rfl, hk9⟩
        replace hkk := hkk.trans hk9 (by simp)
        refine X.pickT rfl rfl rfl rfl rfl rfl ?_
        refine X.asg rfl rfl rfl rfl rfl ?_
        refine X.done [(2, _)] ⟨rfl, trivial⟩ ?_
        refine N.then ?_
        refine E.ret ?_
        exact N.retH [_] ⟨_, _, rfl, rfl, rfl⟩ ⟨rfl, hkk⟩
      · refine X.mv rfl rfl rfl rfl rfl ?_
        have hps : prs (showV l) = (l, 0, 0) := by rw [hsv, hlt]; exact prs_show hRt (by rw [← hlt]; exact hl4) (by rw [← hsv]; omega)
        rw [hm2] at hps
        have hml : m = l := congrArg Prod.fst hps
        have hf0 : f = 0 := congrArg (fun q => q.2.1) hps
        refine X.mv rfl rfl rfl rfl rfl ?_
        refine X.eqlT rfl rfl rfl rfl rfl rfl (by rw [hf0]) ?_
        refine X.mv rfl rfl rfl rfl rfl ?_
        refine X.mv rfl rfl rfl rfl rfl ?_
        refine X.mv rfl rfl rfl rfl rfl ?_
        refine X.call rfl rfl rfl rfl rfl Tryd.cl15 (same_ct m l wa2 wc2 wa wc _ hM hN (by rw [hml]; omega)) ?_
        rintro _ Hx ⟨rfl, e9⟩
        obtain rfl := e9.symm
        rw [decide_eq_true hml]
        refine X.pickT rfl rfl rfl rfl rfl rfl ?_
        refine X.mv rfl rfl rfl rfl rfl ?_
        refine X.mv rfl rfl rfl rfl rfl ?_
        refine X.call rfl rfl rfl rfl rfl Tryd.cl10 (show15_ct m wa2 wc2 _ hM (tabN hT hkk) (by rw [hml]; omega)) ?_
        rintro _ Hy ⟨rfl, hkz⟩
        replace hkk := hkk.trans hkz (by simp)
        replace hN := hN.keepN hkz
        replace hM := hM.keepN hkz
        refine X.mv rfl rfl rfl rfl rfl ?_
        refine X.eqlST rfl rfl rfl rfl rfl rfl (by rw [hml]) ?_
        refine X.pickT rfl rfl rfl rfl rfl rfl ?_
        refine X.pickF rfl rfl rfl rfl rfl rfl ?_
        refine X.pickT rfl rfl rfl rfl rfl rfl ?_
        refine X.mv rfl rfl rfl rfl rfl ?_
        refine X.call rfl rfl rfl rfl rfl Tryd.cl7 (known_ct _ (tabN hT hkk)) ?_
        rintro _ H9 ⟨rfl, hk9⟩
        replace hkk := hkk.trans hk9 (by simp)
        refine X.pickT rfl rfl rfl rfl rfl rfl ?_
        refine X.asg rfl rfl rfl rfl rfl ?_
        refine X.done [(2, _)] ⟨rfl, trivial⟩ ?_
        refine N.then ?_
        refine E.ret ?_
        exact N.retH [_] ⟨_, _, rfl, rfl, rfl⟩ ⟨rfl, hkk⟩

end Go.Proofs.YtcandjdomeompaaDoor