/- The walks: trees. -/
import Derived.Test.YtcandjdomeompaaDoorTG
import Derived.Test.YtcandjdomeompaaDoorTFb
namespace Go.Proofs.YtcandjdomeompaaDoor
open Go.SX Go.Chr
attribute [local irreducible] X E N Ct
set_option linter.unusedVariables false
set_option linter.unusedSimpArgs false

theorem trees_ct (l : List Nd) (a : Option Addr) (c : Nat) (i : Int) (H : Heap) (hN : NR H (.slice a l.length c) l) (hT : Tab H) : Ct Tryd.prog 3 #[(.slice a l.length c), i64 i] H fun v H' => v = .bool true ∧ Kp [] H H' := by
  have hkk := Kp.refl [] H
  refine Ct.into 33 Tryd.func3 rfl [(0, (.slice a l.length c)), (1, i64 i)] rfl ⟨rfl, rfl, trivial⟩ ?_
  refine E.seq ?_
  refine E.region ?_
  refine X.asg rfl rfl rfl rfl rfl ?_
  refine X.done [(0, _), (1, _), (4, _)] ⟨rfl, rfl, rfl, trivial⟩ ?_
  refine N.then ?_
  refine E.seq ?_
  refine E.seq ?_
  refine E.region ?_
  refine X.mv rfl rfl rfl rfl rfl ?_
  refine X.lenS rfl rfl rfl rfl rfl Tryd.underlying22 ?_
  refine X.gtr rfl rfl rfl rfl rfl rfl ?_
  refine X.done [(0, _), (1, _), (4, _), (7, _)] ⟨rfl, rfl, rfl, rfl, trivial⟩ ?_
  refine N.then ?_
  refine E.condD rfl (fun hc => ?_) (fun hc => ?_)
  · refine E.seq ?_
    refine E.region ?_
    refine X.call rfl rfl rfl rfl rfl Tryd.cl7 (known_ct _ (tabN hT hkk)) ?_
    rintro _ H9 ⟨rfl, hk9⟩
    replace hkk := hkk.trans hk9 (by simp)
    refine X.asg rfl rfl rfl rfl rfl ?_
    refine X.done [(0, _), (1, _), (4, _)] ⟨rfl, rfl, rfl, trivial⟩ ?_
    refine N.then ?_
    refine E.ret ?_
    refine N.thenR ?_
    exact N.retH [_] ⟨_, _, rfl, rfl, rfl⟩ ⟨rfl, hkk⟩
  · refine E.skip ?_
    refine N.then ?_
    refine E.seq ?_
    refine E.region ?_
    refine X.mv rfl rfl rfl rfl rfl ?_
    refine X.call rfl rfl rfl rfl rfl Tryd.cl8 (check_ct l a c _ hN (by omega)) ?_
    rintro _ H1 ⟨rfl, hkz⟩
    replace hkk := hkk.trans hkz (by simp)
    replace hN := hN.keepN hkz
    refine X.mv rfl rfl rfl rfl rfl ?_
    refine X.call rfl rfl rfl rfl rfl Tryd.cl9 (rcheck_ct l a c _ hN (by omega)) ?_
    rintro _ H2 ⟨rfl, hkz⟩
    replace hkk := hkk.trans hkz (by simp)
    replace hN := hN.keepN hkz
    refine X.eqlT rfl rfl rfl rfl rfl rfl (rfl) ?_
    refine X.mv rfl rfl rfl rfl rfl ?_
    refine X.mv rfl rfl rfl rfl rfl ?_
    refine X.call rfl rfl rfl rfl rfl Tryd.cl10 (show15_ct l a c _ hN (tabN hT hkk) (by omega)) ?_
    rintro _ H3 ⟨rfl, hkz⟩
    replace hkk := hkk.trans hkz (by simp)
    replace hN := hN.keepN hkz
    refine X.mv rfl rfl rfl rfl rfl ?_
    refine X.call rfl rfl rfl rfl rfl Tryd.cl11 (rshow15_ct l a c _ hN (by omega)) ?_
    rintro _ H4 ⟨rfl, hkz⟩
    replace hkk := hkk.trans hkz (by simp)
    replace hN := hN.keepN hkz
    refine X.eqlST rfl rfl rfl rfl rfl rfl (rfl) ?_
    refine X.pickT rfl rfl rfl rfl rfl rfl ?_
    refine X.mv rfl rfl rfl rfl rfl ?_
    refine X.mv rfl rfl rfl rfl rfl ?_
    refine X.mv rfl rfl rfl rfl rfl ?_
    refine X.call rfl rfl rfl rfl rfl Tryd.cl12 (end_ct l a c i _ hN (by omega)) ?_
    rintro _ Hx ⟨rfl, e⟩
    obtain rfl := e.symm
    refine X.mv rfl rfl rfl rfl rfl ?_
    refine X.mv rfl rfl rfl rfl rfl ?_
    refine X.call rfl rfl rfl rfl rfl Tryd.cl13 (rend_ct l a c i _ hN (by omega)) ?_
    rintro _ Hx ⟨rfl, e⟩
    obtain rfl := e.symm
    refine X.eqlT rfl rfl rfl rfl rfl rfl (rfl) ?_
    refine X.pickT rfl rfl rfl rfl rfl rfl ?_
    refine X.mv rfl rfl rfl rfl rfl ?_
    refine X.call rfl rfl rfl rfl rfl Tryd.cl7 (known_ct _ (tabN hT hkk)) ?_
    rintro _ H9 ⟨rfl, hk9⟩
    replace hkk := hkk.trans hk9 (by simp)
    refine X.pickT rfl rfl rfl rfl rfl rfl ?_
    refine X.asg rfl rfl rfl rfl rfl ?_
    refine X.done [(4, _)] ⟨rfl, trivial⟩ ?_
    refine N.then ?_
    refine E.ret ?_
    exact N.retH [_] ⟨_, _, rfl, rfl, rfl⟩ ⟨rfl, hkk⟩

theorem empties_ct (l : List Nd) (a : Option Addr) (c : Nat) (H : Heap) (hN : NR H (.slice a l.length c) l) (hT : Tab H) : Ct Tryd.prog 6 #[(.slice a l.length c)] H fun v H' => v = .bool true ∧ Kp [] H H' := by
  have hkk := Kp.refl [] H
  refine Ct.into 24 Tryd.func6 rfl [(0, (.slice a l.length c))] rfl ⟨rfl, trivial⟩ ?_
  refine E.seq ?_
  refine E.region ?_
  refine X.asg rfl rfl rfl rfl rfl ?_
  refine X.done [(0, _), (2, _)] ⟨rfl, rfl, trivial⟩ ?_
  refine N.then ?_
  refine E.seq ?_
  refine E.seq ?_
  refine E.region ?_
  refine X.mv rfl rfl rfl rfl rfl ?_
  refine X.lenS rfl rfl rfl rfl rfl Tryd.underlying22 ?_
  refine X.gtr rfl rfl rfl rfl rfl rfl ?_
  refine X.done [(0, _), (2, _), (5, _)] ⟨rfl, rfl, rfl, trivial⟩ ?_
  refine N.then ?_
  refine E.condD rfl (fun hc => ?_) (fun hc => ?_)
  · refine E.seq ?_
    refine E.region ?_
    refine X.call rfl rfl rfl rfl rfl Tryd.cl7 (known_ct _ (tabN hT hkk)) ?_
    rintro _ H9 ⟨rfl, hk9⟩
    replace hkk := hkk.trans hk9 (by simp)
    refine X.asg rfl rfl rfl rfl rfl ?_
    refine X.done [(0, _), (2, _)] ⟨rfl, rfl, trivial⟩ ?_
    refine N.then ?_
    refine E.ret ?_
    refine N.thenR ?_
    exact N.retH [_] ⟨_, _, rfl, rfl, rfl⟩ ⟨rfl, hkk⟩
  · refine E.skip ?_
    refine N.then ?_
    refine E.seq ?_
    refine E.seq ?_
    refine E.region ?_
    refine X.mv rfl rfl rfl rfl rfl ?_
    refine X.call rfl rfl rfl rfl rfl Tryd.cl9 (rcheck_ct l a c _ hN (by omega)) ?_
    rintro _ H2 ⟨rfl, hkz⟩
    replace hkk := hkk.trans hkz (by simp)
    replace hN := hN.keepN hkz
    refine X.neq rfl rfl rfl rfl rfl rfl ?_
    refine X.done [(0, _), (2, _), (9, _)] ⟨rfl, rfl, rfl, trivial⟩ ?_
    refine N.then ?_
    refine E.condD rfl (fun hc => ?_) (fun hc => ?_)
    · refine E.seq ?_
      refine E.region ?_
      refine X.mv rfl rfl rfl rfl rfl ?_
      refine X.call rfl rfl rfl rfl rfl Tryd.cl16 (empty15_ct l a c _ hN (by omega)) ?_
      rintro _ H3 ⟨rfl, hkz⟩
      replace hkk := hkk.trans hkz (by simp)
      replace hN := hN.keepN hkz
      rw [emptyV_n (by assumption)]
      refine X.notF rfl rfl rfl rfl rfl ?_
      refine X.mv rfl rfl rfl rfl rfl ?_
      refine X.call rfl rfl rfl rfl rfl Tryd.cl7 (known_ct _ (tabN hT hkk)) ?_
      rintro _ H9 ⟨rfl, hk9⟩
      replace hkk := hkk.trans hk9 (by simp)
      refine X.pickT rfl rfl rfl rfl rfl rfl ?_
      refine X.asg rfl rfl rfl rfl rfl ?_
      refine X.done [(0, _), (2, _)] ⟨rfl, rfl, trivial⟩ ?_
      refine N.then ?_
      refine E.ret ?_
      refine N.thenR ?_
      exact N.retH [_] ⟨_, _, rfl, rfl, rfl⟩ ⟨rfl, hkk⟩
    · refine E.skip ?_
      refine N.then ?_
      refine E.seq ?_
      refine E.region ?_
      refine X.mv rfl rfl rfl rfl rfl ?_
      refine X.call rfl rfl rfl rfl rfl Tryd.cl16 (empty15_ct l a c _ hN (by omega)) ?_
      rintro _ H3 ⟨rfl, hkz⟩
      replace hkk := hkk.trans hkz (by simp)
      replace hN := hN.keepN hkz
      obtain ⟨t, hlt, hRt, hl4⟩ := chk_tree (show chkV l = 0 by omega)
      rw [emptyV_t (by omega) hlt hRt.wf]
      refine X.mv rfl rfl rfl rfl rfl ?_
      refine X.call rfl rfl rfl rfl rfl Tryd.cl17 (rempty_re l a c (by omega) t hRt [] [] 0 _ (by rw [List.nil_append, List.append_nil]; exact hlt) rfl hN) ?_
      rintro _ H4 ⟨rfl, hkz⟩
      replace hkk := hkk.trans hkz (by simp)
      replace hN := hN.keepN hkz
      refine X.eqlBT rfl rfl rfl rfl rfl rfl Tryd.underlying4 (rfl) ?_
      refine X.mv rfl rfl rfl rfl rfl ?_
      refine X.call rfl rfl rfl rfl rfl Tryd.cl7 (known_ct _ (tabN hT hkk)) ?_
      rintro _ H9 ⟨rfl, hk9⟩
      replace hkk := hkk.trans hk9 (by simp)
      refine X.pickT rfl rfl rfl rfl rfl rfl ?_
      refine X.asg rfl rfl rfl rfl rfl ?_
      refine X.done [(2, _)] ⟨rfl, trivial⟩ ?_
      refine N.then ?_
      refine E.ret ?_
      exact N.retH [_] ⟨_, _, rfl, rfl, rfl⟩ ⟨rfl, hkk⟩

end Go.Proofs.YtcandjdomeompaaDoor