/- The walks: fixed calls; what any lengths cost. -/
import Derived.Test.YtjlelcfabfmiaaaW7
namespace Go.Proofs.Ytjlelcfabfmiaaa
open Go.SX Go.Hf
attribute [local irreducible] X E N Ct
set_option linter.unusedVariables false
set_option linter.unusedSimpArgs false
theorem len_511 : lensV [5, 1, 1] 15 = [1, 2, 2] := by decide +kernel
theorem len_50 : lensV [5, 0] 15 = [1, 0] := by decide +kernel
theorem may_511 : (mayV [5, 1, 1] 15).2 = 0 := by decide +kernel
theorem may_50 : (mayV [5, 0] 15).2 = 0 := by decide +kernel
theorem may_111 : (mayV [1, 1, 1] 1).2 = 7 := by decide +kernel
theorem cost_511 : costV [5, 1, 1] [1, 2, 2] = 9 := by decide +kernel
theorem cost_nil : costV [] [1] = -1 := by decide +kernel

theorem known_ct (H : Heap) : Ct Try.prog 7 #[] H fun v H' => v = .bool true ∧ Kp [] H H' := by
  refine Ct.into 53 Try.func7 rfl [] rfl trivial ?_
  refine E.seq ?_
  refine E.region ?_
  refine X.asg rfl rfl rfl rfl rfl ?_
  refine X.done [(0, _)] ⟨rfl, trivial⟩ ?_
  refine N.then ?_
  refine E.seq ?_
  refine E.region ?_
  refine X.lit (e := 3) (cs := iv [5, 1, 1]) rfl rfl rfl rfl rfl (fun _ => by kernel_rfl) ?_
  intro b1 H1 hn1 hb1 hk1
  have hkk := hk1
  refine X.call rfl rfl rfl rfl rfl Try.cl8 (lengths_ct [5, 1, 1] (some ⟨b1, 0, none⟩) b1 0 3 15 H1 (Row1.cells0 hb1) (by decide)) ?_
  rintro v1 H2 ⟨hq1, hv1⟩
  rcases hv1 with ⟨h, _⟩ | ⟨_, l1, rfl, hl1, _⟩
  · exact absurd may_511 h
  rw [len_511] at hl1
  replace hkk := hkk.trans hq1 (by simp)
  refine X.mv rfl rfl rfl rfl rfl ?_
  refine X.extract rfl rfl rfl rfl rfl rfl ?_
  refine X.extract rfl rfl rfl rfl rfl rfl ?_
  refine X.asg rfl rfl rfl rfl rfl ?_
  refine X.asg rfl rfl rfl rfl rfl ?_
  refine X.done [(0, _), (1, _), (2, _)] ⟨rfl, rfl, rfl, trivial⟩ ?_
  refine N.then ?_
  refine E.seq ?_
  refine E.region ?_
  refine X.lit (e := 3) (cs := iv [5, 0]) rfl rfl rfl rfl rfl (fun _ => by kernel_rfl) ?_
  intro b2 H3 hn2 hb2 hk2
  replace hl1 := hk2.keep hl1 (by simp)
  replace hkk := hkk.trans hk2 (by simp)
  refine X.call rfl rfl rfl rfl rfl Try.cl8 (lengths_ct [5, 0] (some ⟨b2, 0, none⟩) b2 0 2 15 H3 (Row1.cells0 hb2) (by decide)) ?_
  rintro v2 H4 ⟨hq2, hv2⟩
  rcases hv2 with ⟨h, _⟩ | ⟨_, l2, rfl, hl2, _⟩
  · exact absurd may_50 h
  rw [len_50] at hl2
  replace hl1 := hq2.keep hl1 (by simp)
  replace hkk := hkk.trans hq2 (by simp)
  refine X.mv rfl rfl rfl rfl rfl ?_
  refine X.extract rfl rfl rfl rfl rfl rfl ?_
  refine X.extract rfl rfl rfl rfl rfl rfl ?_
  refine X.asg rfl rfl rfl rfl rfl ?_
  refine X.asg rfl rfl rfl rfl rfl ?_
  refine X.done [(0, _), (1, _), (2, _), (3, _), (4, _)] ⟨rfl, rfl, rfl, rfl, rfl, trivial⟩ ?_
  refine N.then ?_
  refine E.seq ?_
  refine E.region ?_
  refine X.lit (e := 3) (cs := iv [1, 1, 1]) rfl rfl rfl rfl rfl (fun _ => by kernel_rfl) ?_
  intro b3 H5 hn3 hb3 hk3
  replace hl1 := hk3.keep hl1 (by simp)
  replace hl2 := hk3.keep hl2 (by simp)
  replace hkk := hkk.trans hk3 (by simp)
  refine X.call rfl rfl rfl rfl rfl Try.cl8 (lengths_ct [1, 1, 1] (some ⟨b3, 0, none⟩) b3 0 3 1 H5 (Row1.cells0 hb3) (by decide)) ?_
  rintro v3 H6 ⟨hq3, hv3⟩
  rcases hv3 with ⟨_, rfl⟩ | ⟨h, _⟩
  rotate_left
  · rw [may_111] at h; exact absurd h (by decide)
  rw [may_111]
  replace hl1 := hq3.keep hl1 (by simp)
  replace hl2 := hq3.keep hl2 (by simp)
  replace hkk := hkk.trans hq3 (by simp)
  refine X.mv rfl rfl rfl rfl rfl ?_
  refine X.extract rfl rfl rfl rfl rfl rfl ?_
  refine X.extract rfl rfl rfl rfl rfl rfl ?_
  refine X.asg rfl rfl rfl rfl rfl ?_
  refine X.asg rfl rfl rfl rfl rfl ?_
  refine X.done [(0, _), (1, _), (2, _), (3, _), (4, _), (6, _)] ⟨rfl, rfl, rfl, rfl, rfl, rfl, trivial⟩ ?_
  refine N.then ?_
  refine E.seq ?_
  refine E.region ?_
  refine X.mv rfl rfl rfl rfl rfl ?_
  refine X.lit (e := 3) (cs := iv [1, 2, 2]) rfl rfl rfl rfl rfl (fun _ => by kernel_rfl) ?_
  intro b4 H7 hn4 hb4 hk4
  replace hl1 := hk4.keep hl1 (by simp)
  replace hl2 := hk4.keep hl2 (by simp)
  replace hkk := hkk.trans hk4 (by simp)
  refine X.call rfl rfl rfl rfl rfl Try.cl15 (ints_ct [1, 2, 2] [1, 2, 2] (some ⟨l1, 0, none⟩) l1 0 3 (some ⟨b4, 0, none⟩) b4 0 3 H7 (Row1.cells0 hl1) (Row1.cells0 hb4) (by decide)) ?_
  rintro _ Hx ⟨hv, e⟩
  obtain rfl := e.symm
  rw [decide_eq_true (by decide)] at hv
  subst hv
  refine X.mv rfl rfl rfl rfl rfl ?_
  refine X.mv rfl rfl rfl rfl rfl ?_
  refine X.eqlT rfl rfl rfl rfl rfl rfl (rfl) ?_
  refine X.pickT rfl rfl rfl rfl rfl rfl ?_
  refine X.mv rfl rfl rfl rfl rfl ?_
  refine X.mv rfl rfl rfl rfl rfl ?_
  refine X.lit (e := 3) (cs := iv [1, 0]) rfl rfl rfl rfl rfl (fun _ => by kernel_rfl) ?_
  intro b5 H8 hn5 hb5 hk5
  replace hl1 := hk5.keep hl1 (by simp)
  replace hl2 := hk5.keep hl2 (by simp)
  replace hkk := hkk.trans hk5 (by simp)
  refine X.call rfl rfl rfl rfl rfl Try.cl15 (ints_ct [1, 0] [1, 0] (some ⟨l2, 0, none⟩) l2 0 2 (some ⟨b5, 0, none⟩) b5 0 2 H8 (Row1.cells0 hl2) (Row1.cells0 hb5) (by decide)) ?_
  rintro _ Hx ⟨hv, e⟩
  obtain rfl := e.symm
  rw [decide_eq_true (by decide)] at hv
  subst hv
  refine X.pickT rfl rfl rfl rfl rfl rfl ?_
  refine X.mv rfl rfl rfl rfl rfl ?_
  refine X.mv rfl rfl rfl rfl rfl ?_
  refine X.eqlT rfl rfl rfl rfl rfl rfl (rfl) ?_
  refine X.pickT rfl rfl rfl rfl rfl rfl ?_
  refine X.mv rfl rfl rfl rfl rfl ?_
  refine X.mv rfl rfl rfl rfl rfl ?_
  refine X.eqlT rfl rfl rfl rfl rfl rfl (rfl) ?_
  refine X.pickT rfl rfl rfl rfl rfl rfl ?_
  refine X.mv rfl rfl rfl rfl rfl ?_
  refine X.lit (e := 3) (cs := iv [5, 1, 1]) rfl rfl rfl rfl rfl (fun _ => by kernel_rfl) ?_
  intro b6 H9 hn6 hb6 hk6
  replace hl1 := hk6.keep hl1 (by simp)
  replace hkk := hkk.trans hk6 (by simp)
  refine X.mv rfl rfl rfl rfl rfl ?_
  refine X.call rfl rfl rfl rfl rfl Try.cl11 (cost_ct [5, 1, 1] [1, 2, 2] (some ⟨b6, 0, none⟩) b6 0 3 (some ⟨l1, 0, none⟩) l1 0 3 H9 (Row1.cells0 hb6) (Row1.cells0 hl1) (by decide)) ?_
  rintro _ Hx ⟨rfl, e⟩
  obtain rfl := e.symm
  rw [cost_511]
  refine X.eqlT rfl rfl rfl rfl rfl rfl (rfl) ?_
  refine X.pickT rfl rfl rfl rfl rfl rfl ?_
  refine X.mv rfl rfl rfl rfl rfl ?_
  refine X.lit (e := 3) (cs := iv [1]) rfl rfl rfl rfl rfl (fun _ => by kernel_rfl) ?_
  intro b7 H10 hn7 hb7 hk7
  replace hkk := hkk.trans hk7 (by simp)
  refine X.call rfl rfl rfl rfl rfl Try.cl11 (cost_ct [] [1] none 0 0 0 (some ⟨b7, 0, none⟩) b7 0 1 H10 ⟨fun i v h => by simp at h⟩ (Row1.cells0 hb7) (by decide)) ?_
  rintro _ Hx ⟨rfl, e⟩
  obtain rfl := e.symm
  rw [cost_nil]
  refine X.eqlT rfl rfl rfl rfl rfl rfl (rfl) ?_
  refine X.pickT rfl rfl rfl rfl rfl rfl ?_
  refine X.asg rfl rfl rfl rfl rfl ?_
  refine X.done [(0, _)] ⟨rfl, trivial⟩ ?_
  refine N.then ?_
  refine E.ret ?_
  exact N.retH [_] ⟨_, _, rfl, rfl, rfl⟩ ⟨rfl, hkk⟩

theorem huffcosts_ct (fs ls : List Int) (a : Option Addr) (b o c : Nat) (a2 : Option Addr) (b2 o2 c2 : Nat) (H : Heap) (hF : Row1 H a b o (iv fs)) (hL : Row1 H a2 b2 o2 (iv ls)) : Ct Try.prog 5 #[.slice a fs.length c, .slice a2 ls.length c2] H fun v H' => v = .bool true ∧ Kp [] H H' := by
  refine Ct.into 24 Try.func5 rfl [(0, .slice a fs.length c), (1, .slice a2 ls.length c2)] rfl ⟨rfl, rfl, trivial⟩ ?_
  refine E.seq ?_
  refine E.region ?_
  refine X.asg rfl rfl rfl rfl rfl ?_
  refine X.done [(0, _), (1, _), (4, _)] ⟨rfl, rfl, rfl, trivial⟩ ?_
  refine N.then ?_
  refine E.seq ?_
  refine E.seq ?_
  refine E.region ?_
  refine X.mv rfl rfl rfl rfl rfl ?_
  refine X.lenS rfl rfl rfl rfl rfl Try.underlying22 ?_
  refine X.gtrC rfl rfl rfl rfl rfl rfl (fun hc => ?_) (fun hc => ?_)
  · refine X.mv rfl rfl rfl rfl rfl ?_
    refine X.skip rfl rfl rfl ?_
    refine X.skip rfl rfl rfl ?_
    refine X.skip rfl rfl rfl ?_
    refine X.pickT rfl rfl rfl rfl rfl rfl ?_
    refine X.done [(0, _), (1, _), (4, _), (12, _)] ⟨rfl, rfl, rfl, rfl, trivial⟩ ?_
    refine N.then ?_
    refine E.condT rfl ?_
    refine E.seq ?_
    refine E.region ?_
    refine X.call rfl rfl rfl rfl rfl Try.cl7 (known_ct _) ?_
    rintro _ H1 ⟨rfl, hk1⟩
    refine X.asg rfl rfl rfl rfl rfl ?_
    refine X.done [(0, _), (1, _), (4, _)] ⟨rfl, rfl, rfl, trivial⟩ ?_
    refine N.then ?_
    refine E.ret ?_
    refine N.thenR ?_
    exact N.retH [_] ⟨_, _, rfl, rfl, rfl⟩ ⟨rfl, hk1⟩
  · refine X.mv rfl rfl rfl rfl rfl ?_
    refine X.mv rfl rfl rfl rfl rfl ?_
    refine X.lenS rfl rfl rfl rfl rfl Try.underlying22 ?_
    refine X.gtr rfl rfl rfl rfl rfl rfl ?_
    refine X.pickF rfl rfl rfl rfl rfl rfl ?_
    refine X.done [(0, _), (1, _), (4, _), (12, _)] ⟨rfl, rfl, rfl, rfl, trivial⟩ ?_
    refine N.then ?_
    refine E.condD rfl (fun hc => ?_) (fun hc => ?_)
    · refine E.seq ?_
      refine E.region ?_
      refine X.call rfl rfl rfl rfl rfl Try.cl7 (known_ct _) ?_
      rintro _ H1 ⟨rfl, hk1⟩
      refine X.asg rfl rfl rfl rfl rfl ?_
      refine X.done [(0, _), (1, _), (4, _)] ⟨rfl, rfl, rfl, trivial⟩ ?_
      refine N.then ?_
      refine E.ret ?_
      refine N.thenR ?_
      exact N.retH [_] ⟨_, _, rfl, rfl, rfl⟩ ⟨rfl, hk1⟩
    · refine E.skip ?_
      refine N.then ?_
      refine E.seq ?_
      refine E.region ?_
      refine X.mv rfl rfl rfl rfl rfl ?_
      refine X.mv rfl rfl rfl rfl rfl ?_
      refine X.call rfl rfl rfl rfl rfl Try.cl11 (cost_ct fs ls a b o c a2 b2 o2 c2 H hF hL (by omega)) ?_
      rintro _ Hx ⟨rfl, e⟩
      obtain rfl := e.symm
      refine X.mv rfl rfl rfl rfl rfl ?_
      refine X.mv rfl rfl rfl rfl rfl ?_
      refine X.call rfl rfl rfl rfl rfl Try.cl13 (rcost_ct fs ls a b o c a2 b2 o2 c2 H hF hL (by omega)) ?_
      rintro _ Hx ⟨rfl, e⟩
      obtain rfl := e.symm
      refine X.eqlT rfl rfl rfl rfl rfl rfl (rfl) ?_
      refine X.mv rfl rfl rfl rfl rfl ?_
      refine X.call rfl rfl rfl rfl rfl Try.cl7 (known_ct _) ?_
      rintro _ H1 ⟨rfl, hk1⟩
      refine X.pickT rfl rfl rfl rfl rfl rfl ?_
      refine X.asg rfl rfl rfl rfl rfl ?_
      refine X.done [(4, _)] ⟨rfl, trivial⟩ ?_
      refine N.then ?_
      refine E.ret ?_
      exact N.retH [_] ⟨_, _, rfl, rfl, rfl⟩ ⟨rfl, hk1⟩

end Go.Proofs.Ytjlelcfabfmiaaa