/- The walks: fixed calls; trees. -/
import Derived.Test.YtcandjdomeompaaDoorTF
namespace Go.Proofs.YtcandjdomeompaaDoor
open Go.SX Go.Chr
attribute [local irreducible] X E N Ct
set_option linter.unusedVariables false
set_option linter.unusedSimpArgs false
def k1 : Bs := [97, 124, 98, 42]
def k2 : Bs := [120, 40, 97]
def k3 : Bs := [91, 98, 45, 97, 93]
def k4 : Bs := [42]
theorem k1e : (prs k1).2 = (0, 0) := by decide +kernel
theorem k2e : (prs k2).2 = (16, 1) := by decide +kernel
theorem k3e : (prs k3).2 = (18, 2) := by decide +kernel
theorem k4e : (prs k4).2 = (15, 0) := by decide +kernel
theorem k1l : (prs k1).1.length = 4 := by decide +kernel
theorem k1k : (prs k1).1.map (·.kind) = [4, 1, 5, 1] := by decide +kernel
theorem k1s : showV (prs k1).1 = k1 := by decide +kernel
theorem k1n : emptyV (prs k1).1 = true := by decide +kernel
theorem k1c : chkV (prs k1).1 = 0 := by decide +kernel
theorem k1d : endV (prs k1).1 1 = 2 := by decide +kernel
theorem kind_at {l : List Nd} {ks : List Int} (h : l.map (·.kind) = ks) {i : Nat} {k : Int} (hk : ks[i]? = some k) : ∃ x, l[i]? = some x ∧ x.kind = k := by
  subst h
  rw [List.getElem?_map] at hk
  cases h2 : l[i]? with
  | none => rw [h2] at hk; cases hk
  | some x => rw [h2] at hk; exact ⟨x, rfl, Option.some.inj hk⟩
theorem parse2_ct (s : Bs) (e b : Int) (he : (prs s).2 = (e, b)) (H : Heap) (hT : Tab H) (hs : s.length ≤ 100000) : Ct Tryd.prog 14 #[str s] H fun v H' => ∃ w, v = .tuple #[w, i64 e, i64 b] ∧ NRF H H' w (prs s).1 ∧ Kp [] H H' :=
  (parse_ct s H hT hs).mono fun v H' ⟨w, h1, h2⟩ => ⟨w, by rw [h1, he], h2⟩
theorem tabN {H H' : Heap} (hT : Tab H) (hk : Kp [] H H') : Tab H' := by obtain ⟨ct, fz, h⟩ := hT; exact ⟨ct, fz, hk.keep h (by simp)⟩

theorem known_ct (H : Heap) (hT : Tab H) : Ct Tryd.prog 7 #[] H fun v H' => v = .bool true ∧ Kp [] H H' := by
  have hkk := Kp.refl [] H
  refine Ct.into 93 Tryd.func7 rfl [] rfl trivial ?_
  refine E.seq ?_
  refine E.region ?_
  refine X.asg rfl rfl rfl rfl rfl ?_
  refine X.done [(0, _)] ⟨rfl, trivial⟩ ?_
  refine N.then ?_
  refine E.seq ?_
  refine E.region ?_
  refine X.call rfl rfl rfl rfl rfl Tryd.cl14 (parse2_ct k1 _ _ k1e _ (tabN hT hkk) (by decide)) ?_
  rintro _ H1 ⟨w1, rfl, hr1, hk1⟩
  replace hkk := hkk.trans hk1 (by simp)
  refine X.mv rfl rfl rfl rfl rfl ?_
  refine X.extract rfl rfl rfl rfl rfl rfl ?_
  refine X.extract rfl rfl rfl rfl rfl rfl ?_
  refine X.extract rfl rfl rfl rfl rfl rfl ?_
  refine X.asg rfl rfl rfl rfl rfl ?_
  refine X.asg rfl rfl rfl rfl rfl ?_
  refine X.asg rfl rfl rfl rfl rfl ?_
  refine X.done [(0, _), (1, _), (2, _)] ⟨rfl, rfl, rfl, trivial⟩ ?_
  refine N.then ?_
  refine E.seq ?_
  refine E.region ?_
  refine X.call rfl rfl rfl rfl rfl Tryd.cl14 (parse2_ct k2 _ _ k2e _ (tabN hT hkk) (by decide)) ?_
  rintro _ H2 ⟨w2, rfl, hr2, hk2⟩
  replace hkk := hkk.trans hk2 (by simp)
  replace hr1 := hr1.keepN hk2
  refine X.mv rfl rfl rfl rfl rfl ?_
  refine X.extract rfl rfl rfl rfl rfl rfl ?_
  refine X.extract rfl rfl rfl rfl rfl rfl ?_
  refine X.extract rfl rfl rfl rfl rfl rfl ?_
  refine X.asg rfl rfl rfl rfl rfl ?_
  refine X.asg rfl rfl rfl rfl rfl ?_
  refine X.asg rfl rfl rfl rfl rfl ?_
  refine X.done [(0, _), (1, _), (2, _), (5, _), (6, _)] ⟨rfl, rfl, rfl, rfl, rfl, trivial⟩ ?_
  refine N.then ?_
  refine E.seq ?_
  refine E.region ?_
  refine X.call rfl rfl rfl rfl rfl Tryd.cl14 (parse2_ct k3 _ _ k3e _ (tabN hT hkk) (by decide)) ?_
  rintro _ H3 ⟨w3, rfl, hr3, hk3⟩
  replace hkk := hkk.trans hk3 (by simp)
  replace hr1 := hr1.keepN hk3
  refine X.mv rfl rfl rfl rfl rfl ?_
  refine X.extract rfl rfl rfl rfl rfl rfl ?_
  refine X.extract rfl rfl rfl rfl rfl rfl ?_
  refine X.extract rfl rfl rfl rfl rfl rfl ?_
  refine X.asg rfl rfl rfl rfl rfl ?_
  refine X.asg rfl rfl rfl rfl rfl ?_
  refine X.asg rfl rfl rfl rfl rfl ?_
  refine X.done [(0, _), (1, _), (2, _), (5, _), (6, _), (8, _), (9, _)] ⟨rfl, rfl, rfl, rfl, rfl, rfl, rfl, trivial⟩ ?_
  refine N.then ?_
  refine E.seq ?_
  refine E.region ?_
  refine X.call rfl rfl rfl rfl rfl Tryd.cl14 (parse2_ct k4 _ _ k4e _ (tabN hT hkk) (by decide)) ?_
  rintro _ H4 ⟨w4, rfl, hr4, hk4⟩
  replace hkk := hkk.trans hk4 (by simp)
  replace hr1 := hr1.keepN hk4
  obtain ⟨kl, hkl⟩ : ∃ kl, (prs k1).1 = kl := ⟨_, rfl⟩
  have e1 := k1l
  have e2 := k1k
  have e3 := k1s
  have e4 := k1n
  have e5 := k1c
  have e6 := k1d
  rw [hkl] at hr1 e1 e2 e3 e4 e5 e6
  have hN := hr1.1
  obtain ⟨wa, wc, rfl⟩ := hN.sl
  obtain ⟨x0, hx0, hx0k⟩ := kind_at e2 (i := 0) rfl
  obtain ⟨x2, hx2, hx2k⟩ := kind_at e2 (i := 2) rfl
  obtain ⟨bb, oo, cs, ct, fz, hae, hbb, hcc⟩ := hN.at hx0
  obtain ⟨bb2, oo2, cs2, ct2, fz2, hae2, hbb2, hcc2⟩ := hN.at hx2
  have hd0 : cs[oo + 0 * 8 + 0]? = some (i64 4) := by rw [← hx0k]; exact hcc 0 _ rfl
  have hd2 : cs2[oo2 + 2 * 8 + 0]? = some (i64 5) := by rw [← hx2k]; exact hcc2 0 _ rfl
  refine X.mv rfl rfl rfl rfl rfl ?_
  refine X.extract rfl rfl rfl rfl rfl rfl ?_
  refine X.extract rfl rfl rfl rfl rfl rfl ?_
  refine X.extract rfl rfl rfl rfl rfl rfl ?_
  refine X.asg rfl rfl rfl rfl rfl ?_
  refine X.asg rfl rfl rfl rfl rfl ?_
  refine X.asg rfl rfl rfl rfl rfl ?_
  refine X.done [(0, _), (1, _), (2, _), (5, _), (6, _), (8, _), (9, _), (11, _)] ⟨rfl, rfl, rfl, rfl, rfl, rfl, rfl, rfl, trivial⟩ ?_
  refine N.then ?_
  refine E.seq ?_
  refine E.region ?_
  refine X.mv rfl rfl rfl rfl rfl ?_
  refine X.eqlT rfl rfl rfl rfl rfl rfl (rfl) ?_
  refine X.mv rfl rfl rfl rfl rfl ?_
  refine X.mv rfl rfl rfl rfl rfl ?_
  refine X.lenS rfl rfl rfl rfl rfl Tryd.underlying22 ?_
  refine X.eqlT rfl rfl rfl rfl rfl rfl (by rw [e1]; rfl) ?_
  refine X.pickT rfl rfl rfl rfl rfl rfl ?_
  refine X.mv rfl rfl rfl rfl rfl ?_
  refine X.mv rfl rfl rfl rfl rfl ?_
  refine X.ixAe rfl rfl rfl rfl rfl rfl Tryd.underlying22 Tryd.sz38 (hae) (by omega) ?_
  refine X.fld rfl rfl rfl rfl rfl Tryd.off38_0 ?_
  refine X.ld rfl rfl rfl rfl Tryd.ag3 (hbb) (by exact hd0) ?_
  refine X.eqlT rfl rfl rfl rfl rfl rfl (rfl) ?_
  refine X.pickT rfl rfl rfl rfl rfl rfl ?_
  refine X.mv rfl rfl rfl rfl rfl ?_
  refine X.mv rfl rfl rfl rfl rfl ?_
  refine X.ixAe rfl rfl rfl rfl rfl rfl Tryd.underlying22 Tryd.sz38 (hae2) (by omega) ?_
  refine X.fld rfl rfl rfl rfl rfl Tryd.off38_0 ?_
  refine X.ld rfl rfl rfl rfl Tryd.ag3 (hbb2) (by exact hd2) ?_
  refine X.eqlT rfl rfl rfl rfl rfl rfl (rfl) ?_
  refine X.pickT rfl rfl rfl rfl rfl rfl ?_
  refine X.mv rfl rfl rfl rfl rfl ?_
  refine X.mv rfl rfl rfl rfl rfl ?_
  refine X.eqlT rfl rfl rfl rfl rfl rfl (rfl) ?_
  refine X.pickT rfl rfl rfl rfl rfl rfl ?_
  refine X.mv rfl rfl rfl rfl rfl ?_
  refine X.mv rfl rfl rfl rfl rfl ?_
  refine X.eqlT rfl rfl rfl rfl rfl rfl (rfl) ?_
  refine X.pickT rfl rfl rfl rfl rfl rfl ?_
  refine X.mv rfl rfl rfl rfl rfl ?_
  refine X.mv rfl rfl rfl rfl rfl ?_
  refine X.eqlT rfl rfl rfl rfl rfl rfl (rfl) ?_
  refine X.pickT rfl rfl rfl rfl rfl rfl ?_
  refine X.mv rfl rfl rfl rfl rfl ?_
  refine X.mv rfl rfl rfl rfl rfl ?_
  refine X.eqlT rfl rfl rfl rfl rfl rfl (rfl) ?_
  refine X.pickT rfl rfl rfl rfl rfl rfl ?_
  refine X.mv rfl rfl rfl rfl rfl ?_
  refine X.mv rfl rfl rfl rfl rfl ?_
  refine X.eqlT rfl rfl rfl rfl rfl rfl (rfl) ?_
  refine X.pickT rfl rfl rfl rfl rfl rfl ?_
  refine X.mv rfl rfl rfl rfl rfl ?_
  refine X.mv rfl rfl rfl rfl rfl ?_
  refine X.call rfl rfl rfl rfl rfl Tryd.cl10 (show15_ct kl wa wc _ hN (tabN hT hkk) (by omega)) ?_
  rintro _ H5 ⟨rfl, hkz⟩
  replace hkk := hkk.trans hkz (by simp)
  replace hN := hN.keepN hkz
  refine X.eqlST rfl rfl rfl rfl rfl rfl (by rw [e3]; rfl) ?_
  refine X.pickT rfl rfl rfl rfl rfl rfl ?_
  refine X.mv rfl rfl rfl rfl rfl ?_
  refine X.mv rfl rfl rfl rfl rfl ?_
  refine X.call rfl rfl rfl rfl rfl Tryd.cl16 (empty15_ct kl wa wc _ hN (by omega)) ?_
  rintro _ H6 ⟨rfl, hkz⟩
  replace hkk := hkk.trans hkz (by simp)
  replace hN := hN.keepN hkz
  rw [e4]
  refine X.pickT rfl rfl rfl rfl rfl rfl ?_
  refine X.mv rfl rfl rfl rfl rfl ?_
  refine X.mv rfl rfl rfl rfl rfl ?_
  refine X.call rfl rfl rfl rfl rfl Tryd.cl8 (check_ct kl wa wc _ hN (by omega)) ?_
  rintro _ H7 ⟨rfl, hkz⟩
  replace hkk := hkk.trans hkz (by simp)
  replace hN := hN.keepN hkz
  refine X.eqlT rfl rfl rfl rfl rfl rfl (by rw [e5]) ?_
  refine X.pickT rfl rfl rfl rfl rfl rfl ?_
  refine X.mv rfl rfl rfl rfl rfl ?_
  refine X.mv rfl rfl rfl rfl rfl ?_
  refine X.call rfl rfl rfl rfl rfl Tryd.cl12 (end_ct kl wa wc 1 _ hN (by omega)) ?_
  rintro _ Hx ⟨rfl, e⟩
  obtain rfl := e.symm
  refine X.eqlT rfl rfl rfl rfl rfl rfl (by rw [e6]) ?_
  refine X.pickT rfl rfl rfl rfl rfl rfl ?_
  refine X.asg rfl rfl rfl rfl rfl ?_
  refine X.done [(0, _)] ⟨rfl, trivial⟩ ?_
  refine N.then ?_
  refine E.ret ?_
  exact N.retH [_] ⟨_, _, rfl, rfl, rfl⟩ ⟨rfl, hkk⟩

end Go.Proofs.YtcandjdomeompaaDoor