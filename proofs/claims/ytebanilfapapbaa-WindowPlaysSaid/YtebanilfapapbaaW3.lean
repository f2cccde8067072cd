/- The laws' functions of layer 7: each gives true. -/
import Derived.Test.YtebanilfapapbaaW2
namespace Go.Proofs.Ytebanilfapapbaa
open Go.SX Go.Win
attribute [local irreducible] X E N Ct
set_option linter.unusedVariables false
theorem last_w (A : Bs) : lastS 32768 A = A.drop (((A.length - min A.length 32768 : Nat) : Int)).toNat := by
  have e : A.length - min (32768 : Int).toNat 32768 = (((A.length - min A.length 32768 : Nat) : Int)).toNat := by omega
  unfold lastS lst
  rw [if_neg (by omega), e]
/-- A window that was made here. -/
structure Mine (H0 H : Heap) (p : Nat) (sv : Value) (l : Bs) : Prop where
  win : Win H p sv l
  kp : Kp [] H0 H
  new : ∀ b ∈ p :: blk sv, H0.size ≤ b
theorem Mine.step {H0 H H' : Heap} {p : Nat} {sv sv' : Value} {l l' : Bs} (h : Mine H0 H p sv l) (hw : Win H' p sv' l') (hg : Chg p sv H H' sv') : Mine H0 H' p sv' l' :=
  ⟨hw, h.kp.trans hg.1 (fun b hb => .inr (h.new b hb)), fun b hb => by
    rcases List.mem_cons.1 hb with rfl | hb
    · exact h.new _ (by simp)
    · rcases hg.2 b hb with h1 | h1
      · exact h.new b (by simp [h1])
      · exact Nat.le_trans h.kp.size h1⟩
theorem Mine.first {H0 H : Heap} {p : Nat} {sv : Value} {l : Bs} (hw : Win H p sv l) (hk : Kp [] H0 H) (hn : ∀ b ∈ p :: blk sv, H0.size ≤ b) : Mine H0 H p sv l := ⟨hw, hk, hn⟩
theorem Mine.le {H0 H : Heap} {p : Nat} {sv : Value} {l l' : Bs} (h : Mine H0 H p sv l) (e : l = l') : Mine H0 H p sv l' := e ▸ h

theorem known_ct (H : Heap) : Ct Try.prog 7 #[] H fun v H' => v = .bool true ∧ Kp [] H H' := by
  refine Ct.into 39 Try.func7 rfl [] rfl trivial ?_
  refine E.seq ?_
  refine E.region ?_
  refine X.asg rfl rfl rfl rfl rfl ?_
  refine X.done [(0, _)] ⟨rfl, trivial⟩ ?_
  refine N.then ?_
  refine E.seq ?_
  refine E.region ?_
  refine X.call rfl rfl rfl rfl rfl Try.cl8 (new_ct [97, 98] H (by decide)) ?_
  rintro _ H1 ⟨p, sv1, rfl, hW1, hk1, hf1⟩
  have M1 := Mine.first hW1 hk1 hf1
  have e1 : trimL [97, 98] = [97, 98] := rfl
  rw [e1] at M1
  refine X.asg rfl rfl rfl rfl rfl ?_
  refine X.done [(0, _), (1, _)] ⟨rfl, rfl, trivial⟩ ?_
  refine N.then ?_
  refine E.seq ?_
  refine E.seq ?_
  refine E.region ?_
  refine X.mv rfl rfl rfl rfl rfl ?_
  refine X.eqlP1 rfl rfl rfl rfl rfl rfl Try.underlying23 ?_
  refine X.done [(0, _), (1, _), (8, _)] ⟨rfl, rfl, rfl, trivial⟩ ?_
  refine N.then ?_
  refine E.condF rfl ?_
  refine E.skip ?_
  refine N.then ?_
  refine E.seq ?_
  refine E.region ?_
  refine X.mv rfl rfl rfl rfl rfl ?_
  refine X.call rfl rfl rfl rfl rfl Try.cl10 (copy_ct p _ _ H1 M1.win 2 5 (by decide) ⟨by decide, by decide⟩ (by decide)) ?_
  rintro _ H2 ⟨rfl, sv2, hW2, hg2⟩
  have M2 := M1.step hW2 hg2
  have e2 : trimL (ext 2 5 [97, 98]) = [97, 98, 97, 98, 97, 98, 97] := rfl
  rw [e2] at M2
  refine X.mv rfl rfl rfl rfl rfl ?_
  refine X.extract rfl rfl rfl rfl rfl rfl ?_
  refine X.extract rfl rfl rfl rfl rfl rfl ?_
  refine X.asg rfl rfl rfl rfl rfl ?_
  refine X.asg rfl rfl rfl rfl rfl ?_
  refine X.done [(0, _), (1, _), (2, _), (3, _)] ⟨rfl, rfl, rfl, rfl, trivial⟩ ?_
  refine N.then ?_
  refine E.seq ?_
  refine E.region ?_
  refine X.mv rfl rfl rfl rfl rfl ?_
  refine X.call rfl rfl rfl rfl rfl Try.cl10 (copy_far_ct p _ _ H2 M2.win 9 1 (by omega) (by decide)) ?_
  rintro _ H3 ⟨rfl, eH3⟩
  obtain rfl := eH3.symm
  refine X.mv rfl rfl rfl rfl rfl ?_
  refine X.extract rfl rfl rfl rfl rfl rfl ?_
  refine X.extract rfl rfl rfl rfl rfl rfl ?_
  refine X.asg rfl rfl rfl rfl rfl ?_
  refine X.asg rfl rfl rfl rfl rfl ?_
  refine X.done [(0, _), (1, _), (2, _), (3, _), (5, _)] ⟨rfl, rfl, rfl, rfl, rfl, trivial⟩ ?_
  refine N.then ?_
  refine E.seq ?_
  refine E.region ?_
  refine X.mv rfl rfl rfl rfl rfl ?_
  refine X.eqlST rfl rfl rfl rfl rfl rfl (by rfl) ?_
  refine X.mv rfl rfl rfl rfl rfl ?_
  refine X.mv rfl rfl rfl rfl rfl ?_
  refine X.eqlT rfl rfl rfl rfl rfl rfl (by rfl) ?_
  refine X.pickT rfl rfl rfl rfl rfl rfl ?_
  refine X.mv rfl rfl rfl rfl rfl ?_
  refine X.mv rfl rfl rfl rfl rfl ?_
  refine X.call rfl rfl rfl rfl rfl Try.cl11 (last_ct p _ _ H2 M2.win 3) ?_
  rintro _ H4 ⟨rfl, eH4⟩
  obtain rfl := eH4.symm
  refine X.eqlST rfl rfl rfl rfl rfl rfl (by rfl) ?_
  refine X.pickT rfl rfl rfl rfl rfl rfl ?_
  refine X.mv rfl rfl rfl rfl rfl ?_
  refine X.mv rfl rfl rfl rfl rfl ?_
  refine X.call rfl rfl rfl rfl rfl Try.cl12 (len_ct p _ _ H2 M2.win) ?_
  rintro _ H5 ⟨rfl, eH5⟩
  obtain rfl := eH5.symm
  refine X.eqlT rfl rfl rfl rfl rfl rfl (by rfl) ?_
  refine X.pickT rfl rfl rfl rfl rfl rfl ?_
  refine X.mv rfl rfl rfl rfl rfl ?_
  refine X.mv rfl rfl rfl rfl rfl ?_
  refine X.eqlT rfl rfl rfl rfl rfl rfl (by rfl) ?_
  refine X.pickT rfl rfl rfl rfl rfl rfl ?_
  refine X.asg rfl rfl rfl rfl rfl ?_
  refine X.done [(0, _)] ⟨rfl, trivial⟩ ?_
  refine N.then ?_
  refine E.ret ?_
  exact N.retH [_] ⟨_, _, rfl, rfl, rfl⟩ ⟨rfl, M2.kp⟩

theorem ahead0 (s : Bs) (d n : Int) (H : Heap) (hd : -9223372036854775808 ≤ d ∧ d ≤ 9223372036854775807) (hn : -9223372036854775808 ≤ n ∧ n ≤ 9223372036854775807) (hs : s.length = 0) : Ct Try.prog 3 #[str s, i64 d, i64 n] H fun v H' => v = .bool true ∧ Kp [] H H' := by
  refine Ct.into 85 Try.func3 rfl [(0, str s), (1, i64 d), (2, i64 n)] rfl ⟨rfl, rfl, rfl, trivial⟩ ?_
  refine E.seq ?_
  refine E.region ?_
  refine X.asg rfl rfl rfl rfl rfl ?_
  refine X.done [(0, _), (1, _), (2, _), (6, _)] ⟨rfl, rfl, rfl, rfl, trivial⟩ ?_
  refine N.then ?_
  refine E.seq ?_
  refine E.seq ?_
  refine E.region ?_
  refine X.mv rfl rfl rfl rfl rfl ?_
  refine X.lenL rfl rfl rfl rfl rfl Try.underlying9 ?_
  refine X.eqlT rfl rfl rfl rfl rfl rfl (by omega) ?_
  refine X.mv rfl rfl rfl rfl rfl ?_
  refine X.skip rfl rfl rfl ?_
  refine X.skip rfl rfl rfl ?_
  refine X.skip rfl rfl rfl ?_
  refine X.pickT rfl rfl rfl rfl rfl rfl ?_
  refine X.done [(0, _), (1, _), (2, _), (6, _), (21, _)] ⟨rfl, rfl, rfl, rfl, rfl, trivial⟩ ?_
  refine N.then ?_
  refine E.condT rfl ?_
  refine E.seq ?_
  refine E.region ?_
  refine X.call rfl rfl rfl rfl rfl Try.cl7 (known_ct H) ?_
  rintro _ HK ⟨rfl, hkK⟩
  refine X.asg rfl rfl rfl rfl rfl ?_
  refine X.done [(0, _), (1, _), (2, _), (6, _)] ⟨rfl, rfl, rfl, rfl, trivial⟩ ?_
  refine N.then ?_
  refine E.ret ?_
  refine N.thenR ?_
  exact N.retH [_] ⟨_, _, rfl, rfl, rfl⟩ ⟨rfl, hkK⟩

theorem ahead1 (s : Bs) (d n : Int) (H : Heap) (hd : -9223372036854775808 ≤ d ∧ d ≤ 9223372036854775807) (hn : -9223372036854775808 ≤ n ∧ n ≤ 9223372036854775807) (hs : 3000 < s.length) : Ct Try.prog 3 #[str s, i64 d, i64 n] H fun v H' => v = .bool true ∧ Kp [] H H' := by
  refine Ct.into 85 Try.func3 rfl [(0, str s), (1, i64 d), (2, i64 n)] rfl ⟨rfl, rfl, rfl, trivial⟩ ?_
  refine E.seq ?_
  refine E.region ?_
  refine X.asg rfl rfl rfl rfl rfl ?_
  refine X.done [(0, _), (1, _), (2, _), (6, _)] ⟨rfl, rfl, rfl, rfl, trivial⟩ ?_
  refine N.then ?_
  refine E.seq ?_
  refine E.seq ?_
  refine E.region ?_
  refine X.mv rfl rfl rfl rfl rfl ?_
  refine X.lenL rfl rfl rfl rfl rfl Try.underlying9 ?_
  refine X.eqlF rfl rfl rfl rfl rfl rfl (by omega) ?_
  refine X.mv rfl rfl rfl rfl rfl ?_
  refine X.mv rfl rfl rfl rfl rfl ?_
  refine X.lenL rfl rfl rfl rfl rfl Try.underlying9 ?_
  refine X.gtrT rfl rfl rfl rfl rfl rfl (by omega) ?_
  refine X.pickF rfl rfl rfl rfl rfl rfl ?_
  refine X.done [(0, _), (1, _), (2, _), (6, _), (21, _)] ⟨rfl, rfl, rfl, rfl, rfl, trivial⟩ ?_
  refine N.then ?_
  refine E.condT rfl ?_
  refine E.seq ?_
  refine E.region ?_
  refine X.call rfl rfl rfl rfl rfl Try.cl7 (known_ct H) ?_
  rintro _ HK ⟨rfl, hkK⟩
  refine X.asg rfl rfl rfl rfl rfl ?_
  refine X.done [(0, _), (1, _), (2, _), (6, _)] ⟨rfl, rfl, rfl, rfl, trivial⟩ ?_
  refine N.then ?_
  refine E.ret ?_
  refine N.thenR ?_
  exact N.retH [_] ⟨_, _, rfl, rfl, rfl⟩ ⟨rfl, hkK⟩

theorem ahead2 (s : Bs) (d n : Int) (H : Heap) (hd : -9223372036854775808 ≤ d ∧ d ≤ 9223372036854775807) (hn : -9223372036854775808 ≤ n ∧ n ≤ 9223372036854775807) (hs : 1 ≤ s.length ∧ s.length ≤ 3000) : Ct Try.prog 3 #[str s, i64 d, i64 n] H fun v H' => v = .bool true ∧ Kp [] H H' := by
  obtain ⟨k, hk⟩ := Int.eq_ofNat_of_zero_le (cnt_bd n 600 (by omega)).1
  have hk2 := (cnt_bd n 600 (by omega)).2
  have cK : ∀ H, Ct Try.prog 9 #[i64 n, i64 600] H fun v H' => v = i64 (k : Int) ∧ H' = H := by
    intro H; have h := count_ct n 600 H hn (by omega); rw [hk] at h; exact h
  obtain ⟨j, hj⟩ := Int.eq_ofNat_of_zero_le (cnt_bd d s.length (by omega)).1
  have hj2 := (cnt_bd d s.length (by omega)).2
  have cJ : ∀ H, Ct Try.prog 9 #[i64 d, i64 s.length] H fun v H' => v = i64 (j : Int) ∧ H' = H := by
    intro H; have h := count_ct d s.length H hd (by omega); rw [hj] at h; exact h
  have hL := ext_len (d := 1 + j) k s (by omega) (by omega)
  refine Ct.into 85 Try.func3 rfl [(0, str s), (1, i64 d), (2, i64 n)] rfl ⟨rfl, rfl, rfl, trivial⟩ ?_
  refine E.seq ?_
  refine E.region ?_
  refine X.asg rfl rfl rfl rfl rfl ?_
  refine X.done [(0, _), (1, _), (2, _), (6, _)] ⟨rfl, rfl, rfl, rfl, trivial⟩ ?_
  refine N.then ?_
  refine E.seq ?_
  refine E.seq ?_
  refine E.region ?_
  refine X.mv rfl rfl rfl rfl rfl ?_
  refine X.lenL rfl rfl rfl rfl rfl Try.underlying9 ?_
  refine X.eqlF rfl rfl rfl rfl rfl rfl (by omega) ?_
  refine X.mv rfl rfl rfl rfl rfl ?_
  refine X.mv rfl rfl rfl rfl rfl ?_
  refine X.lenL rfl rfl rfl rfl rfl Try.underlying9 ?_
  refine X.gtrF rfl rfl rfl rfl rfl rfl (by omega) ?_
  refine X.pickF rfl rfl rfl rfl rfl rfl ?_
  refine X.done [(0, _), (1, _), (2, _), (6, _), (21, _)] ⟨rfl, rfl, rfl, rfl, rfl, trivial⟩ ?_
  refine N.then ?_
  refine E.condF rfl ?_
  refine E.skip ?_
  refine N.then ?_
  refine E.seq ?_
  refine E.region ?_
  refine X.mv rfl rfl rfl rfl rfl ?_
  refine X.call rfl rfl rfl rfl rfl Try.cl8 (new_ct s H (by omega)) ?_
  rintro _ H1 ⟨p, sv1, rfl, hW1, hk1, hf1⟩
  have M1 := (Mine.first hW1 hk1 hf1).le (trim_small (by omega))
  refine X.asg rfl rfl rfl rfl rfl ?_
  refine X.done [(0, _), (1, _), (2, _), (6, _), (7, _)] ⟨rfl, rfl, rfl, rfl, rfl, trivial⟩ ?_
  refine N.then ?_
  refine E.seq ?_
  refine E.seq ?_
  refine E.region ?_
  refine X.mv rfl rfl rfl rfl rfl ?_
  refine X.eqlP1 rfl rfl rfl rfl rfl rfl Try.underlying23 ?_
  refine X.done [(0, _), (1, _), (2, _), (6, _), (7, _), (26, _)] ⟨rfl, rfl, rfl, rfl, rfl, rfl, trivial⟩ ?_
  refine N.then ?_
  refine E.condF rfl ?_
  refine E.skip ?_
  refine N.then ?_
  refine E.seq ?_
  refine E.region ?_
  refine X.mv rfl rfl rfl rfl rfl ?_
  refine X.mv rfl rfl rfl rfl rfl ?_
  refine X.lenL rfl rfl rfl rfl rfl Try.underlying9 ?_
  refine X.call rfl rfl rfl rfl rfl Try.cl9 (cJ H1) ?_
  rintro _ H2 ⟨rfl, eH2⟩
  obtain rfl := eH2.symm
  refine X.addE (zz := ((1 + j : Nat) : Int)) rfl rfl rfl rfl rfl rfl (by rw [IntWalk.i64_in _ (by omega)]; omega) ?_
  refine X.asg rfl rfl rfl rfl rfl ?_
  refine X.done [(0, _), (2, _), (6, _), (7, _), (8, _)] ⟨rfl, rfl, rfl, rfl, rfl, trivial⟩ ?_
  refine N.then ?_
  refine E.seq ?_
  refine E.region ?_
  refine X.mv rfl rfl rfl rfl rfl ?_
  refine X.call rfl rfl rfl rfl rfl Try.cl9 (cK H1) ?_
  rintro _ H3 ⟨rfl, eH3⟩
  obtain rfl := eH3.symm
  refine X.asg rfl rfl rfl rfl rfl ?_
  refine X.done [(0, _), (6, _), (7, _), (8, _), (9, _)] ⟨rfl, rfl, rfl, rfl, rfl, trivial⟩ ?_
  refine N.then ?_
  refine E.seq ?_
  refine E.region ?_
  refine X.mv rfl rfl rfl rfl rfl ?_
  refine X.mv rfl rfl rfl rfl rfl ?_
  refine X.mv rfl rfl rfl rfl rfl ?_
  refine X.call rfl rfl rfl rfl rfl Try.cl10 (copy_ct p _ _ H1 M1.win (1 + j) k (by omega) ⟨by omega, by omega⟩ (by omega)) ?_
  rintro _ H4 ⟨rfl, sv4, hW4, hg4⟩
  have M4 := (M1.step hW4 hg4).le (trim_small (by omega))
  refine X.mv rfl rfl rfl rfl rfl ?_
  refine X.extract rfl rfl rfl rfl rfl rfl ?_
  refine X.extract rfl rfl rfl rfl rfl rfl ?_
  refine X.asg rfl rfl rfl rfl rfl ?_
  refine X.asg rfl rfl rfl rfl rfl ?_
  refine X.done [(0, _), (6, _), (7, _), (8, _), (9, _), (10, _), (11, _)] ⟨rfl, rfl, rfl, rfl, rfl, rfl, rfl, trivial⟩ ?_
  refine N.then ?_
  refine E.seq ?_
  refine E.seq ?_
  refine E.region ?_
  refine X.mv rfl rfl rfl rfl rfl ?_
  refine X.neqF rfl rfl rfl rfl rfl rfl (fun h => h rfl) ?_
  refine X.mv rfl rfl rfl rfl rfl ?_
  refine X.mv rfl rfl rfl rfl rfl ?_
  refine X.lenL rfl rfl rfl rfl rfl Try.underlying9 ?_
  refine X.mv rfl rfl rfl rfl rfl ?_
  refine X.neqF rfl rfl rfl rfl rfl rfl (fun h => h (by rw [List.length_drop]; omega)) ?_
  refine X.pickF rfl rfl rfl rfl rfl rfl ?_
  refine X.done [(0, _), (6, _), (7, _), (8, _), (10, _), (48, _)] ⟨rfl, rfl, rfl, rfl, rfl, rfl, trivial⟩ ?_
  refine N.then ?_
  refine E.condF rfl ?_
  refine E.skip ?_
  refine N.then ?_
  refine E.seq ?_
  refine E.region ?_
  refine X.mv rfl rfl rfl rfl rfl ?_
  refine X.mv rfl rfl rfl rfl rfl ?_
  refine X.cat rfl rfl rfl rfl rfl rfl (by rw [List.length_drop]; omega) ?_
  rw [ext_drop]
  refine X.asg rfl rfl rfl rfl rfl ?_
  refine X.done [(0, _), (6, _), (7, _), (8, _), (12, _)] ⟨rfl, rfl, rfl, rfl, rfl, trivial⟩ ?_
  refine N.then ?_
  refine E.seq ?_
  refine E.seq ?_
  refine E.region ?_
  refine X.mv rfl rfl rfl rfl rfl ?_
  refine X.lenL rfl rfl rfl rfl rfl Try.underlying9 ?_
  refine X.asg rfl rfl rfl rfl rfl ?_
  refine X.done [(6, _), (7, _), (8, _), (12, _), (13, _)] ⟨rfl, rfl, rfl, rfl, rfl, trivial⟩ ?_
  refine N.then ?_
  refine E.block ?_
  refine E.loop (fun (i : Nat) => [(6, .bool false), (7, ptr p), (8, i64 ((1 + j : Nat) : Int)), (12, str (ext (1 + j) k s)), (13, i64 i)]) (fun (i : Nat) H' => s.length ≤ i ∧ i ≤ (ext (1 + j) k s).length ∧ H' = H4) (fun (i : Nat) => (ext (1 + j) k s).length - i) s.length ⟨rfl, rfl, rfl, rfl, rfl, trivial⟩ ⟨Nat.le_refl _, by omega, rfl⟩ ?_
  rintro i H9 ⟨hi1, hi2, eH9⟩
  obtain rfl := eH9.symm
  refine E.seq ?_
  refine E.seq ?_
  refine E.region ?_
  refine X.mv rfl rfl rfl rfl rfl ?_
  refine X.mv rfl rfl rfl rfl rfl ?_
  refine X.lenL rfl rfl rfl rfl rfl Try.underlying9 ?_
  refine X.lss rfl rfl rfl rfl rfl rfl ?_
  refine X.done [(6, _), (7, _), (8, _), (12, _), (13, _), (54, _), (55, _), (56, _), (57, _)] ⟨rfl, rfl, rfl, rfl, rfl, rfl, rfl, rfl, rfl, trivial⟩ ?_
  refine N.then ?_
  refine E.condD rfl (fun hc => ?_) (fun hc => ?_)
  · refine E.skip ?_
    refine N.then ?_
    refine E.seq ?_
    refine E.block ?_
    refine E.seq ?_
    obtain ⟨c, hc1⟩ : ∃ c, (ext (1 + j) k s)[i]? = some c := ⟨_, List.getElem?_eq_getElem (by omega)⟩
    have hc2 : (ext (1 + j) k s)[i - (1 + j)]? = some c := by rw [← ext_get (by omega) k s (by omega) i (by omega) (by omega)]; exact hc1
    refine E.regionD (fun _ => True) [(0, .pu), (1, .pu), (2, .pu), (3, .pu), (4, .pu), (5, .pu), (6, .pu), (7, .pu), (8, .pu)] Try.mixed (by kernel_rfl) (trivial) ?_
    refine X.mv rfl rfl rfl rfl rfl ?_
    refine X.mv rfl rfl rfl rfl rfl ?_
    refine X.ixS rfl rfl rfl rfl rfl rfl Try.underlying9 (by omega) (hc1) ?_
    refine X.mv rfl rfl rfl rfl rfl ?_
    refine X.mv rfl rfl rfl rfl rfl ?_
    refine X.mv rfl rfl rfl rfl rfl ?_
    refine X.sbE (zz := ((i - (1 + j) : Nat) : Int)) rfl rfl rfl rfl rfl rfl (by rw [IntWalk.i64_in _ (by omega)]; omega) ?_
    refine X.ixS rfl rfl rfl rfl rfl rfl Try.underlying9 (by omega) (hc2) ?_
    refine X.neqF rfl rfl rfl rfl rfl rfl (fun h => h rfl) ?_
    refine X.done [(6, _), (7, _), (8, _), (12, _), (13, _), (54, _), (55, _), (56, _), (57, _), (60, _), (61, _), (62, _), (63, _), (64, _), (65, _), (66, _), (67, _), (68, _)] ⟨rfl, rfl, rfl, rfl, rfl, rfl, rfl, rfl, rfl, rfl, rfl, rfl, rfl, rfl, rfl, rfl, rfl, rfl, trivial⟩ ?_
    refine N.then ?_
    refine E.condF rfl ?_
    refine E.skip ?_
    refine N.blk ?_
    refine N.then ?_
    refine E.region ?_
    refine X.mv rfl rfl rfl rfl rfl ?_
    refine X.add rfl rfl rfl rfl rfl rfl (by omega) ?_
    refine X.asg rfl rfl rfl rfl rfl ?_
    refine X.done [(6, _), (7, _), (8, _), (12, _), (13, _), (54, _), (55, _), (56, _), (57, _), (60, _), (61, _), (62, _), (63, _), (64, _), (65, _), (66, _), (67, _), (68, _), (58, _), (59, _)] ⟨rfl, rfl, rfl, rfl, rfl, rfl, rfl, rfl, rfl, rfl, rfl, rfl, rfl, rfl, rfl, rfl, rfl, rfl, rfl, rfl, trivial⟩ ?_
    exact N.next (G := fun (i : Nat) => _) (i + 1) ⟨rfl, rfl, rfl, rfl, rfl, trivial⟩ ⟨by omega, by omega, rfl⟩ (by show _ - (i + 1) < _ - i; omega)
  · refine E.exit ?_
    refine N.thenX ?_
    refine N.loopX ?_
    refine N.blkX ?_
    refine N.then ?_
    refine E.seq ?_
    refine E.region ?_
    refine X.mv rfl rfl rfl rfl rfl ?_
    refine X.mv rfl rfl rfl rfl rfl ?_
    refine X.lenL rfl rfl rfl rfl rfl Try.underlying9 ?_
    refine X.call rfl rfl rfl rfl rfl Try.cl11 (last_ct p _ _ H4 M4.win _) ?_
    rintro _ H5 ⟨rfl, eH5⟩
    obtain rfl := eH5.symm
    refine X.mv rfl rfl rfl rfl rfl ?_
    refine X.eqlST rfl rfl rfl rfl rfl rfl (by rw [lastS, if_neg (by omega), lst_all (by omega)]) ?_
    refine X.mv rfl rfl rfl rfl rfl ?_
    refine X.mv rfl rfl rfl rfl rfl ?_
    refine X.call rfl rfl rfl rfl rfl Try.cl12 (len_ct p _ _ H4 M4.win) ?_
    rintro _ H6 ⟨rfl, eH6⟩
    obtain rfl := eH6.symm
    refine X.mv rfl rfl rfl rfl rfl ?_
    refine X.lenL rfl rfl rfl rfl rfl Try.underlying9 ?_
    refine X.eqlT rfl rfl rfl rfl rfl rfl (by omega) ?_
    refine X.pickT rfl rfl rfl rfl rfl rfl ?_
    refine X.mv rfl rfl rfl rfl rfl ?_
    refine X.call rfl rfl rfl rfl rfl Try.cl7 (known_ct H4) ?_
    rintro _ HK ⟨rfl, hkK⟩
    refine X.pickT rfl rfl rfl rfl rfl rfl ?_
    refine X.asg rfl rfl rfl rfl rfl ?_
    refine X.done [(6, _)] ⟨rfl, trivial⟩ ?_
    refine N.then ?_
    refine E.ret ?_
    exact N.retH [_] ⟨_, _, rfl, rfl, rfl⟩ ⟨rfl, M4.kp.trans hkK (by simp)⟩


theorem ahead_ct (s : Bs) (d n : Int) (H : Heap) (hd : -9223372036854775808 ≤ d ∧ d ≤ 9223372036854775807) (hn : -9223372036854775808 ≤ n ∧ n ≤ 9223372036854775807) : Ct Try.prog 3 #[str s, i64 d, i64 n] H fun v H' => v = .bool true ∧ Kp [] H H' := by
  by_cases h0 : s.length = 0
  · exact ahead0 s d n H hd hn h0
  · by_cases h1 : 3000 < s.length
    · exact ahead1 s d n H hd hn h1
    · exact ahead2 s d n H hd hn (by omega)

theorem holds0 (s : Bs) (m : Nat) (H : Heap) (hm : m ≤ 255) (hs : s.length = 0) : Ct Try.prog 4 #[str s, .int .u8 m] H fun v H' => v = .bool true ∧ Kp [] H H' := by
  refine Ct.into 100 Try.func4 rfl [(0, str s), (1, .int .u8 m)] rfl ⟨rfl, rfl, trivial⟩ ?_
  refine E.seq ?_
  refine E.region ?_
  refine X.asg rfl rfl rfl rfl rfl ?_
  refine X.done [(0, _), (1, _), (4, _)] ⟨rfl, rfl, rfl, trivial⟩ ?_
  refine N.then ?_
  refine E.seq ?_
  refine E.seq ?_
  refine E.region ?_
  refine X.mv rfl rfl rfl rfl rfl ?_
  refine X.lenL rfl rfl rfl rfl rfl Try.underlying9 ?_
  refine X.eqlT rfl rfl rfl rfl rfl rfl (by omega) ?_
  refine X.mv rfl rfl rfl rfl rfl ?_
  refine X.skip rfl rfl rfl ?_
  refine X.skip rfl rfl rfl ?_
  refine X.skip rfl rfl rfl ?_
  refine X.pickT rfl rfl rfl rfl rfl rfl ?_
  refine X.done [(0, _), (1, _), (4, _), (20, _)] ⟨rfl, rfl, rfl, rfl, trivial⟩ ?_
  refine N.then ?_
  refine E.condT rfl ?_
  refine E.seq ?_
  refine E.region ?_
  refine X.call rfl rfl rfl rfl rfl Try.cl7 (known_ct H) ?_
  rintro _ HK ⟨rfl, hkK⟩
  refine X.asg rfl rfl rfl rfl rfl ?_
  refine X.done [(0, _), (1, _), (4, _)] ⟨rfl, rfl, rfl, trivial⟩ ?_
  refine N.then ?_
  refine E.ret ?_
  refine N.thenR ?_
  exact N.retH [_] ⟨_, _, rfl, rfl, rfl⟩ ⟨rfl, hkK⟩

theorem holds1 (s : Bs) (m : Nat) (H : Heap) (hm : m ≤ 255) (hs : 400 < s.length) : Ct Try.prog 4 #[str s, .int .u8 m] H fun v H' => v = .bool true ∧ Kp [] H H' := by
  refine Ct.into 100 Try.func4 rfl [(0, str s), (1, .int .u8 m)] rfl ⟨rfl, rfl, trivial⟩ ?_
  refine E.seq ?_
  refine E.region ?_
  refine X.asg rfl rfl rfl rfl rfl ?_
  refine X.done [(0, _), (1, _), (4, _)] ⟨rfl, rfl, rfl, trivial⟩ ?_
  refine N.then ?_
  refine E.seq ?_
  refine E.seq ?_
  refine E.region ?_
  refine X.mv rfl rfl rfl rfl rfl ?_
  refine X.lenL rfl rfl rfl rfl rfl Try.underlying9 ?_
  refine X.eqlF rfl rfl rfl rfl rfl rfl (by omega) ?_
  refine X.mv rfl rfl rfl rfl rfl ?_
  refine X.mv rfl rfl rfl rfl rfl ?_
  refine X.lenL rfl rfl rfl rfl rfl Try.underlying9 ?_
  refine X.gtrT rfl rfl rfl rfl rfl rfl (by omega) ?_
  refine X.pickF rfl rfl rfl rfl rfl rfl ?_
  refine X.done [(0, _), (1, _), (4, _), (20, _)] ⟨rfl, rfl, rfl, rfl, trivial⟩ ?_
  refine N.then ?_
  refine E.condT rfl ?_
  refine E.seq ?_
  refine E.region ?_
  refine X.call rfl rfl rfl rfl rfl Try.cl7 (known_ct H) ?_
  rintro _ HK ⟨rfl, hkK⟩
  refine X.asg rfl rfl rfl rfl rfl ?_
  refine X.done [(0, _), (1, _), (4, _)] ⟨rfl, rfl, rfl, trivial⟩ ?_
  refine N.then ?_
  refine E.ret ?_
  refine N.thenR ?_
  exact N.retH [_] ⟨_, _, rfl, rfl, rfl⟩ ⟨rfl, hkK⟩

theorem holds2 (s : Bs) (m : Nat) (H : Heap) (hm : m ≤ 255) (hs : 1 ≤ s.length ∧ s.length ≤ 400) (h0 : m * s.length = 0) : Ct Try.prog 4 #[str s, .int .u8 m] H fun v H' => v = .bool true ∧ Kp [] H H' := by
  have hrl := rep_len s m
  have hrb : m * s.length ≤ 255 * 400 := Nat.mul_le_mul hm hs.2
  have hfit : 8 = 8 := rfl
  refine Ct.into 100 Try.func4 rfl [(0, str s), (1, .int .u8 m)] rfl ⟨rfl, rfl, trivial⟩ ?_
  refine E.seq ?_
  refine E.region ?_
  refine X.asg rfl rfl rfl rfl rfl ?_
  refine X.done [(0, _), (1, _), (4, _)] ⟨rfl, rfl, rfl, trivial⟩ ?_
  refine N.then ?_
  refine E.seq ?_
  refine E.seq ?_
  refine E.region ?_
  refine X.mv rfl rfl rfl rfl rfl ?_
  refine X.lenL rfl rfl rfl rfl rfl Try.underlying9 ?_
  refine X.eqlF rfl rfl rfl rfl rfl rfl (by omega) ?_
  refine X.mv rfl rfl rfl rfl rfl ?_
  refine X.mv rfl rfl rfl rfl rfl ?_
  refine X.lenL rfl rfl rfl rfl rfl Try.underlying9 ?_
  refine X.gtrF rfl rfl rfl rfl rfl rfl (by omega) ?_
  refine X.pickF rfl rfl rfl rfl rfl rfl ?_
  refine X.done [(0, _), (1, _), (4, _), (20, _)] ⟨rfl, rfl, rfl, rfl, trivial⟩ ?_
  refine N.then ?_
  refine E.condF rfl ?_
  refine E.skip ?_
  refine N.then ?_
  refine E.seq ?_
  refine E.region ?_
  refine X.call rfl rfl rfl rfl rfl Try.cl8 (new_ct [] H (by simp)) ?_
  rintro _ H1 ⟨p, sv1, rfl, hW1, hk1, hf1⟩
  have M1 := Mine.first hW1 hk1 hf1
  refine X.asg rfl rfl rfl rfl rfl ?_
  refine X.done [(0, _), (1, _), (4, _), (5, _)] ⟨rfl, rfl, rfl, rfl, trivial⟩ ?_
  refine N.then ?_
  refine E.seq ?_
  refine E.seq ?_
  refine E.region ?_
  refine X.mv rfl rfl rfl rfl rfl ?_
  refine X.eqlP1 rfl rfl rfl rfl rfl rfl Try.underlying23 ?_
  refine X.done [(0, _), (1, _), (4, _), (5, _), (24, _)] ⟨rfl, rfl, rfl, rfl, rfl, trivial⟩ ?_
  refine N.then ?_
  refine E.condF rfl ?_
  refine E.skip ?_
  refine N.then ?_
  refine E.seq ?_
  refine E.region ?_
  refine X.mv rfl rfl rfl rfl rfl ?_
  refine X.mv rfl rfl rfl rfl rfl ?_
  refine X.convE (zz := (m : Int)) rfl rfl rfl rfl rfl Try.underlying3 Try.us5 (IntWalk.i64_in _ (by omega)) ?_
  refine X.call rfl rfl rfl rfl rfl Try.cl13 (again_ct s m H1 (by omega)) ?_
  rintro _ H2 ⟨rfl, hk2⟩
  have M2 : Mine H H2 p sv1 [] := ⟨M1.win.keep hk2 (by simp), M1.kp.trans hk2 (by simp), M1.new⟩
  refine X.asg rfl rfl rfl rfl rfl ?_
  refine X.done [(0, _), (1, _), (4, _), (5, _), (6, _)] ⟨rfl, rfl, rfl, rfl, rfl, trivial⟩ ?_
  refine N.then ?_
  refine E.seq ?_
  refine E.seq ?_
  refine E.region ?_
  refine X.asg rfl rfl rfl rfl rfl ?_
  refine X.done [(0, _), (1, _), (4, _), (5, _), (6, _), (7, _)] ⟨rfl, rfl, rfl, rfl, rfl, rfl, trivial⟩ ?_
  refine N.then ?_
  refine E.block ?_
  refine E.loop (fun (i : Nat) => [(0, str s), (1, .int .u8 m), (4, .bool false), (5, ptr p), (6, str (rep s m)), (7, i64 i)]) (fun (i : Nat) H' => i ≤ m ∧ ∃ sv, Mine H H' p sv (rep s i)) (fun (i : Nat) => m - i) 0 ⟨rfl, rfl, rfl, rfl, rfl, rfl, trivial⟩ ⟨Nat.zero_le _, _, M2⟩ ?_
  rintro i H3 ⟨hi, sv3, M3⟩
  have hil := rep_len s i
  have hib : i * s.length ≤ 255 * 400 := Nat.mul_le_mul (by omega) hs.2
  refine E.seq ?_
  refine E.seq ?_
  refine E.region ?_
  refine X.mv rfl rfl rfl rfl rfl ?_
  refine X.mv rfl rfl rfl rfl rfl ?_
  refine X.convE (zz := (m : Int)) rfl rfl rfl rfl rfl Try.underlying3 Try.us5 (IntWalk.i64_in _ (by omega)) ?_
  refine X.lss rfl rfl rfl rfl rfl rfl ?_
  refine X.done [(0, _), (1, _), (4, _), (5, _), (6, _), (7, _), (29, _), (30, _), (31, _), (32, _)] ⟨rfl, rfl, rfl, rfl, rfl, rfl, rfl, rfl, rfl, rfl, trivial⟩ ?_
  refine N.then ?_
  refine E.condD rfl (fun hc => ?_) (fun hc => ?_)
  · refine E.skip ?_
    refine N.then ?_
    refine E.seq ?_
    refine E.block ?_
    refine E.region ?_
    refine X.mv rfl rfl rfl rfl rfl ?_
    refine X.mv rfl rfl rfl rfl rfl ?_
    refine X.call rfl rfl rfl rfl rfl Try.cl14 (put_ct p _ _ H3 M3.win s (by omega) (by omega)) ?_
    rintro _ H4 ⟨rfl, sv4, hW4, hg4⟩
    have M4 : Mine H H4 p sv4 (rep s (i + 1)) := (M3.step hW4 hg4).le (trim_small (by rw [List.length_append]; omega))
    refine X.done [(0, _), (1, _), (4, _), (5, _), (6, _), (7, _), (29, _), (30, _), (31, _), (32, _), (35, _), (36, _)] ⟨rfl, rfl, rfl, rfl, rfl, rfl, rfl, rfl, rfl, rfl, rfl, rfl, trivial⟩ ?_
    refine N.blk ?_
    refine N.then ?_
    refine E.region ?_
    refine X.mv rfl rfl rfl rfl rfl ?_
    refine X.add rfl rfl rfl rfl rfl rfl (by omega) ?_
    refine X.asg rfl rfl rfl rfl rfl ?_
    refine X.done [(0, _), (1, _), (4, _), (5, _), (6, _), (7, _), (29, _), (30, _), (31, _), (32, _), (35, _), (36, _), (33, _), (34, _)] ⟨rfl, rfl, rfl, rfl, rfl, rfl, rfl, rfl, rfl, rfl, rfl, rfl, rfl, rfl, trivial⟩ ?_
    exact N.next (G := fun (i : Nat) => _) (i + 1) ⟨rfl, rfl, rfl, rfl, rfl, rfl, trivial⟩ ⟨by omega, _, M4⟩ (by show m - (i + 1) < m - i; omega)
  · refine E.exit ?_
    refine N.thenX ?_
    refine N.loopX ?_
    refine N.blkX ?_
    refine N.then ?_
    refine E.seq ?_
    obtain rfl : m = i := by omega
    refine E.region ?_
    refine X.mv rfl rfl rfl rfl rfl ?_
    refine X.lenL rfl rfl rfl rfl rfl Try.underlying9 ?_
    refine X.mnE (zz := ((min (rep s m).length 32768 : Nat) : Int)) rfl rfl rfl rfl rfl rfl (by split <;> omega) ?_
    refine X.asg rfl rfl rfl rfl rfl ?_
    refine X.done [(4, _), (5, _), (6, _), (8, _)] ⟨rfl, rfl, rfl, rfl, trivial⟩ ?_
    refine N.then ?_
    refine E.seq ?_
    refine E.seq ?_
    refine E.regionD (fun _ => True) [(0, .pu), (2, .pu), (1, .mv), (3, .pu), (4, .pu), (5, .pu), (7, .pu), (8, .pu), (9, .pu), (10, .pu), (11, .pu), (12, .pu), (6, .mv), (13, .pu), (14, .pu)] Try.mixed (by kernel_rfl) (trivial) ?_
    refine X.mv rfl rfl rfl rfl rfl ?_
    refine X.mv rfl rfl rfl rfl rfl ?_
    refine X.call rfl rfl rfl rfl rfl Try.cl12 (len_ct p _ _ H3 M3.win) ?_
    rintro _ H5 ⟨rfl, eH5⟩
    obtain rfl := eH5.symm
    refine X.neqF rfl rfl rfl rfl rfl rfl (fun h => h rfl) ?_
    refine X.mv rfl rfl rfl rfl rfl ?_
    refine X.mv rfl rfl rfl rfl rfl ?_
    refine X.mv rfl rfl rfl rfl rfl ?_
    refine X.mv rfl rfl rfl rfl rfl ?_
    refine X.lenL rfl rfl rfl rfl rfl Try.underlying9 ?_
    refine X.mv rfl rfl rfl rfl rfl ?_
    refine X.sbE (zz := (((rep s m).length - min (rep s m).length 32768 : Nat) : Int)) rfl rfl rfl rfl rfl rfl (by rw [IntWalk.i64_in _ (by omega)]; omega) ?_
    refine X.slS1 rfl rfl rfl rfl rfl rfl Try.underlying9 (by omega) ?_
    refine X.call rfl rfl rfl rfl rfl Try.cl11 (last_ct p _ _ H3 M3.win 32768) ?_
    rintro _ H6 ⟨rfl, eH6⟩
    obtain rfl := eH6.symm
    refine X.neqSF rfl rfl rfl rfl rfl rfl (last_w _) ?_
    refine X.pickF rfl rfl rfl rfl rfl rfl ?_
    refine X.done [(4, _), (5, _), (6, _), (8, _), (55, _)] ⟨rfl, rfl, rfl, rfl, rfl, trivial⟩ ?_
    refine N.then ?_
    refine E.condF rfl ?_
    refine E.skip ?_
    refine N.then ?_
    refine E.seq ?_
    refine E.region ?_
    refine X.mv rfl rfl rfl rfl rfl ?_
    refine X.mv rfl rfl rfl rfl rfl ?_
    refine X.addE (zz := ((min (rep s m).length 32768 + 1 : Nat) : Int)) rfl rfl rfl rfl rfl rfl (by rw [IntWalk.i64_in _ (by omega)]; omega) ?_
    refine X.call rfl rfl rfl rfl rfl Try.cl10 (copy_far_ct p _ _ H3 M3.win ((min (rep s m).length 32768 + 1 : Nat) : Int) 1 (by omega) (by omega)) ?_
    rintro _ H7 ⟨rfl, eH7⟩
    obtain rfl := eH7.symm
    refine X.mv rfl rfl rfl rfl rfl ?_
    refine X.extract rfl rfl rfl rfl rfl rfl ?_
    refine X.extract rfl rfl rfl rfl rfl rfl ?_
    refine X.asg rfl rfl rfl rfl rfl ?_
    refine X.asg rfl rfl rfl rfl rfl ?_
    refine X.done [(4, _), (5, _), (6, _), (8, _), (10, _)] ⟨rfl, rfl, rfl, rfl, rfl, trivial⟩ ?_
    refine N.then ?_
    refine E.seq ?_
    refine E.seq ?_
    refine E.region ?_
    refine X.mv rfl rfl rfl rfl rfl ?_
    refine X.neqF rfl rfl rfl rfl rfl rfl (fun h => h rfl) ?_
    refine X.mv rfl rfl rfl rfl rfl ?_
    refine X.mv rfl rfl rfl rfl rfl ?_
    refine X.call rfl rfl rfl rfl rfl Try.cl12 (len_ct p _ _ H3 M3.win) ?_
    rintro _ H8 ⟨rfl, eH8⟩
    obtain rfl := eH8.symm
    refine X.mv rfl rfl rfl rfl rfl ?_
    refine X.neqF rfl rfl rfl rfl rfl rfl (fun h => h rfl) ?_
    refine X.pickF rfl rfl rfl rfl rfl rfl ?_
    refine X.done [(4, _), (5, _), (6, _), (8, _), (70, _)] ⟨rfl, rfl, rfl, rfl, rfl, trivial⟩ ?_
    refine N.then ?_
    refine E.condF rfl ?_
    refine E.skip ?_
    refine N.then ?_
    refine E.seq ?_
    refine E.seq ?_
    refine E.region ?_
    refine X.mv rfl rfl rfl rfl rfl ?_
    refine X.eqlT rfl rfl rfl rfl rfl rfl (by omega) ?_
    refine X.done [(4, _), (5, _), (6, _), (8, _), (72, _)] ⟨rfl, rfl, rfl, rfl, rfl, trivial⟩ ?_
    refine N.then ?_
    refine E.condT rfl ?_
    refine E.seq ?_
    refine E.region ?_
    refine X.call rfl rfl rfl rfl rfl Try.cl7 (known_ct H3) ?_
    rintro _ HK ⟨rfl, hkK⟩
    refine X.asg rfl rfl rfl rfl rfl ?_
    refine X.done [(4, _), (5, _), (6, _), (8, _)] ⟨rfl, rfl, rfl, rfl, trivial⟩ ?_
    refine N.then ?_
    refine E.ret ?_
    refine N.thenR ?_
    exact N.retH [_] ⟨_, _, rfl, rfl, rfl⟩ ⟨rfl, M3.kp.trans hkK (by simp)⟩

theorem holds3 (s : Bs) (m : Nat) (H : Heap) (hm : m ≤ 255) (hs : 1 ≤ s.length ∧ s.length ≤ 400) (h0 : 1 ≤ m * s.length) : Ct Try.prog 4 #[str s, .int .u8 m] H fun v H' => v = .bool true ∧ Kp [] H H' := by
  have hrl := rep_len s m
  have hrb : m * s.length ≤ 255 * 400 := Nat.mul_le_mul hm hs.2
  have hfit : 8 = 8 := rfl
  refine Ct.into 100 Try.func4 rfl [(0, str s), (1, .int .u8 m)] rfl ⟨rfl, rfl, trivial⟩ ?_
  refine E.seq ?_
  refine E.region ?_
  refine X.asg rfl rfl rfl rfl rfl ?_
  refine X.done [(0, _), (1, _), (4, _)] ⟨rfl, rfl, rfl, trivial⟩ ?_
  refine N.then ?_
  refine E.seq ?_
  refine E.seq ?_
  refine E.region ?_
  refine X.mv rfl rfl rfl rfl rfl ?_
  refine X.lenL rfl rfl rfl rfl rfl Try.underlying9 ?_
  refine X.eqlF rfl rfl rfl rfl rfl rfl (by omega) ?_
  refine X.mv rfl rfl rfl rfl rfl ?_
  refine X.mv rfl rfl rfl rfl rfl ?_
  refine X.lenL rfl rfl rfl rfl rfl Try.underlying9 ?_
  refine X.gtrF rfl rfl rfl rfl rfl rfl (by omega) ?_
  refine X.pickF rfl rfl rfl rfl rfl rfl ?_
  refine X.done [(0, _), (1, _), (4, _), (20, _)] ⟨rfl, rfl, rfl, rfl, trivial⟩ ?_
  refine N.then ?_
  refine E.condF rfl ?_
  refine E.skip ?_
  refine N.then ?_
  refine E.seq ?_
  refine E.region ?_
  refine X.call rfl rfl rfl rfl rfl Try.cl8 (new_ct [] H (by simp)) ?_
  rintro _ H1 ⟨p, sv1, rfl, hW1, hk1, hf1⟩
  have M1 := Mine.first hW1 hk1 hf1
  refine X.asg rfl rfl rfl rfl rfl ?_
  refine X.done [(0, _), (1, _), (4, _), (5, _)] ⟨rfl, rfl, rfl, rfl, trivial⟩ ?_
  refine N.then ?_
  refine E.seq ?_
  refine E.seq ?_
  refine E.region ?_
  refine X.mv rfl rfl rfl rfl rfl ?_
  refine X.eqlP1 rfl rfl rfl rfl rfl rfl Try.underlying23 ?_
  refine X.done [(0, _), (1, _), (4, _), (5, _), (24, _)] ⟨rfl, rfl, rfl, rfl, rfl, trivial⟩ ?_
  refine N.then ?_
  refine E.condF rfl ?_
  refine E.skip ?_
  refine N.then ?_
  refine E.seq ?_
  refine E.region ?_
  refine X.mv rfl rfl rfl rfl rfl ?_
  refine X.mv rfl rfl rfl rfl rfl ?_
  refine X.convE (zz := (m : Int)) rfl rfl rfl rfl rfl Try.underlying3 Try.us5 (IntWalk.i64_in _ (by omega)) ?_
  refine X.call rfl rfl rfl rfl rfl Try.cl13 (again_ct s m H1 (by omega)) ?_
  rintro _ H2 ⟨rfl, hk2⟩
  have M2 : Mine H H2 p sv1 [] := ⟨M1.win.keep hk2 (by simp), M1.kp.trans hk2 (by simp), M1.new⟩
  refine X.asg rfl rfl rfl rfl rfl ?_
  refine X.done [(0, _), (1, _), (4, _), (5, _), (6, _)] ⟨rfl, rfl, rfl, rfl, rfl, trivial⟩ ?_
  refine N.then ?_
  refine E.seq ?_
  refine E.seq ?_
  refine E.region ?_
  refine X.asg rfl rfl rfl rfl rfl ?_
  refine X.done [(0, _), (1, _), (4, _), (5, _), (6, _), (7, _)] ⟨rfl, rfl, rfl, rfl, rfl, rfl, trivial⟩ ?_
  refine N.then ?_
  refine E.block ?_
  refine E.loop (fun (i : Nat) => [(0, str s), (1, .int .u8 m), (4, .bool false), (5, ptr p), (6, str (rep s m)), (7, i64 i)]) (fun (i : Nat) H' => i ≤ m ∧ ∃ sv, Mine H H' p sv (rep s i)) (fun (i : Nat) => m - i) 0 ⟨rfl, rfl, rfl, rfl, rfl, rfl, trivial⟩ ⟨Nat.zero_le _, _, M2⟩ ?_
  rintro i H3 ⟨hi, sv3, M3⟩
  have hil := rep_len s i
  have hib : i * s.length ≤ 255 * 400 := Nat.mul_le_mul (by omega) hs.2
  refine E.seq ?_
  refine E.seq ?_
  refine E.region ?_
  refine X.mv rfl rfl rfl rfl rfl ?_
  refine X.mv rfl rfl rfl rfl rfl ?_
  refine X.convE (zz := (m : Int)) rfl rfl rfl rfl rfl Try.underlying3 Try.us5 (IntWalk.i64_in _ (by omega)) ?_
  refine X.lss rfl rfl rfl rfl rfl rfl ?_
  refine X.done [(0, _), (1, _), (4, _), (5, _), (6, _), (7, _), (29, _), (30, _), (31, _), (32, _)] ⟨rfl, rfl, rfl, rfl, rfl, rfl, rfl, rfl, rfl, rfl, trivial⟩ ?_
  refine N.then ?_
  refine E.condD rfl (fun hc => ?_) (fun hc => ?_)
  · refine E.skip ?_
    refine N.then ?_
    refine E.seq ?_
    refine E.block ?_
    refine E.region ?_
    refine X.mv rfl rfl rfl rfl rfl ?_
    refine X.mv rfl rfl rfl rfl rfl ?_
    refine X.call rfl rfl rfl rfl rfl Try.cl14 (put_ct p _ _ H3 M3.win s (by omega) (by omega)) ?_
    rintro _ H4 ⟨rfl, sv4, hW4, hg4⟩
    have M4 : Mine H H4 p sv4 (rep s (i + 1)) := (M3.step hW4 hg4).le (trim_small (by rw [List.length_append]; omega))
    refine X.done [(0, _), (1, _), (4, _), (5, _), (6, _), (7, _), (29, _), (30, _), (31, _), (32, _), (35, _), (36, _)] ⟨rfl, rfl, rfl, rfl, rfl, rfl, rfl, rfl, rfl, rfl, rfl, rfl, trivial⟩ ?_
    refine N.blk ?_
    refine N.then ?_
    refine E.region ?_
    refine X.mv rfl rfl rfl rfl rfl ?_
    refine X.add rfl rfl rfl rfl rfl rfl (by omega) ?_
    refine X.asg rfl rfl rfl rfl rfl ?_
    refine X.done [(0, _), (1, _), (4, _), (5, _), (6, _), (7, _), (29, _), (30, _), (31, _), (32, _), (35, _), (36, _), (33, _), (34, _)] ⟨rfl, rfl, rfl, rfl, rfl, rfl, rfl, rfl, rfl, rfl, rfl, rfl, rfl, rfl, trivial⟩ ?_
    exact N.next (G := fun (i : Nat) => _) (i + 1) ⟨rfl, rfl, rfl, rfl, rfl, rfl, trivial⟩ ⟨by omega, _, M4⟩ (by show m - (i + 1) < m - i; omega)
  · refine E.exit ?_
    refine N.thenX ?_
    refine N.loopX ?_
    refine N.blkX ?_
    refine N.then ?_
    refine E.seq ?_
    obtain rfl : m = i := by omega
    refine E.region ?_
    refine X.mv rfl rfl rfl rfl rfl ?_
    refine X.lenL rfl rfl rfl rfl rfl Try.underlying9 ?_
    refine X.mnE (zz := ((min (rep s m).length 32768 : Nat) : Int)) rfl rfl rfl rfl rfl rfl (by split <;> omega) ?_
    refine X.asg rfl rfl rfl rfl rfl ?_
    refine X.done [(4, _), (5, _), (6, _), (8, _)] ⟨rfl, rfl, rfl, rfl, trivial⟩ ?_
    refine N.then ?_
    refine E.seq ?_
    refine E.seq ?_
    refine E.regionD (fun _ => True) [(0, .pu), (2, .pu), (1, .mv), (3, .pu), (4, .pu), (5, .pu), (7, .pu), (8, .pu), (9, .pu), (10, .pu), (11, .pu), (12, .pu), (6, .mv), (13, .pu), (14, .pu)] Try.mixed (by kernel_rfl) (trivial) ?_
    refine X.mv rfl rfl rfl rfl rfl ?_
    refine X.mv rfl rfl rfl rfl rfl ?_
    refine X.call rfl rfl rfl rfl rfl Try.cl12 (len_ct p _ _ H3 M3.win) ?_
    rintro _ H5 ⟨rfl, eH5⟩
    obtain rfl := eH5.symm
    refine X.neqF rfl rfl rfl rfl rfl rfl (fun h => h rfl) ?_
    refine X.mv rfl rfl rfl rfl rfl ?_
    refine X.mv rfl rfl rfl rfl rfl ?_
    refine X.mv rfl rfl rfl rfl rfl ?_
    refine X.mv rfl rfl rfl rfl rfl ?_
    refine X.lenL rfl rfl rfl rfl rfl Try.underlying9 ?_
    refine X.mv rfl rfl rfl rfl rfl ?_
    refine X.sbE (zz := (((rep s m).length - min (rep s m).length 32768 : Nat) : Int)) rfl rfl rfl rfl rfl rfl (by rw [IntWalk.i64_in _ (by omega)]; omega) ?_
    refine X.slS1 rfl rfl rfl rfl rfl rfl Try.underlying9 (by omega) ?_
    refine X.call rfl rfl rfl rfl rfl Try.cl11 (last_ct p _ _ H3 M3.win 32768) ?_
    rintro _ H6 ⟨rfl, eH6⟩
    obtain rfl := eH6.symm
    refine X.neqSF rfl rfl rfl rfl rfl rfl (last_w _) ?_
    refine X.pickF rfl rfl rfl rfl rfl rfl ?_
    refine X.done [(4, _), (5, _), (6, _), (8, _), (55, _)] ⟨rfl, rfl, rfl, rfl, rfl, trivial⟩ ?_
    refine N.then ?_
    refine E.condF rfl ?_
    refine E.skip ?_
    refine N.then ?_
    refine E.seq ?_
    refine E.region ?_
    refine X.mv rfl rfl rfl rfl rfl ?_
    refine X.mv rfl rfl rfl rfl rfl ?_
    refine X.addE (zz := ((min (rep s m).length 32768 + 1 : Nat) : Int)) rfl rfl rfl rfl rfl rfl (by rw [IntWalk.i64_in _ (by omega)]; omega) ?_
    refine X.call rfl rfl rfl rfl rfl Try.cl10 (copy_far_ct p _ _ H3 M3.win ((min (rep s m).length 32768 + 1 : Nat) : Int) 1 (by omega) (by omega)) ?_
    rintro _ H7 ⟨rfl, eH7⟩
    obtain rfl := eH7.symm
    refine X.mv rfl rfl rfl rfl rfl ?_
    refine X.extract rfl rfl rfl rfl rfl rfl ?_
    refine X.extract rfl rfl rfl rfl rfl rfl ?_
    refine X.asg rfl rfl rfl rfl rfl ?_
    refine X.asg rfl rfl rfl rfl rfl ?_
    refine X.done [(4, _), (5, _), (6, _), (8, _), (10, _)] ⟨rfl, rfl, rfl, rfl, rfl, trivial⟩ ?_
    refine N.then ?_
    refine E.seq ?_
    refine E.seq ?_
    refine E.region ?_
    refine X.mv rfl rfl rfl rfl rfl ?_
    refine X.neqF rfl rfl rfl rfl rfl rfl (fun h => h rfl) ?_
    refine X.mv rfl rfl rfl rfl rfl ?_
    refine X.mv rfl rfl rfl rfl rfl ?_
    refine X.call rfl rfl rfl rfl rfl Try.cl12 (len_ct p _ _ H3 M3.win) ?_
    rintro _ H8 ⟨rfl, eH8⟩
    obtain rfl := eH8.symm
    refine X.mv rfl rfl rfl rfl rfl ?_
    refine X.neqF rfl rfl rfl rfl rfl rfl (fun h => h rfl) ?_
    refine X.pickF rfl rfl rfl rfl rfl rfl ?_
    refine X.done [(4, _), (5, _), (6, _), (8, _), (70, _)] ⟨rfl, rfl, rfl, rfl, rfl, trivial⟩ ?_
    refine N.then ?_
    refine E.condF rfl ?_
    refine E.skip ?_
    refine N.then ?_
    refine E.seq ?_
    refine E.seq ?_
    refine E.region ?_
    refine X.mv rfl rfl rfl rfl rfl ?_
    refine X.eqlF rfl rfl rfl rfl rfl rfl (by omega) ?_
    refine X.done [(4, _), (5, _), (6, _), (8, _), (72, _)] ⟨rfl, rfl, rfl, rfl, rfl, trivial⟩ ?_
    refine N.then ?_
    refine E.condF rfl ?_
    refine E.skip ?_
    refine N.then ?_
    refine E.seq ?_
    refine E.region ?_
    refine X.mv rfl rfl rfl rfl rfl ?_
    refine X.mv rfl rfl rfl rfl rfl ?_
    refine X.call rfl rfl rfl rfl rfl Try.cl10 (copy_ct p _ _ H3 M3.win (min (rep s m).length 32768) 1 (by omega) (by omega) (by omega)) ?_
    rintro _ H9 ⟨rfl, sv9, hW9, hg9⟩
    have M9 := M3.step hW9 hg9
    refine X.mv rfl rfl rfl rfl rfl ?_
    refine X.extract rfl rfl rfl rfl rfl rfl ?_
    refine X.extract rfl rfl rfl rfl rfl rfl ?_
    refine X.asg rfl rfl rfl rfl rfl ?_
    refine X.asg rfl rfl rfl rfl rfl ?_
    refine X.done [(4, _), (6, _), (8, _), (11, _), (12, _)] ⟨rfl, rfl, rfl, rfl, rfl, trivial⟩ ?_
    refine N.then ?_
    refine E.seq ?_
    refine E.region ?_
    refine X.mv rfl rfl rfl rfl rfl ?_
    refine X.eqlT rfl rfl rfl rfl rfl rfl (by omega) ?_
    refine X.mv rfl rfl rfl rfl rfl ?_
    refine X.mv rfl rfl rfl rfl rfl ?_
    refine X.mv rfl rfl rfl rfl rfl ?_
    refine X.mv rfl rfl rfl rfl rfl ?_
    refine X.lenL rfl rfl rfl rfl rfl Try.underlying9 ?_
    refine X.mv rfl rfl rfl rfl rfl ?_
    refine X.sbE (zz := (((rep s m).length - min (rep s m).length 32768 : Nat) : Int)) rfl rfl rfl rfl rfl rfl (by rw [IntWalk.i64_in _ (by omega)]; omega) ?_
    refine X.mv rfl rfl rfl rfl rfl ?_
    refine X.lenL rfl rfl rfl rfl rfl Try.underlying9 ?_
    refine X.mv rfl rfl rfl rfl rfl ?_
    refine X.sbE (zz := (((rep s m).length - min (rep s m).length 32768 : Nat) : Int)) rfl rfl rfl rfl rfl rfl (by rw [IntWalk.i64_in _ (by omega)]; omega) ?_
    refine X.addE (zz := (((rep s m).length - min (rep s m).length 32768 + 1 : Nat) : Int)) rfl rfl rfl rfl rfl rfl (by rw [IntWalk.i64_in _ (by omega)]; omega) ?_
    refine X.slS rfl rfl rfl rfl rfl rfl rfl Try.underlying9 (by omega) ?_
    refine X.eqlST rfl rfl rfl rfl rfl rfl (by
          rw [ext_chunk _ (by omega) (by omega) 1 (by omega), List.drop_left, Int.toNat_natCast, Int.toNat_natCast, List.drop_take]; congr 1; omega) ?_
    refine X.pickT rfl rfl rfl rfl rfl rfl ?_
    refine X.mv rfl rfl rfl rfl rfl ?_
    refine X.call rfl rfl rfl rfl rfl Try.cl7 (known_ct H9) ?_
    rintro _ HK ⟨rfl, hkK⟩
    refine X.pickT rfl rfl rfl rfl rfl rfl ?_
    refine X.asg rfl rfl rfl rfl rfl ?_
    refine X.done [(4, _)] ⟨rfl, trivial⟩ ?_
    refine N.then ?_
    refine E.ret ?_
    exact N.retH [_] ⟨_, _, rfl, rfl, rfl⟩ ⟨rfl, M9.kp.trans hkK (by simp)⟩


theorem holds_ct (s : Bs) (m : Nat) (H : Heap) (hm : m ≤ 255) : Ct Try.prog 4 #[str s, .int .u8 m] H fun v H' => v = .bool true ∧ Kp [] H H' := by
  by_cases h0 : s.length = 0
  · exact holds0 s m H hm h0
  · by_cases h1 : 400 < s.length
    · exact holds1 s m H hm h1
    · by_cases h2 : m * s.length = 0
      · exact holds2 s m H hm (by omega) h2
      · exact holds3 s m H hm (by omega) (by omega)

theorem nil_ct (s : Bs) (n : Int) (H : Heap) : Ct Try.prog 6 #[str s, i64 n] H fun v H' => v = .bool true ∧ Kp [] H H' := by
  refine Ct.into 77 Try.func6 rfl [(0, str s), (1, i64 n)] rfl ⟨rfl, rfl, trivial⟩ ?_
  refine E.seq ?_
  refine E.region ?_
  refine X.asg rfl rfl rfl rfl rfl ?_
  refine X.done [(0, _), (1, _), (4, _)] ⟨rfl, rfl, rfl, trivial⟩ ?_
  refine N.then ?_
  refine E.seq ?_
  refine E.seq ?_
  refine E.region ?_
  refine X.mv rfl rfl rfl rfl rfl ?_
  refine X.lenL rfl rfl rfl rfl rfl Try.underlying9 ?_
  refine X.gtr rfl rfl rfl rfl rfl rfl ?_
  refine X.done [(0, _), (1, _), (4, _), (13, _)] ⟨rfl, rfl, rfl, rfl, trivial⟩ ?_
  refine N.then ?_
  refine E.condD rfl (fun hc => ?_) (fun hc => ?_)
  · refine E.seq ?_
    refine E.region ?_
    refine X.call rfl rfl rfl rfl rfl Try.cl7 (known_ct H) ?_
    rintro _ HK ⟨rfl, hkK⟩
    refine X.asg rfl rfl rfl rfl rfl ?_
    refine X.done [(0, _), (1, _), (4, _)] ⟨rfl, rfl, rfl, trivial⟩ ?_
    refine N.then ?_
    refine E.ret ?_
    refine N.thenR ?_
    exact N.retH [_] ⟨_, _, rfl, rfl, rfl⟩ ⟨rfl, hkK⟩
  · refine E.skip ?_
    refine N.then ?_
    refine E.seq ?_
    refine E.region ?_
    refine X.asg rfl rfl rfl rfl rfl ?_
    refine X.done [(0, _), (1, _), (4, _), (5, _)] ⟨rfl, rfl, rfl, rfl, trivial⟩ ?_
    refine N.then ?_
    refine E.seq ?_
    refine E.region ?_
    refine X.build (v := .agg ([Value.bool false, .slice none 0 0] : List Value).toArray) rfl rfl rfl rfl rfl (fun _ => by kernel_rfl) ?_
    refine X.box rfl rfl rfl rfl rfl rfl ?_
    intro b16 H16 hn16 hb16 hk16
    refine X.asg rfl rfl rfl rfl rfl ?_
    refine X.done [(0, _), (1, _), (4, _), (5, _), (6, _)] ⟨rfl, rfl, rfl, rfl, rfl, trivial⟩ ?_
    refine N.then ?_
    refine E.seq ?_
    refine E.region ?_
    refine X.mv rfl rfl rfl rfl rfl ?_
    refine X.mv rfl rfl rfl rfl rfl ?_
    refine X.call rfl rfl rfl rfl rfl Try.cl14 (putN_ct _ H16 (thereN_ct H16) _) ?_
    rintro _ H9 ⟨rfl, eH9⟩
    obtain rfl := eH9.symm
    refine X.done [(0, _), (1, _), (4, _), (5, _), (6, _)] ⟨rfl, rfl, rfl, rfl, rfl, trivial⟩ ?_
    refine N.then ?_
    refine E.seq ?_
    refine E.region ?_
    refine X.mv rfl rfl rfl rfl rfl ?_
    refine X.mv rfl rfl rfl rfl rfl ?_
    refine X.call rfl rfl rfl rfl rfl Try.cl14 (putN_ct _ H16 (there0_ct b16 _ H16 hb16) _) ?_
    rintro _ H9 ⟨rfl, eH9⟩
    obtain rfl := eH9.symm
    refine X.done [(1, _), (4, _), (5, _), (6, _)] ⟨rfl, rfl, rfl, rfl, trivial⟩ ?_
    refine N.then ?_
    refine E.seq ?_
    refine E.region ?_
    refine X.mv rfl rfl rfl rfl rfl ?_
    refine X.call rfl rfl rfl rfl rfl Try.cl18 (clearN_ct _ H16 (thereN_ct H16)) ?_
    rintro _ H9 ⟨rfl, eH9⟩
    obtain rfl := eH9.symm
    refine X.done [(1, _), (4, _), (5, _), (6, _)] ⟨rfl, rfl, rfl, rfl, trivial⟩ ?_
    refine N.then ?_
    refine E.seq ?_
    refine E.region ?_
    refine X.mv rfl rfl rfl rfl rfl ?_
    refine X.mv rfl rfl rfl rfl rfl ?_
    refine X.call rfl rfl rfl rfl rfl Try.cl10 (copyN_ct _ H16 (thereN_ct H16) 1 n) ?_
    rintro _ H9 ⟨rfl, eH9⟩
    obtain rfl := eH9.symm
    refine X.mv rfl rfl rfl rfl rfl ?_
    refine X.extract rfl rfl rfl rfl rfl rfl ?_
    refine X.extract rfl rfl rfl rfl rfl rfl ?_
    refine X.asg rfl rfl rfl rfl rfl ?_
    refine X.asg rfl rfl rfl rfl rfl ?_
    refine X.done [(1, _), (4, _), (5, _), (6, _), (8, _)] ⟨rfl, rfl, rfl, rfl, rfl, trivial⟩ ?_
    refine N.then ?_
    refine E.seq ?_
    refine E.region ?_
    refine X.mv rfl rfl rfl rfl rfl ?_
    refine X.mv rfl rfl rfl rfl rfl ?_
    refine X.call rfl rfl rfl rfl rfl Try.cl10 (copyN_ct _ H16 (there0_ct b16 _ H16 hb16) 1 n) ?_
    rintro _ H9 ⟨rfl, eH9⟩
    obtain rfl := eH9.symm
    refine X.mv rfl rfl rfl rfl rfl ?_
    refine X.extract rfl rfl rfl rfl rfl rfl ?_
    refine X.extract rfl rfl rfl rfl rfl rfl ?_
    refine X.asg rfl rfl rfl rfl rfl ?_
    refine X.asg rfl rfl rfl rfl rfl ?_
    refine X.done [(1, _), (4, _), (5, _), (6, _), (8, _), (10, _)] ⟨rfl, rfl, rfl, rfl, rfl, rfl, trivial⟩ ?_
    refine N.then ?_
    refine E.seq ?_
    refine E.region ?_
    refine X.mv rfl rfl rfl rfl rfl ?_
    refine X.eqlT rfl rfl rfl rfl rfl rfl (rfl) ?_
    refine X.mv rfl rfl rfl rfl rfl ?_
    refine X.mv rfl rfl rfl rfl rfl ?_
    refine X.eqlT rfl rfl rfl rfl rfl rfl (rfl) ?_
    refine X.pickT rfl rfl rfl rfl rfl rfl ?_
    refine X.mv rfl rfl rfl rfl rfl ?_
    refine X.mv rfl rfl rfl rfl rfl ?_
    refine X.call rfl rfl rfl rfl rfl Try.cl12 (lenN_ct _ H16 (thereN_ct H16)) ?_
    rintro _ H9 ⟨rfl, eH9⟩
    obtain rfl := eH9.symm
    refine X.eqlT rfl rfl rfl rfl rfl rfl (rfl) ?_
    refine X.pickT rfl rfl rfl rfl rfl rfl ?_
    refine X.mv rfl rfl rfl rfl rfl ?_
    refine X.mv rfl rfl rfl rfl rfl ?_
    refine X.call rfl rfl rfl rfl rfl Try.cl12 (lenN_ct _ H16 (there0_ct b16 _ H16 hb16)) ?_
    rintro _ H9 ⟨rfl, eH9⟩
    obtain rfl := eH9.symm
    refine X.eqlT rfl rfl rfl rfl rfl rfl (rfl) ?_
    refine X.pickT rfl rfl rfl rfl rfl rfl ?_
    refine X.mv rfl rfl rfl rfl rfl ?_
    refine X.mv rfl rfl rfl rfl rfl ?_
    refine X.mv rfl rfl rfl rfl rfl ?_
    refine X.call rfl rfl rfl rfl rfl Try.cl11 (lastN_ct _ H16 (thereN_ct H16) n) ?_
    rintro _ H9 ⟨rfl, eH9⟩
    obtain rfl := eH9.symm
    refine X.eqlST rfl rfl rfl rfl rfl rfl (rfl) ?_
    refine X.pickT rfl rfl rfl rfl rfl rfl ?_
    refine X.mv rfl rfl rfl rfl rfl ?_
    refine X.mv rfl rfl rfl rfl rfl ?_
    refine X.call rfl rfl rfl rfl rfl Try.cl11 (lastN_ct _ H16 (there0_ct b16 _ H16 hb16) 9) ?_
    rintro _ H9 ⟨rfl, eH9⟩
    obtain rfl := eH9.symm
    refine X.eqlST rfl rfl rfl rfl rfl rfl (rfl) ?_
    refine X.pickT rfl rfl rfl rfl rfl rfl ?_
    refine X.mv rfl rfl rfl rfl rfl ?_
    refine X.mv rfl rfl rfl rfl rfl ?_
    refine X.call rfl rfl rfl rfl rfl Try.cl19 (twinN_ct _ H16 (thereN_ct H16)) ?_
    rintro _ H9 ⟨rfl, eH9⟩
    obtain rfl := eH9.symm
    refine X.eqlP0 rfl rfl rfl rfl rfl rfl Try.underlying23 ?_
    refine X.pickT rfl rfl rfl rfl rfl rfl ?_
    refine X.mv rfl rfl rfl rfl rfl ?_
    refine X.mv rfl rfl rfl rfl rfl ?_
    refine X.call rfl rfl rfl rfl rfl Try.cl19 (twinN_ct _ H16 (there0_ct b16 _ H16 hb16)) ?_
    rintro _ H9 ⟨rfl, eH9⟩
    obtain rfl := eH9.symm
    refine X.eqlP0 rfl rfl rfl rfl rfl rfl Try.underlying23 ?_
    refine X.pickT rfl rfl rfl rfl rfl rfl ?_
    refine X.mv rfl rfl rfl rfl rfl ?_
    refine X.call rfl rfl rfl rfl rfl Try.cl7 (known_ct H16) ?_
    rintro _ HK ⟨rfl, hkK⟩
    refine X.pickT rfl rfl rfl rfl rfl rfl ?_
    refine X.asg rfl rfl rfl rfl rfl ?_
    refine X.done [(4, _)] ⟨rfl, trivial⟩ ?_
    refine N.then ?_
    refine E.ret ?_
    exact N.retH [_] ⟨_, _, rfl, rfl, rfl⟩ ⟨rfl, hk16.trans hkK (by simp)⟩

end Go.Proofs.Ytebanilfapapbaa