/- The walks of the readers; the laws of parts and of what is read. -/
import Derived.Test.YtpengkmmgpoofaaW3
namespace Go.Proofs.Ytpengkmmgpoofaa
open Go.SX Go.Bit
attribute [local irreducible] X E N Ct
set_option linter.unusedVariables false

def cnt (n m : Int) : Int := (if n < 0 then -(n + 1) else n) % m
theorem cnt_bd (n m : Int) (h : 1 ≤ m) : 0 ≤ cnt n m ∧ cnt n m < m := ⟨Int.emod_nonneg _ (by omega), Int.emod_lt_of_pos _ (by omega)⟩
def bitsV (s : Bs) (at_ : Nat) (n : Int) : Nat × Int × Nat :=
  if n < 0 ∨ 32 < n then (0, 1, at_) else if 8 * s.length - at_ < n.toNat then (0, 2, at_) else (pk (num s) at_ n.toNat, 0, at_ + n.toNat)
def peekV (s : Bs) (at_ : Nat) (n : Int) : Nat := if n < 0 ∨ 32 < n then 0 else pk (num s) at_ n.toNat
def bytesV (s : Bs) (at_ : Nat) (n : Int) : Bs × Int × Nat :=
  if n < 0 ∨ at_ % 8 ≠ 0 then ([], 1, at_) else if (8 * s.length - at_) / 8 < n.toNat then ([], 2, at_) else ((s.take (at_ / 8 + n.toNat)).drop (at_ / 8), 0, at_ + 8 * n.toNat)
theorem bitsV_le (s : Bs) (at_ : Nat) (n : Int) (h : at_ ≤ 8 * s.length) : (bitsV s at_ n).2.2 ≤ 8 * s.length := by
  unfold bitsV; split
  · exact h
  · split
    · exact h
    · show at_ + n.toNat ≤ _; omega
theorem bytesV_le (s : Bs) (at_ : Nat) (n : Int) (h : at_ ≤ 8 * s.length) : (bytesV s at_ n).2.2 ≤ 8 * s.length := by
  unfold bytesV; split
  · exact h
  · split
    · exact h
    · show at_ + 8 * n.toNat ≤ _; omega

theorem add2 (a b : Nat) (h : a + b ≤ 9223372036854775807) : IntKind.i64.wrap ((a : Int) + (b : Int)) = ((a + b : Nat) : Int) := by rw [IntWalk.i64_in _ (by omega)]; omega

theorem count_ct (n m : Int) (H : Heap) (hn : -9223372036854775808 ≤ n ∧ n ≤ 9223372036854775807) (hm : 1 ≤ m) : Ct Try.prog 22 #[i64 n, i64 m] H fun v H' => v = i64 (cnt n m) ∧ H' = H := by
  refine Ct.into 13 Try.func22 rfl [(0, i64 n), (1, i64 m)] rfl ⟨rfl, rfl, trivial⟩ ?_
  refine E.seq ?_
  refine E.region ?_
  refine X.asg rfl rfl rfl rfl rfl ?_
  refine X.done [(0, _), (1, _), (4, _)] ⟨rfl, rfl, rfl, trivial⟩ ?_
  refine N.then ?_
  refine E.seq ?_
  refine E.seq ?_
  refine E.region ?_
  refine X.mv rfl rfl rfl rfl rfl ?_
  refine X.lss rfl rfl rfl rfl rfl rfl ?_
  refine X.done [(0, _), (1, _), (4, _), (6, _)] ⟨rfl, rfl, rfl, rfl, trivial⟩ ?_
  refine N.then ?_
  refine E.condD rfl (fun hc => ?_) (fun hc => ?_)
  · refine E.region ?_
    refine X.mv rfl rfl rfl rfl rfl ?_
    refine X.add rfl rfl rfl rfl rfl rfl (by omega) ?_
    refine X.neg rfl rfl rfl rfl rfl (by omega) ?_
    refine X.asg rfl rfl rfl rfl rfl ?_
    refine X.done [(0, _), (1, _), (4, _)] ⟨rfl, rfl, rfl, trivial⟩ ?_
    refine N.then ?_
    refine E.seq ?_
    refine E.region ?_
    refine X.mv rfl rfl rfl rfl rfl ?_
    refine X.mv rfl rfl rfl rfl rfl ?_
    refine X.rem rfl rfl rfl rfl rfl rfl (by omega) ?_
    refine X.asg rfl rfl rfl rfl rfl ?_
    refine X.done [(4, _)] ⟨rfl, trivial⟩ ?_
    refine N.then ?_
    refine E.ret ?_
    exact N.retH [_] ⟨_, _, rfl, rfl, rfl⟩ ⟨by unfold cnt; first | (rw [if_pos hc]; rfl) | (rw [if_neg hc]; rfl), rfl⟩
  · refine E.skip ?_
    refine N.then ?_
    refine E.seq ?_
    refine E.region ?_
    refine X.mv rfl rfl rfl rfl rfl ?_
    refine X.mv rfl rfl rfl rfl rfl ?_
    refine X.rem rfl rfl rfl rfl rfl rfl (by omega) ?_
    refine X.asg rfl rfl rfl rfl rfl ?_
    refine X.done [(4, _)] ⟨rfl, trivial⟩ ?_
    refine N.then ?_
    refine E.ret ?_
    exact N.retH [_] ⟨_, _, rfl, rfl, rfl⟩ ⟨by unfold cnt; first | (rw [if_pos hc]; rfl) | (rw [if_neg hc]; rfl), rfl⟩

theorem ralign_ct (p : Nat) (s : Bs) (at_ : Nat) (H : Heap) (hR : Rdr H p s at_) (hl : s.length ≤ 100000 ∧ at_ ≤ 8 * s.length) : Ct Try.prog 35 #[ptr p] H fun u H' => u = .tuple #[] ∧ Rdr H' p s (8 * ((at_ + 7) / 8)) ∧ Kp [p] H H' := by
  refine Ct.into 15 Try.func35 rfl [(0, ptr p)] rfl ⟨rfl, trivial⟩ ?_
  refine E.seq ?_
  refine E.region ?_
  refine X.mv rfl rfl rfl rfl rfl ?_
  refine X.call rfl rfl rfl rfl rfl Try.cl44 (there_ct p s at_ H hR) ?_
  rintro _ H1 ⟨rfl, eH1⟩
  obtain rfl := eH1.symm
  refine X.done [(0, _), (3, _)] ⟨rfl, rfl, trivial⟩ ?_
  refine N.then ?_
  refine E.condT rfl ?_
  refine E.region ?_
  refine X.mv rfl rfl rfl rfl rfl ?_
  refine X.mv rfl rfl rfl rfl rfl ?_
  refine X.nilP rfl rfl rfl rfl rfl ?_
  refine X.fld rfl rfl rfl rfl rfl Try.off70_2 ?_
  refine X.ld rfl rfl rfl rfl Try.ag3 (hR) (rfl) ?_
  refine X.addE (zz := ((at_ + 8 : Nat) : Int)) rfl rfl rfl rfl rfl rfl (by rw [IntWalk.i64_in _ (by omega)] <;> omega) ?_
  refine X.sbE (zz := ((at_ + 7 : Nat) : Int)) rfl rfl rfl rfl rfl rfl (by rw [IntWalk.i64_in _ (by omega)] <;> omega) ?_
  refine X.quoE (zz := (((at_ + 7) / 8 : Nat) : Int)) rfl rfl rfl rfl rfl rfl (by omega) (by rw [IntWalk.i64_quo _ _ (by omega)] <;> omega) ?_
  refine X.mulE (zz := ((8 * ((at_ + 7) / 8) : Nat) : Int)) rfl rfl rfl rfl rfl rfl (by rw [IntWalk.i64_in _ (by omega)] <;> omega) ?_
  refine X.nilP rfl rfl rfl rfl rfl ?_
  refine X.fld rfl rfl rfl rfl rfl Try.off70_2 ?_
  refine X.st rfl rfl rfl rfl rfl rfl rfl Try.sz3 hR (by simp) ?_
  intro H4 hb4 hk4
  refine X.done [] trivial ?_
  exact N.endH [] rfl ⟨rfl, hb4, hk4⟩

theorem rbytes_neg (p : Nat) (s : Bs) (at_ : Nat) (H : Heap) (hR : Rdr H p s at_) (hl : s.length ≤ 100000 ∧ at_ ≤ 8 * s.length) (n : Int) (hn : n < 0) : Ct Try.prog 37 #[ptr p, i64 n] H fun u H' => u = .tuple #[str [], i64 1] ∧ H' = H := by
  refine Ct.into 51 Try.func37 rfl [(0, ptr p), (1, i64 n)] rfl ⟨rfl, rfl, trivial⟩ ?_
  refine E.seq ?_
  refine E.region ?_
  refine X.asg rfl rfl rfl rfl rfl ?_
  refine X.asg rfl rfl rfl rfl rfl ?_
  refine X.done [(0, _), (1, _), (4, _), (5, _)] ⟨rfl, rfl, rfl, rfl, trivial⟩ ?_
  refine N.then ?_
  refine E.seq ?_
  refine E.block ?_
  refine E.seq ?_
  refine E.region ?_
  refine X.mv rfl rfl rfl rfl rfl ?_
  refine X.call rfl rfl rfl rfl rfl Try.cl44 (there_ct p s at_ H hR) ?_
  rintro _ H1 ⟨rfl, eH1⟩
  obtain rfl := eH1.symm
  refine X.notT rfl rfl rfl rfl rfl ?_
  refine X.asg rfl rfl rfl rfl rfl ?_
  refine X.done [(0, _), (1, _), (4, _), (5, _), (7, _)] ⟨rfl, rfl, rfl, rfl, rfl, trivial⟩ ?_
  refine N.then ?_
  refine E.condF rfl ?_
  refine E.seq ?_
  refine E.region ?_
  refine X.mv rfl rfl rfl rfl rfl ?_
  refine X.lssT rfl rfl rfl rfl rfl rfl (by omega) ?_
  refine X.mv rfl rfl rfl rfl rfl ?_
  refine X.skip rfl rfl rfl ?_
  refine X.skip rfl rfl rfl ?_
  refine X.skip rfl rfl rfl ?_
  refine X.skip rfl rfl rfl ?_
  refine X.skip rfl rfl rfl ?_
  refine X.skip rfl rfl rfl ?_
  refine X.pickT rfl rfl rfl rfl rfl rfl ?_
  refine X.asg rfl rfl rfl rfl rfl ?_
  refine X.done [(0, _), (1, _), (4, _), (5, _), (11, _)] ⟨rfl, rfl, rfl, rfl, rfl, trivial⟩ ?_
  refine N.then ?_
  refine E.condT rfl ?_
  refine E.seq ?_
  refine E.region ?_
  refine X.asg rfl rfl rfl rfl rfl ?_
  refine X.asg rfl rfl rfl rfl rfl ?_
  refine X.done [(0, _), (1, _), (4, _), (5, _)] ⟨rfl, rfl, rfl, rfl, trivial⟩ ?_
  refine N.then ?_
  refine E.ret ?_
  refine N.blkR ?_
  refine N.thenR ?_
  exact N.retH [_, _] ⟨_, _, rfl, rfl, _, _, rfl, rfl, rfl⟩ ⟨rfl, rfl⟩

theorem rbytes_odd (p : Nat) (s : Bs) (at_ : Nat) (H : Heap) (hR : Rdr H p s at_) (hl : s.length ≤ 100000 ∧ at_ ≤ 8 * s.length) (n : Nat) (ho : at_ % 8 ≠ 0) : Ct Try.prog 37 #[ptr p, i64 n] H fun u H' => u = .tuple #[str [], i64 1] ∧ H' = H := by
  refine Ct.into 51 Try.func37 rfl [(0, ptr p), (1, i64 n)] rfl ⟨rfl, rfl, trivial⟩ ?_
  refine E.seq ?_
  refine E.region ?_
  refine X.asg rfl rfl rfl rfl rfl ?_
  refine X.asg rfl rfl rfl rfl rfl ?_
  refine X.done [(0, _), (1, _), (4, _), (5, _)] ⟨rfl, rfl, rfl, rfl, trivial⟩ ?_
  refine N.then ?_
  refine E.seq ?_
  refine E.block ?_
  refine E.seq ?_
  refine E.region ?_
  refine X.mv rfl rfl rfl rfl rfl ?_
  refine X.call rfl rfl rfl rfl rfl Try.cl44 (there_ct p s at_ H hR) ?_
  rintro _ H1 ⟨rfl, eH1⟩
  obtain rfl := eH1.symm
  refine X.notT rfl rfl rfl rfl rfl ?_
  refine X.asg rfl rfl rfl rfl rfl ?_
  refine X.done [(0, _), (1, _), (4, _), (5, _), (7, _)] ⟨rfl, rfl, rfl, rfl, rfl, trivial⟩ ?_
  refine N.then ?_
  refine E.condF rfl ?_
  refine E.seq ?_
  refine E.region ?_
  refine X.mv rfl rfl rfl rfl rfl ?_
  refine X.lssF rfl rfl rfl rfl rfl rfl (by omega) ?_
  refine X.mv rfl rfl rfl rfl rfl ?_
  refine X.mv rfl rfl rfl rfl rfl ?_
  refine X.nilP rfl rfl rfl rfl rfl ?_
  refine X.fld rfl rfl rfl rfl rfl Try.off70_2 ?_
  refine X.ld rfl rfl rfl rfl Try.ag3 (hR) (rfl) ?_
  refine X.remE (zz := ((at_ % 8 : Nat) : Int)) rfl rfl rfl rfl rfl rfl (by omega) (by rw [IntWalk.rem_in _ _ (by omega)] <;> omega) ?_
  refine X.neqT rfl rfl rfl rfl rfl rfl (by omega) ?_
  refine X.pickF rfl rfl rfl rfl rfl rfl ?_
  refine X.asg rfl rfl rfl rfl rfl ?_
  refine X.done [(0, _), (1, _), (4, _), (5, _), (11, _)] ⟨rfl, rfl, rfl, rfl, rfl, trivial⟩ ?_
  refine N.then ?_
  refine E.condT rfl ?_
  refine E.seq ?_
  refine E.region ?_
  refine X.asg rfl rfl rfl rfl rfl ?_
  refine X.asg rfl rfl rfl rfl rfl ?_
  refine X.done [(0, _), (1, _), (4, _), (5, _)] ⟨rfl, rfl, rfl, rfl, trivial⟩ ?_
  refine N.then ?_
  refine E.ret ?_
  refine N.blkR ?_
  refine N.thenR ?_
  exact N.retH [_, _] ⟨_, _, rfl, rfl, _, _, rfl, rfl, rfl⟩ ⟨rfl, rfl⟩

theorem rbytes_far (p : Nat) (s : Bs) (at_ : Nat) (H : Heap) (hR : Rdr H p s at_) (hl : s.length ≤ 100000 ∧ at_ ≤ 8 * s.length) (n : Nat) (ho : at_ % 8 = 0) (hf : (8 * s.length - at_) / 8 < n) : Ct Try.prog 37 #[ptr p, i64 n] H fun u H' => u = .tuple #[str [], i64 2] ∧ H' = H := by
  refine Ct.into 51 Try.func37 rfl [(0, ptr p), (1, i64 n)] rfl ⟨rfl, rfl, trivial⟩ ?_
  refine E.seq ?_
  refine E.region ?_
  refine X.asg rfl rfl rfl rfl rfl ?_
  refine X.asg rfl rfl rfl rfl rfl ?_
  refine X.done [(0, _), (1, _), (4, _), (5, _)] ⟨rfl, rfl, rfl, rfl, trivial⟩ ?_
  refine N.then ?_
  refine E.seq ?_
  refine E.block ?_
  refine E.seq ?_
  refine E.region ?_
  refine X.mv rfl rfl rfl rfl rfl ?_
  refine X.call rfl rfl rfl rfl rfl Try.cl44 (there_ct p s at_ H hR) ?_
  rintro _ H1 ⟨rfl, eH1⟩
  obtain rfl := eH1.symm
  refine X.notT rfl rfl rfl rfl rfl ?_
  refine X.asg rfl rfl rfl rfl rfl ?_
  refine X.done [(0, _), (1, _), (4, _), (5, _), (7, _)] ⟨rfl, rfl, rfl, rfl, rfl, trivial⟩ ?_
  refine N.then ?_
  refine E.condF rfl ?_
  refine E.seq ?_
  refine E.region ?_
  refine X.mv rfl rfl rfl rfl rfl ?_
  refine X.lssF rfl rfl rfl rfl rfl rfl (by omega) ?_
  refine X.mv rfl rfl rfl rfl rfl ?_
  refine X.mv rfl rfl rfl rfl rfl ?_
  refine X.nilP rfl rfl rfl rfl rfl ?_
  refine X.fld rfl rfl rfl rfl rfl Try.off70_2 ?_
  refine X.ld rfl rfl rfl rfl Try.ag3 (hR) (rfl) ?_
  refine X.remE (zz := ((at_ % 8 : Nat) : Int)) rfl rfl rfl rfl rfl rfl (by omega) (by rw [IntWalk.rem_in _ _ (by omega)] <;> omega) ?_
  refine X.neqF rfl rfl rfl rfl rfl rfl (by omega) ?_
  refine X.pickF rfl rfl rfl rfl rfl rfl ?_
  refine X.asg rfl rfl rfl rfl rfl ?_
  refine X.done [(0, _), (1, _), (4, _), (5, _), (11, _)] ⟨rfl, rfl, rfl, rfl, rfl, trivial⟩ ?_
  refine N.then ?_
  refine E.condF rfl ?_
  refine E.seq ?_
  refine E.region ?_
  refine X.mv rfl rfl rfl rfl rfl ?_
  refine X.mv rfl rfl rfl rfl rfl ?_
  refine X.call rfl rfl rfl rfl rfl Try.cl21 (left_ct p s at_ H hR hl) ?_
  rintro _ H3 ⟨rfl, eH3⟩
  obtain rfl := eH3.symm
  refine X.quoE (zz := (((8 * s.length - at_) / 8 : Nat) : Int)) rfl rfl rfl rfl rfl rfl (by omega) (by rw [IntWalk.i64_quo _ _ (by omega)] <;> omega) ?_
  refine X.gtrT rfl rfl rfl rfl rfl rfl (by omega) ?_
  refine X.asg rfl rfl rfl rfl rfl ?_
  refine X.done [(0, _), (1, _), (4, _), (5, _), (22, _)] ⟨rfl, rfl, rfl, rfl, rfl, trivial⟩ ?_
  refine N.then ?_
  refine E.condT rfl ?_
  refine E.seq ?_
  refine E.region ?_
  refine X.asg rfl rfl rfl rfl rfl ?_
  refine X.asg rfl rfl rfl rfl rfl ?_
  refine X.done [(0, _), (1, _), (4, _), (5, _)] ⟨rfl, rfl, rfl, rfl, trivial⟩ ?_
  refine N.then ?_
  refine E.ret ?_
  refine N.blkR ?_
  refine N.thenR ?_
  exact N.retH [_, _] ⟨_, _, rfl, rfl, _, _, rfl, rfl, rfl⟩ ⟨rfl, rfl⟩

theorem rbytes_ok (p : Nat) (s : Bs) (at_ : Nat) (H : Heap) (hR : Rdr H p s at_) (hl : s.length ≤ 100000 ∧ at_ ≤ 8 * s.length) (n : Nat) (ho : at_ % 8 = 0) (hf : n ≤ (8 * s.length - at_) / 8) : Ct Try.prog 37 #[ptr p, i64 n] H fun u H' => u = .tuple #[str ((s.take (at_ / 8 + n)).drop (at_ / 8)), i64 0] ∧ Rdr H' p s (at_ + 8 * n) ∧ Kp [p] H H' := by
  refine Ct.into 51 Try.func37 rfl [(0, ptr p), (1, i64 n)] rfl ⟨rfl, rfl, trivial⟩ ?_
  refine E.seq ?_
  refine E.region ?_
  refine X.asg rfl rfl rfl rfl rfl ?_
  refine X.asg rfl rfl rfl rfl rfl ?_
  refine X.done [(0, _), (1, _), (4, _), (5, _)] ⟨rfl, rfl, rfl, rfl, trivial⟩ ?_
  refine N.then ?_
  refine E.seq ?_
  refine E.block ?_
  refine E.seq ?_
  refine E.region ?_
  refine X.mv rfl rfl rfl rfl rfl ?_
  refine X.call rfl rfl rfl rfl rfl Try.cl44 (there_ct p s at_ H hR) ?_
  rintro _ H1 ⟨rfl, eH1⟩
  obtain rfl := eH1.symm
  refine X.notT rfl rfl rfl rfl rfl ?_
  refine X.asg rfl rfl rfl rfl rfl ?_
  refine X.done [(0, _), (1, _), (4, _), (5, _), (7, _)] ⟨rfl, rfl, rfl, rfl, rfl, trivial⟩ ?_
  refine N.then ?_
  refine E.condF rfl ?_
  refine E.seq ?_
  refine E.region ?_
  refine X.mv rfl rfl rfl rfl rfl ?_
  refine X.lssF rfl rfl rfl rfl rfl rfl (by omega) ?_
  refine X.mv rfl rfl rfl rfl rfl ?_
  refine X.mv rfl rfl rfl rfl rfl ?_
  refine X.nilP rfl rfl rfl rfl rfl ?_
  refine X.fld rfl rfl rfl rfl rfl Try.off70_2 ?_
  refine X.ld rfl rfl rfl rfl Try.ag3 (hR) (rfl) ?_
  refine X.remE (zz := ((at_ % 8 : Nat) : Int)) rfl rfl rfl rfl rfl rfl (by omega) (by rw [IntWalk.rem_in _ _ (by omega)] <;> omega) ?_
  refine X.neqF rfl rfl rfl rfl rfl rfl (by omega) ?_
  refine X.pickF rfl rfl rfl rfl rfl rfl ?_
  refine X.asg rfl rfl rfl rfl rfl ?_
  refine X.done [(0, _), (1, _), (4, _), (5, _), (11, _)] ⟨rfl, rfl, rfl, rfl, rfl, trivial⟩ ?_
  refine N.then ?_
  refine E.condF rfl ?_
  refine E.seq ?_
  refine E.region ?_
  refine X.mv rfl rfl rfl rfl rfl ?_
  refine X.mv rfl rfl rfl rfl rfl ?_
  refine X.call rfl rfl rfl rfl rfl Try.cl21 (left_ct p s at_ H hR hl) ?_
  rintro _ H3 ⟨rfl, eH3⟩
  obtain rfl := eH3.symm
  refine X.quoE (zz := (((8 * s.length - at_) / 8 : Nat) : Int)) rfl rfl rfl rfl rfl rfl (by omega) (by rw [IntWalk.i64_quo _ _ (by omega)] <;> omega) ?_
  refine X.gtrF rfl rfl rfl rfl rfl rfl (by omega) ?_
  refine X.asg rfl rfl rfl rfl rfl ?_
  refine X.done [(0, _), (1, _), (4, _), (5, _), (22, _)] ⟨rfl, rfl, rfl, rfl, rfl, trivial⟩ ?_
  refine N.then ?_
  refine E.condF rfl ?_
  refine E.skip ?_
  refine N.blk ?_
  refine N.then ?_
  refine E.seq ?_
  refine E.region ?_
  refine X.mv rfl rfl rfl rfl rfl ?_
  refine X.nilP rfl rfl rfl rfl rfl ?_
  refine X.fld rfl rfl rfl rfl rfl Try.off70_2 ?_
  refine X.ld rfl rfl rfl rfl Try.ag3 (hR) (rfl) ?_
  refine X.quoE (zz := ((at_ / 8 : Nat) : Int)) rfl rfl rfl rfl rfl rfl (by omega) (by rw [IntWalk.i64_quo _ _ (by omega)] <;> omega) ?_
  refine X.asg rfl rfl rfl rfl rfl ?_
  refine X.done [(0, _), (1, _), (4, _), (5, _), (6, _)] ⟨rfl, rfl, rfl, rfl, rfl, trivial⟩ ?_
  refine N.then ?_
  refine E.seq ?_
  refine E.region ?_
  refine X.mv rfl rfl rfl rfl rfl ?_
  refine X.nilP rfl rfl rfl rfl rfl ?_
  refine X.fld rfl rfl rfl rfl rfl Try.off70_2 ?_
  refine X.ld rfl rfl rfl rfl Try.ag3 (hR) (rfl) ?_
  refine X.mv rfl rfl rfl rfl rfl ?_
  refine X.mulE (zz := ((8 * n : Nat) : Int)) rfl rfl rfl rfl rfl rfl (by rw [IntWalk.i64_in _ (by omega)] <;> omega) ?_
  refine X.addE (zz := ((at_ + 8 * n : Nat) : Int)) rfl rfl rfl rfl rfl rfl (by rw [IntWalk.i64_in _ (by omega)] <;> omega) ?_
  refine X.nilP rfl rfl rfl rfl rfl ?_
  refine X.fld rfl rfl rfl rfl rfl Try.off70_2 ?_
  refine X.st rfl rfl rfl rfl rfl rfl rfl Try.sz3 hR (by simp) ?_
  intro H4 hb4 hk4
  refine X.done [(0, _), (1, _), (4, _), (5, _), (6, _)] ⟨rfl, rfl, rfl, rfl, rfl, trivial⟩ ?_
  refine N.then ?_
  refine E.seq ?_
  refine E.region ?_
  refine X.mv rfl rfl rfl rfl rfl ?_
  refine X.nilP rfl rfl rfl rfl rfl ?_
  refine X.fld rfl rfl rfl rfl rfl Try.off70_1 ?_
  refine X.ld rfl rfl rfl rfl Try.ag9 (hb4) (rfl) ?_
  refine X.mv rfl rfl rfl rfl rfl ?_
  refine X.mv rfl rfl rfl rfl rfl ?_
  refine X.mv rfl rfl rfl rfl rfl ?_
  refine X.addE (zz := ((at_ / 8 + n : Nat) : Int)) rfl rfl rfl rfl rfl rfl (by rw [IntWalk.i64_in _ (by omega)] <;> omega) ?_
  refine X.slS rfl rfl rfl rfl rfl rfl rfl Try.underlying9 (by omega) ?_
  refine X.asg rfl rfl rfl rfl rfl ?_
  refine X.asg rfl rfl rfl rfl rfl ?_
  refine X.done [(4, _), (5, _)] ⟨rfl, rfl, trivial⟩ ?_
  refine N.then ?_
  refine E.ret ?_
  exact N.retH [_, _] ⟨_, _, rfl, rfl, _, _, rfl, rfl, rfl⟩ ⟨rfl, hb4, hk4⟩

theorem copy_ct (p : Nat) (s : Bs) (at_ : Nat) (H : Heap) (hR : Rdr H p s at_) (hl : s.length ≤ 100000 ∧ at_ ≤ 8 * s.length) : Ct Try.prog 39 #[ptr p] H fun u H' => ∃ q, u = ptr q ∧ H.size ≤ q ∧ Rdr H' q s at_ ∧ Kp [] H H' := by
  refine Ct.into 10 Try.func39 rfl [(0, ptr p)] rfl ⟨rfl, trivial⟩ ?_
  refine E.seq ?_
  refine E.region ?_
  refine X.asg rfl rfl rfl rfl rfl ?_
  refine X.done [(0, _), (2, _)] ⟨rfl, rfl, trivial⟩ ?_
  refine N.then ?_
  refine E.seq ?_
  refine E.seq ?_
  refine E.region ?_
  refine X.mv rfl rfl rfl rfl rfl ?_
  refine X.call rfl rfl rfl rfl rfl Try.cl44 (there_ct p s at_ H hR) ?_
  rintro _ H1 ⟨rfl, eH1⟩
  obtain rfl := eH1.symm
  refine X.notT rfl rfl rfl rfl rfl ?_
  refine X.done [(0, _), (2, _), (6, _)] ⟨rfl, rfl, rfl, trivial⟩ ?_
  refine N.then ?_
  refine E.condF rfl ?_
  refine E.skip ?_
  refine N.then ?_
  refine E.seq ?_
  refine E.region ?_
  refine X.mv rfl rfl rfl rfl rfl ?_
  refine X.nilP rfl rfl rfl rfl rfl ?_
  refine X.ldA rfl rfl rfl rfl Try.ag70 Try.sz70 (hR) (vs := [Value.bool true, str s, i64 at_]) rfl (fun j v hj => by rw [Nat.zero_add]; exact hj) ?_
  refine X.alloc (z := .agg ([.bool false, .string ⟨#[]⟩, .int .i64 0] : List Value).toArray) (cs := [.bool false, .string ⟨#[]⟩, .int .i64 0]) rfl rfl rfl rfl (by kernel_rfl) rfl ?_
  intro q H4 hn4 hb4 hk4
  refine X.stA rfl rfl rfl rfl rfl rfl (by simp [Value.oneCell']) Try.sz70 hb4 (by simp) ?_
  intro H5 hb5 hk5
  refine X.done [(2, _), (3, _)] ⟨rfl, rfl, trivial⟩ ?_
  refine N.then ?_
  refine E.seq ?_
  refine E.region ?_
  refine X.asg rfl rfl rfl rfl rfl ?_
  refine X.done [(2, _)] ⟨rfl, trivial⟩ ?_
  refine N.then ?_
  refine E.ret ?_
  exact N.retH [_] ⟨_, _, rfl, rfl, rfl⟩ ⟨q, rfl, hn4, hb5, hk4.trans hk5 (by simp; exact hn4)⟩

theorem rnew_bad0_ct (s : Bs) (at_ : Int) (H : Heap) (hl : s.length ≤ 100000) (hb : at_ < 0) : Ct Try.prog 30 #[str s, i64 at_] H fun v H' => ∃ q, v = .tuple #[ptr q, i64 1] ∧ Kp [] H H' := by
  refine Ct.into 21 Try.func30 rfl [(0, str s), (1, i64 at_)] rfl ⟨rfl, rfl, trivial⟩ ?_
  refine E.seq ?_
  refine E.region ?_
  refine X.asg rfl rfl rfl rfl rfl ?_
  refine X.asg rfl rfl rfl rfl rfl ?_
  refine X.done [(0, _), (1, _), (4, _), (5, _)] ⟨rfl, rfl, rfl, rfl, trivial⟩ ?_
  refine N.then ?_
  refine E.seq ?_
  refine E.seq ?_
  refine E.region ?_
  refine X.mv rfl rfl rfl rfl rfl ?_
  refine X.lssT rfl rfl rfl rfl rfl rfl (by omega) ?_
  refine X.mv rfl rfl rfl rfl rfl ?_
  refine X.skip rfl rfl rfl ?_
  refine X.skip rfl rfl rfl ?_
  refine X.skip rfl rfl rfl ?_
  refine X.skip rfl rfl rfl ?_
  refine X.skip rfl rfl rfl ?_
  refine X.pickT rfl rfl rfl rfl rfl rfl ?_
  refine X.done [(0, _), (1, _), (4, _), (5, _), (14, _)] ⟨rfl, rfl, rfl, rfl, rfl, trivial⟩ ?_
  refine N.then ?_
  refine E.condT rfl ?_
  refine E.seq ?_
  refine E.region ?_
  refine X.build (v := .agg ([str [], i64 0] : List Value).toArray) rfl rfl rfl rfl rfl (fun _ => by kernel_rfl) ?_
  refine X.box rfl rfl rfl rfl rfl rfl ?_
  intro q H3 hn3 hb3 hk3
  refine X.asg rfl rfl rfl rfl rfl ?_
  refine X.asg rfl rfl rfl rfl rfl ?_
  refine X.done [(0, _), (1, _), (4, _), (5, _)] ⟨rfl, rfl, rfl, rfl, trivial⟩ ?_
  refine N.then ?_
  refine E.ret ?_
  refine N.thenR ?_
  exact N.retH [_, _] ⟨_, _, rfl, rfl, _, _, rfl, rfl, rfl⟩ ⟨q, rfl, hk3⟩

theorem rnew_bad1_ct (s : Bs) (at_ : Int) (H : Heap) (hl : s.length ≤ 100000) (hb : 8 * (s.length : Int) < at_) : Ct Try.prog 30 #[str s, i64 at_] H fun v H' => ∃ q, v = .tuple #[ptr q, i64 1] ∧ Kp [] H H' := by
  refine Ct.into 21 Try.func30 rfl [(0, str s), (1, i64 at_)] rfl ⟨rfl, rfl, trivial⟩ ?_
  refine E.seq ?_
  refine E.region ?_
  refine X.asg rfl rfl rfl rfl rfl ?_
  refine X.asg rfl rfl rfl rfl rfl ?_
  refine X.done [(0, _), (1, _), (4, _), (5, _)] ⟨rfl, rfl, rfl, rfl, trivial⟩ ?_
  refine N.then ?_
  refine E.seq ?_
  refine E.seq ?_
  refine E.region ?_
  refine X.mv rfl rfl rfl rfl rfl ?_
  refine X.lssF rfl rfl rfl rfl rfl rfl (by omega) ?_
  refine X.mv rfl rfl rfl rfl rfl ?_
  refine X.mv rfl rfl rfl rfl rfl ?_
  refine X.mv rfl rfl rfl rfl rfl ?_
  refine X.lenL rfl rfl rfl rfl rfl Try.underlying9 ?_
  refine X.mul rfl rfl rfl rfl rfl rfl (by omega) ?_
  refine X.gtrT rfl rfl rfl rfl rfl rfl (by omega) ?_
  refine X.pickF rfl rfl rfl rfl rfl rfl ?_
  refine X.done [(0, _), (1, _), (4, _), (5, _), (14, _)] ⟨rfl, rfl, rfl, rfl, rfl, trivial⟩ ?_
  refine N.then ?_
  refine E.condT rfl ?_
  refine E.seq ?_
  refine E.region ?_
  refine X.build (v := .agg ([str [], i64 0] : List Value).toArray) rfl rfl rfl rfl rfl (fun _ => by kernel_rfl) ?_
  refine X.box rfl rfl rfl rfl rfl rfl ?_
  intro q H3 hn3 hb3 hk3
  refine X.asg rfl rfl rfl rfl rfl ?_
  refine X.asg rfl rfl rfl rfl rfl ?_
  refine X.done [(0, _), (1, _), (4, _), (5, _)] ⟨rfl, rfl, rfl, rfl, trivial⟩ ?_
  refine N.then ?_
  refine E.ret ?_
  refine N.thenR ?_
  exact N.retH [_, _] ⟨_, _, rfl, rfl, _, _, rfl, rfl, rfl⟩ ⟨q, rfl, hk3⟩

theorem rnew_ct (s : Bs) (at_ : Nat) (H : Heap) (hl : s.length ≤ 100000) (hb : at_ ≤ 8 * s.length) : Ct Try.prog 30 #[str s, i64 at_] H fun v H' => ∃ p, v = .tuple #[ptr p, i64 0] ∧ H.size ≤ p ∧ Rrf H' p s at_ ∧ Kp [] H H' := by
  refine Ct.into 21 Try.func30 rfl [(0, str s), (1, i64 at_)] rfl ⟨rfl, rfl, trivial⟩ ?_
  refine E.seq ?_
  refine E.region ?_
  refine X.asg rfl rfl rfl rfl rfl ?_
  refine X.asg rfl rfl rfl rfl rfl ?_
  refine X.done [(0, _), (1, _), (4, _), (5, _)] ⟨rfl, rfl, rfl, rfl, trivial⟩ ?_
  refine N.then ?_
  refine E.seq ?_
  refine E.seq ?_
  refine E.region ?_
  refine X.mv rfl rfl rfl rfl rfl ?_
  refine X.lssF rfl rfl rfl rfl rfl rfl (by omega) ?_
  refine X.mv rfl rfl rfl rfl rfl ?_
  refine X.mv rfl rfl rfl rfl rfl ?_
  refine X.mv rfl rfl rfl rfl rfl ?_
  refine X.lenL rfl rfl rfl rfl rfl Try.underlying9 ?_
  refine X.mul rfl rfl rfl rfl rfl rfl (by omega) ?_
  refine X.gtrF rfl rfl rfl rfl rfl rfl (by omega) ?_
  refine X.pickF rfl rfl rfl rfl rfl rfl ?_
  refine X.done [(0, _), (1, _), (4, _), (5, _), (14, _)] ⟨rfl, rfl, rfl, rfl, rfl, trivial⟩ ?_
  refine N.then ?_
  refine E.condF rfl ?_
  refine E.skip ?_
  refine N.then ?_
  refine E.seq ?_
  refine E.region ?_
  refine X.mv rfl rfl rfl rfl rfl ?_
  refine X.mv rfl rfl rfl rfl rfl ?_
  refine X.build (v := .agg ([str s, i64 at_] : List Value).toArray) rfl rfl rfl rfl rfl (fun _ => by kernel_rfl) ?_
  refine X.box rfl rfl rfl rfl rfl rfl ?_
  intro p H3 hn3 hb3 hk3
  refine X.asg rfl rfl rfl rfl rfl ?_
  refine X.asg rfl rfl rfl rfl rfl ?_
  refine X.done [(4, _), (5, _)] ⟨rfl, rfl, trivial⟩ ?_
  refine N.then ?_
  refine E.ret ?_
  exact N.retH [_, _] ⟨_, _, rfl, rfl, _, _, rfl, rfl, rfl⟩ ⟨p, rfl, hn3, hb3, hk3⟩

theorem rleft_ct (p : Nat) (s : Bs) (at_ : Nat) (H : Heap) (hR : Rrf H p s at_) (hl : s.length ≤ 100000 ∧ at_ ≤ 8 * s.length) : Ct Try.prog 40 #[ptr p] H fun v H' => v = i64 ((8 * s.length - at_ : Nat) : Int) ∧ H' = H := by
  refine Ct.into 14 Try.func40 rfl [(0, ptr p)] rfl ⟨rfl, trivial⟩ ?_
  refine E.seq ?_
  refine E.region ?_
  refine X.asg rfl rfl rfl rfl rfl ?_
  refine X.done [(0, _), (2, _)] ⟨rfl, rfl, trivial⟩ ?_
  refine N.then ?_
  refine E.seq ?_
  refine E.regionD (fun H' => Rrf H' p s at_) [(0, .pu), (1, .pu), (2, .pu), (3, .st), (4, .pu), (5, .pu), (6, .pu), (7, .pu), (8, .pu), (9, .st), (10, .pu), (11, .pu)] Try.mixed (by kernel_rfl) (hR) ?_
  refine X.mv rfl rfl rfl rfl rfl ?_
  refine X.nilP rfl rfl rfl rfl rfl ?_
  refine X.fld rfl rfl rfl rfl rfl Try.off60_0 ?_
  refine X.ld rfl rfl rfl rfl Try.ag9 (fun H' hF => hF) (rfl) ?_
  refine X.lenL rfl rfl rfl rfl rfl Try.underlying9 ?_
  refine X.mul rfl rfl rfl rfl rfl rfl (by omega) ?_
  refine X.mv rfl rfl rfl rfl rfl ?_
  refine X.nilP rfl rfl rfl rfl rfl ?_
  refine X.fld rfl rfl rfl rfl rfl Try.off60_1 ?_
  refine X.ld rfl rfl rfl rfl Try.ag3 (fun H' hF => hF) (rfl) ?_
  refine X.sbE (zz := ((8 * s.length - at_ : Nat) : Int)) rfl rfl rfl rfl rfl rfl (by rw [IntWalk.i64_in _ (by omega)] <;> omega) ?_
  refine X.asg rfl rfl rfl rfl rfl ?_
  refine X.done [(2, _)] ⟨rfl, trivial⟩ ?_
  refine N.then ?_
  refine E.ret ?_
  exact N.retH [_] ⟨_, _, rfl, rfl, rfl⟩ ⟨rfl, rfl⟩

theorem bit_ct (s : Bs) (i : Nat) (H : Heap) (hl : s.length ≤ 100000) (hi : i ≤ 1000000) : Ct Try.prog 45 #[str s, i64 i] H fun v H' => v = i64 (num s / 2 ^ i % 2 : Nat) ∧ H' = H := by
  refine Ct.into 20 Try.func45 rfl [(0, str s), (1, i64 i)] rfl ⟨rfl, rfl, trivial⟩ ?_
  refine E.seq ?_
  refine E.region ?_
  refine X.asg rfl rfl rfl rfl rfl ?_
  refine X.done [(0, _), (1, _), (4, _)] ⟨rfl, rfl, rfl, trivial⟩ ?_
  refine N.then ?_
  refine E.seq ?_
  refine E.seq ?_
  refine E.region ?_
  refine X.mv rfl rfl rfl rfl rfl ?_
  refine X.mv rfl rfl rfl rfl rfl ?_
  refine X.lenL rfl rfl rfl rfl rfl Try.underlying9 ?_
  refine X.mul rfl rfl rfl rfl rfl rfl (by omega) ?_
  refine X.geq rfl rfl rfl rfl rfl rfl ?_
  refine X.done [(0, _), (1, _), (4, _), (9, _)] ⟨rfl, rfl, rfl, rfl, trivial⟩ ?_
  refine N.then ?_
  refine E.condD rfl (fun hc => ?_) (fun hc => ?_)
  · refine E.seq ?_
    refine E.region ?_
    refine X.asg rfl rfl rfl rfl rfl ?_
    refine X.done [(0, _), (1, _), (4, _)] ⟨rfl, rfl, rfl, trivial⟩ ?_
    refine N.then ?_
    refine E.ret ?_
    refine N.thenR ?_
    exact N.retH [_] ⟨_, _, rfl, rfl, rfl⟩ ⟨by rw [bit_no s i (by omega)]; rfl, rfl⟩
  · refine E.skip ?_
    refine N.then ?_
    refine E.seq ?_
    obtain ⟨c, hc1⟩ : ∃ c, s[i / 8]? = some c := ⟨_, List.getElem?_eq_getElem (by omega)⟩
    have hcl := c.toNat_lt
    have hbo := bit_of s i c hc1
    have hdl : c.toNat / 2 ^ (i % 8) ≤ c.toNat := Nat.div_le_self _ _
    refine E.region ?_
    refine X.mv rfl rfl rfl rfl rfl ?_
    refine X.mv rfl rfl rfl rfl rfl ?_
    refine X.quoE (zz := ((i / 8 : Nat) : Int)) rfl rfl rfl rfl rfl rfl (by omega) (by rw [IntWalk.i64_quo _ _ (by omega)] <;> omega) ?_
    refine X.ixS rfl rfl rfl rfl rfl rfl Try.underlying9 (by omega) (hc1) ?_
    refine X.convE (zz := (c.toNat : Int)) rfl rfl rfl rfl rfl Try.underlying3 Try.us5 (IntWalk.i64_in _ (by omega)) ?_
    refine X.mv rfl rfl rfl rfl rfl ?_
    refine X.remE (zz := ((i % 8 : Nat) : Int)) rfl rfl rfl rfl rfl rfl (by omega) (by rw [IntWalk.rem_in _ _ (by omega)] <;> omega) ?_
    refine X.convE (zz := ((i % 8 : Nat) : Int)) rfl rfl rfl rfl rfl Try.underlying24 Try.us3 (IntWalk.u64_in _ (by omega)) ?_
    refine X.shrE (zz := ((c.toNat / 2 ^ (i % 8) : Nat) : Int)) rfl rfl rfl rfl rfl rfl (by omega) (shrN (rfl) (rfl) (by show _ ≤ 64; omega)) ?_
    refine X.remE (zz := ((num s / 2 ^ i % 2 : Nat) : Int)) rfl rfl rfl rfl rfl rfl (by omega) (by rw [tmod2, hbo]) ?_
    refine X.asg rfl rfl rfl rfl rfl ?_
    refine X.done [(4, _)] ⟨rfl, trivial⟩ ?_
    refine N.then ?_
    refine E.ret ?_
    exact N.retH [_] ⟨_, _, rfl, rfl, rfl⟩ ⟨rfl, rfl⟩

theorem rpeek_bad0 (p : Nat) (n : Int) (H : Heap) (hn : n < 0) : Ct Try.prog 32 #[ptr p, i64 n] H fun v H' => v = i64 0 ∧ H' = H := by
  refine Ct.into 34 Try.func32 rfl [(0, ptr p), (1, i64 n)] rfl ⟨rfl, rfl, trivial⟩ ?_
  refine E.seq ?_
  refine E.region ?_
  refine X.asg rfl rfl rfl rfl rfl ?_
  refine X.done [(0, _), (1, _), (4, _)] ⟨rfl, rfl, rfl, trivial⟩ ?_
  refine N.then ?_
  refine E.seq ?_
  refine E.seq ?_
  refine E.region ?_
  refine X.mv rfl rfl rfl rfl rfl ?_
  refine X.lssT rfl rfl rfl rfl rfl rfl (by omega) ?_
  refine X.mv rfl rfl rfl rfl rfl ?_
  refine X.skip rfl rfl rfl ?_
  refine X.skip rfl rfl rfl ?_
  refine X.pickT rfl rfl rfl rfl rfl rfl ?_
  refine X.done [(0, _), (1, _), (4, _), (12, _)] ⟨rfl, rfl, rfl, rfl, trivial⟩ ?_
  refine N.then ?_
  refine E.condT rfl ?_
  refine E.seq ?_
  refine E.region ?_
  refine X.asg rfl rfl rfl rfl rfl ?_
  refine X.done [(0, _), (1, _), (4, _)] ⟨rfl, rfl, rfl, trivial⟩ ?_
  refine N.then ?_
  refine E.ret ?_
  refine N.thenR ?_
  exact N.retH [_] ⟨_, _, rfl, rfl, rfl⟩ ⟨rfl, rfl⟩

theorem rpeek_bad1 (p : Nat) (n : Int) (H : Heap) (hn : 32 < n) : Ct Try.prog 32 #[ptr p, i64 n] H fun v H' => v = i64 0 ∧ H' = H := by
  refine Ct.into 34 Try.func32 rfl [(0, ptr p), (1, i64 n)] rfl ⟨rfl, rfl, trivial⟩ ?_
  refine E.seq ?_
  refine E.region ?_
  refine X.asg rfl rfl rfl rfl rfl ?_
  refine X.done [(0, _), (1, _), (4, _)] ⟨rfl, rfl, rfl, trivial⟩ ?_
  refine N.then ?_
  refine E.seq ?_
  refine E.seq ?_
  refine E.region ?_
  refine X.mv rfl rfl rfl rfl rfl ?_
  refine X.lssF rfl rfl rfl rfl rfl rfl (by omega) ?_
  refine X.mv rfl rfl rfl rfl rfl ?_
  refine X.mv rfl rfl rfl rfl rfl ?_
  refine X.gtrT rfl rfl rfl rfl rfl rfl (by omega) ?_
  refine X.pickF rfl rfl rfl rfl rfl rfl ?_
  refine X.done [(0, _), (1, _), (4, _), (12, _)] ⟨rfl, rfl, rfl, rfl, trivial⟩ ?_
  refine N.then ?_
  refine E.condT rfl ?_
  refine E.seq ?_
  refine E.region ?_
  refine X.asg rfl rfl rfl rfl rfl ?_
  refine X.done [(0, _), (1, _), (4, _)] ⟨rfl, rfl, rfl, trivial⟩ ?_
  refine N.then ?_
  refine E.ret ?_
  refine N.thenR ?_
  exact N.retH [_] ⟨_, _, rfl, rfl, rfl⟩ ⟨rfl, rfl⟩

theorem rpeek_ok (p : Nat) (s : Bs) (at_ : Nat) (H : Heap) (hR : Rrf H p s at_) (hl : s.length ≤ 100000 ∧ at_ ≤ 8 * s.length) (n : Nat) (hn : n ≤ 32) : Ct Try.prog 32 #[ptr p, i64 n] H fun v H' => v = i64 (pk (num s) at_ n) ∧ H' = H := by
  refine Ct.into 34 Try.func32 rfl [(0, ptr p), (1, i64 n)] rfl ⟨rfl, rfl, trivial⟩ ?_
  refine E.seq ?_
  refine E.region ?_
  refine X.asg rfl rfl rfl rfl rfl ?_
  refine X.done [(0, _), (1, _), (4, _)] ⟨rfl, rfl, rfl, trivial⟩ ?_
  refine N.then ?_
  refine E.seq ?_
  refine E.seq ?_
  refine E.region ?_
  refine X.mv rfl rfl rfl rfl rfl ?_
  refine X.lssF rfl rfl rfl rfl rfl rfl (by omega) ?_
  refine X.mv rfl rfl rfl rfl rfl ?_
  refine X.mv rfl rfl rfl rfl rfl ?_
  refine X.gtrF rfl rfl rfl rfl rfl rfl (by omega) ?_
  refine X.pickF rfl rfl rfl rfl rfl rfl ?_
  refine X.done [(0, _), (1, _), (4, _), (12, _)] ⟨rfl, rfl, rfl, rfl, trivial⟩ ?_
  refine N.then ?_
  refine E.condF rfl ?_
  refine E.skip ?_
  refine N.then ?_
  refine E.seq ?_
  refine E.region ?_
  refine X.asg rfl rfl rfl rfl rfl ?_
  refine X.done [(0, _), (1, _), (4, _), (5, _)] ⟨rfl, rfl, rfl, rfl, trivial⟩ ?_
  refine N.then ?_
  refine E.seq ?_
  refine E.seq ?_
  refine E.region ?_
  refine X.mv rfl rfl rfl rfl rfl ?_
  refine X.sb rfl rfl rfl rfl rfl rfl (by omega) ?_
  refine X.asg rfl rfl rfl rfl rfl ?_
  refine X.done [(0, _), (4, _), (5, _), (6, _)] ⟨rfl, rfl, rfl, rfl, trivial⟩ ?_
  refine N.then ?_
  refine E.block ?_
  -- MISSING in G: [4]
  refine E.loop (fun (m : Nat) => [(0, ptr p), (5, i64 (pk (num s) (at_ + (n - m)) m)), (6, i64 ((n : Int) - 1 - m))]) (fun (m : Nat) H' => m ≤ n ∧ H' = H) (fun (m : Nat) => n - m) 0 ⟨rfl, (by rw [pk_zero]; rfl), (by show some (i64 ((n : Int) - 1)) = some (i64 ((n : Int) - 1 - (0 : Nat))); congr 2; omega), trivial⟩ ⟨Nat.zero_le _, rfl⟩ ?_
  rintro m H3 ⟨hm, eH3⟩
  obtain rfl := eH3.symm
  have hpl := pk_lt (num s) (at_ + (n - m)) m
  have hpm : 2 ^ m ≤ 2 ^ 32 := Nat.pow_le_pow_right (by omega) (by omega)
  refine E.seq ?_
  refine E.seq ?_
  refine E.region ?_
  refine X.mv rfl rfl rfl rfl rfl ?_
  refine X.geq rfl rfl rfl rfl rfl rfl ?_
  refine X.done [(0, _), (5, _), (6, _), (15, _), (16, _)] ⟨rfl, rfl, rfl, rfl, rfl, trivial⟩ ?_
  refine N.then ?_
  refine E.condD rfl (fun hc => ?_) (fun hc => ?_)
  · refine E.skip ?_
    refine N.then ?_
    refine E.seq ?_
    refine E.block ?_
    refine E.regionD (fun H' => Rrf H' p s at_) [(0, .pu), (1, .pu), (2, .pu), (3, .pu), (4, .pu), (5, .st), (6, .pu), (7, .pu), (8, .pu), (9, .st), (10, .pu), (11, .pu), (12, .mk), (13, .pu), (14, .pu)] Try.mixed (by kernel_rfl) (hR) ?_
    refine X.mv rfl rfl rfl rfl rfl ?_
    refine X.mulE (zz := ((2 * pk (num s) (at_ + (n - m)) m : Nat) : Int)) rfl rfl rfl rfl rfl rfl (by rw [IntWalk.i64_in _ (by omega)] <;> omega) ?_
    refine X.mv rfl rfl rfl rfl rfl ?_
    refine X.nilP rfl rfl rfl rfl rfl ?_
    refine X.fld rfl rfl rfl rfl rfl Try.off60_0 ?_
    refine X.ld rfl rfl rfl rfl Try.ag9 (fun H' hF => hF) (rfl) ?_
    refine X.mv rfl rfl rfl rfl rfl ?_
    refine X.nilP rfl rfl rfl rfl rfl ?_
    refine X.fld rfl rfl rfl rfl rfl Try.off60_1 ?_
    refine X.ld rfl rfl rfl rfl Try.ag3 (fun H' hF => hF) (rfl) ?_
    refine X.mv rfl rfl rfl rfl rfl ?_
    refine X.addE (zz := ((at_ + (n - (m + 1)) : Nat) : Int)) rfl rfl rfl rfl rfl rfl (by rw [IntWalk.i64_in _ (by omega)] <;> omega) ?_
    refine X.call rfl rfl rfl rfl rfl Try.cl45 (bit_ct s (at_ + (n - (m + 1))) H hl.1 (by omega)) ?_
    rintro _ H4 ⟨rfl, eH4⟩
    obtain rfl := eH4.symm
    refine ⟨hR, ?_⟩
    refine X.addE (zz := ((2 * pk (num s) (at_ + (n - m)) m + num s / 2 ^ (at_ + (n - (m + 1))) % 2 : Nat) : Int)) rfl rfl rfl rfl rfl rfl (by have := bit_lt (num s) (at_ + (n - (m + 1))); exact add2 _ _ (by omega)) ?_
    refine X.asg rfl rfl rfl rfl rfl ?_
    refine X.done [(0, _), (5, _), (6, _), (15, _), (16, _), (19, _), (20, _), (21, _), (22, _), (23, _), (24, _), (25, _), (26, _), (27, _), (28, _), (29, _), (30, _), (31, _), (32, _)] ⟨rfl, rfl, rfl, rfl, rfl, rfl, rfl, rfl, rfl, rfl, rfl, rfl, rfl, rfl, rfl, rfl, rfl, rfl, rfl, trivial⟩ ?_
    refine N.blk ?_
    refine N.then ?_
    refine E.region ?_
    refine X.mv rfl rfl rfl rfl rfl ?_
    refine X.sb rfl rfl rfl rfl rfl rfl (by omega) ?_
    refine X.asg rfl rfl rfl rfl rfl ?_
    refine X.done [(0, _), (5, _), (6, _), (15, _), (16, _), (19, _), (20, _), (21, _), (22, _), (23, _), (24, _), (25, _), (26, _), (27, _), (28, _), (29, _), (30, _), (31, _), (32, _), (17, _), (18, _)] ⟨rfl, rfl, rfl, rfl, rfl, rfl, rfl, rfl, rfl, rfl, rfl, rfl, rfl, rfl, rfl, rfl, rfl, rfl, rfl, rfl, rfl, trivial⟩ ?_
    exact N.next (G := fun (m : Nat) => _) (m + 1) ⟨rfl, by rw [pk_one, show at_ + (n - (m + 1)) + 1 = at_ + (n - m) by omega]; rfl, (by show some (i64 ((n : Int) - 1 - m - 1)) = some (i64 ((n : Int) - 1 - ((m + 1 : Nat) : Int))); congr 2; omega), trivial⟩ ⟨by omega, rfl⟩ (by show n - (m + 1) < n - m; omega)
  · refine E.exit ?_
    refine N.thenX ?_
    refine N.loopX ?_
    refine N.blkX ?_
    refine N.then ?_
    refine E.seq ?_
    refine E.region ?_
    refine X.mv rfl rfl rfl rfl rfl ?_
    refine X.asg rfl rfl rfl rfl rfl ?_
    refine X.done [(4, _)] ⟨rfl, trivial⟩ ?_
    refine N.then ?_
    refine E.ret ?_
    exact N.retH [_] ⟨_, _, rfl, rfl, rfl⟩ ⟨by rw [show m = n by omega, Nat.sub_self]; rfl, rfl⟩

theorem rskip_bad0 (p : Nat) (n : Int) (H : Heap) (hn : n < 0) : Ct Try.prog 34 #[ptr p, i64 n] H fun v H' => v = i64 1 ∧ H' = H := by
  refine Ct.into 24 Try.func34 rfl [(0, ptr p), (1, i64 n)] rfl ⟨rfl, rfl, trivial⟩ ?_
  refine E.seq ?_
  refine E.region ?_
  refine X.asg rfl rfl rfl rfl rfl ?_
  refine X.done [(0, _), (1, _), (4, _)] ⟨rfl, rfl, rfl, trivial⟩ ?_
  refine N.then ?_
  refine E.seq ?_
  refine E.seq ?_
  refine E.region ?_
  refine X.mv rfl rfl rfl rfl rfl ?_
  refine X.lssT rfl rfl rfl rfl rfl rfl (by omega) ?_
  refine X.mv rfl rfl rfl rfl rfl ?_
  refine X.skip rfl rfl rfl ?_
  refine X.skip rfl rfl rfl ?_
  refine X.pickT rfl rfl rfl rfl rfl rfl ?_
  refine X.done [(0, _), (1, _), (4, _), (10, _)] ⟨rfl, rfl, rfl, rfl, trivial⟩ ?_
  refine N.then ?_
  refine E.condT rfl ?_
  refine E.seq ?_
  refine E.region ?_
  refine X.asg rfl rfl rfl rfl rfl ?_
  refine X.done [(0, _), (1, _), (4, _)] ⟨rfl, rfl, rfl, trivial⟩ ?_
  refine N.then ?_
  refine E.ret ?_
  refine N.thenR ?_
  exact N.retH [_] ⟨_, _, rfl, rfl, rfl⟩ ⟨rfl, rfl⟩

theorem rskip_bad1 (p : Nat) (n : Int) (H : Heap) (hn : 32 < n) : Ct Try.prog 34 #[ptr p, i64 n] H fun v H' => v = i64 1 ∧ H' = H := by
  refine Ct.into 24 Try.func34 rfl [(0, ptr p), (1, i64 n)] rfl ⟨rfl, rfl, trivial⟩ ?_
  refine E.seq ?_
  refine E.region ?_
  refine X.asg rfl rfl rfl rfl rfl ?_
  refine X.done [(0, _), (1, _), (4, _)] ⟨rfl, rfl, rfl, trivial⟩ ?_
  refine N.then ?_
  refine E.seq ?_
  refine E.seq ?_
  refine E.region ?_
  refine X.mv rfl rfl rfl rfl rfl ?_
  refine X.lssF rfl rfl rfl rfl rfl rfl (by omega) ?_
  refine X.mv rfl rfl rfl rfl rfl ?_
  refine X.mv rfl rfl rfl rfl rfl ?_
  refine X.gtrT rfl rfl rfl rfl rfl rfl (by omega) ?_
  refine X.pickF rfl rfl rfl rfl rfl rfl ?_
  refine X.done [(0, _), (1, _), (4, _), (10, _)] ⟨rfl, rfl, rfl, rfl, trivial⟩ ?_
  refine N.then ?_
  refine E.condT rfl ?_
  refine E.seq ?_
  refine E.region ?_
  refine X.asg rfl rfl rfl rfl rfl ?_
  refine X.done [(0, _), (1, _), (4, _)] ⟨rfl, rfl, rfl, trivial⟩ ?_
  refine N.then ?_
  refine E.ret ?_
  refine N.thenR ?_
  exact N.retH [_] ⟨_, _, rfl, rfl, rfl⟩ ⟨rfl, rfl⟩

theorem rskip_far (p : Nat) (s : Bs) (at_ : Nat) (H : Heap) (hR : Rrf H p s at_) (hl : s.length ≤ 100000 ∧ at_ ≤ 8 * s.length) (n : Nat) (hn : n ≤ 32) (hf : 8 * s.length - at_ < n) : Ct Try.prog 34 #[ptr p, i64 n] H fun v H' => v = i64 2 ∧ H' = H := by
  refine Ct.into 24 Try.func34 rfl [(0, ptr p), (1, i64 n)] rfl ⟨rfl, rfl, trivial⟩ ?_
  refine E.seq ?_
  refine E.region ?_
  refine X.asg rfl rfl rfl rfl rfl ?_
  refine X.done [(0, _), (1, _), (4, _)] ⟨rfl, rfl, rfl, trivial⟩ ?_
  refine N.then ?_
  refine E.seq ?_
  refine E.seq ?_
  refine E.region ?_
  refine X.mv rfl rfl rfl rfl rfl ?_
  refine X.lssF rfl rfl rfl rfl rfl rfl (by omega) ?_
  refine X.mv rfl rfl rfl rfl rfl ?_
  refine X.mv rfl rfl rfl rfl rfl ?_
  refine X.gtrF rfl rfl rfl rfl rfl rfl (by omega) ?_
  refine X.pickF rfl rfl rfl rfl rfl rfl ?_
  refine X.done [(0, _), (1, _), (4, _), (10, _)] ⟨rfl, rfl, rfl, rfl, trivial⟩ ?_
  refine N.then ?_
  refine E.condF rfl ?_
  refine E.skip ?_
  refine N.then ?_
  refine E.seq ?_
  refine E.seq ?_
  refine E.region ?_
  refine X.mv rfl rfl rfl rfl rfl ?_
  refine X.mv rfl rfl rfl rfl rfl ?_
  refine X.call rfl rfl rfl rfl rfl Try.cl40 (rleft_ct p s at_ H hR hl) ?_
  rintro _ H3 ⟨rfl, eH3⟩
  obtain rfl := eH3.symm
  refine X.gtrT rfl rfl rfl rfl rfl rfl (by omega) ?_
  refine X.done [(0, _), (1, _), (4, _), (14, _)] ⟨rfl, rfl, rfl, rfl, trivial⟩ ?_
  refine N.then ?_
  refine E.condT rfl ?_
  refine E.seq ?_
  refine E.region ?_
  refine X.asg rfl rfl rfl rfl rfl ?_
  refine X.done [(0, _), (1, _), (4, _)] ⟨rfl, rfl, rfl, trivial⟩ ?_
  refine N.then ?_
  refine E.ret ?_
  refine N.thenR ?_
  exact N.retH [_] ⟨_, _, rfl, rfl, rfl⟩ ⟨rfl, rfl⟩

theorem rskip_ok (p : Nat) (s : Bs) (at_ : Nat) (H : Heap) (hR : Rrf H p s at_) (hl : s.length ≤ 100000 ∧ at_ ≤ 8 * s.length) (n : Nat) (hn : n ≤ 32) (hf : n ≤ 8 * s.length - at_) : Ct Try.prog 34 #[ptr p, i64 n] H fun v H' => v = i64 0 ∧ Rrf H' p s (at_ + n) ∧ Kp [p] H H' := by
  refine Ct.into 24 Try.func34 rfl [(0, ptr p), (1, i64 n)] rfl ⟨rfl, rfl, trivial⟩ ?_
  refine E.seq ?_
  refine E.region ?_
  refine X.asg rfl rfl rfl rfl rfl ?_
  refine X.done [(0, _), (1, _), (4, _)] ⟨rfl, rfl, rfl, trivial⟩ ?_
  refine N.then ?_
  refine E.seq ?_
  refine E.seq ?_
  refine E.region ?_
  refine X.mv rfl rfl rfl rfl rfl ?_
  refine X.lssF rfl rfl rfl rfl rfl rfl (by omega) ?_
  refine X.mv rfl rfl rfl rfl rfl ?_
  refine X.mv rfl rfl rfl rfl rfl ?_
  refine X.gtrF rfl rfl rfl rfl rfl rfl (by omega) ?_
  refine X.pickF rfl rfl rfl rfl rfl rfl ?_
  refine X.done [(0, _), (1, _), (4, _), (10, _)] ⟨rfl, rfl, rfl, rfl, trivial⟩ ?_
  refine N.then ?_
  refine E.condF rfl ?_
  refine E.skip ?_
  refine N.then ?_
  refine E.seq ?_
  refine E.seq ?_
  refine E.region ?_
  refine X.mv rfl rfl rfl rfl rfl ?_
  refine X.mv rfl rfl rfl rfl rfl ?_
  refine X.call rfl rfl rfl rfl rfl Try.cl40 (rleft_ct p s at_ H hR hl) ?_
  rintro _ H3 ⟨rfl, eH3⟩
  obtain rfl := eH3.symm
  refine X.gtrF rfl rfl rfl rfl rfl rfl (by omega) ?_
  refine X.done [(0, _), (1, _), (4, _), (14, _)] ⟨rfl, rfl, rfl, rfl, trivial⟩ ?_
  refine N.then ?_
  refine E.condF rfl ?_
  refine E.skip ?_
  refine N.then ?_
  refine E.seq ?_
  refine E.region ?_
  refine X.mv rfl rfl rfl rfl rfl ?_
  refine X.mv rfl rfl rfl rfl rfl ?_
  refine X.nilP rfl rfl rfl rfl rfl ?_
  refine X.fld rfl rfl rfl rfl rfl Try.off60_1 ?_
  refine X.ld rfl rfl rfl rfl Try.ag3 (hR) (rfl) ?_
  refine X.mv rfl rfl rfl rfl rfl ?_
  refine X.addE (zz := ((at_ + n : Nat) : Int)) rfl rfl rfl rfl rfl rfl (by rw [IntWalk.i64_in _ (by omega)] <;> omega) ?_
  refine X.nilP rfl rfl rfl rfl rfl ?_
  refine X.fld rfl rfl rfl rfl rfl Try.off60_1 ?_
  refine X.st rfl rfl rfl rfl rfl rfl rfl Try.sz3 hR (by simp) ?_
  intro H4 hb4 hk4
  refine X.done [(4, _)] ⟨rfl, trivial⟩ ?_
  refine N.then ?_
  refine E.seq ?_
  refine E.region ?_
  refine X.asg rfl rfl rfl rfl rfl ?_
  refine X.done [(4, _)] ⟨rfl, trivial⟩ ?_
  refine N.then ?_
  refine E.ret ?_
  exact N.retH [_] ⟨_, _, rfl, rfl, rfl⟩ ⟨rfl, hb4, hk4⟩


theorem skip_all (p : Nat) (s : Bs) (at_ : Nat) (H : Heap) (hR : Rdr H p s at_) (hl : s.length ≤ 100000 ∧ at_ ≤ 8 * s.length) (n : Int) : Ct Try.prog 33 #[ptr p, i64 n] H fun v H' => v = i64 (bitsV s at_ n).2.1 ∧ Rdr H' p s (bitsV s at_ n).2.2 ∧ Kp [p] H H' := by
  unfold bitsV
  by_cases h : n < 0 ∨ 32 < n
  · rw [if_pos h]; exact (skip_bad_ct p s at_ H hR hl n h).mono (fun v H' ⟨h1, h2⟩ => by subst h2; exact ⟨h1, hR, Kp.refl _ _⟩)
  · obtain ⟨m, rfl⟩ := Int.eq_ofNat_of_zero_le (show 0 ≤ n by omega)
    rw [if_neg h]
    by_cases hf : 8 * s.length - at_ < (m : Int).toNat
    · rw [if_pos hf]; exact (skip_far_ct p s at_ H hR hl m (by omega) (by omega)).mono (fun v H' ⟨h1, h2⟩ => by subst h2; exact ⟨h1, hR, Kp.refl _ _⟩)
    · rw [if_neg hf]; exact skip_ct p s at_ H hR hl m (by omega) (by omega)
theorem bits_all (p : Nat) (s : Bs) (at_ : Nat) (H : Heap) (hR : Rdr H p s at_) (hl : s.length ≤ 100000 ∧ at_ ≤ 8 * s.length) (n : Int) : Ct Try.prog 18 #[ptr p, i64 n] H fun v H' => v = .tuple #[i64 (bitsV s at_ n).1, i64 (bitsV s at_ n).2.1] ∧ Rdr H' p s (bitsV s at_ n).2.2 ∧ Kp [p] H H' := by
  unfold bitsV
  by_cases h : n < 0 ∨ 32 < n
  · rw [if_pos h]; exact (bits_bad_ct p s at_ H hR hl n h).mono (fun v H' ⟨h1, h2⟩ => by subst h2; exact ⟨h1, hR, Kp.refl _ _⟩)
  · obtain ⟨m, rfl⟩ := Int.eq_ofNat_of_zero_le (show 0 ≤ n by omega)
    rw [if_neg h]
    by_cases hf : 8 * s.length - at_ < (m : Int).toNat
    · rw [if_pos hf]; exact (bits_far_ct p s at_ H hR hl m (by omega) (by omega)).mono (fun v H' ⟨h1, h2⟩ => by subst h2; exact ⟨h1, hR, Kp.refl _ _⟩)
    · rw [if_neg hf]; exact bits_ct p s at_ H hR hl m (by omega) (by omega)
theorem peek_all (p : Nat) (s : Bs) (at_ : Nat) (H : Heap) (hR : Rdr H p s at_) (hl : s.length ≤ 100000 ∧ at_ ≤ 8 * s.length) (n : Int) : Ct Try.prog 17 #[ptr p, i64 n] H fun v H' => v = i64 (peekV s at_ n) ∧ H' = H := by
  unfold peekV
  by_cases h : n < 0 ∨ 32 < n
  · rw [if_pos h]; exact peek_bad_ct p s at_ H hR hl n h
  · obtain ⟨m, rfl⟩ := Int.eq_ofNat_of_zero_le (show 0 ≤ n by omega)
    rw [if_neg h]; exact peek_ct p s at_ H hR hl m (by omega)
theorem rpeek_all (p : Nat) (s : Bs) (at_ : Nat) (H : Heap) (hR : Rrf H p s at_) (hl : s.length ≤ 100000 ∧ at_ ≤ 8 * s.length) (n : Int) : Ct Try.prog 32 #[ptr p, i64 n] H fun v H' => v = i64 (peekV s at_ n) ∧ H' = H := by
  unfold peekV
  by_cases h : n < 0 ∨ 32 < n
  · rw [if_pos h]
    rcases h with h | h
    · exact rpeek_bad0 p n H h
    · exact rpeek_bad1 p n H h
  · obtain ⟨m, rfl⟩ := Int.eq_ofNat_of_zero_le (show 0 ≤ n by omega)
    rw [if_neg h]; exact rpeek_ok p s at_ H hR hl m (by omega)
theorem rskip_all (p : Nat) (s : Bs) (at_ : Nat) (H : Heap) (hR : Rrf H p s at_) (hl : s.length ≤ 100000 ∧ at_ ≤ 8 * s.length) (n : Int) : Ct Try.prog 34 #[ptr p, i64 n] H fun v H' => v = i64 (bitsV s at_ n).2.1 ∧ Rrf H' p s (bitsV s at_ n).2.2 ∧ Kp [p] H H' := by
  unfold bitsV
  by_cases h : n < 0 ∨ 32 < n
  · rw [if_pos h]
    rcases h with h | h
    · exact (rskip_bad0 p n H h).mono (fun v H' ⟨h1, h2⟩ => by subst h2; exact ⟨h1, hR, Kp.refl _ _⟩)
    · exact (rskip_bad1 p n H h).mono (fun v H' ⟨h1, h2⟩ => by subst h2; exact ⟨h1, hR, Kp.refl _ _⟩)
  · obtain ⟨m, rfl⟩ := Int.eq_ofNat_of_zero_le (show 0 ≤ n by omega)
    rw [if_neg h]
    by_cases hf : 8 * s.length - at_ < (m : Int).toNat
    · rw [if_pos hf]; exact (rskip_far p s at_ H hR hl m (by omega) (by omega)).mono (fun v H' ⟨h1, h2⟩ => by subst h2; exact ⟨h1, hR, Kp.refl _ _⟩)
    · rw [if_neg hf]; exact rskip_ok p s at_ H hR hl m (by omega) (by omega)
theorem bytes_all (p : Nat) (s : Bs) (at_ : Nat) (H : Heap) (hR : Rdr H p s at_) (hl : s.length ≤ 100000 ∧ at_ ≤ 8 * s.length) (n : Int) : Ct Try.prog 37 #[ptr p, i64 n] H fun v H' => v = .tuple #[str (bytesV s at_ n).1, i64 (bytesV s at_ n).2.1] ∧ Rdr H' p s (bytesV s at_ n).2.2 ∧ Kp [p] H H' := by
  unfold bytesV
  by_cases h : n < 0
  · rw [if_pos (.inl h)]; exact (rbytes_neg p s at_ H hR hl n h).mono (fun v H' ⟨h1, h2⟩ => by subst h2; exact ⟨h1, hR, Kp.refl _ _⟩)
  · obtain ⟨m, rfl⟩ := Int.eq_ofNat_of_zero_le (show 0 ≤ n by omega)
    by_cases ho : at_ % 8 ≠ 0
    · rw [if_pos (.inr ho)]; exact (rbytes_odd p s at_ H hR hl m ho).mono (fun v H' ⟨h1, h2⟩ => by subst h2; exact ⟨h1, hR, Kp.refl _ _⟩)
    · rw [if_neg (by omega)]
      by_cases hf : (8 * s.length - at_) / 8 < (m : Int).toNat
      · rw [if_pos hf]; exact (rbytes_far p s at_ H hR hl m (by omega) (by omega)).mono (fun v H' ⟨h1, h2⟩ => by subst h2; exact ⟨h1, hR, Kp.refl _ _⟩)
      · rw [if_neg hf]; exact rbytes_ok p s at_ H hR hl m (by omega) (by omega)

theorem rbits_all (p : Nat) (s : Bs) (at_ : Nat) (H : Heap) (hR : Rrf H p s at_) (hl : s.length ≤ 100000 ∧ at_ ≤ 8 * s.length) (n : Int) : Ct Try.prog 31 #[ptr p, i64 n] H fun v H' => v = .tuple #[i64 (bitsV s at_ n).1, i64 (bitsV s at_ n).2.1] ∧ Rrf H' p s (bitsV s at_ n).2.2 ∧ Kp [p] H H' := by
  have hb : (bitsV s at_ n).2.1 ≠ 0 → (bitsV s at_ n).1 = 0 := by unfold bitsV; intro h; split; rfl; split; rfl; rename_i h1 h2; rw [if_neg h1, if_neg h2] at h; exact absurd rfl h
  have hg : (bitsV s at_ n).2.1 = 0 → peekV s at_ n = (bitsV s at_ n).1 := by
    unfold bitsV peekV; intro h
    by_cases h1 : n < 0 ∨ 32 < n
    · rw [if_pos h1] at h; cases h
    · rw [if_neg h1] at h ⊢
      by_cases h2 : 8 * s.length - at_ < n.toNat
      · rw [if_pos h2] at h; cases h
      · rw [if_neg h1, if_neg h2]
  refine Ct.into 18 Try.func31 rfl [(0, ptr p), (1, i64 n)] rfl ⟨rfl, rfl, trivial⟩ ?_
  refine E.seq ?_
  refine E.region ?_
  refine X.asg rfl rfl rfl rfl rfl ?_
  refine X.asg rfl rfl rfl rfl rfl ?_
  refine X.done [(0, _), (1, _), (4, _), (5, _)] ⟨rfl, rfl, rfl, rfl, trivial⟩ ?_
  refine N.then ?_
  refine E.seq ?_
  refine E.region ?_
  refine X.mv rfl rfl rfl rfl rfl ?_
  refine X.mv rfl rfl rfl rfl rfl ?_
  refine X.call rfl rfl rfl rfl rfl Try.cl32 (rpeek_all p s at_ H hR hl n) ?_
  rintro _ H1 ⟨rfl, eH1⟩
  obtain rfl := eH1.symm
  refine X.asg rfl rfl rfl rfl rfl ?_
  refine X.done [(0, _), (1, _), (4, _), (5, _), (6, _)] ⟨rfl, rfl, rfl, rfl, rfl, trivial⟩ ?_
  refine N.then ?_
  refine E.seq ?_
  refine E.region ?_
  refine X.mv rfl rfl rfl rfl rfl ?_
  refine X.mv rfl rfl rfl rfl rfl ?_
  refine X.call rfl rfl rfl rfl rfl Try.cl34 (rskip_all p s at_ H hR hl n) ?_
  rintro _ H2 ⟨rfl, hR2, hk2⟩
  refine X.asg rfl rfl rfl rfl rfl ?_
  refine X.done [(4, _), (5, _), (6, _), (7, _)] ⟨rfl, rfl, rfl, rfl, trivial⟩ ?_
  refine N.then ?_
  refine E.seq ?_
  refine E.seq ?_
  refine E.region ?_
  refine X.mv rfl rfl rfl rfl rfl ?_
  refine X.neq rfl rfl rfl rfl rfl rfl ?_
  refine X.done [(4, _), (5, _), (6, _), (7, _), (15, _)] ⟨rfl, rfl, rfl, rfl, rfl, trivial⟩ ?_
  refine N.then ?_
  refine E.condD rfl (fun hc => ?_) (fun hc => ?_)
  · refine E.seq ?_
    refine E.region ?_
    refine X.mv rfl rfl rfl rfl rfl ?_
    refine X.asg rfl rfl rfl rfl rfl ?_
    refine X.asg rfl rfl rfl rfl rfl ?_
    refine X.done [(4, _), (5, _), (6, _)] ⟨rfl, rfl, rfl, trivial⟩ ?_
    refine N.then ?_
    refine E.ret ?_
    refine N.thenR ?_
    exact N.retH [_, _] ⟨_, _, rfl, rfl, _, _, rfl, rfl, rfl⟩ ⟨by rw [hb hc]; rfl, hR2, hk2⟩
  · refine E.skip ?_
    refine N.then ?_
    refine E.seq ?_
    refine E.region ?_
    refine X.mv rfl rfl rfl rfl rfl ?_
    refine X.asg rfl rfl rfl rfl rfl ?_
    refine X.asg rfl rfl rfl rfl rfl ?_
    refine X.done [(4, _), (5, _)] ⟨rfl, rfl, trivial⟩ ?_
    refine N.then ?_
    refine E.ret ?_
    exact N.retH [_, _] ⟨_, _, rfl, rfl, _, _, rfl, rfl, rfl⟩ ⟨by have h0 := Decidable.of_not_not hc; rw [← hg h0, h0]; rfl, hR2, hk2⟩

theorem rralign_ct (p : Nat) (s : Bs) (at_ : Nat) (H : Heap) (hR : Rrf H p s at_) (hl : s.length ≤ 100000 ∧ at_ ≤ 8 * s.length) : Ct Try.prog 36 #[ptr p] H fun v H' => v = .tuple #[] ∧ Rrf H' p s (8 * ((at_ + 7) / 8)) ∧ Kp [p] H H' := by
  refine Ct.into 16 Try.func36 rfl [(0, ptr p)] rfl ⟨rfl, trivial⟩ ?_
  refine E.block ?_
  refine E.loop (fun (m : Nat) => [(0, ptr p)]) (fun (m : Nat) H' => at_ ≤ m ∧ m ≤ 8 * ((at_ + 7) / 8) ∧ Rrf H' p s m ∧ Kp [p] H H') (fun (m : Nat) => 8 * ((at_ + 7) / 8) - m) at_ ⟨rfl, trivial⟩ ⟨Nat.le_refl _, by omega, hR, Kp.refl _ _⟩ ?_
  rintro m H1 ⟨hm1, hm2, hR1, hk1⟩
  refine E.seq ?_
  refine E.seq ?_
  refine E.region ?_
  refine X.mv rfl rfl rfl rfl rfl ?_
  refine X.nilP rfl rfl rfl rfl rfl ?_
  refine X.fld rfl rfl rfl rfl rfl Try.off60_1 ?_
  refine X.ld rfl rfl rfl rfl Try.ag3 (hR1) (rfl) ?_
  refine X.remE (zz := ((m % 8 : Nat) : Int)) rfl rfl rfl rfl rfl rfl (by omega) (by rw [IntWalk.rem_in _ _ (by omega)] <;> omega) ?_
  refine X.neq rfl rfl rfl rfl rfl rfl ?_
  refine X.done [(0, _), (2, _), (3, _), (4, _), (5, _), (6, _), (7, _)] ⟨rfl, rfl, rfl, rfl, rfl, rfl, rfl, trivial⟩ ?_
  refine N.then ?_
  refine E.condD rfl (fun hc => ?_) (fun hc => ?_)
  · refine E.skip ?_
    refine N.then ?_
    refine E.block ?_
    refine E.region ?_
    refine X.mv rfl rfl rfl rfl rfl ?_
    refine X.mv rfl rfl rfl rfl rfl ?_
    refine X.nilP rfl rfl rfl rfl rfl ?_
    refine X.fld rfl rfl rfl rfl rfl Try.off60_1 ?_
    refine X.ld rfl rfl rfl rfl Try.ag3 (hR1) (rfl) ?_
    refine X.addE (zz := ((m + 1 : Nat) : Int)) rfl rfl rfl rfl rfl rfl (by rw [IntWalk.i64_in _ (by omega)] <;> omega) ?_
    refine X.nilP rfl rfl rfl rfl rfl ?_
    refine X.fld rfl rfl rfl rfl rfl Try.off60_1 ?_
    refine X.st rfl rfl rfl rfl rfl rfl rfl Try.sz3 hR1 (by simp) ?_
    intro H2 hb2 hk2
    refine X.done [(0, _), (2, _), (3, _), (4, _), (5, _), (6, _), (7, _), (8, _), (9, _), (10, _), (11, _), (12, _), (13, _), (14, _), (15, _)] ⟨rfl, rfl, rfl, rfl, rfl, rfl, rfl, rfl, rfl, rfl, rfl, rfl, rfl, rfl, rfl, trivial⟩ ?_
    refine N.blk ?_
    exact N.next (G := fun (m : Nat) => _) (m + 1) ⟨rfl, trivial⟩ ⟨by omega, by omega, hb2, hk1.trans hk2 (by simp)⟩ (by show _ - (m + 1) < _ - m; omega)
  · refine E.exit ?_
    refine N.thenX ?_
    refine N.loopX ?_
    refine N.blkX ?_
    exact N.endH [] rfl ⟨rfl, by rw [show 8 * ((at_ + 7) / 8) = m by omega]; exact hR1, hk1⟩

theorem rrbytes_neg (p : Nat) (s : Bs) (at_ : Nat) (H : Heap) (hR : Rrf H p s at_) (hl : s.length ≤ 100000 ∧ at_ ≤ 8 * s.length) (n : Int) (hn : n < 0) : Ct Try.prog 38 #[ptr p, i64 n] H fun u H' => u = .tuple #[str [], i64 1] ∧ H' = H := by
  refine Ct.into 50 Try.func38 rfl [(0, ptr p), (1, i64 n)] rfl ⟨rfl, rfl, trivial⟩ ?_
  refine E.seq ?_
  refine E.region ?_
  refine X.asg rfl rfl rfl rfl rfl ?_
  refine X.asg rfl rfl rfl rfl rfl ?_
  refine X.done [(0, _), (1, _), (4, _), (5, _)] ⟨rfl, rfl, rfl, rfl, trivial⟩ ?_
  refine N.then ?_
  refine E.seq ?_
  refine E.seq ?_
  refine E.region ?_
  refine X.mv rfl rfl rfl rfl rfl ?_
  refine X.lssT rfl rfl rfl rfl rfl rfl (by omega) ?_
  refine X.mv rfl rfl rfl rfl rfl ?_
  refine X.skip rfl rfl rfl ?_
  refine X.skip rfl rfl rfl ?_
  refine X.skip rfl rfl rfl ?_
  refine X.skip rfl rfl rfl ?_
  refine X.skip rfl rfl rfl ?_
  refine X.skip rfl rfl rfl ?_
  refine X.pickT rfl rfl rfl rfl rfl rfl ?_
  refine X.done [(0, _), (1, _), (4, _), (5, _), (16, _)] ⟨rfl, rfl, rfl, rfl, rfl, trivial⟩ ?_
  refine N.then ?_
  refine E.condT rfl ?_
  refine E.seq ?_
  refine E.region ?_
  refine X.asg rfl rfl rfl rfl rfl ?_
  refine X.asg rfl rfl rfl rfl rfl ?_
  refine X.done [(0, _), (1, _), (4, _), (5, _)] ⟨rfl, rfl, rfl, rfl, trivial⟩ ?_
  refine N.then ?_
  refine E.ret ?_
  refine N.thenR ?_
  exact N.retH [_, _] ⟨_, _, rfl, rfl, _, _, rfl, rfl, rfl⟩ ⟨rfl, rfl⟩

theorem rrbytes_odd (p : Nat) (s : Bs) (at_ : Nat) (H : Heap) (hR : Rrf H p s at_) (hl : s.length ≤ 100000 ∧ at_ ≤ 8 * s.length) (n : Nat) (ho : at_ % 8 ≠ 0) : Ct Try.prog 38 #[ptr p, i64 n] H fun u H' => u = .tuple #[str [], i64 1] ∧ H' = H := by
  refine Ct.into 50 Try.func38 rfl [(0, ptr p), (1, i64 n)] rfl ⟨rfl, rfl, trivial⟩ ?_
  refine E.seq ?_
  refine E.region ?_
  refine X.asg rfl rfl rfl rfl rfl ?_
  refine X.asg rfl rfl rfl rfl rfl ?_
  refine X.done [(0, _), (1, _), (4, _), (5, _)] ⟨rfl, rfl, rfl, rfl, trivial⟩ ?_
  refine N.then ?_
  refine E.seq ?_
  refine E.seq ?_
  refine E.region ?_
  refine X.mv rfl rfl rfl rfl rfl ?_
  refine X.lssF rfl rfl rfl rfl rfl rfl (by omega) ?_
  refine X.mv rfl rfl rfl rfl rfl ?_
  refine X.mv rfl rfl rfl rfl rfl ?_
  refine X.nilP rfl rfl rfl rfl rfl ?_
  refine X.fld rfl rfl rfl rfl rfl Try.off60_1 ?_
  refine X.ld rfl rfl rfl rfl Try.ag3 (hR) (rfl) ?_
  refine X.remE (zz := ((at_ % 8 : Nat) : Int)) rfl rfl rfl rfl rfl rfl (by omega) (by rw [IntWalk.rem_in _ _ (by omega)] <;> omega) ?_
  refine X.neqT rfl rfl rfl rfl rfl rfl (by omega) ?_
  refine X.pickF rfl rfl rfl rfl rfl rfl ?_
  refine X.done [(0, _), (1, _), (4, _), (5, _), (16, _)] ⟨rfl, rfl, rfl, rfl, rfl, trivial⟩ ?_
  refine N.then ?_
  refine E.condT rfl ?_
  refine E.seq ?_
  refine E.region ?_
  refine X.asg rfl rfl rfl rfl rfl ?_
  refine X.asg rfl rfl rfl rfl rfl ?_
  refine X.done [(0, _), (1, _), (4, _), (5, _)] ⟨rfl, rfl, rfl, rfl, trivial⟩ ?_
  refine N.then ?_
  refine E.ret ?_
  refine N.thenR ?_
  exact N.retH [_, _] ⟨_, _, rfl, rfl, _, _, rfl, rfl, rfl⟩ ⟨rfl, rfl⟩

theorem rrbytes_far (p : Nat) (s : Bs) (at_ : Nat) (H : Heap) (hR : Rrf H p s at_) (hl : s.length ≤ 100000 ∧ at_ ≤ 8 * s.length) (n : Nat) (ho : at_ % 8 = 0) (hf : (8 * s.length - at_) / 8 < n) : Ct Try.prog 38 #[ptr p, i64 n] H fun u H' => u = .tuple #[str [], i64 2] ∧ H' = H := by
  refine Ct.into 50 Try.func38 rfl [(0, ptr p), (1, i64 n)] rfl ⟨rfl, rfl, trivial⟩ ?_
  refine E.seq ?_
  refine E.region ?_
  refine X.asg rfl rfl rfl rfl rfl ?_
  refine X.asg rfl rfl rfl rfl rfl ?_
  refine X.done [(0, _), (1, _), (4, _), (5, _)] ⟨rfl, rfl, rfl, rfl, trivial⟩ ?_
  refine N.then ?_
  refine E.seq ?_
  refine E.seq ?_
  refine E.region ?_
  refine X.mv rfl rfl rfl rfl rfl ?_
  refine X.lssF rfl rfl rfl rfl rfl rfl (by omega) ?_
  refine X.mv rfl rfl rfl rfl rfl ?_
  refine X.mv rfl rfl rfl rfl rfl ?_
  refine X.nilP rfl rfl rfl rfl rfl ?_
  refine X.fld rfl rfl rfl rfl rfl Try.off60_1 ?_
  refine X.ld rfl rfl rfl rfl Try.ag3 (hR) (rfl) ?_
  refine X.remE (zz := ((at_ % 8 : Nat) : Int)) rfl rfl rfl rfl rfl rfl (by omega) (by rw [IntWalk.rem_in _ _ (by omega)] <;> omega) ?_
  refine X.neqF rfl rfl rfl rfl rfl rfl (by omega) ?_
  refine X.pickF rfl rfl rfl rfl rfl rfl ?_
  refine X.done [(0, _), (1, _), (4, _), (5, _), (16, _)] ⟨rfl, rfl, rfl, rfl, rfl, trivial⟩ ?_
  refine N.then ?_
  refine E.condF rfl ?_
  refine E.skip ?_
  refine N.then ?_
  refine E.seq ?_
  refine E.seq ?_
  refine E.region ?_
  refine X.mv rfl rfl rfl rfl rfl ?_
  refine X.mv rfl rfl rfl rfl rfl ?_
  refine X.call rfl rfl rfl rfl rfl Try.cl40 (rleft_ct p s at_ H hR hl) ?_
  rintro _ H3 ⟨rfl, eH3⟩
  obtain rfl := eH3.symm
  refine X.quoE (zz := (((8 * s.length - at_) / 8 : Nat) : Int)) rfl rfl rfl rfl rfl rfl (by omega) (by rw [IntWalk.i64_quo _ _ (by omega)] <;> omega) ?_
  refine X.gtrT rfl rfl rfl rfl rfl rfl (by omega) ?_
  refine X.done [(0, _), (1, _), (4, _), (5, _), (21, _)] ⟨rfl, rfl, rfl, rfl, rfl, trivial⟩ ?_
  refine N.then ?_
  refine E.condT rfl ?_
  refine E.seq ?_
  refine E.region ?_
  refine X.asg rfl rfl rfl rfl rfl ?_
  refine X.asg rfl rfl rfl rfl rfl ?_
  refine X.done [(0, _), (1, _), (4, _), (5, _)] ⟨rfl, rfl, rfl, rfl, trivial⟩ ?_
  refine N.then ?_
  refine E.ret ?_
  refine N.thenR ?_
  exact N.retH [_, _] ⟨_, _, rfl, rfl, _, _, rfl, rfl, rfl⟩ ⟨rfl, rfl⟩

theorem rrbytes_ok (p : Nat) (s : Bs) (at_ : Nat) (H : Heap) (hR : Rrf H p s at_) (hl : s.length ≤ 100000 ∧ at_ ≤ 8 * s.length) (n : Nat) (ho : at_ % 8 = 0) (hf : n ≤ (8 * s.length - at_) / 8) : Ct Try.prog 38 #[ptr p, i64 n] H fun u H' => u = .tuple #[str ((s.take (at_ / 8 + n)).drop (at_ / 8)), i64 0] ∧ Rrf H' p s (at_ + 8 * n) ∧ Kp [p] H H' := by
  refine Ct.into 50 Try.func38 rfl [(0, ptr p), (1, i64 n)] rfl ⟨rfl, rfl, trivial⟩ ?_
  refine E.seq ?_
  refine E.region ?_
  refine X.asg rfl rfl rfl rfl rfl ?_
  refine X.asg rfl rfl rfl rfl rfl ?_
  refine X.done [(0, _), (1, _), (4, _), (5, _)] ⟨rfl, rfl, rfl, rfl, trivial⟩ ?_
  refine N.then ?_
  refine E.seq ?_
  refine E.seq ?_
  refine E.region ?_
  refine X.mv rfl rfl rfl rfl rfl ?_
  refine X.lssF rfl rfl rfl rfl rfl rfl (by omega) ?_
  refine X.mv rfl rfl rfl rfl rfl ?_
  refine X.mv rfl rfl rfl rfl rfl ?_
  refine X.nilP rfl rfl rfl rfl rfl ?_
  refine X.fld rfl rfl rfl rfl rfl Try.off60_1 ?_
  refine X.ld rfl rfl rfl rfl Try.ag3 (hR) (rfl) ?_
  refine X.remE (zz := ((at_ % 8 : Nat) : Int)) rfl rfl rfl rfl rfl rfl (by omega) (by rw [IntWalk.rem_in _ _ (by omega)] <;> omega) ?_
  refine X.neqF rfl rfl rfl rfl rfl rfl (by omega) ?_
  refine X.pickF rfl rfl rfl rfl rfl rfl ?_
  refine X.done [(0, _), (1, _), (4, _), (5, _), (16, _)] ⟨rfl, rfl, rfl, rfl, rfl, trivial⟩ ?_
  refine N.then ?_
  refine E.condF rfl ?_
  refine E.skip ?_
  refine N.then ?_
  refine E.seq ?_
  refine E.seq ?_
  refine E.region ?_
  refine X.mv rfl rfl rfl rfl rfl ?_
  refine X.mv rfl rfl rfl rfl rfl ?_
  refine X.call rfl rfl rfl rfl rfl Try.cl40 (rleft_ct p s at_ H hR hl) ?_
  rintro _ H3 ⟨rfl, eH3⟩
  obtain rfl := eH3.symm
  refine X.quoE (zz := (((8 * s.length - at_) / 8 : Nat) : Int)) rfl rfl rfl rfl rfl rfl (by omega) (by rw [IntWalk.i64_quo _ _ (by omega)] <;> omega) ?_
  refine X.gtrF rfl rfl rfl rfl rfl rfl (by omega) ?_
  refine X.done [(0, _), (1, _), (4, _), (5, _), (21, _)] ⟨rfl, rfl, rfl, rfl, rfl, trivial⟩ ?_
  refine N.then ?_
  refine E.condF rfl ?_
  refine E.skip ?_
  refine N.then ?_
  refine E.seq ?_
  refine E.regionD (fun H' => Rrf H' p s at_) [(0, .pu), (1, .pu), (2, .pu), (3, .st), (4, .pu), (5, .pu), (6, .pu), (7, .st), (8, .pu), (9, .pu), (10, .pu), (11, .pu), (12, .st), (13, .pu), (14, .pu), (15, .pu), (16, .pu), (17, .pu)] Try.mixed (by kernel_rfl) (hR) ?_
  refine X.mv rfl rfl rfl rfl rfl ?_
  refine X.nilP rfl rfl rfl rfl rfl ?_
  refine X.fld rfl rfl rfl rfl rfl Try.off60_0 ?_
  refine X.ld rfl rfl rfl rfl Try.ag9 (fun H' hF => hF) (rfl) ?_
  refine X.mv rfl rfl rfl rfl rfl ?_
  refine X.nilP rfl rfl rfl rfl rfl ?_
  refine X.fld rfl rfl rfl rfl rfl Try.off60_1 ?_
  refine X.ld rfl rfl rfl rfl Try.ag3 (fun H' hF => hF) (rfl) ?_
  refine X.quoE (zz := ((at_ / 8 : Nat) : Int)) rfl rfl rfl rfl rfl rfl (by omega) (by rw [IntWalk.i64_quo _ _ (by omega)] <;> omega) ?_
  refine X.mv rfl rfl rfl rfl rfl ?_
  refine X.nilP rfl rfl rfl rfl rfl ?_
  refine X.fld rfl rfl rfl rfl rfl Try.off60_1 ?_
  refine X.ld rfl rfl rfl rfl Try.ag3 (fun H' hF => hF) (rfl) ?_
  refine X.quoE (zz := ((at_ / 8 : Nat) : Int)) rfl rfl rfl rfl rfl rfl (by omega) (by rw [IntWalk.i64_quo _ _ (by omega)] <;> omega) ?_
  refine X.mv rfl rfl rfl rfl rfl ?_
  refine X.addE (zz := ((at_ / 8 + n : Nat) : Int)) rfl rfl rfl rfl rfl rfl (by rw [IntWalk.i64_in _ (by omega)] <;> omega) ?_
  refine X.slS rfl rfl rfl rfl rfl rfl rfl Try.underlying9 (by omega) ?_
  refine X.asg rfl rfl rfl rfl rfl ?_
  refine X.done [(0, _), (1, _), (4, _), (5, _), (6, _)] ⟨rfl, rfl, rfl, rfl, rfl, trivial⟩ ?_
  refine N.then ?_
  refine E.seq ?_
  refine E.region ?_
  refine X.mv rfl rfl rfl rfl rfl ?_
  refine X.mv rfl rfl rfl rfl rfl ?_
  refine X.nilP rfl rfl rfl rfl rfl ?_
  refine X.fld rfl rfl rfl rfl rfl Try.off60_1 ?_
  refine X.ld rfl rfl rfl rfl Try.ag3 (hR) (rfl) ?_
  refine X.mv rfl rfl rfl rfl rfl ?_
  refine X.mulE (zz := ((8 * n : Nat) : Int)) rfl rfl rfl rfl rfl rfl (by rw [IntWalk.i64_in _ (by omega)] <;> omega) ?_
  refine X.addE (zz := ((at_ + 8 * n : Nat) : Int)) rfl rfl rfl rfl rfl rfl (by rw [IntWalk.i64_in _ (by omega)] <;> omega) ?_
  refine X.nilP rfl rfl rfl rfl rfl ?_
  refine X.fld rfl rfl rfl rfl rfl Try.off60_1 ?_
  refine X.st rfl rfl rfl rfl rfl rfl rfl Try.sz3 hR (by simp) ?_
  intro H4 hb4 hk4
  refine X.done [(4, _), (5, _), (6, _)] ⟨rfl, rfl, rfl, trivial⟩ ?_
  refine N.then ?_
  refine E.seq ?_
  refine E.region ?_
  refine X.mv rfl rfl rfl rfl rfl ?_
  refine X.asg rfl rfl rfl rfl rfl ?_
  refine X.asg rfl rfl rfl rfl rfl ?_
  refine X.done [(4, _), (5, _)] ⟨rfl, rfl, trivial⟩ ?_
  refine N.then ?_
  refine E.ret ?_
  exact N.retH [_, _] ⟨_, _, rfl, rfl, _, _, rfl, rfl, rfl⟩ ⟨rfl, hb4, hk4⟩


theorem rrbytes_all (p : Nat) (s : Bs) (at_ : Nat) (H : Heap) (hR : Rrf H p s at_) (hl : s.length ≤ 100000 ∧ at_ ≤ 8 * s.length) (n : Int) : Ct Try.prog 38 #[ptr p, i64 n] H fun v H' => v = .tuple #[str (bytesV s at_ n).1, i64 (bytesV s at_ n).2.1] ∧ Rrf H' p s (bytesV s at_ n).2.2 ∧ Kp [p] H H' := by
  unfold bytesV
  by_cases h : n < 0
  · rw [if_pos (.inl h)]; exact (rrbytes_neg p s at_ H hR hl n h).mono (fun v H' ⟨h1, h2⟩ => by subst h2; exact ⟨h1, hR, Kp.refl _ _⟩)
  · obtain ⟨m, rfl⟩ := Int.eq_ofNat_of_zero_le (show 0 ≤ n by omega)
    by_cases ho : at_ % 8 ≠ 0
    · rw [if_pos (.inr ho)]; exact (rrbytes_odd p s at_ H hR hl m ho).mono (fun v H' ⟨h1, h2⟩ => by subst h2; exact ⟨h1, hR, Kp.refl _ _⟩)
    · rw [if_neg (by omega)]
      by_cases hf : (8 * s.length - at_) / 8 < (m : Int).toNat
      · rw [if_pos hf]; exact (rrbytes_far p s at_ H hR hl m (by omega) (by omega)).mono (fun v H' ⟨h1, h2⟩ => by subst h2; exact ⟨h1, hR, Kp.refl _ _⟩)
      · rw [if_neg hf]; exact rrbytes_ok p s at_ H hR hl m (by omega) (by omega)

end Go.Proofs.Ytpengkmmgpoofaa