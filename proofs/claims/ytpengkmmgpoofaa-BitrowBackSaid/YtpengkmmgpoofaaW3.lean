/- The walks of the writer's Code, Align, Bytes; of what is known; the laws of turns, of parts, of nothing. -/
import Derived.Test.YtpengkmmgpoofaaW2
namespace Go.Proofs.Ytpengkmmgpoofaa
open Go.SX Go.Bit
attribute [local irreducible] X E N Ct
set_option linter.unusedVariables false

theorem put_zero (x len : Nat) : put x len 0 = x := by simp [put]
theorem lt_up {x len m : Nat} (h : x < 2 ^ len) (hm : len ≤ m) : x < 2 ^ m := Nat.lt_of_lt_of_le h (Nat.pow_le_pow_right (by omega) hm)
/-- A writer that was made here. -/
structure WM (H0 H : Heap) (p : Nat) (sv : Value) (x len : Nat) : Prop where
  wr : Wr H p sv x len
  kp : Kp [] H0 H
  new : ∀ b ∈ p :: blk sv, H0.size ≤ b
theorem WM.step {H0 H H' : Heap} {p : Nat} {sv sv' : Value} {x len x' len' : Nat} (h : WM H0 H p sv x len) (hw : Wr H' p sv' x' len') (hg : Chg p sv H H' sv') : WM H0 H' p sv' x' len' :=
  ⟨hw, h.kp.trans hg.1 (fun b hb => .inr (h.new b hb)), fun b hb => by
    rcases List.mem_cons.1 hb with rfl | hb
    · exact h.new _ (by simp)
    · rcases hg.2 b hb with h1 | h1
      · exact h.new b (by simp [h1])
      · exact Nat.le_trans h.kp.size h1⟩
theorem WM.keep {H0 H H' : Heap} {p : Nat} {sv : Value} {x len : Nat} {S : List Nat} (h : WM H0 H p sv x len) (hk : Kp S H H') (hS : ∀ b ∈ p :: blk sv, b ∉ S) (hn : ∀ b ∈ S, H0.size ≤ b) : WM H0 H' p sv x len :=
  ⟨h.wr.keep hk hS, h.kp.trans hk (fun b hb => .inr (hn b hb)), h.new⟩

theorem code_badn_ct (p : Nat) (sv : Value) (x len : Nat) (H : Heap) (hW : Wr H p sv x len) (v n : Int) (hn : n < 0 ∨ 32 < n) : Ct Try.prog 14 #[ptr p, i64 v, i64 n] H fun u H' => u = i64 1 ∧ H' = H := by
  refine Ct.into 32 Try.func14 rfl [(0, ptr p), (1, i64 v), (2, i64 n)] rfl ⟨rfl, rfl, rfl, trivial⟩ ?_
  refine E.seq ?_
  refine E.region ?_
  refine X.asg rfl rfl rfl rfl rfl ?_
  refine X.done [(0, _), (1, _), (2, _), (6, _)] ⟨rfl, rfl, rfl, rfl, trivial⟩ ?_
  refine N.then ?_
  refine E.seq ?_
  refine E.region ?_
  refine X.mv rfl rfl rfl rfl rfl ?_
  refine X.fn rfl rfl rfl rfl rfl rfl ?_
  refine X.asg rfl rfl rfl rfl rfl ?_
  refine X.done [(1, _), (2, _), (6, _), (7, _)] ⟨rfl, rfl, rfl, rfl, trivial⟩ ?_
  refine N.then ?_
  refine E.seq ?_
  refine E.seq ?_
  refine E.region ?_
  refine X.mv rfl rfl rfl rfl rfl ?_
  refine X.call rfl rfl rfl rfl rfl Try.cl41 (manyF_ct n H hn) ?_
  rintro _ H2 ⟨rfl, eH2⟩
  obtain rfl := eH2.symm
  refine X.notF rfl rfl rfl rfl rfl ?_
  refine X.mv rfl rfl rfl rfl rfl ?_
  refine X.skip rfl rfl rfl ?_
  refine X.skip rfl rfl rfl ?_
  refine X.pickT rfl rfl rfl rfl rfl rfl ?_
  refine X.mv rfl rfl rfl rfl rfl ?_
  refine X.skip rfl rfl rfl ?_
  refine X.skip rfl rfl rfl ?_
  refine X.skip rfl rfl rfl ?_
  refine X.skip rfl rfl rfl ?_
  refine X.skip rfl rfl rfl ?_
  refine X.pickT rfl rfl rfl rfl rfl rfl ?_
  refine X.done [(1, _), (2, _), (6, _), (7, _), (23, _)] ⟨rfl, rfl, rfl, rfl, rfl, trivial⟩ ?_
  refine N.then ?_
  refine E.condT rfl ?_
  refine E.seq ?_
  refine E.region ?_
  refine X.mv rfl rfl rfl rfl rfl ?_
  refine X.callv rfl rfl rfl rfl rfl rfl Try.cl13 (put_badv_ct p sv x len H hW (-1) 0 (by omega) (by omega)) ?_
  rintro _ H3 ⟨rfl, eH3⟩
  obtain rfl := eH3.symm
  refine X.asg rfl rfl rfl rfl rfl ?_
  refine X.done [(1, _), (2, _), (6, _), (7, _)] ⟨rfl, rfl, rfl, rfl, trivial⟩ ?_
  refine N.then ?_
  refine E.ret ?_
  refine N.thenR ?_
  exact N.retH [_] ⟨_, _, rfl, rfl, rfl⟩ ⟨rfl, rfl⟩

theorem code_badv_ct (p : Nat) (sv : Value) (x len : Nat) (H : Heap) (hW : Wr H p sv x len) (v n : Int) (hn : 0 ≤ n ∧ n ≤ 32) (hv : v < 0) : Ct Try.prog 14 #[ptr p, i64 v, i64 n] H fun u H' => u = i64 1 ∧ H' = H := by
  refine Ct.into 32 Try.func14 rfl [(0, ptr p), (1, i64 v), (2, i64 n)] rfl ⟨rfl, rfl, rfl, trivial⟩ ?_
  refine E.seq ?_
  refine E.region ?_
  refine X.asg rfl rfl rfl rfl rfl ?_
  refine X.done [(0, _), (1, _), (2, _), (6, _)] ⟨rfl, rfl, rfl, rfl, trivial⟩ ?_
  refine N.then ?_
  refine E.seq ?_
  refine E.region ?_
  refine X.mv rfl rfl rfl rfl rfl ?_
  refine X.fn rfl rfl rfl rfl rfl rfl ?_
  refine X.asg rfl rfl rfl rfl rfl ?_
  refine X.done [(1, _), (2, _), (6, _), (7, _)] ⟨rfl, rfl, rfl, rfl, trivial⟩ ?_
  refine N.then ?_
  refine E.seq ?_
  refine E.seq ?_
  refine E.region ?_
  refine X.mv rfl rfl rfl rfl rfl ?_
  refine X.call rfl rfl rfl rfl rfl Try.cl41 (many_ct n H hn) ?_
  rintro _ H2 ⟨rfl, eH2⟩
  obtain rfl := eH2.symm
  refine X.notT rfl rfl rfl rfl rfl ?_
  refine X.mv rfl rfl rfl rfl rfl ?_
  refine X.mv rfl rfl rfl rfl rfl ?_
  refine X.lssT rfl rfl rfl rfl rfl rfl (by omega) ?_
  refine X.pickF rfl rfl rfl rfl rfl rfl ?_
  refine X.mv rfl rfl rfl rfl rfl ?_
  refine X.skip rfl rfl rfl ?_
  refine X.skip rfl rfl rfl ?_
  refine X.skip rfl rfl rfl ?_
  refine X.skip rfl rfl rfl ?_
  refine X.skip rfl rfl rfl ?_
  refine X.pickT rfl rfl rfl rfl rfl rfl ?_
  refine X.done [(1, _), (2, _), (6, _), (7, _), (23, _)] ⟨rfl, rfl, rfl, rfl, rfl, trivial⟩ ?_
  refine N.then ?_
  refine E.condT rfl ?_
  refine E.seq ?_
  refine E.region ?_
  refine X.mv rfl rfl rfl rfl rfl ?_
  refine X.callv rfl rfl rfl rfl rfl rfl Try.cl13 (put_badv_ct p sv x len H hW (-1) 0 (by omega) (by omega)) ?_
  rintro _ H3 ⟨rfl, eH3⟩
  obtain rfl := eH3.symm
  refine X.asg rfl rfl rfl rfl rfl ?_
  refine X.done [(1, _), (2, _), (6, _), (7, _)] ⟨rfl, rfl, rfl, rfl, trivial⟩ ?_
  refine N.then ?_
  refine E.ret ?_
  refine N.thenR ?_
  exact N.retH [_] ⟨_, _, rfl, rfl, rfl⟩ ⟨rfl, rfl⟩

theorem code_badw_ct (p : Nat) (sv : Value) (x len : Nat) (H : Heap) (hW : Wr H p sv x len) (v n : Nat) (hn : n ≤ 32) (hv : 2 ^ n ≤ v) : Ct Try.prog 14 #[ptr p, i64 v, i64 n] H fun u H' => u = i64 1 ∧ H' = H := by
  have hdv : 1 ≤ v / 2 ^ n := (Nat.le_div_iff_mul_le (Nat.two_pow_pos _)).2 (by omega)
  refine Ct.into 32 Try.func14 rfl [(0, ptr p), (1, i64 v), (2, i64 n)] rfl ⟨rfl, rfl, rfl, trivial⟩ ?_
  refine E.seq ?_
  refine E.region ?_
  refine X.asg rfl rfl rfl rfl rfl ?_
  refine X.done [(0, _), (1, _), (2, _), (6, _)] ⟨rfl, rfl, rfl, rfl, trivial⟩ ?_
  refine N.then ?_
  refine E.seq ?_
  refine E.region ?_
  refine X.mv rfl rfl rfl rfl rfl ?_
  refine X.fn rfl rfl rfl rfl rfl rfl ?_
  refine X.asg rfl rfl rfl rfl rfl ?_
  refine X.done [(1, _), (2, _), (6, _), (7, _)] ⟨rfl, rfl, rfl, rfl, trivial⟩ ?_
  refine N.then ?_
  refine E.seq ?_
  refine E.seq ?_
  refine E.region ?_
  refine X.mv rfl rfl rfl rfl rfl ?_
  refine X.call rfl rfl rfl rfl rfl Try.cl41 (many_ct n H (by omega)) ?_
  rintro _ H2 ⟨rfl, eH2⟩
  obtain rfl := eH2.symm
  refine X.notT rfl rfl rfl rfl rfl ?_
  refine X.mv rfl rfl rfl rfl rfl ?_
  refine X.mv rfl rfl rfl rfl rfl ?_
  refine X.lssF rfl rfl rfl rfl rfl rfl (by omega) ?_
  refine X.pickF rfl rfl rfl rfl rfl rfl ?_
  refine X.mv rfl rfl rfl rfl rfl ?_
  refine X.mv rfl rfl rfl rfl rfl ?_
  refine X.mv rfl rfl rfl rfl rfl ?_
  refine X.convE (zz := (n : Int)) rfl rfl rfl rfl rfl Try.underlying24 Try.us3 (IntWalk.u64_in _ (by omega)) ?_
  refine X.shrE (zz := ((v / 2 ^ n : Nat) : Int)) rfl rfl rfl rfl rfl rfl (by omega) (shrN (rfl) (rfl) (by show _ ≤ 64; omega)) ?_
  refine X.neqT rfl rfl rfl rfl rfl rfl (fun h => by have := Int.ofNat.inj h; omega) ?_
  refine X.pickF rfl rfl rfl rfl rfl rfl ?_
  refine X.done [(1, _), (2, _), (6, _), (7, _), (23, _)] ⟨rfl, rfl, rfl, rfl, rfl, trivial⟩ ?_
  refine N.then ?_
  refine E.condT rfl ?_
  refine E.seq ?_
  refine E.region ?_
  refine X.mv rfl rfl rfl rfl rfl ?_
  refine X.callv rfl rfl rfl rfl rfl rfl Try.cl13 (put_badv_ct p sv x len H hW (-1) 0 (by omega) (by omega)) ?_
  rintro _ H3 ⟨rfl, eH3⟩
  obtain rfl := eH3.symm
  refine X.asg rfl rfl rfl rfl rfl ?_
  refine X.done [(1, _), (2, _), (6, _), (7, _)] ⟨rfl, rfl, rfl, rfl, trivial⟩ ?_
  refine N.then ?_
  refine E.ret ?_
  refine N.thenR ?_
  exact N.retH [_] ⟨_, _, rfl, rfl, rfl⟩ ⟨rfl, rfl⟩

theorem code_ct (p : Nat) (sv : Value) (x len : Nat) (H : Heap) (hW : Wr H p sv x len) (v n : Nat) (hn : n ≤ 32) (hv : v < 2 ^ n) (hlb : len ≤ 10000000) : Ct Try.prog 14 #[ptr p, i64 v, i64 n] H fun u H' => u = i64 0 ∧ ∃ sv', Wr H' p sv' (put x len (turn v n)) (len + n) ∧ Chg p sv H H' sv' := by
  have hvd : v / 2 ^ n = 0 := Nat.div_eq_of_lt hv
  have hpn : 2 ^ n ≤ 2 ^ 32 := Nat.pow_le_pow_right (by omega) hn
  have hT : turnV v n = turn v n := turnV_of v n (by omega) hn
  have htl := turn_lt v n
  refine Ct.into 32 Try.func14 rfl [(0, ptr p), (1, i64 v), (2, i64 n)] rfl ⟨rfl, rfl, rfl, trivial⟩ ?_
  refine E.seq ?_
  refine E.region ?_
  refine X.asg rfl rfl rfl rfl rfl ?_
  refine X.done [(0, _), (1, _), (2, _), (6, _)] ⟨rfl, rfl, rfl, rfl, trivial⟩ ?_
  refine N.then ?_
  refine E.seq ?_
  refine E.region ?_
  refine X.mv rfl rfl rfl rfl rfl ?_
  refine X.fn rfl rfl rfl rfl rfl rfl ?_
  refine X.asg rfl rfl rfl rfl rfl ?_
  refine X.done [(1, _), (2, _), (6, _), (7, _)] ⟨rfl, rfl, rfl, rfl, trivial⟩ ?_
  refine N.then ?_
  refine E.seq ?_
  refine E.seq ?_
  refine E.region ?_
  refine X.mv rfl rfl rfl rfl rfl ?_
  refine X.call rfl rfl rfl rfl rfl Try.cl41 (many_ct n H (by omega)) ?_
  rintro _ H2 ⟨rfl, eH2⟩
  obtain rfl := eH2.symm
  refine X.notT rfl rfl rfl rfl rfl ?_
  refine X.mv rfl rfl rfl rfl rfl ?_
  refine X.mv rfl rfl rfl rfl rfl ?_
  refine X.lssF rfl rfl rfl rfl rfl rfl (by omega) ?_
  refine X.pickF rfl rfl rfl rfl rfl rfl ?_
  refine X.mv rfl rfl rfl rfl rfl ?_
  refine X.mv rfl rfl rfl rfl rfl ?_
  refine X.mv rfl rfl rfl rfl rfl ?_
  refine X.convE (zz := (n : Int)) rfl rfl rfl rfl rfl Try.underlying24 Try.us3 (IntWalk.u64_in _ (by omega)) ?_
  refine X.shrE (zz := ((v / 2 ^ n : Nat) : Int)) rfl rfl rfl rfl rfl rfl (by omega) (shrN (rfl) (rfl) (by show _ ≤ 64; omega)) ?_
  refine X.neqF rfl rfl rfl rfl rfl rfl (fun h => h (by rw [hvd]; rfl)) ?_
  refine X.pickF rfl rfl rfl rfl rfl rfl ?_
  refine X.done [(1, _), (2, _), (6, _), (7, _), (23, _)] ⟨rfl, rfl, rfl, rfl, rfl, trivial⟩ ?_
  refine N.then ?_
  refine E.condF rfl ?_
  refine E.skip ?_
  refine N.then ?_
  refine E.seq ?_
  refine E.region ?_
  refine X.mv rfl rfl rfl rfl rfl ?_
  refine X.mv rfl rfl rfl rfl rfl ?_
  refine X.mv rfl rfl rfl rfl rfl ?_
  refine X.call rfl rfl rfl rfl rfl Try.cl9 (turn_ct v n H) ?_
  rintro _ H3 ⟨rfl, eH3⟩
  obtain rfl := eH3.symm
  rw [hT]
  refine X.mv rfl rfl rfl rfl rfl ?_
  refine X.callv rfl rfl rfl rfl rfl rfl Try.cl13 (put_ct p sv x len H hW (turn v n) n hn htl hlb) ?_
  rintro _ H4 ⟨rfl, sv4, hW4, hg4⟩
  refine X.asg rfl rfl rfl rfl rfl ?_
  refine X.done [(6, _)] ⟨rfl, trivial⟩ ?_
  refine N.then ?_
  refine E.ret ?_
  exact N.retH [_] ⟨_, _, rfl, rfl, rfl⟩ ⟨rfl, sv4, hW4, hg4⟩

theorem codeN_bad (pv : Value) (H : Heap) (hno : Ct Try.prog 43 #[pv] H fun v H' => v = .bool false ∧ H' = H) (v n : Int) (hn : n < 0 ∨ 32 < n) : Ct Try.prog 14 #[pv, i64 v, i64 n] H fun u H' => u = i64 25 ∧ H' = H := by
  refine Ct.into 32 Try.func14 rfl [(0, pv), (1, i64 v), (2, i64 n)] rfl ⟨rfl, rfl, rfl, trivial⟩ ?_
  refine E.seq ?_
  refine E.region ?_
  refine X.asg rfl rfl rfl rfl rfl ?_
  refine X.done [(0, _), (1, _), (2, _), (6, _)] ⟨rfl, rfl, rfl, rfl, trivial⟩ ?_
  refine N.then ?_
  refine E.seq ?_
  refine E.region ?_
  refine X.mv rfl rfl rfl rfl rfl ?_
  refine X.fn rfl rfl rfl rfl rfl rfl ?_
  refine X.asg rfl rfl rfl rfl rfl ?_
  refine X.done [(1, _), (2, _), (6, _), (7, _)] ⟨rfl, rfl, rfl, rfl, trivial⟩ ?_
  refine N.then ?_
  refine E.seq ?_
  refine E.seq ?_
  refine E.region ?_
  refine X.mv rfl rfl rfl rfl rfl ?_
  refine X.call rfl rfl rfl rfl rfl Try.cl41 (manyF_ct n H hn) ?_
  rintro _ H2 ⟨rfl, eH2⟩
  obtain rfl := eH2.symm
  refine X.notF rfl rfl rfl rfl rfl ?_
  refine X.mv rfl rfl rfl rfl rfl ?_
  refine X.skip rfl rfl rfl ?_
  refine X.skip rfl rfl rfl ?_
  refine X.pickT rfl rfl rfl rfl rfl rfl ?_
  refine X.mv rfl rfl rfl rfl rfl ?_
  refine X.skip rfl rfl rfl ?_
  refine X.skip rfl rfl rfl ?_
  refine X.skip rfl rfl rfl ?_
  refine X.skip rfl rfl rfl ?_
  refine X.skip rfl rfl rfl ?_
  refine X.pickT rfl rfl rfl rfl rfl rfl ?_
  refine X.done [(1, _), (2, _), (6, _), (7, _), (23, _)] ⟨rfl, rfl, rfl, rfl, rfl, trivial⟩ ?_
  refine N.then ?_
  refine E.condT rfl ?_
  refine E.seq ?_
  refine E.region ?_
  refine X.mv rfl rfl rfl rfl rfl ?_
  refine X.callv rfl rfl rfl rfl rfl rfl Try.cl13 (putN_ct pv H hno _ _) ?_
  rintro _ H3 ⟨rfl, eH3⟩
  obtain rfl := eH3.symm
  refine X.asg rfl rfl rfl rfl rfl ?_
  refine X.done [(1, _), (2, _), (6, _), (7, _)] ⟨rfl, rfl, rfl, rfl, trivial⟩ ?_
  refine N.then ?_
  refine E.ret ?_
  refine N.thenR ?_
  exact N.retH [_] ⟨_, _, rfl, rfl, rfl⟩ ⟨rfl, rfl⟩

theorem codeN_neg (pv : Value) (H : Heap) (hno : Ct Try.prog 43 #[pv] H fun v H' => v = .bool false ∧ H' = H) (v n : Int) (hn : 0 ≤ n ∧ n ≤ 32) (hv : v < 0) : Ct Try.prog 14 #[pv, i64 v, i64 n] H fun u H' => u = i64 25 ∧ H' = H := by
  refine Ct.into 32 Try.func14 rfl [(0, pv), (1, i64 v), (2, i64 n)] rfl ⟨rfl, rfl, rfl, trivial⟩ ?_
  refine E.seq ?_
  refine E.region ?_
  refine X.asg rfl rfl rfl rfl rfl ?_
  refine X.done [(0, _), (1, _), (2, _), (6, _)] ⟨rfl, rfl, rfl, rfl, trivial⟩ ?_
  refine N.then ?_
  refine E.seq ?_
  refine E.region ?_
  refine X.mv rfl rfl rfl rfl rfl ?_
  refine X.fn rfl rfl rfl rfl rfl rfl ?_
  refine X.asg rfl rfl rfl rfl rfl ?_
  refine X.done [(1, _), (2, _), (6, _), (7, _)] ⟨rfl, rfl, rfl, rfl, trivial⟩ ?_
  refine N.then ?_
  refine E.seq ?_
  refine E.seq ?_
  refine E.region ?_
  refine X.mv rfl rfl rfl rfl rfl ?_
  refine X.call rfl rfl rfl rfl rfl Try.cl41 (many_ct n H hn) ?_
  rintro _ H2 ⟨rfl, eH2⟩
  obtain rfl := eH2.symm
  refine X.notT rfl rfl rfl rfl rfl ?_
  refine X.mv rfl rfl rfl rfl rfl ?_
  refine X.mv rfl rfl rfl rfl rfl ?_
  refine X.lssT rfl rfl rfl rfl rfl rfl (by omega) ?_
  refine X.pickF rfl rfl rfl rfl rfl rfl ?_
  refine X.mv rfl rfl rfl rfl rfl ?_
  refine X.skip rfl rfl rfl ?_
  refine X.skip rfl rfl rfl ?_
  refine X.skip rfl rfl rfl ?_
  refine X.skip rfl rfl rfl ?_
  refine X.skip rfl rfl rfl ?_
  refine X.pickT rfl rfl rfl rfl rfl rfl ?_
  refine X.done [(1, _), (2, _), (6, _), (7, _), (23, _)] ⟨rfl, rfl, rfl, rfl, rfl, trivial⟩ ?_
  refine N.then ?_
  refine E.condT rfl ?_
  refine E.seq ?_
  refine E.region ?_
  refine X.mv rfl rfl rfl rfl rfl ?_
  refine X.callv rfl rfl rfl rfl rfl rfl Try.cl13 (putN_ct pv H hno _ _) ?_
  rintro _ H3 ⟨rfl, eH3⟩
  obtain rfl := eH3.symm
  refine X.asg rfl rfl rfl rfl rfl ?_
  refine X.done [(1, _), (2, _), (6, _), (7, _)] ⟨rfl, rfl, rfl, rfl, trivial⟩ ?_
  refine N.then ?_
  refine E.ret ?_
  refine N.thenR ?_
  exact N.retH [_] ⟨_, _, rfl, rfl, rfl⟩ ⟨rfl, rfl⟩

theorem codeN_nat (pv : Value) (H : Heap) (hno : Ct Try.prog 43 #[pv] H fun v H' => v = .bool false ∧ H' = H) (v n : Nat) (hn : n ≤ 32) : Ct Try.prog 14 #[pv, i64 v, i64 n] H fun u H' => u = i64 25 ∧ H' = H := by
  refine Ct.into 32 Try.func14 rfl [(0, pv), (1, i64 v), (2, i64 n)] rfl ⟨rfl, rfl, rfl, trivial⟩ ?_
  refine E.seq ?_
  refine E.region ?_
  refine X.asg rfl rfl rfl rfl rfl ?_
  refine X.done [(0, _), (1, _), (2, _), (6, _)] ⟨rfl, rfl, rfl, rfl, trivial⟩ ?_
  refine N.then ?_
  refine E.seq ?_
  refine E.region ?_
  refine X.mv rfl rfl rfl rfl rfl ?_
  refine X.fn rfl rfl rfl rfl rfl rfl ?_
  refine X.asg rfl rfl rfl rfl rfl ?_
  refine X.done [(1, _), (2, _), (6, _), (7, _)] ⟨rfl, rfl, rfl, rfl, trivial⟩ ?_
  refine N.then ?_
  refine E.seq ?_
  refine E.seq ?_
  refine E.region ?_
  refine X.mv rfl rfl rfl rfl rfl ?_
  refine X.call rfl rfl rfl rfl rfl Try.cl41 (many_ct n H (by omega)) ?_
  rintro _ H2 ⟨rfl, eH2⟩
  obtain rfl := eH2.symm
  refine X.notT rfl rfl rfl rfl rfl ?_
  refine X.mv rfl rfl rfl rfl rfl ?_
  refine X.mv rfl rfl rfl rfl rfl ?_
  refine X.lssF rfl rfl rfl rfl rfl rfl (by omega) ?_
  refine X.pickF rfl rfl rfl rfl rfl rfl ?_
  refine X.mv rfl rfl rfl rfl rfl ?_
  refine X.mv rfl rfl rfl rfl rfl ?_
  refine X.mv rfl rfl rfl rfl rfl ?_
  refine X.convE (zz := (n : Int)) rfl rfl rfl rfl rfl Try.underlying24 Try.us3 (IntWalk.u64_in _ (by omega)) ?_
  refine X.shrE (zz := ((v / 2 ^ n : Nat) : Int)) rfl rfl rfl rfl rfl rfl (by omega) (shrN (rfl) (rfl) (by show _ ≤ 64; omega)) ?_
  refine X.neq rfl rfl rfl rfl rfl rfl ?_
  refine X.pickF rfl rfl rfl rfl rfl rfl ?_
  refine X.done [(1, _), (2, _), (6, _), (7, _), (23, _)] ⟨rfl, rfl, rfl, rfl, rfl, trivial⟩ ?_
  refine N.then ?_
  refine E.condD rfl (fun hc => ?_) (fun hc => ?_)
  · refine E.seq ?_
    refine E.region ?_
    refine X.mv rfl rfl rfl rfl rfl ?_
    refine X.callv rfl rfl rfl rfl rfl rfl Try.cl13 (putN_ct pv H hno _ _) ?_
    rintro _ H3 ⟨rfl, eH3⟩
    obtain rfl := eH3.symm
    refine X.asg rfl rfl rfl rfl rfl ?_
    refine X.done [(1, _), (2, _), (6, _), (7, _)] ⟨rfl, rfl, rfl, rfl, trivial⟩ ?_
    refine N.then ?_
    refine E.ret ?_
    refine N.thenR ?_
    exact N.retH [_] ⟨_, _, rfl, rfl, rfl⟩ ⟨rfl, rfl⟩
  · refine E.skip ?_
    refine N.then ?_
    refine E.seq ?_
    refine E.region ?_
    refine X.mv rfl rfl rfl rfl rfl ?_
    refine X.mv rfl rfl rfl rfl rfl ?_
    refine X.mv rfl rfl rfl rfl rfl ?_
    refine X.call rfl rfl rfl rfl rfl Try.cl9 (turn_ct v n H) ?_
    rintro _ H4 ⟨rfl, eH4⟩
    obtain rfl := eH4.symm
    refine X.mv rfl rfl rfl rfl rfl ?_
    refine X.callv rfl rfl rfl rfl rfl rfl Try.cl13 (putN_ct pv H hno _ _) ?_
    rintro _ H3 ⟨rfl, eH3⟩
    obtain rfl := eH3.symm
    refine X.asg rfl rfl rfl rfl rfl ?_
    refine X.done [(6, _)] ⟨rfl, trivial⟩ ?_
    refine N.then ?_
    refine E.ret ?_
    exact N.retH [_] ⟨_, _, rfl, rfl, rfl⟩ ⟨rfl, rfl⟩


theorem codeN_ct (pv : Value) (H : Heap) (hno : Ct Try.prog 43 #[pv] H fun v H' => v = .bool false ∧ H' = H) (v n : Int) : Ct Try.prog 14 #[pv, i64 v, i64 n] H fun u H' => u = i64 25 ∧ H' = H := by
  by_cases hn : 0 ≤ n ∧ n ≤ 32
  · by_cases hv : v < 0
    · exact codeN_neg pv H hno v n hn hv
    · obtain ⟨n', rfl⟩ := Int.eq_ofNat_of_zero_le hn.1
      obtain ⟨v', rfl⟩ := Int.eq_ofNat_of_zero_le (show 0 ≤ v by omega)
      exact codeN_nat pv H hno v' n' (by omega)
  · exact codeN_bad pv H hno v n (by omega)

theorem alignN_ct (pv : Value) (H : Heap) (hno : Ct Try.prog 43 #[pv] H fun v H' => v = .bool false ∧ H' = H) : Ct Try.prog 25 #[pv] H fun u H' => u = .tuple #[] ∧ H' = H := by
  refine Ct.into 18 Try.func25 rfl [(0, pv)] rfl ⟨rfl, trivial⟩ ?_
  refine E.seq ?_
  refine E.region ?_
  refine X.mv rfl rfl rfl rfl rfl ?_
  refine X.call rfl rfl rfl rfl rfl Try.cl43 (hno) ?_
  rintro _ H1 ⟨rfl, eH1⟩
  obtain rfl := eH1.symm
  refine X.mv rfl rfl rfl rfl rfl ?_
  refine X.skip rfl rfl rfl ?_
  refine X.skip rfl rfl rfl ?_
  refine X.skip rfl rfl rfl ?_
  refine X.skip rfl rfl rfl ?_
  refine X.skip rfl rfl rfl ?_
  refine X.pickF rfl rfl rfl rfl rfl rfl ?_
  refine X.done [(0, _), (10, _)] ⟨rfl, rfl, trivial⟩ ?_
  refine N.then ?_
  refine E.condF rfl ?_
  refine E.skip ?_
  exact N.endH [] rfl ⟨rfl, rfl⟩

theorem align_ct (p : Nat) (sv : Value) (x len : Nat) (H : Heap) (hW : Wr H p sv x len) (hlb : len ≤ 9000000) : Ct Try.prog 25 #[ptr p] H fun u H' => u = .tuple #[] ∧ ∃ sv', Wr H' p sv' x (8 * ((len + 7) / 8)) ∧ Chg p sv H H' sv' := by
  refine Ct.into 18 Try.func25 rfl [(0, ptr p)] rfl ⟨rfl, trivial⟩ ?_
  refine E.seq ?_
  refine E.region ?_
  refine X.mv rfl rfl rfl rfl rfl ?_
  refine X.call rfl rfl rfl rfl rfl Try.cl43 (wthere_ct p _ x len H hW) ?_
  rintro _ H1 ⟨rfl, eH1⟩
  obtain rfl := eH1.symm
  refine X.mv rfl rfl rfl rfl rfl ?_
  refine X.mv rfl rfl rfl rfl rfl ?_
  refine X.nilP rfl rfl rfl rfl rfl ?_
  refine X.fld rfl rfl rfl rfl rfl Try.off64_3 ?_
  refine X.ld rfl rfl rfl rfl Try.ag3 (hW.cell) (rfl) ?_
  refine X.gtr rfl rfl rfl rfl rfl rfl ?_
  refine X.pickT rfl rfl rfl rfl rfl rfl ?_
  refine X.done [(0, _), (10, _)] ⟨rfl, rfl, trivial⟩ ?_
  refine N.then ?_
  refine E.condD rfl (fun hc => ?_) (fun hc => ?_)
  · refine E.region ?_
    refine X.mv rfl rfl rfl rfl rfl ?_
    refine X.mv rfl rfl rfl rfl rfl ?_
    refine X.nilP rfl rfl rfl rfl rfl ?_
    refine X.fld rfl rfl rfl rfl rfl Try.off64_3 ?_
    refine X.ld rfl rfl rfl rfl Try.ag3 (hW.cell) (rfl) ?_
    refine X.sbE (zz := ((8 - len % 8 : Nat) : Int)) rfl rfl rfl rfl rfl rfl (by rw [IntWalk.i64_in _ (by omega)] <;> omega) ?_
    refine X.call rfl rfl rfl rfl rfl Try.cl13 (put_ct p sv x len H hW 0 (8 - len % 8) (by omega) (Nat.two_pow_pos _) (by omega)) ?_
    rintro _ H3 ⟨rfl, sv3, hW3, hg3⟩
    rw [put_zero, show len + (8 - len % 8) = 8 * ((len + 7) / 8) by omega] at hW3
    refine X.done [] trivial ?_
    first | exact N.endH [] rfl ⟨rfl, sv3, hW3, hg3⟩ | exact N.endH [] rfl ⟨rfl, sv, by rw [show 8 * ((len + 7) / 8) = len by omega]; exact hW, Chg.refl _ _ _⟩
  · refine E.skip ?_
    first | exact N.endH [] rfl ⟨rfl, sv3, hW3, hg3⟩ | exact N.endH [] rfl ⟨rfl, sv, by rw [show 8 * ((len + 7) / 8) = len by omega]; exact hW, Chg.refl _ _ _⟩

theorem bytesN_ct (pv : Value) (H : Heap) (hno : Ct Try.prog 43 #[pv] H fun v H' => v = .bool false ∧ H' = H) (s : Value) : Ct Try.prog 27 #[pv, s] H fun u H' => u = .tuple #[] ∧ H' = H := by
  refine Ct.into 17 Try.func27 rfl [(0, pv), (1, s)] rfl ⟨rfl, rfl, trivial⟩ ?_
  refine E.seq ?_
  refine E.region ?_
  refine X.mv rfl rfl rfl rfl rfl ?_
  refine X.call rfl rfl rfl rfl rfl Try.cl43 (hno) ?_
  rintro _ H1 ⟨rfl, eH1⟩
  obtain rfl := eH1.symm
  refine X.done [(0, _), (1, _), (5, _)] ⟨rfl, rfl, rfl, trivial⟩ ?_
  refine N.then ?_
  refine E.condF rfl ?_
  refine E.skip ?_
  exact N.endH [] rfl ⟨rfl, rfl⟩

theorem bytes_ct (p : Nat) (sv : Value) (x len : Nat) (H : Heap) (hW : Wr H p sv x len) (s : Bs) (hlb : len ≤ 9000000) (hs : s.length ≤ 100000) : Ct Try.prog 27 #[ptr p, str s] H fun u H' => u = .tuple #[] ∧ ∃ sv', Wr H' p sv' (put x (8 * ((len + 7) / 8)) (num s)) ((8 * ((len + 7) / 8)) + 8 * s.length) ∧ Chg p sv H H' sv' := by
  obtain ⟨q, hq⟩ : ∃ q, (len + 7) / 8 = q := ⟨_, rfl⟩
  have hxq : x < 2 ^ (8 * q) := lt_up hW.lt (by omega)
  have hns := num_lt s
  have hX := put_lt hxq hns
  rw [hq]
  refine Ct.into 17 Try.func27 rfl [(0, ptr p), (1, str s)] rfl ⟨rfl, rfl, trivial⟩ ?_
  refine E.seq ?_
  refine E.region ?_
  refine X.mv rfl rfl rfl rfl rfl ?_
  refine X.call rfl rfl rfl rfl rfl Try.cl43 (wthere_ct p _ x len H hW) ?_
  rintro _ H1 ⟨rfl, eH1⟩
  obtain rfl := eH1.symm
  refine X.done [(0, _), (1, _), (5, _)] ⟨rfl, rfl, rfl, trivial⟩ ?_
  refine N.then ?_
  refine E.condT rfl ?_
  refine E.seq ?_
  refine E.region ?_
  refine X.mv rfl rfl rfl rfl rfl ?_
  refine X.call rfl rfl rfl rfl rfl Try.cl25 (align_ct p sv x len H hW hlb) ?_
  rintro _ H3 ⟨rfl, sv3, hW3, hg3⟩
  rw [hq] at hW3
  have e1 : 8 * q / 8 = q := by omega
  have e2 : 8 * q % 8 = 0 := by omega
  have hc3 := hW3.cell
  have ho3 := hW3.own
  rw [e1, e2] at hc3
  rw [e1] at ho3
  refine X.done [(0, _), (1, _)] ⟨rfl, rfl, trivial⟩ ?_
  refine N.then ?_
  refine E.region ?_
  refine X.mv rfl rfl rfl rfl rfl ?_
  refine X.mv rfl rfl rfl rfl rfl ?_
  refine X.nilP rfl rfl rfl rfl rfl ?_
  refine X.fld rfl rfl rfl rfl rfl Try.off64_1 ?_
  refine X.ld rfl rfl rfl rfl Try.ag45 (hc3) (rfl) ?_
  refine X.mv rfl rfl rfl rfl rfl ?_
  refine X.app T9 rfl rfl rfl rfl rfl rfl (ho3) (srcS _ _) (.inr ⟨Try.underlying9, _, rfl⟩) (bv_one s) (by first | (simp only [maxLen]; omega) | omega) (by first | (simp only [maxLen]; omega) | omega) ?_
  intro v1 H1 ho1 hk1 hb1 hn1
  obtain ⟨a1, c1, rfl⟩ := ho1.len
  rw [← bv_append, ← digs_app x (put x (8 * q) (num s)) q s (by unfold put; rw [Nat.mod_eq_of_lt hxq])] at ho1
  have hb1 : ∀ b ∈ blk (.slice a1 (q + s.length) c1), b ∈ blk sv3 ∨ H3.size ≤ b := fun b hb => hb1.elim (fun h => .inl (h ▸ hb)) (fun h => .inr (h b hb))
  refine X.nilP rfl rfl rfl rfl rfl ?_
  refine X.fld rfl rfl rfl rfl rfl Try.off64_1 ?_
  refine X.st rfl rfl rfl rfl rfl rfl rfl Try.sz45 (hk1.keep hc3 hW3.sep) (by simp) ?_
  intro H4 hb4 hk4
  have hs1 : p ∉ blk (.slice a1 (q + s.length) c1) := fun h => (hb1 p h).elim hW3.sep (fun h => by have := lt_of hc3; omega)
  have hg4 : Chg p sv3 H3 H4 (.slice a1 (q + s.length) c1) := ⟨(hk1.mono (T := p :: blk sv3) (fun b hb => .inl (by simp [hb]))).trans hk4 (by simp), hb1⟩
  have z1 : x / 2 ^ (8 * q) = 0 := Nat.div_eq_of_lt hxq
  have z2 : put x (8 * q) (num s) / 2 ^ (8 * (q + s.length)) = 0 := Nat.div_eq_of_lt (by rw [Nat.mul_add]; exact hX)
  have f1 : (8 * q + 8 * s.length) / 8 = q + s.length := by omega
  have f2 : (8 * q + 8 * s.length) % 8 = 0 := by omega
  refine X.done [] trivial ?_
  exact N.endH [] rfl ⟨rfl, _, ⟨by rw [f1, f2, z2]; rw [z1] at hb4; exact hb4, by rw [f1]; exact ho1.keep hk4 (fun b hbb h => hs1 (by simp at h; exact h ▸ hbb)), hs1, hX⟩, hg3.trans hg4⟩

theorem known_ct (H : Heap) : Ct Try.prog 11 #[] H fun v H' => v = .bool true ∧ Kp [] H H' := by
  refine Ct.into 91 Try.func11 rfl [] rfl trivial ?_
  refine E.seq ?_
  refine E.region ?_
  refine X.asg rfl rfl rfl rfl rfl ?_
  refine X.done [(0, _)] ⟨rfl, trivial⟩ ?_
  refine N.then ?_
  refine E.seq ?_
  refine E.region ?_
  refine X.call rfl rfl rfl rfl rfl Try.cl15 (new_ct [5, 128] 0 H (by decide) (by decide)) ?_
  rintro _ H1 ⟨r, rfl, hr1, hR1, hk1⟩
  refine X.mv rfl rfl rfl rfl rfl ?_
  refine X.extract rfl rfl rfl rfl rfl rfl ?_
  refine X.extract rfl rfl rfl rfl rfl rfl ?_
  refine X.asg rfl rfl rfl rfl rfl ?_
  refine X.asg rfl rfl rfl rfl rfl ?_
  refine X.done [(0, _), (1, _), (2, _)] ⟨rfl, rfl, rfl, trivial⟩ ?_
  refine N.then ?_
  refine E.seq ?_
  refine E.region ?_
  refine X.call rfl rfl rfl rfl rfl Try.cl12 (open_ct H1) ?_
  rintro _ H2 ⟨p, rfl, hp2, hW2, hk2⟩
  have hR2 := hk2.keep hR1 (by simp)
  have hrp : r ≠ p := ne_of_ge hR1 hp2
  have M2 : WM H H2 p _ 0 0 := ⟨hW2, hk1.trans hk2 (by simp), by simp [blk]; exact Nat.le_trans hk1.size hp2⟩
  refine X.asg rfl rfl rfl rfl rfl ?_
  refine X.done [(0, _), (1, _), (2, _), (3, _)] ⟨rfl, rfl, rfl, rfl, trivial⟩ ?_
  refine N.then ?_
  refine E.seq ?_
  refine E.seq ?_
  refine E.region ?_
  refine X.mv rfl rfl rfl rfl rfl ?_
  refine X.neqF rfl rfl rfl rfl rfl rfl (fun h => h rfl) ?_
  refine X.mv rfl rfl rfl rfl rfl ?_
  refine X.mv rfl rfl rfl rfl rfl ?_
  refine X.eqlP1 rfl rfl rfl rfl rfl rfl Try.underlying33 ?_
  refine X.pickF rfl rfl rfl rfl rfl rfl ?_
  refine X.mv rfl rfl rfl rfl rfl ?_
  refine X.mv rfl rfl rfl rfl rfl ?_
  refine X.eqlP1 rfl rfl rfl rfl rfl rfl Try.underlying27 ?_
  refine X.pickF rfl rfl rfl rfl rfl rfl ?_
  refine X.done [(0, _), (1, _), (3, _), (26, _)] ⟨rfl, rfl, rfl, rfl, trivial⟩ ?_
  refine N.then ?_
  refine E.condF rfl ?_
  refine E.skip ?_
  refine N.then ?_
  refine E.seq ?_
  refine E.region ?_
  refine X.mv rfl rfl rfl rfl rfl ?_
  refine X.call rfl rfl rfl rfl rfl Try.cl18 (bits_ct r _ 0 H2 hR2 (by decide) 3 (by decide) (by decide)) ?_
  rintro _ H3 ⟨rfl, hR3, hk3⟩
  have M3 := M2.keep hk3 (by simp [blk]; exact Ne.symm hrp) (by simp; exact hr1)
  refine X.mv rfl rfl rfl rfl rfl ?_
  refine X.extract rfl rfl rfl rfl rfl rfl ?_
  refine X.extract rfl rfl rfl rfl rfl rfl ?_
  refine X.asg rfl rfl rfl rfl rfl ?_
  refine X.asg rfl rfl rfl rfl rfl ?_
  refine X.done [(0, _), (1, _), (3, _), (4, _), (5, _)] ⟨rfl, rfl, rfl, rfl, rfl, trivial⟩ ?_
  refine N.then ?_
  refine E.seq ?_
  refine E.region ?_
  refine X.mv rfl rfl rfl rfl rfl ?_
  refine X.call rfl rfl rfl rfl rfl Try.cl18 (bits_ct r _ _ H3 hR3 (by decide) 5 (by decide) (by decide)) ?_
  rintro _ H4 ⟨rfl, hR4, hk4⟩
  have M4 := M3.keep hk4 (by simp [blk]; exact Ne.symm hrp) (by simp; exact hr1)
  refine X.mv rfl rfl rfl rfl rfl ?_
  refine X.extract rfl rfl rfl rfl rfl rfl ?_
  refine X.extract rfl rfl rfl rfl rfl rfl ?_
  refine X.asg rfl rfl rfl rfl rfl ?_
  refine X.asg rfl rfl rfl rfl rfl ?_
  refine X.done [(0, _), (1, _), (3, _), (4, _), (5, _), (6, _), (7, _)] ⟨rfl, rfl, rfl, rfl, rfl, rfl, rfl, trivial⟩ ?_
  refine N.then ?_
  refine E.seq ?_
  refine E.region ?_
  refine X.mv rfl rfl rfl rfl rfl ?_
  refine X.call rfl rfl rfl rfl rfl Try.cl18 (bits_ct r _ _ H4 hR4 (by decide) 8 (by decide) (by decide)) ?_
  rintro _ H5 ⟨rfl, hR5, hk5⟩
  have M5 := M4.keep hk5 (by simp [blk]; exact Ne.symm hrp) (by simp; exact hr1)
  refine X.mv rfl rfl rfl rfl rfl ?_
  refine X.extract rfl rfl rfl rfl rfl rfl ?_
  refine X.extract rfl rfl rfl rfl rfl rfl ?_
  refine X.asg rfl rfl rfl rfl rfl ?_
  refine X.asg rfl rfl rfl rfl rfl ?_
  refine X.done [(0, _), (1, _), (3, _), (4, _), (5, _), (6, _), (7, _), (8, _), (9, _)] ⟨rfl, rfl, rfl, rfl, rfl, rfl, rfl, rfl, rfl, trivial⟩ ?_
  refine N.then ?_
  refine E.seq ?_
  refine E.region ?_
  refine X.mv rfl rfl rfl rfl rfl ?_
  refine X.call rfl rfl rfl rfl rfl Try.cl18 (bits_far_ct r _ _ H5 hR5 (by decide) 1 (by decide) (by decide)) ?_
  rintro _ H6 ⟨rfl, eH6⟩
  obtain rfl := eH6.symm
  refine X.mv rfl rfl rfl rfl rfl ?_
  refine X.extract rfl rfl rfl rfl rfl rfl ?_
  refine X.extract rfl rfl rfl rfl rfl rfl ?_
  refine X.asg rfl rfl rfl rfl rfl ?_
  refine X.asg rfl rfl rfl rfl rfl ?_
  refine X.done [(0, _), (3, _), (4, _), (5, _), (6, _), (7, _), (8, _), (9, _), (11, _)] ⟨rfl, rfl, rfl, rfl, rfl, rfl, rfl, rfl, rfl, trivial⟩ ?_
  refine N.then ?_
  refine E.seq ?_
  refine E.region ?_
  refine X.mv rfl rfl rfl rfl rfl ?_
  refine X.call rfl rfl rfl rfl rfl Try.cl13 (put_ct p _ _ _ H5 M5.wr 1 1 (by decide) (by decide) (by decide)) ?_
  rintro _ H7 ⟨rfl, sv7, hW7, hg7⟩
  have M7 := M5.step hW7 hg7
  refine X.done [(0, _), (3, _), (4, _), (5, _), (6, _), (7, _), (8, _), (9, _), (11, _)] ⟨rfl, rfl, rfl, rfl, rfl, rfl, rfl, rfl, rfl, trivial⟩ ?_
  refine N.then ?_
  refine E.seq ?_
  refine E.region ?_
  refine X.mv rfl rfl rfl rfl rfl ?_
  refine X.call rfl rfl rfl rfl rfl Try.cl14 (code_ct p _ _ _ H7 M7.wr 3 3 (by decide) (by decide) (by decide)) ?_
  rintro _ H8 ⟨rfl, sv8, hW8, hg8⟩
  have M8 := M7.step hW8 hg8
  refine X.done [(0, _), (3, _), (4, _), (5, _), (6, _), (7, _), (8, _), (9, _), (11, _)] ⟨rfl, rfl, rfl, rfl, rfl, rfl, rfl, rfl, rfl, trivial⟩ ?_
  refine N.then ?_
  refine E.seq ?_
  refine E.region ?_
  refine X.mv rfl rfl rfl rfl rfl ?_
  refine X.eqlT rfl rfl rfl rfl rfl rfl (by decide) ?_
  refine X.mv rfl rfl rfl rfl rfl ?_
  refine X.mv rfl rfl rfl rfl rfl ?_
  refine X.eqlT rfl rfl rfl rfl rfl rfl (by decide) ?_
  refine X.pickT rfl rfl rfl rfl rfl rfl ?_
  refine X.mv rfl rfl rfl rfl rfl ?_
  refine X.mv rfl rfl rfl rfl rfl ?_
  refine X.eqlT rfl rfl rfl rfl rfl rfl (by decide) ?_
  refine X.pickT rfl rfl rfl rfl rfl rfl ?_
  refine X.mv rfl rfl rfl rfl rfl ?_
  refine X.mv rfl rfl rfl rfl rfl ?_
  refine X.eqlT rfl rfl rfl rfl rfl rfl (by decide) ?_
  refine X.pickT rfl rfl rfl rfl rfl rfl ?_
  refine X.mv rfl rfl rfl rfl rfl ?_
  refine X.mv rfl rfl rfl rfl rfl ?_
  refine X.eqlT rfl rfl rfl rfl rfl rfl (by decide) ?_
  refine X.pickT rfl rfl rfl rfl rfl rfl ?_
  refine X.mv rfl rfl rfl rfl rfl ?_
  refine X.mv rfl rfl rfl rfl rfl ?_
  refine X.eqlT rfl rfl rfl rfl rfl rfl (by decide) ?_
  refine X.pickT rfl rfl rfl rfl rfl rfl ?_
  refine X.mv rfl rfl rfl rfl rfl ?_
  refine X.mv rfl rfl rfl rfl rfl ?_
  refine X.eqlT rfl rfl rfl rfl rfl rfl (by decide) ?_
  refine X.pickT rfl rfl rfl rfl rfl rfl ?_
  refine X.mv rfl rfl rfl rfl rfl ?_
  refine X.mv rfl rfl rfl rfl rfl ?_
  refine X.call rfl rfl rfl rfl rfl Try.cl16 (text_ct p _ _ _ H8 M8.wr (by decide)) ?_
  rintro _ H9 ⟨rfl, hk9⟩
  have M9 := M8.keep hk9 (by simp) (by simp)
  refine X.eqlST rfl rfl rfl rfl rfl rfl (by decide) ?_
  refine X.pickT rfl rfl rfl rfl rfl rfl ?_
  refine X.mv rfl rfl rfl rfl rfl ?_
  refine X.mv rfl rfl rfl rfl rfl ?_
  refine X.call rfl rfl rfl rfl rfl Try.cl20 (wlen_ct p _ _ _ H9 M9.wr (by decide)) ?_
  rintro _ H10 ⟨rfl, eH10⟩
  obtain rfl := eH10.symm
  refine X.eqlT rfl rfl rfl rfl rfl rfl (by decide) ?_
  refine X.pickT rfl rfl rfl rfl rfl rfl ?_
  refine X.mv rfl rfl rfl rfl rfl ?_
  refine X.call rfl rfl rfl rfl rfl Try.cl9 (turn_ct 1 3 H9) ?_
  rintro _ H11 ⟨rfl, eH11⟩
  obtain rfl := eH11.symm
  refine X.eqlT rfl rfl rfl rfl rfl rfl (by decide) ?_
  refine X.pickT rfl rfl rfl rfl rfl rfl ?_
  refine X.asg rfl rfl rfl rfl rfl ?_
  refine X.done [(0, _)] ⟨rfl, trivial⟩ ?_
  refine N.then ?_
  refine E.ret ?_
  exact N.retH [_] ⟨_, _, rfl, rfl, rfl⟩ ⟨rfl, M9.kp⟩

theorem turns0 (v n : Int) (H : Heap) (hn : n < 0) : Ct Try.prog 3 #[i64 v, i64 n] H fun u H' => u = .bool true ∧ Kp [] H H' := by
  refine Ct.into 38 Try.func3 rfl [(0, i64 v), (1, i64 n)] rfl ⟨rfl, rfl, trivial⟩ ?_
  refine E.seq ?_
  refine E.region ?_
  refine X.asg rfl rfl rfl rfl rfl ?_
  refine X.done [(0, _), (1, _), (4, _)] ⟨rfl, rfl, rfl, trivial⟩ ?_
  refine N.then ?_
  refine E.seq ?_
  refine E.region ?_
  refine X.mv rfl rfl rfl rfl rfl ?_
  refine X.mv rfl rfl rfl rfl rfl ?_
  refine X.call rfl rfl rfl rfl rfl Try.cl9 (turn_ct v n H) ?_
  rintro _ H1 ⟨rfl, eH1⟩
  obtain rfl := eH1.symm
  refine X.asg rfl rfl rfl rfl rfl ?_
  refine X.done [(0, _), (1, _), (4, _), (5, _)] ⟨rfl, rfl, rfl, rfl, trivial⟩ ?_
  refine N.then ?_
  refine E.seq ?_
  refine E.seq ?_
  refine E.region ?_
  refine X.mv rfl rfl rfl rfl rfl ?_
  refine X.mv rfl rfl rfl rfl rfl ?_
  refine X.mv rfl rfl rfl rfl rfl ?_
  refine X.call rfl rfl rfl rfl rfl Try.cl10 (rturn_ct v n H) ?_
  rintro _ H2 ⟨rfl, eH2⟩
  obtain rfl := eH2.symm
  refine X.neqF rfl rfl rfl rfl rfl rfl (fun h => h rfl) ?_
  refine X.done [(0, _), (1, _), (4, _), (5, _), (13, _)] ⟨rfl, rfl, rfl, rfl, rfl, trivial⟩ ?_
  refine N.then ?_
  refine E.condF rfl ?_
  refine E.skip ?_
  refine N.then ?_
  refine E.seq ?_
  refine E.seq ?_
  refine E.region ?_
  refine X.mv rfl rfl rfl rfl rfl ?_
  refine X.lssT rfl rfl rfl rfl rfl rfl (by omega) ?_
  refine X.mv rfl rfl rfl rfl rfl ?_
  refine X.skip rfl rfl rfl ?_
  refine X.skip rfl rfl rfl ?_
  refine X.pickT rfl rfl rfl rfl rfl rfl ?_
  refine X.done [(0, _), (1, _), (4, _), (5, _), (19, _)] ⟨rfl, rfl, rfl, rfl, rfl, trivial⟩ ?_
  refine N.then ?_
  refine E.condT rfl ?_
  refine E.seq ?_
  refine E.region ?_
  refine X.mv rfl rfl rfl rfl rfl ?_
  refine X.eqlT rfl rfl rfl rfl rfl rfl (by unfold turnV; rw [if_neg (by omega)]; rfl) ?_
  refine X.mv rfl rfl rfl rfl rfl ?_
  refine X.call rfl rfl rfl rfl rfl Try.cl11 (known_ct H) ?_
  rintro _ HK ⟨rfl, hkK⟩
  refine X.pickT rfl rfl rfl rfl rfl rfl ?_
  refine X.asg rfl rfl rfl rfl rfl ?_
  refine X.done [(0, _), (1, _), (4, _), (5, _)] ⟨rfl, rfl, rfl, rfl, trivial⟩ ?_
  refine N.then ?_
  refine E.ret ?_
  refine N.thenR ?_
  exact N.retH [_] ⟨_, _, rfl, rfl, rfl⟩ ⟨rfl, hkK⟩

theorem turns1 (v n : Int) (H : Heap) (hn : 32 < n) : Ct Try.prog 3 #[i64 v, i64 n] H fun u H' => u = .bool true ∧ Kp [] H H' := by
  refine Ct.into 38 Try.func3 rfl [(0, i64 v), (1, i64 n)] rfl ⟨rfl, rfl, trivial⟩ ?_
  refine E.seq ?_
  refine E.region ?_
  refine X.asg rfl rfl rfl rfl rfl ?_
  refine X.done [(0, _), (1, _), (4, _)] ⟨rfl, rfl, rfl, trivial⟩ ?_
  refine N.then ?_
  refine E.seq ?_
  refine E.region ?_
  refine X.mv rfl rfl rfl rfl rfl ?_
  refine X.mv rfl rfl rfl rfl rfl ?_
  refine X.call rfl rfl rfl rfl rfl Try.cl9 (turn_ct v n H) ?_
  rintro _ H1 ⟨rfl, eH1⟩
  obtain rfl := eH1.symm
  refine X.asg rfl rfl rfl rfl rfl ?_
  refine X.done [(0, _), (1, _), (4, _), (5, _)] ⟨rfl, rfl, rfl, rfl, trivial⟩ ?_
  refine N.then ?_
  refine E.seq ?_
  refine E.seq ?_
  refine E.region ?_
  refine X.mv rfl rfl rfl rfl rfl ?_
  refine X.mv rfl rfl rfl rfl rfl ?_
  refine X.mv rfl rfl rfl rfl rfl ?_
  refine X.call rfl rfl rfl rfl rfl Try.cl10 (rturn_ct v n H) ?_
  rintro _ H2 ⟨rfl, eH2⟩
  obtain rfl := eH2.symm
  refine X.neqF rfl rfl rfl rfl rfl rfl (fun h => h rfl) ?_
  refine X.done [(0, _), (1, _), (4, _), (5, _), (13, _)] ⟨rfl, rfl, rfl, rfl, rfl, trivial⟩ ?_
  refine N.then ?_
  refine E.condF rfl ?_
  refine E.skip ?_
  refine N.then ?_
  refine E.seq ?_
  refine E.seq ?_
  refine E.region ?_
  refine X.mv rfl rfl rfl rfl rfl ?_
  refine X.lssF rfl rfl rfl rfl rfl rfl (by omega) ?_
  refine X.mv rfl rfl rfl rfl rfl ?_
  refine X.mv rfl rfl rfl rfl rfl ?_
  refine X.gtrT rfl rfl rfl rfl rfl rfl (by omega) ?_
  refine X.pickF rfl rfl rfl rfl rfl rfl ?_
  refine X.done [(0, _), (1, _), (4, _), (5, _), (19, _)] ⟨rfl, rfl, rfl, rfl, rfl, trivial⟩ ?_
  refine N.then ?_
  refine E.condT rfl ?_
  refine E.seq ?_
  refine E.region ?_
  refine X.mv rfl rfl rfl rfl rfl ?_
  refine X.eqlT rfl rfl rfl rfl rfl rfl (by unfold turnV; rw [if_neg (by omega)]; rfl) ?_
  refine X.mv rfl rfl rfl rfl rfl ?_
  refine X.call rfl rfl rfl rfl rfl Try.cl11 (known_ct H) ?_
  rintro _ HK ⟨rfl, hkK⟩
  refine X.pickT rfl rfl rfl rfl rfl rfl ?_
  refine X.asg rfl rfl rfl rfl rfl ?_
  refine X.done [(0, _), (1, _), (4, _), (5, _)] ⟨rfl, rfl, rfl, rfl, trivial⟩ ?_
  refine N.then ?_
  refine E.ret ?_
  refine N.thenR ?_
  exact N.retH [_] ⟨_, _, rfl, rfl, rfl⟩ ⟨rfl, hkK⟩

theorem turns2 (v : Int) (n : Nat) (H : Heap) (hn : n ≤ 32) : Ct Try.prog 3 #[i64 v, i64 n] H fun u H' => u = .bool true ∧ Kp [] H H' := by
  obtain ⟨t, ht⟩ : ∃ t, turnV v n = t := ⟨_, rfl⟩
  have hz : t = turn (v % 18446744073709551616).toNat n := by rw [← ht]; unfold turnV; rw [if_pos (by omega)]; rfl
  have htl := turn_lt (v % 18446744073709551616).toNat n
  rw [← hz] at htl
  have hpn : 2 ^ n ≤ 2 ^ 32 := Nat.pow_le_pow_right (by omega) hn
  have htt : turnV t n = turn t n := turnV_of t n (by omega) hn
  have hp1 := Nat.two_pow_pos n
  have eN : ((2 ^ n : Nat) : Int) = 1 * 2 ^ n := by simp
  have bN : 0 ≤ (1 : Int) * 2 ^ n ∧ (1 : Int) * 2 ^ n ≤ 4294967296 := by rw [← eN]; exact ⟨Int.natCast_nonneg _, Int.ofNat_le.2 hpn⟩
  have hfin : ((turn t n : Nat) : Int) = v % 2 ^ n := by
    rw [hz, turn_turn, Int.natCast_emod, Int.toNat_of_nonneg (Int.emod_nonneg _ (by decide))]
    have hd : ((2 ^ n : Nat) : Int) ∣ 18446744073709551616 := by
      have : (2 ^ n : Nat) ∣ 2 ^ 64 := Nat.pow_dvd_pow 2 (by omega)
      exact Int.ofNat_dvd.2 this
    rw [Int.emod_emod_of_dvd _ hd]; simp
  refine Ct.into 38 Try.func3 rfl [(0, i64 v), (1, i64 n)] rfl ⟨rfl, rfl, trivial⟩ ?_
  refine E.seq ?_
  refine E.region ?_
  refine X.asg rfl rfl rfl rfl rfl ?_
  refine X.done [(0, _), (1, _), (4, _)] ⟨rfl, rfl, rfl, trivial⟩ ?_
  refine N.then ?_
  refine E.seq ?_
  refine E.region ?_
  refine X.mv rfl rfl rfl rfl rfl ?_
  refine X.mv rfl rfl rfl rfl rfl ?_
  refine X.call rfl rfl rfl rfl rfl Try.cl9 (turn_ct v n H) ?_
  rintro _ H1 ⟨rfl, eH1⟩
  obtain rfl := eH1.symm
  rw [ht]
  refine X.asg rfl rfl rfl rfl rfl ?_
  refine X.done [(0, _), (1, _), (4, _), (5, _)] ⟨rfl, rfl, rfl, rfl, trivial⟩ ?_
  refine N.then ?_
  refine E.seq ?_
  refine E.seq ?_
  refine E.region ?_
  refine X.mv rfl rfl rfl rfl rfl ?_
  refine X.mv rfl rfl rfl rfl rfl ?_
  refine X.mv rfl rfl rfl rfl rfl ?_
  refine X.call rfl rfl rfl rfl rfl Try.cl10 (rturn_ct v n H) ?_
  rintro _ H2 ⟨rfl, eH2⟩
  obtain rfl := eH2.symm
  rw [ht]
  refine X.neqF rfl rfl rfl rfl rfl rfl (fun h => h rfl) ?_
  refine X.done [(0, _), (1, _), (4, _), (5, _), (13, _)] ⟨rfl, rfl, rfl, rfl, rfl, trivial⟩ ?_
  refine N.then ?_
  refine E.condF rfl ?_
  refine E.skip ?_
  refine N.then ?_
  refine E.seq ?_
  refine E.seq ?_
  refine E.region ?_
  refine X.mv rfl rfl rfl rfl rfl ?_
  refine X.lssF rfl rfl rfl rfl rfl rfl (by omega) ?_
  refine X.mv rfl rfl rfl rfl rfl ?_
  refine X.mv rfl rfl rfl rfl rfl ?_
  refine X.gtrF rfl rfl rfl rfl rfl rfl (by omega) ?_
  refine X.pickF rfl rfl rfl rfl rfl rfl ?_
  refine X.done [(0, _), (1, _), (4, _), (5, _), (19, _)] ⟨rfl, rfl, rfl, rfl, rfl, trivial⟩ ?_
  refine N.then ?_
  refine E.condF rfl ?_
  refine E.skip ?_
  refine N.then ?_
  refine E.seq ?_
  refine E.region ?_
  refine X.mv rfl rfl rfl rfl rfl ?_
  refine X.mv rfl rfl rfl rfl rfl ?_
  refine X.call rfl rfl rfl rfl rfl Try.cl9 (turn_ct t n H) ?_
  rintro _ H3 ⟨rfl, eH3⟩
  obtain rfl := eH3.symm
  rw [htt]
  refine X.mv rfl rfl rfl rfl rfl ?_
  refine X.mv rfl rfl rfl rfl rfl ?_
  refine X.convE (zz := (n : Int)) rfl rfl rfl rfl rfl Try.underlying24 Try.us3 (IntWalk.u64_in _ (by omega)) ?_
  refine X.shlE (zz := ((2 ^ n : Nat) : Int)) rfl rfl rfl rfl rfl rfl (by omega) (by rw [eN]; exact shlN rfl (by omega) (by omega) (by omega)) ?_
  refine X.sbE (zz := ((2 ^ n - 1 : Nat) : Int)) rfl rfl rfl rfl rfl rfl (by rw [IntWalk.i64_in _ (by omega)] <;> omega) ?_
  refine X.bandE (zz := v % 2 ^ n) rfl rfl rfl rfl rfl rfl (andI (by rw [Int.natCast_sub hp1]; simp) (by omega)) ?_
  refine X.eqlT rfl rfl rfl rfl rfl rfl (hfin) ?_
  refine X.mv rfl rfl rfl rfl rfl ?_
  refine X.call rfl rfl rfl rfl rfl Try.cl11 (known_ct H) ?_
  rintro _ HK ⟨rfl, hkK⟩
  refine X.pickT rfl rfl rfl rfl rfl rfl ?_
  refine X.asg rfl rfl rfl rfl rfl ?_
  refine X.done [(4, _)] ⟨rfl, trivial⟩ ?_
  refine N.then ?_
  refine E.ret ?_
  exact N.retH [_] ⟨_, _, rfl, rfl, rfl⟩ ⟨rfl, hkK⟩


theorem turns_ct (v n : Int) (H : Heap) : Ct Try.prog 3 #[i64 v, i64 n] H fun u H' => u = .bool true ∧ Kp [] H H' := by
  by_cases h0 : n < 0
  · exact turns0 v n H h0
  · by_cases h1 : 32 < n
    · exact turns1 v n H h1
    · obtain ⟨m, rfl⟩ := Int.eq_ofNat_of_zero_le (show 0 ≤ n by omega)
      exact turns2 v m H (by omega)

theorem ralignN_ct (H : Heap) : Ct Try.prog 35 #[.pointer none] H fun u H' => u = .tuple #[] ∧ H' = H := by
  refine Ct.into 15 Try.func35 rfl [(0, .pointer none)] rfl ⟨rfl, trivial⟩ ?_
  refine E.seq ?_
  refine E.region ?_
  refine X.mv rfl rfl rfl rfl rfl ?_
  refine X.call rfl rfl rfl rfl rfl Try.cl44 (thereN_ct H) ?_
  rintro _ H1 ⟨rfl, eH1⟩
  obtain rfl := eH1.symm
  refine X.done [(0, _), (3, _)] ⟨rfl, rfl, trivial⟩ ?_
  refine N.then ?_
  refine E.condF rfl ?_
  refine E.skip ?_
  exact N.endH [] rfl ⟨rfl, rfl⟩

theorem rbytesN_ct (n : Int) (H : Heap) : Ct Try.prog 37 #[.pointer none, i64 n] H fun u H' => u = .tuple #[str [], i64 25] ∧ H' = H := by
  refine Ct.into 51 Try.func37 rfl [(0, .pointer none), (1, i64 n)] rfl ⟨rfl, rfl, trivial⟩ ?_
  refine E.seq ?_
  refine E.region ?_
  refine X.asg rfl rfl rfl rfl rfl ?_
  refine X.asg rfl rfl rfl rfl rfl ?_
  refine X.done [(0, _), (1, _), (4, _), (5, _)] ⟨rfl, rfl, rfl, rfl, trivial⟩ ?_
  refine N.then ?_
  refine E.seq ?_
  refine E.block ?_
  refine E.seq ?_
  refine E.region ?_
  refine X.mv rfl rfl rfl rfl rfl ?_
  refine X.call rfl rfl rfl rfl rfl Try.cl44 (thereN_ct H) ?_
  rintro _ H1 ⟨rfl, eH1⟩
  obtain rfl := eH1.symm
  refine X.notF rfl rfl rfl rfl rfl ?_
  refine X.asg rfl rfl rfl rfl rfl ?_
  refine X.done [(0, _), (1, _), (4, _), (5, _), (7, _)] ⟨rfl, rfl, rfl, rfl, rfl, trivial⟩ ?_
  refine N.then ?_
  refine E.condT rfl ?_
  refine E.seq ?_
  refine E.region ?_
  refine X.asg rfl rfl rfl rfl rfl ?_
  refine X.asg rfl rfl rfl rfl rfl ?_
  refine X.done [(0, _), (1, _), (4, _), (5, _)] ⟨rfl, rfl, rfl, rfl, trivial⟩ ?_
  refine N.then ?_
  refine E.ret ?_
  refine N.blkR ?_
  refine N.thenR ?_
  exact N.retH [_, _] ⟨_, _, rfl, rfl, _, _, rfl, rfl, rfl⟩ ⟨rfl, rfl⟩

theorem copyN_ct (H : Heap) : Ct Try.prog 39 #[.pointer none] H fun u H' => u = .pointer none ∧ H' = H := by
  refine Ct.into 10 Try.func39 rfl [(0, .pointer none)] rfl ⟨rfl, trivial⟩ ?_
  refine E.seq ?_
  refine E.region ?_
  refine X.asg rfl rfl rfl rfl rfl ?_
  refine X.done [(0, _), (2, _)] ⟨rfl, rfl, trivial⟩ ?_
  refine N.then ?_
  refine E.seq ?_
  refine E.seq ?_
  refine E.region ?_
  refine X.mv rfl rfl rfl rfl rfl ?_
  refine X.call rfl rfl rfl rfl rfl Try.cl44 (thereN_ct H) ?_
  rintro _ H1 ⟨rfl, eH1⟩
  obtain rfl := eH1.symm
  refine X.notF rfl rfl rfl rfl rfl ?_
  refine X.done [(0, _), (2, _), (6, _)] ⟨rfl, rfl, rfl, trivial⟩ ?_
  refine N.then ?_
  refine E.condT rfl ?_
  refine E.seq ?_
  refine E.region ?_
  refine X.asg rfl rfl rfl rfl rfl ?_
  refine X.done [(0, _), (2, _)] ⟨rfl, rfl, trivial⟩ ?_
  refine N.then ?_
  refine E.ret ?_
  refine N.thenR ?_
  exact N.retH [_] ⟨_, _, rfl, rfl, rfl⟩ ⟨rfl, rfl⟩

theorem nil_ct (n : Int) (s : Bs) (H : Heap) : Ct Try.prog 8 #[i64 n, str s] H fun u H' => u = .bool true ∧ Kp [] H H' := by
  refine Ct.into 113 Try.func8 rfl [(0, i64 n), (1, str s)] rfl ⟨rfl, rfl, trivial⟩ ?_
  refine E.seq ?_
  refine E.region ?_
  refine X.asg rfl rfl rfl rfl rfl ?_
  refine X.done [(0, _), (1, _), (4, _)] ⟨rfl, rfl, rfl, trivial⟩ ?_
  refine N.then ?_
  refine E.seq ?_
  refine E.region ?_
  refine X.asg rfl rfl rfl rfl rfl ?_
  refine X.done [(0, _), (1, _), (4, _), (5, _)] ⟨rfl, rfl, rfl, rfl, trivial⟩ ?_
  refine N.then ?_
  refine E.seq ?_
  refine E.region ?_
  refine X.asg rfl rfl rfl rfl rfl ?_
  refine X.done [(0, _), (1, _), (4, _), (5, _), (6, _)] ⟨rfl, rfl, rfl, rfl, rfl, trivial⟩ ?_
  refine N.then ?_
  refine E.seq ?_
  refine E.region ?_
  refine X.build (v := .agg ([Value.bool false, .slice none 0 0, .int .u64 0, .int .i64 0] : List Value).toArray) rfl rfl rfl rfl rfl (fun _ => by kernel_rfl) ?_
  refine X.box rfl rfl rfl rfl rfl rfl ?_
  intro b13 H13 hn13 hb13 hk13
  refine X.asg rfl rfl rfl rfl rfl ?_
  refine X.done [(0, _), (1, _), (4, _), (5, _), (6, _), (7, _)] ⟨rfl, rfl, rfl, rfl, rfl, rfl, trivial⟩ ?_
  refine N.then ?_
  refine E.seq ?_
  refine E.region ?_
  refine X.mv rfl rfl rfl rfl rfl ?_
  refine X.call rfl rfl rfl rfl rfl Try.cl35 (ralignN_ct H13) ?_
  rintro _ H9 ⟨rfl, eH9⟩
  obtain rfl := eH9.symm
  refine X.done [(0, _), (1, _), (4, _), (5, _), (6, _), (7, _)] ⟨rfl, rfl, rfl, rfl, rfl, rfl, trivial⟩ ?_
  refine N.then ?_
  refine E.seq ?_
  refine E.region ?_
  refine X.mv rfl rfl rfl rfl rfl ?_
  refine X.call rfl rfl rfl rfl rfl Try.cl25 (alignN_ct _ H13 (wthereN_ct H13)) ?_
  rintro _ H9 ⟨rfl, eH9⟩
  obtain rfl := eH9.symm
  refine X.done [(0, _), (1, _), (4, _), (5, _), (6, _), (7, _)] ⟨rfl, rfl, rfl, rfl, rfl, rfl, trivial⟩ ?_
  refine N.then ?_
  refine E.seq ?_
  refine E.region ?_
  refine X.mv rfl rfl rfl rfl rfl ?_
  refine X.mv rfl rfl rfl rfl rfl ?_
  refine X.call rfl rfl rfl rfl rfl Try.cl27 (bytesN_ct _ H13 (wthereN_ct H13) _) ?_
  rintro _ H9 ⟨rfl, eH9⟩
  obtain rfl := eH9.symm
  refine X.done [(0, _), (1, _), (4, _), (5, _), (6, _), (7, _)] ⟨rfl, rfl, rfl, rfl, rfl, rfl, trivial⟩ ?_
  refine N.then ?_
  refine E.seq ?_
  refine E.region ?_
  refine X.mv rfl rfl rfl rfl rfl ?_
  refine X.mv rfl rfl rfl rfl rfl ?_
  refine X.call rfl rfl rfl rfl rfl Try.cl27 (bytesN_ct _ H13 (wthere0_ct b13 _ _ _ H13 hb13) _) ?_
  rintro _ H9 ⟨rfl, eH9⟩
  obtain rfl := eH9.symm
  refine X.done [(0, _), (4, _), (5, _), (6, _), (7, _)] ⟨rfl, rfl, rfl, rfl, rfl, trivial⟩ ?_
  refine N.then ?_
  refine E.seq ?_
  refine E.region ?_
  refine X.mv rfl rfl rfl rfl rfl ?_
  refine X.mv rfl rfl rfl rfl rfl ?_
  refine X.call rfl rfl rfl rfl rfl Try.cl18 (bitsN_ct n H13) ?_
  rintro _ H9 ⟨rfl, eH9⟩
  obtain rfl := eH9.symm
  refine X.mv rfl rfl rfl rfl rfl ?_
  refine X.extract rfl rfl rfl rfl rfl rfl ?_
  refine X.extract rfl rfl rfl rfl rfl rfl ?_
  refine X.asg rfl rfl rfl rfl rfl ?_
  refine X.asg rfl rfl rfl rfl rfl ?_
  refine X.done [(0, _), (4, _), (5, _), (6, _), (7, _), (9, _)] ⟨rfl, rfl, rfl, rfl, rfl, rfl, trivial⟩ ?_
  refine N.then ?_
  refine E.seq ?_
  refine E.region ?_
  refine X.mv rfl rfl rfl rfl rfl ?_
  refine X.mv rfl rfl rfl rfl rfl ?_
  refine X.call rfl rfl rfl rfl rfl Try.cl37 (rbytesN_ct n H13) ?_
  rintro _ H9 ⟨rfl, eH9⟩
  obtain rfl := eH9.symm
  refine X.mv rfl rfl rfl rfl rfl ?_
  refine X.extract rfl rfl rfl rfl rfl rfl ?_
  refine X.extract rfl rfl rfl rfl rfl rfl ?_
  refine X.asg rfl rfl rfl rfl rfl ?_
  refine X.asg rfl rfl rfl rfl rfl ?_
  refine X.done [(0, _), (4, _), (5, _), (6, _), (7, _), (9, _), (11, _)] ⟨rfl, rfl, rfl, rfl, rfl, rfl, rfl, trivial⟩ ?_
  refine N.then ?_
  refine E.seq ?_
  refine E.region ?_
  refine X.mv rfl rfl rfl rfl rfl ?_
  refine X.eqlT rfl rfl rfl rfl rfl rfl (rfl) ?_
  refine X.mv rfl rfl rfl rfl rfl ?_
  refine X.mv rfl rfl rfl rfl rfl ?_
  refine X.eqlT rfl rfl rfl rfl rfl rfl (rfl) ?_
  refine X.pickT rfl rfl rfl rfl rfl rfl ?_
  refine X.mv rfl rfl rfl rfl rfl ?_
  refine X.mv rfl rfl rfl rfl rfl ?_
  refine X.mv rfl rfl rfl rfl rfl ?_
  refine X.call rfl rfl rfl rfl rfl Try.cl17 (peekN_ct n H13) ?_
  rintro _ H9 ⟨rfl, eH9⟩
  obtain rfl := eH9.symm
  refine X.eqlT rfl rfl rfl rfl rfl rfl (rfl) ?_
  refine X.pickT rfl rfl rfl rfl rfl rfl ?_
  refine X.mv rfl rfl rfl rfl rfl ?_
  refine X.mv rfl rfl rfl rfl rfl ?_
  refine X.mv rfl rfl rfl rfl rfl ?_
  refine X.call rfl rfl rfl rfl rfl Try.cl33 (skipN_ct n H13) ?_
  rintro _ H9 ⟨rfl, eH9⟩
  obtain rfl := eH9.symm
  refine X.eqlT rfl rfl rfl rfl rfl rfl (rfl) ?_
  refine X.pickT rfl rfl rfl rfl rfl rfl ?_
  refine X.mv rfl rfl rfl rfl rfl ?_
  refine X.mv rfl rfl rfl rfl rfl ?_
  refine X.call rfl rfl rfl rfl rfl Try.cl19 (atN_ct H13) ?_
  rintro _ H9 ⟨rfl, eH9⟩
  obtain rfl := eH9.symm
  refine X.eqlT rfl rfl rfl rfl rfl rfl (rfl) ?_
  refine X.pickT rfl rfl rfl rfl rfl rfl ?_
  refine X.mv rfl rfl rfl rfl rfl ?_
  refine X.mv rfl rfl rfl rfl rfl ?_
  refine X.call rfl rfl rfl rfl rfl Try.cl21 (leftN_ct H13) ?_
  rintro _ H9 ⟨rfl, eH9⟩
  obtain rfl := eH9.symm
  refine X.eqlT rfl rfl rfl rfl rfl rfl (rfl) ?_
  refine X.pickT rfl rfl rfl rfl rfl rfl ?_
  refine X.mv rfl rfl rfl rfl rfl ?_
  refine X.mv rfl rfl rfl rfl rfl ?_
  refine X.call rfl rfl rfl rfl rfl Try.cl39 (copyN_ct H13) ?_
  rintro _ H9 ⟨rfl, eH9⟩
  obtain rfl := eH9.symm
  refine X.eqlP0 rfl rfl rfl rfl rfl rfl Try.underlying33 ?_
  refine X.pickT rfl rfl rfl rfl rfl rfl ?_
  refine X.mv rfl rfl rfl rfl rfl ?_
  refine X.mv rfl rfl rfl rfl rfl ?_
  refine X.mv rfl rfl rfl rfl rfl ?_
  refine X.mv rfl rfl rfl rfl rfl ?_
  refine X.call rfl rfl rfl rfl rfl Try.cl13 (putN_ct _ H13 (wthereN_ct H13) n n) ?_
  rintro _ H9 ⟨rfl, eH9⟩
  obtain rfl := eH9.symm
  refine X.eqlT rfl rfl rfl rfl rfl rfl (rfl) ?_
  refine X.pickT rfl rfl rfl rfl rfl rfl ?_
  refine X.mv rfl rfl rfl rfl rfl ?_
  refine X.mv rfl rfl rfl rfl rfl ?_
  refine X.mv rfl rfl rfl rfl rfl ?_
  refine X.mv rfl rfl rfl rfl rfl ?_
  refine X.call rfl rfl rfl rfl rfl Try.cl13 (putN_ct _ H13 (wthere0_ct b13 _ _ _ H13 hb13) n n) ?_
  rintro _ H9 ⟨rfl, eH9⟩
  obtain rfl := eH9.symm
  refine X.eqlT rfl rfl rfl rfl rfl rfl (rfl) ?_
  refine X.pickT rfl rfl rfl rfl rfl rfl ?_
  refine X.mv rfl rfl rfl rfl rfl ?_
  refine X.mv rfl rfl rfl rfl rfl ?_
  refine X.mv rfl rfl rfl rfl rfl ?_
  refine X.mv rfl rfl rfl rfl rfl ?_
  refine X.call rfl rfl rfl rfl rfl Try.cl14 (codeN_ct _ H13 (wthereN_ct H13) n n) ?_
  rintro _ H9 ⟨rfl, eH9⟩
  obtain rfl := eH9.symm
  refine X.eqlT rfl rfl rfl rfl rfl rfl (rfl) ?_
  refine X.pickT rfl rfl rfl rfl rfl rfl ?_
  refine X.mv rfl rfl rfl rfl rfl ?_
  refine X.mv rfl rfl rfl rfl rfl ?_
  refine X.call rfl rfl rfl rfl rfl Try.cl20 (wlenN_ct _ H13 (wthereN_ct H13)) ?_
  rintro _ H9 ⟨rfl, eH9⟩
  obtain rfl := eH9.symm
  refine X.eqlT rfl rfl rfl rfl rfl rfl (rfl) ?_
  refine X.pickT rfl rfl rfl rfl rfl rfl ?_
  refine X.mv rfl rfl rfl rfl rfl ?_
  refine X.mv rfl rfl rfl rfl rfl ?_
  refine X.call rfl rfl rfl rfl rfl Try.cl20 (wlenN_ct _ H13 (wthere0_ct b13 _ _ _ H13 hb13)) ?_
  rintro _ H9 ⟨rfl, eH9⟩
  obtain rfl := eH9.symm
  refine X.eqlT rfl rfl rfl rfl rfl rfl (rfl) ?_
  refine X.pickT rfl rfl rfl rfl rfl rfl ?_
  refine X.mv rfl rfl rfl rfl rfl ?_
  refine X.mv rfl rfl rfl rfl rfl ?_
  refine X.call rfl rfl rfl rfl rfl Try.cl16 (textN_ct _ H13 (wthereN_ct H13)) ?_
  rintro _ H9 ⟨rfl, eH9⟩
  obtain rfl := eH9.symm
  refine X.eqlST rfl rfl rfl rfl rfl rfl (rfl) ?_
  refine X.pickT rfl rfl rfl rfl rfl rfl ?_
  refine X.mv rfl rfl rfl rfl rfl ?_
  refine X.mv rfl rfl rfl rfl rfl ?_
  refine X.call rfl rfl rfl rfl rfl Try.cl16 (textN_ct _ H13 (wthere0_ct b13 _ _ _ H13 hb13)) ?_
  rintro _ H9 ⟨rfl, eH9⟩
  obtain rfl := eH9.symm
  refine X.eqlST rfl rfl rfl rfl rfl rfl (rfl) ?_
  refine X.pickT rfl rfl rfl rfl rfl rfl ?_
  refine X.mv rfl rfl rfl rfl rfl ?_
  refine X.call rfl rfl rfl rfl rfl Try.cl11 (known_ct H13) ?_
  rintro _ HK ⟨rfl, hkK⟩
  refine X.pickT rfl rfl rfl rfl rfl rfl ?_
  refine X.asg rfl rfl rfl rfl rfl ?_
  refine X.done [(4, _)] ⟨rfl, trivial⟩ ?_
  refine N.then ?_
  refine E.ret ?_
  exact N.retH [_] ⟨_, _, rfl, rfl, rfl⟩ ⟨rfl, hk13.trans hkK (by simp)⟩

end Go.Proofs.Ytpengkmmgpoofaa