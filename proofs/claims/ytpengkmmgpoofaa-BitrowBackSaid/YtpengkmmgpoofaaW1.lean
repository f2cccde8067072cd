/- The walks of the reader's functions and of Turn. -/
import Derived.Test.YtpengkmmgpoofaaFacts
import Derived.Test.YtpengkmmgpoofaaN
namespace Go.Proofs.Ytpengkmmgpoofaa
open Go.SX Go.Bit
attribute [local irreducible] X E N Ct
set_option linter.unusedVariables false
abbrev i64 (x : Int) : Value := .int .i64 x
abbrev ptr (p : Nat) : Value := .pointer (some ⟨p, 0, none⟩)
abbrev str (s : Bs) : Value := .string ⟨s.toArray⟩
def Rdr (H : Heap) (p : Nat) (s : Bs) (at_ : Nat) : Prop := H[p]? = some (.cells [Value.bool true, str s, i64 at_].toArray 70 (0, 0))
def Rrf (H : Heap) (p : Nat) (s : Bs) (at_ : Nat) : Prop := H[p]? = some (.cells [str s, i64 at_].toArray 60 (0, 0))

theorem num_snoc (s : Bs) (k : Nat) (c : UInt8) (h : s[k]? = some c) : num (s.take (k + 1)) = num (s.take k) + 2 ^ (8 * k) * c.toNat := by
  have hk := (List.getElem?_eq_some_iff.1 h).1
  rw [List.take_add_one, h, Option.toList_some, num_app, List.length_take, Nat.min_eq_left (by omega)]; simp [num]
theorem or_shift {a c m : Nat} (h : a < 2 ^ m) : a ||| (c * 2 ^ m) = a + 2 ^ m * c := by
  rw [Nat.mul_comm c, Nat.or_comm, ← Nat.two_pow_add_eq_or_of_lt h]; omega
theorem num_take_lt (s : Bs) (k : Nat) : num (s.take k) < 2 ^ (8 * k) := by rw [num_take]; exact Nat.mod_lt _ (Nat.two_pow_pos _)
theorem peek_done (s : Bs) (at_ n k : Nat) (h : at_ % 8 + n ≤ 8 * k ∨ s.length ≤ at_ / 8 + k) : pk (num ((s.drop (at_ / 8)).take k)) (at_ % 8) n = pk (num s) at_ n := by
  rw [num_take, num_drop]
  by_cases h1 : at_ % 8 + n ≤ 8 * k
  · rw [pk_mod h1, pk_div]; congr 1; omega
  · have hl := num_lt s
    rw [Nat.mod_eq_of_lt, pk_div]
    · congr 1; omega
    · apply (Nat.div_lt_iff_lt_mul (Nat.two_pow_pos _)).2
      rw [← Nat.pow_add]
      exact Nat.lt_of_lt_of_le hl (Nat.pow_le_pow_right (by omega) (by omega))
theorem bit_of (s : Bs) (i : Nat) (c : UInt8) (h : s[i / 8]? = some c) : c.toNat / 2 ^ (i % 8) % 2 = num s / 2 ^ i % 2 := by
  rw [num_get h, show (256 : Nat) = 2 ^ 8 from rfl, mod_bit _ 8 _ (by omega), Nat.div_div_eq_div_mul, ← Nat.pow_add]; congr 3; omega
theorem bit_no (s : Bs) (i : Nat) (h : 8 * s.length ≤ i) : num s / 2 ^ i % 2 = 0 := by
  have hl := num_lt s
  rw [Nat.div_eq_of_lt (Nat.lt_of_lt_of_le hl (Nat.pow_le_pow_right (by omega) h))]
theorem u64_wrap (v : Int) : IntKind.u64.wrap v = ((v % 18446744073709551616).toNat : Int) := by
  rw [Int.toNat_of_nonneg (Int.emod_nonneg _ (by decide))]; rfl
theorem u32_wrap (v : Int) : IntKind.u32.wrap v = (((v % 18446744073709551616).toNat % 2 ^ 32 : Nat) : Int) := by
  have h := Int.toNat_of_nonneg (Int.emod_nonneg v (show (18446744073709551616 : Int) ≠ 0 by decide))
  rw [IntKind.wrap_u32, Int.natCast_emod, h]
  show v % 4294967296 = v % 18446744073709551616 % 4294967296
  omega
theorem tmod2 (a : Nat) : (a : Int).tmod 2 = ((a % 2 : Nat) : Int) := by rw [IntWalk.rem_in _ _ (by omega)]; omega
/-- What turning gives. -/
def turnV (v n : Int) : Nat := if 0 ≤ n ∧ n ≤ 32 then turn (v % 18446744073709551616).toNat n.toNat else 0
theorem turnV_of (x n : Nat) (hx : x < 2 ^ 62) (hn : n ≤ 32) : turnV x n = turn x n := by
  unfold turnV; rw [if_pos (by omega)]
  congr 1; omega

theorem many_ct (n : Int) (H : Heap) (h : 0 ≤ n ∧ n ≤ 32) : Ct Try.prog 41 #[i64 n] H fun v H' => v = .bool true ∧ H' = H := by
  refine Ct.into 9 Try.func41 rfl [(0, i64 n)] rfl ⟨rfl, trivial⟩ ?_
  refine E.seq ?_
  refine E.region ?_
  refine X.asg rfl rfl rfl rfl rfl ?_
  refine X.done [(0, _), (2, _)] ⟨rfl, rfl, trivial⟩ ?_
  refine N.then ?_
  refine E.seq ?_
  refine E.region ?_
  refine X.mv rfl rfl rfl rfl rfl ?_
  refine X.geqT rfl rfl rfl rfl rfl rfl (by omega) ?_
  refine X.mv rfl rfl rfl rfl rfl ?_
  refine X.mv rfl rfl rfl rfl rfl ?_
  refine X.leqT rfl rfl rfl rfl rfl rfl (by omega) ?_
  refine X.pickT rfl rfl rfl rfl rfl rfl ?_
  refine X.asg rfl rfl rfl rfl rfl ?_
  refine X.done [(2, _)] ⟨rfl, trivial⟩ ?_
  refine N.then ?_
  refine E.ret ?_
  exact N.retH [_] ⟨_, _, rfl, rfl, rfl⟩ ⟨rfl, rfl⟩

theorem many0_ct (n : Int) (H : Heap) (h : n < 0) : Ct Try.prog 41 #[i64 n] H fun v H' => v = .bool false ∧ H' = H := by
  refine Ct.into 9 Try.func41 rfl [(0, i64 n)] rfl ⟨rfl, trivial⟩ ?_
  refine E.seq ?_
  refine E.region ?_
  refine X.asg rfl rfl rfl rfl rfl ?_
  refine X.done [(0, _), (2, _)] ⟨rfl, rfl, trivial⟩ ?_
  refine N.then ?_
  refine E.seq ?_
  refine E.region ?_
  refine X.mv rfl rfl rfl rfl rfl ?_
  refine X.geqF rfl rfl rfl rfl rfl rfl (by omega) ?_
  refine X.mv rfl rfl rfl rfl rfl ?_
  refine X.skip rfl rfl rfl ?_
  refine X.skip rfl rfl rfl ?_
  refine X.pickF rfl rfl rfl rfl rfl rfl ?_
  refine X.asg rfl rfl rfl rfl rfl ?_
  refine X.done [(2, _)] ⟨rfl, trivial⟩ ?_
  refine N.then ?_
  refine E.ret ?_
  exact N.retH [_] ⟨_, _, rfl, rfl, rfl⟩ ⟨rfl, rfl⟩

theorem many1_ct (n : Int) (H : Heap) (h : 32 < n) : Ct Try.prog 41 #[i64 n] H fun v H' => v = .bool false ∧ H' = H := by
  refine Ct.into 9 Try.func41 rfl [(0, i64 n)] rfl ⟨rfl, trivial⟩ ?_
  refine E.seq ?_
  refine E.region ?_
  refine X.asg rfl rfl rfl rfl rfl ?_
  refine X.done [(0, _), (2, _)] ⟨rfl, rfl, trivial⟩ ?_
  refine N.then ?_
  refine E.seq ?_
  refine E.region ?_
  refine X.mv rfl rfl rfl rfl rfl ?_
  refine X.geqT rfl rfl rfl rfl rfl rfl (by omega) ?_
  refine X.mv rfl rfl rfl rfl rfl ?_
  refine X.mv rfl rfl rfl rfl rfl ?_
  refine X.leqF rfl rfl rfl rfl rfl rfl (by omega) ?_
  refine X.pickT rfl rfl rfl rfl rfl rfl ?_
  refine X.asg rfl rfl rfl rfl rfl ?_
  refine X.done [(2, _)] ⟨rfl, trivial⟩ ?_
  refine N.then ?_
  refine E.ret ?_
  exact N.retH [_] ⟨_, _, rfl, rfl, rfl⟩ ⟨rfl, rfl⟩

theorem manyF_ct (n : Int) (H : Heap) (h : n < 0 ∨ 32 < n) : Ct Try.prog 41 #[i64 n] H fun v H' => v = .bool false ∧ H' = H := by
  rcases h with h | h
  · exact many0_ct n H h
  · exact many1_ct n H h

theorem there_ct (p : Nat) (s : Bs) (at_ : Nat) (H : Heap) (hR : Rdr H p s at_) : Ct Try.prog 44 #[ptr p] H fun v H' => v = .bool true ∧ H' = H := by
  refine Ct.into 11 Try.func44 rfl [(0, ptr p)] rfl ⟨rfl, trivial⟩ ?_
  refine E.seq ?_
  refine E.region ?_
  refine X.asg rfl rfl rfl rfl rfl ?_
  refine X.done [(0, _), (2, _)] ⟨rfl, rfl, trivial⟩ ?_
  refine N.then ?_
  refine E.seq ?_
  refine E.region ?_
  refine X.mv rfl rfl rfl rfl rfl ?_
  refine X.neqP1 rfl rfl rfl rfl rfl rfl Try.underlying33 ?_
  refine X.mv rfl rfl rfl rfl rfl ?_
  refine X.mv rfl rfl rfl rfl rfl ?_
  refine X.nilP rfl rfl rfl rfl rfl ?_
  refine X.fld rfl rfl rfl rfl rfl Try.off70_0 ?_
  refine X.ld rfl rfl rfl rfl Try.ag4 (hR) (rfl) ?_
  refine X.pickT rfl rfl rfl rfl rfl rfl ?_
  refine X.asg rfl rfl rfl rfl rfl ?_
  refine X.done [(2, _)] ⟨rfl, trivial⟩ ?_
  refine N.then ?_
  refine E.ret ?_
  exact N.retH [_] ⟨_, _, rfl, rfl, rfl⟩ ⟨rfl, rfl⟩

theorem thereN_ct (H : Heap) : Ct Try.prog 44 #[.pointer none] H fun v H' => v = .bool false ∧ H' = H := by
  refine Ct.into 11 Try.func44 rfl [(0, .pointer none)] rfl ⟨rfl, trivial⟩ ?_
  refine E.seq ?_
  refine E.region ?_
  refine X.asg rfl rfl rfl rfl rfl ?_
  refine X.done [(0, _), (2, _)] ⟨rfl, rfl, trivial⟩ ?_
  refine N.then ?_
  refine E.seq ?_
  refine E.region ?_
  refine X.mv rfl rfl rfl rfl rfl ?_
  refine X.neqP0 rfl rfl rfl rfl rfl rfl Try.underlying33 ?_
  refine X.mv rfl rfl rfl rfl rfl ?_
  refine X.skip rfl rfl rfl ?_
  refine X.skip rfl rfl rfl ?_
  refine X.skip rfl rfl rfl ?_
  refine X.skip rfl rfl rfl ?_
  refine X.pickF rfl rfl rfl rfl rfl rfl ?_
  refine X.asg rfl rfl rfl rfl rfl ?_
  refine X.done [(2, _)] ⟨rfl, trivial⟩ ?_
  refine N.then ?_
  refine E.ret ?_
  exact N.retH [_] ⟨_, _, rfl, rfl, rfl⟩ ⟨rfl, rfl⟩

theorem at_ct (p : Nat) (s : Bs) (at_ : Nat) (H : Heap) (hR : Rdr H p s at_) (hl : s.length ≤ 100000 ∧ at_ ≤ 8 * s.length) : Ct Try.prog 19 #[ptr p] H fun v H' => v = i64 at_ ∧ H' = H := by
  refine Ct.into 10 Try.func19 rfl [(0, ptr p)] rfl ⟨rfl, trivial⟩ ?_
  refine E.seq ?_
  refine E.region ?_
  refine X.asg rfl rfl rfl rfl rfl ?_
  refine X.done [(0, _), (2, _)] ⟨rfl, rfl, trivial⟩ ?_
  refine N.then ?_
  refine E.seq ?_
  refine E.seq ?_
  refine E.region ?_
  refine X.mv rfl rfl rfl rfl rfl ?_
  refine X.call rfl rfl rfl rfl rfl Try.cl44 (there_ct p s at_ H hR) ?_
  rintro _ H1 ⟨rfl, eH1⟩
  obtain rfl := eH1.symm
  refine X.notT rfl rfl rfl rfl rfl ?_
  refine X.done [(0, _), (2, _), (5, _)] ⟨rfl, rfl, rfl, trivial⟩ ?_
  refine N.then ?_
  refine E.condF rfl ?_
  refine E.skip ?_
  refine N.then ?_
  refine E.seq ?_
  refine E.region ?_
  refine X.mv rfl rfl rfl rfl rfl ?_
  refine X.nilP rfl rfl rfl rfl rfl ?_
  refine X.fld rfl rfl rfl rfl rfl Try.off70_2 ?_
  refine X.ld rfl rfl rfl rfl Try.ag3 (hR) (rfl) ?_
  refine X.asg rfl rfl rfl rfl rfl ?_
  refine X.done [(2, _)] ⟨rfl, trivial⟩ ?_
  refine N.then ?_
  refine E.ret ?_
  exact N.retH [_] ⟨_, _, rfl, rfl, rfl⟩ ⟨rfl, rfl⟩

theorem atN_ct (H : Heap) : Ct Try.prog 19 #[.pointer none] H fun v H' => v = i64 0 ∧ H' = H := by
  refine Ct.into 10 Try.func19 rfl [(0, .pointer none)] rfl ⟨rfl, trivial⟩ ?_
  refine E.seq ?_
  refine E.region ?_
  refine X.asg rfl rfl rfl rfl rfl ?_
  refine X.done [(0, _), (2, _)] ⟨rfl, rfl, trivial⟩ ?_
  refine N.then ?_
  refine E.seq ?_
  refine E.seq ?_
  refine E.region ?_
  refine X.mv rfl rfl rfl rfl rfl ?_
  refine X.call rfl rfl rfl rfl rfl Try.cl44 (thereN_ct H) ?_
  rintro _ H1 ⟨rfl, eH1⟩
  obtain rfl := eH1.symm
  refine X.notF rfl rfl rfl rfl rfl ?_
  refine X.done [(0, _), (2, _), (5, _)] ⟨rfl, rfl, rfl, trivial⟩ ?_
  refine N.then ?_
  refine E.condT rfl ?_
  refine E.seq ?_
  refine E.region ?_
  refine X.asg rfl rfl rfl rfl rfl ?_
  refine X.done [(0, _), (2, _)] ⟨rfl, rfl, trivial⟩ ?_
  refine N.then ?_
  refine E.ret ?_
  refine N.thenR ?_
  exact N.retH [_] ⟨_, _, rfl, rfl, rfl⟩ ⟨rfl, rfl⟩

theorem left_ct (p : Nat) (s : Bs) (at_ : Nat) (H : Heap) (hR : Rdr H p s at_) (hl : s.length ≤ 100000 ∧ at_ ≤ 8 * s.length) : Ct Try.prog 21 #[ptr p] H fun v H' => v = i64 ((8 * s.length - at_ : Nat) : Int) ∧ H' = H := by
  refine Ct.into 17 Try.func21 rfl [(0, ptr p)] rfl ⟨rfl, trivial⟩ ?_
  refine E.seq ?_
  refine E.region ?_
  refine X.asg rfl rfl rfl rfl rfl ?_
  refine X.done [(0, _), (2, _)] ⟨rfl, rfl, trivial⟩ ?_
  refine N.then ?_
  refine E.seq ?_
  refine E.seq ?_
  refine E.region ?_
  refine X.mv rfl rfl rfl rfl rfl ?_
  refine X.call rfl rfl rfl rfl rfl Try.cl44 (there_ct p s at_ H hR) ?_
  rintro _ H1 ⟨rfl, eH1⟩
  obtain rfl := eH1.symm
  refine X.notT rfl rfl rfl rfl rfl ?_
  refine X.done [(0, _), (2, _), (5, _)] ⟨rfl, rfl, rfl, trivial⟩ ?_
  refine N.then ?_
  refine E.condF rfl ?_
  refine E.skip ?_
  refine N.then ?_
  refine E.seq ?_
  refine E.regionD (fun H' => Rdr H' p s at_) [(0, .pu), (1, .pu), (2, .pu), (3, .st), (4, .pu), (5, .pu), (6, .pu), (7, .pu), (8, .pu), (9, .st), (10, .pu), (11, .pu)] Try.mixed (by kernel_rfl) (hR) ?_
  refine X.mv rfl rfl rfl rfl rfl ?_
  refine X.nilP rfl rfl rfl rfl rfl ?_
  refine X.fld rfl rfl rfl rfl rfl Try.off70_1 ?_
  refine X.ld rfl rfl rfl rfl Try.ag9 (fun H' hF => hF) (rfl) ?_
  refine X.lenL rfl rfl rfl rfl rfl Try.underlying9 ?_
  refine X.mul rfl rfl rfl rfl rfl rfl (by omega) ?_
  refine X.mv rfl rfl rfl rfl rfl ?_
  refine X.nilP rfl rfl rfl rfl rfl ?_
  refine X.fld rfl rfl rfl rfl rfl Try.off70_2 ?_
  refine X.ld rfl rfl rfl rfl Try.ag3 (fun H' hF => hF) (rfl) ?_
  refine X.sbE (zz := ((8 * s.length - at_ : Nat) : Int)) rfl rfl rfl rfl rfl rfl (by rw [IntWalk.i64_in _ (by omega)] <;> omega) ?_
  refine X.asg rfl rfl rfl rfl rfl ?_
  refine X.done [(2, _)] ⟨rfl, trivial⟩ ?_
  refine N.then ?_
  refine E.ret ?_
  exact N.retH [_] ⟨_, _, rfl, rfl, rfl⟩ ⟨rfl, rfl⟩

theorem leftN_ct (H : Heap) : Ct Try.prog 21 #[.pointer none] H fun v H' => v = i64 0 ∧ H' = H := by
  refine Ct.into 17 Try.func21 rfl [(0, .pointer none)] rfl ⟨rfl, trivial⟩ ?_
  refine E.seq ?_
  refine E.region ?_
  refine X.asg rfl rfl rfl rfl rfl ?_
  refine X.done [(0, _), (2, _)] ⟨rfl, rfl, trivial⟩ ?_
  refine N.then ?_
  refine E.seq ?_
  refine E.seq ?_
  refine E.region ?_
  refine X.mv rfl rfl rfl rfl rfl ?_
  refine X.call rfl rfl rfl rfl rfl Try.cl44 (thereN_ct H) ?_
  rintro _ H1 ⟨rfl, eH1⟩
  obtain rfl := eH1.symm
  refine X.notF rfl rfl rfl rfl rfl ?_
  refine X.done [(0, _), (2, _), (5, _)] ⟨rfl, rfl, rfl, trivial⟩ ?_
  refine N.then ?_
  refine E.condT rfl ?_
  refine E.seq ?_
  refine E.region ?_
  refine X.asg rfl rfl rfl rfl rfl ?_
  refine X.done [(0, _), (2, _)] ⟨rfl, rfl, trivial⟩ ?_
  refine N.then ?_
  refine E.ret ?_
  refine N.thenR ?_
  exact N.retH [_] ⟨_, _, rfl, rfl, rfl⟩ ⟨rfl, rfl⟩

theorem peekN_ct (n : Int) (H : Heap) : Ct Try.prog 17 #[.pointer none, i64 n] H fun v H' => v = i64 0 ∧ H' = H := by
  refine Ct.into 71 Try.func17 rfl [(0, .pointer none), (1, i64 n)] rfl ⟨rfl, rfl, trivial⟩ ?_
  refine E.seq ?_
  refine E.region ?_
  refine X.asg rfl rfl rfl rfl rfl ?_
  refine X.done [(0, _), (1, _), (4, _)] ⟨rfl, rfl, rfl, trivial⟩ ?_
  refine N.then ?_
  refine E.seq ?_
  refine E.seq ?_
  refine E.region ?_
  refine X.mv rfl rfl rfl rfl rfl ?_
  refine X.call rfl rfl rfl rfl rfl Try.cl44 (thereN_ct H) ?_
  rintro _ H1 ⟨rfl, eH1⟩
  obtain rfl := eH1.symm
  refine X.notF rfl rfl rfl rfl rfl ?_
  refine X.mv rfl rfl rfl rfl rfl ?_
  refine X.skip rfl rfl rfl ?_
  refine X.skip rfl rfl rfl ?_
  refine X.skip rfl rfl rfl ?_
  refine X.pickT rfl rfl rfl rfl rfl rfl ?_
  refine X.done [(0, _), (1, _), (4, _), (16, _)] ⟨rfl, rfl, rfl, rfl, trivial⟩ ?_
  refine N.then ?_
  refine E.condT rfl ?_
  refine E.seq ?_
  refine E.region ?_
  refine X.asg rfl rfl rfl rfl rfl ?_
  refine X.done [(0, _), (1, _), (4, _)] ⟨rfl, rfl, rfl, trivial⟩ ?_
  refine N.then ?_
  refine E.ret ?_
  refine N.thenR ?_
  exact N.retH [_] ⟨_, _, rfl, rfl, rfl⟩ ⟨rfl, rfl⟩

theorem peek_bad_ct (p : Nat) (s : Bs) (at_ : Nat) (H : Heap) (hR : Rdr H p s at_) (hl : s.length ≤ 100000 ∧ at_ ≤ 8 * s.length) (n : Int) (hn : n < 0 ∨ 32 < n) : Ct Try.prog 17 #[ptr p, i64 n] H fun v H' => v = i64 0 ∧ H' = H := by
  refine Ct.into 71 Try.func17 rfl [(0, ptr p), (1, i64 n)] rfl ⟨rfl, rfl, trivial⟩ ?_
  refine E.seq ?_
  refine E.region ?_
  refine X.asg rfl rfl rfl rfl rfl ?_
  refine X.done [(0, _), (1, _), (4, _)] ⟨rfl, rfl, rfl, trivial⟩ ?_
  refine N.then ?_
  refine E.seq ?_
  refine E.seq ?_
  refine E.region ?_
  refine X.mv rfl rfl rfl rfl rfl ?_
  refine X.call rfl rfl rfl rfl rfl Try.cl44 (there_ct p s at_ H hR) ?_
  rintro _ H1 ⟨rfl, eH1⟩
  obtain rfl := eH1.symm
  refine X.notT rfl rfl rfl rfl rfl ?_
  refine X.mv rfl rfl rfl rfl rfl ?_
  refine X.mv rfl rfl rfl rfl rfl ?_
  refine X.call rfl rfl rfl rfl rfl Try.cl41 (manyF_ct n H hn) ?_
  rintro _ H2 ⟨rfl, eH2⟩
  obtain rfl := eH2.symm
  refine X.notF rfl rfl rfl rfl rfl ?_
  refine X.pickF rfl rfl rfl rfl rfl rfl ?_
  refine X.done [(0, _), (1, _), (4, _), (16, _)] ⟨rfl, rfl, rfl, rfl, trivial⟩ ?_
  refine N.then ?_
  refine E.condT rfl ?_
  refine E.seq ?_
  refine E.region ?_
  refine X.asg rfl rfl rfl rfl rfl ?_
  refine X.done [(0, _), (1, _), (4, _)] ⟨rfl, rfl, rfl, trivial⟩ ?_
  refine N.then ?_
  refine E.ret ?_
  refine N.thenR ?_
  exact N.retH [_] ⟨_, _, rfl, rfl, rfl⟩ ⟨rfl, rfl⟩

theorem peek_ct (p : Nat) (s : Bs) (at_ : Nat) (H : Heap) (hR : Rdr H p s at_) (hl : s.length ≤ 100000 ∧ at_ ≤ 8 * s.length) (n : Nat) (hn : n ≤ 32) : Ct Try.prog 17 #[ptr p, i64 n] H fun v H' => v = i64 (pk (num s) at_ n) ∧ H' = H := by
  refine Ct.into 71 Try.func17 rfl [(0, ptr p), (1, i64 n)] rfl ⟨rfl, rfl, trivial⟩ ?_
  refine E.seq ?_
  refine E.region ?_
  refine X.asg rfl rfl rfl rfl rfl ?_
  refine X.done [(0, _), (1, _), (4, _)] ⟨rfl, rfl, rfl, trivial⟩ ?_
  refine N.then ?_
  refine E.seq ?_
  refine E.seq ?_
  refine E.region ?_
  refine X.mv rfl rfl rfl rfl rfl ?_
  refine X.call rfl rfl rfl rfl rfl Try.cl44 (there_ct p s at_ H hR) ?_
  rintro _ H1 ⟨rfl, eH1⟩
  obtain rfl := eH1.symm
  refine X.notT rfl rfl rfl rfl rfl ?_
  refine X.mv rfl rfl rfl rfl rfl ?_
  refine X.mv rfl rfl rfl rfl rfl ?_
  refine X.call rfl rfl rfl rfl rfl Try.cl41 (many_ct n H (by omega)) ?_
  rintro _ H2 ⟨rfl, eH2⟩
  obtain rfl := eH2.symm
  refine X.notT rfl rfl rfl rfl rfl ?_
  refine X.pickF rfl rfl rfl rfl rfl rfl ?_
  refine X.done [(0, _), (1, _), (4, _), (16, _)] ⟨rfl, rfl, rfl, rfl, trivial⟩ ?_
  refine N.then ?_
  refine E.condF rfl ?_
  refine E.skip ?_
  refine N.then ?_
  refine E.seq ?_
  refine E.region ?_
  refine X.mv rfl rfl rfl rfl rfl ?_
  refine X.nilP rfl rfl rfl rfl rfl ?_
  refine X.fld rfl rfl rfl rfl rfl Try.off70_2 ?_
  refine X.ld rfl rfl rfl rfl Try.ag3 (hR) (rfl) ?_
  refine X.quoE (zz := ((at_ / 8 : Nat) : Int)) rfl rfl rfl rfl rfl rfl (by omega) (by rw [IntWalk.i64_quo _ _ (by omega)] <;> omega) ?_
  refine X.asg rfl rfl rfl rfl rfl ?_
  refine X.done [(0, _), (1, _), (4, _), (5, _)] ⟨rfl, rfl, rfl, rfl, trivial⟩ ?_
  refine N.then ?_
  refine E.seq ?_
  refine E.region ?_
  refine X.mv rfl rfl rfl rfl rfl ?_
  refine X.nilP rfl rfl rfl rfl rfl ?_
  refine X.fld rfl rfl rfl rfl rfl Try.off70_2 ?_
  refine X.ld rfl rfl rfl rfl Try.ag3 (hR) (rfl) ?_
  refine X.remE (zz := ((at_ % 8 : Nat) : Int)) rfl rfl rfl rfl rfl rfl (by omega) (by rw [IntWalk.rem_in _ _ (by omega)] <;> omega) ?_
  refine X.asg rfl rfl rfl rfl rfl ?_
  refine X.done [(0, _), (1, _), (4, _), (5, _), (6, _)] ⟨rfl, rfl, rfl, rfl, rfl, trivial⟩ ?_
  refine N.then ?_
  refine E.seq ?_
  refine E.region ?_
  refine X.asg rfl rfl rfl rfl rfl ?_
  refine X.done [(0, _), (1, _), (4, _), (5, _), (6, _), (7, _)] ⟨rfl, rfl, rfl, rfl, rfl, rfl, trivial⟩ ?_
  refine N.then ?_
  refine E.seq ?_
  refine E.seq ?_
  refine E.region ?_
  refine X.asg rfl rfl rfl rfl rfl ?_
  refine X.done [(0, _), (1, _), (4, _), (5, _), (6, _), (7, _), (8, _)] ⟨rfl, rfl, rfl, rfl, rfl, rfl, rfl, trivial⟩ ?_
  refine N.then ?_
  refine E.block ?_
  -- MISSING in G: [4]
  refine E.loop (fun (k : Nat) => [(0, ptr p), (1, i64 n), (5, i64 ((at_ / 8 : Nat) : Int)), (6, i64 ((at_ % 8 : Nat) : Int)), (7, .int .u64 (num ((s.drop (at_ / 8)).take k))), (8, i64 k)]) (fun (k : Nat) H' => k ≤ 5 ∧ 8 * k ≤ at_ % 8 + n + 7 ∧ H' = H) (fun (k : Nat) => 5 - k) 0 ⟨rfl, rfl, rfl, rfl, rfl, rfl, trivial⟩ ⟨by omega, by omega, rfl⟩ ?_
  rintro k H3 ⟨hk, hk8, eH3⟩
  obtain rfl := eH3.symm
  have hvl := num_take_lt (s.drop (at_ / 8)) k
  refine E.seq ?_
  refine E.seq ?_
  refine E.region ?_
  refine X.mv rfl rfl rfl rfl rfl ?_
  refine X.mulE (zz := ((8 * k : Nat) : Int)) rfl rfl rfl rfl rfl rfl (by rw [IntWalk.i64_in _ (by omega)] <;> omega) ?_
  refine X.mv rfl rfl rfl rfl rfl ?_
  refine X.mv rfl rfl rfl rfl rfl ?_
  refine X.addE (zz := ((at_ % 8 + n : Nat) : Int)) rfl rfl rfl rfl rfl rfl (by rw [IntWalk.i64_in _ (by omega)] <;> omega) ?_
  refine X.lssC rfl rfl rfl rfl rfl rfl (fun hc => ?_) (fun hc => ?_)
  · refine X.mv rfl rfl rfl rfl rfl ?_
    refine X.mv rfl rfl rfl rfl rfl ?_
    refine X.mv rfl rfl rfl rfl rfl ?_
    refine X.addE (zz := ((at_ / 8 + k : Nat) : Int)) rfl rfl rfl rfl rfl rfl (by rw [IntWalk.i64_in _ (by omega)] <;> omega) ?_
    refine X.mv rfl rfl rfl rfl rfl ?_
    refine X.nilP rfl rfl rfl rfl rfl ?_
    refine X.fld rfl rfl rfl rfl rfl Try.off70_1 ?_
    refine X.ld rfl rfl rfl rfl Try.ag9 (hR) (rfl) ?_
    refine X.lenL rfl rfl rfl rfl rfl Try.underlying9 ?_
    refine X.lss rfl rfl rfl rfl rfl rfl ?_
    refine X.pickT rfl rfl rfl rfl rfl rfl ?_
    refine X.done [(0, _), (1, _), (5, _), (6, _), (7, _), (8, _), (27, _), (28, _), (29, _), (30, _), (31, _), (32, _), (33, _), (34, _), (35, _), (36, _), (37, _), (38, _), (39, _), (40, _), (41, _), (42, _), (43, _)] ⟨rfl, rfl, rfl, rfl, rfl, rfl, rfl, rfl, rfl, rfl, rfl, rfl, rfl, rfl, rfl, rfl, rfl, rfl, rfl, rfl, rfl, rfl, rfl, trivial⟩ ?_
    refine N.then ?_
    refine E.condD rfl (fun hc => ?_) (fun hc => ?_)
    · refine E.skip ?_
      refine N.then ?_
      refine E.seq ?_
      refine E.block ?_
      obtain ⟨c, hc1⟩ : ∃ c, (s.drop (at_ / 8))[k]? = some c := ⟨_, List.getElem?_eq_getElem (by rw [List.length_drop]; omega)⟩
      have hc2 : s[at_ / 8 + k]? = some c := by rw [List.getElem?_drop] at hc1; exact hc1
      have hsn := num_snoc _ _ _ hc1
      have hcl := c.toNat_lt
      have hk4 : k ≤ 4 := by omega
      have hp32 : 2 ^ (8 * k) ≤ 2 ^ 32 := Nat.pow_le_pow_right (by omega) (by omega)
      have eC : ((c.toNat * 2 ^ (8 * k) : Nat) : Int) = (c.toNat : Int) * 2 ^ (8 * k) := by simp
      have hB : c.toNat * 2 ^ (8 * k) ≤ 255 * 2 ^ 32 := Nat.mul_le_mul (by omega) hp32
      have bC : 0 ≤ (c.toNat : Int) * 2 ^ (8 * k) ∧ (c.toNat : Int) * 2 ^ (8 * k) ≤ 1095216660480 := by rw [← eC]; exact ⟨Int.natCast_nonneg _, Int.ofNat_le.2 hB⟩
      refine E.region ?_
      refine X.mv rfl rfl rfl rfl rfl ?_
      refine X.mv rfl rfl rfl rfl rfl ?_
      refine X.nilP rfl rfl rfl rfl rfl ?_
      refine X.fld rfl rfl rfl rfl rfl Try.off70_1 ?_
      refine X.ld rfl rfl rfl rfl Try.ag9 (hR) (rfl) ?_
      refine X.mv rfl rfl rfl rfl rfl ?_
      refine X.mv rfl rfl rfl rfl rfl ?_
      refine X.addE (zz := ((at_ / 8 + k : Nat) : Int)) rfl rfl rfl rfl rfl rfl (by rw [IntWalk.i64_in _ (by omega)] <;> omega) ?_
      refine X.ixS rfl rfl rfl rfl rfl rfl Try.underlying9 (by omega) (hc2) ?_
      refine X.convE (zz := (c.toNat : Int)) rfl rfl rfl rfl rfl Try.underlying62 Try.us5 (IntWalk.u64_in _ (by have := c.toNat_lt; omega)) ?_
      refine X.mv rfl rfl rfl rfl rfl ?_
      refine X.mulE (zz := ((8 * k : Nat) : Int)) rfl rfl rfl rfl rfl rfl (by rw [IntWalk.i64_in _ (by omega)] <;> omega) ?_
      refine X.convE (zz := ((8 * k : Nat) : Int)) rfl rfl rfl rfl rfl Try.underlying24 Try.us3 (IntWalk.u64_in _ (by omega)) ?_
      refine X.shlE (zz := ((c.toNat * 2 ^ (8 * k) : Nat) : Int)) rfl rfl rfl rfl rfl rfl (by omega) (by rw [eC]; exact shlU rfl (by omega) (by omega) (by omega)) ?_
      refine X.borE (zz := ((num ((s.drop (at_ / 8)).take (k + 1)) : Nat) : Int)) rfl rfl rfl rfl rfl rfl (by rw [or64 rfl rfl (by omega) (by omega), or_shift hvl, hsn]) ?_
      refine X.asg rfl rfl rfl rfl rfl ?_
      refine X.done [(0, _), (1, _), (5, _), (6, _), (7, _), (8, _), (27, _), (28, _), (29, _), (30, _), (31, _), (32, _), (33, _), (34, _), (35, _), (36, _), (37, _), (38, _), (39, _), (40, _), (41, _), (42, _), (43, _), (46, _), (47, _), (48, _), (49, _), (50, _), (51, _), (52, _), (53, _), (54, _), (55, _), (56, _), (57, _), (58, _), (59, _), (60, _)] ⟨rfl, rfl, rfl, rfl, rfl, rfl, rfl, rfl, rfl, rfl, rfl, rfl, rfl, rfl, rfl, rfl, rfl, rfl, rfl, rfl, rfl, rfl, rfl, rfl, rfl, rfl, rfl, rfl, rfl, rfl, rfl, rfl, rfl, rfl, rfl, rfl, rfl, rfl, trivial⟩ ?_
      refine N.blk ?_
      refine N.then ?_
      refine E.region ?_
      refine X.mv rfl rfl rfl rfl rfl ?_
      refine X.add rfl rfl rfl rfl rfl rfl (by omega) ?_
      refine X.asg rfl rfl rfl rfl rfl ?_
      refine X.done [(0, _), (1, _), (5, _), (6, _), (7, _), (8, _), (27, _), (28, _), (29, _), (30, _), (31, _), (32, _), (33, _), (34, _), (35, _), (36, _), (37, _), (38, _), (39, _), (40, _), (41, _), (42, _), (43, _), (46, _), (47, _), (48, _), (49, _), (50, _), (51, _), (52, _), (53, _), (54, _), (55, _), (56, _), (57, _), (58, _), (59, _), (60, _), (44, _), (45, _)] ⟨rfl, rfl, rfl, rfl, rfl, rfl, rfl, rfl, rfl, rfl, rfl, rfl, rfl, rfl, rfl, rfl, rfl, rfl, rfl, rfl, rfl, rfl, rfl, rfl, rfl, rfl, rfl, rfl, rfl, rfl, rfl, rfl, rfl, rfl, rfl, rfl, rfl, rfl, rfl, rfl, trivial⟩ ?_
      exact N.next (G := fun (k : Nat) => _) (k + 1) ⟨rfl, rfl, rfl, rfl, rfl, rfl, trivial⟩ ⟨by omega, by omega, rfl⟩ (by show 5 - (k + 1) < 5 - k; omega)
    · refine E.exit ?_
      refine N.thenX ?_
      refine N.loopX ?_
      refine N.blkX ?_
      refine N.then ?_
      refine E.seq ?_
      have hpd := peek_done s at_ n k (by omega)
      have hp5 : 2 ^ (8 * k) ≤ 2 ^ 40 := Nat.pow_le_pow_right (by omega) (by omega)
      have hdl : num ((s.drop (at_ / 8)).take k) / 2 ^ (at_ % 8) ≤ num ((s.drop (at_ / 8)).take k) := Nat.div_le_self _ _
      have hpn : 2 ^ n ≤ 2 ^ 32 := Nat.pow_le_pow_right (by omega) hn
      have hpl := pk_lt (num s) at_ n
      have hp1 := Nat.two_pow_pos n
      have eN : ((2 ^ n : Nat) : Int) = 1 * 2 ^ n := by simp
      have bN : 0 ≤ (1 : Int) * 2 ^ n ∧ (1 : Int) * 2 ^ n ≤ 4294967296 := by rw [← eN]; exact ⟨Int.natCast_nonneg _, Int.ofNat_le.2 hpn⟩
      refine E.region ?_
      refine X.mv rfl rfl rfl rfl rfl ?_
      refine X.mv rfl rfl rfl rfl rfl ?_
      refine X.convE (zz := ((at_ % 8 : Nat) : Int)) rfl rfl rfl rfl rfl Try.underlying24 Try.us3 (IntWalk.u64_in _ (by omega)) ?_
      refine X.shrE (zz := ((num ((s.drop (at_ / 8)).take k) / 2 ^ (at_ % 8) : Nat) : Int)) rfl rfl rfl rfl rfl rfl (by omega) (shrN (rfl) (rfl) (by show _ ≤ 64; omega)) ?_
      refine X.mv rfl rfl rfl rfl rfl ?_
      refine X.convE (zz := (n : Int)) rfl rfl rfl rfl rfl Try.underlying24 Try.us3 (IntWalk.u64_in _ (by omega)) ?_
      refine X.shlE (zz := ((2 ^ n : Nat) : Int)) rfl rfl rfl rfl rfl rfl (by omega) (by rw [eN]; exact shlU rfl (by omega) (by omega) (by omega)) ?_
      refine X.sbE (zz := ((2 ^ n - 1 : Nat) : Int)) rfl rfl rfl rfl rfl rfl (by rw [IntWalk.u64_in _ (by omega)]; omega) ?_
      refine X.bandE (zz := ((pk (num s) at_ n : Nat) : Int)) rfl rfl rfl rfl rfl rfl (by rw [and64 rfl rfl (by omega) (by omega), Nat.and_two_pow_sub_one_eq_mod]; exact congrArg _ hpd) ?_
      refine X.convE (zz := ((pk (num s) at_ n : Nat) : Int)) rfl rfl rfl rfl rfl Try.underlying3 Try.us62 (IntWalk.i64_in _ (by omega)) ?_
      refine X.asg rfl rfl rfl rfl rfl ?_
      refine X.done [(4, _)] ⟨rfl, trivial⟩ ?_
      refine N.then ?_
      refine E.ret ?_
      exact N.retH [_] ⟨_, _, rfl, rfl, rfl⟩ ⟨rfl, rfl⟩
  · refine X.mv rfl rfl rfl rfl rfl ?_
    refine X.skip rfl rfl rfl ?_
    refine X.skip rfl rfl rfl ?_
    refine X.skip rfl rfl rfl ?_
    refine X.skip rfl rfl rfl ?_
    refine X.skip rfl rfl rfl ?_
    refine X.skip rfl rfl rfl ?_
    refine X.skip rfl rfl rfl ?_
    refine X.skip rfl rfl rfl ?_
    refine X.skip rfl rfl rfl ?_
    refine X.pickF rfl rfl rfl rfl rfl rfl ?_
    refine X.done [(0, _), (1, _), (5, _), (6, _), (7, _), (8, _), (27, _), (28, _), (29, _), (30, _), (31, _), (32, _), (33, _), (34, _), (35, _), (36, _), (37, _), (38, _), (39, _), (40, _), (41, _), (42, _), (43, _)] ⟨rfl, rfl, rfl, rfl, rfl, rfl, rfl, rfl, rfl, rfl, rfl, rfl, rfl, rfl, rfl, rfl, rfl, rfl, rfl, rfl, rfl, rfl, rfl, trivial⟩ ?_
    refine N.then ?_
    refine E.condF rfl ?_
    refine E.exit ?_
    refine N.thenX ?_
    refine N.loopX ?_
    refine N.blkX ?_
    refine N.then ?_
    refine E.seq ?_
    have hpd := peek_done s at_ n k (by omega)
    have hp5 : 2 ^ (8 * k) ≤ 2 ^ 40 := Nat.pow_le_pow_right (by omega) (by omega)
    have hdl : num ((s.drop (at_ / 8)).take k) / 2 ^ (at_ % 8) ≤ num ((s.drop (at_ / 8)).take k) := Nat.div_le_self _ _
    have hpn : 2 ^ n ≤ 2 ^ 32 := Nat.pow_le_pow_right (by omega) hn
    have hpl := pk_lt (num s) at_ n
    have hp1 := Nat.two_pow_pos n
    have eN : ((2 ^ n : Nat) : Int) = 1 * 2 ^ n := by simp
    have bN : 0 ≤ (1 : Int) * 2 ^ n ∧ (1 : Int) * 2 ^ n ≤ 4294967296 := by rw [← eN]; exact ⟨Int.natCast_nonneg _, Int.ofNat_le.2 hpn⟩
    refine E.region ?_
    refine X.mv rfl rfl rfl rfl rfl ?_
    refine X.mv rfl rfl rfl rfl rfl ?_
    refine X.convE (zz := ((at_ % 8 : Nat) : Int)) rfl rfl rfl rfl rfl Try.underlying24 Try.us3 (IntWalk.u64_in _ (by omega)) ?_
    refine X.shrE (zz := ((num ((s.drop (at_ / 8)).take k) / 2 ^ (at_ % 8) : Nat) : Int)) rfl rfl rfl rfl rfl rfl (by omega) (shrN (rfl) (rfl) (by show _ ≤ 64; omega)) ?_
    refine X.mv rfl rfl rfl rfl rfl ?_
    refine X.convE (zz := (n : Int)) rfl rfl rfl rfl rfl Try.underlying24 Try.us3 (IntWalk.u64_in _ (by omega)) ?_
    refine X.shlE (zz := ((2 ^ n : Nat) : Int)) rfl rfl rfl rfl rfl rfl (by omega) (by rw [eN]; exact shlU rfl (by omega) (by omega) (by omega)) ?_
    refine X.sbE (zz := ((2 ^ n - 1 : Nat) : Int)) rfl rfl rfl rfl rfl rfl (by rw [IntWalk.u64_in _ (by omega)]; omega) ?_
    refine X.bandE (zz := ((pk (num s) at_ n : Nat) : Int)) rfl rfl rfl rfl rfl rfl (by rw [and64 rfl rfl (by omega) (by omega), Nat.and_two_pow_sub_one_eq_mod]; exact congrArg _ hpd) ?_
    refine X.convE (zz := ((pk (num s) at_ n : Nat) : Int)) rfl rfl rfl rfl rfl Try.underlying3 Try.us62 (IntWalk.i64_in _ (by omega)) ?_
    refine X.asg rfl rfl rfl rfl rfl ?_
    refine X.done [(4, _)] ⟨rfl, trivial⟩ ?_
    refine N.then ?_
    refine E.ret ?_
    exact N.retH [_] ⟨_, _, rfl, rfl, rfl⟩ ⟨rfl, rfl⟩

theorem skipN_ct (n : Int) (H : Heap) : Ct Try.prog 33 #[.pointer none, i64 n] H fun v H' => v = i64 25 ∧ H' = H := by
  refine Ct.into 26 Try.func33 rfl [(0, .pointer none), (1, i64 n)] rfl ⟨rfl, rfl, trivial⟩ ?_
  refine E.seq ?_
  refine E.region ?_
  refine X.asg rfl rfl rfl rfl rfl ?_
  refine X.done [(0, _), (1, _), (4, _)] ⟨rfl, rfl, rfl, trivial⟩ ?_
  refine N.then ?_
  refine E.seq ?_
  refine E.block ?_
  refine E.seq ?_
  refine E.region ?_
  refine X.mv rfl rfl rfl rfl rfl ?_
  refine X.call rfl rfl rfl rfl rfl Try.cl44 (thereN_ct H) ?_
  rintro _ H1 ⟨rfl, eH1⟩
  obtain rfl := eH1.symm
  refine X.notF rfl rfl rfl rfl rfl ?_
  refine X.asg rfl rfl rfl rfl rfl ?_
  refine X.done [(0, _), (1, _), (4, _), (5, _)] ⟨rfl, rfl, rfl, rfl, trivial⟩ ?_
  refine N.then ?_
  refine E.condT rfl ?_
  refine E.seq ?_
  refine E.region ?_
  refine X.asg rfl rfl rfl rfl rfl ?_
  refine X.done [(0, _), (1, _), (4, _)] ⟨rfl, rfl, rfl, trivial⟩ ?_
  refine N.then ?_
  refine E.ret ?_
  refine N.blkR ?_
  refine N.thenR ?_
  exact N.retH [_] ⟨_, _, rfl, rfl, rfl⟩ ⟨rfl, rfl⟩

theorem skip_bad_ct (p : Nat) (s : Bs) (at_ : Nat) (H : Heap) (hR : Rdr H p s at_) (hl : s.length ≤ 100000 ∧ at_ ≤ 8 * s.length) (n : Int) (hn : n < 0 ∨ 32 < n) : Ct Try.prog 33 #[ptr p, i64 n] H fun v H' => v = i64 1 ∧ H' = H := by
  refine Ct.into 26 Try.func33 rfl [(0, ptr p), (1, i64 n)] rfl ⟨rfl, rfl, trivial⟩ ?_
  refine E.seq ?_
  refine E.region ?_
  refine X.asg rfl rfl rfl rfl rfl ?_
  refine X.done [(0, _), (1, _), (4, _)] ⟨rfl, rfl, rfl, trivial⟩ ?_
  refine N.then ?_
  refine E.seq ?_
  refine E.block ?_
  refine E.seq ?_
  refine E.region ?_
  refine X.mv rfl rfl rfl rfl rfl ?_
  refine X.call rfl rfl rfl rfl rfl Try.cl44 (there_ct p s at_ H hR) ?_
  rintro _ H1 ⟨rfl, eH1⟩
  obtain rfl := eH1.symm
  refine X.notT rfl rfl rfl rfl rfl ?_
  refine X.asg rfl rfl rfl rfl rfl ?_
  refine X.done [(0, _), (1, _), (4, _), (5, _)] ⟨rfl, rfl, rfl, rfl, trivial⟩ ?_
  refine N.then ?_
  refine E.condF rfl ?_
  refine E.seq ?_
  refine E.region ?_
  refine X.mv rfl rfl rfl rfl rfl ?_
  refine X.call rfl rfl rfl rfl rfl Try.cl41 (manyF_ct n H hn) ?_
  rintro _ H2 ⟨rfl, eH2⟩
  obtain rfl := eH2.symm
  refine X.notF rfl rfl rfl rfl rfl ?_
  refine X.asg rfl rfl rfl rfl rfl ?_
  refine X.done [(0, _), (1, _), (4, _), (9, _)] ⟨rfl, rfl, rfl, rfl, trivial⟩ ?_
  refine N.then ?_
  refine E.condT rfl ?_
  refine E.seq ?_
  refine E.region ?_
  refine X.asg rfl rfl rfl rfl rfl ?_
  refine X.done [(0, _), (1, _), (4, _)] ⟨rfl, rfl, rfl, trivial⟩ ?_
  refine N.then ?_
  refine E.ret ?_
  refine N.blkR ?_
  refine N.thenR ?_
  exact N.retH [_] ⟨_, _, rfl, rfl, rfl⟩ ⟨rfl, rfl⟩

theorem skip_far_ct (p : Nat) (s : Bs) (at_ : Nat) (H : Heap) (hR : Rdr H p s at_) (hl : s.length ≤ 100000 ∧ at_ ≤ 8 * s.length) (n : Nat) (hn : n ≤ 32) (hf : 8 * s.length - at_ < n) : Ct Try.prog 33 #[ptr p, i64 n] H fun v H' => v = i64 2 ∧ H' = H := by
  refine Ct.into 26 Try.func33 rfl [(0, ptr p), (1, i64 n)] rfl ⟨rfl, rfl, trivial⟩ ?_
  refine E.seq ?_
  refine E.region ?_
  refine X.asg rfl rfl rfl rfl rfl ?_
  refine X.done [(0, _), (1, _), (4, _)] ⟨rfl, rfl, rfl, trivial⟩ ?_
  refine N.then ?_
  refine E.seq ?_
  refine E.block ?_
  refine E.seq ?_
  refine E.region ?_
  refine X.mv rfl rfl rfl rfl rfl ?_
  refine X.call rfl rfl rfl rfl rfl Try.cl44 (there_ct p s at_ H hR) ?_
  rintro _ H1 ⟨rfl, eH1⟩
  obtain rfl := eH1.symm
  refine X.notT rfl rfl rfl rfl rfl ?_
  refine X.asg rfl rfl rfl rfl rfl ?_
  refine X.done [(0, _), (1, _), (4, _), (5, _)] ⟨rfl, rfl, rfl, rfl, trivial⟩ ?_
  refine N.then ?_
  refine E.condF rfl ?_
  refine E.seq ?_
  refine E.region ?_
  refine X.mv rfl rfl rfl rfl rfl ?_
  refine X.call rfl rfl rfl rfl rfl Try.cl41 (many_ct n H (by omega)) ?_
  rintro _ H2 ⟨rfl, eH2⟩
  obtain rfl := eH2.symm
  refine X.notT rfl rfl rfl rfl rfl ?_
  refine X.asg rfl rfl rfl rfl rfl ?_
  refine X.done [(0, _), (1, _), (4, _), (9, _)] ⟨rfl, rfl, rfl, rfl, trivial⟩ ?_
  refine N.then ?_
  refine E.condF rfl ?_
  refine E.seq ?_
  refine E.region ?_
  refine X.mv rfl rfl rfl rfl rfl ?_
  refine X.mv rfl rfl rfl rfl rfl ?_
  refine X.call rfl rfl rfl rfl rfl Try.cl21 (left_ct p s at_ H hR hl) ?_
  rintro _ H3 ⟨rfl, eH3⟩
  obtain rfl := eH3.symm
  refine X.gtrT rfl rfl rfl rfl rfl rfl (by omega) ?_
  refine X.asg rfl rfl rfl rfl rfl ?_
  refine X.done [(0, _), (1, _), (4, _), (13, _)] ⟨rfl, rfl, rfl, rfl, trivial⟩ ?_
  refine N.then ?_
  refine E.condT rfl ?_
  refine E.seq ?_
  refine E.region ?_
  refine X.asg rfl rfl rfl rfl rfl ?_
  refine X.done [(0, _), (1, _), (4, _)] ⟨rfl, rfl, rfl, trivial⟩ ?_
  refine N.then ?_
  refine E.ret ?_
  refine N.blkR ?_
  refine N.thenR ?_
  exact N.retH [_] ⟨_, _, rfl, rfl, rfl⟩ ⟨rfl, rfl⟩

theorem skip_ct (p : Nat) (s : Bs) (at_ : Nat) (H : Heap) (hR : Rdr H p s at_) (hl : s.length ≤ 100000 ∧ at_ ≤ 8 * s.length) (n : Nat) (hn : n ≤ 32) (hf : n ≤ 8 * s.length - at_) : Ct Try.prog 33 #[ptr p, i64 n] H fun v H' => v = i64 0 ∧ Rdr H' p s (at_ + n) ∧ Kp [p] H H' := by
  refine Ct.into 26 Try.func33 rfl [(0, ptr p), (1, i64 n)] rfl ⟨rfl, rfl, trivial⟩ ?_
  refine E.seq ?_
  refine E.region ?_
  refine X.asg rfl rfl rfl rfl rfl ?_
  refine X.done [(0, _), (1, _), (4, _)] ⟨rfl, rfl, rfl, trivial⟩ ?_
  refine N.then ?_
  refine E.seq ?_
  refine E.block ?_
  refine E.seq ?_
  refine E.region ?_
  refine X.mv rfl rfl rfl rfl rfl ?_
  refine X.call rfl rfl rfl rfl rfl Try.cl44 (there_ct p s at_ H hR) ?_
  rintro _ H1 ⟨rfl, eH1⟩
  obtain rfl := eH1.symm
  refine X.notT rfl rfl rfl rfl rfl ?_
  refine X.asg rfl rfl rfl rfl rfl ?_
  refine X.done [(0, _), (1, _), (4, _), (5, _)] ⟨rfl, rfl, rfl, rfl, trivial⟩ ?_
  refine N.then ?_
  refine E.condF rfl ?_
  refine E.seq ?_
  refine E.region ?_
  refine X.mv rfl rfl rfl rfl rfl ?_
  refine X.call rfl rfl rfl rfl rfl Try.cl41 (many_ct n H (by omega)) ?_
  rintro _ H2 ⟨rfl, eH2⟩
  obtain rfl := eH2.symm
  refine X.notT rfl rfl rfl rfl rfl ?_
  refine X.asg rfl rfl rfl rfl rfl ?_
  refine X.done [(0, _), (1, _), (4, _), (9, _)] ⟨rfl, rfl, rfl, rfl, trivial⟩ ?_
  refine N.then ?_
  refine E.condF rfl ?_
  refine E.seq ?_
  refine E.region ?_
  refine X.mv rfl rfl rfl rfl rfl ?_
  refine X.mv rfl rfl rfl rfl rfl ?_
  refine X.call rfl rfl rfl rfl rfl Try.cl21 (left_ct p s at_ H hR hl) ?_
  rintro _ H3 ⟨rfl, eH3⟩
  obtain rfl := eH3.symm
  refine X.gtrF rfl rfl rfl rfl rfl rfl (by omega) ?_
  refine X.asg rfl rfl rfl rfl rfl ?_
  refine X.done [(0, _), (1, _), (4, _), (13, _)] ⟨rfl, rfl, rfl, rfl, trivial⟩ ?_
  refine N.then ?_
  refine E.condF rfl ?_
  refine E.skip ?_
  refine N.blk ?_
  refine N.then ?_
  refine E.seq ?_
  refine E.region ?_
  refine X.mv rfl rfl rfl rfl rfl ?_
  refine X.nilP rfl rfl rfl rfl rfl ?_
  refine X.fld rfl rfl rfl rfl rfl Try.off70_2 ?_
  refine X.ld rfl rfl rfl rfl Try.ag3 (hR) (rfl) ?_
  refine X.mv rfl rfl rfl rfl rfl ?_
  refine X.addE (zz := ((at_ + n : Nat) : Int)) rfl rfl rfl rfl rfl rfl (by rw [IntWalk.i64_in _ (by omega)] <;> omega) ?_
  refine X.nilP rfl rfl rfl rfl rfl ?_
  refine X.fld rfl rfl rfl rfl rfl Try.off70_2 ?_
  refine X.st rfl rfl rfl rfl rfl rfl rfl Try.sz3 hR (by simp) ?_
  intro H4 hb4 hk4
  refine X.done [(4, _)] ⟨rfl, trivial⟩ ?_
  refine N.then ?_
  refine E.seq ?_
  refine E.region ?_
  refine X.asg rfl rfl rfl rfl rfl ?_
  refine X.done [(4, _)] ⟨rfl, trivial⟩ ?_
  refine N.then ?_
  refine E.ret ?_
  exact N.retH [_] ⟨_, _, rfl, rfl, rfl⟩ ⟨rfl, hb4, hk4⟩

theorem bitsN_ct (n : Int) (H : Heap) : Ct Try.prog 18 #[.pointer none, i64 n] H fun v H' => v = .tuple #[i64 0, i64 25] ∧ H' = H := by
  refine Ct.into 18 Try.func18 rfl [(0, .pointer none), (1, i64 n)] rfl ⟨rfl, rfl, trivial⟩ ?_
  refine E.seq ?_
  refine E.region ?_
  refine X.asg rfl rfl rfl rfl rfl ?_
  refine X.asg rfl rfl rfl rfl rfl ?_
  refine X.done [(0, _), (1, _), (4, _), (5, _)] ⟨rfl, rfl, rfl, rfl, trivial⟩ ?_
  refine N.then ?_
  refine E.seq ?_
  refine E.region ?_
  refine X.mv rfl rfl rfl rfl rfl ?_
  refine X.mv rfl rfl rfl rfl rfl ?_
  refine X.call rfl rfl rfl rfl rfl Try.cl17 (peekN_ct n H) ?_
  rintro _ H1 ⟨rfl, eH1⟩
  obtain rfl := eH1.symm
  refine X.asg rfl rfl rfl rfl rfl ?_
  refine X.done [(0, _), (1, _), (4, _), (5, _), (6, _)] ⟨rfl, rfl, rfl, rfl, rfl, trivial⟩ ?_
  refine N.then ?_
  refine E.seq ?_
  refine E.seq ?_
  refine E.region ?_
  refine X.mv rfl rfl rfl rfl rfl ?_
  refine X.mv rfl rfl rfl rfl rfl ?_
  refine X.call rfl rfl rfl rfl rfl Try.cl33 (skipN_ct n H) ?_
  rintro _ H2 ⟨rfl, eH2⟩
  obtain rfl := eH2.symm
  refine X.asg rfl rfl rfl rfl rfl ?_
  refine X.done [(4, _), (5, _), (6, _), (7, _)] ⟨rfl, rfl, rfl, rfl, trivial⟩ ?_
  refine N.then ?_
  refine E.seq ?_
  refine E.region ?_
  refine X.mv rfl rfl rfl rfl rfl ?_
  refine X.neqT rfl rfl rfl rfl rfl rfl (by decide) ?_
  refine X.done [(4, _), (5, _), (6, _), (7, _), (15, _)] ⟨rfl, rfl, rfl, rfl, rfl, trivial⟩ ?_
  refine N.then ?_
  refine E.condT rfl ?_
  refine E.seq ?_
  refine E.region ?_
  refine X.mv rfl rfl rfl rfl rfl ?_
  refine X.asg rfl rfl rfl rfl rfl ?_
  refine X.asg rfl rfl rfl rfl rfl ?_
  refine X.done [(4, _), (5, _), (6, _)] ⟨rfl, rfl, rfl, trivial⟩ ?_
  refine N.then ?_
  refine E.ret ?_
  refine N.thenR ?_
  exact N.retH [_, _] ⟨_, _, rfl, rfl, _, _, rfl, rfl, rfl⟩ ⟨rfl, rfl⟩

theorem bits_bad_ct (p : Nat) (s : Bs) (at_ : Nat) (H : Heap) (hR : Rdr H p s at_) (hl : s.length ≤ 100000 ∧ at_ ≤ 8 * s.length) (n : Int) (hn : n < 0 ∨ 32 < n) : Ct Try.prog 18 #[ptr p, i64 n] H fun v H' => v = .tuple #[i64 0, i64 1] ∧ H' = H := by
  refine Ct.into 18 Try.func18 rfl [(0, ptr p), (1, i64 n)] rfl ⟨rfl, rfl, trivial⟩ ?_
  refine E.seq ?_
  refine E.region ?_
  refine X.asg rfl rfl rfl rfl rfl ?_
  refine X.asg rfl rfl rfl rfl rfl ?_
  refine X.done [(0, _), (1, _), (4, _), (5, _)] ⟨rfl, rfl, rfl, rfl, trivial⟩ ?_
  refine N.then ?_
  refine E.seq ?_
  refine E.region ?_
  refine X.mv rfl rfl rfl rfl rfl ?_
  refine X.mv rfl rfl rfl rfl rfl ?_
  refine X.call rfl rfl rfl rfl rfl Try.cl17 (peek_bad_ct p s at_ H hR hl n hn) ?_
  rintro _ H1 ⟨rfl, eH1⟩
  obtain rfl := eH1.symm
  refine X.asg rfl rfl rfl rfl rfl ?_
  refine X.done [(0, _), (1, _), (4, _), (5, _), (6, _)] ⟨rfl, rfl, rfl, rfl, rfl, trivial⟩ ?_
  refine N.then ?_
  refine E.seq ?_
  refine E.seq ?_
  refine E.region ?_
  refine X.mv rfl rfl rfl rfl rfl ?_
  refine X.mv rfl rfl rfl rfl rfl ?_
  refine X.call rfl rfl rfl rfl rfl Try.cl33 (skip_bad_ct p s at_ H hR hl n hn) ?_
  rintro _ H2 ⟨rfl, eH2⟩
  obtain rfl := eH2.symm
  refine X.asg rfl rfl rfl rfl rfl ?_
  refine X.done [(4, _), (5, _), (6, _), (7, _)] ⟨rfl, rfl, rfl, rfl, trivial⟩ ?_
  refine N.then ?_
  refine E.seq ?_
  refine E.region ?_
  refine X.mv rfl rfl rfl rfl rfl ?_
  refine X.neqT rfl rfl rfl rfl rfl rfl (by decide) ?_
  refine X.done [(4, _), (5, _), (6, _), (7, _), (15, _)] ⟨rfl, rfl, rfl, rfl, rfl, trivial⟩ ?_
  refine N.then ?_
  refine E.condT rfl ?_
  refine E.seq ?_
  refine E.region ?_
  refine X.mv rfl rfl rfl rfl rfl ?_
  refine X.asg rfl rfl rfl rfl rfl ?_
  refine X.asg rfl rfl rfl rfl rfl ?_
  refine X.done [(4, _), (5, _), (6, _)] ⟨rfl, rfl, rfl, trivial⟩ ?_
  refine N.then ?_
  refine E.ret ?_
  refine N.thenR ?_
  exact N.retH [_, _] ⟨_, _, rfl, rfl, _, _, rfl, rfl, rfl⟩ ⟨rfl, rfl⟩

theorem bits_far_ct (p : Nat) (s : Bs) (at_ : Nat) (H : Heap) (hR : Rdr H p s at_) (hl : s.length ≤ 100000 ∧ at_ ≤ 8 * s.length) (n : Nat) (hn : n ≤ 32) (hf : 8 * s.length - at_ < n) : Ct Try.prog 18 #[ptr p, i64 n] H fun v H' => v = .tuple #[i64 0, i64 2] ∧ H' = H := by
  refine Ct.into 18 Try.func18 rfl [(0, ptr p), (1, i64 n)] rfl ⟨rfl, rfl, trivial⟩ ?_
  refine E.seq ?_
  refine E.region ?_
  refine X.asg rfl rfl rfl rfl rfl ?_
  refine X.asg rfl rfl rfl rfl rfl ?_
  refine X.done [(0, _), (1, _), (4, _), (5, _)] ⟨rfl, rfl, rfl, rfl, trivial⟩ ?_
  refine N.then ?_
  refine E.seq ?_
  refine E.region ?_
  refine X.mv rfl rfl rfl rfl rfl ?_
  refine X.mv rfl rfl rfl rfl rfl ?_
  refine X.call rfl rfl rfl rfl rfl Try.cl17 (peek_ct p s at_ H hR hl n hn) ?_
  rintro _ H1 ⟨rfl, eH1⟩
  obtain rfl := eH1.symm
  refine X.asg rfl rfl rfl rfl rfl ?_
  refine X.done [(0, _), (1, _), (4, _), (5, _), (6, _)] ⟨rfl, rfl, rfl, rfl, rfl, trivial⟩ ?_
  refine N.then ?_
  refine E.seq ?_
  refine E.seq ?_
  refine E.region ?_
  refine X.mv rfl rfl rfl rfl rfl ?_
  refine X.mv rfl rfl rfl rfl rfl ?_
  refine X.call rfl rfl rfl rfl rfl Try.cl33 (skip_far_ct p s at_ H hR hl n hn hf) ?_
  rintro _ H2 ⟨rfl, eH2⟩
  obtain rfl := eH2.symm
  refine X.asg rfl rfl rfl rfl rfl ?_
  refine X.done [(4, _), (5, _), (6, _), (7, _)] ⟨rfl, rfl, rfl, rfl, trivial⟩ ?_
  refine N.then ?_
  refine E.seq ?_
  refine E.region ?_
  refine X.mv rfl rfl rfl rfl rfl ?_
  refine X.neqT rfl rfl rfl rfl rfl rfl (by decide) ?_
  refine X.done [(4, _), (5, _), (6, _), (7, _), (15, _)] ⟨rfl, rfl, rfl, rfl, rfl, trivial⟩ ?_
  refine N.then ?_
  refine E.condT rfl ?_
  refine E.seq ?_
  refine E.region ?_
  refine X.mv rfl rfl rfl rfl rfl ?_
  refine X.asg rfl rfl rfl rfl rfl ?_
  refine X.asg rfl rfl rfl rfl rfl ?_
  refine X.done [(4, _), (5, _), (6, _)] ⟨rfl, rfl, rfl, trivial⟩ ?_
  refine N.then ?_
  refine E.ret ?_
  refine N.thenR ?_
  exact N.retH [_, _] ⟨_, _, rfl, rfl, _, _, rfl, rfl, rfl⟩ ⟨rfl, rfl⟩

theorem bits_ct (p : Nat) (s : Bs) (at_ : Nat) (H : Heap) (hR : Rdr H p s at_) (hl : s.length ≤ 100000 ∧ at_ ≤ 8 * s.length) (n : Nat) (hn : n ≤ 32) (hf : n ≤ 8 * s.length - at_) : Ct Try.prog 18 #[ptr p, i64 n] H fun v H' => v = .tuple #[i64 (pk (num s) at_ n), i64 0] ∧ Rdr H' p s (at_ + n) ∧ Kp [p] H H' := by
  refine Ct.into 18 Try.func18 rfl [(0, ptr p), (1, i64 n)] rfl ⟨rfl, rfl, trivial⟩ ?_
  refine E.seq ?_
  refine E.region ?_
  refine X.asg rfl rfl rfl rfl rfl ?_
  refine X.asg rfl rfl rfl rfl rfl ?_
  refine X.done [(0, _), (1, _), (4, _), (5, _)] ⟨rfl, rfl, rfl, rfl, trivial⟩ ?_
  refine N.then ?_
  refine E.seq ?_
  refine E.region ?_
  refine X.mv rfl rfl rfl rfl rfl ?_
  refine X.mv rfl rfl rfl rfl rfl ?_
  refine X.call rfl rfl rfl rfl rfl Try.cl17 (peek_ct p s at_ H hR hl n hn) ?_
  rintro _ H1 ⟨rfl, eH1⟩
  obtain rfl := eH1.symm
  refine X.asg rfl rfl rfl rfl rfl ?_
  refine X.done [(0, _), (1, _), (4, _), (5, _), (6, _)] ⟨rfl, rfl, rfl, rfl, rfl, trivial⟩ ?_
  refine N.then ?_
  refine E.seq ?_
  refine E.seq ?_
  refine E.region ?_
  refine X.mv rfl rfl rfl rfl rfl ?_
  refine X.mv rfl rfl rfl rfl rfl ?_
  refine X.call rfl rfl rfl rfl rfl Try.cl33 (skip_ct p s at_ H hR hl n hn hf) ?_
  rintro _ H2 ⟨rfl, hR2, hk2⟩
  refine X.asg rfl rfl rfl rfl rfl ?_
  refine X.done [(4, _), (5, _), (6, _), (7, _)] ⟨rfl, rfl, rfl, rfl, trivial⟩ ?_
  refine N.then ?_
  refine E.seq ?_
  refine E.region ?_
  refine X.mv rfl rfl rfl rfl rfl ?_
  refine X.neqF rfl rfl rfl rfl rfl rfl (by decide) ?_
  refine X.done [(4, _), (5, _), (6, _), (7, _), (15, _)] ⟨rfl, rfl, rfl, rfl, rfl, trivial⟩ ?_
  refine N.then ?_
  refine E.condF rfl ?_
  refine E.skip ?_
  refine N.then ?_
  refine E.seq ?_
  refine E.region ?_
  refine X.mv rfl rfl rfl rfl rfl ?_
  refine X.asg rfl rfl rfl rfl rfl ?_
  refine X.asg rfl rfl rfl rfl rfl ?_
  refine X.done [(4, _), (5, _)] ⟨rfl, rfl, trivial⟩ ?_
  refine N.then ?_
  refine E.ret ?_
  exact N.retH [_, _] ⟨_, _, rfl, rfl, _, _, rfl, rfl, rfl⟩ ⟨rfl, hR2, hk2⟩

theorem new_bad0_ct (s : Bs) (at_ : Int) (H : Heap) (hl : s.length ≤ 100000) (hb : at_ < 0) : Ct Try.prog 15 #[str s, i64 at_] H fun v H' => v = .tuple #[.pointer none, i64 1] ∧ H' = H := by
  refine Ct.into 19 Try.func15 rfl [(0, str s), (1, i64 at_)] rfl ⟨rfl, rfl, trivial⟩ ?_
  refine E.seq ?_
  refine E.region ?_
  refine X.asg rfl rfl rfl rfl rfl ?_
  refine X.asg rfl rfl rfl rfl rfl ?_
  refine X.done [(0, _), (1, _), (4, _), (5, _)] ⟨rfl, rfl, rfl, rfl, trivial⟩ ?_
  refine N.then ?_
  refine E.seq ?_
  refine E.seq ?_
  refine E.region ?_
  refine X.mv rfl rfl rfl rfl rfl ?_
  refine X.lssT rfl rfl rfl rfl rfl rfl (by omega) ?_
  refine X.mv rfl rfl rfl rfl rfl ?_
  refine X.skip rfl rfl rfl ?_
  refine X.skip rfl rfl rfl ?_
  refine X.skip rfl rfl rfl ?_
  refine X.skip rfl rfl rfl ?_
  refine X.skip rfl rfl rfl ?_
  refine X.pickT rfl rfl rfl rfl rfl rfl ?_
  refine X.done [(0, _), (1, _), (4, _), (5, _), (14, _)] ⟨rfl, rfl, rfl, rfl, rfl, trivial⟩ ?_
  refine N.then ?_
  refine E.condT rfl ?_
  refine E.seq ?_
  refine E.region ?_
  refine X.asg rfl rfl rfl rfl rfl ?_
  refine X.asg rfl rfl rfl rfl rfl ?_
  refine X.done [(0, _), (1, _), (4, _), (5, _)] ⟨rfl, rfl, rfl, rfl, trivial⟩ ?_
  refine N.then ?_
  refine E.ret ?_
  refine N.thenR ?_
  exact N.retH [_, _] ⟨_, _, rfl, rfl, _, _, rfl, rfl, rfl⟩ ⟨rfl, rfl⟩

theorem new_bad1_ct (s : Bs) (at_ : Int) (H : Heap) (hl : s.length ≤ 100000) (hb : 8 * (s.length : Int) < at_) : Ct Try.prog 15 #[str s, i64 at_] H fun v H' => v = .tuple #[.pointer none, i64 1] ∧ H' = H := by
  refine Ct.into 19 Try.func15 rfl [(0, str s), (1, i64 at_)] rfl ⟨rfl, rfl, trivial⟩ ?_
  refine E.seq ?_
  refine E.region ?_
  refine X.asg rfl rfl rfl rfl rfl ?_
  refine X.asg rfl rfl rfl rfl rfl ?_
  refine X.done [(0, _), (1, _), (4, _), (5, _)] ⟨rfl, rfl, rfl, rfl, trivial⟩ ?_
  refine N.then ?_
  refine E.seq ?_
  refine E.seq ?_
  refine E.region ?_
  refine X.mv rfl rfl rfl rfl rfl ?_
  refine X.lssF rfl rfl rfl rfl rfl rfl (by omega) ?_
  refine X.mv rfl rfl rfl rfl rfl ?_
  refine X.mv rfl rfl rfl rfl rfl ?_
  refine X.mv rfl rfl rfl rfl rfl ?_
  refine X.lenL rfl rfl rfl rfl rfl Try.underlying9 ?_
  refine X.mul rfl rfl rfl rfl rfl rfl (by omega) ?_
  refine X.gtrT rfl rfl rfl rfl rfl rfl (by omega) ?_
  refine X.pickF rfl rfl rfl rfl rfl rfl ?_
  refine X.done [(0, _), (1, _), (4, _), (5, _), (14, _)] ⟨rfl, rfl, rfl, rfl, rfl, trivial⟩ ?_
  refine N.then ?_
  refine E.condT rfl ?_
  refine E.seq ?_
  refine E.region ?_
  refine X.asg rfl rfl rfl rfl rfl ?_
  refine X.asg rfl rfl rfl rfl rfl ?_
  refine X.done [(0, _), (1, _), (4, _), (5, _)] ⟨rfl, rfl, rfl, rfl, trivial⟩ ?_
  refine N.then ?_
  refine E.ret ?_
  refine N.thenR ?_
  exact N.retH [_, _] ⟨_, _, rfl, rfl, _, _, rfl, rfl, rfl⟩ ⟨rfl, rfl⟩

theorem new_ct (s : Bs) (at_ : Nat) (H : Heap) (hl : s.length ≤ 100000) (hb : at_ ≤ 8 * s.length) : Ct Try.prog 15 #[str s, i64 at_] H fun v H' => ∃ p, v = .tuple #[ptr p, i64 0] ∧ H.size ≤ p ∧ Rdr H' p s at_ ∧ Kp [] H H' := by
  refine Ct.into 19 Try.func15 rfl [(0, str s), (1, i64 at_)] rfl ⟨rfl, rfl, trivial⟩ ?_
  refine E.seq ?_
  refine E.region ?_
  refine X.asg rfl rfl rfl rfl rfl ?_
  refine X.asg rfl rfl rfl rfl rfl ?_
  refine X.done [(0, _), (1, _), (4, _), (5, _)] ⟨rfl, rfl, rfl, rfl, trivial⟩ ?_
  refine N.then ?_
  refine E.seq ?_
  refine E.seq ?_
  refine E.region ?_
  refine X.mv rfl rfl rfl rfl rfl ?_
  refine X.lssF rfl rfl rfl rfl rfl rfl (by omega) ?_
  refine X.mv rfl rfl rfl rfl rfl ?_
  refine X.mv rfl rfl rfl rfl rfl ?_
  refine X.mv rfl rfl rfl rfl rfl ?_
  refine X.lenL rfl rfl rfl rfl rfl Try.underlying9 ?_
  refine X.mul rfl rfl rfl rfl rfl rfl (by omega) ?_
  refine X.gtrF rfl rfl rfl rfl rfl rfl (by omega) ?_
  refine X.pickF rfl rfl rfl rfl rfl rfl ?_
  refine X.done [(0, _), (1, _), (4, _), (5, _), (14, _)] ⟨rfl, rfl, rfl, rfl, rfl, trivial⟩ ?_
  refine N.then ?_
  refine E.condF rfl ?_
  refine E.skip ?_
  refine N.then ?_
  refine E.seq ?_
  refine E.region ?_
  refine X.mv rfl rfl rfl rfl rfl ?_
  refine X.mv rfl rfl rfl rfl rfl ?_
  refine X.build (v := .agg ([Value.bool true, str s, i64 at_] : List Value).toArray) rfl rfl rfl rfl rfl (fun _ => by kernel_rfl) ?_
  refine X.box rfl rfl rfl rfl rfl rfl ?_
  intro p H3 hn3 hb3 hk3
  refine X.asg rfl rfl rfl rfl rfl ?_
  refine X.asg rfl rfl rfl rfl rfl ?_
  refine X.done [(4, _), (5, _)] ⟨rfl, rfl, trivial⟩ ?_
  refine N.then ?_
  refine E.ret ?_
  exact N.retH [_, _] ⟨_, _, rfl, rfl, _, _, rfl, rfl, rfl⟩ ⟨p, rfl, hn3, hb3, hk3⟩


theorem shl32 (k m y : Nat) (hk : k ≤ 31) (hm : m * 2 ^ k < 2 ^ 32) : IntKind.u32.wrap (((y &&& m : Nat) : Int) * 2 ^ (min (k : Int).toNat IntKind.u32.bits)) = (((y &&& m) * 2 ^ k : Nat) : Int) := by
  have e : min (k : Int).toNat IntKind.u32.bits = k := by simp [IntKind.bits]; omega
  rw [e]
  have h1 : (y &&& m) * 2 ^ k < 2 ^ 32 := Nat.lt_of_le_of_lt (Nat.mul_le_mul_right _ Nat.and_le_right) hm
  have h2 : (((y &&& m) * 2 ^ k : Nat) : Int) = ((y &&& m : Nat) : Int) * 2 ^ k := by simp
  rw [← h2]
  exact IntWalk.u32_in _ (by omega)
theorem shl16 (a : Nat) : IntKind.u32.wrap ((a : Int) * 2 ^ (min (16 : Int).toNat IntKind.u32.bits)) = ((a * 2 ^ 16 % 2 ^ 32 : Nat) : Int) := by
  have e : min (16 : Int).toNat IntKind.u32.bits = 16 := by decide
  rw [e, IntKind.wrap_u32]; omega

theorem revb_ct (z : Nat) (H : Heap) (hy : z < 2 ^ 32) : Ct Try.prog 46 #[.int .u32 z] H fun v H' => v = .int .u32 (((sw 8 16711935 z / 2 ^ 16) ||| (sw 8 16711935 z * 2 ^ 16 % 2 ^ 32) : Nat) : Int) ∧ H' = H := by
  refine Ct.into 15 Try.func46 rfl [(0, .int .u32 z)] rfl ⟨rfl, trivial⟩ ?_
  refine E.seq ?_
  refine E.region ?_
  refine X.asg rfl rfl rfl rfl rfl ?_
  refine X.done [(0, _), (2, _)] ⟨rfl, rfl, trivial⟩ ?_
  refine N.then ?_
  refine E.seq ?_
  refine E.region ?_
  refine X.mv rfl rfl rfl rfl rfl ?_
  refine X.shrE (zz := (((z) / 2 ^ 8 : Nat) : Int)) rfl rfl rfl rfl rfl rfl (by omega) (shrN (rfl) (rfl) (by show _ ≤ 32; omega)) ?_
  refine X.bandE (zz := ((((z) / 2 ^ 8) &&& 16711935 : Nat) : Int)) rfl rfl rfl rfl rfl rfl (and32 rfl rfl (Nat.lt_of_le_of_lt (Nat.div_le_self _ _) hy) (by decide)) ?_
  refine X.mv rfl rfl rfl rfl rfl ?_
  refine X.bandE (zz := (((z) &&& 16711935 : Nat) : Int)) rfl rfl rfl rfl rfl rfl (and32 rfl rfl hy (by decide)) ?_
  refine X.shlE (zz := ((((z) &&& 16711935) * 2 ^ 8 : Nat) : Int)) rfl rfl rfl rfl rfl rfl (by omega) (shl32 8 16711935 _ (by decide) (by decide)) ?_
  refine X.borE (zz := ((sw 8 16711935 (z) : Nat) : Int)) rfl rfl rfl rfl rfl rfl (or32 rfl rfl (Nat.lt_of_le_of_lt Nat.and_le_right (by decide)) (Nat.lt_of_le_of_lt (Nat.mul_le_mul_right _ Nat.and_le_right) (by decide))) ?_
  replace hy := sw_lt 8 16711935 (z) (by decide) (by decide)
  refine X.asg rfl rfl rfl rfl rfl ?_
  refine X.done [(0, _), (2, _)] ⟨rfl, rfl, trivial⟩ ?_
  refine N.then ?_
  refine E.seq ?_
  refine E.region ?_
  refine X.mv rfl rfl rfl rfl rfl ?_
  refine X.shrE (zz := ((sw 8 16711935 z / 2 ^ 16 : Nat) : Int)) rfl rfl rfl rfl rfl rfl (by omega) (shrN (rfl) (rfl) (by show _ ≤ 32; omega)) ?_
  refine X.mv rfl rfl rfl rfl rfl ?_
  refine X.shlE (zz := ((sw 8 16711935 z * 2 ^ 16 % 2 ^ 32 : Nat) : Int)) rfl rfl rfl rfl rfl rfl (by omega) (shl16 _) ?_
  refine X.borE (zz := (((sw 8 16711935 z / 2 ^ 16) ||| (sw 8 16711935 z * 2 ^ 16 % 2 ^ 32) : Nat) : Int)) rfl rfl rfl rfl rfl rfl (or32 rfl rfl (Nat.lt_of_le_of_lt (Nat.div_le_self _ _) hy) (Nat.mod_lt _ (by decide))) ?_
  refine X.asg rfl rfl rfl rfl rfl ?_
  refine X.done [(2, _)] ⟨rfl, trivial⟩ ?_
  refine N.then ?_
  refine E.ret ?_
  exact N.retH [_] ⟨_, _, rfl, rfl, rfl⟩ ⟨rfl, rfl⟩

theorem rev_ct (y : Nat) (H : Heap) (hy : y < 2 ^ 32) : Ct Try.prog 42 #[.int .u32 y] H fun v H' => v = .int .u32 (rev y) ∧ H' = H := by
  refine Ct.into 26 Try.func42 rfl [(0, .int .u32 y)] rfl ⟨rfl, trivial⟩ ?_
  refine E.seq ?_
  refine E.region ?_
  refine X.asg rfl rfl rfl rfl rfl ?_
  refine X.done [(0, _), (2, _)] ⟨rfl, rfl, trivial⟩ ?_
  refine N.then ?_
  refine E.seq ?_
  refine E.region ?_
  refine X.mv rfl rfl rfl rfl rfl ?_
  refine X.shrE (zz := (((y) / 2 ^ 1 : Nat) : Int)) rfl rfl rfl rfl rfl rfl (by omega) (shrN (rfl) (rfl) (by show _ ≤ 32; omega)) ?_
  refine X.bandE (zz := ((((y) / 2 ^ 1) &&& 1431655765 : Nat) : Int)) rfl rfl rfl rfl rfl rfl (and32 rfl rfl (Nat.lt_of_le_of_lt (Nat.div_le_self _ _) hy) (by decide)) ?_
  refine X.mv rfl rfl rfl rfl rfl ?_
  refine X.bandE (zz := (((y) &&& 1431655765 : Nat) : Int)) rfl rfl rfl rfl rfl rfl (and32 rfl rfl hy (by decide)) ?_
  refine X.shlE (zz := ((((y) &&& 1431655765) * 2 ^ 1 : Nat) : Int)) rfl rfl rfl rfl rfl rfl (by omega) (shl32 1 1431655765 _ (by decide) (by decide)) ?_
  refine X.borE (zz := ((sw 1 1431655765 (y) : Nat) : Int)) rfl rfl rfl rfl rfl rfl (or32 rfl rfl (Nat.lt_of_le_of_lt Nat.and_le_right (by decide)) (Nat.lt_of_le_of_lt (Nat.mul_le_mul_right _ Nat.and_le_right) (by decide))) ?_
  replace hy := sw_lt 1 1431655765 (y) (by decide) (by decide)
  refine X.asg rfl rfl rfl rfl rfl ?_
  refine X.done [(0, _), (2, _)] ⟨rfl, rfl, trivial⟩ ?_
  refine N.then ?_
  refine E.seq ?_
  refine E.region ?_
  refine X.mv rfl rfl rfl rfl rfl ?_
  refine X.shrE (zz := (((sw 1 1431655765 y) / 2 ^ 2 : Nat) : Int)) rfl rfl rfl rfl rfl rfl (by omega) (shrN (rfl) (rfl) (by show _ ≤ 32; omega)) ?_
  refine X.bandE (zz := ((((sw 1 1431655765 y) / 2 ^ 2) &&& 858993459 : Nat) : Int)) rfl rfl rfl rfl rfl rfl (and32 rfl rfl (Nat.lt_of_le_of_lt (Nat.div_le_self _ _) hy) (by decide)) ?_
  refine X.mv rfl rfl rfl rfl rfl ?_
  refine X.bandE (zz := (((sw 1 1431655765 y) &&& 858993459 : Nat) : Int)) rfl rfl rfl rfl rfl rfl (and32 rfl rfl hy (by decide)) ?_
  refine X.shlE (zz := ((((sw 1 1431655765 y) &&& 858993459) * 2 ^ 2 : Nat) : Int)) rfl rfl rfl rfl rfl rfl (by omega) (shl32 2 858993459 _ (by decide) (by decide)) ?_
  refine X.borE (zz := ((sw 2 858993459 (sw 1 1431655765 y) : Nat) : Int)) rfl rfl rfl rfl rfl rfl (or32 rfl rfl (Nat.lt_of_le_of_lt Nat.and_le_right (by decide)) (Nat.lt_of_le_of_lt (Nat.mul_le_mul_right _ Nat.and_le_right) (by decide))) ?_
  replace hy := sw_lt 2 858993459 (sw 1 1431655765 y) (by decide) (by decide)
  refine X.asg rfl rfl rfl rfl rfl ?_
  refine X.done [(0, _), (2, _)] ⟨rfl, rfl, trivial⟩ ?_
  refine N.then ?_
  refine E.seq ?_
  refine E.region ?_
  refine X.mv rfl rfl rfl rfl rfl ?_
  refine X.shrE (zz := (((sw 2 858993459 (sw 1 1431655765 y)) / 2 ^ 4 : Nat) : Int)) rfl rfl rfl rfl rfl rfl (by omega) (shrN (rfl) (rfl) (by show _ ≤ 32; omega)) ?_
  refine X.bandE (zz := ((((sw 2 858993459 (sw 1 1431655765 y)) / 2 ^ 4) &&& 252645135 : Nat) : Int)) rfl rfl rfl rfl rfl rfl (and32 rfl rfl (Nat.lt_of_le_of_lt (Nat.div_le_self _ _) hy) (by decide)) ?_
  refine X.mv rfl rfl rfl rfl rfl ?_
  refine X.bandE (zz := (((sw 2 858993459 (sw 1 1431655765 y)) &&& 252645135 : Nat) : Int)) rfl rfl rfl rfl rfl rfl (and32 rfl rfl hy (by decide)) ?_
  refine X.shlE (zz := ((((sw 2 858993459 (sw 1 1431655765 y)) &&& 252645135) * 2 ^ 4 : Nat) : Int)) rfl rfl rfl rfl rfl rfl (by omega) (shl32 4 252645135 _ (by decide) (by decide)) ?_
  refine X.borE (zz := ((sw 4 252645135 (sw 2 858993459 (sw 1 1431655765 y)) : Nat) : Int)) rfl rfl rfl rfl rfl rfl (or32 rfl rfl (Nat.lt_of_le_of_lt Nat.and_le_right (by decide)) (Nat.lt_of_le_of_lt (Nat.mul_le_mul_right _ Nat.and_le_right) (by decide))) ?_
  replace hy := sw_lt 4 252645135 (sw 2 858993459 (sw 1 1431655765 y)) (by decide) (by decide)
  refine X.asg rfl rfl rfl rfl rfl ?_
  refine X.done [(0, _), (2, _)] ⟨rfl, rfl, trivial⟩ ?_
  refine N.then ?_
  refine E.seq ?_
  refine E.region ?_
  refine X.mv rfl rfl rfl rfl rfl ?_
  refine X.call rfl rfl rfl rfl rfl Try.cl46 (revb_ct (sw 4 252645135 (sw 2 858993459 (sw 1 1431655765 y))) H hy) ?_
  rintro _ H1 ⟨rfl, eH1⟩
  obtain rfl := eH1.symm
  refine X.asg rfl rfl rfl rfl rfl ?_
  refine X.done [(2, _)] ⟨rfl, trivial⟩ ?_
  refine N.then ?_
  refine E.ret ?_
  exact N.retH [_] ⟨_, _, rfl, rfl, rfl⟩ ⟨rfl, rfl⟩

theorem turn_bad_ct (v n : Int) (H : Heap) (hn : n < 0 ∨ 32 < n) : Ct Try.prog 9 #[i64 v, i64 n] H fun u H' => u = i64 0 ∧ H' = H := by
  refine Ct.into 20 Try.func9 rfl [(0, i64 v), (1, i64 n)] rfl ⟨rfl, rfl, trivial⟩ ?_
  refine E.seq ?_
  refine E.region ?_
  refine X.asg rfl rfl rfl rfl rfl ?_
  refine X.done [(0, _), (1, _), (4, _)] ⟨rfl, rfl, rfl, trivial⟩ ?_
  refine N.then ?_
  refine E.seq ?_
  refine E.seq ?_
  refine E.region ?_
  refine X.mv rfl rfl rfl rfl rfl ?_
  refine X.call rfl rfl rfl rfl rfl Try.cl41 (manyF_ct n H hn) ?_
  rintro _ H2 ⟨rfl, eH2⟩
  obtain rfl := eH2.symm
  refine X.notF rfl rfl rfl rfl rfl ?_
  refine X.mv rfl rfl rfl rfl rfl ?_
  refine X.skip rfl rfl rfl ?_
  refine X.skip rfl rfl rfl ?_
  refine X.pickT rfl rfl rfl rfl rfl rfl ?_
  refine X.done [(0, _), (1, _), (4, _), (11, _)] ⟨rfl, rfl, rfl, rfl, trivial⟩ ?_
  refine N.then ?_
  refine E.condT rfl ?_
  refine E.seq ?_
  refine E.region ?_
  refine X.asg rfl rfl rfl rfl rfl ?_
  refine X.done [(0, _), (1, _), (4, _)] ⟨rfl, rfl, rfl, trivial⟩ ?_
  refine N.then ?_
  refine E.ret ?_
  refine N.thenR ?_
  exact N.retH [_] ⟨_, _, rfl, rfl, rfl⟩ ⟨rfl, rfl⟩

theorem turn_ok_ct (v : Int) (n : Nat) (H : Heap) (hn : n ≤ 32) : Ct Try.prog 9 #[i64 v, i64 n] H fun u H' => u = i64 (turn (v % 18446744073709551616).toNat n) ∧ H' = H := by
  have hrd : rev ((v % 18446744073709551616).toNat % 2 ^ 32) / 2 ^ (32 - n) = turn (v % 18446744073709551616).toNat n := by rw [rev_turn, turn_div _ hn, turn_mod hn]
  have htl := turn_lt (v % 18446744073709551616).toNat n
  have hpn : 2 ^ n ≤ 2 ^ 32 := Nat.pow_le_pow_right (by omega) hn
  refine Ct.into 20 Try.func9 rfl [(0, i64 v), (1, i64 n)] rfl ⟨rfl, rfl, trivial⟩ ?_
  refine E.seq ?_
  refine E.region ?_
  refine X.asg rfl rfl rfl rfl rfl ?_
  refine X.done [(0, _), (1, _), (4, _)] ⟨rfl, rfl, rfl, trivial⟩ ?_
  refine N.then ?_
  refine E.seq ?_
  refine E.seq ?_
  refine E.region ?_
  refine X.mv rfl rfl rfl rfl rfl ?_
  refine X.call rfl rfl rfl rfl rfl Try.cl41 (many_ct n H (by omega)) ?_
  rintro _ H1 ⟨rfl, eH1⟩
  obtain rfl := eH1.symm
  refine X.notT rfl rfl rfl rfl rfl ?_
  refine X.mv rfl rfl rfl rfl rfl ?_
  refine X.mv rfl rfl rfl rfl rfl ?_
  refine X.eql rfl rfl rfl rfl rfl rfl ?_
  refine X.pickF rfl rfl rfl rfl rfl rfl ?_
  refine X.done [(0, _), (1, _), (4, _), (11, _)] ⟨rfl, rfl, rfl, rfl, trivial⟩ ?_
  refine N.then ?_
  refine E.condD rfl (fun hc => ?_) (fun hc => ?_)
  · refine E.seq ?_
    refine E.region ?_
    refine X.asg rfl rfl rfl rfl rfl ?_
    refine X.done [(0, _), (1, _), (4, _)] ⟨rfl, rfl, rfl, trivial⟩ ?_
    refine N.then ?_
    refine E.ret ?_
    refine N.thenR ?_
    exact N.retH [_] ⟨_, _, rfl, rfl, rfl⟩ ⟨by rw [show n = 0 by omega]; rfl, rfl⟩
  · refine E.skip ?_
    refine N.then ?_
    refine E.seq ?_
    refine E.region ?_
    refine X.mv rfl rfl rfl rfl rfl ?_
    refine X.convE (zz := (((v % 18446744073709551616).toNat % 2 ^ 32 : Nat) : Int)) rfl rfl rfl rfl rfl Try.underlying67 Try.us3 (u32_wrap v) ?_
    refine X.call rfl rfl rfl rfl rfl Try.cl42 (rev_ct ((v % 18446744073709551616).toNat % 2 ^ 32) H (Nat.mod_lt _ (by decide))) ?_
    rintro _ H2 ⟨rfl, eH2⟩
    obtain rfl := eH2.symm
    refine X.mv rfl rfl rfl rfl rfl ?_
    refine X.sbE (zz := ((32 - n : Nat) : Int)) rfl rfl rfl rfl rfl rfl (by rw [IntWalk.i64_in _ (by omega)] <;> omega) ?_
    refine X.convE (zz := ((32 - n : Nat) : Int)) rfl rfl rfl rfl rfl Try.underlying24 Try.us3 (IntWalk.u64_in _ (by omega)) ?_
    refine X.shrE (zz := ((rev ((v % 18446744073709551616).toNat % 2 ^ 32) / 2 ^ (32 - n) : Nat) : Int)) rfl rfl rfl rfl rfl rfl (by omega) (shrN (rfl) (rfl) (by show _ ≤ 32; omega)) ?_
    rw [hrd]
    refine X.convE (zz := ((turn (v % 18446744073709551616).toNat n : Nat) : Int)) rfl rfl rfl rfl rfl Try.underlying3 Try.us67 (IntWalk.i64_in _ (by omega)) ?_
    refine X.asg rfl rfl rfl rfl rfl ?_
    refine X.done [(4, _)] ⟨rfl, trivial⟩ ?_
    refine N.then ?_
    refine E.ret ?_
    exact N.retH [_] ⟨_, _, rfl, rfl, rfl⟩ ⟨rfl, rfl⟩

theorem rturn_bad_ct (v n : Int) (H : Heap) (hn : n < 0 ∨ 32 < n) : Ct Try.prog 10 #[i64 v, i64 n] H fun u H' => u = i64 0 ∧ H' = H := by
  refine Ct.into 29 Try.func10 rfl [(0, i64 v), (1, i64 n)] rfl ⟨rfl, rfl, trivial⟩ ?_
  refine E.seq ?_
  refine E.region ?_
  refine X.asg rfl rfl rfl rfl rfl ?_
  refine X.done [(0, _), (1, _), (4, _)] ⟨rfl, rfl, rfl, trivial⟩ ?_
  refine N.then ?_
  refine E.seq ?_
  refine E.seq ?_
  refine E.region ?_
  refine X.mv rfl rfl rfl rfl rfl ?_
  refine X.lssC rfl rfl rfl rfl rfl rfl (fun hc => ?_) (fun hc => ?_)
  · refine X.mv rfl rfl rfl rfl rfl ?_
    refine X.skip rfl rfl rfl ?_
    refine X.skip rfl rfl rfl ?_
    refine X.pickT rfl rfl rfl rfl rfl rfl ?_
    refine X.done [(0, _), (1, _), (4, _), (12, _)] ⟨rfl, rfl, rfl, rfl, trivial⟩ ?_
    refine N.then ?_
    refine E.condT rfl ?_
    refine E.seq ?_
    refine E.region ?_
    refine X.asg rfl rfl rfl rfl rfl ?_
    refine X.done [(0, _), (1, _), (4, _)] ⟨rfl, rfl, rfl, trivial⟩ ?_
    refine N.then ?_
    refine E.ret ?_
    refine N.thenR ?_
    exact N.retH [_] ⟨_, _, rfl, rfl, rfl⟩ ⟨rfl, rfl⟩
  · refine X.mv rfl rfl rfl rfl rfl ?_
    refine X.mv rfl rfl rfl rfl rfl ?_
    refine X.gtrT rfl rfl rfl rfl rfl rfl (by omega) ?_
    refine X.pickF rfl rfl rfl rfl rfl rfl ?_
    refine X.done [(0, _), (1, _), (4, _), (12, _)] ⟨rfl, rfl, rfl, rfl, trivial⟩ ?_
    refine N.then ?_
    refine E.condT rfl ?_
    refine E.seq ?_
    refine E.region ?_
    refine X.asg rfl rfl rfl rfl rfl ?_
    refine X.done [(0, _), (1, _), (4, _)] ⟨rfl, rfl, rfl, trivial⟩ ?_
    refine N.then ?_
    refine E.ret ?_
    refine N.thenR ?_
    exact N.retH [_] ⟨_, _, rfl, rfl, rfl⟩ ⟨rfl, rfl⟩

theorem rturn_ok_ct (v : Int) (n : Nat) (H : Heap) (hn : n ≤ 32) : Ct Try.prog 10 #[i64 v, i64 n] H fun u H' => u = i64 (turn (v % 18446744073709551616).toNat n) ∧ H' = H := by
  have hZ : (v % 18446744073709551616).toNat < 2 ^ 64 := by omega
  refine Ct.into 29 Try.func10 rfl [(0, i64 v), (1, i64 n)] rfl ⟨rfl, rfl, trivial⟩ ?_
  refine E.seq ?_
  refine E.region ?_
  refine X.asg rfl rfl rfl rfl rfl ?_
  refine X.done [(0, _), (1, _), (4, _)] ⟨rfl, rfl, rfl, trivial⟩ ?_
  refine N.then ?_
  refine E.seq ?_
  refine E.seq ?_
  refine E.region ?_
  refine X.mv rfl rfl rfl rfl rfl ?_
  refine X.lssF rfl rfl rfl rfl rfl rfl (by omega) ?_
  refine X.mv rfl rfl rfl rfl rfl ?_
  refine X.mv rfl rfl rfl rfl rfl ?_
  refine X.gtrF rfl rfl rfl rfl rfl rfl (by omega) ?_
  refine X.pickF rfl rfl rfl rfl rfl rfl ?_
  refine X.done [(0, _), (1, _), (4, _), (12, _)] ⟨rfl, rfl, rfl, rfl, trivial⟩ ?_
  refine N.then ?_
  refine E.condF rfl ?_
  refine E.skip ?_
  refine N.then ?_
  refine E.seq ?_
  refine E.region ?_
  refine X.asg rfl rfl rfl rfl rfl ?_
  refine X.done [(0, _), (1, _), (4, _), (5, _)] ⟨rfl, rfl, rfl, rfl, trivial⟩ ?_
  refine N.then ?_
  refine E.seq ?_
  refine E.seq ?_
  refine E.region ?_
  refine X.asg rfl rfl rfl rfl rfl ?_
  refine X.done [(0, _), (1, _), (4, _), (5, _), (6, _)] ⟨rfl, rfl, rfl, rfl, rfl, trivial⟩ ?_
  refine N.then ?_
  refine E.block ?_
  -- MISSING in G: [4]
  refine E.loop (fun (i : Nat) => [(0, i64 v), (1, i64 n), (5, i64 (turn (v % 18446744073709551616).toNat i)), (6, i64 i)]) (fun (i : Nat) H' => i ≤ n ∧ H' = H) (fun (i : Nat) => n - i) 0 ⟨rfl, rfl, rfl, rfl, trivial⟩ ⟨Nat.zero_le _, rfl⟩ ?_
  rintro i H3 ⟨hi, eH3⟩
  obtain rfl := eH3.symm
  have htl := turn_lt (v % 18446744073709551616).toNat i
  have hpi : 2 ^ i ≤ 2 ^ 32 := Nat.pow_le_pow_right (by omega) (by omega)
  have hbt := bit_lt (v % 18446744073709551616).toNat i
  have hdl : (v % 18446744073709551616).toNat / 2 ^ i ≤ (v % 18446744073709551616).toNat := Nat.div_le_self _ _
  refine E.seq ?_
  refine E.seq ?_
  refine E.region ?_
  refine X.mv rfl rfl rfl rfl rfl ?_
  refine X.mv rfl rfl rfl rfl rfl ?_
  refine X.lss rfl rfl rfl rfl rfl rfl ?_
  refine X.done [(0, _), (1, _), (5, _), (6, _), (13, _), (14, _), (15, _)] ⟨rfl, rfl, rfl, rfl, rfl, rfl, rfl, trivial⟩ ?_
  refine N.then ?_
  refine E.condD rfl (fun hc => ?_) (fun hc => ?_)
  · refine E.skip ?_
    refine N.then ?_
    refine E.seq ?_
    refine E.block ?_
    refine E.region ?_
    refine X.mv rfl rfl rfl rfl rfl ?_
    refine X.mulE (zz := ((2 * turn (v % 18446744073709551616).toNat i : Nat) : Int)) rfl rfl rfl rfl rfl rfl (by rw [IntWalk.i64_in _ (by omega)] <;> omega) ?_
    refine X.mv rfl rfl rfl rfl rfl ?_
    refine X.convE (zz := ((v % 18446744073709551616).toNat : Int)) rfl rfl rfl rfl rfl Try.underlying62 Try.us3 (u64_wrap v) ?_
    refine X.mv rfl rfl rfl rfl rfl ?_
    refine X.convE (zz := (i : Int)) rfl rfl rfl rfl rfl Try.underlying24 Try.us3 (IntWalk.u64_in _ (by omega)) ?_
    refine X.shrE (zz := (((v % 18446744073709551616).toNat / 2 ^ i : Nat) : Int)) rfl rfl rfl rfl rfl rfl (by omega) (shrN (rfl) (rfl) (by show _ ≤ 64; omega)) ?_
    refine X.remE (zz := (((v % 18446744073709551616).toNat / 2 ^ i % 2 : Nat) : Int)) rfl rfl rfl rfl rfl rfl (by omega) (tmod2 _) ?_
    refine X.convE (zz := (((v % 18446744073709551616).toNat / 2 ^ i % 2 : Nat) : Int)) rfl rfl rfl rfl rfl Try.underlying3 Try.us62 (IntWalk.i64_in _ (by omega)) ?_
    refine X.addE (zz := ((turn (v % 18446744073709551616).toNat (i + 1) : Nat) : Int)) rfl rfl rfl rfl rfl rfl (by rw [IntWalk.i64_in _ (by omega)] <;> (simp only [turn]; omega)) ?_
    refine X.asg rfl rfl rfl rfl rfl ?_
    refine X.done [(0, _), (1, _), (5, _), (6, _), (13, _), (14, _), (15, _), (18, _), (19, _), (20, _), (21, _), (22, _), (23, _), (24, _), (25, _), (26, _), (27, _)] ⟨rfl, rfl, rfl, rfl, rfl, rfl, rfl, rfl, rfl, rfl, rfl, rfl, rfl, rfl, rfl, rfl, rfl, trivial⟩ ?_
    refine N.blk ?_
    refine N.then ?_
    refine E.region ?_
    refine X.mv rfl rfl rfl rfl rfl ?_
    refine X.add rfl rfl rfl rfl rfl rfl (by omega) ?_
    refine X.asg rfl rfl rfl rfl rfl ?_
    refine X.done [(0, _), (1, _), (5, _), (6, _), (13, _), (14, _), (15, _), (18, _), (19, _), (20, _), (21, _), (22, _), (23, _), (24, _), (25, _), (26, _), (27, _), (16, _), (17, _)] ⟨rfl, rfl, rfl, rfl, rfl, rfl, rfl, rfl, rfl, rfl, rfl, rfl, rfl, rfl, rfl, rfl, rfl, rfl, rfl, trivial⟩ ?_
    exact N.next (G := fun (i : Nat) => _) (i + 1) ⟨rfl, rfl, rfl, rfl, trivial⟩ ⟨by omega, rfl⟩ (by show n - (i + 1) < n - i; omega)
  · refine E.exit ?_
    refine N.thenX ?_
    refine N.loopX ?_
    refine N.blkX ?_
    refine N.then ?_
    refine E.seq ?_
    refine E.region ?_
    refine X.mv rfl rfl rfl rfl rfl ?_
    refine X.asg rfl rfl rfl rfl rfl ?_
    refine X.done [(4, _)] ⟨rfl, trivial⟩ ?_
    refine N.then ?_
    refine E.ret ?_
    exact N.retH [_] ⟨_, _, rfl, rfl, rfl⟩ ⟨by rw [show i = n by omega]; rfl, rfl⟩


theorem turn_ct (v n : Int) (H : Heap) : Ct Try.prog 9 #[i64 v, i64 n] H fun u H' => u = i64 (turnV v n) ∧ H' = H := by
  by_cases h : 0 ≤ n ∧ n ≤ 32
  · obtain ⟨m, rfl⟩ := Int.eq_ofNat_of_zero_le h.1
    unfold turnV; rw [if_pos h]; exact turn_ok_ct v m H (by omega)
  · unfold turnV; rw [if_neg h]; exact turn_bad_ct v n H (by omega)
theorem rturn_ct (v n : Int) (H : Heap) : Ct Try.prog 10 #[i64 v, i64 n] H fun u H' => u = i64 (turnV v n) ∧ H' = H := by
  by_cases h : 0 ≤ n ∧ n ≤ 32
  · obtain ⟨m, rfl⟩ := Int.eq_ofNat_of_zero_le h.1
    unfold turnV; rw [if_pos h]; exact rturn_ok_ct v m H (by omega)
  · unfold turnV; rw [if_neg h]; exact rturn_bad_ct v n H (by omega)

end Go.Proofs.Ytpengkmmgpoofaa