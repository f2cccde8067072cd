/- The walks: the reader's smallest parts. -/
import Derived.Test.YtcandjdomeompaaDoorRP
import Derived.Test.YtcandjdomeompaaDoorO
namespace Go.Proofs.YtcandjdomeompaaDoor
open Go.SX Go.Chr
attribute [local irreducible] X E N Ct
set_option linter.unusedVariables false
set_option linter.unusedSimpArgs false
abbrev PH (p : Nat) (s : Bs) (st : St) (H : Heap) : Prop := H[p]? = some (.cells (pcl s st).toArray 47 (0, 0))
theorem tk_f1 {s : Bs} {st : St} {c : Nat} (h : (nx s st).2 = false) : tk s c st = (false, st) := by
  unfold tk; rw [if_neg]; intro e; rw [e] at h; cases h
theorem tk_f2 {s : Bs} {st : St} {c : Nat} (h : (nx s st).1 ≠ c) : tk s c st = (false, st) := by
  unfold tk; rw [if_neg]; intro e; rw [e] at h; exact h rfl
theorem tk_t {s : Bs} {st : St} {c : Nat} (h1 : (nx s st).1 = c) (h2 : (nx s st).2 = true) : tk s c st = (true, adv st) := by
  unfold tk; rw [if_pos (Prod.ext h1 h2)]
theorem inS_a {s : Bs} {st : St} (hb : (nx s st).2 = true) (h : (nx s st).1 ≠ 124) : inS s st = decide ((((nx s st).1 : Nat) : Int) ≠ 41) := by
  unfold inS; rw [hb, decide_eq_true h]
  show decide _ = _
  exact dec_eq (by omega)
theorem inS_b {s : Bs} {st : St} (h : (nx s st).1 = 124) : inS s st = false := by
  unfold inS; rw [decide_eq_false (by simp [h])]; simp
theorem inS_c {s : Bs} {st : St} (hb : (nx s st).2 = false) : inS s st = false := by unfold inS; rw [hb]; rfl
theorem dgT {c : Nat} {base n : Int} {b : Bool} (hn : n = dgN c) (hb : b = true ↔ 0 ≤ n ∧ n < base) : Value.tuple #[i64 n, .bool b] = .tuple #[i64 (dgN c), .bool (dgO c base)] := by
  subst hn
  have : b = dgO c base := by unfold dgO; exact Bool.eq_iff_iff.2 (hb.trans decide_eq_true_iff.symm)
  rw [this]
theorem cnt_of {low high : Int} {b : Bool} (h : b = true ↔ (0 ≤ low ∧ low ≤ 30 ∧ (high = -1 ∨ low ≤ high ∧ high ≤ 30))) : b = cntV low high := by
  unfold cntV; exact Bool.eq_iff_iff.2 (h.trans decide_eq_true_iff.symm)
def tgt (k : Int) : Int := if k = 4 then 0 else if k = 3 then 1 else if k = 1 ∨ k = 2 then 3 else 2
theorem dgO_lt {c : Nat} {b : Int} (h : dgO c b = true) : 0 ≤ dgN c ∧ dgN c < b := by unfold dgO at h; exact of_decide_eq_true h
theorem numE {s : Bs} {i : Nat} {n : Int} {st : St} {r : Int × St} (h : numF s (2 - i) i n st = r) (hi : i < 2) (hd : dgO (nx s st).1 10 = false) : r = (n, if i = 0 then fl 15 (st.at_ : Nat) st else st) := by
  rw [← h, show 2 - i = (1 - i) + 1 by omega, numF, hd]; rfl
theorem numS {s : Bs} {i : Nat} {n : Int} {st : St} {r : Int × St} (h : numF s (2 - i) i n st = r) (hi : i < 2) (hd : dgO (nx s st).1 10 = true) : numF s (2 - (i + 1)) (i + 1) (10 * n + dgN (nx s st).1) (adv st) = r := by
  rw [← h, show 2 - i = (2 - (i + 1)) + 1 by omega, numF, hd]; rfl
structure NQ where
  i : Nat
  n : Int
  st : St
theorem wit_step {s : Bs} {c i : Nat} {cb : UInt8} (h : s[i]? = some cb) : (decide (u8 c ∈ s.take (i + 1))) = (decide (u8 c ∈ s.take i) || decide (u8 c = cb)) := by
  rw [List.take_add_one, h]
  simp [Bool.decide_or]

theorem within_ct (s : Bs) (c : Nat) (H : Heap) (hc8 : c < 256) (hs : s.length ≤ 1000) : Ct Tryd.prog 61 #[str s, .int .u8 c] H fun v H' => v = .bool (decide (u8 c ∈ s)) ∧ H' = H := by
  refine Ct.into 17 Tryd.func61 rfl [(0, str s), (1, .int .u8 c)] rfl ⟨rfl, rfl, trivial⟩ ?_
  refine E.seq ?_
  refine E.region ?_
  refine X.asg rfl rfl rfl rfl rfl ?_
  refine X.done [(0, _), (1, _), (4, _)] ⟨rfl, rfl, rfl, trivial⟩ ?_
  refine N.then ?_
  refine E.seq ?_
  refine E.seq ?_
  refine E.region ?_
  refine X.mv rfl rfl rfl rfl rfl ?_
  refine X.lenL rfl rfl rfl rfl rfl Tryd.underlying9 ?_
  refine X.mv rfl rfl rfl rfl rfl ?_
  refine X.done [(0, _), (1, _), (4, _), (7, _), (8, _)] ⟨rfl, rfl, rfl, rfl, rfl, trivial⟩ ?_
  refine N.then ?_
  refine E.block ?_
  -- MISSING in G: [4]
  refine E.loop (fun (i : Nat) => [(0, str s), (1, .int .u8 c), (7, i64 s.length), (8, i64 i)]) (fun (i : Nat) H' => i ≤ s.length ∧ H' = H ∧ decide (u8 c ∈ s.take i) = false) (fun (i : Nat) => s.length - i) 0 ⟨rfl, rfl, rfl, rfl, trivial⟩ ⟨Nat.zero_le _, rfl, rfl⟩ ?_
  rintro i H3 ⟨hi, eH, hJ⟩
  obtain rfl := eH.symm
  refine E.seq ?_
  refine E.region ?_
  refine X.lss rfl rfl rfl rfl rfl rfl ?_
  refine X.done [(0, _), (1, _), (7, _), (8, _), (9, _)] ⟨rfl, rfl, rfl, rfl, rfl, trivial⟩ ?_
  refine N.then ?_
  refine E.seq ?_
  refine E.condD rfl (fun hc => ?_) (fun hc => ?_)
  · refine E.skip ?_
    refine N.then ?_
    refine E.seq ?_
    refine E.block ?_
    refine E.seq ?_
    refine E.region ?_
    refine X.mv rfl rfl rfl rfl rfl ?_
    refine X.asg rfl rfl rfl rfl rfl ?_
    refine X.done [(0, _), (1, _), (7, _), (8, _), (9, _), (10, _), (5, _)] ⟨rfl, rfl, rfl, rfl, rfl, rfl, rfl, trivial⟩ ?_
    refine N.then ?_
    refine E.seq ?_
    have hi2 : i < s.length := Int.ofNat_lt.1 (by assumption)
    obtain ⟨cb, hcb⟩ : ∃ cb, s[i]? = some cb := ⟨_, List.getElem?_eq_getElem hi2⟩
    refine E.region ?_
    refine X.mv rfl rfl rfl rfl rfl ?_
    refine X.mv rfl rfl rfl rfl rfl ?_
    refine X.ixS rfl rfl rfl rfl rfl rfl Tryd.underlying9 (by omega) (by exact hcb) ?_
    have hu : True := trivial
    refine X.mv rfl rfl rfl rfl rfl ?_
    refine X.eql rfl rfl rfl rfl rfl rfl ?_
    refine X.done [(0, _), (1, _), (7, _), (8, _), (9, _), (10, _), (5, _), (11, _), (12, _), (13, _), (14, _), (15, _)] ⟨rfl, rfl, rfl, rfl, rfl, rfl, rfl, rfl, rfl, rfl, rfl, rfl, trivial⟩ ?_
    refine N.then ?_
    refine E.condD rfl (fun hc => ?_) (fun hc => ?_)
    · refine E.seq ?_
      refine E.region ?_
      refine X.asg rfl rfl rfl rfl rfl ?_
      refine X.done [(0, _), (1, _), (7, _), (8, _), (9, _), (10, _), (5, _), (11, _), (12, _), (13, _), (14, _), (15, _), (4, _)] ⟨rfl, rfl, rfl, rfl, rfl, rfl, rfl, rfl, rfl, rfl, rfl, rfl, rfl, trivial⟩ ?_
      refine N.then ?_
      refine E.ret ?_
      refine N.blkR ?_
      refine N.thenR ?_
      refine N.loopR ?_
      refine N.blkR ?_
      refine N.thenR ?_
      exact N.retH [_] ⟨_, _, rfl, rfl, rfl⟩ ⟨congrArg Value.bool (decide_eq_true (by
        have hy : (cb.toNat : Int) = c := by assumption
        have : u8 c = cb := by rw [← Int.ofNat.inj hy, u8_toNat]
        rw [this]; exact List.mem_of_getElem? hcb)).symm, rfl⟩
    · refine E.skip ?_
      refine N.blk ?_
      refine N.then ?_
      have hn : ¬ ((cb.toNat : Int) = c) := by assumption
      refine E.region ?_
      refine X.add rfl rfl rfl rfl rfl rfl (by omega) ?_
      refine X.mv rfl rfl rfl rfl rfl ?_
      refine X.done [(0, _), (1, _), (7, _), (8, _), (9, _), (10, _), (5, _), (11, _), (12, _), (13, _), (14, _), (15, _), (16, _)] ⟨rfl, rfl, rfl, rfl, rfl, rfl, rfl, rfl, rfl, rfl, rfl, rfl, rfl, trivial⟩ ?_
      exact N.next (i + 1) ⟨rfl, rfl, rfl, rfl, trivial⟩ ⟨by omega, rfl, by rw [wit_step hcb, hJ, Bool.false_or]; exact decide_eq_false (fun h => hn (by rw [← h, u8_nat hc8]))⟩ (by omega)
  · refine E.exit ?_
    refine N.thenX ?_
    refine N.loopX ?_
    refine N.blkX ?_
    refine N.then ?_
    refine E.seq ?_
    refine E.region ?_
    refine X.asg rfl rfl rfl rfl rfl ?_
    refine X.done [(4, _)] ⟨rfl, trivial⟩ ?_
    refine N.then ?_
    refine E.ret ?_
    exact N.retH [_] ⟨_, _, rfl, rfl, rfl⟩ ⟨by rw [← hJ, List.take_of_length_le (by omega)]; rfl, rfl⟩

theorem next_ct (s : Bs) (p : Nat) (st : St) (H : Heap) (hP : PH p s st H) : Ct Tryd.prog 23 #[ptr p] H fun v H' => v = .tuple #[.int .u8 ((nx s st).1 : Nat), .bool (nx s st).2] ∧ H' = H := by
  refine Ct.into 30 Tryd.func23 rfl [(0, ptr p)] rfl ⟨rfl, trivial⟩ ?_
  refine E.seq ?_
  refine E.region ?_
  refine X.asg rfl rfl rfl rfl rfl ?_
  refine X.asg rfl rfl rfl rfl rfl ?_
  refine X.done [(0, _), (2, _), (3, _)] ⟨rfl, rfl, rfl, trivial⟩ ?_
  refine N.then ?_
  refine E.seq ?_
  refine E.seq ?_
  refine E.regionD (fun H' => H' = H) [(0, .pu), (1, .pu), (2, .pu), (3, .st), (4, .pu), (5, .pu), (6, .pu), (7, .pu), (8, .pu), (9, .st), (10, .pu), (11, .pu), (12, .pu), (13, .st), (14, .pu), (15, .pu), (16, .pu)] Tryd.mixed (by kernel_rfl) (rfl) ?_
  refine X.mv rfl rfl rfl rfl rfl ?_
  refine X.nilP rfl rfl rfl rfl rfl ?_
  refine X.fld rfl rfl rfl rfl rfl Tryd.off47_2 ?_
  refine X.ld rfl rfl rfl rfl Tryd.ag24 (fun H' hF => by rw [hF]; exact hP) (rfl) ?_
  refine X.neqC rfl rfl rfl rfl rfl rfl (fun hc => ?_) (fun hc => ?_)
  · refine X.mv rfl rfl rfl rfl rfl ?_
    refine X.skip rfl rfl rfl ?_
    refine X.skip rfl rfl rfl ?_
    refine X.skip rfl rfl rfl ?_
    refine X.skip rfl rfl rfl ?_
    refine X.skip rfl rfl rfl ?_
    refine X.skip rfl rfl rfl ?_
    refine X.skip rfl rfl rfl ?_
    refine X.skip rfl rfl rfl ?_
    refine X.skip rfl rfl rfl ?_
    refine X.skip rfl rfl rfl ?_
    refine X.pickT rfl rfl rfl rfl rfl rfl ?_
    refine X.done [(0, _), (2, _), (3, _), (20, _)] ⟨rfl, rfl, rfl, rfl, trivial⟩ ?_
    refine N.then ?_
    refine E.condT rfl ?_
    refine E.seq ?_
    refine E.region ?_
    refine X.asg rfl rfl rfl rfl rfl ?_
    refine X.asg rfl rfl rfl rfl rfl ?_
    refine X.done [(0, _), (2, _), (3, _)] ⟨rfl, rfl, rfl, trivial⟩ ?_
    refine N.then ?_
    refine E.ret ?_
    refine N.thenR ?_
    exact N.retH [_, _] ⟨_, _, rfl, rfl, _, _, rfl, rfl, rfl⟩ ⟨by rw [nx_no (by omega)]; rfl, rfl⟩
  · refine X.mv rfl rfl rfl rfl rfl ?_
    refine X.mv rfl rfl rfl rfl rfl ?_
    refine X.nilP rfl rfl rfl rfl rfl ?_
    refine X.fld rfl rfl rfl rfl rfl Tryd.off47_1 ?_
    refine X.ld rfl rfl rfl rfl Tryd.ag3 (fun H' hF => by rw [hF]; exact hP) (rfl) ?_
    refine X.mv rfl rfl rfl rfl rfl ?_
    refine X.nilP rfl rfl rfl rfl rfl ?_
    refine X.fld rfl rfl rfl rfl rfl Tryd.off47_0 ?_
    refine X.ld rfl rfl rfl rfl Tryd.ag9 (fun H' hF => by rw [hF]; exact hP) (rfl) ?_
    refine X.lenL rfl rfl rfl rfl rfl Tryd.underlying9 ?_
    refine X.geq rfl rfl rfl rfl rfl rfl ?_
    refine X.pickF rfl rfl rfl rfl rfl rfl ?_
    refine X.done [(0, _), (2, _), (3, _), (20, _)] ⟨rfl, rfl, rfl, rfl, trivial⟩ ?_
    refine N.then ?_
    refine E.condD rfl (fun hc => ?_) (fun hc => ?_)
    · refine E.seq ?_
      refine E.region ?_
      refine X.asg rfl rfl rfl rfl rfl ?_
      refine X.asg rfl rfl rfl rfl rfl ?_
      refine X.done [(0, _), (2, _), (3, _)] ⟨rfl, rfl, rfl, trivial⟩ ?_
      refine N.then ?_
      refine E.ret ?_
      refine N.thenR ?_
      exact N.retH [_, _] ⟨_, _, rfl, rfl, _, _, rfl, rfl, rfl⟩ ⟨by rw [nx_no (by omega)]; rfl, rfl⟩
    · refine E.skip ?_
      refine N.then ?_
      refine E.seq ?_
      have hi2 : st.at_ < s.length := by omega
      have hcb : s[st.at_]? = some (s.getD st.at_ 0) := by rw [List.getD_eq_getElem?_getD, List.getElem?_eq_getElem hi2]; rfl
      refine E.regionD (fun H' => H' = H) [(0, .pu), (1, .pu), (2, .pu), (3, .st), (4, .pu), (5, .pu), (6, .pu), (7, .st), (8, .pu), (9, .pu), (10, .pu)] Tryd.mixed (by kernel_rfl) (rfl) ?_
      refine X.mv rfl rfl rfl rfl rfl ?_
      refine X.nilP rfl rfl rfl rfl rfl ?_
      refine X.fld rfl rfl rfl rfl rfl Tryd.off47_0 ?_
      refine X.ld rfl rfl rfl rfl Tryd.ag9 (fun H' hF => by rw [hF]; exact hP) (rfl) ?_
      refine X.mv rfl rfl rfl rfl rfl ?_
      refine X.nilP rfl rfl rfl rfl rfl ?_
      refine X.fld rfl rfl rfl rfl rfl Tryd.off47_1 ?_
      refine X.ld rfl rfl rfl rfl Tryd.ag3 (fun H' hF => by rw [hF]; exact hP) (rfl) ?_
      refine X.ixS rfl rfl rfl rfl rfl rfl Tryd.underlying9 (by omega) (by exact hcb) ?_
      refine X.asg rfl rfl rfl rfl rfl ?_
      refine X.asg rfl rfl rfl rfl rfl ?_
      refine X.done [(2, _), (3, _)] ⟨rfl, rfl, trivial⟩ ?_
      refine N.then ?_
      refine E.ret ?_
      exact N.retH [_, _] ⟨_, _, rfl, rfl, _, _, rfl, rfl, rfl⟩ ⟨by rw [nx_of (by omega) hi2]; rfl, rfl⟩

theorem fail_ct (s : Bs) (p : Nat) (st : St) (e a : Int) (H : Heap) (hP : PH p s st H) : Ct Tryd.prog 24 #[ptr p, i64 e, i64 a] H fun v H' => v = .tuple #[] ∧ PH p s (fl e a st) H' ∧ Kp [p] H H' := by
  refine Ct.into 19 Tryd.func24 rfl [(0, ptr p), (1, i64 e), (2, i64 a)] rfl ⟨rfl, rfl, rfl, trivial⟩ ?_
  refine E.seq ?_
  refine E.region ?_
  refine X.mv rfl rfl rfl rfl rfl ?_
  refine X.nilP rfl rfl rfl rfl rfl ?_
  refine X.fld rfl rfl rfl rfl rfl Tryd.off47_2 ?_
  refine X.ld rfl rfl rfl rfl Tryd.ag24 (hP) (rfl) ?_
  refine X.eql rfl rfl rfl rfl rfl rfl ?_
  refine X.done [(0, _), (1, _), (2, _), (10, _)] ⟨rfl, rfl, rfl, rfl, trivial⟩ ?_
  refine N.then ?_
  refine E.condD rfl (fun hc => ?_) (fun hc => ?_)
  · refine E.region ?_
    refine X.mv rfl rfl rfl rfl rfl ?_
    refine X.mv rfl rfl rfl rfl rfl ?_
    refine X.mv rfl rfl rfl rfl rfl ?_
    refine X.mv rfl rfl rfl rfl rfl ?_
    refine X.nilP rfl rfl rfl rfl rfl ?_
    refine X.fld rfl rfl rfl rfl rfl Tryd.off47_2 ?_
    refine X.st rfl rfl rfl rfl rfl rfl rfl Tryd.sz24 hP (by show 2 < 4; omega) ?_
    intro H1 h1 hk1
    refine X.nilP rfl rfl rfl rfl rfl ?_
    refine X.fld rfl rfl rfl rfl rfl Tryd.off47_3 ?_
    refine X.st rfl rfl rfl rfl rfl rfl rfl Tryd.sz3 h1 (by show 3 < 4; omega) ?_
    intro H2 h2 hk2
    refine X.done [] trivial ?_
    exact N.endH [] rfl ⟨rfl, by unfold fl; rw [if_pos (by assumption)]; exact h2, hk1.trans hk2 (by simp)⟩
  · refine E.skip ?_
    exact N.endH [] rfl ⟨rfl, by unfold fl; rw [if_neg (by assumption)]; exact hP, Kp.refl _ _⟩

theorem take_ct (s : Bs) (p c : Nat) (st : St) (H : Heap) (hP : PH p s st H) (hs : s.length ≤ 1000) : Ct Tryd.prog 35 #[ptr p, .int .u8 c] H fun v H' => v = .bool (tk s c st).1 ∧ PH p s (tk s c st).2 H' ∧ Kp [p] H H' := by
  refine Ct.into 26 Tryd.func35 rfl [(0, ptr p), (1, .int .u8 c)] rfl ⟨rfl, rfl, trivial⟩ ?_
  refine E.seq ?_
  refine E.region ?_
  refine X.asg rfl rfl rfl rfl rfl ?_
  refine X.done [(0, _), (1, _), (4, _)] ⟨rfl, rfl, rfl, trivial⟩ ?_
  refine N.then ?_
  refine E.seq ?_
  refine E.seq ?_
  refine E.region ?_
  refine X.mv rfl rfl rfl rfl rfl ?_
  refine X.call rfl rfl rfl rfl rfl Tryd.cl23 (next_ct s p st H hP) ?_
  rintro _ Hx ⟨rfl, e⟩
  obtain rfl := e.symm
  cases hb : (nx s st).2
  · refine X.mv rfl rfl rfl rfl rfl ?_
    refine X.extract rfl rfl rfl rfl rfl rfl ?_
    refine X.extract rfl rfl rfl rfl rfl rfl ?_
    refine X.asg rfl rfl rfl rfl rfl ?_
    refine X.asg rfl rfl rfl rfl rfl ?_
    refine X.done [(0, _), (1, _), (4, _), (5, _), (6, _)] ⟨rfl, rfl, rfl, rfl, rfl, trivial⟩ ?_
    refine N.then ?_
    refine E.seq ?_
    refine E.region ?_
    refine X.mv rfl rfl rfl rfl rfl ?_
    refine X.notF rfl rfl rfl rfl rfl ?_
    refine X.mv rfl rfl rfl rfl rfl ?_
    refine X.skip rfl rfl rfl ?_
    refine X.skip rfl rfl rfl ?_
    refine X.skip rfl rfl rfl ?_
    refine X.pickT rfl rfl rfl rfl rfl rfl ?_
    refine X.done [(0, _), (4, _), (18, _)] ⟨rfl, rfl, rfl, trivial⟩ ?_
    refine N.then ?_
    refine E.condT rfl ?_
    refine E.seq ?_
    refine E.region ?_
    refine X.asg rfl rfl rfl rfl rfl ?_
    refine X.done [(0, _), (4, _)] ⟨rfl, rfl, trivial⟩ ?_
    refine N.then ?_
    refine E.ret ?_
    refine N.thenR ?_
    exact N.retH [_] ⟨_, _, rfl, rfl, rfl⟩ ⟨by first | (rw [tk_f1 hb]; rfl) | (rw [tk_f2 (by omega)]; rfl), by first | (rw [tk_f1 hb]; exact hP) | (rw [tk_f2 (by omega)]; exact hP), Kp.refl _ _⟩
  · refine X.mv rfl rfl rfl rfl rfl ?_
    refine X.extract rfl rfl rfl rfl rfl rfl ?_
    refine X.extract rfl rfl rfl rfl rfl rfl ?_
    refine X.asg rfl rfl rfl rfl rfl ?_
    refine X.asg rfl rfl rfl rfl rfl ?_
    refine X.done [(0, _), (1, _), (4, _), (5, _), (6, _)] ⟨rfl, rfl, rfl, rfl, rfl, trivial⟩ ?_
    refine N.then ?_
    refine E.seq ?_
    refine E.region ?_
    refine X.mv rfl rfl rfl rfl rfl ?_
    refine X.notT rfl rfl rfl rfl rfl ?_
    refine X.mv rfl rfl rfl rfl rfl ?_
    refine X.mv rfl rfl rfl rfl rfl ?_
    refine X.mv rfl rfl rfl rfl rfl ?_
    refine X.neq rfl rfl rfl rfl rfl rfl ?_
    refine X.pickF rfl rfl rfl rfl rfl rfl ?_
    refine X.done [(0, _), (4, _), (18, _)] ⟨rfl, rfl, rfl, trivial⟩ ?_
    refine N.then ?_
    refine E.condD rfl (fun hc => ?_) (fun hc => ?_)
    · refine E.seq ?_
      refine E.region ?_
      refine X.asg rfl rfl rfl rfl rfl ?_
      refine X.done [(0, _), (4, _)] ⟨rfl, rfl, trivial⟩ ?_
      refine N.then ?_
      refine E.ret ?_
      refine N.thenR ?_
      exact N.retH [_] ⟨_, _, rfl, rfl, rfl⟩ ⟨by first | (rw [tk_f1 hb]; rfl) | (rw [tk_f2 (by omega)]; rfl), by first | (rw [tk_f1 hb]; exact hP) | (rw [tk_f2 (by omega)]; exact hP), Kp.refl _ _⟩
    · refine E.skip ?_
      refine N.then ?_
      refine E.seq ?_
      have hok := nx_ok hb
      refine E.region ?_
      refine X.mv rfl rfl rfl rfl rfl ?_
      refine X.nilP rfl rfl rfl rfl rfl ?_
      refine X.fld rfl rfl rfl rfl rfl Tryd.off47_1 ?_
      refine X.ld rfl rfl rfl rfl Tryd.ag3 (hP) (rfl) ?_
      refine X.addE (zz := ((st.at_ + 1 : Nat) : Int)) rfl rfl rfl rfl rfl rfl (by rw [IntWalk.i64_in _ (by omega)] <;> omega) ?_
      refine X.nilP rfl rfl rfl rfl rfl ?_
      refine X.fld rfl rfl rfl rfl rfl Tryd.off47_1 ?_
      refine X.st rfl rfl rfl rfl rfl rfl rfl Tryd.sz3 hP (by show 1 < 4; omega) ?_
      intro H1 h1 hk1
      refine X.done [(4, _)] ⟨rfl, trivial⟩ ?_
      refine N.then ?_
      refine E.seq ?_
      refine E.region ?_
      refine X.asg rfl rfl rfl rfl rfl ?_
      refine X.done [(4, _)] ⟨rfl, trivial⟩ ?_
      refine N.then ?_
      refine E.ret ?_
      exact N.retH [_] ⟨_, _, rfl, rfl, rfl⟩ ⟨by rw [tk_t (by omega) hb]; rfl, by rw [tk_t (by omega) hb]; exact h1, hk1⟩

theorem inside_ct (s : Bs) (p : Nat) (st : St) (H : Heap) (hP : PH p s st H) : Ct Tryd.prog 47 #[ptr p] H fun v H' => v = .bool (inS s st) ∧ H' = H := by
  refine Ct.into 19 Tryd.func47 rfl [(0, ptr p)] rfl ⟨rfl, trivial⟩ ?_
  refine E.seq ?_
  refine E.region ?_
  refine X.asg rfl rfl rfl rfl rfl ?_
  refine X.done [(0, _), (2, _)] ⟨rfl, rfl, trivial⟩ ?_
  refine N.then ?_
  refine E.seq ?_
  refine E.region ?_
  refine X.mv rfl rfl rfl rfl rfl ?_
  refine X.call rfl rfl rfl rfl rfl Tryd.cl23 (next_ct s p st H hP) ?_
  rintro _ Hx ⟨rfl, e⟩
  obtain rfl := e.symm
  cases hb : (nx s st).2
  · refine X.mv rfl rfl rfl rfl rfl ?_
    refine X.extract rfl rfl rfl rfl rfl rfl ?_
    refine X.extract rfl rfl rfl rfl rfl rfl ?_
    refine X.asg rfl rfl rfl rfl rfl ?_
    refine X.asg rfl rfl rfl rfl rfl ?_
    refine X.done [(2, _), (3, _), (4, _)] ⟨rfl, rfl, rfl, trivial⟩ ?_
    refine N.then ?_
    refine E.seq ?_
    refine E.region ?_
    refine X.mv rfl rfl rfl rfl rfl ?_
    refine X.mv rfl rfl rfl rfl rfl ?_
    refine X.skip rfl rfl rfl ?_
    refine X.skip rfl rfl rfl ?_
    refine X.pickF rfl rfl rfl rfl rfl rfl ?_
    refine X.mv rfl rfl rfl rfl rfl ?_
    refine X.skip rfl rfl rfl ?_
    refine X.skip rfl rfl rfl ?_
    refine X.pickF rfl rfl rfl rfl rfl rfl ?_
    refine X.asg rfl rfl rfl rfl rfl ?_
    refine X.done [(2, _)] ⟨rfl, trivial⟩ ?_
    refine N.then ?_
    refine E.ret ?_
    exact N.retH [_] ⟨_, _, rfl, rfl, rfl⟩ ⟨by first | (rw [inS_c hb]; rfl) | (rw [inS_a hb (by omega)]; rfl) | (rw [inS_b (by omega)]; rfl), rfl⟩
  · refine X.mv rfl rfl rfl rfl rfl ?_
    refine X.extract rfl rfl rfl rfl rfl rfl ?_
    refine X.extract rfl rfl rfl rfl rfl rfl ?_
    refine X.asg rfl rfl rfl rfl rfl ?_
    refine X.asg rfl rfl rfl rfl rfl ?_
    refine X.done [(2, _), (3, _), (4, _)] ⟨rfl, rfl, rfl, trivial⟩ ?_
    refine N.then ?_
    refine E.seq ?_
    refine E.region ?_
    refine X.mv rfl rfl rfl rfl rfl ?_
    refine X.mv rfl rfl rfl rfl rfl ?_
    refine X.mv rfl rfl rfl rfl rfl ?_
    refine X.neqC rfl rfl rfl rfl rfl rfl (fun hc => ?_) (fun hc => ?_)
    · refine X.pickT rfl rfl rfl rfl rfl rfl ?_
      refine X.mv rfl rfl rfl rfl rfl ?_
      refine X.mv rfl rfl rfl rfl rfl ?_
      refine X.neq rfl rfl rfl rfl rfl rfl ?_
      refine X.pickT rfl rfl rfl rfl rfl rfl ?_
      refine X.asg rfl rfl rfl rfl rfl ?_
      refine X.done [(2, _)] ⟨rfl, trivial⟩ ?_
      refine N.then ?_
      refine E.ret ?_
      exact N.retH [_] ⟨_, _, rfl, rfl, rfl⟩ ⟨by first | (rw [inS_c hb]; rfl) | (rw [inS_a hb (by omega)]; rfl) | (rw [inS_b (by omega)]; rfl), rfl⟩
    · refine X.pickT rfl rfl rfl rfl rfl rfl ?_
      refine X.mv rfl rfl rfl rfl rfl ?_
      refine X.skip rfl rfl rfl ?_
      refine X.skip rfl rfl rfl ?_
      refine X.pickF rfl rfl rfl rfl rfl rfl ?_
      refine X.asg rfl rfl rfl rfl rfl ?_
      refine X.done [(2, _)] ⟨rfl, trivial⟩ ?_
      refine N.then ?_
      refine E.ret ?_
      exact N.retH [_] ⟨_, _, rfl, rfl, rfl⟩ ⟨by first | (rw [inS_c hb]; rfl) | (rw [inS_a hb (by omega)]; rfl) | (rw [inS_b (by omega)]; rfl), rfl⟩

theorem digit_ct (c : Nat) (base : Int) (H : Heap) (hc8 : c < 256) : Ct Tryd.prog 67 #[.int .u8 c, i64 base] H fun v H' => v = .tuple #[i64 (dgN c), .bool (dgO c base)] ∧ H' = H := by
  refine Ct.into 36 Tryd.func67 rfl [(0, .int .u8 c), (1, i64 base)] rfl ⟨rfl, rfl, trivial⟩ ?_
  refine E.seq ?_
  refine E.region ?_
  refine X.asg rfl rfl rfl rfl rfl ?_
  refine X.asg rfl rfl rfl rfl rfl ?_
  refine X.done [(0, _), (1, _), (4, _), (5, _)] ⟨rfl, rfl, rfl, rfl, trivial⟩ ?_
  refine N.then ?_
  refine E.seq ?_
  refine E.region ?_
  refine X.asg rfl rfl rfl rfl rfl ?_
  refine X.done [(0, _), (1, _), (4, _), (5, _), (6, _)] ⟨rfl, rfl, rfl, rfl, rfl, trivial⟩ ?_
  refine N.then ?_
  refine E.seq ?_
  refine E.block ?_
  refine E.seq ?_
  refine E.region ?_
  refine X.mv rfl rfl rfl rfl rfl ?_
  refine X.geqC rfl rfl rfl rfl rfl rfl (fun hc => ?_) (fun hc => ?_)
  · refine X.mv rfl rfl rfl rfl rfl ?_
    refine X.mv rfl rfl rfl rfl rfl ?_
    refine X.leq rfl rfl rfl rfl rfl rfl ?_
    refine X.pickT rfl rfl rfl rfl rfl rfl ?_
    refine X.asg rfl rfl rfl rfl rfl ?_
    refine X.done [(0, _), (1, _), (4, _), (5, _), (6, _), (7, _)] ⟨rfl, rfl, rfl, rfl, rfl, rfl, trivial⟩ ?_
    refine N.then ?_
    refine E.condD rfl (fun hc => ?_) (fun hc => ?_)
    · refine E.region ?_
      refine X.mv rfl rfl rfl rfl rfl ?_
      refine X.sbE (zz := ((c - 48 : Nat) : Int)) rfl rfl rfl rfl rfl rfl (by rw [IntWalk.u8_in _ (by omega)] <;> omega) ?_
      refine X.convE (zz := ((c - 48 : Nat) : Int)) rfl rfl rfl rfl rfl Tryd.underlying3 Tryd.us5 (IntWalk.i64_in _ (by omega)) ?_
      refine X.asg rfl rfl rfl rfl rfl ?_
      refine X.done [(1, _), (4, _), (5, _), (6, _)] ⟨rfl, rfl, rfl, rfl, trivial⟩ ?_
      refine N.blk ?_
      refine N.then ?_
      refine E.seq ?_
      refine E.region ?_
      refine X.mv rfl rfl rfl rfl rfl ?_
      refine X.mv rfl rfl rfl rfl rfl ?_
      refine X.geqC rfl rfl rfl rfl rfl rfl (fun hc => ?_) (fun hc => ?_)
      · refine X.mv rfl rfl rfl rfl rfl ?_
        refine X.mv rfl rfl rfl rfl rfl ?_
        refine X.mv rfl rfl rfl rfl rfl ?_
        refine X.lss rfl rfl rfl rfl rfl rfl ?_
        refine X.pickT rfl rfl rfl rfl rfl rfl ?_
        refine X.asg rfl rfl rfl rfl rfl ?_
        refine X.asg rfl rfl rfl rfl rfl ?_
        refine X.done [(4, _), (5, _)] ⟨rfl, rfl, trivial⟩ ?_
        refine N.then ?_
        refine E.ret ?_
        first | (exfalso; omega) | (exact N.retH [_, _] ⟨_, _, rfl, rfl, _, _, rfl, rfl, rfl⟩ ⟨dgT (by unfold dgN; (repeat' split) <;> omega) (by first | (simp only [decide_eq_true_eq]; omega) | (simp only [Bool.false_eq_true, false_iff]; omega)), rfl⟩)
      · refine X.mv rfl rfl rfl rfl rfl ?_
        refine X.skip rfl rfl rfl ?_
        refine X.skip rfl rfl rfl ?_
        refine X.skip rfl rfl rfl ?_
        refine X.pickF rfl rfl rfl rfl rfl rfl ?_
        refine X.asg rfl rfl rfl rfl rfl ?_
        refine X.asg rfl rfl rfl rfl rfl ?_
        refine X.done [(4, _), (5, _)] ⟨rfl, rfl, trivial⟩ ?_
        refine N.then ?_
        refine E.ret ?_
        first | (exfalso; omega) | (exact N.retH [_, _] ⟨_, _, rfl, rfl, _, _, rfl, rfl, rfl⟩ ⟨dgT (by unfold dgN; (repeat' split) <;> omega) (by first | (simp only [decide_eq_true_eq]; omega) | (simp only [Bool.false_eq_true, false_iff]; omega)), rfl⟩)
    · refine E.seq ?_
      refine E.region ?_
      refine X.mv rfl rfl rfl rfl rfl ?_
      refine X.geqC rfl rfl rfl rfl rfl rfl (fun hc => ?_) (fun hc => ?_)
      · refine X.mv rfl rfl rfl rfl rfl ?_
        refine X.mv rfl rfl rfl rfl rfl ?_
        refine X.leq rfl rfl rfl rfl rfl rfl ?_
        refine X.pickT rfl rfl rfl rfl rfl rfl ?_
        refine X.asg rfl rfl rfl rfl rfl ?_
        refine X.done [(0, _), (1, _), (4, _), (5, _), (6, _), (17, _)] ⟨rfl, rfl, rfl, rfl, rfl, rfl, trivial⟩ ?_
        refine N.then ?_
        refine E.condD rfl (fun hc => ?_) (fun hc => ?_)
        · refine E.region ?_
          refine X.mv rfl rfl rfl rfl rfl ?_
          refine X.sbE (zz := ((c - 97 : Nat) : Int)) rfl rfl rfl rfl rfl rfl (by rw [IntWalk.u8_in _ (by omega)] <;> omega) ?_
          refine X.convE (zz := ((c - 97 : Nat) : Int)) rfl rfl rfl rfl rfl Tryd.underlying3 Tryd.us5 (IntWalk.i64_in _ (by omega)) ?_
          refine X.addE (zz := ((c - 87 : Nat) : Int)) rfl rfl rfl rfl rfl rfl (by rw [IntWalk.i64_in _ (by omega)] <;> omega) ?_
          refine X.asg rfl rfl rfl rfl rfl ?_
          refine X.done [(1, _), (4, _), (5, _), (6, _)] ⟨rfl, rfl, rfl, rfl, trivial⟩ ?_
          refine N.blk ?_
          refine N.then ?_
          refine E.seq ?_
          refine E.region ?_
          refine X.mv rfl rfl rfl rfl rfl ?_
          refine X.mv rfl rfl rfl rfl rfl ?_
          refine X.geqC rfl rfl rfl rfl rfl rfl (fun hc => ?_) (fun hc => ?_)
          · refine X.mv rfl rfl rfl rfl rfl ?_
            refine X.mv rfl rfl rfl rfl rfl ?_
            refine X.mv rfl rfl rfl rfl rfl ?_
            refine X.lss rfl rfl rfl rfl rfl rfl ?_
            refine X.pickT rfl rfl rfl rfl rfl rfl ?_
            refine X.asg rfl rfl rfl rfl rfl ?_
            refine X.asg rfl rfl rfl rfl rfl ?_
            refine X.done [(4, _), (5, _)] ⟨rfl, rfl, trivial⟩ ?_
            refine N.then ?_
            refine E.ret ?_
            first | (exfalso; omega) | (exact N.retH [_, _] ⟨_, _, rfl, rfl, _, _, rfl, rfl, rfl⟩ ⟨dgT (by unfold dgN; (repeat' split) <;> omega) (by first | (simp only [decide_eq_true_eq]; omega) | (simp only [Bool.false_eq_true, false_iff]; omega)), rfl⟩)
          · refine X.mv rfl rfl rfl rfl rfl ?_
            refine X.skip rfl rfl rfl ?_
            refine X.skip rfl rfl rfl ?_
            refine X.skip rfl rfl rfl ?_
            refine X.pickF rfl rfl rfl rfl rfl rfl ?_
            refine X.asg rfl rfl rfl rfl rfl ?_
            refine X.asg rfl rfl rfl rfl rfl ?_
            refine X.done [(4, _), (5, _)] ⟨rfl, rfl, trivial⟩ ?_
            refine N.then ?_
            refine E.ret ?_
            first | (exfalso; omega) | (exact N.retH [_, _] ⟨_, _, rfl, rfl, _, _, rfl, rfl, rfl⟩ ⟨dgT (by unfold dgN; (repeat' split) <;> omega) (by first | (simp only [decide_eq_true_eq]; omega) | (simp only [Bool.false_eq_true, false_iff]; omega)), rfl⟩)
        · refine E.skip ?_
          refine N.blk ?_
          refine N.then ?_
          refine E.seq ?_
          refine E.region ?_
          refine X.mv rfl rfl rfl rfl rfl ?_
          refine X.mv rfl rfl rfl rfl rfl ?_
          refine X.geqC rfl rfl rfl rfl rfl rfl (fun hc => ?_) (fun hc => ?_)
          · refine X.mv rfl rfl rfl rfl rfl ?_
            refine X.mv rfl rfl rfl rfl rfl ?_
            refine X.mv rfl rfl rfl rfl rfl ?_
            refine X.lss rfl rfl rfl rfl rfl rfl ?_
            refine X.pickT rfl rfl rfl rfl rfl rfl ?_
            refine X.asg rfl rfl rfl rfl rfl ?_
            refine X.asg rfl rfl rfl rfl rfl ?_
            refine X.done [(4, _), (5, _)] ⟨rfl, rfl, trivial⟩ ?_
            refine N.then ?_
            refine E.ret ?_
            first | (exfalso; omega) | (exact N.retH [_, _] ⟨_, _, rfl, rfl, _, _, rfl, rfl, rfl⟩ ⟨dgT (by unfold dgN; (repeat' split) <;> omega) (by first | (simp only [decide_eq_true_eq]; omega) | (simp only [Bool.false_eq_true, false_iff]; omega)), rfl⟩)
          · refine X.mv rfl rfl rfl rfl rfl ?_
            refine X.skip rfl rfl rfl ?_
            refine X.skip rfl rfl rfl ?_
            refine X.skip rfl rfl rfl ?_
            refine X.pickF rfl rfl rfl rfl rfl rfl ?_
            refine X.asg rfl rfl rfl rfl rfl ?_
            refine X.asg rfl rfl rfl rfl rfl ?_
            refine X.done [(4, _), (5, _)] ⟨rfl, rfl, trivial⟩ ?_
            refine N.then ?_
            refine E.ret ?_
            first | (exfalso; omega) | (exact N.retH [_, _] ⟨_, _, rfl, rfl, _, _, rfl, rfl, rfl⟩ ⟨dgT (by unfold dgN; (repeat' split) <;> omega) (by first | (simp only [decide_eq_true_eq]; omega) | (simp only [Bool.false_eq_true, false_iff]; omega)), rfl⟩)
      · refine X.mv rfl rfl rfl rfl rfl ?_
        refine X.skip rfl rfl rfl ?_
        refine X.skip rfl rfl rfl ?_
        refine X.pickF rfl rfl rfl rfl rfl rfl ?_
        refine X.asg rfl rfl rfl rfl rfl ?_
        refine X.done [(0, _), (1, _), (4, _), (5, _), (6, _), (17, _)] ⟨rfl, rfl, rfl, rfl, rfl, rfl, trivial⟩ ?_
        refine N.then ?_
        refine E.condF rfl ?_
        refine E.skip ?_
        refine N.blk ?_
        refine N.then ?_
        refine E.seq ?_
        refine E.region ?_
        refine X.mv rfl rfl rfl rfl rfl ?_
        refine X.mv rfl rfl rfl rfl rfl ?_
        refine X.geqC rfl rfl rfl rfl rfl rfl (fun hc => ?_) (fun hc => ?_)
        · refine X.mv rfl rfl rfl rfl rfl ?_
          refine X.mv rfl rfl rfl rfl rfl ?_
          refine X.mv rfl rfl rfl rfl rfl ?_
          refine X.lss rfl rfl rfl rfl rfl rfl ?_
          refine X.pickT rfl rfl rfl rfl rfl rfl ?_
          refine X.asg rfl rfl rfl rfl rfl ?_
          refine X.asg rfl rfl rfl rfl rfl ?_
          refine X.done [(4, _), (5, _)] ⟨rfl, rfl, trivial⟩ ?_
          refine N.then ?_
          refine E.ret ?_
          first | (exfalso; omega) | (exact N.retH [_, _] ⟨_, _, rfl, rfl, _, _, rfl, rfl, rfl⟩ ⟨dgT (by unfold dgN; (repeat' split) <;> omega) (by first | (simp only [decide_eq_true_eq]; omega) | (simp only [Bool.false_eq_true, false_iff]; omega)), rfl⟩)
        · refine X.mv rfl rfl rfl rfl rfl ?_
          refine X.skip rfl rfl rfl ?_
          refine X.skip rfl rfl rfl ?_
          refine X.skip rfl rfl rfl ?_
          refine X.pickF rfl rfl rfl rfl rfl rfl ?_
          refine X.asg rfl rfl rfl rfl rfl ?_
          refine X.asg rfl rfl rfl rfl rfl ?_
          refine X.done [(4, _), (5, _)] ⟨rfl, rfl, trivial⟩ ?_
          refine N.then ?_
          refine E.ret ?_
          first | (exfalso; omega) | (exact N.retH [_, _] ⟨_, _, rfl, rfl, _, _, rfl, rfl, rfl⟩ ⟨dgT (by unfold dgN; (repeat' split) <;> omega) (by first | (simp only [decide_eq_true_eq]; omega) | (simp only [Bool.false_eq_true, false_iff]; omega)), rfl⟩)
  · refine X.mv rfl rfl rfl rfl rfl ?_
    refine X.skip rfl rfl rfl ?_
    refine X.skip rfl rfl rfl ?_
    refine X.pickF rfl rfl rfl rfl rfl rfl ?_
    refine X.asg rfl rfl rfl rfl rfl ?_
    refine X.done [(0, _), (1, _), (4, _), (5, _), (6, _), (7, _)] ⟨rfl, rfl, rfl, rfl, rfl, rfl, trivial⟩ ?_
    refine N.then ?_
    refine E.condF rfl ?_
    refine E.seq ?_
    refine E.region ?_
    refine X.mv rfl rfl rfl rfl rfl ?_
    refine X.geqC rfl rfl rfl rfl rfl rfl (fun hc => ?_) (fun hc => ?_)
    · refine X.mv rfl rfl rfl rfl rfl ?_
      refine X.mv rfl rfl rfl rfl rfl ?_
      refine X.leq rfl rfl rfl rfl rfl rfl ?_
      refine X.pickT rfl rfl rfl rfl rfl rfl ?_
      refine X.asg rfl rfl rfl rfl rfl ?_
      refine X.done [(0, _), (1, _), (4, _), (5, _), (6, _), (17, _)] ⟨rfl, rfl, rfl, rfl, rfl, rfl, trivial⟩ ?_
      refine N.then ?_
      refine E.condD rfl (fun hc => ?_) (fun hc => ?_)
      · refine E.region ?_
        refine X.mv rfl rfl rfl rfl rfl ?_
        refine X.sbE (zz := ((c - 97 : Nat) : Int)) rfl rfl rfl rfl rfl rfl (by rw [IntWalk.u8_in _ (by omega)] <;> omega) ?_
        refine X.convE (zz := ((c - 97 : Nat) : Int)) rfl rfl rfl rfl rfl Tryd.underlying3 Tryd.us5 (IntWalk.i64_in _ (by omega)) ?_
        refine X.addE (zz := ((c - 87 : Nat) : Int)) rfl rfl rfl rfl rfl rfl (by rw [IntWalk.i64_in _ (by omega)] <;> omega) ?_
        refine X.asg rfl rfl rfl rfl rfl ?_
        refine X.done [(1, _), (4, _), (5, _), (6, _)] ⟨rfl, rfl, rfl, rfl, trivial⟩ ?_
        refine N.blk ?_
        refine N.then ?_
        refine E.seq ?_
        refine E.region ?_
        refine X.mv rfl rfl rfl rfl rfl ?_
        refine X.mv rfl rfl rfl rfl rfl ?_
        refine X.geqC rfl rfl rfl rfl rfl rfl (fun hc => ?_) (fun hc => ?_)
        · refine X.mv rfl rfl rfl rfl rfl ?_
          refine X.mv rfl rfl rfl rfl rfl ?_
          refine X.mv rfl rfl rfl rfl rfl ?_
          refine X.lss rfl rfl rfl rfl rfl rfl ?_
          refine X.pickT rfl rfl rfl rfl rfl rfl ?_
          refine X.asg rfl rfl rfl rfl rfl ?_
          refine X.asg rfl rfl rfl rfl rfl ?_
          refine X.done [(4, _), (5, _)] ⟨rfl, rfl, trivial⟩ ?_
          refine N.then ?_
          refine E.ret ?_
          first | (exfalso; omega) | (exact N.retH [_, _] ⟨_, _, rfl, rfl, _, _, rfl, rfl, rfl⟩ ⟨dgT (by unfold dgN; (repeat' split) <;> omega) (by first | (simp only [decide_eq_true_eq]; omega) | (simp only [Bool.false_eq_true, false_iff]; omega)), rfl⟩)
        · refine X.mv rfl rfl rfl rfl rfl ?_
          refine X.skip rfl rfl rfl ?_
          refine X.skip rfl rfl rfl ?_
          refine X.skip rfl rfl rfl ?_
          refine X.pickF rfl rfl rfl rfl rfl rfl ?_
          refine X.asg rfl rfl rfl rfl rfl ?_
          refine X.asg rfl rfl rfl rfl rfl ?_
          refine X.done [(4, _), (5, _)] ⟨rfl, rfl, trivial⟩ ?_
          refine N.then ?_
          refine E.ret ?_
          first | (exfalso; omega) | (exact N.retH [_, _] ⟨_, _, rfl, rfl, _, _, rfl, rfl, rfl⟩ ⟨dgT (by unfold dgN; (repeat' split) <;> omega) (by first | (simp only [decide_eq_true_eq]; omega) | (simp only [Bool.false_eq_true, false_iff]; omega)), rfl⟩)
      · refine E.skip ?_
        refine N.blk ?_
        refine N.then ?_
        refine E.seq ?_
        refine E.region ?_
        refine X.mv rfl rfl rfl rfl rfl ?_
        refine X.mv rfl rfl rfl rfl rfl ?_
        refine X.geqC rfl rfl rfl rfl rfl rfl (fun hc => ?_) (fun hc => ?_)
        · refine X.mv rfl rfl rfl rfl rfl ?_
          refine X.mv rfl rfl rfl rfl rfl ?_
          refine X.mv rfl rfl rfl rfl rfl ?_
          refine X.lss rfl rfl rfl rfl rfl rfl ?_
          refine X.pickT rfl rfl rfl rfl rfl rfl ?_
          refine X.asg rfl rfl rfl rfl rfl ?_
          refine X.asg rfl rfl rfl rfl rfl ?_
          refine X.done [(4, _), (5, _)] ⟨rfl, rfl, trivial⟩ ?_
          refine N.then ?_
          refine E.ret ?_
          first | (exfalso; omega) | (exact N.retH [_, _] ⟨_, _, rfl, rfl, _, _, rfl, rfl, rfl⟩ ⟨dgT (by unfold dgN; (repeat' split) <;> omega) (by first | (simp only [decide_eq_true_eq]; omega) | (simp only [Bool.false_eq_true, false_iff]; omega)), rfl⟩)
        · refine X.mv rfl rfl rfl rfl rfl ?_
          refine X.skip rfl rfl rfl ?_
          refine X.skip rfl rfl rfl ?_
          refine X.skip rfl rfl rfl ?_
          refine X.pickF rfl rfl rfl rfl rfl rfl ?_
          refine X.asg rfl rfl rfl rfl rfl ?_
          refine X.asg rfl rfl rfl rfl rfl ?_
          refine X.done [(4, _), (5, _)] ⟨rfl, rfl, trivial⟩ ?_
          refine N.then ?_
          refine E.ret ?_
          first | (exfalso; omega) | (exact N.retH [_, _] ⟨_, _, rfl, rfl, _, _, rfl, rfl, rfl⟩ ⟨dgT (by unfold dgN; (repeat' split) <;> omega) (by first | (simp only [decide_eq_true_eq]; omega) | (simp only [Bool.false_eq_true, false_iff]; omega)), rfl⟩)
    · refine X.mv rfl rfl rfl rfl rfl ?_
      refine X.skip rfl rfl rfl ?_
      refine X.skip rfl rfl rfl ?_
      refine X.pickF rfl rfl rfl rfl rfl rfl ?_
      refine X.asg rfl rfl rfl rfl rfl ?_
      refine X.done [(0, _), (1, _), (4, _), (5, _), (6, _), (17, _)] ⟨rfl, rfl, rfl, rfl, rfl, rfl, trivial⟩ ?_
      refine N.then ?_
      refine E.condF rfl ?_
      refine E.skip ?_
      refine N.blk ?_
      refine N.then ?_
      refine E.seq ?_
      refine E.region ?_
      refine X.mv rfl rfl rfl rfl rfl ?_
      refine X.mv rfl rfl rfl rfl rfl ?_
      refine X.geqC rfl rfl rfl rfl rfl rfl (fun hc => ?_) (fun hc => ?_)
      · refine X.mv rfl rfl rfl rfl rfl ?_
        refine X.mv rfl rfl rfl rfl rfl ?_
        refine X.mv rfl rfl rfl rfl rfl ?_
        refine X.lss rfl rfl rfl rfl rfl rfl ?_
        refine X.pickT rfl rfl rfl rfl rfl rfl ?_
        refine X.asg rfl rfl rfl rfl rfl ?_
        refine X.asg rfl rfl rfl rfl rfl ?_
        refine X.done [(4, _), (5, _)] ⟨rfl, rfl, trivial⟩ ?_
        refine N.then ?_
        refine E.ret ?_
        first | (exfalso; omega) | (exact N.retH [_, _] ⟨_, _, rfl, rfl, _, _, rfl, rfl, rfl⟩ ⟨dgT (by unfold dgN; (repeat' split) <;> omega) (by first | (simp only [decide_eq_true_eq]; omega) | (simp only [Bool.false_eq_true, false_iff]; omega)), rfl⟩)
      · refine X.mv rfl rfl rfl rfl rfl ?_
        refine X.skip rfl rfl rfl ?_
        refine X.skip rfl rfl rfl ?_
        refine X.skip rfl rfl rfl ?_
        refine X.pickF rfl rfl rfl rfl rfl rfl ?_
        refine X.asg rfl rfl rfl rfl rfl ?_
        refine X.asg rfl rfl rfl rfl rfl ?_
        refine X.done [(4, _), (5, _)] ⟨rfl, rfl, trivial⟩ ?_
        refine N.then ?_
        refine E.ret ?_
        first | (exfalso; omega) | (exact N.retH [_, _] ⟨_, _, rfl, rfl, _, _, rfl, rfl, rfl⟩ ⟨dgT (by unfold dgN; (repeat' split) <;> omega) (by first | (simp only [decide_eq_true_eq]; omega) | (simp only [Bool.false_eq_true, false_iff]; omega)), rfl⟩)

theorem counts_ct (low high : Int) (H : Heap) : Ct Tryd.prog 27 #[i64 low, i64 high] H fun v H' => v = .bool (cntV low high) ∧ H' = H := by
  refine Ct.into 24 Tryd.func27 rfl [(0, i64 low), (1, i64 high)] rfl ⟨rfl, rfl, trivial⟩ ?_
  refine E.seq ?_
  refine E.region ?_
  refine X.asg rfl rfl rfl rfl rfl ?_
  refine X.done [(0, _), (1, _), (4, _)] ⟨rfl, rfl, rfl, trivial⟩ ?_
  refine N.then ?_
  refine E.seq ?_
  refine E.region ?_
  refine X.mv rfl rfl rfl rfl rfl ?_
  refine X.geqC rfl rfl rfl rfl rfl rfl (fun hc => ?_) (fun hc => ?_)
  · refine X.mv rfl rfl rfl rfl rfl ?_
    refine X.mv rfl rfl rfl rfl rfl ?_
    refine X.leqC rfl rfl rfl rfl rfl rfl (fun hc => ?_) (fun hc => ?_)
    · refine X.pickT rfl rfl rfl rfl rfl rfl ?_
      refine X.mv rfl rfl rfl rfl rfl ?_
      refine X.mv rfl rfl rfl rfl rfl ?_
      refine X.eqlC rfl rfl rfl rfl rfl rfl (fun hc => ?_) (fun hc => ?_)
      · refine X.mv rfl rfl rfl rfl rfl ?_
        refine X.skip rfl rfl rfl ?_
        refine X.skip rfl rfl rfl ?_
        refine X.skip rfl rfl rfl ?_
        refine X.skip rfl rfl rfl ?_
        refine X.skip rfl rfl rfl ?_
        refine X.skip rfl rfl rfl ?_
        refine X.skip rfl rfl rfl ?_
        refine X.pickT rfl rfl rfl rfl rfl rfl ?_
        refine X.pickT rfl rfl rfl rfl rfl rfl ?_
        refine X.asg rfl rfl rfl rfl rfl ?_
        refine X.done [(4, _)] ⟨rfl, trivial⟩ ?_
        refine N.then ?_
        refine E.ret ?_
        exact N.retH [_] ⟨_, _, rfl, rfl, rfl⟩ ⟨congrArg Value.bool (cnt_of (by first | (simp only [decide_eq_true_eq]; omega) | (simp only [Bool.false_eq_true, false_iff]; omega) | (simp only [true_iff]; omega))), rfl⟩
      · refine X.mv rfl rfl rfl rfl rfl ?_
        refine X.mv rfl rfl rfl rfl rfl ?_
        refine X.mv rfl rfl rfl rfl rfl ?_
        refine X.geqC rfl rfl rfl rfl rfl rfl (fun hc => ?_) (fun hc => ?_)
        · refine X.mv rfl rfl rfl rfl rfl ?_
          refine X.mv rfl rfl rfl rfl rfl ?_
          refine X.leq rfl rfl rfl rfl rfl rfl ?_
          refine X.pickT rfl rfl rfl rfl rfl rfl ?_
          refine X.pickF rfl rfl rfl rfl rfl rfl ?_
          refine X.pickT rfl rfl rfl rfl rfl rfl ?_
          refine X.asg rfl rfl rfl rfl rfl ?_
          refine X.done [(4, _)] ⟨rfl, trivial⟩ ?_
          refine N.then ?_
          refine E.ret ?_
          exact N.retH [_] ⟨_, _, rfl, rfl, rfl⟩ ⟨congrArg Value.bool (cnt_of (by first | (simp only [decide_eq_true_eq]; omega) | (simp only [Bool.false_eq_true, false_iff]; omega) | (simp only [true_iff]; omega))), rfl⟩
        · refine X.mv rfl rfl rfl rfl rfl ?_
          refine X.skip rfl rfl rfl ?_
          refine X.skip rfl rfl rfl ?_
          refine X.pickF rfl rfl rfl rfl rfl rfl ?_
          refine X.pickF rfl rfl rfl rfl rfl rfl ?_
          refine X.pickT rfl rfl rfl rfl rfl rfl ?_
          refine X.asg rfl rfl rfl rfl rfl ?_
          refine X.done [(4, _)] ⟨rfl, trivial⟩ ?_
          refine N.then ?_
          refine E.ret ?_
          exact N.retH [_] ⟨_, _, rfl, rfl, rfl⟩ ⟨congrArg Value.bool (cnt_of (by first | (simp only [decide_eq_true_eq]; omega) | (simp only [Bool.false_eq_true, false_iff]; omega) | (simp only [true_iff]; omega))), rfl⟩
    · refine X.pickT rfl rfl rfl rfl rfl rfl ?_
      refine X.mv rfl rfl rfl rfl rfl ?_
      refine X.skip rfl rfl rfl ?_
      refine X.skip rfl rfl rfl ?_
      refine X.skip rfl rfl rfl ?_
      refine X.skip rfl rfl rfl ?_
      refine X.skip rfl rfl rfl ?_
      refine X.skip rfl rfl rfl ?_
      refine X.skip rfl rfl rfl ?_
      refine X.skip rfl rfl rfl ?_
      refine X.skip rfl rfl rfl ?_
      refine X.skip rfl rfl rfl ?_
      refine X.skip rfl rfl rfl ?_
      refine X.pickF rfl rfl rfl rfl rfl rfl ?_
      refine X.asg rfl rfl rfl rfl rfl ?_
      refine X.done [(4, _)] ⟨rfl, trivial⟩ ?_
      refine N.then ?_
      refine E.ret ?_
      exact N.retH [_] ⟨_, _, rfl, rfl, rfl⟩ ⟨congrArg Value.bool (cnt_of (by first | (simp only [decide_eq_true_eq]; omega) | (simp only [Bool.false_eq_true, false_iff]; omega) | (simp only [true_iff]; omega))), rfl⟩
  · refine X.mv rfl rfl rfl rfl rfl ?_
    refine X.skip rfl rfl rfl ?_
    refine X.skip rfl rfl rfl ?_
    refine X.pickF rfl rfl rfl rfl rfl rfl ?_
    refine X.mv rfl rfl rfl rfl rfl ?_
    refine X.skip rfl rfl rfl ?_
    refine X.skip rfl rfl rfl ?_
    refine X.skip rfl rfl rfl ?_
    refine X.skip rfl rfl rfl ?_
    refine X.skip rfl rfl rfl ?_
    refine X.skip rfl rfl rfl ?_
    refine X.skip rfl rfl rfl ?_
    refine X.skip rfl rfl rfl ?_
    refine X.skip rfl rfl rfl ?_
    refine X.skip rfl rfl rfl ?_
    refine X.skip rfl rfl rfl ?_
    refine X.pickF rfl rfl rfl rfl rfl rfl ?_
    refine X.asg rfl rfl rfl rfl rfl ?_
    refine X.done [(4, _)] ⟨rfl, trivial⟩ ?_
    refine N.then ?_
    refine E.ret ?_
    exact N.retH [_] ⟨_, _, rfl, rfl, rfl⟩ ⟨congrArg Value.bool (cnt_of (by first | (simp only [decide_eq_true_eq]; omega) | (simp only [Bool.false_eq_true, false_iff]; omega) | (simp only [true_iff]; omega))), rfl⟩

theorem tight_ct (k : Int) (H : Heap) : Ct Tryd.prog 41 #[i64 k] H fun v H' => v = i64 (tgt k) ∧ H' = H := by
  refine Ct.into 11 Tryd.func41 rfl [(0, i64 k)] rfl ⟨rfl, trivial⟩ ?_
  refine E.seq ?_
  refine E.region ?_
  refine X.asg rfl rfl rfl rfl rfl ?_
  refine X.done [(0, _), (2, _)] ⟨rfl, rfl, trivial⟩ ?_
  refine N.then ?_
  refine E.seq ?_
  refine E.seq ?_
  refine E.region ?_
  refine X.mv rfl rfl rfl rfl rfl ?_
  refine X.done [(2, _), (3, _)] ⟨rfl, rfl, trivial⟩ ?_
  refine N.then ?_
  refine E.block ?_
  refine E.seq ?_
  refine E.region ?_
  refine X.eql rfl rfl rfl rfl rfl rfl ?_
  refine X.asg rfl rfl rfl rfl rfl ?_
  refine X.done [(2, _), (3, _), (4, _)] ⟨rfl, rfl, rfl, trivial⟩ ?_
  refine N.then ?_
  refine E.condD rfl (fun hc => ?_) (fun hc => ?_)
  · refine E.seq ?_
    refine E.region ?_
    refine X.asg rfl rfl rfl rfl rfl ?_
    refine X.done [(2, _)] ⟨rfl, trivial⟩ ?_
    refine N.then ?_
    refine E.ret ?_
    refine N.blkR ?_
    refine N.thenR ?_
    first | (exfalso; omega) | (exact N.retH [_] ⟨_, _, rfl, rfl, rfl⟩ ⟨by unfold tgt; (repeat' split) <;> first | rfl | (exfalso; omega), rfl⟩)
  · refine E.seq ?_
    refine E.region ?_
    refine X.eql rfl rfl rfl rfl rfl rfl ?_
    refine X.asg rfl rfl rfl rfl rfl ?_
    refine X.done [(2, _), (3, _), (6, _)] ⟨rfl, rfl, rfl, trivial⟩ ?_
    refine N.then ?_
    refine E.condD rfl (fun hc => ?_) (fun hc => ?_)
    · refine E.seq ?_
      refine E.region ?_
      refine X.asg rfl rfl rfl rfl rfl ?_
      refine X.done [(2, _)] ⟨rfl, trivial⟩ ?_
      refine N.then ?_
      refine E.ret ?_
      refine N.blkR ?_
      refine N.thenR ?_
      first | (exfalso; omega) | (exact N.retH [_] ⟨_, _, rfl, rfl, rfl⟩ ⟨by unfold tgt; (repeat' split) <;> first | rfl | (exfalso; omega), rfl⟩)
    · refine E.seq ?_
      refine E.seq ?_
      refine E.region ?_
      refine X.eql rfl rfl rfl rfl rfl rfl ?_
      refine X.asg rfl rfl rfl rfl rfl ?_
      refine X.done [(2, _), (3, _), (8, _)] ⟨rfl, rfl, rfl, trivial⟩ ?_
      refine N.then ?_
      refine E.condD rfl (fun hc => ?_) (fun hc => ?_)
      · refine E.skip ?_
        refine N.then ?_
        refine E.condD rfl (fun hc => ?_) (fun hc => ?_)
        · refine E.seq ?_
          refine E.region ?_
          refine X.asg rfl rfl rfl rfl rfl ?_
          refine X.done [(2, _)] ⟨rfl, trivial⟩ ?_
          refine N.then ?_
          refine E.ret ?_
          refine N.blkR ?_
          refine N.thenR ?_
          first | (exfalso; omega) | (exact N.retH [_] ⟨_, _, rfl, rfl, rfl⟩ ⟨by unfold tgt; (repeat' split) <;> first | rfl | (exfalso; omega), rfl⟩)
        · refine E.skip ?_
          refine N.blk ?_
          refine N.then ?_
          refine E.seq ?_
          refine E.region ?_
          refine X.asg rfl rfl rfl rfl rfl ?_
          refine X.done [(2, _)] ⟨rfl, trivial⟩ ?_
          refine N.then ?_
          refine E.ret ?_
          first | (exfalso; omega) | (exact N.retH [_] ⟨_, _, rfl, rfl, rfl⟩ ⟨by unfold tgt; (repeat' split) <;> first | rfl | (exfalso; omega), rfl⟩)
      · refine E.region ?_
        refine X.eql rfl rfl rfl rfl rfl rfl ?_
        refine X.asg rfl rfl rfl rfl rfl ?_
        refine X.done [(2, _), (8, _)] ⟨rfl, rfl, trivial⟩ ?_
        refine N.then ?_
        refine E.condD rfl (fun hc => ?_) (fun hc => ?_)
        · refine E.seq ?_
          refine E.region ?_
          refine X.asg rfl rfl rfl rfl rfl ?_
          refine X.done [(2, _)] ⟨rfl, trivial⟩ ?_
          refine N.then ?_
          refine E.ret ?_
          refine N.blkR ?_
          refine N.thenR ?_
          first | (exfalso; omega) | (exact N.retH [_] ⟨_, _, rfl, rfl, rfl⟩ ⟨by unfold tgt; (repeat' split) <;> first | rfl | (exfalso; omega), rfl⟩)
        · refine E.skip ?_
          refine N.blk ?_
          refine N.then ?_
          refine E.seq ?_
          refine E.region ?_
          refine X.asg rfl rfl rfl rfl rfl ?_
          refine X.done [(2, _)] ⟨rfl, trivial⟩ ?_
          refine N.then ?_
          refine E.ret ?_
          first | (exfalso; omega) | (exact N.retH [_] ⟨_, _, rfl, rfl, rfl⟩ ⟨by unfold tgt; (repeat' split) <;> first | rfl | (exfalso; omega), rfl⟩)

theorem number_ct (s : Bs) (p : Nat) (st0 : St) (H : Heap) (hP0 : PH p s st0 H) (hs : s.length ≤ 1000) (h0 : st0.at_ ≤ s.length) : Ct Tryd.prog 64 #[ptr p] H fun v H' => v = i64 (num s st0).1 ∧ PH p s (num s st0).2 H' ∧ Kp [p] H H' ∧ 0 ≤ (num s st0).1 ∧ (num s st0).1 ≤ 99 := by
  refine Ct.into 45 Tryd.func64 rfl [(0, ptr p)] rfl ⟨rfl, trivial⟩ ?_
  refine E.seq ?_
  refine E.region ?_
  refine X.asg rfl rfl rfl rfl rfl ?_
  refine X.done [(0, _), (2, _)] ⟨rfl, rfl, trivial⟩ ?_
  refine N.then ?_
  refine E.seq ?_
  refine E.region ?_
  refine X.asg rfl rfl rfl rfl rfl ?_
  refine X.done [(0, _), (2, _), (3, _)] ⟨rfl, rfl, rfl, trivial⟩ ?_
  refine N.then ?_
  refine E.seq ?_
  refine E.seq ?_
  refine E.region ?_
  refine X.mv rfl rfl rfl rfl rfl ?_
  refine X.done [(0, _), (2, _), (3, _), (9, _)] ⟨rfl, rfl, rfl, rfl, trivial⟩ ?_
  refine N.then ?_
  refine E.block ?_
  -- MISSING in G: [2]
  refine E.loop (fun (q : NQ) => [(0, ptr p), (3, i64 q.n), (9, i64 q.i)]) (fun (q : NQ) H' => q.i ≤ 2 ∧ 0 ≤ q.n ∧ q.n ≤ 99 ∧ (q.i = 0 → q.n = 0) ∧ (q.i = 1 → q.n ≤ 9) ∧ numF s (2 - q.i) q.i q.n q.st = num s st0 ∧ PH p s q.st H' ∧ Kp [p] H H' ∧ q.st.at_ ≤ s.length) (fun (q : NQ) => 2 - q.i) ⟨0, 0, st0⟩ ⟨rfl, rfl, rfl, trivial⟩ ⟨Nat.zero_le _, Int.le_refl _, by show (0 : Int) ≤ 99; omega, fun _ => rfl, fun h => absurd h (by show ¬ 0 = 1; omega), rfl, hP0, Kp.refl _ _, h0⟩ ?_
  rintro ⟨i, n, st⟩ H3 hJ
  dsimp only at hJ ⊢
  obtain ⟨hi, hn0, hn1, hz, ho, hJ, hP, hkk, hat⟩ := hJ
  refine E.seq ?_
  refine E.region ?_
  refine X.lss rfl rfl rfl rfl rfl rfl ?_
  refine X.done [(0, _), (3, _), (9, _), (10, _)] ⟨rfl, rfl, rfl, rfl, trivial⟩ ?_
  refine N.then ?_
  refine E.seq ?_
  refine E.condD rfl (fun hc => ?_) (fun hc => ?_)
  · refine E.skip ?_
    refine N.then ?_
    refine E.seq ?_
    refine E.block ?_
    refine E.seq ?_
    refine E.region ?_
    refine X.mv rfl rfl rfl rfl rfl ?_
    refine X.asg rfl rfl rfl rfl rfl ?_
    refine X.done [(0, _), (3, _), (9, _), (10, _), (11, _), (4, _)] ⟨rfl, rfl, rfl, rfl, rfl, rfl, trivial⟩ ?_
    refine N.then ?_
    refine E.seq ?_
    refine E.region ?_
    refine X.mv rfl rfl rfl rfl rfl ?_
    refine X.call rfl rfl rfl rfl rfl Tryd.cl23 (next_ct s p st H3 hP) ?_
    rintro _ Hx ⟨rfl, e⟩
    obtain rfl := e.symm
    refine X.mv rfl rfl rfl rfl rfl ?_
    refine X.extract rfl rfl rfl rfl rfl rfl ?_
    refine X.extract rfl rfl rfl rfl rfl rfl ?_
    refine X.asg rfl rfl rfl rfl rfl ?_
    refine X.asg rfl rfl rfl rfl rfl ?_
    refine X.done [(0, _), (3, _), (9, _), (10, _), (11, _), (4, _), (13, _), (14, _), (12, _), (15, _), (16, _), (5, _)] ⟨rfl, rfl, rfl, rfl, rfl, rfl, rfl, rfl, rfl, rfl, rfl, rfl, trivial⟩ ?_
    refine N.then ?_
    refine E.seq ?_
    refine E.region ?_
    refine X.mv rfl rfl rfl rfl rfl ?_
    refine X.call rfl rfl rfl rfl rfl Tryd.cl67 (digit_ct (nx s st).1 10 H3 nx_lt) ?_
    rintro _ Hx ⟨rfl, e⟩
    obtain rfl := e.symm
    cases hd : dgO (nx s st).1 10
    · refine X.mv rfl rfl rfl rfl rfl ?_
      refine X.extract rfl rfl rfl rfl rfl rfl ?_
      refine X.extract rfl rfl rfl rfl rfl rfl ?_
      refine X.asg rfl rfl rfl rfl rfl ?_
      refine X.asg rfl rfl rfl rfl rfl ?_
      refine X.done [(0, _), (3, _), (9, _), (10, _), (11, _), (4, _), (13, _), (14, _), (12, _), (15, _), (16, _), (5, _), (18, _), (19, _), (17, _), (20, _), (21, _), (7, _), (8, _)] ⟨rfl, rfl, rfl, rfl, rfl, rfl, rfl, rfl, rfl, rfl, rfl, rfl, rfl, rfl, rfl, rfl, rfl, rfl, rfl, trivial⟩ ?_
      refine N.then ?_
      refine E.seq ?_
      refine E.seq ?_
      refine E.region ?_
      refine X.mv rfl rfl rfl rfl rfl ?_
      refine X.notF rfl rfl rfl rfl rfl ?_
      refine X.done [(0, _), (3, _), (9, _), (10, _), (11, _), (4, _), (13, _), (14, _), (12, _), (15, _), (16, _), (5, _), (18, _), (19, _), (17, _), (20, _), (21, _), (7, _), (8, _), (22, _), (23, _)] ⟨rfl, rfl, rfl, rfl, rfl, rfl, rfl, rfl, rfl, rfl, rfl, rfl, rfl, rfl, rfl, rfl, rfl, rfl, rfl, rfl, rfl, trivial⟩ ?_
      refine N.then ?_
      refine E.condT rfl ?_
      refine E.seq ?_
      refine E.seq ?_
      refine E.region ?_
      refine X.mv rfl rfl rfl rfl rfl ?_
      refine X.eql rfl rfl rfl rfl rfl rfl ?_
      refine X.done [(0, _), (3, _), (9, _), (10, _), (11, _), (4, _), (13, _), (14, _), (12, _), (15, _), (16, _), (5, _), (18, _), (19, _), (17, _), (20, _), (21, _), (7, _), (8, _), (22, _), (23, _), (24, _), (25, _)] ⟨rfl, rfl, rfl, rfl, rfl, rfl, rfl, rfl, rfl, rfl, rfl, rfl, rfl, rfl, rfl, rfl, rfl, rfl, rfl, rfl, rfl, rfl, rfl, trivial⟩ ?_
      refine N.then ?_
      refine E.condD rfl (fun hc => ?_) (fun hc => ?_)
      · refine E.region ?_
        refine X.mv rfl rfl rfl rfl rfl ?_
        refine X.mv rfl rfl rfl rfl rfl ?_
        refine X.nilP rfl rfl rfl rfl rfl ?_
        refine X.fld rfl rfl rfl rfl rfl Tryd.off47_1 ?_
        refine X.ld rfl rfl rfl rfl Tryd.ag3 (hP) (rfl) ?_
        refine X.call rfl rfl rfl rfl rfl Tryd.cl24 (fail_ct s p st 15 (st.at_ : Nat) H3 hP) ?_
        rintro _ H4 ⟨rfl, hP4, hk4⟩
        refine X.done [(0, _), (3, _), (9, _), (10, _), (11, _), (4, _), (13, _), (14, _), (12, _), (15, _), (16, _), (5, _), (18, _), (19, _), (17, _), (20, _), (21, _), (7, _), (8, _), (22, _), (23, _), (24, _), (25, _), (26, _), (27, _), (28, _), (29, _), (30, _)] ⟨rfl, rfl, rfl, rfl, rfl, rfl, rfl, rfl, rfl, rfl, rfl, rfl, rfl, rfl, rfl, rfl, rfl, rfl, rfl, rfl, rfl, rfl, rfl, rfl, rfl, rfl, rfl, rfl, trivial⟩ ?_
        refine N.then ?_
        refine E.exit ?_
        refine N.thenX ?_
        refine N.blkO rfl ?_
        refine N.thenX ?_
        refine N.loopX ?_
        refine N.blkX ?_
        refine N.then ?_
        refine E.seq ?_
        refine E.region ?_
        refine X.mv rfl rfl rfl rfl rfl ?_
        refine X.asg rfl rfl rfl rfl rfl ?_
        refine X.done [(2, _)] ⟨rfl, trivial⟩ ?_
        refine N.then ?_
        refine E.ret ?_
        first
          | (have e := numE hJ (by omega) hd
             rw [if_pos (by omega)] at e
             rw [e]
             exact N.retH [_] ⟨_, _, rfl, rfl, rfl⟩ ⟨rfl, hP4, hkk.trans hk4 (by simp), hn0, hn1⟩)
          | (have e := numE hJ (by omega) hd
             rw [if_neg (by omega)] at e
             rw [e]
             exact N.retH [_] ⟨_, _, rfl, rfl, rfl⟩ ⟨rfl, hP, hkk, hn0, hn1⟩)
          | (rw [show 2 - i = 0 by omega] at hJ
             rw [← hJ]
             exact N.retH [_] ⟨_, _, rfl, rfl, rfl⟩ ⟨rfl, hP, hkk, hn0, hn1⟩)
      · refine E.skip ?_
        refine N.then ?_
        refine E.exit ?_
        refine N.thenX ?_
        refine N.blkO rfl ?_
        refine N.thenX ?_
        refine N.loopX ?_
        refine N.blkX ?_
        refine N.then ?_
        refine E.seq ?_
        refine E.region ?_
        refine X.mv rfl rfl rfl rfl rfl ?_
        refine X.asg rfl rfl rfl rfl rfl ?_
        refine X.done [(2, _)] ⟨rfl, trivial⟩ ?_
        refine N.then ?_
        refine E.ret ?_
        first
          | (have e := numE hJ (by omega) hd
             rw [if_pos (by omega)] at e
             rw [e]
             exact N.retH [_] ⟨_, _, rfl, rfl, rfl⟩ ⟨rfl, hP4, hkk.trans hk4 (by simp), hn0, hn1⟩)
          | (have e := numE hJ (by omega) hd
             rw [if_neg (by omega)] at e
             rw [e]
             exact N.retH [_] ⟨_, _, rfl, rfl, rfl⟩ ⟨rfl, hP, hkk, hn0, hn1⟩)
          | (rw [show 2 - i = 0 by omega] at hJ
             rw [← hJ]
             exact N.retH [_] ⟨_, _, rfl, rfl, rfl⟩ ⟨rfl, hP, hkk, hn0, hn1⟩)
    · refine X.mv rfl rfl rfl rfl rfl ?_
      refine X.extract rfl rfl rfl rfl rfl rfl ?_
      refine X.extract rfl rfl rfl rfl rfl rfl ?_
      refine X.asg rfl rfl rfl rfl rfl ?_
      refine X.asg rfl rfl rfl rfl rfl ?_
      refine X.done [(0, _), (3, _), (9, _), (10, _), (11, _), (4, _), (13, _), (14, _), (12, _), (15, _), (16, _), (5, _), (18, _), (19, _), (17, _), (20, _), (21, _), (7, _), (8, _)] ⟨rfl, rfl, rfl, rfl, rfl, rfl, rfl, rfl, rfl, rfl, rfl, rfl, rfl, rfl, rfl, rfl, rfl, rfl, rfl, trivial⟩ ?_
      refine N.then ?_
      refine E.seq ?_
      refine E.seq ?_
      refine E.region ?_
      refine X.mv rfl rfl rfl rfl rfl ?_
      refine X.notT rfl rfl rfl rfl rfl ?_
      refine X.done [(0, _), (3, _), (9, _), (10, _), (11, _), (4, _), (13, _), (14, _), (12, _), (15, _), (16, _), (5, _), (18, _), (19, _), (17, _), (20, _), (21, _), (7, _), (8, _), (22, _), (23, _)] ⟨rfl, rfl, rfl, rfl, rfl, rfl, rfl, rfl, rfl, rfl, rfl, rfl, rfl, rfl, rfl, rfl, rfl, rfl, rfl, rfl, rfl, trivial⟩ ?_
      refine N.then ?_
      refine E.condF rfl ?_
      refine E.skip ?_
      refine N.then ?_
      refine E.seq ?_
      have hdl := dgO_lt hd
      have hok := nx_ok (dg_pos hd)
      have hi2 : i < 2 := by omega
      refine E.region ?_
      refine X.mv rfl rfl rfl rfl rfl ?_
      refine X.mulE (zz := (10 * n)) rfl rfl rfl rfl rfl rfl (by rw [IntWalk.i64_in _ (by omega)] <;> omega) ?_
      refine X.mv rfl rfl rfl rfl rfl ?_
      refine X.addE (zz := (10 * n + dgN (nx s st).1)) rfl rfl rfl rfl rfl rfl (by rw [IntWalk.i64_in _ (by omega)] <;> omega) ?_
      refine X.asg rfl rfl rfl rfl rfl ?_
      refine X.done [(0, _), (3, _), (9, _), (10, _), (11, _), (4, _), (13, _), (14, _), (12, _), (15, _), (16, _), (5, _), (18, _), (19, _), (17, _), (20, _), (21, _), (7, _), (8, _), (22, _), (23, _), (32, _), (33, _), (34, _), (35, _)] ⟨rfl, rfl, rfl, rfl, rfl, rfl, rfl, rfl, rfl, rfl, rfl, rfl, rfl, rfl, rfl, rfl, rfl, rfl, rfl, rfl, rfl, rfl, rfl, rfl, rfl, trivial⟩ ?_
      refine N.then ?_
      refine E.region ?_
      refine X.mv rfl rfl rfl rfl rfl ?_
      refine X.nilP rfl rfl rfl rfl rfl ?_
      refine X.fld rfl rfl rfl rfl rfl Tryd.off47_1 ?_
      refine X.ld rfl rfl rfl rfl Tryd.ag3 (hP) (rfl) ?_
      refine X.addE (zz := ((st.at_ + 1 : Nat) : Int)) rfl rfl rfl rfl rfl rfl (by rw [IntWalk.i64_in _ (by omega)] <;> omega) ?_
      refine X.nilP rfl rfl rfl rfl rfl ?_
      refine X.fld rfl rfl rfl rfl rfl Tryd.off47_1 ?_
      refine X.st rfl rfl rfl rfl rfl rfl rfl Tryd.sz3 hP (by show 1 < 4; omega) ?_
      intro H1 h1 hk1
      refine X.done [(0, _), (3, _), (9, _), (10, _), (11, _), (4, _), (13, _), (14, _), (12, _), (15, _), (16, _), (5, _), (18, _), (19, _), (17, _), (20, _), (21, _), (7, _), (8, _), (22, _), (23, _), (32, _), (33, _), (34, _), (35, _), (36, _), (37, _), (38, _), (39, _), (40, _), (41, _), (42, _)] ⟨rfl, rfl, rfl, rfl, rfl, rfl, rfl, rfl, rfl, rfl, rfl, rfl, rfl, rfl, rfl, rfl, rfl, rfl, rfl, rfl, rfl, rfl, rfl, rfl, rfl, rfl, rfl, rfl, rfl, rfl, rfl, rfl, trivial⟩ ?_
      refine N.blk ?_
      refine N.then ?_
      refine E.region ?_
      refine X.addE (zz := ((i + 1 : Nat) : Int)) rfl rfl rfl rfl rfl rfl (by rw [IntWalk.i64_in _ (by omega)] <;> omega) ?_
      refine X.mv rfl rfl rfl rfl rfl ?_
      refine X.done [(0, _), (3, _), (9, _), (10, _), (11, _), (4, _), (13, _), (14, _), (12, _), (15, _), (16, _), (5, _), (18, _), (19, _), (17, _), (20, _), (21, _), (7, _), (8, _), (22, _), (23, _), (32, _), (33, _), (34, _), (35, _), (36, _), (37, _), (38, _), (39, _), (40, _), (41, _), (42, _), (43, _)] ⟨rfl, rfl, rfl, rfl, rfl, rfl, rfl, rfl, rfl, rfl, rfl, rfl, rfl, rfl, rfl, rfl, rfl, rfl, rfl, rfl, rfl, rfl, rfl, rfl, rfl, rfl, rfl, rfl, rfl, rfl, rfl, rfl, rfl, trivial⟩ ?_
      exact N.next (G := fun (q : NQ) => _) ⟨i + 1, 10 * n + dgN (nx s st).1, adv st⟩ ⟨rfl, rfl, rfl, trivial⟩ ⟨by show i + 1 ≤ 2; omega, by show 0 ≤ 10 * n + dgN (nx s st).1; omega, by show 10 * n + dgN (nx s st).1 ≤ 99; omega, fun h => absurd h (by show ¬ i + 1 = 0; omega), fun (h : i + 1 = 1) => by show 10 * n + dgN (nx s st).1 ≤ 9; omega, numS hJ (by omega) hd, h1, hkk.trans hk1 (by simp), by show st.at_ + 1 ≤ s.length; omega⟩ (by show 2 - (i + 1) < 2 - i; omega)
  · refine E.exit ?_
    refine N.thenX ?_
    refine N.loopX ?_
    refine N.blkX ?_
    refine N.then ?_
    refine E.seq ?_
    refine E.region ?_
    refine X.mv rfl rfl rfl rfl rfl ?_
    refine X.asg rfl rfl rfl rfl rfl ?_
    refine X.done [(2, _)] ⟨rfl, trivial⟩ ?_
    refine N.then ?_
    refine E.ret ?_
    first
      | (have e := numE hJ (by omega) hd
         rw [if_pos (by omega)] at e
         rw [e]
         exact N.retH [_] ⟨_, _, rfl, rfl, rfl⟩ ⟨rfl, hP4, hkk.trans hk4 (by simp), hn0, hn1⟩)
      | (have e := numE hJ (by omega) hd
         rw [if_neg (by omega)] at e
         rw [e]
         exact N.retH [_] ⟨_, _, rfl, rfl, rfl⟩ ⟨rfl, hP, hkk, hn0, hn1⟩)
      | (rw [show 2 - i = 0 by omega] at hJ
         rw [← hJ]
         exact N.retH [_] ⟨_, _, rfl, rfl, rfl⟩ ⟨rfl, hP, hkk, hn0, hn1⟩)

end Go.Proofs.YtcandjdomeompaaDoor