/- The walks: costs, what may be, equal rows. -/
import Derived.Test.YtjlelcfabfmiaaaFacts
import Derived.Test.YtjlelcfabfmiaaaO
namespace Go.Proofs.Ytjlelcfabfmiaaa
open Go.SX
attribute [local irreducible] X E N Ct
set_option linter.unusedVariables false
abbrev i64 (x : Int) : Value := .int .i64 x
abbrev ptr (p : Nat) : Value := .pointer (some ⟨p, 0, none⟩)
def badF (f : Int) : Prop := f < 0 ∨ 4294967296 < f
instance (f : Int) : Decidable (badF f) := inferInstanceAs (Decidable (_ ∨ _))
def badL (l : Int) : Prop := l < 0 ∨ 15 < l
instance (f : Int) : Decidable (badL f) := inferInstanceAs (Decidable (_ ∨ _))
def costA : Int → List Int → List Int → Int
  | acc, f :: fs, l :: ls => if badF f ∨ badL l then -1 else costA (acc + f * l) fs ls
  | acc, _, _ => acc
def costV (fs ls : List Int) : Int := if fs.length ≠ ls.length ∨ 320 < fs.length then -1 else costA 0 fs ls
theorem cost_step {fs ls : List Int} {i : Nat} {f l acc : Int} (hf : fs[i]? = some f) (hl : ls[i]? = some l) : costA acc (fs.drop i) (ls.drop i) = if badF f ∨ badL l then -1 else costA (acc + f * l) (fs.drop (i + 1)) (ls.drop (i + 1)) := by
  obtain ⟨h1, e1⟩ := List.getElem?_eq_some_iff.1 hf
  obtain ⟨h2, e2⟩ := List.getElem?_eq_some_iff.1 hl
  rw [List.drop_eq_getElem_cons h1, List.drop_eq_getElem_cons h2, e1, e2]; rfl
theorem cost_end {fs ls : List Int} {i : Nat} {acc : Int} (h : fs.length ≤ i) : costA acc (fs.drop i) (ls.drop i) = acc := by
  rw [List.drop_eq_nil_of_le h]; rfl
theorem row_at {H : Heap} {a : Option Addr} {b o : Nat} {xs : List Int} (h : Row1 H a b o (iv xs)) {i : Nat} {x : Int} (hx : xs[i]? = some x) : a = some ⟨b, o, none⟩ ∧ ∃ (cs : List Value) (ct : TypeId) (fz : Nat × Nat), H[b]? = some (.cells cs.toArray ct fz) ∧ cs[o + (i : Int).toNat * 1]? = some (i64 x) := by
  obtain ⟨h1, cs, ct, fz, h2, h3⟩ := h.get i (i64 x) (by rw [List.getElem?_map, hx]; rfl)
  exact ⟨h1, cs, ct, fz, h2, by rw [Int.toNat_natCast, Nat.mul_one]; exact h3⟩
theorem get_of {xs : List Int} {i : Nat} (h : i < xs.length) : ∃ x, xs[i]? = some x := ⟨_, List.getElem?_eq_getElem h⟩
theorem mul_small {f l : Int} (hf : ¬ badF f) (hl : ¬ badL l) : 0 ≤ f * l ∧ f * l ≤ 64424509440 := by
  unfold badF at hf
  unfold badL at hl
  have h1 : 0 ≤ f := by omega
  have h2 : 0 ≤ l := by omega
  refine ⟨Int.mul_nonneg h1 h2, ?_⟩
  have := Int.mul_le_mul (show f ≤ 4294967296 by omega) (show l ≤ 15 by omega) h2 (by omega)
  omega
/-- How many frequencies are above 0; none: one of them can't be. -/
def mayA : Int → List Int → Option Int
  | acc, f :: fs => if badF f then none else mayA (if 0 < f then acc + 1 else acc) fs
  | acc, [] => some acc
def mayV (fs : List Int) (most : Int) : Int × Int :=
  if 320 < fs.length then (0, 3) else if most < 1 ∨ 15 < most then (0, 1) else
    match mayA 0 fs with
    | none => (0, 1)
    | some n => if ((2 ^ most.toNat : Nat) : Int) < n then (0, 7) else (n, 0)
theorem may_step {fs : List Int} {i : Nat} {f acc : Int} (hf : fs[i]? = some f) : mayA acc (fs.drop i) = if badF f then none else mayA (if 0 < f then acc + 1 else acc) (fs.drop (i + 1)) := by
  obtain ⟨h1, e1⟩ := List.getElem?_eq_some_iff.1 hf
  rw [List.drop_eq_getElem_cons h1, e1]; rfl
theorem may_end {fs : List Int} {i : Nat} {acc : Int} (h : fs.length ≤ i) : mayA acc (fs.drop i) = some acc := by
  rw [List.drop_eq_nil_of_le h]; rfl
theorem may_none {fs : List Int} {most : Int} (h1 : ¬ 320 < fs.length) (h2 : ¬ (most < 1 ∨ 15 < most)) (h : mayA 0 fs = none) : mayV fs most = (0, 1) := by
  rw [mayV, if_neg h1, if_neg h2, h]
theorem may_over {fs : List Int} {most n : Int} (h1 : ¬ 320 < fs.length) (h2 : ¬ (most < 1 ∨ 15 < most)) (h : mayA 0 fs = some n) (h3 : ((2 ^ most.toNat : Nat) : Int) < n) : mayV fs most = (0, 7) := by
  rw [mayV, if_neg h1, if_neg h2, h]; exact if_pos h3
theorem may_ok {fs : List Int} {most n : Int} (h1 : ¬ 320 < fs.length) (h2 : ¬ (most < 1 ∨ 15 < most)) (h : mayA 0 fs = some n) (h3 : ¬ ((2 ^ most.toNat : Nat) : Int) < n) : mayV fs most = (n, 0) := by
  rw [mayV, if_neg h1, if_neg h2, h]; exact if_neg h3
theorem shl_most {most q : Int} (h : ¬ (most < 1 ∨ 15 < most)) (hq : q = most) : IntKind.i64.wrap ((1 : Int) * 2 ^ (min q.toNat IntKind.i64.bits)) = ((2 ^ most.toNat : Nat) : Int) := by
  obtain ⟨k, rfl⟩ := Int.eq_ofNat_of_zero_le (show 0 ≤ most by omega)
  subst hq
  have hp : 2 ^ k ≤ 2 ^ 15 := Nat.pow_le_pow_right (by omega) (by omega)
  have e : (1 : Int) * 2 ^ k = ((2 ^ k : Nat) : Int) := by simp
  have h1 : ((2 ^ k : Nat) : Int) ≤ 32768 := Int.ofNat_le.2 hp
  rw [shlN (k := k) rfl (by omega) (by rw [e]; have := Int.natCast_nonneg (2 ^ k); omega) (by rw [e]; omega), e]; rfl

theorem cost_ct (fs ls : List Int) (a : Option Addr) (b o c : Nat) (a2 : Option Addr) (b2 o2 c2 : Nat) (H : Heap) (hF : Row1 H a b o (iv fs)) (hL : Row1 H a2 b2 o2 (iv ls)) (hmx : fs.length ≤ 1000000 ∧ ls.length ≤ 1000000) : Ct Try.prog 11 #[.slice a fs.length c, .slice a2 ls.length c2] H fun v H' => v = i64 (costV fs ls) ∧ H' = H := by
  refine Ct.into 55 Try.func11 rfl [(0, .slice a fs.length c), (1, .slice a2 ls.length c2)] rfl ⟨rfl, rfl, trivial⟩ ?_
  refine E.seq ?_
  refine E.region ?_
  refine X.asg rfl rfl rfl rfl rfl ?_
  refine X.done [(0, _), (1, _), (4, _)] ⟨rfl, rfl, rfl, trivial⟩ ?_
  refine N.then ?_
  refine E.seq ?_
  refine E.seq ?_
  refine E.region ?_
  refine X.mv rfl rfl rfl rfl rfl ?_
  refine X.lenS rfl rfl rfl rfl rfl Try.underlying22 ?_
  refine X.mv rfl rfl rfl rfl rfl ?_
  refine X.lenS rfl rfl rfl rfl rfl Try.underlying22 ?_
  refine X.neqC rfl rfl rfl rfl rfl rfl (fun hc => ?_) (fun hc => ?_)
  · refine X.mv rfl rfl rfl rfl rfl ?_
    refine X.skip rfl rfl rfl ?_
    refine X.skip rfl rfl rfl ?_
    refine X.skip rfl rfl rfl ?_
    refine X.pickT rfl rfl rfl rfl rfl rfl ?_
    refine X.done [(0, _), (1, _), (4, _), (17, _)] ⟨rfl, rfl, rfl, rfl, trivial⟩ ?_
    refine N.then ?_
    refine E.condT rfl ?_
    refine E.seq ?_
    refine E.region ?_
    refine X.asg rfl rfl rfl rfl rfl ?_
    refine X.done [(0, _), (1, _), (4, _)] ⟨rfl, rfl, rfl, trivial⟩ ?_
    refine N.then ?_
    refine E.ret ?_
    refine N.thenR ?_
    exact N.retH [_] ⟨_, _, rfl, rfl, rfl⟩ ⟨by rw [costV, if_pos (by omega)]; rfl, rfl⟩
  · refine X.mv rfl rfl rfl rfl rfl ?_
    refine X.mv rfl rfl rfl rfl rfl ?_
    refine X.lenS rfl rfl rfl rfl rfl Try.underlying22 ?_
    refine X.gtr rfl rfl rfl rfl rfl rfl ?_
    refine X.pickF rfl rfl rfl rfl rfl rfl ?_
    refine X.done [(0, _), (1, _), (4, _), (17, _)] ⟨rfl, rfl, rfl, rfl, trivial⟩ ?_
    refine N.then ?_
    refine E.condD rfl (fun hc => ?_) (fun hc => ?_)
    · refine E.seq ?_
      refine E.region ?_
      refine X.asg rfl rfl rfl rfl rfl ?_
      refine X.done [(0, _), (1, _), (4, _)] ⟨rfl, rfl, rfl, trivial⟩ ?_
      refine N.then ?_
      refine E.ret ?_
      refine N.thenR ?_
      exact N.retH [_] ⟨_, _, rfl, rfl, rfl⟩ ⟨by rw [costV, if_pos (by omega)]; rfl, rfl⟩
    · refine E.skip ?_
      refine N.then ?_
      refine E.seq ?_
      refine E.region ?_
      refine X.asg rfl rfl rfl rfl rfl ?_
      refine X.done [(0, _), (1, _), (4, _), (5, _)] ⟨rfl, rfl, rfl, rfl, trivial⟩ ?_
      refine N.then ?_
      refine E.seq ?_
      refine E.seq ?_
      refine E.region ?_
      refine X.mv rfl rfl rfl rfl rfl ?_
      refine X.lenS rfl rfl rfl rfl rfl Try.underlying22 ?_
      refine X.mv rfl rfl rfl rfl rfl ?_
      refine X.done [(1, _), (4, _), (5, _), (18, _), (19, _), (20, _)] ⟨rfl, rfl, rfl, rfl, rfl, rfl, trivial⟩ ?_
      refine N.then ?_
      refine E.block ?_
      -- MISSING in G: [4]
      refine E.loop (fun (q : Nat × Int) => [(1, .slice a2 ls.length c2), (5, i64 q.2), (18, .slice a fs.length c), (19, i64 fs.length), (20, i64 q.1)]) (fun (q : Nat × Int) H' => q.1 ≤ fs.length ∧ H' = H ∧ 0 ≤ q.2 ∧ q.2 ≤ 64424509440 * q.1 ∧ costA q.2 (fs.drop q.1) (ls.drop q.1) = costA 0 fs ls) (fun (q : Nat × Int) => fs.length - q.1) (0, 0) ⟨rfl, rfl, rfl, rfl, rfl, trivial⟩ ⟨Nat.zero_le _, rfl, Int.le_refl _, by show (0 : Int) ≤ 64424509440 * ((0 : Nat) : Int); omega, rfl⟩ ?_
      rintro ⟨i, acc⟩ H3 hJ
      dsimp only at hJ ⊢
      obtain ⟨hi, eH, ha0, ha1, hJ⟩ := hJ
      obtain rfl := eH.symm
      refine E.seq ?_
      refine E.region ?_
      refine X.lss rfl rfl rfl rfl rfl rfl ?_
      refine X.done [(1, _), (5, _), (18, _), (19, _), (20, _), (21, _)] ⟨rfl, rfl, rfl, rfl, rfl, rfl, trivial⟩ ?_
      refine N.then ?_
      refine E.seq ?_
      refine E.condD rfl (fun hc => ?_) (fun hc => ?_)
      · refine E.skip ?_
        refine N.then ?_
        refine E.seq ?_
        refine E.block ?_
        refine E.seq ?_
        have hi2 : i < fs.length := Int.ofNat_lt.1 (by assumption)
        obtain ⟨x, hx⟩ := get_of hi2
        obtain ⟨y, hy⟩ := get_of (xs := ls) (i := i) (by omega)
        obtain ⟨hae, cs1, ct1, fz1, hb1, hc1⟩ := row_at hF hx
        obtain ⟨hae2, cs2, ct2, fz2, hb2, hc2⟩ := row_at hL hy
        refine E.region ?_
        refine X.mv rfl rfl rfl rfl rfl ?_
        refine X.ixAe rfl rfl rfl rfl rfl rfl Try.underlying22 Try.sz3 (hae) (by omega) ?_
        refine X.ld rfl rfl rfl rfl Try.ag3 (hb1) (hc1) ?_
        refine X.asg rfl rfl rfl rfl rfl ?_
        refine X.asg rfl rfl rfl rfl rfl ?_
        refine X.done [(1, _), (5, _), (18, _), (19, _), (20, _), (21, _), (22, _), (23, _), (24, _), (6, _), (7, _)] ⟨rfl, rfl, rfl, rfl, rfl, rfl, rfl, rfl, rfl, rfl, rfl, trivial⟩ ?_
        refine N.then ?_
        refine E.seq ?_
        refine E.seq ?_
        refine E.region ?_
        refine X.mv rfl rfl rfl rfl rfl ?_
        refine X.lssC rfl rfl rfl rfl rfl rfl (fun hc => ?_) (fun hc => ?_)
        · refine X.mv rfl rfl rfl rfl rfl ?_
          refine X.skip rfl rfl rfl ?_
          refine X.skip rfl rfl rfl ?_
          refine X.pickT rfl rfl rfl rfl rfl rfl ?_
          refine X.mv rfl rfl rfl rfl rfl ?_
          refine X.skip rfl rfl rfl ?_
          refine X.skip rfl rfl rfl ?_
          refine X.skip rfl rfl rfl ?_
          refine X.skip rfl rfl rfl ?_
          refine X.skip rfl rfl rfl ?_
          refine X.pickT rfl rfl rfl rfl rfl rfl ?_
          refine X.mv rfl rfl rfl rfl rfl ?_
          refine X.skip rfl rfl rfl ?_
          refine X.skip rfl rfl rfl ?_
          refine X.skip rfl rfl rfl ?_
          refine X.skip rfl rfl rfl ?_
          refine X.skip rfl rfl rfl ?_
          refine X.pickT rfl rfl rfl rfl rfl rfl ?_
          refine X.done [(1, _), (5, _), (18, _), (19, _), (20, _), (21, _), (22, _), (23, _), (24, _), (6, _), (7, _), (25, _), (26, _), (27, _), (28, _), (29, _), (30, _), (31, _), (32, _), (33, _), (34, _), (35, _), (36, _), (37, _), (38, _), (39, _), (40, _), (41, _), (42, _), (43, _), (44, _)] ⟨rfl, rfl, rfl, rfl, rfl, rfl, rfl, rfl, rfl, rfl, rfl, rfl, rfl, rfl, rfl, rfl, rfl, rfl, rfl, rfl, rfl, rfl, rfl, rfl, rfl, rfl, rfl, rfl, rfl, rfl, rfl, trivial⟩ ?_
          refine N.then ?_
          refine E.condT rfl ?_
          refine E.seq ?_
          refine E.region ?_
          refine X.asg rfl rfl rfl rfl rfl ?_
          refine X.done [(1, _), (5, _), (18, _), (19, _), (20, _), (21, _), (22, _), (23, _), (24, _), (6, _), (7, _), (25, _), (26, _), (27, _), (28, _), (29, _), (30, _), (31, _), (32, _), (33, _), (34, _), (35, _), (36, _), (37, _), (38, _), (39, _), (40, _), (41, _), (42, _), (43, _), (44, _), (4, _)] ⟨rfl, rfl, rfl, rfl, rfl, rfl, rfl, rfl, rfl, rfl, rfl, rfl, rfl, rfl, rfl, rfl, rfl, rfl, rfl, rfl, rfl, rfl, rfl, rfl, rfl, rfl, rfl, rfl, rfl, rfl, rfl, rfl, trivial⟩ ?_
          refine N.then ?_
          refine E.ret ?_
          refine N.thenR ?_
          refine N.blkR ?_
          refine N.thenR ?_
          refine N.loopR ?_
          refine N.blkR ?_
          refine N.thenR ?_
          exact N.retH [_] ⟨_, _, rfl, rfl, rfl⟩ ⟨by rw [costV, if_neg (by omega), ← hJ, cost_step hx hy, if_pos (by unfold badF badL; omega)]; rfl, rfl⟩
        · refine X.mv rfl rfl rfl rfl rfl ?_
          refine X.mv rfl rfl rfl rfl rfl ?_
          refine X.gtrC rfl rfl rfl rfl rfl rfl (fun hc => ?_) (fun hc => ?_)
          · refine X.pickF rfl rfl rfl rfl rfl rfl ?_
            refine X.mv rfl rfl rfl rfl rfl ?_
            refine X.skip rfl rfl rfl ?_
            refine X.skip rfl rfl rfl ?_
            refine X.skip rfl rfl rfl ?_
            refine X.skip rfl rfl rfl ?_
            refine X.skip rfl rfl rfl ?_
            refine X.pickT rfl rfl rfl rfl rfl rfl ?_
            refine X.mv rfl rfl rfl rfl rfl ?_
            refine X.skip rfl rfl rfl ?_
            refine X.skip rfl rfl rfl ?_
            refine X.skip rfl rfl rfl ?_
            refine X.skip rfl rfl rfl ?_
            refine X.skip rfl rfl rfl ?_
            refine X.pickT rfl rfl rfl rfl rfl rfl ?_
            refine X.done [(1, _), (5, _), (18, _), (19, _), (20, _), (21, _), (22, _), (23, _), (24, _), (6, _), (7, _), (25, _), (26, _), (27, _), (28, _), (29, _), (30, _), (31, _), (32, _), (33, _), (34, _), (35, _), (36, _), (37, _), (38, _), (39, _), (40, _), (41, _), (42, _), (43, _), (44, _)] ⟨rfl, rfl, rfl, rfl, rfl, rfl, rfl, rfl, rfl, rfl, rfl, rfl, rfl, rfl, rfl, rfl, rfl, rfl, rfl, rfl, rfl, rfl, rfl, rfl, rfl, rfl, rfl, rfl, rfl, rfl, rfl, trivial⟩ ?_
            refine N.then ?_
            refine E.condT rfl ?_
            refine E.seq ?_
            refine E.region ?_
            refine X.asg rfl rfl rfl rfl rfl ?_
            refine X.done [(1, _), (5, _), (18, _), (19, _), (20, _), (21, _), (22, _), (23, _), (24, _), (6, _), (7, _), (25, _), (26, _), (27, _), (28, _), (29, _), (30, _), (31, _), (32, _), (33, _), (34, _), (35, _), (36, _), (37, _), (38, _), (39, _), (40, _), (41, _), (42, _), (43, _), (44, _), (4, _)] ⟨rfl, rfl, rfl, rfl, rfl, rfl, rfl, rfl, rfl, rfl, rfl, rfl, rfl, rfl, rfl, rfl, rfl, rfl, rfl, rfl, rfl, rfl, rfl, rfl, rfl, rfl, rfl, rfl, rfl, rfl, rfl, rfl, trivial⟩ ?_
            refine N.then ?_
            refine E.ret ?_
            refine N.thenR ?_
            refine N.blkR ?_
            refine N.thenR ?_
            refine N.loopR ?_
            refine N.blkR ?_
            refine N.thenR ?_
            exact N.retH [_] ⟨_, _, rfl, rfl, rfl⟩ ⟨by rw [costV, if_neg (by omega), ← hJ, cost_step hx hy, if_pos (by unfold badF badL; omega)]; rfl, rfl⟩
          · refine X.pickF rfl rfl rfl rfl rfl rfl ?_
            refine X.mv rfl rfl rfl rfl rfl ?_
            refine X.mv rfl rfl rfl rfl rfl ?_
            refine X.mv rfl rfl rfl rfl rfl ?_
            refine X.ixAe rfl rfl rfl rfl rfl rfl Try.underlying22 Try.sz3 (hae2) (by omega) ?_
            refine X.ld rfl rfl rfl rfl Try.ag3 (hb2) (hc2) ?_
            refine X.lssC rfl rfl rfl rfl rfl rfl (fun hc => ?_) (fun hc => ?_)
            · refine X.pickF rfl rfl rfl rfl rfl rfl ?_
              refine X.mv rfl rfl rfl rfl rfl ?_
              refine X.skip rfl rfl rfl ?_
              refine X.skip rfl rfl rfl ?_
              refine X.skip rfl rfl rfl ?_
              refine X.skip rfl rfl rfl ?_
              refine X.skip rfl rfl rfl ?_
              refine X.pickT rfl rfl rfl rfl rfl rfl ?_
              refine X.done [(1, _), (5, _), (18, _), (19, _), (20, _), (21, _), (22, _), (23, _), (24, _), (6, _), (7, _), (25, _), (26, _), (27, _), (28, _), (29, _), (30, _), (31, _), (32, _), (33, _), (34, _), (35, _), (36, _), (37, _), (38, _), (39, _), (40, _), (41, _), (42, _), (43, _), (44, _)] ⟨rfl, rfl, rfl, rfl, rfl, rfl, rfl, rfl, rfl, rfl, rfl, rfl, rfl, rfl, rfl, rfl, rfl, rfl, rfl, rfl, rfl, rfl, rfl, rfl, rfl, rfl, rfl, rfl, rfl, rfl, rfl, trivial⟩ ?_
              refine N.then ?_
              refine E.condT rfl ?_
              refine E.seq ?_
              refine E.region ?_
              refine X.asg rfl rfl rfl rfl rfl ?_
              refine X.done [(1, _), (5, _), (18, _), (19, _), (20, _), (21, _), (22, _), (23, _), (24, _), (6, _), (7, _), (25, _), (26, _), (27, _), (28, _), (29, _), (30, _), (31, _), (32, _), (33, _), (34, _), (35, _), (36, _), (37, _), (38, _), (39, _), (40, _), (41, _), (42, _), (43, _), (44, _), (4, _)] ⟨rfl, rfl, rfl, rfl, rfl, rfl, rfl, rfl, rfl, rfl, rfl, rfl, rfl, rfl, rfl, rfl, rfl, rfl, rfl, rfl, rfl, rfl, rfl, rfl, rfl, rfl, rfl, rfl, rfl, rfl, rfl, rfl, trivial⟩ ?_
              refine N.then ?_
              refine E.ret ?_
              refine N.thenR ?_
              refine N.blkR ?_
              refine N.thenR ?_
              refine N.loopR ?_
              refine N.blkR ?_
              refine N.thenR ?_
              exact N.retH [_] ⟨_, _, rfl, rfl, rfl⟩ ⟨by rw [costV, if_neg (by omega), ← hJ, cost_step hx hy, if_pos (by unfold badF badL; omega)]; rfl, rfl⟩
            · refine X.pickF rfl rfl rfl rfl rfl rfl ?_
              refine X.mv rfl rfl rfl rfl rfl ?_
              refine X.mv rfl rfl rfl rfl rfl ?_
              refine X.mv rfl rfl rfl rfl rfl ?_
              refine X.ixAe rfl rfl rfl rfl rfl rfl Try.underlying22 Try.sz3 (hae2) (by omega) ?_
              refine X.ld rfl rfl rfl rfl Try.ag3 (hb2) (hc2) ?_
              refine X.gtr rfl rfl rfl rfl rfl rfl ?_
              refine X.pickF rfl rfl rfl rfl rfl rfl ?_
              refine X.done [(1, _), (5, _), (18, _), (19, _), (20, _), (21, _), (22, _), (23, _), (24, _), (6, _), (7, _), (25, _), (26, _), (27, _), (28, _), (29, _), (30, _), (31, _), (32, _), (33, _), (34, _), (35, _), (36, _), (37, _), (38, _), (39, _), (40, _), (41, _), (42, _), (43, _), (44, _)] ⟨rfl, rfl, rfl, rfl, rfl, rfl, rfl, rfl, rfl, rfl, rfl, rfl, rfl, rfl, rfl, rfl, rfl, rfl, rfl, rfl, rfl, rfl, rfl, rfl, rfl, rfl, rfl, rfl, rfl, rfl, rfl, trivial⟩ ?_
              refine N.then ?_
              refine E.condD rfl (fun hc => ?_) (fun hc => ?_)
              · refine E.seq ?_
                refine E.region ?_
                refine X.asg rfl rfl rfl rfl rfl ?_
                refine X.done [(1, _), (5, _), (18, _), (19, _), (20, _), (21, _), (22, _), (23, _), (24, _), (6, _), (7, _), (25, _), (26, _), (27, _), (28, _), (29, _), (30, _), (31, _), (32, _), (33, _), (34, _), (35, _), (36, _), (37, _), (38, _), (39, _), (40, _), (41, _), (42, _), (43, _), (44, _), (4, _)] ⟨rfl, rfl, rfl, rfl, rfl, rfl, rfl, rfl, rfl, rfl, rfl, rfl, rfl, rfl, rfl, rfl, rfl, rfl, rfl, rfl, rfl, rfl, rfl, rfl, rfl, rfl, rfl, rfl, rfl, rfl, rfl, rfl, trivial⟩ ?_
                refine N.then ?_
                refine E.ret ?_
                refine N.thenR ?_
                refine N.blkR ?_
                refine N.thenR ?_
                refine N.loopR ?_
                refine N.blkR ?_
                refine N.thenR ?_
                exact N.retH [_] ⟨_, _, rfl, rfl, rfl⟩ ⟨by rw [costV, if_neg (by omega), ← hJ, cost_step hx hy, if_pos (by unfold badF badL; omega)]; rfl, rfl⟩
              · refine E.skip ?_
                refine N.then ?_
                have hgf : ¬ badF x := by unfold badF; omega
                have hgl : ¬ badL y := by unfold badL; omega
                obtain ⟨hm0, hm1⟩ := mul_small hgf hgl
                refine E.region ?_
                refine X.mv rfl rfl rfl rfl rfl ?_
                refine X.mv rfl rfl rfl rfl rfl ?_
                refine X.mv rfl rfl rfl rfl rfl ?_
                refine X.mv rfl rfl rfl rfl rfl ?_
                refine X.ixAe rfl rfl rfl rfl rfl rfl Try.underlying22 Try.sz3 (hae2) (by omega) ?_
                refine X.ld rfl rfl rfl rfl Try.ag3 (hb2) (hc2) ?_
                refine X.mulE (zz := x * y) rfl rfl rfl rfl rfl rfl (IntWalk.i64_in _ (by omega)) ?_
                refine X.addE (zz := acc + x * y) rfl rfl rfl rfl rfl rfl (IntWalk.i64_in _ (by omega)) ?_
                refine X.asg rfl rfl rfl rfl rfl ?_
                refine X.done [(1, _), (5, _), (18, _), (19, _), (20, _), (21, _), (22, _), (23, _), (24, _), (6, _), (7, _), (25, _), (26, _), (27, _), (28, _), (29, _), (30, _), (31, _), (32, _), (33, _), (34, _), (35, _), (36, _), (37, _), (38, _), (39, _), (40, _), (41, _), (42, _), (43, _), (44, _), (45, _), (46, _), (47, _), (48, _), (49, _), (50, _), (51, _), (52, _)] ⟨rfl, rfl, rfl, rfl, rfl, rfl, rfl, rfl, rfl, rfl, rfl, rfl, rfl, rfl, rfl, rfl, rfl, rfl, rfl, rfl, rfl, rfl, rfl, rfl, rfl, rfl, rfl, rfl, rfl, rfl, rfl, rfl, rfl, rfl, rfl, rfl, rfl, rfl, rfl, trivial⟩ ?_
                refine N.blk ?_
                refine N.then ?_
                refine E.region ?_
                refine X.add rfl rfl rfl rfl rfl rfl (by omega) ?_
                refine X.mv rfl rfl rfl rfl rfl ?_
                refine X.done [(1, _), (5, _), (18, _), (19, _), (20, _), (21, _), (22, _), (23, _), (24, _), (6, _), (7, _), (25, _), (26, _), (27, _), (28, _), (29, _), (30, _), (31, _), (32, _), (33, _), (34, _), (35, _), (36, _), (37, _), (38, _), (39, _), (40, _), (41, _), (42, _), (43, _), (44, _), (45, _), (46, _), (47, _), (48, _), (49, _), (50, _), (51, _), (52, _), (53, _)] ⟨rfl, rfl, rfl, rfl, rfl, rfl, rfl, rfl, rfl, rfl, rfl, rfl, rfl, rfl, rfl, rfl, rfl, rfl, rfl, rfl, rfl, rfl, rfl, rfl, rfl, rfl, rfl, rfl, rfl, rfl, rfl, rfl, rfl, rfl, rfl, rfl, rfl, rfl, rfl, rfl, trivial⟩ ?_
                exact N.next (G := fun (q : Nat × Int) => _) (i + 1, acc + x * y) ⟨rfl, rfl, rfl, rfl, rfl, trivial⟩ ⟨by show i + 1 ≤ fs.length; omega, rfl, by show 0 ≤ acc + x * y; omega, by show acc + x * y ≤ 64424509440 * ((i + 1 : Nat) : Int); omega, by rw [← hJ, cost_step hx hy, if_neg (fun h => h.elim hgf hgl)]⟩ (by show fs.length - (i + 1) < fs.length - i; omega)
      · refine E.exit ?_
        refine N.thenX ?_
        refine N.loopX ?_
        refine N.blkX ?_
        refine N.then ?_
        refine E.seq ?_
        refine E.region ?_
        refine X.mv rfl rfl rfl rfl rfl ?_
        refine X.asg rfl rfl rfl rfl rfl ?_
        refine X.done [(4, _)] ⟨rfl, trivial⟩ ?_
        refine N.then ?_
        refine E.ret ?_
        exact N.retH [_] ⟨_, _, rfl, rfl, rfl⟩ ⟨by rw [costV, if_neg (by omega), ← hJ, cost_end (by omega)]; rfl, rfl⟩

theorem rcost_ct (fs ls : List Int) (a : Option Addr) (b o c : Nat) (a2 : Option Addr) (b2 o2 c2 : Nat) (H : Heap) (hF : Row1 H a b o (iv fs)) (hL : Row1 H a2 b2 o2 (iv ls)) (hmx : fs.length ≤ 1000000 ∧ ls.length ≤ 1000000) : Ct Try.prog 13 #[.slice a fs.length c, .slice a2 ls.length c2] H fun v H' => v = i64 (costV fs ls) ∧ H' = H := by
  refine Ct.into 61 Try.func13 rfl [(0, .slice a fs.length c), (1, .slice a2 ls.length c2)] rfl ⟨rfl, rfl, trivial⟩ ?_
  refine E.seq ?_
  refine E.region ?_
  refine X.asg rfl rfl rfl rfl rfl ?_
  refine X.done [(0, _), (1, _), (4, _)] ⟨rfl, rfl, rfl, trivial⟩ ?_
  refine N.then ?_
  refine E.seq ?_
  refine E.seq ?_
  refine E.region ?_
  refine X.mv rfl rfl rfl rfl rfl ?_
  refine X.lenS rfl rfl rfl rfl rfl Try.underlying22 ?_
  refine X.mv rfl rfl rfl rfl rfl ?_
  refine X.lenS rfl rfl rfl rfl rfl Try.underlying22 ?_
  refine X.neqC rfl rfl rfl rfl rfl rfl (fun hc => ?_) (fun hc => ?_)
  · refine X.mv rfl rfl rfl rfl rfl ?_
    refine X.skip rfl rfl rfl ?_
    refine X.skip rfl rfl rfl ?_
    refine X.skip rfl rfl rfl ?_
    refine X.pickT rfl rfl rfl rfl rfl rfl ?_
    refine X.done [(0, _), (1, _), (4, _), (16, _)] ⟨rfl, rfl, rfl, rfl, trivial⟩ ?_
    refine N.then ?_
    refine E.condT rfl ?_
    refine E.seq ?_
    refine E.region ?_
    refine X.asg rfl rfl rfl rfl rfl ?_
    refine X.done [(0, _), (1, _), (4, _)] ⟨rfl, rfl, rfl, trivial⟩ ?_
    refine N.then ?_
    refine E.ret ?_
    refine N.thenR ?_
    exact N.retH [_] ⟨_, _, rfl, rfl, rfl⟩ ⟨by rw [costV, if_pos (by omega)]; rfl, rfl⟩
  · refine X.mv rfl rfl rfl rfl rfl ?_
    refine X.mv rfl rfl rfl rfl rfl ?_
    refine X.lenS rfl rfl rfl rfl rfl Try.underlying22 ?_
    refine X.gtr rfl rfl rfl rfl rfl rfl ?_
    refine X.pickF rfl rfl rfl rfl rfl rfl ?_
    refine X.done [(0, _), (1, _), (4, _), (16, _)] ⟨rfl, rfl, rfl, rfl, trivial⟩ ?_
    refine N.then ?_
    refine E.condD rfl (fun hc => ?_) (fun hc => ?_)
    · refine E.seq ?_
      refine E.region ?_
      refine X.asg rfl rfl rfl rfl rfl ?_
      refine X.done [(0, _), (1, _), (4, _)] ⟨rfl, rfl, rfl, trivial⟩ ?_
      refine N.then ?_
      refine E.ret ?_
      refine N.thenR ?_
      exact N.retH [_] ⟨_, _, rfl, rfl, rfl⟩ ⟨by rw [costV, if_pos (by omega)]; rfl, rfl⟩
    · refine E.skip ?_
      refine N.then ?_
      refine E.seq ?_
      refine E.region ?_
      refine X.asg rfl rfl rfl rfl rfl ?_
      refine X.done [(0, _), (1, _), (4, _), (5, _)] ⟨rfl, rfl, rfl, rfl, trivial⟩ ?_
      refine N.then ?_
      refine E.seq ?_
      refine E.seq ?_
      refine E.region ?_
      refine X.asg rfl rfl rfl rfl rfl ?_
      refine X.done [(0, _), (1, _), (4, _), (5, _), (6, _)] ⟨rfl, rfl, rfl, rfl, rfl, trivial⟩ ?_
      refine N.then ?_
      refine E.block ?_
      -- MISSING in G: [4]
      refine E.loop (fun (q : Nat × Int) => [(0, .slice a fs.length c), (1, .slice a2 ls.length c2), (5, i64 q.2), (6, i64 q.1)]) (fun (q : Nat × Int) H' => q.1 ≤ fs.length ∧ H' = H ∧ 0 ≤ q.2 ∧ q.2 ≤ 64424509440 * q.1 ∧ costA q.2 (fs.drop q.1) (ls.drop q.1) = costA 0 fs ls) (fun (q : Nat × Int) => fs.length - q.1) (0, 0) ⟨rfl, rfl, rfl, rfl, trivial⟩ ⟨Nat.zero_le _, rfl, Int.le_refl _, by show (0 : Int) ≤ 64424509440 * ((0 : Nat) : Int); omega, rfl⟩ ?_
      rintro ⟨i, acc⟩ H3 hJ
      dsimp only at hJ ⊢
      obtain ⟨hi, eH, ha0, ha1, hJ⟩ := hJ
      obtain rfl := eH.symm
      refine E.seq ?_
      refine E.seq ?_
      refine E.region ?_
      refine X.mv rfl rfl rfl rfl rfl ?_
      refine X.mv rfl rfl rfl rfl rfl ?_
      refine X.lenS rfl rfl rfl rfl rfl Try.underlying22 ?_
      refine X.lss rfl rfl rfl rfl rfl rfl ?_
      refine X.done [(0, _), (1, _), (5, _), (6, _), (17, _), (18, _), (19, _), (20, _)] ⟨rfl, rfl, rfl, rfl, rfl, rfl, rfl, rfl, trivial⟩ ?_
      refine N.then ?_
      refine E.condD rfl (fun hc => ?_) (fun hc => ?_)
      · refine E.skip ?_
        refine N.then ?_
        refine E.seq ?_
        refine E.block ?_
        refine E.seq ?_
        refine E.seq ?_
        have hi2 : i < fs.length := Int.ofNat_lt.1 (by assumption)
        obtain ⟨x, hx⟩ := get_of hi2
        obtain ⟨y, hy⟩ := get_of (xs := ls) (i := i) (by omega)
        obtain ⟨hae, cs1, ct1, fz1, hb1, hc1⟩ := row_at hF hx
        obtain ⟨hae2, cs2, ct2, fz2, hb2, hc2⟩ := row_at hL hy
        refine E.region ?_
        refine X.mv rfl rfl rfl rfl rfl ?_
        refine X.mv rfl rfl rfl rfl rfl ?_
        refine X.ixAe rfl rfl rfl rfl rfl rfl Try.underlying22 Try.sz3 (hae) (by omega) ?_
        refine X.ld rfl rfl rfl rfl Try.ag3 (hb1) (hc1) ?_
        refine X.lssC rfl rfl rfl rfl rfl rfl (fun hc => ?_) (fun hc => ?_)
        · refine X.mv rfl rfl rfl rfl rfl ?_
          refine X.skip rfl rfl rfl ?_
          refine X.skip rfl rfl rfl ?_
          refine X.skip rfl rfl rfl ?_
          refine X.skip rfl rfl rfl ?_
          refine X.skip rfl rfl rfl ?_
          refine X.pickT rfl rfl rfl rfl rfl rfl ?_
          refine X.mv rfl rfl rfl rfl rfl ?_
          refine X.skip rfl rfl rfl ?_
          refine X.skip rfl rfl rfl ?_
          refine X.skip rfl rfl rfl ?_
          refine X.skip rfl rfl rfl ?_
          refine X.skip rfl rfl rfl ?_
          refine X.pickT rfl rfl rfl rfl rfl rfl ?_
          refine X.mv rfl rfl rfl rfl rfl ?_
          refine X.skip rfl rfl rfl ?_
          refine X.skip rfl rfl rfl ?_
          refine X.skip rfl rfl rfl ?_
          refine X.skip rfl rfl rfl ?_
          refine X.skip rfl rfl rfl ?_
          refine X.pickT rfl rfl rfl rfl rfl rfl ?_
          refine X.done [(0, _), (1, _), (5, _), (6, _), (17, _), (18, _), (19, _), (20, _), (23, _), (24, _), (25, _), (26, _), (27, _), (28, _), (29, _), (30, _), (31, _), (32, _), (33, _), (34, _), (35, _), (36, _), (37, _), (38, _), (39, _), (40, _), (41, _), (42, _), (43, _), (44, _), (45, _), (46, _), (47, _), (48, _)] ⟨rfl, rfl, rfl, rfl, rfl, rfl, rfl, rfl, rfl, rfl, rfl, rfl, rfl, rfl, rfl, rfl, rfl, rfl, rfl, rfl, rfl, rfl, rfl, rfl, rfl, rfl, rfl, rfl, rfl, rfl, rfl, rfl, rfl, rfl, trivial⟩ ?_
          refine N.then ?_
          refine E.condT rfl ?_
          refine E.seq ?_
          refine E.region ?_
          refine X.asg rfl rfl rfl rfl rfl ?_
          refine X.done [(0, _), (1, _), (5, _), (6, _), (17, _), (18, _), (19, _), (20, _), (23, _), (24, _), (25, _), (26, _), (27, _), (28, _), (29, _), (30, _), (31, _), (32, _), (33, _), (34, _), (35, _), (36, _), (37, _), (38, _), (39, _), (40, _), (41, _), (42, _), (43, _), (44, _), (45, _), (46, _), (47, _), (48, _), (4, _)] ⟨rfl, rfl, rfl, rfl, rfl, rfl, rfl, rfl, rfl, rfl, rfl, rfl, rfl, rfl, rfl, rfl, rfl, rfl, rfl, rfl, rfl, rfl, rfl, rfl, rfl, rfl, rfl, rfl, rfl, rfl, rfl, rfl, rfl, rfl, rfl, trivial⟩ ?_
          refine N.then ?_
          refine E.ret ?_
          refine N.thenR ?_
          refine N.blkR ?_
          refine N.thenR ?_
          refine N.loopR ?_
          refine N.blkR ?_
          refine N.thenR ?_
          exact N.retH [_] ⟨_, _, rfl, rfl, rfl⟩ ⟨by rw [costV, if_neg (by omega), ← hJ, cost_step hx hy, if_pos (by unfold badF badL; omega)]; rfl, rfl⟩
        · refine X.mv rfl rfl rfl rfl rfl ?_
          refine X.mv rfl rfl rfl rfl rfl ?_
          refine X.mv rfl rfl rfl rfl rfl ?_
          refine X.ixAe rfl rfl rfl rfl rfl rfl Try.underlying22 Try.sz3 (hae) (by omega) ?_
          refine X.ld rfl rfl rfl rfl Try.ag3 (hb1) (hc1) ?_
          refine X.gtrC rfl rfl rfl rfl rfl rfl (fun hc => ?_) (fun hc => ?_)
          · refine X.pickF rfl rfl rfl rfl rfl rfl ?_
            refine X.mv rfl rfl rfl rfl rfl ?_
            refine X.skip rfl rfl rfl ?_
            refine X.skip rfl rfl rfl ?_
            refine X.skip rfl rfl rfl ?_
            refine X.skip rfl rfl rfl ?_
            refine X.skip rfl rfl rfl ?_
            refine X.pickT rfl rfl rfl rfl rfl rfl ?_
            refine X.mv rfl rfl rfl rfl rfl ?_
            refine X.skip rfl rfl rfl ?_
            refine X.skip rfl rfl rfl ?_
            refine X.skip rfl rfl rfl ?_
            refine X.skip rfl rfl rfl ?_
            refine X.skip rfl rfl rfl ?_
            refine X.pickT rfl rfl rfl rfl rfl rfl ?_
            refine X.done [(0, _), (1, _), (5, _), (6, _), (17, _), (18, _), (19, _), (20, _), (23, _), (24, _), (25, _), (26, _), (27, _), (28, _), (29, _), (30, _), (31, _), (32, _), (33, _), (34, _), (35, _), (36, _), (37, _), (38, _), (39, _), (40, _), (41, _), (42, _), (43, _), (44, _), (45, _), (46, _), (47, _), (48, _)] ⟨rfl, rfl, rfl, rfl, rfl, rfl, rfl, rfl, rfl, rfl, rfl, rfl, rfl, rfl, rfl, rfl, rfl, rfl, rfl, rfl, rfl, rfl, rfl, rfl, rfl, rfl, rfl, rfl, rfl, rfl, rfl, rfl, rfl, rfl, trivial⟩ ?_
            refine N.then ?_
            refine E.condT rfl ?_
            refine E.seq ?_
            refine E.region ?_
            refine X.asg rfl rfl rfl rfl rfl ?_
            refine X.done [(0, _), (1, _), (5, _), (6, _), (17, _), (18, _), (19, _), (20, _), (23, _), (24, _), (25, _), (26, _), (27, _), (28, _), (29, _), (30, _), (31, _), (32, _), (33, _), (34, _), (35, _), (36, _), (37, _), (38, _), (39, _), (40, _), (41, _), (42, _), (43, _), (44, _), (45, _), (46, _), (47, _), (48, _), (4, _)] ⟨rfl, rfl, rfl, rfl, rfl, rfl, rfl, rfl, rfl, rfl, rfl, rfl, rfl, rfl, rfl, rfl, rfl, rfl, rfl, rfl, rfl, rfl, rfl, rfl, rfl, rfl, rfl, rfl, rfl, rfl, rfl, rfl, rfl, rfl, rfl, trivial⟩ ?_
            refine N.then ?_
            refine E.ret ?_
            refine N.thenR ?_
            refine N.blkR ?_
            refine N.thenR ?_
            refine N.loopR ?_
            refine N.blkR ?_
            refine N.thenR ?_
            exact N.retH [_] ⟨_, _, rfl, rfl, rfl⟩ ⟨by rw [costV, if_neg (by omega), ← hJ, cost_step hx hy, if_pos (by unfold badF badL; omega)]; rfl, rfl⟩
          · refine X.pickF rfl rfl rfl rfl rfl rfl ?_
            refine X.mv rfl rfl rfl rfl rfl ?_
            refine X.mv rfl rfl rfl rfl rfl ?_
            refine X.mv rfl rfl rfl rfl rfl ?_
            refine X.ixAe rfl rfl rfl rfl rfl rfl Try.underlying22 Try.sz3 (hae2) (by omega) ?_
            refine X.ld rfl rfl rfl rfl Try.ag3 (hb2) (hc2) ?_
            refine X.lssC rfl rfl rfl rfl rfl rfl (fun hc => ?_) (fun hc => ?_)
            · refine X.pickF rfl rfl rfl rfl rfl rfl ?_
              refine X.mv rfl rfl rfl rfl rfl ?_
              refine X.skip rfl rfl rfl ?_
              refine X.skip rfl rfl rfl ?_
              refine X.skip rfl rfl rfl ?_
              refine X.skip rfl rfl rfl ?_
              refine X.skip rfl rfl rfl ?_
              refine X.pickT rfl rfl rfl rfl rfl rfl ?_
              refine X.done [(0, _), (1, _), (5, _), (6, _), (17, _), (18, _), (19, _), (20, _), (23, _), (24, _), (25, _), (26, _), (27, _), (28, _), (29, _), (30, _), (31, _), (32, _), (33, _), (34, _), (35, _), (36, _), (37, _), (38, _), (39, _), (40, _), (41, _), (42, _), (43, _), (44, _), (45, _), (46, _), (47, _), (48, _)] ⟨rfl, rfl, rfl, rfl, rfl, rfl, rfl, rfl, rfl, rfl, rfl, rfl, rfl, rfl, rfl, rfl, rfl, rfl, rfl, rfl, rfl, rfl, rfl, rfl, rfl, rfl, rfl, rfl, rfl, rfl, rfl, rfl, rfl, rfl, trivial⟩ ?_
              refine N.then ?_
              refine E.condT rfl ?_
              refine E.seq ?_
              refine E.region ?_
              refine X.asg rfl rfl rfl rfl rfl ?_
              refine X.done [(0, _), (1, _), (5, _), (6, _), (17, _), (18, _), (19, _), (20, _), (23, _), (24, _), (25, _), (26, _), (27, _), (28, _), (29, _), (30, _), (31, _), (32, _), (33, _), (34, _), (35, _), (36, _), (37, _), (38, _), (39, _), (40, _), (41, _), (42, _), (43, _), (44, _), (45, _), (46, _), (47, _), (48, _), (4, _)] ⟨rfl, rfl, rfl, rfl, rfl, rfl, rfl, rfl, rfl, rfl, rfl, rfl, rfl, rfl, rfl, rfl, rfl, rfl, rfl, rfl, rfl, rfl, rfl, rfl, rfl, rfl, rfl, rfl, rfl, rfl, rfl, rfl, rfl, rfl, rfl, trivial⟩ ?_
              refine N.then ?_
              refine E.ret ?_
              refine N.thenR ?_
              refine N.blkR ?_
              refine N.thenR ?_
              refine N.loopR ?_
              refine N.blkR ?_
              refine N.thenR ?_
              exact N.retH [_] ⟨_, _, rfl, rfl, rfl⟩ ⟨by rw [costV, if_neg (by omega), ← hJ, cost_step hx hy, if_pos (by unfold badF badL; omega)]; rfl, rfl⟩
            · refine X.pickF rfl rfl rfl rfl rfl rfl ?_
              refine X.mv rfl rfl rfl rfl rfl ?_
              refine X.mv rfl rfl rfl rfl rfl ?_
              refine X.mv rfl rfl rfl rfl rfl ?_
              refine X.ixAe rfl rfl rfl rfl rfl rfl Try.underlying22 Try.sz3 (hae2) (by omega) ?_
              refine X.ld rfl rfl rfl rfl Try.ag3 (hb2) (hc2) ?_
              refine X.gtr rfl rfl rfl rfl rfl rfl ?_
              refine X.pickF rfl rfl rfl rfl rfl rfl ?_
              refine X.done [(0, _), (1, _), (5, _), (6, _), (17, _), (18, _), (19, _), (20, _), (23, _), (24, _), (25, _), (26, _), (27, _), (28, _), (29, _), (30, _), (31, _), (32, _), (33, _), (34, _), (35, _), (36, _), (37, _), (38, _), (39, _), (40, _), (41, _), (42, _), (43, _), (44, _), (45, _), (46, _), (47, _), (48, _)] ⟨rfl, rfl, rfl, rfl, rfl, rfl, rfl, rfl, rfl, rfl, rfl, rfl, rfl, rfl, rfl, rfl, rfl, rfl, rfl, rfl, rfl, rfl, rfl, rfl, rfl, rfl, rfl, rfl, rfl, rfl, rfl, rfl, rfl, rfl, trivial⟩ ?_
              refine N.then ?_
              refine E.condD rfl (fun hc => ?_) (fun hc => ?_)
              · refine E.seq ?_
                refine E.region ?_
                refine X.asg rfl rfl rfl rfl rfl ?_
                refine X.done [(0, _), (1, _), (5, _), (6, _), (17, _), (18, _), (19, _), (20, _), (23, _), (24, _), (25, _), (26, _), (27, _), (28, _), (29, _), (30, _), (31, _), (32, _), (33, _), (34, _), (35, _), (36, _), (37, _), (38, _), (39, _), (40, _), (41, _), (42, _), (43, _), (44, _), (45, _), (46, _), (47, _), (48, _), (4, _)] ⟨rfl, rfl, rfl, rfl, rfl, rfl, rfl, rfl, rfl, rfl, rfl, rfl, rfl, rfl, rfl, rfl, rfl, rfl, rfl, rfl, rfl, rfl, rfl, rfl, rfl, rfl, rfl, rfl, rfl, rfl, rfl, rfl, rfl, rfl, rfl, trivial⟩ ?_
                refine N.then ?_
                refine E.ret ?_
                refine N.thenR ?_
                refine N.blkR ?_
                refine N.thenR ?_
                refine N.loopR ?_
                refine N.blkR ?_
                refine N.thenR ?_
                exact N.retH [_] ⟨_, _, rfl, rfl, rfl⟩ ⟨by rw [costV, if_neg (by omega), ← hJ, cost_step hx hy, if_pos (by unfold badF badL; omega)]; rfl, rfl⟩
              · refine E.skip ?_
                refine N.then ?_
                have hgf : ¬ badF x := by unfold badF; omega
                have hgl : ¬ badL y := by unfold badL; omega
                obtain ⟨hm0, hm1⟩ := mul_small hgf hgl
                refine E.regionD (fun H' => H'[b]? = some (.cells cs1.toArray ct1 fz1) ∧ H'[b2]? = some (.cells cs2.toArray ct2 fz2)) [(0, .pu), (1, .pu), (2, .pu), (3, .pu), (4, .st), (5, .pu), (6, .pu), (7, .pu), (8, .st), (9, .pu), (10, .pu), (11, .pu)] Try.mixed (by kernel_rfl) (⟨hb1, hb2⟩) ?_
                refine X.mv rfl rfl rfl rfl rfl ?_
                refine X.mv rfl rfl rfl rfl rfl ?_
                refine X.mv rfl rfl rfl rfl rfl ?_
                refine X.ixAe rfl rfl rfl rfl rfl rfl Try.underlying22 Try.sz3 (hae) (by omega) ?_
                refine X.ld rfl rfl rfl rfl Try.ag3 (fun H' hF => hF.1) (hc1) ?_
                refine X.mv rfl rfl rfl rfl rfl ?_
                refine X.mv rfl rfl rfl rfl rfl ?_
                refine X.ixAe rfl rfl rfl rfl rfl rfl Try.underlying22 Try.sz3 (hae2) (by omega) ?_
                refine X.ld rfl rfl rfl rfl Try.ag3 (fun H' hF => hF.2) (hc2) ?_
                refine X.mulE (zz := x * y) rfl rfl rfl rfl rfl rfl (IntWalk.i64_in _ (by omega)) ?_
                refine X.addE (zz := acc + x * y) rfl rfl rfl rfl rfl rfl (IntWalk.i64_in _ (by omega)) ?_
                refine X.asg rfl rfl rfl rfl rfl ?_
                refine X.done [(0, _), (1, _), (5, _), (6, _), (17, _), (18, _), (19, _), (20, _), (23, _), (24, _), (25, _), (26, _), (27, _), (28, _), (29, _), (30, _), (31, _), (32, _), (33, _), (34, _), (35, _), (36, _), (37, _), (38, _), (39, _), (40, _), (41, _), (42, _), (43, _), (44, _), (45, _), (46, _), (47, _), (48, _), (49, _), (50, _), (51, _), (52, _), (53, _), (54, _), (55, _), (56, _), (57, _), (58, _), (59, _)] ⟨rfl, rfl, rfl, rfl, rfl, rfl, rfl, rfl, rfl, rfl, rfl, rfl, rfl, rfl, rfl, rfl, rfl, rfl, rfl, rfl, rfl, rfl, rfl, rfl, rfl, rfl, rfl, rfl, rfl, rfl, rfl, rfl, rfl, rfl, rfl, rfl, rfl, rfl, rfl, rfl, rfl, rfl, rfl, rfl, rfl, trivial⟩ ?_
                refine N.blk ?_
                refine N.then ?_
                refine E.region ?_
                refine X.mv rfl rfl rfl rfl rfl ?_
                refine X.add rfl rfl rfl rfl rfl rfl (by omega) ?_
                refine X.asg rfl rfl rfl rfl rfl ?_
                refine X.done [(0, _), (1, _), (5, _), (6, _), (17, _), (18, _), (19, _), (20, _), (23, _), (24, _), (25, _), (26, _), (27, _), (28, _), (29, _), (30, _), (31, _), (32, _), (33, _), (34, _), (35, _), (36, _), (37, _), (38, _), (39, _), (40, _), (41, _), (42, _), (43, _), (44, _), (45, _), (46, _), (47, _), (48, _), (49, _), (50, _), (51, _), (52, _), (53, _), (54, _), (55, _), (56, _), (57, _), (58, _), (59, _), (21, _), (22, _)] ⟨rfl, rfl, rfl, rfl, rfl, rfl, rfl, rfl, rfl, rfl, rfl, rfl, rfl, rfl, rfl, rfl, rfl, rfl, rfl, rfl, rfl, rfl, rfl, rfl, rfl, rfl, rfl, rfl, rfl, rfl, rfl, rfl, rfl, rfl, rfl, rfl, rfl, rfl, rfl, rfl, rfl, rfl, rfl, rfl, rfl, rfl, rfl, trivial⟩ ?_
                exact N.next (G := fun (q : Nat × Int) => _) (i + 1, acc + x * y) ⟨rfl, rfl, rfl, rfl, trivial⟩ ⟨by show i + 1 ≤ fs.length; omega, rfl, by show 0 ≤ acc + x * y; omega, by show acc + x * y ≤ 64424509440 * ((i + 1 : Nat) : Int); omega, by rw [← hJ, cost_step hx hy, if_neg (fun h => h.elim hgf hgl)]⟩ (by show fs.length - (i + 1) < fs.length - i; omega)
      · refine E.exit ?_
        refine N.thenX ?_
        refine N.loopX ?_
        refine N.blkX ?_
        refine N.then ?_
        refine E.seq ?_
        refine E.region ?_
        refine X.mv rfl rfl rfl rfl rfl ?_
        refine X.asg rfl rfl rfl rfl rfl ?_
        refine X.done [(4, _)] ⟨rfl, trivial⟩ ?_
        refine N.then ?_
        refine E.ret ?_
        exact N.retH [_] ⟨_, _, rfl, rfl, rfl⟩ ⟨by rw [costV, if_neg (by omega), ← hJ, cost_end (by omega)]; rfl, rfl⟩

theorem may_ct (fs : List Int) (a : Option Addr) (b o c : Nat) (most : Int) (H : Heap) (hF : Row1 H a b o (iv fs)) (hmx : fs.length ≤ 1000000) : Ct Try.prog 16 #[.slice a fs.length c, i64 most] H fun v H' => v = .tuple #[i64 (mayV fs most).1, i64 (mayV fs most).2] ∧ H' = H := by
  refine Ct.into 43 Try.func16 rfl [(0, .slice a fs.length c), (1, i64 most)] rfl ⟨rfl, rfl, trivial⟩ ?_
  refine E.seq ?_
  refine E.region ?_
  refine X.asg rfl rfl rfl rfl rfl ?_
  refine X.asg rfl rfl rfl rfl rfl ?_
  refine X.done [(0, _), (1, _), (4, _), (5, _)] ⟨rfl, rfl, rfl, rfl, trivial⟩ ?_
  refine N.then ?_
  refine E.seq ?_
  refine E.block ?_
  refine E.seq ?_
  refine E.region ?_
  refine X.mv rfl rfl rfl rfl rfl ?_
  refine X.lenS rfl rfl rfl rfl rfl Try.underlying22 ?_
  refine X.gtr rfl rfl rfl rfl rfl rfl ?_
  refine X.asg rfl rfl rfl rfl rfl ?_
  refine X.done [(0, _), (1, _), (4, _), (5, _), (9, _)] ⟨rfl, rfl, rfl, rfl, rfl, trivial⟩ ?_
  refine N.then ?_
  refine E.condD rfl (fun hc => ?_) (fun hc => ?_)
  · refine E.seq ?_
    refine E.region ?_
    refine X.asg rfl rfl rfl rfl rfl ?_
    refine X.asg rfl rfl rfl rfl rfl ?_
    refine X.done [(0, _), (1, _), (4, _), (5, _)] ⟨rfl, rfl, rfl, rfl, trivial⟩ ?_
    refine N.then ?_
    refine E.ret ?_
    refine N.blkR ?_
    refine N.thenR ?_
    exact N.retH [_, _] ⟨_, _, rfl, rfl, _, _, rfl, rfl, rfl⟩ ⟨by rw [mayV, if_pos (by omega)]; rfl, rfl⟩
  · refine E.seq ?_
    refine E.region ?_
    refine X.mv rfl rfl rfl rfl rfl ?_
    refine X.lssC rfl rfl rfl rfl rfl rfl (fun hc => ?_) (fun hc => ?_)
    · refine X.mv rfl rfl rfl rfl rfl ?_
      refine X.skip rfl rfl rfl ?_
      refine X.skip rfl rfl rfl ?_
      refine X.pickT rfl rfl rfl rfl rfl rfl ?_
      refine X.asg rfl rfl rfl rfl rfl ?_
      refine X.done [(0, _), (1, _), (4, _), (5, _), (13, _)] ⟨rfl, rfl, rfl, rfl, rfl, trivial⟩ ?_
      refine N.then ?_
      refine E.condT rfl ?_
      refine E.seq ?_
      refine E.region ?_
      refine X.asg rfl rfl rfl rfl rfl ?_
      refine X.asg rfl rfl rfl rfl rfl ?_
      refine X.done [(0, _), (1, _), (4, _), (5, _)] ⟨rfl, rfl, rfl, rfl, trivial⟩ ?_
      refine N.then ?_
      refine E.ret ?_
      refine N.blkR ?_
      refine N.thenR ?_
      exact N.retH [_, _] ⟨_, _, rfl, rfl, _, _, rfl, rfl, rfl⟩ ⟨by rw [mayV, if_neg (by omega), if_pos (by omega)]; rfl, rfl⟩
    · refine X.mv rfl rfl rfl rfl rfl ?_
      refine X.mv rfl rfl rfl rfl rfl ?_
      refine X.gtr rfl rfl rfl rfl rfl rfl ?_
      refine X.pickF rfl rfl rfl rfl rfl rfl ?_
      refine X.asg rfl rfl rfl rfl rfl ?_
      refine X.done [(0, _), (1, _), (4, _), (5, _), (13, _)] ⟨rfl, rfl, rfl, rfl, rfl, trivial⟩ ?_
      refine N.then ?_
      refine E.condD rfl (fun hc => ?_) (fun hc => ?_)
      · refine E.seq ?_
        refine E.region ?_
        refine X.asg rfl rfl rfl rfl rfl ?_
        refine X.asg rfl rfl rfl rfl rfl ?_
        refine X.done [(0, _), (1, _), (4, _), (5, _)] ⟨rfl, rfl, rfl, rfl, trivial⟩ ?_
        refine N.then ?_
        refine E.ret ?_
        refine N.blkR ?_
        refine N.thenR ?_
        exact N.retH [_, _] ⟨_, _, rfl, rfl, _, _, rfl, rfl, rfl⟩ ⟨by rw [mayV, if_neg (by omega), if_pos (by omega)]; rfl, rfl⟩
      · refine E.skip ?_
        refine N.blk ?_
        refine N.then ?_
        refine E.seq ?_
        refine E.region ?_
        refine X.asg rfl rfl rfl rfl rfl ?_
        refine X.done [(0, _), (1, _), (4, _), (5, _), (6, _)] ⟨rfl, rfl, rfl, rfl, rfl, trivial⟩ ?_
        refine N.then ?_
        refine E.seq ?_
        refine E.seq ?_
        refine E.region ?_
        refine X.mv rfl rfl rfl rfl rfl ?_
        refine X.lenS rfl rfl rfl rfl rfl Try.underlying22 ?_
        refine X.mv rfl rfl rfl rfl rfl ?_
        refine X.done [(1, _), (4, _), (5, _), (6, _), (20, _), (21, _), (22, _)] ⟨rfl, rfl, rfl, rfl, rfl, rfl, rfl, trivial⟩ ?_
        refine N.then ?_
        refine E.block ?_
        -- MISSING in G: [4, 5]
        refine E.loop (fun (q : Nat × Int) => [(1, i64 most), (6, i64 q.2), (20, .slice a fs.length c), (21, i64 fs.length), (22, i64 q.1)]) (fun (q : Nat × Int) H' => q.1 ≤ fs.length ∧ H' = H ∧ 0 ≤ q.2 ∧ q.2 ≤ (q.1 : Int) ∧ mayA q.2 (fs.drop q.1) = mayA 0 fs) (fun (q : Nat × Int) => fs.length - q.1) (0, 0) ⟨rfl, rfl, rfl, rfl, rfl, trivial⟩ ⟨Nat.zero_le _, rfl, Int.le_refl _, Int.le_refl _, rfl⟩ ?_
        have hms : ¬ (most < 1 ∨ 15 < most) := by omega
        rintro ⟨i, acc⟩ H3 hJ
        dsimp only at hJ ⊢
        obtain ⟨hi, eH, ha0, ha1, hJ⟩ := hJ
        obtain rfl := eH.symm
        refine E.seq ?_
        refine E.region ?_
        refine X.lss rfl rfl rfl rfl rfl rfl ?_
        refine X.done [(1, _), (6, _), (20, _), (21, _), (22, _), (23, _)] ⟨rfl, rfl, rfl, rfl, rfl, rfl, trivial⟩ ?_
        refine N.then ?_
        refine E.seq ?_
        refine E.condD rfl (fun hc => ?_) (fun hc => ?_)
        · refine E.skip ?_
          refine N.then ?_
          refine E.seq ?_
          refine E.block ?_
          refine E.seq ?_
          have hi2 : i < fs.length := Int.ofNat_lt.1 (by assumption)
          obtain ⟨x, hx⟩ := get_of hi2
          obtain ⟨hae, cs1, ct1, fz1, hb1, hc1⟩ := row_at hF hx
          refine E.region ?_
          refine X.ixAe rfl rfl rfl rfl rfl rfl Try.underlying22 Try.sz3 (hae) (by omega) ?_
          refine X.ld rfl rfl rfl rfl Try.ag3 (hb1) (hc1) ?_
          refine X.asg rfl rfl rfl rfl rfl ?_
          refine X.done [(1, _), (6, _), (20, _), (21, _), (22, _), (23, _), (24, _), (25, _), (8, _)] ⟨rfl, rfl, rfl, rfl, rfl, rfl, rfl, rfl, rfl, trivial⟩ ?_
          refine N.then ?_
          refine E.seq ?_
          refine E.seq ?_
          refine E.region ?_
          refine X.mv rfl rfl rfl rfl rfl ?_
          refine X.lssC rfl rfl rfl rfl rfl rfl (fun hc => ?_) (fun hc => ?_)
          · refine X.mv rfl rfl rfl rfl rfl ?_
            refine X.skip rfl rfl rfl ?_
            refine X.skip rfl rfl rfl ?_
            refine X.pickT rfl rfl rfl rfl rfl rfl ?_
            refine X.done [(1, _), (6, _), (20, _), (21, _), (22, _), (23, _), (24, _), (25, _), (8, _), (26, _), (27, _), (28, _), (29, _), (30, _), (31, _)] ⟨rfl, rfl, rfl, rfl, rfl, rfl, rfl, rfl, rfl, rfl, rfl, rfl, rfl, rfl, rfl, trivial⟩ ?_
            refine N.then ?_
            refine E.condT rfl ?_
            refine E.seq ?_
            refine E.region ?_
            refine X.asg rfl rfl rfl rfl rfl ?_
            refine X.asg rfl rfl rfl rfl rfl ?_
            refine X.done [(1, _), (6, _), (20, _), (21, _), (22, _), (23, _), (24, _), (25, _), (8, _), (26, _), (27, _), (28, _), (29, _), (30, _), (31, _), (4, _), (5, _)] ⟨rfl, rfl, rfl, rfl, rfl, rfl, rfl, rfl, rfl, rfl, rfl, rfl, rfl, rfl, rfl, rfl, rfl, trivial⟩ ?_
            refine N.then ?_
            refine E.ret ?_
            refine N.thenR ?_
            refine N.blkR ?_
            refine N.thenR ?_
            refine N.loopR ?_
            refine N.blkR ?_
            refine N.thenR ?_
            exact N.retH [_, _] ⟨_, _, rfl, rfl, _, _, rfl, rfl, rfl⟩ ⟨by rw [may_none (by omega) hms (by rw [← hJ, may_step hx, if_pos (show badF x by unfold badF; omega)])]; rfl, rfl⟩
          · refine X.mv rfl rfl rfl rfl rfl ?_
            refine X.mv rfl rfl rfl rfl rfl ?_
            refine X.gtr rfl rfl rfl rfl rfl rfl ?_
            refine X.pickF rfl rfl rfl rfl rfl rfl ?_
            refine X.done [(1, _), (6, _), (20, _), (21, _), (22, _), (23, _), (24, _), (25, _), (8, _), (26, _), (27, _), (28, _), (29, _), (30, _), (31, _)] ⟨rfl, rfl, rfl, rfl, rfl, rfl, rfl, rfl, rfl, rfl, rfl, rfl, rfl, rfl, rfl, trivial⟩ ?_
            refine N.then ?_
            refine E.condD rfl (fun hc => ?_) (fun hc => ?_)
            · refine E.seq ?_
              refine E.region ?_
              refine X.asg rfl rfl rfl rfl rfl ?_
              refine X.asg rfl rfl rfl rfl rfl ?_
              refine X.done [(1, _), (6, _), (20, _), (21, _), (22, _), (23, _), (24, _), (25, _), (8, _), (26, _), (27, _), (28, _), (29, _), (30, _), (31, _), (4, _), (5, _)] ⟨rfl, rfl, rfl, rfl, rfl, rfl, rfl, rfl, rfl, rfl, rfl, rfl, rfl, rfl, rfl, rfl, rfl, trivial⟩ ?_
              refine N.then ?_
              refine E.ret ?_
              refine N.thenR ?_
              refine N.blkR ?_
              refine N.thenR ?_
              refine N.loopR ?_
              refine N.blkR ?_
              refine N.thenR ?_
              exact N.retH [_, _] ⟨_, _, rfl, rfl, _, _, rfl, rfl, rfl⟩ ⟨by rw [may_none (by omega) hms (by rw [← hJ, may_step hx, if_pos (show badF x by unfold badF; omega)])]; rfl, rfl⟩
            · refine E.skip ?_
              refine N.then ?_
              refine E.seq ?_
              have hgf : ¬ badF x := by unfold badF; omega
              refine E.region ?_
              refine X.mv rfl rfl rfl rfl rfl ?_
              refine X.gtr rfl rfl rfl rfl rfl rfl ?_
              refine X.done [(1, _), (6, _), (20, _), (21, _), (22, _), (23, _), (24, _), (25, _), (8, _), (26, _), (27, _), (28, _), (29, _), (30, _), (31, _), (32, _), (33, _)] ⟨rfl, rfl, rfl, rfl, rfl, rfl, rfl, rfl, rfl, rfl, rfl, rfl, rfl, rfl, rfl, rfl, rfl, trivial⟩ ?_
              refine N.then ?_
              refine E.condD rfl (fun hc => ?_) (fun hc => ?_)
              · refine E.region ?_
                refine X.mv rfl rfl rfl rfl rfl ?_
                refine X.addE (zz := (acc + 1)) rfl rfl rfl rfl rfl rfl (by rw [IntWalk.i64_in _ (by omega)] <;> omega) ?_
                refine X.asg rfl rfl rfl rfl rfl ?_
                refine X.done [(1, _), (6, _), (20, _), (21, _), (22, _), (23, _), (24, _), (25, _), (8, _), (26, _), (27, _), (28, _), (29, _), (30, _), (31, _), (32, _), (33, _), (34, _), (35, _)] ⟨rfl, rfl, rfl, rfl, rfl, rfl, rfl, rfl, rfl, rfl, rfl, rfl, rfl, rfl, rfl, rfl, rfl, rfl, rfl, trivial⟩ ?_
                refine N.blk ?_
                refine N.then ?_
                refine E.region ?_
                refine X.add rfl rfl rfl rfl rfl rfl (by omega) ?_
                refine X.mv rfl rfl rfl rfl rfl ?_
                refine X.done [(1, _), (6, _), (20, _), (21, _), (22, _), (23, _), (24, _), (25, _), (8, _), (26, _), (27, _), (28, _), (29, _), (30, _), (31, _), (32, _), (33, _), (34, _), (35, _), (36, _)] ⟨rfl, rfl, rfl, rfl, rfl, rfl, rfl, rfl, rfl, rfl, rfl, rfl, rfl, rfl, rfl, rfl, rfl, rfl, rfl, rfl, trivial⟩ ?_
                first | exact N.next (G := fun (q : Nat × Int) => _) (i + 1, acc + 1) ⟨rfl, rfl, rfl, rfl, rfl, trivial⟩ ⟨by show i + 1 ≤ fs.length; omega, rfl, by show 0 ≤ acc + 1; omega, by show acc + 1 ≤ ((i + 1 : Nat) : Int); omega, by rw [← hJ, may_step hx, if_neg hgf, if_pos (by assumption)]⟩ (by show fs.length - (i + 1) < fs.length - i; omega) | exact N.next (G := fun (q : Nat × Int) => _) (i + 1, acc) ⟨rfl, rfl, rfl, rfl, rfl, trivial⟩ ⟨by show i + 1 ≤ fs.length; omega, rfl, by show 0 ≤ acc; omega, by show acc ≤ ((i + 1 : Nat) : Int); omega, by rw [← hJ, may_step hx, if_neg hgf, if_neg (by assumption)]⟩ (by show fs.length - (i + 1) < fs.length - i; omega)
              · refine E.skip ?_
                refine N.blk ?_
                refine N.then ?_
                refine E.region ?_
                refine X.add rfl rfl rfl rfl rfl rfl (by omega) ?_
                refine X.mv rfl rfl rfl rfl rfl ?_
                refine X.done [(1, _), (6, _), (20, _), (21, _), (22, _), (23, _), (24, _), (25, _), (8, _), (26, _), (27, _), (28, _), (29, _), (30, _), (31, _), (32, _), (33, _), (36, _)] ⟨rfl, rfl, rfl, rfl, rfl, rfl, rfl, rfl, rfl, rfl, rfl, rfl, rfl, rfl, rfl, rfl, rfl, rfl, trivial⟩ ?_
                first | exact N.next (G := fun (q : Nat × Int) => _) (i + 1, acc + 1) ⟨rfl, rfl, rfl, rfl, rfl, trivial⟩ ⟨by show i + 1 ≤ fs.length; omega, rfl, by show 0 ≤ acc + 1; omega, by show acc + 1 ≤ ((i + 1 : Nat) : Int); omega, by rw [← hJ, may_step hx, if_neg hgf, if_pos (by assumption)]⟩ (by show fs.length - (i + 1) < fs.length - i; omega) | exact N.next (G := fun (q : Nat × Int) => _) (i + 1, acc) ⟨rfl, rfl, rfl, rfl, rfl, trivial⟩ ⟨by show i + 1 ≤ fs.length; omega, rfl, by show 0 ≤ acc; omega, by show acc ≤ ((i + 1 : Nat) : Int); omega, by rw [← hJ, may_step hx, if_neg hgf, if_neg (by assumption)]⟩ (by show fs.length - (i + 1) < fs.length - i; omega)
        · refine E.exit ?_
          refine N.thenX ?_
          refine N.loopX ?_
          refine N.blkX ?_
          refine N.then ?_
          refine E.seq ?_
          refine E.seq ?_
          have hfin : mayA 0 fs = some acc := by rw [← hJ, may_end (by omega)]
          refine E.region ?_
          refine X.mv rfl rfl rfl rfl rfl ?_
          refine X.mv rfl rfl rfl rfl rfl ?_
          refine X.convE (zz := most) rfl rfl rfl rfl rfl Try.underlying45 Try.us3 (IntWalk.u64_in _ (by omega)) ?_
          refine X.shlE (zz := ((2 ^ most.toNat : Nat) : Int)) rfl rfl rfl rfl rfl rfl (by omega) (shl_most hms rfl) ?_
          refine X.gtr rfl rfl rfl rfl rfl rfl ?_
          refine X.done [(6, _), (41, _)] ⟨rfl, rfl, trivial⟩ ?_
          refine N.then ?_
          refine E.condD rfl (fun hc => ?_) (fun hc => ?_)
          · refine E.seq ?_
            refine E.region ?_
            refine X.asg rfl rfl rfl rfl rfl ?_
            refine X.asg rfl rfl rfl rfl rfl ?_
            refine X.done [(6, _), (4, _), (5, _)] ⟨rfl, rfl, rfl, trivial⟩ ?_
            refine N.then ?_
            refine E.ret ?_
            refine N.thenR ?_
            exact N.retH [_, _] ⟨_, _, rfl, rfl, _, _, rfl, rfl, rfl⟩ ⟨by rw [may_over (by omega) hms hfin (by assumption)]; rfl, rfl⟩
          · refine E.skip ?_
            refine N.then ?_
            refine E.seq ?_
            refine E.region ?_
            refine X.mv rfl rfl rfl rfl rfl ?_
            refine X.asg rfl rfl rfl rfl rfl ?_
            refine X.asg rfl rfl rfl rfl rfl ?_
            refine X.done [(4, _), (5, _)] ⟨rfl, rfl, trivial⟩ ?_
            refine N.then ?_
            refine E.ret ?_
            exact N.retH [_, _] ⟨_, _, rfl, rfl, _, _, rfl, rfl, rfl⟩ ⟨by rw [may_ok (by omega) hms hfin (by assumption)]; rfl, rfl⟩

theorem rwrong_ct (fs : List Int) (a : Option Addr) (b o c : Nat) (most : Int) (H : Heap) (hF : Row1 H a b o (iv fs)) (hmx : fs.length ≤ 1000000) : Ct Try.prog 9 #[.slice a fs.length c, i64 most] H fun v H' => v = i64 (mayV fs most).2 ∧ H' = H := by
  refine Ct.into 46 Try.func9 rfl [(0, .slice a fs.length c), (1, i64 most)] rfl ⟨rfl, rfl, trivial⟩ ?_
  refine E.seq ?_
  refine E.region ?_
  refine X.asg rfl rfl rfl rfl rfl ?_
  refine X.done [(0, _), (1, _), (4, _)] ⟨rfl, rfl, rfl, trivial⟩ ?_
  refine N.then ?_
  refine E.seq ?_
  refine E.seq ?_
  refine E.region ?_
  refine X.mv rfl rfl rfl rfl rfl ?_
  refine X.lenS rfl rfl rfl rfl rfl Try.underlying22 ?_
  refine X.gtr rfl rfl rfl rfl rfl rfl ?_
  refine X.done [(0, _), (1, _), (4, _), (9, _)] ⟨rfl, rfl, rfl, rfl, trivial⟩ ?_
  refine N.then ?_
  refine E.condD rfl (fun hc => ?_) (fun hc => ?_)
  · refine E.seq ?_
    refine E.region ?_
    refine X.asg rfl rfl rfl rfl rfl ?_
    refine X.done [(0, _), (1, _), (4, _)] ⟨rfl, rfl, rfl, trivial⟩ ?_
    refine N.then ?_
    refine E.ret ?_
    refine N.thenR ?_
    exact N.retH [_] ⟨_, _, rfl, rfl, rfl⟩ ⟨by rw [mayV, if_pos (by omega)]; rfl, rfl⟩
  · refine E.skip ?_
    refine N.then ?_
    refine E.seq ?_
    refine E.seq ?_
    refine E.region ?_
    refine X.mv rfl rfl rfl rfl rfl ?_
    refine X.lssC rfl rfl rfl rfl rfl rfl (fun hc => ?_) (fun hc => ?_)
    · refine X.mv rfl rfl rfl rfl rfl ?_
      refine X.skip rfl rfl rfl ?_
      refine X.skip rfl rfl rfl ?_
      refine X.pickT rfl rfl rfl rfl rfl rfl ?_
      refine X.done [(0, _), (1, _), (4, _), (15, _)] ⟨rfl, rfl, rfl, rfl, trivial⟩ ?_
      refine N.then ?_
      refine E.condT rfl ?_
      refine E.seq ?_
      refine E.region ?_
      refine X.asg rfl rfl rfl rfl rfl ?_
      refine X.done [(0, _), (1, _), (4, _)] ⟨rfl, rfl, rfl, trivial⟩ ?_
      refine N.then ?_
      refine E.ret ?_
      refine N.thenR ?_
      exact N.retH [_] ⟨_, _, rfl, rfl, rfl⟩ ⟨by rw [mayV, if_neg (by omega), if_pos (by omega)]; rfl, rfl⟩
    · refine X.mv rfl rfl rfl rfl rfl ?_
      refine X.mv rfl rfl rfl rfl rfl ?_
      refine X.gtr rfl rfl rfl rfl rfl rfl ?_
      refine X.pickF rfl rfl rfl rfl rfl rfl ?_
      refine X.done [(0, _), (1, _), (4, _), (15, _)] ⟨rfl, rfl, rfl, rfl, trivial⟩ ?_
      refine N.then ?_
      refine E.condD rfl (fun hc => ?_) (fun hc => ?_)
      · refine E.seq ?_
        refine E.region ?_
        refine X.asg rfl rfl rfl rfl rfl ?_
        refine X.done [(0, _), (1, _), (4, _)] ⟨rfl, rfl, rfl, trivial⟩ ?_
        refine N.then ?_
        refine E.ret ?_
        refine N.thenR ?_
        exact N.retH [_] ⟨_, _, rfl, rfl, rfl⟩ ⟨by rw [mayV, if_neg (by omega), if_pos (by omega)]; rfl, rfl⟩
      · refine E.skip ?_
        refine N.then ?_
        refine E.seq ?_
        refine E.region ?_
        refine X.asg rfl rfl rfl rfl rfl ?_
        refine X.done [(0, _), (1, _), (4, _), (5, _)] ⟨rfl, rfl, rfl, rfl, trivial⟩ ?_
        refine N.then ?_
        refine E.seq ?_
        refine E.seq ?_
        refine E.region ?_
        refine X.asg rfl rfl rfl rfl rfl ?_
        refine X.done [(0, _), (1, _), (4, _), (5, _), (6, _)] ⟨rfl, rfl, rfl, rfl, rfl, trivial⟩ ?_
        refine N.then ?_
        refine E.block ?_
        -- MISSING in G: [4]
        refine E.loop (fun (q : Nat × Int) => [(0, .slice a fs.length c), (1, i64 most), (5, i64 q.2), (6, i64 q.1)]) (fun (q : Nat × Int) H' => q.1 ≤ fs.length ∧ H' = H ∧ 0 ≤ q.2 ∧ q.2 ≤ (q.1 : Int) ∧ mayA q.2 (fs.drop q.1) = mayA 0 fs) (fun (q : Nat × Int) => fs.length - q.1) (0, 0) ⟨rfl, rfl, rfl, rfl, trivial⟩ ⟨Nat.zero_le _, rfl, Int.le_refl _, Int.le_refl _, rfl⟩ ?_
        have hms : ¬ (most < 1 ∨ 15 < most) := by omega
        rintro ⟨i, acc⟩ H3 hJ
        dsimp only at hJ ⊢
        obtain ⟨hi, eH, ha0, ha1, hJ⟩ := hJ
        obtain rfl := eH.symm
        refine E.seq ?_
        refine E.seq ?_
        refine E.region ?_
        refine X.mv rfl rfl rfl rfl rfl ?_
        refine X.mv rfl rfl rfl rfl rfl ?_
        refine X.lenS rfl rfl rfl rfl rfl Try.underlying22 ?_
        refine X.lss rfl rfl rfl rfl rfl rfl ?_
        refine X.done [(0, _), (1, _), (5, _), (6, _), (16, _), (17, _), (18, _), (19, _)] ⟨rfl, rfl, rfl, rfl, rfl, rfl, rfl, rfl, trivial⟩ ?_
        refine N.then ?_
        refine E.condD rfl (fun hc => ?_) (fun hc => ?_)
        · refine E.skip ?_
          refine N.then ?_
          refine E.seq ?_
          refine E.block ?_
          refine E.seq ?_
          refine E.seq ?_
          have hi2 : i < fs.length := Int.ofNat_lt.1 (by assumption)
          obtain ⟨x, hx⟩ := get_of hi2
          obtain ⟨hae, cs1, ct1, fz1, hb1, hc1⟩ := row_at hF hx
          refine E.region ?_
          refine X.mv rfl rfl rfl rfl rfl ?_
          refine X.mv rfl rfl rfl rfl rfl ?_
          refine X.ixAe rfl rfl rfl rfl rfl rfl Try.underlying22 Try.sz3 (hae) (by omega) ?_
          refine X.ld rfl rfl rfl rfl Try.ag3 (hb1) (hc1) ?_
          refine X.lssC rfl rfl rfl rfl rfl rfl (fun hc => ?_) (fun hc => ?_)
          · refine X.mv rfl rfl rfl rfl rfl ?_
            refine X.skip rfl rfl rfl ?_
            refine X.skip rfl rfl rfl ?_
            refine X.skip rfl rfl rfl ?_
            refine X.skip rfl rfl rfl ?_
            refine X.skip rfl rfl rfl ?_
            refine X.pickT rfl rfl rfl rfl rfl rfl ?_
            refine X.done [(0, _), (1, _), (5, _), (6, _), (16, _), (17, _), (18, _), (19, _), (22, _), (23, _), (24, _), (25, _), (26, _), (27, _), (28, _), (29, _), (30, _), (31, _), (32, _), (33, _)] ⟨rfl, rfl, rfl, rfl, rfl, rfl, rfl, rfl, rfl, rfl, rfl, rfl, rfl, rfl, rfl, rfl, rfl, rfl, rfl, rfl, trivial⟩ ?_
            refine N.then ?_
            refine E.condT rfl ?_
            refine E.seq ?_
            refine E.region ?_
            refine X.asg rfl rfl rfl rfl rfl ?_
            refine X.done [(0, _), (1, _), (5, _), (6, _), (16, _), (17, _), (18, _), (19, _), (22, _), (23, _), (24, _), (25, _), (26, _), (27, _), (28, _), (29, _), (30, _), (31, _), (32, _), (33, _), (4, _)] ⟨rfl, rfl, rfl, rfl, rfl, rfl, rfl, rfl, rfl, rfl, rfl, rfl, rfl, rfl, rfl, rfl, rfl, rfl, rfl, rfl, rfl, trivial⟩ ?_
            refine N.then ?_
            refine E.ret ?_
            refine N.thenR ?_
            refine N.blkR ?_
            refine N.thenR ?_
            refine N.loopR ?_
            refine N.blkR ?_
            refine N.thenR ?_
            exact N.retH [_] ⟨_, _, rfl, rfl, rfl⟩ ⟨by rw [may_none (by omega) hms (by rw [← hJ, may_step hx, if_pos (show badF x by unfold badF; omega)])]; rfl, rfl⟩
          · refine X.mv rfl rfl rfl rfl rfl ?_
            refine X.mv rfl rfl rfl rfl rfl ?_
            refine X.mv rfl rfl rfl rfl rfl ?_
            refine X.ixAe rfl rfl rfl rfl rfl rfl Try.underlying22 Try.sz3 (hae) (by omega) ?_
            refine X.ld rfl rfl rfl rfl Try.ag3 (hb1) (hc1) ?_
            refine X.gtr rfl rfl rfl rfl rfl rfl ?_
            refine X.pickF rfl rfl rfl rfl rfl rfl ?_
            refine X.done [(0, _), (1, _), (5, _), (6, _), (16, _), (17, _), (18, _), (19, _), (22, _), (23, _), (24, _), (25, _), (26, _), (27, _), (28, _), (29, _), (30, _), (31, _), (32, _), (33, _)] ⟨rfl, rfl, rfl, rfl, rfl, rfl, rfl, rfl, rfl, rfl, rfl, rfl, rfl, rfl, rfl, rfl, rfl, rfl, rfl, rfl, trivial⟩ ?_
            refine N.then ?_
            refine E.condD rfl (fun hc => ?_) (fun hc => ?_)
            · refine E.seq ?_
              refine E.region ?_
              refine X.asg rfl rfl rfl rfl rfl ?_
              refine X.done [(0, _), (1, _), (5, _), (6, _), (16, _), (17, _), (18, _), (19, _), (22, _), (23, _), (24, _), (25, _), (26, _), (27, _), (28, _), (29, _), (30, _), (31, _), (32, _), (33, _), (4, _)] ⟨rfl, rfl, rfl, rfl, rfl, rfl, rfl, rfl, rfl, rfl, rfl, rfl, rfl, rfl, rfl, rfl, rfl, rfl, rfl, rfl, rfl, trivial⟩ ?_
              refine N.then ?_
              refine E.ret ?_
              refine N.thenR ?_
              refine N.blkR ?_
              refine N.thenR ?_
              refine N.loopR ?_
              refine N.blkR ?_
              refine N.thenR ?_
              exact N.retH [_] ⟨_, _, rfl, rfl, rfl⟩ ⟨by rw [may_none (by omega) hms (by rw [← hJ, may_step hx, if_pos (show badF x by unfold badF; omega)])]; rfl, rfl⟩
            · refine E.skip ?_
              refine N.then ?_
              refine E.seq ?_
              have hgf : ¬ badF x := by unfold badF; omega
              refine E.region ?_
              refine X.mv rfl rfl rfl rfl rfl ?_
              refine X.mv rfl rfl rfl rfl rfl ?_
              refine X.ixAe rfl rfl rfl rfl rfl rfl Try.underlying22 Try.sz3 (hae) (by omega) ?_
              refine X.ld rfl rfl rfl rfl Try.ag3 (hb1) (hc1) ?_
              refine X.gtr rfl rfl rfl rfl rfl rfl ?_
              refine X.done [(0, _), (1, _), (5, _), (6, _), (16, _), (17, _), (18, _), (19, _), (22, _), (23, _), (24, _), (25, _), (26, _), (27, _), (28, _), (29, _), (30, _), (31, _), (32, _), (33, _), (34, _), (35, _), (36, _), (37, _), (38, _)] ⟨rfl, rfl, rfl, rfl, rfl, rfl, rfl, rfl, rfl, rfl, rfl, rfl, rfl, rfl, rfl, rfl, rfl, rfl, rfl, rfl, rfl, rfl, rfl, rfl, rfl, trivial⟩ ?_
              refine N.then ?_
              refine E.condD rfl (fun hc => ?_) (fun hc => ?_)
              · refine E.region ?_
                refine X.mv rfl rfl rfl rfl rfl ?_
                refine X.addE (zz := (acc + 1)) rfl rfl rfl rfl rfl rfl (by rw [IntWalk.i64_in _ (by omega)] <;> omega) ?_
                refine X.asg rfl rfl rfl rfl rfl ?_
                refine X.done [(0, _), (1, _), (5, _), (6, _), (16, _), (17, _), (18, _), (19, _), (22, _), (23, _), (24, _), (25, _), (26, _), (27, _), (28, _), (29, _), (30, _), (31, _), (32, _), (33, _), (34, _), (35, _), (36, _), (37, _), (38, _), (39, _), (40, _)] ⟨rfl, rfl, rfl, rfl, rfl, rfl, rfl, rfl, rfl, rfl, rfl, rfl, rfl, rfl, rfl, rfl, rfl, rfl, rfl, rfl, rfl, rfl, rfl, rfl, rfl, rfl, rfl, trivial⟩ ?_
                refine N.blk ?_
                refine N.then ?_
                refine E.region ?_
                refine X.mv rfl rfl rfl rfl rfl ?_
                refine X.add rfl rfl rfl rfl rfl rfl (by omega) ?_
                refine X.asg rfl rfl rfl rfl rfl ?_
                refine X.done [(0, _), (1, _), (5, _), (6, _), (16, _), (17, _), (18, _), (19, _), (22, _), (23, _), (24, _), (25, _), (26, _), (27, _), (28, _), (29, _), (30, _), (31, _), (32, _), (33, _), (34, _), (35, _), (36, _), (37, _), (38, _), (39, _), (40, _), (20, _), (21, _)] ⟨rfl, rfl, rfl, rfl, rfl, rfl, rfl, rfl, rfl, rfl, rfl, rfl, rfl, rfl, rfl, rfl, rfl, rfl, rfl, rfl, rfl, rfl, rfl, rfl, rfl, rfl, rfl, rfl, rfl, trivial⟩ ?_
                first | exact N.next (G := fun (q : Nat × Int) => _) (i + 1, acc + 1) ⟨rfl, rfl, rfl, rfl, trivial⟩ ⟨by show i + 1 ≤ fs.length; omega, rfl, by show 0 ≤ acc + 1; omega, by show acc + 1 ≤ ((i + 1 : Nat) : Int); omega, by rw [← hJ, may_step hx, if_neg hgf, if_pos (by assumption)]⟩ (by show fs.length - (i + 1) < fs.length - i; omega) | exact N.next (G := fun (q : Nat × Int) => _) (i + 1, acc) ⟨rfl, rfl, rfl, rfl, trivial⟩ ⟨by show i + 1 ≤ fs.length; omega, rfl, by show 0 ≤ acc; omega, by show acc ≤ ((i + 1 : Nat) : Int); omega, by rw [← hJ, may_step hx, if_neg hgf, if_neg (by assumption)]⟩ (by show fs.length - (i + 1) < fs.length - i; omega)
              · refine E.skip ?_
                refine N.blk ?_
                refine N.then ?_
                refine E.region ?_
                refine X.mv rfl rfl rfl rfl rfl ?_
                refine X.add rfl rfl rfl rfl rfl rfl (by omega) ?_
                refine X.asg rfl rfl rfl rfl rfl ?_
                refine X.done [(0, _), (1, _), (5, _), (6, _), (16, _), (17, _), (18, _), (19, _), (22, _), (23, _), (24, _), (25, _), (26, _), (27, _), (28, _), (29, _), (30, _), (31, _), (32, _), (33, _), (34, _), (35, _), (36, _), (37, _), (38, _), (20, _), (21, _)] ⟨rfl, rfl, rfl, rfl, rfl, rfl, rfl, rfl, rfl, rfl, rfl, rfl, rfl, rfl, rfl, rfl, rfl, rfl, rfl, rfl, rfl, rfl, rfl, rfl, rfl, rfl, rfl, trivial⟩ ?_
                first | exact N.next (G := fun (q : Nat × Int) => _) (i + 1, acc + 1) ⟨rfl, rfl, rfl, rfl, trivial⟩ ⟨by show i + 1 ≤ fs.length; omega, rfl, by show 0 ≤ acc + 1; omega, by show acc + 1 ≤ ((i + 1 : Nat) : Int); omega, by rw [← hJ, may_step hx, if_neg hgf, if_pos (by assumption)]⟩ (by show fs.length - (i + 1) < fs.length - i; omega) | exact N.next (G := fun (q : Nat × Int) => _) (i + 1, acc) ⟨rfl, rfl, rfl, rfl, trivial⟩ ⟨by show i + 1 ≤ fs.length; omega, rfl, by show 0 ≤ acc; omega, by show acc ≤ ((i + 1 : Nat) : Int); omega, by rw [← hJ, may_step hx, if_neg hgf, if_neg (by assumption)]⟩ (by show fs.length - (i + 1) < fs.length - i; omega)
        · refine E.exit ?_
          refine N.thenX ?_
          refine N.loopX ?_
          refine N.blkX ?_
          refine N.then ?_
          refine E.seq ?_
          refine E.seq ?_
          have hfin : mayA 0 fs = some acc := by rw [← hJ, may_end (by omega)]
          refine E.region ?_
          refine X.mv rfl rfl rfl rfl rfl ?_
          refine X.mv rfl rfl rfl rfl rfl ?_
          refine X.convE (zz := most) rfl rfl rfl rfl rfl Try.underlying45 Try.us3 (IntWalk.u64_in _ (by omega)) ?_
          refine X.shlE (zz := ((2 ^ most.toNat : Nat) : Int)) rfl rfl rfl rfl rfl rfl (by omega) (shl_most hms rfl) ?_
          refine X.gtr rfl rfl rfl rfl rfl rfl ?_
          refine X.done [(45, _)] ⟨rfl, trivial⟩ ?_
          refine N.then ?_
          refine E.condD rfl (fun hc => ?_) (fun hc => ?_)
          · refine E.seq ?_
            refine E.region ?_
            refine X.asg rfl rfl rfl rfl rfl ?_
            refine X.done [(4, _)] ⟨rfl, trivial⟩ ?_
            refine N.then ?_
            refine E.ret ?_
            refine N.thenR ?_
            exact N.retH [_] ⟨_, _, rfl, rfl, rfl⟩ ⟨by rw [may_over (by omega) hms hfin (by assumption)]; rfl, rfl⟩
          · refine E.skip ?_
            refine N.then ?_
            refine E.seq ?_
            refine E.region ?_
            refine X.asg rfl rfl rfl rfl rfl ?_
            refine X.done [(4, _)] ⟨rfl, trivial⟩ ?_
            refine N.then ?_
            refine E.ret ?_
            exact N.retH [_] ⟨_, _, rfl, rfl, rfl⟩ ⟨by rw [may_ok (by omega) hms hfin (by assumption)]; rfl, rfl⟩

theorem ints_ct (xs ys : List Int) (a : Option Addr) (b o c : Nat) (a2 : Option Addr) (b2 o2 c2 : Nat) (H : Heap) (hF : Row1 H a b o (iv xs)) (hL : Row1 H a2 b2 o2 (iv ys)) (hmx : xs.length ≤ 1000000 ∧ ys.length ≤ 1000000) : Ct Try.prog 15 #[.slice a xs.length c, .slice a2 ys.length c2] H fun v H' => v = .bool (decide (xs = ys)) ∧ H' = H := by
  refine Ct.into 26 Try.func15 rfl [(0, .slice a xs.length c), (1, .slice a2 ys.length c2)] rfl ⟨rfl, rfl, trivial⟩ ?_
  refine E.seq ?_
  refine E.region ?_
  refine X.asg rfl rfl rfl rfl rfl ?_
  refine X.done [(0, _), (1, _), (4, _)] ⟨rfl, rfl, rfl, trivial⟩ ?_
  refine N.then ?_
  refine E.seq ?_
  refine E.seq ?_
  refine E.region ?_
  refine X.mv rfl rfl rfl rfl rfl ?_
  refine X.lenS rfl rfl rfl rfl rfl Try.underlying22 ?_
  refine X.mv rfl rfl rfl rfl rfl ?_
  refine X.lenS rfl rfl rfl rfl rfl Try.underlying22 ?_
  refine X.neq rfl rfl rfl rfl rfl rfl ?_
  refine X.done [(0, _), (1, _), (4, _), (10, _)] ⟨rfl, rfl, rfl, rfl, trivial⟩ ?_
  refine N.then ?_
  refine E.condD rfl (fun hc => ?_) (fun hc => ?_)
  · refine E.seq ?_
    refine E.region ?_
    refine X.asg rfl rfl rfl rfl rfl ?_
    refine X.done [(0, _), (1, _), (4, _)] ⟨rfl, rfl, rfl, trivial⟩ ?_
    refine N.then ?_
    refine E.ret ?_
    refine N.thenR ?_
    exact N.retH [_] ⟨_, _, rfl, rfl, rfl⟩ ⟨by show Value.bool false = _; rw [decide_eq_false (fun h => absurd (congrArg List.length h) (by omega))], rfl⟩
  · refine E.skip ?_
    refine N.then ?_
    refine E.seq ?_
    refine E.seq ?_
    refine E.region ?_
    refine X.asg rfl rfl rfl rfl rfl ?_
    refine X.done [(0, _), (1, _), (4, _), (5, _)] ⟨rfl, rfl, rfl, rfl, trivial⟩ ?_
    refine N.then ?_
    refine E.block ?_
    -- MISSING in G: [4]
    refine E.loop (fun (i : Nat) => [(0, .slice a xs.length c), (1, .slice a2 ys.length c2), (5, i64 i)]) (fun (i : Nat) H' => i ≤ xs.length ∧ H' = H ∧ xs.take i = ys.take i) (fun (i : Nat) => xs.length - i) 0 ⟨rfl, rfl, rfl, trivial⟩ ⟨Nat.zero_le _, rfl, rfl⟩ ?_
    rintro i H3 ⟨hi, eH, hJ⟩
    obtain rfl := eH.symm
    refine E.seq ?_
    refine E.seq ?_
    refine E.region ?_
    refine X.mv rfl rfl rfl rfl rfl ?_
    refine X.mv rfl rfl rfl rfl rfl ?_
    refine X.lenS rfl rfl rfl rfl rfl Try.underlying22 ?_
    refine X.lss rfl rfl rfl rfl rfl rfl ?_
    refine X.done [(0, _), (1, _), (5, _), (11, _), (12, _), (13, _), (14, _)] ⟨rfl, rfl, rfl, rfl, rfl, rfl, rfl, trivial⟩ ?_
    refine N.then ?_
    refine E.condD rfl (fun hc => ?_) (fun hc => ?_)
    · refine E.skip ?_
      refine N.then ?_
      refine E.seq ?_
      refine E.block ?_
      refine E.seq ?_
      have hi2 : i < xs.length := Int.ofNat_lt.1 (by assumption)
      obtain ⟨x, hx⟩ := get_of hi2
      obtain ⟨y, hy⟩ := get_of (xs := ys) (i := i) (by omega)
      obtain ⟨hae, cs1, ct1, fz1, hb1, hc1⟩ := row_at hF hx
      obtain ⟨hae2, cs2, ct2, fz2, hb2, hc2⟩ := row_at hL hy
      refine E.regionD (fun H' => H'[b]? = some (.cells cs1.toArray ct1 fz1) ∧ H'[b2]? = some (.cells cs2.toArray ct2 fz2)) [(0, .pu), (1, .pu), (2, .pu), (3, .st), (4, .pu), (5, .pu), (6, .pu), (7, .st), (8, .pu)] Try.mixed (by kernel_rfl) (⟨hb1, hb2⟩) ?_
      refine X.mv rfl rfl rfl rfl rfl ?_
      refine X.mv rfl rfl rfl rfl rfl ?_
      refine X.ixAe rfl rfl rfl rfl rfl rfl Try.underlying22 Try.sz3 (hae) (by omega) ?_
      refine X.ld rfl rfl rfl rfl Try.ag3 (fun H' hF => hF.1) (hc1) ?_
      refine X.mv rfl rfl rfl rfl rfl ?_
      refine X.mv rfl rfl rfl rfl rfl ?_
      refine X.ixAe rfl rfl rfl rfl rfl rfl Try.underlying22 Try.sz3 (hae2) (by omega) ?_
      refine X.ld rfl rfl rfl rfl Try.ag3 (fun H' hF => hF.2) (hc2) ?_
      refine X.neq rfl rfl rfl rfl rfl rfl ?_
      refine X.done [(0, _), (1, _), (5, _), (11, _), (12, _), (13, _), (14, _), (17, _), (18, _), (19, _), (20, _), (21, _), (22, _), (23, _), (24, _), (25, _)] ⟨rfl, rfl, rfl, rfl, rfl, rfl, rfl, rfl, rfl, rfl, rfl, rfl, rfl, rfl, rfl, rfl, trivial⟩ ?_
      refine N.then ?_
      refine E.condD rfl (fun hc => ?_) (fun hc => ?_)
      · refine E.seq ?_
        refine E.region ?_
        refine X.asg rfl rfl rfl rfl rfl ?_
        refine X.done [(0, _), (1, _), (5, _), (11, _), (12, _), (13, _), (14, _), (17, _), (18, _), (19, _), (20, _), (21, _), (22, _), (23, _), (24, _), (25, _), (4, _)] ⟨rfl, rfl, rfl, rfl, rfl, rfl, rfl, rfl, rfl, rfl, rfl, rfl, rfl, rfl, rfl, rfl, rfl, trivial⟩ ?_
        refine N.then ?_
        refine E.ret ?_
        refine N.blkR ?_
        refine N.thenR ?_
        refine N.loopR ?_
        refine N.blkR ?_
        refine N.thenR ?_
        exact N.retH [_] ⟨_, _, rfl, rfl, rfl⟩ ⟨by show Value.bool false = _; rw [decide_eq_false (fun h => by rw [h, hy] at hx; have := Option.some.inj hx; omega)], rfl⟩
      · refine E.skip ?_
        refine N.blk ?_
        refine N.then ?_
        refine E.region ?_
        refine X.mv rfl rfl rfl rfl rfl ?_
        refine X.add rfl rfl rfl rfl rfl rfl (by omega) ?_
        refine X.asg rfl rfl rfl rfl rfl ?_
        refine X.done [(0, _), (1, _), (5, _), (11, _), (12, _), (13, _), (14, _), (17, _), (18, _), (19, _), (20, _), (21, _), (22, _), (23, _), (24, _), (25, _), (15, _), (16, _)] ⟨rfl, rfl, rfl, rfl, rfl, rfl, rfl, rfl, rfl, rfl, rfl, rfl, rfl, rfl, rfl, rfl, rfl, rfl, trivial⟩ ?_
        exact N.next (i + 1) ⟨rfl, rfl, rfl, trivial⟩ ⟨by omega, rfl, by rw [List.take_add_one, List.take_add_one, hJ, hx, hy, show x = y by omega]⟩ (by omega)
    · refine E.exit ?_
      refine N.thenX ?_
      refine N.loopX ?_
      refine N.blkX ?_
      refine N.then ?_
      refine E.seq ?_
      refine E.region ?_
      refine X.asg rfl rfl rfl rfl rfl ?_
      refine X.done [(4, _)] ⟨rfl, trivial⟩ ?_
      refine N.then ?_
      refine E.ret ?_
      exact N.retH [_] ⟨_, _, rfl, rfl, rfl⟩ ⟨by show Value.bool true = _; rw [decide_eq_true (by rw [← List.take_of_length_le (l := xs) (i := i) (by omega), hJ, List.take_of_length_le (by omega)])], rfl⟩

end Go.Proofs.Ytjlelcfabfmiaaa