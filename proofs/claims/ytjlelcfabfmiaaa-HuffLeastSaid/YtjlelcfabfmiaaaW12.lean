/- The walks: the least cost, each way tried; HuffLeast. -/
import Derived.Test.YtjlelcfabfmiaaaW11
namespace Go.Proofs.Ytjlelcfabfmiaaa
open Go.SX Go.Hf
attribute [local irreducible] X E N Ct
set_option linter.unusedVariables false
set_option linter.unusedSimpArgs false
theorem shl_k {k : Nat} (hk : k ≤ 15) : IntKind.i64.wrap ((1 : Int) * 2 ^ (min ((k : Int)).toNat IntKind.i64.bits)) = ((2 ^ k : Nat) : Int) := by
  have hp : 2 ^ k ≤ 2 ^ 15 := Nat.pow_le_pow_right (by omega) hk
  have e : (1 : Int) * 2 ^ k = ((2 ^ k : Nat) : Int) := by simp
  have h1 : ((2 ^ k : Nat) : Int) ≤ 32768 := Int.ofNat_le.2 hp
  rw [shlN (k := k) rfl (by omega) (by rw [e]; have := Int.natCast_nonneg (2 ^ k); omega) (by rw [e]; omega), e]
theorem pre_num {n j : Nat} {s : List Int} (hn : n ≤ 7) (hj : j ≤ 9) (hp : Pos s) : 0 ≤ pre n j s ∧ pre n j s ≤ 270582939648 := by
  obtain ⟨h1, h2⟩ := pre_bd (n := n) j hp
  have h3 : (4294967296 : Int) * n ≤ 4294967296 * 7 := by omega
  have h4 : (4294967296 : Int) * n * j ≤ 4294967296 * 7 * 9 := Int.mul_le_mul h3 (by omega) (Int.natCast_nonneg _) (by decide)
  omega
theorem best_num {S : List Nat → Prop} {s : List Int} {r : Int} {most : Nat} (h : Best S s r) (hp : Pos s) (hl : s.length ≤ 9) (hm : most ≤ 7) (hS : ∀ ls, S ls → ∀ x ∈ ls, x ≤ most) : -1 ≤ r ∧ r ≤ 270582939648 := by
  obtain ⟨h1, h2⟩ := h.bd hp hS
  have h3 : (4294967296 : Int) * most ≤ 4294967296 * 7 := by omega
  have h4 : (4294967296 : Int) * most * s.length ≤ 4294967296 * 7 * 9 := Int.mul_le_mul h3 (by omega) (Int.natCast_nonneg _) (by decide)
  omega
theorem pos_drop {l : List Int} (h : Pos l) (p : Nat) : Pos (l.drop p) := fun x hx => h x (List.mem_of_mem_drop hx)
structure LQ where
  j : Nat
  best : Int
/-- What 'least' answers. -/
def LeastR (l : List Int) (most n p left : Nat) (H : Heap) (v : Value) (H' : Heap) : Prop := ∃ r, v = i64 r ∧ Best (Way most n left (l.drop p)) (l.drop p) r ∧ H' = H

theorem least_step (l : List Int) (a : Option Addr) (b o c : Nat) (most n p left : Nat) (H : Heap) (hF : Row1 H a b o (iv l)) (hpos : Pos l) (hl : l.length ≤ 8) (hm : most ≤ 6) (hn1 : n ≤ 7) (hpl : p ≤ l.length) (hlf : left ≤ 64) (ih : n ≤ most → ∀ p' left', p' ≤ l.length → left' ≤ 64 → Ct Try.prog 24 #[.slice a l.length c, i64 ((p' : Nat) : Int), i64 ((n + 1 : Nat) : Int), i64 ((most : Nat) : Int), i64 ((left' : Nat) : Int)] H (LeastR l most (n + 1) p' left' H)) : Ct Try.prog 24 #[.slice a l.length c, i64 ((p : Nat) : Int), i64 ((n : Nat) : Int), i64 ((most : Nat) : Int), i64 ((left : Nat) : Int)] H (LeastR l most n p left H) := by
  obtain ⟨u, hu⟩ : ∃ u, u = 2 ^ (most - n) := ⟨_, rfl⟩
  have hu64 : u ≤ 64 := by rw [hu]; exact Nat.pow_le_pow_right (j := 6) (by omega) (by omega)
  have hdl : (l.drop p).length = l.length - p := List.length_drop
  have hps := pos_drop hpos p
  refine Ct.into 92 Try.func24 rfl [(0, .slice a l.length c), (1, i64 ((p : Nat) : Int)), (2, i64 ((n : Nat) : Int)), (3, i64 ((most : Nat) : Int)), (4, i64 ((left : Nat) : Int))] rfl ⟨rfl, rfl, rfl, rfl, rfl, trivial⟩ ?_
  refine E.seq ?_
  refine E.region ?_
  refine X.asg rfl rfl rfl rfl rfl ?_
  refine X.done [(0, _), (1, _), (2, _), (3, _), (4, _), (10, _)] ⟨rfl, rfl, rfl, rfl, rfl, rfl, trivial⟩ ?_
  refine N.then ?_
  refine E.seq ?_
  refine E.seq ?_
  refine E.region ?_
  refine X.mv rfl rfl rfl rfl rfl ?_
  refine X.mv rfl rfl rfl rfl rfl ?_
  refine X.lenS rfl rfl rfl rfl rfl Try.underlying22 ?_
  refine X.eql rfl rfl rfl rfl rfl rfl ?_
  refine X.done [(0, _), (1, _), (2, _), (3, _), (4, _), (10, _), (19, _)] ⟨rfl, rfl, rfl, rfl, rfl, rfl, rfl, trivial⟩ ?_
  refine N.then ?_
  refine E.condD rfl (fun hc => ?_) (fun hc => ?_)
  · refine E.seq ?_
    refine E.region ?_
    refine X.asg rfl rfl rfl rfl rfl ?_
    refine X.done [(0, _), (1, _), (2, _), (3, _), (4, _), (10, _)] ⟨rfl, rfl, rfl, rfl, rfl, rfl, trivial⟩ ?_
    refine N.then ?_
    refine E.ret ?_
    refine N.thenR ?_
    exact N.retH [_] ⟨_, _, rfl, rfl, rfl⟩ ⟨0, rfl, best_nil (by rw [hdl]; omega), rfl⟩
  · refine E.skip ?_
    refine N.then ?_
    refine E.seq ?_
    refine E.seq ?_
    refine E.region ?_
    refine X.mv rfl rfl rfl rfl rfl ?_
    refine X.mv rfl rfl rfl rfl rfl ?_
    refine X.gtr rfl rfl rfl rfl rfl rfl ?_
    refine X.done [(0, _), (1, _), (2, _), (3, _), (4, _), (10, _), (22, _)] ⟨rfl, rfl, rfl, rfl, rfl, rfl, rfl, trivial⟩ ?_
    refine N.then ?_
    refine E.condD rfl (fun hc => ?_) (fun hc => ?_)
    · refine E.seq ?_
      refine E.region ?_
      refine X.asg rfl rfl rfl rfl rfl ?_
      refine X.done [(0, _), (1, _), (2, _), (3, _), (4, _), (10, _)] ⟨rfl, rfl, rfl, rfl, rfl, rfl, trivial⟩ ?_
      refine N.then ?_
      refine E.ret ?_
      refine N.thenR ?_
      exact N.retH [_] ⟨_, _, rfl, rfl, rfl⟩ ⟨-1, rfl, best_none (by rw [hdl]; omega) (by omega), rfl⟩
    · refine E.skip ?_
      refine N.then ?_
      refine E.seq ?_
      have hnm : n ≤ most := by omega
      refine E.region ?_
      refine X.mv rfl rfl rfl rfl rfl ?_
      refine X.mv rfl rfl rfl rfl rfl ?_
      refine X.sbE (zz := ((most - n : Nat) : Int)) rfl rfl rfl rfl rfl rfl (by rw [IntWalk.i64_in _ (by omega)] <;> omega) ?_
      refine X.convE (zz := ((most - n : Nat) : Int)) rfl rfl rfl rfl rfl Try.underlying45 Try.us3 (IntWalk.u64_in _ (by omega)) ?_
      refine X.shlE (zz := ((u : Nat) : Int)) rfl rfl rfl rfl rfl rfl (by omega) (by rw [hu]; exact shl_k (by omega)) ?_
      refine X.asg rfl rfl rfl rfl rfl ?_
      refine X.done [(0, _), (1, _), (2, _), (3, _), (4, _), (10, _), (11, _)] ⟨rfl, rfl, rfl, rfl, rfl, rfl, rfl, trivial⟩ ?_
      refine N.then ?_
      refine E.seq ?_
      refine E.region ?_
      refine X.mv rfl rfl rfl rfl rfl ?_
      refine X.mv rfl rfl rfl rfl rfl ?_
      refine X.mv rfl rfl rfl rfl rfl ?_
      refine X.addE (zz := ((n + 1 : Nat) : Int)) rfl rfl rfl rfl rfl rfl (by rw [IntWalk.i64_in _ (by omega)] <;> omega) ?_
      refine X.mv rfl rfl rfl rfl rfl ?_
      refine X.mv rfl rfl rfl rfl rfl ?_
      refine X.call rfl rfl rfl rfl rfl Try.cl24 (ih hnm p left hpl hlf) ?_
      rintro _ Hx ⟨b0, rfl, hB0, e⟩
      obtain rfl := e.symm
      refine X.asg rfl rfl rfl rfl rfl ?_
      refine X.done [(0, _), (1, _), (2, _), (3, _), (4, _), (10, _), (11, _), (12, _)] ⟨rfl, rfl, rfl, rfl, rfl, rfl, rfl, rfl, trivial⟩ ?_
      refine N.then ?_
      refine E.seq ?_
      refine E.region ?_
      refine X.asg rfl rfl rfl rfl rfl ?_
      refine X.done [(0, _), (1, _), (2, _), (3, _), (4, _), (10, _), (11, _), (12, _), (13, _)] ⟨rfl, rfl, rfl, rfl, rfl, rfl, rfl, rfl, rfl, trivial⟩ ?_
      refine N.then ?_
      refine E.seq ?_
      refine E.seq ?_
      refine E.region ?_
      refine X.mv rfl rfl rfl rfl rfl ?_
      refine X.asg rfl rfl rfl rfl rfl ?_
      refine X.done [(0, _), (1, _), (2, _), (3, _), (4, _), (10, _), (11, _), (12, _), (13, _), (14, _)] ⟨rfl, rfl, rfl, rfl, rfl, rfl, rfl, rfl, rfl, rfl, trivial⟩ ?_
      refine N.then ?_
      refine E.block ?_
      -- MISSING in G: [10]
      refine E.loop (fun (q : LQ) => [(0, .slice a l.length c), (1, i64 ((p : Nat) : Int)), (2, i64 ((n : Nat) : Int)), (3, i64 ((most : Nat) : Int)), (4, i64 ((left : Nat) : Int)), (11, i64 ((u : Nat) : Int)), (12, i64 q.best), (13, i64 (pre n q.j (l.drop p))), (14, i64 ((p + q.j : Nat) : Int))]) (fun (q : LQ) H' => p + q.j ≤ l.length ∧ Best (WayTo most n left (l.drop p) q.j) (l.drop p) q.best ∧ H' = H) (fun (q : LQ) => l.length - (p + q.j)) ⟨0, b0⟩ ⟨rfl, rfl, rfl, rfl, rfl, rfl, rfl, rfl, rfl, trivial⟩ ⟨hpl, hB0.iff wayTo_zero, rfl⟩ ?_
      rintro ⟨j, best⟩ H3 hJ
      dsimp only at hJ ⊢
      obtain ⟨hj, hB, eH⟩ := hJ
      obtain rfl := eH.symm
      refine E.seq ?_
      refine E.seq ?_
      obtain ⟨U, hU⟩ : ∃ U, U = (j + 1) * u := ⟨_, rfl⟩
      have hU2 : U ≤ 9 * 64 := by rw [hU]; exact Nat.mul_le_mul (by omega) hu64
      refine E.region ?_
      refine X.mv rfl rfl rfl rfl rfl ?_
      refine X.mv rfl rfl rfl rfl rfl ?_
      refine X.lenS rfl rfl rfl rfl rfl Try.underlying22 ?_
      refine X.lssC rfl rfl rfl rfl rfl rfl (fun hc => ?_) (fun hc => ?_)
      · refine X.mv rfl rfl rfl rfl rfl ?_
        refine X.mv rfl rfl rfl rfl rfl ?_
        refine X.mv rfl rfl rfl rfl rfl ?_
        refine X.sbE (zz := ((j : Nat) : Int)) rfl rfl rfl rfl rfl rfl (by rw [IntWalk.i64_in _ (by omega)] <;> omega) ?_
        refine X.addE (zz := ((j + 1 : Nat) : Int)) rfl rfl rfl rfl rfl rfl (by rw [IntWalk.i64_in _ (by omega)] <;> omega) ?_
        refine X.mv rfl rfl rfl rfl rfl ?_
        refine X.mulE (zz := ((U : Nat) : Int)) rfl rfl rfl rfl rfl rfl (by rw [← Int.natCast_mul, ← hU, IntWalk.i64_in _ (by omega)]) ?_
        refine X.mv rfl rfl rfl rfl rfl ?_
        refine X.leq rfl rfl rfl rfl rfl rfl ?_
        refine X.pickT rfl rfl rfl rfl rfl rfl ?_
        refine X.done [(0, _), (1, _), (2, _), (3, _), (4, _), (11, _), (12, _), (13, _), (14, _), (36, _), (37, _), (38, _), (39, _), (40, _), (41, _), (42, _), (43, _), (44, _), (45, _), (46, _), (47, _), (48, _), (49, _)] ⟨rfl, rfl, rfl, rfl, rfl, rfl, rfl, rfl, rfl, rfl, rfl, rfl, rfl, rfl, rfl, rfl, rfl, rfl, rfl, rfl, rfl, rfl, rfl, trivial⟩ ?_
        refine N.then ?_
        refine E.condD rfl (fun hc => ?_) (fun hc => ?_)
        · refine E.skip ?_
          refine N.then ?_
          refine E.seq ?_
          refine E.block ?_
          refine E.seq ?_
          have hi2 : p + j < l.length := Int.ofNat_lt.1 (by assumption)
          obtain ⟨x, hx⟩ := get_of hi2
          obtain ⟨hae, cs1, ct1, fz1, hb1, hc1⟩ := row_at hF hx
          have hpre := pre_snoc n j (l.drop p) x (by rw [List.getElem?_drop]; exact hx)
          have hpn := pre_num (n := n) (j := j) (s := l.drop p) hn1 (by omega) hps
          have hpn1 := pre_num (n := n) (j := j + 1) (s := l.drop p) hn1 (by omega) hps
          have hUl : U ≤ left := by omega
          refine E.region ?_
          refine X.mv rfl rfl rfl rfl rfl ?_
          refine X.mv rfl rfl rfl rfl rfl ?_
          refine X.mv rfl rfl rfl rfl rfl ?_
          refine X.ixAe rfl rfl rfl rfl rfl rfl Try.underlying22 Try.sz3 (hae) (by omega) ?_
          refine X.ld rfl rfl rfl rfl Try.ag3 (hb1) (hc1) ?_
          refine X.mv rfl rfl rfl rfl rfl ?_
          refine X.mulE (zz := x * (n : Int)) rfl rfl rfl rfl rfl rfl (IntWalk.i64_in _ (by omega)) ?_
          refine X.addE (zz := pre n (j + 1) (l.drop p)) rfl rfl rfl rfl rfl rfl (by rw [hpre, IntWalk.i64_in _ (by omega)]) ?_
          refine X.asg rfl rfl rfl rfl rfl ?_
          refine X.done [(0, _), (1, _), (2, _), (3, _), (4, _), (11, _), (12, _), (13, _), (14, _), (36, _), (37, _), (38, _), (39, _), (40, _), (41, _), (42, _), (43, _), (44, _), (45, _), (46, _), (47, _), (48, _), (49, _), (52, _), (53, _), (54, _), (55, _), (56, _), (57, _), (58, _), (59, _)] ⟨rfl, rfl, rfl, rfl, rfl, rfl, rfl, rfl, rfl, rfl, rfl, rfl, rfl, rfl, rfl, rfl, rfl, rfl, rfl, rfl, rfl, rfl, rfl, rfl, rfl, rfl, rfl, rfl, rfl, rfl, rfl, trivial⟩ ?_
          refine N.then ?_
          refine E.seq ?_
          refine E.region ?_
          refine X.mv rfl rfl rfl rfl rfl ?_
          refine X.mv rfl rfl rfl rfl rfl ?_
          refine X.addE (zz := ((p + (j + 1) : Nat) : Int)) rfl rfl rfl rfl rfl rfl (by rw [IntWalk.i64_in _ (by omega)] <;> omega) ?_
          refine X.mv rfl rfl rfl rfl rfl ?_
          refine X.addE (zz := ((n + 1 : Nat) : Int)) rfl rfl rfl rfl rfl rfl (by rw [IntWalk.i64_in _ (by omega)] <;> omega) ?_
          refine X.mv rfl rfl rfl rfl rfl ?_
          refine X.mv rfl rfl rfl rfl rfl ?_
          refine X.mv rfl rfl rfl rfl rfl ?_
          refine X.mv rfl rfl rfl rfl rfl ?_
          refine X.sbE (zz := ((j : Nat) : Int)) rfl rfl rfl rfl rfl rfl (by rw [IntWalk.i64_in _ (by omega)] <;> omega) ?_
          refine X.addE (zz := ((j + 1 : Nat) : Int)) rfl rfl rfl rfl rfl rfl (by rw [IntWalk.i64_in _ (by omega)] <;> omega) ?_
          refine X.mv rfl rfl rfl rfl rfl ?_
          refine X.mulE (zz := ((U : Nat) : Int)) rfl rfl rfl rfl rfl rfl (by rw [← Int.natCast_mul, ← hU, IntWalk.i64_in _ (by omega)]) ?_
          refine X.sbE (zz := ((left - U : Nat) : Int)) rfl rfl rfl rfl rfl rfl (by rw [IntWalk.i64_in _ (by omega)] <;> omega) ?_
          refine X.call rfl rfl rfl rfl rfl Try.cl24 (ih hnm (p + (j + 1)) (left - U) (by omega) (by omega)) ?_
          rintro _ Hx ⟨r, rfl, hr, e⟩
          obtain rfl := e.symm
          have hrb := best_num hr (pos_drop hpos _) (by rw [List.length_drop]; omega) (show most ≤ 7 by omega) (fun ls w => w.hi)
          have hst := best_step (most := most) (n := n) (left := left) (s := l.drop p) (j := j) (best := best) (r := r) (by omega) (by rw [← hu, ← hU]; omega) hps hB (by rw [← hu, ← hU, List.drop_drop]; exact hr)
          refine X.asg rfl rfl rfl rfl rfl ?_
          refine X.done [(0, _), (1, _), (2, _), (3, _), (4, _), (11, _), (12, _), (13, _), (14, _), (36, _), (37, _), (38, _), (39, _), (40, _), (41, _), (42, _), (43, _), (44, _), (45, _), (46, _), (47, _), (48, _), (49, _), (52, _), (53, _), (54, _), (55, _), (56, _), (57, _), (58, _), (59, _), (60, _), (61, _), (62, _), (63, _), (64, _), (65, _), (66, _), (67, _), (68, _), (69, _), (70, _), (71, _), (72, _), (73, _), (74, _), (15, _)] ⟨rfl, rfl, rfl, rfl, rfl, rfl, rfl, rfl, rfl, rfl, rfl, rfl, rfl, rfl, rfl, rfl, rfl, rfl, rfl, rfl, rfl, rfl, rfl, rfl, rfl, rfl, rfl, rfl, rfl, rfl, rfl, rfl, rfl, rfl, rfl, rfl, rfl, rfl, rfl, rfl, rfl, rfl, rfl, rfl, rfl, rfl, rfl, trivial⟩ ?_
          refine N.then ?_
          refine E.seq ?_
          refine E.region ?_
          refine X.mv rfl rfl rfl rfl rfl ?_
          refine X.geqC rfl rfl rfl rfl rfl rfl (fun hc => ?_) (fun hc => ?_)
          · refine X.mv rfl rfl rfl rfl rfl ?_
            refine X.mv rfl rfl rfl rfl rfl ?_
            refine X.lssC rfl rfl rfl rfl rfl rfl (fun hc => ?_) (fun hc => ?_)
            · refine X.mv rfl rfl rfl rfl rfl ?_
              refine X.skip rfl rfl rfl ?_
              refine X.skip rfl rfl rfl ?_
              refine X.skip rfl rfl rfl ?_
              refine X.skip rfl rfl rfl ?_
              refine X.skip rfl rfl rfl ?_
              refine X.pickT rfl rfl rfl rfl rfl rfl ?_
              refine X.pickT rfl rfl rfl rfl rfl rfl ?_
              refine X.done [(0, _), (1, _), (2, _), (3, _), (4, _), (11, _), (12, _), (13, _), (14, _), (36, _), (37, _), (38, _), (39, _), (40, _), (41, _), (42, _), (43, _), (44, _), (45, _), (46, _), (47, _), (48, _), (49, _), (52, _), (53, _), (54, _), (55, _), (56, _), (57, _), (58, _), (59, _), (60, _), (61, _), (62, _), (63, _), (64, _), (65, _), (66, _), (67, _), (68, _), (69, _), (70, _), (71, _), (72, _), (73, _), (74, _), (15, _), (75, _), (76, _), (77, _), (78, _), (79, _), (80, _), (81, _), (82, _), (83, _), (84, _), (85, _), (86, _), (87, _)] ⟨rfl, rfl, rfl, rfl, rfl, rfl, rfl, rfl, rfl, rfl, rfl, rfl, rfl, rfl, rfl, rfl, rfl, rfl, rfl, rfl, rfl, rfl, rfl, rfl, rfl, rfl, rfl, rfl, rfl, rfl, rfl, rfl, rfl, rfl, rfl, rfl, rfl, rfl, rfl, rfl, rfl, rfl, rfl, rfl, rfl, rfl, rfl, rfl, rfl, rfl, rfl, rfl, rfl, rfl, rfl, rfl, rfl, rfl, rfl, rfl, trivial⟩ ?_
              refine N.then ?_
              refine E.condT rfl ?_
              refine E.region ?_
              refine X.mv rfl rfl rfl rfl rfl ?_
              refine X.mv rfl rfl rfl rfl rfl ?_
              refine X.addE (zz := pre n (j + 1) (l.drop p) + r) rfl rfl rfl rfl rfl rfl (IntWalk.i64_in _ (by omega)) ?_
              refine X.asg rfl rfl rfl rfl rfl ?_
              refine X.done [(0, _), (1, _), (2, _), (3, _), (4, _), (11, _), (12, _), (13, _), (14, _), (36, _), (37, _), (38, _), (39, _), (40, _), (41, _), (42, _), (43, _), (44, _), (45, _), (46, _), (47, _), (48, _), (49, _), (52, _), (53, _), (54, _), (55, _), (56, _), (57, _), (58, _), (59, _), (60, _), (61, _), (62, _), (63, _), (64, _), (65, _), (66, _), (67, _), (68, _), (69, _), (70, _), (71, _), (72, _), (73, _), (74, _), (15, _), (75, _), (76, _), (77, _), (78, _), (79, _), (80, _), (81, _), (82, _), (83, _), (84, _), (85, _), (86, _), (87, _), (88, _), (89, _), (90, _)] ⟨rfl, rfl, rfl, rfl, rfl, rfl, rfl, rfl, rfl, rfl, rfl, rfl, rfl, rfl, rfl, rfl, rfl, rfl, rfl, rfl, rfl, rfl, rfl, rfl, rfl, rfl, rfl, rfl, rfl, rfl, rfl, rfl, rfl, rfl, rfl, rfl, rfl, rfl, rfl, rfl, rfl, rfl, rfl, rfl, rfl, rfl, rfl, rfl, rfl, rfl, rfl, rfl, rfl, rfl, rfl, rfl, rfl, rfl, rfl, rfl, rfl, rfl, rfl, trivial⟩ ?_
              refine N.blk ?_
              refine N.then ?_
              refine E.region ?_
              refine X.mv rfl rfl rfl rfl rfl ?_
              refine X.addE (zz := ((p + (j + 1) : Nat) : Int)) rfl rfl rfl rfl rfl rfl (by rw [IntWalk.i64_in _ (by omega)] <;> omega) ?_
              refine X.asg rfl rfl rfl rfl rfl ?_
              refine X.done [(0, _), (1, _), (2, _), (3, _), (4, _), (11, _), (12, _), (13, _), (14, _), (36, _), (37, _), (38, _), (39, _), (40, _), (41, _), (42, _), (43, _), (44, _), (45, _), (46, _), (47, _), (48, _), (49, _), (52, _), (53, _), (54, _), (55, _), (56, _), (57, _), (58, _), (59, _), (60, _), (61, _), (62, _), (63, _), (64, _), (65, _), (66, _), (67, _), (68, _), (69, _), (70, _), (71, _), (72, _), (73, _), (74, _), (15, _), (75, _), (76, _), (77, _), (78, _), (79, _), (80, _), (81, _), (82, _), (83, _), (84, _), (85, _), (86, _), (87, _), (88, _), (89, _), (90, _), (50, _), (51, _)] ⟨rfl, rfl, rfl, rfl, rfl, rfl, rfl, rfl, rfl, rfl, rfl, rfl, rfl, rfl, rfl, rfl, rfl, rfl, rfl, rfl, rfl, rfl, rfl, rfl, rfl, rfl, rfl, rfl, rfl, rfl, rfl, rfl, rfl, rfl, rfl, rfl, rfl, rfl, rfl, rfl, rfl, rfl, rfl, rfl, rfl, rfl, rfl, rfl, rfl, rfl, rfl, rfl, rfl, rfl, rfl, rfl, rfl, rfl, rfl, rfl, rfl, rfl, rfl, rfl, rfl, trivial⟩ ?_
              first
                | exact N.next (G := fun (q : LQ) => _) ⟨j + 1, pre n (j + 1) (l.drop p) + r⟩ ⟨rfl, rfl, rfl, rfl, rfl, rfl, rfl, rfl, rfl, trivial⟩ ⟨by show p + (j + 1) ≤ l.length; omega, by rw [if_pos (by omega)] at hst; exact hst, rfl⟩ (by show l.length - (p + (j + 1)) < l.length - (p + j); omega)
                | exact N.next (G := fun (q : LQ) => _) ⟨j + 1, best⟩ ⟨rfl, rfl, rfl, rfl, rfl, rfl, rfl, rfl, rfl, trivial⟩ ⟨by show p + (j + 1) ≤ l.length; omega, by rw [if_neg (by omega)] at hst; exact hst, rfl⟩ (by show l.length - (p + (j + 1)) < l.length - (p + j); omega)
            · refine X.mv rfl rfl rfl rfl rfl ?_
              refine X.mv rfl rfl rfl rfl rfl ?_
              refine X.mv rfl rfl rfl rfl rfl ?_
              refine X.addE (zz := pre n (j + 1) (l.drop p) + r) rfl rfl rfl rfl rfl rfl (IntWalk.i64_in _ (by omega)) ?_
              refine X.mv rfl rfl rfl rfl rfl ?_
              refine X.lss rfl rfl rfl rfl rfl rfl ?_
              refine X.pickF rfl rfl rfl rfl rfl rfl ?_
              refine X.pickT rfl rfl rfl rfl rfl rfl ?_
              refine X.done [(0, _), (1, _), (2, _), (3, _), (4, _), (11, _), (12, _), (13, _), (14, _), (36, _), (37, _), (38, _), (39, _), (40, _), (41, _), (42, _), (43, _), (44, _), (45, _), (46, _), (47, _), (48, _), (49, _), (52, _), (53, _), (54, _), (55, _), (56, _), (57, _), (58, _), (59, _), (60, _), (61, _), (62, _), (63, _), (64, _), (65, _), (66, _), (67, _), (68, _), (69, _), (70, _), (71, _), (72, _), (73, _), (74, _), (15, _), (75, _), (76, _), (77, _), (78, _), (79, _), (80, _), (81, _), (82, _), (83, _), (84, _), (85, _), (86, _), (87, _)] ⟨rfl, rfl, rfl, rfl, rfl, rfl, rfl, rfl, rfl, rfl, rfl, rfl, rfl, rfl, rfl, rfl, rfl, rfl, rfl, rfl, rfl, rfl, rfl, rfl, rfl, rfl, rfl, rfl, rfl, rfl, rfl, rfl, rfl, rfl, rfl, rfl, rfl, rfl, rfl, rfl, rfl, rfl, rfl, rfl, rfl, rfl, rfl, rfl, rfl, rfl, rfl, rfl, rfl, rfl, rfl, rfl, rfl, rfl, rfl, rfl, trivial⟩ ?_
              refine N.then ?_
              refine E.condD rfl (fun hc => ?_) (fun hc => ?_)
              · refine E.region ?_
                refine X.mv rfl rfl rfl rfl rfl ?_
                refine X.mv rfl rfl rfl rfl rfl ?_
                refine X.addE (zz := pre n (j + 1) (l.drop p) + r) rfl rfl rfl rfl rfl rfl (IntWalk.i64_in _ (by omega)) ?_
                refine X.asg rfl rfl rfl rfl rfl ?_
                refine X.done [(0, _), (1, _), (2, _), (3, _), (4, _), (11, _), (12, _), (13, _), (14, _), (36, _), (37, _), (38, _), (39, _), (40, _), (41, _), (42, _), (43, _), (44, _), (45, _), (46, _), (47, _), (48, _), (49, _), (52, _), (53, _), (54, _), (55, _), (56, _), (57, _), (58, _), (59, _), (60, _), (61, _), (62, _), (63, _), (64, _), (65, _), (66, _), (67, _), (68, _), (69, _), (70, _), (71, _), (72, _), (73, _), (74, _), (15, _), (75, _), (76, _), (77, _), (78, _), (79, _), (80, _), (81, _), (82, _), (83, _), (84, _), (85, _), (86, _), (87, _), (88, _), (89, _), (90, _)] ⟨rfl, rfl, rfl, rfl, rfl, rfl, rfl, rfl, rfl, rfl, rfl, rfl, rfl, rfl, rfl, rfl, rfl, rfl, rfl, rfl, rfl, rfl, rfl, rfl, rfl, rfl, rfl, rfl, rfl, rfl, rfl, rfl, rfl, rfl, rfl, rfl, rfl, rfl, rfl, rfl, rfl, rfl, rfl, rfl, rfl, rfl, rfl, rfl, rfl, rfl, rfl, rfl, rfl, rfl, rfl, rfl, rfl, rfl, rfl, rfl, rfl, rfl, rfl, trivial⟩ ?_
                refine N.blk ?_
                refine N.then ?_
                refine E.region ?_
                refine X.mv rfl rfl rfl rfl rfl ?_
                refine X.addE (zz := ((p + (j + 1) : Nat) : Int)) rfl rfl rfl rfl rfl rfl (by rw [IntWalk.i64_in _ (by omega)] <;> omega) ?_
                refine X.asg rfl rfl rfl rfl rfl ?_
                refine X.done [(0, _), (1, _), (2, _), (3, _), (4, _), (11, _), (12, _), (13, _), (14, _), (36, _), (37, _), (38, _), (39, _), (40, _), (41, _), (42, _), (43, _), (44, _), (45, _), (46, _), (47, _), (48, _), (49, _), (52, _), (53, _), (54, _), (55, _), (56, _), (57, _), (58, _), (59, _), (60, _), (61, _), (62, _), (63, _), (64, _), (65, _), (66, _), (67, _), (68, _), (69, _), (70, _), (71, _), (72, _), (73, _), (74, _), (15, _), (75, _), (76, _), (77, _), (78, _), (79, _), (80, _), (81, _), (82, _), (83, _), (84, _), (85, _), (86, _), (87, _), (88, _), (89, _), (90, _), (50, _), (51, _)] ⟨rfl, rfl, rfl, rfl, rfl, rfl, rfl, rfl, rfl, rfl, rfl, rfl, rfl, rfl, rfl, rfl, rfl, rfl, rfl, rfl, rfl, rfl, rfl, rfl, rfl, rfl, rfl, rfl, rfl, rfl, rfl, rfl, rfl, rfl, rfl, rfl, rfl, rfl, rfl, rfl, rfl, rfl, rfl, rfl, rfl, rfl, rfl, rfl, rfl, rfl, rfl, rfl, rfl, rfl, rfl, rfl, rfl, rfl, rfl, rfl, rfl, rfl, rfl, rfl, rfl, trivial⟩ ?_
                first
                  | exact N.next (G := fun (q : LQ) => _) ⟨j + 1, pre n (j + 1) (l.drop p) + r⟩ ⟨rfl, rfl, rfl, rfl, rfl, rfl, rfl, rfl, rfl, trivial⟩ ⟨by show p + (j + 1) ≤ l.length; omega, by rw [if_pos (by omega)] at hst; exact hst, rfl⟩ (by show l.length - (p + (j + 1)) < l.length - (p + j); omega)
                  | exact N.next (G := fun (q : LQ) => _) ⟨j + 1, best⟩ ⟨rfl, rfl, rfl, rfl, rfl, rfl, rfl, rfl, rfl, trivial⟩ ⟨by show p + (j + 1) ≤ l.length; omega, by rw [if_neg (by omega)] at hst; exact hst, rfl⟩ (by show l.length - (p + (j + 1)) < l.length - (p + j); omega)
              · refine E.skip ?_
                refine N.blk ?_
                refine N.then ?_
                refine E.region ?_
                refine X.mv rfl rfl rfl rfl rfl ?_
                refine X.addE (zz := ((p + (j + 1) : Nat) : Int)) rfl rfl rfl rfl rfl rfl (by rw [IntWalk.i64_in _ (by omega)] <;> omega) ?_
                refine X.asg rfl rfl rfl rfl rfl ?_
                refine X.done [(0, _), (1, _), (2, _), (3, _), (4, _), (11, _), (12, _), (13, _), (14, _), (36, _), (37, _), (38, _), (39, _), (40, _), (41, _), (42, _), (43, _), (44, _), (45, _), (46, _), (47, _), (48, _), (49, _), (52, _), (53, _), (54, _), (55, _), (56, _), (57, _), (58, _), (59, _), (60, _), (61, _), (62, _), (63, _), (64, _), (65, _), (66, _), (67, _), (68, _), (69, _), (70, _), (71, _), (72, _), (73, _), (74, _), (15, _), (75, _), (76, _), (77, _), (78, _), (79, _), (80, _), (81, _), (82, _), (83, _), (84, _), (85, _), (86, _), (87, _), (50, _), (51, _)] ⟨rfl, rfl, rfl, rfl, rfl, rfl, rfl, rfl, rfl, rfl, rfl, rfl, rfl, rfl, rfl, rfl, rfl, rfl, rfl, rfl, rfl, rfl, rfl, rfl, rfl, rfl, rfl, rfl, rfl, rfl, rfl, rfl, rfl, rfl, rfl, rfl, rfl, rfl, rfl, rfl, rfl, rfl, rfl, rfl, rfl, rfl, rfl, rfl, rfl, rfl, rfl, rfl, rfl, rfl, rfl, rfl, rfl, rfl, rfl, rfl, rfl, rfl, trivial⟩ ?_
                first
                  | exact N.next (G := fun (q : LQ) => _) ⟨j + 1, pre n (j + 1) (l.drop p) + r⟩ ⟨rfl, rfl, rfl, rfl, rfl, rfl, rfl, rfl, rfl, trivial⟩ ⟨by show p + (j + 1) ≤ l.length; omega, by rw [if_pos (by omega)] at hst; exact hst, rfl⟩ (by show l.length - (p + (j + 1)) < l.length - (p + j); omega)
                  | exact N.next (G := fun (q : LQ) => _) ⟨j + 1, best⟩ ⟨rfl, rfl, rfl, rfl, rfl, rfl, rfl, rfl, rfl, trivial⟩ ⟨by show p + (j + 1) ≤ l.length; omega, by rw [if_neg (by omega)] at hst; exact hst, rfl⟩ (by show l.length - (p + (j + 1)) < l.length - (p + j); omega)
          · refine X.mv rfl rfl rfl rfl rfl ?_
            refine X.skip rfl rfl rfl ?_
            refine X.skip rfl rfl rfl ?_
            refine X.skip rfl rfl rfl ?_
            refine X.skip rfl rfl rfl ?_
            refine X.skip rfl rfl rfl ?_
            refine X.skip rfl rfl rfl ?_
            refine X.skip rfl rfl rfl ?_
            refine X.skip rfl rfl rfl ?_
            refine X.skip rfl rfl rfl ?_
            refine X.pickF rfl rfl rfl rfl rfl rfl ?_
            refine X.done [(0, _), (1, _), (2, _), (3, _), (4, _), (11, _), (12, _), (13, _), (14, _), (36, _), (37, _), (38, _), (39, _), (40, _), (41, _), (42, _), (43, _), (44, _), (45, _), (46, _), (47, _), (48, _), (49, _), (52, _), (53, _), (54, _), (55, _), (56, _), (57, _), (58, _), (59, _), (60, _), (61, _), (62, _), (63, _), (64, _), (65, _), (66, _), (67, _), (68, _), (69, _), (70, _), (71, _), (72, _), (73, _), (74, _), (15, _), (75, _), (76, _), (77, _), (78, _), (79, _), (80, _), (81, _), (82, _), (83, _), (84, _), (85, _), (86, _), (87, _)] ⟨rfl, rfl, rfl, rfl, rfl, rfl, rfl, rfl, rfl, rfl, rfl, rfl, rfl, rfl, rfl, rfl, rfl, rfl, rfl, rfl, rfl, rfl, rfl, rfl, rfl, rfl, rfl, rfl, rfl, rfl, rfl, rfl, rfl, rfl, rfl, rfl, rfl, rfl, rfl, rfl, rfl, rfl, rfl, rfl, rfl, rfl, rfl, rfl, rfl, rfl, rfl, rfl, rfl, rfl, rfl, rfl, rfl, rfl, rfl, rfl, trivial⟩ ?_
            refine N.then ?_
            refine E.condF rfl ?_
            refine E.skip ?_
            refine N.blk ?_
            refine N.then ?_
            refine E.region ?_
            refine X.mv rfl rfl rfl rfl rfl ?_
            refine X.addE (zz := ((p + (j + 1) : Nat) : Int)) rfl rfl rfl rfl rfl rfl (by rw [IntWalk.i64_in _ (by omega)] <;> omega) ?_
            refine X.asg rfl rfl rfl rfl rfl ?_
            refine X.done [(0, _), (1, _), (2, _), (3, _), (4, _), (11, _), (12, _), (13, _), (14, _), (36, _), (37, _), (38, _), (39, _), (40, _), (41, _), (42, _), (43, _), (44, _), (45, _), (46, _), (47, _), (48, _), (49, _), (52, _), (53, _), (54, _), (55, _), (56, _), (57, _), (58, _), (59, _), (60, _), (61, _), (62, _), (63, _), (64, _), (65, _), (66, _), (67, _), (68, _), (69, _), (70, _), (71, _), (72, _), (73, _), (74, _), (15, _), (75, _), (76, _), (77, _), (78, _), (79, _), (80, _), (81, _), (82, _), (83, _), (84, _), (85, _), (86, _), (87, _), (50, _), (51, _)] ⟨rfl, rfl, rfl, rfl, rfl, rfl, rfl, rfl, rfl, rfl, rfl, rfl, rfl, rfl, rfl, rfl, rfl, rfl, rfl, rfl, rfl, rfl, rfl, rfl, rfl, rfl, rfl, rfl, rfl, rfl, rfl, rfl, rfl, rfl, rfl, rfl, rfl, rfl, rfl, rfl, rfl, rfl, rfl, rfl, rfl, rfl, rfl, rfl, rfl, rfl, rfl, rfl, rfl, rfl, rfl, rfl, rfl, rfl, rfl, rfl, rfl, rfl, trivial⟩ ?_
            first
              | exact N.next (G := fun (q : LQ) => _) ⟨j + 1, pre n (j + 1) (l.drop p) + r⟩ ⟨rfl, rfl, rfl, rfl, rfl, rfl, rfl, rfl, rfl, trivial⟩ ⟨by show p + (j + 1) ≤ l.length; omega, by rw [if_pos (by omega)] at hst; exact hst, rfl⟩ (by show l.length - (p + (j + 1)) < l.length - (p + j); omega)
              | exact N.next (G := fun (q : LQ) => _) ⟨j + 1, best⟩ ⟨rfl, rfl, rfl, rfl, rfl, rfl, rfl, rfl, rfl, trivial⟩ ⟨by show p + (j + 1) ≤ l.length; omega, by rw [if_neg (by omega)] at hst; exact hst, rfl⟩ (by show l.length - (p + (j + 1)) < l.length - (p + j); omega)
        · refine E.exit ?_
          refine N.thenX ?_
          refine N.loopX ?_
          refine N.blkX ?_
          refine N.then ?_
          refine E.seq ?_
          refine E.region ?_
          refine X.mv rfl rfl rfl rfl rfl ?_
          refine X.asg rfl rfl rfl rfl rfl ?_
          refine X.done [(10, _)] ⟨rfl, trivial⟩ ?_
          refine N.then ?_
          refine E.ret ?_
          exact N.retH [_] ⟨_, _, rfl, rfl, rfl⟩ ⟨best, rfl, hB.iff (wayTo_all hnm (by first | exact .inl (by rw [hdl]; omega) | exact .inr (by rw [← hu, ← hU]; omega))), rfl⟩
      · refine X.mv rfl rfl rfl rfl rfl ?_
        refine X.skip rfl rfl rfl ?_
        refine X.skip rfl rfl rfl ?_
        refine X.skip rfl rfl rfl ?_
        refine X.skip rfl rfl rfl ?_
        refine X.skip rfl rfl rfl ?_
        refine X.skip rfl rfl rfl ?_
        refine X.skip rfl rfl rfl ?_
        refine X.skip rfl rfl rfl ?_
        refine X.pickF rfl rfl rfl rfl rfl rfl ?_
        refine X.done [(0, _), (1, _), (2, _), (3, _), (4, _), (11, _), (12, _), (13, _), (14, _), (36, _), (37, _), (38, _), (39, _), (40, _), (41, _), (42, _), (43, _), (44, _), (45, _), (46, _), (47, _), (48, _), (49, _)] ⟨rfl, rfl, rfl, rfl, rfl, rfl, rfl, rfl, rfl, rfl, rfl, rfl, rfl, rfl, rfl, rfl, rfl, rfl, rfl, rfl, rfl, rfl, rfl, trivial⟩ ?_
        refine N.then ?_
        refine E.condF rfl ?_
        refine E.exit ?_
        refine N.thenX ?_
        refine N.loopX ?_
        refine N.blkX ?_
        refine N.then ?_
        refine E.seq ?_
        refine E.region ?_
        refine X.mv rfl rfl rfl rfl rfl ?_
        refine X.asg rfl rfl rfl rfl rfl ?_
        refine X.done [(10, _)] ⟨rfl, trivial⟩ ?_
        refine N.then ?_
        refine E.ret ?_
        exact N.retH [_] ⟨_, _, rfl, rfl, rfl⟩ ⟨best, rfl, hB.iff (wayTo_all hnm (by first | exact .inl (by rw [hdl]; omega) | exact .inr (by rw [← hu, ← hU]; omega))), rfl⟩

theorem least_ct (l : List Int) (a : Option Addr) (b o c : Nat) (most : Nat) (H : Heap) (hF : Row1 H a b o (iv l)) (hpos : Pos l) (hl : l.length ≤ 8) (hm : most ≤ 6) : ∀ (f n p left : Nat), most + 1 - n ≤ f → n ≤ 7 → p ≤ l.length → left ≤ 64 → Ct Try.prog 24 #[.slice a l.length c, i64 ((p : Nat) : Int), i64 ((n : Nat) : Int), i64 ((most : Nat) : Int), i64 ((left : Nat) : Int)] H (LeastR l most n p left H)
  | 0, n, p, left, h, hn, hp, hlf => least_step l a b o c most n p left H hF hpos hl hm hn hp hlf (fun h1 => absurd h1 (by omega))
  | f + 1, n, p, left, h, hn, hp, hlf => least_step l a b o c most n p left H hF hpos hl hm hn hp hlf (fun h1 p' left' hp' hl' => least_ct l a b o c most H hF hpos hl hm f (n + 1) p' left' (by omega) (by omega) hp' hl')
theorem srt_from (fs : List Int) : ∀ i, ∀ x ∈ srtF fs i, ∃ s, s < i ∧ x = fs.getD s 0
  | 0, x, h => by simp [srtF] at h
  | i + 1, x, h => by
    rw [srtF] at h
    split at h
    · rcases ins_mem h with rfl | h
      · exact ⟨i, by omega, rfl⟩
      · obtain ⟨s, h1, h2⟩ := srt_from fs i x h; exact ⟨s, by omega, h2⟩
    · obtain ⟨s, h1, h2⟩ := srt_from fs i x h; exact ⟨s, by omega, h2⟩
theorem srt_Pos {fs : List Int} {most : Int} (h : Good fs most) : Pos (srtF fs fs.length) := by
  intro x hx
  obtain ⟨s, hs, rfl⟩ := srt_from fs _ x hx
  have := h.ok _ (getD_mem (d := 0) hs)
  unfold badF at this; omega

theorem leastv_ct (fs : List Int) (a : Option Addr) (b o c : Nat) (most : Int) (H : Heap) (hF : Row1 H a b o (iv fs)) (hg : Good fs most) (hl : fs.length ≤ 8) (hm : most ≤ 6) : Ct Try.prog 12 #[.slice a fs.length c, i64 most] H fun v H' => v = i64 (costV fs (lensV fs most)) ∧ Kp [] H H' := by
  have hm1 := hg.most1
  obtain ⟨m, rfl⟩ := Int.eq_ofNat_of_zero_le (show 0 ≤ most by omega)
  have h2m : 2 ^ m ≤ 64 := Nat.pow_le_pow_right (j := 6) (by omega) (by omega)
  have hsl := srt_len fs fs.length
  refine Ct.into 12 Try.func12 rfl [(0, .slice a fs.length c), (1, i64 ((m : Nat) : Int))] rfl ⟨rfl, rfl, trivial⟩ ?_
  refine E.seq ?_
  refine E.region ?_
  refine X.asg rfl rfl rfl rfl rfl ?_
  refine X.done [(0, _), (1, _), (4, _)] ⟨rfl, rfl, rfl, trivial⟩ ?_
  refine N.then ?_
  refine E.seq ?_
  refine E.region ?_
  refine X.mv rfl rfl rfl rfl rfl ?_
  refine X.call rfl rfl rfl rfl rfl Try.cl25 (sorted_ct fs a b o c H hF (by omega)) ?_
  rintro vs H1 ⟨hO, hvb, hk1⟩
  obtain ⟨va, vc, rfl⟩ := hO.len
  obtain ⟨rb, ro, hR⟩ := own_row hO
  refine X.mv rfl rfl rfl rfl rfl ?_
  refine X.mv rfl rfl rfl rfl rfl ?_
  refine X.convE (zz := ((m : Nat) : Int)) rfl rfl rfl rfl rfl Try.underlying45 Try.us3 (IntWalk.u64_in _ (by omega)) ?_
  refine X.shlE (zz := ((2 ^ m : Nat) : Int)) rfl rfl rfl rfl rfl rfl (by omega) (shl_k (by omega)) ?_
  refine X.call rfl rfl rfl rfl rfl Try.cl24 (least_ct (srtF fs fs.length) va rb ro vc m H1 hR (srt_Pos hg) (by omega) (by omega) (m + 1) 1 0 (2 ^ m) (by omega) (by omega) (Nat.zero_le _) h2m) ?_
  rintro _ Hx ⟨r, rfl, hr, e⟩
  obtain rfl := e.symm
  rw [List.drop_zero] at hr
  obtain rfl := least_is hg hr
  refine X.asg rfl rfl rfl rfl rfl ?_
  refine X.done [(4, _)] ⟨rfl, trivial⟩ ?_
  refine N.then ?_
  refine E.ret ?_
  exact N.retH [_] ⟨_, _, rfl, rfl, rfl⟩ ⟨rfl, hk1⟩

theorem huffleast_ct (fs : List Int) (a : Option Addr) (b o c m : Nat) (H : Heap) (hF : Row1 H a b o (iv fs)) (hm : m ≤ 255) : Ct Try.prog 4 #[.slice a fs.length c, .int .u8 (m : Int)] H fun v H' => v = .bool true ∧ Kp [] H H' := by
  refine Ct.into 42 Try.func4 rfl [(0, .slice a fs.length c), (1, .int .u8 (m : Int))] rfl ⟨rfl, rfl, trivial⟩ ?_
  refine E.seq ?_
  refine E.region ?_
  refine X.asg rfl rfl rfl rfl rfl ?_
  refine X.done [(0, _), (1, _), (4, _)] ⟨rfl, rfl, rfl, trivial⟩ ?_
  refine N.then ?_
  refine E.seq ?_
  refine E.seq ?_
  refine E.region ?_
  refine X.mv rfl rfl rfl rfl rfl ?_
  refine X.lenS rfl rfl rfl rfl rfl Try.underlying22 ?_
  refine X.gtr rfl rfl rfl rfl rfl rfl ?_
  refine X.done [(0, _), (1, _), (4, _), (10, _)] ⟨rfl, rfl, rfl, rfl, trivial⟩ ?_
  refine N.then ?_
  refine E.condD rfl (fun hc => ?_) (fun hc => ?_)
  · refine E.seq ?_
    refine E.region ?_
    refine X.call rfl rfl rfl rfl rfl Try.cl7 (known_ct _) ?_
    rintro _ H9 ⟨rfl, hk9⟩
    refine X.asg rfl rfl rfl rfl rfl ?_
    refine X.done [(0, _), (1, _), (4, _)] ⟨rfl, rfl, rfl, trivial⟩ ?_
    refine N.then ?_
    refine E.ret ?_
    refine N.thenR ?_
    exact N.retH [_] ⟨_, _, rfl, rfl, rfl⟩ ⟨rfl, hk9⟩
  · refine E.skip ?_
    refine N.then ?_
    refine E.seq ?_
    refine E.region ?_
    refine X.mv rfl rfl rfl rfl rfl ?_
    refine X.convE (zz := ((m : Nat) : Int)) rfl rfl rfl rfl rfl Try.underlying3 Try.us5 (IntWalk.i64_in _ (by omega)) ?_
    refine X.remE (zz := ((m % 6 : Nat) : Int)) rfl rfl rfl rfl rfl rfl (by omega) (by rw [IntWalk.rem_in _ _ (by omega)] <;> omega) ?_
    refine X.addE (zz := ((1 + m % 6 : Nat) : Int)) rfl rfl rfl rfl rfl rfl (by rw [IntWalk.i64_in _ (by omega)] <;> omega) ?_
    refine X.asg rfl rfl rfl rfl rfl ?_
    refine X.done [(0, _), (4, _), (5, _)] ⟨rfl, rfl, rfl, trivial⟩ ?_
    refine N.then ?_
    refine E.seq ?_
    refine E.region ?_
    refine X.mv rfl rfl rfl rfl rfl ?_
    refine X.mv rfl rfl rfl rfl rfl ?_
    refine X.call rfl rfl rfl rfl rfl Try.cl8 (lengths_ct fs a b o c ((1 + m % 6 : Nat) : Int) H hF (by omega)) ?_
    intro v1 H1 hq
    obtain ⟨hk1, hv1⟩ := hq
    have hF1 := hF.keepN hk1
    rcases hv1 with ⟨he, rfl⟩ | ⟨he, lb, rfl, hlb, hlt⟩
    · refine X.mv rfl rfl rfl rfl rfl ?_
      refine X.extract rfl rfl rfl rfl rfl rfl ?_
      refine X.extract rfl rfl rfl rfl rfl rfl ?_
      refine X.asg rfl rfl rfl rfl rfl ?_
      refine X.asg rfl rfl rfl rfl rfl ?_
      refine X.done [(0, _), (4, _), (5, _), (6, _), (7, _)] ⟨rfl, rfl, rfl, rfl, rfl, trivial⟩ ?_
      refine N.then ?_
      refine E.seq ?_
      refine E.seq ?_
      refine E.region ?_
      refine X.mv rfl rfl rfl rfl rfl ?_
      refine X.neqT rfl rfl rfl rfl rfl rfl (by first | exact he | omega) ?_
      refine X.done [(0, _), (4, _), (5, _), (6, _), (7, _), (23, _)] ⟨rfl, rfl, rfl, rfl, rfl, rfl, trivial⟩ ?_
      refine N.then ?_
      refine E.condT rfl ?_
      refine E.seq ?_
      refine E.region ?_
      refine X.mv rfl rfl rfl rfl rfl ?_
      refine X.mv rfl rfl rfl rfl rfl ?_
      refine X.mv rfl rfl rfl rfl rfl ?_
      refine X.call rfl rfl rfl rfl rfl Try.cl9 (rwrong_ct fs a b o c ((1 + m % 6 : Nat) : Int) _ hF1 (by omega)) ?_
      rintro _ Hx ⟨rfl, e⟩
      obtain rfl := e.symm
      refine X.eqlT rfl rfl rfl rfl rfl rfl (rfl) ?_
      refine X.mv rfl rfl rfl rfl rfl ?_
      refine X.call rfl rfl rfl rfl rfl Try.cl7 (known_ct _) ?_
      rintro _ H9 ⟨rfl, hk9⟩
      refine X.pickT rfl rfl rfl rfl rfl rfl ?_
      refine X.asg rfl rfl rfl rfl rfl ?_
      refine X.done [(0, _), (4, _), (5, _), (6, _)] ⟨rfl, rfl, rfl, rfl, trivial⟩ ?_
      refine N.then ?_
      refine E.ret ?_
      refine N.thenR ?_
      exact N.retH [_] ⟨_, _, rfl, rfl, rfl⟩ ⟨rfl, hk1.trans hk9 (by simp)⟩
    · refine X.mv rfl rfl rfl rfl rfl ?_
      refine X.extract rfl rfl rfl rfl rfl rfl ?_
      refine X.extract rfl rfl rfl rfl rfl rfl ?_
      refine X.asg rfl rfl rfl rfl rfl ?_
      refine X.asg rfl rfl rfl rfl rfl ?_
      refine X.done [(0, _), (4, _), (5, _), (6, _), (7, _)] ⟨rfl, rfl, rfl, rfl, rfl, trivial⟩ ?_
      refine N.then ?_
      refine E.seq ?_
      refine E.seq ?_
      refine E.region ?_
      refine X.mv rfl rfl rfl rfl rfl ?_
      refine X.neqF rfl rfl rfl rfl rfl rfl (by first | exact he | omega) ?_
      refine X.done [(0, _), (4, _), (5, _), (6, _), (7, _), (23, _)] ⟨rfl, rfl, rfl, rfl, rfl, rfl, trivial⟩ ?_
      refine N.then ?_
      refine E.condF rfl ?_
      refine E.skip ?_
      refine N.then ?_
      refine E.seq ?_
      refine E.region ?_
      refine X.mv rfl rfl rfl rfl rfl ?_
      refine X.mv rfl rfl rfl rfl rfl ?_
      refine X.call rfl rfl rfl rfl rfl Try.cl11 (cost_found (may_good he) a b o c lb _ hF1 hlb) ?_
      rintro _ Hx ⟨rfl, e⟩
      obtain rfl := e.symm
      refine X.mv rfl rfl rfl rfl rfl ?_
      refine X.mv rfl rfl rfl rfl rfl ?_
      refine X.call rfl rfl rfl rfl rfl Try.cl12 (leastv_ct fs a b o c ((1 + m % 6 : Nat) : Int) _ hF1 (may_good he) (by omega) (by omega)) ?_
      rintro _ H8 ⟨rfl, hk8⟩
      refine X.eqlT rfl rfl rfl rfl rfl rfl (rfl) ?_
      refine X.mv rfl rfl rfl rfl rfl ?_
      refine X.call rfl rfl rfl rfl rfl Try.cl7 (known_ct _) ?_
      rintro _ H9 ⟨rfl, hk9⟩
      refine X.pickT rfl rfl rfl rfl rfl rfl ?_
      refine X.asg rfl rfl rfl rfl rfl ?_
      refine X.done [(4, _)] ⟨rfl, trivial⟩ ?_
      refine N.then ?_
      refine E.ret ?_
      exact N.retH [_] ⟨_, _, rfl, rfl, rfl⟩ ⟨rfl, (hk1.trans hk8 (by simp)).trans hk9 (by simp)⟩

end Go.Proofs.Ytjlelcfabfmiaaa