/- The walks of the lengths' functions, third part: what fits; known. -/
import Derived.Test.YtjlelcfabfmiaaaLW2
namespace Go.Proofs.Ytjlelcfabfmiaaa.Ln
open Go.SX Go.Lens
attribute [local irreducible] X E N Ct
set_option linter.unusedVariables false
set_option linter.unusedSimpArgs false

/-- What is wrong of lengths whose codes are no more than they may be. -/
def fitV (ns : Ns) (lone : Bool) : Int :=
  if K ns 15 = 32768 then 0 else if lone = true ∧ (used ns = 0 ∨ used ns = 1 ∧ ns.count 1 = 1) then 0 else if used ns = 0 then 17 else 8
theorem fitV_t (ns : Ns) : fitV ns true = if K ns 15 = 32768 then 0 else if used ns = 0 ∨ used ns = 1 ∧ ns.count 1 = 1 then 0 else if used ns = 0 then 17 else 8 := by simp [fitV]
theorem fitV_f (ns : Ns) : fitV ns false = if K ns 15 = 32768 then 0 else if used ns = 0 then 17 else 8 := by simp [fitV]
theorem fitV_ne {ns : Ns} (h : K ns 15 ≠ 32768) : fitV ns false ≠ 0 := by
  rw [fitV_f, if_neg h]; split <;> decide
theorem some_snoc {ns : Ns} {i x : Nat} (h : ns[i]? = some x) : some0 (ns.take (i + 1)) = some0 (ns.take i) + (if x = 0 then 0 else 1) := by
  rw [take_snoc h, some0, some0, List.filter_append, List.length_append]
  by_cases hx : x = 0 <;> simp [hx]
theorem some_le (ns : Ns) : some0 ns ≤ ns.length := List.length_filter_le _ _
theorem some_is (ns : Ns) : some0 ns = used ns := by have := some_used ns; unfold used; omega
theorem rg_nv (n : Nat) (f : Nat → Nat) : rg n f = iv (((List.range n).map f).map fun (x : Nat) => (x : Int)) := by rw [nv_iv]; rfl


theorem rfits_bad (ls : List Int) (a : Option Addr) (b o c : Nat) (H : Heap) (A : Row1 H a b o (iv ls)) (hw : wrongV ls ≠ 0) (lone : Bool) : Ct Try.prog 23 #[.slice a ls.length c, .bool lone] H fun v H' => v = i64 (wrongV ls) ∧ Kp [] H H' := by
  refine Ct.into 50 Try.func23 rfl [(0, .slice a ls.length c), (1, .bool lone)] rfl ⟨rfl, rfl, trivial⟩ ?_
  refine E.seq ?_
  refine E.region ?_
  refine X.asg rfl rfl rfl rfl rfl ?_
  refine X.done [(0, _), (1, _), (4, _)] ⟨rfl, rfl, rfl, trivial⟩ ?_
  refine N.then ?_
  refine E.seq ?_
  refine E.region ?_
  refine X.mv rfl rfl rfl rfl rfl ?_
  refine X.call rfl rfl rfl rfl rfl Try.cl31 (rcodes_bad ls a b o c H A hw) ?_
  rintro _ H1 ⟨rfl, eH1⟩
  obtain rfl := eH1.symm
  refine X.mv rfl rfl rfl rfl rfl ?_
  refine X.extract rfl rfl rfl rfl rfl rfl ?_
  refine X.extract rfl rfl rfl rfl rfl rfl ?_
  refine X.asg rfl rfl rfl rfl rfl ?_
  refine X.asg rfl rfl rfl rfl rfl ?_
  refine X.done [(0, _), (1, _), (4, _), (6, _)] ⟨rfl, rfl, rfl, rfl, trivial⟩ ?_
  refine N.then ?_
  refine E.seq ?_
  refine E.seq ?_
  refine E.region ?_
  refine X.mv rfl rfl rfl rfl rfl ?_
  refine X.neqT rfl rfl rfl rfl rfl rfl (hw) ?_
  refine X.done [(0, _), (1, _), (4, _), (6, _), (16, _)] ⟨rfl, rfl, rfl, rfl, rfl, trivial⟩ ?_
  refine N.then ?_
  refine E.condT rfl ?_
  refine E.seq ?_
  refine E.region ?_
  refine X.mv rfl rfl rfl rfl rfl ?_
  refine X.asg rfl rfl rfl rfl rfl ?_
  refine X.done [(0, _), (1, _), (4, _)] ⟨rfl, rfl, rfl, trivial⟩ ?_
  refine N.then ?_
  refine E.ret ?_
  refine N.thenR ?_
  exact N.retH [_] ⟨_, _, rfl, rfl, rfl⟩ ⟨rfl, Kp.refl _ _⟩


theorem rfits_over (ns : Ns) (a : Option Addr) (b o c : Nat) (H : Heap) (A : Row1 H a b o (nv ns)) (ho : Ok ns) (hl : ns.length ≤ 320) (hK : 32768 < K ns 15) (lone : Bool) : Ct Try.prog 23 #[.slice a ns.length c, .bool lone] H fun v H' => v = i64 (7) ∧ Kp [] H H' := by
  refine Ct.into 50 Try.func23 rfl [(0, .slice a ns.length c), (1, .bool lone)] rfl ⟨rfl, rfl, trivial⟩ ?_
  refine E.seq ?_
  refine E.region ?_
  refine X.asg rfl rfl rfl rfl rfl ?_
  refine X.done [(0, _), (1, _), (4, _)] ⟨rfl, rfl, rfl, trivial⟩ ?_
  refine N.then ?_
  refine E.seq ?_
  refine E.region ?_
  refine X.mv rfl rfl rfl rfl rfl ?_
  refine X.call rfl rfl rfl rfl rfl Try.cl31 (rcodes_over ns a b o c H A ho hl hK) ?_
  rintro _ H1 ⟨rfl, eH1⟩
  obtain rfl := eH1.symm
  refine X.mv rfl rfl rfl rfl rfl ?_
  refine X.extract rfl rfl rfl rfl rfl rfl ?_
  refine X.extract rfl rfl rfl rfl rfl rfl ?_
  refine X.asg rfl rfl rfl rfl rfl ?_
  refine X.asg rfl rfl rfl rfl rfl ?_
  refine X.done [(0, _), (1, _), (4, _), (6, _)] ⟨rfl, rfl, rfl, rfl, trivial⟩ ?_
  refine N.then ?_
  refine E.seq ?_
  refine E.seq ?_
  refine E.region ?_
  refine X.mv rfl rfl rfl rfl rfl ?_
  refine X.neqT rfl rfl rfl rfl rfl rfl (by omega) ?_
  refine X.done [(0, _), (1, _), (4, _), (6, _), (16, _)] ⟨rfl, rfl, rfl, rfl, rfl, trivial⟩ ?_
  refine N.then ?_
  refine E.condT rfl ?_
  refine E.seq ?_
  refine E.region ?_
  refine X.mv rfl rfl rfl rfl rfl ?_
  refine X.asg rfl rfl rfl rfl rfl ?_
  refine X.done [(0, _), (1, _), (4, _)] ⟨rfl, rfl, rfl, trivial⟩ ?_
  refine N.then ?_
  refine E.ret ?_
  refine N.thenR ?_
  exact N.retH [_] ⟨_, _, rfl, rfl, rfl⟩ ⟨rfl, Kp.refl _ _⟩


theorem rfits_t (ns : Ns) (a : Option Addr) (b o c : Nat) (H : Heap) (A : Row1 H a b o (nv ns)) (ho : Ok ns) (hl : ns.length ≤ 320) (hK : K ns 15 ≤ 32768) : Ct Try.prog 23 #[.slice a ns.length c, .bool true] H fun v H' => v = i64 (fitV ns true) ∧ Kp [] H H' := by
  have hkk := kr_eq ns ho
  refine Ct.into 50 Try.func23 rfl [(0, .slice a ns.length c), (1, .bool true)] rfl ⟨rfl, rfl, trivial⟩ ?_
  refine E.seq ?_
  refine E.region ?_
  refine X.asg rfl rfl rfl rfl rfl ?_
  refine X.done [(0, _), (1, _), (4, _)] ⟨rfl, rfl, rfl, trivial⟩ ?_
  refine N.then ?_
  refine E.seq ?_
  refine E.region ?_
  refine X.mv rfl rfl rfl rfl rfl ?_
  refine X.call rfl rfl rfl rfl rfl Try.cl31 (rcodes_ok ns a b o c H A ho hl hK) ?_
  rintro _ H1 ⟨bc, rfl, hfc, hbc, hk1⟩
  refine X.mv rfl rfl rfl rfl rfl ?_
  refine X.extract rfl rfl rfl rfl rfl rfl ?_
  refine X.extract rfl rfl rfl rfl rfl rfl ?_
  refine X.asg rfl rfl rfl rfl rfl ?_
  refine X.asg rfl rfl rfl rfl rfl ?_
  refine X.done [(0, _), (1, _), (4, _), (6, _)] ⟨rfl, rfl, rfl, rfl, trivial⟩ ?_
  refine N.then ?_
  refine E.seq ?_
  refine E.seq ?_
  refine E.region ?_
  refine X.mv rfl rfl rfl rfl rfl ?_
  refine X.neqF rfl rfl rfl rfl rfl rfl (fun h => h rfl) ?_
  refine X.done [(0, _), (1, _), (4, _), (6, _), (16, _)] ⟨rfl, rfl, rfl, rfl, rfl, trivial⟩ ?_
  refine N.then ?_
  refine E.condF rfl ?_
  refine E.skip ?_
  refine N.then ?_
  refine E.seq ?_
  refine E.region ?_
  refine X.mv rfl rfl rfl rfl rfl ?_
  refine X.call rfl rfl rfl rfl rfl Try.cl22 (rkraft_ok ns a b o c H1 (A.keepN hk1) ho hl) ?_
  rintro _ H2 ⟨rfl, eH2⟩
  obtain rfl := eH2.symm
  rw [hkk]
  refine X.asg rfl rfl rfl rfl rfl ?_
  refine X.done [(0, _), (1, _), (4, _), (7, _)] ⟨rfl, rfl, rfl, rfl, trivial⟩ ?_
  refine N.then ?_
  refine E.seq ?_
  refine E.seq ?_
  refine E.region ?_
  refine X.mv rfl rfl rfl rfl rfl ?_
  refine X.eql rfl rfl rfl rfl rfl rfl ?_
  refine X.done [(0, _), (1, _), (4, _), (7, _), (21, _)] ⟨rfl, rfl, rfl, rfl, rfl, trivial⟩ ?_
  refine N.then ?_
  refine E.condD rfl (fun hc => ?_) (fun hc => ?_)
  · refine E.seq ?_
    refine E.region ?_
    refine X.asg rfl rfl rfl rfl rfl ?_
    refine X.done [(0, _), (1, _), (4, _), (7, _)] ⟨rfl, rfl, rfl, rfl, trivial⟩ ?_
    refine N.then ?_
    refine E.ret ?_
    refine N.thenR ?_
    exact N.retH [_] ⟨_, _, rfl, rfl, rfl⟩ ⟨(by rw [fitV_t]; show i64 _ = i64 _; congr 1; (repeat' split) <;> first | rfl | (exfalso; omega)), hk1⟩
  · refine E.skip ?_
    refine N.then ?_
    refine E.seq ?_
    refine E.region ?_
    refine X.asg rfl rfl rfl rfl rfl ?_
    refine X.done [(0, _), (1, _), (4, _), (7, _), (8, _)] ⟨rfl, rfl, rfl, rfl, rfl, trivial⟩ ?_
    refine N.then ?_
    refine E.seq ?_
    refine E.seq ?_
    refine E.region ?_
    refine X.asg rfl rfl rfl rfl rfl ?_
    refine X.done [(0, _), (1, _), (4, _), (7, _), (8, _), (9, _)] ⟨rfl, rfl, rfl, rfl, rfl, rfl, trivial⟩ ?_
    refine N.then ?_
    refine E.block ?_
    -- MISSING in G: [4]
    refine E.loop (fun (i : Nat) => [(0, .slice a ns.length c), (1, .bool true), (7, i64 (K ns 15)), (8, i64 (some0 (ns.take i))), (9, i64 i)]) (fun (i : Nat) H' => i ≤ ns.length ∧ H' = H1) (fun (i : Nat) => ns.length - i) 0 ⟨rfl, rfl, rfl, rfl, rfl, trivial⟩ ⟨Nat.zero_le _, rfl⟩ ?_
    rintro i H3 ⟨hi, eH3⟩
    obtain rfl := eH3.symm
    have hsl := some_le (ns.take i)
    rw [List.length_take] at hsl
    refine E.seq ?_
    refine E.seq ?_
    refine E.region ?_
    refine X.mv rfl rfl rfl rfl rfl ?_
    refine X.mv rfl rfl rfl rfl rfl ?_
    refine X.lenS rfl rfl rfl rfl rfl Try.underlying22 ?_
    refine X.lss rfl rfl rfl rfl rfl rfl ?_
    refine X.done [(0, _), (1, _), (7, _), (8, _), (9, _), (22, _), (23, _), (24, _), (25, _)] ⟨rfl, rfl, rfl, rfl, rfl, rfl, rfl, rfl, rfl, trivial⟩ ?_
    refine N.then ?_
    refine E.condD rfl (fun hc => ?_) (fun hc => ?_)
    · refine E.skip ?_
      refine N.then ?_
      refine E.seq ?_
      refine E.block ?_
      refine E.seq ?_
      obtain ⟨x, hx⟩ : ∃ x, ns[i]? = some x := ⟨_, List.getElem?_eq_getElem (by omega)⟩
      have hx15 := ho x (List.mem_of_getElem? hx)
      obtain ⟨ha, cs, ct, fz, hbb, hel⟩ := (A.keepN hk1).get i _ (nv_get hx)
      refine E.region ?_
      refine X.mv rfl rfl rfl rfl rfl ?_
      refine X.mv rfl rfl rfl rfl rfl ?_
      refine X.ixAe rfl rfl rfl rfl rfl rfl Try.underlying22 Try.sz3 (ha) (by omega) ?_
      refine X.ld rfl rfl rfl rfl Try.ag3 (hbb) (by rw [Nat.mul_one]; exact hel) ?_
      refine X.gtr rfl rfl rfl rfl rfl rfl ?_
      refine X.done [(0, _), (1, _), (7, _), (8, _), (9, _), (22, _), (23, _), (24, _), (25, _), (28, _), (29, _), (30, _), (31, _), (32, _)] ⟨rfl, rfl, rfl, rfl, rfl, rfl, rfl, rfl, rfl, rfl, rfl, rfl, rfl, rfl, trivial⟩ ?_
      refine N.then ?_
      refine E.condD rfl (fun hc => ?_) (fun hc => ?_)
      · refine E.region ?_
        refine X.mv rfl rfl rfl rfl rfl ?_
        refine X.addE (zz := ((some0 (ns.take i) + 1 : Nat) : Int)) rfl rfl rfl rfl rfl rfl (by rw [IntWalk.i64_in _ (by omega)]; omega) ?_
        refine X.asg rfl rfl rfl rfl rfl ?_
        refine X.done [(0, _), (1, _), (7, _), (8, _), (9, _), (22, _), (23, _), (24, _), (25, _), (28, _), (29, _), (30, _), (31, _), (32, _), (33, _), (34, _)] ⟨rfl, rfl, rfl, rfl, rfl, rfl, rfl, rfl, rfl, rfl, rfl, rfl, rfl, rfl, rfl, rfl, trivial⟩ ?_
        refine N.blk ?_
        refine N.then ?_
        refine E.region ?_
        refine X.mv rfl rfl rfl rfl rfl ?_
        refine X.add rfl rfl rfl rfl rfl rfl (by omega) ?_
        refine X.asg rfl rfl rfl rfl rfl ?_
        refine X.done [(0, _), (1, _), (7, _), (8, _), (9, _), (22, _), (23, _), (24, _), (25, _), (28, _), (29, _), (30, _), (31, _), (32, _), (33, _), (34, _), (26, _), (27, _)] ⟨rfl, rfl, rfl, rfl, rfl, rfl, rfl, rfl, rfl, rfl, rfl, rfl, rfl, rfl, rfl, rfl, rfl, rfl, trivial⟩ ?_
        first
          | exact N.next (G := fun (i : Nat) => _) (i + 1) ⟨rfl, rfl, rfl, by rw [some_snoc hx, if_neg (by omega)]; rfl, rfl, trivial⟩ ⟨by omega, rfl⟩ (by show _ - (i + 1) < _ - i; omega)
          | exact N.next (G := fun (i : Nat) => _) (i + 1) ⟨rfl, rfl, rfl, by rw [some_snoc hx, if_pos (by omega)]; rfl, rfl, trivial⟩ ⟨by omega, rfl⟩ (by show _ - (i + 1) < _ - i; omega)
      · refine E.skip ?_
        refine N.blk ?_
        refine N.then ?_
        refine E.region ?_
        refine X.mv rfl rfl rfl rfl rfl ?_
        refine X.add rfl rfl rfl rfl rfl rfl (by omega) ?_
        refine X.asg rfl rfl rfl rfl rfl ?_
        refine X.done [(0, _), (1, _), (7, _), (8, _), (9, _), (22, _), (23, _), (24, _), (25, _), (28, _), (29, _), (30, _), (31, _), (32, _), (26, _), (27, _)] ⟨rfl, rfl, rfl, rfl, rfl, rfl, rfl, rfl, rfl, rfl, rfl, rfl, rfl, rfl, rfl, rfl, trivial⟩ ?_
        first
          | exact N.next (G := fun (i : Nat) => _) (i + 1) ⟨rfl, rfl, rfl, by rw [some_snoc hx, if_neg (by omega)]; rfl, rfl, trivial⟩ ⟨by omega, rfl⟩ (by show _ - (i + 1) < _ - i; omega)
          | exact N.next (G := fun (i : Nat) => _) (i + 1) ⟨rfl, rfl, rfl, by rw [some_snoc hx, if_pos (by omega)]; rfl, rfl, trivial⟩ ⟨by omega, rfl⟩ (by show _ - (i + 1) < _ - i; omega)
    · refine E.exit ?_
      refine N.thenX ?_
      refine N.loopX ?_
      refine N.blkX ?_
      refine N.then ?_
      refine E.seq ?_
      refine E.seq ?_
      obtain rfl : i = ns.length := by omega
      have hsu : some0 (ns.take ns.length) = used ns := by rw [List.take_length, some_is]
      have hou : used ns = 1 → (ns.count 1 = 1 ↔ K ns 15 = 16384) := fun h => one_used ns ho h
      refine E.region ?_
      refine X.mv rfl rfl rfl rfl rfl ?_
      refine X.mv rfl rfl rfl rfl rfl ?_
      refine X.mv rfl rfl rfl rfl rfl ?_
      refine X.eqlC rfl rfl rfl rfl rfl rfl (fun hc => ?_) (fun hc => ?_)
      · refine X.mv rfl rfl rfl rfl rfl ?_
        refine X.skip rfl rfl rfl ?_
        refine X.skip rfl rfl rfl ?_
        refine X.skip rfl rfl rfl ?_
        refine X.skip rfl rfl rfl ?_
        refine X.skip rfl rfl rfl ?_
        refine X.skip rfl rfl rfl ?_
        refine X.pickT rfl rfl rfl rfl rfl rfl ?_
        refine X.pickT rfl rfl rfl rfl rfl rfl ?_
        refine X.done [(8, _), (47, _)] ⟨rfl, rfl, trivial⟩ ?_
        refine N.then ?_
        refine E.condT rfl ?_
        refine E.seq ?_
        refine E.region ?_
        refine X.asg rfl rfl rfl rfl rfl ?_
        refine X.done [(8, _), (4, _)] ⟨rfl, rfl, trivial⟩ ?_
        refine N.then ?_
        refine E.ret ?_
        refine N.thenR ?_
        exact N.retH [_] ⟨_, _, rfl, rfl, rfl⟩ ⟨(by rw [fitV_t]; show i64 _ = i64 _; congr 1; (repeat' split) <;> first | rfl | (exfalso; omega)), hk1⟩
      · refine X.mv rfl rfl rfl rfl rfl ?_
        refine X.mv rfl rfl rfl rfl rfl ?_
        refine X.eqlC rfl rfl rfl rfl rfl rfl (fun hc => ?_) (fun hc => ?_)
        · refine X.mv rfl rfl rfl rfl rfl ?_
          refine X.mv rfl rfl rfl rfl rfl ?_
          refine X.eql rfl rfl rfl rfl rfl rfl ?_
          refine X.pickT rfl rfl rfl rfl rfl rfl ?_
          refine X.pickF rfl rfl rfl rfl rfl rfl ?_
          refine X.pickT rfl rfl rfl rfl rfl rfl ?_
          refine X.done [(8, _), (47, _)] ⟨rfl, rfl, trivial⟩ ?_
          refine N.then ?_
          refine E.condD rfl (fun hc => ?_) (fun hc => ?_)
          · refine E.seq ?_
            refine E.region ?_
            refine X.asg rfl rfl rfl rfl rfl ?_
            refine X.done [(8, _), (4, _)] ⟨rfl, rfl, trivial⟩ ?_
            refine N.then ?_
            refine E.ret ?_
            refine N.thenR ?_
            exact N.retH [_] ⟨_, _, rfl, rfl, rfl⟩ ⟨(by rw [fitV_t]; show i64 _ = i64 _; congr 1; (repeat' split) <;> first | rfl | (exfalso; omega)), hk1⟩
          · refine E.skip ?_
            refine N.then ?_
            refine E.seq ?_
            refine E.seq ?_
            refine E.region ?_
            refine X.mv rfl rfl rfl rfl rfl ?_
            refine X.eql rfl rfl rfl rfl rfl rfl ?_
            refine X.done [(49, _)] ⟨rfl, trivial⟩ ?_
            refine N.then ?_
            refine E.condD rfl (fun hc => ?_) (fun hc => ?_)
            · refine E.seq ?_
              refine E.region ?_
              refine X.asg rfl rfl rfl rfl rfl ?_
              refine X.done [(4, _)] ⟨rfl, trivial⟩ ?_
              refine N.then ?_
              refine E.ret ?_
              refine N.thenR ?_
              exact N.retH [_] ⟨_, _, rfl, rfl, rfl⟩ ⟨(by rw [fitV_t]; show i64 _ = i64 _; congr 1; (repeat' split) <;> first | rfl | (exfalso; omega)), hk1⟩
            · refine E.skip ?_
              refine N.then ?_
              refine E.seq ?_
              refine E.region ?_
              refine X.asg rfl rfl rfl rfl rfl ?_
              refine X.done [(4, _)] ⟨rfl, trivial⟩ ?_
              refine N.then ?_
              refine E.ret ?_
              exact N.retH [_] ⟨_, _, rfl, rfl, rfl⟩ ⟨(by rw [fitV_t]; show i64 _ = i64 _; congr 1; (repeat' split) <;> first | rfl | (exfalso; omega)), hk1⟩
        · refine X.mv rfl rfl rfl rfl rfl ?_
          refine X.skip rfl rfl rfl ?_
          refine X.skip rfl rfl rfl ?_
          refine X.pickF rfl rfl rfl rfl rfl rfl ?_
          refine X.pickF rfl rfl rfl rfl rfl rfl ?_
          refine X.pickT rfl rfl rfl rfl rfl rfl ?_
          refine X.done [(8, _), (47, _)] ⟨rfl, rfl, trivial⟩ ?_
          refine N.then ?_
          refine E.condF rfl ?_
          refine E.skip ?_
          refine N.then ?_
          refine E.seq ?_
          refine E.seq ?_
          refine E.region ?_
          refine X.mv rfl rfl rfl rfl rfl ?_
          refine X.eql rfl rfl rfl rfl rfl rfl ?_
          refine X.done [(49, _)] ⟨rfl, trivial⟩ ?_
          refine N.then ?_
          refine E.condD rfl (fun hc => ?_) (fun hc => ?_)
          · refine E.seq ?_
            refine E.region ?_
            refine X.asg rfl rfl rfl rfl rfl ?_
            refine X.done [(4, _)] ⟨rfl, trivial⟩ ?_
            refine N.then ?_
            refine E.ret ?_
            refine N.thenR ?_
            exact N.retH [_] ⟨_, _, rfl, rfl, rfl⟩ ⟨(by rw [fitV_t]; show i64 _ = i64 _; congr 1; (repeat' split) <;> first | rfl | (exfalso; omega)), hk1⟩
          · refine E.skip ?_
            refine N.then ?_
            refine E.seq ?_
            refine E.region ?_
            refine X.asg rfl rfl rfl rfl rfl ?_
            refine X.done [(4, _)] ⟨rfl, trivial⟩ ?_
            refine N.then ?_
            refine E.ret ?_
            exact N.retH [_] ⟨_, _, rfl, rfl, rfl⟩ ⟨(by rw [fitV_t]; show i64 _ = i64 _; congr 1; (repeat' split) <;> first | rfl | (exfalso; omega)), hk1⟩


theorem rfits_f (ns : Ns) (a : Option Addr) (b o c : Nat) (H : Heap) (A : Row1 H a b o (nv ns)) (ho : Ok ns) (hl : ns.length ≤ 320) (hK : K ns 15 ≤ 32768) : Ct Try.prog 23 #[.slice a ns.length c, .bool false] H fun v H' => v = i64 (fitV ns false) ∧ Kp [] H H' := by
  have hkk := kr_eq ns ho
  refine Ct.into 50 Try.func23 rfl [(0, .slice a ns.length c), (1, .bool false)] rfl ⟨rfl, rfl, trivial⟩ ?_
  refine E.seq ?_
  refine E.region ?_
  refine X.asg rfl rfl rfl rfl rfl ?_
  refine X.done [(0, _), (1, _), (4, _)] ⟨rfl, rfl, rfl, trivial⟩ ?_
  refine N.then ?_
  refine E.seq ?_
  refine E.region ?_
  refine X.mv rfl rfl rfl rfl rfl ?_
  refine X.call rfl rfl rfl rfl rfl Try.cl31 (rcodes_ok ns a b o c H A ho hl hK) ?_
  rintro _ H1 ⟨bc, rfl, hfc, hbc, hk1⟩
  refine X.mv rfl rfl rfl rfl rfl ?_
  refine X.extract rfl rfl rfl rfl rfl rfl ?_
  refine X.extract rfl rfl rfl rfl rfl rfl ?_
  refine X.asg rfl rfl rfl rfl rfl ?_
  refine X.asg rfl rfl rfl rfl rfl ?_
  refine X.done [(0, _), (1, _), (4, _), (6, _)] ⟨rfl, rfl, rfl, rfl, trivial⟩ ?_
  refine N.then ?_
  refine E.seq ?_
  refine E.seq ?_
  refine E.region ?_
  refine X.mv rfl rfl rfl rfl rfl ?_
  refine X.neqF rfl rfl rfl rfl rfl rfl (fun h => h rfl) ?_
  refine X.done [(0, _), (1, _), (4, _), (6, _), (16, _)] ⟨rfl, rfl, rfl, rfl, rfl, trivial⟩ ?_
  refine N.then ?_
  refine E.condF rfl ?_
  refine E.skip ?_
  refine N.then ?_
  refine E.seq ?_
  refine E.region ?_
  refine X.mv rfl rfl rfl rfl rfl ?_
  refine X.call rfl rfl rfl rfl rfl Try.cl22 (rkraft_ok ns a b o c H1 (A.keepN hk1) ho hl) ?_
  rintro _ H2 ⟨rfl, eH2⟩
  obtain rfl := eH2.symm
  rw [hkk]
  refine X.asg rfl rfl rfl rfl rfl ?_
  refine X.done [(0, _), (1, _), (4, _), (7, _)] ⟨rfl, rfl, rfl, rfl, trivial⟩ ?_
  refine N.then ?_
  refine E.seq ?_
  refine E.seq ?_
  refine E.region ?_
  refine X.mv rfl rfl rfl rfl rfl ?_
  refine X.eql rfl rfl rfl rfl rfl rfl ?_
  refine X.done [(0, _), (1, _), (4, _), (7, _), (21, _)] ⟨rfl, rfl, rfl, rfl, rfl, trivial⟩ ?_
  refine N.then ?_
  refine E.condD rfl (fun hc => ?_) (fun hc => ?_)
  · refine E.seq ?_
    refine E.region ?_
    refine X.asg rfl rfl rfl rfl rfl ?_
    refine X.done [(0, _), (1, _), (4, _), (7, _)] ⟨rfl, rfl, rfl, rfl, trivial⟩ ?_
    refine N.then ?_
    refine E.ret ?_
    refine N.thenR ?_
    exact N.retH [_] ⟨_, _, rfl, rfl, rfl⟩ ⟨(by rw [fitV_f]; show i64 _ = i64 _; congr 1; (repeat' split) <;> first | rfl | (exfalso; omega)), hk1⟩
  · refine E.skip ?_
    refine N.then ?_
    refine E.seq ?_
    refine E.region ?_
    refine X.asg rfl rfl rfl rfl rfl ?_
    refine X.done [(0, _), (1, _), (4, _), (7, _), (8, _)] ⟨rfl, rfl, rfl, rfl, rfl, trivial⟩ ?_
    refine N.then ?_
    refine E.seq ?_
    refine E.seq ?_
    refine E.region ?_
    refine X.asg rfl rfl rfl rfl rfl ?_
    refine X.done [(0, _), (1, _), (4, _), (7, _), (8, _), (9, _)] ⟨rfl, rfl, rfl, rfl, rfl, rfl, trivial⟩ ?_
    refine N.then ?_
    refine E.block ?_
    -- MISSING in G: [4]
    refine E.loop (fun (i : Nat) => [(0, .slice a ns.length c), (1, .bool false), (7, i64 (K ns 15)), (8, i64 (some0 (ns.take i))), (9, i64 i)]) (fun (i : Nat) H' => i ≤ ns.length ∧ H' = H1) (fun (i : Nat) => ns.length - i) 0 ⟨rfl, rfl, rfl, rfl, rfl, trivial⟩ ⟨Nat.zero_le _, rfl⟩ ?_
    rintro i H3 ⟨hi, eH3⟩
    obtain rfl := eH3.symm
    have hsl := some_le (ns.take i)
    rw [List.length_take] at hsl
    refine E.seq ?_
    refine E.seq ?_
    refine E.region ?_
    refine X.mv rfl rfl rfl rfl rfl ?_
    refine X.mv rfl rfl rfl rfl rfl ?_
    refine X.lenS rfl rfl rfl rfl rfl Try.underlying22 ?_
    refine X.lss rfl rfl rfl rfl rfl rfl ?_
    refine X.done [(0, _), (1, _), (7, _), (8, _), (9, _), (22, _), (23, _), (24, _), (25, _)] ⟨rfl, rfl, rfl, rfl, rfl, rfl, rfl, rfl, rfl, trivial⟩ ?_
    refine N.then ?_
    refine E.condD rfl (fun hc => ?_) (fun hc => ?_)
    · refine E.skip ?_
      refine N.then ?_
      refine E.seq ?_
      refine E.block ?_
      refine E.seq ?_
      obtain ⟨x, hx⟩ : ∃ x, ns[i]? = some x := ⟨_, List.getElem?_eq_getElem (by omega)⟩
      have hx15 := ho x (List.mem_of_getElem? hx)
      obtain ⟨ha, cs, ct, fz, hbb, hel⟩ := (A.keepN hk1).get i _ (nv_get hx)
      refine E.region ?_
      refine X.mv rfl rfl rfl rfl rfl ?_
      refine X.mv rfl rfl rfl rfl rfl ?_
      refine X.ixAe rfl rfl rfl rfl rfl rfl Try.underlying22 Try.sz3 (ha) (by omega) ?_
      refine X.ld rfl rfl rfl rfl Try.ag3 (hbb) (by rw [Nat.mul_one]; exact hel) ?_
      refine X.gtr rfl rfl rfl rfl rfl rfl ?_
      refine X.done [(0, _), (1, _), (7, _), (8, _), (9, _), (22, _), (23, _), (24, _), (25, _), (28, _), (29, _), (30, _), (31, _), (32, _)] ⟨rfl, rfl, rfl, rfl, rfl, rfl, rfl, rfl, rfl, rfl, rfl, rfl, rfl, rfl, trivial⟩ ?_
      refine N.then ?_
      refine E.condD rfl (fun hc => ?_) (fun hc => ?_)
      · refine E.region ?_
        refine X.mv rfl rfl rfl rfl rfl ?_
        refine X.addE (zz := ((some0 (ns.take i) + 1 : Nat) : Int)) rfl rfl rfl rfl rfl rfl (by rw [IntWalk.i64_in _ (by omega)]; omega) ?_
        refine X.asg rfl rfl rfl rfl rfl ?_
        refine X.done [(0, _), (1, _), (7, _), (8, _), (9, _), (22, _), (23, _), (24, _), (25, _), (28, _), (29, _), (30, _), (31, _), (32, _), (33, _), (34, _)] ⟨rfl, rfl, rfl, rfl, rfl, rfl, rfl, rfl, rfl, rfl, rfl, rfl, rfl, rfl, rfl, rfl, trivial⟩ ?_
        refine N.blk ?_
        refine N.then ?_
        refine E.region ?_
        refine X.mv rfl rfl rfl rfl rfl ?_
        refine X.add rfl rfl rfl rfl rfl rfl (by omega) ?_
        refine X.asg rfl rfl rfl rfl rfl ?_
        refine X.done [(0, _), (1, _), (7, _), (8, _), (9, _), (22, _), (23, _), (24, _), (25, _), (28, _), (29, _), (30, _), (31, _), (32, _), (33, _), (34, _), (26, _), (27, _)] ⟨rfl, rfl, rfl, rfl, rfl, rfl, rfl, rfl, rfl, rfl, rfl, rfl, rfl, rfl, rfl, rfl, rfl, rfl, trivial⟩ ?_
        first
          | exact N.next (G := fun (i : Nat) => _) (i + 1) ⟨rfl, rfl, rfl, by rw [some_snoc hx, if_neg (by omega)]; rfl, rfl, trivial⟩ ⟨by omega, rfl⟩ (by show _ - (i + 1) < _ - i; omega)
          | exact N.next (G := fun (i : Nat) => _) (i + 1) ⟨rfl, rfl, rfl, by rw [some_snoc hx, if_pos (by omega)]; rfl, rfl, trivial⟩ ⟨by omega, rfl⟩ (by show _ - (i + 1) < _ - i; omega)
      · refine E.skip ?_
        refine N.blk ?_
        refine N.then ?_
        refine E.region ?_
        refine X.mv rfl rfl rfl rfl rfl ?_
        refine X.add rfl rfl rfl rfl rfl rfl (by omega) ?_
        refine X.asg rfl rfl rfl rfl rfl ?_
        refine X.done [(0, _), (1, _), (7, _), (8, _), (9, _), (22, _), (23, _), (24, _), (25, _), (28, _), (29, _), (30, _), (31, _), (32, _), (26, _), (27, _)] ⟨rfl, rfl, rfl, rfl, rfl, rfl, rfl, rfl, rfl, rfl, rfl, rfl, rfl, rfl, rfl, rfl, trivial⟩ ?_
        first
          | exact N.next (G := fun (i : Nat) => _) (i + 1) ⟨rfl, rfl, rfl, by rw [some_snoc hx, if_neg (by omega)]; rfl, rfl, trivial⟩ ⟨by omega, rfl⟩ (by show _ - (i + 1) < _ - i; omega)
          | exact N.next (G := fun (i : Nat) => _) (i + 1) ⟨rfl, rfl, rfl, by rw [some_snoc hx, if_pos (by omega)]; rfl, rfl, trivial⟩ ⟨by omega, rfl⟩ (by show _ - (i + 1) < _ - i; omega)
    · refine E.exit ?_
      refine N.thenX ?_
      refine N.loopX ?_
      refine N.blkX ?_
      refine N.then ?_
      refine E.seq ?_
      refine E.seq ?_
      obtain rfl : i = ns.length := by omega
      have hsu : some0 (ns.take ns.length) = used ns := by rw [List.take_length, some_is]
      have hou : used ns = 1 → (ns.count 1 = 1 ↔ K ns 15 = 16384) := fun h => one_used ns ho h
      refine E.region ?_
      refine X.mv rfl rfl rfl rfl rfl ?_
      refine X.mv rfl rfl rfl rfl rfl ?_
      refine X.skip rfl rfl rfl ?_
      refine X.skip rfl rfl rfl ?_
      refine X.skip rfl rfl rfl ?_
      refine X.skip rfl rfl rfl ?_
      refine X.skip rfl rfl rfl ?_
      refine X.skip rfl rfl rfl ?_
      refine X.skip rfl rfl rfl ?_
      refine X.skip rfl rfl rfl ?_
      refine X.skip rfl rfl rfl ?_
      refine X.skip rfl rfl rfl ?_
      refine X.pickF rfl rfl rfl rfl rfl rfl ?_
      refine X.done [(8, _), (47, _)] ⟨rfl, rfl, trivial⟩ ?_
      refine N.then ?_
      refine E.condF rfl ?_
      refine E.skip ?_
      refine N.then ?_
      refine E.seq ?_
      refine E.seq ?_
      refine E.region ?_
      refine X.mv rfl rfl rfl rfl rfl ?_
      refine X.eql rfl rfl rfl rfl rfl rfl ?_
      refine X.done [(49, _)] ⟨rfl, trivial⟩ ?_
      refine N.then ?_
      refine E.condD rfl (fun hc => ?_) (fun hc => ?_)
      · refine E.seq ?_
        refine E.region ?_
        refine X.asg rfl rfl rfl rfl rfl ?_
        refine X.done [(4, _)] ⟨rfl, trivial⟩ ?_
        refine N.then ?_
        refine E.ret ?_
        refine N.thenR ?_
        exact N.retH [_] ⟨_, _, rfl, rfl, rfl⟩ ⟨(by rw [fitV_f]; show i64 _ = i64 _; congr 1; (repeat' split) <;> first | rfl | (exfalso; omega)), hk1⟩
      · refine E.skip ?_
        refine N.then ?_
        refine E.seq ?_
        refine E.region ?_
        refine X.asg rfl rfl rfl rfl rfl ?_
        refine X.done [(4, _)] ⟨rfl, trivial⟩ ?_
        refine N.then ?_
        refine E.ret ?_
        exact N.retH [_] ⟨_, _, rfl, rfl, rfl⟩ ⟨(by rw [fitV_f]; show i64 _ = i64 _; congr 1; (repeat' split) <;> first | rfl | (exfalso; omega)), hk1⟩


theorem rfits_ok (ns : Ns) (a : Option Addr) (b o c : Nat) (H : Heap) (A : Row1 H a b o (nv ns)) (ho : Ok ns) (hl : ns.length ≤ 320) (hK : K ns 15 ≤ 32768) (lone : Bool) : Ct Try.prog 23 #[.slice a ns.length c, .bool lone] H fun v H' => v = i64 (fitV ns lone) ∧ Kp [] H H' := by
  cases lone
  · exact rfits_f ns a b o c H A ho hl hK
  · exact rfits_t ns a b o c H A ho hl hK


end Go.Proofs.Ytjlelcfabfmiaaa.Ln