/- The walks of the lengths' functions, second part. -/
import Derived.Test.YtjlelcfabfmiaaaLW1
namespace Go.Proofs.Ytjlelcfabfmiaaa.Ln
open Go.SX Go.Lens
attribute [local irreducible] X E N Ct
set_option linter.unusedVariables false
set_option linter.unusedSimpArgs false

/-- A row whose place j holds f j. -/
def rg (n : Nat) (f : Nat → Nat) : List Value := nv ((List.range n).map f)
theorem rg_len (n : Nat) (f : Nat → Nat) : (rg n f).length = n := by simp [rg]
theorem rg_get {n : Nat} (f : Nat → Nat) {j : Nat} (h : j < n) : (rg n f)[j]? = some (i64 (f j)) := by simp [rg, h]
theorem rg_congr {n : Nat} {f g : Nat → Nat} (h : ∀ j, j < n → f j = g j) : rg n f = rg n g := by
  unfold rg; congr 1
  exact List.map_congr_left (fun j hj => h j (List.mem_range.1 hj))
theorem rg_set {n : Nat} {f g : Nat → Nat} {i : Nat} {v : Int} (hi : i < n) (hv : v = (g i : Nat)) (h : ∀ j, j < n → j ≠ i → f j = g j) : (rg n f).set i (i64 v) = rg n g := by
  apply List.ext_getElem?
  intro j
  by_cases hj : j < n
  · rw [List.getElem?_set, rg_get f hj, rg_get g hj, rg_len]
    by_cases hij : i = j
    · subst hij; rw [if_pos rfl, if_pos hi, hv]
    · rw [if_neg hij, h j hj (fun e => hij e.symm)]
  · rw [List.getElem?_eq_none (by rw [List.length_set, rg_len]; omega), List.getElem?_eq_none (by rw [rg_len]; omega)]
theorem rg_zero (n : Nat) : List.replicate n (i64 0) = rg n (fun _ => 0) := by
  unfold rg; apply List.ext_getElem? ; intro j
  by_cases hj : j < n <;> simp [hj]
theorem rg_one (n : Nat) (f : Nat → Nat) : ∀ v ∈ rg n f, v.oneCell' = true := nv_one _
theorem cn_rg (ns : Ns) : nv (cn ns) = rg 16 (fun j => ns.count j) := rfl

theorem wrong_all {ls : List Int} (h : ls.length ≤ 320) (hf : ∀ j x, j < ls.length → ls[j]? = some x → 0 ≤ x ∧ x ≤ 15) : wrongV ls = 0 := by
  unfold wrongV; rw [if_neg (by omega), if_pos]
  apply List.all_eq_true.2
  intro x hx
  obtain ⟨j, hj, rfl⟩ := List.getElem_of_mem hx
  have := hf j _ hj (List.getElem?_eq_getElem hj)
  simp; omega
theorem kr_snoc {ns : Ns} {i x : Nat} (h : ns[i]? = some x) : kr (ns.take (i + 1)) = kr (ns.take i) + w x := by
  rw [take_snoc h]; simp [kr]
theorem w_le (x : Nat) : w x ≤ 16384 := by
  unfold w; split
  · omega
  · have h : (2 : Nat) ^ (15 - x) ≤ 2 ^ 14 := Nat.pow_le_pow_right (by omega) (by omega)
    exact h
theorem kr_le : ∀ ns : Ns, kr ns ≤ ns.length * 16384
  | [] => by simp [kr]
  | x :: xs => by
    have := kr_le xs
    have := w_le x
    simp only [kr, List.map_cons, List.sum_cons, List.length_cons, Nat.succ_mul] at *; omega
theorem getD_of {ns : Ns} {i x : Nat} (h : ns[i]? = some x) : ns.getD i 0 = x := by simp [List.getD, h]
theorem counts_ok (ns : Ns) (a : Option Addr) (b o c : Nat) (H : Heap) (A : Row1 H a b o (nv ns)) (ho : Ok ns) (hl : ns.length ≤ 320) :
    Ct Try.prog 26 #[.slice a ns.length c] H fun v H' => v = .tuple #[.agg (nv (cn ns)).toArray, i64 0] ∧ Kp [] H H' := by
  have h := counts_ct (ns.map fun (x : Nat) => (x : Int)) a b o c H (by rw [nv_iv]; exact A)
  rw [List.length_map] at h
  refine h.mono ?_
  rintro v H' ⟨cs, _, rfl, hm, hk⟩
  obtain ⟨ms, e, rfl⟩ := hm (wrong_ok hl ho)
  obtain rfl := cast_inj e
  rw [wrong_ok hl ho]
  exact ⟨rfl, hk⟩
/-- The code of each place. -/
def fin (ns : Ns) (j : Nat) : Nat := code ns j (ns.getD j 0)
def nx (ns : Ns) (i : Nat) (j : Nat) : Nat := if j ≤ i then st ns j else 0
def nw (ns : Ns) (i : Nat) (j : Nat) : Nat := if j = 0 then 0 else st ns j + (ns.take i).count j
def cd (ns : Ns) (i : Nat) (j : Nat) : Nat := if j < i then fin ns j else 0
theorem st_succ (ns : Ns) {i : Nat} (h : 1 ≤ i) : st ns (i + 1) = (st ns i + ns.count i) * 2 := by
  obtain ⟨k, rfl⟩ : ∃ k, i = k + 1 := ⟨i - 1, by omega⟩
  rw [st, Nat.mul_comm]
theorem nw_step {ns : Ns} {i x : Nat} (h : ns[i]? = some x) (j : Nat) (hj : j ≠ x) : nw ns i j = nw ns (i + 1) j := by
  unfold nw; rw [count_step h, if_neg (show ¬ x = j from fun e => hj e.symm)]; simp
theorem nw_zero {ns : Ns} {i : Nat} (h : ns[i]? = some 0) (j : Nat) : nw ns i j = nw ns (i + 1) j := by
  by_cases hj : j = 0
  · subst hj; rfl
  · exact nw_step h j hj
theorem nw_at {ns : Ns} {i x : Nat} (h : ns[i]? = some x) (hx : 1 ≤ x) : nw ns (i + 1) x = nw ns i x + 1 := by
  unfold nw; rw [if_neg (show ¬ x = 0 by omega), if_neg (show ¬ x = 0 by omega), count_step h, if_pos rfl]; omega
theorem nw_code {ns : Ns} {i x : Nat} (h : ns[i]? = some x) (hx : 1 ≤ x) : nw ns i x = fin ns i := by
  unfold nw fin code; rw [getD_of h]
theorem cd_step {ns : Ns} {i : Nat} (j : Nat) (hj : j ≠ i) : cd ns i j = cd ns (i + 1) j := by
  unfold cd; by_cases h : j < i
  · rw [if_pos h, if_pos (by omega)]
  · rw [if_neg h, if_neg (by omega)]
theorem cd_zero {ns : Ns} {i : Nat} (h : ns[i]? = some 0) (j : Nat) : cd ns i j = cd ns (i + 1) j := by
  by_cases hj : j = i
  · subst hj; unfold cd fin code; rw [getD_of h]; simp
  · exact cd_step j hj
/-- The document's: what is written before bits b, and of b before place i. -/
def rc (ns : Ns) (b i : Nat) (j : Nat) : Nat := if 1 ≤ ns.getD j 0 ∧ (ns.getD j 0 < b ∨ ns.getD j 0 = b ∧ j < i) then fin ns j else 0
theorem rc_no {ns : Ns} {b i x : Nat} (h : ns[i]? = some x) (hx : x ≠ b) (j : Nat) : rc ns b i j = rc ns b (i + 1) j := by
  unfold rc
  by_cases hj : j = i
  · subst hj; rw [getD_of h]; congr 1; simp [hx]
  · have : (ns.getD j 0 < b ∨ ns.getD j 0 = b ∧ j < i) ↔ (ns.getD j 0 < b ∨ ns.getD j 0 = b ∧ j < i + 1) := by omega
    simp only [this]
theorem rc_step {ns : Ns} {b i : Nat} (j : Nat) (hj : j ≠ i) : rc ns b i j = rc ns b (i + 1) j := by
  unfold rc
  have : (ns.getD j 0 < b ∨ ns.getD j 0 = b ∧ j < i) ↔ (ns.getD j 0 < b ∨ ns.getD j 0 = b ∧ j < i + 1) := by omega
  simp only [this]
theorem rc_at {ns : Ns} {b i : Nat} (h : ns[i]? = some b) (hb : 1 ≤ b) : rc ns b (i + 1) i = st ns b + (ns.take i).count b := by
  unfold rc fin code; rw [getD_of h, if_pos ⟨hb, .inr ⟨rfl, by omega⟩⟩, if_neg (by omega)]
theorem rc_next {ns : Ns} {b : Nat} (j : Nat) (hj : j < ns.length) : rc ns b ns.length j = rc ns (b + 1) 0 j := by
  unfold rc
  have : (ns.getD j 0 < b ∨ ns.getD j 0 = b ∧ j < ns.length) ↔ (ns.getD j 0 < b + 1 ∨ ns.getD j 0 = b + 1 ∧ j < 0) := by omega
  simp only [this]
theorem rc_first (ns : Ns) (j : Nat) : rc ns 1 0 j = 0 := by unfold rc; rw [if_neg (by omega)]
theorem rc_last {ns : Ns} (ho : Ok ns) (j : Nat) (hj : j < ns.length) : rc ns 16 0 j = fin ns j := by
  unfold rc
  have e : ns.getD j 0 = ns[j] := getD_of (List.getElem?_eq_getElem hj)
  have h := ho _ (List.getElem_mem hj)
  by_cases h0 : ns.getD j 0 = 0
  · rw [if_neg (by omega)]; unfold fin code; rw [h0]; rfl
  · rw [if_pos (by omega)]

theorem wrong_ct (ls : List Int) (a : Option Addr) (b o c : Nat) (H : Heap) (A : Row1 H a b o (iv ls)) : Ct Try.prog 30 #[.slice a ls.length c] H fun v H' => v = i64 (wrongV ls) ∧ H' = H := by
  refine Ct.into 25 Try.func30 rfl [(0, .slice a ls.length c)] rfl ⟨rfl, trivial⟩ ?_
  refine E.seq ?_
  refine E.region ?_
  refine X.asg rfl rfl rfl rfl rfl ?_
  refine X.done [(0, _), (2, _)] ⟨rfl, rfl, trivial⟩ ?_
  refine N.then ?_
  refine E.seq ?_
  refine E.seq ?_
  refine E.region ?_
  refine X.mv rfl rfl rfl rfl rfl ?_
  refine X.lenS rfl rfl rfl rfl rfl Try.underlying22 ?_
  refine X.gtr rfl rfl rfl rfl rfl rfl ?_
  refine X.done [(0, _), (2, _), (6, _)] ⟨rfl, rfl, rfl, trivial⟩ ?_
  refine N.then ?_
  refine E.condD rfl (fun hc => ?_) (fun hc => ?_)
  · refine E.seq ?_
    refine E.region ?_
    refine X.asg rfl rfl rfl rfl rfl ?_
    refine X.done [(0, _), (2, _)] ⟨rfl, rfl, trivial⟩ ?_
    refine N.then ?_
    refine E.ret ?_
    refine N.thenR ?_
    exact N.retH [_] ⟨_, _, rfl, rfl, rfl⟩ ⟨by rw [wrong_long (by omega)]; rfl, rfl⟩
  · refine E.skip ?_
    refine N.then ?_
    refine E.seq ?_
    refine E.seq ?_
    refine E.region ?_
    refine X.asg rfl rfl rfl rfl rfl ?_
    refine X.done [(0, _), (2, _), (3, _)] ⟨rfl, rfl, rfl, trivial⟩ ?_
    refine N.then ?_
    refine E.block ?_
    -- MISSING in G: [2]
    refine E.loop (fun (i : Nat) => [(0, .slice a ls.length c), (3, i64 i)]) (fun (i : Nat) H' => i ≤ ls.length ∧ (∀ j x, j < i → ls[j]? = some x → 0 ≤ x ∧ x ≤ 15) ∧ H' = H) (fun (i : Nat) => ls.length - i) 0 ⟨rfl, rfl, trivial⟩ ⟨Nat.zero_le _, fun j x h => by omega, rfl⟩ ?_
    rintro i H1 ⟨hi, hall, eH1⟩
    obtain rfl := eH1.symm
    refine E.seq ?_
    refine E.seq ?_
    refine E.region ?_
    refine X.mv rfl rfl rfl rfl rfl ?_
    refine X.mv rfl rfl rfl rfl rfl ?_
    refine X.lenS rfl rfl rfl rfl rfl Try.underlying22 ?_
    refine X.lss rfl rfl rfl rfl rfl rfl ?_
    refine X.done [(0, _), (3, _), (7, _), (8, _), (9, _), (10, _)] ⟨rfl, rfl, rfl, rfl, rfl, rfl, trivial⟩ ?_
    refine N.then ?_
    refine E.condD rfl (fun hc => ?_) (fun hc => ?_)
    · refine E.skip ?_
      refine N.then ?_
      refine E.seq ?_
      refine E.block ?_
      refine E.seq ?_
      obtain ⟨x, hx⟩ : ∃ x, ls[i]? = some x := ⟨_, List.getElem?_eq_getElem (by omega)⟩
      obtain ⟨ha, cs, ct, fz, hbb, hel⟩ := A.get i _ (iv_get hx)
      refine E.region ?_
      refine X.mv rfl rfl rfl rfl rfl ?_
      refine X.mv rfl rfl rfl rfl rfl ?_
      refine X.ixAe rfl rfl rfl rfl rfl rfl Try.underlying22 Try.sz3 (ha) (by omega) ?_
      refine X.ld rfl rfl rfl rfl Try.ag3 (hbb) (by rw [Nat.mul_one]; exact hel) ?_
      refine X.lssC rfl rfl rfl rfl rfl rfl (fun hc => ?_) (fun hc => ?_)
      · refine X.mv rfl rfl rfl rfl rfl ?_
        refine X.skip rfl rfl rfl ?_
        refine X.skip rfl rfl rfl ?_
        refine X.skip rfl rfl rfl ?_
        refine X.skip rfl rfl rfl ?_
        refine X.skip rfl rfl rfl ?_
        refine X.pickT rfl rfl rfl rfl rfl rfl ?_
        refine X.done [(0, _), (3, _), (7, _), (8, _), (9, _), (10, _), (13, _), (14, _), (15, _), (16, _), (17, _), (18, _), (19, _), (20, _), (21, _), (22, _), (23, _), (24, _)] ⟨rfl, rfl, rfl, rfl, rfl, rfl, rfl, rfl, rfl, rfl, rfl, rfl, rfl, rfl, rfl, rfl, rfl, rfl, trivial⟩ ?_
        refine N.then ?_
        refine E.condT rfl ?_
        refine E.seq ?_
        refine E.region ?_
        refine X.asg rfl rfl rfl rfl rfl ?_
        refine X.done [(0, _), (3, _), (7, _), (8, _), (9, _), (10, _), (13, _), (14, _), (15, _), (16, _), (17, _), (18, _), (19, _), (20, _), (21, _), (22, _), (23, _), (24, _), (2, _)] ⟨rfl, rfl, rfl, rfl, rfl, rfl, rfl, rfl, rfl, rfl, rfl, rfl, rfl, rfl, rfl, rfl, rfl, rfl, rfl, trivial⟩ ?_
        refine N.then ?_
        refine E.ret ?_
        refine N.blkR ?_
        refine N.thenR ?_
        refine N.loopR ?_
        refine N.blkR ?_
        refine N.thenR ?_
        exact N.retH [_] ⟨_, _, rfl, rfl, rfl⟩ ⟨by rw [wrong_bad (by omega) hx (by omega)]; rfl, rfl⟩
      · refine X.mv rfl rfl rfl rfl rfl ?_
        refine X.mv rfl rfl rfl rfl rfl ?_
        refine X.mv rfl rfl rfl rfl rfl ?_
        refine X.ixAe rfl rfl rfl rfl rfl rfl Try.underlying22 Try.sz3 (ha) (by omega) ?_
        refine X.ld rfl rfl rfl rfl Try.ag3 (hbb) (by rw [Nat.mul_one]; exact hel) ?_
        refine X.gtr rfl rfl rfl rfl rfl rfl ?_
        refine X.pickF rfl rfl rfl rfl rfl rfl ?_
        refine X.done [(0, _), (3, _), (7, _), (8, _), (9, _), (10, _), (13, _), (14, _), (15, _), (16, _), (17, _), (18, _), (19, _), (20, _), (21, _), (22, _), (23, _), (24, _)] ⟨rfl, rfl, rfl, rfl, rfl, rfl, rfl, rfl, rfl, rfl, rfl, rfl, rfl, rfl, rfl, rfl, rfl, rfl, trivial⟩ ?_
        refine N.then ?_
        refine E.condD rfl (fun hc => ?_) (fun hc => ?_)
        · refine E.seq ?_
          refine E.region ?_
          refine X.asg rfl rfl rfl rfl rfl ?_
          refine X.done [(0, _), (3, _), (7, _), (8, _), (9, _), (10, _), (13, _), (14, _), (15, _), (16, _), (17, _), (18, _), (19, _), (20, _), (21, _), (22, _), (23, _), (24, _), (2, _)] ⟨rfl, rfl, rfl, rfl, rfl, rfl, rfl, rfl, rfl, rfl, rfl, rfl, rfl, rfl, rfl, rfl, rfl, rfl, rfl, trivial⟩ ?_
          refine N.then ?_
          refine E.ret ?_
          refine N.blkR ?_
          refine N.thenR ?_
          refine N.loopR ?_
          refine N.blkR ?_
          refine N.thenR ?_
          exact N.retH [_] ⟨_, _, rfl, rfl, rfl⟩ ⟨by rw [wrong_bad (by omega) hx (by omega)]; rfl, rfl⟩
        · refine E.skip ?_
          refine N.blk ?_
          refine N.then ?_
          refine E.region ?_
          refine X.mv rfl rfl rfl rfl rfl ?_
          refine X.add rfl rfl rfl rfl rfl rfl (by omega) ?_
          refine X.asg rfl rfl rfl rfl rfl ?_
          refine X.done [(0, _), (3, _), (7, _), (8, _), (9, _), (10, _), (13, _), (14, _), (15, _), (16, _), (17, _), (18, _), (19, _), (20, _), (21, _), (22, _), (23, _), (24, _), (11, _), (12, _)] ⟨rfl, rfl, rfl, rfl, rfl, rfl, rfl, rfl, rfl, rfl, rfl, rfl, rfl, rfl, rfl, rfl, rfl, rfl, rfl, rfl, trivial⟩ ?_
          exact N.next (G := fun (i : Nat) => _) (i + 1) ⟨rfl, rfl, trivial⟩ ⟨by omega, fun j y hj hy => by
              by_cases hji : j = i
              · subst hji; rw [hx] at hy; cases hy; omega
              · exact hall j y (by omega) hy, rfl⟩ (by show _ - (i + 1) < _ - i; omega)
    · refine E.exit ?_
      refine N.thenX ?_
      refine N.loopX ?_
      refine N.blkX ?_
      refine N.then ?_
      refine E.seq ?_
      refine E.region ?_
      refine X.asg rfl rfl rfl rfl rfl ?_
      refine X.done [(2, _)] ⟨rfl, trivial⟩ ?_
      refine N.then ?_
      refine E.ret ?_
      exact N.retH [_] ⟨_, _, rfl, rfl, rfl⟩ ⟨by rw [wrong_all (by omega) (fun j x hj => hall j x (by omega))]; rfl, rfl⟩


theorem rkraft_bad (ls : List Int) (a : Option Addr) (b o c : Nat) (H : Heap) (A : Row1 H a b o (iv ls)) (hw : wrongV ls ≠ 0) : Ct Try.prog 22 #[.slice a ls.length c] H fun v H' => v = i64 (-1) ∧ H' = H := by
  refine Ct.into 29 Try.func22 rfl [(0, .slice a ls.length c)] rfl ⟨rfl, trivial⟩ ?_
  refine E.seq ?_
  refine E.region ?_
  refine X.asg rfl rfl rfl rfl rfl ?_
  refine X.done [(0, _), (2, _)] ⟨rfl, rfl, trivial⟩ ?_
  refine N.then ?_
  refine E.seq ?_
  refine E.seq ?_
  refine E.region ?_
  refine X.mv rfl rfl rfl rfl rfl ?_
  refine X.call rfl rfl rfl rfl rfl Try.cl30 (wrong_ct ls a b o c H A) ?_
  rintro _ H1 ⟨rfl, eH1⟩
  obtain rfl := eH1.symm
  refine X.neqT rfl rfl rfl rfl rfl rfl (hw) ?_
  refine X.done [(0, _), (2, _), (7, _)] ⟨rfl, rfl, rfl, trivial⟩ ?_
  refine N.then ?_
  refine E.condT rfl ?_
  refine E.seq ?_
  refine E.region ?_
  refine X.asg rfl rfl rfl rfl rfl ?_
  refine X.done [(0, _), (2, _)] ⟨rfl, rfl, trivial⟩ ?_
  refine N.then ?_
  refine E.ret ?_
  refine N.thenR ?_
  exact N.retH [_] ⟨_, _, rfl, rfl, rfl⟩ ⟨rfl, rfl⟩

theorem rkraft_ok (ns : Ns) (a : Option Addr) (b o c : Nat) (H : Heap) (A : Row1 H a b o (nv ns)) (ho : Ok ns) (hl : ns.length ≤ 320) : Ct Try.prog 22 #[.slice a ns.length c] H fun v H' => v = i64 (kr ns) ∧ H' = H := by
  have cW : Ct Try.prog 30 #[.slice a ns.length c] H fun v H' => v = i64 0 ∧ H' = H := by
    have h := wrong_ct (ns.map fun (x : Nat) => (x : Int)) a b o c H (by rw [nv_iv]; exact A)
    rw [List.length_map, wrong_ok hl ho] at h; exact h
  refine Ct.into 29 Try.func22 rfl [(0, .slice a ns.length c)] rfl ⟨rfl, trivial⟩ ?_
  refine E.seq ?_
  refine E.region ?_
  refine X.asg rfl rfl rfl rfl rfl ?_
  refine X.done [(0, _), (2, _)] ⟨rfl, rfl, trivial⟩ ?_
  refine N.then ?_
  refine E.seq ?_
  refine E.seq ?_
  refine E.region ?_
  refine X.mv rfl rfl rfl rfl rfl ?_
  refine X.call rfl rfl rfl rfl rfl Try.cl30 (cW) ?_
  rintro _ H1 ⟨rfl, eH1⟩
  obtain rfl := eH1.symm
  refine X.neqF rfl rfl rfl rfl rfl rfl (fun h => h rfl) ?_
  refine X.done [(0, _), (2, _), (7, _)] ⟨rfl, rfl, rfl, trivial⟩ ?_
  refine N.then ?_
  refine E.condF rfl ?_
  refine E.skip ?_
  refine N.then ?_
  refine E.seq ?_
  refine E.region ?_
  refine X.asg rfl rfl rfl rfl rfl ?_
  refine X.done [(0, _), (2, _), (3, _)] ⟨rfl, rfl, rfl, trivial⟩ ?_
  refine N.then ?_
  refine E.seq ?_
  refine E.seq ?_
  refine E.region ?_
  refine X.asg rfl rfl rfl rfl rfl ?_
  refine X.done [(0, _), (2, _), (3, _), (4, _)] ⟨rfl, rfl, rfl, rfl, trivial⟩ ?_
  refine N.then ?_
  refine E.block ?_
  -- MISSING in G: [2]
  refine E.loop (fun (i : Nat) => [(0, .slice a ns.length c), (3, i64 (kr (ns.take i))), (4, i64 i)]) (fun (i : Nat) H' => i ≤ ns.length ∧ H' = H) (fun (i : Nat) => ns.length - i) 0 ⟨rfl, rfl, rfl, trivial⟩ ⟨Nat.zero_le _, rfl⟩ ?_
  rintro i H1 ⟨hi, eH1⟩
  obtain rfl := eH1.symm
  have hkr := kr_le (ns.take i)
  rw [List.length_take] at hkr
  refine E.seq ?_
  refine E.seq ?_
  refine E.region ?_
  refine X.mv rfl rfl rfl rfl rfl ?_
  refine X.mv rfl rfl rfl rfl rfl ?_
  refine X.lenS rfl rfl rfl rfl rfl Try.underlying22 ?_
  refine X.lss rfl rfl rfl rfl rfl rfl ?_
  refine X.done [(0, _), (3, _), (4, _), (8, _), (9, _), (10, _), (11, _)] ⟨rfl, rfl, rfl, rfl, rfl, rfl, rfl, trivial⟩ ?_
  refine N.then ?_
  refine E.condD rfl (fun hc => ?_) (fun hc => ?_)
  · refine E.skip ?_
    refine N.then ?_
    refine E.seq ?_
    refine E.block ?_
    refine E.seq ?_
    obtain ⟨x, hx⟩ : ∃ x, ns[i]? = some x := ⟨_, List.getElem?_eq_getElem (by omega)⟩
    have hx15 := ho x (List.mem_of_getElem? hx)
    obtain ⟨ha, cs, ct, fz, hbb, hel⟩ := (A).get i _ (nv_get hx)
    refine E.region ?_
    refine X.mv rfl rfl rfl rfl rfl ?_
    refine X.mv rfl rfl rfl rfl rfl ?_
    refine X.ixAe rfl rfl rfl rfl rfl rfl Try.underlying22 Try.sz3 (ha) (by omega) ?_
    refine X.ld rfl rfl rfl rfl Try.ag3 (hbb) (by rw [Nat.mul_one]; exact hel) ?_
    refine X.gtr rfl rfl rfl rfl rfl rfl ?_
    refine X.done [(0, _), (3, _), (4, _), (8, _), (9, _), (10, _), (11, _), (14, _), (15, _), (16, _), (17, _), (18, _)] ⟨rfl, rfl, rfl, rfl, rfl, rfl, rfl, rfl, rfl, rfl, rfl, rfl, trivial⟩ ?_
    refine N.then ?_
    refine E.condD rfl (fun hc => ?_) (fun hc => ?_)
    · have hwx : w x = 2 ^ (15 - x) := by unfold w; rw [if_neg (by omega)]
      have hwl := w_le x
      have eC : ((w x : Nat) : Int) = 1 * 2 ^ (15 - x) := by rw [hwx]; simp
      refine E.region ?_
      refine X.mv rfl rfl rfl rfl rfl ?_
      refine X.mv rfl rfl rfl rfl rfl ?_
      refine X.mv rfl rfl rfl rfl rfl ?_
      refine X.ixAe rfl rfl rfl rfl rfl rfl Try.underlying22 Try.sz3 (ha) (by omega) ?_
      refine X.ld rfl rfl rfl rfl Try.ag3 (hbb) (by rw [Nat.mul_one]; exact hel) ?_
      refine X.sbE (zz := ((15 - x : Nat) : Int)) rfl rfl rfl rfl rfl rfl (by rw [IntWalk.i64_in _ (by omega)]; omega) ?_
      refine X.convE (zz := ((15 - x : Nat) : Int)) rfl rfl rfl rfl rfl Try.underlying45 Try.us3 (IntWalk.u64_in _ (by omega)) ?_
      refine X.shlE (zz := (w x : Int)) rfl rfl rfl rfl rfl rfl (by omega) (by rw [eC]; exact shlN rfl (by omega) (by omega) (by omega)) ?_
      refine X.addE (zz := ((kr (ns.take i) + w x : Nat) : Int)) rfl rfl rfl rfl rfl rfl (by rw [IntWalk.i64_in _ (by omega)]; omega) ?_
      refine X.asg rfl rfl rfl rfl rfl ?_
      refine X.done [(0, _), (3, _), (4, _), (8, _), (9, _), (10, _), (11, _), (14, _), (15, _), (16, _), (17, _), (18, _), (19, _), (20, _), (21, _), (22, _), (23, _), (24, _), (25, _), (26, _), (27, _)] ⟨rfl, rfl, rfl, rfl, rfl, rfl, rfl, rfl, rfl, rfl, rfl, rfl, rfl, rfl, rfl, rfl, rfl, rfl, rfl, rfl, rfl, trivial⟩ ?_
      refine N.blk ?_
      refine N.then ?_
      refine E.region ?_
      refine X.mv rfl rfl rfl rfl rfl ?_
      refine X.add rfl rfl rfl rfl rfl rfl (by omega) ?_
      refine X.asg rfl rfl rfl rfl rfl ?_
      refine X.done [(0, _), (3, _), (4, _), (8, _), (9, _), (10, _), (11, _), (14, _), (15, _), (16, _), (17, _), (18, _), (19, _), (20, _), (21, _), (22, _), (23, _), (24, _), (25, _), (26, _), (27, _), (12, _), (13, _)] ⟨rfl, rfl, rfl, rfl, rfl, rfl, rfl, rfl, rfl, rfl, rfl, rfl, rfl, rfl, rfl, rfl, rfl, rfl, rfl, rfl, rfl, rfl, rfl, trivial⟩ ?_
      first
        | exact N.next (G := fun (i : Nat) => _) (i + 1) ⟨rfl, by rw [kr_snoc hx]; rfl, rfl, trivial⟩ ⟨by omega, rfl⟩ (by show _ - (i + 1) < _ - i; omega)
        | exact N.next (G := fun (i : Nat) => _) (i + 1) ⟨rfl, by rw [kr_snoc hx, show x = 0 by omega]; rfl, rfl, trivial⟩ ⟨by omega, rfl⟩ (by show _ - (i + 1) < _ - i; omega)
    · refine E.skip ?_
      refine N.blk ?_
      refine N.then ?_
      refine E.region ?_
      refine X.mv rfl rfl rfl rfl rfl ?_
      refine X.add rfl rfl rfl rfl rfl rfl (by omega) ?_
      refine X.asg rfl rfl rfl rfl rfl ?_
      refine X.done [(0, _), (3, _), (4, _), (8, _), (9, _), (10, _), (11, _), (14, _), (15, _), (16, _), (17, _), (18, _), (12, _), (13, _)] ⟨rfl, rfl, rfl, rfl, rfl, rfl, rfl, rfl, rfl, rfl, rfl, rfl, rfl, rfl, trivial⟩ ?_
      first
        | exact N.next (G := fun (i : Nat) => _) (i + 1) ⟨rfl, by rw [kr_snoc hx]; rfl, rfl, trivial⟩ ⟨by omega, rfl⟩ (by show _ - (i + 1) < _ - i; omega)
        | exact N.next (G := fun (i : Nat) => _) (i + 1) ⟨rfl, by rw [kr_snoc hx, show x = 0 by omega]; rfl, rfl, trivial⟩ ⟨by omega, rfl⟩ (by show _ - (i + 1) < _ - i; omega)
  · refine E.exit ?_
    refine N.thenX ?_
    refine N.loopX ?_
    refine N.blkX ?_
    refine N.then ?_
    refine E.seq ?_
    refine E.region ?_
    refine X.mv rfl rfl rfl rfl rfl ?_
    refine X.asg rfl rfl rfl rfl rfl ?_
    refine X.done [(2, _)] ⟨rfl, trivial⟩ ?_
    refine N.then ?_
    refine E.ret ?_
    exact N.retH [_] ⟨_, _, rfl, rfl, rfl⟩ ⟨by rw [List.take_of_length_le (by omega)]; rfl, rfl⟩

theorem kraft_bad (ls : List Int) (a : Option Addr) (b o c : Nat) (H : Heap) (A : Row1 H a b o (iv ls)) (hw : wrongV ls ≠ 0) : Ct Try.prog 14 #[.slice a ls.length c] H fun v H' => v = i64 (-1) ∧ Kp [] H H' := by
  refine Ct.into 14 Try.func14 rfl [(0, .slice a ls.length c)] rfl ⟨rfl, trivial⟩ ?_
  refine E.seq ?_
  refine E.region ?_
  refine X.asg rfl rfl rfl rfl rfl ?_
  refine X.done [(0, _), (2, _)] ⟨rfl, rfl, trivial⟩ ?_
  refine N.then ?_
  refine E.seq ?_
  refine E.region ?_
  refine X.mv rfl rfl rfl rfl rfl ?_
  refine X.call rfl rfl rfl rfl rfl Try.cl26 (counts_ct ls a b o c H A) ?_
  rintro _ H1 ⟨cz, hcz, rfl, _, hk1⟩
  refine X.mv rfl rfl rfl rfl rfl ?_
  refine X.extract rfl rfl rfl rfl rfl rfl ?_
  refine X.extract rfl rfl rfl rfl rfl rfl ?_
  refine X.alloc (z := .agg ([.int .i64 0, .int .i64 0, .int .i64 0, .int .i64 0, .int .i64 0, .int .i64 0, .int .i64 0, .int .i64 0, .int .i64 0, .int .i64 0, .int .i64 0, .int .i64 0, .int .i64 0, .int .i64 0, .int .i64 0, .int .i64 0] : List Value).toArray) (cs := [.int .i64 0, .int .i64 0, .int .i64 0, .int .i64 0, .int .i64 0, .int .i64 0, .int .i64 0, .int .i64 0, .int .i64 0, .int .i64 0, .int .i64 0, .int .i64 0, .int .i64 0, .int .i64 0, .int .i64 0, .int .i64 0]) rfl rfl rfl rfl (by kernel_rfl) rfl ?_
  intro b3 H3 hn3 hb3 hk3
  refine X.stA rfl rfl rfl rfl rfl rfl (nv_one _) (by rw [nv_len, hcz]; exact Try.sz48) hb3 (by simp [hcz]) ?_
  intro H4 hb3s hk4
  have hb3s : H4[b3]? = some (.cells (nv cz).toArray 48 (0, 0)) := by
    rw [hb3s]; congr 3; simp [splice, hcz]
  refine X.asg rfl rfl rfl rfl rfl ?_
  refine X.done [(2, _), (3, _), (4, _)] ⟨rfl, rfl, rfl, trivial⟩ ?_
  refine N.then ?_
  refine E.seq ?_
  refine E.seq ?_
  refine E.region ?_
  refine X.mv rfl rfl rfl rfl rfl ?_
  refine X.neqT rfl rfl rfl rfl rfl rfl (hw) ?_
  refine X.done [(2, _), (3, _), (11, _)] ⟨rfl, rfl, rfl, trivial⟩ ?_
  refine N.then ?_
  refine E.condT rfl ?_
  refine E.seq ?_
  refine E.region ?_
  refine X.asg rfl rfl rfl rfl rfl ?_
  refine X.done [(2, _), (3, _)] ⟨rfl, rfl, trivial⟩ ?_
  refine N.then ?_
  refine E.ret ?_
  refine N.thenR ?_
  exact N.retH [_] ⟨_, _, rfl, rfl, rfl⟩ ⟨rfl, (hk1.trans hk3 (by simp)).trans hk4 (by simp; exact Nat.le_trans hk1.size hn3)⟩

theorem kraft_ok (ns : Ns) (a : Option Addr) (b o c : Nat) (H : Heap) (A : Row1 H a b o (nv ns)) (ho : Ok ns) (hl : ns.length ≤ 320) : Ct Try.prog 14 #[.slice a ns.length c] H fun v H' => v = i64 (K ns 15) ∧ Kp [] H H' := by
  refine Ct.into 14 Try.func14 rfl [(0, .slice a ns.length c)] rfl ⟨rfl, trivial⟩ ?_
  refine E.seq ?_
  refine E.region ?_
  refine X.asg rfl rfl rfl rfl rfl ?_
  refine X.done [(0, _), (2, _)] ⟨rfl, rfl, trivial⟩ ?_
  refine N.then ?_
  refine E.seq ?_
  refine E.region ?_
  refine X.mv rfl rfl rfl rfl rfl ?_
  refine X.call rfl rfl rfl rfl rfl Try.cl26 (counts_ok ns a b o c H A ho hl) ?_
  rintro _ H1 ⟨rfl, hk1⟩
  refine X.mv rfl rfl rfl rfl rfl ?_
  refine X.extract rfl rfl rfl rfl rfl rfl ?_
  refine X.extract rfl rfl rfl rfl rfl rfl ?_
  refine X.alloc (z := .agg ([.int .i64 0, .int .i64 0, .int .i64 0, .int .i64 0, .int .i64 0, .int .i64 0, .int .i64 0, .int .i64 0, .int .i64 0, .int .i64 0, .int .i64 0, .int .i64 0, .int .i64 0, .int .i64 0, .int .i64 0, .int .i64 0] : List Value).toArray) (cs := [.int .i64 0, .int .i64 0, .int .i64 0, .int .i64 0, .int .i64 0, .int .i64 0, .int .i64 0, .int .i64 0, .int .i64 0, .int .i64 0, .int .i64 0, .int .i64 0, .int .i64 0, .int .i64 0, .int .i64 0, .int .i64 0]) rfl rfl rfl rfl (by kernel_rfl) rfl ?_
  intro b3 H3 hn3 hb3 hk3
  refine X.stA rfl rfl rfl rfl rfl rfl (nv_one _) (by rw [nv_len, cn_len]; exact Try.sz48) hb3 (by simp [cn]) ?_
  intro H4 hb3s hk4
  have hb3s : H4[b3]? = some (.cells (nv (cn ns)).toArray 48 (0, 0)) := by
    rw [hb3s]; congr 3
  refine X.asg rfl rfl rfl rfl rfl ?_
  refine X.done [(2, _), (3, _), (4, _)] ⟨rfl, rfl, rfl, trivial⟩ ?_
  refine N.then ?_
  refine E.seq ?_
  refine E.seq ?_
  refine E.region ?_
  refine X.mv rfl rfl rfl rfl rfl ?_
  refine X.neqF rfl rfl rfl rfl rfl rfl (fun h => h rfl) ?_
  refine X.done [(2, _), (3, _), (11, _)] ⟨rfl, rfl, rfl, trivial⟩ ?_
  refine N.then ?_
  refine E.condF rfl ?_
  refine E.skip ?_
  refine N.then ?_
  refine E.seq ?_
  refine E.region ?_
  refine X.ldA rfl rfl rfl rfl Try.ag48 Try.sz48 (hb3s) (vs := nv (cn ns)) (by simp [cn]) (fun j v hj => by rw [Nat.zero_add]; exact hj) ?_
  refine X.call rfl rfl rfl rfl rfl Try.cl27 (total_ct ns H4 hl) ?_
  rintro _ H5 ⟨rfl, hk5⟩
  refine X.asg rfl rfl rfl rfl rfl ?_
  refine X.done [(2, _)] ⟨rfl, trivial⟩ ?_
  refine N.then ?_
  refine E.ret ?_
  exact N.retH [_] ⟨_, _, rfl, rfl, rfl⟩ ⟨rfl, ((hk1.trans hk3 (by simp)).trans hk4 (by simp; exact Nat.le_trans hk1.size hn3)).trans hk5 (by simp)⟩




theorem rcodes_bad (ls : List Int) (a : Option Addr) (b o c : Nat) (H : Heap) (A : Row1 H a b o (iv ls)) (hw : wrongV ls ≠ 0) : Ct Try.prog 31 #[.slice a ls.length c] H fun v H' => v = .tuple #[.slice none 0 0, i64 (wrongV ls)] ∧ H' = H := by
  refine Ct.into 45 Try.func31 rfl [(0, .slice a ls.length c)] rfl ⟨rfl, trivial⟩ ?_
  refine E.seq ?_
  refine E.region ?_
  refine X.asg rfl rfl rfl rfl rfl ?_
  refine X.asg rfl rfl rfl rfl rfl ?_
  refine X.done [(0, _), (2, _), (3, _)] ⟨rfl, rfl, rfl, trivial⟩ ?_
  refine N.then ?_
  refine E.seq ?_
  refine E.region ?_
  refine X.mv rfl rfl rfl rfl rfl ?_
  refine X.call rfl rfl rfl rfl rfl Try.cl30 (wrong_ct ls a b o c H A) ?_
  rintro _ H1 ⟨rfl, eH1⟩
  obtain rfl := eH1.symm
  refine X.asg rfl rfl rfl rfl rfl ?_
  refine X.done [(0, _), (2, _), (3, _), (4, _)] ⟨rfl, rfl, rfl, rfl, trivial⟩ ?_
  refine N.then ?_
  refine E.seq ?_
  refine E.seq ?_
  refine E.region ?_
  refine X.mv rfl rfl rfl rfl rfl ?_
  refine X.neqT rfl rfl rfl rfl rfl rfl (hw) ?_
  refine X.done [(0, _), (2, _), (3, _), (4, _), (12, _)] ⟨rfl, rfl, rfl, rfl, rfl, trivial⟩ ?_
  refine N.then ?_
  refine E.condT rfl ?_
  refine E.seq ?_
  refine E.region ?_
  refine X.mv rfl rfl rfl rfl rfl ?_
  refine X.asg rfl rfl rfl rfl rfl ?_
  refine X.asg rfl rfl rfl rfl rfl ?_
  refine X.done [(0, _), (2, _), (3, _)] ⟨rfl, rfl, rfl, trivial⟩ ?_
  refine N.then ?_
  refine E.ret ?_
  refine N.thenR ?_
  exact N.retH [_, _] ⟨_, _, rfl, rfl, _, _, rfl, rfl, rfl⟩ ⟨rfl, rfl⟩

theorem rcodes_over (ns : Ns) (a : Option Addr) (b o c : Nat) (H : Heap) (A : Row1 H a b o (nv ns)) (ho : Ok ns) (hl : ns.length ≤ 320) (hK : 32768 < K ns 15) : Ct Try.prog 31 #[.slice a ns.length c] H fun v H' => v = .tuple #[.slice none 0 0, i64 7] ∧ H' = H := by
  have cW : Ct Try.prog 30 #[.slice a ns.length c] H fun v H' => v = i64 0 ∧ H' = H := by
    have h := wrong_ct (ns.map fun (x : Nat) => (x : Int)) a b o c H (by rw [nv_iv]; exact A)
    rw [List.length_map, wrong_ok hl ho] at h; exact h
  have hkk := kr_eq ns ho
  refine Ct.into 45 Try.func31 rfl [(0, .slice a ns.length c)] rfl ⟨rfl, trivial⟩ ?_
  refine E.seq ?_
  refine E.region ?_
  refine X.asg rfl rfl rfl rfl rfl ?_
  refine X.asg rfl rfl rfl rfl rfl ?_
  refine X.done [(0, _), (2, _), (3, _)] ⟨rfl, rfl, rfl, trivial⟩ ?_
  refine N.then ?_
  refine E.seq ?_
  refine E.region ?_
  refine X.mv rfl rfl rfl rfl rfl ?_
  refine X.call rfl rfl rfl rfl rfl Try.cl30 (cW) ?_
  rintro _ H1 ⟨rfl, eH1⟩
  obtain rfl := eH1.symm
  refine X.asg rfl rfl rfl rfl rfl ?_
  refine X.done [(0, _), (2, _), (3, _), (4, _)] ⟨rfl, rfl, rfl, rfl, trivial⟩ ?_
  refine N.then ?_
  refine E.seq ?_
  refine E.seq ?_
  refine E.region ?_
  refine X.mv rfl rfl rfl rfl rfl ?_
  refine X.neqF rfl rfl rfl rfl rfl rfl (fun h => h rfl) ?_
  refine X.done [(0, _), (2, _), (3, _), (4, _), (12, _)] ⟨rfl, rfl, rfl, rfl, rfl, trivial⟩ ?_
  refine N.then ?_
  refine E.condF rfl ?_
  refine E.skip ?_
  refine N.then ?_
  refine E.seq ?_
  refine E.seq ?_
  refine E.region ?_
  refine X.mv rfl rfl rfl rfl rfl ?_
  refine X.call rfl rfl rfl rfl rfl Try.cl22 (rkraft_ok ns a b o c H A ho hl) ?_
  rintro _ H2 ⟨rfl, eH2⟩
  obtain rfl := eH2.symm
  refine X.gtrT rfl rfl rfl rfl rfl rfl (by omega) ?_
  refine X.done [(0, _), (2, _), (3, _), (16, _)] ⟨rfl, rfl, rfl, rfl, trivial⟩ ?_
  refine N.then ?_
  refine E.condT rfl ?_
  refine E.seq ?_
  refine E.region ?_
  refine X.asg rfl rfl rfl rfl rfl ?_
  refine X.asg rfl rfl rfl rfl rfl ?_
  refine X.done [(0, _), (2, _), (3, _)] ⟨rfl, rfl, rfl, trivial⟩ ?_
  refine N.then ?_
  refine E.ret ?_
  refine N.thenR ?_
  exact N.retH [_, _] ⟨_, _, rfl, rfl, _, _, rfl, rfl, rfl⟩ ⟨rfl, rfl⟩

theorem rcodes_ok (ns : Ns) (a : Option Addr) (b o c : Nat) (H : Heap) (A : Row1 H a b o (nv ns)) (ho : Ok ns) (hl : ns.length ≤ 320) (hK : K ns 15 ≤ 32768) : Ct Try.prog 31 #[.slice a ns.length c] H fun v H' => ∃ b', v = .tuple #[.slice (some ⟨b', 0, none⟩) ns.length ns.length, i64 0] ∧ H.size ≤ b' ∧ H'[b']? = some (.cells (rg ns.length (fin ns)).toArray 3 (0, 0)) ∧ Kp [] H H' := by
  have cW : Ct Try.prog 30 #[.slice a ns.length c] H fun v H' => v = i64 0 ∧ H' = H := by
    have h := wrong_ct (ns.map fun (x : Nat) => (x : Int)) a b o c H (by rw [nv_iv]; exact A)
    rw [List.length_map, wrong_ok hl ho] at h; exact h
  have hkk := kr_eq ns ho
  refine Ct.into 45 Try.func31 rfl [(0, .slice a ns.length c)] rfl ⟨rfl, trivial⟩ ?_
  refine E.seq ?_
  refine E.region ?_
  refine X.asg rfl rfl rfl rfl rfl ?_
  refine X.asg rfl rfl rfl rfl rfl ?_
  refine X.done [(0, _), (2, _), (3, _)] ⟨rfl, rfl, rfl, trivial⟩ ?_
  refine N.then ?_
  refine E.seq ?_
  refine E.region ?_
  refine X.mv rfl rfl rfl rfl rfl ?_
  refine X.call rfl rfl rfl rfl rfl Try.cl30 (cW) ?_
  rintro _ H1 ⟨rfl, eH1⟩
  obtain rfl := eH1.symm
  refine X.asg rfl rfl rfl rfl rfl ?_
  refine X.done [(0, _), (2, _), (3, _), (4, _)] ⟨rfl, rfl, rfl, rfl, trivial⟩ ?_
  refine N.then ?_
  refine E.seq ?_
  refine E.seq ?_
  refine E.region ?_
  refine X.mv rfl rfl rfl rfl rfl ?_
  refine X.neqF rfl rfl rfl rfl rfl rfl (fun h => h rfl) ?_
  refine X.done [(0, _), (2, _), (3, _), (4, _), (12, _)] ⟨rfl, rfl, rfl, rfl, rfl, trivial⟩ ?_
  refine N.then ?_
  refine E.condF rfl ?_
  refine E.skip ?_
  refine N.then ?_
  refine E.seq ?_
  refine E.seq ?_
  refine E.region ?_
  refine X.mv rfl rfl rfl rfl rfl ?_
  refine X.call rfl rfl rfl rfl rfl Try.cl22 (rkraft_ok ns a b o c H A ho hl) ?_
  rintro _ H2 ⟨rfl, eH2⟩
  obtain rfl := eH2.symm
  refine X.gtrF rfl rfl rfl rfl rfl rfl (by omega) ?_
  refine X.done [(0, _), (2, _), (3, _), (16, _)] ⟨rfl, rfl, rfl, rfl, trivial⟩ ?_
  refine N.then ?_
  refine E.condF rfl ?_
  refine E.skip ?_
  refine N.then ?_
  refine E.seq ?_
  refine E.region ?_
  refine X.mv rfl rfl rfl rfl rfl ?_
  refine X.lenS rfl rfl rfl rfl rfl Try.underlying22 ?_
  refine X.mk Try.underlying22 Try.zi3_22 rfl rfl rfl rfl rfl rfl rfl (by omega) (by omega) (by simp only [maxLen]; omega) ?_
  intro b5 H5 hn5 hb5 hk5
  rw [rg_zero] at hb5
  refine X.asg rfl rfl rfl rfl rfl ?_
  refine X.done [(0, _), (2, _), (3, _), (5, _)] ⟨rfl, rfl, rfl, rfl, trivial⟩ ?_
  refine N.then ?_
  refine E.seq ?_
  refine E.region ?_
  refine X.asg rfl rfl rfl rfl rfl ?_
  refine X.done [(0, _), (2, _), (3, _), (5, _), (6, _)] ⟨rfl, rfl, rfl, rfl, rfl, trivial⟩ ?_
  refine N.then ?_
  refine E.seq ?_
  refine E.seq ?_
  refine E.region ?_
  refine X.asg rfl rfl rfl rfl rfl ?_
  refine X.done [(0, _), (2, _), (3, _), (5, _), (6, _), (7, _)] ⟨rfl, rfl, rfl, rfl, rfl, rfl, trivial⟩ ?_
  refine N.then ?_
  refine E.block ?_
  -- MISSING in G: [2, 3]
  refine E.loop (fun (bb : Nat) => [(0, .slice a ns.length c), (5, .slice (some ⟨b5, 0, none⟩) ns.length ns.length), (6, i64 (st ns bb)), (7, i64 bb)]) (fun (bb : Nat) H' => 1 ≤ bb ∧ bb ≤ 16 ∧ H'[b5]? = some (.cells (rg ns.length (rc ns bb 0)).toArray 3 (0, 0)) ∧ Kp [] H H') (fun (bb : Nat) => 16 - bb) 1 ⟨rfl, rfl, rfl, rfl, trivial⟩ ⟨by omega, by omega, by rw [hb5, rg_congr (fun j _ => (rc_first ns j).symm)], hk5⟩ ?_
  rintro q H6 ⟨hq1, hq2, hb5, hkA⟩
  have hst : q ≤ 15 → st ns q ≤ 32768 := fun h => st_le h hK
  have hcq := count_len ns q
  refine E.seq ?_
  refine E.seq ?_
  refine E.region ?_
  refine X.mv rfl rfl rfl rfl rfl ?_
  refine X.leq rfl rfl rfl rfl rfl rfl ?_
  refine X.done [(0, _), (5, _), (6, _), (7, _), (20, _), (21, _)] ⟨rfl, rfl, rfl, rfl, rfl, rfl, trivial⟩ ?_
  refine N.then ?_
  refine E.condD rfl (fun hc => ?_) (fun hc => ?_)
  · refine E.skip ?_
    refine N.then ?_
    refine E.seq ?_
    refine E.block ?_
    refine E.seq ?_
    refine E.seq ?_
    refine E.region ?_
    refine X.asg rfl rfl rfl rfl rfl ?_
    refine X.done [(0, _), (5, _), (6, _), (7, _), (20, _), (21, _), (8, _)] ⟨rfl, rfl, rfl, rfl, rfl, rfl, rfl, trivial⟩ ?_
    refine N.then ?_
    refine E.block ?_
    -- MISSING in G: [20, 21]
    refine E.loop (fun (i : Nat) => [(0, .slice a ns.length c), (5, .slice (some ⟨b5, 0, none⟩) ns.length ns.length), (6, i64 ((st ns q + (ns.take i).count q : Nat) : Int)), (7, i64 q), (8, i64 i)]) (fun (i : Nat) H' => i ≤ ns.length ∧ H'[b5]? = some (.cells (rg ns.length (rc ns q i)).toArray 3 (0, 0)) ∧ Kp [] H H') (fun (i : Nat) => ns.length - i) 0 ⟨rfl, rfl, (by rw [show st ns q + (ns.take 0).count q = st ns q from by simp]; rfl), rfl, rfl, trivial⟩ ⟨Nat.zero_le _, hb5, hkA⟩ ?_
    rintro i H7 ⟨hi, hb5, hkA⟩
    have hsq := hst (by omega)
    have hct := count_take_le ns q i
    refine E.seq ?_
    refine E.seq ?_
    refine E.region ?_
    refine X.mv rfl rfl rfl rfl rfl ?_
    refine X.mv rfl rfl rfl rfl rfl ?_
    refine X.lenS rfl rfl rfl rfl rfl Try.underlying22 ?_
    refine X.lss rfl rfl rfl rfl rfl rfl ?_
    refine X.done [(0, _), (5, _), (6, _), (7, _), (8, _), (24, _), (25, _), (26, _), (27, _)] ⟨rfl, rfl, rfl, rfl, rfl, rfl, rfl, rfl, rfl, trivial⟩ ?_
    refine N.then ?_
    refine E.condD rfl (fun hc => ?_) (fun hc => ?_)
    · refine E.skip ?_
      refine N.then ?_
      refine E.seq ?_
      refine E.block ?_
      refine E.seq ?_
      obtain ⟨x, hx⟩ : ∃ x, ns[i]? = some x := ⟨_, List.getElem?_eq_getElem (by omega)⟩
      have hx15 := ho x (List.mem_of_getElem? hx)
      obtain ⟨ha, cs, ct, fz, hbb, hel⟩ := (A.keepN hkA).get i _ (nv_get hx)
      refine E.region ?_
      refine X.mv rfl rfl rfl rfl rfl ?_
      refine X.mv rfl rfl rfl rfl rfl ?_
      refine X.ixAe rfl rfl rfl rfl rfl rfl Try.underlying22 Try.sz3 (ha) (by omega) ?_
      refine X.ld rfl rfl rfl rfl Try.ag3 (hbb) (by rw [Nat.mul_one]; exact hel) ?_
      refine X.mv rfl rfl rfl rfl rfl ?_
      refine X.eql rfl rfl rfl rfl rfl rfl ?_
      refine X.done [(0, _), (5, _), (6, _), (7, _), (8, _), (24, _), (25, _), (26, _), (27, _), (30, _), (31, _), (32, _), (33, _), (34, _), (35, _)] ⟨rfl, rfl, rfl, rfl, rfl, rfl, rfl, rfl, rfl, rfl, rfl, rfl, rfl, rfl, rfl, trivial⟩ ?_
      refine N.then ?_
      refine E.condD rfl (fun hc => ?_) (fun hc => ?_)
      · refine E.seq ?_
        obtain rfl : x = q := by omega
        refine E.region ?_
        refine X.mv rfl rfl rfl rfl rfl ?_
        refine X.mv rfl rfl rfl rfl rfl ?_
        refine X.mv rfl rfl rfl rfl rfl ?_
        refine X.ixA rfl rfl rfl rfl rfl rfl Try.underlying22 Try.sz3 (by omega) ?_
        refine X.st rfl rfl rfl rfl rfl rfl rfl Try.sz3 hb5 (by rw [rg_len]; omega) ?_
        intro H8 hb8 hk8
        have e8 : 0 + ((i : Nat) : Int).toNat * 1 = i := by omega
        rw [e8, rg_set (g := rc ns x (i + 1)) (show i < ns.length by omega) (by rw [rc_at hx hq1]) (fun j hj hji => rc_step j hji)] at hb8
        refine X.done [(0, _), (5, _), (6, _), (7, _), (8, _), (24, _), (25, _), (26, _), (27, _), (30, _), (31, _), (32, _), (33, _), (34, _), (35, _), (36, _), (37, _), (38, _), (39, _)] ⟨rfl, rfl, rfl, rfl, rfl, rfl, rfl, rfl, rfl, rfl, rfl, rfl, rfl, rfl, rfl, rfl, rfl, rfl, rfl, trivial⟩ ?_
        refine N.then ?_
        refine E.region ?_
        refine X.mv rfl rfl rfl rfl rfl ?_
        refine X.addE (zz := ((st ns x + ((ns.take i).count x + 1) : Nat) : Int)) rfl rfl rfl rfl rfl rfl (by rw [IntWalk.i64_in _ (by omega)]; omega) ?_
        refine X.asg rfl rfl rfl rfl rfl ?_
        refine X.done [(0, _), (5, _), (6, _), (7, _), (8, _), (24, _), (25, _), (26, _), (27, _), (30, _), (31, _), (32, _), (33, _), (34, _), (35, _), (36, _), (37, _), (38, _), (39, _), (40, _), (41, _)] ⟨rfl, rfl, rfl, rfl, rfl, rfl, rfl, rfl, rfl, rfl, rfl, rfl, rfl, rfl, rfl, rfl, rfl, rfl, rfl, rfl, rfl, trivial⟩ ?_
        refine N.blk ?_
        refine N.then ?_
        refine E.region ?_
        refine X.mv rfl rfl rfl rfl rfl ?_
        refine X.add rfl rfl rfl rfl rfl rfl (by omega) ?_
        refine X.asg rfl rfl rfl rfl rfl ?_
        refine X.done [(0, _), (5, _), (6, _), (7, _), (8, _), (24, _), (25, _), (26, _), (27, _), (30, _), (31, _), (32, _), (33, _), (34, _), (35, _), (36, _), (37, _), (38, _), (39, _), (40, _), (41, _), (28, _), (29, _)] ⟨rfl, rfl, rfl, rfl, rfl, rfl, rfl, rfl, rfl, rfl, rfl, rfl, rfl, rfl, rfl, rfl, rfl, rfl, rfl, rfl, rfl, rfl, rfl, trivial⟩ ?_
        first
          | exact N.next (G := fun (i : Nat) => _) (i + 1) ⟨rfl, rfl, by rw [count_step hx, if_pos rfl]; rfl, rfl, rfl, trivial⟩ ⟨by omega, hb8, hkA.trans hk8 (by simp; exact hn5)⟩ (by show _ - (i + 1) < _ - i; omega)
          | (have hne : x ≠ q := by omega
             exact N.next (G := fun (i : Nat) => _) (i + 1) ⟨rfl, rfl, by rw [count_step hx, if_neg hne]; rfl, rfl, rfl, trivial⟩ ⟨by omega, by rw [hb5, rg_congr (fun j _ => rc_no hx hne j)], hkA⟩ (by show _ - (i + 1) < _ - i; omega))
      · refine E.skip ?_
        refine N.blk ?_
        refine N.then ?_
        refine E.region ?_
        refine X.mv rfl rfl rfl rfl rfl ?_
        refine X.add rfl rfl rfl rfl rfl rfl (by omega) ?_
        refine X.asg rfl rfl rfl rfl rfl ?_
        refine X.done [(0, _), (5, _), (6, _), (7, _), (8, _), (24, _), (25, _), (26, _), (27, _), (30, _), (31, _), (32, _), (33, _), (34, _), (35, _), (28, _), (29, _)] ⟨rfl, rfl, rfl, rfl, rfl, rfl, rfl, rfl, rfl, rfl, rfl, rfl, rfl, rfl, rfl, rfl, rfl, trivial⟩ ?_
        first
          | exact N.next (G := fun (i : Nat) => _) (i + 1) ⟨rfl, rfl, by rw [count_step hx, if_pos rfl]; rfl, rfl, rfl, trivial⟩ ⟨by omega, hb8, hkA.trans hk8 (by simp; exact hn5)⟩ (by show _ - (i + 1) < _ - i; omega)
          | (have hne : x ≠ q := by omega
             exact N.next (G := fun (i : Nat) => _) (i + 1) ⟨rfl, rfl, by rw [count_step hx, if_neg hne]; rfl, rfl, rfl, trivial⟩ ⟨by omega, by rw [hb5, rg_congr (fun j _ => rc_no hx hne j)], hkA⟩ (by show _ - (i + 1) < _ - i; omega))
    · refine E.exit ?_
      refine N.thenX ?_
      refine N.loopX ?_
      refine N.blkX ?_
      refine N.then ?_
      obtain rfl : i = ns.length := by omega
      have hct2 : (ns.take ns.length).count q = ns.count q := by rw [List.take_length]
      refine E.region ?_
      refine X.mv rfl rfl rfl rfl rfl ?_
      refine X.mulE (zz := (((st ns q + ns.count q) * 2 : Nat) : Int)) rfl rfl rfl rfl rfl rfl (by rw [hct2, IntWalk.i64_in _ (by omega)]; omega) ?_
      refine X.asg rfl rfl rfl rfl rfl ?_
      refine X.done [(0, _), (5, _), (6, _), (7, _), (8, _), (24, _), (25, _), (26, _), (27, _), (42, _), (43, _)] ⟨rfl, rfl, rfl, rfl, rfl, rfl, rfl, rfl, rfl, rfl, rfl, trivial⟩ ?_
      refine N.blk ?_
      refine N.then ?_
      refine E.region ?_
      refine X.mv rfl rfl rfl rfl rfl ?_
      refine X.add rfl rfl rfl rfl rfl rfl (by omega) ?_
      refine X.asg rfl rfl rfl rfl rfl ?_
      refine X.done [(0, _), (5, _), (6, _), (7, _), (8, _), (24, _), (25, _), (26, _), (27, _), (42, _), (43, _), (22, _), (23, _)] ⟨rfl, rfl, rfl, rfl, rfl, rfl, rfl, rfl, rfl, rfl, rfl, rfl, rfl, trivial⟩ ?_
      exact N.next (G := fun (bb : Nat) => _) (q + 1) ⟨rfl, rfl, by rw [st_succ ns hq1]; rfl, rfl, trivial⟩ ⟨by omega, by omega, by rw [hb5, rg_congr (fun j hj => rc_next j hj)], hkA⟩ (by show 16 - (q + 1) < 16 - q; omega)
  · refine E.exit ?_
    refine N.thenX ?_
    refine N.loopX ?_
    refine N.blkX ?_
    refine N.then ?_
    refine E.seq ?_
    refine E.region ?_
    refine X.mv rfl rfl rfl rfl rfl ?_
    refine X.asg rfl rfl rfl rfl rfl ?_
    refine X.asg rfl rfl rfl rfl rfl ?_
    refine X.done [(2, _), (3, _)] ⟨rfl, rfl, trivial⟩ ?_
    refine N.then ?_
    refine E.ret ?_
    exact N.retH [_, _] ⟨_, _, rfl, rfl, _, _, rfl, rfl, rfl⟩ ⟨b5, rfl, hn5, by rw [hb5, show q = 16 by omega, rg_congr (fun j hj => rc_last ho j hj)], hkA⟩

end Go.Proofs.Ytjlelcfabfmiaaa.Ln