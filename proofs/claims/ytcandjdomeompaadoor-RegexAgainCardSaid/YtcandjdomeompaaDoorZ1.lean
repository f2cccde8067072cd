/- The walks of the sets' functions: who has a byte, how many. -/
import Derived.Test.YtcandjdomeompaaDoorFacts
import Derived.Test.YtcandjdomeompaaDoorZM
namespace Go.Proofs.YtcandjdomeompaaDoor
open Go.SX Go.Chr
attribute [local irreducible] X E N Ct
set_option linter.unusedVariables false
set_option linter.unusedSimpArgs false
abbrev i64 (x : Int) : Value := .int .i64 x
abbrev ptr (p : Nat) : Value := .pointer (some ⟨p, 0, none⟩)
abbrev Bs := List UInt8
abbrev str (s : Bs) : Value := .string ⟨s.toArray⟩
abbrev uv (ws : List Nat) : List Value := ws.map fun (w : Nat) => .int .u64 (w : Int)
abbrev agg4 (ws : List Nat) : Value := .agg (uv ws).toArray
structure Ws (ws : List Nat) : Prop where
  len : ws.length = 4
  lt : ∀ w ∈ ws, w < 2 ^ 64
def wd (ws : List Nat) (i : Nat) : Nat := ws.getD i 0
theorem Ws.get {ws : List Nat} (h : Ws ws) {i : Nat} (hi : i < 4) : ws[i]? = some (wd ws i) ∧ wd ws i < 2 ^ 64 := by
  have hl := h.len
  have e : ws[i]? = some ws[i] := List.getElem?_eq_getElem (by omega)
  have e2 : wd ws i = ws[i] := by simp [wd, List.getD, e]
  rw [e2]
  exact ⟨e, h.lt _ (List.getElem_mem _)⟩
theorem uv_get {ws : List Nat} {i w : Nat} (h : ws[i]? = some w) : (uv ws)[i]? = some (.int .u64 (w : Int)) := by simp [h]
theorem uv_one (ws : List Nat) : ∀ v ∈ uv ws, v.oneCell' = true := by intro v hv; obtain ⟨x, _, rfl⟩ := List.mem_map.1 hv; rfl
/-- Is the byte c in the set? -/
def bit (ws : List Nat) (c : Nat) : Nat := wd ws (c / 64) / 2 ^ (c % 64) % 2
theorem bit_le (ws : List Nat) (c : Nat) : bit ws c < 2 := Nat.mod_lt _ (by omega)
theorem tmod2 (a : Nat) : (a : Int).tmod 2 = ((a % 2 : Nat) : Int) := by rw [IntWalk.rem_in _ _ (by omega)]; omega
theorem dec_bit (ws : List Nat) (c : Nat) : decide (((bit ws c : Nat) : Int) = 1) = decide (bit ws c = 1) := by
  congr 1; apply propext; omega

theorem add64 (a b : Nat) (h : a + b < 2 ^ 64) : IntKind.u64.wrap ((a : Int) + (b : Int)) = ((a + b : Nat) : Int) := by rw [IntWalk.u64_in _ (by omega)]; omega


theorem rhas_ct (ws : List Nat) (c : Nat) (H : Heap) (hw : Ws ws) (hc8 : c ≤ 255) : Ct Tryd.prog 54 #[agg4 ws, .int .u8 c] H fun v H' => v = .bool (decide (bit ws c = 1)) ∧ Kp [] H H' := by
  obtain ⟨hg, hgl⟩ := hw.get (show c / 64 < 4 by omega)
  have hdl : wd ws (c / 64) / 2 ^ (c % 64) ≤ wd ws (c / 64) := Nat.div_le_self _ _
  refine Ct.into 14 Tryd.func54 rfl [(0, agg4 ws), (1, .int .u8 c)] rfl ⟨rfl, rfl, trivial⟩ ?_
  refine E.seq ?_
  refine E.region ?_
  refine X.box rfl rfl rfl rfl rfl rfl ?_
  intro b2 H2 hn2 hb2 hk2
  refine X.asg rfl rfl rfl rfl rfl ?_
  refine X.done [(1, _), (2, _), (4, _)] ⟨rfl, rfl, rfl, trivial⟩ ?_
  refine N.then ?_
  refine E.seq ?_
  refine E.region ?_
  refine X.mv rfl rfl rfl rfl rfl ?_
  refine X.quoE (zz := ((c / 64 : Nat) : Int)) rfl rfl rfl rfl rfl rfl (by omega) (by rw [IntWalk.u8_quo _ _ (by omega)] <;> omega) ?_
  refine X.ixP rfl rfl rfl rfl rfl rfl Tryd.underlying36 Tryd.sz34 (by omega) ?_
  refine X.ld rfl rfl rfl rfl Tryd.ag34 (hb2) (by have hq := uv_get hg; rw [Nat.zero_add, Nat.mul_one]; exact hq) ?_
  refine X.mv rfl rfl rfl rfl rfl ?_
  refine X.remE (zz := ((c % 64 : Nat) : Int)) rfl rfl rfl rfl rfl rfl (by omega) (by rw [IntWalk.rem_in _ _ (by omega)] <;> omega) ?_
  refine X.shrE (zz := ((wd ws (c / 64) / 2 ^ (c % 64) : Nat) : Int)) rfl rfl rfl rfl rfl rfl (by omega) (shrN (rfl) (rfl) (by show _ ≤ 64; omega)) ?_
  refine X.remE (zz := ((bit ws c : Nat) : Int)) rfl rfl rfl rfl rfl rfl (by omega) (tmod2 _) ?_
  refine X.eql rfl rfl rfl rfl rfl rfl ?_
  refine X.asg rfl rfl rfl rfl rfl ?_
  refine X.done [(4, _)] ⟨rfl, trivial⟩ ?_
  refine N.then ?_
  refine E.ret ?_
  exact N.retH [_] ⟨_, _, rfl, rfl, rfl⟩ ⟨by show Value.bool _ = _; rw [dec_bit], hk2⟩

theorem ones_ct (x : Nat) (H : Heap) (hy : x < 2 ^ 64) : Ct Tryd.prog 49 #[.int .u64 x] H fun v H' => v = i64 (pop x 64) ∧ H' = H := by
  obtain ⟨d1, d2, d3, hsum⟩ := count_all hy
  have l1 : x1 x < 2 ^ 64 := dg_lt 2 2 (by decide) 32 _ d1
  have l2 : x2 x < 2 ^ 64 := dg_lt 4 4 (by decide) 16 _ d2
  have l2b : x2 x / 2 ^ 4 + x2 x < 2 ^ 64 := two_small _ d2
  have l3 : x3 x ≤ 578721382704613384 := eight_small _ d3
  obtain ⟨s, hs⟩ : ∃ s, x3 x + x3 x / 2 ^ 8 = s := ⟨_, rfl⟩
  obtain ⟨u, hu⟩ : ∃ u, s + s / 2 ^ 16 = u := ⟨_, rfl⟩
  obtain ⟨w, hw⟩ : ∃ w, u + u / 2 ^ 32 = w := ⟨_, rfl⟩
  have hfin : (w : Int) % 2 ^ 7 = ((pop x 64 : Nat) : Int) := by
    rw [← hsum, ← fold_ds _ d3 s u w hs.symm hu.symm hw.symm]; rfl
  refine Ct.into 35 Tryd.func49 rfl [(0, .int .u64 x)] rfl ⟨rfl, trivial⟩ ?_
  refine E.seq ?_
  refine E.region ?_
  refine X.asg rfl rfl rfl rfl rfl ?_
  refine X.done [(0, _), (2, _)] ⟨rfl, rfl, trivial⟩ ?_
  refine N.then ?_
  refine E.seq ?_
  refine E.region ?_
  refine X.mv rfl rfl rfl rfl rfl ?_
  refine X.shrE (zz := (((x) / 2 ^ 1 : Nat) : Int)) rfl rfl rfl rfl rfl rfl (by omega) (shrN (rfl) (rfl) (by show _ ≤ 64; omega)) ?_
  refine X.bandE (zz := ((((x) / 2 ^ 1) &&& 6148914691236517205 : Nat) : Int)) rfl rfl rfl rfl rfl rfl (and64 rfl rfl (Nat.lt_of_le_of_lt (Nat.div_le_self _ _) hy) (by decide)) ?_
  refine X.mv rfl rfl rfl rfl rfl ?_
  refine X.bandE (zz := (((x) &&& 6148914691236517205 : Nat) : Int)) rfl rfl rfl rfl rfl rfl (and64 rfl rfl hy (by decide)) ?_
  refine X.addE (zz := ((x1 x : Nat) : Int)) rfl rfl rfl rfl rfl rfl (add64 _ _ l1) ?_
  replace hy := l1
  refine X.asg rfl rfl rfl rfl rfl ?_
  refine X.done [(0, _), (2, _)] ⟨rfl, rfl, trivial⟩ ?_
  refine N.then ?_
  refine E.seq ?_
  refine E.region ?_
  refine X.mv rfl rfl rfl rfl rfl ?_
  refine X.shrE (zz := (((x1 x) / 2 ^ 2 : Nat) : Int)) rfl rfl rfl rfl rfl rfl (by omega) (shrN (rfl) (rfl) (by show _ ≤ 64; omega)) ?_
  refine X.bandE (zz := ((((x1 x) / 2 ^ 2) &&& 3689348814741910323 : Nat) : Int)) rfl rfl rfl rfl rfl rfl (and64 rfl rfl (Nat.lt_of_le_of_lt (Nat.div_le_self _ _) hy) (by decide)) ?_
  refine X.mv rfl rfl rfl rfl rfl ?_
  refine X.bandE (zz := (((x1 x) &&& 3689348814741910323 : Nat) : Int)) rfl rfl rfl rfl rfl rfl (and64 rfl rfl hy (by decide)) ?_
  refine X.addE (zz := ((x2 x : Nat) : Int)) rfl rfl rfl rfl rfl rfl (add64 _ _ l2) ?_
  refine X.asg rfl rfl rfl rfl rfl ?_
  refine X.done [(0, _), (2, _)] ⟨rfl, rfl, trivial⟩ ?_
  refine N.then ?_
  refine E.seq ?_
  refine E.region ?_
  refine X.mv rfl rfl rfl rfl rfl ?_
  refine X.shrE (zz := ((x2 x / 2 ^ 4 : Nat) : Int)) rfl rfl rfl rfl rfl rfl (by omega) (shrN (rfl) (rfl) (by show _ ≤ 64; omega)) ?_
  refine X.mv rfl rfl rfl rfl rfl ?_
  refine X.addE (zz := ((x2 x / 2 ^ 4 + x2 x : Nat) : Int)) rfl rfl rfl rfl rfl rfl (add64 _ _ (by omega)) ?_
  refine X.bandE (zz := ((x3 x : Nat) : Int)) rfl rfl rfl rfl rfl rfl (and64 rfl rfl (by omega) (by decide)) ?_
  refine X.asg rfl rfl rfl rfl rfl ?_
  refine X.done [(0, _), (2, _)] ⟨rfl, rfl, trivial⟩ ?_
  refine N.then ?_
  refine E.seq ?_
  refine E.region ?_
  refine X.mv rfl rfl rfl rfl rfl ?_
  refine X.mv rfl rfl rfl rfl rfl ?_
  refine X.shrE (zz := ((x3 x / 2 ^ 8 : Nat) : Int)) rfl rfl rfl rfl rfl rfl (by omega) (shrN (rfl) (rfl) (by show _ ≤ 64; omega)) ?_
  refine X.addE (zz := ((s : Nat) : Int)) rfl rfl rfl rfl rfl rfl (by rw [← hs]; exact add64 _ _ (by omega)) ?_
  refine X.asg rfl rfl rfl rfl rfl ?_
  refine X.done [(0, _), (2, _)] ⟨rfl, rfl, trivial⟩ ?_
  refine N.then ?_
  refine E.seq ?_
  refine E.region ?_
  refine X.mv rfl rfl rfl rfl rfl ?_
  refine X.mv rfl rfl rfl rfl rfl ?_
  refine X.shrE (zz := ((s / 2 ^ 16 : Nat) : Int)) rfl rfl rfl rfl rfl rfl (by omega) (shrN (rfl) (rfl) (by show _ ≤ 64; omega)) ?_
  refine X.addE (zz := ((u : Nat) : Int)) rfl rfl rfl rfl rfl rfl (by rw [← hu]; exact add64 _ _ (by omega)) ?_
  refine X.asg rfl rfl rfl rfl rfl ?_
  refine X.done [(0, _), (2, _)] ⟨rfl, rfl, trivial⟩ ?_
  refine N.then ?_
  refine E.seq ?_
  refine E.region ?_
  refine X.mv rfl rfl rfl rfl rfl ?_
  refine X.mv rfl rfl rfl rfl rfl ?_
  refine X.shrE (zz := ((u / 2 ^ 32 : Nat) : Int)) rfl rfl rfl rfl rfl rfl (by omega) (shrN (rfl) (rfl) (by show _ ≤ 64; omega)) ?_
  refine X.addE (zz := ((w : Nat) : Int)) rfl rfl rfl rfl rfl rfl (by rw [← hw]; exact add64 _ _ (by omega)) ?_
  refine X.asg rfl rfl rfl rfl rfl ?_
  refine X.done [(0, _), (2, _)] ⟨rfl, rfl, trivial⟩ ?_
  refine N.then ?_
  refine E.seq ?_
  refine E.region ?_
  refine X.mv rfl rfl rfl rfl rfl ?_
  refine X.convE (zz := (w : Int)) rfl rfl rfl rfl rfl Tryd.underlying3 Tryd.us22 (IntWalk.i64_in _ (by omega)) ?_
  refine X.bandE (zz := ((pop x 64 : Nat) : Int)) rfl rfl rfl rfl rfl rfl (by rw [andI (k := 7) (by decide) (by decide)]; exact hfin) ?_
  refine X.asg rfl rfl rfl rfl rfl ?_
  refine X.done [(2, _)] ⟨rfl, trivial⟩ ?_
  refine N.then ?_
  refine E.ret ?_
  exact N.retH [_] ⟨_, _, rfl, rfl, rfl⟩ ⟨rfl, rfl⟩

end Go.Proofs.YtcandjdomeompaaDoor
