/- What the row's laid variables give. -/
import Derived.Test.YtaofjmaekpjkhaaDoorW8
import Derived.LaidMore
import Derived.LaidHandle
import Derived.OpenShut
import Derived.Stop.Joined
import Derived.Stop.LaidErr
import Derived.ProofKit
namespace Go.Proofs.YtaofjmaekpjkhaaDoor
open Go.ChangeShapes Go.WideShapes Go.ChangeAt Go.RowKit Go.SX
set_option linter.unusedVariables false
set_option maxRecDepth 100000
abbrev laidE : List (String × DataW Unit) := [("collimator/blame.errBytes", Rows.laid_collimator_blame_errBytes), ("collimator/blame.errCodes", Rows.laid_collimator_blame_errCodes), ("collimator/blame.errTexts", Rows.laid_collimator_blame_errTexts), ("collimator/blame.errRoom", Rows.laid_collimator_blame_errRoom), ("collimator/blame.errOther", Rows.laid_collimator_blame_errOther)]
abbrev laidHd : List (String × DataW Unit) := [("errors.errorType", Rows.laid_errors_errorType)]
abbrev laid1 : List (String × DataW Unit) := laidHd ++ laidE
theorem own : ownKnob Tryd.prog.godebug = none := by kernel_rfl
theorem laidOut : laidOutB Tryd.prog = true := by kernel_rfl
theorem gE : Tryd.prog.globalNamed "errors.errorType" = some 5 := by kernel_rfl
theorem g1 : Tryd.prog.globalNamed "collimator/blame.errBytes" = some 0 := by kernel_rfl
theorem g2 : Tryd.prog.globalNamed "collimator/blame.errCodes" = some 1 := by kernel_rfl
theorem g3 : Tryd.prog.globalNamed "collimator/blame.errTexts" = some 2 := by kernel_rfl
theorem g4 : Tryd.prog.globalNamed "collimator/blame.errRoom" = some 3 := by kernel_rfl
theorem g5 : Tryd.prog.globalNamed "collimator/blame.errOther" = some 4 := by kernel_rfl
theorem t1 : (Tryd.prog.globals[0]?).map (·.type) = some 24 := by kernel_rfl
theorem t2 : (Tryd.prog.globals[1]?).map (·.type) = some 24 := by kernel_rfl
theorem t3 : (Tryd.prog.globals[2]?).map (·.type) = some 24 := by kernel_rfl
theorem t4 : (Tryd.prog.globals[3]?).map (·.type) = some 24 := by kernel_rfl
theorem t5 : (Tryd.prog.globals[4]?).map (·.type) = some 24 := by kernel_rfl
theorem rtId : (Tryd.prog.cutTypes.find? (·.1 == "internal/reflectlite.rtype")).map (·.2) = some 82 := by kernel_rfl
theorem tsize : Tryd.prog.types.size = 129 := by kernel_rfl
theorem oneRow : ((List.range 129).filter fun t => Tryd.prog.rowNamed t [101, 114, 114, 111, 114]) = [24] := by kernel_rfl
theorem star : "*" ++ "errors.errorString" = "*errors.errorString" := by decide
theorem row97 (u : TypeId) (h : Tryd.prog.typeName? 3 u = some "*errors.errorString") : u = 97 :=
  typeName_ptr_named (nm := "errors.errorString") (by rw [star]; kernel_rfl) (by kernel_rfl) (by decide) u (by rw [star]; exact h)
theorem door_met (os : Os) (args : Array Value) : laidMetH Tryd.prog laid1 ((World.doorLaid Tryd.prog 400 os).forCall (fun _ _ => 0) ⟨#[], args, []⟩).memory :=
  laidMetH_of_parts3 (fuel := 8) (laidMet_of_run' 8 (by kernel_rfl) (by kernel_rfl)) (by kernel_rfl) (by kernel_rfl)
theorem sent {n : String} {g : Nat} {text : List UInt8} {r : List (String × DataW Unit)} {W : World} (h : laidMet Tryd.prog ((n, .iface "*errors.errorString" (.ptr (.agg [.lit (.string text)]))) :: r) W)
    (hg : Tryd.prog.globalNamed n = some g) (ht : (Tryd.prog.globals[g]?).map (·.type) = some 24) :
    ∃ (a : Addr) (s : ByteArray), (∃ ct fz, W.heap[g]? = some (.cells #[.iface 97 (.pointer (some a))] ct fz)) ∧ W.cell? a = some (.string s) ∧ s.data.toList = text ∧ ∃ c t, W.heap[a.block]? = some (.cells c t (0, 0)) := by
  obtain ⟨ps, ⟨g0, t0, cs0, f0, p0, q0, hg0, ht0, hv0, hd0, _, e0⟩, _, hrows⟩ := h
  obtain rfl := Option.some.inj (hg.symm.trans hg0)
  obtain rfl := Option.some.inj (ht.symm.trans ht0)
  subst e0
  obtain ⟨l0⟩ := cs0
  have ok0 : ∀ u v, l0 = [.iface u v] → Value.okWide Tryd.prog W .any 0 u v := fun u v e => by
    subst e
    exact (hrows g 0 (by simp [MemPlace.row])).2 u v (by simpa using World.var?_cell hg0 hv0 0)
  obtain ⟨a0, s0, rfl, hc0, hs0, hz0, hp⟩ := errorString_of_trod Tryd.underlying24 row97 Tryd.underlying97 Tryd.underlying117 rfl rfl Tryd.underlying9 (by kernel_rfl) (by kernel_rfl) hd0 ok0
  subst hp
  refine ⟨a0, s0, ?_, hc0, hs0, ?_⟩
  · simp only [World.var?, hg0, Option.bind_some] at hv0
    split at hv0
    · rename_i cs ct fz hh
      obtain rfl := Option.some.inj hv0
      exact ⟨ct, fz, hh⟩
    · cases hv0
  · have hsp : a0.spot = none := by
      cases hq : a0.spot with
      | none => rfl
      | some x =>
        simp only [World.cell?, hq] at hc0
        split at hc0 <;> simp at hc0
    exact (hrows a0.block a0.off (by simp [MemPlace.row])).1
def txt : Nat → List UInt8
  | 1 => [98, 121, 116, 101, 115]
  | 2 => [99, 111, 100, 101, 115]
  | 3 => [116, 101, 120, 116, 115]
  | 4 => [114, 111, 111, 109]
  | _ => [111, 116, 104, 101, 114]
theorem gl_of_laid {W : World} (h : laidMetH Tryd.prog laid1 W) : ∃ A, Gl W.heap A := by
  have h' : laidMet Tryd.prog laidE W ∧ handlesMet Tryd.prog laidHd W := h
  have m1 := h'.1
  have m2 := m1.tail
  have m3 := m2.tail
  have m4 := m3.tail
  have m5 := m4.tail
  obtain ⟨a1, s1, r1, c1, x1, w1⟩ := sent m1 g1 t1
  obtain ⟨a2, s2, r2, c2, x2, w2⟩ := sent m2 g2 t2
  obtain ⟨a3, s3, r3, c3, x3, w3⟩ := sent m3 g3 t3
  obtain ⟨a4, s4, r4, c4, x4, w4⟩ := sent m4 g4 t4
  obtain ⟨a5, s5, r5, c5, x5, w5⟩ := sent m5 g5 t5
  let A : Nat → Addr := fun k => match k with
    | 1 => a1
    | 2 => a2
    | 3 => a3
    | 4 => a4
    | _ => a5
  have hall : ∀ k, 1 ≤ k → k ≤ 5 → (∃ ct fz, W.heap[k - 1]? = some (.cells #[.iface 97 (.pointer (some (A k)))] ct fz)) ∧ (∃ s : ByteArray, W.cell? (A k) = some (.string s) ∧ s.data.toList = txt k) ∧ ∃ c t, W.heap[(A k).block]? = some (.cells c t (0, 0)) := by
    intro k h1 h5
    match k, h1, h5 with
    | 1, _, _ => exact ⟨r1, ⟨s1, c1, x1⟩, w1⟩
    | 2, _, _ => exact ⟨r2, ⟨s2, c2, x2⟩, w2⟩
    | 3, _, _ => exact ⟨r3, ⟨s3, c3, x3⟩, w3⟩
    | 4, _, _ => exact ⟨r4, ⟨s4, c4, x4⟩, w4⟩
    | 5, _, _ => exact ⟨r5, ⟨s5, c5, x5⟩, w5⟩
  have htx : ∀ i, 1 ≤ i → i ≤ 5 → ∀ j, 1 ≤ j → j ≤ 5 → txt i = txt j → i = j := by
    intro i hi1 hi5 j hj1 hj5
    match i, hi1, hi5, j, hj1, hj5 with
    | 1, _, _, 1, _, _ | 2, _, _, 2, _, _ | 3, _, _, 3, _, _ | 4, _, _, 4, _, _ | 5, _, _, 5, _, _ => intro _; rfl
    | 1, _, _, 2, _, _ | 1, _, _, 3, _, _ | 1, _, _, 4, _, _ | 1, _, _, 5, _, _ => decide
    | 2, _, _, 1, _, _ | 2, _, _, 3, _, _ | 2, _, _, 4, _, _ | 2, _, _, 5, _, _ => decide
    | 3, _, _, 1, _, _ | 3, _, _, 2, _, _ | 3, _, _, 4, _, _ | 3, _, _, 5, _, _ => decide
    | 4, _, _, 1, _, _ | 4, _, _, 2, _, _ | 4, _, _, 3, _, _ | 4, _, _, 5, _, _ => decide
    | 5, _, _, 1, _, _ | 5, _, _, 2, _, _ | 5, _, _, 3, _, _ | 5, _, _, 4, _, _ => decide
  refine ⟨A, ⟨?_, fun k h1 h5 => (hall k h1 h5).1, fun k h1 h5 => (hall k h1 h5).2.2, fun i j hi1 hi5 hj1 hj5 e => ?_⟩⟩
  · obtain ⟨name, u, ty, e1, e2, e3, e4, e5⟩ := h'.2 _ (List.mem_singleton.2 rfl)
    have en : name = [101, 114, 114, 111, 114] := (Option.some.inj e1).symm
    subst en
    obtain rfl := Option.some.inj (rtId.symm.trans e2)
    have hm : ty ∈ (List.range 129).filter fun t => Tryd.prog.rowNamed t [101, 114, 114, 111, 114] := List.mem_filter.2 ⟨List.mem_range.2 (by rw [← tsize]; exact e3), e4⟩
    rw [oneRow] at hm
    obtain rfl := List.mem_singleton.1 hm
    have hh : typeHandle Tryd.prog 24 = .pointer (some ⟨6, 24, none⟩) := by kernel_rfl
    rw [hh] at e5
    simp only [World.var?, gE, Option.bind_some] at e5
    split at e5
    · rename_i cs ct fz h9
      obtain rfl := Option.some.inj e5
      exact ⟨ct, fz, h9⟩
    · cases e5
  · obtain ⟨_, ⟨si, ci, xi⟩, _⟩ := hall i hi1 hi5
    obtain ⟨_, ⟨sj, cj, xj⟩, _⟩ := hall j hj1 hj5
    rw [e, cj] at ci
    have es : sj = si := by injection Option.some.inj ci
    exact htx i hi1 hi5 j hj1 hj5 (by rw [← xi, ← xj, es])
end Go.Proofs.YtaofjmaekpjkhaaDoor
