/- What the row's laid table gives; the openings of the arguments. -/
import Derived.Test.YtgdicncflgffnaaDoorW9
import Derived.LaidMore
import Derived.OpenShut
import Derived.Stop.Joined
import Derived.ProofKit
namespace Go.Proofs.YtgdicncflgffnaaDoor
open Go.ChangeShapes Go.WideShapes Go.ChangeAt Go.RowKit Go.SX
set_option linter.unusedVariables false
set_option maxRecDepth 100000
abbrev laid1 : List (String × DataW Unit) := [("math/bits.deBruijn64tab", Rows.laid_math_bits_deBruijn64tab)]
theorem own : ownKnob Tryd.prog.godebug = none := by kernel_rfl
theorem laidOut : laidOutB Tryd.prog = true := by kernel_rfl
theorem gTab : Tryd.prog.globalNamed "math/bits.deBruijn64tab" = some 0 := by kernel_rfl
theorem tTab : (Tryd.prog.globals[0]?).map (·.type) = some 45 := by kernel_rfl
theorem door_met (os : Os) (args : Array Value) : laidMetH Tryd.prog laid1 ((World.doorLaid Tryd.prog 400 os).forCall (fun _ _ => 0) ⟨#[], args, []⟩).memory :=
  laidMetH_of_parts3 (fuel := 8) (laidMet_of_run' 8 (by kernel_rfl) (by kernel_rfl)) (by kernel_rfl) (by kernel_rfl)
theorem laid_eq : (Rows.laid_math_bits_deBruijn64tab : DataW Unit) = .agg (Go.Chr.tab.map fun (w : Nat) => .lit (.int .u8 (w : Int))) := rfl
theorem tab_of_laid {W : World} (h : laidMetH Tryd.prog laid1 W) : Tab W.heap := by
  rw [MakeChecks.laidMetH_plain _ _ _ (by kernel_rfl)] at h
  obtain ⟨ps, ⟨g0, t0, cs0, f0, p0, q0, hg0, ht0, hv0, hd0, _, _⟩, _, _⟩ := h
  obtain rfl := Option.some.inj (gTab.symm.trans hg0)
  obtain rfl := Option.some.inj (tTab.symm.trans ht0)
  obtain ⟨xs, m, _, hx, hl, hn, hel⟩ := DataW.trod_array Tryd.underlying45 hd0
  have hc5 : Tryd.prog.cellsOf 5 = 1 := by kernel_rfl
  have hc45 : Tryd.prog.cellsOf 45 = 64 := by kernel_rfl
  have hrow : cs0 = (Go.Chr.tab.map fun (w : Nat) => Value.int .u8 (w : Int)).toArray := by
    apply Array.ext'
    have hx1 := congrArg Prod.fst hx
    rw [laid_eq] at hx1
    have hx2 : Go.Chr.tab.map (fun (w : Nat) => DataW.lit (.int .u8 (w : Int))) = xs.map (·.1) := DataW.agg.inj hx1
    rw [hc45] at hl
    show cs0.toList = Go.Chr.tab.map fun (w : Nat) => Value.int .u8 (w : Int)
    apply List.ext_getElem?
    intro i
    by_cases hi : i < 64
    · have e := hel i hi
      have hxi : xs[i]? = some xs[i] := List.getElem?_eq_getElem (by omega)
      rw [hxi] at e
      have hti : Go.Chr.tab[i]? = some (Go.Chr.tab[i]'hi) := List.getElem?_eq_getElem hi
      obtain ⟨n, h1, h2, _⟩ := DataW.trod_int Tryd.underlying5 e
      rw [hc5, Nat.mul_one] at h1
      have h3 := congrArg (·[i]?) hx2
      simp only [List.getElem?_map, hti, hxi, Option.map_some] at h3
      have h3 := Option.some.inj h3
      rw [h2] at h3
      have hn2 : ((Go.Chr.tab[i]'hi : Nat) : Int) = n := by injection h3 with h3; injection h3
      rw [one_get h1, List.getElem?_map, hti, Option.map_some, hn2]
    · rw [List.getElem?_eq_none (by omega), List.getElem?_eq_none (by show 64 ≤ i; omega)]
  simp only [World.var?, gTab, Option.bind_some] at hv0
  split at hv0
  · rename_i cs ct fz hh
    obtain rfl := Option.some.inj hv0
    exact ⟨ct, fz, by rw [hh, hrow]⟩
  · cases hv0
/-- A row of 64-bit numbers. -/
theorem words_of {P : Program} {HT : Type} {enc : TypeId × Value → HT} {w : World} {base : Nat} {sp : Nat → Bool} {held : Bool} {m n : Nat} {e : TypeId} (he : P.underlying e = some (.int .u64)) (hc : P.cellsOf e = 1) {cs : List Value} (hl : cs.length = n)
    (h : ∀ i, i < n → ∃ x, DataW.trod enc P w base sp held m e ((cs.drop (i * P.cellsOf e)).take (P.cellsOf e)) = some x) : ∃ ws : List Nat, ws.length = n ∧ (∀ x ∈ ws, x < 2 ^ 64) ∧ cs = uv ws := by
  induction n generalizing cs with
  | zero => exact ⟨[], rfl, by simp, List.eq_nil_of_length_eq_zero hl⟩
  | succ n ih =>
    match cs, hl with
    | c :: cs, hl =>
      obtain ⟨x, hx⟩ := h 0 (by omega)
      obtain ⟨k, h1, h2⟩ := field_int he hc hx
      rw [hc] at h1
      have h1 : c = .int .u64 k := Option.some.inj h1
      have hb := bounds_u64 h2
      obtain ⟨ws, w1, w2, w3⟩ := ih (cs := cs) (by simpa using hl) (fun i hi => by
        obtain ⟨y, hy⟩ := h (i + 1) (by omega)
        refine ⟨y, ?_⟩
        rw [hc] at hy ⊢
        rw [Nat.mul_one] at hy ⊢
        exact hy)
      obtain ⟨k', rfl⟩ := Int.eq_ofNat_of_zero_le hb.1
      exact ⟨k' :: ws, by simp [w1], by
        intro y hy
        rcases List.mem_cons.1 hy with rfl | hy
        · omega
        · exact w2 y hy, by rw [h1, w3]; rfl⟩
theorem open_set {HT : Type} {enc : TypeId × Value → HT} {P : Program} {w : World} {base fuel : Nat} {sp : Nat → Bool} {held : Bool} {t e : TypeId} {cs : List Value} {x : DataW HT × List MemPlace} (ht : P.underlying t = some (.array 4 e)) (he : P.underlying e = some (.int .u64)) (hc : P.cellsOf e = 1) (h4 : P.cellsOf t = 4)
    (h : DataW.trod enc P w base sp held fuel t cs = some x) : ∃ ws, Ws ws ∧ cs = uv ws := by
  obtain ⟨xs, m, _, _, hl, hn, hel⟩ := DataW.trod_array ht h
  obtain ⟨ws, w1, w2, w3⟩ := words_of he hc (hl.trans h4) (fun i hi => ⟨_, (hel i hi).trans (List.getElem?_eq_getElem (by omega))⟩)
  exact ⟨ws, ⟨w1, w2⟩, w3⟩
end Go.Proofs.YtgdicncflgffnaaDoor
