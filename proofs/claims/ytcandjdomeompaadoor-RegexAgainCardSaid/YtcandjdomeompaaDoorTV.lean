/- What the row's laid table gives; the openings of the arguments. -/
import Derived.Test.YtcandjdomeompaaDoorTG
import Derived.LaidMore
import Derived.OpenShut
import Derived.Stop.Joined
import Derived.ProofKit
namespace Go.Proofs.YtcandjdomeompaaDoor
open Go.ChangeShapes Go.WideShapes Go.ChangeAt Go.RowKit Go.SX
set_option linter.unusedVariables false
set_option maxRecDepth 100000
abbrev laid1 : List (String × DataW Unit) := [("math/bits.deBruijn64tab", Rows.laid_math_bits_deBruijn64tab)]
theorem own : ownKnob Tryd.prog.godebug = none := by kernel_rfl
theorem laidOut : laidOutB Tryd.prog = true := by kernel_rfl
theorem gTab : Tryd.prog.globalNamed "math/bits.deBruijn64tab" = some 0 := by kernel_rfl
theorem tTab : (Tryd.prog.globals[0]?).map (·.type) = some 75 := by kernel_rfl
theorem door_met (os : Os) (args : Array Value) : laidMetH Tryd.prog laid1 ((World.doorLaid Tryd.prog 400 os).forCall (fun _ _ => 0) ⟨#[], args, []⟩).memory :=
  laidMetH_of_parts3 (fuel := 8) (laidMet_of_run' 8 (by kernel_rfl) (by kernel_rfl)) (by kernel_rfl) (by kernel_rfl)
theorem laid_eq : (Rows.laid_math_bits_deBruijn64tab : DataW Unit) = .agg (Go.Chr.tab.map fun (w : Nat) => .lit (.int .u8 (w : Int))) := rfl
theorem tab_of_laid {W : World} (h : laidMetH Tryd.prog laid1 W) : Tab W.heap := by
  rw [MakeChecks.laidMetH_plain _ _ _ (by kernel_rfl)] at h
  obtain ⟨ps, ⟨g0, t0, cs0, f0, p0, q0, hg0, ht0, hv0, hd0, _, _⟩, _, _⟩ := h
  obtain rfl := Option.some.inj (gTab.symm.trans hg0)
  obtain rfl := Option.some.inj (tTab.symm.trans ht0)
  obtain ⟨xs, m, _, hx, hl, hn, hel⟩ := DataW.trod_array Tryd.underlying75 hd0
  have hc5 : Tryd.prog.cellsOf 5 = 1 := by kernel_rfl
  have hc75 : Tryd.prog.cellsOf 75 = 64 := by kernel_rfl
  have hrow : cs0 = (Go.Chr.tab.map fun (w : Nat) => Value.int .u8 (w : Int)).toArray := by
    apply Array.ext'
    have hx1 := congrArg Prod.fst hx
    rw [laid_eq] at hx1
    have hx2 : Go.Chr.tab.map (fun (w : Nat) => DataW.lit (.int .u8 (w : Int))) = xs.map (·.1) := DataW.agg.inj hx1
    rw [hc75] at hl
    show cs0.toList = Go.Chr.tab.map fun (w : Nat) => Value.int .u8 (w : Int)
    apply List.ext_getElem?
    intro i
    by_cases hi : i < 64
    · have e := hel i hi
      have hxi : xs[i]? = some xs[i] := List.getElem?_eq_getElem (by omega)
      rw [hxi] at e
      have hti : Go.Chr.tab[i]? = some (Go.Chr.tab[i]'hi) := List.getElem?_eq_getElem hi
      obtain ⟨n, h1, h2, _⟩ := DataW.trod_int Tryd.underlying5 e
      rw [hc5, Nat.mul_one] at h1
      have h3 := congrArg (·[i]?) hx2
      simp only [List.getElem?_map, hti, hxi, Option.map_some] at h3
      have h3 := Option.some.inj h3
      rw [h2] at h3
      have hn2 : ((Go.Chr.tab[i]'hi : Nat) : Int) = n := by injection h3 with h3; injection h3
      rw [one_get h1, List.getElem?_map, hti, Option.map_some, hn2]
    · rw [List.getElem?_eq_none (by omega), List.getElem?_eq_none (by show 64 ≤ i; omega)]
  simp only [World.var?, gTab, Option.bind_some] at hv0
  split at hv0
  · rename_i cs ct fz hh
    obtain rfl := Option.some.inj hv0
    exact ⟨ct, fz, by rw [hh, hrow]⟩
  · cases hv0
/-- A row of 64-bit numbers. -/
theorem words_of {P : Program} {HT : Type} {enc : TypeId × Value → HT} {w : World} {base : Nat} {sp : Nat → Bool} {held : Bool} {m n : Nat} {e : TypeId} (he : P.underlying e = some (.int .u64)) (hc : P.cellsOf e = 1) {cs : List Value} (hl : cs.length = n)
    (h : ∀ i, i < n → ∃ x, DataW.trod enc P w base sp held m e ((cs.drop (i * P.cellsOf e)).take (P.cellsOf e)) = some x) : ∃ ws : List Nat, ws.length = n ∧ (∀ x ∈ ws, x < 2 ^ 64) ∧ cs = uv ws := by
  induction n generalizing cs with
  | zero => exact ⟨[], rfl, by simp, List.eq_nil_of_length_eq_zero hl⟩
  | succ n ih =>
    match cs, hl with
    | c :: cs, hl =>
      obtain ⟨x, hx⟩ := h 0 (by omega)
      obtain ⟨k, h1, h2⟩ := field_int he hc hx
      rw [hc] at h1
      have h1 : c = .int .u64 k := Option.some.inj h1
      have hb := bounds_u64 h2
      obtain ⟨ws, w1, w2, w3⟩ := ih (cs := cs) (by simpa using hl) (fun i hi => by
        obtain ⟨y, hy⟩ := h (i + 1) (by omega)
        refine ⟨y, ?_⟩
        rw [hc] at hy ⊢
        rw [Nat.mul_one] at hy ⊢
        exact hy)
      obtain ⟨k', rfl⟩ := Int.eq_ofNat_of_zero_le hb.1
      exact ⟨k' :: ws, by simp [w1], by
        intro y hy
        rcases List.mem_cons.1 hy with rfl | hy
        · omega
        · exact w2 y hy, by rw [h1, w3]; rfl⟩
theorem open_set {HT : Type} {enc : TypeId × Value → HT} {P : Program} {w : World} {base fuel : Nat} {sp : Nat → Bool} {held : Bool} {t e : TypeId} {cs : List Value} {x : DataW HT × List MemPlace} (ht : P.underlying t = some (.array 4 e)) (he : P.underlying e = some (.int .u64)) (hc : P.cellsOf e = 1) (h4 : P.cellsOf t = 4)
    (h : DataW.trod enc P w base sp held fuel t cs = some x) : ∃ ws, Ws ws ∧ cs = uv ws := by
  obtain ⟨xs, m, _, _, hl, hn, hel⟩ := DataW.trod_array ht h
  obtain ⟨ws, w1, w2, w3⟩ := words_of he hc (hl.trans h4) (fun i hi => ⟨_, (hel i hi).trans (List.getElem?_eq_getElem (by omega))⟩)
  exact ⟨ws, ⟨w1, w2⟩, w3⟩
/-- A node of an argument's. -/
theorem open_node {HT : Type} {enc : TypeId × Value → HT} {w : World} {base fuel : Nat} {sp : Nat → Bool} {held : Bool} {cs : List Value} {x : DataW HT × List MemPlace} (hl : cs.length = 8)
    (h : DataW.trod enc Tryd.prog w base sp held fuel 38 cs = some x) : ∃ y, cs = ncel y ∧ True := by
  obtain ⟨m', hf⟩ := trod_fields Tryd.underlying38 h
  obtain ⟨y0, e0⟩ := hf 0 _ rfl
  obtain ⟨y1, e1⟩ := hf 1 _ rfl
  obtain ⟨y2, e2⟩ := hf 2 _ rfl
  obtain ⟨y3, e3⟩ := hf 3 _ rfl
  obtain ⟨y4, e4⟩ := hf 4 _ rfl
  obtain ⟨k0, g0, _⟩ := field_int Tryd.underlying3 (by kernel_rfl) e0
  obtain ⟨k1, g1, _⟩ := field_int Tryd.underlying3 (by kernel_rfl) e1
  obtain ⟨k3, g3, _⟩ := field_int Tryd.underlying3 (by kernel_rfl) e3
  obtain ⟨k4, g4, _⟩ := field_int Tryd.underlying3 (by kernel_rfl) e4
  obtain ⟨ws, w1, w2⟩ := open_set Tryd.underlying36 Tryd.underlying34 (by kernel_rfl) (by kernel_rfl) e2
  have w2 : (cs.drop 2).take (Tryd.prog.cellsOf 36) = uv ws := w2
  rw [show Tryd.prog.cellsOf 36 = 4 by kernel_rfl, uv_four w1] at w2
  match cs, hl with
  | [q0, q1, q2, q3, q4, q5, q6, q7], _ =>
    have g0 : q0 = i64 k0 := Option.some.inj g0
    have g1 : q1 = i64 k1 := Option.some.inj g1
    have g3 : q6 = i64 k3 := Option.some.inj g3
    have g4 : q7 = i64 k4 := Option.some.inj g4
    have w2 : [q2, q3, q4, q5] = [Value.int .u64 (wd ws 0 : Nat), .int .u64 (wd ws 1 : Nat), .int .u64 (wd ws 2 : Nat), .int .u64 (wd ws 3 : Nat)] := w2
    injection w2 with w3 w2
    injection w2 with w4 w2
    injection w2 with w5 w2
    injection w2 with w6 _
    exact ⟨⟨k0, k1, ⟨ws, w1⟩, k3, k4⟩, by rw [g0, g1, g3, g4, w3, w4, w5, w6]; rfl, trivial⟩
end Go.Proofs.YtcandjdomeompaaDoor
