/- Whatever the text, the place and the parts: BitrowParts answers true, and the arguments read as they did. No condition. -/
import Derived.Test.YtpengkmmgpoofaaW5
import Derived.Test.YtpengkmmgpoofaaH
import Derived.ChangeMaps5
namespace Go.Proofs.Ytpengkmmgpoofaa.bitrowParts
open Go.ChangeShapes Go.WideShapes Go.ChangeAt Go.ChangeMaps Go.RowKit Go.SX
set_option linter.unusedVariables false

theorem own : ownKnob Try.prog.godebug = none := by kernel_rfl
theorem laidOut : laidOutB Try.prog = true := by kernel_rfl

set_option maxRecDepth 100000 in
theorem lifted (os : Os) (started : os.Started) (H : Type) (enc : TypeId × Value → H) :
    ReturnsInHanded {} Try.checked os 5 .any (Rows.bitrowPartsSpec.pre6 enc Try.prog Try.f5 Rows.bitrowPartsRow.domain false) (Rows.bitrowPartsSpec.post enc Try.prog Try.f5 false true false false) := by
  refine returnsInHanded_of_change (C := Try.checked) own started (by kernel_rfl) Try.func5
    (ChangeSpec.witness6 (enc := enc) (C := Try.checked) false ⟨#[], #[.string ⟨#[]⟩, .int .i64 0, .agg #[.int .u8 0, .int .u8 0]], []⟩ 8 (by kernel_rfl) (by kernel_rfl) (by kernel_rfl) (by kernel_rfl)) ?_
  intro W base args ds gs before hval0 hW hcnd _
  have hval : ∀ (j : Nat) t v, Try.f5.params[j]? = some t → args[j]? = some v → Value.okWide Try.prog W .any base t v := hval0
  have hW' := hW
  obtain ⟨p, q, hA0, hV, rfl, hfz, hnd⟩ := hW
  have hA : DataW.TrodAll enc Try.prog W 0 (fun _ => true) true Try.f5.params.toList args.toList ds p := hA0
  rw [Try.params5] at hA hval
  obtain ⟨v0, vs0, d0, ds0, p0, q0, hargs, rfl, rfl, h0, r0⟩ := trodAll_cons hA
  obtain ⟨v1, vs1, d1, ds1, p1, q1, rfl, rfl, rfl, h1, r1⟩ := trodAll_cons r0
  obtain ⟨v2, vs2, d2, ds2, p2, q2, rfl, rfl, rfl, h2, r2⟩ := trodAll_cons r1
  obtain ⟨rfl, rfl, rfl⟩ := trodAll_nil r2
  obtain rfl : args = #[v0, v1, v2] := by cases args; simp_all
  obtain ⟨rfl, rfl⟩ := trodVars_none hV
  clear hA0 hval0
  obtain ⟨y0, rfl, rfl, rfl, w0⟩ := open_string Try.underlying9 (hval 0 9 v0 rfl rfl) h0
  obtain ⟨s0, rfl⟩ : ∃ l : List UInt8, y0 = ⟨l.toArray⟩ := ⟨y0.data.toList, by cases y0; simp⟩
  obtain ⟨a1, rfl, rfl, rfl, w1⟩ := open_int Try.underlying3 (hval 1 3 v1 rfl rfl) h1
  have bd1 := bounds_i64 w1
  obtain ⟨cs2, rfl, hsz2, _⟩ : ∃ cs, v2 = .agg cs ∧ cs.size = Try.prog.cellsOf 42 ∧ True := by
    have h := hval 2 42 v2 rfl rfl
    simp only [Value.okWide, Try.underlying42] at h
    obtain ⟨cs, e1, e2, _⟩ := h
    exact ⟨cs, e1, e2, trivial⟩
  obtain ⟨pa, pb, hpa, hpb, rfl⟩ : ∃ pa pb : Nat, pa ≤ 255 ∧ pb ≤ 255 ∧ cs2 = [Value.int .u8 (pa : Int), Value.int .u8 (pb : Int)].toArray := by
    obtain ⟨fuel, hf⟩ := h2
    obtain ⟨xs, m, _, _, hl, hn, hel⟩ := DataW.trod_array Try.underlying42 hf
    have hc5 : Try.prog.cellsOf 5 = 1 := by kernel_rfl
    have hc42 : Try.prog.cellsOf 42 = 2 := by kernel_rfl
    have e0 := hel 0 (by decide)
    have e1 := hel 1 (by decide)
    rw [List.getElem?_eq_getElem (by omega)] at e0 e1
    obtain ⟨n0, g0, w0'⟩ := field_int Try.underlying5 hc5 e0
    obtain ⟨n1, g1, w1'⟩ := field_int Try.underlying5 hc5 e1
    have b0 := bounds_u8 w0'
    have b1 := bounds_u8 w1'
    obtain ⟨pa, rfl⟩ := Int.eq_ofNat_of_zero_le b0.1
    obtain ⟨pb, rfl⟩ := Int.eq_ofNat_of_zero_le b1.1
    refine ⟨pa, pb, by omega, by omega, ?_⟩
    rw [hc5] at g0 g1
    have hl2 : cs2.toList.length = 2 := by rw [Array.length_toList, hsz2, hc42]
    apply Array.ext'
    match hcs : cs2.toList, hl2 with
    | [q0, q1], _ =>
      have g0 : (Value.agg cs2).cells.toList[0]? = _ := g0
      have g1 : (Value.agg cs2).cells.toList[1]? = _ := g1
      simp only [Value.cells, hcs] at g0 g1
      have g0 : q0 = _ := Option.some.inj g0
      have g1 : q1 = _ := Option.some.inj g1
      rw [g0, g1]
  exact law_end (parts_ct s0 a1 pa pb W.heap (by omega) hpa hpb) rfl laidOut (by kernel_rfl) hW' rfl Try.underlying4 rfl rfl rfl

theorem over : Rows.bitrowPartsRow.holds Try.pinned (OpenSpec.ofChange Rows.bitrowPartsSpec) :=
  OpenClaim.holds_of_wide 5 Try.f5 rfl rfl rfl rfl rfl rfl rfl ⟨rfl, rfl, rfl, rfl, rfl⟩ rfl rfl rfl rfl rfl (by kernel_rfl) Try.func5 (by kernel_rfl)
    (of_decide_eq_true (by kernel_rfl)) (by unfold Func.isWrapper; first | (rw [if_pos (by decide +kernel)]; kernel_rfl) | (rw [if_neg (by decide +kernel)]; exact ⟨rfl, rfl⟩))
    (fun os started H enc _ => lifted os started H enc)

theorem proved : Rows.BitrowPartsSaid :=
  over
#print axioms proved
end Go.Proofs.Ytpengkmmgpoofaa.bitrowParts
