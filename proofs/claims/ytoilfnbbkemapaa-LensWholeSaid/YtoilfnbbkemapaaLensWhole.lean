/- Whatever the lengths and the bits: LensWhole answers true, and the arguments read as they did. No condition. -/
import Derived.Test.YtoilfnbbkemapaaW4
import Derived.Test.YtoilfnbbkemapaaH
namespace Go.Proofs.Ytoilfnbbkemapaa.lensWhole
open Go.ChangeShapes Go.WideShapes Go.ChangeAt Go.RowKit Go.SX
set_option linter.unusedVariables false

theorem own : ownKnob Try.prog.godebug = none := by kernel_rfl
theorem laidOut : laidOutB Try.prog = true := by kernel_rfl

set_option maxRecDepth 100000 in
theorem lifted (os : Os) (started : os.Started) (H : Type) (enc : TypeId × Value → H) :
    ReturnsInHanded {} Try.checked os 5 .any (Rows.lensWholeSpec.pre6 enc Try.prog Try.f5 Rows.lensWholeRow.domain false) (Rows.lensWholeSpec.post enc Try.prog Try.f5 false true false false) := by
  refine returnsInHanded_of_change (C := Try.checked) own started (by kernel_rfl) Try.func5
    (ChangeSpec.witness6 (enc := enc) (C := Try.checked) false ⟨#[], #[.slice none 0 0, .int .u16 0], []⟩ 8 (by kernel_rfl) (by kernel_rfl) (by kernel_rfl) (by kernel_rfl)) ?_
  intro W base args ds gs before hval0 hW hcnd _
  have hval : ∀ (j : Nat) t v, Try.f5.params[j]? = some t → args[j]? = some v → Value.okWide Try.prog W .any base t v := hval0
  have hW' := hW
  obtain ⟨p, q, hA0, hV, rfl, hfz, hnd⟩ := hW
  have hA : DataW.TrodAll enc Try.prog W 0 (fun _ => true) true Try.f5.params.toList args.toList ds p := hA0
  rw [Try.params5] at hA hval
  obtain ⟨v0, vs0, d0, ds0, p0, q0, hargs, rfl, rfl, h0, r0⟩ := trodAll_cons hA
  obtain ⟨v1, vs1, d1, ds1, p1, q1, rfl, rfl, rfl, h1, r1⟩ := trodAll_cons r0
  obtain ⟨rfl, rfl, rfl⟩ := trodAll_nil r1
  obtain rfl : args = #[v0, v1] := by cases args; simp_all
  obtain ⟨rfl, rfl⟩ := trodVars_none hV
  clear hA0 hval0
  obtain ⟨a0, c0, ls, rfl, hlc, hcm, hrd, hwf⟩ := open_intsR Try.underlying22 Try.underlying3 (by kernel_rfl) (hval 0 22 v0 rfl rfl) h0
  obtain ⟨b0, o0, A, _⟩ := Row1.of_rd hrd
  obtain ⟨a1, rfl, rfl, rfl, w1⟩ := open_int Try.underlying33 (hval 1 33 v1 rfl rfl) h1
  have bd1 := bounds_u16 w1
  obtain ⟨p1, rfl⟩ := Int.eq_ofNat_of_zero_le bd1.1
  exact law_end (lenswhole_ct ls a0 b0 o0 c0 W.heap A p1 (by omega)) rfl laidOut (by kernel_rfl) hW' rfl Try.underlying4 rfl rfl rfl

theorem over : Rows.lensWholeRow.holds Try.pinned (OpenSpec.ofChange Rows.lensWholeSpec) :=
  OpenClaim.holds_of_wide 5 Try.f5 rfl rfl rfl rfl rfl rfl rfl ⟨rfl, rfl, rfl, rfl, rfl⟩ rfl rfl rfl rfl rfl (by kernel_rfl) Try.func5 (by kernel_rfl)
    (of_decide_eq_true (by kernel_rfl)) (by unfold Func.isWrapper; first | (rw [if_pos (by decide +kernel)]; kernel_rfl) | (rw [if_neg (by decide +kernel)]; exact ⟨rfl, rfl⟩))
    (fun os started H enc _ => lifted os started H enc)

theorem proved : Rows.LensWholeSaid :=
  over
#print axioms proved
end Go.Proofs.Ytoilfnbbkemapaa.lensWhole
