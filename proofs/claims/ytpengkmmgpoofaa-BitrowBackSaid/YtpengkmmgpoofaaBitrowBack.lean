/- Whatever the script: BitrowBack answers true, and the argument reads as it did. No condition. -/
import Derived.Test.YtpengkmmgpoofaaW8
import Derived.Test.YtpengkmmgpoofaaH
import Derived.ChangeMaps5
namespace Go.Proofs.Ytpengkmmgpoofaa.bitrowBack
open Go.ChangeShapes Go.WideShapes Go.ChangeAt Go.ChangeMaps Go.RowKit Go.SX
set_option linter.unusedVariables false

theorem own : ownKnob Try.prog.godebug = none := by kernel_rfl
theorem laidOut : laidOutB Try.prog = true := by kernel_rfl

set_option maxRecDepth 100000 in
theorem lifted (os : Os) (started : os.Started) (H : Type) (enc : TypeId × Value → H) :
    ReturnsInHanded {} Try.checked os 4 .any (Rows.bitrowBackSpec.pre6 enc Try.prog Try.f4 Rows.bitrowBackRow.domain false) (Rows.bitrowBackSpec.post enc Try.prog Try.f4 false true false false) := by
  refine returnsInHanded_of_change (C := Try.checked) own started (by kernel_rfl) Try.func4
    (ChangeSpec.witness6 (enc := enc) (C := Try.checked) false ⟨#[], #[.slice none 0 0], []⟩ 8 (by kernel_rfl) (by kernel_rfl) (by kernel_rfl) (by kernel_rfl)) ?_
  intro W base args ds gs before hval0 hW hcnd _
  have hval : ∀ (j : Nat) t v, Try.f4.params[j]? = some t → args[j]? = some v → Value.okWide Try.prog W .any base t v := hval0
  have hW' := hW
  obtain ⟨p, q, hA0, hV, rfl, hfz, hnd⟩ := hW
  have hA : DataW.TrodAll enc Try.prog W 0 (fun _ => true) true Try.f4.params.toList args.toList ds p := hA0
  rw [Try.params4] at hA hval
  obtain ⟨v0, vs0, d0, ds0, p0, q0, hargs, rfl, rfl, h0, r0⟩ := trodAll_cons hA
  obtain ⟨rfl, rfl, rfl⟩ := trodAll_nil r0
  obtain rfl : args = #[v0] := by cases args; simp_all
  obtain ⟨rfl, rfl⟩ := trodVars_none hV
  clear hA0 hval0
  obtain ⟨a0, c0, xs, rfl, hxc, hcm, hrd, hQ⟩ := open_rows (sz := 4) opa (fun _ => True) Try.underlying26 (by kernel_rfl) (by decide) (hval 0 26 v0 rfl rfl) h0 (fun m cs y hl hy => by
    obtain ⟨m', hf⟩ := trod_fields Try.underlying31 hy
    obtain ⟨y0, e0⟩ := hf 0 _ rfl
    obtain ⟨y1, e1⟩ := hf 1 _ rfl
    obtain ⟨y2, e2⟩ := hf 2 _ rfl
    obtain ⟨y3, e3⟩ := hf 3 _ rfl
    obtain ⟨k, g0, _⟩ := field_int Try.underlying3 (by kernel_rfl) e0
    obtain ⟨v, g1, _⟩ := field_int Try.underlying3 (by kernel_rfl) e1
    obtain ⟨n, g2, _⟩ := field_int Try.underlying3 (by kernel_rfl) e2
    obtain ⟨s, g3, _⟩ := field_str Try.underlying9 (by kernel_rfl) e3
    match cs, hl with
    | [q0, q1, q2, q3], _ =>
      have g0 : q0 = .int .i64 k := Option.some.inj g0
      have g1 : q1 = .int .i64 v := Option.some.inj g1
      have g2 : q2 = .int .i64 n := Option.some.inj g2
      have g3 : q3 = .string ⟨s.toArray⟩ := Option.some.inj g3
      exact ⟨⟨k, v, n, s⟩, by rw [g0, g1, g2, g3], trivial⟩)
  exact law_end (back_ct a0 c0 xs W.heap hrd ⟨hxc, hcm⟩) rfl laidOut (by kernel_rfl) hW' rfl Try.underlying4 rfl rfl rfl

theorem over : Rows.bitrowBackRow.holds Try.pinned (OpenSpec.ofChange Rows.bitrowBackSpec) :=
  OpenClaim.holds_of_wide 4 Try.f4 rfl rfl rfl rfl rfl rfl rfl ⟨rfl, rfl, rfl, rfl, rfl⟩ rfl rfl rfl rfl rfl (by kernel_rfl) Try.func4 (by kernel_rfl)
    (of_decide_eq_true (by kernel_rfl)) (by unfold Func.isWrapper; first | (rw [if_pos (by decide +kernel)]; kernel_rfl) | (rw [if_neg (by decide +kernel)]; exact ⟨rfl, rfl⟩))
    (fun os started H enc _ => lifted os started H enc)

theorem proved : Rows.BitrowBackSaid :=
  over
#print axioms proved
end Go.Proofs.Ytpengkmmgpoofaa.bitrowBack
