/- Whatever the text and the script: WindowPlays answers true, and the arguments read as they did. No condition. -/
import Derived.Test.YtebanilfapapbaaW4
import Derived.Test.YtebanilfapapbaaH
import Derived.ChangeMaps5
namespace Go.Proofs.Ytebanilfapapbaa.windowPlays
open Go.ChangeShapes Go.WideShapes Go.ChangeAt Go.ChangeMaps Go.RowKit Go.SX
set_option linter.unusedVariables false

theorem own : ownKnob Try.prog.godebug = none := by kernel_rfl
theorem laidOut : laidOutB Try.prog = true := by kernel_rfl

set_option maxRecDepth 100000 in
theorem lifted (os : Os) (started : os.Started) (H : Type) (enc : TypeId × Value → H) :
    ReturnsInHanded {} Try.checked os 5 .any (Rows.windowPlaysSpec.pre6 enc Try.prog Try.f5 Rows.windowPlaysRow.domain false) (Rows.windowPlaysSpec.post enc Try.prog Try.f5 false true false false) := by
  refine returnsInHanded_of_change (C := Try.checked) own started (by kernel_rfl) Try.func5
    (ChangeSpec.witness6 (enc := enc) (C := Try.checked) false ⟨#[], #[.string ⟨#[]⟩, .slice none 0 0], []⟩ 8 (by kernel_rfl) (by kernel_rfl) (by kernel_rfl) (by kernel_rfl)) ?_
  intro W base args ds gs before hval0 hW hcnd _
  have hval : ∀ (j : Nat) t v, Try.f5.params[j]? = some t → args[j]? = some v → Value.okWide Try.prog W .any base t v := hval0
  have hW' := hW
  obtain ⟨p, q, hA0, hV, rfl, hfz, hnd⟩ := hW
  have hA : DataW.TrodAll enc Try.prog W 0 (fun _ => true) true Try.f5.params.toList args.toList ds p := hA0
  rw [Try.params5] at hA hval
  obtain ⟨v0, vs0, d0, ds0, p0, q0, hargs, rfl, rfl, h0, r0⟩ := trodAll_cons hA
  obtain ⟨v1, vs1, d1, ds1, p1, q1, rfl, rfl, rfl, h1, r1⟩ := trodAll_cons r0
  obtain ⟨rfl, rfl, rfl⟩ := trodAll_nil r1
  obtain rfl : args = #[v0, v1] := by cases args; simp_all
  obtain ⟨rfl, rfl⟩ := trodVars_none hV
  clear hA0 hval0
  obtain ⟨y0, rfl, rfl, rfl, w0⟩ := open_string Try.underlying9 (hval 0 9 v0 rfl rfl) h0
  obtain ⟨s0, rfl⟩ : ∃ l : List UInt8, y0 = ⟨l.toArray⟩ := ⟨y0.data.toList, by cases y0; simp⟩
  obtain ⟨a1, c1, xs, rfl, hxc, hcm, hrd, hQ⟩ := open_rows (sz := 4) opc (fun x => -9223372036854775808 ≤ x.n ∧ x.n ≤ 9223372036854775807) Try.underlying35 (by kernel_rfl) (by decide) (hval 1 35 v1 rfl rfl) h1 (fun m cs y hl hy => by
    obtain ⟨m', hf⟩ := trod_fields Try.underlying40 hy
    obtain ⟨y0, e0⟩ := hf 0 _ rfl
    obtain ⟨y1, e1⟩ := hf 1 _ rfl
    obtain ⟨y2, e2⟩ := hf 2 _ rfl
    obtain ⟨y3, e3⟩ := hf 3 _ rfl
    obtain ⟨k, g0, _⟩ := field_int Try.underlying3 (by kernel_rfl) e0
    obtain ⟨s, g1, _⟩ := field_str Try.underlying9 (by kernel_rfl) e1
    obtain ⟨d, g2, _⟩ := field_int Try.underlying3 (by kernel_rfl) e2
    obtain ⟨n, g3, w3⟩ := field_int Try.underlying3 (by kernel_rfl) e3
    have b3 := bounds_i64 w3
    match cs, hl with
    | [q0, q1, q2, q3], _ =>
      have g0 : q0 = .int .i64 k := Option.some.inj g0
      have g1 : q1 = .string ⟨s.toArray⟩ := Option.some.inj g1
      have g2 : q2 = .int .i64 d := Option.some.inj g2
      have g3 : q3 = .int .i64 n := Option.some.inj g3
      exact ⟨⟨k, s, d, n⟩, by rw [g0, g1, g2, g3], by show _ ∧ _; omega⟩)
  exact law_end (plays_ct s0 a1 c1 xs W.heap hrd ⟨hxc, hcm⟩ hQ) rfl laidOut (by kernel_rfl) hW' rfl Try.underlying4 rfl rfl rfl

theorem over : Rows.windowPlaysRow.holds Try.pinned (OpenSpec.ofChange Rows.windowPlaysSpec) :=
  OpenClaim.holds_of_wide 5 Try.f5 rfl rfl rfl rfl rfl rfl rfl ⟨rfl, rfl, rfl, rfl, rfl⟩ rfl rfl rfl rfl rfl (by kernel_rfl) Try.func5 (by kernel_rfl)
    (of_decide_eq_true (by kernel_rfl)) (by unfold Func.isWrapper; first | (rw [if_pos (by decide +kernel)]; kernel_rfl) | (rw [if_neg (by decide +kernel)]; exact ⟨rfl, rfl⟩))
    (fun os started H enc _ => lifted os started H enc)

theorem proved : Rows.WindowPlaysSaid :=
  over
#print axioms proved
end Go.Proofs.Ytebanilfapapbaa.windowPlays
