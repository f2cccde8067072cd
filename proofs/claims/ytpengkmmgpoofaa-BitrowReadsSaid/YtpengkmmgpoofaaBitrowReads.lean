/- Whatever the text, the place and the script: BitrowReads answers true, and the arguments read as they did. No condition. -/
import Derived.Test.YtpengkmmgpoofaaW5
import Derived.Test.YtpengkmmgpoofaaH
import Derived.ChangeMaps5
namespace Go.Proofs.Ytpengkmmgpoofaa.bitrowReads
open Go.ChangeShapes Go.WideShapes Go.ChangeAt Go.ChangeMaps Go.RowKit Go.SX
set_option linter.unusedVariables false

theorem own : ownKnob Try.prog.godebug = none := by kernel_rfl
theorem laidOut : laidOutB Try.prog = true := by kernel_rfl

set_option maxRecDepth 100000 in
theorem lifted (os : Os) (started : os.Started) (H : Type) (enc : TypeId × Value → H) :
    ReturnsInHanded {} Try.checked os 7 .any (Rows.bitrowReadsSpec.pre6 enc Try.prog Try.f7 Rows.bitrowReadsRow.domain false) (Rows.bitrowReadsSpec.post enc Try.prog Try.f7 false true false false) := by
  refine returnsInHanded_of_change (C := Try.checked) own started (by kernel_rfl) Try.func7
    (ChangeSpec.witness6 (enc := enc) (C := Try.checked) false ⟨#[], #[.string ⟨#[]⟩, .int .i64 0, .slice none 0 0], []⟩ 8 (by kernel_rfl) (by kernel_rfl) (by kernel_rfl) (by kernel_rfl)) ?_
  intro W base args ds gs before hval0 hW hcnd _
  have hval : ∀ (j : Nat) t v, Try.f7.params[j]? = some t → args[j]? = some v → Value.okWide Try.prog W .any base t v := hval0
  have hW' := hW
  obtain ⟨p, q, hA0, hV, rfl, hfz, hnd⟩ := hW
  have hA : DataW.TrodAll enc Try.prog W 0 (fun _ => true) true Try.f7.params.toList args.toList ds p := hA0
  rw [Try.params7] at hA hval
  obtain ⟨v0, vs0, d0, ds0, p0, q0, hargs, rfl, rfl, h0, r0⟩ := trodAll_cons hA
  obtain ⟨v1, vs1, d1, ds1, p1, q1, rfl, rfl, rfl, h1, r1⟩ := trodAll_cons r0
  obtain ⟨v2, vs2, d2, ds2, p2, q2, rfl, rfl, rfl, h2, r2⟩ := trodAll_cons r1
  obtain ⟨rfl, rfl, rfl⟩ := trodAll_nil r2
  obtain rfl : args = #[v0, v1, v2] := by cases args; simp_all
  obtain ⟨rfl, rfl⟩ := trodVars_none hV
  clear hA0 hval0
  obtain ⟨y0, rfl, rfl, rfl, w0⟩ := open_string Try.underlying9 (hval 0 9 v0 rfl rfl) h0
  obtain ⟨s0, rfl⟩ : ∃ l : List UInt8, y0 = ⟨l.toArray⟩ := ⟨y0.data.toList, by cases y0; simp⟩
  obtain ⟨a1, rfl, rfl, rfl, w1⟩ := open_int Try.underlying3 (hval 1 3 v1 rfl rfl) h1
  have bd1 := bounds_i64 w1
  obtain ⟨a2, c2, xs, rfl, hxc, hcm, hrd, hQ⟩ := open_rows (sz := 2) opr (fun _ => True) Try.underlying49 (by kernel_rfl) (by decide) (hval 2 49 v2 rfl rfl) h2 (fun m cs y hl hy => by
    obtain ⟨m', hf⟩ := trod_fields Try.underlying54 hy
    obtain ⟨y0, e0⟩ := hf 0 _ rfl
    obtain ⟨y1, e1⟩ := hf 1 _ rfl
    obtain ⟨k, g0, _⟩ := field_int Try.underlying3 (by kernel_rfl) e0
    obtain ⟨n, g1, _⟩ := field_int Try.underlying3 (by kernel_rfl) e1
    match cs, hl with
    | [q0, q1], _ =>
      have g0 : q0 = .int .i64 k := Option.some.inj g0
      have g1 : q1 = .int .i64 n := Option.some.inj g1
      exact ⟨⟨k, n⟩, by rw [g0, g1], trivial⟩)
  exact law_end (reads_ct s0 a1 a2 c2 xs W.heap hrd ⟨hxc, hcm⟩) rfl laidOut (by kernel_rfl) hW' rfl Try.underlying4 rfl rfl rfl

theorem over : Rows.bitrowReadsRow.holds Try.pinned (OpenSpec.ofChange Rows.bitrowReadsSpec) :=
  OpenClaim.holds_of_wide 7 Try.f7 rfl rfl rfl rfl rfl rfl rfl ⟨rfl, rfl, rfl, rfl, rfl⟩ rfl rfl rfl rfl rfl (by kernel_rfl) Try.func7 (by kernel_rfl)
    (of_decide_eq_true (by kernel_rfl)) (by unfold Func.isWrapper; first | (rw [if_pos (by decide +kernel)]; kernel_rfl) | (rw [if_neg (by decide +kernel)]; exact ⟨rfl, rfl⟩))
    (fun os started H enc _ => lifted os started H enc)

theorem proved : Rows.BitrowReadsSaid :=
  over
#print axioms proved
end Go.Proofs.Ytpengkmmgpoofaa.bitrowReads
