/- Whatever the innermost link and the links around it: BlameInner answers true, and the arguments read as they did. No condition but the tied variables. -/
import Derived.Test.YtaofjmaekpjkhaaDoorV
import Derived.Test.YtaofjmaekpjkhaaDoorH
import Derived.Test.YtaofjmaekpjkhaaDoorTie
import Derived.Test.YtaofjmaekpjkhaaDoorCards
import Derived.SevenTiedAt
import Derived.ChangeMaps5
namespace Go.Proofs.YtaofjmaekpjkhaaDoor.blameInner
open Go.ChangeShapes Go.WideShapes Go.ChangeAt Go.ChangeMaps Go.RowKit Go.SX
set_option linter.unusedVariables false

set_option maxRecDepth 100000 in
theorem lifted (os : Os) (started : os.Started) (H : Type) (enc : TypeId × Value → H) :
    ReturnsInHanded {} Tryd.checked os 5 .any (fun w args => (Rows.blameInnerSpec.pre enc Tryd.prog Tryd.f5 [] false w args ∧ laidMetH Tryd.prog laid1 w) ∧ sizedMet enc Tryd.prog Tryd.f5 (OpenSpec.ofChange Rows.blameInnerSpec) false w args)
      (Rows.blameInnerSpec.post enc Tryd.prog Tryd.f5 false true false false) := by
  refine returnsInHanded_of_change_and (C := Tryd.checked) (X := fun w _ => laidMetH Tryd.prog laid1 w) (fun _ _ _ hh h => h.of_heap hh) own started (by kernel_rfl) Tryd.func5
    (ChangeSpec.witness_shaped (enc := enc) (C := Tryd.checked) (os := os) (X := fun w _ => laidMetH Tryd.prog laid1 w) false (World.doorLaid Tryd.prog 400 os) #[.agg #[.int .i64 0, .int .i64 0], .slice none 0 0] 8 rfl (World.shaped_of_RefB (by kernel_rfl) (by kernel_rfl)) (by kernel_rfl) (by kernel_rfl) (by kernel_rfl) (door_met os _)) ?_
  intro W base args ds gs before hval0 hW _ _ hL _
  have hval : ∀ (j : Nat) t v, Tryd.f5.params[j]? = some t → args[j]? = some v → Value.okWide Tryd.prog W .any base t v := hval0
  obtain ⟨A, hG⟩ := gl_of_laid hL
  have hW' := hW
  obtain ⟨p, q, hA0, hV, rfl, hfz, hnd⟩ := hW
  have hA : DataW.TrodAll enc Tryd.prog W 0 (fun _ => true) true Tryd.f5.params.toList args.toList ds p := hA0
  rw [Tryd.params5] at hA hval
  obtain ⟨v0, vs0, d0, ds0, p0, q0, hargs, rfl, rfl, h0, r0⟩ := trodAll_cons hA
  obtain ⟨v1, vs1, d1, ds1, p1, q1, rfl, rfl, rfl, h1, r1⟩ := trodAll_cons r0
  obtain ⟨rfl, rfl, rfl⟩ := trodAll_nil r1
  obtain rfl : args = #[v0, v1] := by cases args; simp_all
  obtain ⟨rfl, rfl⟩ := trodVars_none hV
  clear hA0 hval0
  obtain ⟨cs0, rfl, hsz0⟩ : ∃ cs, v0 = .agg cs ∧ cs.size = Tryd.prog.cellsOf 40 := by
    have h := hval 0 40 v0 rfl rfl
    simp only [Value.okWide, Tryd.underlying40] at h
    obtain ⟨cs, e1, e2, _⟩ := h
    exact ⟨cs, e1, e2⟩
  obtain ⟨x, hx, hcs0⟩ : ∃ x : Go.Blm.LK, Go.Blm.ok64 x.2 ∧ cs0 = (opl x).toArray := by
    obtain ⟨fuel, hf0⟩ := h0
    obtain ⟨m', hf⟩ := trod_fields Tryd.underlying40 hf0
    obtain ⟨y0, e0⟩ := hf 0 _ rfl
    obtain ⟨y1, e1⟩ := hf 1 _ rfl
    obtain ⟨k, g0, _⟩ := field_int Tryd.underlying22 (by kernel_rfl) e0
    obtain ⟨n, g1, w1⟩ := field_int Tryd.underlying3 (by kernel_rfl) e1
    have b1 := bounds_i64 w1
    refine ⟨(k, n), b1, ?_⟩
    have hl2 : cs0.toList.length = 2 := by rw [Array.length_toList, hsz0]; kernel_rfl
    apply Array.ext'
    match hcs : cs0.toList, hl2 with
    | [q0, q1], _ =>
      have g0 : (Value.agg cs0).cells.toList[0]? = _ := g0
      have g1 : (Value.agg cs0).cells.toList[1]? = _ := g1
      simp only [Value.cells, hcs] at g0 g1
      have g0 : q0 = _ := Option.some.inj g0
      have g1 : q1 = _ := Option.some.inj g1
      rw [g0, g1]
  subst hcs0
  obtain ⟨a1, c1, xs, rfl, hxc, hcm, hrd, hQ⟩ := open_rows (sz := 2) opl (fun x => Go.Blm.ok64 x.2) Tryd.underlying41 (by kernel_rfl) (by decide) (hval 1 41 v1 rfl rfl) h1 (fun m cs y hl hy => by
    obtain ⟨m', hf⟩ := trod_fields Tryd.underlying40 hy
    obtain ⟨y0, e0⟩ := hf 0 _ rfl
    obtain ⟨y1, e1⟩ := hf 1 _ rfl
    obtain ⟨k, g0, _⟩ := field_int Tryd.underlying22 (by kernel_rfl) e0
    obtain ⟨n, g1, w1⟩ := field_int Tryd.underlying3 (by kernel_rfl) e1
    have b1 := bounds_i64 w1
    match cs, hl with
    | [q0, q1], _ =>
      have g0 : q0 = .int .i64 k := Option.some.inj g0
      have g1 : q1 = .int .i64 n := Option.some.inj g1
      exact ⟨(k, n), by rw [g0, g1], b1⟩)
  exact law_end (inner_ct x xs a1 c1 W.heap hrd hx hQ A hG (Nat.le_trans hxc hcm)) rfl laidOut (by kernel_rfl) hW' rfl Tryd.underlying4 rfl rfl rfl

theorem over : Rows.BlameInnerSaid :=
  OpenClaim.holds_of_wide 5 Tryd.f5 rfl rfl rfl rfl rfl rfl rfl ⟨rfl, rfl, rfl, rfl, rfl⟩ rfl rfl rfl rfl rfl (by kernel_rfl) Tryd.func5 (by kernel_rfl)
    (of_decide_eq_true (by kernel_rfl)) (by unfold Func.isWrapper; first | (rw [if_pos (by decide +kernel)]; kernel_rfl) | (rw [if_neg (by decide +kernel)]; exact ⟨rfl, rfl⟩))
    (fun os started H enc _ => lifted os started H enc)

theorem proved : Rows.BlameInnerCardSaid :=
  Claim7.holds_tied_plain_at .later [] [.handle, .sentinel, .sentinel, .sentinel, .sentinel, .sentinel] true (true, "6195c366983093890cabaa3b35943222fd82600e1b8149f80de9ad75e166d668") true
    over (fun _ h => by cases h) (by kernel_rfl) (fun _ h => by cases h) blameInner_row_tie rfl ⟨rfl, rfl⟩ (by kernel_rfl) rfl
    (fun f fn hf hfn => by
      obtain rfl : f = 5 := Option.some.inj ((show Tryd.prog.funcNamed "collimator/collimatorlaw03.BlameInner" = some 5 by kernel_rfl).symm.trans hf) |>.symm
      obtain rfl : fn = Tryd.f5 := (Option.some.inj (Tryd.func5.symm.trans hfn)).symm
      exact ⟨by kernel_rfl, fun j t ht => by
        rw [Tryd.params5] at ht
        have hm : t ∈ [40, 41] := by simpa using Array.mem_of_getElem? ht
        have hall : ([40, 41].all fun u => !Tryd.prog.wantsStandIn u) = true := by kernel_rfl
        exact (show Tryd.prog.wantsStandIn t = false by simpa using List.all_eq_true.1 hall t hm)⟩)
    (by kernel_rfl)
#print axioms proved
end Go.Proofs.YtaofjmaekpjkhaaDoor.blameInner
