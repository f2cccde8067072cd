/- Whatever the link and the place: BlameNone answers true, and the arguments read as they did. No condition but the tied variables. -/
import Derived.Test.YtaofjmaekpjkhaaDoorV
import Derived.Test.YtaofjmaekpjkhaaDoorH
import Derived.Test.YtaofjmaekpjkhaaDoorTie
import Derived.Test.YtaofjmaekpjkhaaDoorCards
import Derived.SevenTiedAt
import Derived.ChangeMaps5
namespace Go.Proofs.YtaofjmaekpjkhaaDoor.blameNone
open Go.ChangeShapes Go.WideShapes Go.ChangeAt Go.ChangeMaps Go.RowKit Go.SX
set_option linter.unusedVariables false

set_option maxRecDepth 100000 in
theorem lifted (os : Os) (started : os.Started) (H : Type) (enc : TypeId × Value → H) :
    ReturnsInHanded {} Tryd.checked os 6 .any (fun w args => (Rows.blameNoneSpec.pre enc Tryd.prog Tryd.f6 [] false w args ∧ laidMetH Tryd.prog laid1 w) ∧ sizedMet enc Tryd.prog Tryd.f6 (OpenSpec.ofChange Rows.blameNoneSpec) false w args)
      (Rows.blameNoneSpec.post enc Tryd.prog Tryd.f6 false true false false) := by
  refine returnsInHanded_of_change_and (C := Tryd.checked) (X := fun w _ => laidMetH Tryd.prog laid1 w) (fun _ _ _ hh h => h.of_heap hh) own started (by kernel_rfl) Tryd.func6
    (ChangeSpec.witness_shaped (enc := enc) (C := Tryd.checked) (os := os) (X := fun w _ => laidMetH Tryd.prog laid1 w) false (World.doorLaid Tryd.prog 400 os) #[.agg #[.int .i64 0, .int .i64 0], .int .i64 0] 8 rfl (World.shaped_of_RefB (by kernel_rfl) (by kernel_rfl)) (by kernel_rfl) (by kernel_rfl) (by kernel_rfl) (door_met os _)) ?_
  intro W base args ds gs before hval0 hW _ _ hL _
  have hval : ∀ (j : Nat) t v, Tryd.f6.params[j]? = some t → args[j]? = some v → Value.okWide Tryd.prog W .any base t v := hval0
  obtain ⟨A, hG⟩ := gl_of_laid hL
  have hW' := hW
  obtain ⟨p, q, hA0, hV, rfl, hfz, hnd⟩ := hW
  have hA : DataW.TrodAll enc Tryd.prog W 0 (fun _ => true) true Tryd.f6.params.toList args.toList ds p := hA0
  rw [Tryd.params6] at hA hval
  obtain ⟨v0, vs0, d0, ds0, p0, q0, hargs, rfl, rfl, h0, r0⟩ := trodAll_cons hA
  obtain ⟨v1, vs1, d1, ds1, p1, q1, rfl, rfl, rfl, h1, r1⟩ := trodAll_cons r0
  obtain ⟨rfl, rfl, rfl⟩ := trodAll_nil r1
  obtain rfl : args = #[v0, v1] := by cases args; simp_all
  obtain ⟨rfl, rfl⟩ := trodVars_none hV
  clear hA0 hval0
  obtain ⟨cs0, rfl, hsz0⟩ : ∃ cs, v0 = .agg cs ∧ cs.size = Tryd.prog.cellsOf 40 := by
    have h := hval 0 40 v0 rfl rfl
    simp only [Value.okWide, Tryd.underlying40] at h
    obtain ⟨cs, e1, e2, _⟩ := h
    exact ⟨cs, e1, e2⟩
  obtain ⟨x, hx, hcs0⟩ : ∃ x : Go.Blm.LK, Go.Blm.ok64 x.2 ∧ cs0 = (opl x).toArray := by
    obtain ⟨fuel, hf0⟩ := h0
    obtain ⟨m', hf⟩ := trod_fields Tryd.underlying40 hf0
    obtain ⟨y0, e0⟩ := hf 0 _ rfl
    obtain ⟨y1, e1⟩ := hf 1 _ rfl
    obtain ⟨k, g0, _⟩ := field_int Tryd.underlying22 (by kernel_rfl) e0
    obtain ⟨n, g1, w1⟩ := field_int Tryd.underlying3 (by kernel_rfl) e1
    have b1 := bounds_i64 w1
    refine ⟨(k, n), b1, ?_⟩
    have hl2 : cs0.toList.length = 2 := by rw [Array.length_toList, hsz0]; kernel_rfl
    apply Array.ext'
    match hcs : cs0.toList, hl2 with
    | [q0, q1], _ =>
      have g0 : (Value.agg cs0).cells.toList[0]? = _ := g0
      have g1 : (Value.agg cs0).cells.toList[1]? = _ := g1
      simp only [Value.cells, hcs] at g0 g1
      have g0 : q0 = _ := Option.some.inj g0
      have g1 : q1 = _ := Option.some.inj g1
      rw [g0, g1]
  subst hcs0
  obtain ⟨k, rfl, rfl, rfl, w1⟩ := open_int Tryd.underlying3 (hval 1 3 v1 rfl rfl) h1
  have bd1 := bounds_i64 w1
  exact law_end (none_ct x k A W.heap hG hx) rfl laidOut (by kernel_rfl) hW' rfl Tryd.underlying4 rfl rfl rfl

theorem over : Rows.BlameNoneSaid :=
  OpenClaim.holds_of_wide 6 Tryd.f6 rfl rfl rfl rfl rfl rfl rfl ⟨rfl, rfl, rfl, rfl, rfl⟩ rfl rfl rfl rfl rfl (by kernel_rfl) Tryd.func6 (by kernel_rfl)
    (of_decide_eq_true (by kernel_rfl)) (by unfold Func.isWrapper; first | (rw [if_pos (by decide +kernel)]; kernel_rfl) | (rw [if_neg (by decide +kernel)]; exact ⟨rfl, rfl⟩))
    (fun os started H enc _ => lifted os started H enc)

theorem proved : Rows.BlameNoneCardSaid :=
  Claim7.holds_tied_plain_at .later [] [.handle, .sentinel, .sentinel, .sentinel, .sentinel, .sentinel] true (true, "6195c366983093890cabaa3b35943222fd82600e1b8149f80de9ad75e166d668") true
    over (fun _ h => by cases h) (by kernel_rfl) (fun _ h => by cases h) blameNone_row_tie rfl ⟨rfl, rfl⟩ (by kernel_rfl) rfl
    (fun f fn hf hfn => by
      obtain rfl : f = 6 := Option.some.inj ((show Tryd.prog.funcNamed "collimator/collimatorlaw03.BlameNone" = some 6 by kernel_rfl).symm.trans hf) |>.symm
      obtain rfl : fn = Tryd.f6 := (Option.some.inj (Tryd.func6.symm.trans hfn)).symm
      exact ⟨by kernel_rfl, fun j t ht => by
        rw [Tryd.params6] at ht
        have hm : t ∈ [40, 3] := by simpa using Array.mem_of_getElem? ht
        have hall : ([40, 3].all fun u => !Tryd.prog.wantsStandIn u) = true := by kernel_rfl
        exact (show Tryd.prog.wantsStandIn t = false by simpa using List.all_eq_true.1 hall t hm)⟩)
    (by kernel_rfl)
#print axioms proved
end Go.Proofs.YtaofjmaekpjkhaaDoor.blameNone
