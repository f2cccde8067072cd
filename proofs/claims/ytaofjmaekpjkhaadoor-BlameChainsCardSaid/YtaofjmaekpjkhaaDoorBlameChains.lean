/- Whatever the links and the code: BlameChains answers true, and the arguments read as they did. No condition but the tied variables. -/
import Derived.Test.YtaofjmaekpjkhaaDoorV
import Derived.Test.YtaofjmaekpjkhaaDoorH
import Derived.Test.YtaofjmaekpjkhaaDoorTie
import Derived.Test.YtaofjmaekpjkhaaDoorCards
import Derived.SevenTiedAt
import Derived.ChangeMaps5
namespace Go.Proofs.YtaofjmaekpjkhaaDoor.blameChains
open Go.ChangeShapes Go.WideShapes Go.ChangeAt Go.ChangeMaps Go.RowKit Go.SX
set_option linter.unusedVariables false

set_option maxRecDepth 100000 in
theorem lifted (os : Os) (started : os.Started) (H : Type) (enc : TypeId × Value → H) :
    ReturnsInHanded {} Tryd.checked os 4 .any (fun w args => (Rows.blameChainsSpec.pre enc Tryd.prog Tryd.f4 [] false w args ∧ laidMetH Tryd.prog laid1 w) ∧ sizedMet enc Tryd.prog Tryd.f4 (OpenSpec.ofChange Rows.blameChainsSpec) false w args)
      (Rows.blameChainsSpec.post enc Tryd.prog Tryd.f4 false true false false) := by
  refine returnsInHanded_of_change_and (C := Tryd.checked) (X := fun w _ => laidMetH Tryd.prog laid1 w) (fun _ _ _ hh h => h.of_heap hh) own started (by kernel_rfl) Tryd.func4
    (ChangeSpec.witness_shaped (enc := enc) (C := Tryd.checked) (os := os) (X := fun w _ => laidMetH Tryd.prog laid1 w) false (World.doorLaid Tryd.prog 400 os) #[.slice none 0 0, .int .i64 0] 8 rfl (World.shaped_of_RefB (by kernel_rfl) (by kernel_rfl)) (by kernel_rfl) (by kernel_rfl) (by kernel_rfl) (door_met os _)) ?_
  intro W base args ds gs before hval0 hW _ _ hL _
  have hval : ∀ (j : Nat) t v, Tryd.f4.params[j]? = some t → args[j]? = some v → Value.okWide Tryd.prog W .any base t v := hval0
  obtain ⟨A, hG⟩ := gl_of_laid hL
  have hW' := hW
  obtain ⟨p, q, hA0, hV, rfl, hfz, hnd⟩ := hW
  have hA : DataW.TrodAll enc Tryd.prog W 0 (fun _ => true) true Tryd.f4.params.toList args.toList ds p := hA0
  rw [Tryd.params4] at hA hval
  obtain ⟨v0, vs0, d0, ds0, p0, q0, hargs, rfl, rfl, h0, r0⟩ := trodAll_cons hA
  obtain ⟨v1, vs1, d1, ds1, p1, q1, rfl, rfl, rfl, h1, r1⟩ := trodAll_cons r0
  obtain ⟨rfl, rfl, rfl⟩ := trodAll_nil r1
  obtain rfl : args = #[v0, v1] := by cases args; simp_all
  obtain ⟨rfl, rfl⟩ := trodVars_none hV
  clear hA0 hval0
  obtain ⟨a0, c0, xs, rfl, hxc, hcm, hrd, hQ⟩ := open_rows (sz := 2) opl (fun x => Go.Blm.ok64 x.2) Tryd.underlying41 (by kernel_rfl) (by decide) (hval 0 41 v0 rfl rfl) h0 (fun m cs y hl hy => by
    obtain ⟨m', hf⟩ := trod_fields Tryd.underlying40 hy
    obtain ⟨y0, e0⟩ := hf 0 _ rfl
    obtain ⟨y1, e1⟩ := hf 1 _ rfl
    obtain ⟨k, g0, _⟩ := field_int Tryd.underlying22 (by kernel_rfl) e0
    obtain ⟨n, g1, w1⟩ := field_int Tryd.underlying3 (by kernel_rfl) e1
    have b1 := bounds_i64 w1
    match cs, hl with
    | [q0, q1], _ =>
      have g0 : q0 = .int .i64 k := Option.some.inj g0
      have g1 : q1 = .int .i64 n := Option.some.inj g1
      exact ⟨(k, n), by rw [g0, g1], b1⟩)
  obtain ⟨w, rfl, rfl, rfl, w1⟩ := open_int Tryd.underlying22 (hval 1 22 v1 rfl rfl) h1
  have bd1 := bounds_i64 w1
  exact law_end (chains_ct xs a0 c0 w W.heap hrd hQ A hG) rfl laidOut (by kernel_rfl) hW' rfl Tryd.underlying4 rfl rfl rfl

theorem over : Rows.BlameChainsSaid :=
  OpenClaim.holds_of_wide 4 Tryd.f4 rfl rfl rfl rfl rfl rfl rfl ⟨rfl, rfl, rfl, rfl, rfl⟩ rfl rfl rfl rfl rfl (by kernel_rfl) Tryd.func4 (by kernel_rfl)
    (of_decide_eq_true (by kernel_rfl)) (by unfold Func.isWrapper; first | (rw [if_pos (by decide +kernel)]; kernel_rfl) | (rw [if_neg (by decide +kernel)]; exact ⟨rfl, rfl⟩))
    (fun os started H enc _ => lifted os started H enc)

theorem proved : Rows.BlameChainsCardSaid :=
  Claim7.holds_tied_plain_at .later [] [.handle, .sentinel, .sentinel, .sentinel, .sentinel, .sentinel] true (true, "6195c366983093890cabaa3b35943222fd82600e1b8149f80de9ad75e166d668") true
    over (fun _ h => by cases h) (by kernel_rfl) (fun _ h => by cases h) blameChains_row_tie rfl ⟨rfl, rfl⟩ (by kernel_rfl) rfl
    (fun f fn hf hfn => by
      obtain rfl : f = 4 := Option.some.inj ((show Tryd.prog.funcNamed "collimator/collimatorlaw03.BlameChains" = some 4 by kernel_rfl).symm.trans hf) |>.symm
      obtain rfl : fn = Tryd.f4 := (Option.some.inj (Tryd.func4.symm.trans hfn)).symm
      exact ⟨by kernel_rfl, fun j t ht => by
        rw [Tryd.params4] at ht
        have hm : t ∈ [41, 22] := by simpa using Array.mem_of_getElem? ht
        have hall : ([41, 22].all fun u => !Tryd.prog.wantsStandIn u) = true := by kernel_rfl
        exact (show Tryd.prog.wantsStandIn t = false by simpa using List.all_eq_true.1 hall t hm)⟩)
    (by kernel_rfl)
#print axioms proved
end Go.Proofs.YtaofjmaekpjkhaaDoor.blameChains
