/- Whatever the set and the byte: CharsetTells answers true, and the arguments read as they did. No condition but the tied table. -/
import Derived.Test.YtgdicncflgffnaaDoorV
import Derived.Test.YtgdicncflgffnaaDoorH
import Derived.Test.YtgdicncflgffnaaDoorTie
import Derived.Test.YtgdicncflgffnaaDoorCards
import Derived.SevenTiedAt
namespace Go.Proofs.YtgdicncflgffnaaDoor.charsetTells
open Go.ChangeShapes Go.WideShapes Go.ChangeAt Go.RowKit Go.SX
set_option linter.unusedVariables false

set_option maxRecDepth 100000 in
theorem lifted (os : Os) (started : os.Started) (H : Type) (enc : TypeId × Value → H) :
    ReturnsInHanded {} Tryd.checked os 3 .any (fun w args => (Rows.charsetTellsSpec.pre enc Tryd.prog Tryd.f3 [] false w args ∧ laidMetH Tryd.prog laid1 w) ∧ sizedMet enc Tryd.prog Tryd.f3 (OpenSpec.ofChange Rows.charsetTellsSpec) false w args)
      (Rows.charsetTellsSpec.post enc Tryd.prog Tryd.f3 false true false false) := by
  refine returnsInHanded_of_change_and (C := Tryd.checked) (X := fun w _ => laidMetH Tryd.prog laid1 w) (fun _ _ _ hh h => h.of_heap hh) own started (by kernel_rfl) Tryd.func3
    (ChangeSpec.witness_shaped (enc := enc) (C := Tryd.checked) (os := os) (X := fun w _ => laidMetH Tryd.prog laid1 w) false (World.doorLaid Tryd.prog 400 os) #[.agg #[.int .u64 0, .int .u64 0, .int .u64 0, .int .u64 0], .int .u8 0] 8 rfl (World.shaped_of_RefB (by kernel_rfl) (by kernel_rfl)) (by kernel_rfl) (by kernel_rfl) (by kernel_rfl) (door_met os _)) ?_
  intro W base args ds gs before hval0 hW _ _ hL _
  have hval : ∀ (j : Nat) t v, Tryd.f3.params[j]? = some t → args[j]? = some v → Value.okWide Tryd.prog W .any base t v := hval0
  have hT := tab_of_laid hL
  have hW' := hW
  obtain ⟨p, q, hA0, hV, rfl, hfz, hnd⟩ := hW
  have hA : DataW.TrodAll enc Tryd.prog W 0 (fun _ => true) true Tryd.f3.params.toList args.toList ds p := hA0
  rw [Tryd.params3] at hA hval
  obtain ⟨v0, vs0, d0, ds0, p0, q0, hargs, rfl, rfl, h0, r0⟩ := trodAll_cons hA
  obtain ⟨v1, vs1, d1, ds1, p1, q1, rfl, rfl, rfl, h1, r1⟩ := trodAll_cons r0
  obtain ⟨rfl, rfl, rfl⟩ := trodAll_nil r1
  obtain rfl : args = #[v0, v1] := by cases args; simp_all
  obtain ⟨rfl, rfl⟩ := trodVars_none hV
  clear hA0 hval0
  obtain ⟨cs0, rfl, hsz0⟩ : ∃ cs, v0 = .agg cs ∧ cs.size = Tryd.prog.cellsOf 24 := by
    have h := hval 0 24 v0 rfl rfl
    simp only [Value.okWide, Tryd.underlying24] at h
    obtain ⟨cs, e1, e2, _⟩ := h
    exact ⟨cs, e1, e2⟩
  obtain ⟨ws, hws, hcs0⟩ : ∃ ws, Ws ws ∧ cs0 = (uv ws).toArray := by
    obtain ⟨fuel, hf⟩ := h0
    obtain ⟨ws, w1, w2⟩ := open_set Tryd.underlying24 Tryd.underlying22 (by kernel_rfl) (by kernel_rfl) hf
    exact ⟨ws, w1, Array.ext' w2⟩
  subst hcs0
  obtain ⟨a1, rfl, rfl, rfl, w1⟩ := open_int Tryd.underlying5 (hval 1 5 v1 rfl rfl) h1
  have bd1 := bounds_u8 w1
  obtain ⟨c, rfl⟩ := Int.eq_ofNat_of_zero_le bd1.1
  exact law_end (tells_ct ws c W.heap hT hws (by omega)) rfl laidOut (by kernel_rfl) hW' rfl Tryd.underlying4 rfl rfl rfl

theorem over : Rows.CharsetTellsSaid :=
  OpenClaim.holds_of_wide 3 Tryd.f3 rfl rfl rfl rfl rfl rfl rfl ⟨rfl, rfl, rfl, rfl, rfl⟩ rfl rfl rfl rfl rfl (by kernel_rfl) Tryd.func3 (by kernel_rfl)
    (of_decide_eq_true (by kernel_rfl)) (by unfold Func.isWrapper; first | (rw [if_pos (by decide +kernel)]; kernel_rfl) | (rw [if_neg (by decide +kernel)]; exact ⟨rfl, rfl⟩))
    (fun os started H enc _ => lifted os started H enc)

theorem proved : Rows.CharsetTellsCardSaid :=
  Claim7.holds_tied_plain_at .later [] [.data] true (true, "03abf2a432adb1c84ff71533cf69b39277f72785df52c25a0537aba3a7398417") false
    over (fun _ h => by cases h) (by kernel_rfl) (fun _ h => by cases h) charsetTells_row_tie rfl ⟨rfl, rfl⟩ (by kernel_rfl) rfl
    (fun f fn hf hfn => by
      obtain rfl : f = 3 := Option.some.inj ((show Tryd.prog.funcNamed "collimator/collimatorlaw14.CharsetTells" = some 3 by kernel_rfl).symm.trans hf) |>.symm
      obtain rfl : fn = Tryd.f3 := (Option.some.inj (Tryd.func3.symm.trans hfn)).symm
      exact ⟨by kernel_rfl, fun j t ht => by
        rw [Tryd.params3] at ht
        have hm : t ∈ [24, 5] := by simpa using Array.mem_of_getElem? ht
        have hall : ([24, 5].all fun u => !Tryd.prog.wantsStandIn u) = true := by kernel_rfl
        exact (show Tryd.prog.wantsStandIn t = false by simpa using List.all_eq_true.1 hall t hm)⟩)
    (by kernel_rfl)
#print axioms proved
end Go.Proofs.YtgdicncflgffnaaDoor.charsetTells
