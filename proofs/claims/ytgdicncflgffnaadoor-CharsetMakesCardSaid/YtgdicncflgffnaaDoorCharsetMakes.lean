/- Whatever the text, the ends and the two sets: CharsetMakes answers true, and the arguments read as they did. No condition but the tied table. -/
import Derived.Test.YtgdicncflgffnaaDoorV
import Derived.Test.YtgdicncflgffnaaDoorH
import Derived.Test.YtgdicncflgffnaaDoorTie
import Derived.Test.YtgdicncflgffnaaDoorCards
import Derived.SevenTiedAt
import Derived.ChangeMaps5
namespace Go.Proofs.YtgdicncflgffnaaDoor.charsetMakes
open Go.ChangeShapes Go.WideShapes Go.ChangeAt Go.ChangeMaps Go.RowKit Go.SX
set_option linter.unusedVariables false

set_option maxRecDepth 100000 in
theorem lifted (os : Os) (started : os.Started) (H : Type) (enc : TypeId × Value → H) :
    ReturnsInHanded {} Tryd.checked os 5 .any (fun w args => (Rows.charsetMakesSpec.pre enc Tryd.prog Tryd.f5 [] false w args ∧ laidMetH Tryd.prog laid1 w) ∧ sizedMet enc Tryd.prog Tryd.f5 (OpenSpec.ofChange Rows.charsetMakesSpec) false w args)
      (Rows.charsetMakesSpec.post enc Tryd.prog Tryd.f5 false true false false) := by
  refine returnsInHanded_of_change_and (C := Tryd.checked) (X := fun w _ => laidMetH Tryd.prog laid1 w) (fun _ _ _ hh h => h.of_heap hh) own started (by kernel_rfl) Tryd.func5
    (ChangeSpec.witness_shaped (enc := enc) (C := Tryd.checked) (os := os) (X := fun w _ => laidMetH Tryd.prog laid1 w) false (World.doorLaid Tryd.prog 400 os) #[.string ⟨#[]⟩, .agg #[.int .u8 0, .int .u8 0], .agg #[.int .u64 0, .int .u64 0, .int .u64 0, .int .u64 0, .int .u64 0, .int .u64 0, .int .u64 0, .int .u64 0]] 8 rfl (World.shaped_of_RefB (by kernel_rfl) (by kernel_rfl)) (by kernel_rfl) (by kernel_rfl) (by kernel_rfl) (door_met os _)) ?_
  intro W base args ds gs before hval0 hW _ _ hL _
  have hval : ∀ (j : Nat) t v, Tryd.f5.params[j]? = some t → args[j]? = some v → Value.okWide Tryd.prog W .any base t v := hval0
  have hT := tab_of_laid hL
  have hW' := hW
  obtain ⟨p, q, hA0, hV, rfl, hfz, hnd⟩ := hW
  have hA : DataW.TrodAll enc Tryd.prog W 0 (fun _ => true) true Tryd.f5.params.toList args.toList ds p := hA0
  rw [Tryd.params5] at hA hval
  obtain ⟨v0, vs0, d0, ds0, p0, q0, hargs, rfl, rfl, h0, r0⟩ := trodAll_cons hA
  obtain ⟨v1, vs1, d1, ds1, p1, q1, rfl, rfl, rfl, h1, r1⟩ := trodAll_cons r0
  obtain ⟨v2, vs2, d2, ds2, p2, q2, rfl, rfl, rfl, h2, r2⟩ := trodAll_cons r1
  obtain ⟨rfl, rfl, rfl⟩ := trodAll_nil r2
  obtain rfl : args = #[v0, v1, v2] := by cases args; simp_all
  obtain ⟨rfl, rfl⟩ := trodVars_none hV
  clear hA0 hval0
  obtain ⟨s0, rfl, rfl, rfl, w0⟩ := open_string Tryd.underlying9 (hval 0 9 v0 rfl rfl) h0
  obtain ⟨s, rfl⟩ : ∃ l : List UInt8, s0 = ⟨l.toArray⟩ := ⟨s0.data.toList, by cases s0; simp⟩
  obtain ⟨cs1, rfl, hsz1⟩ : ∃ cs, v1 = .agg cs ∧ cs.size = Tryd.prog.cellsOf 31 := by
    have h := hval 1 31 v1 rfl rfl
    simp only [Value.okWide, Tryd.underlying31] at h
    obtain ⟨cs, e1, e2, _⟩ := h
    exact ⟨cs, e1, e2⟩
  obtain ⟨pa, pb, hpa, hpb, rfl⟩ : ∃ pa pb : Nat, pa ≤ 255 ∧ pb ≤ 255 ∧ cs1 = ([Value.int .u8 (pa : Int), Value.int .u8 (pb : Int)] : List Value).toArray := by
    obtain ⟨fuel, hf⟩ := h1
    obtain ⟨xs, m, _, _, hl, hn, hel⟩ := DataW.trod_array Tryd.underlying31 hf
    have hc5 : Tryd.prog.cellsOf 5 = 1 := by kernel_rfl
    have hc42 : Tryd.prog.cellsOf 31 = 2 := by kernel_rfl
    have e0 := hel 0 (by decide)
    have e1 := hel 1 (by decide)
    rw [List.getElem?_eq_getElem (by omega)] at e0 e1
    obtain ⟨n0, g0, w0'⟩ := field_int Tryd.underlying5 hc5 e0
    obtain ⟨n1, g1, w1'⟩ := field_int Tryd.underlying5 hc5 e1
    have b0 := bounds_u8 w0'
    have b1 := bounds_u8 w1'
    obtain ⟨pa, rfl⟩ := Int.eq_ofNat_of_zero_le b0.1
    obtain ⟨pb, rfl⟩ := Int.eq_ofNat_of_zero_le b1.1
    refine ⟨pa, pb, by omega, by omega, ?_⟩
    rw [hc5] at g0 g1
    have hl2 : cs1.toList.length = 2 := by rw [Array.length_toList, hsz1, hc42]
    apply Array.ext'
    match hcs : cs1.toList, hl2 with
    | [q0, q1], _ =>
      have g0 : (Value.agg cs1).cells.toList[0]? = _ := g0
      have g1 : (Value.agg cs1).cells.toList[1]? = _ := g1
      simp only [Value.cells, hcs] at g0 g1
      have g0 : q0 = _ := Option.some.inj g0
      have g1 : q1 = _ := Option.some.inj g1
      rw [g0, g1]
  obtain ⟨cs2, rfl, hsz2⟩ : ∃ cs, v2 = .agg cs ∧ cs.size = Tryd.prog.cellsOf 32 := by
    have h := hval 2 32 v2 rfl rfl
    simp only [Value.okWide, Tryd.underlying32] at h
    obtain ⟨cs, e1, e2, _⟩ := h
    exact ⟨cs, e1, e2⟩
  obtain ⟨ws, vs, hws, hvs, rfl⟩ : ∃ ws vs : List Nat, Ws ws ∧ Ws vs ∧ cs2 = (uv (ws ++ vs)).toArray := by
    obtain ⟨fuel, hf⟩ := h2
    obtain ⟨xs, m, _, _, hl, hn, hel⟩ := DataW.trod_array Tryd.underlying32 hf
    have hc24 : Tryd.prog.cellsOf 24 = 4 := by kernel_rfl
    have hc32 : Tryd.prog.cellsOf 32 = 8 := by kernel_rfl
    have e0 := hel 0 (by decide)
    have e1 := hel 1 (by decide)
    rw [List.getElem?_eq_getElem (by omega)] at e0 e1
    obtain ⟨ws, w1, w2⟩ := open_set Tryd.underlying24 Tryd.underlying22 (by kernel_rfl) hc24 e0
    obtain ⟨vs, w3, w4⟩ := open_set Tryd.underlying24 Tryd.underlying22 (by kernel_rfl) hc24 e1
    refine ⟨ws, vs, w1, w3, ?_⟩
    rw [hc24] at w2 w4
    have hl8 : ((Value.agg cs2).cells.toList).length = 8 := hl.trans hc32
    have w2 : (cs2.toList.drop 0).take 4 = uv ws := w2
    have w4 : (cs2.toList.drop 4).take 4 = uv vs := w4
    have hl8 : cs2.toList.length = 8 := hl8
    apply Array.ext'
    show cs2.toList = uv (ws ++ vs)
    rw [uv_app, ← w2, ← w4, List.drop_zero, List.take_of_length_le (l := cs2.toList.drop 4) (by rw [List.length_drop]; omega), List.take_append_drop]
  exact law_end (makes_ct s pa pb ws vs W.heap hT hpa hpb hws hvs) rfl laidOut (by kernel_rfl) hW' rfl Tryd.underlying4 rfl rfl rfl

theorem over : Rows.CharsetMakesSaid :=
  OpenClaim.holds_of_wide 5 Tryd.f5 rfl rfl rfl rfl rfl rfl rfl ⟨rfl, rfl, rfl, rfl, rfl⟩ rfl rfl rfl rfl rfl (by kernel_rfl) Tryd.func5 (by kernel_rfl)
    (of_decide_eq_true (by kernel_rfl)) (by unfold Func.isWrapper; first | (rw [if_pos (by decide +kernel)]; kernel_rfl) | (rw [if_neg (by decide +kernel)]; exact ⟨rfl, rfl⟩))
    (fun os started H enc _ => lifted os started H enc)

theorem proved : Rows.CharsetMakesCardSaid :=
  Claim7.holds_tied_plain_at .later [] [.data] true (true, "03abf2a432adb1c84ff71533cf69b39277f72785df52c25a0537aba3a7398417") false
    over (fun _ h => by cases h) (by kernel_rfl) (fun _ h => by cases h) charsetMakes_row_tie rfl ⟨rfl, rfl⟩ (by kernel_rfl) rfl
    (fun f fn hf hfn => by
      obtain rfl : f = 5 := Option.some.inj ((show Tryd.prog.funcNamed "collimator/collimatorlaw14.CharsetMakes" = some 5 by kernel_rfl).symm.trans hf) |>.symm
      obtain rfl : fn = Tryd.f5 := (Option.some.inj (Tryd.func5.symm.trans hfn)).symm
      exact ⟨by kernel_rfl, fun j t ht => by
        rw [Tryd.params5] at ht
        have hm : t ∈ [9, 31, 32] := by simpa using Array.mem_of_getElem? ht
        have hall : ([9, 31, 32].all fun u => !Tryd.prog.wantsStandIn u) = true := by kernel_rfl
        exact (show Tryd.prog.wantsStandIn t = false by simpa using List.all_eq_true.1 hall t hm)⟩)
    (by kernel_rfl)
#print axioms proved
end Go.Proofs.YtgdicncflgffnaaDoor.charsetMakes
