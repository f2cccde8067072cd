/- From a contract to the row: what a law's post asks. -/
import Derived.Test.YtcandjdomeompaaDoorG
import Derived.ProofKit
import Derived.OpenShut
namespace Go.SX
open Go Go.RowKit Go.ChangeShapes

theorem trodAll_below {HT : Type} {enc : TypeId × Value → HT} {P : Program} (hl : laidOutB P = true) {W W' : World} (hb : Below W.heap.size W W') :
    ∀ (ts : List TypeId) (vs : List Value) (ds : List (DataW HT)) (ps : List MemPlace), (∀ t ∈ ts, P.readableRec t = true ∧ t < P.types.size) → (∀ x ∈ ps, x.block < W.heap.size) →
      DataW.TrodAll enc P W 0 (fun _ => true) true ts vs ds ps → DataW.TrodAll enc P W' 0 (fun b => decide (b < W.heap.size)) true ts vs ds ps
  | [], vs, ds, ps, _, _, h => by
    obtain ⟨rfl, rfl, rfl⟩ := trodAll_nil h
    exact trodAll_mk0
  | t :: ts, vs, ds, ps, ht, hp, h => by
    obtain ⟨v, vs', d, ds', p, q, rfl, rfl, rfl, h1, h2⟩ := trodAll_cons h
    have h3 := ht t (by simp)
    exact trodAll_cons_mk (Below.trod hl h3.1 h3.2 h1 hb (fun x hx => hp x (by simp [hx]))) (trodAll_below hl hb ts vs' ds' q (fun u hu => ht u (by simp [hu])) (fun x hx => hp x (by simp [hx])) h2)

theorem law_post {HT : Type} {enc : TypeId × Value → HT} {P : Program} {f : Func} {s : ChangeSpec} {W W' : World} {args : Array Value} {ds : List (DataW HT)} {before : List MemPlace} {tb : TypeId} {apart : Bool}
    (hvars : s.vars = []) (hl : laidOutB P = true) (hread : f.params.toList.all (fun t => P.readableRec t && decide (t < P.types.size)) = true)
    (hW' : DataW.Whole enc P f.params.toList s.vars apart W args.toList ds [] before) (hb : Below W.heap.size W W') (hrt : f.resultTypes = #[tb]) (hu : P.underlying tb = some .bool)
    (hres : (s.fn HT (ds ++ [])).results = [.lit (.bool true)]) (hargs : (s.fn HT (ds ++ [])).args = ds) (hvs : (s.fn HT (ds ++ [])).vars = []) :
    s.post enc P f apart true false false W args (.bool true) W' := by
  have hlt := hW'.lt
  have hW2 := hW'
  obtain ⟨p, q, hA, hV, hpq, hfz, hnd⟩ := hW'
  rw [hvars] at hV
  obtain ⟨_, hq⟩ := trodVars_none hV
  subst hq
  have hbp : before = p := by rw [hpq, List.append_nil]
  refine ⟨ds, [], before, [], before, [], hW2, ?_, ?_, ?_, hb.frame _, fun h => by cases h⟩
  · rw [hres, hrt]
    exact trodAll_mk1 (shut_bool hu true)
  · rw [hargs]
    refine trodAll_below hl hb _ _ _ _ (fun t ht => ?_) hlt (hbp ▸ hA)
    have := List.all_eq_true.1 hread t ht
    simpa using this
  · rw [hvs, hvars]; rfl

/-- What a law's contract gives the row. -/
theorem law_end {HT : Type} {enc : TypeId × Value → HT} {P : Program} {k : FuncId} {f : Func} {s : ChangeSpec} {W : World} {args : Array Value} {ds : List (DataW HT)} {before : List MemPlace} {tb : TypeId} {apart : Bool}
    (hc : Ct P k args W.heap (fun v H' => v = .bool true ∧ Kp [] W.heap H'))
    (hvars : s.vars = []) (hl : laidOutB P = true) (hread : f.params.toList.all (fun t => P.readableRec t && decide (t < P.types.size)) = true)
    (hW' : DataW.Whole enc P f.params.toList s.vars apart W args.toList ds [] before) (hrt : f.resultTypes = #[tb]) (hu : P.underlying tb = some .bool)
    (hres : (s.fn HT (ds ++ [])).results = [.lit (.bool true)]) (hargs : (s.fn HT (ds ++ [])).args = ds) (hvs : (s.fn HT (ds ++ [])).vars = []) :
    Calls P k args W (fun e W' => ∃ v, e = .returned v ∧ s.post enc P f apart true false false W args v W') := by
  refine (hc W rfl).mono ?_
  rintro e W' ⟨v, rfl, hio, rfl, hk⟩
  exact ⟨_, rfl, law_post hvars hl hread hW' ⟨hio.os, hio.tape, hio.output, hk.size, fun b hb => hk.get b hb (by simp)⟩ hrt hu hres hargs hvs⟩

end Go.SX
