/- The walk: any text is read. -/
import Derived.Test.YtcandjdomeompaaDoorTQ
namespace Go.Proofs.YtcandjdomeompaaDoor
open Go.SX Go.Chr
attribute [local irreducible] X E N Ct
set_option linter.unusedVariables false
set_option linter.unusedSimpArgs false
theorem parseL_ct (s : Bs) (H : Heap) (hs : 512 < s.length) : Ct Tryd.prog 14 #[str s] H fun v H' => v = .tuple #[.slice none 0 0, i64 3, i64 512] ∧ H' = H := by
  refine Ct.into 48 Tryd.func14 rfl [(0, str s)] rfl ⟨rfl, trivial⟩ ?_
  refine E.seq ?_
  refine E.region ?_
  refine X.asg rfl rfl rfl rfl rfl ?_
  refine X.asg rfl rfl rfl rfl rfl ?_
  refine X.asg rfl rfl rfl rfl rfl ?_
  refine X.done [(0, _), (2, _), (3, _), (4, _)] ⟨rfl, rfl, rfl, rfl, trivial⟩ ?_
  refine N.then ?_
  refine E.seq ?_
  refine E.seq ?_
  refine E.region ?_
  refine X.mv rfl rfl rfl rfl rfl ?_
  refine X.lenL rfl rfl rfl rfl rfl Tryd.underlying9 ?_
  refine X.gtr rfl rfl rfl rfl rfl rfl ?_
  refine X.done [(0, _), (2, _), (3, _), (4, _), (11, _)] ⟨rfl, rfl, rfl, rfl, rfl, trivial⟩ ?_
  refine N.then ?_
  refine E.condD rfl (fun hc => ?_) (fun hc => ?_)
  · refine E.seq ?_
    refine E.region ?_
    refine X.asg rfl rfl rfl rfl rfl ?_
    refine X.asg rfl rfl rfl rfl rfl ?_
    refine X.asg rfl rfl rfl rfl rfl ?_
    refine X.done [(0, _), (2, _), (3, _), (4, _)] ⟨rfl, rfl, rfl, rfl, trivial⟩ ?_
    refine N.then ?_
    refine E.ret ?_
    refine N.thenR ?_
    exact N.retH [_, _, _] ⟨_, _, rfl, rfl, _, _, rfl, rfl, _, _, rfl, rfl, rfl⟩ ⟨rfl, rfl⟩
  · exfalso; omega
theorem parseA_ct (s : Bs) (m : List Nd) (e b : Int) (he : prs s = (m, e, b)) (H : Heap) (hT : Tab H) : Ct Tryd.prog 14 #[str s] H fun v H' => ∃ w, v = .tuple #[w, i64 e, i64 b] ∧ NRF H H' w m ∧ Kp [] H H' := by
  by_cases hs : 512 < s.length
  · have e1 := parse_1 hs
    rw [he] at e1
    cases e1
    refine (parseL_ct s H hs).mono ?_
    rintro v H' ⟨h1, rfl⟩
    exact ⟨_, h1, ⟨NR.nil _, fun b hb => absurd (show b ∈ ([] : List Nat) from hb) (by simp)⟩, Kp.refl _ _⟩
  · exact (parse_ct s H hT (by omega)).mono fun v H' ⟨w, h1, h2⟩ => ⟨w, by rw [h1, he], by rw [he] at h2; exact h2⟩

end Go.Proofs.YtcandjdomeompaaDoor