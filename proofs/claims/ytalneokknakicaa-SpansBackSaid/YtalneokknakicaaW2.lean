/- The laws' functions of layer 8: each gives true, whatever its arguments; new blocks alone are made. -/
import Derived.Test.YtalneokknakicaaW1
namespace Go.Proofs.Ytalneokknakicaa
open Go.SX Go.Spans
attribute [local irreducible] X E N Ct
set_option linter.unusedVariables false

theorem known_ct (H : Heap) : Ct Try.prog 11 #[] H fun v H' => v = .bool true ∧ Kp [] H H' := by
  refine Ct.into 96 Try.func11 rfl [] rfl trivial ?_
  refine E.seq ?_
  refine E.region ?_
  refine X.asg rfl rfl rfl rfl rfl ?_
  refine X.done [(0, _)] ⟨rfl, trivial⟩ ?_
  refine N.then ?_
  refine E.seq ?_
  refine E.region ?_
  refine X.call rfl rfl rfl rfl rfl Try.cl7 (oflen_ct 12 H) ?_
  rintro _ H1 ⟨rfl, hk1⟩
  refine X.mv rfl rfl rfl rfl rfl ?_
  refine X.extract rfl rfl rfl rfl rfl rfl ?_
  refine X.extract rfl rfl rfl rfl rfl rfl ?_
  refine X.extract rfl rfl rfl rfl rfl rfl ?_
  refine X.extract rfl rfl rfl rfl rfl rfl ?_
  refine X.asg rfl rfl rfl rfl rfl ?_
  refine X.asg rfl rfl rfl rfl rfl ?_
  refine X.asg rfl rfl rfl rfl rfl ?_
  refine X.asg rfl rfl rfl rfl rfl ?_
  refine X.done [(0, _), (1, _), (2, _), (3, _), (4, _)] ⟨rfl, rfl, rfl, rfl, rfl, trivial⟩ ?_
  refine N.then ?_
  refine E.seq ?_
  refine E.region ?_
  refine X.call rfl rfl rfl rfl rfl Try.cl7 (oflen_ct 258 H1) ?_
  rintro _ H2 ⟨rfl, hk2⟩
  refine X.mv rfl rfl rfl rfl rfl ?_
  refine X.extract rfl rfl rfl rfl rfl rfl ?_
  refine X.extract rfl rfl rfl rfl rfl rfl ?_
  refine X.extract rfl rfl rfl rfl rfl rfl ?_
  refine X.extract rfl rfl rfl rfl rfl rfl ?_
  refine X.asg rfl rfl rfl rfl rfl ?_
  refine X.asg rfl rfl rfl rfl rfl ?_
  refine X.asg rfl rfl rfl rfl rfl ?_
  refine X.asg rfl rfl rfl rfl rfl ?_
  refine X.done [(0, _), (1, _), (2, _), (3, _), (4, _), (5, _), (6, _), (7, _), (8, _)] ⟨rfl, rfl, rfl, rfl, rfl, rfl, rfl, rfl, rfl, trivial⟩ ?_
  refine N.then ?_
  refine E.seq ?_
  refine E.region ?_
  refine X.call rfl rfl rfl rfl rfl Try.cl9 (ofdist_ct 32768 H2) ?_
  rintro _ H3 ⟨rfl, hk3⟩
  refine X.mv rfl rfl rfl rfl rfl ?_
  refine X.extract rfl rfl rfl rfl rfl rfl ?_
  refine X.extract rfl rfl rfl rfl rfl rfl ?_
  refine X.extract rfl rfl rfl rfl rfl rfl ?_
  refine X.extract rfl rfl rfl rfl rfl rfl ?_
  refine X.asg rfl rfl rfl rfl rfl ?_
  refine X.asg rfl rfl rfl rfl rfl ?_
  refine X.asg rfl rfl rfl rfl rfl ?_
  refine X.asg rfl rfl rfl rfl rfl ?_
  refine X.done [(0, _), (1, _), (2, _), (3, _), (4, _), (5, _), (6, _), (7, _), (8, _), (9, _), (10, _), (11, _), (12, _)] ⟨rfl, rfl, rfl, rfl, rfl, rfl, rfl, rfl, rfl, rfl, rfl, rfl, rfl, trivial⟩ ?_
  refine N.then ?_
  refine E.seq ?_
  refine E.region ?_
  refine X.call rfl rfl rfl rfl rfl Try.cl12 (len_ct 284 H3 (by omega)) ?_
  rintro _ H4 ⟨rfl, hk4⟩
  refine X.mv rfl rfl rfl rfl rfl ?_
  refine X.extract rfl rfl rfl rfl rfl rfl ?_
  refine X.extract rfl rfl rfl rfl rfl rfl ?_
  refine X.extract rfl rfl rfl rfl rfl rfl ?_
  refine X.asg rfl rfl rfl rfl rfl ?_
  refine X.asg rfl rfl rfl rfl rfl ?_
  refine X.asg rfl rfl rfl rfl rfl ?_
  refine X.done [(0, _), (1, _), (2, _), (3, _), (4, _), (5, _), (6, _), (7, _), (8, _), (9, _), (10, _), (11, _), (12, _), (13, _), (14, _), (15, _)] ⟨rfl, rfl, rfl, rfl, rfl, rfl, rfl, rfl, rfl, rfl, rfl, rfl, rfl, rfl, rfl, rfl, trivial⟩ ?_
  refine N.then ?_
  refine E.seq ?_
  refine E.region ?_
  refine X.mv rfl rfl rfl rfl rfl ?_
  refine X.eqlT rfl rfl rfl rfl rfl rfl (by decide +kernel) ?_
  refine X.mv rfl rfl rfl rfl rfl ?_
  refine X.mv rfl rfl rfl rfl rfl ?_
  refine X.eqlT rfl rfl rfl rfl rfl rfl (by decide +kernel) ?_
  refine X.pickT rfl rfl rfl rfl rfl rfl ?_
  refine X.mv rfl rfl rfl rfl rfl ?_
  refine X.mv rfl rfl rfl rfl rfl ?_
  refine X.eqlT rfl rfl rfl rfl rfl rfl (by decide +kernel) ?_
  refine X.pickT rfl rfl rfl rfl rfl rfl ?_
  refine X.mv rfl rfl rfl rfl rfl ?_
  refine X.mv rfl rfl rfl rfl rfl ?_
  refine X.eqlT rfl rfl rfl rfl rfl rfl (by decide +kernel) ?_
  refine X.pickT rfl rfl rfl rfl rfl rfl ?_
  refine X.mv rfl rfl rfl rfl rfl ?_
  refine X.mv rfl rfl rfl rfl rfl ?_
  refine X.eqlT rfl rfl rfl rfl rfl rfl (by decide +kernel) ?_
  refine X.pickT rfl rfl rfl rfl rfl rfl ?_
  refine X.mv rfl rfl rfl rfl rfl ?_
  refine X.mv rfl rfl rfl rfl rfl ?_
  refine X.eqlT rfl rfl rfl rfl rfl rfl (by decide +kernel) ?_
  refine X.pickT rfl rfl rfl rfl rfl rfl ?_
  refine X.mv rfl rfl rfl rfl rfl ?_
  refine X.mv rfl rfl rfl rfl rfl ?_
  refine X.eqlT rfl rfl rfl rfl rfl rfl (by decide +kernel) ?_
  refine X.pickT rfl rfl rfl rfl rfl rfl ?_
  refine X.mv rfl rfl rfl rfl rfl ?_
  refine X.mv rfl rfl rfl rfl rfl ?_
  refine X.eqlT rfl rfl rfl rfl rfl rfl (by decide +kernel) ?_
  refine X.pickT rfl rfl rfl rfl rfl rfl ?_
  refine X.mv rfl rfl rfl rfl rfl ?_
  refine X.mv rfl rfl rfl rfl rfl ?_
  refine X.eqlT rfl rfl rfl rfl rfl rfl (by decide +kernel) ?_
  refine X.pickT rfl rfl rfl rfl rfl rfl ?_
  refine X.mv rfl rfl rfl rfl rfl ?_
  refine X.mv rfl rfl rfl rfl rfl ?_
  refine X.eqlT rfl rfl rfl rfl rfl rfl (by decide +kernel) ?_
  refine X.pickT rfl rfl rfl rfl rfl rfl ?_
  refine X.mv rfl rfl rfl rfl rfl ?_
  refine X.mv rfl rfl rfl rfl rfl ?_
  refine X.eqlT rfl rfl rfl rfl rfl rfl (by decide +kernel) ?_
  refine X.pickT rfl rfl rfl rfl rfl rfl ?_
  refine X.mv rfl rfl rfl rfl rfl ?_
  refine X.mv rfl rfl rfl rfl rfl ?_
  refine X.eqlT rfl rfl rfl rfl rfl rfl (by decide +kernel) ?_
  refine X.pickT rfl rfl rfl rfl rfl rfl ?_
  refine X.mv rfl rfl rfl rfl rfl ?_
  refine X.mv rfl rfl rfl rfl rfl ?_
  refine X.eqlT rfl rfl rfl rfl rfl rfl (by decide +kernel) ?_
  refine X.pickT rfl rfl rfl rfl rfl rfl ?_
  refine X.mv rfl rfl rfl rfl rfl ?_
  refine X.mv rfl rfl rfl rfl rfl ?_
  refine X.eqlT rfl rfl rfl rfl rfl rfl (by decide +kernel) ?_
  refine X.pickT rfl rfl rfl rfl rfl rfl ?_
  refine X.mv rfl rfl rfl rfl rfl ?_
  refine X.mv rfl rfl rfl rfl rfl ?_
  refine X.pickT rfl rfl rfl rfl rfl rfl ?_
  refine X.asg rfl rfl rfl rfl rfl ?_
  refine X.done [(0, _)] ⟨rfl, trivial⟩ ?_
  refine N.then ?_
  refine E.ret ?_
  exact N.retH [_] ⟨_, _, rfl, rfl, rfl⟩ ⟨by show Value.bool _ = _; congr 1, ((hk1.trans hk2 (by simp)).trans hk3 (by simp)).trans hk4 (by simp)⟩

theorem symbols_ct (s : Int) (H : Heap) (hs : -9223372036854775808 ≤ s ∧ s ≤ 9223372036854775807) : Ct Try.prog 4 #[.int .i64 s] H fun v H' => v = .bool true ∧ Kp [] H H' := by
  refine Ct.into 70 Try.func4 rfl [(0, .int .i64 s)] rfl ⟨rfl, trivial⟩ ?_
  refine E.seq ?_
  refine E.region ?_
  refine X.asg rfl rfl rfl rfl rfl ?_
  refine X.done [(0, _), (2, _)] ⟨rfl, rfl, trivial⟩ ?_
  refine N.then ?_
  refine E.seq ?_
  refine E.region ?_
  refine X.mv rfl rfl rfl rfl rfl ?_
  refine X.call rfl rfl rfl rfl rfl Try.cl12 (len_ct s H hs) ?_
  rintro _ H1 ⟨rfl, hk1⟩
  refine X.mv rfl rfl rfl rfl rfl ?_
  refine X.extract rfl rfl rfl rfl rfl rfl ?_
  refine X.extract rfl rfl rfl rfl rfl rfl ?_
  refine X.extract rfl rfl rfl rfl rfl rfl ?_
  refine X.asg rfl rfl rfl rfl rfl ?_
  refine X.asg rfl rfl rfl rfl rfl ?_
  refine X.asg rfl rfl rfl rfl rfl ?_
  refine X.done [(0, _), (2, _), (3, _), (4, _), (5, _)] ⟨rfl, rfl, rfl, rfl, rfl, trivial⟩ ?_
  refine N.then ?_
  refine E.seq ?_
  refine E.region ?_
  refine X.mv rfl rfl rfl rfl rfl ?_
  refine X.call rfl rfl rfl rfl rfl Try.cl13 (rlen_ct s H1) ?_
  rintro _ H2 ⟨rfl, hH2⟩
  obtain rfl := hH2.symm
  refine X.mv rfl rfl rfl rfl rfl ?_
  refine X.extract rfl rfl rfl rfl rfl rfl ?_
  refine X.extract rfl rfl rfl rfl rfl rfl ?_
  refine X.extract rfl rfl rfl rfl rfl rfl ?_
  refine X.asg rfl rfl rfl rfl rfl ?_
  refine X.asg rfl rfl rfl rfl rfl ?_
  refine X.asg rfl rfl rfl rfl rfl ?_
  refine X.done [(0, _), (2, _), (3, _), (4, _), (5, _), (6, _), (7, _), (8, _)] ⟨rfl, rfl, rfl, rfl, rfl, rfl, rfl, rfl, trivial⟩ ?_
  refine N.then ?_
  refine E.seq ?_
  refine E.region ?_
  refine X.mv rfl rfl rfl rfl rfl ?_
  refine X.call rfl rfl rfl rfl rfl Try.cl14 (dist_ct s H1 hs) ?_
  rintro _ H3 ⟨rfl, hk3⟩
  refine X.mv rfl rfl rfl rfl rfl ?_
  refine X.extract rfl rfl rfl rfl rfl rfl ?_
  refine X.extract rfl rfl rfl rfl rfl rfl ?_
  refine X.extract rfl rfl rfl rfl rfl rfl ?_
  refine X.asg rfl rfl rfl rfl rfl ?_
  refine X.asg rfl rfl rfl rfl rfl ?_
  refine X.asg rfl rfl rfl rfl rfl ?_
  refine X.done [(0, _), (2, _), (3, _), (4, _), (5, _), (6, _), (7, _), (8, _), (9, _), (10, _), (11, _)] ⟨rfl, rfl, rfl, rfl, rfl, rfl, rfl, rfl, rfl, rfl, rfl, trivial⟩ ?_
  refine N.then ?_
  refine E.seq ?_
  refine E.region ?_
  refine X.mv rfl rfl rfl rfl rfl ?_
  refine X.call rfl rfl rfl rfl rfl Try.cl15 (rdist_ct s H3) ?_
  rintro _ H4 ⟨rfl, hH4⟩
  obtain rfl := hH4.symm
  refine X.mv rfl rfl rfl rfl rfl ?_
  refine X.extract rfl rfl rfl rfl rfl rfl ?_
  refine X.extract rfl rfl rfl rfl rfl rfl ?_
  refine X.extract rfl rfl rfl rfl rfl rfl ?_
  refine X.asg rfl rfl rfl rfl rfl ?_
  refine X.asg rfl rfl rfl rfl rfl ?_
  refine X.asg rfl rfl rfl rfl rfl ?_
  refine X.done [(2, _), (3, _), (4, _), (5, _), (6, _), (7, _), (8, _), (9, _), (10, _), (11, _), (12, _), (13, _), (14, _)] ⟨rfl, rfl, rfl, rfl, rfl, rfl, rfl, rfl, rfl, rfl, rfl, rfl, rfl, trivial⟩ ?_
  refine N.then ?_
  refine E.seq ?_
  refine E.region ?_
  refine X.mv rfl rfl rfl rfl rfl ?_
  refine X.mv rfl rfl rfl rfl rfl ?_
  refine X.eqlT rfl rfl rfl rfl rfl rfl (rfl) ?_
  refine X.mv rfl rfl rfl rfl rfl ?_
  refine X.mv rfl rfl rfl rfl rfl ?_
  refine X.mv rfl rfl rfl rfl rfl ?_
  refine X.eqlT rfl rfl rfl rfl rfl rfl (rfl) ?_
  refine X.pickT rfl rfl rfl rfl rfl rfl ?_
  refine X.mv rfl rfl rfl rfl rfl ?_
  refine X.mv rfl rfl rfl rfl rfl ?_
  refine X.mv rfl rfl rfl rfl rfl ?_
  refine X.eqlBT rfl rfl rfl rfl rfl rfl Try.underlying4 (rfl) ?_
  refine X.pickT rfl rfl rfl rfl rfl rfl ?_
  refine X.mv rfl rfl rfl rfl rfl ?_
  refine X.mv rfl rfl rfl rfl rfl ?_
  refine X.mv rfl rfl rfl rfl rfl ?_
  refine X.eqlT rfl rfl rfl rfl rfl rfl (rfl) ?_
  refine X.pickT rfl rfl rfl rfl rfl rfl ?_
  refine X.mv rfl rfl rfl rfl rfl ?_
  refine X.mv rfl rfl rfl rfl rfl ?_
  refine X.mv rfl rfl rfl rfl rfl ?_
  refine X.eqlT rfl rfl rfl rfl rfl rfl (rfl) ?_
  refine X.pickT rfl rfl rfl rfl rfl rfl ?_
  refine X.mv rfl rfl rfl rfl rfl ?_
  refine X.mv rfl rfl rfl rfl rfl ?_
  refine X.mv rfl rfl rfl rfl rfl ?_
  refine X.eqlBT rfl rfl rfl rfl rfl rfl Try.underlying4 (rfl) ?_
  refine X.pickT rfl rfl rfl rfl rfl rfl ?_
  refine X.mv rfl rfl rfl rfl rfl ?_
  refine X.call rfl rfl rfl rfl rfl Try.cl11 (known_ct H3) ?_
  rintro _ HK ⟨rfl, hkK⟩
  refine X.pickT rfl rfl rfl rfl rfl rfl ?_
  refine X.asg rfl rfl rfl rfl rfl ?_
  refine X.done [(2, _)] ⟨rfl, trivial⟩ ?_
  refine N.then ?_
  refine E.ret ?_
  exact N.retH [_] ⟨_, _, rfl, rfl, rfl⟩ ⟨rfl, (hk1.trans hk3 (by simp)).trans hkK (by simp)⟩

theorem numbers_ct (s : Int) (H : Heap) : Ct Try.prog 3 #[.int .i64 s] H fun v H' => v = .bool true ∧ Kp [] H H' := by
  refine Ct.into 88 Try.func3 rfl [(0, .int .i64 s)] rfl ⟨rfl, trivial⟩ ?_
  refine E.seq ?_
  refine E.region ?_
  refine X.asg rfl rfl rfl rfl rfl ?_
  refine X.done [(0, _), (2, _)] ⟨rfl, rfl, trivial⟩ ?_
  refine N.then ?_
  refine E.seq ?_
  refine E.region ?_
  refine X.mv rfl rfl rfl rfl rfl ?_
  refine X.call rfl rfl rfl rfl rfl Try.cl7 (oflen_ct s H) ?_
  rintro _ H1 ⟨rfl, hk1⟩
  refine X.mv rfl rfl rfl rfl rfl ?_
  refine X.extract rfl rfl rfl rfl rfl rfl ?_
  refine X.extract rfl rfl rfl rfl rfl rfl ?_
  refine X.extract rfl rfl rfl rfl rfl rfl ?_
  refine X.extract rfl rfl rfl rfl rfl rfl ?_
  refine X.asg rfl rfl rfl rfl rfl ?_
  refine X.asg rfl rfl rfl rfl rfl ?_
  refine X.asg rfl rfl rfl rfl rfl ?_
  refine X.asg rfl rfl rfl rfl rfl ?_
  refine X.done [(0, _), (2, _), (3, _), (4, _), (5, _), (6, _)] ⟨rfl, rfl, rfl, rfl, rfl, rfl, trivial⟩ ?_
  refine N.then ?_
  refine E.seq ?_
  refine E.region ?_
  refine X.mv rfl rfl rfl rfl rfl ?_
  refine X.call rfl rfl rfl rfl rfl Try.cl8 (roflen_ct s H1) ?_
  rintro _ H2 ⟨rfl, hH2⟩
  obtain rfl := hH2.symm
  refine X.mv rfl rfl rfl rfl rfl ?_
  refine X.extract rfl rfl rfl rfl rfl rfl ?_
  refine X.extract rfl rfl rfl rfl rfl rfl ?_
  refine X.extract rfl rfl rfl rfl rfl rfl ?_
  refine X.extract rfl rfl rfl rfl rfl rfl ?_
  refine X.asg rfl rfl rfl rfl rfl ?_
  refine X.asg rfl rfl rfl rfl rfl ?_
  refine X.asg rfl rfl rfl rfl rfl ?_
  refine X.asg rfl rfl rfl rfl rfl ?_
  refine X.done [(0, _), (2, _), (3, _), (4, _), (5, _), (6, _), (7, _), (8, _), (9, _), (10, _)] ⟨rfl, rfl, rfl, rfl, rfl, rfl, rfl, rfl, rfl, rfl, trivial⟩ ?_
  refine N.then ?_
  refine E.seq ?_
  refine E.region ?_
  refine X.mv rfl rfl rfl rfl rfl ?_
  refine X.call rfl rfl rfl rfl rfl Try.cl9 (ofdist_ct s H1) ?_
  rintro _ H3 ⟨rfl, hk3⟩
  refine X.mv rfl rfl rfl rfl rfl ?_
  refine X.extract rfl rfl rfl rfl rfl rfl ?_
  refine X.extract rfl rfl rfl rfl rfl rfl ?_
  refine X.extract rfl rfl rfl rfl rfl rfl ?_
  refine X.extract rfl rfl rfl rfl rfl rfl ?_
  refine X.asg rfl rfl rfl rfl rfl ?_
  refine X.asg rfl rfl rfl rfl rfl ?_
  refine X.asg rfl rfl rfl rfl rfl ?_
  refine X.asg rfl rfl rfl rfl rfl ?_
  refine X.done [(0, _), (2, _), (3, _), (4, _), (5, _), (6, _), (7, _), (8, _), (9, _), (10, _), (11, _), (12, _), (13, _), (14, _)] ⟨rfl, rfl, rfl, rfl, rfl, rfl, rfl, rfl, rfl, rfl, rfl, rfl, rfl, rfl, trivial⟩ ?_
  refine N.then ?_
  refine E.seq ?_
  refine E.region ?_
  refine X.mv rfl rfl rfl rfl rfl ?_
  refine X.call rfl rfl rfl rfl rfl Try.cl10 (rofdist_ct s H3) ?_
  rintro _ H4 ⟨rfl, hH4⟩
  obtain rfl := hH4.symm
  refine X.mv rfl rfl rfl rfl rfl ?_
  refine X.extract rfl rfl rfl rfl rfl rfl ?_
  refine X.extract rfl rfl rfl rfl rfl rfl ?_
  refine X.extract rfl rfl rfl rfl rfl rfl ?_
  refine X.extract rfl rfl rfl rfl rfl rfl ?_
  refine X.asg rfl rfl rfl rfl rfl ?_
  refine X.asg rfl rfl rfl rfl rfl ?_
  refine X.asg rfl rfl rfl rfl rfl ?_
  refine X.asg rfl rfl rfl rfl rfl ?_
  refine X.done [(2, _), (3, _), (4, _), (5, _), (6, _), (7, _), (8, _), (9, _), (10, _), (11, _), (12, _), (13, _), (14, _), (15, _), (16, _), (17, _), (18, _)] ⟨rfl, rfl, rfl, rfl, rfl, rfl, rfl, rfl, rfl, rfl, rfl, rfl, rfl, rfl, rfl, rfl, rfl, trivial⟩ ?_
  refine N.then ?_
  refine E.seq ?_
  refine E.region ?_
  refine X.mv rfl rfl rfl rfl rfl ?_
  refine X.mv rfl rfl rfl rfl rfl ?_
  refine X.eqlT rfl rfl rfl rfl rfl rfl (rfl) ?_
  refine X.mv rfl rfl rfl rfl rfl ?_
  refine X.mv rfl rfl rfl rfl rfl ?_
  refine X.mv rfl rfl rfl rfl rfl ?_
  refine X.eqlT rfl rfl rfl rfl rfl rfl (rfl) ?_
  refine X.pickT rfl rfl rfl rfl rfl rfl ?_
  refine X.mv rfl rfl rfl rfl rfl ?_
  refine X.mv rfl rfl rfl rfl rfl ?_
  refine X.mv rfl rfl rfl rfl rfl ?_
  refine X.eqlT rfl rfl rfl rfl rfl rfl (rfl) ?_
  refine X.pickT rfl rfl rfl rfl rfl rfl ?_
  refine X.mv rfl rfl rfl rfl rfl ?_
  refine X.mv rfl rfl rfl rfl rfl ?_
  refine X.mv rfl rfl rfl rfl rfl ?_
  refine X.eqlT rfl rfl rfl rfl rfl rfl (rfl) ?_
  refine X.pickT rfl rfl rfl rfl rfl rfl ?_
  refine X.mv rfl rfl rfl rfl rfl ?_
  refine X.mv rfl rfl rfl rfl rfl ?_
  refine X.mv rfl rfl rfl rfl rfl ?_
  refine X.eqlT rfl rfl rfl rfl rfl rfl (rfl) ?_
  refine X.pickT rfl rfl rfl rfl rfl rfl ?_
  refine X.mv rfl rfl rfl rfl rfl ?_
  refine X.mv rfl rfl rfl rfl rfl ?_
  refine X.mv rfl rfl rfl rfl rfl ?_
  refine X.eqlT rfl rfl rfl rfl rfl rfl (rfl) ?_
  refine X.pickT rfl rfl rfl rfl rfl rfl ?_
  refine X.mv rfl rfl rfl rfl rfl ?_
  refine X.mv rfl rfl rfl rfl rfl ?_
  refine X.mv rfl rfl rfl rfl rfl ?_
  refine X.eqlT rfl rfl rfl rfl rfl rfl (rfl) ?_
  refine X.pickT rfl rfl rfl rfl rfl rfl ?_
  refine X.mv rfl rfl rfl rfl rfl ?_
  refine X.mv rfl rfl rfl rfl rfl ?_
  refine X.mv rfl rfl rfl rfl rfl ?_
  refine X.eqlT rfl rfl rfl rfl rfl rfl (rfl) ?_
  refine X.pickT rfl rfl rfl rfl rfl rfl ?_
  refine X.mv rfl rfl rfl rfl rfl ?_
  refine X.call rfl rfl rfl rfl rfl Try.cl11 (known_ct H3) ?_
  rintro _ HK ⟨rfl, hkK⟩
  refine X.pickT rfl rfl rfl rfl rfl rfl ?_
  refine X.asg rfl rfl rfl rfl rfl ?_
  refine X.done [(2, _)] ⟨rfl, trivial⟩ ?_
  refine N.then ?_
  refine E.ret ?_
  exact N.retH [_] ⟨_, _, rfl, rfl, rfl⟩ ⟨rfl, (hk1.trans hk3 (by simp)).trans hkK (by simp)⟩


theorem ofDistS_in (k : Int) (h1 : 1 ≤ k) (h2 : k ≤ 32768) : ofDistS k = (((srch 2 1 k 29 : Nat) : Int), bt 2 (srch 2 1 k 29), k - bse 2 1 (srch 2 1 k 29), 0) := by
  unfold ofDistS; rw [if_neg (by omega)]; simp
theorem ofLenS_in (k : Int) (h1 : 3 ≤ k) (h2 : k < 258) : ofLenS k = (257 + ((srch 4 3 k 27 : Nat) : Int), bt 4 (srch 4 3 k 27), k - bse 4 3 (srch 4 3 k 27), 0) := by
  unfold ofLenS; rw [if_neg (by omega), if_neg (by omega)]
/-- What any length gives back. -/
theorem len_back (m : Int) (h1 : 3 ≤ m) (h2 : m ≤ 258) : ∃ s c w from_, ofLenS m = (s, c, w, 0) ∧ 257 ≤ s ∧ s ≤ 285 ∧ lenS s = (from_, c, true) ∧ from_ + w = m ∧ 0 ≤ w ∧ w < 2 ^ c.toNat ∧ 0 ≤ c ∧ c ≤ 15 ∧ 0 ≤ from_ ∧ from_ ≤ 300 := by
  by_cases h : m = 258
  · subst h; exact ⟨285, 0, 0, 258, rfl, by omega, by omega, rfl, by omega, by omega, by simp, by omega, by omega, by omega, by omega⟩
  · have hl := srch_le 4 3 m 27
    have hb := bse_lt4 (srch 4 3 m 27) (by omega)
    have hw := len_left h1 (by omega : m < 258)
    exact ⟨_, _, _, _, ofLenS_in m h1 (by omega), by omega, by omega, lenS_at _ (by omega), by omega, hw.1, hw.2, hb.2.2.1, hb.2.2.2, by omega, by omega⟩
theorem dist_back (k : Int) (h1 : 1 ≤ k) (h2 : k ≤ 32768) : ∃ s c w from_, ofDistS k = (s, c, w, 0) ∧ 0 ≤ s ∧ s ≤ 29 ∧ distS s = (from_, c, true) ∧ from_ + w = k ∧ 0 ≤ w ∧ w < 2 ^ c.toNat ∧ 0 ≤ c ∧ c ≤ 15 ∧ 0 ≤ from_ ∧ from_ ≤ 40000 := by
  have hl := srch_le 2 1 k 29
  have hb := bse_lt2 (srch 2 1 k 29) (by omega)
  have hw := dist_left h1 h2
  exact ⟨_, _, _, _, ofDistS_in k h1 h2, by omega, by omega, distS_at _ (by omega), by omega, hw.1, hw.2, hb.2.2.1, hb.2.2.2, by omega, by omega⟩

theorem back_ct (n : Int) (H : Heap) (hn : 0 ≤ n ∧ n ≤ 65535) : Ct Try.prog 5 #[.int .u16 n] H fun v H' => v = .bool true ∧ Kp [] H H' := by
  obtain ⟨s, c, w, fr, e1, hs0, hs1, e2, e3, hw0, hw1, hc0, hc1, hf0, hf1⟩ := dist_back (1 + n % 32768) (by omega) (by omega)
  have c9 : ∀ H, Ct Try.prog 9 #[.int .i64 (1 + n % 32768)] H fun v H' => v = .tuple #[.int .i64 s, .int .i64 c, .int .i64 w, .int .i64 0] ∧ Kp [] H H' := by
    intro H; have h := ofdist_ct (1 + n % 32768) H; rw [e1] at h; exact h
  have c14 : ∀ H, Ct Try.prog 14 #[.int .i64 (s)] H fun v H' => v = .tuple #[.int .i64 fr, .int .i64 c, .bool true] ∧ Kp [] H H' := by
    intro H; have h := dist_ct s H (by omega); rw [e2] at h; exact h
  obtain ⟨s', c', w', fr', e1', hs0', hs1', e2', e3', hw0', hw1', hc0', hc1', hf0', hf1'⟩ := len_back (3 + n % 256) (by omega) (by omega)
  have c7 : ∀ H, Ct Try.prog 7 #[.int .i64 (3 + n % 256)] H fun v H' => v = .tuple #[.int .i64 s', .int .i64 c', .int .i64 w', .int .i64 0] ∧ Kp [] H H' := by
    intro H; have h := oflen_ct (3 + n % 256) H; rw [e1'] at h; exact h
  have c12 : ∀ H, Ct Try.prog 12 #[.int .i64 (s')] H fun v H' => v = .tuple #[.int .i64 fr', .int .i64 c', .bool true] ∧ Kp [] H H' := by
    intro H; have h := len_ct s' H (by omega); rw [e2'] at h; exact h
  have hp := pow_le' c hc1
  have hp' := pow_le' c' hc1'
  refine Ct.into 113 Try.func5 rfl [(0, .int .u16 n)] rfl ⟨rfl, trivial⟩ ?_
  refine E.seq ?_
  refine E.region ?_
  refine X.asg rfl rfl rfl rfl rfl ?_
  refine X.done [(0, _), (2, _)] ⟨rfl, rfl, trivial⟩ ?_
  refine N.then ?_
  refine E.seq ?_
  refine E.region ?_
  refine X.mv rfl rfl rfl rfl rfl ?_
  refine X.convE rfl rfl rfl rfl rfl Try.underlying3 Try.us29 (IntWalk.i64_in _ (by omega)) ?_
  refine X.rem rfl rfl rfl rfl rfl rfl (by omega) ?_
  refine X.add rfl rfl rfl rfl rfl rfl (by omega) ?_
  refine X.asg rfl rfl rfl rfl rfl ?_
  refine X.done [(0, _), (2, _), (3, _)] ⟨rfl, rfl, rfl, trivial⟩ ?_
  refine N.then ?_
  refine E.seq ?_
  refine E.region ?_
  refine X.mv rfl rfl rfl rfl rfl ?_
  refine X.call rfl rfl rfl rfl rfl Try.cl9 (c9 H) ?_
  rintro _ H1 ⟨rfl, hk1⟩
  refine X.mv rfl rfl rfl rfl rfl ?_
  refine X.extract rfl rfl rfl rfl rfl rfl ?_
  refine X.extract rfl rfl rfl rfl rfl rfl ?_
  refine X.extract rfl rfl rfl rfl rfl rfl ?_
  refine X.extract rfl rfl rfl rfl rfl rfl ?_
  refine X.asg rfl rfl rfl rfl rfl ?_
  refine X.asg rfl rfl rfl rfl rfl ?_
  refine X.asg rfl rfl rfl rfl rfl ?_
  refine X.asg rfl rfl rfl rfl rfl ?_
  refine X.done [(0, _), (2, _), (3, _), (4, _), (5, _), (6, _), (7, _)] ⟨rfl, rfl, rfl, rfl, rfl, rfl, rfl, trivial⟩ ?_
  refine N.then ?_
  refine E.seq ?_
  refine E.region ?_
  refine X.mv rfl rfl rfl rfl rfl ?_
  refine X.call rfl rfl rfl rfl rfl Try.cl14 (c14 H1) ?_
  rintro _ H2 ⟨rfl, hk2⟩
  refine X.mv rfl rfl rfl rfl rfl ?_
  refine X.extract rfl rfl rfl rfl rfl rfl ?_
  refine X.extract rfl rfl rfl rfl rfl rfl ?_
  refine X.extract rfl rfl rfl rfl rfl rfl ?_
  refine X.asg rfl rfl rfl rfl rfl ?_
  refine X.asg rfl rfl rfl rfl rfl ?_
  refine X.asg rfl rfl rfl rfl rfl ?_
  refine X.done [(0, _), (2, _), (3, _), (5, _), (6, _), (7, _), (8, _), (9, _), (10, _)] ⟨rfl, rfl, rfl, rfl, rfl, rfl, rfl, rfl, rfl, trivial⟩ ?_
  refine N.then ?_
  refine E.seq ?_
  refine E.seq ?_
  refine E.region ?_
  refine X.mv rfl rfl rfl rfl rfl ?_
  refine X.neqF rfl rfl rfl rfl rfl rfl (fun h => h rfl) ?_
  refine X.mv rfl rfl rfl rfl rfl ?_
  refine X.mv rfl rfl rfl rfl rfl ?_
  refine X.notT rfl rfl rfl rfl rfl ?_
  refine X.pickF rfl rfl rfl rfl rfl rfl ?_
  refine X.mv rfl rfl rfl rfl rfl ?_
  refine X.mv rfl rfl rfl rfl rfl ?_
  refine X.mv rfl rfl rfl rfl rfl ?_
  refine X.add rfl rfl rfl rfl rfl rfl (by omega) ?_
  refine X.mv rfl rfl rfl rfl rfl ?_
  refine X.neqF rfl rfl rfl rfl rfl rfl (fun h => h e3) ?_
  refine X.pickF rfl rfl rfl rfl rfl rfl ?_
  refine X.mv rfl rfl rfl rfl rfl ?_
  refine X.mv rfl rfl rfl rfl rfl ?_
  refine X.mv rfl rfl rfl rfl rfl ?_
  refine X.neqF rfl rfl rfl rfl rfl rfl (fun h => h rfl) ?_
  refine X.pickF rfl rfl rfl rfl rfl rfl ?_
  refine X.mv rfl rfl rfl rfl rfl ?_
  refine X.mv rfl rfl rfl rfl rfl ?_
  refine X.lssF rfl rfl rfl rfl rfl rfl (by omega) ?_
  refine X.pickF rfl rfl rfl rfl rfl rfl ?_
  refine X.mv rfl rfl rfl rfl rfl ?_
  refine X.mv rfl rfl rfl rfl rfl ?_
  refine X.mv rfl rfl rfl rfl rfl ?_
  refine X.convE rfl rfl rfl rfl rfl Try.underlying30 Try.us3 (IntWalk.u64_in _ (by omega)) ?_
  refine X.shlE rfl rfl rfl rfl rfl rfl (by omega) (shl1 c ⟨hc0, hc1⟩) ?_
  refine X.geqF rfl rfl rfl rfl rfl rfl (by omega) ?_
  refine X.pickF rfl rfl rfl rfl rfl rfl ?_
  refine X.done [(0, _), (2, _), (64, _)] ⟨rfl, rfl, rfl, trivial⟩ ?_
  refine N.then ?_
  refine E.condF rfl ?_
  refine E.skip ?_
  refine N.then ?_
  refine E.seq ?_
  refine E.region ?_
  refine X.mv rfl rfl rfl rfl rfl ?_
  refine X.convE rfl rfl rfl rfl rfl Try.underlying3 Try.us29 (IntWalk.i64_in _ (by omega)) ?_
  refine X.rem rfl rfl rfl rfl rfl rfl (by omega) ?_
  refine X.add rfl rfl rfl rfl rfl rfl (by omega) ?_
  refine X.asg rfl rfl rfl rfl rfl ?_
  refine X.done [(2, _), (11, _)] ⟨rfl, rfl, trivial⟩ ?_
  refine N.then ?_
  refine E.seq ?_
  refine E.region ?_
  refine X.mv rfl rfl rfl rfl rfl ?_
  refine X.call rfl rfl rfl rfl rfl Try.cl7 (c7 H2) ?_
  rintro _ H3 ⟨rfl, hk3⟩
  refine X.mv rfl rfl rfl rfl rfl ?_
  refine X.extract rfl rfl rfl rfl rfl rfl ?_
  refine X.extract rfl rfl rfl rfl rfl rfl ?_
  refine X.extract rfl rfl rfl rfl rfl rfl ?_
  refine X.extract rfl rfl rfl rfl rfl rfl ?_
  refine X.asg rfl rfl rfl rfl rfl ?_
  refine X.asg rfl rfl rfl rfl rfl ?_
  refine X.asg rfl rfl rfl rfl rfl ?_
  refine X.asg rfl rfl rfl rfl rfl ?_
  refine X.done [(2, _), (11, _), (12, _), (13, _), (14, _), (15, _)] ⟨rfl, rfl, rfl, rfl, rfl, rfl, trivial⟩ ?_
  refine N.then ?_
  refine E.seq ?_
  refine E.region ?_
  refine X.mv rfl rfl rfl rfl rfl ?_
  refine X.call rfl rfl rfl rfl rfl Try.cl12 (c12 H3) ?_
  rintro _ H4 ⟨rfl, hk4⟩
  refine X.mv rfl rfl rfl rfl rfl ?_
  refine X.extract rfl rfl rfl rfl rfl rfl ?_
  refine X.extract rfl rfl rfl rfl rfl rfl ?_
  refine X.extract rfl rfl rfl rfl rfl rfl ?_
  refine X.asg rfl rfl rfl rfl rfl ?_
  refine X.asg rfl rfl rfl rfl rfl ?_
  refine X.asg rfl rfl rfl rfl rfl ?_
  refine X.done [(2, _), (11, _), (13, _), (14, _), (15, _), (16, _), (17, _), (18, _)] ⟨rfl, rfl, rfl, rfl, rfl, rfl, rfl, rfl, trivial⟩ ?_
  refine N.then ?_
  refine E.seq ?_
  refine E.region ?_
  refine X.mv rfl rfl rfl rfl rfl ?_
  refine X.eqlT rfl rfl rfl rfl rfl rfl (rfl) ?_
  refine X.mv rfl rfl rfl rfl rfl ?_
  refine X.mv rfl rfl rfl rfl rfl ?_
  refine X.pickT rfl rfl rfl rfl rfl rfl ?_
  refine X.mv rfl rfl rfl rfl rfl ?_
  refine X.mv rfl rfl rfl rfl rfl ?_
  refine X.mv rfl rfl rfl rfl rfl ?_
  refine X.add rfl rfl rfl rfl rfl rfl (by omega) ?_
  refine X.mv rfl rfl rfl rfl rfl ?_
  refine X.eqlT rfl rfl rfl rfl rfl rfl (by omega) ?_
  refine X.pickT rfl rfl rfl rfl rfl rfl ?_
  refine X.mv rfl rfl rfl rfl rfl ?_
  refine X.mv rfl rfl rfl rfl rfl ?_
  refine X.mv rfl rfl rfl rfl rfl ?_
  refine X.eqlT rfl rfl rfl rfl rfl rfl (rfl) ?_
  refine X.pickT rfl rfl rfl rfl rfl rfl ?_
  refine X.mv rfl rfl rfl rfl rfl ?_
  refine X.mv rfl rfl rfl rfl rfl ?_
  refine X.geqT rfl rfl rfl rfl rfl rfl (by omega) ?_
  refine X.pickT rfl rfl rfl rfl rfl rfl ?_
  refine X.mv rfl rfl rfl rfl rfl ?_
  refine X.mv rfl rfl rfl rfl rfl ?_
  refine X.mv rfl rfl rfl rfl rfl ?_
  refine X.convE rfl rfl rfl rfl rfl Try.underlying30 Try.us3 (IntWalk.u64_in _ (by omega)) ?_
  refine X.shlE rfl rfl rfl rfl rfl rfl (by omega) (shl1 c' ⟨hc0', hc1'⟩) ?_
  refine X.lssT rfl rfl rfl rfl rfl rfl (by omega) ?_
  refine X.pickT rfl rfl rfl rfl rfl rfl ?_
  refine X.mv rfl rfl rfl rfl rfl ?_
  refine X.call rfl rfl rfl rfl rfl Try.cl11 (known_ct H4) ?_
  rintro _ HK ⟨rfl, hkK⟩
  refine X.pickT rfl rfl rfl rfl rfl rfl ?_
  refine X.asg rfl rfl rfl rfl rfl ?_
  refine X.done [(2, _)] ⟨rfl, trivial⟩ ?_
  refine N.then ?_
  refine E.ret ?_
  exact N.retH [_] ⟨_, _, rfl, rfl, rfl⟩ ⟨rfl, (((hk1.trans hk2 (by simp)).trans hk3 (by simp)).trans hk4 (by simp)).trans hkK (by simp)⟩


theorem bse_top : bse 4 3 28 = 259 := by decide +kernel
theorem bse_top2 : bse 2 1 30 = 32769 := by decide +kernel
theorem len_one (s v : Int) (hs : 257 ≤ s ∧ s ≤ 285) : ∃ fr c, lenS s = (fr, c, true) ∧ 0 ≤ c ∧ c ≤ 15 ∧ 0 ≤ fr ∧ fr ≤ 300 ∧ (0 ≤ v → v < 2 ^ c.toNat → ∃ s2 c2 w, ofLenS (fr + v) = (s2, c2, w, 0) ∧ (fr + v = 258 → s2 = 285) ∧ (fr + v ≠ 258 → s2 = s ∧ w = v)) := by
  by_cases h : s = 285
  · subst h
    refine ⟨258, 0, rfl, by omega, by omega, by omega, by omega, fun h0 h1 => ?_⟩
    have : v = 0 := by simp at h1; omega
    subst this
    exact ⟨285, 0, 0, rfl, fun _ => rfl, fun h => absurd rfl h⟩
  · obtain ⟨j, hj⟩ := Int.eq_ofNat_of_zero_le (show 0 ≤ s - 257 by omega)
    obtain rfl : s = 257 + (j : Int) := by omega
    have hb := bse_lt4 j (by omega)
    refine ⟨bse 4 3 j, bt 4 j, lenS_at j (by omega), by omega, by omega, by omega, by omega, fun h0 h1 => ?_⟩
    have hm : bse 4 3 (j + 1) ≤ bse 4 3 28 := bse_mono (by omega)
    rw [bse_top, bse_succ] at hm
    by_cases h258 : bse 4 3 j + v = 258
    · rw [h258]; exact ⟨285, 0, 0, rfl, fun _ => rfl, fun h => absurd rfl h⟩
    · have hsr : srch 4 3 (bse 4 3 j + v) 27 = j := srch_eq 4 3 _ (by omega) (by omega) (fun _ => by rw [bse_succ]; omega)
      refine ⟨_, _, _, ofLenS_in _ (by omega) (by omega), fun h => absurd h h258, fun _ => ⟨by rw [hsr], by rw [hsr]; omega⟩⟩
theorem dist_one (s v : Int) (hs : 0 ≤ s ∧ s < 30) : ∃ fr c, distS s = (fr, c, true) ∧ 0 ≤ c ∧ c ≤ 15 ∧ 0 ≤ fr ∧ fr ≤ 40000 ∧ (0 ≤ v → v < 2 ^ c.toNat → ∃ c2, ofDistS (fr + v) = (s, c2, v, 0)) := by
  obtain ⟨j, rfl⟩ := Int.eq_ofNat_of_zero_le hs.1
  have hb := bse_lt2 j (by omega)
  refine ⟨bse 2 1 j, bt 2 j, distS_at j (by omega), by omega, by omega, by omega, by omega, fun h0 h1 => ?_⟩
  have hm : bse 2 1 (j + 1) ≤ bse 2 1 30 := bse_mono (by omega)
  rw [bse_top2, bse_succ] at hm
  have hsr : srch 2 1 (bse 2 1 j + v) 29 = j := srch_eq 2 1 _ (by omega) (by omega) (fun _ => by rw [bse_succ]; omega)
  rw [ofDistS_in _ (by omega) (by omega), hsr]
  exact ⟨_, by congr 3; omega⟩
theorem lenS_no (s : Int) (h : s < 257 ∨ 285 < s) : lenS s = (0, 0, false) := by
  unfold lenS ofS; rw [if_neg (by omega), if_pos (by omega)]
theorem distS_no (s : Int) (h : s < 0 ∨ 30 ≤ s) : distS s = (0, 0, false) := by
  unfold distS ofS; rw [if_pos (by omega)]

theorem one_len258 (s f : Int) (H : Heap) (hs : -9223372036854775808 ≤ s ∧ s ≤ 9223372036854775807) (hf : 0 ≤ f ∧ f ≤ 65535) (fr c s2 c2 w : Int) (e1 : lenS s = (fr, c, true)) (hc : 0 ≤ c ∧ c ≤ 15) (hfr : 0 ≤ fr ∧ fr ≤ 300) (e2 : ofLenS (fr + f % 2 ^ c.toNat) = (s2, c2, w, 0))
    (h2 : fr + f % 2 ^ c.toNat = 258 → s2 = 285) (h3 : fr + f % 2 ^ c.toNat ≠ 258 → s2 = s ∧ w = f % 2 ^ c.toNat) (h258 : fr + f % 2 ^ c.toNat = 258) (hs' : 257 ≤ s) : Ct Try.prog 6 #[.int .i64 s, .int .u16 f] H fun v H' => v = .bool true ∧ Kp [] H H' := by
  have c12 : ∀ H, Ct Try.prog 12 #[.int .i64 (s)] H fun v H' => v = .tuple #[.int .i64 fr, .int .i64 c, .bool true] ∧ Kp [] H H' := by
    intro H; have h := len_ct s H hs; rw [e1] at h; exact h
  have c14 : ∀ H, Ct Try.prog 14 #[.int .i64 (s)] H fun v H' => v = .tuple #[.int .i64 0, .int .i64 0, .bool false] ∧ Kp [] H H' := by
    intro H; have h := dist_ct s H hs; rw [distS_no s (by omega)] at h; exact h
  have c7 : ∀ H, Ct Try.prog 7 #[.int .i64 (fr + f % 2 ^ c.toNat)] H fun v H' => v = .tuple #[.int .i64 s2, .int .i64 c2, .int .i64 w, .int .i64 0] ∧ Kp [] H H' := by
    intro H; have h := oflen_ct (fr + f % 2 ^ c.toNat) H; rw [e2] at h; exact h
  have hp := pow_le' c hc.2
  have hp0 := pow_pos' c
  have hm0 := Int.emod_nonneg f (show (2:Int) ^ c.toNat ≠ 0 by omega)
  have hm1 := Int.emod_lt_of_pos f hp0
  have hkk : ∀ H0 H1 H2 H3 H4 : Heap, Kp [] H0 H1 → Kp [] H1 H2 → Kp [] H2 H3 → Kp [] H3 H4 → Kp [] H0 H4 := fun _ _ _ _ _ a b c d => ((a.trans b (by simp)).trans c (by simp)).trans d (by simp)
  refine Ct.into 106 Try.func6 rfl [(0, .int .i64 s), (1, .int .u16 f)] rfl ⟨rfl, rfl, trivial⟩ ?_
  refine E.seq ?_
  refine E.region ?_
  refine X.asg rfl rfl rfl rfl rfl ?_
  refine X.done [(0, _), (1, _), (4, _)] ⟨rfl, rfl, rfl, trivial⟩ ?_
  refine N.then ?_
  refine E.seq ?_
  refine E.region ?_
  refine X.mv rfl rfl rfl rfl rfl ?_
  refine X.call rfl rfl rfl rfl rfl Try.cl12 (c12 H) ?_
  rintro _ H1 ⟨rfl, hk1⟩
  refine X.mv rfl rfl rfl rfl rfl ?_
  refine X.extract rfl rfl rfl rfl rfl rfl ?_
  refine X.extract rfl rfl rfl rfl rfl rfl ?_
  refine X.extract rfl rfl rfl rfl rfl rfl ?_
  refine X.asg rfl rfl rfl rfl rfl ?_
  refine X.asg rfl rfl rfl rfl rfl ?_
  refine X.asg rfl rfl rfl rfl rfl ?_
  refine X.done [(0, _), (1, _), (4, _), (5, _), (6, _), (7, _)] ⟨rfl, rfl, rfl, rfl, rfl, rfl, trivial⟩ ?_
  refine N.then ?_
  refine E.seq ?_
  refine E.seq ?_
  refine E.region ?_
  refine X.mv rfl rfl rfl rfl rfl ?_
  refine X.done [(0, _), (1, _), (4, _), (5, _), (6, _), (27, _)] ⟨rfl, rfl, rfl, rfl, rfl, rfl, trivial⟩ ?_
  refine N.then ?_
  refine E.condT rfl ?_
  refine E.seq ?_
  refine E.region ?_
  refine X.mv rfl rfl rfl rfl rfl ?_
  refine X.convE rfl rfl rfl rfl rfl Try.underlying3 Try.us29 (IntWalk.i64_in _ (by omega)) ?_
  refine X.mv rfl rfl rfl rfl rfl ?_
  refine X.convE rfl rfl rfl rfl rfl Try.underlying30 Try.us3 (IntWalk.u64_in _ (by omega)) ?_
  refine X.shlE rfl rfl rfl rfl rfl rfl (by omega) (shl1 c hc) ?_
  refine X.rem rfl rfl rfl rfl rfl rfl (by omega) ?_
  refine X.asg rfl rfl rfl rfl rfl ?_
  refine X.done [(0, _), (1, _), (4, _), (5, _), (8, _)] ⟨rfl, rfl, rfl, rfl, rfl, trivial⟩ ?_
  refine N.then ?_
  refine E.seq ?_
  refine E.region ?_
  refine X.mv rfl rfl rfl rfl rfl ?_
  refine X.mv rfl rfl rfl rfl rfl ?_
  refine X.add rfl rfl rfl rfl rfl rfl (by omega) ?_
  refine X.call rfl rfl rfl rfl rfl Try.cl7 (c7 H1) ?_
  rintro _ H2 ⟨rfl, hk2⟩
  refine X.mv rfl rfl rfl rfl rfl ?_
  refine X.extract rfl rfl rfl rfl rfl rfl ?_
  refine X.extract rfl rfl rfl rfl rfl rfl ?_
  refine X.extract rfl rfl rfl rfl rfl rfl ?_
  refine X.extract rfl rfl rfl rfl rfl rfl ?_
  refine X.asg rfl rfl rfl rfl rfl ?_
  refine X.asg rfl rfl rfl rfl rfl ?_
  refine X.asg rfl rfl rfl rfl rfl ?_
  refine X.asg rfl rfl rfl rfl rfl ?_
  refine X.done [(0, _), (1, _), (4, _), (5, _), (8, _), (9, _), (11, _), (12, _)] ⟨rfl, rfl, rfl, rfl, rfl, rfl, rfl, rfl, trivial⟩ ?_
  refine N.then ?_
  refine E.seq ?_
  refine E.region ?_
  refine X.mv rfl rfl rfl rfl rfl ?_
  refine X.neqF rfl rfl rfl rfl rfl rfl (fun h => h rfl) ?_
  refine X.mv rfl rfl rfl rfl rfl ?_
  refine X.mv rfl rfl rfl rfl rfl ?_
  refine X.mv rfl rfl rfl rfl rfl ?_
  refine X.add rfl rfl rfl rfl rfl rfl (by omega) ?_
  refine X.eqlT rfl rfl rfl rfl rfl rfl (h258) ?_
  refine X.mv rfl rfl rfl rfl rfl ?_
  refine X.mv rfl rfl rfl rfl rfl ?_
  refine X.neqF rfl rfl rfl rfl rfl rfl (fun h => h (h2 h258)) ?_
  refine X.pickT rfl rfl rfl rfl rfl rfl ?_
  refine X.pickF rfl rfl rfl rfl rfl rfl ?_
  refine X.mv rfl rfl rfl rfl rfl ?_
  refine X.mv rfl rfl rfl rfl rfl ?_
  refine X.mv rfl rfl rfl rfl rfl ?_
  refine X.add rfl rfl rfl rfl rfl rfl (by omega) ?_
  refine X.neqF rfl rfl rfl rfl rfl rfl (fun h => h h258) ?_
  refine X.mv rfl rfl rfl rfl rfl ?_
  refine X.skip rfl rfl rfl ?_
  refine X.skip rfl rfl rfl ?_
  refine X.skip rfl rfl rfl ?_
  refine X.skip rfl rfl rfl ?_
  refine X.skip rfl rfl rfl ?_
  refine X.skip rfl rfl rfl ?_
  refine X.skip rfl rfl rfl ?_
  refine X.skip rfl rfl rfl ?_
  refine X.pickF rfl rfl rfl rfl rfl rfl ?_
  refine X.pickF rfl rfl rfl rfl rfl rfl ?_
  refine X.done [(0, _), (1, _), (4, _), (70, _)] ⟨rfl, rfl, rfl, rfl, trivial⟩ ?_
  refine N.then ?_
  refine E.condF rfl ?_
  refine E.skip ?_
  refine N.then ?_
  refine E.seq ?_
  refine E.region ?_
  refine X.mv rfl rfl rfl rfl rfl ?_
  refine X.call rfl rfl rfl rfl rfl Try.cl14 (c14 H2) ?_
  rintro _ H3 ⟨rfl, hk3⟩
  refine X.mv rfl rfl rfl rfl rfl ?_
  refine X.extract rfl rfl rfl rfl rfl rfl ?_
  refine X.extract rfl rfl rfl rfl rfl rfl ?_
  refine X.extract rfl rfl rfl rfl rfl rfl ?_
  refine X.asg rfl rfl rfl rfl rfl ?_
  refine X.asg rfl rfl rfl rfl rfl ?_
  refine X.asg rfl rfl rfl rfl rfl ?_
  refine X.done [(0, _), (1, _), (4, _), (13, _), (14, _), (15, _)] ⟨rfl, rfl, rfl, rfl, rfl, rfl, trivial⟩ ?_
  refine N.then ?_
  refine E.seq ?_
  refine E.seq ?_
  refine E.region ?_
  refine X.mv rfl rfl rfl rfl rfl ?_
  refine X.done [(0, _), (1, _), (4, _), (13, _), (14, _), (77, _)] ⟨rfl, rfl, rfl, rfl, rfl, rfl, trivial⟩ ?_
  refine N.then ?_
  refine E.condF rfl ?_
  refine E.skip ?_
  refine N.then ?_
  refine E.seq ?_
  refine E.region ?_
  refine X.call rfl rfl rfl rfl rfl Try.cl11 (known_ct H3) ?_
  rintro _ HK ⟨rfl, hkK⟩
  refine X.asg rfl rfl rfl rfl rfl ?_
  refine X.done [(4, _)] ⟨rfl, trivial⟩ ?_
  refine N.then ?_
  refine E.ret ?_
  exact N.retH [_] ⟨_, _, rfl, rfl, rfl⟩ ⟨rfl, hkk _ _ _ _ _ hk1 hk2 hk3 hkK⟩

theorem one_len (s f : Int) (H : Heap) (hs : -9223372036854775808 ≤ s ∧ s ≤ 9223372036854775807) (hf : 0 ≤ f ∧ f ≤ 65535) (fr c s2 c2 w : Int) (e1 : lenS s = (fr, c, true)) (hc : 0 ≤ c ∧ c ≤ 15) (hfr : 0 ≤ fr ∧ fr ≤ 300) (e2 : ofLenS (fr + f % 2 ^ c.toNat) = (s2, c2, w, 0))
    (h2 : fr + f % 2 ^ c.toNat = 258 → s2 = 285) (h3 : fr + f % 2 ^ c.toNat ≠ 258 → s2 = s ∧ w = f % 2 ^ c.toNat) (h258 : fr + f % 2 ^ c.toNat ≠ 258) (hs' : 257 ≤ s) : Ct Try.prog 6 #[.int .i64 s, .int .u16 f] H fun v H' => v = .bool true ∧ Kp [] H H' := by
  have c12 : ∀ H, Ct Try.prog 12 #[.int .i64 (s)] H fun v H' => v = .tuple #[.int .i64 fr, .int .i64 c, .bool true] ∧ Kp [] H H' := by
    intro H; have h := len_ct s H hs; rw [e1] at h; exact h
  have c14 : ∀ H, Ct Try.prog 14 #[.int .i64 (s)] H fun v H' => v = .tuple #[.int .i64 0, .int .i64 0, .bool false] ∧ Kp [] H H' := by
    intro H; have h := dist_ct s H hs; rw [distS_no s (by omega)] at h; exact h
  have c7 : ∀ H, Ct Try.prog 7 #[.int .i64 (fr + f % 2 ^ c.toNat)] H fun v H' => v = .tuple #[.int .i64 s2, .int .i64 c2, .int .i64 w, .int .i64 0] ∧ Kp [] H H' := by
    intro H; have h := oflen_ct (fr + f % 2 ^ c.toNat) H; rw [e2] at h; exact h
  have hp := pow_le' c hc.2
  have hp0 := pow_pos' c
  have hm0 := Int.emod_nonneg f (show (2:Int) ^ c.toNat ≠ 0 by omega)
  have hm1 := Int.emod_lt_of_pos f hp0
  have hkk : ∀ H0 H1 H2 H3 H4 : Heap, Kp [] H0 H1 → Kp [] H1 H2 → Kp [] H2 H3 → Kp [] H3 H4 → Kp [] H0 H4 := fun _ _ _ _ _ a b c d => ((a.trans b (by simp)).trans c (by simp)).trans d (by simp)
  refine Ct.into 106 Try.func6 rfl [(0, .int .i64 s), (1, .int .u16 f)] rfl ⟨rfl, rfl, trivial⟩ ?_
  refine E.seq ?_
  refine E.region ?_
  refine X.asg rfl rfl rfl rfl rfl ?_
  refine X.done [(0, _), (1, _), (4, _)] ⟨rfl, rfl, rfl, trivial⟩ ?_
  refine N.then ?_
  refine E.seq ?_
  refine E.region ?_
  refine X.mv rfl rfl rfl rfl rfl ?_
  refine X.call rfl rfl rfl rfl rfl Try.cl12 (c12 H) ?_
  rintro _ H1 ⟨rfl, hk1⟩
  refine X.mv rfl rfl rfl rfl rfl ?_
  refine X.extract rfl rfl rfl rfl rfl rfl ?_
  refine X.extract rfl rfl rfl rfl rfl rfl ?_
  refine X.extract rfl rfl rfl rfl rfl rfl ?_
  refine X.asg rfl rfl rfl rfl rfl ?_
  refine X.asg rfl rfl rfl rfl rfl ?_
  refine X.asg rfl rfl rfl rfl rfl ?_
  refine X.done [(0, _), (1, _), (4, _), (5, _), (6, _), (7, _)] ⟨rfl, rfl, rfl, rfl, rfl, rfl, trivial⟩ ?_
  refine N.then ?_
  refine E.seq ?_
  refine E.seq ?_
  refine E.region ?_
  refine X.mv rfl rfl rfl rfl rfl ?_
  refine X.done [(0, _), (1, _), (4, _), (5, _), (6, _), (27, _)] ⟨rfl, rfl, rfl, rfl, rfl, rfl, trivial⟩ ?_
  refine N.then ?_
  refine E.condT rfl ?_
  refine E.seq ?_
  refine E.region ?_
  refine X.mv rfl rfl rfl rfl rfl ?_
  refine X.convE rfl rfl rfl rfl rfl Try.underlying3 Try.us29 (IntWalk.i64_in _ (by omega)) ?_
  refine X.mv rfl rfl rfl rfl rfl ?_
  refine X.convE rfl rfl rfl rfl rfl Try.underlying30 Try.us3 (IntWalk.u64_in _ (by omega)) ?_
  refine X.shlE rfl rfl rfl rfl rfl rfl (by omega) (shl1 c hc) ?_
  refine X.rem rfl rfl rfl rfl rfl rfl (by omega) ?_
  refine X.asg rfl rfl rfl rfl rfl ?_
  refine X.done [(0, _), (1, _), (4, _), (5, _), (8, _)] ⟨rfl, rfl, rfl, rfl, rfl, trivial⟩ ?_
  refine N.then ?_
  refine E.seq ?_
  refine E.region ?_
  refine X.mv rfl rfl rfl rfl rfl ?_
  refine X.mv rfl rfl rfl rfl rfl ?_
  refine X.add rfl rfl rfl rfl rfl rfl (by omega) ?_
  refine X.call rfl rfl rfl rfl rfl Try.cl7 (c7 H1) ?_
  rintro _ H2 ⟨rfl, hk2⟩
  refine X.mv rfl rfl rfl rfl rfl ?_
  refine X.extract rfl rfl rfl rfl rfl rfl ?_
  refine X.extract rfl rfl rfl rfl rfl rfl ?_
  refine X.extract rfl rfl rfl rfl rfl rfl ?_
  refine X.extract rfl rfl rfl rfl rfl rfl ?_
  refine X.asg rfl rfl rfl rfl rfl ?_
  refine X.asg rfl rfl rfl rfl rfl ?_
  refine X.asg rfl rfl rfl rfl rfl ?_
  refine X.asg rfl rfl rfl rfl rfl ?_
  refine X.done [(0, _), (1, _), (4, _), (5, _), (8, _), (9, _), (11, _), (12, _)] ⟨rfl, rfl, rfl, rfl, rfl, rfl, rfl, rfl, trivial⟩ ?_
  refine N.then ?_
  refine E.seq ?_
  refine E.region ?_
  refine X.mv rfl rfl rfl rfl rfl ?_
  refine X.neqF rfl rfl rfl rfl rfl rfl (fun h => h rfl) ?_
  refine X.mv rfl rfl rfl rfl rfl ?_
  refine X.mv rfl rfl rfl rfl rfl ?_
  refine X.mv rfl rfl rfl rfl rfl ?_
  refine X.add rfl rfl rfl rfl rfl rfl (by omega) ?_
  refine X.eqlF rfl rfl rfl rfl rfl rfl (h258) ?_
  refine X.mv rfl rfl rfl rfl rfl ?_
  refine X.skip rfl rfl rfl ?_
  refine X.skip rfl rfl rfl ?_
  refine X.pickF rfl rfl rfl rfl rfl rfl ?_
  refine X.pickF rfl rfl rfl rfl rfl rfl ?_
  refine X.mv rfl rfl rfl rfl rfl ?_
  refine X.mv rfl rfl rfl rfl rfl ?_
  refine X.mv rfl rfl rfl rfl rfl ?_
  refine X.add rfl rfl rfl rfl rfl rfl (by omega) ?_
  refine X.neqT rfl rfl rfl rfl rfl rfl (h258) ?_
  refine X.mv rfl rfl rfl rfl rfl ?_
  refine X.mv rfl rfl rfl rfl rfl ?_
  refine X.mv rfl rfl rfl rfl rfl ?_
  refine X.neqF rfl rfl rfl rfl rfl rfl (fun h => h (h3 h258).1) ?_
  refine X.mv rfl rfl rfl rfl rfl ?_
  refine X.mv rfl rfl rfl rfl rfl ?_
  refine X.mv rfl rfl rfl rfl rfl ?_
  refine X.neqF rfl rfl rfl rfl rfl rfl (fun h => h (h3 h258).2) ?_
  refine X.pickF rfl rfl rfl rfl rfl rfl ?_
  refine X.pickT rfl rfl rfl rfl rfl rfl ?_
  refine X.pickF rfl rfl rfl rfl rfl rfl ?_
  refine X.done [(0, _), (1, _), (4, _), (70, _)] ⟨rfl, rfl, rfl, rfl, trivial⟩ ?_
  refine N.then ?_
  refine E.condF rfl ?_
  refine E.skip ?_
  refine N.then ?_
  refine E.seq ?_
  refine E.region ?_
  refine X.mv rfl rfl rfl rfl rfl ?_
  refine X.call rfl rfl rfl rfl rfl Try.cl14 (c14 H2) ?_
  rintro _ H3 ⟨rfl, hk3⟩
  refine X.mv rfl rfl rfl rfl rfl ?_
  refine X.extract rfl rfl rfl rfl rfl rfl ?_
  refine X.extract rfl rfl rfl rfl rfl rfl ?_
  refine X.extract rfl rfl rfl rfl rfl rfl ?_
  refine X.asg rfl rfl rfl rfl rfl ?_
  refine X.asg rfl rfl rfl rfl rfl ?_
  refine X.asg rfl rfl rfl rfl rfl ?_
  refine X.done [(0, _), (1, _), (4, _), (13, _), (14, _), (15, _)] ⟨rfl, rfl, rfl, rfl, rfl, rfl, trivial⟩ ?_
  refine N.then ?_
  refine E.seq ?_
  refine E.seq ?_
  refine E.region ?_
  refine X.mv rfl rfl rfl rfl rfl ?_
  refine X.done [(0, _), (1, _), (4, _), (13, _), (14, _), (77, _)] ⟨rfl, rfl, rfl, rfl, rfl, rfl, trivial⟩ ?_
  refine N.then ?_
  refine E.condF rfl ?_
  refine E.skip ?_
  refine N.then ?_
  refine E.seq ?_
  refine E.region ?_
  refine X.call rfl rfl rfl rfl rfl Try.cl11 (known_ct H3) ?_
  rintro _ HK ⟨rfl, hkK⟩
  refine X.asg rfl rfl rfl rfl rfl ?_
  refine X.done [(4, _)] ⟨rfl, trivial⟩ ?_
  refine N.then ?_
  refine E.ret ?_
  exact N.retH [_] ⟨_, _, rfl, rfl, rfl⟩ ⟨rfl, hkk _ _ _ _ _ hk1 hk2 hk3 hkK⟩

theorem one_dist (s f : Int) (H : Heap) (hs : -9223372036854775808 ≤ s ∧ s ≤ 9223372036854775807) (hf : 0 ≤ f ∧ f ≤ 65535) (fr c c2 : Int) (e1 : distS s = (fr, c, true)) (hc : 0 ≤ c ∧ c ≤ 15) (hfr : 0 ≤ fr ∧ fr ≤ 40000) (e2 : ofDistS (fr + f % 2 ^ c.toNat) = (s, c2, f % 2 ^ c.toNat, 0)) (hs' : s < 257) : Ct Try.prog 6 #[.int .i64 s, .int .u16 f] H fun v H' => v = .bool true ∧ Kp [] H H' := by
  have c14 : ∀ H, Ct Try.prog 14 #[.int .i64 (s)] H fun v H' => v = .tuple #[.int .i64 fr, .int .i64 c, .bool true] ∧ Kp [] H H' := by
    intro H; have h := dist_ct s H hs; rw [e1] at h; exact h
  have c12 : ∀ H, Ct Try.prog 12 #[.int .i64 (s)] H fun v H' => v = .tuple #[.int .i64 0, .int .i64 0, .bool false] ∧ Kp [] H H' := by
    intro H; have h := len_ct s H hs; rw [lenS_no s (by omega)] at h; exact h
  have c9 : ∀ H, Ct Try.prog 9 #[.int .i64 (fr + f % 2 ^ c.toNat)] H fun v H' => v = .tuple #[.int .i64 s, .int .i64 c2, .int .i64 (f % 2 ^ c.toNat), .int .i64 0] ∧ Kp [] H H' := by
    intro H; have h := ofdist_ct (fr + f % 2 ^ c.toNat) H; rw [e2] at h; exact h
  have hp := pow_le' c hc.2
  have hp0 := pow_pos' c
  have hm0 := Int.emod_nonneg f (show (2:Int) ^ c.toNat ≠ 0 by omega)
  have hm1 := Int.emod_lt_of_pos f hp0
  have hkk : ∀ H0 H1 H2 H3 H4 : Heap, Kp [] H0 H1 → Kp [] H1 H2 → Kp [] H2 H3 → Kp [] H3 H4 → Kp [] H0 H4 := fun _ _ _ _ _ a b c d => ((a.trans b (by simp)).trans c (by simp)).trans d (by simp)
  refine Ct.into 106 Try.func6 rfl [(0, .int .i64 s), (1, .int .u16 f)] rfl ⟨rfl, rfl, trivial⟩ ?_
  refine E.seq ?_
  refine E.region ?_
  refine X.asg rfl rfl rfl rfl rfl ?_
  refine X.done [(0, _), (1, _), (4, _)] ⟨rfl, rfl, rfl, trivial⟩ ?_
  refine N.then ?_
  refine E.seq ?_
  refine E.region ?_
  refine X.mv rfl rfl rfl rfl rfl ?_
  refine X.call rfl rfl rfl rfl rfl Try.cl12 (c12 H) ?_
  rintro _ H1 ⟨rfl, hk1⟩
  refine X.mv rfl rfl rfl rfl rfl ?_
  refine X.extract rfl rfl rfl rfl rfl rfl ?_
  refine X.extract rfl rfl rfl rfl rfl rfl ?_
  refine X.extract rfl rfl rfl rfl rfl rfl ?_
  refine X.asg rfl rfl rfl rfl rfl ?_
  refine X.asg rfl rfl rfl rfl rfl ?_
  refine X.asg rfl rfl rfl rfl rfl ?_
  refine X.done [(0, _), (1, _), (4, _), (5, _), (6, _), (7, _)] ⟨rfl, rfl, rfl, rfl, rfl, rfl, trivial⟩ ?_
  refine N.then ?_
  refine E.seq ?_
  refine E.seq ?_
  refine E.region ?_
  refine X.mv rfl rfl rfl rfl rfl ?_
  refine X.done [(0, _), (1, _), (4, _), (5, _), (6, _), (27, _)] ⟨rfl, rfl, rfl, rfl, rfl, rfl, trivial⟩ ?_
  refine N.then ?_
  refine E.condF rfl ?_
  refine E.skip ?_
  refine N.then ?_
  refine E.seq ?_
  refine E.region ?_
  refine X.mv rfl rfl rfl rfl rfl ?_
  refine X.call rfl rfl rfl rfl rfl Try.cl14 (c14 H1) ?_
  rintro _ H2 ⟨rfl, hk2⟩
  refine X.mv rfl rfl rfl rfl rfl ?_
  refine X.extract rfl rfl rfl rfl rfl rfl ?_
  refine X.extract rfl rfl rfl rfl rfl rfl ?_
  refine X.extract rfl rfl rfl rfl rfl rfl ?_
  refine X.asg rfl rfl rfl rfl rfl ?_
  refine X.asg rfl rfl rfl rfl rfl ?_
  refine X.asg rfl rfl rfl rfl rfl ?_
  refine X.done [(0, _), (1, _), (4, _), (13, _), (14, _), (15, _)] ⟨rfl, rfl, rfl, rfl, rfl, rfl, trivial⟩ ?_
  refine N.then ?_
  refine E.seq ?_
  refine E.seq ?_
  refine E.region ?_
  refine X.mv rfl rfl rfl rfl rfl ?_
  refine X.done [(0, _), (1, _), (4, _), (13, _), (14, _), (77, _)] ⟨rfl, rfl, rfl, rfl, rfl, rfl, trivial⟩ ?_
  refine N.then ?_
  refine E.condT rfl ?_
  refine E.seq ?_
  refine E.region ?_
  refine X.mv rfl rfl rfl rfl rfl ?_
  refine X.convE rfl rfl rfl rfl rfl Try.underlying3 Try.us29 (IntWalk.i64_in _ (by omega)) ?_
  refine X.mv rfl rfl rfl rfl rfl ?_
  refine X.convE rfl rfl rfl rfl rfl Try.underlying30 Try.us3 (IntWalk.u64_in _ (by omega)) ?_
  refine X.shlE rfl rfl rfl rfl rfl rfl (by omega) (shl1 c hc) ?_
  refine X.rem rfl rfl rfl rfl rfl rfl (by omega) ?_
  refine X.asg rfl rfl rfl rfl rfl ?_
  refine X.done [(0, _), (4, _), (13, _), (16, _)] ⟨rfl, rfl, rfl, rfl, trivial⟩ ?_
  refine N.then ?_
  refine E.seq ?_
  refine E.region ?_
  refine X.mv rfl rfl rfl rfl rfl ?_
  refine X.mv rfl rfl rfl rfl rfl ?_
  refine X.add rfl rfl rfl rfl rfl rfl (by omega) ?_
  refine X.call rfl rfl rfl rfl rfl Try.cl9 (c9 H2) ?_
  rintro _ H3 ⟨rfl, hk3⟩
  refine X.mv rfl rfl rfl rfl rfl ?_
  refine X.extract rfl rfl rfl rfl rfl rfl ?_
  refine X.extract rfl rfl rfl rfl rfl rfl ?_
  refine X.extract rfl rfl rfl rfl rfl rfl ?_
  refine X.extract rfl rfl rfl rfl rfl rfl ?_
  refine X.asg rfl rfl rfl rfl rfl ?_
  refine X.asg rfl rfl rfl rfl rfl ?_
  refine X.asg rfl rfl rfl rfl rfl ?_
  refine X.asg rfl rfl rfl rfl rfl ?_
  refine X.done [(0, _), (4, _), (16, _), (17, _), (19, _), (20, _)] ⟨rfl, rfl, rfl, rfl, rfl, rfl, trivial⟩ ?_
  refine N.then ?_
  refine E.seq ?_
  refine E.region ?_
  refine X.mv rfl rfl rfl rfl rfl ?_
  refine X.neqF rfl rfl rfl rfl rfl rfl (fun h => h rfl) ?_
  refine X.mv rfl rfl rfl rfl rfl ?_
  refine X.mv rfl rfl rfl rfl rfl ?_
  refine X.mv rfl rfl rfl rfl rfl ?_
  refine X.neqF rfl rfl rfl rfl rfl rfl (fun h => h rfl) ?_
  refine X.pickF rfl rfl rfl rfl rfl rfl ?_
  refine X.mv rfl rfl rfl rfl rfl ?_
  refine X.mv rfl rfl rfl rfl rfl ?_
  refine X.mv rfl rfl rfl rfl rfl ?_
  refine X.neqF rfl rfl rfl rfl rfl rfl (fun h => h rfl) ?_
  refine X.pickF rfl rfl rfl rfl rfl rfl ?_
  refine X.done [(4, _), (104, _)] ⟨rfl, rfl, trivial⟩ ?_
  refine N.then ?_
  refine E.condF rfl ?_
  refine E.skip ?_
  refine N.then ?_
  refine E.seq ?_
  refine E.region ?_
  refine X.call rfl rfl rfl rfl rfl Try.cl11 (known_ct H3) ?_
  rintro _ HK ⟨rfl, hkK⟩
  refine X.asg rfl rfl rfl rfl rfl ?_
  refine X.done [(4, _)] ⟨rfl, trivial⟩ ?_
  refine N.then ?_
  refine E.ret ?_
  exact N.retH [_] ⟨_, _, rfl, rfl, rfl⟩ ⟨rfl, hkk _ _ _ _ _ hk1 hk2 hk3 hkK⟩

theorem one_none (s f : Int) (H : Heap) (hs : -9223372036854775808 ≤ s ∧ s ≤ 9223372036854775807) (hf : 0 ≤ f ∧ f ≤ 65535) (h1 : s < 257 ∨ 285 < s) (h2 : s < 0 ∨ 30 ≤ s) : Ct Try.prog 6 #[.int .i64 s, .int .u16 f] H fun v H' => v = .bool true ∧ Kp [] H H' := by
  have c12 : ∀ H, Ct Try.prog 12 #[.int .i64 (s)] H fun v H' => v = .tuple #[.int .i64 0, .int .i64 0, .bool false] ∧ Kp [] H H' := by
    intro H; have h := len_ct s H hs; rw [lenS_no s (by omega)] at h; exact h
  have c14 : ∀ H, Ct Try.prog 14 #[.int .i64 (s)] H fun v H' => v = .tuple #[.int .i64 0, .int .i64 0, .bool false] ∧ Kp [] H H' := by
    intro H; have h := dist_ct s H hs; rw [distS_no s (by omega)] at h; exact h
  refine Ct.into 106 Try.func6 rfl [(0, .int .i64 s), (1, .int .u16 f)] rfl ⟨rfl, rfl, trivial⟩ ?_
  refine E.seq ?_
  refine E.region ?_
  refine X.asg rfl rfl rfl rfl rfl ?_
  refine X.done [(0, _), (1, _), (4, _)] ⟨rfl, rfl, rfl, trivial⟩ ?_
  refine N.then ?_
  refine E.seq ?_
  refine E.region ?_
  refine X.mv rfl rfl rfl rfl rfl ?_
  refine X.call rfl rfl rfl rfl rfl Try.cl12 (c12 H) ?_
  rintro _ H1 ⟨rfl, hk1⟩
  refine X.mv rfl rfl rfl rfl rfl ?_
  refine X.extract rfl rfl rfl rfl rfl rfl ?_
  refine X.extract rfl rfl rfl rfl rfl rfl ?_
  refine X.extract rfl rfl rfl rfl rfl rfl ?_
  refine X.asg rfl rfl rfl rfl rfl ?_
  refine X.asg rfl rfl rfl rfl rfl ?_
  refine X.asg rfl rfl rfl rfl rfl ?_
  refine X.done [(0, _), (1, _), (4, _), (5, _), (6, _), (7, _)] ⟨rfl, rfl, rfl, rfl, rfl, rfl, trivial⟩ ?_
  refine N.then ?_
  refine E.seq ?_
  refine E.seq ?_
  refine E.region ?_
  refine X.mv rfl rfl rfl rfl rfl ?_
  refine X.done [(0, _), (1, _), (4, _), (5, _), (6, _), (27, _)] ⟨rfl, rfl, rfl, rfl, rfl, rfl, trivial⟩ ?_
  refine N.then ?_
  refine E.condF rfl ?_
  refine E.skip ?_
  refine N.then ?_
  refine E.seq ?_
  refine E.region ?_
  refine X.mv rfl rfl rfl rfl rfl ?_
  refine X.call rfl rfl rfl rfl rfl Try.cl14 (c14 H1) ?_
  rintro _ H2 ⟨rfl, hk2⟩
  refine X.mv rfl rfl rfl rfl rfl ?_
  refine X.extract rfl rfl rfl rfl rfl rfl ?_
  refine X.extract rfl rfl rfl rfl rfl rfl ?_
  refine X.extract rfl rfl rfl rfl rfl rfl ?_
  refine X.asg rfl rfl rfl rfl rfl ?_
  refine X.asg rfl rfl rfl rfl rfl ?_
  refine X.asg rfl rfl rfl rfl rfl ?_
  refine X.done [(0, _), (1, _), (4, _), (13, _), (14, _), (15, _)] ⟨rfl, rfl, rfl, rfl, rfl, rfl, trivial⟩ ?_
  refine N.then ?_
  refine E.seq ?_
  refine E.seq ?_
  refine E.region ?_
  refine X.mv rfl rfl rfl rfl rfl ?_
  refine X.done [(0, _), (1, _), (4, _), (13, _), (14, _), (77, _)] ⟨rfl, rfl, rfl, rfl, rfl, rfl, trivial⟩ ?_
  refine N.then ?_
  refine E.condF rfl ?_
  refine E.skip ?_
  refine N.then ?_
  refine E.seq ?_
  refine E.region ?_
  refine X.call rfl rfl rfl rfl rfl Try.cl11 (known_ct H2) ?_
  rintro _ HK ⟨rfl, hkK⟩
  refine X.asg rfl rfl rfl rfl rfl ?_
  refine X.done [(4, _)] ⟨rfl, trivial⟩ ?_
  refine N.then ?_
  refine E.ret ?_
  exact N.retH [_] ⟨_, _, rfl, rfl, rfl⟩ ⟨rfl, (hk1.trans hk2 (by simp)).trans hkK (by simp)⟩


theorem one_ct (s f : Int) (H : Heap) (hs : -9223372036854775808 ≤ s ∧ s ≤ 9223372036854775807) (hf : 0 ≤ f ∧ f ≤ 65535) : Ct Try.prog 6 #[.int .i64 s, .int .u16 f] H fun v H' => v = .bool true ∧ Kp [] H H' := by
  by_cases h1 : 257 ≤ s ∧ s ≤ 285
  · obtain ⟨fr, c, e1, hc0, hc1, hf0, hf1, _⟩ := len_one s 0 h1
    obtain ⟨fr', c', e1', _, _, _, _, hall⟩ := len_one s (f % 2 ^ c.toNat) h1
    rw [e1] at e1'
    simp only [Prod.mk.injEq, and_true] at e1'
    obtain ⟨rfl, rfl⟩ := e1'
    have hp0 := pow_pos' c
    obtain ⟨s2, c2, w, e2, h2, h3⟩ := hall (Int.emod_nonneg f (by omega)) (Int.emod_lt_of_pos f hp0)
    by_cases h258 : fr + f % 2 ^ c.toNat = 258
    · exact one_len258 s f H hs hf fr c s2 c2 w e1 ⟨hc0, hc1⟩ ⟨hf0, hf1⟩ e2 h2 h3 h258 h1.1
    · exact one_len s f H hs hf fr c s2 c2 w e1 ⟨hc0, hc1⟩ ⟨hf0, hf1⟩ e2 h2 h3 h258 h1.1
  · by_cases h2 : 0 ≤ s ∧ s < 30
    · obtain ⟨fr, c, e1, hc0, hc1, hf0, hf1, _⟩ := dist_one s 0 h2
      obtain ⟨fr', c', e1', _, _, _, _, hall⟩ := dist_one s (f % 2 ^ c.toNat) h2
      rw [e1] at e1'
      simp only [Prod.mk.injEq, and_true] at e1'
      obtain ⟨rfl, rfl⟩ := e1'
      have hp0 := pow_pos' c
      obtain ⟨c2, e2⟩ := hall (Int.emod_nonneg f (by omega)) (Int.emod_lt_of_pos f hp0)
      exact one_dist s f H hs hf fr c c2 e1 ⟨hc0, hc1⟩ ⟨hf0, hf1⟩ e2 (by omega)
    · exact one_none s f H hs hf (by omega) (by omega)

end Go.Proofs.Ytalneokknakicaa