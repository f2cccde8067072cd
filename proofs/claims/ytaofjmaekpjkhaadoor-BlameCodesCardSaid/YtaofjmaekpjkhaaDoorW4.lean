/- The walks: what a blame tells. -/
import Derived.Test.YtaofjmaekpjkhaaDoorW3
namespace Go.Proofs.YtaofjmaekpjkhaaDoor
open Go.SX Go.Blm
attribute [local irreducible] X E N Ct
set_option linter.unusedVariables false

abbrev agg1 (v : Value) : Value := .agg ([v] : List Value).toArray
def codeV : List LK → Int
  | [] => 0
  | x :: _ => x.1
def atV : List LK → Int
  | [] => 0
  | x :: _ => x.2
theorem fold_last (i : LK) (l : List LK) : l.foldl (fun _ x => x) i = l.getLastD i := by
  induction l generalizing i with
  | nil => rfl
  | cons x r ih => rw [List.foldl_cons, ih]; cases r <;> rfl
theorem has_nil (w : Int) : has w [] = false := rfl
theorem has_cons (w : Int) (x : LK) (r : List LK) : has w (x :: r) = (decide (x.1 = w) || has w r) := rfl

theorem each_deep (l : List LK) (v : Value) (e : Addr) (H0 H : Heap) (c : Nat) (hl : l.length ≤ 900) (hE : Et H0) (hk0 : Kp [] H0 H) (hB : Bv H0 e l v) (hc : H[c]? = some (.cells ([i64 ((0 : Nat) : Int)] : List Value).toArray 3 (0, 0))) (hsc : H0.size ≤ c) : Ct Tryd.prog 26 #[agg1 v, .func (.func 27) #[] #[ptr c]] H fun res H' => res = .tuple #[] ∧ H'[c]? = some (.cells ([i64 ((l.length : Nat) : Int)] : List Value).toArray 3 (0, 0)) ∧ Kp [] H0 H' := by
  have hkk := hk0
  have hlc := lt_of hc
  refine Ct.into 18 Tryd.func26 rfl [(0, agg1 v), (1, .func (.func 27) #[] #[ptr c])] rfl ⟨rfl, rfl, trivial⟩ ?_
  refine E.seq ?_
  refine E.region ?_
  refine X.box rfl rfl rfl rfl rfl rfl ?_
  intro b2 H1 hn1 hb2 hk1
  replace hkk := hkk.trans hk1 (by simp)
  replace hc := hk1.keep hc (by simp)
  refine X.done [(1, _), (2, _)] ⟨rfl, rfl, trivial⟩ ?_
  refine N.then ?_
  refine E.seq ?_
  refine E.region ?_
  refine X.fld rfl rfl rfl rfl rfl Tryd.off26_0 ?_
  refine X.ld rfl rfl rfl rfl Tryd.ag24 (hb2) (rfl) ?_
  refine X.call rfl rfl rfl rfl rfl Tryd.cl28 (next_ct H0 H1 e l v (hE.keep hkk) hB) ?_
  rintro pv H2 ⟨hL, hk2⟩
  replace hkk := hkk.trans hk2 (by simp)
  replace hc := hk2.keep hc (by simp)
  refine X.asg rfl rfl rfl rfl rfl ?_
  refine X.done [(1, _), (4, _)] ⟨rfl, rfl, trivial⟩ ?_
  refine N.then ?_
  refine E.block ?_
  refine E.loop (fun (q : Nat × List LK × Value) => [(1, .func (.func 27) #[] #[ptr c]), (4, q.2.2)]) (fun (q : Nat × List LK × Value) H' => q.1 + (q.2.1).length = l.length ∧ LinkP H0 e q.2.1 q.2.2 ∧ H'[c]? = some (.cells ([i64 ((q.1 : Nat) : Int)] : List Value).toArray 3 (0, 0)) ∧ Kp [] H0 H') (fun (q : Nat × List LK × Value) => q.2.1.length) (0, l, pv) ⟨rfl, rfl, trivial⟩ ⟨by first | rfl | simp, hL, hc, hkk⟩ ?_
  clear hkk hL hc
  rintro ⟨a, r, pv⟩ H3 hJ
  dsimp only at hJ ⊢
  obtain ⟨hinv, hL, hc, hkk⟩ := hJ
  refine E.seq ?_
  refine E.seq ?_
  refine E.region ?_
  refine X.mv rfl rfl rfl rfl rfl ?_
  rcases hL with ⟨rfl, rfl⟩ | ⟨x, r, b, u, rfl, rfl, hb, hcr⟩
  · refine X.neqP0 rfl rfl rfl rfl rfl rfl Tryd.underlying51 ?_
    refine X.done [(1, _), (4, _), (8, _), (9, _)] ⟨rfl, rfl, rfl, rfl, trivial⟩ ?_
    refine N.then ?_
    refine E.condF rfl ?_
    refine E.exit ?_
    refine N.thenX ?_
    refine N.loopX ?_
    refine N.blkX ?_
    exact N.endH [] rfl ⟨rfl, by rw [show l.length = a by simpa using hinv.symm]; exact hc, hkk⟩
  · refine X.neqP1 rfl rfl rfl rfl rfl rfl Tryd.underlying51 ?_
    refine X.done [(1, _), (4, _), (8, _), (9, _)] ⟨rfl, rfl, rfl, rfl, trivial⟩ ?_
    refine N.then ?_
    refine E.condT rfl ?_
    refine E.skip ?_
    refine N.then ?_
    refine E.seq ?_
    refine E.block ?_
    refine E.region ?_
    refine X.mv rfl rfl rfl rfl rfl ?_
    refine X.mv rfl rfl rfl rfl rfl ?_
    refine X.callv rfl rfl rfl rfl rfl rfl Tryd.cl27 (deep1_ct b c a H3 hc (by simp only [List.length_cons] at hinv; omega)) ?_
    rintro _ H4 ⟨rfl, hc, hk4⟩
    replace hkk := hkk.trans hk4 (by simp; exact hsc)
    refine X.done [(1, _), (4, _), (8, _), (9, _), (15, _), (16, _)] ⟨rfl, rfl, rfl, rfl, rfl, rfl, trivial⟩ ?_
    refine N.blk ?_
    refine N.then ?_
    refine E.region ?_
    refine X.mv rfl rfl rfl rfl rfl ?_
    refine X.nilP rfl rfl rfl rfl rfl ?_
    refine X.fld rfl rfl rfl rfl rfl Tryd.off55_2 ?_
    refine X.ld rfl rfl rfl rfl Tryd.ag24 ((hkk.keep hb (by simp))) (rfl) ?_
    refine X.call rfl rfl rfl rfl rfl Tryd.cl28 (next_ct H0 H4 e r u (hE.keep hkk) (.inr hcr)) ?_
    rintro pv H5 ⟨hL5, hk5⟩
    replace hkk := hkk.trans hk5 (by simp)
    replace hc := hk5.keep hc (by simp)
    refine X.asg rfl rfl rfl rfl rfl ?_
    refine X.done [(1, _), (4, _), (8, _), (9, _), (15, _), (16, _), (10, _), (11, _), (12, _), (13, _), (14, _)] ⟨rfl, rfl, rfl, rfl, rfl, rfl, rfl, rfl, rfl, rfl, rfl, trivial⟩ ?_
    exact N.next (G := fun (q : Nat × List LK × Value) => _) (a + 1, r, pv) ⟨rfl, rfl, trivial⟩ ⟨by show a + 1 + (r).length = l.length; simp only [List.length_cons] at hinv; omega, hL5, hc, hkk⟩ (by show r.length < r.length + 1; omega)

theorem each_root (l : List LK) (v : Value) (e : Addr) (H0 H : Heap) (c d : Nat) (hcd : c ≠ d) (hE : Et H0) (hk0 : Kp [] H0 H) (hB : Bv H0 e l v) (hc : H[c]? = some (.cells ([i64 (((0, 0) : LK)).1] : List Value).toArray 22 (0, 0))) (hd : H[d]? = some (.cells ([i64 (((0, 0) : LK)).2] : List Value).toArray 3 (0, 0))) (hsc : H0.size ≤ c)  (hsd : H0.size ≤ d) : Ct Tryd.prog 26 #[agg1 v, .func (.func 30) #[] #[ptr c, ptr d]] H fun res H' => res = .tuple #[] ∧ H'[c]? = some (.cells ([i64 ((lastL l)).1] : List Value).toArray 22 (0, 0)) ∧ H'[d]? = some (.cells ([i64 ((lastL l)).2] : List Value).toArray 3 (0, 0)) ∧ Kp [] H0 H' := by
  have hkk := hk0
  have hlc := lt_of hc
  have hld := lt_of hd
  refine Ct.into 18 Tryd.func26 rfl [(0, agg1 v), (1, .func (.func 30) #[] #[ptr c, ptr d])] rfl ⟨rfl, rfl, trivial⟩ ?_
  refine E.seq ?_
  refine E.region ?_
  refine X.box rfl rfl rfl rfl rfl rfl ?_
  intro b2 H1 hn1 hb2 hk1
  replace hkk := hkk.trans hk1 (by simp)
  replace hc := hk1.keep hc (by simp)
  replace hd := hk1.keep hd (by simp)
  refine X.done [(1, _), (2, _)] ⟨rfl, rfl, trivial⟩ ?_
  refine N.then ?_
  refine E.seq ?_
  refine E.region ?_
  refine X.fld rfl rfl rfl rfl rfl Tryd.off26_0 ?_
  refine X.ld rfl rfl rfl rfl Tryd.ag24 (hb2) (rfl) ?_
  refine X.call rfl rfl rfl rfl rfl Tryd.cl28 (next_ct H0 H1 e l v (hE.keep hkk) hB) ?_
  rintro pv H2 ⟨hL, hk2⟩
  replace hkk := hkk.trans hk2 (by simp)
  replace hc := hk2.keep hc (by simp)
  replace hd := hk2.keep hd (by simp)
  refine X.asg rfl rfl rfl rfl rfl ?_
  refine X.done [(1, _), (4, _)] ⟨rfl, rfl, trivial⟩ ?_
  refine N.then ?_
  refine E.block ?_
  refine E.loop (fun (q : LK × List LK × Value) => [(1, .func (.func 30) #[] #[ptr c, ptr d]), (4, q.2.2)]) (fun (q : LK × List LK × Value) H' => (q.2.1).foldl (fun _ x => x) q.1 = lastL l ∧ LinkP H0 e q.2.1 q.2.2 ∧ H'[c]? = some (.cells ([i64 (q.1).1] : List Value).toArray 22 (0, 0)) ∧ H'[d]? = some (.cells ([i64 (q.1).2] : List Value).toArray 3 (0, 0)) ∧ Kp [] H0 H') (fun (q : LK × List LK × Value) => q.2.1.length) (((0, 0) : LK), l, pv) ⟨rfl, rfl, trivial⟩ ⟨fold_last _ _, hL, hc, hd, hkk⟩ ?_
  clear hkk hL hc hd
  rintro ⟨a, r, pv⟩ H3 hJ
  dsimp only at hJ ⊢
  obtain ⟨hinv, hL, hc, hd, hkk⟩ := hJ
  refine E.seq ?_
  refine E.seq ?_
  refine E.region ?_
  refine X.mv rfl rfl rfl rfl rfl ?_
  rcases hL with ⟨rfl, rfl⟩ | ⟨x, r, b, u, rfl, rfl, hb, hcr⟩
  · refine X.neqP0 rfl rfl rfl rfl rfl rfl Tryd.underlying51 ?_
    refine X.done [(1, _), (4, _), (8, _), (9, _)] ⟨rfl, rfl, rfl, rfl, trivial⟩ ?_
    refine N.then ?_
    refine E.condF rfl ?_
    refine E.exit ?_
    refine N.thenX ?_
    refine N.loopX ?_
    refine N.blkX ?_
    exact N.endH [] rfl ⟨rfl, by rw [← hinv]; exact hc, by rw [← hinv]; exact hd, hkk⟩
  · refine X.neqP1 rfl rfl rfl rfl rfl rfl Tryd.underlying51 ?_
    refine X.done [(1, _), (4, _), (8, _), (9, _)] ⟨rfl, rfl, rfl, rfl, trivial⟩ ?_
    refine N.then ?_
    refine E.condT rfl ?_
    refine E.skip ?_
    refine N.then ?_
    refine E.seq ?_
    refine E.block ?_
    refine E.region ?_
    refine X.mv rfl rfl rfl rfl rfl ?_
    refine X.mv rfl rfl rfl rfl rfl ?_
    refine X.callv rfl rfl rfl rfl rfl rfl Tryd.cl30 (root1_ct b c d x u _ _ H3 (hkk.keep hb (by simp)) hc hd hcd (by have := lt_of hb; omega)) ?_
    rintro _ H4 ⟨rfl, hc, hd, hk4⟩
    replace hkk := hkk.trans hk4 (by simp; omega)
    refine X.done [(1, _), (4, _), (8, _), (9, _), (15, _), (16, _)] ⟨rfl, rfl, rfl, rfl, rfl, rfl, trivial⟩ ?_
    refine N.blk ?_
    refine N.then ?_
    refine E.region ?_
    refine X.mv rfl rfl rfl rfl rfl ?_
    refine X.nilP rfl rfl rfl rfl rfl ?_
    refine X.fld rfl rfl rfl rfl rfl Tryd.off55_2 ?_
    refine X.ld rfl rfl rfl rfl Tryd.ag24 ((hkk.keep hb (by simp))) (rfl) ?_
    refine X.call rfl rfl rfl rfl rfl Tryd.cl28 (next_ct H0 H4 e r u (hE.keep hkk) (.inr hcr)) ?_
    rintro pv H5 ⟨hL5, hk5⟩
    replace hkk := hkk.trans hk5 (by simp)
    replace hc := hk5.keep hc (by simp)
    replace hd := hk5.keep hd (by simp)
    refine X.asg rfl rfl rfl rfl rfl ?_
    refine X.done [(1, _), (4, _), (8, _), (9, _), (15, _), (16, _), (10, _), (11, _), (12, _), (13, _), (14, _)] ⟨rfl, rfl, rfl, rfl, rfl, rfl, rfl, rfl, rfl, rfl, rfl, trivial⟩ ?_
    exact N.next (G := fun (q : LK × List LK × Value) => _) (x, r, pv) ⟨rfl, rfl, trivial⟩ ⟨by show (r).foldl (fun _ x => x) x = lastL l; exact hinv, hL5, hc, hd, hkk⟩ (by show r.length < r.length + 1; omega)

theorem each_has (l : List LK) (v : Value) (e : Addr) (H0 H : Heap) (c d : Nat) (w : Int) (hcd : c ≠ d) (hE : Et H0) (hk0 : Kp [] H0 H) (hB : Bv H0 e l v) (hc : H[c]? = some (.cells ([.bool false] : List Value).toArray 4 (0, 0))) (hd : H[d]? = some (.cells ([i64 w] : List Value).toArray 22 (0, 0))) (hsc : H0.size ≤ c)  (hsd : H0.size ≤ d) : Ct Tryd.prog 26 #[agg1 v, .func (.func 31) #[] #[ptr c, ptr d]] H fun res H' => res = .tuple #[] ∧ H'[c]? = some (.cells ([.bool (has w l)] : List Value).toArray 4 (0, 0)) ∧ H'[d]? = some (.cells ([i64 w] : List Value).toArray 22 (0, 0)) ∧ Kp [] H0 H' := by
  have hkk := hk0
  have hlc := lt_of hc
  have hld := lt_of hd
  refine Ct.into 18 Tryd.func26 rfl [(0, agg1 v), (1, .func (.func 31) #[] #[ptr c, ptr d])] rfl ⟨rfl, rfl, trivial⟩ ?_
  refine E.seq ?_
  refine E.region ?_
  refine X.box rfl rfl rfl rfl rfl rfl ?_
  intro b2 H1 hn1 hb2 hk1
  replace hkk := hkk.trans hk1 (by simp)
  replace hc := hk1.keep hc (by simp)
  replace hd := hk1.keep hd (by simp)
  refine X.done [(1, _), (2, _)] ⟨rfl, rfl, trivial⟩ ?_
  refine N.then ?_
  refine E.seq ?_
  refine E.region ?_
  refine X.fld rfl rfl rfl rfl rfl Tryd.off26_0 ?_
  refine X.ld rfl rfl rfl rfl Tryd.ag24 (hb2) (rfl) ?_
  refine X.call rfl rfl rfl rfl rfl Tryd.cl28 (next_ct H0 H1 e l v (hE.keep hkk) hB) ?_
  rintro pv H2 ⟨hL, hk2⟩
  replace hkk := hkk.trans hk2 (by simp)
  replace hc := hk2.keep hc (by simp)
  replace hd := hk2.keep hd (by simp)
  refine X.asg rfl rfl rfl rfl rfl ?_
  refine X.done [(1, _), (4, _)] ⟨rfl, rfl, trivial⟩ ?_
  refine N.then ?_
  refine E.block ?_
  refine E.loop (fun (q : Bool × List LK × Value) => [(1, .func (.func 31) #[] #[ptr c, ptr d]), (4, q.2.2)]) (fun (q : Bool × List LK × Value) H' => (q.1 || has w q.2.1) = has w l ∧ LinkP H0 e q.2.1 q.2.2 ∧ H'[c]? = some (.cells ([.bool q.1] : List Value).toArray 4 (0, 0)) ∧ H'[d]? = some (.cells ([i64 w] : List Value).toArray 22 (0, 0)) ∧ Kp [] H0 H') (fun (q : Bool × List LK × Value) => q.2.1.length) (false, l, pv) ⟨rfl, rfl, trivial⟩ ⟨rfl, hL, hc, hd, hkk⟩ ?_
  clear hkk hL hc hd
  rintro ⟨a, r, pv⟩ H3 hJ
  dsimp only at hJ ⊢
  obtain ⟨hinv, hL, hc, hd, hkk⟩ := hJ
  refine E.seq ?_
  refine E.seq ?_
  refine E.region ?_
  refine X.mv rfl rfl rfl rfl rfl ?_
  rcases hL with ⟨rfl, rfl⟩ | ⟨x, r, b, u, rfl, rfl, hb, hcr⟩
  · refine X.neqP0 rfl rfl rfl rfl rfl rfl Tryd.underlying51 ?_
    refine X.done [(1, _), (4, _), (8, _), (9, _)] ⟨rfl, rfl, rfl, rfl, trivial⟩ ?_
    refine N.then ?_
    refine E.condF rfl ?_
    refine E.exit ?_
    refine N.thenX ?_
    refine N.loopX ?_
    refine N.blkX ?_
    exact N.endH [] rfl ⟨rfl, by rw [← hinv, has_nil, Bool.or_false]; exact hc, hd, hkk⟩
  · refine X.neqP1 rfl rfl rfl rfl rfl rfl Tryd.underlying51 ?_
    refine X.done [(1, _), (4, _), (8, _), (9, _)] ⟨rfl, rfl, rfl, rfl, trivial⟩ ?_
    refine N.then ?_
    refine E.condT rfl ?_
    refine E.skip ?_
    refine N.then ?_
    refine E.seq ?_
    refine E.block ?_
    refine E.region ?_
    refine X.mv rfl rfl rfl rfl rfl ?_
    refine X.mv rfl rfl rfl rfl rfl ?_
    refine X.callv rfl rfl rfl rfl rfl rfl Tryd.cl31 (has1_ct b c d x u a w H3 (hkk.keep hb (by simp)) hc hd) ?_
    rintro _ H4 ⟨rfl, hc, hk4⟩
    replace hkk := hkk.trans hk4 (by simp; omega)
    replace hd := hk4.keep hd (by simp; exact Ne.symm hcd)
    refine X.done [(1, _), (4, _), (8, _), (9, _), (15, _), (16, _)] ⟨rfl, rfl, rfl, rfl, rfl, rfl, trivial⟩ ?_
    refine N.blk ?_
    refine N.then ?_
    refine E.region ?_
    refine X.mv rfl rfl rfl rfl rfl ?_
    refine X.nilP rfl rfl rfl rfl rfl ?_
    refine X.fld rfl rfl rfl rfl rfl Tryd.off55_2 ?_
    refine X.ld rfl rfl rfl rfl Tryd.ag24 ((hkk.keep hb (by simp))) (rfl) ?_
    refine X.call rfl rfl rfl rfl rfl Tryd.cl28 (next_ct H0 H4 e r u (hE.keep hkk) (.inr hcr)) ?_
    rintro pv H5 ⟨hL5, hk5⟩
    replace hkk := hkk.trans hk5 (by simp)
    replace hc := hk5.keep hc (by simp)
    replace hd := hk5.keep hd (by simp)
    refine X.asg rfl rfl rfl rfl rfl ?_
    refine X.done [(1, _), (4, _), (8, _), (9, _), (15, _), (16, _), (10, _), (11, _), (12, _), (13, _), (14, _)] ⟨rfl, rfl, rfl, rfl, rfl, rfl, rfl, rfl, rfl, rfl, rfl, trivial⟩ ?_
    exact N.next (G := fun (q : Bool × List LK × Value) => _) ((a || decide (x.1 = w)), r, pv) ⟨rfl, rfl, trivial⟩ ⟨by show ((a || decide (x.1 = w)) || has w r) = has w l; rw [Bool.or_assoc, ← has_cons]; exact hinv, hL5, hc, hd, hkk⟩ (by show r.length < r.length + 1; omega)

theorem deep_ct (l : List LK) (v : Value) (e : Addr) (H : Heap) (hl : l.length ≤ 900) (hE : Et H) (hB : Bv H e l v) : Ct Tryd.prog 12 #[agg1 v] H fun w H' => w = i64 ((l.length : Nat) : Int) ∧ Kp [] H H' := by
  refine Ct.into 8 Tryd.func12 rfl [(0, agg1 v)] rfl ⟨rfl, trivial⟩ ?_
  refine E.seq ?_
  refine E.region ?_
  refine X.box rfl rfl rfl rfl rfl rfl ?_
  intro b1 H1 hn1 hb1 hk1
  refine X.asg rfl rfl rfl rfl rfl ?_
  refine X.done [(1, _), (2, _)] ⟨rfl, rfl, trivial⟩ ?_
  refine N.then ?_
  refine E.seq ?_
  refine E.region ?_
  refine X.alloc (z := .int .i64 0) (cs := [.int .i64 0]) rfl rfl rfl rfl (by kernel_rfl) rfl ?_
  intro b3 H2 hn2 hb3 hk2
  have hkk := hk1.trans hk2 (by simp)
  have hl1 := lt_of hb1
  have h13 : b1 ≠ b3 := by omega
  replace hb1 := hk2.keep hb1 (by simp)
  have hs3 : H.size ≤ b3 := Nat.le_trans hk1.size hn2
  refine X.st rfl rfl rfl rfl rfl rfl rfl Tryd.sz3 hb3 (Nat.zero_lt_one) ?_
  intro H3 hb3 hk3
  replace hb1 := hk3.keep hb1 (by simp; exact h13)
  replace hkk := hkk.trans hk3 (by simp; exact hs3)
  refine X.done [(1, _), (2, _), (3, _)] ⟨rfl, rfl, rfl, trivial⟩ ?_
  refine N.then ?_
  refine E.seq ?_
  refine E.region ?_
  refine X.ldA rfl rfl rfl rfl Tryd.ag26 Tryd.sz26 (hb1) rfl zoff ?_
  refine X.fn rfl rfl rfl rfl rfl rfl ?_
  refine X.call rfl rfl rfl rfl rfl Tryd.cl26 (each_deep l v e H H3 b3 hl hE hkk hB hb3 hs3) ?_
  rintro _ H4 ⟨rfl, hb4, hk4⟩
  refine X.done [(2, _), (3, _)] ⟨rfl, rfl, trivial⟩ ?_
  refine N.then ?_
  refine E.seq ?_
  refine E.region ?_
  refine X.ld rfl rfl rfl rfl Tryd.ag3 (hb4) (rfl) ?_
  refine X.asg rfl rfl rfl rfl rfl ?_
  refine X.done [(2, _)] ⟨rfl, trivial⟩ ?_
  refine N.then ?_
  refine E.ret ?_
  exact N.retH [_] ⟨_, _, rfl, rfl, rfl⟩ ⟨rfl, hk4⟩

theorem root_ct (l : List LK) (v : Value) (e : Addr) (H : Heap) (hE : Et H) (hB : Bv H e l v) : Ct Tryd.prog 15 #[agg1 v] H fun w H' => w = .tuple #[i64 (lastL l).1, i64 (lastL l).2] ∧ Kp [] H H' := by
  refine Ct.into 11 Tryd.func15 rfl [(0, agg1 v)] rfl ⟨rfl, trivial⟩ ?_
  refine E.seq ?_
  refine E.region ?_
  refine X.box rfl rfl rfl rfl rfl rfl ?_
  intro b1 H1 hn1 hb1 hk1
  refine X.asg rfl rfl rfl rfl rfl ?_
  refine X.asg rfl rfl rfl rfl rfl ?_
  refine X.done [(1, _), (2, _), (3, _)] ⟨rfl, rfl, rfl, trivial⟩ ?_
  refine N.then ?_
  refine E.seq ?_
  refine E.region ?_
  refine X.alloc (z := .int .i64 0) (cs := [.int .i64 0]) rfl rfl rfl rfl (by kernel_rfl) rfl ?_
  intro b4 H2 hn2 hb4 hk2
  have hkk := hk1.trans hk2 (by simp)
  have hl1 := lt_of hb1
  have h14 : b1 ≠ b4 := by omega
  replace hb1 := hk2.keep hb1 (by simp)
  have hs4 : H.size ≤ b4 := Nat.le_trans hk1.size hn2
  refine X.alloc (z := .int .i64 0) (cs := [.int .i64 0]) rfl rfl rfl rfl (by kernel_rfl) rfl ?_
  intro b5 H3 hn3 hb5 hk3
  have hl2 := lt_of hb1
  have hl4 := lt_of hb4
  have h15 : b1 ≠ b5 := by omega
  have h45 : b4 ≠ b5 := by omega
  have hs5 : H.size ≤ b5 := Nat.le_trans hkk.size hn3
  replace hb1 := hk3.keep hb1 (by simp)
  replace hb4 := hk3.keep hb4 (by simp)
  replace hkk := hkk.trans hk3 (by simp)
  refine X.st rfl rfl rfl rfl rfl rfl rfl Tryd.sz22 hb4 (Nat.zero_lt_one) ?_
  intro H4 hb4 hk4
  replace hb1 := hk4.keep hb1 (by simp; exact h14)
  replace hb5 := hk4.keep hb5 (by simp; exact Ne.symm h45)
  replace hkk := hkk.trans hk4 (by simp; exact hs4)
  refine X.st rfl rfl rfl rfl rfl rfl rfl Tryd.sz3 hb5 (Nat.zero_lt_one) ?_
  intro H5 hb5 hk5
  replace hb1 := hk5.keep hb1 (by simp; exact h15)
  replace hb4 := hk5.keep hb4 (by simp; exact h45)
  replace hkk := hkk.trans hk5 (by simp; exact hs5)
  refine X.done [(1, _), (2, _), (3, _), (4, _), (5, _)] ⟨rfl, rfl, rfl, rfl, rfl, trivial⟩ ?_
  refine N.then ?_
  refine E.seq ?_
  refine E.region ?_
  refine X.ldA rfl rfl rfl rfl Tryd.ag26 Tryd.sz26 (hb1) rfl zoff ?_
  refine X.fn rfl rfl rfl rfl rfl rfl ?_
  refine X.call rfl rfl rfl rfl rfl Tryd.cl26 (each_root l v e H H5 b4 b5 h45 hE hkk hB hb4 hb5 hs4 hs5) ?_
  rintro _ H6 ⟨rfl, hc4, hc5, hk6⟩
  refine X.done [(2, _), (3, _), (4, _), (5, _)] ⟨rfl, rfl, rfl, rfl, trivial⟩ ?_
  refine N.then ?_
  refine E.seq ?_
  refine E.regionD (fun H' => H'[b4]? = some (.cells ([i64 (lastL l).1] : List Value).toArray 22 (0, 0)) ∧ H'[b5]? = some (.cells ([i64 (lastL l).2] : List Value).toArray 3 (0, 0))) [(0, .st), (1, .st), (2, .pu), (3, .pu)] Tryd.mixed (by kernel_rfl) (⟨hc4, hc5⟩) ?_
  refine X.ld rfl rfl rfl rfl Tryd.ag22 (fun H' hF => hF.1) (rfl) ?_
  refine X.ld rfl rfl rfl rfl Tryd.ag3 (fun H' hF => hF.2) (rfl) ?_
  refine X.asg rfl rfl rfl rfl rfl ?_
  refine X.asg rfl rfl rfl rfl rfl ?_
  refine X.done [(2, _), (3, _)] ⟨rfl, rfl, trivial⟩ ?_
  refine N.then ?_
  refine E.ret ?_
  exact N.retH [_, _] ⟨_, _, rfl, rfl, _, _, rfl, rfl, rfl⟩ ⟨rfl, hk6⟩

theorem has_ct (l : List LK) (v : Value) (e : Addr) (w : Int) (H : Heap) (hE : Et H) (hB : Bv H e l v) : Ct Tryd.prog 19 #[agg1 v, i64 w] H fun u H' => u = .bool (has w l) ∧ Kp [] H H' := by
  refine Ct.into 10 Tryd.func19 rfl [(0, agg1 v), (1, i64 w)] rfl ⟨rfl, rfl, trivial⟩ ?_
  refine E.seq ?_
  refine E.region ?_
  refine X.box rfl rfl rfl rfl rfl rfl ?_
  intro b1 H1 hn1 hb1 hk1
  refine X.box rfl rfl rfl rfl rfl rfl ?_
  intro b3 H2 hn2 hb3 hk2
  have hkk := hk1.trans hk2 (by simp)
  have hl1 := lt_of hb1
  replace hb1 := hk2.keep hb1 (by simp)
  have hs3 : H.size ≤ b3 := Nat.le_trans hk1.size hn2
  refine X.asg rfl rfl rfl rfl rfl ?_
  refine X.done [(2, _), (3, _), (4, _)] ⟨rfl, rfl, rfl, trivial⟩ ?_
  refine N.then ?_
  refine E.seq ?_
  refine E.region ?_
  refine X.alloc (z := .bool false) (cs := [.bool false]) rfl rfl rfl rfl (by kernel_rfl) rfl ?_
  intro b5 H3 hn3 hb5 hk3
  have hl2 := lt_of hb1
  have hl3 := lt_of hb3
  have h15 : b1 ≠ b5 := by omega
  have h35 : b3 ≠ b5 := by omega
  have hs5 : H.size ≤ b5 := Nat.le_trans hkk.size hn3
  replace hb1 := hk3.keep hb1 (by simp)
  replace hb3 := hk3.keep hb3 (by simp)
  replace hkk := hkk.trans hk3 (by simp)
  refine X.st rfl rfl rfl rfl rfl rfl rfl Tryd.sz4 hb5 (Nat.zero_lt_one) ?_
  intro H4 hb5 hk4
  replace hb1 := hk4.keep hb1 (by simp; exact h15)
  replace hb3 := hk4.keep hb3 (by simp; exact h35)
  replace hkk := hkk.trans hk4 (by simp; exact hs5)
  refine X.done [(2, _), (3, _), (4, _), (5, _)] ⟨rfl, rfl, rfl, rfl, trivial⟩ ?_
  refine N.then ?_
  refine E.seq ?_
  refine E.region ?_
  refine X.ldA rfl rfl rfl rfl Tryd.ag26 Tryd.sz26 (hb1) rfl zoff ?_
  refine X.fn rfl rfl rfl rfl rfl rfl ?_
  refine X.call rfl rfl rfl rfl rfl Tryd.cl26 (each_has l v e H H4 b5 b3 w (Ne.symm h35) hE hkk hB hb5 hb3 hs5 hs3) ?_
  rintro _ H6 ⟨rfl, hc5, hc3, hk6⟩
  refine X.done [(4, _), (5, _)] ⟨rfl, rfl, trivial⟩ ?_
  refine N.then ?_
  refine E.seq ?_
  refine E.region ?_
  refine X.ld rfl rfl rfl rfl Tryd.ag4 (hc5) (rfl) ?_
  refine X.asg rfl rfl rfl rfl rfl ?_
  refine X.done [(4, _)] ⟨rfl, trivial⟩ ?_
  refine N.then ?_
  refine E.ret ?_
  exact N.retH [_] ⟨_, _, rfl, rfl, rfl⟩ ⟨rfl, hk6⟩

theorem code_ct (l : List LK) (v : Value) (e : Addr) (H : Heap) (hE : Et H) (hB : Bv H e l v) : Ct Tryd.prog 17 #[agg1 v] H fun w H' => w = i64 (codeV l) ∧ Kp [] H H' := by
  refine Ct.into 13 Tryd.func17 rfl [(0, agg1 v)] rfl ⟨rfl, trivial⟩ ?_
  refine E.seq ?_
  refine E.region ?_
  refine X.box rfl rfl rfl rfl rfl rfl ?_
  intro b1 H1 hn1 hb1 hk1
  refine X.asg rfl rfl rfl rfl rfl ?_
  refine X.done [(1, _), (2, _)] ⟨rfl, rfl, trivial⟩ ?_
  refine N.then ?_
  refine E.seq ?_
  refine E.seq ?_
  refine E.region ?_
  refine X.fld rfl rfl rfl rfl rfl Tryd.off26_0 ?_
  refine X.ld rfl rfl rfl rfl Tryd.ag24 (hb1) (rfl) ?_
  refine X.call rfl rfl rfl rfl rfl Tryd.cl28 (next_ct H H1 e l v (hE.keep hk1) hB) ?_
  rintro pv H2 ⟨hL, hk2⟩
  have hkk := hk1.trans hk2 (by simp)
  refine X.asg rfl rfl rfl rfl rfl ?_
  refine X.done [(2, _), (3, _)] ⟨rfl, rfl, trivial⟩ ?_
  refine N.then ?_
  refine E.seq ?_
  refine E.region ?_
  refine X.mv rfl rfl rfl rfl rfl ?_
  rcases hL with ⟨rfl, rfl⟩ | ⟨x, r, b, u, rfl, rfl, hb, hcr⟩
  · refine X.neqP0 rfl rfl rfl rfl rfl rfl Tryd.underlying51 ?_
    refine X.done [(2, _), (3, _), (8, _)] ⟨rfl, rfl, rfl, trivial⟩ ?_
    refine N.then ?_
    refine E.condF rfl ?_
    refine E.skip ?_
    refine N.then ?_
    refine E.seq ?_
    refine E.region ?_
    refine X.asg rfl rfl rfl rfl rfl ?_
    refine X.done [(2, _)] ⟨rfl, trivial⟩ ?_
    refine N.then ?_
    refine E.ret ?_
    exact N.retH [_] ⟨_, _, rfl, rfl, rfl⟩ ⟨rfl, hkk⟩
  · refine X.neqP1 rfl rfl rfl rfl rfl rfl Tryd.underlying51 ?_
    refine X.done [(2, _), (3, _), (8, _)] ⟨rfl, rfl, rfl, trivial⟩ ?_
    refine N.then ?_
    refine E.condT rfl ?_
    refine E.seq ?_
    refine E.region ?_
    refine X.mv rfl rfl rfl rfl rfl ?_
    refine X.nilP rfl rfl rfl rfl rfl ?_
    refine X.fld rfl rfl rfl rfl rfl Tryd.off55_0 ?_
    refine X.ld rfl rfl rfl rfl Tryd.ag22 ((hkk.keep hb (by simp))) (rfl) ?_
    refine X.asg rfl rfl rfl rfl rfl ?_
    refine X.done [(2, _)] ⟨rfl, trivial⟩ ?_
    refine N.then ?_
    refine E.ret ?_
    refine N.thenR ?_
    exact N.retH [_] ⟨_, _, rfl, rfl, rfl⟩ ⟨rfl, hkk⟩

theorem at_ct (l : List LK) (v : Value) (e : Addr) (H : Heap) (hE : Et H) (hB : Bv H e l v) : Ct Tryd.prog 18 #[agg1 v] H fun w H' => w = i64 (atV l) ∧ Kp [] H H' := by
  refine Ct.into 13 Tryd.func18 rfl [(0, agg1 v)] rfl ⟨rfl, trivial⟩ ?_
  refine E.seq ?_
  refine E.region ?_
  refine X.box rfl rfl rfl rfl rfl rfl ?_
  intro b1 H1 hn1 hb1 hk1
  refine X.asg rfl rfl rfl rfl rfl ?_
  refine X.done [(1, _), (2, _)] ⟨rfl, rfl, trivial⟩ ?_
  refine N.then ?_
  refine E.seq ?_
  refine E.seq ?_
  refine E.region ?_
  refine X.fld rfl rfl rfl rfl rfl Tryd.off26_0 ?_
  refine X.ld rfl rfl rfl rfl Tryd.ag24 (hb1) (rfl) ?_
  refine X.call rfl rfl rfl rfl rfl Tryd.cl28 (next_ct H H1 e l v (hE.keep hk1) hB) ?_
  rintro pv H2 ⟨hL, hk2⟩
  have hkk := hk1.trans hk2 (by simp)
  refine X.asg rfl rfl rfl rfl rfl ?_
  refine X.done [(2, _), (3, _)] ⟨rfl, rfl, trivial⟩ ?_
  refine N.then ?_
  refine E.seq ?_
  refine E.region ?_
  refine X.mv rfl rfl rfl rfl rfl ?_
  rcases hL with ⟨rfl, rfl⟩ | ⟨x, r, b, u, rfl, rfl, hb, hcr⟩
  · refine X.neqP0 rfl rfl rfl rfl rfl rfl Tryd.underlying51 ?_
    refine X.done [(2, _), (3, _), (8, _)] ⟨rfl, rfl, rfl, trivial⟩ ?_
    refine N.then ?_
    refine E.condF rfl ?_
    refine E.skip ?_
    refine N.then ?_
    refine E.seq ?_
    refine E.region ?_
    refine X.asg rfl rfl rfl rfl rfl ?_
    refine X.done [(2, _)] ⟨rfl, trivial⟩ ?_
    refine N.then ?_
    refine E.ret ?_
    exact N.retH [_] ⟨_, _, rfl, rfl, rfl⟩ ⟨rfl, hkk⟩
  · refine X.neqP1 rfl rfl rfl rfl rfl rfl Tryd.underlying51 ?_
    refine X.done [(2, _), (3, _), (8, _)] ⟨rfl, rfl, rfl, trivial⟩ ?_
    refine N.then ?_
    refine E.condT rfl ?_
    refine E.seq ?_
    refine E.region ?_
    refine X.mv rfl rfl rfl rfl rfl ?_
    refine X.nilP rfl rfl rfl rfl rfl ?_
    refine X.fld rfl rfl rfl rfl rfl Tryd.off55_1 ?_
    refine X.ld rfl rfl rfl rfl Tryd.ag3 ((hkk.keep hb (by simp))) (rfl) ?_
    refine X.asg rfl rfl rfl rfl rfl ?_
    refine X.done [(2, _)] ⟨rfl, trivial⟩ ?_
    refine N.then ?_
    refine E.ret ?_
    refine N.thenR ?_
    exact N.retH [_] ⟨_, _, rfl, rfl, rfl⟩ ⟨rfl, hkk⟩

theorem family_nil (H : Heap) : Ct Tryd.prog 20 #[agg1 .nilIface] H fun w H' => w = i64 0 ∧ Kp [] H H' := by
  refine Ct.into 17 Tryd.func20 rfl [(0, agg1 .nilIface)] rfl ⟨rfl, trivial⟩ ?_
  refine E.seq ?_
  refine E.region ?_
  refine X.box rfl rfl rfl rfl rfl rfl ?_
  intro b1 H1 hn1 hb1 hk1
  refine X.asg rfl rfl rfl rfl rfl ?_
  refine X.done [(1, _), (2, _)] ⟨rfl, rfl, trivial⟩ ?_
  refine N.then ?_
  refine E.seq ?_
  refine E.seq ?_
  refine E.region ?_
  refine X.fld rfl rfl rfl rfl rfl Tryd.off26_0 ?_
  refine X.ld rfl rfl rfl rfl Tryd.ag24 (hb1) (rfl) ?_
  refine X.eqlI0 rfl rfl rfl rfl rfl (by kernel_rfl) ?_
  refine X.done [(1, _), (2, _), (6, _)] ⟨rfl, rfl, rfl, trivial⟩ ?_
  refine N.then ?_
  refine E.condT rfl ?_
  refine E.seq ?_
  refine E.region ?_
  refine X.asg rfl rfl rfl rfl rfl ?_
  refine X.done [(1, _), (2, _)] ⟨rfl, rfl, trivial⟩ ?_
  refine N.then ?_
  refine E.ret ?_
  refine N.thenR ?_
  exact N.retH [_] ⟨_, _, rfl, rfl, rfl⟩ ⟨rfl, hk1⟩

theorem family_some (l : List LK) (u : TypeId) (x : Value) (A : Nat → Addr) (f : Nat) (H : Heap) (hG : Gl H A) (hf : 1 ≤ f ∧ f ≤ 5) (hc0 : Ch H (A f) l (.iface u x)) : Ct Tryd.prog 20 #[agg1 (.iface u x)] H fun w H' => w = i64 (f : Int) ∧ Kp [] H H' := by
  refine Ct.into 17 Tryd.func20 rfl [(0, agg1 (.iface u x))] rfl ⟨rfl, trivial⟩ ?_
  refine E.seq ?_
  refine E.region ?_
  refine X.box rfl rfl rfl rfl rfl rfl ?_
  intro b1 H1 hn1 hb1 hk1
  refine X.asg rfl rfl rfl rfl rfl ?_
  refine X.done [(1, _), (2, _)] ⟨rfl, rfl, trivial⟩ ?_
  refine N.then ?_
  refine E.seq ?_
  refine E.seq ?_
  refine E.region ?_
  refine X.fld rfl rfl rfl rfl rfl Tryd.off26_0 ?_
  refine X.ld rfl rfl rfl rfl Tryd.ag24 (hb1) (rfl) ?_
  refine X.eqlI1 rfl rfl rfl rfl rfl rfl (by kernel_rfl) ?_
  refine X.done [(1, _), (2, _), (6, _)] ⟨rfl, rfl, rfl, trivial⟩ ?_
  refine N.then ?_
  refine E.condF rfl ?_
  refine E.skip ?_
  refine N.then ?_
  refine E.seq ?_
  refine E.seq ?_
  refine E.region ?_
  refine X.asg rfl rfl rfl rfl rfl ?_
  refine X.done [(1, _), (2, _), (3, _)] ⟨rfl, rfl, rfl, trivial⟩ ?_
  refine N.then ?_
  refine E.block ?_
  -- MISSING in G: [2]
  refine E.loop (fun (n : Nat) => [(1, ptr b1), (3, i64 (n : Int))]) (fun (n : Nat) H' => 1 ≤ n ∧ n ≤ f ∧ H'[b1]? = some (.cells ([.iface u x] : List Value).toArray 26 (0, 0)) ∧ Kp [] H H') (fun (n : Nat) => 5 - n) 1 ⟨rfl, rfl, trivial⟩ ⟨Nat.le_refl _, hf.1, hb1, hk1⟩ ?_
  rintro n H3 ⟨hn1, hnf, hb3, hkk⟩
  refine E.seq ?_
  refine E.seq ?_
  refine E.region ?_
  refine X.mv rfl rfl rfl rfl rfl ?_
  refine X.lss rfl rfl rfl rfl rfl rfl ?_
  refine X.done [(1, _), (3, _), (7, _), (8, _)] ⟨rfl, rfl, rfl, rfl, trivial⟩ ?_
  refine N.then ?_
  refine E.condD rfl (fun hc => ?_) (fun hc => ?_)
  · refine E.skip ?_
    refine N.then ?_
    refine E.seq ?_
    refine E.block ?_
    refine E.seq ?_
    refine E.regionD (fun H' => H'[b1]? = some (.cells ([.iface u x] : List Value).toArray 26 (0, 0))) [(0, .pu), (1, .st), (2, .pu), (3, .mk), (4, .mv)] Tryd.mixed (by kernel_rfl) (hb3) ?_
    refine X.fld rfl rfl rfl rfl rfl Tryd.off26_0 ?_
    refine X.ld rfl rfl rfl rfl Tryd.ag24 (fun H' hF => hF) (rfl) ?_
    refine X.mv rfl rfl rfl rfl rfl ?_
    refine X.call rfl rfl rfl rfl rfl Tryd.cl33 (numbered_ct n A H3 (hG.keep hkk) hn1 (by omega)) ?_
    rintro _ H4 ⟨rfl, eH4⟩
    obtain rfl := eH4.symm
    refine ⟨hb3, ?_⟩
    refine X.call rfl rfl rfl rfl rfl Tryd.cl32 (is_ct (A f) (A n) l _ H3 ((hG.keep hkk).row f hf.1 hf.2) ((hG.keep hkk).row n hn1 (by omega)) (Ch.keep hkk hc0)) ?_
    rintro _ H5 ⟨rfl, eH5⟩
    obtain rfl := eH5.symm
    refine X.done [(1, _), (3, _), (7, _), (8, _), (11, _), (12, _), (13, _), (14, _), (15, _)] ⟨rfl, rfl, rfl, rfl, rfl, rfl, rfl, rfl, rfl, trivial⟩ ?_
    refine N.then ?_
    refine E.cond rfl (fun hc => ?_) (fun hc => ?_)
    · refine E.seq ?_
      refine E.region ?_
      refine X.mv rfl rfl rfl rfl rfl ?_
      refine X.asg rfl rfl rfl rfl rfl ?_
      refine X.done [(1, _), (3, _), (7, _), (8, _), (11, _), (12, _), (13, _), (14, _), (15, _), (16, _), (2, _)] ⟨rfl, rfl, rfl, rfl, rfl, rfl, rfl, rfl, rfl, rfl, rfl, trivial⟩ ?_
      refine N.then ?_
      refine E.ret ?_
      refine N.blkR ?_
      refine N.thenR ?_
      refine N.loopR ?_
      refine N.blkR ?_
      refine N.thenR ?_
      exact N.retH [_] ⟨_, _, rfl, rfl, rfl⟩ ⟨by rw [hG.inj f n hf.1 hf.2 hn1 (by omega) (of_decide_eq_true (by assumption))]; rfl, hkk⟩
    · refine E.skip ?_
      refine N.blk ?_
      refine N.then ?_
      refine E.region ?_
      refine X.mv rfl rfl rfl rfl rfl ?_
      refine X.add rfl rfl rfl rfl rfl rfl (by omega) ?_
      refine X.asg rfl rfl rfl rfl rfl ?_
      refine X.done [(1, _), (3, _), (7, _), (8, _), (11, _), (12, _), (13, _), (14, _), (15, _), (9, _), (10, _)] ⟨rfl, rfl, rfl, rfl, rfl, rfl, rfl, rfl, rfl, rfl, rfl, trivial⟩ ?_
      exact N.next (n + 1) ⟨rfl, rfl, trivial⟩ ⟨by omega, by have hne : f ≠ n := fun h => absurd (show decide (A f = A n) = true by rw [h]; simp) (by rw [show decide (A f = A n) = false by assumption]; decide); omega, hb3, hkk⟩ (by omega)
  · refine E.exit ?_
    refine N.thenX ?_
    refine N.loopX ?_
    refine N.blkX ?_
    refine N.then ?_
    refine E.seq ?_
    refine E.region ?_
    refine X.asg rfl rfl rfl rfl rfl ?_
    refine X.done [(2, _)] ⟨rfl, trivial⟩ ?_
    refine N.then ?_
    refine E.ret ?_
    exact N.retH [_] ⟨_, _, rfl, rfl, rfl⟩ ⟨by rw [show f = 5 by omega]; rfl, hkk⟩

def famN (l : List LK) : Int := if l = [] then 0 else (fi (lastL l).1 : Int)
theorem famtell_ct (l : List LK) (v : Value) (A : Nat → Addr) (H : Heap) (hG : Gl H A) (hB : Bl H A l v) : Ct Tryd.prog 20 #[agg1 v] H fun w H' => w = i64 (famN l) ∧ Kp [] H H' := by
  rcases hB with ⟨rfl, rfl⟩ | ⟨h0, hc⟩
  · exact family_nil H
  · obtain ⟨u, x, rfl⟩ := hc.iface
    rw [famN, if_neg h0]
    exact family_some l u x A _ H hG (fi_le _) hc

theorem error_last (x : LK) (b : Nat) (e : Addr) (H : Heap) (hE : Et H) (hb : H[b]? = some (.cells (row3 x (famV e)).toArray 55 (0, 0))) (hx : ok64 x.2) : Ct Tryd.prog 29 #[ptr b] H fun w H' => w = str (sayV [x]) ∧ Kp [] H H' := by
  have hl1 := nm_len x.1
  have hl2 := num_len hx
  have hl3 : (one x).length = (nm x.1).length + 4 + (numV x.2).length := by simp [one]; omega
  refine Ct.into 30 Tryd.func29 rfl [(0, ptr b)] rfl ⟨rfl, trivial⟩ ?_
  refine E.seq ?_
  refine E.region ?_
  refine X.asg rfl rfl rfl rfl rfl ?_
  refine X.done [(0, _), (2, _)] ⟨rfl, rfl, trivial⟩ ?_
  refine N.then ?_
  refine E.seq ?_
  refine E.regionD (fun H' => H'[b]? = some (.cells (row3 x (famV e)).toArray 55 (0, 0))) [(0, .pu), (1, .pu), (2, .pu), (3, .st), (6, .pu), (7, .pu), (8, .pu), (9, .st), (4, .mk), (5, .pu), (10, .mk), (11, .pu), (12, .pu)] Tryd.mixed (by kernel_rfl) (hb) ?_
  refine X.mv rfl rfl rfl rfl rfl ?_
  refine X.nilP rfl rfl rfl rfl rfl ?_
  refine X.fld rfl rfl rfl rfl rfl Tryd.off55_0 ?_
  refine X.ld rfl rfl rfl rfl Tryd.ag22 (fun H' hF => hF) (rfl) ?_
  refine X.mv rfl rfl rfl rfl rfl ?_
  refine X.nilP rfl rfl rfl rfl rfl ?_
  refine X.fld rfl rfl rfl rfl rfl Tryd.off55_1 ?_
  refine X.ld rfl rfl rfl rfl Tryd.ag3 (fun H' hF => hF) (rfl) ?_
  refine X.call rfl rfl rfl rfl rfl Tryd.cl10 (name_ct x.1 H) ?_
  rintro _ H1 ⟨rfl, eH1⟩
  obtain rfl := eH1.symm
  refine ⟨hb, ?_⟩
  refine X.cat rfl rfl rfl rfl rfl rfl (by show _ + 4 ≤ _; omega) ?_
  refine X.call rfl rfl rfl rfl rfl Tryd.cl39 (number_ct x.2 H hx) ?_
  rintro _ H2 ⟨rfl, hk2⟩
  replace hb := hk2.keep hb (by simp)
  have hE2 := hE.keep hk2
  refine ⟨hb, ?_⟩
  refine X.cat rfl rfl rfl rfl rfl rfl (by rw [List.length_append]; show _ + 4 + _ ≤ _; omega) ?_
  refine X.asg rfl rfl rfl rfl rfl ?_
  refine X.done [(0, _), (2, _), (3, _)] ⟨rfl, rfl, rfl, trivial⟩ ?_
  refine N.then ?_
  refine E.seq ?_
  refine E.seq ?_
  refine E.region ?_
  refine X.mv rfl rfl rfl rfl rfl ?_
  refine X.nilP rfl rfl rfl rfl rfl ?_
  refine X.fld rfl rfl rfl rfl rfl Tryd.off55_2 ?_
  refine X.ld rfl rfl rfl rfl Tryd.ag24 (hb) (rfl) ?_
  refine X.call rfl rfl rfl rfl rfl Tryd.cl28 (next_fam e H2 hE2) ?_
  rintro _ H3 ⟨rfl, hk3⟩
  have hkk := hk2.trans hk3 (by simp)
  refine X.asg rfl rfl rfl rfl rfl ?_
  refine X.done [(2, _), (3, _), (4, _)] ⟨rfl, rfl, rfl, trivial⟩ ?_
  refine N.then ?_
  refine E.seq ?_
  refine E.region ?_
  refine X.mv rfl rfl rfl rfl rfl ?_
  refine X.neqP0 rfl rfl rfl rfl rfl rfl Tryd.underlying51 ?_
  refine X.done [(2, _), (3, _), (4, _), (23, _)] ⟨rfl, rfl, rfl, rfl, trivial⟩ ?_
  refine N.then ?_
  refine E.condF rfl ?_
  refine E.skip ?_
  refine N.then ?_
  refine E.seq ?_
  refine E.region ?_
  refine X.mv rfl rfl rfl rfl rfl ?_
  refine X.asg rfl rfl rfl rfl rfl ?_
  refine X.done [(2, _)] ⟨rfl, trivial⟩ ?_
  refine N.then ?_
  refine E.ret ?_
  exact N.retH [_] ⟨_, _, rfl, rfl, rfl⟩ ⟨rfl, hkk⟩

theorem error_more (x : LK) (b : Nat) (y : LK) (r : List LK) (b' : Nat) (hr : r.length ≤ 100) (hok : ∀ z ∈ y :: r, ok64 z.2) (H : Heap) (hE : Et H) (hb : H[b]? = some (.cells (row3 x (lnk b')).toArray 55 (0, 0))) (hx : ok64 x.2) (ih : ∀ H', Kp [] H H' → Ct Tryd.prog 29 #[ptr b'] H' fun w H'' => w = str (sayV (y :: r)) ∧ Kp [] H' H'') : Ct Tryd.prog 29 #[ptr b] H fun w H' => w = str (sayV (x :: y :: r)) ∧ Kp [] H H' := by
  have hl1 := nm_len x.1
  have hl2 := num_len hx
  have hl3 : (one x).length = (nm x.1).length + 4 + (numV x.2).length := by simp [one]; omega
  have hl4 := say_len (y :: r) hok
  simp only [List.length_cons] at hl4
  refine Ct.into 30 Tryd.func29 rfl [(0, ptr b)] rfl ⟨rfl, trivial⟩ ?_
  refine E.seq ?_
  refine E.region ?_
  refine X.asg rfl rfl rfl rfl rfl ?_
  refine X.done [(0, _), (2, _)] ⟨rfl, rfl, trivial⟩ ?_
  refine N.then ?_
  refine E.seq ?_
  refine E.regionD (fun H' => H'[b]? = some (.cells (row3 x (lnk b')).toArray 55 (0, 0))) [(0, .pu), (1, .pu), (2, .pu), (3, .st), (6, .pu), (7, .pu), (8, .pu), (9, .st), (4, .mk), (5, .pu), (10, .mk), (11, .pu), (12, .pu)] Tryd.mixed (by kernel_rfl) (hb) ?_
  refine X.mv rfl rfl rfl rfl rfl ?_
  refine X.nilP rfl rfl rfl rfl rfl ?_
  refine X.fld rfl rfl rfl rfl rfl Tryd.off55_0 ?_
  refine X.ld rfl rfl rfl rfl Tryd.ag22 (fun H' hF => hF) (rfl) ?_
  refine X.mv rfl rfl rfl rfl rfl ?_
  refine X.nilP rfl rfl rfl rfl rfl ?_
  refine X.fld rfl rfl rfl rfl rfl Tryd.off55_1 ?_
  refine X.ld rfl rfl rfl rfl Tryd.ag3 (fun H' hF => hF) (rfl) ?_
  refine X.call rfl rfl rfl rfl rfl Tryd.cl10 (name_ct x.1 H) ?_
  rintro _ H1 ⟨rfl, eH1⟩
  obtain rfl := eH1.symm
  refine ⟨hb, ?_⟩
  refine X.cat rfl rfl rfl rfl rfl rfl (by show _ + 4 ≤ _; omega) ?_
  refine X.call rfl rfl rfl rfl rfl Tryd.cl39 (number_ct x.2 H hx) ?_
  rintro _ H2 ⟨rfl, hk2⟩
  replace hb := hk2.keep hb (by simp)
  have hE2 := hE.keep hk2
  refine ⟨hb, ?_⟩
  refine X.cat rfl rfl rfl rfl rfl rfl (by rw [List.length_append]; show _ + 4 + _ ≤ _; omega) ?_
  refine X.asg rfl rfl rfl rfl rfl ?_
  refine X.done [(0, _), (2, _), (3, _)] ⟨rfl, rfl, rfl, trivial⟩ ?_
  refine N.then ?_
  refine E.seq ?_
  refine E.seq ?_
  refine E.region ?_
  refine X.mv rfl rfl rfl rfl rfl ?_
  refine X.nilP rfl rfl rfl rfl rfl ?_
  refine X.fld rfl rfl rfl rfl rfl Tryd.off55_2 ?_
  refine X.ld rfl rfl rfl rfl Tryd.ag24 (hb) (rfl) ?_
  refine X.call rfl rfl rfl rfl rfl Tryd.cl28 (next_link b' H2 hE2) ?_
  rintro _ H3 ⟨rfl, hk3⟩
  have hkk := hk2.trans hk3 (by simp)
  refine X.asg rfl rfl rfl rfl rfl ?_
  refine X.done [(2, _), (3, _), (4, _)] ⟨rfl, rfl, rfl, trivial⟩ ?_
  refine N.then ?_
  refine E.seq ?_
  refine E.region ?_
  refine X.mv rfl rfl rfl rfl rfl ?_
  refine X.neqP1 rfl rfl rfl rfl rfl rfl Tryd.underlying51 ?_
  refine X.done [(2, _), (3, _), (4, _), (23, _)] ⟨rfl, rfl, rfl, rfl, trivial⟩ ?_
  refine N.then ?_
  refine E.condT rfl ?_
  refine E.seq ?_
  refine E.region ?_
  refine X.mv rfl rfl rfl rfl rfl ?_
  refine X.cat rfl rfl rfl rfl rfl rfl (by show (one x).length + 2 ≤ _; omega) ?_
  refine X.mv rfl rfl rfl rfl rfl ?_
  refine X.call rfl rfl rfl rfl rfl Tryd.cl29 (ih H3 hkk) ?_
  rintro _ H4 ⟨rfl, hk4⟩
  replace hkk := hkk.trans hk4 (by simp)
  refine X.cat rfl rfl rfl rfl rfl rfl (by show (one x ++ [58, 32]).length + _ ≤ _; rw [List.length_append]; show (one x).length + 2 + _ ≤ _; omega) ?_
  refine X.asg rfl rfl rfl rfl rfl ?_
  refine X.done [(2, _), (3, _)] ⟨rfl, rfl, trivial⟩ ?_
  refine N.then ?_
  refine E.ret ?_
  refine N.thenR ?_
  exact N.retH [_] ⟨_, _, rfl, rfl, rfl⟩ ⟨rfl, hkk⟩

theorem error_ct (e : Addr) (H : Heap) (hE : Et H) : ∀ (r : List LK) (x : LK) (b : Nat) (u : Value), r.length ≤ 100 → (∀ z ∈ x :: r, ok64 z.2) → H[b]? = some (.cells (row3 x u).toArray 55 (0, 0)) → Ch H e r u → ∀ H', Kp [] H H' →
    Ct Tryd.prog 29 #[ptr b] H' fun w H'' => w = str (sayV (x :: r)) ∧ Kp [] H' H''
  | [], x, b, u, hr, hok, hb, hc, H', hk => by
    have hu : u = famV e := hc
    subst hu
    exact error_last x b e H' (hE.keep hk) (hk.keep hb (by simp)) (hok x (by simp))
  | y :: r, x, b, u, hr, hok, hb, hc, H', hk => by
    obtain ⟨b', u', rfl, hb', hc'⟩ := hc
    exact error_more x b y r b' (by simp only [List.length_cons] at hr; omega) (fun z hz => hok z (by simp [hz])) H' (hE.keep hk) (hk.keep hb (by simp)) (hok x (by simp)) (fun H'' hk2 => error_ct e H hE r y b' u' (by simp only [List.length_cons] at hr; omega) (fun z hz => hok z (by simp [hz])) hb' hc' H'' (hk.trans hk2 (by simp)))

theorem say_ct (l : List LK) (v : Value) (e : Addr) (H : Heap) (hE : Et H) (hB : Bv H e l v) (hlen : l.length ≤ 100) (hok : ∀ z ∈ l, ok64 z.2) : Ct Tryd.prog 13 #[agg1 v] H fun w H' => w = str (sayV l) ∧ Kp [] H H' := by
  refine Ct.into 11 Tryd.func13 rfl [(0, agg1 v)] rfl ⟨rfl, trivial⟩ ?_
  refine E.seq ?_
  refine E.region ?_
  refine X.box rfl rfl rfl rfl rfl rfl ?_
  intro b1 H1 hn1 hb1 hk1
  refine X.asg rfl rfl rfl rfl rfl ?_
  refine X.done [(1, _), (2, _)] ⟨rfl, rfl, trivial⟩ ?_
  refine N.then ?_
  refine E.seq ?_
  refine E.seq ?_
  refine E.region ?_
  refine X.fld rfl rfl rfl rfl rfl Tryd.off26_0 ?_
  refine X.ld rfl rfl rfl rfl Tryd.ag24 (hb1) (rfl) ?_
  refine X.call rfl rfl rfl rfl rfl Tryd.cl28 (next_ct H H1 e l v (hE.keep hk1) hB) ?_
  rintro pv H2 ⟨hL, hk2⟩
  have hkk := hk1.trans hk2 (by simp)
  refine X.asg rfl rfl rfl rfl rfl ?_
  refine X.done [(2, _), (3, _)] ⟨rfl, rfl, trivial⟩ ?_
  refine N.then ?_
  refine E.seq ?_
  refine E.region ?_
  refine X.mv rfl rfl rfl rfl rfl ?_
  rcases hL with ⟨rfl, rfl⟩ | ⟨x, r, b, u, rfl, rfl, hb, hcr⟩
  · refine X.neqP0 rfl rfl rfl rfl rfl rfl Tryd.underlying51 ?_
    refine X.done [(2, _), (3, _), (8, _)] ⟨rfl, rfl, rfl, trivial⟩ ?_
    refine N.then ?_
    refine E.condF rfl ?_
    refine E.skip ?_
    refine N.then ?_
    refine E.seq ?_
    refine E.region ?_
    refine X.asg rfl rfl rfl rfl rfl ?_
    refine X.done [(2, _)] ⟨rfl, trivial⟩ ?_
    refine N.then ?_
    refine E.ret ?_
    exact N.retH [_] ⟨_, _, rfl, rfl, rfl⟩ ⟨rfl, hkk⟩
  · refine X.neqP1 rfl rfl rfl rfl rfl rfl Tryd.underlying51 ?_
    refine X.done [(2, _), (3, _), (8, _)] ⟨rfl, rfl, rfl, trivial⟩ ?_
    refine N.then ?_
    refine E.condT rfl ?_
    refine E.seq ?_
    refine E.region ?_
    refine X.mv rfl rfl rfl rfl rfl ?_
    refine X.call rfl rfl rfl rfl rfl Tryd.cl29 (error_ct e H hE r x b u (by simp only [List.length_cons] at hlen; omega) hok hb hcr H2 hkk) ?_
    rintro _ H3 ⟨rfl, hk3⟩
    replace hkk := hkk.trans hk3 (by simp)
    refine X.asg rfl rfl rfl rfl rfl ?_
    refine X.done [(2, _)] ⟨rfl, trivial⟩ ?_
    refine N.then ?_
    refine E.ret ?_
    refine N.thenR ?_
    exact N.retH [_] ⟨_, _, rfl, rfl, rfl⟩ ⟨rfl, hkk⟩

end Go.Proofs.YtaofjmaekpjkhaaDoor