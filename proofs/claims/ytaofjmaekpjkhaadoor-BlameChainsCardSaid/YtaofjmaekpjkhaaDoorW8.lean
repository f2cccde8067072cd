/- The laws of blames: the innermost one. -/
import Derived.Test.YtaofjmaekpjkhaaDoorW7
namespace Go.Proofs.YtaofjmaekpjkhaaDoor
open Go.SX Go.Blm
attribute [local irreducible] X E N Ct
set_option linter.unusedVariables false

theorem und_chain2 (y : LK) (r L : List LK) : und y.1 y.2 (chain r ++ L) = chain (y :: r) ++ L := by
  have h := und_chain y r
  unfold und at h ⊢
  by_cases e : cnt y.1 = 0
  · rw [if_pos e] at h ⊢; rw [← h]
  · rw [if_neg e] at h ⊢; rw [← h]; rfl
theorem lastL_app (L : List LK) (x : LK) : lastL (L ++ [x]) = x := by simp [lastL, List.getLastD_eq_getLast?]
theorem famN_app (L : List LK) (x : LK) : famN (L ++ [x]) = (fi x.1 : Int) := by rw [famN_some (by simp), lastL_app]
theorem has_app (L : List LK) (c k : Int) : has c (L ++ [(c, k)]) = true := by simp [has, List.any_append]
theorem code_app {l : List LK} {y : LK} (L : List LK) (hy : l[0]? = some y) (h0 : y.1 ≠ 0) : codeV (chain l ++ L) = cnt y.1 ∧ atV (chain l ++ L) = y.2 := by
  cases l with
  | nil => simp at hy
  | cons z r =>
    simp at hy; subst hy
    have e : chain (z :: r) = (cnt z.1, z.2) :: chain r := by rw [← und_chain]; exact und_not (fun h => h0 ((cnt_zero _).1 h)) _
    rw [e]; exact ⟨rfl, rfl⟩
theorem app_ok {l : List LK} {x : LK} (h : ∀ z ∈ l, ok64 z.2) (hx : ok64 x.2) : ∀ z ∈ chain l ++ [(cnt x.1, x.2)], ok64 z.2 := by
  intro z hz
  rcases List.mem_append.1 hz with h1 | h1
  · exact chain_ok h z h1
  · obtain rfl : z = (cnt x.1, x.2) := by simpa using h1
    exact hx
theorem app_len {l : List LK} {x : LK} (h : l.length ≤ 40) : (chain l ++ [x]).length ≤ 100 := by
  have := chain_len l
  rw [List.length_append]; simp; omega

theorem inner_ct (x : LK) (l : List LK) (a : Option Addr) (cc : Nat) (H : Heap) (hS : Rd H 2 (.slice a l.length cc) l.length (l.flatMap opl)) (hx : ok64 x.2) (hok : ∀ z ∈ l, ok64 z.2) (A : Nat → Addr) (hG : Gl H A) (hlm : l.length ≤ maxLen) : Ct Tryd.prog 5 #[.agg (opl x).toArray, .slice a l.length cc] H fun v H' => v = .bool true ∧ Kp [] H H' := by
  have hkk : Kp [] H H := Kp.refl _ _
  obtain ⟨b, o, hrows⟩ := rows2 hS
  have hml : (l.length : Int) ≤ 9223372036854775807 := by simp only [maxLen] at hlm; omega
  refine Ct.into 123 Tryd.func5 rfl [(0, .agg (opl x).toArray), (1, .slice a l.length cc)] rfl ⟨rfl, rfl, trivial⟩ ?_
  refine E.seq ?_
  refine E.region ?_
  refine X.box rfl rfl rfl rfl rfl rfl ?_
  intro b2 Hx hnb2 hb2 hkx
  have hsb2 : H.size ≤ b2 := Nat.le_trans hkk.size hnb2
  replace hkk := hkk.trans hkx (by simp)
  clear hkx
  refine X.asg rfl rfl rfl rfl rfl ?_
  refine X.done [(1, _), (2, _), (4, _)] ⟨rfl, rfl, rfl, trivial⟩ ?_
  refine N.then ?_
  refine E.seq ?_
  refine E.seq ?_
  refine E.region ?_
  refine X.mv rfl rfl rfl rfl rfl ?_
  refine X.lenS rfl rfl rfl rfl rfl Tryd.underlying41 ?_
  refine X.gtrC rfl rfl rfl rfl rfl rfl (fun hc => ?_) (fun hc => ?_)
  · refine X.mv rfl rfl rfl rfl rfl ?_
    refine X.skip rfl rfl rfl ?_
    refine X.skip rfl rfl rfl ?_
    refine X.skip rfl rfl rfl ?_
    refine X.pickT rfl rfl rfl rfl rfl rfl ?_
    refine X.mv rfl rfl rfl rfl rfl ?_
    refine X.skip rfl rfl rfl ?_
    refine X.skip rfl rfl rfl ?_
    refine X.skip rfl rfl rfl ?_
    refine X.skip rfl rfl rfl ?_
    refine X.skip rfl rfl rfl ?_
    refine X.skip rfl rfl rfl ?_
    refine X.skip rfl rfl rfl ?_
    refine X.skip rfl rfl rfl ?_
    refine X.skip rfl rfl rfl ?_
    refine X.skip rfl rfl rfl ?_
    refine X.pickT rfl rfl rfl rfl rfl rfl ?_
    refine X.done [(1, _), (2, _), (4, _), (30, _)] ⟨rfl, rfl, rfl, rfl, trivial⟩ ?_
    refine N.then ?_
    refine E.condT rfl ?_
    refine E.seq ?_
    refine E.region ?_
    refine X.call rfl rfl rfl rfl rfl Tryd.cl14 (known_ct A _ (hG.keep hkk)) ?_
    rintro _ Hx ⟨rfl, hkx⟩
    replace hkk := hkk.trans hkx (by simp)
    clear hkx
    refine X.asg rfl rfl rfl rfl rfl ?_
    refine X.done [(1, _), (2, _), (4, _)] ⟨rfl, rfl, rfl, trivial⟩ ?_
    refine N.then ?_
    refine E.ret ?_
    refine N.thenR ?_
    exact N.retH [_] ⟨_, _, rfl, rfl, rfl⟩ ⟨rfl, hkk⟩
  · refine X.mv rfl rfl rfl rfl rfl ?_
    refine X.fld rfl rfl rfl rfl rfl Tryd.off40_0 ?_
    refine X.ld rfl rfl rfl rfl Tryd.ag22 (hb2) (rfl) ?_
    refine X.eqlC rfl rfl rfl rfl rfl rfl (fun hc => ?_) (fun hc => ?_)
    · refine X.pickF rfl rfl rfl rfl rfl rfl ?_
      refine X.mv rfl rfl rfl rfl rfl ?_
      refine X.skip rfl rfl rfl ?_
      refine X.skip rfl rfl rfl ?_
      refine X.skip rfl rfl rfl ?_
      refine X.skip rfl rfl rfl ?_
      refine X.skip rfl rfl rfl ?_
      refine X.skip rfl rfl rfl ?_
      refine X.skip rfl rfl rfl ?_
      refine X.skip rfl rfl rfl ?_
      refine X.skip rfl rfl rfl ?_
      refine X.skip rfl rfl rfl ?_
      refine X.pickT rfl rfl rfl rfl rfl rfl ?_
      refine X.done [(1, _), (2, _), (4, _), (30, _)] ⟨rfl, rfl, rfl, rfl, trivial⟩ ?_
      refine N.then ?_
      refine E.condT rfl ?_
      refine E.seq ?_
      refine E.region ?_
      refine X.call rfl rfl rfl rfl rfl Tryd.cl14 (known_ct A _ (hG.keep hkk)) ?_
      rintro _ Hx ⟨rfl, hkx⟩
      replace hkk := hkk.trans hkx (by simp)
      clear hkx
      refine X.asg rfl rfl rfl rfl rfl ?_
      refine X.done [(1, _), (2, _), (4, _)] ⟨rfl, rfl, rfl, trivial⟩ ?_
      refine N.then ?_
      refine E.ret ?_
      refine N.thenR ?_
      exact N.retH [_] ⟨_, _, rfl, rfl, rfl⟩ ⟨rfl, hkk⟩
    · refine X.pickF rfl rfl rfl rfl rfl rfl ?_
      refine X.mv rfl rfl rfl rfl rfl ?_
      refine X.mv rfl rfl rfl rfl rfl ?_
      refine X.lenS rfl rfl rfl rfl rfl Tryd.underlying41 ?_
      refine X.gtrC rfl rfl rfl rfl rfl rfl (fun hc => ?_) (fun hc => ?_)
      · refine X.mv rfl rfl rfl rfl rfl ?_
        obtain ⟨y, hy⟩ : ∃ y, l[0]? = some y := ⟨_, List.getElem?_eq_getElem (by omega)⟩
        obtain ⟨haey, csy, cty, fzy, hby0, hk0y, hk1y, _⟩ := hrows 0 y hy
        have hby := hkk.keep hby0 (by simp)
        refine X.mv rfl rfl rfl rfl rfl ?_
        refine X.ixAe rfl rfl rfl rfl rfl rfl Tryd.underlying41 Tryd.sz40 (haey) (by omega) ?_
        refine X.fld rfl rfl rfl rfl rfl Tryd.off40_0 ?_
        refine X.ld rfl rfl rfl rfl Tryd.ag22 (hby) (hk0y) ?_
        refine X.eql rfl rfl rfl rfl rfl rfl ?_
        refine X.pickT rfl rfl rfl rfl rfl rfl ?_
        refine X.pickF rfl rfl rfl rfl rfl rfl ?_
        refine X.done [(1, _), (2, _), (4, _), (30, _)] ⟨rfl, rfl, rfl, rfl, trivial⟩ ?_
        refine N.then ?_
        refine E.condD rfl (fun hc => ?_) (fun hc => ?_)
        · refine E.seq ?_
          refine E.region ?_
          refine X.call rfl rfl rfl rfl rfl Tryd.cl14 (known_ct A _ (hG.keep hkk)) ?_
          rintro _ Hx ⟨rfl, hkx⟩
          replace hkk := hkk.trans hkx (by simp)
          clear hkx
          refine X.asg rfl rfl rfl rfl rfl ?_
          refine X.done [(1, _), (2, _), (4, _)] ⟨rfl, rfl, rfl, trivial⟩ ?_
          refine N.then ?_
          refine E.ret ?_
          refine N.thenR ?_
          exact N.retH [_] ⟨_, _, rfl, rfl, rfl⟩ ⟨rfl, hkk⟩
        · refine E.skip ?_
          refine N.then ?_
          refine E.seq ?_
          have hx0 : x.1 ≠ 0 := by assumption
          have hu : und x.1 x.2 [] = [(cnt x.1, x.2)] := und_not (fun h => hx0 ((cnt_zero _).1 h)) []
          have h40 : l.length ≤ 40 := by omega
          refine E.region ?_
          refine X.fld rfl rfl rfl rfl rfl Tryd.off40_0 ?_
          refine X.ld rfl rfl rfl rfl Tryd.ag22 (hb2) (rfl) ?_
          refine X.fld rfl rfl rfl rfl rfl Tryd.off40_1 ?_
          refine X.ld rfl rfl rfl rfl Tryd.ag3 (hb2) (rfl) ?_
          refine X.call rfl rfl rfl rfl rfl Tryd.cl7 (new_ct x.1 x.2 A _ (hG.keep hkk)) ?_
          rintro _ Hx ⟨v1, rfl, hB1, hkx⟩
          replace hb2 := hkx.keep hb2 (by simp)
          replace hkk := hkk.trans hkx (by simp)
          clear hkx
          rw [hu] at hB1
          refine X.alloc (z := .agg ([.nilIface] : List Value).toArray) (cs := [.nilIface]) rfl rfl rfl rfl (by kernel_rfl) rfl ?_
          intro b5 Hx hnb5 hb5 hkx
          have hlhb2 := lt_of hb2
          have hneb2b5 : b2 ≠ b5 := by omega
          replace hb2 := hkx.keep hb2 (by simp)
          replace hB1 := hB1.keep hkx
          have hsb5 : H.size ≤ b5 := Nat.le_trans hkk.size hnb5
          replace hkk := hkk.trans hkx (by simp)
          clear hkx
          refine X.stA rfl rfl rfl rfl rfl rfl (hB1.one) Tryd.sz26 hb5 (Nat.le_refl _) ?_
          intro Hx hxb hkx
          replace hb2 := hkx.keep hb2 (by simp; exact hneb2b5)
          replace hB1 := hB1.keepT hkx hb5 (by decide)
          replace hb5 := hxb
          replace hkk := hkk.trans hkx (by simp; exact hsb5)
          clear hkx hxb
          refine X.done [(1, _), (2, _), (4, _), (5, _)] ⟨rfl, rfl, rfl, rfl, trivial⟩ ?_
          refine N.then ?_
          refine E.seq ?_
          refine E.region ?_
          refine X.ldA rfl rfl rfl rfl Tryd.ag26 Tryd.sz26 (hb5) rfl zoff ?_
          refine X.alloc (z := .agg ([.nilIface] : List Value).toArray) (cs := [.nilIface]) rfl rfl rfl rfl (by kernel_rfl) rfl ?_
          intro b6 Hx hnb6 hb6 hkx
          have hlhb2 := lt_of hb2
          have hneb2b6 : b2 ≠ b6 := by omega
          replace hb2 := hkx.keep hb2 (by simp)
          have hlhb5 := lt_of hb5
          have hneb5b6 : b5 ≠ b6 := by omega
          replace hb5 := hkx.keep hb5 (by simp)
          replace hB1 := hB1.keep hkx
          have hsb6 : H.size ≤ b6 := Nat.le_trans hkk.size hnb6
          replace hkk := hkk.trans hkx (by simp)
          clear hkx
          refine X.stA rfl rfl rfl rfl rfl rfl (hB1.one) Tryd.sz26 hb6 (Nat.le_refl _) ?_
          intro Hx hxb hkx
          replace hb2 := hkx.keep hb2 (by simp; exact hneb2b6)
          replace hb5 := hkx.keep hb5 (by simp; exact hneb5b6)
          replace hB1 := hB1.keepT hkx hb6 (by decide)
          replace hb6 := hxb
          replace hkk := hkk.trans hkx (by simp; exact hsb6)
          clear hkx hxb
          refine X.done [(1, _), (2, _), (4, _), (5, _), (6, _)] ⟨rfl, rfl, rfl, rfl, rfl, trivial⟩ ?_
          refine N.then ?_
          refine E.seq ?_
          refine E.seq ?_
          refine E.region ?_
          refine X.mv rfl rfl rfl rfl rfl ?_
          refine X.lenS rfl rfl rfl rfl rfl Tryd.underlying41 ?_
          refine X.sbE (zz := ((l.length : Nat) : Int) - 1) rfl rfl rfl rfl rfl rfl (IntWalk.i64_in _ (by omega)) ?_
          refine X.asg rfl rfl rfl rfl rfl ?_
          refine X.done [(1, _), (2, _), (4, _), (5, _), (6, _), (7, _)] ⟨rfl, rfl, rfl, rfl, rfl, rfl, trivial⟩ ?_
          refine N.then ?_
          refine E.block ?_
          -- MISSING in G: [4]
          refine E.loop (fun (q : Nat × Value) => [(1, .slice a l.length cc), (2, ptr b2), (5, ptr b5), (6, ptr b6), (7, i64 ((q.1 : Int) - 1))]) (fun (q : Nat × Value) H' => q.1 ≤ l.length ∧ H'[b2]? = some (.cells (opl x).toArray 40 (0, 0)) ∧ H'[b5]? = some (.cells ([v1] : List Value).toArray 26 (0, 0)) ∧ H'[b6]? = some (.cells ([q.2] : List Value).toArray 26 (0, 0)) ∧ Bl H' A [(cnt x.1, x.2)] v1 ∧ Bl H' A (chain (l.drop q.1) ++ [(cnt x.1, x.2)]) q.2 ∧ Kp [] H H') (fun (q : Nat × Value) => q.1) (l.length, v1) ⟨rfl, rfl, rfl, rfl, rfl, trivial⟩ ⟨Nat.le_refl _, hb2, hb5, hb6, hB1, by rw [List.drop_length]; exact hB1, hkk⟩ ?_
          clear hkk hb2 hb5 hb6 hB1
          rintro ⟨j, v⟩ H3 hJ
          dsimp only at hJ ⊢
          obtain ⟨hj, hb2, hb5, hb6, hB1, hB, hkk⟩ := hJ
          refine E.seq ?_
          refine E.seq ?_
          refine E.region ?_
          refine X.mv rfl rfl rfl rfl rfl ?_
          refine X.geq rfl rfl rfl rfl rfl rfl ?_
          refine X.done [(1, _), (2, _), (5, _), (6, _), (7, _), (41, _), (42, _)] ⟨rfl, rfl, rfl, rfl, rfl, rfl, rfl, trivial⟩ ?_
          refine N.then ?_
          refine E.condD rfl (fun hc => ?_) (fun hc => ?_)
          · refine E.skip ?_
            refine N.then ?_
            refine E.seq ?_
            refine E.block ?_
            have hj1 : 1 ≤ j := by omega
            obtain ⟨yj, hyj⟩ : ∃ yj, l[j - 1]? = some yj := ⟨_, List.getElem?_eq_getElem (by omega)⟩
            obtain ⟨hae, cs, ct, fz, hbb0, hk0, hk1, _⟩ := hrows _ yj hyj
            have hbb := hkk.keep hbb0 (by simp)
            have hjc : (j : Int) - 1 = ((j - 1 : Nat) : Int) := by omega
            rw [hjc]
            refine E.regionD (fun H' => H'[b]? = some (.cells cs.toArray ct fz) ∧ H'[b6]? = some (.cells ([v] : List Value).toArray 26 (0, 0))) [(0, .pu), (1, .pu), (2, .pu), (3, .pu), (4, .st), (5, .pu), (6, .pu), (7, .pu), (8, .pu), (9, .st), (10, .st), (11, .mv), (12, .mv)] Tryd.mixed (by kernel_rfl) (⟨hbb, hb6⟩) ?_
            refine X.mv rfl rfl rfl rfl rfl ?_
            refine X.mv rfl rfl rfl rfl rfl ?_
            refine X.ixAe rfl rfl rfl rfl rfl rfl Tryd.underlying41 Tryd.sz40 (hae) (by omega) ?_
            refine X.fld rfl rfl rfl rfl rfl Tryd.off40_0 ?_
            refine X.ld rfl rfl rfl rfl Tryd.ag22 (fun H' hF => hF.1) (hk0) ?_
            refine X.mv rfl rfl rfl rfl rfl ?_
            refine X.mv rfl rfl rfl rfl rfl ?_
            refine X.ixAe rfl rfl rfl rfl rfl rfl Tryd.underlying41 Tryd.sz40 (hae) (by omega) ?_
            refine X.fld rfl rfl rfl rfl rfl Tryd.off40_1 ?_
            refine X.ld rfl rfl rfl rfl Tryd.ag3 (fun H' hF => hF.1) (hk1) ?_
            refine X.ldA rfl rfl rfl rfl Tryd.ag26 Tryd.sz26 (fun H' hF => hF.2) rfl zoff ?_
            refine X.call rfl rfl rfl rfl rfl Tryd.cl25 (under_ct yj.1 yj.2 A _ v _ (hG.keep hkk) hB) ?_
            rintro _ Hx ⟨v4, rfl, hB4, hkx⟩
            replace hb2 := hkx.keep hb2 (by simp)
            replace hb5 := hkx.keep hb5 (by simp)
            replace hB1 := hB1.keep hkx
            replace hb6 := hkx.keep hb6 (by simp)
            replace hkk := hkk.trans hkx (by simp)
            clear hkx
            refine X.stA rfl rfl rfl rfl rfl rfl (hB4.one) Tryd.sz26 hb6 (Nat.le_refl _) ?_
            intro Hx hxb hkx
            have hB9 := hB4.keepT hkx hb6 (by decide)
            replace hB1 := hB1.keepT hkx hb6 (by decide)
            replace hb2 := hkx.keep hb2 (by simp; exact hneb2b6)
            replace hb5 := hkx.keep hb5 (by simp; exact hneb5b6)
            replace hb6 := hxb
            replace hkk := hkk.trans hkx (by simp; exact hsb6)
            refine X.done [(1, _), (2, _), (5, _), (6, _), (7, _), (41, _), (42, _), (45, _), (46, _), (47, _), (48, _), (49, _), (50, _), (51, _), (52, _), (53, _), (54, _), (55, _), (56, _)] ⟨rfl, rfl, rfl, rfl, rfl, rfl, rfl, rfl, rfl, rfl, rfl, rfl, rfl, rfl, rfl, rfl, rfl, rfl, rfl, trivial⟩ ?_
            refine N.blk ?_
            refine N.then ?_
            refine E.region ?_
            refine X.mv rfl rfl rfl rfl rfl ?_
            refine X.sbE (zz := ((j - 1 : Nat) : Int) - 1) rfl rfl rfl rfl rfl rfl (by first | (rw [IntWalk.i64_in _ (by omega)]; omega) | (rw [IntWalk.i64_in _ (by omega)])) ?_
            refine X.asg rfl rfl rfl rfl rfl ?_
            refine X.done [(1, _), (2, _), (5, _), (6, _), (7, _), (41, _), (42, _), (45, _), (46, _), (47, _), (48, _), (49, _), (50, _), (51, _), (52, _), (53, _), (54, _), (55, _), (56, _), (43, _), (44, _)] ⟨rfl, rfl, rfl, rfl, rfl, rfl, rfl, rfl, rfl, rfl, rfl, rfl, rfl, rfl, rfl, rfl, rfl, rfl, rfl, rfl, rfl, trivial⟩ ?_
            exact N.next (G := fun (q : Nat × Value) => _) (j - 1, v4) ⟨rfl, rfl, rfl, rfl, rfl, trivial⟩ ⟨by show j - 1 ≤ l.length; omega, hb2, hb5, hb6, hB1, by rw [drop_pred hj1 hyj, ← und_chain2]; exact hB9, hkk⟩ (by show j - 1 < j; omega)
          · refine E.exit ?_
            refine N.thenX ?_
            refine N.loopX ?_
            refine N.blkX ?_
            refine N.then ?_
            refine E.seq ?_
            have hj0 : j = 0 := by omega
            subst hj0
            rw [List.drop_zero] at hB
            refine E.region ?_
            refine X.ldA rfl rfl rfl rfl Tryd.ag26 Tryd.sz26 (hb6) rfl zoff ?_
            refine X.call rfl rfl rfl rfl rfl Tryd.cl15 (root_ct (chain l ++ [(cnt x.1, x.2)]) v _ _ (hG.keep hkk).et hB.bv) ?_
            rintro _ Hx ⟨rfl, hkx⟩
            replace hb2 := hkx.keep hb2 (by simp)
            replace hb5 := hkx.keep hb5 (by simp)
            replace hB1 := hB1.keep hkx
            replace hb6 := hkx.keep hb6 (by simp)
            replace hB := hB.keep hkx
            replace hkk := hkk.trans hkx (by simp)
            clear hkx
            rw [lastL_app]
            refine X.mv rfl rfl rfl rfl rfl ?_
            refine X.extract rfl rfl rfl rfl rfl rfl ?_
            refine X.extract rfl rfl rfl rfl rfl rfl ?_
            refine X.asg rfl rfl rfl rfl rfl ?_
            refine X.asg rfl rfl rfl rfl rfl ?_
            refine X.done [(1, _), (2, _), (5, _), (6, _), (8, _), (9, _)] ⟨rfl, rfl, rfl, rfl, rfl, rfl, trivial⟩ ?_
            refine N.then ?_
            refine E.seq ?_
            refine E.seq ?_
            refine E.regionD (fun H' => H'[b6]? = some (.cells ([v] : List Value).toArray 26 (0, 0)) ∧ H'[b5]? = some (.cells ([v1] : List Value).toArray 26 (0, 0)) ∧ H'[b2]? = some (.cells (opl x).toArray 40 (0, 0))) [(0, .st), (2, .st), (1, .mk), (3, .mk), (4, .pu), (5, .pu), (6, .pu), (7, .st), (8, .mk), (9, .pu), (10, .pu), (11, .pu), (12, .pu), (13, .pu), (14, .st), (15, .pu), (16, .pu), (17, .pu), (18, .st), (19, .st), (20, .mk), (21, .mk), (22, .pu), (23, .pu)] Tryd.mixed (by kernel_rfl) (⟨hb6, hb5, hb2⟩) ?_
            refine X.ldA rfl rfl rfl rfl Tryd.ag26 Tryd.sz26 (fun H' hF => hF.1) rfl zoff ?_
            refine X.ldA rfl rfl rfl rfl Tryd.ag26 Tryd.sz26 (fun H' hF => hF.2.1) rfl zoff ?_
            refine X.call rfl rfl rfl rfl rfl Tryd.cl20 (famtell_ct (chain l ++ [(cnt x.1, x.2)]) v A _ (hG.keep hkk) hB) ?_
            rintro _ Hx ⟨rfl, hkx⟩
            replace hb2 := hkx.keep hb2 (by simp)
            replace hb5 := hkx.keep hb5 (by simp)
            replace hB1 := hB1.keep hkx
            replace hb6 := hkx.keep hb6 (by simp)
            replace hB := hB.keep hkx
            replace hkk := hkk.trans hkx (by simp)
            clear hkx
            rw [famN_app]
            refine ⟨⟨hb6, hb5, hb2⟩, ?_⟩
            refine X.call rfl rfl rfl rfl rfl Tryd.cl20 (famtell_ct [(cnt x.1, x.2)] v1 A _ (hG.keep hkk) hB1) ?_
            rintro _ Hx ⟨rfl, hkx⟩
            replace hb2 := hkx.keep hb2 (by simp)
            replace hb5 := hkx.keep hb5 (by simp)
            replace hB1 := hB1.keep hkx
            replace hb6 := hkx.keep hb6 (by simp)
            replace hB := hB.keep hkx
            replace hkk := hkk.trans hkx (by simp)
            clear hkx
            rw [fam_one]
            refine ⟨⟨hb6, hb5, hb2⟩, ?_⟩
            refine X.neqF rfl rfl rfl rfl rfl rfl (fun h => h rfl) ?_
            refine X.mv rfl rfl rfl rfl rfl ?_
            refine X.mv rfl rfl rfl rfl rfl ?_
            refine X.ldA rfl rfl rfl rfl Tryd.ag26 Tryd.sz26 (fun H' hF => hF.2.1) rfl zoff ?_
            refine X.call rfl rfl rfl rfl rfl Tryd.cl17 (code_ct [(cnt x.1, x.2)] v1 _ _ (hG.keep hkk).et hB1.bv) ?_
            rintro _ Hx ⟨rfl, hkx⟩
            replace hb2 := hkx.keep hb2 (by simp)
            replace hb5 := hkx.keep hb5 (by simp)
            replace hB1 := hB1.keep hkx
            replace hb6 := hkx.keep hb6 (by simp)
            replace hB := hB.keep hkx
            replace hkk := hkk.trans hkx (by simp)
            clear hkx
            refine ⟨⟨hb6, hb5, hb2⟩, ?_⟩
            refine X.neqF rfl rfl rfl rfl rfl rfl (fun h => h rfl) ?_
            refine X.pickF rfl rfl rfl rfl rfl rfl ?_
            refine X.mv rfl rfl rfl rfl rfl ?_
            refine X.mv rfl rfl rfl rfl rfl ?_
            refine X.fld rfl rfl rfl rfl rfl Tryd.off40_1 ?_
            refine X.ld rfl rfl rfl rfl Tryd.ag3 (fun H' hF => hF.2.2) (rfl) ?_
            refine X.neqF rfl rfl rfl rfl rfl rfl (fun h => h rfl) ?_
            refine X.pickF rfl rfl rfl rfl rfl rfl ?_
            refine X.mv rfl rfl rfl rfl rfl ?_
            refine X.ldA rfl rfl rfl rfl Tryd.ag26 Tryd.sz26 (fun H' hF => hF.1) rfl zoff ?_
            refine X.ldA rfl rfl rfl rfl Tryd.ag26 Tryd.sz26 (fun H' hF => hF.2.1) rfl zoff ?_
            refine X.call rfl rfl rfl rfl rfl Tryd.cl17 (code_ct [(cnt x.1, x.2)] v1 _ _ (hG.keep hkk).et hB1.bv) ?_
            rintro _ Hx ⟨rfl, hkx⟩
            replace hb2 := hkx.keep hb2 (by simp)
            replace hb5 := hkx.keep hb5 (by simp)
            replace hB1 := hB1.keep hkx
            replace hb6 := hkx.keep hb6 (by simp)
            replace hB := hB.keep hkx
            replace hkk := hkk.trans hkx (by simp)
            clear hkx
            refine ⟨⟨hb6, hb5, hb2⟩, ?_⟩
            refine X.call rfl rfl rfl rfl rfl Tryd.cl19 (has_ct (chain l ++ [(cnt x.1, x.2)]) v _ (cnt x.1) _ (hG.keep hkk).et hB.bv) ?_
            rintro _ Hx ⟨rfl, hkx⟩
            replace hb2 := hkx.keep hb2 (by simp)
            replace hb5 := hkx.keep hb5 (by simp)
            replace hB1 := hB1.keep hkx
            replace hb6 := hkx.keep hb6 (by simp)
            replace hB := hB.keep hkx
            replace hkk := hkk.trans hkx (by simp)
            clear hkx
            rw [has_app]
            refine ⟨⟨hb6, hb5, hb2⟩, ?_⟩
            refine X.notT rfl rfl rfl rfl rfl ?_
            refine X.pickF rfl rfl rfl rfl rfl rfl ?_
            refine X.done [(1, _), (5, _), (6, _), (85, _)] ⟨rfl, rfl, rfl, rfl, trivial⟩ ?_
            refine N.then ?_
            refine E.condF rfl ?_
            refine E.skip ?_
            refine N.then ?_
            refine E.seq ?_
            refine E.seq ?_
            refine E.region ?_
            refine X.mv rfl rfl rfl rfl rfl ?_
            refine X.lenS rfl rfl rfl rfl rfl Tryd.underlying41 ?_
            refine X.eqlF rfl rfl rfl rfl rfl rfl (by omega) ?_
            refine X.done [(1, _), (5, _), (6, _), (88, _)] ⟨rfl, rfl, rfl, rfl, trivial⟩ ?_
            refine N.then ?_
            refine E.condF rfl ?_
            refine E.skip ?_
            refine N.then ?_
            refine E.seq ?_
            have hy0 : y.1 ≠ 0 := by assumption
            have hby := hkk.keep hby0 (by simp)
            refine E.regionT (fun H' => H'[b]? = some (.cells csy.toArray cty fzy)) (.fork [(0, .pu), (1, .pu), (2, .pu), (3, .st), (4, .pu), (5, .pu), (6, .pu), (7, .st)] 8 .mv (.lin [(9, .mk), (10, .mv)]) 9 .mk (.lin [(8, .mv), (10, .mv)])) Tryd.mixed (by kernel_rfl) (hby) ?_
            refine X.tree [(1, _), (5, _), (6, _), (88, _)] ⟨rfl, rfl, rfl, rfl, trivial⟩ ?_
            refine X.mv rfl rfl rfl rfl rfl ?_
            refine X.ixAe rfl rfl rfl rfl rfl rfl Tryd.underlying41 Tryd.sz40 (haey) (by omega) ?_
            refine X.fld rfl rfl rfl rfl rfl Tryd.off40_0 ?_
            refine X.ld rfl rfl rfl rfl Tryd.ag22 (fun H' hF => hF) (hk0y) ?_
            refine X.mv rfl rfl rfl rfl rfl ?_
            refine X.ixAe rfl rfl rfl rfl rfl rfl Tryd.underlying41 Tryd.sz40 (haey) (by omega) ?_
            refine X.fld rfl rfl rfl rfl rfl Tryd.off40_1 ?_
            refine X.ld rfl rfl rfl rfl Tryd.ag3 (fun H' hF => hF) (hk1y) ?_
            refine X.fork [(1, _), (5, _), (6, _), (88, _), (97, _), (98, _), (99, _), (100, _), (101, _), (102, _), (103, _), (104, _)] ⟨rfl, rfl, rfl, rfl, rfl, rfl, rfl, rfl, rfl, rfl, rfl, rfl, trivial⟩ ?_ ?_
            · refine X.call rfl rfl rfl rfl rfl Tryd.cl7 (new_ct y.1 y.2 A _ (hG.keep hkk)) ?_
              rintro _ Hx ⟨v10, rfl, hB10, hkx⟩
              replace hb6 := hkx.keep hb6 (by simp)
              replace hB := hB.keep hkx
              replace hby := hkx.keep hby (by simp)
              first | (replace hb10 := hkx.keep hb10 (by simp)) | skip
              replace hkk := hkk.trans hkx (by simp)
              clear hkx
              rw [und_not (fun h => hy0 ((cnt_zero _).1 h)) []] at hB10
              refine X.lin [(1, _), (5, _), (6, _), (88, _), (97, _), (98, _), (99, _), (100, _), (101, _), (102, _), (103, _), (104, _), (105, _)] ⟨rfl, rfl, rfl, rfl, rfl, rfl, rfl, rfl, rfl, rfl, rfl, rfl, rfl, trivial⟩ ?_
              refine X.alloc (z := .agg ([.nilIface] : List Value).toArray) (cs := [.nilIface]) rfl rfl rfl rfl (by kernel_rfl) rfl ?_
              intro b10 Hx hnb10 hb10 hkx
              have hlhb6 := lt_of hb6
              have hneb6b10 : b6 ≠ b10 := by omega
              replace hb6 := hkx.keep hb6 (by simp)
              replace hB := hB.keep hkx
              have hlby := lt_of hby
              have hneby : b ≠ b10 := by omega
              replace hby := hkx.keep hby (by simp)
              first | (replace hB10 := hB10.keep hkx) | skip
              have hsb10 : H.size ≤ b10 := Nat.le_trans hkk.size hnb10
              replace hkk := hkk.trans hkx (by simp)
              clear hkx
              refine ⟨hby, ?_⟩
              refine X.stA rfl rfl rfl rfl rfl rfl (hB10.one) Tryd.sz26 hb10 (Nat.le_refl _) ?_
              intro Hx hxb hkx
              replace hB := hB.keepT hkx hb10 (by decide)
              replace hB10 := hB10.keepT hkx hb10 (by decide)
              replace hb6 := hkx.keep hb6 (by simp; exact hneb6b10)
              replace hby := hkx.keep hby (by simp; exact hneby)
              replace hb10 := hxb
              replace hkk := hkk.trans hkx (by simp; exact hsb10)
              refine X.done [(1, _), (6, _), (10, _)] ⟨rfl, rfl, rfl, trivial⟩ ?_
              refine N.then ?_
              refine E.seq ?_
              refine E.regionD (fun H' => H'[b6]? = some (.cells ([v] : List Value).toArray 26 (0, 0)) ∧ H'[b10]? = some (.cells ([v10] : List Value).toArray 26 (0, 0)) ∧ H'[b]? = some (.cells csy.toArray cty fzy)) [(0, .st), (2, .st), (1, .mk), (3, .mk), (4, .pu), (5, .pu), (6, .st), (8, .pu), (9, .pu), (10, .pu), (11, .st), (7, .mk), (12, .pu), (13, .pu), (14, .pu), (15, .mk), (16, .pu), (17, .pu)] Tryd.mixed (by kernel_rfl) (⟨hb6, hb10, hby⟩) ?_
              refine X.ldA rfl rfl rfl rfl Tryd.ag26 Tryd.sz26 (fun H' hF => hF.1) rfl zoff ?_
              refine X.ldA rfl rfl rfl rfl Tryd.ag26 Tryd.sz26 (fun H' hF => hF.2.1) rfl zoff ?_
              refine X.call rfl rfl rfl rfl rfl Tryd.cl17 (code_ct (chain l ++ [(cnt x.1, x.2)]) v _ _ (hG.keep hkk).et hB.bv) ?_
              rintro _ Hx ⟨rfl, hkx⟩
              replace hb6 := hkx.keep hb6 (by simp)
              replace hB := hB.keep hkx
              replace hb10 := hkx.keep hb10 (by simp)
              replace hB10 := hB10.keep hkx
              replace hby := hkx.keep hby (by simp)
              replace hkk := hkk.trans hkx (by simp)
              clear hkx
              rw [(code_app _ hy hy0).1]
              refine ⟨⟨hb6, hb10, hby⟩, ?_⟩
              refine X.call rfl rfl rfl rfl rfl Tryd.cl17 (code_ct [(cnt y.1, y.2)] v10 _ _ (hG.keep hkk).et hB10.bv) ?_
              rintro _ Hx ⟨rfl, hkx⟩
              replace hb6 := hkx.keep hb6 (by simp)
              replace hB := hB.keep hkx
              replace hb10 := hkx.keep hb10 (by simp)
              replace hB10 := hB10.keep hkx
              replace hby := hkx.keep hby (by simp)
              replace hkk := hkk.trans hkx (by simp)
              clear hkx
              refine ⟨⟨hb6, hb10, hby⟩, ?_⟩
              refine X.eqlT rfl rfl rfl rfl rfl rfl (rfl) ?_
              refine X.mv rfl rfl rfl rfl rfl ?_
              refine X.ldA rfl rfl rfl rfl Tryd.ag26 Tryd.sz26 (fun H' hF => hF.1) rfl zoff ?_
              refine X.mv rfl rfl rfl rfl rfl ?_
              refine X.ixAe rfl rfl rfl rfl rfl rfl Tryd.underlying41 Tryd.sz40 (haey) (by omega) ?_
              refine X.fld rfl rfl rfl rfl rfl Tryd.off40_1 ?_
              refine X.ld rfl rfl rfl rfl Tryd.ag3 (fun H' hF => hF.2.2) (hk1y) ?_
              refine X.call rfl rfl rfl rfl rfl Tryd.cl18 (at_ct (chain l ++ [(cnt x.1, x.2)]) v _ _ (hG.keep hkk).et hB.bv) ?_
              rintro _ Hx ⟨rfl, hkx⟩
              replace hb6 := hkx.keep hb6 (by simp)
              replace hB := hB.keep hkx
              replace hb10 := hkx.keep hb10 (by simp)
              replace hB10 := hB10.keep hkx
              replace hby := hkx.keep hby (by simp)
              replace hkk := hkk.trans hkx (by simp)
              clear hkx
              rw [(code_app _ hy hy0).2]
              refine ⟨⟨hb6, hb10, hby⟩, ?_⟩
              refine X.eqlT rfl rfl rfl rfl rfl rfl (rfl) ?_
              refine X.pickT rfl rfl rfl rfl rfl rfl ?_
              refine X.mv rfl rfl rfl rfl rfl ?_
              refine X.call rfl rfl rfl rfl rfl Tryd.cl14 (known_ct A _ (hG.keep hkk)) ?_
              rintro _ Hx ⟨rfl, hkx⟩
              replace hb6 := hkx.keep hb6 (by simp)
              replace hB := hB.keep hkx
              replace hb10 := hkx.keep hb10 (by simp)
              replace hB10 := hB10.keep hkx
              replace hby := hkx.keep hby (by simp)
              replace hkk := hkk.trans hkx (by simp)
              clear hkx
              refine ⟨⟨hb6, hb10, hby⟩, ?_⟩
              refine X.pickT rfl rfl rfl rfl rfl rfl ?_
              refine X.asg rfl rfl rfl rfl rfl ?_
              refine X.done [(4, _)] ⟨rfl, trivial⟩ ?_
              refine N.then ?_
              refine E.ret ?_
              exact N.retH [_] ⟨_, _, rfl, rfl, rfl⟩ ⟨rfl, hkk⟩
            · refine X.alloc (z := .agg ([.nilIface] : List Value).toArray) (cs := [.nilIface]) rfl rfl rfl rfl (by kernel_rfl) rfl ?_
              intro b10 Hx hnb10 hb10 hkx
              have hlhb6 := lt_of hb6
              have hneb6b10 : b6 ≠ b10 := by omega
              replace hb6 := hkx.keep hb6 (by simp)
              replace hB := hB.keep hkx
              have hlby := lt_of hby
              have hneby : b ≠ b10 := by omega
              replace hby := hkx.keep hby (by simp)
              first | (replace hB10 := hB10.keep hkx) | skip
              have hsb10 : H.size ≤ b10 := Nat.le_trans hkk.size hnb10
              replace hkk := hkk.trans hkx (by simp)
              clear hkx
              refine ⟨hby, ?_⟩
              refine X.lin [(1, _), (5, _), (6, _), (88, _), (97, _), (98, _), (99, _), (100, _), (101, _), (102, _), (103, _), (104, _), (10, _)] ⟨rfl, rfl, rfl, rfl, rfl, rfl, rfl, rfl, rfl, rfl, rfl, rfl, rfl, trivial⟩ ?_
              refine X.call rfl rfl rfl rfl rfl Tryd.cl7 (new_ct y.1 y.2 A _ (hG.keep hkk)) ?_
              rintro _ Hx ⟨v10, rfl, hB10, hkx⟩
              replace hb6 := hkx.keep hb6 (by simp)
              replace hB := hB.keep hkx
              replace hby := hkx.keep hby (by simp)
              first | (replace hb10 := hkx.keep hb10 (by simp)) | skip
              replace hkk := hkk.trans hkx (by simp)
              clear hkx
              rw [und_not (fun h => hy0 ((cnt_zero _).1 h)) []] at hB10
              refine X.stA rfl rfl rfl rfl rfl rfl (hB10.one) Tryd.sz26 hb10 (Nat.le_refl _) ?_
              intro Hx hxb hkx
              replace hB := hB.keepT hkx hb10 (by decide)
              replace hB10 := hB10.keepT hkx hb10 (by decide)
              replace hb6 := hkx.keep hb6 (by simp; exact hneb6b10)
              replace hby := hkx.keep hby (by simp; exact hneby)
              replace hb10 := hxb
              replace hkk := hkk.trans hkx (by simp; exact hsb10)
              refine X.done [(1, _), (6, _), (10, _)] ⟨rfl, rfl, rfl, trivial⟩ ?_
              refine N.then ?_
              refine E.seq ?_
              refine E.regionD (fun H' => H'[b6]? = some (.cells ([v] : List Value).toArray 26 (0, 0)) ∧ H'[b10]? = some (.cells ([v10] : List Value).toArray 26 (0, 0)) ∧ H'[b]? = some (.cells csy.toArray cty fzy)) [(0, .st), (2, .st), (1, .mk), (3, .mk), (4, .pu), (5, .pu), (6, .st), (8, .pu), (9, .pu), (10, .pu), (11, .st), (7, .mk), (12, .pu), (13, .pu), (14, .pu), (15, .mk), (16, .pu), (17, .pu)] Tryd.mixed (by kernel_rfl) (⟨hb6, hb10, hby⟩) ?_
              refine X.ldA rfl rfl rfl rfl Tryd.ag26 Tryd.sz26 (fun H' hF => hF.1) rfl zoff ?_
              refine X.ldA rfl rfl rfl rfl Tryd.ag26 Tryd.sz26 (fun H' hF => hF.2.1) rfl zoff ?_
              refine X.call rfl rfl rfl rfl rfl Tryd.cl17 (code_ct (chain l ++ [(cnt x.1, x.2)]) v _ _ (hG.keep hkk).et hB.bv) ?_
              rintro _ Hx ⟨rfl, hkx⟩
              replace hb6 := hkx.keep hb6 (by simp)
              replace hB := hB.keep hkx
              replace hb10 := hkx.keep hb10 (by simp)
              replace hB10 := hB10.keep hkx
              replace hby := hkx.keep hby (by simp)
              replace hkk := hkk.trans hkx (by simp)
              clear hkx
              rw [(code_app _ hy hy0).1]
              refine ⟨⟨hb6, hb10, hby⟩, ?_⟩
              refine X.call rfl rfl rfl rfl rfl Tryd.cl17 (code_ct [(cnt y.1, y.2)] v10 _ _ (hG.keep hkk).et hB10.bv) ?_
              rintro _ Hx ⟨rfl, hkx⟩
              replace hb6 := hkx.keep hb6 (by simp)
              replace hB := hB.keep hkx
              replace hb10 := hkx.keep hb10 (by simp)
              replace hB10 := hB10.keep hkx
              replace hby := hkx.keep hby (by simp)
              replace hkk := hkk.trans hkx (by simp)
              clear hkx
              refine ⟨⟨hb6, hb10, hby⟩, ?_⟩
              refine X.eqlT rfl rfl rfl rfl rfl rfl (rfl) ?_
              refine X.mv rfl rfl rfl rfl rfl ?_
              refine X.ldA rfl rfl rfl rfl Tryd.ag26 Tryd.sz26 (fun H' hF => hF.1) rfl zoff ?_
              refine X.mv rfl rfl rfl rfl rfl ?_
              refine X.ixAe rfl rfl rfl rfl rfl rfl Tryd.underlying41 Tryd.sz40 (haey) (by omega) ?_
              refine X.fld rfl rfl rfl rfl rfl Tryd.off40_1 ?_
              refine X.ld rfl rfl rfl rfl Tryd.ag3 (fun H' hF => hF.2.2) (hk1y) ?_
              refine X.call rfl rfl rfl rfl rfl Tryd.cl18 (at_ct (chain l ++ [(cnt x.1, x.2)]) v _ _ (hG.keep hkk).et hB.bv) ?_
              rintro _ Hx ⟨rfl, hkx⟩
              replace hb6 := hkx.keep hb6 (by simp)
              replace hB := hB.keep hkx
              replace hb10 := hkx.keep hb10 (by simp)
              replace hB10 := hB10.keep hkx
              replace hby := hkx.keep hby (by simp)
              replace hkk := hkk.trans hkx (by simp)
              clear hkx
              rw [(code_app _ hy hy0).2]
              refine ⟨⟨hb6, hb10, hby⟩, ?_⟩
              refine X.eqlT rfl rfl rfl rfl rfl rfl (rfl) ?_
              refine X.pickT rfl rfl rfl rfl rfl rfl ?_
              refine X.mv rfl rfl rfl rfl rfl ?_
              refine X.call rfl rfl rfl rfl rfl Tryd.cl14 (known_ct A _ (hG.keep hkk)) ?_
              rintro _ Hx ⟨rfl, hkx⟩
              replace hb6 := hkx.keep hb6 (by simp)
              replace hB := hB.keep hkx
              replace hb10 := hkx.keep hb10 (by simp)
              replace hB10 := hB10.keep hkx
              replace hby := hkx.keep hby (by simp)
              replace hkk := hkk.trans hkx (by simp)
              clear hkx
              refine ⟨⟨hb6, hb10, hby⟩, ?_⟩
              refine X.pickT rfl rfl rfl rfl rfl rfl ?_
              refine X.asg rfl rfl rfl rfl rfl ?_
              refine X.done [(4, _)] ⟨rfl, trivial⟩ ?_
              refine N.then ?_
              refine E.ret ?_
              exact N.retH [_] ⟨_, _, rfl, rfl, rfl⟩ ⟨rfl, hkk⟩
      · refine X.mv rfl rfl rfl rfl rfl ?_
        refine X.skip rfl rfl rfl ?_
        refine X.skip rfl rfl rfl ?_
        refine X.skip rfl rfl rfl ?_
        refine X.skip rfl rfl rfl ?_
        refine X.skip rfl rfl rfl ?_
        refine X.pickF rfl rfl rfl rfl rfl rfl ?_
        refine X.pickF rfl rfl rfl rfl rfl rfl ?_
        refine X.done [(1, _), (2, _), (4, _), (30, _)] ⟨rfl, rfl, rfl, rfl, trivial⟩ ?_
        refine N.then ?_
        refine E.condF rfl ?_
        refine E.skip ?_
        refine N.then ?_
        refine E.seq ?_
        have hx0 : x.1 ≠ 0 := by assumption
        have hu : und x.1 x.2 [] = [(cnt x.1, x.2)] := und_not (fun h => hx0 ((cnt_zero _).1 h)) []
        have h40 : l.length ≤ 40 := by omega
        refine E.region ?_
        refine X.fld rfl rfl rfl rfl rfl Tryd.off40_0 ?_
        refine X.ld rfl rfl rfl rfl Tryd.ag22 (hb2) (rfl) ?_
        refine X.fld rfl rfl rfl rfl rfl Tryd.off40_1 ?_
        refine X.ld rfl rfl rfl rfl Tryd.ag3 (hb2) (rfl) ?_
        refine X.call rfl rfl rfl rfl rfl Tryd.cl7 (new_ct x.1 x.2 A _ (hG.keep hkk)) ?_
        rintro _ Hx ⟨v1, rfl, hB1, hkx⟩
        replace hb2 := hkx.keep hb2 (by simp)
        replace hkk := hkk.trans hkx (by simp)
        clear hkx
        rw [hu] at hB1
        refine X.alloc (z := .agg ([.nilIface] : List Value).toArray) (cs := [.nilIface]) rfl rfl rfl rfl (by kernel_rfl) rfl ?_
        intro b5 Hx hnb5 hb5 hkx
        have hlhb2 := lt_of hb2
        have hneb2b5 : b2 ≠ b5 := by omega
        replace hb2 := hkx.keep hb2 (by simp)
        replace hB1 := hB1.keep hkx
        have hsb5 : H.size ≤ b5 := Nat.le_trans hkk.size hnb5
        replace hkk := hkk.trans hkx (by simp)
        clear hkx
        refine X.stA rfl rfl rfl rfl rfl rfl (hB1.one) Tryd.sz26 hb5 (Nat.le_refl _) ?_
        intro Hx hxb hkx
        replace hb2 := hkx.keep hb2 (by simp; exact hneb2b5)
        replace hB1 := hB1.keepT hkx hb5 (by decide)
        replace hb5 := hxb
        replace hkk := hkk.trans hkx (by simp; exact hsb5)
        clear hkx hxb
        refine X.done [(1, _), (2, _), (4, _), (5, _)] ⟨rfl, rfl, rfl, rfl, trivial⟩ ?_
        refine N.then ?_
        refine E.seq ?_
        refine E.region ?_
        refine X.ldA rfl rfl rfl rfl Tryd.ag26 Tryd.sz26 (hb5) rfl zoff ?_
        refine X.alloc (z := .agg ([.nilIface] : List Value).toArray) (cs := [.nilIface]) rfl rfl rfl rfl (by kernel_rfl) rfl ?_
        intro b6 Hx hnb6 hb6 hkx
        have hlhb2 := lt_of hb2
        have hneb2b6 : b2 ≠ b6 := by omega
        replace hb2 := hkx.keep hb2 (by simp)
        have hlhb5 := lt_of hb5
        have hneb5b6 : b5 ≠ b6 := by omega
        replace hb5 := hkx.keep hb5 (by simp)
        replace hB1 := hB1.keep hkx
        have hsb6 : H.size ≤ b6 := Nat.le_trans hkk.size hnb6
        replace hkk := hkk.trans hkx (by simp)
        clear hkx
        refine X.stA rfl rfl rfl rfl rfl rfl (hB1.one) Tryd.sz26 hb6 (Nat.le_refl _) ?_
        intro Hx hxb hkx
        replace hb2 := hkx.keep hb2 (by simp; exact hneb2b6)
        replace hb5 := hkx.keep hb5 (by simp; exact hneb5b6)
        replace hB1 := hB1.keepT hkx hb6 (by decide)
        replace hb6 := hxb
        replace hkk := hkk.trans hkx (by simp; exact hsb6)
        clear hkx hxb
        refine X.done [(1, _), (2, _), (4, _), (5, _), (6, _)] ⟨rfl, rfl, rfl, rfl, rfl, trivial⟩ ?_
        refine N.then ?_
        refine E.seq ?_
        refine E.seq ?_
        refine E.region ?_
        refine X.mv rfl rfl rfl rfl rfl ?_
        refine X.lenS rfl rfl rfl rfl rfl Tryd.underlying41 ?_
        refine X.sbE (zz := ((l.length : Nat) : Int) - 1) rfl rfl rfl rfl rfl rfl (IntWalk.i64_in _ (by omega)) ?_
        refine X.asg rfl rfl rfl rfl rfl ?_
        refine X.done [(1, _), (2, _), (4, _), (5, _), (6, _), (7, _)] ⟨rfl, rfl, rfl, rfl, rfl, rfl, trivial⟩ ?_
        refine N.then ?_
        refine E.block ?_
        -- MISSING in G: [4]
        refine E.loop (fun (q : Nat × Value) => [(1, .slice a l.length cc), (2, ptr b2), (5, ptr b5), (6, ptr b6), (7, i64 ((q.1 : Int) - 1))]) (fun (q : Nat × Value) H' => q.1 ≤ l.length ∧ H'[b2]? = some (.cells (opl x).toArray 40 (0, 0)) ∧ H'[b5]? = some (.cells ([v1] : List Value).toArray 26 (0, 0)) ∧ H'[b6]? = some (.cells ([q.2] : List Value).toArray 26 (0, 0)) ∧ Bl H' A [(cnt x.1, x.2)] v1 ∧ Bl H' A (chain (l.drop q.1) ++ [(cnt x.1, x.2)]) q.2 ∧ Kp [] H H') (fun (q : Nat × Value) => q.1) (l.length, v1) ⟨rfl, rfl, rfl, rfl, rfl, trivial⟩ ⟨Nat.le_refl _, hb2, hb5, hb6, hB1, by rw [List.drop_length]; exact hB1, hkk⟩ ?_
        clear hkk hb2 hb5 hb6 hB1
        rintro ⟨j, v⟩ H3 hJ
        dsimp only at hJ ⊢
        obtain ⟨hj, hb2, hb5, hb6, hB1, hB, hkk⟩ := hJ
        refine E.seq ?_
        refine E.seq ?_
        refine E.region ?_
        refine X.mv rfl rfl rfl rfl rfl ?_
        refine X.geq rfl rfl rfl rfl rfl rfl ?_
        refine X.done [(1, _), (2, _), (5, _), (6, _), (7, _), (41, _), (42, _)] ⟨rfl, rfl, rfl, rfl, rfl, rfl, rfl, trivial⟩ ?_
        refine N.then ?_
        refine E.condD rfl (fun hc => ?_) (fun hc => ?_)
        · refine E.skip ?_
          refine N.then ?_
          refine E.seq ?_
          refine E.block ?_
          have hj1 : 1 ≤ j := by omega
          obtain ⟨yj, hyj⟩ : ∃ yj, l[j - 1]? = some yj := ⟨_, List.getElem?_eq_getElem (by omega)⟩
          obtain ⟨hae, cs, ct, fz, hbb0, hk0, hk1, _⟩ := hrows _ yj hyj
          have hbb := hkk.keep hbb0 (by simp)
          have hjc : (j : Int) - 1 = ((j - 1 : Nat) : Int) := by omega
          rw [hjc]
          refine E.regionD (fun H' => H'[b]? = some (.cells cs.toArray ct fz) ∧ H'[b6]? = some (.cells ([v] : List Value).toArray 26 (0, 0))) [(0, .pu), (1, .pu), (2, .pu), (3, .pu), (4, .st), (5, .pu), (6, .pu), (7, .pu), (8, .pu), (9, .st), (10, .st), (11, .mv), (12, .mv)] Tryd.mixed (by kernel_rfl) (⟨hbb, hb6⟩) ?_
          refine X.mv rfl rfl rfl rfl rfl ?_
          refine X.mv rfl rfl rfl rfl rfl ?_
          refine X.ixAe rfl rfl rfl rfl rfl rfl Tryd.underlying41 Tryd.sz40 (hae) (by omega) ?_
          refine X.fld rfl rfl rfl rfl rfl Tryd.off40_0 ?_
          refine X.ld rfl rfl rfl rfl Tryd.ag22 (fun H' hF => hF.1) (hk0) ?_
          refine X.mv rfl rfl rfl rfl rfl ?_
          refine X.mv rfl rfl rfl rfl rfl ?_
          refine X.ixAe rfl rfl rfl rfl rfl rfl Tryd.underlying41 Tryd.sz40 (hae) (by omega) ?_
          refine X.fld rfl rfl rfl rfl rfl Tryd.off40_1 ?_
          refine X.ld rfl rfl rfl rfl Tryd.ag3 (fun H' hF => hF.1) (hk1) ?_
          refine X.ldA rfl rfl rfl rfl Tryd.ag26 Tryd.sz26 (fun H' hF => hF.2) rfl zoff ?_
          refine X.call rfl rfl rfl rfl rfl Tryd.cl25 (under_ct yj.1 yj.2 A _ v _ (hG.keep hkk) hB) ?_
          rintro _ Hx ⟨v4, rfl, hB4, hkx⟩
          replace hb2 := hkx.keep hb2 (by simp)
          replace hb5 := hkx.keep hb5 (by simp)
          replace hB1 := hB1.keep hkx
          replace hb6 := hkx.keep hb6 (by simp)
          replace hkk := hkk.trans hkx (by simp)
          clear hkx
          refine X.stA rfl rfl rfl rfl rfl rfl (hB4.one) Tryd.sz26 hb6 (Nat.le_refl _) ?_
          intro Hx hxb hkx
          have hB9 := hB4.keepT hkx hb6 (by decide)
          replace hB1 := hB1.keepT hkx hb6 (by decide)
          replace hb2 := hkx.keep hb2 (by simp; exact hneb2b6)
          replace hb5 := hkx.keep hb5 (by simp; exact hneb5b6)
          replace hb6 := hxb
          replace hkk := hkk.trans hkx (by simp; exact hsb6)
          refine X.done [(1, _), (2, _), (5, _), (6, _), (7, _), (41, _), (42, _), (45, _), (46, _), (47, _), (48, _), (49, _), (50, _), (51, _), (52, _), (53, _), (54, _), (55, _), (56, _)] ⟨rfl, rfl, rfl, rfl, rfl, rfl, rfl, rfl, rfl, rfl, rfl, rfl, rfl, rfl, rfl, rfl, rfl, rfl, rfl, trivial⟩ ?_
          refine N.blk ?_
          refine N.then ?_
          refine E.region ?_
          refine X.mv rfl rfl rfl rfl rfl ?_
          refine X.sbE (zz := ((j - 1 : Nat) : Int) - 1) rfl rfl rfl rfl rfl rfl (by first | (rw [IntWalk.i64_in _ (by omega)]; omega) | (rw [IntWalk.i64_in _ (by omega)])) ?_
          refine X.asg rfl rfl rfl rfl rfl ?_
          refine X.done [(1, _), (2, _), (5, _), (6, _), (7, _), (41, _), (42, _), (45, _), (46, _), (47, _), (48, _), (49, _), (50, _), (51, _), (52, _), (53, _), (54, _), (55, _), (56, _), (43, _), (44, _)] ⟨rfl, rfl, rfl, rfl, rfl, rfl, rfl, rfl, rfl, rfl, rfl, rfl, rfl, rfl, rfl, rfl, rfl, rfl, rfl, rfl, rfl, trivial⟩ ?_
          exact N.next (G := fun (q : Nat × Value) => _) (j - 1, v4) ⟨rfl, rfl, rfl, rfl, rfl, trivial⟩ ⟨by show j - 1 ≤ l.length; omega, hb2, hb5, hb6, hB1, by rw [drop_pred hj1 hyj, ← und_chain2]; exact hB9, hkk⟩ (by show j - 1 < j; omega)
        · refine E.exit ?_
          refine N.thenX ?_
          refine N.loopX ?_
          refine N.blkX ?_
          refine N.then ?_
          refine E.seq ?_
          have hj0 : j = 0 := by omega
          subst hj0
          rw [List.drop_zero] at hB
          refine E.region ?_
          refine X.ldA rfl rfl rfl rfl Tryd.ag26 Tryd.sz26 (hb6) rfl zoff ?_
          refine X.call rfl rfl rfl rfl rfl Tryd.cl15 (root_ct (chain l ++ [(cnt x.1, x.2)]) v _ _ (hG.keep hkk).et hB.bv) ?_
          rintro _ Hx ⟨rfl, hkx⟩
          replace hb2 := hkx.keep hb2 (by simp)
          replace hb5 := hkx.keep hb5 (by simp)
          replace hB1 := hB1.keep hkx
          replace hb6 := hkx.keep hb6 (by simp)
          replace hB := hB.keep hkx
          replace hkk := hkk.trans hkx (by simp)
          clear hkx
          rw [lastL_app]
          refine X.mv rfl rfl rfl rfl rfl ?_
          refine X.extract rfl rfl rfl rfl rfl rfl ?_
          refine X.extract rfl rfl rfl rfl rfl rfl ?_
          refine X.asg rfl rfl rfl rfl rfl ?_
          refine X.asg rfl rfl rfl rfl rfl ?_
          refine X.done [(1, _), (2, _), (5, _), (6, _), (8, _), (9, _)] ⟨rfl, rfl, rfl, rfl, rfl, rfl, trivial⟩ ?_
          refine N.then ?_
          refine E.seq ?_
          refine E.seq ?_
          refine E.regionD (fun H' => H'[b6]? = some (.cells ([v] : List Value).toArray 26 (0, 0)) ∧ H'[b5]? = some (.cells ([v1] : List Value).toArray 26 (0, 0)) ∧ H'[b2]? = some (.cells (opl x).toArray 40 (0, 0))) [(0, .st), (2, .st), (1, .mk), (3, .mk), (4, .pu), (5, .pu), (6, .pu), (7, .st), (8, .mk), (9, .pu), (10, .pu), (11, .pu), (12, .pu), (13, .pu), (14, .st), (15, .pu), (16, .pu), (17, .pu), (18, .st), (19, .st), (20, .mk), (21, .mk), (22, .pu), (23, .pu)] Tryd.mixed (by kernel_rfl) (⟨hb6, hb5, hb2⟩) ?_
          refine X.ldA rfl rfl rfl rfl Tryd.ag26 Tryd.sz26 (fun H' hF => hF.1) rfl zoff ?_
          refine X.ldA rfl rfl rfl rfl Tryd.ag26 Tryd.sz26 (fun H' hF => hF.2.1) rfl zoff ?_
          refine X.call rfl rfl rfl rfl rfl Tryd.cl20 (famtell_ct (chain l ++ [(cnt x.1, x.2)]) v A _ (hG.keep hkk) hB) ?_
          rintro _ Hx ⟨rfl, hkx⟩
          replace hb2 := hkx.keep hb2 (by simp)
          replace hb5 := hkx.keep hb5 (by simp)
          replace hB1 := hB1.keep hkx
          replace hb6 := hkx.keep hb6 (by simp)
          replace hB := hB.keep hkx
          replace hkk := hkk.trans hkx (by simp)
          clear hkx
          rw [famN_app]
          refine ⟨⟨hb6, hb5, hb2⟩, ?_⟩
          refine X.call rfl rfl rfl rfl rfl Tryd.cl20 (famtell_ct [(cnt x.1, x.2)] v1 A _ (hG.keep hkk) hB1) ?_
          rintro _ Hx ⟨rfl, hkx⟩
          replace hb2 := hkx.keep hb2 (by simp)
          replace hb5 := hkx.keep hb5 (by simp)
          replace hB1 := hB1.keep hkx
          replace hb6 := hkx.keep hb6 (by simp)
          replace hB := hB.keep hkx
          replace hkk := hkk.trans hkx (by simp)
          clear hkx
          rw [fam_one]
          refine ⟨⟨hb6, hb5, hb2⟩, ?_⟩
          refine X.neqF rfl rfl rfl rfl rfl rfl (fun h => h rfl) ?_
          refine X.mv rfl rfl rfl rfl rfl ?_
          refine X.mv rfl rfl rfl rfl rfl ?_
          refine X.ldA rfl rfl rfl rfl Tryd.ag26 Tryd.sz26 (fun H' hF => hF.2.1) rfl zoff ?_
          refine X.call rfl rfl rfl rfl rfl Tryd.cl17 (code_ct [(cnt x.1, x.2)] v1 _ _ (hG.keep hkk).et hB1.bv) ?_
          rintro _ Hx ⟨rfl, hkx⟩
          replace hb2 := hkx.keep hb2 (by simp)
          replace hb5 := hkx.keep hb5 (by simp)
          replace hB1 := hB1.keep hkx
          replace hb6 := hkx.keep hb6 (by simp)
          replace hB := hB.keep hkx
          replace hkk := hkk.trans hkx (by simp)
          clear hkx
          refine ⟨⟨hb6, hb5, hb2⟩, ?_⟩
          refine X.neqF rfl rfl rfl rfl rfl rfl (fun h => h rfl) ?_
          refine X.pickF rfl rfl rfl rfl rfl rfl ?_
          refine X.mv rfl rfl rfl rfl rfl ?_
          refine X.mv rfl rfl rfl rfl rfl ?_
          refine X.fld rfl rfl rfl rfl rfl Tryd.off40_1 ?_
          refine X.ld rfl rfl rfl rfl Tryd.ag3 (fun H' hF => hF.2.2) (rfl) ?_
          refine X.neqF rfl rfl rfl rfl rfl rfl (fun h => h rfl) ?_
          refine X.pickF rfl rfl rfl rfl rfl rfl ?_
          refine X.mv rfl rfl rfl rfl rfl ?_
          refine X.ldA rfl rfl rfl rfl Tryd.ag26 Tryd.sz26 (fun H' hF => hF.1) rfl zoff ?_
          refine X.ldA rfl rfl rfl rfl Tryd.ag26 Tryd.sz26 (fun H' hF => hF.2.1) rfl zoff ?_
          refine X.call rfl rfl rfl rfl rfl Tryd.cl17 (code_ct [(cnt x.1, x.2)] v1 _ _ (hG.keep hkk).et hB1.bv) ?_
          rintro _ Hx ⟨rfl, hkx⟩
          replace hb2 := hkx.keep hb2 (by simp)
          replace hb5 := hkx.keep hb5 (by simp)
          replace hB1 := hB1.keep hkx
          replace hb6 := hkx.keep hb6 (by simp)
          replace hB := hB.keep hkx
          replace hkk := hkk.trans hkx (by simp)
          clear hkx
          refine ⟨⟨hb6, hb5, hb2⟩, ?_⟩
          refine X.call rfl rfl rfl rfl rfl Tryd.cl19 (has_ct (chain l ++ [(cnt x.1, x.2)]) v _ (cnt x.1) _ (hG.keep hkk).et hB.bv) ?_
          rintro _ Hx ⟨rfl, hkx⟩
          replace hb2 := hkx.keep hb2 (by simp)
          replace hb5 := hkx.keep hb5 (by simp)
          replace hB1 := hB1.keep hkx
          replace hb6 := hkx.keep hb6 (by simp)
          replace hB := hB.keep hkx
          replace hkk := hkk.trans hkx (by simp)
          clear hkx
          rw [has_app]
          refine ⟨⟨hb6, hb5, hb2⟩, ?_⟩
          refine X.notT rfl rfl rfl rfl rfl ?_
          refine X.pickF rfl rfl rfl rfl rfl rfl ?_
          refine X.done [(1, _), (5, _), (6, _), (85, _)] ⟨rfl, rfl, rfl, rfl, trivial⟩ ?_
          refine N.then ?_
          refine E.condF rfl ?_
          refine E.skip ?_
          refine N.then ?_
          refine E.seq ?_
          refine E.seq ?_
          refine E.region ?_
          refine X.mv rfl rfl rfl rfl rfl ?_
          refine X.lenS rfl rfl rfl rfl rfl Tryd.underlying41 ?_
          refine X.eqlT rfl rfl rfl rfl rfl rfl (by omega) ?_
          refine X.done [(1, _), (5, _), (6, _), (88, _)] ⟨rfl, rfl, rfl, rfl, trivial⟩ ?_
          refine N.then ?_
          refine E.condT rfl ?_
          refine E.seq ?_
          have hl0 : l = [] := List.eq_nil_of_length_eq_zero (by omega)
          refine E.regionD (fun H' => H'[b6]? = some (.cells ([v] : List Value).toArray 26 (0, 0)) ∧ H'[b5]? = some (.cells ([v1] : List Value).toArray 26 (0, 0))) [(0, .st), (2, .st), (1, .mk), (3, .mk), (4, .pu), (5, .pu), (6, .mk), (7, .pu), (8, .pu)] Tryd.mixed (by kernel_rfl) (⟨hb6, hb5⟩) ?_
          refine X.ldA rfl rfl rfl rfl Tryd.ag26 Tryd.sz26 (fun H' hF => hF.1) rfl zoff ?_
          refine X.ldA rfl rfl rfl rfl Tryd.ag26 Tryd.sz26 (fun H' hF => hF.2) rfl zoff ?_
          refine X.call rfl rfl rfl rfl rfl Tryd.cl13 (say_ct (chain l ++ [(cnt x.1, x.2)]) v _ _ (hG.keep hkk).et hB.bv (app_len h40) (app_ok hok hx)) ?_
          rintro _ Hx ⟨rfl, hkx⟩
          replace hb2 := hkx.keep hb2 (by simp)
          replace hb5 := hkx.keep hb5 (by simp)
          replace hB1 := hB1.keep hkx
          replace hb6 := hkx.keep hb6 (by simp)
          replace hB := hB.keep hkx
          replace hkk := hkk.trans hkx (by simp)
          clear hkx
          refine ⟨⟨hb6, hb5⟩, ?_⟩
          refine X.call rfl rfl rfl rfl rfl Tryd.cl13 (say_ct [(cnt x.1, x.2)] v1 _ _ (hG.keep hkk).et hB1.bv (show 1 ≤ 100 by decide) (ok_one hx)) ?_
          rintro _ Hx ⟨rfl, hkx⟩
          replace hb2 := hkx.keep hb2 (by simp)
          replace hb5 := hkx.keep hb5 (by simp)
          replace hB1 := hB1.keep hkx
          replace hb6 := hkx.keep hb6 (by simp)
          replace hB := hB.keep hkx
          replace hkk := hkk.trans hkx (by simp)
          clear hkx
          refine ⟨⟨hb6, hb5⟩, ?_⟩
          refine X.eqlST rfl rfl rfl rfl rfl rfl (by rw [hl0]; rfl) ?_
          refine X.mv rfl rfl rfl rfl rfl ?_
          refine X.call rfl rfl rfl rfl rfl Tryd.cl14 (known_ct A _ (hG.keep hkk)) ?_
          rintro _ Hx ⟨rfl, hkx⟩
          replace hb6 := hkx.keep hb6 (by simp)
          replace hb5 := hkx.keep hb5 (by simp)
          replace hB := hB.keep hkx
          replace hkk := hkk.trans hkx (by simp)
          clear hkx
          refine ⟨⟨hb6, hb5⟩, ?_⟩
          refine X.pickT rfl rfl rfl rfl rfl rfl ?_
          refine X.asg rfl rfl rfl rfl rfl ?_
          refine X.done [(1, _), (6, _), (4, _)] ⟨rfl, rfl, rfl, trivial⟩ ?_
          refine N.then ?_
          refine E.ret ?_
          refine N.thenR ?_
          exact N.retH [_] ⟨_, _, rfl, rfl, rfl⟩ ⟨rfl, hkk⟩

theorem chains_ct (l : List LK) (a : Option Addr) (cc : Nat) (w : Int) (H : Heap) (hS : Rd H 2 (.slice a l.length cc) l.length (l.flatMap opl)) (hok : ∀ z ∈ l, ok64 z.2) (A : Nat → Addr) (hG : Gl H A) : Ct Tryd.prog 4 #[.slice a l.length cc, i64 w] H fun v H' => v = .bool true ∧ Kp [] H H' := by
  by_cases h : l.length ≤ 40
  · exact chains_ok l a cc w H hS hok A hG h
  · exact chains_long l a cc w H hS hok A hG (by omega)

end Go.Proofs.YtaofjmaekpjkhaaDoor