/- The walks: all others, either, both; how many, which. -/
import Derived.Test.YtcandjdomeompaaDoorZQ
namespace Go.Proofs.YtcandjdomeompaaDoor
open Go.SX Go.Chr
attribute [local irreducible] X E N Ct
set_option linter.unusedVariables false
set_option linter.unusedSimpArgs false

theorem fl_yes {p : Nat → Bool} {n : Nat} (h : p n = true) : ofL (flt p (n + 1)) = setb (ofL (flt p n)) n := by
  rw [flt_succ, if_pos h, ofL_snoc]
theorem fl_no {p : Nat → Bool} {n : Nat} (h : p n = false) : ofL (flt p (n + 1)) = ofL (flt p n) := by
  rw [flt_succ, h]; rfl
theorem T38 : AppT Tryd.prog 65 65 5 1 1 (.int .u8 0) := ⟨Tryd.underlying65, Tryd.zi5_65, rfl, by decide⟩
theorem bts_yes {p : Nat → Bool} {n : Nat} (h : p n = true) (hn : n < 256) : bv (bts (flt p n)) ++ [.int .u8 (n : Int)] = bv (bts (flt p (n + 1))) := by
  rw [flt_succ, if_pos h, bts, bts, List.map_append, ← bv1 hn]; exact (List.map_append ..).symm
theorem bts_no {p : Nat → Bool} {n : Nat} (h : p n = false) : flt p (n + 1) = flt p n := by rw [flt_succ, h]; rfl
theorem flt_one {p : Nat → Bool} {n : Nat} (h : p n = true) : (flt p (n + 1)).length = (flt p n).length + 1 := by rw [flt_succ, if_pos h]; simp
theorem bts_len (l : List Nat) : (bts l).length = l.length := List.length_map _
theorem nb_bts {l : List Nat} (h : ∀ c ∈ l, c < 256) : nb (bts l) = l := by
  rw [nb, bts, List.map_map]
  conv => rhs; rw [← List.map_id l]
  exact List.map_congr_left (fun c hc => u8_nat (h c hc))
theorem els_z4 : els z4 = [] := by
  have : els z4 = flt (fun _ => false) 256 := flt_congr (fun c hc => bt_z4 c hc)
  rw [this]; simp [flt]
theorem z4_len : z4.length = 4 := rfl
theorem els_len (ws : List Nat) : (els ws).length ≤ 256 := flt_len _ _

theorem not_ct (ws : List Nat) (H : Heap) (hw : Ws ws) : Ct Tryd.prog 40 #[agg4 ws] H fun v H' => v = agg4 (notW ws) ∧ Kp [] H H' := by
  refine Ct.into 6 Tryd.func40 rfl [(0, agg4 ws)] rfl ⟨rfl, trivial⟩ ?_
  refine E.seq ?_
  refine E.region ?_
  refine X.box rfl rfl rfl rfl rfl rfl ?_
  intro ba H1 hn1 hba hk1
  refine X.alloc (z := .agg ([.int .u64 0, .int .u64 0, .int .u64 0, .int .u64 0] : List Value).toArray) (cs := [.int .u64 0, .int .u64 0, .int .u64 0, .int .u64 0]) rfl rfl rfl rfl (by kernel_rfl) rfl ?_
  intro bc H2 hn2 hbc hk2
  have hlt := lt_of hba
  replace hba := hk2.keep hba (by simp)
  have hkk := hk1.trans hk2 (by simp)
  have hnc : H.size ≤ bc := Nat.le_trans hk1.size hn2
  refine X.done [(1, _), (2, _)] ⟨rfl, rfl, trivial⟩ ?_
  refine N.then ?_
  refine E.seq ?_
  refine E.region ?_
  refine X.ldA rfl rfl rfl rfl Tryd.ag36 Tryd.sz36 (hba) (uv4 hw) zoff ?_
  refine X.ldA rfl rfl rfl rfl Tryd.ag36 Tryd.sz36 (hba) (uv4 hw) zoff ?_
  refine X.call rfl rfl rfl rfl rfl Tryd.cl52 (each_not1 ws ws H2 hw hw) ?_
  rintro _ H3 ⟨rfl, hk3⟩
  rw [show mid (fun x y => 2 ^ 64 - 1 - x) ws ws 4 = notW ws from mid_four _ _ _]
  refine X.stA rfl rfl rfl rfl rfl rfl (uv_one _) Tryd.sz36 (hk3.keep hbc (by simp)) (by rw [uv4 hw.not]; decide) ?_
  intro H6 hb6 hk6
  rw [splice_all (by rw [uv4 hw.not]; rfl)] at hb6
  refine X.done [(2, _)] ⟨rfl, trivial⟩ ?_
  refine N.then ?_
  refine E.ret ?_
  exact N.retH [_] ⟨_, _, _, 0, rfl, rfl, loadsA Tryd.ag36 Tryd.sz36 hb6 (by first | rfl | exact uv4 hw) zoff, rfl⟩ ⟨rfl, (hkk.trans hk3 (by simp)).trans hk6 (by simp; exact hnc)⟩

theorem or_ct (ws vs : List Nat) (H : Heap) (hw : Ws ws) (hv : Ws vs) : Ct Tryd.prog 68 #[agg4 ws, agg4 vs] H fun v H' => v = agg4 (orW ws vs) ∧ Kp [] H H' := by
  refine Ct.into 8 Tryd.func68 rfl [(0, agg4 ws), (1, agg4 vs)] rfl ⟨rfl, rfl, trivial⟩ ?_
  refine E.seq ?_
  refine E.region ?_
  refine X.box rfl rfl rfl rfl rfl rfl ?_
  intro ba H1 hn1 hba hk1
  refine X.box rfl rfl rfl rfl rfl rfl ?_
  intro bb H2 hn2 hbb hk2
  replace hba := hk2.keep hba (by simp)
  have hkk := hk1.trans hk2 (by simp)
  refine X.alloc (z := .agg ([.int .u64 0, .int .u64 0, .int .u64 0, .int .u64 0] : List Value).toArray) (cs := [.int .u64 0, .int .u64 0, .int .u64 0, .int .u64 0]) rfl rfl rfl rfl (by kernel_rfl) rfl ?_
  intro bc H3 hn3 hbc hk3
  replace hba := hk3.keep hba (by simp)
  replace hbb := hk3.keep hbb (by simp)
  have hnc : H.size ≤ bc := Nat.le_trans hkk.size hn3
  replace hkk := hkk.trans hk3 (by simp)
  refine X.done [(2, _), (3, _), (4, _)] ⟨rfl, rfl, rfl, trivial⟩ ?_
  refine N.then ?_
  refine E.seq ?_
  refine E.region ?_
  refine X.ldA rfl rfl rfl rfl Tryd.ag36 Tryd.sz36 (hba) (uv4 hw) zoff ?_
  refine X.ldA rfl rfl rfl rfl Tryd.ag36 Tryd.sz36 (hbb) (uv4 hv) zoff ?_
  refine X.call rfl rfl rfl rfl rfl Tryd.cl52 (each_or1 ws vs H3 hw hv) ?_
  rintro _ H4 ⟨rfl, hk4⟩
  rw [show mid (fun x y => x ||| y) ws vs 4 = orW ws vs from mid_four _ _ _]
  refine X.stA rfl rfl rfl rfl rfl rfl (uv_one _) Tryd.sz36 (hk4.keep hbc (by simp)) (by rw [uv4 (hw.or hv)]; decide) ?_
  intro H6 hb6 hk6
  rw [splice_all (by rw [uv4 (hw.or hv)]; rfl)] at hb6
  refine X.done [(4, _)] ⟨rfl, trivial⟩ ?_
  refine N.then ?_
  refine E.ret ?_
  exact N.retH [_] ⟨_, _, _, 0, rfl, rfl, loadsA Tryd.ag36 Tryd.sz36 hb6 (by first | rfl | exact uv4 hw) zoff, rfl⟩ ⟨rfl, (hkk.trans hk4 (by simp)).trans hk6 (by simp; exact hnc)⟩


theorem rnot_ct (ws : List Nat) (H : Heap) (hw : Ws ws) : Ct Tryd.prog 45 #[agg4 ws] H fun v H' => v = agg4 (notW ws) ∧ Kp [] H H' := by
  refine Ct.into 19 Tryd.func45 rfl [(0, agg4 ws)] rfl ⟨rfl, trivial⟩ ?_
  refine E.seq ?_
  refine E.region ?_
  refine X.box rfl rfl rfl rfl rfl rfl ?_
  intro ba Ha0 hn0 hba hk0
  have hkk := hk0
  refine X.alloc (z := .agg ([.int .u64 0, .int .u64 0, .int .u64 0, .int .u64 0] : List Value).toArray) (cs := [.int .u64 0, .int .u64 0, .int .u64 0, .int .u64 0]) rfl rfl rfl rfl (by kernel_rfl) rfl ?_
  intro bc Ha1 hn1 hbc hk1
  have hltba1 := lt_of hba
  replace hba := hk1.keep hba (by simp)
  have hs1 := hkk.size
  replace hkk := hkk.trans hk1 (by simp)
  refine X.done [(1, _), (2, _)] ⟨rfl, rfl, trivial⟩ ?_
  refine N.then ?_
  refine E.seq ?_
  refine E.region ?_
  refine X.alloc (z := .agg ([.int .u64 0, .int .u64 0, .int .u64 0, .int .u64 0] : List Value).toArray) (cs := [.int .u64 0, .int .u64 0, .int .u64 0, .int .u64 0]) rfl rfl rfl rfl (by kernel_rfl) rfl ?_
  intro bv Ha2 hn2 hbv hk2
  have hltba2 := lt_of hba
  replace hba := hk2.keep hba (by simp)
  have hltbc2 := lt_of hbc
  replace hbc := hk2.keep hbc (by simp)
  have hs2 := hkk.size
  replace hkk := hkk.trans hk2 (by simp)
  have hne : bc ≠ bv := by omega
  have hnv : H.size ≤ bv := by omega
  have hnc : H.size ≤ bc := by omega
  have hneba : ba ≠ bv := by omega
  refine X.done [(1, _), (2, _), (3, _)] ⟨rfl, rfl, rfl, trivial⟩ ?_
  refine N.then ?_
  refine E.seq ?_
  refine E.seq ?_
  refine E.region ?_
  refine X.asg rfl rfl rfl rfl rfl ?_
  refine X.done [(1, _), (2, _), (3, _), (4, _)] ⟨rfl, rfl, rfl, rfl, trivial⟩ ?_
  refine N.then ?_
  refine E.block ?_
  refine E.loop (fun (i : Nat) => [(1, ptr ba), (2, ptr bc), (3, ptr bv), (4, i64 i)]) (fun (i : Nat) H' => i ≤ 256 ∧ H'[ba]? = some (.cells (uv ws).toArray 36 (0, 0)) ∧ H'[bc]? = some (.cells (uv z4).toArray 36 (0, 0)) ∧ H'[bv]? = some (.cells (uv (ofL (flt (fun c => !bt ws c) i))).toArray 36 (0, 0)) ∧ Kp [] H H') (fun (i : Nat) => 256 - i) 0 ⟨rfl, rfl, rfl, rfl, trivial⟩ ⟨Nat.zero_le _, hba, hbc, hbv, hkk⟩ ?_
  rintro i H4 ⟨hi, hba, hbc, hbv, hkk⟩
  obtain ⟨us, hws⟩ : ∃ us, ofL (flt (fun c => !bt ws c) i) = us := ⟨_, rfl⟩
  have hu : Ws us := hws ▸ ws_ofL (fun c hc => Nat.lt_of_lt_of_le (flt_lt hc) hi)
  rw [hws] at hbv
  refine E.seq ?_
  refine E.seq ?_
  refine E.region ?_
  refine X.mv rfl rfl rfl rfl rfl ?_
  refine X.lss rfl rfl rfl rfl rfl rfl ?_
  refine X.done [(1, _), (2, _), (3, _), (4, _), (5, _), (6, _)] ⟨rfl, rfl, rfl, rfl, rfl, rfl, trivial⟩ ?_
  refine N.then ?_
  refine E.condD rfl (fun hc => ?_) (fun hc => ?_)
  · refine E.skip ?_
    refine N.then ?_
    refine E.seq ?_
    refine E.block ?_
    refine E.seq ?_
    refine E.region ?_
    refine X.ldA rfl rfl rfl rfl Tryd.ag36 Tryd.sz36 (hba) (uv4 hw) zoff ?_
    refine X.mv rfl rfl rfl rfl rfl ?_
    refine X.convE (zz := (i : Int)) rfl rfl rfl rfl rfl Tryd.underlying5 Tryd.us3 (IntWalk.u8_in _ (by omega)) ?_
    refine X.call rfl rfl rfl rfl rfl Tryd.cl54 (rhas_bt ws i H4 hw (by omega)) ?_
    rintro _ H9 ⟨rfl, hk9⟩
    replace hba := hk9.keep hba (by simp)
    replace hbc := hk9.keep hbc (by simp)
    replace hbv := hk9.keep hbv (by simp)
    replace hkk := hkk.trans hk9 (by simp)
    refine X.notB rfl rfl rfl rfl rfl ?_
    refine X.done [(1, _), (2, _), (3, _), (4, _), (5, _), (6, _), (9, _), (10, _), (11, _), (12, _), (13, _)] ⟨rfl, rfl, rfl, rfl, rfl, rfl, rfl, rfl, rfl, rfl, rfl, trivial⟩ ?_
    refine N.then ?_
    refine E.cond rfl (fun hc => ?_) (fun hc => ?_)
    · refine E.region ?_
      refine X.ldA rfl rfl rfl rfl Tryd.ag36 Tryd.sz36 (hbv) (uv4 hu) zoff ?_
      refine X.mv rfl rfl rfl rfl rfl ?_
      refine X.convE (zz := (i : Int)) rfl rfl rfl rfl rfl Tryd.underlying5 Tryd.us3 (IntWalk.u8_in _ (by omega)) ?_
      refine X.call rfl rfl rfl rfl rfl Tryd.cl56 (with_ct us i H9 hu (by omega)) ?_
      rintro _ H5 ⟨rfl, hk5⟩
      refine X.stA rfl rfl rfl rfl rfl rfl (uv_one _) Tryd.sz36 (hk5.keep hbv (by simp)) (by rw [uv4 (hu.setb (by omega)), uv4 hu]; decide) ?_
      intro H6 hb6 hk6b
      rw [splice_all (by rw [uv4 (hu.setb (by omega)), uv4 hu])] at hb6
      have hk6 : Kp [bv] H9 H6 := (hk5.mono (by simp)).trans hk6b (fun b hb => .inl hb)
      refine X.done [(1, _), (2, _), (3, _), (4, _), (5, _), (6, _), (9, _), (10, _), (11, _), (12, _), (13, _), (14, _), (15, _), (16, _), (17, _)] ⟨rfl, rfl, rfl, rfl, rfl, rfl, rfl, rfl, rfl, rfl, rfl, rfl, rfl, rfl, rfl, trivial⟩ ?_
      refine N.blk ?_
      refine N.then ?_
      refine E.region ?_
      refine X.mv rfl rfl rfl rfl rfl ?_
      refine X.add rfl rfl rfl rfl rfl rfl (by omega) ?_
      refine X.asg rfl rfl rfl rfl rfl ?_
      refine X.done [(1, _), (2, _), (3, _), (4, _), (5, _), (6, _), (9, _), (10, _), (11, _), (12, _), (13, _), (14, _), (15, _), (16, _), (17, _), (7, _), (8, _)] ⟨rfl, rfl, rfl, rfl, rfl, rfl, rfl, rfl, rfl, rfl, rfl, rfl, rfl, rfl, rfl, rfl, rfl, trivial⟩ ?_
      first | exact N.next (i + 1) ⟨rfl, rfl, rfl, rfl, trivial⟩ ⟨by omega, hk6.keep hba (by simp; exact hneba), hk6.keep hbc (by simp; exact hne), by rw [fl_yes (by assumption), hws]; exact hb6, hkk.trans hk6 (by simp; exact hnv)⟩ (by omega) | exact N.next (i + 1) ⟨rfl, rfl, rfl, rfl, trivial⟩ ⟨by omega, hba, hbc, by rw [fl_no (by assumption), hws]; exact hbv, hkk⟩ (by omega)
    · refine E.skip ?_
      refine N.blk ?_
      refine N.then ?_
      refine E.region ?_
      refine X.mv rfl rfl rfl rfl rfl ?_
      refine X.add rfl rfl rfl rfl rfl rfl (by omega) ?_
      refine X.asg rfl rfl rfl rfl rfl ?_
      refine X.done [(1, _), (2, _), (3, _), (4, _), (5, _), (6, _), (9, _), (10, _), (11, _), (12, _), (13, _), (7, _), (8, _)] ⟨rfl, rfl, rfl, rfl, rfl, rfl, rfl, rfl, rfl, rfl, rfl, rfl, rfl, trivial⟩ ?_
      first | exact N.next (i + 1) ⟨rfl, rfl, rfl, rfl, trivial⟩ ⟨by omega, hk6.keep hba (by simp; exact hneba), hk6.keep hbc (by simp; exact hne), by rw [fl_yes (by assumption), hws]; exact hb6, hkk.trans hk6 (by simp; exact hnv)⟩ (by omega) | exact N.next (i + 1) ⟨rfl, rfl, rfl, rfl, trivial⟩ ⟨by omega, hba, hbc, by rw [fl_no (by assumption), hws]; exact hbv, hkk⟩ (by omega)
  · refine E.exit ?_
    refine N.thenX ?_
    refine N.loopX ?_
    refine N.blkX ?_
    refine N.then ?_
    refine E.seq ?_
    refine E.region ?_
    refine X.ldA rfl rfl rfl rfl Tryd.ag36 Tryd.sz36 (hbv) (uv4 hu) zoff ?_
    refine X.stA rfl rfl rfl rfl rfl rfl (uv_one _) (sz24w hu) hbc (by rw [uv4 hu]; decide) ?_
    intro H7 hb7 hk7
    rw [splice_all (by rw [uv4 hu]; rfl)] at hb7
    refine X.done [(2, _)] ⟨rfl, trivial⟩ ?_
    refine N.then ?_
    refine E.ret ?_
    exact N.retH [_] ⟨_, _, _, 0, rfl, rfl, loadsA Tryd.ag36 Tryd.sz36 hb7 (by first | rfl | exact uv4 hu) zoff, rfl⟩ ⟨by rw [← hws, show i = 256 by omega, ofL_flt hw.not (fun c hc => bt_not hw hc)]; rfl, hkk.trans hk7 (by simp; exact hnc)⟩


theorem count_ct (ws : List Nat) (H : Heap) (hw : Ws ws) : Ct Tryd.prog 37 #[agg4 ws] H fun v H' => v = i64 (els ws).length ∧ Kp [] H H' := by
  refine Ct.into 16 Tryd.func37 rfl [(0, agg4 ws)] rfl ⟨rfl, trivial⟩ ?_
  refine E.seq ?_
  refine E.region ?_
  refine X.box rfl rfl rfl rfl rfl rfl ?_
  intro ba H1 hn1 hba hk1
  refine X.asg rfl rfl rfl rfl rfl ?_
  refine X.done [(1, _), (2, _)] ⟨rfl, rfl, trivial⟩ ?_
  refine N.then ?_
  refine E.seq ?_
  refine E.region ?_
  refine X.asg rfl rfl rfl rfl rfl ?_
  refine X.done [(1, _), (2, _), (3, _)] ⟨rfl, rfl, rfl, trivial⟩ ?_
  refine N.then ?_
  refine E.seq ?_
  refine E.seq ?_
  refine E.region ?_
  refine X.ldA rfl rfl rfl rfl Tryd.ag36 Tryd.sz36 (hba) (uv4 hw) zoff ?_
  refine X.mv rfl rfl rfl rfl rfl ?_
  refine X.done [(2, _), (3, _), (6, _), (7, _)] ⟨rfl, rfl, rfl, rfl, trivial⟩ ?_
  refine N.then ?_
  refine E.block ?_
  -- MISSING in G: [2]
  refine E.loop (fun (i : Nat) => [(3, i64 (flt (bt ws) (64 * i)).length), (6, agg4 ws), (7, i64 i)]) (fun (i : Nat) H' => i ≤ 4 ∧ H' = H1) (fun (i : Nat) => 4 - i) 0 ⟨rfl, rfl, rfl, trivial⟩ ⟨Nat.zero_le _, rfl⟩ ?_
  rintro i H3 ⟨hi, eH⟩
  obtain rfl := eH.symm
  refine E.seq ?_
  refine E.region ?_
  refine X.lss rfl rfl rfl rfl rfl rfl ?_
  refine X.done [(3, _), (6, _), (7, _), (8, _)] ⟨rfl, rfl, rfl, rfl, trivial⟩ ?_
  refine N.then ?_
  refine E.seq ?_
  refine E.condD rfl (fun hc => ?_) (fun hc => ?_)
  · refine E.skip ?_
    refine N.then ?_
    refine E.seq ?_
    refine E.block ?_
    refine E.seq ?_
    have hi4 : i < 4 := Int.ofNat_lt.1 (by assumption)
    have hp := els_pop ws i
    have hl := flt_len (bt ws) (64 * (i + 1))
    refine E.region ?_
    refine X.ixV (v := .int .u64 ((wd ws i : Nat) : Int)) rfl rfl rfl rfl rfl rfl Tryd.underlying36 Tryd.ag34 Tryd.sz34 (by omega) (by rw [Int.toNat_natCast, Nat.mul_one]; exact uv_get (hw.get hi4).1) ?_
    refine X.asg rfl rfl rfl rfl rfl ?_
    refine X.done [(3, _), (6, _), (7, _), (8, _), (9, _), (5, _)] ⟨rfl, rfl, rfl, rfl, rfl, rfl, trivial⟩ ?_
    refine N.then ?_
    refine E.region ?_
    refine X.mv rfl rfl rfl rfl rfl ?_
    refine X.mv rfl rfl rfl rfl rfl ?_
    refine X.call rfl rfl rfl rfl rfl Tryd.cl49 (ones_ct (wd ws i) H1 (hw.get hi4).2) ?_
    rintro _ H4 ⟨rfl, eH4⟩
    obtain rfl := eH4.symm
    refine X.addE (zz := ((flt (bt ws) (64 * (i + 1))).length : Nat)) rfl rfl rfl rfl rfl rfl (by rw [IntWalk.i64_in _ (by omega)] <;> omega) ?_
    refine X.asg rfl rfl rfl rfl rfl ?_
    refine X.done [(3, _), (6, _), (7, _), (8, _), (9, _), (5, _), (10, _), (11, _), (12, _), (13, _)] ⟨rfl, rfl, rfl, rfl, rfl, rfl, rfl, rfl, rfl, rfl, trivial⟩ ?_
    refine N.blk ?_
    refine N.then ?_
    refine E.region ?_
    refine X.add rfl rfl rfl rfl rfl rfl (by omega) ?_
    refine X.mv rfl rfl rfl rfl rfl ?_
    refine X.done [(3, _), (6, _), (7, _), (8, _), (9, _), (5, _), (10, _), (11, _), (12, _), (13, _), (14, _)] ⟨rfl, rfl, rfl, rfl, rfl, rfl, rfl, rfl, rfl, rfl, rfl, trivial⟩ ?_
    exact N.next (i + 1) ⟨rfl, rfl, rfl, trivial⟩ ⟨by omega, rfl⟩ (by omega)
  · refine E.exit ?_
    refine N.thenX ?_
    refine N.loopX ?_
    refine N.blkX ?_
    refine N.then ?_
    refine E.seq ?_
    refine E.region ?_
    refine X.mv rfl rfl rfl rfl rfl ?_
    refine X.asg rfl rfl rfl rfl rfl ?_
    refine X.done [(2, _)] ⟨rfl, trivial⟩ ?_
    refine N.then ?_
    refine E.ret ?_
    exact N.retH [_] ⟨_, _, rfl, rfl, rfl⟩ ⟨by rw [show i = 4 by omega]; rfl, hk1⟩

end Go.Proofs.YtcandjdomeompaaDoor
