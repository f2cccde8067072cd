/- The walks: a set as the document writes it. -/
import Derived.Test.YtcandjdomeompaaDoorZ7
namespace Go.Proofs.YtcandjdomeompaaDoor
open Go.SX Go.Chr
attribute [local irreducible] X E N Ct
set_option linter.unusedVariables false
set_option linter.unusedSimpArgs false


theorem rshow_ct (ws : List Nat) (H : Heap) (hw : Ws ws) : Ct Tryd.prog 31 #[agg4 ws] H fun v H' => v = str (shw (els ws) (els (notW ws))) ∧ Kp [] H H' := by
  have e1 := bts_len (els ws)
  refine Ct.into 78 Tryd.func31 rfl [(0, agg4 ws)] rfl ⟨rfl, trivial⟩ ?_
  refine E.seq ?_
  refine E.region ?_
  refine X.box rfl rfl rfl rfl rfl rfl ?_
  intro ba H1 hn1 hba hkk
  refine X.asg rfl rfl rfl rfl rfl ?_
  refine X.done [(1, _), (2, _)] ⟨rfl, rfl, trivial⟩ ?_
  refine N.then ?_
  refine E.seq ?_
  refine E.region ?_
  refine X.ldA rfl rfl rfl rfl Tryd.ag36 Tryd.sz36 (hba) (uv4 hw) zoff ?_
  refine X.call rfl rfl rfl rfl rfl Tryd.cl43 (rbytes_ct ws H1 hw) ?_
  rintro _ H2 ⟨rfl, hk2⟩
  replace hba := hk2.keep hba (by simp)
  replace hkk := hkk.trans hk2 (by simp)
  refine X.asg rfl rfl rfl rfl rfl ?_
  refine X.done [(1, _), (2, _), (3, _)] ⟨rfl, rfl, rfl, trivial⟩ ?_
  refine N.then ?_
  refine E.seq ?_
  refine E.seq ?_
  refine E.region ?_
  refine X.mv rfl rfl rfl rfl rfl ?_
  refine X.lenL rfl rfl rfl rfl rfl Tryd.underlying9 ?_
  refine X.eql rfl rfl rfl rfl rfl rfl ?_
  refine X.done [(1, _), (2, _), (3, _), (11, _)] ⟨rfl, rfl, rfl, rfl, trivial⟩ ?_
  refine N.then ?_
  refine E.condD rfl (fun hc => ?_) (fun hc => ?_)
  · refine E.seq ?_
    obtain ⟨c1, hc1, hc1v⟩ := bts_one (m := els (notW ws)) (by rw [← e1]; assumption) els_lt
    refine E.region ?_
    refine X.mv rfl rfl rfl rfl rfl ?_
    refine X.ixS rfl rfl rfl rfl rfl rfl Tryd.underlying9 (by omega) (by exact hc1) ?_
    refine X.call rfl rfl rfl rfl rfl Tryd.cl44 (byte_ct c1.toNat _ (UInt8.toNat_lt _)) ?_
    rintro _ H4 ⟨rfl, hk4⟩
    replace hkk := hkk.trans hk4 (by simp)
    refine X.asg rfl rfl rfl rfl rfl ?_
    refine X.done [(1, _), (2, _), (3, _)] ⟨rfl, rfl, rfl, trivial⟩ ?_
    refine N.then ?_
    refine E.ret ?_
    refine N.thenR ?_
    exact N.retH [_] ⟨_, _, rfl, rfl, rfl⟩ ⟨by rw [hc1v]; rfl, hkk⟩
  · refine E.skip ?_
    refine N.then ?_
    refine E.seq ?_
    refine E.region ?_
    refine X.asg rfl rfl rfl rfl rfl ?_
    refine X.done [(1, _), (2, _), (3, _), (4, _)] ⟨rfl, rfl, rfl, rfl, trivial⟩ ?_
    refine N.then ?_
    refine E.seq ?_
    refine E.seq ?_
    refine E.region ?_
    refine X.mv rfl rfl rfl rfl rfl ?_
    refine X.lenL rfl rfl rfl rfl rfl Tryd.underlying9 ?_
    refine X.gtr rfl rfl rfl rfl rfl rfl ?_
    refine X.done [(1, _), (2, _), (3, _), (4, _), (17, _)] ⟨rfl, rfl, rfl, rfl, rfl, trivial⟩ ?_
    refine N.then ?_
    refine E.condD rfl (fun hc => ?_) (fun hc => ?_)
    · refine E.seq ?_
      refine E.region ?_
      refine X.asg rfl rfl rfl rfl rfl ?_
      refine X.done [(1, _), (2, _), (3, _), (4, _)] ⟨rfl, rfl, rfl, rfl, trivial⟩ ?_
      refine N.then ?_
      refine E.region ?_
      refine X.ldA rfl rfl rfl rfl Tryd.ag36 Tryd.sz36 (hba) (uv4 hw) zoff ?_
      refine X.call rfl rfl rfl rfl rfl Tryd.cl45 (rnot_ct ws H2 hw) ?_
      rintro _ H9 ⟨rfl, hk9⟩
      replace hkk := hkk.trans hk9 (by simp)
      refine X.call rfl rfl rfl rfl rfl Tryd.cl43 (rbytes_ct (notW ws) H9 hw.not) ?_
      rintro _ H8 ⟨rfl, hk8⟩
      replace hkk := hkk.trans hk8 (by simp)
      refine X.asg rfl rfl rfl rfl rfl ?_
      refine X.done [(2, _), (3, _), (4, _)] ⟨rfl, rfl, rfl, trivial⟩ ?_
      refine N.then ?_
      refine E.seq ?_
      refine E.seq ?_
      refine E.region ?_
      refine X.asg rfl rfl rfl rfl rfl ?_
      refine X.done [(2, _), (3, _), (4, _), (5, _)] ⟨rfl, rfl, rfl, rfl, trivial⟩ ?_
      refine N.then ?_
      refine E.block ?_
      -- MISSING in G: [2]
      refine E.loop (fun (q : Bs × Bs × Nat) => [(3, str q.1), (4, str q.2.1), (5, i64 q.2.2)]) (fun (q : Bs × Bs × Nat) H' => q.2.2 ≤ q.1.length ∧ q.2.1 ++ sh (q.1.drop q.2.2) ++ [93] = shw (els ws) (els (notW ws)) ∧ q.2.1.length + 9 * (q.1.length - q.2.2) ≤ 2400 ∧ q.1.length ≤ 256 ∧ Kp [] H H') (fun (q : Bs × Bs × Nat) => q.1.length - q.2.2) (_, _, 0) ⟨rfl, rfl, rfl, trivial⟩ (by first | exact ⟨Nat.zero_le _, shw_neg (by rw [← e1]; assumption) (by rw [← e1]; assumption), by have := els_len (notW ws); have := bts_len (els (notW ws)); show 2 + 9 * ((bts _).length - 0) ≤ 2400; omega, by show (bts _).length ≤ 256; rw [bts_len]; exact els_len _, hkk⟩ | exact ⟨Nat.zero_le _, shw_pos (by rw [← e1]; assumption) (by rw [← e1]; assumption), by have := els_len ws; have := bts_len (els ws); show 1 + 9 * ((bts _).length - 0) ≤ 2400; omega, by show (bts _).length ≤ 256; rw [bts_len]; exact els_len _, hkk⟩) ?_
      clear hkk
      rintro ⟨b, s, i⟩ H6 hJ
      dsimp only at hJ ⊢
      obtain ⟨hib, hJ, hlen, hb256, hkk⟩ := hJ
      refine E.seq ?_
      refine E.seq ?_
      refine E.region ?_
      refine X.mv rfl rfl rfl rfl rfl ?_
      refine X.mv rfl rfl rfl rfl rfl ?_
      refine X.lenL rfl rfl rfl rfl rfl Tryd.underlying9 ?_
      refine X.lss rfl rfl rfl rfl rfl rfl ?_
      refine X.done [(3, _), (4, _), (5, _), (21, _), (22, _), (23, _), (24, _)] ⟨rfl, rfl, rfl, rfl, rfl, rfl, rfl, trivial⟩ ?_
      refine N.then ?_
      refine E.condD rfl (fun hc => ?_) (fun hc => ?_)
      · refine E.skip ?_
        refine N.then ?_
        refine E.block ?_
        refine E.seq ?_
        have hi2 : i < b.length := Int.ofNat_lt.1 (by assumption)
        obtain ⟨x, xs, hd⟩ : ∃ x xs, b.drop i = x :: xs := ⟨_, _, List.drop_eq_getElem_cons hi2⟩
        have hxl : (x :: xs).length = b.length - i := by rw [← hd, List.length_drop]
        have hx0 : b[i]? = some x := drop_at (n := 0) hd (Nat.zero_lt_succ _)
        refine E.region ?_
        refine X.asg rfl rfl rfl rfl rfl ?_
        refine X.done [(3, _), (4, _), (5, _), (21, _), (22, _), (23, _), (24, _), (6, _)] ⟨rfl, rfl, rfl, rfl, rfl, rfl, rfl, rfl, trivial⟩ ?_
        refine N.then ?_
        refine E.seq ?_
        refine E.block ?_
        -- MISSING in G: [21, 22, 23, 24]
        refine E.loop (fun (n : Nat) => [(3, str b), (4, str s), (5, i64 i), (6, i64 n)]) (fun (n : Nat) H' => H' = H6 ∧ 1 ≤ n ∧ n ≤ (x :: xs).length ∧ n + rl (x.toNat + n) ((x :: xs).drop n) = 1 + rl (x.toNat + 1) xs) (fun (n : Nat) => (x :: xs).length - n) 1 ⟨rfl, rfl, rfl, rfl, trivial⟩ ⟨rfl, Nat.le_refl _, by show 1 ≤ xs.length + 1; omega, rl_first x xs⟩ ?_
        rintro n H7 ⟨eH, hn1, hn2, hrl⟩
        obtain rfl := eH.symm
        refine E.seq ?_
        refine E.seq ?_
        refine E.regionD (fun _ => True) [(0, .pu), (1, .pu), (2, .pu), (3, .pu), (4, .pu), (5, .pu), (6, .pu), (7, .pu), (8, .pu), (9, .pu), (10, .pu), (11, .pu), (12, .pu), (13, .pu), (14, .pu), (15, .pu), (16, .pu), (17, .pu), (18, .pu), (19, .pu), (20, .pu)] Tryd.mixed (by kernel_rfl) (trivial) ?_
        refine X.mv rfl rfl rfl rfl rfl ?_
        refine X.mv rfl rfl rfl rfl rfl ?_
        refine X.addE (zz := ((i + n : Nat) : Int)) rfl rfl rfl rfl rfl rfl (by rw [IntWalk.i64_in _ (by omega)] <;> omega) ?_
        refine X.mv rfl rfl rfl rfl rfl ?_
        refine X.lenL rfl rfl rfl rfl rfl Tryd.underlying9 ?_
        refine X.lssC rfl rfl rfl rfl rfl rfl (fun hc => ?_) (fun hc => ?_)
        · refine X.mv rfl rfl rfl rfl rfl ?_
          refine X.mv rfl rfl rfl rfl rfl ?_
          refine X.mv rfl rfl rfl rfl rfl ?_
          refine X.mv rfl rfl rfl rfl rfl ?_
          refine X.addE (zz := ((i + n : Nat) : Int)) rfl rfl rfl rfl rfl rfl (by rw [IntWalk.i64_in _ (by omega)] <;> omega) ?_
          refine X.ixS rfl rfl rfl rfl rfl rfl Tryd.underlying9 (by omega) (drop_at hd (show n < (x :: xs).length by omega)) ?_
          refine X.convE rfl rfl rfl rfl rfl Tryd.underlying3 Tryd.us5 (u8i _) ?_
          refine X.mv rfl rfl rfl rfl rfl ?_
          refine X.mv rfl rfl rfl rfl rfl ?_
          refine X.ixS rfl rfl rfl rfl rfl rfl Tryd.underlying9 (by omega) (by exact hx0) ?_
          refine X.convE rfl rfl rfl rfl rfl Tryd.underlying3 Tryd.us5 (u8i _) ?_
          refine X.mv rfl rfl rfl rfl rfl ?_
          refine X.addE (zz := ((x.toNat : Int) + (n : Int))) rfl rfl rfl rfl rfl rfl (IntWalk.i64_in _ (by have := x.toNat_lt; show -9223372036854775808 ≤ (x.toNat : Int) + (n : Int) ∧ (x.toNat : Int) + (n : Int) ≤ 9223372036854775807; omega)) ?_
          refine X.eql rfl rfl rfl rfl rfl rfl ?_
          refine X.pickT rfl rfl rfl rfl rfl rfl ?_
          refine X.done [(3, _), (4, _), (5, _), (6, _), (25, _), (26, _), (27, _), (28, _), (29, _), (30, _), (31, _), (32, _), (33, _), (34, _), (35, _), (36, _), (37, _), (38, _), (39, _), (40, _), (41, _), (42, _), (43, _), (44, _), (45, _)] ⟨rfl, rfl, rfl, rfl, rfl, rfl, rfl, rfl, rfl, rfl, rfl, rfl, rfl, rfl, rfl, rfl, rfl, rfl, rfl, rfl, rfl, rfl, rfl, rfl, rfl, trivial⟩ ?_
          refine N.then ?_
          refine E.condD rfl (fun hc => ?_) (fun hc => ?_)
          · refine E.skip ?_
            refine N.then ?_
            refine E.block ?_
            refine E.region ?_
            refine X.mv rfl rfl rfl rfl rfl ?_
            refine X.add rfl rfl rfl rfl rfl rfl (by omega) ?_
            refine X.asg rfl rfl rfl rfl rfl ?_
            refine X.done [(3, _), (4, _), (5, _), (6, _), (25, _), (26, _), (27, _), (28, _), (29, _), (30, _), (31, _), (32, _), (33, _), (34, _), (35, _), (36, _), (37, _), (38, _), (39, _), (40, _), (41, _), (42, _), (43, _), (44, _), (45, _), (46, _), (47, _)] ⟨rfl, rfl, rfl, rfl, rfl, rfl, rfl, rfl, rfl, rfl, rfl, rfl, rfl, rfl, rfl, rfl, rfl, rfl, rfl, rfl, rfl, rfl, rfl, rfl, rfl, rfl, rfl, trivial⟩ ?_
            refine N.blk ?_
            exact N.next (n + 1) ⟨rfl, rfl, rfl, rfl, trivial⟩ ⟨rfl, by omega, by omega, by rw [rl_step (show n < (x :: xs).length by omega) (by assumption)] at hrl; rw [← hrl]; omega⟩ (by omega)
          · refine E.exit ?_
            refine N.thenX ?_
            refine N.loopX ?_
            refine N.blkX ?_
            refine N.then ?_
            refine E.seq ?_
            have hn : n = 1 + rl (x.toNat + 1) xs := by first | (rw [rl_stop (show n < (x :: xs).length by omega) (by assumption)] at hrl; omega) | (rw [rl_end (show ¬ n < (x :: xs).length by omega)] at hrl; omega)
            have hnl : n - 1 < (x :: xs).length := by omega
            have hw1 := wr_len x.toNat
            have hw2 := wr_len ((x :: xs)[n - 1]'hnl).toNat
            have hdn : b.drop (i + n) = (x :: xs).drop n := by rw [← List.drop_drop, hd]
            have hd1 : b.drop (i + 1) = xs := by rw [← List.drop_drop, hd]; rfl
            refine E.region ?_
            refine X.mv rfl rfl rfl rfl rfl ?_
            refine X.geq rfl rfl rfl rfl rfl rfl ?_
            refine X.done [(3, _), (4, _), (5, _), (6, _), (25, _), (26, _), (27, _), (28, _), (29, _), (30, _), (31, _), (32, _), (33, _), (34, _), (35, _), (36, _), (37, _), (38, _), (39, _), (40, _), (41, _), (42, _), (43, _), (44, _), (45, _), (48, _), (49, _)] ⟨rfl, rfl, rfl, rfl, rfl, rfl, rfl, rfl, rfl, rfl, rfl, rfl, rfl, rfl, rfl, rfl, rfl, rfl, rfl, rfl, rfl, rfl, rfl, rfl, rfl, rfl, rfl, trivial⟩ ?_
            refine N.then ?_
            refine E.condD rfl (fun hc => ?_) (fun hc => ?_)
            · refine E.seq ?_
              refine E.regionD (fun _ => True) [(0, .pu), (1, .pu), (2, .pu), (3, .pu), (7, .pu), (8, .pu), (9, .pu), (10, .pu), (11, .pu), (12, .pu), (4, .mv), (5, .pu), (6, .pu), (13, .mv), (14, .pu), (15, .pu)] Tryd.mixed (by kernel_rfl) (trivial) ?_
              refine X.mv rfl rfl rfl rfl rfl ?_
              refine X.mv rfl rfl rfl rfl rfl ?_
              refine X.mv rfl rfl rfl rfl rfl ?_
              refine X.ixS rfl rfl rfl rfl rfl rfl Tryd.underlying9 (by omega) (by exact hx0) ?_
              refine X.mv rfl rfl rfl rfl rfl ?_
              refine X.mv rfl rfl rfl rfl rfl ?_
              refine X.mv rfl rfl rfl rfl rfl ?_
              refine X.addE (zz := ((i + n : Nat) : Int)) rfl rfl rfl rfl rfl rfl (by rw [IntWalk.i64_in _ (by omega)] <;> omega) ?_
              refine X.sbE (zz := ((i + (n - 1) : Nat) : Int)) rfl rfl rfl rfl rfl rfl (by rw [IntWalk.i64_in _ (by omega)] <;> omega) ?_
              refine X.ixS rfl rfl rfl rfl rfl rfl Tryd.underlying9 (by omega) (by rw [show ((i + (n - 1) : Nat) : Int).toNat = i + (n - 1) from rfl]; exact drop_at hd hnl) ?_
              refine X.call rfl rfl rfl rfl rfl Tryd.cl44 (byte_ct x.toNat _ (UInt8.toNat_lt _)) ?_
              rintro _ H7 ⟨rfl, hk7⟩
              replace hkk := hkk.trans hk7 (by simp)
              refine X.cat rfl rfl rfl rfl rfl rfl (by omega) ?_
              refine X.cat rfl rfl rfl rfl rfl rfl (by rw [List.length_append]; show s.length + (wr x.toNat).length + 1 ≤ _; omega) ?_
              refine X.call rfl rfl rfl rfl rfl Tryd.cl44 (byte_ct ((x :: xs)[n - 1]'hnl).toNat _ (UInt8.toNat_lt _)) ?_
              rintro _ H8 ⟨rfl, hk8⟩
              replace hkk := hkk.trans hk8 (by simp)
              refine X.cat rfl rfl rfl rfl rfl rfl (by rw [List.length_append, List.length_append]; show s.length + (wr x.toNat).length + 1 + (wr _).length ≤ _; omega) ?_
              refine X.asg rfl rfl rfl rfl rfl ?_
              refine X.done [(3, _), (4, _), (5, _), (6, _), (25, _), (26, _), (27, _), (28, _), (29, _), (30, _), (31, _), (32, _), (33, _), (34, _), (35, _), (36, _), (37, _), (38, _), (39, _), (40, _), (41, _), (42, _), (43, _), (44, _), (45, _), (48, _), (49, _), (50, _), (51, _), (52, _), (53, _), (57, _), (58, _), (59, _), (60, _), (61, _), (62, _), (54, _), (55, _), (56, _), (63, _), (64, _)] ⟨rfl, rfl, rfl, rfl, rfl, rfl, rfl, rfl, rfl, rfl, rfl, rfl, rfl, rfl, rfl, rfl, rfl, rfl, rfl, rfl, rfl, rfl, rfl, rfl, rfl, rfl, rfl, rfl, rfl, rfl, rfl, rfl, rfl, rfl, rfl, rfl, rfl, rfl, rfl, rfl, rfl, rfl, trivial⟩ ?_
              refine N.then ?_
              refine E.region ?_
              refine X.mv rfl rfl rfl rfl rfl ?_
              refine X.mv rfl rfl rfl rfl rfl ?_
              refine X.add rfl rfl rfl rfl rfl rfl (by omega) ?_
              refine X.asg rfl rfl rfl rfl rfl ?_
              refine X.done [(3, _), (4, _), (5, _), (6, _), (25, _), (26, _), (27, _), (28, _), (29, _), (30, _), (31, _), (32, _), (33, _), (34, _), (35, _), (36, _), (37, _), (38, _), (39, _), (40, _), (41, _), (42, _), (43, _), (44, _), (45, _), (48, _), (49, _), (50, _), (51, _), (52, _), (53, _), (57, _), (58, _), (59, _), (60, _), (61, _), (62, _), (54, _), (55, _), (56, _), (63, _), (64, _), (65, _), (66, _), (67, _)] ⟨rfl, rfl, rfl, rfl, rfl, rfl, rfl, rfl, rfl, rfl, rfl, rfl, rfl, rfl, rfl, rfl, rfl, rfl, rfl, rfl, rfl, rfl, rfl, rfl, rfl, rfl, rfl, rfl, rfl, rfl, rfl, rfl, rfl, rfl, rfl, rfl, rfl, rfl, rfl, rfl, rfl, rfl, rfl, rfl, rfl, trivial⟩ ?_
              refine N.blk ?_
              first | exact N.next (G := fun (q : Bs × Bs × Nat) => _) (b, s ++ wr x.toNat, i + 1) ⟨rfl, rfl, rfl, trivial⟩ ⟨by show i + 1 ≤ b.length; omega, by show s ++ wr x.toNat ++ sh (b.drop (i + 1)) ++ [93] = _; rw [← hJ, hd, sh_short hn (by omega), hd1]; simp, by show (s ++ wr x.toNat).length + 9 * (b.length - (i + 1)) ≤ 2400; rw [List.length_append]; omega, hb256, hkk⟩ (by show b.length - (i + 1) < b.length - i; omega) | exact N.next (G := fun (q : Bs × Bs × Nat) => _) (b, s ++ wr x.toNat ++ [45] ++ wr ((x :: xs)[n - 1]'hnl).toNat, i + n) ⟨rfl, rfl, rfl, trivial⟩ ⟨by show i + n ≤ b.length; omega, by show s ++ wr x.toNat ++ [45] ++ wr ((x :: xs)[n - 1]'hnl).toNat ++ sh (b.drop (i + n)) ++ [93] = _; rw [← hJ, hd, sh_long hn (by omega) hnl, hdn]; simp, by show (s ++ wr x.toNat ++ [45] ++ wr ((x :: xs)[n - 1]'hnl).toNat).length + 9 * (b.length - (i + n)) ≤ 2400; rw [List.length_append, List.length_append, List.length_append]; simp only [List.length_cons, List.length_nil] at hxl ⊢; omega, hb256, hkk⟩ (by show b.length - (i + n) < b.length - i; omega)
            · refine E.seq ?_
              refine E.region ?_
              refine X.mv rfl rfl rfl rfl rfl ?_
              refine X.mv rfl rfl rfl rfl rfl ?_
              refine X.mv rfl rfl rfl rfl rfl ?_
              refine X.ixS rfl rfl rfl rfl rfl rfl Tryd.underlying9 (by omega) (by exact hx0) ?_
              refine X.call rfl rfl rfl rfl rfl Tryd.cl44 (byte_ct x.toNat _ (UInt8.toNat_lt _)) ?_
              rintro _ H7 ⟨rfl, hk7⟩
              replace hkk := hkk.trans hk7 (by simp)
              refine X.cat rfl rfl rfl rfl rfl rfl (by omega) ?_
              refine X.asg rfl rfl rfl rfl rfl ?_
              refine X.done [(3, _), (4, _), (5, _), (6, _), (25, _), (26, _), (27, _), (28, _), (29, _), (30, _), (31, _), (32, _), (33, _), (34, _), (35, _), (36, _), (37, _), (38, _), (39, _), (40, _), (41, _), (42, _), (43, _), (44, _), (45, _), (48, _), (49, _), (68, _), (69, _), (70, _), (71, _), (72, _), (73, _)] ⟨rfl, rfl, rfl, rfl, rfl, rfl, rfl, rfl, rfl, rfl, rfl, rfl, rfl, rfl, rfl, rfl, rfl, rfl, rfl, rfl, rfl, rfl, rfl, rfl, rfl, rfl, rfl, rfl, rfl, rfl, rfl, rfl, rfl, trivial⟩ ?_
              refine N.then ?_
              refine E.region ?_
              refine X.mv rfl rfl rfl rfl rfl ?_
              refine X.add rfl rfl rfl rfl rfl rfl (by omega) ?_
              refine X.asg rfl rfl rfl rfl rfl ?_
              refine X.done [(3, _), (4, _), (5, _), (6, _), (25, _), (26, _), (27, _), (28, _), (29, _), (30, _), (31, _), (32, _), (33, _), (34, _), (35, _), (36, _), (37, _), (38, _), (39, _), (40, _), (41, _), (42, _), (43, _), (44, _), (45, _), (48, _), (49, _), (68, _), (69, _), (70, _), (71, _), (72, _), (73, _), (74, _), (75, _)] ⟨rfl, rfl, rfl, rfl, rfl, rfl, rfl, rfl, rfl, rfl, rfl, rfl, rfl, rfl, rfl, rfl, rfl, rfl, rfl, rfl, rfl, rfl, rfl, rfl, rfl, rfl, rfl, rfl, rfl, rfl, rfl, rfl, rfl, rfl, rfl, trivial⟩ ?_
              refine N.blk ?_
              first | exact N.next (G := fun (q : Bs × Bs × Nat) => _) (b, s ++ wr x.toNat, i + 1) ⟨rfl, rfl, rfl, trivial⟩ ⟨by show i + 1 ≤ b.length; omega, by show s ++ wr x.toNat ++ sh (b.drop (i + 1)) ++ [93] = _; rw [← hJ, hd, sh_short hn (by omega), hd1]; simp, by show (s ++ wr x.toNat).length + 9 * (b.length - (i + 1)) ≤ 2400; rw [List.length_append]; omega, hb256, hkk⟩ (by show b.length - (i + 1) < b.length - i; omega) | exact N.next (G := fun (q : Bs × Bs × Nat) => _) (b, s ++ wr x.toNat ++ [45] ++ wr ((x :: xs)[n - 1]'hnl).toNat, i + n) ⟨rfl, rfl, rfl, trivial⟩ ⟨by show i + n ≤ b.length; omega, by show s ++ wr x.toNat ++ [45] ++ wr ((x :: xs)[n - 1]'hnl).toNat ++ sh (b.drop (i + n)) ++ [93] = _; rw [← hJ, hd, sh_long hn (by omega) hnl, hdn]; simp, by show (s ++ wr x.toNat ++ [45] ++ wr ((x :: xs)[n - 1]'hnl).toNat).length + 9 * (b.length - (i + n)) ≤ 2400; rw [List.length_append, List.length_append, List.length_append]; simp only [List.length_cons, List.length_nil] at hxl ⊢; omega, hb256, hkk⟩ (by show b.length - (i + n) < b.length - i; omega)
        · refine X.mv rfl rfl rfl rfl rfl ?_
          refine X.skip rfl rfl rfl ?_
          refine X.skip rfl rfl rfl ?_
          refine X.skip rfl rfl rfl ?_
          refine X.skip rfl rfl rfl ?_
          refine X.skip rfl rfl rfl ?_
          refine X.skip rfl rfl rfl ?_
          refine X.skip rfl rfl rfl ?_
          refine X.skip rfl rfl rfl ?_
          refine X.skip rfl rfl rfl ?_
          refine X.skip rfl rfl rfl ?_
          refine X.skip rfl rfl rfl ?_
          refine X.skip rfl rfl rfl ?_
          refine X.skip rfl rfl rfl ?_
          refine X.pickF rfl rfl rfl rfl rfl rfl ?_
          refine X.done [(3, _), (4, _), (5, _), (6, _), (25, _), (26, _), (27, _), (28, _), (29, _), (30, _), (31, _), (32, _), (33, _), (34, _), (35, _), (36, _), (37, _), (38, _), (39, _), (40, _), (41, _), (42, _), (43, _), (44, _), (45, _)] ⟨rfl, rfl, rfl, rfl, rfl, rfl, rfl, rfl, rfl, rfl, rfl, rfl, rfl, rfl, rfl, rfl, rfl, rfl, rfl, rfl, rfl, rfl, rfl, rfl, rfl, trivial⟩ ?_
          refine N.then ?_
          refine E.condF rfl ?_
          refine E.exit ?_
          refine N.thenX ?_
          refine N.loopX ?_
          refine N.blkX ?_
          refine N.then ?_
          refine E.seq ?_
          have hn : n = 1 + rl (x.toNat + 1) xs := by first | (rw [rl_stop (show n < (x :: xs).length by omega) (by assumption)] at hrl; omega) | (rw [rl_end (show ¬ n < (x :: xs).length by omega)] at hrl; omega)
          have hnl : n - 1 < (x :: xs).length := by omega
          have hw1 := wr_len x.toNat
          have hw2 := wr_len ((x :: xs)[n - 1]'hnl).toNat
          have hdn : b.drop (i + n) = (x :: xs).drop n := by rw [← List.drop_drop, hd]
          have hd1 : b.drop (i + 1) = xs := by rw [← List.drop_drop, hd]; rfl
          refine E.region ?_
          refine X.mv rfl rfl rfl rfl rfl ?_
          refine X.geq rfl rfl rfl rfl rfl rfl ?_
          refine X.done [(3, _), (4, _), (5, _), (6, _), (25, _), (26, _), (27, _), (28, _), (29, _), (30, _), (31, _), (32, _), (33, _), (34, _), (35, _), (36, _), (37, _), (38, _), (39, _), (40, _), (41, _), (42, _), (43, _), (44, _), (45, _), (48, _), (49, _)] ⟨rfl, rfl, rfl, rfl, rfl, rfl, rfl, rfl, rfl, rfl, rfl, rfl, rfl, rfl, rfl, rfl, rfl, rfl, rfl, rfl, rfl, rfl, rfl, rfl, rfl, rfl, rfl, trivial⟩ ?_
          refine N.then ?_
          refine E.condD rfl (fun hc => ?_) (fun hc => ?_)
          · refine E.seq ?_
            refine E.regionD (fun _ => True) [(0, .pu), (1, .pu), (2, .pu), (3, .pu), (7, .pu), (8, .pu), (9, .pu), (10, .pu), (11, .pu), (12, .pu), (4, .mv), (5, .pu), (6, .pu), (13, .mv), (14, .pu), (15, .pu)] Tryd.mixed (by kernel_rfl) (trivial) ?_
            refine X.mv rfl rfl rfl rfl rfl ?_
            refine X.mv rfl rfl rfl rfl rfl ?_
            refine X.mv rfl rfl rfl rfl rfl ?_
            refine X.ixS rfl rfl rfl rfl rfl rfl Tryd.underlying9 (by omega) (by exact hx0) ?_
            refine X.mv rfl rfl rfl rfl rfl ?_
            refine X.mv rfl rfl rfl rfl rfl ?_
            refine X.mv rfl rfl rfl rfl rfl ?_
            refine X.addE (zz := ((i + n : Nat) : Int)) rfl rfl rfl rfl rfl rfl (by rw [IntWalk.i64_in _ (by omega)] <;> omega) ?_
            refine X.sbE (zz := ((i + (n - 1) : Nat) : Int)) rfl rfl rfl rfl rfl rfl (by rw [IntWalk.i64_in _ (by omega)] <;> omega) ?_
            refine X.ixS rfl rfl rfl rfl rfl rfl Tryd.underlying9 (by omega) (by rw [show ((i + (n - 1) : Nat) : Int).toNat = i + (n - 1) from rfl]; exact drop_at hd hnl) ?_
            refine X.call rfl rfl rfl rfl rfl Tryd.cl44 (byte_ct x.toNat _ (UInt8.toNat_lt _)) ?_
            rintro _ H7 ⟨rfl, hk7⟩
            replace hkk := hkk.trans hk7 (by simp)
            refine X.cat rfl rfl rfl rfl rfl rfl (by omega) ?_
            refine X.cat rfl rfl rfl rfl rfl rfl (by rw [List.length_append]; show s.length + (wr x.toNat).length + 1 ≤ _; omega) ?_
            refine X.call rfl rfl rfl rfl rfl Tryd.cl44 (byte_ct ((x :: xs)[n - 1]'hnl).toNat _ (UInt8.toNat_lt _)) ?_
            rintro _ H8 ⟨rfl, hk8⟩
            replace hkk := hkk.trans hk8 (by simp)
            refine X.cat rfl rfl rfl rfl rfl rfl (by rw [List.length_append, List.length_append]; show s.length + (wr x.toNat).length + 1 + (wr _).length ≤ _; omega) ?_
            refine X.asg rfl rfl rfl rfl rfl ?_
            refine X.done [(3, _), (4, _), (5, _), (6, _), (25, _), (26, _), (27, _), (28, _), (29, _), (30, _), (31, _), (32, _), (33, _), (34, _), (35, _), (36, _), (37, _), (38, _), (39, _), (40, _), (41, _), (42, _), (43, _), (44, _), (45, _), (48, _), (49, _), (50, _), (51, _), (52, _), (53, _), (57, _), (58, _), (59, _), (60, _), (61, _), (62, _), (54, _), (55, _), (56, _), (63, _), (64, _)] ⟨rfl, rfl, rfl, rfl, rfl, rfl, rfl, rfl, rfl, rfl, rfl, rfl, rfl, rfl, rfl, rfl, rfl, rfl, rfl, rfl, rfl, rfl, rfl, rfl, rfl, rfl, rfl, rfl, rfl, rfl, rfl, rfl, rfl, rfl, rfl, rfl, rfl, rfl, rfl, rfl, rfl, rfl, trivial⟩ ?_
            refine N.then ?_
            refine E.region ?_
            refine X.mv rfl rfl rfl rfl rfl ?_
            refine X.mv rfl rfl rfl rfl rfl ?_
            refine X.add rfl rfl rfl rfl rfl rfl (by omega) ?_
            refine X.asg rfl rfl rfl rfl rfl ?_
            refine X.done [(3, _), (4, _), (5, _), (6, _), (25, _), (26, _), (27, _), (28, _), (29, _), (30, _), (31, _), (32, _), (33, _), (34, _), (35, _), (36, _), (37, _), (38, _), (39, _), (40, _), (41, _), (42, _), (43, _), (44, _), (45, _), (48, _), (49, _), (50, _), (51, _), (52, _), (53, _), (57, _), (58, _), (59, _), (60, _), (61, _), (62, _), (54, _), (55, _), (56, _), (63, _), (64, _), (65, _), (66, _), (67, _)] ⟨rfl, rfl, rfl, rfl, rfl, rfl, rfl, rfl, rfl, rfl, rfl, rfl, rfl, rfl, rfl, rfl, rfl, rfl, rfl, rfl, rfl, rfl, rfl, rfl, rfl, rfl, rfl, rfl, rfl, rfl, rfl, rfl, rfl, rfl, rfl, rfl, rfl, rfl, rfl, rfl, rfl, rfl, rfl, rfl, rfl, trivial⟩ ?_
            refine N.blk ?_
            first | exact N.next (G := fun (q : Bs × Bs × Nat) => _) (b, s ++ wr x.toNat, i + 1) ⟨rfl, rfl, rfl, trivial⟩ ⟨by show i + 1 ≤ b.length; omega, by show s ++ wr x.toNat ++ sh (b.drop (i + 1)) ++ [93] = _; rw [← hJ, hd, sh_short hn (by omega), hd1]; simp, by show (s ++ wr x.toNat).length + 9 * (b.length - (i + 1)) ≤ 2400; rw [List.length_append]; omega, hb256, hkk⟩ (by show b.length - (i + 1) < b.length - i; omega) | exact N.next (G := fun (q : Bs × Bs × Nat) => _) (b, s ++ wr x.toNat ++ [45] ++ wr ((x :: xs)[n - 1]'hnl).toNat, i + n) ⟨rfl, rfl, rfl, trivial⟩ ⟨by show i + n ≤ b.length; omega, by show s ++ wr x.toNat ++ [45] ++ wr ((x :: xs)[n - 1]'hnl).toNat ++ sh (b.drop (i + n)) ++ [93] = _; rw [← hJ, hd, sh_long hn (by omega) hnl, hdn]; simp, by show (s ++ wr x.toNat ++ [45] ++ wr ((x :: xs)[n - 1]'hnl).toNat).length + 9 * (b.length - (i + n)) ≤ 2400; rw [List.length_append, List.length_append, List.length_append]; simp only [List.length_cons, List.length_nil] at hxl ⊢; omega, hb256, hkk⟩ (by show b.length - (i + n) < b.length - i; omega)
          · refine E.seq ?_
            refine E.region ?_
            refine X.mv rfl rfl rfl rfl rfl ?_
            refine X.mv rfl rfl rfl rfl rfl ?_
            refine X.mv rfl rfl rfl rfl rfl ?_
            refine X.ixS rfl rfl rfl rfl rfl rfl Tryd.underlying9 (by omega) (by exact hx0) ?_
            refine X.call rfl rfl rfl rfl rfl Tryd.cl44 (byte_ct x.toNat _ (UInt8.toNat_lt _)) ?_
            rintro _ H7 ⟨rfl, hk7⟩
            replace hkk := hkk.trans hk7 (by simp)
            refine X.cat rfl rfl rfl rfl rfl rfl (by omega) ?_
            refine X.asg rfl rfl rfl rfl rfl ?_
            refine X.done [(3, _), (4, _), (5, _), (6, _), (25, _), (26, _), (27, _), (28, _), (29, _), (30, _), (31, _), (32, _), (33, _), (34, _), (35, _), (36, _), (37, _), (38, _), (39, _), (40, _), (41, _), (42, _), (43, _), (44, _), (45, _), (48, _), (49, _), (68, _), (69, _), (70, _), (71, _), (72, _), (73, _)] ⟨rfl, rfl, rfl, rfl, rfl, rfl, rfl, rfl, rfl, rfl, rfl, rfl, rfl, rfl, rfl, rfl, rfl, rfl, rfl, rfl, rfl, rfl, rfl, rfl, rfl, rfl, rfl, rfl, rfl, rfl, rfl, rfl, rfl, trivial⟩ ?_
            refine N.then ?_
            refine E.region ?_
            refine X.mv rfl rfl rfl rfl rfl ?_
            refine X.add rfl rfl rfl rfl rfl rfl (by omega) ?_
            refine X.asg rfl rfl rfl rfl rfl ?_
            refine X.done [(3, _), (4, _), (5, _), (6, _), (25, _), (26, _), (27, _), (28, _), (29, _), (30, _), (31, _), (32, _), (33, _), (34, _), (35, _), (36, _), (37, _), (38, _), (39, _), (40, _), (41, _), (42, _), (43, _), (44, _), (45, _), (48, _), (49, _), (68, _), (69, _), (70, _), (71, _), (72, _), (73, _), (74, _), (75, _)] ⟨rfl, rfl, rfl, rfl, rfl, rfl, rfl, rfl, rfl, rfl, rfl, rfl, rfl, rfl, rfl, rfl, rfl, rfl, rfl, rfl, rfl, rfl, rfl, rfl, rfl, rfl, rfl, rfl, rfl, rfl, rfl, rfl, rfl, rfl, rfl, trivial⟩ ?_
            refine N.blk ?_
            first | exact N.next (G := fun (q : Bs × Bs × Nat) => _) (b, s ++ wr x.toNat, i + 1) ⟨rfl, rfl, rfl, trivial⟩ ⟨by show i + 1 ≤ b.length; omega, by show s ++ wr x.toNat ++ sh (b.drop (i + 1)) ++ [93] = _; rw [← hJ, hd, sh_short hn (by omega), hd1]; simp, by show (s ++ wr x.toNat).length + 9 * (b.length - (i + 1)) ≤ 2400; rw [List.length_append]; omega, hb256, hkk⟩ (by show b.length - (i + 1) < b.length - i; omega) | exact N.next (G := fun (q : Bs × Bs × Nat) => _) (b, s ++ wr x.toNat ++ [45] ++ wr ((x :: xs)[n - 1]'hnl).toNat, i + n) ⟨rfl, rfl, rfl, trivial⟩ ⟨by show i + n ≤ b.length; omega, by show s ++ wr x.toNat ++ [45] ++ wr ((x :: xs)[n - 1]'hnl).toNat ++ sh (b.drop (i + n)) ++ [93] = _; rw [← hJ, hd, sh_long hn (by omega) hnl, hdn]; simp, by show (s ++ wr x.toNat ++ [45] ++ wr ((x :: xs)[n - 1]'hnl).toNat).length + 9 * (b.length - (i + n)) ≤ 2400; rw [List.length_append, List.length_append, List.length_append]; simp only [List.length_cons, List.length_nil] at hxl ⊢; omega, hb256, hkk⟩ (by show b.length - (i + n) < b.length - i; omega)
      · refine E.exit ?_
        refine N.thenX ?_
        refine N.loopX ?_
        refine N.blkX ?_
        refine N.then ?_
        refine E.seq ?_
        refine E.region ?_
        refine X.mv rfl rfl rfl rfl rfl ?_
        refine X.cat rfl rfl rfl rfl rfl rfl (by show s.length + 1 ≤ _; omega) ?_
        refine X.asg rfl rfl rfl rfl rfl ?_
        refine X.done [(2, _)] ⟨rfl, trivial⟩ ?_
        refine N.then ?_
        refine E.ret ?_
        have hb0 : b.drop i = [] := List.drop_eq_nil_of_le (Int.ofNat_le.1 (Int.not_lt.1 (by assumption)))
        rw [hb0] at hJ
        exact N.retH [_] ⟨_, _, rfl, rfl, rfl⟩ ⟨by rw [← hJ, sh_nil, List.append_nil]; rfl, hkk⟩
    · refine E.skip ?_
      refine N.then ?_
      refine E.seq ?_
      refine E.seq ?_
      refine E.region ?_
      refine X.asg rfl rfl rfl rfl rfl ?_
      refine X.done [(2, _), (3, _), (4, _), (5, _)] ⟨rfl, rfl, rfl, rfl, trivial⟩ ?_
      refine N.then ?_
      refine E.block ?_
      -- MISSING in G: [2]
      refine E.loop (fun (q : Bs × Bs × Nat) => [(3, str q.1), (4, str q.2.1), (5, i64 q.2.2)]) (fun (q : Bs × Bs × Nat) H' => q.2.2 ≤ q.1.length ∧ q.2.1 ++ sh (q.1.drop q.2.2) ++ [93] = shw (els ws) (els (notW ws)) ∧ q.2.1.length + 9 * (q.1.length - q.2.2) ≤ 2400 ∧ q.1.length ≤ 256 ∧ Kp [] H H') (fun (q : Bs × Bs × Nat) => q.1.length - q.2.2) (_, _, 0) ⟨rfl, rfl, rfl, trivial⟩ (by first | exact ⟨Nat.zero_le _, shw_neg (by rw [← e1]; assumption) (by rw [← e1]; assumption), by have := els_len (notW ws); have := bts_len (els (notW ws)); show 2 + 9 * ((bts _).length - 0) ≤ 2400; omega, by show (bts _).length ≤ 256; rw [bts_len]; exact els_len _, hkk⟩ | exact ⟨Nat.zero_le _, shw_pos (by rw [← e1]; assumption) (by rw [← e1]; assumption), by have := els_len ws; have := bts_len (els ws); show 1 + 9 * ((bts _).length - 0) ≤ 2400; omega, by show (bts _).length ≤ 256; rw [bts_len]; exact els_len _, hkk⟩) ?_
      clear hkk
      rintro ⟨b, s, i⟩ H6 hJ
      dsimp only at hJ ⊢
      obtain ⟨hib, hJ, hlen, hb256, hkk⟩ := hJ
      refine E.seq ?_
      refine E.seq ?_
      refine E.region ?_
      refine X.mv rfl rfl rfl rfl rfl ?_
      refine X.mv rfl rfl rfl rfl rfl ?_
      refine X.lenL rfl rfl rfl rfl rfl Tryd.underlying9 ?_
      refine X.lss rfl rfl rfl rfl rfl rfl ?_
      refine X.done [(3, _), (4, _), (5, _), (21, _), (22, _), (23, _), (24, _)] ⟨rfl, rfl, rfl, rfl, rfl, rfl, rfl, trivial⟩ ?_
      refine N.then ?_
      refine E.condD rfl (fun hc => ?_) (fun hc => ?_)
      · refine E.skip ?_
        refine N.then ?_
        refine E.block ?_
        refine E.seq ?_
        have hi2 : i < b.length := Int.ofNat_lt.1 (by assumption)
        obtain ⟨x, xs, hd⟩ : ∃ x xs, b.drop i = x :: xs := ⟨_, _, List.drop_eq_getElem_cons hi2⟩
        have hxl : (x :: xs).length = b.length - i := by rw [← hd, List.length_drop]
        have hx0 : b[i]? = some x := drop_at (n := 0) hd (Nat.zero_lt_succ _)
        refine E.region ?_
        refine X.asg rfl rfl rfl rfl rfl ?_
        refine X.done [(3, _), (4, _), (5, _), (21, _), (22, _), (23, _), (24, _), (6, _)] ⟨rfl, rfl, rfl, rfl, rfl, rfl, rfl, rfl, trivial⟩ ?_
        refine N.then ?_
        refine E.seq ?_
        refine E.block ?_
        -- MISSING in G: [21, 22, 23, 24]
        refine E.loop (fun (n : Nat) => [(3, str b), (4, str s), (5, i64 i), (6, i64 n)]) (fun (n : Nat) H' => H' = H6 ∧ 1 ≤ n ∧ n ≤ (x :: xs).length ∧ n + rl (x.toNat + n) ((x :: xs).drop n) = 1 + rl (x.toNat + 1) xs) (fun (n : Nat) => (x :: xs).length - n) 1 ⟨rfl, rfl, rfl, rfl, trivial⟩ ⟨rfl, Nat.le_refl _, by show 1 ≤ xs.length + 1; omega, rl_first x xs⟩ ?_
        rintro n H7 ⟨eH, hn1, hn2, hrl⟩
        obtain rfl := eH.symm
        refine E.seq ?_
        refine E.seq ?_
        refine E.regionD (fun _ => True) [(0, .pu), (1, .pu), (2, .pu), (3, .pu), (4, .pu), (5, .pu), (6, .pu), (7, .pu), (8, .pu), (9, .pu), (10, .pu), (11, .pu), (12, .pu), (13, .pu), (14, .pu), (15, .pu), (16, .pu), (17, .pu), (18, .pu), (19, .pu), (20, .pu)] Tryd.mixed (by kernel_rfl) (trivial) ?_
        refine X.mv rfl rfl rfl rfl rfl ?_
        refine X.mv rfl rfl rfl rfl rfl ?_
        refine X.addE (zz := ((i + n : Nat) : Int)) rfl rfl rfl rfl rfl rfl (by rw [IntWalk.i64_in _ (by omega)] <;> omega) ?_
        refine X.mv rfl rfl rfl rfl rfl ?_
        refine X.lenL rfl rfl rfl rfl rfl Tryd.underlying9 ?_
        refine X.lssC rfl rfl rfl rfl rfl rfl (fun hc => ?_) (fun hc => ?_)
        · refine X.mv rfl rfl rfl rfl rfl ?_
          refine X.mv rfl rfl rfl rfl rfl ?_
          refine X.mv rfl rfl rfl rfl rfl ?_
          refine X.mv rfl rfl rfl rfl rfl ?_
          refine X.addE (zz := ((i + n : Nat) : Int)) rfl rfl rfl rfl rfl rfl (by rw [IntWalk.i64_in _ (by omega)] <;> omega) ?_
          refine X.ixS rfl rfl rfl rfl rfl rfl Tryd.underlying9 (by omega) (drop_at hd (show n < (x :: xs).length by omega)) ?_
          refine X.convE rfl rfl rfl rfl rfl Tryd.underlying3 Tryd.us5 (u8i _) ?_
          refine X.mv rfl rfl rfl rfl rfl ?_
          refine X.mv rfl rfl rfl rfl rfl ?_
          refine X.ixS rfl rfl rfl rfl rfl rfl Tryd.underlying9 (by omega) (by exact hx0) ?_
          refine X.convE rfl rfl rfl rfl rfl Tryd.underlying3 Tryd.us5 (u8i _) ?_
          refine X.mv rfl rfl rfl rfl rfl ?_
          refine X.addE (zz := ((x.toNat : Int) + (n : Int))) rfl rfl rfl rfl rfl rfl (IntWalk.i64_in _ (by have := x.toNat_lt; show -9223372036854775808 ≤ (x.toNat : Int) + (n : Int) ∧ (x.toNat : Int) + (n : Int) ≤ 9223372036854775807; omega)) ?_
          refine X.eql rfl rfl rfl rfl rfl rfl ?_
          refine X.pickT rfl rfl rfl rfl rfl rfl ?_
          refine X.done [(3, _), (4, _), (5, _), (6, _), (25, _), (26, _), (27, _), (28, _), (29, _), (30, _), (31, _), (32, _), (33, _), (34, _), (35, _), (36, _), (37, _), (38, _), (39, _), (40, _), (41, _), (42, _), (43, _), (44, _), (45, _)] ⟨rfl, rfl, rfl, rfl, rfl, rfl, rfl, rfl, rfl, rfl, rfl, rfl, rfl, rfl, rfl, rfl, rfl, rfl, rfl, rfl, rfl, rfl, rfl, rfl, rfl, trivial⟩ ?_
          refine N.then ?_
          refine E.condD rfl (fun hc => ?_) (fun hc => ?_)
          · refine E.skip ?_
            refine N.then ?_
            refine E.block ?_
            refine E.region ?_
            refine X.mv rfl rfl rfl rfl rfl ?_
            refine X.add rfl rfl rfl rfl rfl rfl (by omega) ?_
            refine X.asg rfl rfl rfl rfl rfl ?_
            refine X.done [(3, _), (4, _), (5, _), (6, _), (25, _), (26, _), (27, _), (28, _), (29, _), (30, _), (31, _), (32, _), (33, _), (34, _), (35, _), (36, _), (37, _), (38, _), (39, _), (40, _), (41, _), (42, _), (43, _), (44, _), (45, _), (46, _), (47, _)] ⟨rfl, rfl, rfl, rfl, rfl, rfl, rfl, rfl, rfl, rfl, rfl, rfl, rfl, rfl, rfl, rfl, rfl, rfl, rfl, rfl, rfl, rfl, rfl, rfl, rfl, rfl, rfl, trivial⟩ ?_
            refine N.blk ?_
            exact N.next (n + 1) ⟨rfl, rfl, rfl, rfl, trivial⟩ ⟨rfl, by omega, by omega, by rw [rl_step (show n < (x :: xs).length by omega) (by assumption)] at hrl; rw [← hrl]; omega⟩ (by omega)
          · refine E.exit ?_
            refine N.thenX ?_
            refine N.loopX ?_
            refine N.blkX ?_
            refine N.then ?_
            refine E.seq ?_
            have hn : n = 1 + rl (x.toNat + 1) xs := by first | (rw [rl_stop (show n < (x :: xs).length by omega) (by assumption)] at hrl; omega) | (rw [rl_end (show ¬ n < (x :: xs).length by omega)] at hrl; omega)
            have hnl : n - 1 < (x :: xs).length := by omega
            have hw1 := wr_len x.toNat
            have hw2 := wr_len ((x :: xs)[n - 1]'hnl).toNat
            have hdn : b.drop (i + n) = (x :: xs).drop n := by rw [← List.drop_drop, hd]
            have hd1 : b.drop (i + 1) = xs := by rw [← List.drop_drop, hd]; rfl
            refine E.region ?_
            refine X.mv rfl rfl rfl rfl rfl ?_
            refine X.geq rfl rfl rfl rfl rfl rfl ?_
            refine X.done [(3, _), (4, _), (5, _), (6, _), (25, _), (26, _), (27, _), (28, _), (29, _), (30, _), (31, _), (32, _), (33, _), (34, _), (35, _), (36, _), (37, _), (38, _), (39, _), (40, _), (41, _), (42, _), (43, _), (44, _), (45, _), (48, _), (49, _)] ⟨rfl, rfl, rfl, rfl, rfl, rfl, rfl, rfl, rfl, rfl, rfl, rfl, rfl, rfl, rfl, rfl, rfl, rfl, rfl, rfl, rfl, rfl, rfl, rfl, rfl, rfl, rfl, trivial⟩ ?_
            refine N.then ?_
            refine E.condD rfl (fun hc => ?_) (fun hc => ?_)
            · refine E.seq ?_
              refine E.regionD (fun _ => True) [(0, .pu), (1, .pu), (2, .pu), (3, .pu), (7, .pu), (8, .pu), (9, .pu), (10, .pu), (11, .pu), (12, .pu), (4, .mv), (5, .pu), (6, .pu), (13, .mv), (14, .pu), (15, .pu)] Tryd.mixed (by kernel_rfl) (trivial) ?_
              refine X.mv rfl rfl rfl rfl rfl ?_
              refine X.mv rfl rfl rfl rfl rfl ?_
              refine X.mv rfl rfl rfl rfl rfl ?_
              refine X.ixS rfl rfl rfl rfl rfl rfl Tryd.underlying9 (by omega) (by exact hx0) ?_
              refine X.mv rfl rfl rfl rfl rfl ?_
              refine X.mv rfl rfl rfl rfl rfl ?_
              refine X.mv rfl rfl rfl rfl rfl ?_
              refine X.addE (zz := ((i + n : Nat) : Int)) rfl rfl rfl rfl rfl rfl (by rw [IntWalk.i64_in _ (by omega)] <;> omega) ?_
              refine X.sbE (zz := ((i + (n - 1) : Nat) : Int)) rfl rfl rfl rfl rfl rfl (by rw [IntWalk.i64_in _ (by omega)] <;> omega) ?_
              refine X.ixS rfl rfl rfl rfl rfl rfl Tryd.underlying9 (by omega) (by rw [show ((i + (n - 1) : Nat) : Int).toNat = i + (n - 1) from rfl]; exact drop_at hd hnl) ?_
              refine X.call rfl rfl rfl rfl rfl Tryd.cl44 (byte_ct x.toNat _ (UInt8.toNat_lt _)) ?_
              rintro _ H7 ⟨rfl, hk7⟩
              replace hkk := hkk.trans hk7 (by simp)
              refine X.cat rfl rfl rfl rfl rfl rfl (by omega) ?_
              refine X.cat rfl rfl rfl rfl rfl rfl (by rw [List.length_append]; show s.length + (wr x.toNat).length + 1 ≤ _; omega) ?_
              refine X.call rfl rfl rfl rfl rfl Tryd.cl44 (byte_ct ((x :: xs)[n - 1]'hnl).toNat _ (UInt8.toNat_lt _)) ?_
              rintro _ H8 ⟨rfl, hk8⟩
              replace hkk := hkk.trans hk8 (by simp)
              refine X.cat rfl rfl rfl rfl rfl rfl (by rw [List.length_append, List.length_append]; show s.length + (wr x.toNat).length + 1 + (wr _).length ≤ _; omega) ?_
              refine X.asg rfl rfl rfl rfl rfl ?_
              refine X.done [(3, _), (4, _), (5, _), (6, _), (25, _), (26, _), (27, _), (28, _), (29, _), (30, _), (31, _), (32, _), (33, _), (34, _), (35, _), (36, _), (37, _), (38, _), (39, _), (40, _), (41, _), (42, _), (43, _), (44, _), (45, _), (48, _), (49, _), (50, _), (51, _), (52, _), (53, _), (57, _), (58, _), (59, _), (60, _), (61, _), (62, _), (54, _), (55, _), (56, _), (63, _), (64, _)] ⟨rfl, rfl, rfl, rfl, rfl, rfl, rfl, rfl, rfl, rfl, rfl, rfl, rfl, rfl, rfl, rfl, rfl, rfl, rfl, rfl, rfl, rfl, rfl, rfl, rfl, rfl, rfl, rfl, rfl, rfl, rfl, rfl, rfl, rfl, rfl, rfl, rfl, rfl, rfl, rfl, rfl, rfl, trivial⟩ ?_
              refine N.then ?_
              refine E.region ?_
              refine X.mv rfl rfl rfl rfl rfl ?_
              refine X.mv rfl rfl rfl rfl rfl ?_
              refine X.add rfl rfl rfl rfl rfl rfl (by omega) ?_
              refine X.asg rfl rfl rfl rfl rfl ?_
              refine X.done [(3, _), (4, _), (5, _), (6, _), (25, _), (26, _), (27, _), (28, _), (29, _), (30, _), (31, _), (32, _), (33, _), (34, _), (35, _), (36, _), (37, _), (38, _), (39, _), (40, _), (41, _), (42, _), (43, _), (44, _), (45, _), (48, _), (49, _), (50, _), (51, _), (52, _), (53, _), (57, _), (58, _), (59, _), (60, _), (61, _), (62, _), (54, _), (55, _), (56, _), (63, _), (64, _), (65, _), (66, _), (67, _)] ⟨rfl, rfl, rfl, rfl, rfl, rfl, rfl, rfl, rfl, rfl, rfl, rfl, rfl, rfl, rfl, rfl, rfl, rfl, rfl, rfl, rfl, rfl, rfl, rfl, rfl, rfl, rfl, rfl, rfl, rfl, rfl, rfl, rfl, rfl, rfl, rfl, rfl, rfl, rfl, rfl, rfl, rfl, rfl, rfl, rfl, trivial⟩ ?_
              refine N.blk ?_
              first | exact N.next (G := fun (q : Bs × Bs × Nat) => _) (b, s ++ wr x.toNat, i + 1) ⟨rfl, rfl, rfl, trivial⟩ ⟨by show i + 1 ≤ b.length; omega, by show s ++ wr x.toNat ++ sh (b.drop (i + 1)) ++ [93] = _; rw [← hJ, hd, sh_short hn (by omega), hd1]; simp, by show (s ++ wr x.toNat).length + 9 * (b.length - (i + 1)) ≤ 2400; rw [List.length_append]; omega, hb256, hkk⟩ (by show b.length - (i + 1) < b.length - i; omega) | exact N.next (G := fun (q : Bs × Bs × Nat) => _) (b, s ++ wr x.toNat ++ [45] ++ wr ((x :: xs)[n - 1]'hnl).toNat, i + n) ⟨rfl, rfl, rfl, trivial⟩ ⟨by show i + n ≤ b.length; omega, by show s ++ wr x.toNat ++ [45] ++ wr ((x :: xs)[n - 1]'hnl).toNat ++ sh (b.drop (i + n)) ++ [93] = _; rw [← hJ, hd, sh_long hn (by omega) hnl, hdn]; simp, by show (s ++ wr x.toNat ++ [45] ++ wr ((x :: xs)[n - 1]'hnl).toNat).length + 9 * (b.length - (i + n)) ≤ 2400; rw [List.length_append, List.length_append, List.length_append]; simp only [List.length_cons, List.length_nil] at hxl ⊢; omega, hb256, hkk⟩ (by show b.length - (i + n) < b.length - i; omega)
            · refine E.seq ?_
              refine E.region ?_
              refine X.mv rfl rfl rfl rfl rfl ?_
              refine X.mv rfl rfl rfl rfl rfl ?_
              refine X.mv rfl rfl rfl rfl rfl ?_
              refine X.ixS rfl rfl rfl rfl rfl rfl Tryd.underlying9 (by omega) (by exact hx0) ?_
              refine X.call rfl rfl rfl rfl rfl Tryd.cl44 (byte_ct x.toNat _ (UInt8.toNat_lt _)) ?_
              rintro _ H7 ⟨rfl, hk7⟩
              replace hkk := hkk.trans hk7 (by simp)
              refine X.cat rfl rfl rfl rfl rfl rfl (by omega) ?_
              refine X.asg rfl rfl rfl rfl rfl ?_
              refine X.done [(3, _), (4, _), (5, _), (6, _), (25, _), (26, _), (27, _), (28, _), (29, _), (30, _), (31, _), (32, _), (33, _), (34, _), (35, _), (36, _), (37, _), (38, _), (39, _), (40, _), (41, _), (42, _), (43, _), (44, _), (45, _), (48, _), (49, _), (68, _), (69, _), (70, _), (71, _), (72, _), (73, _)] ⟨rfl, rfl, rfl, rfl, rfl, rfl, rfl, rfl, rfl, rfl, rfl, rfl, rfl, rfl, rfl, rfl, rfl, rfl, rfl, rfl, rfl, rfl, rfl, rfl, rfl, rfl, rfl, rfl, rfl, rfl, rfl, rfl, rfl, trivial⟩ ?_
              refine N.then ?_
              refine E.region ?_
              refine X.mv rfl rfl rfl rfl rfl ?_
              refine X.add rfl rfl rfl rfl rfl rfl (by omega) ?_
              refine X.asg rfl rfl rfl rfl rfl ?_
              refine X.done [(3, _), (4, _), (5, _), (6, _), (25, _), (26, _), (27, _), (28, _), (29, _), (30, _), (31, _), (32, _), (33, _), (34, _), (35, _), (36, _), (37, _), (38, _), (39, _), (40, _), (41, _), (42, _), (43, _), (44, _), (45, _), (48, _), (49, _), (68, _), (69, _), (70, _), (71, _), (72, _), (73, _), (74, _), (75, _)] ⟨rfl, rfl, rfl, rfl, rfl, rfl, rfl, rfl, rfl, rfl, rfl, rfl, rfl, rfl, rfl, rfl, rfl, rfl, rfl, rfl, rfl, rfl, rfl, rfl, rfl, rfl, rfl, rfl, rfl, rfl, rfl, rfl, rfl, rfl, rfl, trivial⟩ ?_
              refine N.blk ?_
              first | exact N.next (G := fun (q : Bs × Bs × Nat) => _) (b, s ++ wr x.toNat, i + 1) ⟨rfl, rfl, rfl, trivial⟩ ⟨by show i + 1 ≤ b.length; omega, by show s ++ wr x.toNat ++ sh (b.drop (i + 1)) ++ [93] = _; rw [← hJ, hd, sh_short hn (by omega), hd1]; simp, by show (s ++ wr x.toNat).length + 9 * (b.length - (i + 1)) ≤ 2400; rw [List.length_append]; omega, hb256, hkk⟩ (by show b.length - (i + 1) < b.length - i; omega) | exact N.next (G := fun (q : Bs × Bs × Nat) => _) (b, s ++ wr x.toNat ++ [45] ++ wr ((x :: xs)[n - 1]'hnl).toNat, i + n) ⟨rfl, rfl, rfl, trivial⟩ ⟨by show i + n ≤ b.length; omega, by show s ++ wr x.toNat ++ [45] ++ wr ((x :: xs)[n - 1]'hnl).toNat ++ sh (b.drop (i + n)) ++ [93] = _; rw [← hJ, hd, sh_long hn (by omega) hnl, hdn]; simp, by show (s ++ wr x.toNat ++ [45] ++ wr ((x :: xs)[n - 1]'hnl).toNat).length + 9 * (b.length - (i + n)) ≤ 2400; rw [List.length_append, List.length_append, List.length_append]; simp only [List.length_cons, List.length_nil] at hxl ⊢; omega, hb256, hkk⟩ (by show b.length - (i + n) < b.length - i; omega)
        · refine X.mv rfl rfl rfl rfl rfl ?_
          refine X.skip rfl rfl rfl ?_
          refine X.skip rfl rfl rfl ?_
          refine X.skip rfl rfl rfl ?_
          refine X.skip rfl rfl rfl ?_
          refine X.skip rfl rfl rfl ?_
          refine X.skip rfl rfl rfl ?_
          refine X.skip rfl rfl rfl ?_
          refine X.skip rfl rfl rfl ?_
          refine X.skip rfl rfl rfl ?_
          refine X.skip rfl rfl rfl ?_
          refine X.skip rfl rfl rfl ?_
          refine X.skip rfl rfl rfl ?_
          refine X.skip rfl rfl rfl ?_
          refine X.pickF rfl rfl rfl rfl rfl rfl ?_
          refine X.done [(3, _), (4, _), (5, _), (6, _), (25, _), (26, _), (27, _), (28, _), (29, _), (30, _), (31, _), (32, _), (33, _), (34, _), (35, _), (36, _), (37, _), (38, _), (39, _), (40, _), (41, _), (42, _), (43, _), (44, _), (45, _)] ⟨rfl, rfl, rfl, rfl, rfl, rfl, rfl, rfl, rfl, rfl, rfl, rfl, rfl, rfl, rfl, rfl, rfl, rfl, rfl, rfl, rfl, rfl, rfl, rfl, rfl, trivial⟩ ?_
          refine N.then ?_
          refine E.condF rfl ?_
          refine E.exit ?_
          refine N.thenX ?_
          refine N.loopX ?_
          refine N.blkX ?_
          refine N.then ?_
          refine E.seq ?_
          have hn : n = 1 + rl (x.toNat + 1) xs := by first | (rw [rl_stop (show n < (x :: xs).length by omega) (by assumption)] at hrl; omega) | (rw [rl_end (show ¬ n < (x :: xs).length by omega)] at hrl; omega)
          have hnl : n - 1 < (x :: xs).length := by omega
          have hw1 := wr_len x.toNat
          have hw2 := wr_len ((x :: xs)[n - 1]'hnl).toNat
          have hdn : b.drop (i + n) = (x :: xs).drop n := by rw [← List.drop_drop, hd]
          have hd1 : b.drop (i + 1) = xs := by rw [← List.drop_drop, hd]; rfl
          refine E.region ?_
          refine X.mv rfl rfl rfl rfl rfl ?_
          refine X.geq rfl rfl rfl rfl rfl rfl ?_
          refine X.done [(3, _), (4, _), (5, _), (6, _), (25, _), (26, _), (27, _), (28, _), (29, _), (30, _), (31, _), (32, _), (33, _), (34, _), (35, _), (36, _), (37, _), (38, _), (39, _), (40, _), (41, _), (42, _), (43, _), (44, _), (45, _), (48, _), (49, _)] ⟨rfl, rfl, rfl, rfl, rfl, rfl, rfl, rfl, rfl, rfl, rfl, rfl, rfl, rfl, rfl, rfl, rfl, rfl, rfl, rfl, rfl, rfl, rfl, rfl, rfl, rfl, rfl, trivial⟩ ?_
          refine N.then ?_
          refine E.condD rfl (fun hc => ?_) (fun hc => ?_)
          · refine E.seq ?_
            refine E.regionD (fun _ => True) [(0, .pu), (1, .pu), (2, .pu), (3, .pu), (7, .pu), (8, .pu), (9, .pu), (10, .pu), (11, .pu), (12, .pu), (4, .mv), (5, .pu), (6, .pu), (13, .mv), (14, .pu), (15, .pu)] Tryd.mixed (by kernel_rfl) (trivial) ?_
            refine X.mv rfl rfl rfl rfl rfl ?_
            refine X.mv rfl rfl rfl rfl rfl ?_
            refine X.mv rfl rfl rfl rfl rfl ?_
            refine X.ixS rfl rfl rfl rfl rfl rfl Tryd.underlying9 (by omega) (by exact hx0) ?_
            refine X.mv rfl rfl rfl rfl rfl ?_
            refine X.mv rfl rfl rfl rfl rfl ?_
            refine X.mv rfl rfl rfl rfl rfl ?_
            refine X.addE (zz := ((i + n : Nat) : Int)) rfl rfl rfl rfl rfl rfl (by rw [IntWalk.i64_in _ (by omega)] <;> omega) ?_
            refine X.sbE (zz := ((i + (n - 1) : Nat) : Int)) rfl rfl rfl rfl rfl rfl (by rw [IntWalk.i64_in _ (by omega)] <;> omega) ?_
            refine X.ixS rfl rfl rfl rfl rfl rfl Tryd.underlying9 (by omega) (by rw [show ((i + (n - 1) : Nat) : Int).toNat = i + (n - 1) from rfl]; exact drop_at hd hnl) ?_
            refine X.call rfl rfl rfl rfl rfl Tryd.cl44 (byte_ct x.toNat _ (UInt8.toNat_lt _)) ?_
            rintro _ H7 ⟨rfl, hk7⟩
            replace hkk := hkk.trans hk7 (by simp)
            refine X.cat rfl rfl rfl rfl rfl rfl (by omega) ?_
            refine X.cat rfl rfl rfl rfl rfl rfl (by rw [List.length_append]; show s.length + (wr x.toNat).length + 1 ≤ _; omega) ?_
            refine X.call rfl rfl rfl rfl rfl Tryd.cl44 (byte_ct ((x :: xs)[n - 1]'hnl).toNat _ (UInt8.toNat_lt _)) ?_
            rintro _ H8 ⟨rfl, hk8⟩
            replace hkk := hkk.trans hk8 (by simp)
            refine X.cat rfl rfl rfl rfl rfl rfl (by rw [List.length_append, List.length_append]; show s.length + (wr x.toNat).length + 1 + (wr _).length ≤ _; omega) ?_
            refine X.asg rfl rfl rfl rfl rfl ?_
            refine X.done [(3, _), (4, _), (5, _), (6, _), (25, _), (26, _), (27, _), (28, _), (29, _), (30, _), (31, _), (32, _), (33, _), (34, _), (35, _), (36, _), (37, _), (38, _), (39, _), (40, _), (41, _), (42, _), (43, _), (44, _), (45, _), (48, _), (49, _), (50, _), (51, _), (52, _), (53, _), (57, _), (58, _), (59, _), (60, _), (61, _), (62, _), (54, _), (55, _), (56, _), (63, _), (64, _)] ⟨rfl, rfl, rfl, rfl, rfl, rfl, rfl, rfl, rfl, rfl, rfl, rfl, rfl, rfl, rfl, rfl, rfl, rfl, rfl, rfl, rfl, rfl, rfl, rfl, rfl, rfl, rfl, rfl, rfl, rfl, rfl, rfl, rfl, rfl, rfl, rfl, rfl, rfl, rfl, rfl, rfl, rfl, trivial⟩ ?_
            refine N.then ?_
            refine E.region ?_
            refine X.mv rfl rfl rfl rfl rfl ?_
            refine X.mv rfl rfl rfl rfl rfl ?_
            refine X.add rfl rfl rfl rfl rfl rfl (by omega) ?_
            refine X.asg rfl rfl rfl rfl rfl ?_
            refine X.done [(3, _), (4, _), (5, _), (6, _), (25, _), (26, _), (27, _), (28, _), (29, _), (30, _), (31, _), (32, _), (33, _), (34, _), (35, _), (36, _), (37, _), (38, _), (39, _), (40, _), (41, _), (42, _), (43, _), (44, _), (45, _), (48, _), (49, _), (50, _), (51, _), (52, _), (53, _), (57, _), (58, _), (59, _), (60, _), (61, _), (62, _), (54, _), (55, _), (56, _), (63, _), (64, _), (65, _), (66, _), (67, _)] ⟨rfl, rfl, rfl, rfl, rfl, rfl, rfl, rfl, rfl, rfl, rfl, rfl, rfl, rfl, rfl, rfl, rfl, rfl, rfl, rfl, rfl, rfl, rfl, rfl, rfl, rfl, rfl, rfl, rfl, rfl, rfl, rfl, rfl, rfl, rfl, rfl, rfl, rfl, rfl, rfl, rfl, rfl, rfl, rfl, rfl, trivial⟩ ?_
            refine N.blk ?_
            first | exact N.next (G := fun (q : Bs × Bs × Nat) => _) (b, s ++ wr x.toNat, i + 1) ⟨rfl, rfl, rfl, trivial⟩ ⟨by show i + 1 ≤ b.length; omega, by show s ++ wr x.toNat ++ sh (b.drop (i + 1)) ++ [93] = _; rw [← hJ, hd, sh_short hn (by omega), hd1]; simp, by show (s ++ wr x.toNat).length + 9 * (b.length - (i + 1)) ≤ 2400; rw [List.length_append]; omega, hb256, hkk⟩ (by show b.length - (i + 1) < b.length - i; omega) | exact N.next (G := fun (q : Bs × Bs × Nat) => _) (b, s ++ wr x.toNat ++ [45] ++ wr ((x :: xs)[n - 1]'hnl).toNat, i + n) ⟨rfl, rfl, rfl, trivial⟩ ⟨by show i + n ≤ b.length; omega, by show s ++ wr x.toNat ++ [45] ++ wr ((x :: xs)[n - 1]'hnl).toNat ++ sh (b.drop (i + n)) ++ [93] = _; rw [← hJ, hd, sh_long hn (by omega) hnl, hdn]; simp, by show (s ++ wr x.toNat ++ [45] ++ wr ((x :: xs)[n - 1]'hnl).toNat).length + 9 * (b.length - (i + n)) ≤ 2400; rw [List.length_append, List.length_append, List.length_append]; simp only [List.length_cons, List.length_nil] at hxl ⊢; omega, hb256, hkk⟩ (by show b.length - (i + n) < b.length - i; omega)
          · refine E.seq ?_
            refine E.region ?_
            refine X.mv rfl rfl rfl rfl rfl ?_
            refine X.mv rfl rfl rfl rfl rfl ?_
            refine X.mv rfl rfl rfl rfl rfl ?_
            refine X.ixS rfl rfl rfl rfl rfl rfl Tryd.underlying9 (by omega) (by exact hx0) ?_
            refine X.call rfl rfl rfl rfl rfl Tryd.cl44 (byte_ct x.toNat _ (UInt8.toNat_lt _)) ?_
            rintro _ H7 ⟨rfl, hk7⟩
            replace hkk := hkk.trans hk7 (by simp)
            refine X.cat rfl rfl rfl rfl rfl rfl (by omega) ?_
            refine X.asg rfl rfl rfl rfl rfl ?_
            refine X.done [(3, _), (4, _), (5, _), (6, _), (25, _), (26, _), (27, _), (28, _), (29, _), (30, _), (31, _), (32, _), (33, _), (34, _), (35, _), (36, _), (37, _), (38, _), (39, _), (40, _), (41, _), (42, _), (43, _), (44, _), (45, _), (48, _), (49, _), (68, _), (69, _), (70, _), (71, _), (72, _), (73, _)] ⟨rfl, rfl, rfl, rfl, rfl, rfl, rfl, rfl, rfl, rfl, rfl, rfl, rfl, rfl, rfl, rfl, rfl, rfl, rfl, rfl, rfl, rfl, rfl, rfl, rfl, rfl, rfl, rfl, rfl, rfl, rfl, rfl, rfl, trivial⟩ ?_
            refine N.then ?_
            refine E.region ?_
            refine X.mv rfl rfl rfl rfl rfl ?_
            refine X.add rfl rfl rfl rfl rfl rfl (by omega) ?_
            refine X.asg rfl rfl rfl rfl rfl ?_
            refine X.done [(3, _), (4, _), (5, _), (6, _), (25, _), (26, _), (27, _), (28, _), (29, _), (30, _), (31, _), (32, _), (33, _), (34, _), (35, _), (36, _), (37, _), (38, _), (39, _), (40, _), (41, _), (42, _), (43, _), (44, _), (45, _), (48, _), (49, _), (68, _), (69, _), (70, _), (71, _), (72, _), (73, _), (74, _), (75, _)] ⟨rfl, rfl, rfl, rfl, rfl, rfl, rfl, rfl, rfl, rfl, rfl, rfl, rfl, rfl, rfl, rfl, rfl, rfl, rfl, rfl, rfl, rfl, rfl, rfl, rfl, rfl, rfl, rfl, rfl, rfl, rfl, rfl, rfl, rfl, rfl, trivial⟩ ?_
            refine N.blk ?_
            first | exact N.next (G := fun (q : Bs × Bs × Nat) => _) (b, s ++ wr x.toNat, i + 1) ⟨rfl, rfl, rfl, trivial⟩ ⟨by show i + 1 ≤ b.length; omega, by show s ++ wr x.toNat ++ sh (b.drop (i + 1)) ++ [93] = _; rw [← hJ, hd, sh_short hn (by omega), hd1]; simp, by show (s ++ wr x.toNat).length + 9 * (b.length - (i + 1)) ≤ 2400; rw [List.length_append]; omega, hb256, hkk⟩ (by show b.length - (i + 1) < b.length - i; omega) | exact N.next (G := fun (q : Bs × Bs × Nat) => _) (b, s ++ wr x.toNat ++ [45] ++ wr ((x :: xs)[n - 1]'hnl).toNat, i + n) ⟨rfl, rfl, rfl, trivial⟩ ⟨by show i + n ≤ b.length; omega, by show s ++ wr x.toNat ++ [45] ++ wr ((x :: xs)[n - 1]'hnl).toNat ++ sh (b.drop (i + n)) ++ [93] = _; rw [← hJ, hd, sh_long hn (by omega) hnl, hdn]; simp, by show (s ++ wr x.toNat ++ [45] ++ wr ((x :: xs)[n - 1]'hnl).toNat).length + 9 * (b.length - (i + n)) ≤ 2400; rw [List.length_append, List.length_append, List.length_append]; simp only [List.length_cons, List.length_nil] at hxl ⊢; omega, hb256, hkk⟩ (by show b.length - (i + n) < b.length - i; omega)
      · refine E.exit ?_
        refine N.thenX ?_
        refine N.loopX ?_
        refine N.blkX ?_
        refine N.then ?_
        refine E.seq ?_
        refine E.region ?_
        refine X.mv rfl rfl rfl rfl rfl ?_
        refine X.cat rfl rfl rfl rfl rfl rfl (by show s.length + 1 ≤ _; omega) ?_
        refine X.asg rfl rfl rfl rfl rfl ?_
        refine X.done [(2, _)] ⟨rfl, trivial⟩ ?_
        refine N.then ?_
        refine E.ret ?_
        have hb0 : b.drop i = [] := List.drop_eq_nil_of_le (Int.ofNat_le.1 (Int.not_lt.1 (by assumption)))
        rw [hb0] at hJ
        exact N.retH [_] ⟨_, _, rfl, rfl, rfl⟩ ⟨by rw [← hJ, sh_nil, List.append_nil]; rfl, hkk⟩

end Go.Proofs.YtcandjdomeompaaDoor
