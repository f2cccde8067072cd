/- The walks: a set as it is written. -/
import Derived.Test.YtcandjdomeompaaDoorZ6
namespace Go.Proofs.YtcandjdomeompaaDoor
open Go.SX Go.Chr
attribute [local irreducible] X E N Ct
set_option linter.unusedVariables false
set_option linter.unusedSimpArgs false

theorem u8i (c : UInt8) : IntKind.i64.wrap (c.toNat : Int) = (c.toNat : Int) := by
  have := c.toNat_lt; exact IntWalk.i64_in _ (by omega)
theorem rl_stop {x n : Nat} {s : Bs} (h : n < s.length) (e : ¬ (((s[n]'h).toNat : Int) = (x : Int) + (n : Int))) : rl (x + n) (s.drop n) = 0 := by
  rw [List.drop_eq_getElem_cons h, rl, if_neg (by omega)]
theorem rl_step {x n : Nat} {s : Bs} (h : n < s.length) (e : ((s[n]'h).toNat : Int) = (x : Int) + (n : Int)) : rl (x + n) (s.drop n) = 1 + rl (x + (n + 1)) (s.drop (n + 1)) := by
  rw [List.drop_eq_getElem_cons h, rl, if_pos (by omega), Nat.add_assoc]
theorem rl_end {y n : Nat} {s : Bs} (h : ¬ n < s.length) : rl y (s.drop n) = 0 := by
  rw [List.drop_eq_nil_of_le (by omega)]; rfl
theorem rl_first (x : UInt8) (xs : Bs) : 1 + rl (x.toNat + 1) ((x :: xs).drop 1) = 1 + rl (x.toNat + 1) xs := rfl
theorem sh_long {x : UInt8} {xs : Bs} {n : Nat} (hn : n = 1 + rl (x.toNat + 1) xs) (h3 : 3 ≤ n) (hl : n - 1 < (x :: xs).length) : sh (x :: xs) = wr x.toNat ++ [45] ++ wr ((x :: xs)[n - 1]'hl).toNat ++ sh ((x :: xs).drop n) := by
  obtain ⟨m, rfl⟩ : ∃ m, n = m + 1 := ⟨n - 1, by omega⟩
  have hm : rl (x.toNat + 1) xs = m := by omega
  rw [sh_cons, if_pos (by omega), hm]
  have e : (x :: xs).getD m 0 = (x :: xs)[m + 1 - 1]'hl := by
    show ((x :: xs)[m]?).getD 0 = _
    rw [List.getElem?_eq_getElem (show m < (x :: xs).length from hl)]; rfl
  rw [e]; simp
theorem sh_short {x : UInt8} {xs : Bs} {n : Nat} (hn : n = 1 + rl (x.toNat + 1) xs) (h3 : ¬ 3 ≤ n) : sh (x :: xs) = wr x.toNat ++ sh xs := by
  rw [sh_cons, if_neg (by omega)]
theorem shw_pos {l m : List Nat} (h1 : ¬ ((l.length : Int) = 1)) (h2 : ¬ ((128 : Int) < (l.length : Int))) : [91] ++ sh (bts l) ++ [93] = shw l m := by
  rw [shw, if_neg (by omega), if_neg (by omega)]; rfl
theorem shw_neg {l m : List Nat} (h1 : ¬ ((l.length : Int) = 1)) (h2 : (128 : Int) < (l.length : Int)) : [91, 94] ++ sh (bts m) ++ [93] = shw l m := by
  rw [shw, if_neg (by omega), if_pos (by omega)]; rfl
theorem bts_one {l : List Nat} (h : (l.length : Int) = 1) (hl : ∀ c ∈ l, c < 256) {m : List Nat} : ∃ c, (bts l)[0]? = some c ∧ wr c.toNat = shw l m := by
  match l, h with
  | [c], _ => exact ⟨u8 c, rfl, by rw [u8_nat (hl c (by simp))]; simp [shw]⟩
theorem drop_at {b : Bs} {i n : Nat} {x : UInt8} {xs : Bs} (h : b.drop i = x :: xs) (hn : n < (x :: xs).length) : b[i + n]? = some ((x :: xs)[n]'hn) := by
  rw [← List.getElem?_drop, h]; exact List.getElem?_eq_getElem hn
theorem wrl (s : Bs) {k : Nat} (c : Nat) (h : s.length ≤ k) : s.length + (wr c).length ≤ k + 4 := by
  have := wr_len c; omega

theorem show_ct (ws : List Nat) (H : Heap) (hw : Ws ws) (hT : Tab H) : Ct Tryd.prog 28 #[agg4 ws] H fun v H' => v = str (shw (els ws) (els (notW ws))) ∧ Kp [] H H' := by
  refine Ct.into 64 Tryd.func28 rfl [(0, agg4 ws)] rfl ⟨rfl, trivial⟩ ?_
  refine E.seq ?_
  refine E.region ?_
  refine X.box rfl rfl rfl rfl rfl rfl ?_
  intro ba H1 hn1 hba hkk
  refine X.asg rfl rfl rfl rfl rfl ?_
  refine X.done [(1, _), (2, _)] ⟨rfl, rfl, trivial⟩ ?_
  refine N.then ?_
  refine E.seq ?_
  refine E.seq ?_
  refine E.region ?_
  refine X.ldA rfl rfl rfl rfl Tryd.ag36 Tryd.sz36 (hba) (uv4 hw) zoff ?_
  refine X.call rfl rfl rfl rfl rfl Tryd.cl37 (count_ct ws H1 hw) ?_
  rintro _ H2 ⟨rfl, hk2⟩
  replace hba := hk2.keep hba (by simp)
  replace hkk := hkk.trans hk2 (by simp)
  refine X.eql rfl rfl rfl rfl rfl rfl ?_
  refine X.done [(1, _), (2, _), (8, _)] ⟨rfl, rfl, rfl, trivial⟩ ?_
  refine N.then ?_
  refine E.condD rfl (fun hc => ?_) (fun hc => ?_)
  · refine E.seq ?_
    obtain ⟨c1, hc1, hc1v⟩ := bts_one (m := els (notW ws)) (by assumption) els_lt
    refine E.region ?_
    refine X.ldA rfl rfl rfl rfl Tryd.ag36 Tryd.sz36 (hba) (uv4 hw) zoff ?_
    refine X.call rfl rfl rfl rfl rfl Tryd.cl39 (bytes_ct ws H2 hw (hT.keep hkk)) ?_
    rintro _ H3 ⟨rfl, hk3⟩
    replace hkk := hkk.trans hk3 (by simp)
    refine X.ixS rfl rfl rfl rfl rfl rfl Tryd.underlying9 (by omega) (by exact hc1) ?_
    refine X.call rfl rfl rfl rfl rfl Tryd.cl38 (written_ct c1.toNat _ (UInt8.toNat_lt _)) ?_
    rintro _ H4 ⟨rfl, hk4⟩
    replace hkk := hkk.trans hk4 (by simp)
    refine X.asg rfl rfl rfl rfl rfl ?_
    refine X.done [(1, _), (2, _)] ⟨rfl, rfl, trivial⟩ ?_
    refine N.then ?_
    refine E.ret ?_
    refine N.thenR ?_
    exact N.retH [_] ⟨_, _, rfl, rfl, rfl⟩ ⟨by rw [hc1v]; rfl, hkk⟩
  · refine E.skip ?_
    refine N.then ?_
    refine E.seq ?_
    refine E.region ?_
    refine X.asg rfl rfl rfl rfl rfl ?_
    refine X.done [(1, _), (2, _), (3, _)] ⟨rfl, rfl, rfl, trivial⟩ ?_
    refine N.then ?_
    refine E.seq ?_
    refine E.seq ?_
    refine E.region ?_
    refine X.ldA rfl rfl rfl rfl Tryd.ag36 Tryd.sz36 (hba) (uv4 hw) zoff ?_
    refine X.call rfl rfl rfl rfl rfl Tryd.cl37 (count_ct ws H2 hw) ?_
    rintro _ H3 ⟨rfl, hk3⟩
    replace hba := hk3.keep hba (by simp)
    replace hkk := hkk.trans hk3 (by simp)
    have HU : ∃ us, us = ws ∧ Ws us ∧ H3[ba]? = some (.cells (uv us).toArray 36 (0, 0)) := ⟨_, rfl, hw, hba⟩
    refine X.gtr rfl rfl rfl rfl rfl rfl ?_
    refine X.done [(1, _), (2, _), (3, _), (15, _)] ⟨rfl, rfl, rfl, rfl, trivial⟩ ?_
    refine N.then ?_
    refine E.condD rfl (fun hc => ?_) (fun hc => ?_)
    · refine E.region ?_
      refine X.ldA rfl rfl rfl rfl Tryd.ag36 Tryd.sz36 (hba) (uv4 hw) zoff ?_
      refine X.call rfl rfl rfl rfl rfl Tryd.cl40 (not_ct ws H3 hw) ?_
      rintro _ H9 ⟨rfl, hk9⟩
      replace hba := hk9.keep hba (by simp)
      replace hkk := hkk.trans hk9 (by simp)
      refine X.asg rfl rfl rfl rfl rfl ?_
      refine X.stA rfl rfl rfl rfl rfl rfl (uv_one _) Tryd.sz36 hba (by rw [uv4 hw.not, uv4 hw]; decide) ?_
      intro H4 hba4 hk4
      rw [splice_all (by rw [uv4 hw.not, uv4 hw])] at hba4
      replace hkk := hkk.trans hk4 (by simp; exact hn1)
      clear HU
      have HU : ∃ us, us = notW ws ∧ Ws us ∧ H4[ba]? = some (.cells (uv us).toArray 36 (0, 0)) := ⟨_, rfl, hw.not, hba4⟩
      refine X.done [(1, _), (2, _), (3, _)] ⟨rfl, rfl, rfl, trivial⟩ ?_
      refine N.then ?_
      refine E.seq ?_
      refine E.seq ?_
      obtain ⟨us, hus, hu, hba⟩ := HU
      have hu4 : (uv us).length = 4 := uv4 hu
      refine E.region ?_
      refine X.ldA rfl rfl rfl rfl Tryd.ag36 Tryd.sz36 (hba) hu4 zoff ?_
      refine X.call rfl rfl rfl rfl rfl Tryd.cl39 (bytes_ct us _ hu (hT.keep hkk)) ?_
      rintro _ H5 ⟨rfl, hk5⟩
      replace hkk := hkk.trans hk5 (by simp)
      rw [hus]
      refine X.asg rfl rfl rfl rfl rfl ?_
      refine X.done [(2, _), (3, _), (4, _)] ⟨rfl, rfl, rfl, trivial⟩ ?_
      refine N.then ?_
      refine E.block ?_
      -- MISSING in G: [2]
      refine E.loop (fun (q : Bs × Bs) => [(3, str q.1), (4, str q.2)]) (fun (q : Bs × Bs) H' => q.1 ++ sh q.2 ++ [93] = shw (els ws) (els (notW ws)) ∧ q.1.length + 9 * q.2.length ≤ 2400 ∧ Kp [] H H') (fun (q : Bs × Bs) => q.2.length) (_, _) ⟨rfl, rfl, trivial⟩ (by first | exact ⟨shw_neg (by assumption) (by assumption), by have := els_len (notW ws); have := bts_len (els (notW ws)); show 2 + 9 * (bts _).length ≤ 2400; omega, hkk⟩ | exact ⟨shw_pos (by assumption) (by assumption), by have := els_len ws; have := bts_len (els ws); show 1 + 9 * (bts _).length ≤ 2400; omega, hkk⟩) ?_
      clear hkk
      rintro ⟨s, b⟩ H6 hJ
      dsimp only at hJ ⊢
      obtain ⟨hJ, hlen, hkk⟩ := hJ
      refine E.seq ?_
      refine E.seq ?_
      refine E.region ?_
      refine X.mv rfl rfl rfl rfl rfl ?_
      refine X.neqS rfl rfl rfl rfl rfl rfl ?_
      refine X.done [(3, _), (4, _), (20, _), (21, _)] ⟨rfl, rfl, rfl, rfl, trivial⟩ ?_
      refine N.then ?_
      refine E.condD rfl (fun hc => ?_) (fun hc => ?_)
      · refine E.skip ?_
        refine N.then ?_
        refine E.block ?_
        refine E.seq ?_
        obtain ⟨x, xs, rfl⟩ := List.exists_cons_of_ne_nil (show b ≠ [] by assumption)
        refine E.region ?_
        refine X.asg rfl rfl rfl rfl rfl ?_
        refine X.done [(3, _), (4, _), (20, _), (21, _), (5, _)] ⟨rfl, rfl, rfl, rfl, rfl, trivial⟩ ?_
        refine N.then ?_
        refine E.seq ?_
        refine E.block ?_
        -- MISSING in G: [20, 21]
        refine E.loop (fun (n : Nat) => [(3, str s), (4, str (x :: xs)), (5, i64 n)]) (fun (n : Nat) H' => H' = H6 ∧ 1 ≤ n ∧ n ≤ (x :: xs).length ∧ n + rl (x.toNat + n) ((x :: xs).drop n) = 1 + rl (x.toNat + 1) xs) (fun (n : Nat) => (x :: xs).length - n) 1 ⟨rfl, rfl, rfl, trivial⟩ ⟨rfl, Nat.le_refl _, by show 1 ≤ xs.length + 1; omega, rl_first x xs⟩ ?_
        rintro n H7 ⟨eH, hn1, hn2, hrl⟩
        obtain rfl := eH.symm
        have hxl : (x :: xs).length = xs.length + 1 := rfl
        refine E.seq ?_
        refine E.seq ?_
        refine E.regionD (fun _ => True) [(0, .pu), (1, .pu), (2, .pu), (3, .pu), (4, .pu), (5, .pu), (6, .pu), (7, .pu), (8, .pu), (9, .pu), (10, .pu), (11, .pu), (12, .pu), (13, .pu), (14, .pu), (15, .pu)] Tryd.mixed (by kernel_rfl) (trivial) ?_
        refine X.mv rfl rfl rfl rfl rfl ?_
        refine X.mv rfl rfl rfl rfl rfl ?_
        refine X.lenL rfl rfl rfl rfl rfl Tryd.underlying9 ?_
        refine X.lssC rfl rfl rfl rfl rfl rfl (fun hc => ?_) (fun hc => ?_)
        · refine X.mv rfl rfl rfl rfl rfl ?_
          refine X.mv rfl rfl rfl rfl rfl ?_
          refine X.mv rfl rfl rfl rfl rfl ?_
          refine X.ixS rfl rfl rfl rfl rfl rfl Tryd.underlying9 (by omega) (List.getElem?_eq_getElem (Int.ofNat_lt.1 (by assumption))) ?_
          refine X.convE rfl rfl rfl rfl rfl Tryd.underlying3 Tryd.us5 (u8i _) ?_
          refine X.mv rfl rfl rfl rfl rfl ?_
          refine X.ixS rfl rfl rfl rfl rfl rfl Tryd.underlying9 (by omega) (rfl) ?_
          refine X.convE rfl rfl rfl rfl rfl Tryd.underlying3 Tryd.us5 (u8i _) ?_
          refine X.mv rfl rfl rfl rfl rfl ?_
          refine X.addE (zz := ((x.toNat : Int) + (n : Int))) rfl rfl rfl rfl rfl rfl (IntWalk.i64_in _ (by have := x.toNat_lt; omega)) ?_
          refine X.eql rfl rfl rfl rfl rfl rfl ?_
          refine X.pickT rfl rfl rfl rfl rfl rfl ?_
          refine X.done [(3, _), (4, _), (5, _), (22, _), (23, _), (24, _), (25, _), (26, _), (27, _), (28, _), (29, _), (30, _), (31, _), (32, _), (33, _), (34, _), (35, _), (36, _), (37, _)] ⟨rfl, rfl, rfl, rfl, rfl, rfl, rfl, rfl, rfl, rfl, rfl, rfl, rfl, rfl, rfl, rfl, rfl, rfl, rfl, trivial⟩ ?_
          refine N.then ?_
          refine E.condD rfl (fun hc => ?_) (fun hc => ?_)
          · refine E.skip ?_
            refine N.then ?_
            refine E.block ?_
            refine E.region ?_
            refine X.mv rfl rfl rfl rfl rfl ?_
            refine X.add rfl rfl rfl rfl rfl rfl (by omega) ?_
            refine X.asg rfl rfl rfl rfl rfl ?_
            refine X.done [(3, _), (4, _), (5, _), (22, _), (23, _), (24, _), (25, _), (26, _), (27, _), (28, _), (29, _), (30, _), (31, _), (32, _), (33, _), (34, _), (35, _), (36, _), (37, _), (38, _), (39, _)] ⟨rfl, rfl, rfl, rfl, rfl, rfl, rfl, rfl, rfl, rfl, rfl, rfl, rfl, rfl, rfl, rfl, rfl, rfl, rfl, rfl, rfl, trivial⟩ ?_
            refine N.blk ?_
            exact N.next (n + 1) ⟨rfl, rfl, rfl, trivial⟩ ⟨rfl, by omega, Int.ofNat_lt.1 (by assumption), by rw [rl_step (Int.ofNat_lt.1 (by assumption)) (by assumption)] at hrl; rw [← hrl]; omega⟩ (by have := Int.ofNat_lt.1 (show (n : Int) < ((x :: xs).length : Int) by assumption); omega)
          · refine E.exit ?_
            refine N.thenX ?_
            refine N.loopX ?_
            refine N.blkX ?_
            refine N.then ?_
            refine E.seq ?_
            refine E.seq ?_
            have hn : n = 1 + rl (x.toNat + 1) xs := by first | (rw [rl_stop (Int.ofNat_lt.1 (by assumption)) (by assumption)] at hrl; omega) | (rw [rl_end (fun h => absurd (Int.ofNat_lt.2 h) (by assumption))] at hrl; omega)
            have hrle := rl_le (x.toNat + 1) xs
            have hnl : n - 1 < (x :: xs).length := by show n - 1 < xs.length + 1; omega
            have hxl : (x :: xs).length = xs.length + 1 := rfl
            have hw1 := wr_len x.toNat
            have hw2 := wr_len ((x :: xs)[n - 1]'hnl).toNat
            refine E.region ?_
            refine X.mv rfl rfl rfl rfl rfl ?_
            refine X.lss rfl rfl rfl rfl rfl rfl ?_
            refine X.done [(3, _), (4, _), (5, _), (22, _), (23, _), (24, _), (25, _), (26, _), (27, _), (28, _), (29, _), (30, _), (31, _), (32, _), (33, _), (34, _), (35, _), (36, _), (37, _), (40, _), (41, _)] ⟨rfl, rfl, rfl, rfl, rfl, rfl, rfl, rfl, rfl, rfl, rfl, rfl, rfl, rfl, rfl, rfl, rfl, rfl, rfl, rfl, rfl, trivial⟩ ?_
            refine N.then ?_
            refine E.condD rfl (fun hc => ?_) (fun hc => ?_)
            · refine E.seq ?_
              refine E.region ?_
              refine X.asg rfl rfl rfl rfl rfl ?_
              refine X.done [(3, _), (4, _), (5, _), (22, _), (23, _), (24, _), (25, _), (26, _), (27, _), (28, _), (29, _), (30, _), (31, _), (32, _), (33, _), (34, _), (35, _), (36, _), (37, _), (40, _), (41, _)] ⟨rfl, rfl, rfl, rfl, rfl, rfl, rfl, rfl, rfl, rfl, rfl, rfl, rfl, rfl, rfl, rfl, rfl, rfl, rfl, rfl, rfl, trivial⟩ ?_
              refine N.then ?_
              refine E.region ?_
              refine X.mv rfl rfl rfl rfl rfl ?_
              refine X.mv rfl rfl rfl rfl rfl ?_
              refine X.ixS rfl rfl rfl rfl rfl rfl Tryd.underlying9 (by omega) (rfl) ?_
              refine X.call rfl rfl rfl rfl rfl Tryd.cl38 (written_ct x.toNat _ (UInt8.toNat_lt _)) ?_
              rintro _ H7 ⟨rfl, hk7⟩
              replace hkk := hkk.trans hk7 (by simp)
              refine X.cat rfl rfl rfl rfl rfl rfl (by omega) ?_
              refine X.asg rfl rfl rfl rfl rfl ?_
              refine X.done [(3, _), (4, _), (5, _), (22, _), (23, _), (24, _), (25, _), (26, _), (27, _), (28, _), (29, _), (30, _), (31, _), (32, _), (33, _), (34, _), (35, _), (36, _), (37, _), (40, _), (41, _), (42, _), (43, _), (44, _), (45, _), (46, _)] ⟨rfl, rfl, rfl, rfl, rfl, rfl, rfl, rfl, rfl, rfl, rfl, rfl, rfl, rfl, rfl, rfl, rfl, rfl, rfl, rfl, rfl, rfl, rfl, rfl, rfl, rfl, trivial⟩ ?_
              refine N.then ?_
              refine E.region ?_
              refine X.mv rfl rfl rfl rfl rfl ?_
              refine X.mv rfl rfl rfl rfl rfl ?_
              refine X.slS1 rfl rfl rfl rfl rfl rfl Tryd.underlying9 (by rw [hxl]; omega) ?_
              refine X.asg rfl rfl rfl rfl rfl ?_
              refine X.done [(3, _), (4, _), (5, _), (22, _), (23, _), (24, _), (25, _), (26, _), (27, _), (28, _), (29, _), (30, _), (31, _), (32, _), (33, _), (34, _), (35, _), (36, _), (37, _), (40, _), (41, _), (42, _), (43, _), (44, _), (45, _), (46, _), (59, _), (60, _), (61, _)] ⟨rfl, rfl, rfl, rfl, rfl, rfl, rfl, rfl, rfl, rfl, rfl, rfl, rfl, rfl, rfl, rfl, rfl, rfl, rfl, rfl, rfl, rfl, rfl, rfl, rfl, rfl, rfl, rfl, rfl, trivial⟩ ?_
              refine N.blk ?_
              first | exact N.next (G := fun (q : Bs × Bs) => _) (s ++ wr x.toNat, xs) ⟨rfl, rfl, trivial⟩ ⟨by rw [← hJ, sh_short hn (by omega)]; simp, by show (s ++ wr x.toNat).length + 9 * xs.length ≤ 2400; rw [List.length_append]; rw [hxl] at hlen; omega, hkk⟩ (by show xs.length < xs.length + 1; omega) | exact N.next (G := fun (q : Bs × Bs) => _) (s ++ (wr x.toNat ++ [45] ++ wr ((x :: xs)[n - 1]'hnl).toNat), (x :: xs).drop n) ⟨rfl, rfl, trivial⟩ ⟨by rw [← hJ, sh_long hn (by omega) hnl]; simp, by show (s ++ (wr x.toNat ++ [45] ++ wr ((x :: xs)[n - 1]'hnl).toNat)).length + 9 * ((x :: xs).drop n).length ≤ 2400; rw [List.length_drop, List.length_append, List.length_append, List.length_append]; rw [hxl] at hlen ⊢; simp only [List.length_cons, List.length_nil]; omega, hkk⟩ (by show ((x :: xs).drop n).length < (x :: xs).length; rw [List.length_drop, hxl]; omega)
            · refine E.regionD (fun _ => True) [(0, .pu), (1, .pu), (2, .pu), (5, .pu), (6, .pu), (7, .pu), (8, .pu), (3, .mv), (4, .pu), (9, .mv), (10, .pu), (11, .pu), (12, .pu)] Tryd.mixed (by kernel_rfl) (trivial) ?_
              refine X.mv rfl rfl rfl rfl rfl ?_
              refine X.mv rfl rfl rfl rfl rfl ?_
              refine X.ixS rfl rfl rfl rfl rfl rfl Tryd.underlying9 (by omega) (rfl) ?_
              refine X.mv rfl rfl rfl rfl rfl ?_
              refine X.mv rfl rfl rfl rfl rfl ?_
              refine X.sbE (zz := ((n - 1 : Nat) : Int)) rfl rfl rfl rfl rfl rfl (by rw [IntWalk.i64_in _ (by omega)] <;> omega) ?_
              refine X.ixS rfl rfl rfl rfl rfl rfl Tryd.underlying9 (by omega) (List.getElem?_eq_getElem hnl) ?_
              refine X.call rfl rfl rfl rfl rfl Tryd.cl38 (written_ct x.toNat _ (UInt8.toNat_lt _)) ?_
              rintro _ H7 ⟨rfl, hk7⟩
              replace hkk := hkk.trans hk7 (by simp)
              refine X.cat rfl rfl rfl rfl rfl rfl (by show (wr x.toNat).length + 1 ≤ _; omega) ?_
              refine X.call rfl rfl rfl rfl rfl Tryd.cl38 (written_ct ((x :: xs)[n - 1]'hnl).toNat _ (UInt8.toNat_lt _)) ?_
              rintro _ H8 ⟨rfl, hk8⟩
              replace hkk := hkk.trans hk8 (by simp)
              refine X.cat rfl rfl rfl rfl rfl rfl (by rw [List.length_append]; show (wr x.toNat).length + 1 + (wr _).length ≤ _; omega) ?_
              refine X.cat rfl rfl rfl rfl rfl rfl (by rw [List.length_append, List.length_append]; show s.length + ((wr x.toNat).length + 1 + (wr _).length) ≤ _; omega) ?_
              refine X.asg rfl rfl rfl rfl rfl ?_
              refine X.done [(3, _), (4, _), (5, _), (22, _), (23, _), (24, _), (25, _), (26, _), (27, _), (28, _), (29, _), (30, _), (31, _), (32, _), (33, _), (34, _), (35, _), (36, _), (37, _), (40, _), (41, _), (47, _), (48, _), (49, _), (52, _), (53, _), (54, _), (55, _), (50, _), (51, _), (56, _), (57, _), (58, _)] ⟨rfl, rfl, rfl, rfl, rfl, rfl, rfl, rfl, rfl, rfl, rfl, rfl, rfl, rfl, rfl, rfl, rfl, rfl, rfl, rfl, rfl, rfl, rfl, rfl, rfl, rfl, rfl, rfl, rfl, rfl, rfl, rfl, rfl, trivial⟩ ?_
              refine N.then ?_
              refine E.region ?_
              refine X.mv rfl rfl rfl rfl rfl ?_
              refine X.mv rfl rfl rfl rfl rfl ?_
              refine X.slS1 rfl rfl rfl rfl rfl rfl Tryd.underlying9 (by rw [hxl]; omega) ?_
              refine X.asg rfl rfl rfl rfl rfl ?_
              refine X.done [(3, _), (4, _), (5, _), (22, _), (23, _), (24, _), (25, _), (26, _), (27, _), (28, _), (29, _), (30, _), (31, _), (32, _), (33, _), (34, _), (35, _), (36, _), (37, _), (40, _), (41, _), (47, _), (48, _), (49, _), (52, _), (53, _), (54, _), (55, _), (50, _), (51, _), (56, _), (57, _), (58, _), (59, _), (60, _), (61, _)] ⟨rfl, rfl, rfl, rfl, rfl, rfl, rfl, rfl, rfl, rfl, rfl, rfl, rfl, rfl, rfl, rfl, rfl, rfl, rfl, rfl, rfl, rfl, rfl, rfl, rfl, rfl, rfl, rfl, rfl, rfl, rfl, rfl, rfl, rfl, rfl, rfl, trivial⟩ ?_
              refine N.blk ?_
              first | exact N.next (G := fun (q : Bs × Bs) => _) (s ++ wr x.toNat, xs) ⟨rfl, rfl, trivial⟩ ⟨by rw [← hJ, sh_short hn (by omega)]; simp, by show (s ++ wr x.toNat).length + 9 * xs.length ≤ 2400; rw [List.length_append]; rw [hxl] at hlen; omega, hkk⟩ (by show xs.length < xs.length + 1; omega) | exact N.next (G := fun (q : Bs × Bs) => _) (s ++ (wr x.toNat ++ [45] ++ wr ((x :: xs)[n - 1]'hnl).toNat), (x :: xs).drop n) ⟨rfl, rfl, trivial⟩ ⟨by rw [← hJ, sh_long hn (by omega) hnl]; simp, by show (s ++ (wr x.toNat ++ [45] ++ wr ((x :: xs)[n - 1]'hnl).toNat)).length + 9 * ((x :: xs).drop n).length ≤ 2400; rw [List.length_drop, List.length_append, List.length_append, List.length_append]; rw [hxl] at hlen ⊢; simp only [List.length_cons, List.length_nil]; omega, hkk⟩ (by show ((x :: xs).drop n).length < (x :: xs).length; rw [List.length_drop, hxl]; omega)
        · refine X.mv rfl rfl rfl rfl rfl ?_
          refine X.skip rfl rfl rfl ?_
          refine X.skip rfl rfl rfl ?_
          refine X.skip rfl rfl rfl ?_
          refine X.skip rfl rfl rfl ?_
          refine X.skip rfl rfl rfl ?_
          refine X.skip rfl rfl rfl ?_
          refine X.skip rfl rfl rfl ?_
          refine X.skip rfl rfl rfl ?_
          refine X.skip rfl rfl rfl ?_
          refine X.skip rfl rfl rfl ?_
          refine X.pickF rfl rfl rfl rfl rfl rfl ?_
          refine X.done [(3, _), (4, _), (5, _), (22, _), (23, _), (24, _), (25, _), (26, _), (27, _), (28, _), (29, _), (30, _), (31, _), (32, _), (33, _), (34, _), (35, _), (36, _), (37, _)] ⟨rfl, rfl, rfl, rfl, rfl, rfl, rfl, rfl, rfl, rfl, rfl, rfl, rfl, rfl, rfl, rfl, rfl, rfl, rfl, trivial⟩ ?_
          refine N.then ?_
          refine E.condF rfl ?_
          refine E.exit ?_
          refine N.thenX ?_
          refine N.loopX ?_
          refine N.blkX ?_
          refine N.then ?_
          refine E.seq ?_
          refine E.seq ?_
          have hn : n = 1 + rl (x.toNat + 1) xs := by first | (rw [rl_stop (Int.ofNat_lt.1 (by assumption)) (by assumption)] at hrl; omega) | (rw [rl_end (fun h => absurd (Int.ofNat_lt.2 h) (by assumption))] at hrl; omega)
          have hrle := rl_le (x.toNat + 1) xs
          have hnl : n - 1 < (x :: xs).length := by show n - 1 < xs.length + 1; omega
          have hxl : (x :: xs).length = xs.length + 1 := rfl
          have hw1 := wr_len x.toNat
          have hw2 := wr_len ((x :: xs)[n - 1]'hnl).toNat
          refine E.region ?_
          refine X.mv rfl rfl rfl rfl rfl ?_
          refine X.lss rfl rfl rfl rfl rfl rfl ?_
          refine X.done [(3, _), (4, _), (5, _), (22, _), (23, _), (24, _), (25, _), (26, _), (27, _), (28, _), (29, _), (30, _), (31, _), (32, _), (33, _), (34, _), (35, _), (36, _), (37, _), (40, _), (41, _)] ⟨rfl, rfl, rfl, rfl, rfl, rfl, rfl, rfl, rfl, rfl, rfl, rfl, rfl, rfl, rfl, rfl, rfl, rfl, rfl, rfl, rfl, trivial⟩ ?_
          refine N.then ?_
          refine E.condD rfl (fun hc => ?_) (fun hc => ?_)
          · refine E.seq ?_
            refine E.region ?_
            refine X.asg rfl rfl rfl rfl rfl ?_
            refine X.done [(3, _), (4, _), (5, _), (22, _), (23, _), (24, _), (25, _), (26, _), (27, _), (28, _), (29, _), (30, _), (31, _), (32, _), (33, _), (34, _), (35, _), (36, _), (37, _), (40, _), (41, _)] ⟨rfl, rfl, rfl, rfl, rfl, rfl, rfl, rfl, rfl, rfl, rfl, rfl, rfl, rfl, rfl, rfl, rfl, rfl, rfl, rfl, rfl, trivial⟩ ?_
            refine N.then ?_
            refine E.region ?_
            refine X.mv rfl rfl rfl rfl rfl ?_
            refine X.mv rfl rfl rfl rfl rfl ?_
            refine X.ixS rfl rfl rfl rfl rfl rfl Tryd.underlying9 (by omega) (rfl) ?_
            refine X.call rfl rfl rfl rfl rfl Tryd.cl38 (written_ct x.toNat _ (UInt8.toNat_lt _)) ?_
            rintro _ H7 ⟨rfl, hk7⟩
            replace hkk := hkk.trans hk7 (by simp)
            refine X.cat rfl rfl rfl rfl rfl rfl (by omega) ?_
            refine X.asg rfl rfl rfl rfl rfl ?_
            refine X.done [(3, _), (4, _), (5, _), (22, _), (23, _), (24, _), (25, _), (26, _), (27, _), (28, _), (29, _), (30, _), (31, _), (32, _), (33, _), (34, _), (35, _), (36, _), (37, _), (40, _), (41, _), (42, _), (43, _), (44, _), (45, _), (46, _)] ⟨rfl, rfl, rfl, rfl, rfl, rfl, rfl, rfl, rfl, rfl, rfl, rfl, rfl, rfl, rfl, rfl, rfl, rfl, rfl, rfl, rfl, rfl, rfl, rfl, rfl, rfl, trivial⟩ ?_
            refine N.then ?_
            refine E.region ?_
            refine X.mv rfl rfl rfl rfl rfl ?_
            refine X.mv rfl rfl rfl rfl rfl ?_
            refine X.slS1 rfl rfl rfl rfl rfl rfl Tryd.underlying9 (by rw [hxl]; omega) ?_
            refine X.asg rfl rfl rfl rfl rfl ?_
            refine X.done [(3, _), (4, _), (5, _), (22, _), (23, _), (24, _), (25, _), (26, _), (27, _), (28, _), (29, _), (30, _), (31, _), (32, _), (33, _), (34, _), (35, _), (36, _), (37, _), (40, _), (41, _), (42, _), (43, _), (44, _), (45, _), (46, _), (59, _), (60, _), (61, _)] ⟨rfl, rfl, rfl, rfl, rfl, rfl, rfl, rfl, rfl, rfl, rfl, rfl, rfl, rfl, rfl, rfl, rfl, rfl, rfl, rfl, rfl, rfl, rfl, rfl, rfl, rfl, rfl, rfl, rfl, trivial⟩ ?_
            refine N.blk ?_
            first | exact N.next (G := fun (q : Bs × Bs) => _) (s ++ wr x.toNat, xs) ⟨rfl, rfl, trivial⟩ ⟨by rw [← hJ, sh_short hn (by omega)]; simp, by show (s ++ wr x.toNat).length + 9 * xs.length ≤ 2400; rw [List.length_append]; rw [hxl] at hlen; omega, hkk⟩ (by show xs.length < xs.length + 1; omega) | exact N.next (G := fun (q : Bs × Bs) => _) (s ++ (wr x.toNat ++ [45] ++ wr ((x :: xs)[n - 1]'hnl).toNat), (x :: xs).drop n) ⟨rfl, rfl, trivial⟩ ⟨by rw [← hJ, sh_long hn (by omega) hnl]; simp, by show (s ++ (wr x.toNat ++ [45] ++ wr ((x :: xs)[n - 1]'hnl).toNat)).length + 9 * ((x :: xs).drop n).length ≤ 2400; rw [List.length_drop, List.length_append, List.length_append, List.length_append]; rw [hxl] at hlen ⊢; simp only [List.length_cons, List.length_nil]; omega, hkk⟩ (by show ((x :: xs).drop n).length < (x :: xs).length; rw [List.length_drop, hxl]; omega)
          · refine E.regionD (fun _ => True) [(0, .pu), (1, .pu), (2, .pu), (5, .pu), (6, .pu), (7, .pu), (8, .pu), (3, .mv), (4, .pu), (9, .mv), (10, .pu), (11, .pu), (12, .pu)] Tryd.mixed (by kernel_rfl) (trivial) ?_
            refine X.mv rfl rfl rfl rfl rfl ?_
            refine X.mv rfl rfl rfl rfl rfl ?_
            refine X.ixS rfl rfl rfl rfl rfl rfl Tryd.underlying9 (by omega) (rfl) ?_
            refine X.mv rfl rfl rfl rfl rfl ?_
            refine X.mv rfl rfl rfl rfl rfl ?_
            refine X.sbE (zz := ((n - 1 : Nat) : Int)) rfl rfl rfl rfl rfl rfl (by rw [IntWalk.i64_in _ (by omega)] <;> omega) ?_
            refine X.ixS rfl rfl rfl rfl rfl rfl Tryd.underlying9 (by omega) (List.getElem?_eq_getElem hnl) ?_
            refine X.call rfl rfl rfl rfl rfl Tryd.cl38 (written_ct x.toNat _ (UInt8.toNat_lt _)) ?_
            rintro _ H7 ⟨rfl, hk7⟩
            replace hkk := hkk.trans hk7 (by simp)
            refine X.cat rfl rfl rfl rfl rfl rfl (by show (wr x.toNat).length + 1 ≤ _; omega) ?_
            refine X.call rfl rfl rfl rfl rfl Tryd.cl38 (written_ct ((x :: xs)[n - 1]'hnl).toNat _ (UInt8.toNat_lt _)) ?_
            rintro _ H8 ⟨rfl, hk8⟩
            replace hkk := hkk.trans hk8 (by simp)
            refine X.cat rfl rfl rfl rfl rfl rfl (by rw [List.length_append]; show (wr x.toNat).length + 1 + (wr _).length ≤ _; omega) ?_
            refine X.cat rfl rfl rfl rfl rfl rfl (by rw [List.length_append, List.length_append]; show s.length + ((wr x.toNat).length + 1 + (wr _).length) ≤ _; omega) ?_
            refine X.asg rfl rfl rfl rfl rfl ?_
            refine X.done [(3, _), (4, _), (5, _), (22, _), (23, _), (24, _), (25, _), (26, _), (27, _), (28, _), (29, _), (30, _), (31, _), (32, _), (33, _), (34, _), (35, _), (36, _), (37, _), (40, _), (41, _), (47, _), (48, _), (49, _), (52, _), (53, _), (54, _), (55, _), (50, _), (51, _), (56, _), (57, _), (58, _)] ⟨rfl, rfl, rfl, rfl, rfl, rfl, rfl, rfl, rfl, rfl, rfl, rfl, rfl, rfl, rfl, rfl, rfl, rfl, rfl, rfl, rfl, rfl, rfl, rfl, rfl, rfl, rfl, rfl, rfl, rfl, rfl, rfl, rfl, trivial⟩ ?_
            refine N.then ?_
            refine E.region ?_
            refine X.mv rfl rfl rfl rfl rfl ?_
            refine X.mv rfl rfl rfl rfl rfl ?_
            refine X.slS1 rfl rfl rfl rfl rfl rfl Tryd.underlying9 (by rw [hxl]; omega) ?_
            refine X.asg rfl rfl rfl rfl rfl ?_
            refine X.done [(3, _), (4, _), (5, _), (22, _), (23, _), (24, _), (25, _), (26, _), (27, _), (28, _), (29, _), (30, _), (31, _), (32, _), (33, _), (34, _), (35, _), (36, _), (37, _), (40, _), (41, _), (47, _), (48, _), (49, _), (52, _), (53, _), (54, _), (55, _), (50, _), (51, _), (56, _), (57, _), (58, _), (59, _), (60, _), (61, _)] ⟨rfl, rfl, rfl, rfl, rfl, rfl, rfl, rfl, rfl, rfl, rfl, rfl, rfl, rfl, rfl, rfl, rfl, rfl, rfl, rfl, rfl, rfl, rfl, rfl, rfl, rfl, rfl, rfl, rfl, rfl, rfl, rfl, rfl, rfl, rfl, rfl, trivial⟩ ?_
            refine N.blk ?_
            first | exact N.next (G := fun (q : Bs × Bs) => _) (s ++ wr x.toNat, xs) ⟨rfl, rfl, trivial⟩ ⟨by rw [← hJ, sh_short hn (by omega)]; simp, by show (s ++ wr x.toNat).length + 9 * xs.length ≤ 2400; rw [List.length_append]; rw [hxl] at hlen; omega, hkk⟩ (by show xs.length < xs.length + 1; omega) | exact N.next (G := fun (q : Bs × Bs) => _) (s ++ (wr x.toNat ++ [45] ++ wr ((x :: xs)[n - 1]'hnl).toNat), (x :: xs).drop n) ⟨rfl, rfl, trivial⟩ ⟨by rw [← hJ, sh_long hn (by omega) hnl]; simp, by show (s ++ (wr x.toNat ++ [45] ++ wr ((x :: xs)[n - 1]'hnl).toNat)).length + 9 * ((x :: xs).drop n).length ≤ 2400; rw [List.length_drop, List.length_append, List.length_append, List.length_append]; rw [hxl] at hlen ⊢; simp only [List.length_cons, List.length_nil]; omega, hkk⟩ (by show ((x :: xs).drop n).length < (x :: xs).length; rw [List.length_drop, hxl]; omega)
      · refine E.exit ?_
        refine N.thenX ?_
        refine N.loopX ?_
        refine N.blkX ?_
        refine N.then ?_
        refine E.seq ?_
        refine E.region ?_
        refine X.mv rfl rfl rfl rfl rfl ?_
        refine X.cat rfl rfl rfl rfl rfl rfl (by show s.length + 1 ≤ _; omega) ?_
        refine X.asg rfl rfl rfl rfl rfl ?_
        refine X.done [(2, _)] ⟨rfl, trivial⟩ ?_
        refine N.then ?_
        refine E.ret ?_
        have hb0 : b = [] := Classical.byContradiction (by assumption)
        subst hb0
        exact N.retH [_] ⟨_, _, rfl, rfl, rfl⟩ ⟨by rw [← hJ, sh_nil, List.append_nil]; rfl, hkk⟩
    · refine E.skip ?_
      refine N.then ?_
      refine E.seq ?_
      refine E.seq ?_
      obtain ⟨us, hus, hu, hba⟩ := HU
      have hu4 : (uv us).length = 4 := uv4 hu
      refine E.region ?_
      refine X.ldA rfl rfl rfl rfl Tryd.ag36 Tryd.sz36 (hba) hu4 zoff ?_
      refine X.call rfl rfl rfl rfl rfl Tryd.cl39 (bytes_ct us _ hu (hT.keep hkk)) ?_
      rintro _ H5 ⟨rfl, hk5⟩
      replace hkk := hkk.trans hk5 (by simp)
      rw [hus]
      refine X.asg rfl rfl rfl rfl rfl ?_
      refine X.done [(2, _), (3, _), (4, _)] ⟨rfl, rfl, rfl, trivial⟩ ?_
      refine N.then ?_
      refine E.block ?_
      -- MISSING in G: [2]
      refine E.loop (fun (q : Bs × Bs) => [(3, str q.1), (4, str q.2)]) (fun (q : Bs × Bs) H' => q.1 ++ sh q.2 ++ [93] = shw (els ws) (els (notW ws)) ∧ q.1.length + 9 * q.2.length ≤ 2400 ∧ Kp [] H H') (fun (q : Bs × Bs) => q.2.length) (_, _) ⟨rfl, rfl, trivial⟩ (by first | exact ⟨shw_neg (by assumption) (by assumption), by have := els_len (notW ws); have := bts_len (els (notW ws)); show 2 + 9 * (bts _).length ≤ 2400; omega, hkk⟩ | exact ⟨shw_pos (by assumption) (by assumption), by have := els_len ws; have := bts_len (els ws); show 1 + 9 * (bts _).length ≤ 2400; omega, hkk⟩) ?_
      clear hkk
      rintro ⟨s, b⟩ H6 hJ
      dsimp only at hJ ⊢
      obtain ⟨hJ, hlen, hkk⟩ := hJ
      refine E.seq ?_
      refine E.seq ?_
      refine E.region ?_
      refine X.mv rfl rfl rfl rfl rfl ?_
      refine X.neqS rfl rfl rfl rfl rfl rfl ?_
      refine X.done [(3, _), (4, _), (20, _), (21, _)] ⟨rfl, rfl, rfl, rfl, trivial⟩ ?_
      refine N.then ?_
      refine E.condD rfl (fun hc => ?_) (fun hc => ?_)
      · refine E.skip ?_
        refine N.then ?_
        refine E.block ?_
        refine E.seq ?_
        obtain ⟨x, xs, rfl⟩ := List.exists_cons_of_ne_nil (show b ≠ [] by assumption)
        refine E.region ?_
        refine X.asg rfl rfl rfl rfl rfl ?_
        refine X.done [(3, _), (4, _), (20, _), (21, _), (5, _)] ⟨rfl, rfl, rfl, rfl, rfl, trivial⟩ ?_
        refine N.then ?_
        refine E.seq ?_
        refine E.block ?_
        -- MISSING in G: [20, 21]
        refine E.loop (fun (n : Nat) => [(3, str s), (4, str (x :: xs)), (5, i64 n)]) (fun (n : Nat) H' => H' = H6 ∧ 1 ≤ n ∧ n ≤ (x :: xs).length ∧ n + rl (x.toNat + n) ((x :: xs).drop n) = 1 + rl (x.toNat + 1) xs) (fun (n : Nat) => (x :: xs).length - n) 1 ⟨rfl, rfl, rfl, trivial⟩ ⟨rfl, Nat.le_refl _, by show 1 ≤ xs.length + 1; omega, rl_first x xs⟩ ?_
        rintro n H7 ⟨eH, hn1, hn2, hrl⟩
        obtain rfl := eH.symm
        have hxl : (x :: xs).length = xs.length + 1 := rfl
        refine E.seq ?_
        refine E.seq ?_
        refine E.regionD (fun _ => True) [(0, .pu), (1, .pu), (2, .pu), (3, .pu), (4, .pu), (5, .pu), (6, .pu), (7, .pu), (8, .pu), (9, .pu), (10, .pu), (11, .pu), (12, .pu), (13, .pu), (14, .pu), (15, .pu)] Tryd.mixed (by kernel_rfl) (trivial) ?_
        refine X.mv rfl rfl rfl rfl rfl ?_
        refine X.mv rfl rfl rfl rfl rfl ?_
        refine X.lenL rfl rfl rfl rfl rfl Tryd.underlying9 ?_
        refine X.lssC rfl rfl rfl rfl rfl rfl (fun hc => ?_) (fun hc => ?_)
        · refine X.mv rfl rfl rfl rfl rfl ?_
          refine X.mv rfl rfl rfl rfl rfl ?_
          refine X.mv rfl rfl rfl rfl rfl ?_
          refine X.ixS rfl rfl rfl rfl rfl rfl Tryd.underlying9 (by omega) (List.getElem?_eq_getElem (Int.ofNat_lt.1 (by assumption))) ?_
          refine X.convE rfl rfl rfl rfl rfl Tryd.underlying3 Tryd.us5 (u8i _) ?_
          refine X.mv rfl rfl rfl rfl rfl ?_
          refine X.ixS rfl rfl rfl rfl rfl rfl Tryd.underlying9 (by omega) (rfl) ?_
          refine X.convE rfl rfl rfl rfl rfl Tryd.underlying3 Tryd.us5 (u8i _) ?_
          refine X.mv rfl rfl rfl rfl rfl ?_
          refine X.addE (zz := ((x.toNat : Int) + (n : Int))) rfl rfl rfl rfl rfl rfl (IntWalk.i64_in _ (by have := x.toNat_lt; omega)) ?_
          refine X.eql rfl rfl rfl rfl rfl rfl ?_
          refine X.pickT rfl rfl rfl rfl rfl rfl ?_
          refine X.done [(3, _), (4, _), (5, _), (22, _), (23, _), (24, _), (25, _), (26, _), (27, _), (28, _), (29, _), (30, _), (31, _), (32, _), (33, _), (34, _), (35, _), (36, _), (37, _)] ⟨rfl, rfl, rfl, rfl, rfl, rfl, rfl, rfl, rfl, rfl, rfl, rfl, rfl, rfl, rfl, rfl, rfl, rfl, rfl, trivial⟩ ?_
          refine N.then ?_
          refine E.condD rfl (fun hc => ?_) (fun hc => ?_)
          · refine E.skip ?_
            refine N.then ?_
            refine E.block ?_
            refine E.region ?_
            refine X.mv rfl rfl rfl rfl rfl ?_
            refine X.add rfl rfl rfl rfl rfl rfl (by omega) ?_
            refine X.asg rfl rfl rfl rfl rfl ?_
            refine X.done [(3, _), (4, _), (5, _), (22, _), (23, _), (24, _), (25, _), (26, _), (27, _), (28, _), (29, _), (30, _), (31, _), (32, _), (33, _), (34, _), (35, _), (36, _), (37, _), (38, _), (39, _)] ⟨rfl, rfl, rfl, rfl, rfl, rfl, rfl, rfl, rfl, rfl, rfl, rfl, rfl, rfl, rfl, rfl, rfl, rfl, rfl, rfl, rfl, trivial⟩ ?_
            refine N.blk ?_
            exact N.next (n + 1) ⟨rfl, rfl, rfl, trivial⟩ ⟨rfl, by omega, Int.ofNat_lt.1 (by assumption), by rw [rl_step (Int.ofNat_lt.1 (by assumption)) (by assumption)] at hrl; rw [← hrl]; omega⟩ (by have := Int.ofNat_lt.1 (show (n : Int) < ((x :: xs).length : Int) by assumption); omega)
          · refine E.exit ?_
            refine N.thenX ?_
            refine N.loopX ?_
            refine N.blkX ?_
            refine N.then ?_
            refine E.seq ?_
            refine E.seq ?_
            have hn : n = 1 + rl (x.toNat + 1) xs := by first | (rw [rl_stop (Int.ofNat_lt.1 (by assumption)) (by assumption)] at hrl; omega) | (rw [rl_end (fun h => absurd (Int.ofNat_lt.2 h) (by assumption))] at hrl; omega)
            have hrle := rl_le (x.toNat + 1) xs
            have hnl : n - 1 < (x :: xs).length := by show n - 1 < xs.length + 1; omega
            have hxl : (x :: xs).length = xs.length + 1 := rfl
            have hw1 := wr_len x.toNat
            have hw2 := wr_len ((x :: xs)[n - 1]'hnl).toNat
            refine E.region ?_
            refine X.mv rfl rfl rfl rfl rfl ?_
            refine X.lss rfl rfl rfl rfl rfl rfl ?_
            refine X.done [(3, _), (4, _), (5, _), (22, _), (23, _), (24, _), (25, _), (26, _), (27, _), (28, _), (29, _), (30, _), (31, _), (32, _), (33, _), (34, _), (35, _), (36, _), (37, _), (40, _), (41, _)] ⟨rfl, rfl, rfl, rfl, rfl, rfl, rfl, rfl, rfl, rfl, rfl, rfl, rfl, rfl, rfl, rfl, rfl, rfl, rfl, rfl, rfl, trivial⟩ ?_
            refine N.then ?_
            refine E.condD rfl (fun hc => ?_) (fun hc => ?_)
            · refine E.seq ?_
              refine E.region ?_
              refine X.asg rfl rfl rfl rfl rfl ?_
              refine X.done [(3, _), (4, _), (5, _), (22, _), (23, _), (24, _), (25, _), (26, _), (27, _), (28, _), (29, _), (30, _), (31, _), (32, _), (33, _), (34, _), (35, _), (36, _), (37, _), (40, _), (41, _)] ⟨rfl, rfl, rfl, rfl, rfl, rfl, rfl, rfl, rfl, rfl, rfl, rfl, rfl, rfl, rfl, rfl, rfl, rfl, rfl, rfl, rfl, trivial⟩ ?_
              refine N.then ?_
              refine E.region ?_
              refine X.mv rfl rfl rfl rfl rfl ?_
              refine X.mv rfl rfl rfl rfl rfl ?_
              refine X.ixS rfl rfl rfl rfl rfl rfl Tryd.underlying9 (by omega) (rfl) ?_
              refine X.call rfl rfl rfl rfl rfl Tryd.cl38 (written_ct x.toNat _ (UInt8.toNat_lt _)) ?_
              rintro _ H7 ⟨rfl, hk7⟩
              replace hkk := hkk.trans hk7 (by simp)
              refine X.cat rfl rfl rfl rfl rfl rfl (by omega) ?_
              refine X.asg rfl rfl rfl rfl rfl ?_
              refine X.done [(3, _), (4, _), (5, _), (22, _), (23, _), (24, _), (25, _), (26, _), (27, _), (28, _), (29, _), (30, _), (31, _), (32, _), (33, _), (34, _), (35, _), (36, _), (37, _), (40, _), (41, _), (42, _), (43, _), (44, _), (45, _), (46, _)] ⟨rfl, rfl, rfl, rfl, rfl, rfl, rfl, rfl, rfl, rfl, rfl, rfl, rfl, rfl, rfl, rfl, rfl, rfl, rfl, rfl, rfl, rfl, rfl, rfl, rfl, rfl, trivial⟩ ?_
              refine N.then ?_
              refine E.region ?_
              refine X.mv rfl rfl rfl rfl rfl ?_
              refine X.mv rfl rfl rfl rfl rfl ?_
              refine X.slS1 rfl rfl rfl rfl rfl rfl Tryd.underlying9 (by rw [hxl]; omega) ?_
              refine X.asg rfl rfl rfl rfl rfl ?_
              refine X.done [(3, _), (4, _), (5, _), (22, _), (23, _), (24, _), (25, _), (26, _), (27, _), (28, _), (29, _), (30, _), (31, _), (32, _), (33, _), (34, _), (35, _), (36, _), (37, _), (40, _), (41, _), (42, _), (43, _), (44, _), (45, _), (46, _), (59, _), (60, _), (61, _)] ⟨rfl, rfl, rfl, rfl, rfl, rfl, rfl, rfl, rfl, rfl, rfl, rfl, rfl, rfl, rfl, rfl, rfl, rfl, rfl, rfl, rfl, rfl, rfl, rfl, rfl, rfl, rfl, rfl, rfl, trivial⟩ ?_
              refine N.blk ?_
              first | exact N.next (G := fun (q : Bs × Bs) => _) (s ++ wr x.toNat, xs) ⟨rfl, rfl, trivial⟩ ⟨by rw [← hJ, sh_short hn (by omega)]; simp, by show (s ++ wr x.toNat).length + 9 * xs.length ≤ 2400; rw [List.length_append]; rw [hxl] at hlen; omega, hkk⟩ (by show xs.length < xs.length + 1; omega) | exact N.next (G := fun (q : Bs × Bs) => _) (s ++ (wr x.toNat ++ [45] ++ wr ((x :: xs)[n - 1]'hnl).toNat), (x :: xs).drop n) ⟨rfl, rfl, trivial⟩ ⟨by rw [← hJ, sh_long hn (by omega) hnl]; simp, by show (s ++ (wr x.toNat ++ [45] ++ wr ((x :: xs)[n - 1]'hnl).toNat)).length + 9 * ((x :: xs).drop n).length ≤ 2400; rw [List.length_drop, List.length_append, List.length_append, List.length_append]; rw [hxl] at hlen ⊢; simp only [List.length_cons, List.length_nil]; omega, hkk⟩ (by show ((x :: xs).drop n).length < (x :: xs).length; rw [List.length_drop, hxl]; omega)
            · refine E.regionD (fun _ => True) [(0, .pu), (1, .pu), (2, .pu), (5, .pu), (6, .pu), (7, .pu), (8, .pu), (3, .mv), (4, .pu), (9, .mv), (10, .pu), (11, .pu), (12, .pu)] Tryd.mixed (by kernel_rfl) (trivial) ?_
              refine X.mv rfl rfl rfl rfl rfl ?_
              refine X.mv rfl rfl rfl rfl rfl ?_
              refine X.ixS rfl rfl rfl rfl rfl rfl Tryd.underlying9 (by omega) (rfl) ?_
              refine X.mv rfl rfl rfl rfl rfl ?_
              refine X.mv rfl rfl rfl rfl rfl ?_
              refine X.sbE (zz := ((n - 1 : Nat) : Int)) rfl rfl rfl rfl rfl rfl (by rw [IntWalk.i64_in _ (by omega)] <;> omega) ?_
              refine X.ixS rfl rfl rfl rfl rfl rfl Tryd.underlying9 (by omega) (List.getElem?_eq_getElem hnl) ?_
              refine X.call rfl rfl rfl rfl rfl Tryd.cl38 (written_ct x.toNat _ (UInt8.toNat_lt _)) ?_
              rintro _ H7 ⟨rfl, hk7⟩
              replace hkk := hkk.trans hk7 (by simp)
              refine X.cat rfl rfl rfl rfl rfl rfl (by show (wr x.toNat).length + 1 ≤ _; omega) ?_
              refine X.call rfl rfl rfl rfl rfl Tryd.cl38 (written_ct ((x :: xs)[n - 1]'hnl).toNat _ (UInt8.toNat_lt _)) ?_
              rintro _ H8 ⟨rfl, hk8⟩
              replace hkk := hkk.trans hk8 (by simp)
              refine X.cat rfl rfl rfl rfl rfl rfl (by rw [List.length_append]; show (wr x.toNat).length + 1 + (wr _).length ≤ _; omega) ?_
              refine X.cat rfl rfl rfl rfl rfl rfl (by rw [List.length_append, List.length_append]; show s.length + ((wr x.toNat).length + 1 + (wr _).length) ≤ _; omega) ?_
              refine X.asg rfl rfl rfl rfl rfl ?_
              refine X.done [(3, _), (4, _), (5, _), (22, _), (23, _), (24, _), (25, _), (26, _), (27, _), (28, _), (29, _), (30, _), (31, _), (32, _), (33, _), (34, _), (35, _), (36, _), (37, _), (40, _), (41, _), (47, _), (48, _), (49, _), (52, _), (53, _), (54, _), (55, _), (50, _), (51, _), (56, _), (57, _), (58, _)] ⟨rfl, rfl, rfl, rfl, rfl, rfl, rfl, rfl, rfl, rfl, rfl, rfl, rfl, rfl, rfl, rfl, rfl, rfl, rfl, rfl, rfl, rfl, rfl, rfl, rfl, rfl, rfl, rfl, rfl, rfl, rfl, rfl, rfl, trivial⟩ ?_
              refine N.then ?_
              refine E.region ?_
              refine X.mv rfl rfl rfl rfl rfl ?_
              refine X.mv rfl rfl rfl rfl rfl ?_
              refine X.slS1 rfl rfl rfl rfl rfl rfl Tryd.underlying9 (by rw [hxl]; omega) ?_
              refine X.asg rfl rfl rfl rfl rfl ?_
              refine X.done [(3, _), (4, _), (5, _), (22, _), (23, _), (24, _), (25, _), (26, _), (27, _), (28, _), (29, _), (30, _), (31, _), (32, _), (33, _), (34, _), (35, _), (36, _), (37, _), (40, _), (41, _), (47, _), (48, _), (49, _), (52, _), (53, _), (54, _), (55, _), (50, _), (51, _), (56, _), (57, _), (58, _), (59, _), (60, _), (61, _)] ⟨rfl, rfl, rfl, rfl, rfl, rfl, rfl, rfl, rfl, rfl, rfl, rfl, rfl, rfl, rfl, rfl, rfl, rfl, rfl, rfl, rfl, rfl, rfl, rfl, rfl, rfl, rfl, rfl, rfl, rfl, rfl, rfl, rfl, rfl, rfl, rfl, trivial⟩ ?_
              refine N.blk ?_
              first | exact N.next (G := fun (q : Bs × Bs) => _) (s ++ wr x.toNat, xs) ⟨rfl, rfl, trivial⟩ ⟨by rw [← hJ, sh_short hn (by omega)]; simp, by show (s ++ wr x.toNat).length + 9 * xs.length ≤ 2400; rw [List.length_append]; rw [hxl] at hlen; omega, hkk⟩ (by show xs.length < xs.length + 1; omega) | exact N.next (G := fun (q : Bs × Bs) => _) (s ++ (wr x.toNat ++ [45] ++ wr ((x :: xs)[n - 1]'hnl).toNat), (x :: xs).drop n) ⟨rfl, rfl, trivial⟩ ⟨by rw [← hJ, sh_long hn (by omega) hnl]; simp, by show (s ++ (wr x.toNat ++ [45] ++ wr ((x :: xs)[n - 1]'hnl).toNat)).length + 9 * ((x :: xs).drop n).length ≤ 2400; rw [List.length_drop, List.length_append, List.length_append, List.length_append]; rw [hxl] at hlen ⊢; simp only [List.length_cons, List.length_nil]; omega, hkk⟩ (by show ((x :: xs).drop n).length < (x :: xs).length; rw [List.length_drop, hxl]; omega)
        · refine X.mv rfl rfl rfl rfl rfl ?_
          refine X.skip rfl rfl rfl ?_
          refine X.skip rfl rfl rfl ?_
          refine X.skip rfl rfl rfl ?_
          refine X.skip rfl rfl rfl ?_
          refine X.skip rfl rfl rfl ?_
          refine X.skip rfl rfl rfl ?_
          refine X.skip rfl rfl rfl ?_
          refine X.skip rfl rfl rfl ?_
          refine X.skip rfl rfl rfl ?_
          refine X.skip rfl rfl rfl ?_
          refine X.pickF rfl rfl rfl rfl rfl rfl ?_
          refine X.done [(3, _), (4, _), (5, _), (22, _), (23, _), (24, _), (25, _), (26, _), (27, _), (28, _), (29, _), (30, _), (31, _), (32, _), (33, _), (34, _), (35, _), (36, _), (37, _)] ⟨rfl, rfl, rfl, rfl, rfl, rfl, rfl, rfl, rfl, rfl, rfl, rfl, rfl, rfl, rfl, rfl, rfl, rfl, rfl, trivial⟩ ?_
          refine N.then ?_
          refine E.condF rfl ?_
          refine E.exit ?_
          refine N.thenX ?_
          refine N.loopX ?_
          refine N.blkX ?_
          refine N.then ?_
          refine E.seq ?_
          refine E.seq ?_
          have hn : n = 1 + rl (x.toNat + 1) xs := by first | (rw [rl_stop (Int.ofNat_lt.1 (by assumption)) (by assumption)] at hrl; omega) | (rw [rl_end (fun h => absurd (Int.ofNat_lt.2 h) (by assumption))] at hrl; omega)
          have hrle := rl_le (x.toNat + 1) xs
          have hnl : n - 1 < (x :: xs).length := by show n - 1 < xs.length + 1; omega
          have hxl : (x :: xs).length = xs.length + 1 := rfl
          have hw1 := wr_len x.toNat
          have hw2 := wr_len ((x :: xs)[n - 1]'hnl).toNat
          refine E.region ?_
          refine X.mv rfl rfl rfl rfl rfl ?_
          refine X.lss rfl rfl rfl rfl rfl rfl ?_
          refine X.done [(3, _), (4, _), (5, _), (22, _), (23, _), (24, _), (25, _), (26, _), (27, _), (28, _), (29, _), (30, _), (31, _), (32, _), (33, _), (34, _), (35, _), (36, _), (37, _), (40, _), (41, _)] ⟨rfl, rfl, rfl, rfl, rfl, rfl, rfl, rfl, rfl, rfl, rfl, rfl, rfl, rfl, rfl, rfl, rfl, rfl, rfl, rfl, rfl, trivial⟩ ?_
          refine N.then ?_
          refine E.condD rfl (fun hc => ?_) (fun hc => ?_)
          · refine E.seq ?_
            refine E.region ?_
            refine X.asg rfl rfl rfl rfl rfl ?_
            refine X.done [(3, _), (4, _), (5, _), (22, _), (23, _), (24, _), (25, _), (26, _), (27, _), (28, _), (29, _), (30, _), (31, _), (32, _), (33, _), (34, _), (35, _), (36, _), (37, _), (40, _), (41, _)] ⟨rfl, rfl, rfl, rfl, rfl, rfl, rfl, rfl, rfl, rfl, rfl, rfl, rfl, rfl, rfl, rfl, rfl, rfl, rfl, rfl, rfl, trivial⟩ ?_
            refine N.then ?_
            refine E.region ?_
            refine X.mv rfl rfl rfl rfl rfl ?_
            refine X.mv rfl rfl rfl rfl rfl ?_
            refine X.ixS rfl rfl rfl rfl rfl rfl Tryd.underlying9 (by omega) (rfl) ?_
            refine X.call rfl rfl rfl rfl rfl Tryd.cl38 (written_ct x.toNat _ (UInt8.toNat_lt _)) ?_
            rintro _ H7 ⟨rfl, hk7⟩
            replace hkk := hkk.trans hk7 (by simp)
            refine X.cat rfl rfl rfl rfl rfl rfl (by omega) ?_
            refine X.asg rfl rfl rfl rfl rfl ?_
            refine X.done [(3, _), (4, _), (5, _), (22, _), (23, _), (24, _), (25, _), (26, _), (27, _), (28, _), (29, _), (30, _), (31, _), (32, _), (33, _), (34, _), (35, _), (36, _), (37, _), (40, _), (41, _), (42, _), (43, _), (44, _), (45, _), (46, _)] ⟨rfl, rfl, rfl, rfl, rfl, rfl, rfl, rfl, rfl, rfl, rfl, rfl, rfl, rfl, rfl, rfl, rfl, rfl, rfl, rfl, rfl, rfl, rfl, rfl, rfl, rfl, trivial⟩ ?_
            refine N.then ?_
            refine E.region ?_
            refine X.mv rfl rfl rfl rfl rfl ?_
            refine X.mv rfl rfl rfl rfl rfl ?_
            refine X.slS1 rfl rfl rfl rfl rfl rfl Tryd.underlying9 (by rw [hxl]; omega) ?_
            refine X.asg rfl rfl rfl rfl rfl ?_
            refine X.done [(3, _), (4, _), (5, _), (22, _), (23, _), (24, _), (25, _), (26, _), (27, _), (28, _), (29, _), (30, _), (31, _), (32, _), (33, _), (34, _), (35, _), (36, _), (37, _), (40, _), (41, _), (42, _), (43, _), (44, _), (45, _), (46, _), (59, _), (60, _), (61, _)] ⟨rfl, rfl, rfl, rfl, rfl, rfl, rfl, rfl, rfl, rfl, rfl, rfl, rfl, rfl, rfl, rfl, rfl, rfl, rfl, rfl, rfl, rfl, rfl, rfl, rfl, rfl, rfl, rfl, rfl, trivial⟩ ?_
            refine N.blk ?_
            first | exact N.next (G := fun (q : Bs × Bs) => _) (s ++ wr x.toNat, xs) ⟨rfl, rfl, trivial⟩ ⟨by rw [← hJ, sh_short hn (by omega)]; simp, by show (s ++ wr x.toNat).length + 9 * xs.length ≤ 2400; rw [List.length_append]; rw [hxl] at hlen; omega, hkk⟩ (by show xs.length < xs.length + 1; omega) | exact N.next (G := fun (q : Bs × Bs) => _) (s ++ (wr x.toNat ++ [45] ++ wr ((x :: xs)[n - 1]'hnl).toNat), (x :: xs).drop n) ⟨rfl, rfl, trivial⟩ ⟨by rw [← hJ, sh_long hn (by omega) hnl]; simp, by show (s ++ (wr x.toNat ++ [45] ++ wr ((x :: xs)[n - 1]'hnl).toNat)).length + 9 * ((x :: xs).drop n).length ≤ 2400; rw [List.length_drop, List.length_append, List.length_append, List.length_append]; rw [hxl] at hlen ⊢; simp only [List.length_cons, List.length_nil]; omega, hkk⟩ (by show ((x :: xs).drop n).length < (x :: xs).length; rw [List.length_drop, hxl]; omega)
          · refine E.regionD (fun _ => True) [(0, .pu), (1, .pu), (2, .pu), (5, .pu), (6, .pu), (7, .pu), (8, .pu), (3, .mv), (4, .pu), (9, .mv), (10, .pu), (11, .pu), (12, .pu)] Tryd.mixed (by kernel_rfl) (trivial) ?_
            refine X.mv rfl rfl rfl rfl rfl ?_
            refine X.mv rfl rfl rfl rfl rfl ?_
            refine X.ixS rfl rfl rfl rfl rfl rfl Tryd.underlying9 (by omega) (rfl) ?_
            refine X.mv rfl rfl rfl rfl rfl ?_
            refine X.mv rfl rfl rfl rfl rfl ?_
            refine X.sbE (zz := ((n - 1 : Nat) : Int)) rfl rfl rfl rfl rfl rfl (by rw [IntWalk.i64_in _ (by omega)] <;> omega) ?_
            refine X.ixS rfl rfl rfl rfl rfl rfl Tryd.underlying9 (by omega) (List.getElem?_eq_getElem hnl) ?_
            refine X.call rfl rfl rfl rfl rfl Tryd.cl38 (written_ct x.toNat _ (UInt8.toNat_lt _)) ?_
            rintro _ H7 ⟨rfl, hk7⟩
            replace hkk := hkk.trans hk7 (by simp)
            refine X.cat rfl rfl rfl rfl rfl rfl (by show (wr x.toNat).length + 1 ≤ _; omega) ?_
            refine X.call rfl rfl rfl rfl rfl Tryd.cl38 (written_ct ((x :: xs)[n - 1]'hnl).toNat _ (UInt8.toNat_lt _)) ?_
            rintro _ H8 ⟨rfl, hk8⟩
            replace hkk := hkk.trans hk8 (by simp)
            refine X.cat rfl rfl rfl rfl rfl rfl (by rw [List.length_append]; show (wr x.toNat).length + 1 + (wr _).length ≤ _; omega) ?_
            refine X.cat rfl rfl rfl rfl rfl rfl (by rw [List.length_append, List.length_append]; show s.length + ((wr x.toNat).length + 1 + (wr _).length) ≤ _; omega) ?_
            refine X.asg rfl rfl rfl rfl rfl ?_
            refine X.done [(3, _), (4, _), (5, _), (22, _), (23, _), (24, _), (25, _), (26, _), (27, _), (28, _), (29, _), (30, _), (31, _), (32, _), (33, _), (34, _), (35, _), (36, _), (37, _), (40, _), (41, _), (47, _), (48, _), (49, _), (52, _), (53, _), (54, _), (55, _), (50, _), (51, _), (56, _), (57, _), (58, _)] ⟨rfl, rfl, rfl, rfl, rfl, rfl, rfl, rfl, rfl, rfl, rfl, rfl, rfl, rfl, rfl, rfl, rfl, rfl, rfl, rfl, rfl, rfl, rfl, rfl, rfl, rfl, rfl, rfl, rfl, rfl, rfl, rfl, rfl, trivial⟩ ?_
            refine N.then ?_
            refine E.region ?_
            refine X.mv rfl rfl rfl rfl rfl ?_
            refine X.mv rfl rfl rfl rfl rfl ?_
            refine X.slS1 rfl rfl rfl rfl rfl rfl Tryd.underlying9 (by rw [hxl]; omega) ?_
            refine X.asg rfl rfl rfl rfl rfl ?_
            refine X.done [(3, _), (4, _), (5, _), (22, _), (23, _), (24, _), (25, _), (26, _), (27, _), (28, _), (29, _), (30, _), (31, _), (32, _), (33, _), (34, _), (35, _), (36, _), (37, _), (40, _), (41, _), (47, _), (48, _), (49, _), (52, _), (53, _), (54, _), (55, _), (50, _), (51, _), (56, _), (57, _), (58, _), (59, _), (60, _), (61, _)] ⟨rfl, rfl, rfl, rfl, rfl, rfl, rfl, rfl, rfl, rfl, rfl, rfl, rfl, rfl, rfl, rfl, rfl, rfl, rfl, rfl, rfl, rfl, rfl, rfl, rfl, rfl, rfl, rfl, rfl, rfl, rfl, rfl, rfl, rfl, rfl, rfl, trivial⟩ ?_
            refine N.blk ?_
            first | exact N.next (G := fun (q : Bs × Bs) => _) (s ++ wr x.toNat, xs) ⟨rfl, rfl, trivial⟩ ⟨by rw [← hJ, sh_short hn (by omega)]; simp, by show (s ++ wr x.toNat).length + 9 * xs.length ≤ 2400; rw [List.length_append]; rw [hxl] at hlen; omega, hkk⟩ (by show xs.length < xs.length + 1; omega) | exact N.next (G := fun (q : Bs × Bs) => _) (s ++ (wr x.toNat ++ [45] ++ wr ((x :: xs)[n - 1]'hnl).toNat), (x :: xs).drop n) ⟨rfl, rfl, trivial⟩ ⟨by rw [← hJ, sh_long hn (by omega) hnl]; simp, by show (s ++ (wr x.toNat ++ [45] ++ wr ((x :: xs)[n - 1]'hnl).toNat)).length + 9 * ((x :: xs).drop n).length ≤ 2400; rw [List.length_drop, List.length_append, List.length_append, List.length_append]; rw [hxl] at hlen ⊢; simp only [List.length_cons, List.length_nil]; omega, hkk⟩ (by show ((x :: xs).drop n).length < (x :: xs).length; rw [List.length_drop, hxl]; omega)
      · refine E.exit ?_
        refine N.thenX ?_
        refine N.loopX ?_
        refine N.blkX ?_
        refine N.then ?_
        refine E.seq ?_
        refine E.region ?_
        refine X.mv rfl rfl rfl rfl rfl ?_
        refine X.cat rfl rfl rfl rfl rfl rfl (by show s.length + 1 ≤ _; omega) ?_
        refine X.asg rfl rfl rfl rfl rfl ?_
        refine X.done [(2, _)] ⟨rfl, trivial⟩ ?_
        refine N.then ?_
        refine E.ret ?_
        have hb0 : b = [] := Classical.byContradiction (by assumption)
        subst hb0
        exact N.retH [_] ⟨_, _, rfl, rfl, rfl⟩ ⟨by rw [← hJ, sh_nil, List.append_nil]; rfl, hkk⟩

end Go.Proofs.YtcandjdomeompaaDoor
