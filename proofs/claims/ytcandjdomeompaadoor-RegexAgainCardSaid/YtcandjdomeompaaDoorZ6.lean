/- The walks: all bytes of a set. -/
import Derived.Test.YtcandjdomeompaaDoorZ5
namespace Go.Proofs.YtcandjdomeompaaDoor
open Go.SX Go.Chr
attribute [local irreducible] X E N Ct
set_option linter.unusedVariables false
set_option linter.unusedSimpArgs false

theorem off_lt {t m : Nat} : 2 ^ t * (2 * m) < 2 ^ t * (2 * m + 1) := Nat.mul_lt_mul_of_pos_left (by omega) (Nat.two_pow_pos _)
theorem blk_step {v v3 : Value} {H H6 : Heap} {ba : Nat} (hv : ∀ b ∈ blk v, H.size ≤ b ∧ b ≠ ba) (h : blk v3 = blk v ∨ ∀ b ∈ blk v3, H6.size ≤ b) (hs : H.size ≤ H6.size) (hba : ba < H6.size) : ∀ b ∈ blk v3, H.size ≤ b ∧ b ≠ ba := by
  intro b hb
  rcases h with h | h
  · exact hv b (h ▸ hb)
  · have := h b hb; exact ⟨by omega, by omega⟩
theorem sub1 {x : Nat} (h : x < 2 ^ 64) (h0 : 0 < x) : IntKind.u64.wrap ((x : Int) - 1) = ((x - 1 : Nat) : Int) := by rw [IntWalk.u64_in _ (by omega)]; omega

theorem rbytes_ct (ws : List Nat) (H : Heap) (hw : Ws ws) : Ct Tryd.prog 43 #[agg4 ws] H fun v H' => v = str (bts (els ws)) ∧ Kp [] H H' := by
  refine Ct.into 20 Tryd.func43 rfl [(0, agg4 ws)] rfl ⟨rfl, trivial⟩ ?_
  refine E.seq ?_
  refine E.region ?_
  refine X.box rfl rfl rfl rfl rfl rfl ?_
  intro ba H1 hn1 hba hk1
  refine X.asg rfl rfl rfl rfl rfl ?_
  refine X.done [(1, _), (2, _)] ⟨rfl, rfl, trivial⟩ ?_
  refine N.then ?_
  refine E.seq ?_
  refine E.region ?_
  refine X.asg rfl rfl rfl rfl rfl ?_
  refine X.done [(1, _), (2, _), (3, _)] ⟨rfl, rfl, rfl, trivial⟩ ?_
  refine N.then ?_
  refine E.seq ?_
  refine E.seq ?_
  refine E.region ?_
  refine X.asg rfl rfl rfl rfl rfl ?_
  refine X.done [(1, _), (2, _), (3, _), (4, _)] ⟨rfl, rfl, rfl, rfl, trivial⟩ ?_
  refine N.then ?_
  refine E.block ?_
  -- MISSING in G: [2]
  refine E.loop (fun (q : Nat × Value) => [(1, ptr ba), (3, q.2), (4, i64 q.1)]) (fun (q : Nat × Value) H' => q.1 ≤ 256 ∧ H'[ba]? = some (.cells (uv ws).toArray 36 (0, 0)) ∧ Own H' 5 1 q.2 (flt (bt ws) q.1).length (bv (bts (flt (bt ws) q.1))) ∧ (∀ b ∈ blk q.2, H.size ≤ b ∧ b ≠ ba) ∧ Kp [] H H') (fun (q : Nat × Value) => 256 - q.1) (0, .slice none 0 0) ⟨rfl, rfl, rfl, trivial⟩ ⟨Nat.zero_le _, hba, Own.nil _ _ _, by simp [blk], hk1⟩ ?_
  rintro ⟨i, v⟩ H4 hJ
  dsimp only at hJ ⊢
  obtain ⟨hi, hba, hown, hv, hkk⟩ := hJ
  have hfl := flt_len (bt ws) i
  refine E.seq ?_
  refine E.seq ?_
  refine E.region ?_
  refine X.mv rfl rfl rfl rfl rfl ?_
  refine X.lss rfl rfl rfl rfl rfl rfl ?_
  refine X.done [(1, _), (3, _), (4, _), (5, _), (6, _)] ⟨rfl, rfl, rfl, rfl, rfl, trivial⟩ ?_
  refine N.then ?_
  refine E.condD rfl (fun hc => ?_) (fun hc => ?_)
  · refine E.skip ?_
    refine N.then ?_
    refine E.seq ?_
    refine E.block ?_
    refine E.seq ?_
    refine E.region ?_
    refine X.ldA rfl rfl rfl rfl Tryd.ag36 Tryd.sz36 (hba) (uv4 hw) zoff ?_
    refine X.mv rfl rfl rfl rfl rfl ?_
    refine X.convE (zz := (i : Int)) rfl rfl rfl rfl rfl Tryd.underlying5 Tryd.us3 (IntWalk.u8_in _ (by omega)) ?_
    refine X.call rfl rfl rfl rfl rfl Tryd.cl54 (rhas_bt ws i H4 hw (by omega)) ?_
    rintro _ H5 ⟨rfl, hk5⟩
    replace hba := hk5.keep hba (by simp)
    replace hkk := hkk.trans hk5 (by simp)
    refine X.done [(1, _), (3, _), (4, _), (5, _), (6, _), (9, _), (10, _), (11, _), (12, _)] ⟨rfl, rfl, rfl, rfl, rfl, rfl, rfl, rfl, rfl, trivial⟩ ?_
    refine N.then ?_
    refine E.cond rfl (fun hc => ?_) (fun hc => ?_)
    · refine E.region ?_
      refine X.mv rfl rfl rfl rfl rfl ?_
      refine X.mv rfl rfl rfl rfl rfl ?_
      refine X.convE (zz := (i : Int)) rfl rfl rfl rfl rfl Tryd.underlying5 Tryd.us3 (IntWalk.u8_in _ (by omega)) ?_
      refine X.lit (e := 5) (cs := [.int .u8 (i : Int)]) rfl rfl rfl rfl rfl (fun _ => by kernel_rfl) ?_
      intro bl H6 hnl hbbl hk6
      replace hba := hk6.keep hba (by simp)
      replace hkk := hkk.trans hk6 (by simp)
      refine X.app T38 rfl rfl rfl rfl rfl rfl ((hown.keep hk5 (by simp)).keep hk6 (by simp)) (.inl ⟨rfl, _, _, rfl, .inr ⟨bl, 0, _, _, _, rfl, hbbl, fun j u hj => by rw [Nat.zero_add]; exact hj⟩⟩) (.inl ⟨5, Tryd.underlying65, _, _, rfl⟩) (by simp [Value.oneCell']) (by first | (simp only [maxLen]; omega) | omega) (by first | (simp only [maxLen]; omega) | omega) ?_
      intro v3 H7 ho3 hk7 hb3 hn3
      have hkk7 := hkk.trans hk7 (fun b hb => .inr (hv b hb).1)
      have hba7 := hk7.keep hba (fun h => (hv _ h).2 rfl)
      have hv3 := blk_step hv hb3 hkk.size (lt_of hba)
      refine X.asg rfl rfl rfl rfl rfl ?_
      refine X.done [(1, _), (3, _), (4, _), (5, _), (6, _), (9, _), (10, _), (11, _), (12, _), (13, _), (14, _), (15, _), (16, _), (17, _)] ⟨rfl, rfl, rfl, rfl, rfl, rfl, rfl, rfl, rfl, rfl, rfl, rfl, rfl, rfl, trivial⟩ ?_
      refine N.blk ?_
      refine N.then ?_
      refine E.region ?_
      refine X.mv rfl rfl rfl rfl rfl ?_
      refine X.add rfl rfl rfl rfl rfl rfl (by omega) ?_
      refine X.asg rfl rfl rfl rfl rfl ?_
      refine X.done [(1, _), (3, _), (4, _), (5, _), (6, _), (9, _), (10, _), (11, _), (12, _), (13, _), (14, _), (15, _), (16, _), (17, _), (7, _), (8, _)] ⟨rfl, rfl, rfl, rfl, rfl, rfl, rfl, rfl, rfl, rfl, rfl, rfl, rfl, rfl, rfl, rfl, trivial⟩ ?_
      first | exact N.next (G := fun (q : Nat × Value) => _) (i + 1, v3) ⟨rfl, rfl, rfl, trivial⟩ ⟨by show i + 1 ≤ 256; omega, hba7, (by rw [flt_one hc, ← bts_yes hc (by omega)]; exact ho3), hv3, hkk7⟩ (by show 256 - (i + 1) < 256 - i; omega) | exact N.next (G := fun (q : Nat × Value) => _) (i + 1, v) ⟨rfl, rfl, rfl, trivial⟩ ⟨by show i + 1 ≤ 256; omega, hba, (by rw [bts_no hc]; exact hown.keep hk5 (by simp)), hv, hkk⟩ (by show 256 - (i + 1) < 256 - i; omega)
    · refine E.skip ?_
      refine N.blk ?_
      refine N.then ?_
      refine E.region ?_
      refine X.mv rfl rfl rfl rfl rfl ?_
      refine X.add rfl rfl rfl rfl rfl rfl (by omega) ?_
      refine X.asg rfl rfl rfl rfl rfl ?_
      refine X.done [(1, _), (3, _), (4, _), (5, _), (6, _), (9, _), (10, _), (11, _), (12, _), (7, _), (8, _)] ⟨rfl, rfl, rfl, rfl, rfl, rfl, rfl, rfl, rfl, rfl, rfl, trivial⟩ ?_
      first | exact N.next (G := fun (q : Nat × Value) => _) (i + 1, v3) ⟨rfl, rfl, rfl, trivial⟩ ⟨by show i + 1 ≤ 256; omega, hba7, (by rw [flt_one hc, ← bts_yes hc (by omega)]; exact ho3), hv3, hkk7⟩ (by show 256 - (i + 1) < 256 - i; omega) | exact N.next (G := fun (q : Nat × Value) => _) (i + 1, v) ⟨rfl, rfl, rfl, trivial⟩ ⟨by show i + 1 ≤ 256; omega, hba, (by rw [bts_no hc]; exact hown.keep hk5 (by simp)), hv, hkk⟩ (by show 256 - (i + 1) < 256 - i; omega)
  · refine E.exit ?_
    refine N.thenX ?_
    refine N.loopX ?_
    refine N.blkX ?_
    refine N.then ?_
    refine E.seq ?_
    refine E.region ?_
    refine X.mv rfl rfl rfl rfl rfl ?_
    refine X.b2s rfl rfl rfl rfl Tryd.underlying65 Tryd.underlying5 Tryd.underlying9 (hown.rd) ?_
    refine X.asg rfl rfl rfl rfl rfl ?_
    refine X.done [(2, _)] ⟨rfl, trivial⟩ ?_
    refine N.then ?_
    refine E.ret ?_
    exact N.retH [_] ⟨_, _, rfl, rfl, rfl⟩ ⟨by rw [show i = 256 by omega]; rfl, hkk⟩

theorem bytes_ct (ws : List Nat) (H : Heap) (hw : Ws ws) (hT : Tab H) : Ct Tryd.prog 39 #[agg4 ws] H fun v H' => v = str (bts (els ws)) ∧ Kp [] H H' := by
  refine Ct.into 32 Tryd.func39 rfl [(0, agg4 ws)] rfl ⟨rfl, trivial⟩ ?_
  refine E.seq ?_
  refine E.region ?_
  refine X.box rfl rfl rfl rfl rfl rfl ?_
  intro ba H1 hn1 hba hk1
  refine X.asg rfl rfl rfl rfl rfl ?_
  refine X.done [(1, _), (2, _)] ⟨rfl, rfl, trivial⟩ ?_
  refine N.then ?_
  refine E.seq ?_
  refine E.seq ?_
  refine E.region ?_
  refine X.ldA rfl rfl rfl rfl Tryd.ag36 Tryd.sz36 (hba) (uv4 hw) zoff ?_
  refine X.build (v := .agg (uv z4 : List Value).toArray) rfl rfl rfl rfl rfl (fun _ => by kernel_rfl) ?_
  refine X.eqlW rfl rfl rfl rfl rfl rfl Tryd.underlying36 Tryd.underlying34 Tryd.ag34 Tryd.sz34 (by kernel_rfl) (hw.len) (z4_len) ?_
  refine X.done [(1, _), (2, _), (8, _)] ⟨rfl, rfl, rfl, trivial⟩ ?_
  refine N.then ?_
  refine E.condD rfl (fun hc => ?_) (fun hc => ?_)
  · refine E.seq ?_
    refine E.region ?_
    refine X.asg rfl rfl rfl rfl rfl ?_
    refine X.done [(1, _), (2, _)] ⟨rfl, rfl, trivial⟩ ?_
    refine N.then ?_
    refine E.ret ?_
    refine N.thenR ?_
    obtain rfl := hc
    exact N.retH [_] ⟨_, _, rfl, rfl, rfl⟩ ⟨by rw [els_z4]; rfl, hk1⟩
  · refine E.skip ?_
    refine N.then ?_
    refine E.seq ?_
    refine E.region ?_
    refine X.asg rfl rfl rfl rfl rfl ?_
    refine X.done [(1, _), (2, _), (3, _)] ⟨rfl, rfl, rfl, trivial⟩ ?_
    refine N.then ?_
    refine E.seq ?_
    refine E.seq ?_
    refine E.region ?_
    refine X.ldA rfl rfl rfl rfl Tryd.ag36 Tryd.sz36 (hba) (uv4 hw) zoff ?_
    refine X.mv rfl rfl rfl rfl rfl ?_
    refine X.done [(2, _), (3, _), (9, _), (10, _)] ⟨rfl, rfl, rfl, rfl, trivial⟩ ?_
    refine N.then ?_
    refine E.block ?_
    -- MISSING in G: [2]
    refine E.loop (fun (q : Nat × Value) => [(3, q.2), (9, agg4 ws), (10, i64 q.1)]) (fun (q : Nat × Value) H' => q.1 ≤ 4 ∧ H'[ba]? = some (.cells (uv ws).toArray 36 (0, 0)) ∧ Own H' 5 1 q.2 (flt (bt ws) (64 * q.1)).length (bv (bts (flt (bt ws) (64 * q.1)))) ∧ (∀ b ∈ blk q.2, H.size ≤ b ∧ b ≠ ba) ∧ Kp [] H H') (fun (q : Nat × Value) => 4 - q.1) (0, .slice none 0 0) ⟨rfl, rfl, rfl, trivial⟩ ⟨Nat.zero_le _, hba, Own.nil _ _ _, by simp [blk], hk1⟩ ?_
    rintro ⟨i, v⟩ H4 hJ
    dsimp only at hJ ⊢
    obtain ⟨hi, hba, hown, hv, hkk⟩ := hJ
    refine E.seq ?_
    refine E.region ?_
    refine X.lss rfl rfl rfl rfl rfl rfl ?_
    refine X.done [(3, _), (9, _), (10, _), (11, _)] ⟨rfl, rfl, rfl, rfl, trivial⟩ ?_
    refine N.then ?_
    refine E.seq ?_
    refine E.condD rfl (fun hc => ?_) (fun hc => ?_)
    · refine E.skip ?_
      refine N.then ?_
      refine E.seq ?_
      refine E.block ?_
      refine E.seq ?_
      have hi4 : i < 4 := Int.ofNat_lt.1 (by assumption)
      refine E.region ?_
      refine X.mv rfl rfl rfl rfl rfl ?_
      refine X.ixV (v := .int .u64 ((wd ws i : Nat) : Int)) rfl rfl rfl rfl rfl rfl Tryd.underlying36 Tryd.ag34 Tryd.sz34 (by omega) (by rw [Int.toNat_natCast, Nat.mul_one]; exact uv_get (hw.get hi4).1) ?_
      refine X.asg rfl rfl rfl rfl rfl ?_
      refine X.asg rfl rfl rfl rfl rfl ?_
      refine X.done [(3, _), (9, _), (10, _), (11, _), (12, _), (13, _), (4, _), (5, _)] ⟨rfl, rfl, rfl, rfl, rfl, rfl, rfl, rfl, trivial⟩ ?_
      refine N.then ?_
      refine E.block ?_
      -- MISSING in G: [11, 12, 13]
      refine E.loop (fun (q : Nat × Value) => [(3, q.2), (4, i64 i), (5, .int .u64 (q.1 : Int)), (9, agg4 ws), (10, i64 i)]) (fun (q : Nat × Value) H' => q.1 < 2 ^ 64 ∧ ∃ l, l ++ (pos q.1).map (64 * i + ·) = flt (bt ws) (64 * (i + 1)) ∧ H'[ba]? = some (.cells (uv ws).toArray 36 (0, 0)) ∧ Own H' 5 1 q.2 l.length (bv (bts l)) ∧ (∀ b ∈ blk q.2, H.size ≤ b ∧ b ≠ ba) ∧ Kp [] H H') (fun (q : Nat × Value) => q.1) (wd ws i, v) ⟨rfl, rfl, rfl, rfl, rfl, trivial⟩ ⟨(hw.get hi4).2, _, (els_word ws i).symm, hba, hown, hv, hkk⟩ ?_
      clear hown hv hkk hba
      rintro ⟨x, v⟩ H5 hJ
      dsimp only at hJ ⊢
      obtain ⟨hx, l, hl, hba, hown, hv, hkk⟩ := hJ
      refine E.seq ?_
      refine E.seq ?_
      refine E.region ?_
      refine X.mv rfl rfl rfl rfl rfl ?_
      refine X.neq rfl rfl rfl rfl rfl rfl ?_
      refine X.done [(3, _), (4, _), (5, _), (9, _), (10, _), (14, _), (15, _)] ⟨rfl, rfl, rfl, rfl, rfl, rfl, rfl, trivial⟩ ?_
      refine N.then ?_
      refine E.condD rfl (fun hc => ?_) (fun hc => ?_)
      · refine E.skip ?_
        refine N.then ?_
        refine E.seq ?_
        refine E.block ?_
        have hx0 : x ≠ 0 := fun h => absurd (congrArg Int.ofNat h) (by assumption)
        obtain ⟨t, m, rfl⟩ := low hx0
        obtain ⟨ht, _⟩ := low_and hx
        rw [pos_step t m ht] at hl
        have hct : 64 * i + t < 256 := by omega
        have hll : l.length ≤ 256 := by have e := congrArg List.length hl; have e2 := flt_len (bt ws) (64 * (i + 1)); rw [List.length_append] at e; omega
        refine E.region ?_
        refine X.mv rfl rfl rfl rfl rfl ?_
        refine X.mv rfl rfl rfl rfl rfl ?_
        refine X.mulE (zz := ((64 * i : Nat) : Int)) rfl rfl rfl rfl rfl rfl (by rw [IntWalk.i64_in _ (by omega)] <;> omega) ?_
        refine X.mv rfl rfl rfl rfl rfl ?_
        refine X.call rfl rfl rfl rfl rfl Tryd.cl51 (tz_ct t m H5 (hT.keep hkk) rfl hx) ?_
        rintro _ H9 ⟨rfl, eH9⟩
        obtain rfl := eH9.symm
        refine X.addE (zz := ((64 * i + t : Nat) : Int)) rfl rfl rfl rfl rfl rfl (by rw [IntWalk.i64_in _ (by omega)] <;> omega) ?_
        refine X.convE (zz := ((64 * i + t : Nat) : Int)) rfl rfl rfl rfl rfl Tryd.underlying5 Tryd.us3 (IntWalk.u8_in _ (by omega)) ?_
        refine X.lit (e := 5) (cs := [.int .u8 ((64 * i + t : Nat) : Int)]) rfl rfl rfl rfl rfl (fun _ => by kernel_rfl) ?_
        intro bl H6 hnl hbbl hk6
        replace hba := hk6.keep hba (by simp)
        replace hkk := hkk.trans hk6 (by simp)
        refine X.app T38 rfl rfl rfl rfl rfl rfl (hown.keep hk6 (by simp)) (.inl ⟨rfl, _, _, rfl, .inr ⟨bl, 0, _, _, _, rfl, hbbl, fun j u hj => by rw [Nat.zero_add]; exact hj⟩⟩) (.inl ⟨5, Tryd.underlying65, _, _, rfl⟩) (by simp [Value.oneCell']) (by first | (simp only [maxLen]; omega) | omega) (by first | (simp only [maxLen]; omega) | omega) ?_
        intro v3 H7 ho3 hk7 hb3 hn3
        have hkk7 := hkk.trans hk7 (fun b hb => .inr (hv b hb).1)
        have hba7 := hk7.keep hba (fun h => (hv _ h).2 rfl)
        have hv3 := blk_step hv hb3 hkk.size (lt_of hba)
        refine X.asg rfl rfl rfl rfl rfl ?_
        refine X.done [(3, _), (4, _), (5, _), (9, _), (10, _), (14, _), (15, _), (20, _), (21, _), (22, _), (23, _), (24, _), (25, _), (26, _), (27, _), (28, _)] ⟨rfl, rfl, rfl, rfl, rfl, rfl, rfl, rfl, rfl, rfl, rfl, rfl, rfl, rfl, rfl, rfl, trivial⟩ ?_
        refine N.blk ?_
        refine N.then ?_
        refine E.region ?_
        refine X.mv rfl rfl rfl rfl rfl ?_
        refine X.mv rfl rfl rfl rfl rfl ?_
        refine X.sbE (zz := ((2 ^ t * (2 * m + 1) - 1 : Nat) : Int)) rfl rfl rfl rfl rfl rfl (sub1 hx (Nat.pos_of_ne_zero hx0)) ?_
        refine X.bandE (zz := ((2 ^ t * (2 * m) : Nat) : Int)) rfl rfl rfl rfl rfl rfl (by rw [and64 rfl rfl hx (Nat.lt_of_le_of_lt (Nat.sub_le _ _) hx), low_off]) ?_
        refine X.asg rfl rfl rfl rfl rfl ?_
        refine X.done [(3, _), (4, _), (5, _), (9, _), (10, _), (14, _), (15, _), (20, _), (21, _), (22, _), (23, _), (24, _), (25, _), (26, _), (27, _), (28, _), (16, _), (17, _), (18, _), (19, _)] ⟨rfl, rfl, rfl, rfl, rfl, rfl, rfl, rfl, rfl, rfl, rfl, rfl, rfl, rfl, rfl, rfl, rfl, rfl, rfl, rfl, trivial⟩ ?_
        exact N.next (G := fun (q : Nat × Value) => _) (2 ^ t * (2 * m), v3) ⟨rfl, rfl, rfl, rfl, rfl, trivial⟩ ⟨Nat.lt_trans off_lt hx, l ++ [64 * i + t], by rw [List.append_assoc]; exact hl, hba7, (by rw [List.length_append]; rw [bts, List.map_append, ← bts, bv_append]; rw [← bv1 hct] at ho3; exact ho3), hv3, hkk7⟩ off_lt
      · refine E.exit ?_
        refine N.thenX ?_
        refine N.loopX ?_
        refine N.blkX ?_
        refine N.blk ?_
        refine N.then ?_
        have hx0 : x = 0 := by omega
        subst hx0
        obtain hall : l = flt (bt ws) (64 * (i + 1)) := by rw [← hl, pos_zero]; simp
        refine E.region ?_
        refine X.add rfl rfl rfl rfl rfl rfl (by omega) ?_
        refine X.mv rfl rfl rfl rfl rfl ?_
        refine X.done [(3, _), (4, _), (5, _), (9, _), (10, _), (14, _), (15, _), (29, _)] ⟨rfl, rfl, rfl, rfl, rfl, rfl, rfl, rfl, trivial⟩ ?_
        exact N.next (G := fun (q : Nat × Value) => _) (i + 1, v) ⟨rfl, rfl, rfl, trivial⟩ ⟨by show i + 1 ≤ 4; omega, hba, (by rw [← hall]; exact hown), hv, hkk⟩ (by show 4 - (i + 1) < 4 - i; omega)
    · refine E.exit ?_
      refine N.thenX ?_
      refine N.loopX ?_
      refine N.blkX ?_
      refine N.then ?_
      refine E.seq ?_
      refine E.region ?_
      refine X.mv rfl rfl rfl rfl rfl ?_
      refine X.b2s rfl rfl rfl rfl Tryd.underlying65 Tryd.underlying5 Tryd.underlying9 (hown.rd) ?_
      refine X.asg rfl rfl rfl rfl rfl ?_
      refine X.done [(2, _)] ⟨rfl, trivial⟩ ?_
      refine N.then ?_
      refine E.ret ?_
      exact N.retH [_] ⟨_, _, rfl, rfl, rfl⟩ ⟨by rw [show i = 4 by omega]; rfl, hkk⟩


end Go.Proofs.YtcandjdomeompaaDoor
