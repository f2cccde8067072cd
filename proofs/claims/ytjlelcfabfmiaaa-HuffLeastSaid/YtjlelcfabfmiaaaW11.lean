/- The walks: the frequencies in falling order; the least cost. -/
import Derived.Test.YtjlelcfabfmiaaaW10
import Derived.Test.YtjlelcfabfmiaaaM7
namespace Go.Proofs.Ytjlelcfabfmiaaa
open Go.SX Go.Hf
attribute [local irreducible] X E N Ct
set_option linter.unusedVariables false
set_option linter.unusedSimpArgs false
theorem rdz {H : Heap} {b c : Nat} {x : Int} {e : TypeId} (hb : H[b]? = some (.cells ([i64 x] : List Value).toArray e (0, 0))) : Rd H 1 (.slice (some ⟨b, 0, none⟩) 1 c) 1 (iv [x]) :=
  ⟨rfl, _, _, rfl, .inr ⟨b, 0, _, _, _, rfl, hb, fun j u hj => by rw [Nat.zero_add]; exact hj⟩⟩
theorem iv_one (l : List Int) : ∀ u ∈ iv l, u.oneCell' = true := by
  intro u hu; obtain ⟨x, _, rfl⟩ := List.mem_map.1 hu; rfl
theorem iv_app (a b : List Int) : iv a ++ iv b = iv (a ++ b) := (List.map_append ..).symm
theorem own_row {H : Heap} {e : TypeId} {a : Option Addr} {c n : Nat} {l : List Int} (h : Own H e 1 (.slice a n c) n (iv l)) : ∃ b o, Row1 H a b o (iv l) := by
  obtain ⟨b, o, h1, _⟩ := Row1.of_rd h.rd
  exact ⟨b, o, h1⟩
theorem row_blk {H : Heap} {a : Option Addr} {b o n c : Nat} (h : a = some ⟨b, o, none⟩) : b ∈ blk (.slice a n c) := by subst h; simp [blk]
structure SQ where
  k : Nat
  v : Value
theorem srt_pos {fs : List Int} {i : Nat} {x : Int} (h : fs[i]? = some x) (h0 : 0 < x) : srtF fs (i + 1) = insD x (srtF fs i) := by rw [srtF, getD_of h, if_pos h0]
theorem srt_neg {fs : List Int} {i : Nat} {x : Int} (h : fs[i]? = some x) (h0 : ¬ 0 < x) : srtF fs (i + 1) = srtF fs i := by rw [srtF, getD_of h, if_neg h0]
theorem take_snocI {l : List Int} {k : Nat} {y : Int} (h : l[k]? = some y) : l.take (k + 1) = l.take k ++ [y] := by rw [List.take_add_one, h]; rfl

theorem sorted_ct (fs : List Int) (a : Option Addr) (b o c : Nat) (H : Heap) (hF : Row1 H a b o (iv fs)) (hlen : fs.length ≤ 1000) : Ct Try.prog 25 #[.slice a fs.length c] H fun v H' => Own H' 3 1 v (srtF fs fs.length).length (iv (srtF fs fs.length)) ∧ (∀ b ∈ blk v, H.size ≤ b) ∧ Kp [] H H' := by
  refine Ct.into 55 Try.func25 rfl [(0, .slice a fs.length c)] rfl ⟨rfl, trivial⟩ ?_
  refine E.seq ?_
  refine E.region ?_
  refine X.asg rfl rfl rfl rfl rfl ?_
  refine X.done [(0, _), (2, _)] ⟨rfl, rfl, trivial⟩ ?_
  refine N.then ?_
  refine E.seq ?_
  refine E.region ?_
  refine X.asg rfl rfl rfl rfl rfl ?_
  refine X.done [(0, _), (2, _), (3, _)] ⟨rfl, rfl, rfl, trivial⟩ ?_
  refine N.then ?_
  refine E.seq ?_
  refine E.seq ?_
  refine E.region ?_
  refine X.asg rfl rfl rfl rfl rfl ?_
  refine X.done [(0, _), (2, _), (3, _), (4, _)] ⟨rfl, rfl, rfl, rfl, trivial⟩ ?_
  refine N.then ?_
  refine E.block ?_
  refine E.loop (fun (q : SQ) => [(0, .slice a fs.length c), (2, .slice none 0 0), (3, q.v), (4, i64 q.k)]) (fun (q : SQ) H' => q.k ≤ fs.length ∧ Own H' 3 1 q.v (srtF fs q.k).length (iv (srtF fs q.k)) ∧ (∀ b ∈ blk q.v, H.size ≤ b) ∧ Kp [] H H') (fun (q : SQ) => fs.length - q.k) ⟨0, .slice none 0 0⟩ ⟨rfl, rfl, rfl, rfl, trivial⟩ ⟨Nat.zero_le _, Own.nil _ _ _, by simp [blk], Kp.refl _ _⟩ ?_
  rintro ⟨i, v⟩ H3 hJ
  dsimp only at hJ ⊢
  obtain ⟨hi, hO, hvb, hkk⟩ := hJ
  have hF3 := hF.keepN hkk
  have hsl := srt_len fs i
  refine E.seq ?_
  refine E.seq ?_
  refine E.region ?_
  refine X.mv rfl rfl rfl rfl rfl ?_
  refine X.mv rfl rfl rfl rfl rfl ?_
  refine X.lenS rfl rfl rfl rfl rfl Try.underlying22 ?_
  refine X.lss rfl rfl rfl rfl rfl rfl ?_
  refine X.done [(0, _), (2, _), (3, _), (4, _), (7, _), (8, _), (9, _), (10, _)] ⟨rfl, rfl, rfl, rfl, rfl, rfl, rfl, rfl, trivial⟩ ?_
  refine N.then ?_
  refine E.condD rfl (fun hc => ?_) (fun hc => ?_)
  · refine E.skip ?_
    refine N.then ?_
    refine E.seq ?_
    refine E.block ?_
    refine E.seq ?_
    have hi2 : i < fs.length := Int.ofNat_lt.1 (by assumption)
    obtain ⟨x, hx⟩ := get_of hi2
    obtain ⟨hae, cs1, ct1, fz1, hb1, hc1⟩ := row_at hF3 hx
    refine E.region ?_
    refine X.mv rfl rfl rfl rfl rfl ?_
    refine X.mv rfl rfl rfl rfl rfl ?_
    refine X.ixAe rfl rfl rfl rfl rfl rfl Try.underlying22 Try.sz3 (hae) (by omega) ?_
    refine X.ld rfl rfl rfl rfl Try.ag3 (hb1) (hc1) ?_
    refine X.gtr rfl rfl rfl rfl rfl rfl ?_
    refine X.done [(0, _), (2, _), (3, _), (4, _), (7, _), (8, _), (9, _), (10, _), (13, _), (14, _), (15, _), (16, _), (17, _)] ⟨rfl, rfl, rfl, rfl, rfl, rfl, rfl, rfl, rfl, rfl, rfl, rfl, rfl, trivial⟩ ?_
    refine N.then ?_
    refine E.condD rfl (fun hc => ?_) (fun hc => ?_)
    · refine E.seq ?_
      obtain ⟨va, vc, rfl⟩ := hO.len
      have hvl := hO.lt
      refine E.region ?_
      refine X.asg rfl rfl rfl rfl rfl ?_
      refine X.done [(0, _), (2, _), (3, _), (4, _), (7, _), (8, _), (9, _), (10, _), (13, _), (14, _), (15, _), (16, _), (17, _), (5, _)] ⟨rfl, rfl, rfl, rfl, rfl, rfl, rfl, rfl, rfl, rfl, rfl, rfl, rfl, rfl, trivial⟩ ?_
      refine N.then ?_
      refine E.seq ?_
      refine E.region ?_
      refine X.asg rfl rfl rfl rfl rfl ?_
      refine X.done [(0, _), (2, _), (3, _), (4, _), (7, _), (8, _), (9, _), (10, _), (13, _), (14, _), (15, _), (16, _), (17, _), (5, _), (6, _)] ⟨rfl, rfl, rfl, rfl, rfl, rfl, rfl, rfl, rfl, rfl, rfl, rfl, rfl, rfl, rfl, trivial⟩ ?_
      refine N.then ?_
      refine E.seq ?_
      refine E.block ?_
      -- MISSING in G: [7, 8, 9, 10, 13, 14, 15, 16, 17]
      refine E.loop (fun (q : SQ) => [(0, .slice a fs.length c), (2, .slice none 0 0), (3, .slice va (srtF fs i).length vc), (4, i64 i), (5, q.v), (6, i64 q.k)]) (fun (q : SQ) H' => q.k ≤ (srtF fs i).length ∧ (∀ j y, j < q.k → (srtF fs i)[j]? = some y → x ≤ y) ∧ Own H' 3 1 (.slice va (srtF fs i).length vc) (srtF fs i).length (iv (srtF fs i)) ∧ Own H' 3 1 q.v q.k (iv ((srtF fs i).take q.k)) ∧ (∀ b ∈ blk q.v, H3.size ≤ b) ∧ Kp [] H3 H') (fun (q : SQ) => (srtF fs i).length - q.k) ⟨0, .slice none 0 0⟩ ⟨rfl, rfl, rfl, rfl, rfl, rfl, trivial⟩ ⟨Nat.zero_le _, fun j y (hj : j < 0) => absurd hj (by omega), hO, Own.nil _ _ _, by simp [blk], Kp.refl _ _⟩ ?_
      rintro ⟨k, w⟩ H4 hJ
      dsimp only at hJ ⊢
      obtain ⟨hk, hle, hO4, hW, hwb, hk4⟩ := hJ
      have hF4 := hF3.keepN hk4
      obtain ⟨hae4, cs4, ct4, fz4, hb4, hc4⟩ := row_at hF4 hx
      refine E.seq ?_
      refine E.seq ?_
      refine E.regionD (fun H' => H' = H4) [(0, .pu), (1, .pu), (2, .pu), (3, .pu), (4, .pu), (5, .pu), (6, .pu), (7, .pu), (8, .st), (9, .pu), (10, .pu), (11, .pu), (12, .st), (13, .pu), (14, .pu)] Try.mixed (by kernel_rfl) (rfl) ?_
      refine X.mv rfl rfl rfl rfl rfl ?_
      refine X.mv rfl rfl rfl rfl rfl ?_
      refine X.lenS rfl rfl rfl rfl rfl Try.underlying22 ?_
      refine X.lssC rfl rfl rfl rfl rfl rfl (fun hc => ?_) (fun hc => ?_)
      · refine X.mv rfl rfl rfl rfl rfl ?_
        have hk2 : k < (srtF fs i).length := Int.ofNat_lt.1 (by assumption)
        obtain ⟨y, hy⟩ := get_of hk2
        have hy' := hy
        obtain ⟨rb, ro, hR4⟩ := own_row hO4
        obtain ⟨haeo, cso, cto, fzo, hbo, hco⟩ := row_at hR4 hy
        refine X.mv rfl rfl rfl rfl rfl ?_
        refine X.mv rfl rfl rfl rfl rfl ?_
        refine X.ixAe rfl rfl rfl rfl rfl rfl Try.underlying22 Try.sz3 (haeo) (by omega) ?_
        refine X.ld rfl rfl rfl rfl Try.ag3 (fun H' hF => by rw [hF]; exact hbo) (hco) ?_
        refine X.mv rfl rfl rfl rfl rfl ?_
        refine X.mv rfl rfl rfl rfl rfl ?_
        refine X.ixAe rfl rfl rfl rfl rfl rfl Try.underlying22 Try.sz3 (hae4) (by omega) ?_
        refine X.ld rfl rfl rfl rfl Try.ag3 (fun H' hF => by rw [hF]; exact hb4) (hc4) ?_
        refine X.geq rfl rfl rfl rfl rfl rfl ?_
        refine X.pickT rfl rfl rfl rfl rfl rfl ?_
        refine X.done [(0, _), (2, _), (3, _), (4, _), (5, _), (6, _), (18, _), (19, _), (20, _), (21, _), (22, _), (23, _), (24, _), (25, _), (26, _), (27, _), (28, _), (29, _), (30, _), (31, _), (32, _)] ⟨rfl, rfl, rfl, rfl, rfl, rfl, rfl, rfl, rfl, rfl, rfl, rfl, rfl, rfl, rfl, rfl, rfl, rfl, rfl, rfl, rfl, trivial⟩ ?_
        refine N.then ?_
        refine E.condD rfl (fun hc => ?_) (fun hc => ?_)
        · refine E.skip ?_
          refine N.then ?_
          refine E.block ?_
          refine E.seq ?_
          refine E.region ?_
          refine X.mv rfl rfl rfl rfl rfl ?_
          refine X.mv rfl rfl rfl rfl rfl ?_
          refine X.mv rfl rfl rfl rfl rfl ?_
          refine X.ixAe rfl rfl rfl rfl rfl rfl Try.underlying22 Try.sz3 (haeo) (by omega) ?_
          refine X.ld rfl rfl rfl rfl Try.ag3 (hbo) (hco) ?_
          refine X.lit (e := 3) (cs := [i64 y]) rfl rfl rfl rfl rfl (fun _ => by kernel_rfl) ?_
          intro b5 H5 hn5 hb5 hk5
          have hO5 := hO4.keep hk5 (by simp)
          have hW5 := hW.keep hk5 (by simp)
          have hk45 := hk4.trans hk5 (by simp)
          refine X.app TI rfl rfl rfl rfl rfl rfl (hW5) (by exact .inl (rdz hb5)) (.inl ⟨3, Try.underlying22, _, _, rfl⟩) (iv_one _) (by first | (simp only [maxLen]; omega) | omega) (by first | (simp only [maxLen]; omega) | omega) ?_
          intro v9 H9 hW9 hk9' hb9 hn9
          have hO9 := hO5.keep hk9' (fun b hb h => absurd (hwb b h) (by have := hvl b hb; omega))
          have hk9 := hk45.trans hk9' (fun b hb => .inr (hwb b hb))
          have hwb9 : ∀ b ∈ blk v9, H3.size ≤ b := fun b hb => hb9.elim (fun h => hwb b (h ▸ hb)) (fun h => Nat.le_trans hk45.size (h b hb))
          rw [iv_app, ← take_snocI hy] at hW9
          refine X.asg rfl rfl rfl rfl rfl ?_
          refine X.done [(0, _), (2, _), (3, _), (4, _), (5, _), (6, _), (18, _), (19, _), (20, _), (21, _), (22, _), (23, _), (24, _), (25, _), (26, _), (27, _), (28, _), (29, _), (30, _), (31, _), (32, _), (33, _), (34, _), (35, _), (36, _), (37, _), (38, _), (39, _)] ⟨rfl, rfl, rfl, rfl, rfl, rfl, rfl, rfl, rfl, rfl, rfl, rfl, rfl, rfl, rfl, rfl, rfl, rfl, rfl, rfl, rfl, rfl, rfl, rfl, rfl, rfl, rfl, rfl, trivial⟩ ?_
          refine N.then ?_
          refine E.region ?_
          refine X.mv rfl rfl rfl rfl rfl ?_
          refine X.add rfl rfl rfl rfl rfl rfl (by omega) ?_
          refine X.asg rfl rfl rfl rfl rfl ?_
          refine X.done [(0, _), (2, _), (3, _), (4, _), (5, _), (6, _), (18, _), (19, _), (20, _), (21, _), (22, _), (23, _), (24, _), (25, _), (26, _), (27, _), (28, _), (29, _), (30, _), (31, _), (32, _), (33, _), (34, _), (35, _), (36, _), (37, _), (38, _), (39, _), (40, _), (41, _)] ⟨rfl, rfl, rfl, rfl, rfl, rfl, rfl, rfl, rfl, rfl, rfl, rfl, rfl, rfl, rfl, rfl, rfl, rfl, rfl, rfl, rfl, rfl, rfl, rfl, rfl, rfl, rfl, rfl, rfl, rfl, trivial⟩ ?_
          refine N.blk ?_
          exact N.next (G := fun (q : SQ) => _) ⟨k + 1, v9⟩ ⟨rfl, rfl, rfl, rfl, rfl, rfl, trivial⟩ ⟨by show k + 1 ≤ (srtF fs i).length; omega, fun j z (hj : j < k + 1) hz => by
            rcases Nat.lt_or_ge j k with h | h
            · exact hle j z h hz
            · obtain rfl : j = k := by omega
              rw [hy] at hz; have := Option.some.inj hz; omega, hO9, hW9, hwb9, hk9⟩ (by show (srtF fs i).length - (k + 1) < (srtF fs i).length - k; omega)
        · refine E.exit ?_
          refine N.thenX ?_
          refine N.loopX ?_
          refine N.blkX ?_
          refine N.then ?_
          refine E.seq ?_
          have hend : ∀ y, (srtF fs i)[k]? = some y → ¬ x ≤ y := by
            intro y hy
            first
              | (have h1 := (List.getElem?_eq_some_iff.1 hy).1; exact absurd h1 (by omega))
              | (rw [hy'] at hy; have := Option.some.inj hy; omega)
          refine E.region ?_
          refine X.mv rfl rfl rfl rfl rfl ?_
          refine X.mv rfl rfl rfl rfl rfl ?_
          refine X.mv rfl rfl rfl rfl rfl ?_
          refine X.ixAe rfl rfl rfl rfl rfl rfl Try.underlying22 Try.sz3 (hae4) (by omega) ?_
          refine X.ld rfl rfl rfl rfl Try.ag3 (hb4) (hc4) ?_
          refine X.lit (e := 3) (cs := [i64 x]) rfl rfl rfl rfl rfl (fun _ => by kernel_rfl) ?_
          intro b5 H5 hn5 hb5 hk5
          have hO5 := hO4.keep hk5 (by simp)
          have hW5 := hW.keep hk5 (by simp)
          have hk45 := hk4.trans hk5 (by simp)
          refine X.app TI rfl rfl rfl rfl rfl rfl (hW5) (by exact .inl (rdz hb5)) (.inl ⟨3, Try.underlying22, _, _, rfl⟩) (iv_one _) (by first | (simp only [maxLen]; omega) | omega) (by first | (simp only [maxLen]; omega) | omega) ?_
          intro v11 H11 hW11 hk11' hb11 hn11
          have hO11 := hO5.keep hk11' (fun b hb h => absurd (hwb b h) (by have := hvl b hb; omega))
          have hk11 := hk45.trans hk11' (fun b hb => .inr (hwb b hb))
          have hwb11 : ∀ b ∈ blk v11, H3.size ≤ b := fun b hb => hb11.elim (fun h => hwb b (h ▸ hb)) (fun h => Nat.le_trans hk45.size (h b hb))
          rw [iv_app] at hW11
          refine X.asg rfl rfl rfl rfl rfl ?_
          refine X.done [(0, _), (2, _), (3, _), (4, _), (5, _), (6, _), (18, _), (19, _), (20, _), (21, _), (22, _), (23, _), (24, _), (25, _), (26, _), (27, _), (28, _), (29, _), (30, _), (31, _), (32, _), (42, _), (43, _), (44, _), (45, _), (46, _), (47, _), (48, _)] ⟨rfl, rfl, rfl, rfl, rfl, rfl, rfl, rfl, rfl, rfl, rfl, rfl, rfl, rfl, rfl, rfl, rfl, rfl, rfl, rfl, rfl, rfl, rfl, rfl, rfl, rfl, rfl, rfl, trivial⟩ ?_
          refine N.then ?_
          refine E.region ?_
          refine X.mv rfl rfl rfl rfl rfl ?_
          refine X.mv rfl rfl rfl rfl rfl ?_
          refine X.mv rfl rfl rfl rfl rfl ?_
          refine X.sl1 rfl rfl rfl rfl rfl rfl Try.underlying22 Try.sz3 (by omega) ?_
          refine X.app TI rfl rfl rfl rfl rfl rfl (hW11) (by exact .inl (hO11.rd.drop hO11.cap.1 (p := k) hk)) (.inl ⟨3, Try.underlying22, _, _, rfl⟩) (fun u hu => iv_one _ u (List.mem_of_mem_drop hu)) (by first | (simp only [maxLen]; omega) | omega) (by first | (simp only [maxLen]; omega) | omega) ?_
          intro v12 H12 hW12 hk12' hb12 hn12
          have hk12 := hk11.trans hk12' (fun b hb => .inr (hwb11 b hb))
          have hkk12 := hkk.trans hk12 (by simp)
          have hs3 := hkk.size
          have hv12 : ∀ b ∈ blk v12, H.size ≤ b := fun b hb => hb12.elim (fun h => by have := hwb11 b (h ▸ hb); omega) (fun h => by have := h b hb; have := hk11.size; omega)
          have hO12 : Own H12 3 1 v12 (srtF fs (i + 1)).length (iv (srtF fs (i + 1))) := by
            have e : srtF fs (i + 1) = ((srtF fs i).take k ++ [x]) ++ (srtF fs i).drop k := by rw [srt_pos hx (by omega)]; exact ins_at hk hle hend
            have e2 : (srtF fs (i + 1)).length = k + 1 + ((srtF fs i).length - k) := by rw [e]; simp; omega
            rw [e2, e, ← iv_app, show iv ((srtF fs i).drop k) = (iv (srtF fs i)).drop (k * 1) by rw [Nat.mul_one]; exact List.map_drop ..]
            exact hW12
          refine X.asg rfl rfl rfl rfl rfl ?_
          refine X.done [(0, _), (2, _), (3, _), (4, _), (5, _), (6, _), (18, _), (19, _), (20, _), (21, _), (22, _), (23, _), (24, _), (25, _), (26, _), (27, _), (28, _), (29, _), (30, _), (31, _), (32, _), (42, _), (43, _), (44, _), (45, _), (46, _), (47, _), (48, _), (49, _), (50, _), (51, _), (52, _), (53, _)] ⟨rfl, rfl, rfl, rfl, rfl, rfl, rfl, rfl, rfl, rfl, rfl, rfl, rfl, rfl, rfl, rfl, rfl, rfl, rfl, rfl, rfl, rfl, rfl, rfl, rfl, rfl, rfl, rfl, rfl, rfl, rfl, rfl, rfl, trivial⟩ ?_
          refine N.blk ?_
          refine N.then ?_
          refine E.region ?_
          refine X.mv rfl rfl rfl rfl rfl ?_
          refine X.add rfl rfl rfl rfl rfl rfl (by omega) ?_
          refine X.asg rfl rfl rfl rfl rfl ?_
          refine X.done [(0, _), (2, _), (3, _), (4, _), (5, _), (6, _), (18, _), (19, _), (20, _), (21, _), (22, _), (23, _), (24, _), (25, _), (26, _), (27, _), (28, _), (29, _), (30, _), (31, _), (32, _), (42, _), (43, _), (44, _), (45, _), (46, _), (47, _), (48, _), (49, _), (50, _), (51, _), (52, _), (53, _), (11, _), (12, _)] ⟨rfl, rfl, rfl, rfl, rfl, rfl, rfl, rfl, rfl, rfl, rfl, rfl, rfl, rfl, rfl, rfl, rfl, rfl, rfl, rfl, rfl, rfl, rfl, rfl, rfl, rfl, rfl, rfl, rfl, rfl, rfl, rfl, rfl, rfl, rfl, trivial⟩ ?_
          first
            | exact N.next (G := fun (q : SQ) => _) ⟨i + 1, v⟩ ⟨rfl, rfl, rfl, rfl, trivial⟩ ⟨by show i + 1 ≤ fs.length; omega, by show Own _ 3 1 v (srtF fs (i + 1)).length (iv (srtF fs (i + 1))); rw [srt_neg hx (by omega)]; exact hO, hvb, hkk⟩ (by show fs.length - (i + 1) < fs.length - i; omega)
            | exact N.next (G := fun (q : SQ) => _) ⟨i + 1, v12⟩ ⟨rfl, rfl, rfl, rfl, trivial⟩ ⟨by show i + 1 ≤ fs.length; omega, hO12, hv12, hkk12⟩ (by show fs.length - (i + 1) < fs.length - i; omega)
      · refine X.mv rfl rfl rfl rfl rfl ?_
        refine X.skip rfl rfl rfl ?_
        refine X.skip rfl rfl rfl ?_
        refine X.skip rfl rfl rfl ?_
        refine X.skip rfl rfl rfl ?_
        refine X.skip rfl rfl rfl ?_
        refine X.skip rfl rfl rfl ?_
        refine X.skip rfl rfl rfl ?_
        refine X.skip rfl rfl rfl ?_
        refine X.skip rfl rfl rfl ?_
        refine X.pickF rfl rfl rfl rfl rfl rfl ?_
        refine X.done [(0, _), (2, _), (3, _), (4, _), (5, _), (6, _), (18, _), (19, _), (20, _), (21, _), (22, _), (23, _), (24, _), (25, _), (26, _), (27, _), (28, _), (29, _), (30, _), (31, _), (32, _)] ⟨rfl, rfl, rfl, rfl, rfl, rfl, rfl, rfl, rfl, rfl, rfl, rfl, rfl, rfl, rfl, rfl, rfl, rfl, rfl, rfl, rfl, trivial⟩ ?_
        refine N.then ?_
        refine E.condF rfl ?_
        refine E.exit ?_
        refine N.thenX ?_
        refine N.loopX ?_
        refine N.blkX ?_
        refine N.then ?_
        refine E.seq ?_
        have hend : ∀ y, (srtF fs i)[k]? = some y → ¬ x ≤ y := by
          intro y hy
          first
            | (have h1 := (List.getElem?_eq_some_iff.1 hy).1; exact absurd h1 (by omega))
            | (rw [hy'] at hy; have := Option.some.inj hy; omega)
        refine E.region ?_
        refine X.mv rfl rfl rfl rfl rfl ?_
        refine X.mv rfl rfl rfl rfl rfl ?_
        refine X.mv rfl rfl rfl rfl rfl ?_
        refine X.ixAe rfl rfl rfl rfl rfl rfl Try.underlying22 Try.sz3 (hae4) (by omega) ?_
        refine X.ld rfl rfl rfl rfl Try.ag3 (hb4) (hc4) ?_
        refine X.lit (e := 3) (cs := [i64 x]) rfl rfl rfl rfl rfl (fun _ => by kernel_rfl) ?_
        intro b5 H5 hn5 hb5 hk5
        have hO5 := hO4.keep hk5 (by simp)
        have hW5 := hW.keep hk5 (by simp)
        have hk45 := hk4.trans hk5 (by simp)
        refine X.app TI rfl rfl rfl rfl rfl rfl (hW5) (by exact .inl (rdz hb5)) (.inl ⟨3, Try.underlying22, _, _, rfl⟩) (iv_one _) (by first | (simp only [maxLen]; omega) | omega) (by first | (simp only [maxLen]; omega) | omega) ?_
        intro v11 H11 hW11 hk11' hb11 hn11
        have hO11 := hO5.keep hk11' (fun b hb h => absurd (hwb b h) (by have := hvl b hb; omega))
        have hk11 := hk45.trans hk11' (fun b hb => .inr (hwb b hb))
        have hwb11 : ∀ b ∈ blk v11, H3.size ≤ b := fun b hb => hb11.elim (fun h => hwb b (h ▸ hb)) (fun h => Nat.le_trans hk45.size (h b hb))
        rw [iv_app] at hW11
        refine X.asg rfl rfl rfl rfl rfl ?_
        refine X.done [(0, _), (2, _), (3, _), (4, _), (5, _), (6, _), (18, _), (19, _), (20, _), (21, _), (22, _), (23, _), (24, _), (25, _), (26, _), (27, _), (28, _), (29, _), (30, _), (31, _), (32, _), (42, _), (43, _), (44, _), (45, _), (46, _), (47, _), (48, _)] ⟨rfl, rfl, rfl, rfl, rfl, rfl, rfl, rfl, rfl, rfl, rfl, rfl, rfl, rfl, rfl, rfl, rfl, rfl, rfl, rfl, rfl, rfl, rfl, rfl, rfl, rfl, rfl, rfl, trivial⟩ ?_
        refine N.then ?_
        refine E.region ?_
        refine X.mv rfl rfl rfl rfl rfl ?_
        refine X.mv rfl rfl rfl rfl rfl ?_
        refine X.mv rfl rfl rfl rfl rfl ?_
        refine X.sl1 rfl rfl rfl rfl rfl rfl Try.underlying22 Try.sz3 (by omega) ?_
        refine X.app TI rfl rfl rfl rfl rfl rfl (hW11) (by exact .inl (hO11.rd.drop hO11.cap.1 (p := k) hk)) (.inl ⟨3, Try.underlying22, _, _, rfl⟩) (fun u hu => iv_one _ u (List.mem_of_mem_drop hu)) (by first | (simp only [maxLen]; omega) | omega) (by first | (simp only [maxLen]; omega) | omega) ?_
        intro v12 H12 hW12 hk12' hb12 hn12
        have hk12 := hk11.trans hk12' (fun b hb => .inr (hwb11 b hb))
        have hkk12 := hkk.trans hk12 (by simp)
        have hs3 := hkk.size
        have hv12 : ∀ b ∈ blk v12, H.size ≤ b := fun b hb => hb12.elim (fun h => by have := hwb11 b (h ▸ hb); omega) (fun h => by have := h b hb; have := hk11.size; omega)
        have hO12 : Own H12 3 1 v12 (srtF fs (i + 1)).length (iv (srtF fs (i + 1))) := by
          have e : srtF fs (i + 1) = ((srtF fs i).take k ++ [x]) ++ (srtF fs i).drop k := by rw [srt_pos hx (by omega)]; exact ins_at hk hle hend
          have e2 : (srtF fs (i + 1)).length = k + 1 + ((srtF fs i).length - k) := by rw [e]; simp; omega
          rw [e2, e, ← iv_app, show iv ((srtF fs i).drop k) = (iv (srtF fs i)).drop (k * 1) by rw [Nat.mul_one]; exact List.map_drop ..]
          exact hW12
        refine X.asg rfl rfl rfl rfl rfl ?_
        refine X.done [(0, _), (2, _), (3, _), (4, _), (5, _), (6, _), (18, _), (19, _), (20, _), (21, _), (22, _), (23, _), (24, _), (25, _), (26, _), (27, _), (28, _), (29, _), (30, _), (31, _), (32, _), (42, _), (43, _), (44, _), (45, _), (46, _), (47, _), (48, _), (49, _), (50, _), (51, _), (52, _), (53, _)] ⟨rfl, rfl, rfl, rfl, rfl, rfl, rfl, rfl, rfl, rfl, rfl, rfl, rfl, rfl, rfl, rfl, rfl, rfl, rfl, rfl, rfl, rfl, rfl, rfl, rfl, rfl, rfl, rfl, rfl, rfl, rfl, rfl, rfl, trivial⟩ ?_
        refine N.blk ?_
        refine N.then ?_
        refine E.region ?_
        refine X.mv rfl rfl rfl rfl rfl ?_
        refine X.add rfl rfl rfl rfl rfl rfl (by omega) ?_
        refine X.asg rfl rfl rfl rfl rfl ?_
        refine X.done [(0, _), (2, _), (3, _), (4, _), (5, _), (6, _), (18, _), (19, _), (20, _), (21, _), (22, _), (23, _), (24, _), (25, _), (26, _), (27, _), (28, _), (29, _), (30, _), (31, _), (32, _), (42, _), (43, _), (44, _), (45, _), (46, _), (47, _), (48, _), (49, _), (50, _), (51, _), (52, _), (53, _), (11, _), (12, _)] ⟨rfl, rfl, rfl, rfl, rfl, rfl, rfl, rfl, rfl, rfl, rfl, rfl, rfl, rfl, rfl, rfl, rfl, rfl, rfl, rfl, rfl, rfl, rfl, rfl, rfl, rfl, rfl, rfl, rfl, rfl, rfl, rfl, rfl, rfl, rfl, trivial⟩ ?_
        first
          | exact N.next (G := fun (q : SQ) => _) ⟨i + 1, v⟩ ⟨rfl, rfl, rfl, rfl, trivial⟩ ⟨by show i + 1 ≤ fs.length; omega, by show Own _ 3 1 v (srtF fs (i + 1)).length (iv (srtF fs (i + 1))); rw [srt_neg hx (by omega)]; exact hO, hvb, hkk⟩ (by show fs.length - (i + 1) < fs.length - i; omega)
          | exact N.next (G := fun (q : SQ) => _) ⟨i + 1, v12⟩ ⟨rfl, rfl, rfl, rfl, trivial⟩ ⟨by show i + 1 ≤ fs.length; omega, hO12, hv12, hkk12⟩ (by show fs.length - (i + 1) < fs.length - i; omega)
    · refine E.skip ?_
      refine N.blk ?_
      refine N.then ?_
      refine E.region ?_
      refine X.mv rfl rfl rfl rfl rfl ?_
      refine X.add rfl rfl rfl rfl rfl rfl (by omega) ?_
      refine X.asg rfl rfl rfl rfl rfl ?_
      refine X.done [(0, _), (2, _), (3, _), (4, _), (7, _), (8, _), (9, _), (10, _), (13, _), (14, _), (15, _), (16, _), (17, _), (11, _), (12, _)] ⟨rfl, rfl, rfl, rfl, rfl, rfl, rfl, rfl, rfl, rfl, rfl, rfl, rfl, rfl, rfl, trivial⟩ ?_
      first
        | exact N.next (G := fun (q : SQ) => _) ⟨i + 1, v⟩ ⟨rfl, rfl, rfl, rfl, trivial⟩ ⟨by show i + 1 ≤ fs.length; omega, by show Own _ 3 1 v (srtF fs (i + 1)).length (iv (srtF fs (i + 1))); rw [srt_neg hx (by omega)]; exact hO, hvb, hkk⟩ (by show fs.length - (i + 1) < fs.length - i; omega)
        | exact N.next (G := fun (q : SQ) => _) ⟨i + 1, v12⟩ ⟨rfl, rfl, rfl, rfl, trivial⟩ ⟨by show i + 1 ≤ fs.length; omega, hO12, hv12, hkk12⟩ (by show fs.length - (i + 1) < fs.length - i; omega)
  · refine E.exit ?_
    refine N.thenX ?_
    refine N.loopX ?_
    refine N.blkX ?_
    refine N.then ?_
    refine E.seq ?_
    refine E.region ?_
    refine X.mv rfl rfl rfl rfl rfl ?_
    refine X.asg rfl rfl rfl rfl rfl ?_
    refine X.done [(2, _)] ⟨rfl, trivial⟩ ?_
    refine N.then ?_
    refine E.ret ?_
    obtain rfl : i = fs.length := by omega
    exact N.retH [_] ⟨_, _, rfl, rfl, rfl⟩ ⟨hO, hvb, hkk⟩

end Go.Proofs.Ytjlelcfabfmiaaa