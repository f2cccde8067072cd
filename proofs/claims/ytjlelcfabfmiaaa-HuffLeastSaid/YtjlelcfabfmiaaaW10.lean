/- The walks: whether lengths are right. -/
import Derived.Test.YtjlelcfabfmiaaaW9
namespace Go.Proofs.Ytjlelcfabfmiaaa
open Go.SX Go.Hf
attribute [local irreducible] X E N Ct
set_option linter.unusedVariables false
set_option linter.unusedSimpArgs false
theorem cntP_succ {ls : List Int} {i : Nat} {y : Int} (h : ls[i]? = some y) : cntP ls (i + 1) = cntP ls i + (if 0 < y then 1 else 0) := by
  rw [cntP, getD_of h]
theorem cntP_le (ls : List Int) : ∀ i, cntP ls i ≤ i
  | 0 => Nat.le_refl _
  | i + 1 => by rw [cntP]; have := cntP_le ls i; split <;> omega
section
variable {fs : List Int} {most : Int} {g : Nat → Nat}
theorem fits_found (F : Found fs most g) (h : Good fs most) (hn : 2 ≤ (usedV fs).length) (lb : Nat) (H : Heap) (hl : H[lb]? = some (.cells (iv (lensV fs most)).toArray 3 (0, 0))) : Ct Try.prog 23 #[sl0 lb fs.length, .bool false] H fun v H' => v = i64 0 ∧ Kp [] H H' := by
  have hlen := h.len
  have hA := lensV_row hl
  rw [F.nats h, Ln.nv_iv] at hA
  have hk : Go.Lens.K (natsV fs most) 15 = 32768 := by rw [← Go.Lens.kr_eq _ (F.nats_ok h)]; exact F.full h hn
  have h1 := Ln.rfits_f (natsV fs most) (some ⟨lb, 0, none⟩) lb 0 fs.length H hA (F.nats_ok h) (by rw [F.nats_len]; exact hlen) (by omega)
  rw [F.nats_len, Ln.fitV_f, if_pos hk] at h1
  exact h1
theorem kraft_found (F : Found fs most g) (h : Good fs most) (hn : (usedV fs).length = 1) (lb : Nat) (H : Heap) (hl : H[lb]? = some (.cells (iv (lensV fs most)).toArray 3 (0, 0))) : Ct Try.prog 22 #[sl0 lb fs.length] H fun v H' => v = i64 16384 ∧ H' = H := by
  have hlen := h.len
  have hA := lensV_row hl
  rw [F.nats h, Ln.nv_iv] at hA
  have h1 := Ln.rkraft_ok (natsV fs most) (some ⟨lb, 0, none⟩) lb 0 fs.length H hA (F.nats_ok h) (by rw [F.nats_len]; exact hlen)
  rw [F.nats_len, F.lone h hn] at h1
  exact h1
end

theorem right_ct (fs : List Int) (a : Option Addr) (b o c : Nat) (most : Int) (lb : Nat) (H : Heap) (hF : Row1 H a b o (iv fs)) (hg : Good fs most) (hl : H[lb]? = some (.cells (iv (lensV fs most)).toArray 3 (0, 0))) : Ct Try.prog 10 #[.slice a fs.length c, sl0 lb fs.length, i64 most] H fun v H' => v = .bool true ∧ Kp [] H H' := by
  obtain ⟨g, F⟩ := found hg
  have hlen := hg.len
  refine Ct.into 135 Try.func10 rfl [(0, .slice a fs.length c), (1, sl0 lb fs.length), (2, i64 most)] rfl ⟨rfl, rfl, rfl, trivial⟩ ?_
  refine E.seq ?_
  refine E.region ?_
  refine X.asg rfl rfl rfl rfl rfl ?_
  refine X.done [(0, _), (1, _), (2, _), (6, _)] ⟨rfl, rfl, rfl, rfl, trivial⟩ ?_
  refine N.then ?_
  refine E.seq ?_
  refine E.seq ?_
  refine E.region ?_
  refine X.mv rfl rfl rfl rfl rfl ?_
  refine X.lenS rfl rfl rfl rfl rfl Try.underlying22 ?_
  refine X.mv rfl rfl rfl rfl rfl ?_
  refine X.lenS rfl rfl rfl rfl rfl Try.underlying22 ?_
  refine X.neqF rfl rfl rfl rfl rfl rfl (by omega) ?_
  refine X.done [(0, _), (1, _), (2, _), (6, _), (14, _)] ⟨rfl, rfl, rfl, rfl, rfl, trivial⟩ ?_
  refine N.then ?_
  refine E.condF rfl ?_
  refine E.skip ?_
  refine N.then ?_
  refine E.seq ?_
  refine E.region ?_
  refine X.asg rfl rfl rfl rfl rfl ?_
  refine X.done [(0, _), (1, _), (2, _), (6, _), (7, _)] ⟨rfl, rfl, rfl, rfl, rfl, trivial⟩ ?_
  refine N.then ?_
  refine E.seq ?_
  refine E.seq ?_
  refine E.region ?_
  refine X.asg rfl rfl rfl rfl rfl ?_
  refine X.done [(0, _), (1, _), (2, _), (6, _), (7, _), (8, _)] ⟨rfl, rfl, rfl, rfl, rfl, rfl, trivial⟩ ?_
  refine N.then ?_
  refine E.block ?_
  -- MISSING in G: [6]
  refine E.loop (fun (i : Nat) => [(0, .slice a fs.length c), (1, sl0 lb fs.length), (2, i64 most), (7, i64 (cntP (lensV fs most) i)), (8, i64 i)]) (fun (i : Nat) H' => i ≤ fs.length ∧ H' = H) (fun (i : Nat) => fs.length - i) 0 ⟨rfl, rfl, rfl, rfl, rfl, trivial⟩ ⟨Nat.zero_le _, rfl⟩ ?_
  rintro i H3 ⟨hi, eH⟩
  obtain rfl := eH.symm
  refine E.seq ?_
  refine E.seq ?_
  refine E.region ?_
  refine X.mv rfl rfl rfl rfl rfl ?_
  refine X.mv rfl rfl rfl rfl rfl ?_
  refine X.lenS rfl rfl rfl rfl rfl Try.underlying22 ?_
  refine X.lss rfl rfl rfl rfl rfl rfl ?_
  refine X.done [(0, _), (1, _), (2, _), (7, _), (8, _), (15, _), (16, _), (17, _), (18, _)] ⟨rfl, rfl, rfl, rfl, rfl, rfl, rfl, rfl, rfl, trivial⟩ ?_
  refine N.then ?_
  refine E.condD rfl (fun hc => ?_) (fun hc => ?_)
  · refine E.skip ?_
    refine N.then ?_
    refine E.seq ?_
    refine E.block ?_
    refine E.seq ?_
    refine E.seq ?_
    have hi2 : i < fs.length := Int.ofNat_lt.1 (by assumption)
    obtain ⟨x, hx⟩ := get_of hi2
    obtain ⟨y, hy⟩ := get_of (xs := lensV fs most) (i := i) (by rw [F.len]; exact hi2)
    obtain ⟨hae, cs1, ct1, fz1, hb1, hc1⟩ := row_at hF hx
    obtain ⟨hae2, cs2, ct2, fz2, hb2, hc2⟩ := row_at (lensV_row hl) hy
    obtain ⟨hv0, hvm, hvp⟩ := F.val hg i
    replace hvp := hvp hi2
    rw [getD_of hy] at hv0 hvm hvp
    rw [getD_of hx] at hvp
    have hcs := cntP_succ hy
    have hcl := cntP_le (lensV fs most) i
    refine E.regionD (fun H' => H'[b]? = some (.cells cs1.toArray ct1 fz1) ∧ H'[lb]? = some (.cells cs2.toArray ct2 fz2)) [(0, .pu), (1, .pu), (2, .pu), (3, .st), (4, .pu), (5, .pu), (6, .pu), (7, .pu), (8, .st), (9, .pu), (10, .pu), (11, .pu), (12, .pu), (13, .pu), (14, .pu), (15, .st), (16, .pu), (17, .pu), (18, .pu), (19, .pu), (20, .pu), (21, .pu), (22, .st), (23, .pu), (24, .pu), (25, .pu)] Try.mixed (by kernel_rfl) (⟨hb1, hb2⟩) ?_
    refine X.mv rfl rfl rfl rfl rfl ?_
    refine X.mv rfl rfl rfl rfl rfl ?_
    refine X.ixAe rfl rfl rfl rfl rfl rfl Try.underlying22 Try.sz3 (rfl) (by omega) ?_
    refine X.ld rfl rfl rfl rfl Try.ag3 (fun H' hF => hF.2) (hc2) ?_
    refine X.gtrC rfl rfl rfl rfl rfl rfl (fun hc => ?_) (fun hc => ?_)
    · refine X.mv rfl rfl rfl rfl rfl ?_
      refine X.mv rfl rfl rfl rfl rfl ?_
      refine X.ixAe rfl rfl rfl rfl rfl rfl Try.underlying22 Try.sz3 (hae) (by omega) ?_
      refine X.ld rfl rfl rfl rfl Try.ag3 (fun H' hF => hF.1) (hc1) ?_
      refine X.gtrT rfl rfl rfl rfl rfl rfl (by omega) ?_
      refine X.neqBF rfl rfl rfl rfl rfl rfl Try.underlying4 (rfl) ?_
      refine X.mv rfl rfl rfl rfl rfl ?_
      refine X.mv rfl rfl rfl rfl rfl ?_
      refine X.mv rfl rfl rfl rfl rfl ?_
      refine X.ixAe rfl rfl rfl rfl rfl rfl Try.underlying22 Try.sz3 (rfl) (by omega) ?_
      refine X.ld rfl rfl rfl rfl Try.ag3 (fun H' hF => hF.2) (hc2) ?_
      refine X.lssF rfl rfl rfl rfl rfl rfl (by omega) ?_
      refine X.pickF rfl rfl rfl rfl rfl rfl ?_
      refine X.mv rfl rfl rfl rfl rfl ?_
      refine X.mv rfl rfl rfl rfl rfl ?_
      refine X.mv rfl rfl rfl rfl rfl ?_
      refine X.ixAe rfl rfl rfl rfl rfl rfl Try.underlying22 Try.sz3 (rfl) (by omega) ?_
      refine X.ld rfl rfl rfl rfl Try.ag3 (fun H' hF => hF.2) (hc2) ?_
      refine X.mv rfl rfl rfl rfl rfl ?_
      refine X.gtrF rfl rfl rfl rfl rfl rfl (by omega) ?_
      refine X.pickF rfl rfl rfl rfl rfl rfl ?_
      refine X.done [(0, _), (1, _), (2, _), (7, _), (8, _), (15, _), (16, _), (17, _), (18, _), (21, _), (22, _), (23, _), (24, _), (25, _), (26, _), (27, _), (28, _), (29, _), (30, _), (31, _), (32, _), (33, _), (34, _), (35, _), (36, _), (37, _), (38, _), (39, _), (40, _), (41, _), (42, _), (43, _), (44, _), (45, _), (46, _)] ⟨rfl, rfl, rfl, rfl, rfl, rfl, rfl, rfl, rfl, rfl, rfl, rfl, rfl, rfl, rfl, rfl, rfl, rfl, rfl, rfl, rfl, rfl, rfl, rfl, rfl, rfl, rfl, rfl, rfl, rfl, rfl, rfl, rfl, rfl, rfl, trivial⟩ ?_
      refine N.then ?_
      refine E.condF rfl ?_
      refine E.skip ?_
      refine N.then ?_
      refine E.seq ?_
      refine E.seq ?_
      refine E.region ?_
      refine X.mv rfl rfl rfl rfl rfl ?_
      refine X.mv rfl rfl rfl rfl rfl ?_
      refine X.ixAe rfl rfl rfl rfl rfl rfl Try.underlying22 Try.sz3 (rfl) (by omega) ?_
      refine X.ld rfl rfl rfl rfl Try.ag3 (hb2) (hc2) ?_
      refine X.gtrT rfl rfl rfl rfl rfl rfl (by omega) ?_
      refine X.done [(0, _), (1, _), (2, _), (7, _), (8, _), (15, _), (16, _), (17, _), (18, _), (21, _), (22, _), (23, _), (24, _), (25, _), (26, _), (27, _), (28, _), (29, _), (30, _), (31, _), (32, _), (33, _), (34, _), (35, _), (36, _), (37, _), (38, _), (39, _), (40, _), (41, _), (42, _), (43, _), (44, _), (45, _), (46, _), (47, _), (48, _), (49, _), (50, _), (51, _)] ⟨rfl, rfl, rfl, rfl, rfl, rfl, rfl, rfl, rfl, rfl, rfl, rfl, rfl, rfl, rfl, rfl, rfl, rfl, rfl, rfl, rfl, rfl, rfl, rfl, rfl, rfl, rfl, rfl, rfl, rfl, rfl, rfl, rfl, rfl, rfl, rfl, rfl, rfl, rfl, rfl, trivial⟩ ?_
      refine N.then ?_
      refine E.condT rfl ?_
      refine E.region ?_
      refine X.mv rfl rfl rfl rfl rfl ?_
      refine X.add rfl rfl rfl rfl rfl rfl (by omega) ?_
      refine X.asg rfl rfl rfl rfl rfl ?_
      refine X.done [(0, _), (1, _), (2, _), (7, _), (8, _), (15, _), (16, _), (17, _), (18, _), (21, _), (22, _), (23, _), (24, _), (25, _), (26, _), (27, _), (28, _), (29, _), (30, _), (31, _), (32, _), (33, _), (34, _), (35, _), (36, _), (37, _), (38, _), (39, _), (40, _), (41, _), (42, _), (43, _), (44, _), (45, _), (46, _), (47, _), (48, _), (49, _), (50, _), (51, _), (52, _), (53, _)] ⟨rfl, rfl, rfl, rfl, rfl, rfl, rfl, rfl, rfl, rfl, rfl, rfl, rfl, rfl, rfl, rfl, rfl, rfl, rfl, rfl, rfl, rfl, rfl, rfl, rfl, rfl, rfl, rfl, rfl, rfl, rfl, rfl, rfl, rfl, rfl, rfl, rfl, rfl, rfl, rfl, rfl, rfl, trivial⟩ ?_
      refine N.then ?_
      refine E.seq ?_
      refine E.region ?_
      refine X.asg rfl rfl rfl rfl rfl ?_
      refine X.done [(0, _), (1, _), (2, _), (7, _), (8, _), (15, _), (16, _), (17, _), (18, _), (21, _), (22, _), (23, _), (24, _), (25, _), (26, _), (27, _), (28, _), (29, _), (30, _), (31, _), (32, _), (33, _), (34, _), (35, _), (36, _), (37, _), (38, _), (39, _), (40, _), (41, _), (42, _), (43, _), (44, _), (45, _), (46, _), (47, _), (48, _), (49, _), (50, _), (51, _), (52, _), (53, _), (9, _)] ⟨rfl, rfl, rfl, rfl, rfl, rfl, rfl, rfl, rfl, rfl, rfl, rfl, rfl, rfl, rfl, rfl, rfl, rfl, rfl, rfl, rfl, rfl, rfl, rfl, rfl, rfl, rfl, rfl, rfl, rfl, rfl, rfl, rfl, rfl, rfl, rfl, rfl, rfl, rfl, rfl, rfl, rfl, rfl, trivial⟩ ?_
      refine N.then ?_
      refine E.block ?_
      -- MISSING in G: [15, 16, 17, 18, 21, 22, 23, 24, 25, 26, 27, 28, 29, 30, 31, 32, 33, 34, 35, 36, 37, 38, 39, 40, 41, 42, 43, 44, 45, 46, 47, 48, 49, 50, 51, 52, 53]
      refine E.loop (fun (k : Nat) => [(0, .slice a fs.length c), (1, sl0 lb fs.length), (2, i64 most), (7, i64 (cntP (lensV fs most) (i + 1))), (8, i64 i), (9, i64 k)]) (fun (k : Nat) H' => k ≤ i ∧ H' = H) (fun (k : Nat) => i - k) 0 ⟨rfl, rfl, rfl, (by first | (show some (i64 _) = some (i64 _); rw [hcs, if_pos (by omega)]; rfl) | (show some (i64 _) = some (i64 _); rw [hcs, if_neg (by omega)]; rfl)), rfl, rfl, trivial⟩ ⟨Nat.zero_le _, rfl⟩ ?_
      rintro k H4 ⟨hk, eH⟩
      obtain rfl := eH.symm
      refine E.seq ?_
      refine E.seq ?_
      refine E.region ?_
      refine X.mv rfl rfl rfl rfl rfl ?_
      refine X.mv rfl rfl rfl rfl rfl ?_
      refine X.lss rfl rfl rfl rfl rfl rfl ?_
      refine X.done [(0, _), (1, _), (2, _), (7, _), (8, _), (9, _), (54, _), (55, _), (56, _)] ⟨rfl, rfl, rfl, rfl, rfl, rfl, rfl, rfl, rfl, trivial⟩ ?_
      refine N.then ?_
      refine E.condD rfl (fun hc => ?_) (fun hc => ?_)
      · refine E.skip ?_
        refine N.then ?_
        refine E.seq ?_
        refine E.block ?_
        refine E.seq ?_
        have hk2 : k < i := Int.ofNat_lt.1 (by assumption)
        obtain ⟨x', hx'⟩ := get_of (xs := fs) (i := k) (by omega)
        obtain ⟨y', hy'⟩ := get_of (xs := lensV fs most) (i := k) (by rw [F.len]; omega)
        obtain ⟨hae', cs1', ct1', fz1', hb1', hc1'⟩ := row_at hF hx'
        obtain ⟨hae2', cs2', ct2', fz2', hb2', hc2'⟩ := row_at (lensV_row hl) hy'
        have ho1 := F.order hi2 (show k < fs.length by omega)
        have ho2 := F.order (show k < fs.length by omega) hi2
        rw [getD_of hx, getD_of hx', getD_of hy, getD_of hy'] at ho1 ho2
        refine E.regionD (fun H' => H'[b]? = some (.cells cs1.toArray ct1 fz1) ∧ H'[lb]? = some (.cells cs2.toArray ct2 fz2) ∧ H'[b]? = some (.cells cs1'.toArray ct1' fz1') ∧ H'[lb]? = some (.cells cs2'.toArray ct2' fz2')) [(0, .pu), (1, .pu), (2, .pu), (3, .st), (4, .pu), (5, .pu), (6, .pu), (7, .pu), (8, .pu), (9, .st), (10, .pu), (11, .pu), (12, .pu), (13, .pu), (14, .pu), (15, .pu), (16, .st), (17, .pu), (18, .pu), (19, .pu), (20, .st), (21, .pu), (22, .pu), (23, .pu), (24, .pu), (25, .pu), (26, .st), (27, .pu), (28, .pu), (29, .pu), (30, .st), (31, .pu), (32, .pu), (33, .pu), (34, .pu), (35, .pu), (36, .pu), (37, .st), (38, .pu), (39, .pu), (40, .pu), (41, .st), (42, .pu), (43, .pu), (44, .pu), (45, .pu), (46, .pu), (47, .st), (48, .pu), (49, .pu), (50, .pu), (51, .st), (52, .pu), (53, .pu), (54, .pu), (55, .pu)] Try.mixed (by kernel_rfl) (⟨hb1, hb2, hb1', hb2'⟩) ?_
        refine X.mv rfl rfl rfl rfl rfl ?_
        refine X.mv rfl rfl rfl rfl rfl ?_
        refine X.ixAe rfl rfl rfl rfl rfl rfl Try.underlying22 Try.sz3 (hae) (by omega) ?_
        refine X.ld rfl rfl rfl rfl Try.ag3 (fun H' hF => hF.1) (hc1) ?_
        refine X.gtrC rfl rfl rfl rfl rfl rfl (fun hc => ?_) (fun hc => ?_)
        · refine X.mv rfl rfl rfl rfl rfl ?_
          refine X.mv rfl rfl rfl rfl rfl ?_
          refine X.mv rfl rfl rfl rfl rfl ?_
          refine X.ixAe rfl rfl rfl rfl rfl rfl Try.underlying22 Try.sz3 (hae') (by omega) ?_
          refine X.ld rfl rfl rfl rfl Try.ag3 (fun H' hF => hF.2.2.1) (hc1') ?_
          refine X.gtrC rfl rfl rfl rfl rfl rfl (fun hc => ?_) (fun hc => ?_)
          · refine X.pickT rfl rfl rfl rfl rfl rfl ?_
            refine X.mv rfl rfl rfl rfl rfl ?_
            refine X.mv rfl rfl rfl rfl rfl ?_
            refine X.mv rfl rfl rfl rfl rfl ?_
            refine X.ixAe rfl rfl rfl rfl rfl rfl Try.underlying22 Try.sz3 (hae') (by omega) ?_
            refine X.ld rfl rfl rfl rfl Try.ag3 (fun H' hF => hF.2.2.1) (hc1') ?_
            refine X.mv rfl rfl rfl rfl rfl ?_
            refine X.mv rfl rfl rfl rfl rfl ?_
            refine X.ixAe rfl rfl rfl rfl rfl rfl Try.underlying22 Try.sz3 (hae) (by omega) ?_
            refine X.ld rfl rfl rfl rfl Try.ag3 (fun H' hF => hF.1) (hc1) ?_
            refine X.geqC rfl rfl rfl rfl rfl rfl (fun hc => ?_) (fun hc => ?_)
            · refine X.mv rfl rfl rfl rfl rfl ?_
              refine X.mv rfl rfl rfl rfl rfl ?_
              refine X.mv rfl rfl rfl rfl rfl ?_
              refine X.ixAe rfl rfl rfl rfl rfl rfl Try.underlying22 Try.sz3 (rfl) (by omega) ?_
              refine X.ld rfl rfl rfl rfl Try.ag3 (fun H' hF => hF.2.2.2) (hc2') ?_
              refine X.mv rfl rfl rfl rfl rfl ?_
              refine X.mv rfl rfl rfl rfl rfl ?_
              refine X.ixAe rfl rfl rfl rfl rfl rfl Try.underlying22 Try.sz3 (rfl) (by omega) ?_
              refine X.ld rfl rfl rfl rfl Try.ag3 (fun H' hF => hF.2.1) (hc2) ?_
              refine X.gtrF rfl rfl rfl rfl rfl rfl (by have := ho1 (by omega) (by omega) (by omega); omega) ?_
              refine X.pickT rfl rfl rfl rfl rfl rfl ?_
              refine X.mv rfl rfl rfl rfl rfl ?_
              refine X.mv rfl rfl rfl rfl rfl ?_
              refine X.mv rfl rfl rfl rfl rfl ?_
              refine X.ixAe rfl rfl rfl rfl rfl rfl Try.underlying22 Try.sz3 (hae) (by omega) ?_
              refine X.ld rfl rfl rfl rfl Try.ag3 (fun H' hF => hF.1) (hc1) ?_
              refine X.mv rfl rfl rfl rfl rfl ?_
              refine X.mv rfl rfl rfl rfl rfl ?_
              refine X.ixAe rfl rfl rfl rfl rfl rfl Try.underlying22 Try.sz3 (hae') (by omega) ?_
              refine X.ld rfl rfl rfl rfl Try.ag3 (fun H' hF => hF.2.2.1) (hc1') ?_
              refine X.gtrF rfl rfl rfl rfl rfl rfl (by omega) ?_
              refine X.mv rfl rfl rfl rfl rfl ?_
              refine X.skip rfl rfl rfl ?_
              refine X.skip rfl rfl rfl ?_
              refine X.skip rfl rfl rfl ?_
              refine X.skip rfl rfl rfl ?_
              refine X.skip rfl rfl rfl ?_
              refine X.skip rfl rfl rfl ?_
              refine X.skip rfl rfl rfl ?_
              refine X.skip rfl rfl rfl ?_
              refine X.skip rfl rfl rfl ?_
              refine X.pickF rfl rfl rfl rfl rfl rfl ?_
              refine X.pickF rfl rfl rfl rfl rfl rfl ?_
              refine X.pickT rfl rfl rfl rfl rfl rfl ?_
              refine X.done [(0, _), (1, _), (2, _), (7, _), (8, _), (9, _), (54, _), (55, _), (56, _), (59, _), (60, _), (61, _), (62, _), (63, _), (64, _), (65, _), (66, _), (67, _), (68, _), (69, _), (70, _), (71, _), (72, _), (73, _), (74, _), (75, _), (76, _), (77, _), (78, _), (79, _), (80, _), (81, _), (82, _), (83, _), (84, _), (85, _), (86, _), (87, _), (88, _), (89, _), (90, _), (91, _), (92, _), (93, _), (94, _), (95, _), (96, _), (97, _), (98, _), (99, _), (100, _), (101, _), (102, _), (103, _), (104, _), (105, _), (106, _), (107, _), (108, _), (109, _), (110, _), (111, _), (112, _), (113, _), (114, _)] ⟨rfl, rfl, rfl, rfl, rfl, rfl, rfl, rfl, rfl, rfl, rfl, rfl, rfl, rfl, rfl, rfl, rfl, rfl, rfl, rfl, rfl, rfl, rfl, rfl, rfl, rfl, rfl, rfl, rfl, rfl, rfl, rfl, rfl, rfl, rfl, rfl, rfl, rfl, rfl, rfl, rfl, rfl, rfl, rfl, rfl, rfl, rfl, rfl, rfl, rfl, rfl, rfl, rfl, rfl, rfl, rfl, rfl, rfl, rfl, rfl, rfl, rfl, rfl, rfl, rfl, trivial⟩ ?_
              refine N.then ?_
              refine E.condF rfl ?_
              refine E.skip ?_
              refine N.blk ?_
              refine N.then ?_
              refine E.region ?_
              refine X.mv rfl rfl rfl rfl rfl ?_
              refine X.add rfl rfl rfl rfl rfl rfl (by omega) ?_
              refine X.asg rfl rfl rfl rfl rfl ?_
              refine X.done [(0, _), (1, _), (2, _), (7, _), (8, _), (9, _), (54, _), (55, _), (56, _), (59, _), (60, _), (61, _), (62, _), (63, _), (64, _), (65, _), (66, _), (67, _), (68, _), (69, _), (70, _), (71, _), (72, _), (73, _), (74, _), (75, _), (76, _), (77, _), (78, _), (79, _), (80, _), (81, _), (82, _), (83, _), (84, _), (85, _), (86, _), (87, _), (88, _), (89, _), (90, _), (91, _), (92, _), (93, _), (94, _), (95, _), (96, _), (97, _), (98, _), (99, _), (100, _), (101, _), (102, _), (103, _), (104, _), (105, _), (106, _), (107, _), (108, _), (109, _), (110, _), (111, _), (112, _), (113, _), (114, _), (57, _), (58, _)] ⟨rfl, rfl, rfl, rfl, rfl, rfl, rfl, rfl, rfl, rfl, rfl, rfl, rfl, rfl, rfl, rfl, rfl, rfl, rfl, rfl, rfl, rfl, rfl, rfl, rfl, rfl, rfl, rfl, rfl, rfl, rfl, rfl, rfl, rfl, rfl, rfl, rfl, rfl, rfl, rfl, rfl, rfl, rfl, rfl, rfl, rfl, rfl, rfl, rfl, rfl, rfl, rfl, rfl, rfl, rfl, rfl, rfl, rfl, rfl, rfl, rfl, rfl, rfl, rfl, rfl, rfl, rfl, trivial⟩ ?_
              exact N.next (k + 1) ⟨rfl, rfl, rfl, rfl, rfl, rfl, trivial⟩ ⟨by omega, rfl⟩ (by omega)
            · refine X.mv rfl rfl rfl rfl rfl ?_
              refine X.skip rfl rfl rfl ?_
              refine X.skip rfl rfl rfl ?_
              refine X.skip rfl rfl rfl ?_
              refine X.skip rfl rfl rfl ?_
              refine X.skip rfl rfl rfl ?_
              refine X.skip rfl rfl rfl ?_
              refine X.skip rfl rfl rfl ?_
              refine X.skip rfl rfl rfl ?_
              refine X.skip rfl rfl rfl ?_
              refine X.pickF rfl rfl rfl rfl rfl rfl ?_
              refine X.mv rfl rfl rfl rfl rfl ?_
              refine X.mv rfl rfl rfl rfl rfl ?_
              refine X.mv rfl rfl rfl rfl rfl ?_
              refine X.ixAe rfl rfl rfl rfl rfl rfl Try.underlying22 Try.sz3 (hae) (by omega) ?_
              refine X.ld rfl rfl rfl rfl Try.ag3 (fun H' hF => hF.1) (hc1) ?_
              refine X.mv rfl rfl rfl rfl rfl ?_
              refine X.mv rfl rfl rfl rfl rfl ?_
              refine X.ixAe rfl rfl rfl rfl rfl rfl Try.underlying22 Try.sz3 (hae') (by omega) ?_
              refine X.ld rfl rfl rfl rfl Try.ag3 (fun H' hF => hF.2.2.1) (hc1') ?_
              refine X.gtrT rfl rfl rfl rfl rfl rfl (by omega) ?_
              refine X.mv rfl rfl rfl rfl rfl ?_
              refine X.mv rfl rfl rfl rfl rfl ?_
              refine X.mv rfl rfl rfl rfl rfl ?_
              refine X.ixAe rfl rfl rfl rfl rfl rfl Try.underlying22 Try.sz3 (rfl) (by omega) ?_
              refine X.ld rfl rfl rfl rfl Try.ag3 (fun H' hF => hF.2.1) (hc2) ?_
              refine X.mv rfl rfl rfl rfl rfl ?_
              refine X.mv rfl rfl rfl rfl rfl ?_
              refine X.ixAe rfl rfl rfl rfl rfl rfl Try.underlying22 Try.sz3 (rfl) (by omega) ?_
              refine X.ld rfl rfl rfl rfl Try.ag3 (fun H' hF => hF.2.2.2) (hc2') ?_
              refine X.gtrF rfl rfl rfl rfl rfl rfl (by have := ho2 (by omega) (by omega) (by omega); omega) ?_
              refine X.pickT rfl rfl rfl rfl rfl rfl ?_
              refine X.pickF rfl rfl rfl rfl rfl rfl ?_
              refine X.pickT rfl rfl rfl rfl rfl rfl ?_
              refine X.done [(0, _), (1, _), (2, _), (7, _), (8, _), (9, _), (54, _), (55, _), (56, _), (59, _), (60, _), (61, _), (62, _), (63, _), (64, _), (65, _), (66, _), (67, _), (68, _), (69, _), (70, _), (71, _), (72, _), (73, _), (74, _), (75, _), (76, _), (77, _), (78, _), (79, _), (80, _), (81, _), (82, _), (83, _), (84, _), (85, _), (86, _), (87, _), (88, _), (89, _), (90, _), (91, _), (92, _), (93, _), (94, _), (95, _), (96, _), (97, _), (98, _), (99, _), (100, _), (101, _), (102, _), (103, _), (104, _), (105, _), (106, _), (107, _), (108, _), (109, _), (110, _), (111, _), (112, _), (113, _), (114, _)] ⟨rfl, rfl, rfl, rfl, rfl, rfl, rfl, rfl, rfl, rfl, rfl, rfl, rfl, rfl, rfl, rfl, rfl, rfl, rfl, rfl, rfl, rfl, rfl, rfl, rfl, rfl, rfl, rfl, rfl, rfl, rfl, rfl, rfl, rfl, rfl, rfl, rfl, rfl, rfl, rfl, rfl, rfl, rfl, rfl, rfl, rfl, rfl, rfl, rfl, rfl, rfl, rfl, rfl, rfl, rfl, rfl, rfl, rfl, rfl, rfl, rfl, rfl, rfl, rfl, rfl, trivial⟩ ?_
              refine N.then ?_
              refine E.condF rfl ?_
              refine E.skip ?_
              refine N.blk ?_
              refine N.then ?_
              refine E.region ?_
              refine X.mv rfl rfl rfl rfl rfl ?_
              refine X.add rfl rfl rfl rfl rfl rfl (by omega) ?_
              refine X.asg rfl rfl rfl rfl rfl ?_
              refine X.done [(0, _), (1, _), (2, _), (7, _), (8, _), (9, _), (54, _), (55, _), (56, _), (59, _), (60, _), (61, _), (62, _), (63, _), (64, _), (65, _), (66, _), (67, _), (68, _), (69, _), (70, _), (71, _), (72, _), (73, _), (74, _), (75, _), (76, _), (77, _), (78, _), (79, _), (80, _), (81, _), (82, _), (83, _), (84, _), (85, _), (86, _), (87, _), (88, _), (89, _), (90, _), (91, _), (92, _), (93, _), (94, _), (95, _), (96, _), (97, _), (98, _), (99, _), (100, _), (101, _), (102, _), (103, _), (104, _), (105, _), (106, _), (107, _), (108, _), (109, _), (110, _), (111, _), (112, _), (113, _), (114, _), (57, _), (58, _)] ⟨rfl, rfl, rfl, rfl, rfl, rfl, rfl, rfl, rfl, rfl, rfl, rfl, rfl, rfl, rfl, rfl, rfl, rfl, rfl, rfl, rfl, rfl, rfl, rfl, rfl, rfl, rfl, rfl, rfl, rfl, rfl, rfl, rfl, rfl, rfl, rfl, rfl, rfl, rfl, rfl, rfl, rfl, rfl, rfl, rfl, rfl, rfl, rfl, rfl, rfl, rfl, rfl, rfl, rfl, rfl, rfl, rfl, rfl, rfl, rfl, rfl, rfl, rfl, rfl, rfl, rfl, rfl, trivial⟩ ?_
              exact N.next (k + 1) ⟨rfl, rfl, rfl, rfl, rfl, rfl, trivial⟩ ⟨by omega, rfl⟩ (by omega)
          · refine X.pickT rfl rfl rfl rfl rfl rfl ?_
            refine X.mv rfl rfl rfl rfl rfl ?_
            refine X.skip rfl rfl rfl ?_
            refine X.skip rfl rfl rfl ?_
            refine X.skip rfl rfl rfl ?_
            refine X.skip rfl rfl rfl ?_
            refine X.skip rfl rfl rfl ?_
            refine X.skip rfl rfl rfl ?_
            refine X.skip rfl rfl rfl ?_
            refine X.skip rfl rfl rfl ?_
            refine X.skip rfl rfl rfl ?_
            refine X.skip rfl rfl rfl ?_
            refine X.skip rfl rfl rfl ?_
            refine X.skip rfl rfl rfl ?_
            refine X.skip rfl rfl rfl ?_
            refine X.skip rfl rfl rfl ?_
            refine X.skip rfl rfl rfl ?_
            refine X.skip rfl rfl rfl ?_
            refine X.skip rfl rfl rfl ?_
            refine X.skip rfl rfl rfl ?_
            refine X.skip rfl rfl rfl ?_
            refine X.skip rfl rfl rfl ?_
            refine X.skip rfl rfl rfl ?_
            refine X.skip rfl rfl rfl ?_
            refine X.skip rfl rfl rfl ?_
            refine X.skip rfl rfl rfl ?_
            refine X.skip rfl rfl rfl ?_
            refine X.skip rfl rfl rfl ?_
            refine X.skip rfl rfl rfl ?_
            refine X.skip rfl rfl rfl ?_
            refine X.skip rfl rfl rfl ?_
            refine X.skip rfl rfl rfl ?_
            refine X.skip rfl rfl rfl ?_
            refine X.skip rfl rfl rfl ?_
            refine X.skip rfl rfl rfl ?_
            refine X.skip rfl rfl rfl ?_
            refine X.skip rfl rfl rfl ?_
            refine X.skip rfl rfl rfl ?_
            refine X.skip rfl rfl rfl ?_
            refine X.skip rfl rfl rfl ?_
            refine X.skip rfl rfl rfl ?_
            refine X.skip rfl rfl rfl ?_
            refine X.skip rfl rfl rfl ?_
            refine X.skip rfl rfl rfl ?_
            refine X.pickF rfl rfl rfl rfl rfl rfl ?_
            refine X.done [(0, _), (1, _), (2, _), (7, _), (8, _), (9, _), (54, _), (55, _), (56, _), (59, _), (60, _), (61, _), (62, _), (63, _), (64, _), (65, _), (66, _), (67, _), (68, _), (69, _), (70, _), (71, _), (72, _), (73, _), (74, _), (75, _), (76, _), (77, _), (78, _), (79, _), (80, _), (81, _), (82, _), (83, _), (84, _), (85, _), (86, _), (87, _), (88, _), (89, _), (90, _), (91, _), (92, _), (93, _), (94, _), (95, _), (96, _), (97, _), (98, _), (99, _), (100, _), (101, _), (102, _), (103, _), (104, _), (105, _), (106, _), (107, _), (108, _), (109, _), (110, _), (111, _), (112, _), (113, _), (114, _)] ⟨rfl, rfl, rfl, rfl, rfl, rfl, rfl, rfl, rfl, rfl, rfl, rfl, rfl, rfl, rfl, rfl, rfl, rfl, rfl, rfl, rfl, rfl, rfl, rfl, rfl, rfl, rfl, rfl, rfl, rfl, rfl, rfl, rfl, rfl, rfl, rfl, rfl, rfl, rfl, rfl, rfl, rfl, rfl, rfl, rfl, rfl, rfl, rfl, rfl, rfl, rfl, rfl, rfl, rfl, rfl, rfl, rfl, rfl, rfl, rfl, rfl, rfl, rfl, rfl, rfl, trivial⟩ ?_
            refine N.then ?_
            refine E.condF rfl ?_
            refine E.skip ?_
            refine N.blk ?_
            refine N.then ?_
            refine E.region ?_
            refine X.mv rfl rfl rfl rfl rfl ?_
            refine X.add rfl rfl rfl rfl rfl rfl (by omega) ?_
            refine X.asg rfl rfl rfl rfl rfl ?_
            refine X.done [(0, _), (1, _), (2, _), (7, _), (8, _), (9, _), (54, _), (55, _), (56, _), (59, _), (60, _), (61, _), (62, _), (63, _), (64, _), (65, _), (66, _), (67, _), (68, _), (69, _), (70, _), (71, _), (72, _), (73, _), (74, _), (75, _), (76, _), (77, _), (78, _), (79, _), (80, _), (81, _), (82, _), (83, _), (84, _), (85, _), (86, _), (87, _), (88, _), (89, _), (90, _), (91, _), (92, _), (93, _), (94, _), (95, _), (96, _), (97, _), (98, _), (99, _), (100, _), (101, _), (102, _), (103, _), (104, _), (105, _), (106, _), (107, _), (108, _), (109, _), (110, _), (111, _), (112, _), (113, _), (114, _), (57, _), (58, _)] ⟨rfl, rfl, rfl, rfl, rfl, rfl, rfl, rfl, rfl, rfl, rfl, rfl, rfl, rfl, rfl, rfl, rfl, rfl, rfl, rfl, rfl, rfl, rfl, rfl, rfl, rfl, rfl, rfl, rfl, rfl, rfl, rfl, rfl, rfl, rfl, rfl, rfl, rfl, rfl, rfl, rfl, rfl, rfl, rfl, rfl, rfl, rfl, rfl, rfl, rfl, rfl, rfl, rfl, rfl, rfl, rfl, rfl, rfl, rfl, rfl, rfl, rfl, rfl, rfl, rfl, rfl, rfl, trivial⟩ ?_
            exact N.next (k + 1) ⟨rfl, rfl, rfl, rfl, rfl, rfl, trivial⟩ ⟨by omega, rfl⟩ (by omega)
        · refine X.mv rfl rfl rfl rfl rfl ?_
          refine X.skip rfl rfl rfl ?_
          refine X.skip rfl rfl rfl ?_
          refine X.skip rfl rfl rfl ?_
          refine X.skip rfl rfl rfl ?_
          refine X.skip rfl rfl rfl ?_
          refine X.pickF rfl rfl rfl rfl rfl rfl ?_
          refine X.mv rfl rfl rfl rfl rfl ?_
          refine X.skip rfl rfl rfl ?_
          refine X.skip rfl rfl rfl ?_
          refine X.skip rfl rfl rfl ?_
          refine X.skip rfl rfl rfl ?_
          refine X.skip rfl rfl rfl ?_
          refine X.skip rfl rfl rfl ?_
          refine X.skip rfl rfl rfl ?_
          refine X.skip rfl rfl rfl ?_
          refine X.skip rfl rfl rfl ?_
          refine X.skip rfl rfl rfl ?_
          refine X.skip rfl rfl rfl ?_
          refine X.skip rfl rfl rfl ?_
          refine X.skip rfl rfl rfl ?_
          refine X.skip rfl rfl rfl ?_
          refine X.skip rfl rfl rfl ?_
          refine X.skip rfl rfl rfl ?_
          refine X.skip rfl rfl rfl ?_
          refine X.skip rfl rfl rfl ?_
          refine X.skip rfl rfl rfl ?_
          refine X.skip rfl rfl rfl ?_
          refine X.skip rfl rfl rfl ?_
          refine X.skip rfl rfl rfl ?_
          refine X.skip rfl rfl rfl ?_
          refine X.skip rfl rfl rfl ?_
          refine X.skip rfl rfl rfl ?_
          refine X.skip rfl rfl rfl ?_
          refine X.skip rfl rfl rfl ?_
          refine X.skip rfl rfl rfl ?_
          refine X.skip rfl rfl rfl ?_
          refine X.skip rfl rfl rfl ?_
          refine X.skip rfl rfl rfl ?_
          refine X.skip rfl rfl rfl ?_
          refine X.skip rfl rfl rfl ?_
          refine X.skip rfl rfl rfl ?_
          refine X.skip rfl rfl rfl ?_
          refine X.skip rfl rfl rfl ?_
          refine X.skip rfl rfl rfl ?_
          refine X.skip rfl rfl rfl ?_
          refine X.skip rfl rfl rfl ?_
          refine X.skip rfl rfl rfl ?_
          refine X.skip rfl rfl rfl ?_
          refine X.skip rfl rfl rfl ?_
          refine X.pickF rfl rfl rfl rfl rfl rfl ?_
          refine X.done [(0, _), (1, _), (2, _), (7, _), (8, _), (9, _), (54, _), (55, _), (56, _), (59, _), (60, _), (61, _), (62, _), (63, _), (64, _), (65, _), (66, _), (67, _), (68, _), (69, _), (70, _), (71, _), (72, _), (73, _), (74, _), (75, _), (76, _), (77, _), (78, _), (79, _), (80, _), (81, _), (82, _), (83, _), (84, _), (85, _), (86, _), (87, _), (88, _), (89, _), (90, _), (91, _), (92, _), (93, _), (94, _), (95, _), (96, _), (97, _), (98, _), (99, _), (100, _), (101, _), (102, _), (103, _), (104, _), (105, _), (106, _), (107, _), (108, _), (109, _), (110, _), (111, _), (112, _), (113, _), (114, _)] ⟨rfl, rfl, rfl, rfl, rfl, rfl, rfl, rfl, rfl, rfl, rfl, rfl, rfl, rfl, rfl, rfl, rfl, rfl, rfl, rfl, rfl, rfl, rfl, rfl, rfl, rfl, rfl, rfl, rfl, rfl, rfl, rfl, rfl, rfl, rfl, rfl, rfl, rfl, rfl, rfl, rfl, rfl, rfl, rfl, rfl, rfl, rfl, rfl, rfl, rfl, rfl, rfl, rfl, rfl, rfl, rfl, rfl, rfl, rfl, rfl, rfl, rfl, rfl, rfl, rfl, trivial⟩ ?_
          refine N.then ?_
          refine E.condF rfl ?_
          refine E.skip ?_
          refine N.blk ?_
          refine N.then ?_
          refine E.region ?_
          refine X.mv rfl rfl rfl rfl rfl ?_
          refine X.add rfl rfl rfl rfl rfl rfl (by omega) ?_
          refine X.asg rfl rfl rfl rfl rfl ?_
          refine X.done [(0, _), (1, _), (2, _), (7, _), (8, _), (9, _), (54, _), (55, _), (56, _), (59, _), (60, _), (61, _), (62, _), (63, _), (64, _), (65, _), (66, _), (67, _), (68, _), (69, _), (70, _), (71, _), (72, _), (73, _), (74, _), (75, _), (76, _), (77, _), (78, _), (79, _), (80, _), (81, _), (82, _), (83, _), (84, _), (85, _), (86, _), (87, _), (88, _), (89, _), (90, _), (91, _), (92, _), (93, _), (94, _), (95, _), (96, _), (97, _), (98, _), (99, _), (100, _), (101, _), (102, _), (103, _), (104, _), (105, _), (106, _), (107, _), (108, _), (109, _), (110, _), (111, _), (112, _), (113, _), (114, _), (57, _), (58, _)] ⟨rfl, rfl, rfl, rfl, rfl, rfl, rfl, rfl, rfl, rfl, rfl, rfl, rfl, rfl, rfl, rfl, rfl, rfl, rfl, rfl, rfl, rfl, rfl, rfl, rfl, rfl, rfl, rfl, rfl, rfl, rfl, rfl, rfl, rfl, rfl, rfl, rfl, rfl, rfl, rfl, rfl, rfl, rfl, rfl, rfl, rfl, rfl, rfl, rfl, rfl, rfl, rfl, rfl, rfl, rfl, rfl, rfl, rfl, rfl, rfl, rfl, rfl, rfl, rfl, rfl, rfl, rfl, trivial⟩ ?_
          exact N.next (k + 1) ⟨rfl, rfl, rfl, rfl, rfl, rfl, trivial⟩ ⟨by omega, rfl⟩ (by omega)
      · refine E.exit ?_
        refine N.thenX ?_
        refine N.loopX ?_
        refine N.blkX ?_
        refine N.blk ?_
        refine N.then ?_
        refine E.region ?_
        refine X.mv rfl rfl rfl rfl rfl ?_
        refine X.add rfl rfl rfl rfl rfl rfl (by omega) ?_
        refine X.asg rfl rfl rfl rfl rfl ?_
        refine X.done [(0, _), (1, _), (2, _), (7, _), (8, _), (9, _), (54, _), (55, _), (56, _), (19, _), (20, _)] ⟨rfl, rfl, rfl, rfl, rfl, rfl, rfl, rfl, rfl, rfl, rfl, trivial⟩ ?_
        exact N.next (i + 1) ⟨rfl, rfl, rfl, rfl, rfl, trivial⟩ ⟨by omega, rfl⟩ (by omega)
    · refine X.mv rfl rfl rfl rfl rfl ?_
      refine X.mv rfl rfl rfl rfl rfl ?_
      refine X.ixAe rfl rfl rfl rfl rfl rfl Try.underlying22 Try.sz3 (hae) (by omega) ?_
      refine X.ld rfl rfl rfl rfl Try.ag3 (fun H' hF => hF.1) (hc1) ?_
      refine X.gtrF rfl rfl rfl rfl rfl rfl (by omega) ?_
      refine X.neqBF rfl rfl rfl rfl rfl rfl Try.underlying4 (rfl) ?_
      refine X.mv rfl rfl rfl rfl rfl ?_
      refine X.mv rfl rfl rfl rfl rfl ?_
      refine X.mv rfl rfl rfl rfl rfl ?_
      refine X.ixAe rfl rfl rfl rfl rfl rfl Try.underlying22 Try.sz3 (rfl) (by omega) ?_
      refine X.ld rfl rfl rfl rfl Try.ag3 (fun H' hF => hF.2) (hc2) ?_
      refine X.lssF rfl rfl rfl rfl rfl rfl (by omega) ?_
      refine X.pickF rfl rfl rfl rfl rfl rfl ?_
      refine X.mv rfl rfl rfl rfl rfl ?_
      refine X.mv rfl rfl rfl rfl rfl ?_
      refine X.mv rfl rfl rfl rfl rfl ?_
      refine X.ixAe rfl rfl rfl rfl rfl rfl Try.underlying22 Try.sz3 (rfl) (by omega) ?_
      refine X.ld rfl rfl rfl rfl Try.ag3 (fun H' hF => hF.2) (hc2) ?_
      refine X.mv rfl rfl rfl rfl rfl ?_
      refine X.gtrF rfl rfl rfl rfl rfl rfl (by omega) ?_
      refine X.pickF rfl rfl rfl rfl rfl rfl ?_
      refine X.done [(0, _), (1, _), (2, _), (7, _), (8, _), (15, _), (16, _), (17, _), (18, _), (21, _), (22, _), (23, _), (24, _), (25, _), (26, _), (27, _), (28, _), (29, _), (30, _), (31, _), (32, _), (33, _), (34, _), (35, _), (36, _), (37, _), (38, _), (39, _), (40, _), (41, _), (42, _), (43, _), (44, _), (45, _), (46, _)] ⟨rfl, rfl, rfl, rfl, rfl, rfl, rfl, rfl, rfl, rfl, rfl, rfl, rfl, rfl, rfl, rfl, rfl, rfl, rfl, rfl, rfl, rfl, rfl, rfl, rfl, rfl, rfl, rfl, rfl, rfl, rfl, rfl, rfl, rfl, rfl, trivial⟩ ?_
      refine N.then ?_
      refine E.condF rfl ?_
      refine E.skip ?_
      refine N.then ?_
      refine E.seq ?_
      refine E.seq ?_
      refine E.region ?_
      refine X.mv rfl rfl rfl rfl rfl ?_
      refine X.mv rfl rfl rfl rfl rfl ?_
      refine X.ixAe rfl rfl rfl rfl rfl rfl Try.underlying22 Try.sz3 (rfl) (by omega) ?_
      refine X.ld rfl rfl rfl rfl Try.ag3 (hb2) (hc2) ?_
      refine X.gtrF rfl rfl rfl rfl rfl rfl (by omega) ?_
      refine X.done [(0, _), (1, _), (2, _), (7, _), (8, _), (15, _), (16, _), (17, _), (18, _), (21, _), (22, _), (23, _), (24, _), (25, _), (26, _), (27, _), (28, _), (29, _), (30, _), (31, _), (32, _), (33, _), (34, _), (35, _), (36, _), (37, _), (38, _), (39, _), (40, _), (41, _), (42, _), (43, _), (44, _), (45, _), (46, _), (47, _), (48, _), (49, _), (50, _), (51, _)] ⟨rfl, rfl, rfl, rfl, rfl, rfl, rfl, rfl, rfl, rfl, rfl, rfl, rfl, rfl, rfl, rfl, rfl, rfl, rfl, rfl, rfl, rfl, rfl, rfl, rfl, rfl, rfl, rfl, rfl, rfl, rfl, rfl, rfl, rfl, rfl, rfl, rfl, rfl, rfl, rfl, trivial⟩ ?_
      refine N.then ?_
      refine E.condF rfl ?_
      refine E.skip ?_
      refine N.then ?_
      refine E.seq ?_
      refine E.region ?_
      refine X.asg rfl rfl rfl rfl rfl ?_
      refine X.done [(0, _), (1, _), (2, _), (7, _), (8, _), (15, _), (16, _), (17, _), (18, _), (21, _), (22, _), (23, _), (24, _), (25, _), (26, _), (27, _), (28, _), (29, _), (30, _), (31, _), (32, _), (33, _), (34, _), (35, _), (36, _), (37, _), (38, _), (39, _), (40, _), (41, _), (42, _), (43, _), (44, _), (45, _), (46, _), (47, _), (48, _), (49, _), (50, _), (51, _), (9, _)] ⟨rfl, rfl, rfl, rfl, rfl, rfl, rfl, rfl, rfl, rfl, rfl, rfl, rfl, rfl, rfl, rfl, rfl, rfl, rfl, rfl, rfl, rfl, rfl, rfl, rfl, rfl, rfl, rfl, rfl, rfl, rfl, rfl, rfl, rfl, rfl, rfl, rfl, rfl, rfl, rfl, rfl, trivial⟩ ?_
      refine N.then ?_
      refine E.block ?_
      -- MISSING in G: [15, 16, 17, 18, 21, 22, 23, 24, 25, 26, 27, 28, 29, 30, 31, 32, 33, 34, 35, 36, 37, 38, 39, 40, 41, 42, 43, 44, 45, 46, 47, 48, 49, 50, 51]
      refine E.loop (fun (k : Nat) => [(0, .slice a fs.length c), (1, sl0 lb fs.length), (2, i64 most), (7, i64 (cntP (lensV fs most) (i + 1))), (8, i64 i), (9, i64 k)]) (fun (k : Nat) H' => k ≤ i ∧ H' = H) (fun (k : Nat) => i - k) 0 ⟨rfl, rfl, rfl, (by first | (show some (i64 _) = some (i64 _); rw [hcs, if_pos (by omega)]; rfl) | (show some (i64 _) = some (i64 _); rw [hcs, if_neg (by omega)]; rfl)), rfl, rfl, trivial⟩ ⟨Nat.zero_le _, rfl⟩ ?_
      rintro k H4 ⟨hk, eH⟩
      obtain rfl := eH.symm
      refine E.seq ?_
      refine E.seq ?_
      refine E.region ?_
      refine X.mv rfl rfl rfl rfl rfl ?_
      refine X.mv rfl rfl rfl rfl rfl ?_
      refine X.lss rfl rfl rfl rfl rfl rfl ?_
      refine X.done [(0, _), (1, _), (2, _), (7, _), (8, _), (9, _), (54, _), (55, _), (56, _)] ⟨rfl, rfl, rfl, rfl, rfl, rfl, rfl, rfl, rfl, trivial⟩ ?_
      refine N.then ?_
      refine E.condD rfl (fun hc => ?_) (fun hc => ?_)
      · refine E.skip ?_
        refine N.then ?_
        refine E.seq ?_
        refine E.block ?_
        refine E.seq ?_
        have hk2 : k < i := Int.ofNat_lt.1 (by assumption)
        obtain ⟨x', hx'⟩ := get_of (xs := fs) (i := k) (by omega)
        obtain ⟨y', hy'⟩ := get_of (xs := lensV fs most) (i := k) (by rw [F.len]; omega)
        obtain ⟨hae', cs1', ct1', fz1', hb1', hc1'⟩ := row_at hF hx'
        obtain ⟨hae2', cs2', ct2', fz2', hb2', hc2'⟩ := row_at (lensV_row hl) hy'
        have ho1 := F.order hi2 (show k < fs.length by omega)
        have ho2 := F.order (show k < fs.length by omega) hi2
        rw [getD_of hx, getD_of hx', getD_of hy, getD_of hy'] at ho1 ho2
        refine E.regionD (fun H' => H'[b]? = some (.cells cs1.toArray ct1 fz1) ∧ H'[lb]? = some (.cells cs2.toArray ct2 fz2) ∧ H'[b]? = some (.cells cs1'.toArray ct1' fz1') ∧ H'[lb]? = some (.cells cs2'.toArray ct2' fz2')) [(0, .pu), (1, .pu), (2, .pu), (3, .st), (4, .pu), (5, .pu), (6, .pu), (7, .pu), (8, .pu), (9, .st), (10, .pu), (11, .pu), (12, .pu), (13, .pu), (14, .pu), (15, .pu), (16, .st), (17, .pu), (18, .pu), (19, .pu), (20, .st), (21, .pu), (22, .pu), (23, .pu), (24, .pu), (25, .pu), (26, .st), (27, .pu), (28, .pu), (29, .pu), (30, .st), (31, .pu), (32, .pu), (33, .pu), (34, .pu), (35, .pu), (36, .pu), (37, .st), (38, .pu), (39, .pu), (40, .pu), (41, .st), (42, .pu), (43, .pu), (44, .pu), (45, .pu), (46, .pu), (47, .st), (48, .pu), (49, .pu), (50, .pu), (51, .st), (52, .pu), (53, .pu), (54, .pu), (55, .pu)] Try.mixed (by kernel_rfl) (⟨hb1, hb2, hb1', hb2'⟩) ?_
        refine X.mv rfl rfl rfl rfl rfl ?_
        refine X.mv rfl rfl rfl rfl rfl ?_
        refine X.ixAe rfl rfl rfl rfl rfl rfl Try.underlying22 Try.sz3 (hae) (by omega) ?_
        refine X.ld rfl rfl rfl rfl Try.ag3 (fun H' hF => hF.1) (hc1) ?_
        refine X.gtrC rfl rfl rfl rfl rfl rfl (fun hc => ?_) (fun hc => ?_)
        · refine X.mv rfl rfl rfl rfl rfl ?_
          refine X.mv rfl rfl rfl rfl rfl ?_
          refine X.mv rfl rfl rfl rfl rfl ?_
          refine X.ixAe rfl rfl rfl rfl rfl rfl Try.underlying22 Try.sz3 (hae') (by omega) ?_
          refine X.ld rfl rfl rfl rfl Try.ag3 (fun H' hF => hF.2.2.1) (hc1') ?_
          refine X.gtrC rfl rfl rfl rfl rfl rfl (fun hc => ?_) (fun hc => ?_)
          · refine X.pickT rfl rfl rfl rfl rfl rfl ?_
            refine X.mv rfl rfl rfl rfl rfl ?_
            refine X.mv rfl rfl rfl rfl rfl ?_
            refine X.mv rfl rfl rfl rfl rfl ?_
            refine X.ixAe rfl rfl rfl rfl rfl rfl Try.underlying22 Try.sz3 (hae') (by omega) ?_
            refine X.ld rfl rfl rfl rfl Try.ag3 (fun H' hF => hF.2.2.1) (hc1') ?_
            refine X.mv rfl rfl rfl rfl rfl ?_
            refine X.mv rfl rfl rfl rfl rfl ?_
            refine X.ixAe rfl rfl rfl rfl rfl rfl Try.underlying22 Try.sz3 (hae) (by omega) ?_
            refine X.ld rfl rfl rfl rfl Try.ag3 (fun H' hF => hF.1) (hc1) ?_
            refine X.geqC rfl rfl rfl rfl rfl rfl (fun hc => ?_) (fun hc => ?_)
            · refine X.mv rfl rfl rfl rfl rfl ?_
              refine X.mv rfl rfl rfl rfl rfl ?_
              refine X.mv rfl rfl rfl rfl rfl ?_
              refine X.ixAe rfl rfl rfl rfl rfl rfl Try.underlying22 Try.sz3 (rfl) (by omega) ?_
              refine X.ld rfl rfl rfl rfl Try.ag3 (fun H' hF => hF.2.2.2) (hc2') ?_
              refine X.mv rfl rfl rfl rfl rfl ?_
              refine X.mv rfl rfl rfl rfl rfl ?_
              refine X.ixAe rfl rfl rfl rfl rfl rfl Try.underlying22 Try.sz3 (rfl) (by omega) ?_
              refine X.ld rfl rfl rfl rfl Try.ag3 (fun H' hF => hF.2.1) (hc2) ?_
              refine X.gtrF rfl rfl rfl rfl rfl rfl (by have := ho1 (by omega) (by omega) (by omega); omega) ?_
              refine X.pickT rfl rfl rfl rfl rfl rfl ?_
              refine X.mv rfl rfl rfl rfl rfl ?_
              refine X.mv rfl rfl rfl rfl rfl ?_
              refine X.mv rfl rfl rfl rfl rfl ?_
              refine X.ixAe rfl rfl rfl rfl rfl rfl Try.underlying22 Try.sz3 (hae) (by omega) ?_
              refine X.ld rfl rfl rfl rfl Try.ag3 (fun H' hF => hF.1) (hc1) ?_
              refine X.mv rfl rfl rfl rfl rfl ?_
              refine X.mv rfl rfl rfl rfl rfl ?_
              refine X.ixAe rfl rfl rfl rfl rfl rfl Try.underlying22 Try.sz3 (hae') (by omega) ?_
              refine X.ld rfl rfl rfl rfl Try.ag3 (fun H' hF => hF.2.2.1) (hc1') ?_
              refine X.gtrF rfl rfl rfl rfl rfl rfl (by omega) ?_
              refine X.mv rfl rfl rfl rfl rfl ?_
              refine X.skip rfl rfl rfl ?_
              refine X.skip rfl rfl rfl ?_
              refine X.skip rfl rfl rfl ?_
              refine X.skip rfl rfl rfl ?_
              refine X.skip rfl rfl rfl ?_
              refine X.skip rfl rfl rfl ?_
              refine X.skip rfl rfl rfl ?_
              refine X.skip rfl rfl rfl ?_
              refine X.skip rfl rfl rfl ?_
              refine X.pickF rfl rfl rfl rfl rfl rfl ?_
              refine X.pickF rfl rfl rfl rfl rfl rfl ?_
              refine X.pickT rfl rfl rfl rfl rfl rfl ?_
              refine X.done [(0, _), (1, _), (2, _), (7, _), (8, _), (9, _), (54, _), (55, _), (56, _), (59, _), (60, _), (61, _), (62, _), (63, _), (64, _), (65, _), (66, _), (67, _), (68, _), (69, _), (70, _), (71, _), (72, _), (73, _), (74, _), (75, _), (76, _), (77, _), (78, _), (79, _), (80, _), (81, _), (82, _), (83, _), (84, _), (85, _), (86, _), (87, _), (88, _), (89, _), (90, _), (91, _), (92, _), (93, _), (94, _), (95, _), (96, _), (97, _), (98, _), (99, _), (100, _), (101, _), (102, _), (103, _), (104, _), (105, _), (106, _), (107, _), (108, _), (109, _), (110, _), (111, _), (112, _), (113, _), (114, _)] ⟨rfl, rfl, rfl, rfl, rfl, rfl, rfl, rfl, rfl, rfl, rfl, rfl, rfl, rfl, rfl, rfl, rfl, rfl, rfl, rfl, rfl, rfl, rfl, rfl, rfl, rfl, rfl, rfl, rfl, rfl, rfl, rfl, rfl, rfl, rfl, rfl, rfl, rfl, rfl, rfl, rfl, rfl, rfl, rfl, rfl, rfl, rfl, rfl, rfl, rfl, rfl, rfl, rfl, rfl, rfl, rfl, rfl, rfl, rfl, rfl, rfl, rfl, rfl, rfl, rfl, trivial⟩ ?_
              refine N.then ?_
              refine E.condF rfl ?_
              refine E.skip ?_
              refine N.blk ?_
              refine N.then ?_
              refine E.region ?_
              refine X.mv rfl rfl rfl rfl rfl ?_
              refine X.add rfl rfl rfl rfl rfl rfl (by omega) ?_
              refine X.asg rfl rfl rfl rfl rfl ?_
              refine X.done [(0, _), (1, _), (2, _), (7, _), (8, _), (9, _), (54, _), (55, _), (56, _), (59, _), (60, _), (61, _), (62, _), (63, _), (64, _), (65, _), (66, _), (67, _), (68, _), (69, _), (70, _), (71, _), (72, _), (73, _), (74, _), (75, _), (76, _), (77, _), (78, _), (79, _), (80, _), (81, _), (82, _), (83, _), (84, _), (85, _), (86, _), (87, _), (88, _), (89, _), (90, _), (91, _), (92, _), (93, _), (94, _), (95, _), (96, _), (97, _), (98, _), (99, _), (100, _), (101, _), (102, _), (103, _), (104, _), (105, _), (106, _), (107, _), (108, _), (109, _), (110, _), (111, _), (112, _), (113, _), (114, _), (57, _), (58, _)] ⟨rfl, rfl, rfl, rfl, rfl, rfl, rfl, rfl, rfl, rfl, rfl, rfl, rfl, rfl, rfl, rfl, rfl, rfl, rfl, rfl, rfl, rfl, rfl, rfl, rfl, rfl, rfl, rfl, rfl, rfl, rfl, rfl, rfl, rfl, rfl, rfl, rfl, rfl, rfl, rfl, rfl, rfl, rfl, rfl, rfl, rfl, rfl, rfl, rfl, rfl, rfl, rfl, rfl, rfl, rfl, rfl, rfl, rfl, rfl, rfl, rfl, rfl, rfl, rfl, rfl, rfl, rfl, trivial⟩ ?_
              exact N.next (k + 1) ⟨rfl, rfl, rfl, rfl, rfl, rfl, trivial⟩ ⟨by omega, rfl⟩ (by omega)
            · refine X.mv rfl rfl rfl rfl rfl ?_
              refine X.skip rfl rfl rfl ?_
              refine X.skip rfl rfl rfl ?_
              refine X.skip rfl rfl rfl ?_
              refine X.skip rfl rfl rfl ?_
              refine X.skip rfl rfl rfl ?_
              refine X.skip rfl rfl rfl ?_
              refine X.skip rfl rfl rfl ?_
              refine X.skip rfl rfl rfl ?_
              refine X.skip rfl rfl rfl ?_
              refine X.pickF rfl rfl rfl rfl rfl rfl ?_
              refine X.mv rfl rfl rfl rfl rfl ?_
              refine X.mv rfl rfl rfl rfl rfl ?_
              refine X.mv rfl rfl rfl rfl rfl ?_
              refine X.ixAe rfl rfl rfl rfl rfl rfl Try.underlying22 Try.sz3 (hae) (by omega) ?_
              refine X.ld rfl rfl rfl rfl Try.ag3 (fun H' hF => hF.1) (hc1) ?_
              refine X.mv rfl rfl rfl rfl rfl ?_
              refine X.mv rfl rfl rfl rfl rfl ?_
              refine X.ixAe rfl rfl rfl rfl rfl rfl Try.underlying22 Try.sz3 (hae') (by omega) ?_
              refine X.ld rfl rfl rfl rfl Try.ag3 (fun H' hF => hF.2.2.1) (hc1') ?_
              refine X.gtrT rfl rfl rfl rfl rfl rfl (by omega) ?_
              refine X.mv rfl rfl rfl rfl rfl ?_
              refine X.mv rfl rfl rfl rfl rfl ?_
              refine X.mv rfl rfl rfl rfl rfl ?_
              refine X.ixAe rfl rfl rfl rfl rfl rfl Try.underlying22 Try.sz3 (rfl) (by omega) ?_
              refine X.ld rfl rfl rfl rfl Try.ag3 (fun H' hF => hF.2.1) (hc2) ?_
              refine X.mv rfl rfl rfl rfl rfl ?_
              refine X.mv rfl rfl rfl rfl rfl ?_
              refine X.ixAe rfl rfl rfl rfl rfl rfl Try.underlying22 Try.sz3 (rfl) (by omega) ?_
              refine X.ld rfl rfl rfl rfl Try.ag3 (fun H' hF => hF.2.2.2) (hc2') ?_
              refine X.gtrF rfl rfl rfl rfl rfl rfl (by have := ho2 (by omega) (by omega) (by omega); omega) ?_
              refine X.pickT rfl rfl rfl rfl rfl rfl ?_
              refine X.pickF rfl rfl rfl rfl rfl rfl ?_
              refine X.pickT rfl rfl rfl rfl rfl rfl ?_
              refine X.done [(0, _), (1, _), (2, _), (7, _), (8, _), (9, _), (54, _), (55, _), (56, _), (59, _), (60, _), (61, _), (62, _), (63, _), (64, _), (65, _), (66, _), (67, _), (68, _), (69, _), (70, _), (71, _), (72, _), (73, _), (74, _), (75, _), (76, _), (77, _), (78, _), (79, _), (80, _), (81, _), (82, _), (83, _), (84, _), (85, _), (86, _), (87, _), (88, _), (89, _), (90, _), (91, _), (92, _), (93, _), (94, _), (95, _), (96, _), (97, _), (98, _), (99, _), (100, _), (101, _), (102, _), (103, _), (104, _), (105, _), (106, _), (107, _), (108, _), (109, _), (110, _), (111, _), (112, _), (113, _), (114, _)] ⟨rfl, rfl, rfl, rfl, rfl, rfl, rfl, rfl, rfl, rfl, rfl, rfl, rfl, rfl, rfl, rfl, rfl, rfl, rfl, rfl, rfl, rfl, rfl, rfl, rfl, rfl, rfl, rfl, rfl, rfl, rfl, rfl, rfl, rfl, rfl, rfl, rfl, rfl, rfl, rfl, rfl, rfl, rfl, rfl, rfl, rfl, rfl, rfl, rfl, rfl, rfl, rfl, rfl, rfl, rfl, rfl, rfl, rfl, rfl, rfl, rfl, rfl, rfl, rfl, rfl, trivial⟩ ?_
              refine N.then ?_
              refine E.condF rfl ?_
              refine E.skip ?_
              refine N.blk ?_
              refine N.then ?_
              refine E.region ?_
              refine X.mv rfl rfl rfl rfl rfl ?_
              refine X.add rfl rfl rfl rfl rfl rfl (by omega) ?_
              refine X.asg rfl rfl rfl rfl rfl ?_
              refine X.done [(0, _), (1, _), (2, _), (7, _), (8, _), (9, _), (54, _), (55, _), (56, _), (59, _), (60, _), (61, _), (62, _), (63, _), (64, _), (65, _), (66, _), (67, _), (68, _), (69, _), (70, _), (71, _), (72, _), (73, _), (74, _), (75, _), (76, _), (77, _), (78, _), (79, _), (80, _), (81, _), (82, _), (83, _), (84, _), (85, _), (86, _), (87, _), (88, _), (89, _), (90, _), (91, _), (92, _), (93, _), (94, _), (95, _), (96, _), (97, _), (98, _), (99, _), (100, _), (101, _), (102, _), (103, _), (104, _), (105, _), (106, _), (107, _), (108, _), (109, _), (110, _), (111, _), (112, _), (113, _), (114, _), (57, _), (58, _)] ⟨rfl, rfl, rfl, rfl, rfl, rfl, rfl, rfl, rfl, rfl, rfl, rfl, rfl, rfl, rfl, rfl, rfl, rfl, rfl, rfl, rfl, rfl, rfl, rfl, rfl, rfl, rfl, rfl, rfl, rfl, rfl, rfl, rfl, rfl, rfl, rfl, rfl, rfl, rfl, rfl, rfl, rfl, rfl, rfl, rfl, rfl, rfl, rfl, rfl, rfl, rfl, rfl, rfl, rfl, rfl, rfl, rfl, rfl, rfl, rfl, rfl, rfl, rfl, rfl, rfl, rfl, rfl, trivial⟩ ?_
              exact N.next (k + 1) ⟨rfl, rfl, rfl, rfl, rfl, rfl, trivial⟩ ⟨by omega, rfl⟩ (by omega)
          · refine X.pickT rfl rfl rfl rfl rfl rfl ?_
            refine X.mv rfl rfl rfl rfl rfl ?_
            refine X.skip rfl rfl rfl ?_
            refine X.skip rfl rfl rfl ?_
            refine X.skip rfl rfl rfl ?_
            refine X.skip rfl rfl rfl ?_
            refine X.skip rfl rfl rfl ?_
            refine X.skip rfl rfl rfl ?_
            refine X.skip rfl rfl rfl ?_
            refine X.skip rfl rfl rfl ?_
            refine X.skip rfl rfl rfl ?_
            refine X.skip rfl rfl rfl ?_
            refine X.skip rfl rfl rfl ?_
            refine X.skip rfl rfl rfl ?_
            refine X.skip rfl rfl rfl ?_
            refine X.skip rfl rfl rfl ?_
            refine X.skip rfl rfl rfl ?_
            refine X.skip rfl rfl rfl ?_
            refine X.skip rfl rfl rfl ?_
            refine X.skip rfl rfl rfl ?_
            refine X.skip rfl rfl rfl ?_
            refine X.skip rfl rfl rfl ?_
            refine X.skip rfl rfl rfl ?_
            refine X.skip rfl rfl rfl ?_
            refine X.skip rfl rfl rfl ?_
            refine X.skip rfl rfl rfl ?_
            refine X.skip rfl rfl rfl ?_
            refine X.skip rfl rfl rfl ?_
            refine X.skip rfl rfl rfl ?_
            refine X.skip rfl rfl rfl ?_
            refine X.skip rfl rfl rfl ?_
            refine X.skip rfl rfl rfl ?_
            refine X.skip rfl rfl rfl ?_
            refine X.skip rfl rfl rfl ?_
            refine X.skip rfl rfl rfl ?_
            refine X.skip rfl rfl rfl ?_
            refine X.skip rfl rfl rfl ?_
            refine X.skip rfl rfl rfl ?_
            refine X.skip rfl rfl rfl ?_
            refine X.skip rfl rfl rfl ?_
            refine X.skip rfl rfl rfl ?_
            refine X.skip rfl rfl rfl ?_
            refine X.skip rfl rfl rfl ?_
            refine X.skip rfl rfl rfl ?_
            refine X.pickF rfl rfl rfl rfl rfl rfl ?_
            refine X.done [(0, _), (1, _), (2, _), (7, _), (8, _), (9, _), (54, _), (55, _), (56, _), (59, _), (60, _), (61, _), (62, _), (63, _), (64, _), (65, _), (66, _), (67, _), (68, _), (69, _), (70, _), (71, _), (72, _), (73, _), (74, _), (75, _), (76, _), (77, _), (78, _), (79, _), (80, _), (81, _), (82, _), (83, _), (84, _), (85, _), (86, _), (87, _), (88, _), (89, _), (90, _), (91, _), (92, _), (93, _), (94, _), (95, _), (96, _), (97, _), (98, _), (99, _), (100, _), (101, _), (102, _), (103, _), (104, _), (105, _), (106, _), (107, _), (108, _), (109, _), (110, _), (111, _), (112, _), (113, _), (114, _)] ⟨rfl, rfl, rfl, rfl, rfl, rfl, rfl, rfl, rfl, rfl, rfl, rfl, rfl, rfl, rfl, rfl, rfl, rfl, rfl, rfl, rfl, rfl, rfl, rfl, rfl, rfl, rfl, rfl, rfl, rfl, rfl, rfl, rfl, rfl, rfl, rfl, rfl, rfl, rfl, rfl, rfl, rfl, rfl, rfl, rfl, rfl, rfl, rfl, rfl, rfl, rfl, rfl, rfl, rfl, rfl, rfl, rfl, rfl, rfl, rfl, rfl, rfl, rfl, rfl, rfl, trivial⟩ ?_
            refine N.then ?_
            refine E.condF rfl ?_
            refine E.skip ?_
            refine N.blk ?_
            refine N.then ?_
            refine E.region ?_
            refine X.mv rfl rfl rfl rfl rfl ?_
            refine X.add rfl rfl rfl rfl rfl rfl (by omega) ?_
            refine X.asg rfl rfl rfl rfl rfl ?_
            refine X.done [(0, _), (1, _), (2, _), (7, _), (8, _), (9, _), (54, _), (55, _), (56, _), (59, _), (60, _), (61, _), (62, _), (63, _), (64, _), (65, _), (66, _), (67, _), (68, _), (69, _), (70, _), (71, _), (72, _), (73, _), (74, _), (75, _), (76, _), (77, _), (78, _), (79, _), (80, _), (81, _), (82, _), (83, _), (84, _), (85, _), (86, _), (87, _), (88, _), (89, _), (90, _), (91, _), (92, _), (93, _), (94, _), (95, _), (96, _), (97, _), (98, _), (99, _), (100, _), (101, _), (102, _), (103, _), (104, _), (105, _), (106, _), (107, _), (108, _), (109, _), (110, _), (111, _), (112, _), (113, _), (114, _), (57, _), (58, _)] ⟨rfl, rfl, rfl, rfl, rfl, rfl, rfl, rfl, rfl, rfl, rfl, rfl, rfl, rfl, rfl, rfl, rfl, rfl, rfl, rfl, rfl, rfl, rfl, rfl, rfl, rfl, rfl, rfl, rfl, rfl, rfl, rfl, rfl, rfl, rfl, rfl, rfl, rfl, rfl, rfl, rfl, rfl, rfl, rfl, rfl, rfl, rfl, rfl, rfl, rfl, rfl, rfl, rfl, rfl, rfl, rfl, rfl, rfl, rfl, rfl, rfl, rfl, rfl, rfl, rfl, rfl, rfl, trivial⟩ ?_
            exact N.next (k + 1) ⟨rfl, rfl, rfl, rfl, rfl, rfl, trivial⟩ ⟨by omega, rfl⟩ (by omega)
        · refine X.mv rfl rfl rfl rfl rfl ?_
          refine X.skip rfl rfl rfl ?_
          refine X.skip rfl rfl rfl ?_
          refine X.skip rfl rfl rfl ?_
          refine X.skip rfl rfl rfl ?_
          refine X.skip rfl rfl rfl ?_
          refine X.pickF rfl rfl rfl rfl rfl rfl ?_
          refine X.mv rfl rfl rfl rfl rfl ?_
          refine X.skip rfl rfl rfl ?_
          refine X.skip rfl rfl rfl ?_
          refine X.skip rfl rfl rfl ?_
          refine X.skip rfl rfl rfl ?_
          refine X.skip rfl rfl rfl ?_
          refine X.skip rfl rfl rfl ?_
          refine X.skip rfl rfl rfl ?_
          refine X.skip rfl rfl rfl ?_
          refine X.skip rfl rfl rfl ?_
          refine X.skip rfl rfl rfl ?_
          refine X.skip rfl rfl rfl ?_
          refine X.skip rfl rfl rfl ?_
          refine X.skip rfl rfl rfl ?_
          refine X.skip rfl rfl rfl ?_
          refine X.skip rfl rfl rfl ?_
          refine X.skip rfl rfl rfl ?_
          refine X.skip rfl rfl rfl ?_
          refine X.skip rfl rfl rfl ?_
          refine X.skip rfl rfl rfl ?_
          refine X.skip rfl rfl rfl ?_
          refine X.skip rfl rfl rfl ?_
          refine X.skip rfl rfl rfl ?_
          refine X.skip rfl rfl rfl ?_
          refine X.skip rfl rfl rfl ?_
          refine X.skip rfl rfl rfl ?_
          refine X.skip rfl rfl rfl ?_
          refine X.skip rfl rfl rfl ?_
          refine X.skip rfl rfl rfl ?_
          refine X.skip rfl rfl rfl ?_
          refine X.skip rfl rfl rfl ?_
          refine X.skip rfl rfl rfl ?_
          refine X.skip rfl rfl rfl ?_
          refine X.skip rfl rfl rfl ?_
          refine X.skip rfl rfl rfl ?_
          refine X.skip rfl rfl rfl ?_
          refine X.skip rfl rfl rfl ?_
          refine X.skip rfl rfl rfl ?_
          refine X.skip rfl rfl rfl ?_
          refine X.skip rfl rfl rfl ?_
          refine X.skip rfl rfl rfl ?_
          refine X.skip rfl rfl rfl ?_
          refine X.skip rfl rfl rfl ?_
          refine X.pickF rfl rfl rfl rfl rfl rfl ?_
          refine X.done [(0, _), (1, _), (2, _), (7, _), (8, _), (9, _), (54, _), (55, _), (56, _), (59, _), (60, _), (61, _), (62, _), (63, _), (64, _), (65, _), (66, _), (67, _), (68, _), (69, _), (70, _), (71, _), (72, _), (73, _), (74, _), (75, _), (76, _), (77, _), (78, _), (79, _), (80, _), (81, _), (82, _), (83, _), (84, _), (85, _), (86, _), (87, _), (88, _), (89, _), (90, _), (91, _), (92, _), (93, _), (94, _), (95, _), (96, _), (97, _), (98, _), (99, _), (100, _), (101, _), (102, _), (103, _), (104, _), (105, _), (106, _), (107, _), (108, _), (109, _), (110, _), (111, _), (112, _), (113, _), (114, _)] ⟨rfl, rfl, rfl, rfl, rfl, rfl, rfl, rfl, rfl, rfl, rfl, rfl, rfl, rfl, rfl, rfl, rfl, rfl, rfl, rfl, rfl, rfl, rfl, rfl, rfl, rfl, rfl, rfl, rfl, rfl, rfl, rfl, rfl, rfl, rfl, rfl, rfl, rfl, rfl, rfl, rfl, rfl, rfl, rfl, rfl, rfl, rfl, rfl, rfl, rfl, rfl, rfl, rfl, rfl, rfl, rfl, rfl, rfl, rfl, rfl, rfl, rfl, rfl, rfl, rfl, trivial⟩ ?_
          refine N.then ?_
          refine E.condF rfl ?_
          refine E.skip ?_
          refine N.blk ?_
          refine N.then ?_
          refine E.region ?_
          refine X.mv rfl rfl rfl rfl rfl ?_
          refine X.add rfl rfl rfl rfl rfl rfl (by omega) ?_
          refine X.asg rfl rfl rfl rfl rfl ?_
          refine X.done [(0, _), (1, _), (2, _), (7, _), (8, _), (9, _), (54, _), (55, _), (56, _), (59, _), (60, _), (61, _), (62, _), (63, _), (64, _), (65, _), (66, _), (67, _), (68, _), (69, _), (70, _), (71, _), (72, _), (73, _), (74, _), (75, _), (76, _), (77, _), (78, _), (79, _), (80, _), (81, _), (82, _), (83, _), (84, _), (85, _), (86, _), (87, _), (88, _), (89, _), (90, _), (91, _), (92, _), (93, _), (94, _), (95, _), (96, _), (97, _), (98, _), (99, _), (100, _), (101, _), (102, _), (103, _), (104, _), (105, _), (106, _), (107, _), (108, _), (109, _), (110, _), (111, _), (112, _), (113, _), (114, _), (57, _), (58, _)] ⟨rfl, rfl, rfl, rfl, rfl, rfl, rfl, rfl, rfl, rfl, rfl, rfl, rfl, rfl, rfl, rfl, rfl, rfl, rfl, rfl, rfl, rfl, rfl, rfl, rfl, rfl, rfl, rfl, rfl, rfl, rfl, rfl, rfl, rfl, rfl, rfl, rfl, rfl, rfl, rfl, rfl, rfl, rfl, rfl, rfl, rfl, rfl, rfl, rfl, rfl, rfl, rfl, rfl, rfl, rfl, rfl, rfl, rfl, rfl, rfl, rfl, rfl, rfl, rfl, rfl, rfl, rfl, trivial⟩ ?_
          exact N.next (k + 1) ⟨rfl, rfl, rfl, rfl, rfl, rfl, trivial⟩ ⟨by omega, rfl⟩ (by omega)
      · refine E.exit ?_
        refine N.thenX ?_
        refine N.loopX ?_
        refine N.blkX ?_
        refine N.blk ?_
        refine N.then ?_
        refine E.region ?_
        refine X.mv rfl rfl rfl rfl rfl ?_
        refine X.add rfl rfl rfl rfl rfl rfl (by omega) ?_
        refine X.asg rfl rfl rfl rfl rfl ?_
        refine X.done [(0, _), (1, _), (2, _), (7, _), (8, _), (9, _), (54, _), (55, _), (56, _), (19, _), (20, _)] ⟨rfl, rfl, rfl, rfl, rfl, rfl, rfl, rfl, rfl, rfl, rfl, trivial⟩ ?_
        exact N.next (i + 1) ⟨rfl, rfl, rfl, rfl, rfl, trivial⟩ ⟨by omega, rfl⟩ (by omega)
  · refine E.exit ?_
    refine N.thenX ?_
    refine N.loopX ?_
    refine N.blkX ?_
    refine N.then ?_
    refine E.seq ?_
    have hei : i = fs.length := by omega
    subst hei
    rw [F.cnt hg]
    refine E.region ?_
    refine X.mv rfl rfl rfl rfl rfl ?_
    refine X.eqlC rfl rfl rfl rfl rfl rfl (fun hc => ?_) (fun hc => ?_)
    · refine X.mv rfl rfl rfl rfl rfl ?_
      refine X.skip rfl rfl rfl ?_
      refine X.skip rfl rfl rfl ?_
      refine X.skip rfl rfl rfl ?_
      refine X.skip rfl rfl rfl ?_
      refine X.skip rfl rfl rfl ?_
      refine X.skip rfl rfl rfl ?_
      refine X.skip rfl rfl rfl ?_
      refine X.pickT rfl rfl rfl rfl rfl rfl ?_
      refine X.mv rfl rfl rfl rfl rfl ?_
      refine X.skip rfl rfl rfl ?_
      refine X.skip rfl rfl rfl ?_
      refine X.skip rfl rfl rfl ?_
      refine X.skip rfl rfl rfl ?_
      refine X.skip rfl rfl rfl ?_
      refine X.skip rfl rfl rfl ?_
      refine X.skip rfl rfl rfl ?_
      refine X.pickT rfl rfl rfl rfl rfl rfl ?_
      refine X.asg rfl rfl rfl rfl rfl ?_
      refine X.done [(6, _)] ⟨rfl, trivial⟩ ?_
      refine N.then ?_
      refine E.ret ?_
      exact N.retH [_] ⟨_, _, rfl, rfl, rfl⟩ ⟨rfl, by first | exact hkk | exact Kp.refl _ _⟩
    · refine X.mv rfl rfl rfl rfl rfl ?_
      refine X.mv rfl rfl rfl rfl rfl ?_
      refine X.eqlC rfl rfl rfl rfl rfl rfl (fun hc => ?_) (fun hc => ?_)
      · refine X.mv rfl rfl rfl rfl rfl ?_
        refine X.mv rfl rfl rfl rfl rfl ?_
        refine X.call rfl rfl rfl rfl rfl Try.cl22 (kraft_found F hg (by omega) lb _ hl) ?_
        rintro _ Hx ⟨rfl, e⟩
        obtain rfl := e.symm
        refine X.eqlT rfl rfl rfl rfl rfl rfl (rfl) ?_
        refine X.pickT rfl rfl rfl rfl rfl rfl ?_
        refine X.pickF rfl rfl rfl rfl rfl rfl ?_
        refine X.mv rfl rfl rfl rfl rfl ?_
        refine X.skip rfl rfl rfl ?_
        refine X.skip rfl rfl rfl ?_
        refine X.skip rfl rfl rfl ?_
        refine X.skip rfl rfl rfl ?_
        refine X.skip rfl rfl rfl ?_
        refine X.skip rfl rfl rfl ?_
        refine X.skip rfl rfl rfl ?_
        refine X.pickT rfl rfl rfl rfl rfl rfl ?_
        refine X.asg rfl rfl rfl rfl rfl ?_
        refine X.done [(6, _)] ⟨rfl, trivial⟩ ?_
        refine N.then ?_
        refine E.ret ?_
        exact N.retH [_] ⟨_, _, rfl, rfl, rfl⟩ ⟨rfl, by first | exact hkk | exact Kp.refl _ _⟩
      · refine X.mv rfl rfl rfl rfl rfl ?_
        refine X.skip rfl rfl rfl ?_
        refine X.skip rfl rfl rfl ?_
        refine X.skip rfl rfl rfl ?_
        refine X.pickF rfl rfl rfl rfl rfl rfl ?_
        refine X.pickF rfl rfl rfl rfl rfl rfl ?_
        refine X.mv rfl rfl rfl rfl rfl ?_
        refine X.mv rfl rfl rfl rfl rfl ?_
        refine X.gtrT rfl rfl rfl rfl rfl rfl (by omega) ?_
        refine X.mv rfl rfl rfl rfl rfl ?_
        refine X.mv rfl rfl rfl rfl rfl ?_
        refine X.call rfl rfl rfl rfl rfl Try.cl23 (fits_found F hg (by omega) lb _ hl) ?_
        rintro _ Hy ⟨rfl, hky⟩
        have hkk := hky
        refine X.eqlT rfl rfl rfl rfl rfl rfl (rfl) ?_
        refine X.pickT rfl rfl rfl rfl rfl rfl ?_
        refine X.pickF rfl rfl rfl rfl rfl rfl ?_
        refine X.asg rfl rfl rfl rfl rfl ?_
        refine X.done [(6, _)] ⟨rfl, trivial⟩ ?_
        refine N.then ?_
        refine E.ret ?_
        exact N.retH [_] ⟨_, _, rfl, rfl, rfl⟩ ⟨rfl, by first | exact hkk | exact Kp.refl _ _⟩

theorem hufflengths_ct (fs : List Int) (a : Option Addr) (b o c : Nat) (most : Int) (H : Heap) (hF : Row1 H a b o (iv fs)) : Ct Try.prog 3 #[.slice a fs.length c, i64 most] H fun v H' => v = .bool true ∧ Kp [] H H' := by
  refine Ct.into 37 Try.func3 rfl [(0, .slice a fs.length c), (1, i64 most)] rfl ⟨rfl, rfl, trivial⟩ ?_
  refine E.seq ?_
  refine E.region ?_
  refine X.asg rfl rfl rfl rfl rfl ?_
  refine X.done [(0, _), (1, _), (4, _)] ⟨rfl, rfl, rfl, trivial⟩ ?_
  refine N.then ?_
  refine E.seq ?_
  refine E.seq ?_
  refine E.region ?_
  refine X.mv rfl rfl rfl rfl rfl ?_
  refine X.lenS rfl rfl rfl rfl rfl Try.underlying22 ?_
  refine X.gtr rfl rfl rfl rfl rfl rfl ?_
  refine X.done [(0, _), (1, _), (4, _), (9, _)] ⟨rfl, rfl, rfl, rfl, trivial⟩ ?_
  refine N.then ?_
  refine E.condD rfl (fun hc => ?_) (fun hc => ?_)
  · refine E.seq ?_
    refine E.region ?_
    refine X.call rfl rfl rfl rfl rfl Try.cl7 (known_ct _) ?_
    rintro _ H9 ⟨rfl, hk9⟩
    refine X.asg rfl rfl rfl rfl rfl ?_
    refine X.done [(0, _), (1, _), (4, _)] ⟨rfl, rfl, rfl, trivial⟩ ?_
    refine N.then ?_
    refine E.ret ?_
    refine N.thenR ?_
    exact N.retH [_] ⟨_, _, rfl, rfl, rfl⟩ ⟨rfl, hk9⟩
  · refine E.skip ?_
    refine N.then ?_
    refine E.seq ?_
    refine E.region ?_
    refine X.mv rfl rfl rfl rfl rfl ?_
    refine X.mv rfl rfl rfl rfl rfl ?_
    refine X.call rfl rfl rfl rfl rfl Try.cl8 (lengths_ct fs a b o c most H hF (by omega)) ?_
    intro v1 H1 hq
    obtain ⟨hk1, hv1⟩ := hq
    have hF1 := hF.keepN hk1
    rcases hv1 with ⟨he, rfl⟩ | ⟨he, lb, rfl, hlb, hlt⟩
    · refine X.mv rfl rfl rfl rfl rfl ?_
      refine X.extract rfl rfl rfl rfl rfl rfl ?_
      refine X.extract rfl rfl rfl rfl rfl rfl ?_
      refine X.asg rfl rfl rfl rfl rfl ?_
      refine X.asg rfl rfl rfl rfl rfl ?_
      refine X.done [(0, _), (1, _), (4, _), (5, _), (6, _)] ⟨rfl, rfl, rfl, rfl, rfl, trivial⟩ ?_
      refine N.then ?_
      refine E.seq ?_
      refine E.seq ?_
      refine E.region ?_
      refine X.mv rfl rfl rfl rfl rfl ?_
      refine X.mv rfl rfl rfl rfl rfl ?_
      refine X.mv rfl rfl rfl rfl rfl ?_
      refine X.call rfl rfl rfl rfl rfl Try.cl9 (rwrong_ct fs a b o c most _ hF1 (by omega)) ?_
      rintro _ Hx ⟨rfl, e⟩
      obtain rfl := e.symm
      refine X.neqF rfl rfl rfl rfl rfl rfl (by first | exact (fun h => h rfl) | exact (fun h => h he.symm)) ?_
      refine X.done [(0, _), (1, _), (4, _), (5, _), (6, _), (21, _)] ⟨rfl, rfl, rfl, rfl, rfl, rfl, trivial⟩ ?_
      refine N.then ?_
      refine E.condF rfl ?_
      refine E.skip ?_
      refine N.then ?_
      refine E.seq ?_
      refine E.seq ?_
      refine E.region ?_
      refine X.mv rfl rfl rfl rfl rfl ?_
      refine X.neqT rfl rfl rfl rfl rfl rfl (by first | exact he | omega) ?_
      refine X.done [(0, _), (1, _), (4, _), (5, _), (23, _)] ⟨rfl, rfl, rfl, rfl, rfl, trivial⟩ ?_
      refine N.then ?_
      refine E.condT rfl ?_
      refine E.seq ?_
      refine E.region ?_
      refine X.mv rfl rfl rfl rfl rfl ?_
      refine X.lenS rfl rfl rfl rfl rfl Try.underlying22 ?_
      refine X.eqlT rfl rfl rfl rfl rfl rfl (rfl) ?_
      refine X.mv rfl rfl rfl rfl rfl ?_
      refine X.call rfl rfl rfl rfl rfl Try.cl7 (known_ct _) ?_
      rintro _ H9 ⟨rfl, hk9⟩
      refine X.pickT rfl rfl rfl rfl rfl rfl ?_
      refine X.asg rfl rfl rfl rfl rfl ?_
      refine X.done [(0, _), (1, _), (4, _), (5, _)] ⟨rfl, rfl, rfl, rfl, trivial⟩ ?_
      refine N.then ?_
      refine E.ret ?_
      refine N.thenR ?_
      exact N.retH [_] ⟨_, _, rfl, rfl, rfl⟩ ⟨rfl, hk1.trans hk9 (by simp)⟩
    · refine X.mv rfl rfl rfl rfl rfl ?_
      refine X.extract rfl rfl rfl rfl rfl rfl ?_
      refine X.extract rfl rfl rfl rfl rfl rfl ?_
      refine X.asg rfl rfl rfl rfl rfl ?_
      refine X.asg rfl rfl rfl rfl rfl ?_
      refine X.done [(0, _), (1, _), (4, _), (5, _), (6, _)] ⟨rfl, rfl, rfl, rfl, rfl, trivial⟩ ?_
      refine N.then ?_
      refine E.seq ?_
      refine E.seq ?_
      refine E.region ?_
      refine X.mv rfl rfl rfl rfl rfl ?_
      refine X.mv rfl rfl rfl rfl rfl ?_
      refine X.mv rfl rfl rfl rfl rfl ?_
      refine X.call rfl rfl rfl rfl rfl Try.cl9 (rwrong_ct fs a b o c most _ hF1 (by omega)) ?_
      rintro _ Hx ⟨rfl, e⟩
      obtain rfl := e.symm
      refine X.neqF rfl rfl rfl rfl rfl rfl (by first | exact (fun h => h rfl) | exact (fun h => h he.symm)) ?_
      refine X.done [(0, _), (1, _), (4, _), (5, _), (6, _), (21, _)] ⟨rfl, rfl, rfl, rfl, rfl, rfl, trivial⟩ ?_
      refine N.then ?_
      refine E.condF rfl ?_
      refine E.skip ?_
      refine N.then ?_
      refine E.seq ?_
      refine E.seq ?_
      refine E.region ?_
      refine X.mv rfl rfl rfl rfl rfl ?_
      refine X.neqF rfl rfl rfl rfl rfl rfl (by first | exact he | omega) ?_
      refine X.done [(0, _), (1, _), (4, _), (5, _), (23, _)] ⟨rfl, rfl, rfl, rfl, rfl, trivial⟩ ?_
      refine N.then ?_
      refine E.condF rfl ?_
      refine E.skip ?_
      refine N.then ?_
      refine E.seq ?_
      refine E.region ?_
      refine X.mv rfl rfl rfl rfl rfl ?_
      refine X.mv rfl rfl rfl rfl rfl ?_
      refine X.mv rfl rfl rfl rfl rfl ?_
      refine X.call rfl rfl rfl rfl rfl Try.cl10 (right_ct fs a b o c most lb _ hF1 (may_good he) hlb) ?_
      rintro _ H8 ⟨rfl, hk8⟩
      refine X.mv rfl rfl rfl rfl rfl ?_
      refine X.call rfl rfl rfl rfl rfl Try.cl7 (known_ct _) ?_
      rintro _ H9 ⟨rfl, hk9⟩
      refine X.pickT rfl rfl rfl rfl rfl rfl ?_
      refine X.asg rfl rfl rfl rfl rfl ?_
      refine X.done [(4, _)] ⟨rfl, trivial⟩ ?_
      refine N.then ?_
      refine E.ret ?_
      exact N.retH [_] ⟨_, _, rfl, rfl, rfl⟩ ⟨rfl, (hk1.trans hk8 (by simp)).trans hk9 (by simp)⟩

end Go.Proofs.Ytjlelcfabfmiaaa