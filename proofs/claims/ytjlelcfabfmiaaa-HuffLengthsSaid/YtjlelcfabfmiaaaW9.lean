/- The walks: what beats; whether lengths are right. -/
import Derived.Test.YtjlelcfabfmiaaaW8
import Derived.Test.YtjlelcfabfmiaaaM6
namespace Go.Proofs.Ytjlelcfabfmiaaa
open Go.SX Go.Hf
attribute [local irreducible] X E N Ct
set_option linter.unusedVariables false
set_option linter.unusedSimpArgs false
def krV (ls : List Int) : Int := if Ln.wrongV ls = 0 then (Go.Lens.kr (ls.map Int.toNat) : Nat) else -1
theorem toNat_cast (ns : List Nat) : (ns.map fun (x : Nat) => (x : Int)).map Int.toNat = ns := by
  rw [List.map_map]
  have e : (Int.toNat ∘ fun (x : Nat) => (x : Int)) = id := by funext x; simp
  rw [e, List.map_id]
theorem krV_ok {ns : List Nat} (ho : Go.Lens.Ok ns) (hl : ns.length ≤ 320) : krV (ns.map fun (x : Nat) => (x : Int)) = (Go.Lens.kr ns : Nat) := by
  rw [krV, if_pos (Ln.wrong_ok hl ho), toNat_cast]
theorem kraft_any (ls : List Int) (a : Option Addr) (b o c : Nat) (H : Heap) (A : Row1 H a b o (iv ls)) : Ct Try.prog 14 #[.slice a ls.length c] H fun v H' => v = i64 (krV ls) ∧ Kp [] H H' := by
  rcases Ln.wrong_cases ls with hw | ⟨ns, rfl, ho, hl⟩
  · refine (Ln.kraft_bad ls a b o c H A hw).mono fun v H' h => ⟨?_, h.2⟩
    rw [h.1, krV, if_neg hw]
  · rw [krV_ok ho hl, Go.Lens.kr_eq ns ho]
    have := Ln.kraft_ok ns a b o c H (by rw [← Ln.nv_iv]; exact A) ho hl
    rw [List.length_map]; exact this
theorem kr_cases {ls : List Int} (h0 : ¬ krV ls < 0) : ∃ ns : List Nat, ls = ns.map (fun (x : Nat) => (x : Int)) ∧ Go.Lens.Ok ns ∧ krV ls = (Go.Lens.kr ns : Nat) := by
  rcases Ln.wrong_cases ls with hw | ⟨ns, rfl, ho, hl⟩
  · rw [krV, if_neg hw] at h0; omega
  · exact ⟨ns, rfl, ho, krV_ok ho hl⟩
theorem beats_all {fs ls : List Int} (h : Good fs 15) (hl : fs.length = ls.length) (h0 : ¬ krV ls < 0) (h1 : ¬ 32768 < krV ls) (hp : ∀ s, s < fs.length → 0 < fs.getD s 0 → ls.getD s 0 ≠ 0) : costV fs (lensV fs 15) ≤ costV fs ls := by
  obtain ⟨ns, rfl, ho, hk⟩ := kr_cases h0
  refine beats h ns (by rw [hl, List.length_map]) ho (by omega) (fun s hs hf h => hp s hs hf ?_)
  rw [List.getD_eq_getElem?_getD] at h ⊢
  rw [List.getElem?_map]
  cases e : ns[s]? with
  | none => rfl
  | some x => rw [e] at h; simp at h; subst h; rfl
theorem lensV_row {H : Heap} {lb : Nat} {fs : List Int} {most : Int} (h : H[lb]? = some (.cells (iv (lensV fs most)).toArray 3 (0, 0))) : Row1 H (some ⟨lb, 0, none⟩) lb 0 (iv (lensV fs most)) := Row1.cells0 h
theorem lensV_len {fs : List Int} {most : Int} (h : Good fs most) : (lensV fs most).length = fs.length := by
  obtain ⟨g, F⟩ := found h
  exact F.len
theorem cost_found {fs : List Int} {most : Int} (h : Good fs most) (a : Option Addr) (b o c lb : Nat) (H : Heap) (hF : Row1 H a b o (iv fs)) (hl : H[lb]? = some (.cells (iv (lensV fs most)).toArray 3 (0, 0))) : Ct Try.prog 11 #[.slice a fs.length c, sl0 lb fs.length] H fun v H' => v = i64 (costV fs (lensV fs most)) ∧ H' = H := by
  have hlen := h.len
  have h1 := cost_ct fs (lensV fs most) a b o c (some ⟨lb, 0, none⟩) lb 0 fs.length H hF (lensV_row hl) (by rw [lensV_len h]; omega)
  rw [lensV_len h] at h1; exact h1

theorem huffbeats_ct (fs ls : List Int) (a : Option Addr) (b o c : Nat) (a2 : Option Addr) (b2 o2 c2 : Nat) (H : Heap) (hF : Row1 H a b o (iv fs)) (hL : Row1 H a2 b2 o2 (iv ls)) : Ct Try.prog 6 #[.slice a fs.length c, .slice a2 ls.length c2] H fun v H' => v = .bool true ∧ Kp [] H H' := by
  refine Ct.into 66 Try.func6 rfl [(0, .slice a fs.length c), (1, .slice a2 ls.length c2)] rfl ⟨rfl, rfl, trivial⟩ ?_
  refine E.seq ?_
  refine E.region ?_
  refine X.asg rfl rfl rfl rfl rfl ?_
  refine X.done [(0, _), (1, _), (4, _)] ⟨rfl, rfl, rfl, trivial⟩ ?_
  refine N.then ?_
  refine E.seq ?_
  refine E.seq ?_
  refine E.region ?_
  refine X.mv rfl rfl rfl rfl rfl ?_
  refine X.lenS rfl rfl rfl rfl rfl Try.underlying22 ?_
  refine X.gtrC rfl rfl rfl rfl rfl rfl (fun hc => ?_) (fun hc => ?_)
  · refine X.mv rfl rfl rfl rfl rfl ?_
    refine X.skip rfl rfl rfl ?_
    refine X.skip rfl rfl rfl ?_
    refine X.skip rfl rfl rfl ?_
    refine X.skip rfl rfl rfl ?_
    refine X.skip rfl rfl rfl ?_
    refine X.pickT rfl rfl rfl rfl rfl rfl ?_
    refine X.done [(0, _), (1, _), (4, _), (17, _)] ⟨rfl, rfl, rfl, rfl, trivial⟩ ?_
    refine N.then ?_
    refine E.condT rfl ?_
    refine E.seq ?_
    refine E.region ?_
    refine X.call rfl rfl rfl rfl rfl Try.cl7 (known_ct _) ?_
    rintro _ H9 ⟨rfl, hk9⟩
    refine X.asg rfl rfl rfl rfl rfl ?_
    refine X.done [(0, _), (1, _), (4, _)] ⟨rfl, rfl, rfl, trivial⟩ ?_
    refine N.then ?_
    refine E.ret ?_
    refine N.thenR ?_
    exact N.retH [_] ⟨_, _, rfl, rfl, rfl⟩ ⟨rfl, hk9⟩
  · refine X.mv rfl rfl rfl rfl rfl ?_
    refine X.mv rfl rfl rfl rfl rfl ?_
    refine X.lenS rfl rfl rfl rfl rfl Try.underlying22 ?_
    refine X.mv rfl rfl rfl rfl rfl ?_
    refine X.lenS rfl rfl rfl rfl rfl Try.underlying22 ?_
    refine X.neq rfl rfl rfl rfl rfl rfl ?_
    refine X.pickF rfl rfl rfl rfl rfl rfl ?_
    refine X.done [(0, _), (1, _), (4, _), (17, _)] ⟨rfl, rfl, rfl, rfl, trivial⟩ ?_
    refine N.then ?_
    refine E.condD rfl (fun hc => ?_) (fun hc => ?_)
    · refine E.seq ?_
      refine E.region ?_
      refine X.call rfl rfl rfl rfl rfl Try.cl7 (known_ct _) ?_
      rintro _ H9 ⟨rfl, hk9⟩
      refine X.asg rfl rfl rfl rfl rfl ?_
      refine X.done [(0, _), (1, _), (4, _)] ⟨rfl, rfl, rfl, trivial⟩ ?_
      refine N.then ?_
      refine E.ret ?_
      refine N.thenR ?_
      exact N.retH [_] ⟨_, _, rfl, rfl, rfl⟩ ⟨rfl, hk9⟩
    · refine E.skip ?_
      refine N.then ?_
      refine E.seq ?_
      refine E.region ?_
      refine X.mv rfl rfl rfl rfl rfl ?_
      refine X.call rfl rfl rfl rfl rfl Try.cl8 (lengths_ct fs a b o c 15 H hF (by omega)) ?_
      intro v1 H1 hq
      obtain ⟨hk1, hv1⟩ := hq
      have hF1 := hF.keepN hk1
      have hL1 := hL.keepN hk1
      rcases hv1 with ⟨he, rfl⟩ | ⟨he, lb, rfl, hlb, hlt⟩
      · have hkk := hk1
        refine X.mv rfl rfl rfl rfl rfl ?_
        refine X.extract rfl rfl rfl rfl rfl rfl ?_
        refine X.extract rfl rfl rfl rfl rfl rfl ?_
        refine X.asg rfl rfl rfl rfl rfl ?_
        refine X.asg rfl rfl rfl rfl rfl ?_
        refine X.done [(0, _), (1, _), (4, _), (5, _), (6, _)] ⟨rfl, rfl, rfl, rfl, rfl, trivial⟩ ?_
        refine N.then ?_
        refine E.seq ?_
        refine E.seq ?_
        refine E.region ?_
        refine X.mv rfl rfl rfl rfl rfl ?_
        refine X.neqT rfl rfl rfl rfl rfl rfl (by first | exact he | omega) ?_
        refine X.mv rfl rfl rfl rfl rfl ?_
        refine X.skip rfl rfl rfl ?_
        refine X.skip rfl rfl rfl ?_
        refine X.skip rfl rfl rfl ?_
        refine X.pickT rfl rfl rfl rfl rfl rfl ?_
        refine X.mv rfl rfl rfl rfl rfl ?_
        refine X.skip rfl rfl rfl ?_
        refine X.skip rfl rfl rfl ?_
        refine X.skip rfl rfl rfl ?_
        refine X.pickT rfl rfl rfl rfl rfl rfl ?_
        refine X.done [(0, _), (1, _), (4, _), (5, _), (35, _)] ⟨rfl, rfl, rfl, rfl, rfl, trivial⟩ ?_
        refine N.then ?_
        refine E.condT rfl ?_
        refine E.seq ?_
        refine E.region ?_
        refine X.call rfl rfl rfl rfl rfl Try.cl7 (known_ct _) ?_
        rintro _ H9 ⟨rfl, hk9⟩
        refine X.asg rfl rfl rfl rfl rfl ?_
        refine X.done [(0, _), (1, _), (4, _), (5, _)] ⟨rfl, rfl, rfl, rfl, trivial⟩ ?_
        refine N.then ?_
        refine E.ret ?_
        refine N.thenR ?_
        exact N.retH [_] ⟨_, _, rfl, rfl, rfl⟩ ⟨rfl, hkk.trans hk9 (by simp)⟩
      · have hkk := hk1
        have hF' := hF1
        have hL' := hL1
        have hgood := may_good he
        refine X.mv rfl rfl rfl rfl rfl ?_
        refine X.extract rfl rfl rfl rfl rfl rfl ?_
        refine X.extract rfl rfl rfl rfl rfl rfl ?_
        refine X.asg rfl rfl rfl rfl rfl ?_
        refine X.asg rfl rfl rfl rfl rfl ?_
        refine X.done [(0, _), (1, _), (4, _), (5, _), (6, _)] ⟨rfl, rfl, rfl, rfl, rfl, trivial⟩ ?_
        refine N.then ?_
        refine E.seq ?_
        refine E.seq ?_
        refine E.region ?_
        refine X.mv rfl rfl rfl rfl rfl ?_
        refine X.neqF rfl rfl rfl rfl rfl rfl (by first | exact he | omega) ?_
        refine X.mv rfl rfl rfl rfl rfl ?_
        refine X.mv rfl rfl rfl rfl rfl ?_
        refine X.call rfl rfl rfl rfl rfl Try.cl14 (kraft_any ls a2 b2 o2 c2 _ hL') ?_
        rintro _ Hx ⟨rfl, hkx⟩
        replace hL' := hL'.keepN hkx
        replace hF' := hF'.keepN hkx
        replace hlb := hkx.keep hlb (by simp)
        replace hkk := hkk.trans hkx (by simp)
        refine X.lssC rfl rfl rfl rfl rfl rfl (fun hc => ?_) (fun hc => ?_)
        · refine X.pickF rfl rfl rfl rfl rfl rfl ?_
          refine X.mv rfl rfl rfl rfl rfl ?_
          refine X.skip rfl rfl rfl ?_
          refine X.skip rfl rfl rfl ?_
          refine X.skip rfl rfl rfl ?_
          refine X.pickT rfl rfl rfl rfl rfl rfl ?_
          refine X.done [(0, _), (1, _), (4, _), (5, _), (35, _)] ⟨rfl, rfl, rfl, rfl, rfl, trivial⟩ ?_
          refine N.then ?_
          refine E.condT rfl ?_
          refine E.seq ?_
          refine E.region ?_
          refine X.call rfl rfl rfl rfl rfl Try.cl7 (known_ct _) ?_
          rintro _ H9 ⟨rfl, hk9⟩
          refine X.asg rfl rfl rfl rfl rfl ?_
          refine X.done [(0, _), (1, _), (4, _), (5, _)] ⟨rfl, rfl, rfl, rfl, trivial⟩ ?_
          refine N.then ?_
          refine E.ret ?_
          refine N.thenR ?_
          exact N.retH [_] ⟨_, _, rfl, rfl, rfl⟩ ⟨rfl, hkk.trans hk9 (by simp)⟩
        · refine X.pickF rfl rfl rfl rfl rfl rfl ?_
          refine X.mv rfl rfl rfl rfl rfl ?_
          refine X.mv rfl rfl rfl rfl rfl ?_
          refine X.call rfl rfl rfl rfl rfl Try.cl14 (kraft_any ls a2 b2 o2 c2 _ hL') ?_
          rintro _ Hx ⟨rfl, hkx⟩
          replace hL' := hL'.keepN hkx
          replace hF' := hF'.keepN hkx
          replace hlb := hkx.keep hlb (by simp)
          replace hkk := hkk.trans hkx (by simp)
          refine X.gtr rfl rfl rfl rfl rfl rfl ?_
          refine X.pickF rfl rfl rfl rfl rfl rfl ?_
          refine X.done [(0, _), (1, _), (4, _), (5, _), (35, _)] ⟨rfl, rfl, rfl, rfl, rfl, trivial⟩ ?_
          refine N.then ?_
          refine E.condD rfl (fun hc => ?_) (fun hc => ?_)
          · refine E.seq ?_
            refine E.region ?_
            refine X.call rfl rfl rfl rfl rfl Try.cl7 (known_ct _) ?_
            rintro _ H9 ⟨rfl, hk9⟩
            refine X.asg rfl rfl rfl rfl rfl ?_
            refine X.done [(0, _), (1, _), (4, _), (5, _)] ⟨rfl, rfl, rfl, rfl, trivial⟩ ?_
            refine N.then ?_
            refine E.ret ?_
            refine N.thenR ?_
            exact N.retH [_] ⟨_, _, rfl, rfl, rfl⟩ ⟨rfl, hkk.trans hk9 (by simp)⟩
          · refine E.skip ?_
            refine N.then ?_
            refine E.seq ?_
            refine E.seq ?_
            refine E.region ?_
            refine X.asg rfl rfl rfl rfl rfl ?_
            refine X.done [(0, _), (1, _), (4, _), (5, _), (7, _)] ⟨rfl, rfl, rfl, rfl, rfl, trivial⟩ ?_
            refine N.then ?_
            refine E.block ?_
            -- MISSING in G: [4]
            refine E.loop (fun (i : Nat) => [(0, .slice a fs.length c), (1, .slice a2 ls.length c2), (5, sl0 lb fs.length), (7, i64 i)]) (fun (i : Nat) H' => i ≤ fs.length ∧ H' = Hx ∧ ∀ s, s < i → 0 < fs.getD s 0 → ls.getD s 0 ≠ 0) (fun (i : Nat) => fs.length - i) 0 ⟨rfl, rfl, rfl, rfl, trivial⟩ ⟨Nat.zero_le _, rfl, fun s hs => absurd hs (by omega)⟩ ?_
            rintro i H3 ⟨hi, eH, hJ⟩
            obtain rfl := eH.symm
            refine E.seq ?_
            refine E.seq ?_
            refine E.region ?_
            refine X.mv rfl rfl rfl rfl rfl ?_
            refine X.mv rfl rfl rfl rfl rfl ?_
            refine X.lenS rfl rfl rfl rfl rfl Try.underlying22 ?_
            refine X.lss rfl rfl rfl rfl rfl rfl ?_
            refine X.done [(0, _), (1, _), (5, _), (7, _), (37, _), (38, _), (39, _), (40, _)] ⟨rfl, rfl, rfl, rfl, rfl, rfl, rfl, rfl, trivial⟩ ?_
            refine N.then ?_
            refine E.condD rfl (fun hc => ?_) (fun hc => ?_)
            · refine E.skip ?_
              refine N.then ?_
              refine E.seq ?_
              refine E.block ?_
              refine E.seq ?_
              have hi2 : i < fs.length := Int.ofNat_lt.1 (by assumption)
              obtain ⟨x, hx⟩ := get_of hi2
              obtain ⟨y, hy⟩ := get_of (xs := ls) (i := i) (by omega)
              obtain ⟨hae, cs1, ct1, fz1, hb1, hc1⟩ := row_at hF' hx
              obtain ⟨hae2, cs2, ct2, fz2, hb2, hc2⟩ := row_at hL' hy
              refine E.region ?_
              refine X.mv rfl rfl rfl rfl rfl ?_
              refine X.mv rfl rfl rfl rfl rfl ?_
              refine X.ixAe rfl rfl rfl rfl rfl rfl Try.underlying22 Try.sz3 (hae) (by omega) ?_
              refine X.ld rfl rfl rfl rfl Try.ag3 (hb1) (hc1) ?_
              refine X.gtrC rfl rfl rfl rfl rfl rfl (fun hc => ?_) (fun hc => ?_)
              · refine X.mv rfl rfl rfl rfl rfl ?_
                refine X.mv rfl rfl rfl rfl rfl ?_
                refine X.mv rfl rfl rfl rfl rfl ?_
                refine X.ixAe rfl rfl rfl rfl rfl rfl Try.underlying22 Try.sz3 (hae2) (by omega) ?_
                refine X.ld rfl rfl rfl rfl Try.ag3 (hb2) (hc2) ?_
                refine X.eql rfl rfl rfl rfl rfl rfl ?_
                refine X.pickT rfl rfl rfl rfl rfl rfl ?_
                refine X.done [(0, _), (1, _), (5, _), (7, _), (37, _), (38, _), (39, _), (40, _), (43, _), (44, _), (45, _), (46, _), (47, _), (48, _), (49, _), (50, _), (51, _), (52, _), (53, _), (54, _)] ⟨rfl, rfl, rfl, rfl, rfl, rfl, rfl, rfl, rfl, rfl, rfl, rfl, rfl, rfl, rfl, rfl, rfl, rfl, rfl, rfl, trivial⟩ ?_
                refine N.then ?_
                refine E.condD rfl (fun hc => ?_) (fun hc => ?_)
                · refine E.seq ?_
                  refine E.region ?_
                  refine X.call rfl rfl rfl rfl rfl Try.cl7 (known_ct _) ?_
                  rintro _ H9 ⟨rfl, hk9⟩
                  refine X.asg rfl rfl rfl rfl rfl ?_
                  refine X.done [(0, _), (1, _), (5, _), (7, _), (37, _), (38, _), (39, _), (40, _), (43, _), (44, _), (45, _), (46, _), (47, _), (48, _), (49, _), (50, _), (51, _), (52, _), (53, _), (54, _), (55, _), (4, _)] ⟨rfl, rfl, rfl, rfl, rfl, rfl, rfl, rfl, rfl, rfl, rfl, rfl, rfl, rfl, rfl, rfl, rfl, rfl, rfl, rfl, rfl, rfl, trivial⟩ ?_
                  refine N.then ?_
                  refine E.ret ?_
                  refine N.blkR ?_
                  refine N.thenR ?_
                  refine N.loopR ?_
                  refine N.blkR ?_
                  refine N.thenR ?_
                  exact N.retH [_] ⟨_, _, rfl, rfl, rfl⟩ ⟨rfl, hkk.trans hk9 (by simp)⟩
                · refine E.skip ?_
                  refine N.blk ?_
                  refine N.then ?_
                  refine E.region ?_
                  refine X.mv rfl rfl rfl rfl rfl ?_
                  refine X.add rfl rfl rfl rfl rfl rfl (by omega) ?_
                  refine X.asg rfl rfl rfl rfl rfl ?_
                  refine X.done [(0, _), (1, _), (5, _), (7, _), (37, _), (38, _), (39, _), (40, _), (43, _), (44, _), (45, _), (46, _), (47, _), (48, _), (49, _), (50, _), (51, _), (52, _), (53, _), (54, _), (41, _), (42, _)] ⟨rfl, rfl, rfl, rfl, rfl, rfl, rfl, rfl, rfl, rfl, rfl, rfl, rfl, rfl, rfl, rfl, rfl, rfl, rfl, rfl, rfl, rfl, trivial⟩ ?_
                  exact N.next (i + 1) ⟨rfl, rfl, rfl, rfl, trivial⟩ ⟨by omega, rfl, fun s hs hf => by
                    rcases Nat.lt_or_ge s i with h | h
                    · exact hJ s h hf
                    · obtain rfl : s = i := by omega
                      rw [getD_of hx] at hf
                      rw [getD_of hy]
                      omega⟩ (by omega)
              · refine X.mv rfl rfl rfl rfl rfl ?_
                refine X.skip rfl rfl rfl ?_
                refine X.skip rfl rfl rfl ?_
                refine X.skip rfl rfl rfl ?_
                refine X.skip rfl rfl rfl ?_
                refine X.skip rfl rfl rfl ?_
                refine X.pickF rfl rfl rfl rfl rfl rfl ?_
                refine X.done [(0, _), (1, _), (5, _), (7, _), (37, _), (38, _), (39, _), (40, _), (43, _), (44, _), (45, _), (46, _), (47, _), (48, _), (49, _), (50, _), (51, _), (52, _), (53, _), (54, _)] ⟨rfl, rfl, rfl, rfl, rfl, rfl, rfl, rfl, rfl, rfl, rfl, rfl, rfl, rfl, rfl, rfl, rfl, rfl, rfl, rfl, trivial⟩ ?_
                refine N.then ?_
                refine E.condF rfl ?_
                refine E.skip ?_
                refine N.blk ?_
                refine N.then ?_
                refine E.region ?_
                refine X.mv rfl rfl rfl rfl rfl ?_
                refine X.add rfl rfl rfl rfl rfl rfl (by omega) ?_
                refine X.asg rfl rfl rfl rfl rfl ?_
                refine X.done [(0, _), (1, _), (5, _), (7, _), (37, _), (38, _), (39, _), (40, _), (43, _), (44, _), (45, _), (46, _), (47, _), (48, _), (49, _), (50, _), (51, _), (52, _), (53, _), (54, _), (41, _), (42, _)] ⟨rfl, rfl, rfl, rfl, rfl, rfl, rfl, rfl, rfl, rfl, rfl, rfl, rfl, rfl, rfl, rfl, rfl, rfl, rfl, rfl, rfl, rfl, trivial⟩ ?_
                exact N.next (i + 1) ⟨rfl, rfl, rfl, rfl, trivial⟩ ⟨by omega, rfl, fun s hs hf => by
                  rcases Nat.lt_or_ge s i with h | h
                  · exact hJ s h hf
                  · obtain rfl : s = i := by omega
                    rw [getD_of hx] at hf
                    rw [getD_of hy]
                    omega⟩ (by omega)
            · refine E.exit ?_
              refine N.thenX ?_
              refine N.loopX ?_
              refine N.blkX ?_
              refine N.then ?_
              refine E.seq ?_
              have hbeat := beats_all hgood (by omega) (by omega) (by omega) (fun s hs hf => hJ s (by omega) hf)
              refine E.region ?_
              refine X.mv rfl rfl rfl rfl rfl ?_
              refine X.mv rfl rfl rfl rfl rfl ?_
              refine X.call rfl rfl rfl rfl rfl Try.cl11 (cost_found hgood a b o c lb _ hF' hlb) ?_
              rintro _ Hx ⟨rfl, e⟩
              obtain rfl := e.symm
              refine X.mv rfl rfl rfl rfl rfl ?_
              refine X.mv rfl rfl rfl rfl rfl ?_
              refine X.call rfl rfl rfl rfl rfl Try.cl11 (cost_ct fs ls a b o c a2 b2 o2 c2 _ hF' hL' (by omega)) ?_
              rintro _ Hx ⟨rfl, e⟩
              obtain rfl := e.symm
              refine X.leqT rfl rfl rfl rfl rfl rfl (hbeat) ?_
              refine X.mv rfl rfl rfl rfl rfl ?_
              refine X.call rfl rfl rfl rfl rfl Try.cl7 (known_ct _) ?_
              rintro _ H9 ⟨rfl, hk9⟩
              refine X.pickT rfl rfl rfl rfl rfl rfl ?_
              refine X.asg rfl rfl rfl rfl rfl ?_
              refine X.done [(4, _)] ⟨rfl, trivial⟩ ?_
              refine N.then ?_
              refine E.ret ?_
              exact N.retH [_] ⟨_, _, rfl, rfl, rfl⟩ ⟨rfl, hkk.trans hk9 (by simp)⟩

end Go.Proofs.Ytjlelcfabfmiaaa