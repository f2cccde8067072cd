/- WindowPlays: whatever the script. -/
import Derived.Test.YtebanilfapapbaaW3
import Derived.Test.YtebanilfapapbaaJ
namespace Go.Proofs.Ytebanilfapapbaa
open Go.SX Go.Win
attribute [local irreducible] X E N Ct lst trimL
set_option linter.unusedVariables false

structure OpT where
  k : Int
  s : Bs
  d : Int
  n : Int
abbrev opc (x : OpT) : List Value := [i64 x.k, str x.s, i64 x.d, i64 x.n]
theorem opc_len (x : OpT) : (opc x).length = 4 := rfl

def copyV (d n : Int) (v : Bs) : Bs × Int × Bs :=
  if n < 0 ∨ 65536 < n ∨ d < 1 then ([], 1, v) else if (v.length : Int) < d then ([], 10, v) else (copyT d n v, 0, lst 32768 (v ++ copyT d n v))

theorem copy_all (p : Nat) (sv : Value) (l : Bs) (H : Heap) (hW : Win H p sv l) (hl : l.length ≤ 131072) (d n : Int) : Ct Try.prog 10 #[ptr p, i64 d, i64 n] H fun v H' =>
    v = .tuple #[str (copyV d n (lst 32768 l)).1, i64 (copyV d n (lst 32768 l)).2.1] ∧ ∃ sv' l', Win H' p sv' l' ∧ Chg p sv H H' sv' ∧ l'.length ≤ 131072 ∧ lst 32768 l' = (copyV d n (lst 32768 l)).2.2 := by
  have hlen := lst_len 32768 l
  by_cases hb : n < 0 ∨ 65536 < n ∨ d < 1
  · refine (copy_bad_ct p sv l H hW d n hb).mono ?_
    rintro v H' ⟨rfl, rfl⟩
    unfold copyV; rw [if_pos hb]
    exact ⟨rfl, sv, l, hW, Chg.refl _ _ _, hl, rfl⟩
  · by_cases hf : ((lst 32768 l).length : Int) < d
    · refine (copy_far_ct p sv l H hW d n (by omega) (by omega)).mono ?_
      rintro v H' ⟨rfl, rfl⟩
      unfold copyV; rw [if_neg hb, if_pos hf]
      exact ⟨rfl, sv, l, hW, Chg.refl _ _ _, hl, rfl⟩
    · obtain ⟨d', rfl⟩ := Int.eq_ofNat_of_zero_le (show 0 ≤ d by omega)
      obtain ⟨n', rfl⟩ := Int.eq_ofNat_of_zero_le (show 0 ≤ n by omega)
      refine (copy_ct p sv l H hW d' n' hl (by omega) (by omega)).mono ?_
      rintro v H' ⟨rfl, sv', hW', hg⟩
      have hT : copyT d' n' l = copyT d' n' (lst 32768 l) := copyT_lst (by omega) l (by omega)
      unfold copyV; rw [if_neg hb, if_neg hf]
      refine ⟨?_, sv', _, hW', hg, trimL_len _, ?_⟩
      · simp only [← hT]; rfl
      · rw [lst_trim (Nat.le_refl _)]
        show _ = lst 32768 (lst 32768 l ++ _)
        rw [← hT, lst_app, copyT_app]; rfl

theorem rcopy_all (r : Nat) (v : Bs) (H : Heap) (hR : Rf H r v) (hv : v.length ≤ 32768) (d n : Int) : Ct Try.prog 16 #[ptr r, i64 d, i64 n] H fun u H' =>
    u = .tuple #[str (copyV d n v).1, i64 (copyV d n v).2.1] ∧ Rf H' r (copyV d n v).2.2 ∧ Kp [r] H H' := by
  by_cases hb : n < 0 ∨ 65536 < n ∨ d < 1
  · refine (rcopy_bad_ct r v H hR d n hb).mono ?_
    rintro u H' ⟨rfl, rfl⟩
    unfold copyV; rw [if_pos hb]
    exact ⟨rfl, hR, Kp.refl _ _⟩
  · by_cases hf : (v.length : Int) < d
    · refine (rcopy_far_ct r v H hR d n (by omega) (by omega)).mono ?_
      rintro u H' ⟨rfl, rfl⟩
      unfold copyV; rw [if_neg hb, if_pos hf]
      exact ⟨rfl, hR, Kp.refl _ _⟩
    · obtain ⟨d', rfl⟩ := Int.eq_ofNat_of_zero_le (show 0 ≤ d by omega)
      obtain ⟨n', rfl⟩ := Int.eq_ofNat_of_zero_le (show 0 ≤ n by omega)
      refine (rcopy_ct r v H hR d' n' hv (by omega) (by omega)).mono ?_
      rintro u H' ⟨rfl, hR', hk⟩
      unfold copyV; rw [if_neg hb, if_neg hf]
      refine ⟨rfl, ?_, hk⟩
      show Rf H' r (lst 32768 (v ++ copyT d' n' v))
      rw [copyT_app]; exact hR'

theorem Chg.ne {p r : Nat} {sv sv' : Value} {H H' : Heap} (h : Chg p sv H H' sv') (hr : r < H.size) (hn : r ∉ p :: blk sv) : r ∉ p :: blk sv' := by
  intro hm
  rcases List.mem_cons.1 hm with rfl | hm
  · exact hn (by simp)
  · rcases h.2 r hm with h1 | h1
    · exact hn (by simp [h1])
    · omega
theorem last_big (l : Bs) : lastS 40000 l = lst 32768 l := by
  have e : min (40000 : Int).toNat 32768 = 32768 := by omega
  unfold lastS; rw [if_neg (by omega), e]
theorem last_rf (n : Int) (l : Bs) : lastS n (lst 32768 l) = lastS n l := by
  unfold lastS; split
  · rfl
  · rw [lst_lst]; congr 1; omega

theorem len_eq (l : Bs) : ((min l.length 32768 : Nat) : Int) = ((lst 32768 l).length : Int) := by rw [lst_len, Nat.min_comm]
/-- What holds between two steps. -/
structure St (H0 H : Heap) (r p : Nat) (sv : Value) (l : Bs) : Prop where
  mine : Mine H0 H p sv l
  small : l.length ≤ 131072
  rf : Rf H r (lst 32768 l)
  ne : r ∉ p :: blk sv
  new : H0.size ≤ r
theorem St.both {H0 A B C : Heap} {r p : Nat} {sv sv' : Value} {l l' : Bs} (h : St H0 A r p sv l) (hw : Win B p sv' l') (hg : Chg p sv A B sv') (hs : l'.length ≤ 131072) (hr : Rf C r (lst 32768 l')) (hk : Kp [r] B C) : St H0 C r p sv' l' := by
  have hn := hg.ne (lt_of h.rf) h.ne
  have hm := h.mine.step hw hg
  exact ⟨⟨hw.keep hk (fun b hb hbr => hn (by simp at hbr; exact hbr ▸ hb)), hm.kp.trans hk (fun b hb => .inr (by simp at hb; subst hb; exact h.new)), hm.new⟩, hs, hr, hn, h.new⟩

theorem plays_ct (s : Bs) (a : Option Addr) (c : Nat) (xs : List OpT) (H : Heap) (hS : Rd H 4 (.slice a xs.length c) xs.length (xs.flatMap opc)) (hc : xs.length ≤ c ∧ c ≤ maxLen) (hQ : ∀ x ∈ xs, -9223372036854775808 ≤ x.n ∧ x.n ≤ 9223372036854775807) : Ct Try.prog 5 #[str s, .slice a xs.length c] H fun v H' => v = .bool true ∧ Kp [] H H' := by
  have hcx := hc.2
  simp only [maxLen] at hcx
  refine Ct.into 135 Try.func5 rfl [(0, str s), (1, .slice a xs.length c)] rfl ⟨rfl, rfl, trivial⟩ ?_
  refine E.seq ?_
  refine E.region ?_
  refine X.asg rfl rfl rfl rfl rfl ?_
  refine X.done [(0, _), (1, _), (4, _)] ⟨rfl, rfl, rfl, trivial⟩ ?_
  refine N.then ?_
  refine E.seq ?_
  refine E.seq ?_
  refine E.region ?_
  refine X.mv rfl rfl rfl rfl rfl ?_
  refine X.lenL rfl rfl rfl rfl rfl Try.underlying9 ?_
  refine X.gtr rfl rfl rfl rfl rfl rfl ?_
  refine X.done [(0, _), (1, _), (4, _), (17, _)] ⟨rfl, rfl, rfl, rfl, trivial⟩ ?_
  refine N.then ?_
  refine E.condD rfl (fun hc => ?_) (fun hc => ?_)
  · refine E.seq ?_
    refine E.region ?_
    refine X.call rfl rfl rfl rfl rfl Try.cl7 (known_ct H) ?_
    rintro _ HK ⟨rfl, hkK⟩
    refine X.asg rfl rfl rfl rfl rfl ?_
    refine X.done [(0, _), (1, _), (4, _)] ⟨rfl, rfl, rfl, trivial⟩ ?_
    refine N.then ?_
    refine E.ret ?_
    refine N.thenR ?_
    exact N.retH [_] ⟨_, _, rfl, rfl, rfl⟩ ⟨rfl, hkK⟩
  · refine E.skip ?_
    refine N.then ?_
    refine E.seq ?_
    refine E.region ?_
    refine X.mv rfl rfl rfl rfl rfl ?_
    refine X.call rfl rfl rfl rfl rfl Try.cl8 (new_ct s H (by omega)) ?_
    rintro _ H1 ⟨p, sv1, rfl, hW1, hk1, hf1⟩
    have M1 := Mine.first hW1 hk1 hf1
    refine X.asg rfl rfl rfl rfl rfl ?_
    refine X.done [(0, _), (1, _), (4, _), (5, _)] ⟨rfl, rfl, rfl, rfl, trivial⟩ ?_
    refine N.then ?_
    refine E.seq ?_
    refine E.region ?_
    refine X.build (v := .agg ([str []] : List Value).toArray) rfl rfl rfl rfl rfl (fun _ => by kernel_rfl) ?_
    refine X.box rfl rfl rfl rfl rfl rfl ?_
    intro b22 H22 hn22 hb22 hk22
    refine X.asg rfl rfl rfl rfl rfl ?_
    refine X.done [(0, _), (1, _), (4, _), (5, _), (6, _)] ⟨rfl, rfl, rfl, rfl, rfl, trivial⟩ ?_
    refine N.then ?_
    refine E.seq ?_
    refine E.region ?_
    refine X.mv rfl rfl rfl rfl rfl ?_
    refine X.mv rfl rfl rfl rfl rfl ?_
    refine X.call rfl rfl rfl rfl rfl Try.cl15 (rput_ct b22 [] H22 hb22 s (by simp; omega)) ?_
    rintro _ H2 ⟨rfl, hR2, hk2⟩
    have hnb : b22 ∉ p :: blk sv1 := fun h => by have := hW1.lt _ h; omega
    have S2 : St H H2 b22 p sv1 (trimL s) := by
      refine ⟨⟨(hW1.keep hk22 (by simp)).keep hk2 (fun b hb hbr => hnb (by simp at hbr; exact hbr ▸ hb)), (hk1.trans hk22 (by simp)).trans hk2 (fun b hb => .inr (by simp at hb; subst hb; exact Nat.le_trans hk1.size hn22)), hf1⟩, trimL_len _, ?_, hnb, Nat.le_trans hk1.size hn22⟩
      rw [lst_trim (Nat.le_refl _)]; exact hR2
    refine X.done [(1, _), (4, _), (5, _), (6, _)] ⟨rfl, rfl, rfl, rfl, trivial⟩ ?_
    refine N.then ?_
    refine E.seq ?_
    refine E.seq ?_
    refine E.region ?_
    refine X.asg rfl rfl rfl rfl rfl ?_
    refine X.done [(1, _), (4, _), (5, _), (6, _), (7, _)] ⟨rfl, rfl, rfl, rfl, rfl, trivial⟩ ?_
    refine N.then ?_
    refine E.block ?_
    refine E.loop (fun (q : Nat × Nat) => [(1, .slice a xs.length c), (4, .bool false), (5, ptr q.2), (6, ptr b22), (7, i64 q.1)]) (fun (q : Nat × Nat) H' => q.1 ≤ xs.length ∧ ∃ sv l, St H H' b22 q.2 sv l) (fun (q : Nat × Nat) => xs.length - q.1) (0, p) ⟨rfl, rfl, rfl, rfl, rfl, trivial⟩ ⟨Nat.zero_le _, _, _, S2⟩ ?_
    rintro ⟨i, p⟩ H3 hJ
    dsimp only at hJ ⊢
    obtain ⟨hi, sv, l, S3⟩ := hJ
    refine E.seq ?_
    refine E.seq ?_
    refine E.region ?_
    refine X.mv rfl rfl rfl rfl rfl ?_
    refine X.mv rfl rfl rfl rfl rfl ?_
    refine X.lenS rfl rfl rfl rfl rfl Try.underlying35 ?_
    refine X.lssC rfl rfl rfl rfl rfl rfl (fun hc => ?_) (fun hc => ?_)
    · refine X.mv rfl rfl rfl rfl rfl ?_
      refine X.mv rfl rfl rfl rfl rfl ?_
      refine X.lss rfl rfl rfl rfl rfl rfl ?_
      refine X.pickT rfl rfl rfl rfl rfl rfl ?_
      refine X.done [(1, _), (4, _), (5, _), (6, _), (7, _), (26, _), (27, _), (28, _), (29, _), (30, _), (31, _), (32, _), (33, _)] ⟨rfl, rfl, rfl, rfl, rfl, rfl, rfl, rfl, rfl, rfl, rfl, rfl, rfl, trivial⟩ ?_
      refine N.then ?_
      refine E.condD rfl (fun hc => ?_) (fun hc => ?_)
      · refine E.skip ?_
        refine N.then ?_
        refine E.seq ?_
        refine E.block ?_
        refine E.seq ?_
        obtain ⟨x, hx⟩ : ∃ x, xs[i]? = some x := ⟨_, List.getElem?_eq_getElem (by omega)⟩
        have hxn := hQ x (List.mem_of_getElem? hx)
        obtain ⟨bb, oo, cc, cs, ct, fz, hv, hbb, hel⟩ := (hS.keep S3.mine.kp (by simp)).get opc_len hx (by decide)
        obtain ⟨rfl, _, rfl⟩ := Value.slice.inj hv
        refine E.region ?_
        refine X.mv rfl rfl rfl rfl rfl ?_
        refine X.mv rfl rfl rfl rfl rfl ?_
        refine X.ixA rfl rfl rfl rfl rfl rfl Try.underlying35 Try.sz40 (by omega) ?_
        refine X.ldA rfl rfl rfl rfl Try.ag40 Try.sz40 (hbb) (vs := opc x) rfl (fun j v hj => hel j v hj) ?_
        refine X.alloc (z := .agg ([.int .i64 0, .string ⟨#[]⟩, .int .i64 0, .int .i64 0] : List Value).toArray) (cs := [.int .i64 0, .string ⟨#[]⟩, .int .i64 0, .int .i64 0]) rfl rfl rfl rfl (by kernel_rfl) rfl ?_
        intro b8 H7 hn8' hb8 hk7
        refine X.stA rfl rfl rfl rfl rfl rfl (by simp [opc, Value.oneCell']) Try.sz40 hb8 (by simp) ?_
        intro H8 h8 hk8
        have h8 : H8[b8]? = some (.cells (opc x).toArray 40 (0, 0)) := h8
        have hn8 : b8 ∉ p :: blk sv := fun h => by have := S3.mine.win.lt _ h; omega
        have S8 : St H H8 b22 p sv l := by
          refine ⟨⟨(S3.mine.win.keep hk7 (by simp)).keep hk8 (fun b hb h => hn8 (by simp at h; exact h ▸ hb)), (S3.mine.kp.trans hk7 (by simp)).trans hk8 (fun b hb => .inr (by simp at hb; subst hb; exact Nat.le_trans S3.mine.kp.size hn8')), S3.mine.new⟩, S3.small, hk8.keep (hk7.keep S3.rf (by simp)) (fun h => ?_), S3.ne, S3.new⟩
          have := lt_of S3.rf
          simp at h
          omega
        refine X.done [(1, _), (4, _), (5, _), (6, _), (7, _), (26, _), (27, _), (28, _), (29, _), (30, _), (31, _), (32, _), (33, _), (36, _), (37, _), (38, _), (39, _), (8, _)] ⟨rfl, rfl, rfl, rfl, rfl, rfl, rfl, rfl, rfl, rfl, rfl, rfl, rfl, rfl, rfl, rfl, rfl, rfl, trivial⟩ ?_
        refine N.then ?_
        refine E.seq ?_
        refine E.seq ?_
        refine E.region ?_
        refine X.mv rfl rfl rfl rfl rfl ?_
        refine X.eqlP1 rfl rfl rfl rfl rfl rfl Try.underlying23 ?_
        refine X.done [(1, _), (4, _), (5, _), (6, _), (7, _), (26, _), (27, _), (28, _), (29, _), (30, _), (31, _), (32, _), (33, _), (36, _), (37, _), (38, _), (39, _), (8, _), (40, _), (41, _)] ⟨rfl, rfl, rfl, rfl, rfl, rfl, rfl, rfl, rfl, rfl, rfl, rfl, rfl, rfl, rfl, rfl, rfl, rfl, rfl, rfl, trivial⟩ ?_
        refine N.then ?_
        refine E.condF rfl ?_
        refine E.skip ?_
        refine N.then ?_
        refine E.seq ?_
        refine E.seq ?_
        refine E.region ?_
        refine X.fld rfl rfl rfl rfl rfl Try.off40_1 ?_
        refine X.ld rfl rfl rfl rfl Try.ag9 (h8) (rfl) ?_
        refine X.lenL rfl rfl rfl rfl rfl Try.underlying9 ?_
        refine X.gtr rfl rfl rfl rfl rfl rfl ?_
        refine X.done [(1, _), (4, _), (5, _), (6, _), (7, _), (26, _), (27, _), (28, _), (29, _), (30, _), (31, _), (32, _), (33, _), (36, _), (37, _), (38, _), (39, _), (8, _), (40, _), (41, _), (42, _), (43, _), (44, _), (45, _)] ⟨rfl, rfl, rfl, rfl, rfl, rfl, rfl, rfl, rfl, rfl, rfl, rfl, rfl, rfl, rfl, rfl, rfl, rfl, rfl, rfl, rfl, rfl, rfl, rfl, trivial⟩ ?_
        refine N.then ?_
        refine E.condD rfl (fun hc => ?_) (fun hc => ?_)
        · refine E.exit ?_
          refine N.thenX ?_
          refine N.blkX ?_
          refine N.then ?_
          refine E.region ?_
          refine X.mv rfl rfl rfl rfl rfl ?_
          refine X.add rfl rfl rfl rfl rfl rfl (by omega) ?_
          refine X.asg rfl rfl rfl rfl rfl ?_
          refine X.done [(1, _), (4, _), (5, _), (6, _), (7, _), (26, _), (27, _), (28, _), (29, _), (30, _), (31, _), (32, _), (33, _), (36, _), (37, _), (38, _), (39, _), (8, _), (40, _), (41, _), (42, _), (43, _), (44, _), (45, _), (34, _), (35, _)] ⟨rfl, rfl, rfl, rfl, rfl, rfl, rfl, rfl, rfl, rfl, rfl, rfl, rfl, rfl, rfl, rfl, rfl, rfl, rfl, rfl, rfl, rfl, rfl, rfl, rfl, rfl, trivial⟩ ?_
          first | exact N.next (G := fun (q : Nat × Nat) => _) (i + 1, _) ⟨rfl, rfl, rfl, rfl, rfl, trivial⟩ ⟨by show i + 1 ≤ xs.length; omega, _, _, SF⟩ (by show xs.length - (i + 1) < xs.length - i; omega) | exact N.next (G := fun (q : Nat × Nat) => _) (i + 1, _) ⟨rfl, rfl, rfl, rfl, rfl, trivial⟩ ⟨by show i + 1 ≤ xs.length; omega, _, _, S8⟩ (by show xs.length - (i + 1) < xs.length - i; omega)
        · refine E.skip ?_
          refine N.then ?_
          refine E.seq ?_
          refine E.seq ?_
          refine E.region ?_
          refine X.fld rfl rfl rfl rfl rfl Try.off40_0 ?_
          refine X.ld rfl rfl rfl rfl Try.ag3 (h8) (rfl) ?_
          refine X.done [(1, _), (4, _), (5, _), (6, _), (7, _), (26, _), (27, _), (28, _), (29, _), (30, _), (31, _), (32, _), (33, _), (36, _), (37, _), (38, _), (39, _), (8, _), (40, _), (41, _), (42, _), (43, _), (44, _), (45, _), (46, _), (47, _)] ⟨rfl, rfl, rfl, rfl, rfl, rfl, rfl, rfl, rfl, rfl, rfl, rfl, rfl, rfl, rfl, rfl, rfl, rfl, rfl, rfl, rfl, rfl, rfl, rfl, rfl, rfl, trivial⟩ ?_
          refine N.then ?_
          refine E.block ?_
          refine E.seq ?_
          refine E.region ?_
          refine X.eql rfl rfl rfl rfl rfl rfl ?_
          refine X.asg rfl rfl rfl rfl rfl ?_
          refine X.done [(1, _), (4, _), (5, _), (6, _), (7, _), (26, _), (27, _), (28, _), (29, _), (30, _), (31, _), (32, _), (33, _), (36, _), (37, _), (38, _), (39, _), (8, _), (40, _), (41, _), (42, _), (43, _), (44, _), (45, _), (46, _), (47, _), (54, _), (53, _)] ⟨rfl, rfl, rfl, rfl, rfl, rfl, rfl, rfl, rfl, rfl, rfl, rfl, rfl, rfl, rfl, rfl, rfl, rfl, rfl, rfl, rfl, rfl, rfl, rfl, rfl, rfl, rfl, rfl, trivial⟩ ?_
          refine N.then ?_
          refine E.condD rfl (fun hc => ?_) (fun hc => ?_)
          · refine E.seq ?_
            refine E.regionD (fun H' => H'[b8]? = some (.cells (opc x).toArray 40 (0, 0))) [(0, .pu), (1, .st), (2, .pu), (3, .st), (4, .mk), (5, .mk), (6, .pu)] Try.mixed (by kernel_rfl) (h8) ?_
            refine X.fld rfl rfl rfl rfl rfl Try.off40_1 ?_
            refine X.ld rfl rfl rfl rfl Try.ag9 (fun H' hF => hF) (rfl) ?_
            refine X.fld rfl rfl rfl rfl rfl Try.off40_3 ?_
            refine X.ld rfl rfl rfl rfl Try.ag3 (fun H' hF => hF) (rfl) ?_
            refine X.call rfl rfl rfl rfl rfl Try.cl9 (count_ct x.n 40 H8 hxn (by omega)) ?_
            rintro _ H10 ⟨rfl, eH10⟩
            obtain rfl := eH10.symm
            refine ⟨h8, ?_⟩
            obtain ⟨kk, hkk⟩ := Int.eq_ofNat_of_zero_le (cnt_bd x.n 40 (by omega)).1
            have hkk2 := (cnt_bd x.n 40 (by omega)).2
            rw [hkk]
            refine X.call rfl rfl rfl rfl rfl Try.cl13 (again_ct x.s kk H8 (by omega)) ?_
            rintro _ H11 ⟨rfl, hk11⟩
            refine ⟨hk11.keep h8 (by simp), ?_⟩
            have hrl := rep_len x.s kk
            have hrb : kk * x.s.length ≤ 40 * 2000 := Nat.mul_le_mul (by omega) (by omega)
            have S11 : St H H11 b22 p sv l := ⟨⟨S8.mine.win.keep hk11 (by simp), S8.mine.kp.trans hk11 (by simp), S8.mine.new⟩, S8.small, hk11.keep S8.rf (by simp), S8.ne, S8.new⟩
            refine X.asg rfl rfl rfl rfl rfl ?_
            refine X.done [(1, _), (4, _), (5, _), (6, _), (7, _), (26, _), (27, _), (28, _), (29, _), (30, _), (31, _), (32, _), (33, _), (36, _), (37, _), (38, _), (39, _), (8, _), (40, _), (41, _), (42, _), (43, _), (44, _), (45, _), (46, _), (47, _), (54, _), (53, _), (55, _), (56, _), (57, _), (58, _), (59, _), (60, _), (9, _)] ⟨rfl, rfl, rfl, rfl, rfl, rfl, rfl, rfl, rfl, rfl, rfl, rfl, rfl, rfl, rfl, rfl, rfl, rfl, rfl, rfl, rfl, rfl, rfl, rfl, rfl, rfl, rfl, rfl, rfl, rfl, rfl, rfl, rfl, rfl, rfl, trivial⟩ ?_
            refine N.then ?_
            refine E.seq ?_
            refine E.region ?_
            refine X.mv rfl rfl rfl rfl rfl ?_
            refine X.mv rfl rfl rfl rfl rfl ?_
            refine X.call rfl rfl rfl rfl rfl Try.cl14 (put_ct p sv l H11 S11.mine.win (rep x.s kk) S11.small (by omega)) ?_
            rintro _ H12 ⟨rfl, sv12, hW12, hg12⟩
            refine X.done [(1, _), (4, _), (5, _), (6, _), (7, _), (26, _), (27, _), (28, _), (29, _), (30, _), (31, _), (32, _), (33, _), (36, _), (37, _), (38, _), (39, _), (8, _), (40, _), (41, _), (42, _), (43, _), (44, _), (45, _), (46, _), (47, _), (54, _), (53, _), (55, _), (56, _), (57, _), (58, _), (59, _), (60, _), (9, _), (61, _), (62, _)] ⟨rfl, rfl, rfl, rfl, rfl, rfl, rfl, rfl, rfl, rfl, rfl, rfl, rfl, rfl, rfl, rfl, rfl, rfl, rfl, rfl, rfl, rfl, rfl, rfl, rfl, rfl, rfl, rfl, rfl, rfl, rfl, rfl, rfl, rfl, rfl, rfl, rfl, trivial⟩ ?_
            refine N.then ?_
            refine E.region ?_
            refine X.mv rfl rfl rfl rfl rfl ?_
            refine X.mv rfl rfl rfl rfl rfl ?_
            refine X.call rfl rfl rfl rfl rfl Try.cl15 (rput_ct b22 _ H12 (hg12.1.keep S11.rf S11.ne) (rep x.s kk) (by rw [lst_len]; omega)) ?_
            rintro _ H13 ⟨rfl, hR13, hk13⟩
            have SF := S11.both hW12 hg12 (trimL_len _) (by rw [lst_trim (Nat.le_refl _), ← lst_app]; exact hR13) hk13
            refine X.done [(1, _), (4, _), (5, _), (6, _), (7, _), (26, _), (27, _), (28, _), (29, _), (30, _), (31, _), (32, _), (33, _), (36, _), (37, _), (38, _), (39, _), (8, _), (40, _), (41, _), (42, _), (43, _), (44, _), (45, _), (46, _), (47, _), (54, _), (53, _), (55, _), (56, _), (57, _), (58, _), (59, _), (60, _), (9, _), (61, _), (62, _), (64, _), (65, _)] ⟨rfl, rfl, rfl, rfl, rfl, rfl, rfl, rfl, rfl, rfl, rfl, rfl, rfl, rfl, rfl, rfl, rfl, rfl, rfl, rfl, rfl, rfl, rfl, rfl, rfl, rfl, rfl, rfl, rfl, rfl, rfl, rfl, rfl, rfl, rfl, rfl, rfl, rfl, rfl, trivial⟩ ?_
            refine N.blk ?_
            refine N.then ?_
            refine E.seq ?_
            refine E.regionD (fun H' => Rf H' b22 (lst 32768 _)) [(0, .pu), (1, .pu), (2, .pu), (3, .pu), (5, .pu), (6, .pu), (7, .pu), (8, .st), (9, .pu), (4, .mk), (10, .pu), (11, .pu), (12, .pu), (13, .pu), (15, .pu), (16, .pu), (17, .pu), (18, .st), (14, .mk), (19, .pu), (20, .pu)] Try.mixed (by kernel_rfl) (SF.rf) ?_
            refine X.mv rfl rfl rfl rfl rfl ?_
            refine X.eqlP1 rfl rfl rfl rfl rfl rfl Try.underlying23 ?_
            refine X.mv rfl rfl rfl rfl rfl ?_
            refine X.mv rfl rfl rfl rfl rfl ?_
            refine X.mv rfl rfl rfl rfl rfl ?_
            refine X.nilP rfl rfl rfl rfl rfl ?_
            refine X.fld rfl rfl rfl rfl rfl Try.off38_0 ?_
            refine X.ld rfl rfl rfl rfl Try.ag9 (fun H' hF => hF) (rfl) ?_
            refine X.lenL rfl rfl rfl rfl rfl Try.underlying9 ?_
            refine X.call rfl rfl rfl rfl rfl Try.cl12 (len_ct _ _ _ _ SF.mine.win) ?_
            rintro _ H20 ⟨rfl, eH20⟩
            obtain rfl := eH20.symm
            refine ⟨SF.rf, ?_⟩
            refine X.neqF rfl rfl rfl rfl rfl rfl (fun h => h (len_eq _)) ?_
            refine X.pickF rfl rfl rfl rfl rfl rfl ?_
            refine X.mv rfl rfl rfl rfl rfl ?_
            refine X.mv rfl rfl rfl rfl rfl ?_
            refine X.mv rfl rfl rfl rfl rfl ?_
            refine X.nilP rfl rfl rfl rfl rfl ?_
            refine X.fld rfl rfl rfl rfl rfl Try.off38_0 ?_
            refine X.ld rfl rfl rfl rfl Try.ag9 (fun H' hF => hF) (rfl) ?_
            refine X.call rfl rfl rfl rfl rfl Try.cl11 (last_ct _ _ _ _ SF.mine.win 40000) ?_
            rintro _ H21 ⟨rfl, eH21⟩
            obtain rfl := eH21.symm
            refine ⟨SF.rf, ?_⟩
            refine X.neqSF rfl rfl rfl rfl rfl rfl (last_big _) ?_
            refine X.pickF rfl rfl rfl rfl rfl rfl ?_
            refine X.done [(1, _), (4, _), (5, _), (6, _), (7, _), (26, _), (27, _), (28, _), (29, _), (30, _), (31, _), (32, _), (33, _), (36, _), (37, _), (38, _), (39, _), (8, _), (40, _), (41, _), (42, _), (43, _), (44, _), (45, _), (46, _), (47, _), (54, _), (53, _), (55, _), (56, _), (57, _), (58, _), (59, _), (60, _), (9, _), (61, _), (62, _), (64, _), (65, _), (113, _), (114, _), (115, _), (116, _), (118, _), (119, _), (120, _), (121, _), (122, _), (117, _), (123, _), (124, _), (125, _), (126, _), (128, _), (129, _), (130, _), (131, _), (127, _), (132, _), (133, _)] ⟨rfl, rfl, rfl, rfl, rfl, rfl, rfl, rfl, rfl, rfl, rfl, rfl, rfl, rfl, rfl, rfl, rfl, rfl, rfl, rfl, rfl, rfl, rfl, rfl, rfl, rfl, rfl, rfl, rfl, rfl, rfl, rfl, rfl, rfl, rfl, rfl, rfl, rfl, rfl, rfl, rfl, rfl, rfl, rfl, rfl, rfl, rfl, rfl, rfl, rfl, rfl, rfl, rfl, rfl, rfl, rfl, rfl, rfl, rfl, rfl, trivial⟩ ?_
            refine N.then ?_
            refine E.condF rfl ?_
            refine E.skip ?_
            refine N.blk ?_
            refine N.then ?_
            refine E.region ?_
            refine X.mv rfl rfl rfl rfl rfl ?_
            refine X.add rfl rfl rfl rfl rfl rfl (by omega) ?_
            refine X.asg rfl rfl rfl rfl rfl ?_
            refine X.done [(1, _), (4, _), (5, _), (6, _), (7, _), (26, _), (27, _), (28, _), (29, _), (30, _), (31, _), (32, _), (33, _), (36, _), (37, _), (38, _), (39, _), (8, _), (40, _), (41, _), (42, _), (43, _), (44, _), (45, _), (46, _), (47, _), (54, _), (53, _), (55, _), (56, _), (57, _), (58, _), (59, _), (60, _), (9, _), (61, _), (62, _), (64, _), (65, _), (113, _), (114, _), (115, _), (116, _), (118, _), (119, _), (120, _), (121, _), (122, _), (117, _), (123, _), (124, _), (125, _), (126, _), (128, _), (129, _), (130, _), (131, _), (127, _), (132, _), (133, _), (34, _), (35, _)] ⟨rfl, rfl, rfl, rfl, rfl, rfl, rfl, rfl, rfl, rfl, rfl, rfl, rfl, rfl, rfl, rfl, rfl, rfl, rfl, rfl, rfl, rfl, rfl, rfl, rfl, rfl, rfl, rfl, rfl, rfl, rfl, rfl, rfl, rfl, rfl, rfl, rfl, rfl, rfl, rfl, rfl, rfl, rfl, rfl, rfl, rfl, rfl, rfl, rfl, rfl, rfl, rfl, rfl, rfl, rfl, rfl, rfl, rfl, rfl, rfl, rfl, rfl, trivial⟩ ?_
            first | exact N.next (G := fun (q : Nat × Nat) => _) (i + 1, _) ⟨rfl, rfl, rfl, rfl, rfl, trivial⟩ ⟨by show i + 1 ≤ xs.length; omega, _, _, SF⟩ (by show xs.length - (i + 1) < xs.length - i; omega) | exact N.next (G := fun (q : Nat × Nat) => _) (i + 1, _) ⟨rfl, rfl, rfl, rfl, rfl, trivial⟩ ⟨by show i + 1 ≤ xs.length; omega, _, _, S8⟩ (by show xs.length - (i + 1) < xs.length - i; omega)
          · refine E.seq ?_
            refine E.region ?_
            refine X.eql rfl rfl rfl rfl rfl rfl ?_
            refine X.asg rfl rfl rfl rfl rfl ?_
            refine X.done [(1, _), (4, _), (5, _), (6, _), (7, _), (26, _), (27, _), (28, _), (29, _), (30, _), (31, _), (32, _), (33, _), (36, _), (37, _), (38, _), (39, _), (8, _), (40, _), (41, _), (42, _), (43, _), (44, _), (45, _), (46, _), (47, _), (54, _), (53, _), (68, _), (67, _)] ⟨rfl, rfl, rfl, rfl, rfl, rfl, rfl, rfl, rfl, rfl, rfl, rfl, rfl, rfl, rfl, rfl, rfl, rfl, rfl, rfl, rfl, rfl, rfl, rfl, rfl, rfl, rfl, rfl, rfl, rfl, trivial⟩ ?_
            refine N.then ?_
            refine E.condD rfl (fun hc => ?_) (fun hc => ?_)
            · refine E.seq ?_
              refine E.region ?_
              refine X.mv rfl rfl rfl rfl rfl ?_
              refine X.fld rfl rfl rfl rfl rfl Try.off40_2 ?_
              refine X.ld rfl rfl rfl rfl Try.ag3 (h8) (rfl) ?_
              refine X.fld rfl rfl rfl rfl rfl Try.off40_3 ?_
              refine X.ld rfl rfl rfl rfl Try.ag3 (h8) (rfl) ?_
              refine X.call rfl rfl rfl rfl rfl Try.cl10 (copy_all p sv l H8 S8.mine.win S8.small x.d x.n) ?_
              rintro _ H10 ⟨rfl, sv10, l10, hW10, hg10, hs10, hl10⟩
              have h10 := hg10.1.keep h8 hn8
              refine X.mv rfl rfl rfl rfl rfl ?_
              refine X.extract rfl rfl rfl rfl rfl rfl ?_
              refine X.extract rfl rfl rfl rfl rfl rfl ?_
              refine X.asg rfl rfl rfl rfl rfl ?_
              refine X.asg rfl rfl rfl rfl rfl ?_
              refine X.done [(1, _), (4, _), (5, _), (6, _), (7, _), (26, _), (27, _), (28, _), (29, _), (30, _), (31, _), (32, _), (33, _), (36, _), (37, _), (38, _), (39, _), (8, _), (40, _), (41, _), (42, _), (43, _), (44, _), (45, _), (46, _), (47, _), (54, _), (53, _), (68, _), (67, _), (70, _), (71, _), (72, _), (73, _), (74, _), (75, _), (69, _), (76, _), (77, _), (10, _), (11, _)] ⟨rfl, rfl, rfl, rfl, rfl, rfl, rfl, rfl, rfl, rfl, rfl, rfl, rfl, rfl, rfl, rfl, rfl, rfl, rfl, rfl, rfl, rfl, rfl, rfl, rfl, rfl, rfl, rfl, rfl, rfl, rfl, rfl, rfl, rfl, rfl, rfl, rfl, rfl, rfl, rfl, rfl, trivial⟩ ?_
              refine N.then ?_
              refine E.seq ?_
              refine E.region ?_
              refine X.mv rfl rfl rfl rfl rfl ?_
              refine X.fld rfl rfl rfl rfl rfl Try.off40_2 ?_
              refine X.ld rfl rfl rfl rfl Try.ag3 (h10) (rfl) ?_
              refine X.fld rfl rfl rfl rfl rfl Try.off40_3 ?_
              refine X.ld rfl rfl rfl rfl Try.ag3 (h10) (rfl) ?_
              refine X.call rfl rfl rfl rfl rfl Try.cl16 (rcopy_all b22 _ H10 (hg10.1.keep S8.rf S8.ne) (by rw [lst_len]; omega) x.d x.n) ?_
              rintro _ H11 ⟨rfl, hR11, hk11⟩
              have SF := S8.both hW10 hg10 hs10 (by rw [hl10]; exact hR11) hk11
              refine X.mv rfl rfl rfl rfl rfl ?_
              refine X.extract rfl rfl rfl rfl rfl rfl ?_
              refine X.extract rfl rfl rfl rfl rfl rfl ?_
              refine X.asg rfl rfl rfl rfl rfl ?_
              refine X.asg rfl rfl rfl rfl rfl ?_
              refine X.done [(1, _), (4, _), (5, _), (6, _), (7, _), (26, _), (27, _), (28, _), (29, _), (30, _), (31, _), (32, _), (33, _), (36, _), (37, _), (38, _), (39, _), (8, _), (40, _), (41, _), (42, _), (43, _), (44, _), (45, _), (46, _), (47, _), (54, _), (53, _), (68, _), (67, _), (70, _), (71, _), (72, _), (73, _), (74, _), (75, _), (69, _), (76, _), (77, _), (10, _), (11, _), (79, _), (80, _), (81, _), (82, _), (83, _), (84, _), (78, _), (85, _), (86, _), (12, _), (13, _)] ⟨rfl, rfl, rfl, rfl, rfl, rfl, rfl, rfl, rfl, rfl, rfl, rfl, rfl, rfl, rfl, rfl, rfl, rfl, rfl, rfl, rfl, rfl, rfl, rfl, rfl, rfl, rfl, rfl, rfl, rfl, rfl, rfl, rfl, rfl, rfl, rfl, rfl, rfl, rfl, rfl, rfl, rfl, rfl, rfl, rfl, rfl, rfl, rfl, rfl, rfl, rfl, rfl, trivial⟩ ?_
              refine N.then ?_
              refine E.seq ?_
              refine E.region ?_
              refine X.mv rfl rfl rfl rfl rfl ?_
              refine X.mv rfl rfl rfl rfl rfl ?_
              refine X.neqSF rfl rfl rfl rfl rfl rfl (rfl) ?_
              refine X.mv rfl rfl rfl rfl rfl ?_
              refine X.mv rfl rfl rfl rfl rfl ?_
              refine X.mv rfl rfl rfl rfl rfl ?_
              refine X.neqF rfl rfl rfl rfl rfl rfl (fun h => h rfl) ?_
              refine X.pickF rfl rfl rfl rfl rfl rfl ?_
              refine X.done [(1, _), (4, _), (5, _), (6, _), (7, _), (26, _), (27, _), (28, _), (29, _), (30, _), (31, _), (32, _), (33, _), (36, _), (37, _), (38, _), (39, _), (8, _), (40, _), (41, _), (42, _), (43, _), (44, _), (45, _), (46, _), (47, _), (54, _), (53, _), (68, _), (67, _), (70, _), (71, _), (72, _), (73, _), (74, _), (75, _), (69, _), (76, _), (77, _), (10, _), (11, _), (79, _), (80, _), (81, _), (82, _), (83, _), (84, _), (78, _), (85, _), (86, _), (12, _), (13, _), (87, _), (88, _), (89, _), (90, _), (91, _), (92, _), (93, _), (94, _)] ⟨rfl, rfl, rfl, rfl, rfl, rfl, rfl, rfl, rfl, rfl, rfl, rfl, rfl, rfl, rfl, rfl, rfl, rfl, rfl, rfl, rfl, rfl, rfl, rfl, rfl, rfl, rfl, rfl, rfl, rfl, rfl, rfl, rfl, rfl, rfl, rfl, rfl, rfl, rfl, rfl, rfl, rfl, rfl, rfl, rfl, rfl, rfl, rfl, rfl, rfl, rfl, rfl, rfl, rfl, rfl, rfl, rfl, rfl, rfl, rfl, trivial⟩ ?_
              refine N.then ?_
              refine E.condF rfl ?_
              refine E.skip ?_
              refine N.blk ?_
              refine N.then ?_
              refine E.seq ?_
              refine E.regionD (fun H' => Rf H' b22 (lst 32768 _)) [(0, .pu), (1, .pu), (2, .pu), (3, .pu), (5, .pu), (6, .pu), (7, .pu), (8, .st), (9, .pu), (4, .mk), (10, .pu), (11, .pu), (12, .pu), (13, .pu), (15, .pu), (16, .pu), (17, .pu), (18, .st), (14, .mk), (19, .pu), (20, .pu)] Try.mixed (by kernel_rfl) (SF.rf) ?_
              refine X.mv rfl rfl rfl rfl rfl ?_
              refine X.eqlP1 rfl rfl rfl rfl rfl rfl Try.underlying23 ?_
              refine X.mv rfl rfl rfl rfl rfl ?_
              refine X.mv rfl rfl rfl rfl rfl ?_
              refine X.mv rfl rfl rfl rfl rfl ?_
              refine X.nilP rfl rfl rfl rfl rfl ?_
              refine X.fld rfl rfl rfl rfl rfl Try.off38_0 ?_
              refine X.ld rfl rfl rfl rfl Try.ag9 (fun H' hF => hF) (rfl) ?_
              refine X.lenL rfl rfl rfl rfl rfl Try.underlying9 ?_
              refine X.call rfl rfl rfl rfl rfl Try.cl12 (len_ct _ _ _ _ SF.mine.win) ?_
              rintro _ H20 ⟨rfl, eH20⟩
              obtain rfl := eH20.symm
              refine ⟨SF.rf, ?_⟩
              refine X.neqF rfl rfl rfl rfl rfl rfl (fun h => h (len_eq _)) ?_
              refine X.pickF rfl rfl rfl rfl rfl rfl ?_
              refine X.mv rfl rfl rfl rfl rfl ?_
              refine X.mv rfl rfl rfl rfl rfl ?_
              refine X.mv rfl rfl rfl rfl rfl ?_
              refine X.nilP rfl rfl rfl rfl rfl ?_
              refine X.fld rfl rfl rfl rfl rfl Try.off38_0 ?_
              refine X.ld rfl rfl rfl rfl Try.ag9 (fun H' hF => hF) (rfl) ?_
              refine X.call rfl rfl rfl rfl rfl Try.cl11 (last_ct _ _ _ _ SF.mine.win 40000) ?_
              rintro _ H21 ⟨rfl, eH21⟩
              obtain rfl := eH21.symm
              refine ⟨SF.rf, ?_⟩
              refine X.neqSF rfl rfl rfl rfl rfl rfl (last_big _) ?_
              refine X.pickF rfl rfl rfl rfl rfl rfl ?_
              refine X.done [(1, _), (4, _), (5, _), (6, _), (7, _), (26, _), (27, _), (28, _), (29, _), (30, _), (31, _), (32, _), (33, _), (36, _), (37, _), (38, _), (39, _), (8, _), (40, _), (41, _), (42, _), (43, _), (44, _), (45, _), (46, _), (47, _), (54, _), (53, _), (68, _), (67, _), (70, _), (71, _), (72, _), (73, _), (74, _), (75, _), (69, _), (76, _), (77, _), (10, _), (11, _), (79, _), (80, _), (81, _), (82, _), (83, _), (84, _), (78, _), (85, _), (86, _), (12, _), (13, _), (87, _), (88, _), (89, _), (90, _), (91, _), (92, _), (93, _), (94, _), (113, _), (114, _), (115, _), (116, _), (118, _), (119, _), (120, _), (121, _), (122, _), (117, _), (123, _), (124, _), (125, _), (126, _), (128, _), (129, _), (130, _), (131, _), (127, _), (132, _), (133, _)] ⟨rfl, rfl, rfl, rfl, rfl, rfl, rfl, rfl, rfl, rfl, rfl, rfl, rfl, rfl, rfl, rfl, rfl, rfl, rfl, rfl, rfl, rfl, rfl, rfl, rfl, rfl, rfl, rfl, rfl, rfl, rfl, rfl, rfl, rfl, rfl, rfl, rfl, rfl, rfl, rfl, rfl, rfl, rfl, rfl, rfl, rfl, rfl, rfl, rfl, rfl, rfl, rfl, rfl, rfl, rfl, rfl, rfl, rfl, rfl, rfl, rfl, rfl, rfl, rfl, rfl, rfl, rfl, rfl, rfl, rfl, rfl, rfl, rfl, rfl, rfl, rfl, rfl, rfl, rfl, rfl, rfl, trivial⟩ ?_
              refine N.then ?_
              refine E.condF rfl ?_
              refine E.skip ?_
              refine N.blk ?_
              refine N.then ?_
              refine E.region ?_
              refine X.mv rfl rfl rfl rfl rfl ?_
              refine X.add rfl rfl rfl rfl rfl rfl (by omega) ?_
              refine X.asg rfl rfl rfl rfl rfl ?_
              refine X.done [(1, _), (4, _), (5, _), (6, _), (7, _), (26, _), (27, _), (28, _), (29, _), (30, _), (31, _), (32, _), (33, _), (36, _), (37, _), (38, _), (39, _), (8, _), (40, _), (41, _), (42, _), (43, _), (44, _), (45, _), (46, _), (47, _), (54, _), (53, _), (68, _), (67, _), (70, _), (71, _), (72, _), (73, _), (74, _), (75, _), (69, _), (76, _), (77, _), (10, _), (11, _), (79, _), (80, _), (81, _), (82, _), (83, _), (84, _), (78, _), (85, _), (86, _), (12, _), (13, _), (87, _), (88, _), (89, _), (90, _), (91, _), (92, _), (93, _), (94, _), (113, _), (114, _), (115, _), (116, _), (118, _), (119, _), (120, _), (121, _), (122, _), (117, _), (123, _), (124, _), (125, _), (126, _), (128, _), (129, _), (130, _), (131, _), (127, _), (132, _), (133, _), (34, _), (35, _)] ⟨rfl, rfl, rfl, rfl, rfl, rfl, rfl, rfl, rfl, rfl, rfl, rfl, rfl, rfl, rfl, rfl, rfl, rfl, rfl, rfl, rfl, rfl, rfl, rfl, rfl, rfl, rfl, rfl, rfl, rfl, rfl, rfl, rfl, rfl, rfl, rfl, rfl, rfl, rfl, rfl, rfl, rfl, rfl, rfl, rfl, rfl, rfl, rfl, rfl, rfl, rfl, rfl, rfl, rfl, rfl, rfl, rfl, rfl, rfl, rfl, rfl, rfl, rfl, rfl, rfl, rfl, rfl, rfl, rfl, rfl, rfl, rfl, rfl, rfl, rfl, rfl, rfl, rfl, rfl, rfl, rfl, rfl, rfl, trivial⟩ ?_
              first | exact N.next (G := fun (q : Nat × Nat) => _) (i + 1, _) ⟨rfl, rfl, rfl, rfl, rfl, trivial⟩ ⟨by show i + 1 ≤ xs.length; omega, _, _, SF⟩ (by show xs.length - (i + 1) < xs.length - i; omega) | exact N.next (G := fun (q : Nat × Nat) => _) (i + 1, _) ⟨rfl, rfl, rfl, rfl, rfl, trivial⟩ ⟨by show i + 1 ≤ xs.length; omega, _, _, S8⟩ (by show xs.length - (i + 1) < xs.length - i; omega)
            · refine E.seq ?_
              refine E.region ?_
              refine X.eql rfl rfl rfl rfl rfl rfl ?_
              refine X.asg rfl rfl rfl rfl rfl ?_
              refine X.done [(1, _), (4, _), (5, _), (6, _), (7, _), (26, _), (27, _), (28, _), (29, _), (30, _), (31, _), (32, _), (33, _), (36, _), (37, _), (38, _), (39, _), (8, _), (40, _), (41, _), (42, _), (43, _), (44, _), (45, _), (46, _), (47, _), (54, _), (53, _), (68, _), (67, _), (96, _), (95, _)] ⟨rfl, rfl, rfl, rfl, rfl, rfl, rfl, rfl, rfl, rfl, rfl, rfl, rfl, rfl, rfl, rfl, rfl, rfl, rfl, rfl, rfl, rfl, rfl, rfl, rfl, rfl, rfl, rfl, rfl, rfl, rfl, rfl, trivial⟩ ?_
              refine N.then ?_
              refine E.condD rfl (fun hc => ?_) (fun hc => ?_)
              · refine E.seq ?_
                refine E.regionD (fun H' => H'[b8]? = some (.cells (opc x).toArray 40 (0, 0))) [(0, .pu), (1, .pu), (2, .st), (4, .pu), (5, .pu), (6, .st), (3, .mk), (7, .mk), (8, .pu)] Try.mixed (by kernel_rfl) (h8) ?_
                refine X.mv rfl rfl rfl rfl rfl ?_
                refine X.fld rfl rfl rfl rfl rfl Try.off40_3 ?_
                refine X.ld rfl rfl rfl rfl Try.ag3 (fun H' hF => hF) (rfl) ?_
                refine X.mv rfl rfl rfl rfl rfl ?_
                refine X.fld rfl rfl rfl rfl rfl Try.off40_3 ?_
                refine X.ld rfl rfl rfl rfl Try.ag3 (fun H' hF => hF) (rfl) ?_
                refine X.call rfl rfl rfl rfl rfl Try.cl11 (last_ct p sv l H8 S8.mine.win x.n) ?_
                rintro _ H10 ⟨rfl, eH10⟩
                obtain rfl := eH10.symm
                refine ⟨h8, ?_⟩
                refine X.call rfl rfl rfl rfl rfl Try.cl17 (rlast_ct b22 _ H8 S8.rf x.n (by rw [lst_len]; omega)) ?_
                rintro _ H11 ⟨rfl, eH11⟩
                obtain rfl := eH11.symm
                refine ⟨h8, ?_⟩
                have SF := S8
                refine X.neqSF rfl rfl rfl rfl rfl rfl ((last_rf x.n l).symm) ?_
                refine X.done [(1, _), (4, _), (5, _), (6, _), (7, _), (26, _), (27, _), (28, _), (29, _), (30, _), (31, _), (32, _), (33, _), (36, _), (37, _), (38, _), (39, _), (8, _), (40, _), (41, _), (42, _), (43, _), (44, _), (45, _), (46, _), (47, _), (54, _), (53, _), (68, _), (67, _), (96, _), (95, _), (97, _), (98, _), (99, _), (101, _), (102, _), (103, _), (100, _), (104, _), (105, _)] ⟨rfl, rfl, rfl, rfl, rfl, rfl, rfl, rfl, rfl, rfl, rfl, rfl, rfl, rfl, rfl, rfl, rfl, rfl, rfl, rfl, rfl, rfl, rfl, rfl, rfl, rfl, rfl, rfl, rfl, rfl, rfl, rfl, rfl, rfl, rfl, rfl, rfl, rfl, rfl, rfl, rfl, trivial⟩ ?_
                refine N.then ?_
                refine E.condF rfl ?_
                refine E.skip ?_
                refine N.blk ?_
                refine N.then ?_
                refine E.seq ?_
                refine E.regionD (fun H' => Rf H' b22 (lst 32768 _)) [(0, .pu), (1, .pu), (2, .pu), (3, .pu), (5, .pu), (6, .pu), (7, .pu), (8, .st), (9, .pu), (4, .mk), (10, .pu), (11, .pu), (12, .pu), (13, .pu), (15, .pu), (16, .pu), (17, .pu), (18, .st), (14, .mk), (19, .pu), (20, .pu)] Try.mixed (by kernel_rfl) (SF.rf) ?_
                refine X.mv rfl rfl rfl rfl rfl ?_
                refine X.eqlP1 rfl rfl rfl rfl rfl rfl Try.underlying23 ?_
                refine X.mv rfl rfl rfl rfl rfl ?_
                refine X.mv rfl rfl rfl rfl rfl ?_
                refine X.mv rfl rfl rfl rfl rfl ?_
                refine X.nilP rfl rfl rfl rfl rfl ?_
                refine X.fld rfl rfl rfl rfl rfl Try.off38_0 ?_
                refine X.ld rfl rfl rfl rfl Try.ag9 (fun H' hF => hF) (rfl) ?_
                refine X.lenL rfl rfl rfl rfl rfl Try.underlying9 ?_
                refine X.call rfl rfl rfl rfl rfl Try.cl12 (len_ct _ _ _ _ SF.mine.win) ?_
                rintro _ H20 ⟨rfl, eH20⟩
                obtain rfl := eH20.symm
                refine ⟨SF.rf, ?_⟩
                refine X.neqF rfl rfl rfl rfl rfl rfl (fun h => h (len_eq _)) ?_
                refine X.pickF rfl rfl rfl rfl rfl rfl ?_
                refine X.mv rfl rfl rfl rfl rfl ?_
                refine X.mv rfl rfl rfl rfl rfl ?_
                refine X.mv rfl rfl rfl rfl rfl ?_
                refine X.nilP rfl rfl rfl rfl rfl ?_
                refine X.fld rfl rfl rfl rfl rfl Try.off38_0 ?_
                refine X.ld rfl rfl rfl rfl Try.ag9 (fun H' hF => hF) (rfl) ?_
                refine X.call rfl rfl rfl rfl rfl Try.cl11 (last_ct _ _ _ _ SF.mine.win 40000) ?_
                rintro _ H21 ⟨rfl, eH21⟩
                obtain rfl := eH21.symm
                refine ⟨SF.rf, ?_⟩
                refine X.neqSF rfl rfl rfl rfl rfl rfl (last_big _) ?_
                refine X.pickF rfl rfl rfl rfl rfl rfl ?_
                refine X.done [(1, _), (4, _), (5, _), (6, _), (7, _), (26, _), (27, _), (28, _), (29, _), (30, _), (31, _), (32, _), (33, _), (36, _), (37, _), (38, _), (39, _), (8, _), (40, _), (41, _), (42, _), (43, _), (44, _), (45, _), (46, _), (47, _), (54, _), (53, _), (68, _), (67, _), (96, _), (95, _), (97, _), (98, _), (99, _), (101, _), (102, _), (103, _), (100, _), (104, _), (105, _), (113, _), (114, _), (115, _), (116, _), (118, _), (119, _), (120, _), (121, _), (122, _), (117, _), (123, _), (124, _), (125, _), (126, _), (128, _), (129, _), (130, _), (131, _), (127, _), (132, _), (133, _)] ⟨rfl, rfl, rfl, rfl, rfl, rfl, rfl, rfl, rfl, rfl, rfl, rfl, rfl, rfl, rfl, rfl, rfl, rfl, rfl, rfl, rfl, rfl, rfl, rfl, rfl, rfl, rfl, rfl, rfl, rfl, rfl, rfl, rfl, rfl, rfl, rfl, rfl, rfl, rfl, rfl, rfl, rfl, rfl, rfl, rfl, rfl, rfl, rfl, rfl, rfl, rfl, rfl, rfl, rfl, rfl, rfl, rfl, rfl, rfl, rfl, rfl, rfl, trivial⟩ ?_
                refine N.then ?_
                refine E.condF rfl ?_
                refine E.skip ?_
                refine N.blk ?_
                refine N.then ?_
                refine E.region ?_
                refine X.mv rfl rfl rfl rfl rfl ?_
                refine X.add rfl rfl rfl rfl rfl rfl (by omega) ?_
                refine X.asg rfl rfl rfl rfl rfl ?_
                refine X.done [(1, _), (4, _), (5, _), (6, _), (7, _), (26, _), (27, _), (28, _), (29, _), (30, _), (31, _), (32, _), (33, _), (36, _), (37, _), (38, _), (39, _), (8, _), (40, _), (41, _), (42, _), (43, _), (44, _), (45, _), (46, _), (47, _), (54, _), (53, _), (68, _), (67, _), (96, _), (95, _), (97, _), (98, _), (99, _), (101, _), (102, _), (103, _), (100, _), (104, _), (105, _), (113, _), (114, _), (115, _), (116, _), (118, _), (119, _), (120, _), (121, _), (122, _), (117, _), (123, _), (124, _), (125, _), (126, _), (128, _), (129, _), (130, _), (131, _), (127, _), (132, _), (133, _), (34, _), (35, _)] ⟨rfl, rfl, rfl, rfl, rfl, rfl, rfl, rfl, rfl, rfl, rfl, rfl, rfl, rfl, rfl, rfl, rfl, rfl, rfl, rfl, rfl, rfl, rfl, rfl, rfl, rfl, rfl, rfl, rfl, rfl, rfl, rfl, rfl, rfl, rfl, rfl, rfl, rfl, rfl, rfl, rfl, rfl, rfl, rfl, rfl, rfl, rfl, rfl, rfl, rfl, rfl, rfl, rfl, rfl, rfl, rfl, rfl, rfl, rfl, rfl, rfl, rfl, rfl, rfl, trivial⟩ ?_
                first | exact N.next (G := fun (q : Nat × Nat) => _) (i + 1, _) ⟨rfl, rfl, rfl, rfl, rfl, trivial⟩ ⟨by show i + 1 ≤ xs.length; omega, _, _, SF⟩ (by show xs.length - (i + 1) < xs.length - i; omega) | exact N.next (G := fun (q : Nat × Nat) => _) (i + 1, _) ⟨rfl, rfl, rfl, rfl, rfl, trivial⟩ ⟨by show i + 1 ≤ xs.length; omega, _, _, S8⟩ (by show xs.length - (i + 1) < xs.length - i; omega)
              · refine E.seq ?_
                refine E.region ?_
                refine X.eql rfl rfl rfl rfl rfl rfl ?_
                refine X.asg rfl rfl rfl rfl rfl ?_
                refine X.done [(1, _), (4, _), (5, _), (6, _), (7, _), (26, _), (27, _), (28, _), (29, _), (30, _), (31, _), (32, _), (33, _), (36, _), (37, _), (38, _), (39, _), (8, _), (40, _), (41, _), (42, _), (43, _), (44, _), (45, _), (46, _), (47, _), (54, _), (53, _), (68, _), (67, _), (96, _), (95, _), (107, _), (106, _)] ⟨rfl, rfl, rfl, rfl, rfl, rfl, rfl, rfl, rfl, rfl, rfl, rfl, rfl, rfl, rfl, rfl, rfl, rfl, rfl, rfl, rfl, rfl, rfl, rfl, rfl, rfl, rfl, rfl, rfl, rfl, rfl, rfl, rfl, rfl, trivial⟩ ?_
                refine N.then ?_
                refine E.condD rfl (fun hc => ?_) (fun hc => ?_)
                · refine E.seq ?_
                  refine E.region ?_
                  refine X.mv rfl rfl rfl rfl rfl ?_
                  refine X.call rfl rfl rfl rfl rfl Try.cl18 (clear_ct p sv l H8 S8.mine.win) ?_
                  rintro _ H10 ⟨rfl, sv10, hW10, hg10⟩
                  refine X.done [(1, _), (4, _), (5, _), (6, _), (7, _), (26, _), (27, _), (28, _), (29, _), (30, _), (31, _), (32, _), (33, _), (36, _), (37, _), (38, _), (39, _), (8, _), (40, _), (41, _), (42, _), (43, _), (44, _), (45, _), (46, _), (47, _), (54, _), (53, _), (68, _), (67, _), (96, _), (95, _), (107, _), (106, _), (108, _)] ⟨rfl, rfl, rfl, rfl, rfl, rfl, rfl, rfl, rfl, rfl, rfl, rfl, rfl, rfl, rfl, rfl, rfl, rfl, rfl, rfl, rfl, rfl, rfl, rfl, rfl, rfl, rfl, rfl, rfl, rfl, rfl, rfl, rfl, rfl, rfl, trivial⟩ ?_
                  refine N.then ?_
                  refine E.region ?_
                  refine X.mv rfl rfl rfl rfl rfl ?_
                  refine X.nilP rfl rfl rfl rfl rfl ?_
                  refine X.fld rfl rfl rfl rfl rfl Try.off38_0 ?_
                  refine X.st rfl rfl rfl rfl rfl rfl rfl Try.sz9 (hg10.1.keep S8.rf S8.ne) (by simp) ?_
                  intro H11 hR11 hk11
                  have SF := S8.both hW10 hg10 (by simp) (by rw [show lst 32768 [] = [] from lst_all (by simp)]; exact hR11) hk11
                  refine X.done [(1, _), (4, _), (5, _), (6, _), (7, _), (26, _), (27, _), (28, _), (29, _), (30, _), (31, _), (32, _), (33, _), (36, _), (37, _), (38, _), (39, _), (8, _), (40, _), (41, _), (42, _), (43, _), (44, _), (45, _), (46, _), (47, _), (54, _), (53, _), (68, _), (67, _), (96, _), (95, _), (107, _), (106, _), (108, _), (110, _), (111, _), (112, _)] ⟨rfl, rfl, rfl, rfl, rfl, rfl, rfl, rfl, rfl, rfl, rfl, rfl, rfl, rfl, rfl, rfl, rfl, rfl, rfl, rfl, rfl, rfl, rfl, rfl, rfl, rfl, rfl, rfl, rfl, rfl, rfl, rfl, rfl, rfl, rfl, rfl, rfl, rfl, trivial⟩ ?_
                  refine N.blk ?_
                  refine N.then ?_
                  refine E.seq ?_
                  refine E.regionD (fun H' => Rf H' b22 (lst 32768 _)) [(0, .pu), (1, .pu), (2, .pu), (3, .pu), (5, .pu), (6, .pu), (7, .pu), (8, .st), (9, .pu), (4, .mk), (10, .pu), (11, .pu), (12, .pu), (13, .pu), (15, .pu), (16, .pu), (17, .pu), (18, .st), (14, .mk), (19, .pu), (20, .pu)] Try.mixed (by kernel_rfl) (SF.rf) ?_
                  refine X.mv rfl rfl rfl rfl rfl ?_
                  refine X.eqlP1 rfl rfl rfl rfl rfl rfl Try.underlying23 ?_
                  refine X.mv rfl rfl rfl rfl rfl ?_
                  refine X.mv rfl rfl rfl rfl rfl ?_
                  refine X.mv rfl rfl rfl rfl rfl ?_
                  refine X.nilP rfl rfl rfl rfl rfl ?_
                  refine X.fld rfl rfl rfl rfl rfl Try.off38_0 ?_
                  refine X.ld rfl rfl rfl rfl Try.ag9 (fun H' hF => hF) (rfl) ?_
                  refine X.lenL rfl rfl rfl rfl rfl Try.underlying9 ?_
                  refine X.call rfl rfl rfl rfl rfl Try.cl12 (len_ct _ _ _ _ SF.mine.win) ?_
                  rintro _ H20 ⟨rfl, eH20⟩
                  obtain rfl := eH20.symm
                  refine ⟨SF.rf, ?_⟩
                  refine X.neqF rfl rfl rfl rfl rfl rfl (fun h => h (len_eq _)) ?_
                  refine X.pickF rfl rfl rfl rfl rfl rfl ?_
                  refine X.mv rfl rfl rfl rfl rfl ?_
                  refine X.mv rfl rfl rfl rfl rfl ?_
                  refine X.mv rfl rfl rfl rfl rfl ?_
                  refine X.nilP rfl rfl rfl rfl rfl ?_
                  refine X.fld rfl rfl rfl rfl rfl Try.off38_0 ?_
                  refine X.ld rfl rfl rfl rfl Try.ag9 (fun H' hF => hF) (rfl) ?_
                  refine X.call rfl rfl rfl rfl rfl Try.cl11 (last_ct _ _ _ _ SF.mine.win 40000) ?_
                  rintro _ H21 ⟨rfl, eH21⟩
                  obtain rfl := eH21.symm
                  refine ⟨SF.rf, ?_⟩
                  refine X.neqSF rfl rfl rfl rfl rfl rfl (last_big _) ?_
                  refine X.pickF rfl rfl rfl rfl rfl rfl ?_
                  refine X.done [(1, _), (4, _), (5, _), (6, _), (7, _), (26, _), (27, _), (28, _), (29, _), (30, _), (31, _), (32, _), (33, _), (36, _), (37, _), (38, _), (39, _), (8, _), (40, _), (41, _), (42, _), (43, _), (44, _), (45, _), (46, _), (47, _), (54, _), (53, _), (68, _), (67, _), (96, _), (95, _), (107, _), (106, _), (108, _), (110, _), (111, _), (112, _), (113, _), (114, _), (115, _), (116, _), (118, _), (119, _), (120, _), (121, _), (122, _), (117, _), (123, _), (124, _), (125, _), (126, _), (128, _), (129, _), (130, _), (131, _), (127, _), (132, _), (133, _)] ⟨rfl, rfl, rfl, rfl, rfl, rfl, rfl, rfl, rfl, rfl, rfl, rfl, rfl, rfl, rfl, rfl, rfl, rfl, rfl, rfl, rfl, rfl, rfl, rfl, rfl, rfl, rfl, rfl, rfl, rfl, rfl, rfl, rfl, rfl, rfl, rfl, rfl, rfl, rfl, rfl, rfl, rfl, rfl, rfl, rfl, rfl, rfl, rfl, rfl, rfl, rfl, rfl, rfl, rfl, rfl, rfl, rfl, rfl, rfl, trivial⟩ ?_
                  refine N.then ?_
                  refine E.condF rfl ?_
                  refine E.skip ?_
                  refine N.blk ?_
                  refine N.then ?_
                  refine E.region ?_
                  refine X.mv rfl rfl rfl rfl rfl ?_
                  refine X.add rfl rfl rfl rfl rfl rfl (by omega) ?_
                  refine X.asg rfl rfl rfl rfl rfl ?_
                  refine X.done [(1, _), (4, _), (5, _), (6, _), (7, _), (26, _), (27, _), (28, _), (29, _), (30, _), (31, _), (32, _), (33, _), (36, _), (37, _), (38, _), (39, _), (8, _), (40, _), (41, _), (42, _), (43, _), (44, _), (45, _), (46, _), (47, _), (54, _), (53, _), (68, _), (67, _), (96, _), (95, _), (107, _), (106, _), (108, _), (110, _), (111, _), (112, _), (113, _), (114, _), (115, _), (116, _), (118, _), (119, _), (120, _), (121, _), (122, _), (117, _), (123, _), (124, _), (125, _), (126, _), (128, _), (129, _), (130, _), (131, _), (127, _), (132, _), (133, _), (34, _), (35, _)] ⟨rfl, rfl, rfl, rfl, rfl, rfl, rfl, rfl, rfl, rfl, rfl, rfl, rfl, rfl, rfl, rfl, rfl, rfl, rfl, rfl, rfl, rfl, rfl, rfl, rfl, rfl, rfl, rfl, rfl, rfl, rfl, rfl, rfl, rfl, rfl, rfl, rfl, rfl, rfl, rfl, rfl, rfl, rfl, rfl, rfl, rfl, rfl, rfl, rfl, rfl, rfl, rfl, rfl, rfl, rfl, rfl, rfl, rfl, rfl, rfl, rfl, trivial⟩ ?_
                  first | exact N.next (G := fun (q : Nat × Nat) => _) (i + 1, _) ⟨rfl, rfl, rfl, rfl, rfl, trivial⟩ ⟨by show i + 1 ≤ xs.length; omega, _, _, SF⟩ (by show xs.length - (i + 1) < xs.length - i; omega) | exact N.next (G := fun (q : Nat × Nat) => _) (i + 1, _) ⟨rfl, rfl, rfl, rfl, rfl, trivial⟩ ⟨by show i + 1 ≤ xs.length; omega, _, _, S8⟩ (by show xs.length - (i + 1) < xs.length - i; omega)
                · refine E.seq ?_
                  refine E.region ?_
                  refine X.mv rfl rfl rfl rfl rfl ?_
                  refine X.call rfl rfl rfl rfl rfl Try.cl19 (twin_ct p sv l H8 S8.mine.win) ?_
                  rintro _ H10 ⟨p10, sv10, rfl, hW10, hk10, hf10⟩
                  refine X.asg rfl rfl rfl rfl rfl ?_
                  refine X.done [(1, _), (4, _), (5, _), (6, _), (7, _), (26, _), (27, _), (28, _), (29, _), (30, _), (31, _), (32, _), (33, _), (36, _), (37, _), (38, _), (39, _), (8, _), (40, _), (41, _), (42, _), (43, _), (44, _), (45, _), (46, _), (47, _), (54, _), (53, _), (68, _), (67, _), (96, _), (95, _), (107, _), (106, _), (48, _), (49, _), (14, _)] ⟨rfl, rfl, rfl, rfl, rfl, rfl, rfl, rfl, rfl, rfl, rfl, rfl, rfl, rfl, rfl, rfl, rfl, rfl, rfl, rfl, rfl, rfl, rfl, rfl, rfl, rfl, rfl, rfl, rfl, rfl, rfl, rfl, rfl, rfl, rfl, rfl, rfl, trivial⟩ ?_
                  refine N.then ?_
                  refine E.seq ?_
                  refine E.region ?_
                  refine X.mv rfl rfl rfl rfl rfl ?_
                  refine X.call rfl rfl rfl rfl rfl Try.cl14 (put_ct p sv l H10 (S8.mine.win.keep hk10 (by simp)) [108, 101, 102, 116] S8.small (by decide)) ?_
                  rintro _ H11 ⟨rfl, sv11, hW11, hg11⟩
                  have hap : ∀ b ∈ p10 :: blk sv10, b ∉ p :: blk sv := fun b hb h => by have := hf10 b hb; have := S8.mine.win.lt b h; omega
                  have SF : St H H11 b22 p10 sv10 (trimL (lastS 32768 l)) := by
                    refine ⟨⟨hW10.keep hg11.1 hap, (S8.mine.kp.trans hk10 (by simp)).trans hg11.1 (fun b hb => .inr (S8.mine.new b hb)), fun b hb => Nat.le_trans S8.mine.kp.size (hf10 b hb)⟩, trimL_len _, ?_, fun h => by have := hf10 _ h; have := lt_of S8.rf; omega, S8.new⟩
                    have e32 : lst 32768 (trimL (lastS 32768 l)) = lst 32768 l := by
                      have e : min (32768 : Int).toNat 32768 = 32768 := by omega
                      rw [lst_trim (Nat.le_refl _), lastS, if_neg (by omega), e, lst_lst, Nat.min_self]
                    rw [e32]
                    exact hg11.1.keep (hk10.keep S8.rf (by simp)) S8.ne
                  refine X.done [(1, _), (4, _), (5, _), (6, _), (7, _), (26, _), (27, _), (28, _), (29, _), (30, _), (31, _), (32, _), (33, _), (36, _), (37, _), (38, _), (39, _), (8, _), (40, _), (41, _), (42, _), (43, _), (44, _), (45, _), (46, _), (47, _), (54, _), (53, _), (68, _), (67, _), (96, _), (95, _), (107, _), (106, _), (48, _), (49, _), (14, _), (50, _)] ⟨rfl, rfl, rfl, rfl, rfl, rfl, rfl, rfl, rfl, rfl, rfl, rfl, rfl, rfl, rfl, rfl, rfl, rfl, rfl, rfl, rfl, rfl, rfl, rfl, rfl, rfl, rfl, rfl, rfl, rfl, rfl, rfl, rfl, rfl, rfl, rfl, rfl, rfl, trivial⟩ ?_
                  refine N.then ?_
                  refine E.region ?_
                  refine X.mv rfl rfl rfl rfl rfl ?_
                  refine X.asg rfl rfl rfl rfl rfl ?_
                  refine X.done [(1, _), (4, _), (5, _), (6, _), (7, _), (26, _), (27, _), (28, _), (29, _), (30, _), (31, _), (32, _), (33, _), (36, _), (37, _), (38, _), (39, _), (8, _), (40, _), (41, _), (42, _), (43, _), (44, _), (45, _), (46, _), (47, _), (54, _), (53, _), (68, _), (67, _), (96, _), (95, _), (107, _), (106, _), (48, _), (49, _), (14, _), (50, _), (52, _)] ⟨rfl, rfl, rfl, rfl, rfl, rfl, rfl, rfl, rfl, rfl, rfl, rfl, rfl, rfl, rfl, rfl, rfl, rfl, rfl, rfl, rfl, rfl, rfl, rfl, rfl, rfl, rfl, rfl, rfl, rfl, rfl, rfl, rfl, rfl, rfl, rfl, rfl, rfl, rfl, trivial⟩ ?_
                  refine N.blk ?_
                  refine N.then ?_
                  refine E.seq ?_
                  refine E.regionD (fun H' => Rf H' b22 (lst 32768 _)) [(0, .pu), (1, .pu), (2, .pu), (3, .pu), (5, .pu), (6, .pu), (7, .pu), (8, .st), (9, .pu), (4, .mk), (10, .pu), (11, .pu), (12, .pu), (13, .pu), (15, .pu), (16, .pu), (17, .pu), (18, .st), (14, .mk), (19, .pu), (20, .pu)] Try.mixed (by kernel_rfl) (SF.rf) ?_
                  refine X.mv rfl rfl rfl rfl rfl ?_
                  refine X.eqlP1 rfl rfl rfl rfl rfl rfl Try.underlying23 ?_
                  refine X.mv rfl rfl rfl rfl rfl ?_
                  refine X.mv rfl rfl rfl rfl rfl ?_
                  refine X.mv rfl rfl rfl rfl rfl ?_
                  refine X.nilP rfl rfl rfl rfl rfl ?_
                  refine X.fld rfl rfl rfl rfl rfl Try.off38_0 ?_
                  refine X.ld rfl rfl rfl rfl Try.ag9 (fun H' hF => hF) (rfl) ?_
                  refine X.lenL rfl rfl rfl rfl rfl Try.underlying9 ?_
                  refine X.call rfl rfl rfl rfl rfl Try.cl12 (len_ct _ _ _ _ SF.mine.win) ?_
                  rintro _ H20 ⟨rfl, eH20⟩
                  obtain rfl := eH20.symm
                  refine ⟨SF.rf, ?_⟩
                  refine X.neqF rfl rfl rfl rfl rfl rfl (fun h => h (len_eq _)) ?_
                  refine X.pickF rfl rfl rfl rfl rfl rfl ?_
                  refine X.mv rfl rfl rfl rfl rfl ?_
                  refine X.mv rfl rfl rfl rfl rfl ?_
                  refine X.mv rfl rfl rfl rfl rfl ?_
                  refine X.nilP rfl rfl rfl rfl rfl ?_
                  refine X.fld rfl rfl rfl rfl rfl Try.off38_0 ?_
                  refine X.ld rfl rfl rfl rfl Try.ag9 (fun H' hF => hF) (rfl) ?_
                  refine X.call rfl rfl rfl rfl rfl Try.cl11 (last_ct _ _ _ _ SF.mine.win 40000) ?_
                  rintro _ H21 ⟨rfl, eH21⟩
                  obtain rfl := eH21.symm
                  refine ⟨SF.rf, ?_⟩
                  refine X.neqSF rfl rfl rfl rfl rfl rfl (last_big _) ?_
                  refine X.pickF rfl rfl rfl rfl rfl rfl ?_
                  refine X.done [(1, _), (4, _), (5, _), (6, _), (7, _), (26, _), (27, _), (28, _), (29, _), (30, _), (31, _), (32, _), (33, _), (36, _), (37, _), (38, _), (39, _), (8, _), (40, _), (41, _), (42, _), (43, _), (44, _), (45, _), (46, _), (47, _), (54, _), (53, _), (68, _), (67, _), (96, _), (95, _), (107, _), (106, _), (48, _), (49, _), (14, _), (50, _), (52, _), (113, _), (114, _), (115, _), (116, _), (118, _), (119, _), (120, _), (121, _), (122, _), (117, _), (123, _), (124, _), (125, _), (126, _), (128, _), (129, _), (130, _), (131, _), (127, _), (132, _), (133, _)] ⟨rfl, rfl, rfl, rfl, rfl, rfl, rfl, rfl, rfl, rfl, rfl, rfl, rfl, rfl, rfl, rfl, rfl, rfl, rfl, rfl, rfl, rfl, rfl, rfl, rfl, rfl, rfl, rfl, rfl, rfl, rfl, rfl, rfl, rfl, rfl, rfl, rfl, rfl, rfl, rfl, rfl, rfl, rfl, rfl, rfl, rfl, rfl, rfl, rfl, rfl, rfl, rfl, rfl, rfl, rfl, rfl, rfl, rfl, rfl, rfl, trivial⟩ ?_
                  refine N.then ?_
                  refine E.condF rfl ?_
                  refine E.skip ?_
                  refine N.blk ?_
                  refine N.then ?_
                  refine E.region ?_
                  refine X.mv rfl rfl rfl rfl rfl ?_
                  refine X.add rfl rfl rfl rfl rfl rfl (by omega) ?_
                  refine X.asg rfl rfl rfl rfl rfl ?_
                  refine X.done [(1, _), (4, _), (5, _), (6, _), (7, _), (26, _), (27, _), (28, _), (29, _), (30, _), (31, _), (32, _), (33, _), (36, _), (37, _), (38, _), (39, _), (8, _), (40, _), (41, _), (42, _), (43, _), (44, _), (45, _), (46, _), (47, _), (54, _), (53, _), (68, _), (67, _), (96, _), (95, _), (107, _), (106, _), (48, _), (49, _), (14, _), (50, _), (52, _), (113, _), (114, _), (115, _), (116, _), (118, _), (119, _), (120, _), (121, _), (122, _), (117, _), (123, _), (124, _), (125, _), (126, _), (128, _), (129, _), (130, _), (131, _), (127, _), (132, _), (133, _), (34, _), (35, _)] ⟨rfl, rfl, rfl, rfl, rfl, rfl, rfl, rfl, rfl, rfl, rfl, rfl, rfl, rfl, rfl, rfl, rfl, rfl, rfl, rfl, rfl, rfl, rfl, rfl, rfl, rfl, rfl, rfl, rfl, rfl, rfl, rfl, rfl, rfl, rfl, rfl, rfl, rfl, rfl, rfl, rfl, rfl, rfl, rfl, rfl, rfl, rfl, rfl, rfl, rfl, rfl, rfl, rfl, rfl, rfl, rfl, rfl, rfl, rfl, rfl, rfl, rfl, trivial⟩ ?_
                  first | exact N.next (G := fun (q : Nat × Nat) => _) (i + 1, _) ⟨rfl, rfl, rfl, rfl, rfl, trivial⟩ ⟨by show i + 1 ≤ xs.length; omega, _, _, SF⟩ (by show xs.length - (i + 1) < xs.length - i; omega) | exact N.next (G := fun (q : Nat × Nat) => _) (i + 1, _) ⟨rfl, rfl, rfl, rfl, rfl, trivial⟩ ⟨by show i + 1 ≤ xs.length; omega, _, _, S8⟩ (by show xs.length - (i + 1) < xs.length - i; omega)
      · refine E.exit ?_
        refine N.thenX ?_
        refine N.loopX ?_
        refine N.blkX ?_
        refine N.then ?_
        refine E.seq ?_
        refine E.region ?_
        refine X.call rfl rfl rfl rfl rfl Try.cl7 (known_ct H3) ?_
        rintro _ HK ⟨rfl, hkK⟩
        refine X.asg rfl rfl rfl rfl rfl ?_
        refine X.done [(4, _)] ⟨rfl, trivial⟩ ?_
        refine N.then ?_
        refine E.ret ?_
        exact N.retH [_] ⟨_, _, rfl, rfl, rfl⟩ ⟨rfl, S3.mine.kp.trans hkK (by simp)⟩
    · refine X.mv rfl rfl rfl rfl rfl ?_
      refine X.skip rfl rfl rfl ?_
      refine X.skip rfl rfl rfl ?_
      refine X.pickF rfl rfl rfl rfl rfl rfl ?_
      refine X.done [(1, _), (4, _), (5, _), (6, _), (7, _), (26, _), (27, _), (28, _), (29, _), (30, _), (31, _), (32, _), (33, _)] ⟨rfl, rfl, rfl, rfl, rfl, rfl, rfl, rfl, rfl, rfl, rfl, rfl, rfl, trivial⟩ ?_
      refine N.then ?_
      refine E.condF rfl ?_
      refine E.exit ?_
      refine N.thenX ?_
      refine N.loopX ?_
      refine N.blkX ?_
      refine N.then ?_
      refine E.seq ?_
      refine E.region ?_
      refine X.call rfl rfl rfl rfl rfl Try.cl7 (known_ct H3) ?_
      rintro _ HK ⟨rfl, hkK⟩
      refine X.asg rfl rfl rfl rfl rfl ?_
      refine X.done [(4, _)] ⟨rfl, trivial⟩ ?_
      refine N.then ?_
      refine E.ret ?_
      exact N.retH [_] ⟨_, _, rfl, rfl, rfl⟩ ⟨rfl, S3.mine.kp.trans hkK (by simp)⟩

end Go.Proofs.Ytebanilfapapbaa