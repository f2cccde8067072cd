/- The law of what is written and read back. -/
import Derived.Test.YtpengkmmgpoofaaW7
namespace Go.Proofs.Ytpengkmmgpoofaa
open Go.SX Go.Bit
attribute [local irreducible] X E N Ct digs
set_option linter.unusedVariables false

def GoodA (t : OpA) (v n : Nat) : Prop := t.v = v ∧ t.n = n ∧ n ≤ 32 ∧ v < 2 ^ n ∧ (t.k = 0 ∨ t.k = 1)
def ev (t : OpA) : Nat := if t.k = 1 then turn t.v.toNat t.n.toNat else t.v.toNat
def offs (ts : List OpA) (j : Nat) : Nat := ((ts.take j).map fun t => t.n.toNat).sum
structure Dec (x len : Nat) (ts : List OpA) : Prop where
  all : offs ts ts.length = len
  each : ∀ (j : Nat) (t : OpA), ts[j]? = some t → (∃ v n, GoodA t v n) ∧ pk x (offs ts j) t.n.toNat = ev t ∧ offs ts j + t.n.toNat ≤ len
theorem offs_app (ts : List OpA) (t : OpA) (j : Nat) (h : j ≤ ts.length) : offs (ts ++ [t]) j = offs ts j := by
  unfold offs; rw [List.take_append_of_le_length h]
theorem offs_succ {ts : List OpA} {j : Nat} {t : OpA} (h : ts[j]? = some t) : offs ts (j + 1) = offs ts j + t.n.toNat := by
  unfold offs; rw [List.take_add_one, h]; simp
theorem pk_put_old {x len v a m : Nat} (hx : x < 2 ^ len) (h : a + m ≤ len) : pk (put x len v) a m = pk x a m := by
  rw [← pk_mod h]; unfold put; rw [Nat.add_mul_mod_self_left, Nat.mod_eq_of_lt hx]
theorem pk_put_new {x len v m : Nat} (hx : x < 2 ^ len) (hv : v < 2 ^ m) : pk (put x len v) len m = v := by
  unfold pk put; rw [Nat.add_mul_div_left _ _ (Nat.two_pow_pos _), Nat.div_eq_of_lt hx, Nat.zero_add, Nat.mod_eq_of_lt hv]
theorem ev_lt {t : OpA} {v n : Nat} (h : GoodA t v n) : ev t < 2 ^ n := by
  obtain ⟨h1, h2, _, h4, _⟩ := h
  unfold ev; rw [h1, h2]; split
  · exact turn_lt _ _
  · exact h4
theorem Dec.nil : Dec 0 0 [] := ⟨rfl, fun j t h => by simp at h⟩
theorem Dec.snoc {x len : Nat} {ts : List OpA} {t : OpA} {v n : Nat} (h : Dec x len ts) (hx : x < 2 ^ len) (hg : GoodA t v n) : Dec (put x len (ev t)) (len + t.n.toNat) (ts ++ [t]) := by
  have hn : t.n.toNat = n := by rw [hg.2.1]; rfl
  refine ⟨?_, fun j u hu => ?_⟩
  · rw [List.length_append, show ts.length + [t].length = ts.length + 1 from rfl, offs_succ (t := t) (by rw [List.getElem?_append_right (Nat.le_refl _)]; simp), offs_app _ _ _ (Nat.le_refl _), h.all]
  · by_cases hj : j < ts.length
    · rw [List.getElem?_append_left hj] at hu
      obtain ⟨h1, h2, h3⟩ := h.each j u hu
      rw [offs_app _ _ _ (by omega)]
      exact ⟨h1, by rw [pk_put_old hx h3, h2], by omega⟩
    · have hj' : j = ts.length := by
        have := (List.getElem?_eq_some_iff.1 hu).1
        simp at this; omega
      subst hj'
      rw [List.getElem?_append_right (Nat.le_refl _)] at hu
      simp at hu
      subst hu
      rw [offs_app _ _ _ (Nat.le_refl _), h.all]
      exact ⟨⟨v, n, hg⟩, pk_put_new hx (by rw [hn]; exact ev_lt hg), Nat.le_refl _⟩
theorem putV_cases (x L : Nat) (y : OpA) (hk : y.k = 0) : ((putV x L y.v y.n).1 = 0 → (∃ v n, GoodA y v n) ∧ (putV x L y.v y.n).2.1 = put x L (ev y) ∧ (putV x L y.v y.n).2.2 = L + y.n.toNat) ∧ ((putV x L y.v y.n).1 ≠ 0 → (putV x L y.v y.n).2.1 = x ∧ (putV x L y.v y.n).2.2 = L) := by
  unfold putV
  by_cases h : y.n < 0 ∨ 32 < y.n ∨ y.v < 0 ∨ 2 ^ y.n.toNat ≤ y.v.toNat
  · rw [if_pos h]; exact ⟨fun h => (by cases h), fun _ => ⟨rfl, rfl⟩⟩
  · rw [if_neg h]
    have h2 : ¬ 2 ^ y.n.toNat ≤ y.v.toNat := fun hh => h (.inr (.inr (.inr hh)))
    have h1 : ¬ (y.n < 0 ∨ 32 < y.n ∨ y.v < 0) := fun hh => h (by rcases hh with hh | hh | hh; exact .inl hh; exact .inr (.inl hh); exact .inr (.inr (.inl hh)))
    refine ⟨fun _ => ⟨⟨y.v.toNat, y.n.toNat, by omega, by omega, by omega, Nat.lt_of_not_le h2, .inl hk⟩, ?_, rfl⟩, fun h => absurd rfl h⟩
    unfold ev; rw [if_neg (by omega)]
theorem codeV_cases (x L : Nat) (y : OpA) (hk : y.k = 1) : ((codeV x L y.v y.n).1 = 0 → (∃ v n, GoodA y v n) ∧ (codeV x L y.v y.n).2.1 = put x L (ev y) ∧ (codeV x L y.v y.n).2.2 = L + y.n.toNat) ∧ ((codeV x L y.v y.n).1 ≠ 0 → (codeV x L y.v y.n).2.1 = x ∧ (codeV x L y.v y.n).2.2 = L) := by
  unfold codeV
  by_cases h : y.n < 0 ∨ 32 < y.n ∨ y.v < 0 ∨ 2 ^ y.n.toNat ≤ y.v.toNat
  · rw [if_pos h]; exact ⟨fun h => (by cases h), fun _ => ⟨rfl, rfl⟩⟩
  · rw [if_neg h]
    have h2 : ¬ 2 ^ y.n.toNat ≤ y.v.toNat := fun hh => h (.inr (.inr (.inr hh)))
    have h1 : ¬ (y.n < 0 ∨ 32 < y.n ∨ y.v < 0) := fun hh => h (by rcases hh with hh | hh | hh; exact .inl hh; exact .inr (.inl hh); exact .inr (.inr (.inl hh)))
    refine ⟨fun _ => ⟨⟨y.v.toNat, y.n.toNat, by omega, by omega, by omega, Nat.lt_of_not_le h2, .inr hk⟩, ?_, rfl⟩, fun h => absurd rfl h⟩
    unfold ev; rw [if_pos hk]
theorem TA : AppT Try.prog 26 26 31 4 40 (.agg ([i64 0, i64 0, i64 0, str []] : List Value).toArray) := ⟨Try.underlying26, by kernel_rfl, rfl, by decide⟩
structure BK (H0 H : Heap) (p : Nat) (sv : Value) (x L : Nat) (tv : Value) (ts : List OpA) : Prop where
  wm : WM H0 H p sv x L
  own : Own H 31 4 tv ts.length (ts.flatMap opa)
  sep : ∀ b ∈ blk tv, b ∉ p :: blk sv
  new : ∀ b ∈ blk tv, H0.size ≤ b
  dec : Dec x L ts
theorem BK.write {H0 A B : Heap} {p : Nat} {sv : Value} {x L : Nat} {tv : Value} {ts : List OpA} {sv' : Value} {x2 L2 : Nat} (h : BK H0 A p sv x L tv ts) (h1 : Wr B p sv' x2 L2) (g1 : Chg p sv A B sv') :
    WM H0 B p sv' x2 L2 ∧ Own B 31 4 tv ts.length (ts.flatMap opa) ∧ ∀ b ∈ blk tv, b ∉ p :: blk sv' := by
  refine ⟨h.wm.step h1 g1, h.own.keep g1.1 h.sep, fun b hb hp => ?_⟩
  rcases List.mem_cons.1 hp with rfl | hp
  · exact h.sep _ hb (by simp)
  · rcases g1.2 b hp with h3 | h3
    · exact h.sep b hb (by simp [h3])
    · have := h.own.lt b hb; omega

theorem offs_mono (ts : List OpA) {j k : Nat} (h : j ≤ k) : offs ts j ≤ offs ts k := by
  induction k with
  | zero => have : j = 0 := by omega
            subst this; exact Nat.le_refl _
  | succ k ih =>
    by_cases hj : j = k + 1
    · subst hj; exact Nat.le_refl _
    · have := ih (by omega)
      have h2 : offs ts k ≤ offs ts (k + 1) := by
        unfold offs; rw [List.take_add_one]; simp
      omega

theorem back_ct (a : Option Addr) (c : Nat) (xs : List OpA) (H : Heap) (hS : Rd H 4 (.slice a xs.length c) xs.length (xs.flatMap opa)) (hcx : xs.length ≤ c ∧ c ≤ maxLen) : Ct Try.prog 4 #[.slice a xs.length c] H fun v H' => v = .bool true ∧ Kp [] H H' := by
  have hcm := hcx.2
  simp only [maxLen] at hcm
  refine Ct.into 154 Try.func4 rfl [(0, .slice a xs.length c)] rfl ⟨rfl, trivial⟩ ?_
  refine E.seq ?_
  refine E.region ?_
  refine X.asg rfl rfl rfl rfl rfl ?_
  refine X.done [(0, _), (2, _)] ⟨rfl, rfl, trivial⟩ ?_
  refine N.then ?_
  refine E.seq ?_
  refine E.region ?_
  refine X.call rfl rfl rfl rfl rfl Try.cl12 (open_ct H) ?_
  rintro _ H1 ⟨p, rfl, hp1, hW1, hk1⟩
  have S1 : BK H H1 p (.slice none 0 0) 0 0 (.slice none 0 0) [] := ⟨⟨hW1, hk1, by simp [blk]; exact hp1⟩, Own.nil _ _ _, by simp [blk], by simp [blk], Dec.nil⟩
  refine X.asg rfl rfl rfl rfl rfl ?_
  refine X.done [(0, _), (2, _), (3, _)] ⟨rfl, rfl, rfl, trivial⟩ ?_
  refine N.then ?_
  refine E.seq ?_
  refine E.seq ?_
  refine E.region ?_
  refine X.mv rfl rfl rfl rfl rfl ?_
  refine X.eqlP1 rfl rfl rfl rfl rfl rfl Try.underlying27 ?_
  refine X.done [(0, _), (2, _), (3, _), (17, _)] ⟨rfl, rfl, rfl, rfl, trivial⟩ ?_
  refine N.then ?_
  refine E.condF rfl ?_
  refine E.skip ?_
  refine N.then ?_
  refine E.seq ?_
  refine E.region ?_
  refine X.asg rfl rfl rfl rfl rfl ?_
  refine X.done [(0, _), (2, _), (3, _), (4, _)] ⟨rfl, rfl, rfl, rfl, trivial⟩ ?_
  refine N.then ?_
  refine E.seq ?_
  refine E.seq ?_
  refine E.region ?_
  refine X.asg rfl rfl rfl rfl rfl ?_
  refine X.done [(0, _), (2, _), (3, _), (4, _), (5, _)] ⟨rfl, rfl, rfl, rfl, rfl, trivial⟩ ?_
  refine N.then ?_
  refine E.block ?_
  refine E.loop (fun (q : Nat × Value × Nat) => [(0, .slice a xs.length c), (2, .bool false), (3, ptr p), (4, .slice (match q.2.1 with | .slice a _ _ => a | _ => none) q.2.2 (match q.2.1 with | .slice _ _ c => c | _ => 0)), (5, i64 q.1)]) (fun (q : Nat × Value × Nat) H' => q.1 ≤ xs.length ∧ q.1 ≤ 80 ∧ ∃ sv x L ts, BK H H' p sv x L q.2.1 ts ∧ q.2.2 = ts.length ∧ L ≤ 32 * q.1 ∧ ts.length ≤ q.1) (fun (q : Nat × Value × Nat) => xs.length - q.1) (0, .slice none 0 0, 0) ⟨rfl, rfl, rfl, rfl, rfl, trivial⟩ ⟨Nat.zero_le _, by show 0 ≤ 80; omega, _, _, _, _, S1, rfl, by show 0 ≤ 32 * 0; omega, Nat.le_refl _⟩ ?_
  rintro ⟨i, tv, tn⟩ H3 hJ
  dsimp only at hJ
  obtain ⟨hi, hi80, sv, x, L, ts, S3, rfl, hL, htl⟩ := hJ
  obtain ⟨ta, tc, rfl⟩ := S3.own.len
  dsimp only
  refine E.seq ?_
  refine E.seq ?_
  refine E.region ?_
  refine X.mv rfl rfl rfl rfl rfl ?_
  refine X.mv rfl rfl rfl rfl rfl ?_
  refine X.lenS rfl rfl rfl rfl rfl Try.underlying26 ?_
  refine X.lssC rfl rfl rfl rfl rfl rfl (fun hc => ?_) (fun hc => ?_)
  · refine X.mv rfl rfl rfl rfl rfl ?_
    refine X.mv rfl rfl rfl rfl rfl ?_
    refine X.lss rfl rfl rfl rfl rfl rfl ?_
    refine X.pickT rfl rfl rfl rfl rfl rfl ?_
    refine X.done [(0, _), (2, _), (3, _), (4, _), (5, _), (18, _), (19, _), (20, _), (21, _), (22, _), (23, _), (24, _), (25, _)] ⟨rfl, rfl, rfl, rfl, rfl, rfl, rfl, rfl, rfl, rfl, rfl, rfl, rfl, trivial⟩ ?_
    refine N.then ?_
    refine E.condD rfl (fun hc => ?_) (fun hc => ?_)
    · refine E.skip ?_
      refine N.then ?_
      refine E.seq ?_
      refine E.block ?_
      refine E.seq ?_
      refine E.region ?_
      refine X.asg rfl rfl rfl rfl rfl ?_
      refine X.done [(0, _), (2, _), (3, _), (4, _), (5, _), (18, _), (19, _), (20, _), (21, _), (22, _), (23, _), (24, _), (25, _), (6, _)] ⟨rfl, rfl, rfl, rfl, rfl, rfl, rfl, rfl, rfl, rfl, rfl, rfl, rfl, rfl, trivial⟩ ?_
      refine N.then ?_
      refine E.seq ?_
      refine E.seq ?_
      obtain ⟨y, hy⟩ : ∃ y, xs[i]? = some y := ⟨_, List.getElem?_eq_getElem (by omega)⟩
      obtain ⟨bb, oo, cc, cs, ct, fz, hv, hbb, hel⟩ := (hS.keep S3.wm.kp (by simp)).get opa_len hy (by decide)
      obtain ⟨rfl, _, rfl⟩ := Value.slice.inj hv
      have hk0 := hel 0 _ rfl
      have hk1 := hel 1 _ rfl
      have hk2 := hel 2 _ rfl
      refine E.region ?_
      refine X.mv rfl rfl rfl rfl rfl ?_
      refine X.mv rfl rfl rfl rfl rfl ?_
      refine X.ixA rfl rfl rfl rfl rfl rfl Try.underlying26 Try.sz31 (by omega) ?_
      refine X.fld rfl rfl rfl rfl rfl Try.off31_0 ?_
      refine X.ld rfl rfl rfl rfl Try.ag3 (hbb) (hk0) ?_
      refine X.eql rfl rfl rfl rfl rfl rfl ?_
      refine X.done [(0, _), (2, _), (3, _), (4, _), (5, _), (18, _), (19, _), (20, _), (21, _), (22, _), (23, _), (24, _), (25, _), (6, _), (28, _), (29, _), (30, _), (31, _), (32, _), (33, _)] ⟨rfl, rfl, rfl, rfl, rfl, rfl, rfl, rfl, rfl, rfl, rfl, rfl, rfl, rfl, rfl, rfl, rfl, rfl, rfl, rfl, trivial⟩ ?_
      refine N.then ?_
      refine E.condD rfl (fun hc => ?_) (fun hc => ?_)
      · refine E.regionD (fun H' => H'[bb]? = some (.cells cs.toArray ct fz)) [(0, .pu), (1, .pu), (2, .pu), (3, .pu), (4, .pu), (5, .st), (6, .pu), (7, .pu), (8, .pu), (9, .pu), (10, .st), (11, .mv), (12, .pu)] Try.mixed (by kernel_rfl) (hbb) ?_
        refine X.mv rfl rfl rfl rfl rfl ?_
        refine X.mv rfl rfl rfl rfl rfl ?_
        refine X.mv rfl rfl rfl rfl rfl ?_
        refine X.ixA rfl rfl rfl rfl rfl rfl Try.underlying26 Try.sz31 (by omega) ?_
        refine X.fld rfl rfl rfl rfl rfl Try.off31_1 ?_
        refine X.ld rfl rfl rfl rfl Try.ag3 (fun H' hF => hF) (hk1) ?_
        refine X.mv rfl rfl rfl rfl rfl ?_
        refine X.mv rfl rfl rfl rfl rfl ?_
        refine X.ixA rfl rfl rfl rfl rfl rfl Try.underlying26 Try.sz31 (by omega) ?_
        refine X.fld rfl rfl rfl rfl rfl Try.off31_2 ?_
        refine X.ld rfl rfl rfl rfl Try.ag3 (fun H' hF => hF) (hk2) ?_
        refine X.call rfl rfl rfl rfl rfl Try.cl13 (put_all p sv x L H3 S3.wm.wr (by omega) y.v y.n) ?_
        rintro _ H5 ⟨rfl, sv5, hW5, hg5⟩
        obtain ⟨M5, ho5, hs5⟩ := S3.write hW5 hg5
        have hst := putV_cases x L y (by omega)
        have hL5 := putV_lt x L y.v y.n
        obtain ⟨bb5, oo5, cc5, cs5, ct5, fz5, hv5, hbb5, hel5⟩ := (hS.keep M5.kp (by simp)).get opa_len hy (by decide)
        obtain ⟨e15, _, _⟩ := Value.slice.inj hv5
        obtain ⟨rfl, rfl, _⟩ := Addr.mk.inj (Option.some.inj e15)
        have hk05 := hel5 0 _ rfl
        refine X.asg rfl rfl rfl rfl rfl ?_
        refine X.done [(0, _), (2, _), (3, _), (4, _), (5, _), (18, _), (19, _), (20, _), (21, _), (22, _), (23, _), (24, _), (25, _), (6, _), (28, _), (29, _), (30, _), (31, _), (32, _), (33, _), (34, _), (35, _), (36, _), (37, _), (38, _), (39, _), (40, _), (41, _), (42, _), (43, _), (44, _), (45, _)] ⟨rfl, rfl, rfl, rfl, rfl, rfl, rfl, rfl, rfl, rfl, rfl, rfl, rfl, rfl, rfl, rfl, rfl, rfl, rfl, rfl, rfl, rfl, rfl, rfl, rfl, rfl, rfl, rfl, rfl, rfl, rfl, rfl, trivial⟩ ?_
        refine N.then ?_
        refine E.seq ?_
        refine E.seq ?_
        refine E.region ?_
        refine X.mv rfl rfl rfl rfl rfl ?_
        refine X.mv rfl rfl rfl rfl rfl ?_
        refine X.ixA rfl rfl rfl rfl rfl rfl Try.underlying26 Try.sz31 (by omega) ?_
        refine X.fld rfl rfl rfl rfl rfl Try.off31_0 ?_
        refine X.ld rfl rfl rfl rfl Try.ag3 (by first | exact hbb5 | exact hbb) (by first | exact hk05 | exact hk0) ?_
        refine X.eqlF rfl rfl rfl rfl rfl rfl (by omega) ?_
        refine X.done [(0, _), (2, _), (3, _), (4, _), (5, _), (18, _), (19, _), (20, _), (21, _), (22, _), (23, _), (24, _), (25, _), (6, _), (28, _), (29, _), (30, _), (31, _), (32, _), (33, _), (34, _), (35, _), (36, _), (37, _), (38, _), (39, _), (40, _), (41, _), (42, _), (43, _), (44, _), (45, _), (46, _), (47, _), (48, _), (49, _), (50, _), (51, _)] ⟨rfl, rfl, rfl, rfl, rfl, rfl, rfl, rfl, rfl, rfl, rfl, rfl, rfl, rfl, rfl, rfl, rfl, rfl, rfl, rfl, rfl, rfl, rfl, rfl, rfl, rfl, rfl, rfl, rfl, rfl, rfl, rfl, rfl, rfl, rfl, rfl, rfl, rfl, trivial⟩ ?_
        refine N.then ?_
        refine E.condF rfl ?_
        refine E.skip ?_
        refine N.then ?_
        refine E.seq ?_
        refine E.region ?_
        refine X.mv rfl rfl rfl rfl rfl ?_
        refine X.eql rfl rfl rfl rfl rfl rfl ?_
        refine X.done [(0, _), (2, _), (3, _), (4, _), (5, _), (18, _), (19, _), (20, _), (21, _), (22, _), (23, _), (24, _), (25, _), (6, _), (28, _), (29, _), (30, _), (31, _), (32, _), (33, _), (34, _), (35, _), (36, _), (37, _), (38, _), (39, _), (40, _), (41, _), (42, _), (43, _), (44, _), (45, _), (46, _), (47, _), (48, _), (49, _), (50, _), (51, _), (64, _), (65, _)] ⟨rfl, rfl, rfl, rfl, rfl, rfl, rfl, rfl, rfl, rfl, rfl, rfl, rfl, rfl, rfl, rfl, rfl, rfl, rfl, rfl, rfl, rfl, rfl, rfl, rfl, rfl, rfl, rfl, rfl, rfl, rfl, rfl, rfl, rfl, rfl, rfl, rfl, rfl, rfl, rfl, trivial⟩ ?_
        refine N.then ?_
        refine E.condD rfl (fun hc => ?_) (fun hc => ?_)
        · obtain ⟨⟨gv, gn, hgd⟩, hX2, hL2⟩ := hst.1 hc
          obtain ⟨bb2, oo2, cc2, cs2, ct2, fz2, hv2, hbb2, hel2⟩ := (hS.keep M5.kp (by simp)).get opa_len hy (by decide)
          obtain ⟨e1, _, _⟩ := Value.slice.inj hv2
          obtain ⟨rfl, rfl, _⟩ := Addr.mk.inj (Option.some.inj e1)
          refine E.region ?_
          refine X.mv rfl rfl rfl rfl rfl ?_
          refine X.mv rfl rfl rfl rfl rfl ?_
          refine X.mv rfl rfl rfl rfl rfl ?_
          refine X.ixA rfl rfl rfl rfl rfl rfl Try.underlying26 Try.sz31 (by omega) ?_
          refine X.ldA rfl rfl rfl rfl Try.ag31 Try.sz31 (hbb2) (vs := opa y) rfl (fun j v hj => hel2 j v hj) ?_
          refine X.lit (e := 31) (cs := opa y) rfl rfl rfl rfl rfl (fun _ => by kernel_rfl) ?_
          intro b6 H6 hn6 hb6 hk6
          refine X.app TA rfl rfl rfl rfl rfl rfl (ho5.keep hk6 (by simp)) (.inl ⟨rfl, _, _, rfl, .inr ⟨b6, 0, _, _, _, rfl, hb6, fun j u hj => by rw [Nat.zero_add]; exact hj⟩⟩) (.inl ⟨31, Try.underlying26, _, _, rfl⟩) (by simp [opa, Value.oneCell']) (by first | (simp only [maxLen]; omega) | omega) (by first | (simp only [maxLen]; omega) | omega) ?_
          intro v7 H7 ho7 hk7 hb7 hn7
          obtain ⟨ta7, tc7, rfl⟩ := ho7.len
          have S7 : BK H H7 p sv5 (put x L (ev y)) (L + y.n.toNat) (.slice ta7 (ts.length + 1) tc7) (ts ++ [y]) := by
            have hM6 := M5.keep hk6 (by simp) (by simp)
            refine ⟨?_, ?_, ?_, ?_, S3.dec.snoc S3.wm.wr.lt hgd⟩
            · rw [← hX2, ← hL2]; exact hM6.keep hk7 (fun b hb hb2 => hs5 b hb2 hb) S3.new
            · rw [List.length_append, List.flatMap_append]; simpa using ho7
            · intro b hb hp
              rcases hb7 with h | h
              · exact hs5 b (h ▸ hb) hp
              · have := hM6.wr.blks b hp; have := h b hb; omega
            · intro b hb
              rcases hb7 with h | h
              · exact S3.new b (h ▸ hb)
              · exact Nat.le_trans hM6.kp.size (h b hb)
          have hL7 : L + y.n.toNat ≤ L + 32 := by rw [← hL2]; exact hL5
          refine X.asg rfl rfl rfl rfl rfl ?_
          refine X.done [(0, _), (2, _), (3, _), (4, _), (5, _), (18, _), (19, _), (20, _), (21, _), (22, _), (23, _), (24, _), (25, _), (6, _), (28, _), (29, _), (30, _), (31, _), (32, _), (33, _), (34, _), (35, _), (36, _), (37, _), (38, _), (39, _), (40, _), (41, _), (42, _), (43, _), (44, _), (45, _), (46, _), (47, _), (48, _), (49, _), (50, _), (51, _), (64, _), (65, _), (66, _), (67, _), (68, _), (69, _), (70, _), (71, _), (72, _)] ⟨rfl, rfl, rfl, rfl, rfl, rfl, rfl, rfl, rfl, rfl, rfl, rfl, rfl, rfl, rfl, rfl, rfl, rfl, rfl, rfl, rfl, rfl, rfl, rfl, rfl, rfl, rfl, rfl, rfl, rfl, rfl, rfl, rfl, rfl, rfl, rfl, rfl, rfl, rfl, rfl, rfl, rfl, rfl, rfl, rfl, rfl, rfl, trivial⟩ ?_
          refine N.blk ?_
          refine N.then ?_
          refine E.region ?_
          refine X.mv rfl rfl rfl rfl rfl ?_
          refine X.add rfl rfl rfl rfl rfl rfl (by omega) ?_
          refine X.asg rfl rfl rfl rfl rfl ?_
          refine X.done [(0, _), (2, _), (3, _), (4, _), (5, _), (18, _), (19, _), (20, _), (21, _), (22, _), (23, _), (24, _), (25, _), (6, _), (28, _), (29, _), (30, _), (31, _), (32, _), (33, _), (34, _), (35, _), (36, _), (37, _), (38, _), (39, _), (40, _), (41, _), (42, _), (43, _), (44, _), (45, _), (46, _), (47, _), (48, _), (49, _), (50, _), (51, _), (64, _), (65, _), (66, _), (67, _), (68, _), (69, _), (70, _), (71, _), (72, _), (26, _), (27, _)] ⟨rfl, rfl, rfl, rfl, rfl, rfl, rfl, rfl, rfl, rfl, rfl, rfl, rfl, rfl, rfl, rfl, rfl, rfl, rfl, rfl, rfl, rfl, rfl, rfl, rfl, rfl, rfl, rfl, rfl, rfl, rfl, rfl, rfl, rfl, rfl, rfl, rfl, rfl, rfl, rfl, rfl, rfl, rfl, rfl, rfl, rfl, rfl, rfl, rfl, trivial⟩ ?_
          first
            | exact N.next (G := fun (q : Nat × Value × Nat) => _) (i + 1, .slice ta7 (ts.length + 1) tc7, ts.length + 1) ⟨rfl, rfl, rfl, rfl, rfl, trivial⟩ ⟨by show i + 1 ≤ xs.length; omega, by show i + 1 ≤ 80; omega, _, _, _, _, S7, by simp, by show _ ≤ 32 * (i + 1); omega, by show _ ≤ i + 1; simp; omega⟩ (by show xs.length - (i + 1) < xs.length - i; omega)
            | exact N.next (G := fun (q : Nat × Value × Nat) => _) (i + 1, .slice ta ts.length tc, ts.length) ⟨rfl, rfl, rfl, rfl, rfl, trivial⟩ ⟨by show i + 1 ≤ xs.length; omega, by show i + 1 ≤ 80; omega, _, _, _, _, (⟨(by have h9 := M5; rw [(hst.2 hc).1, (hst.2 hc).2] at h9; exact h9), ho5, hs5, S3.new, S3.dec⟩ : BK H H5 p sv5 x L (.slice ta ts.length tc) ts), rfl, by show _ ≤ 32 * (i + 1); omega, by show _ ≤ i + 1; omega⟩ (by show xs.length - (i + 1) < xs.length - i; omega)
            | exact N.next (G := fun (q : Nat × Value × Nat) => _) (i + 1, .slice ta ts.length tc, ts.length) ⟨rfl, rfl, rfl, rfl, rfl, trivial⟩ ⟨by show i + 1 ≤ xs.length; omega, by show i + 1 ≤ 80; omega, _, _, _, _, S3, rfl, by show _ ≤ 32 * (i + 1); omega, by show _ ≤ i + 1; omega⟩ (by show xs.length - (i + 1) < xs.length - i; omega)
        · refine E.skip ?_
          refine N.blk ?_
          refine N.then ?_
          refine E.region ?_
          refine X.mv rfl rfl rfl rfl rfl ?_
          refine X.add rfl rfl rfl rfl rfl rfl (by omega) ?_
          refine X.asg rfl rfl rfl rfl rfl ?_
          refine X.done [(0, _), (2, _), (3, _), (4, _), (5, _), (18, _), (19, _), (20, _), (21, _), (22, _), (23, _), (24, _), (25, _), (6, _), (28, _), (29, _), (30, _), (31, _), (32, _), (33, _), (34, _), (35, _), (36, _), (37, _), (38, _), (39, _), (40, _), (41, _), (42, _), (43, _), (44, _), (45, _), (46, _), (47, _), (48, _), (49, _), (50, _), (51, _), (64, _), (65, _), (26, _), (27, _)] ⟨rfl, rfl, rfl, rfl, rfl, rfl, rfl, rfl, rfl, rfl, rfl, rfl, rfl, rfl, rfl, rfl, rfl, rfl, rfl, rfl, rfl, rfl, rfl, rfl, rfl, rfl, rfl, rfl, rfl, rfl, rfl, rfl, rfl, rfl, rfl, rfl, rfl, rfl, rfl, rfl, rfl, rfl, trivial⟩ ?_
          first
            | exact N.next (G := fun (q : Nat × Value × Nat) => _) (i + 1, .slice ta7 (ts.length + 1) tc7, ts.length + 1) ⟨rfl, rfl, rfl, rfl, rfl, trivial⟩ ⟨by show i + 1 ≤ xs.length; omega, by show i + 1 ≤ 80; omega, _, _, _, _, S7, by simp, by show _ ≤ 32 * (i + 1); omega, by show _ ≤ i + 1; simp; omega⟩ (by show xs.length - (i + 1) < xs.length - i; omega)
            | exact N.next (G := fun (q : Nat × Value × Nat) => _) (i + 1, .slice ta ts.length tc, ts.length) ⟨rfl, rfl, rfl, rfl, rfl, trivial⟩ ⟨by show i + 1 ≤ xs.length; omega, by show i + 1 ≤ 80; omega, _, _, _, _, (⟨(by have h9 := M5; rw [(hst.2 hc).1, (hst.2 hc).2] at h9; exact h9), ho5, hs5, S3.new, S3.dec⟩ : BK H H5 p sv5 x L (.slice ta ts.length tc) ts), rfl, by show _ ≤ 32 * (i + 1); omega, by show _ ≤ i + 1; omega⟩ (by show xs.length - (i + 1) < xs.length - i; omega)
            | exact N.next (G := fun (q : Nat × Value × Nat) => _) (i + 1, .slice ta ts.length tc, ts.length) ⟨rfl, rfl, rfl, rfl, rfl, trivial⟩ ⟨by show i + 1 ≤ xs.length; omega, by show i + 1 ≤ 80; omega, _, _, _, _, S3, rfl, by show _ ≤ 32 * (i + 1); omega, by show _ ≤ i + 1; omega⟩ (by show xs.length - (i + 1) < xs.length - i; omega)
      · refine E.skip ?_
        refine N.then ?_
        refine E.seq ?_
        refine E.seq ?_
        refine E.region ?_
        refine X.mv rfl rfl rfl rfl rfl ?_
        refine X.mv rfl rfl rfl rfl rfl ?_
        refine X.ixA rfl rfl rfl rfl rfl rfl Try.underlying26 Try.sz31 (by omega) ?_
        refine X.fld rfl rfl rfl rfl rfl Try.off31_0 ?_
        refine X.ld rfl rfl rfl rfl Try.ag3 (by first | exact hbb5 | exact hbb) (by first | exact hk05 | exact hk0) ?_
        refine X.eql rfl rfl rfl rfl rfl rfl ?_
        refine X.done [(0, _), (2, _), (3, _), (4, _), (5, _), (18, _), (19, _), (20, _), (21, _), (22, _), (23, _), (24, _), (25, _), (6, _), (28, _), (29, _), (30, _), (31, _), (32, _), (33, _), (46, _), (47, _), (48, _), (49, _), (50, _), (51, _)] ⟨rfl, rfl, rfl, rfl, rfl, rfl, rfl, rfl, rfl, rfl, rfl, rfl, rfl, rfl, rfl, rfl, rfl, rfl, rfl, rfl, rfl, rfl, rfl, rfl, rfl, rfl, trivial⟩ ?_
        refine N.then ?_
        refine E.condD rfl (fun hc => ?_) (fun hc => ?_)
        · refine E.regionD (fun H' => H'[bb]? = some (.cells cs.toArray ct fz)) [(0, .pu), (1, .pu), (2, .pu), (3, .pu), (4, .pu), (5, .st), (6, .pu), (7, .pu), (8, .pu), (9, .pu), (10, .st), (11, .mv), (12, .pu)] Try.mixed (by kernel_rfl) (hbb) ?_
          refine X.mv rfl rfl rfl rfl rfl ?_
          refine X.mv rfl rfl rfl rfl rfl ?_
          refine X.mv rfl rfl rfl rfl rfl ?_
          refine X.ixA rfl rfl rfl rfl rfl rfl Try.underlying26 Try.sz31 (by omega) ?_
          refine X.fld rfl rfl rfl rfl rfl Try.off31_1 ?_
          refine X.ld rfl rfl rfl rfl Try.ag3 (fun H' hF => hF) (hk1) ?_
          refine X.mv rfl rfl rfl rfl rfl ?_
          refine X.mv rfl rfl rfl rfl rfl ?_
          refine X.ixA rfl rfl rfl rfl rfl rfl Try.underlying26 Try.sz31 (by omega) ?_
          refine X.fld rfl rfl rfl rfl rfl Try.off31_2 ?_
          refine X.ld rfl rfl rfl rfl Try.ag3 (fun H' hF => hF) (hk2) ?_
          refine X.call rfl rfl rfl rfl rfl Try.cl14 (code_all p sv x L H3 S3.wm.wr (by omega) y.v y.n) ?_
          rintro _ H5 ⟨rfl, sv5, hW5, hg5⟩
          obtain ⟨M5, ho5, hs5⟩ := S3.write hW5 hg5
          have hst := codeV_cases x L y (by omega)
          have hL5 := codeV_lt x L y.v y.n
          refine X.asg rfl rfl rfl rfl rfl ?_
          refine X.done [(0, _), (2, _), (3, _), (4, _), (5, _), (18, _), (19, _), (20, _), (21, _), (22, _), (23, _), (24, _), (25, _), (6, _), (28, _), (29, _), (30, _), (31, _), (32, _), (33, _), (46, _), (47, _), (48, _), (49, _), (50, _), (51, _), (52, _), (53, _), (54, _), (55, _), (56, _), (57, _), (58, _), (59, _), (60, _), (61, _), (62, _), (63, _)] ⟨rfl, rfl, rfl, rfl, rfl, rfl, rfl, rfl, rfl, rfl, rfl, rfl, rfl, rfl, rfl, rfl, rfl, rfl, rfl, rfl, rfl, rfl, rfl, rfl, rfl, rfl, rfl, rfl, rfl, rfl, rfl, rfl, rfl, rfl, rfl, rfl, rfl, rfl, trivial⟩ ?_
          refine N.then ?_
          refine E.seq ?_
          refine E.region ?_
          refine X.mv rfl rfl rfl rfl rfl ?_
          refine X.eql rfl rfl rfl rfl rfl rfl ?_
          refine X.done [(0, _), (2, _), (3, _), (4, _), (5, _), (18, _), (19, _), (20, _), (21, _), (22, _), (23, _), (24, _), (25, _), (6, _), (28, _), (29, _), (30, _), (31, _), (32, _), (33, _), (46, _), (47, _), (48, _), (49, _), (50, _), (51, _), (52, _), (53, _), (54, _), (55, _), (56, _), (57, _), (58, _), (59, _), (60, _), (61, _), (62, _), (63, _), (64, _), (65, _)] ⟨rfl, rfl, rfl, rfl, rfl, rfl, rfl, rfl, rfl, rfl, rfl, rfl, rfl, rfl, rfl, rfl, rfl, rfl, rfl, rfl, rfl, rfl, rfl, rfl, rfl, rfl, rfl, rfl, rfl, rfl, rfl, rfl, rfl, rfl, rfl, rfl, rfl, rfl, rfl, rfl, trivial⟩ ?_
          refine N.then ?_
          refine E.condD rfl (fun hc => ?_) (fun hc => ?_)
          · obtain ⟨⟨gv, gn, hgd⟩, hX2, hL2⟩ := hst.1 hc
            obtain ⟨bb2, oo2, cc2, cs2, ct2, fz2, hv2, hbb2, hel2⟩ := (hS.keep M5.kp (by simp)).get opa_len hy (by decide)
            obtain ⟨e1, _, _⟩ := Value.slice.inj hv2
            obtain ⟨rfl, rfl, _⟩ := Addr.mk.inj (Option.some.inj e1)
            refine E.region ?_
            refine X.mv rfl rfl rfl rfl rfl ?_
            refine X.mv rfl rfl rfl rfl rfl ?_
            refine X.mv rfl rfl rfl rfl rfl ?_
            refine X.ixA rfl rfl rfl rfl rfl rfl Try.underlying26 Try.sz31 (by omega) ?_
            refine X.ldA rfl rfl rfl rfl Try.ag31 Try.sz31 (hbb2) (vs := opa y) rfl (fun j v hj => hel2 j v hj) ?_
            refine X.lit (e := 31) (cs := opa y) rfl rfl rfl rfl rfl (fun _ => by kernel_rfl) ?_
            intro b6 H6 hn6 hb6 hk6
            refine X.app TA rfl rfl rfl rfl rfl rfl (ho5.keep hk6 (by simp)) (.inl ⟨rfl, _, _, rfl, .inr ⟨b6, 0, _, _, _, rfl, hb6, fun j u hj => by rw [Nat.zero_add]; exact hj⟩⟩) (.inl ⟨31, Try.underlying26, _, _, rfl⟩) (by simp [opa, Value.oneCell']) (by first | (simp only [maxLen]; omega) | omega) (by first | (simp only [maxLen]; omega) | omega) ?_
            intro v7 H7 ho7 hk7 hb7 hn7
            obtain ⟨ta7, tc7, rfl⟩ := ho7.len
            have S7 : BK H H7 p sv5 (put x L (ev y)) (L + y.n.toNat) (.slice ta7 (ts.length + 1) tc7) (ts ++ [y]) := by
              have hM6 := M5.keep hk6 (by simp) (by simp)
              refine ⟨?_, ?_, ?_, ?_, S3.dec.snoc S3.wm.wr.lt hgd⟩
              · rw [← hX2, ← hL2]; exact hM6.keep hk7 (fun b hb hb2 => hs5 b hb2 hb) S3.new
              · rw [List.length_append, List.flatMap_append]; simpa using ho7
              · intro b hb hp
                rcases hb7 with h | h
                · exact hs5 b (h ▸ hb) hp
                · have := hM6.wr.blks b hp; have := h b hb; omega
              · intro b hb
                rcases hb7 with h | h
                · exact S3.new b (h ▸ hb)
                · exact Nat.le_trans hM6.kp.size (h b hb)
            have hL7 : L + y.n.toNat ≤ L + 32 := by rw [← hL2]; exact hL5
            refine X.asg rfl rfl rfl rfl rfl ?_
            refine X.done [(0, _), (2, _), (3, _), (4, _), (5, _), (18, _), (19, _), (20, _), (21, _), (22, _), (23, _), (24, _), (25, _), (6, _), (28, _), (29, _), (30, _), (31, _), (32, _), (33, _), (46, _), (47, _), (48, _), (49, _), (50, _), (51, _), (52, _), (53, _), (54, _), (55, _), (56, _), (57, _), (58, _), (59, _), (60, _), (61, _), (62, _), (63, _), (64, _), (65, _), (66, _), (67, _), (68, _), (69, _), (70, _), (71, _), (72, _)] ⟨rfl, rfl, rfl, rfl, rfl, rfl, rfl, rfl, rfl, rfl, rfl, rfl, rfl, rfl, rfl, rfl, rfl, rfl, rfl, rfl, rfl, rfl, rfl, rfl, rfl, rfl, rfl, rfl, rfl, rfl, rfl, rfl, rfl, rfl, rfl, rfl, rfl, rfl, rfl, rfl, rfl, rfl, rfl, rfl, rfl, rfl, rfl, trivial⟩ ?_
            refine N.blk ?_
            refine N.then ?_
            refine E.region ?_
            refine X.mv rfl rfl rfl rfl rfl ?_
            refine X.add rfl rfl rfl rfl rfl rfl (by omega) ?_
            refine X.asg rfl rfl rfl rfl rfl ?_
            refine X.done [(0, _), (2, _), (3, _), (4, _), (5, _), (18, _), (19, _), (20, _), (21, _), (22, _), (23, _), (24, _), (25, _), (6, _), (28, _), (29, _), (30, _), (31, _), (32, _), (33, _), (46, _), (47, _), (48, _), (49, _), (50, _), (51, _), (52, _), (53, _), (54, _), (55, _), (56, _), (57, _), (58, _), (59, _), (60, _), (61, _), (62, _), (63, _), (64, _), (65, _), (66, _), (67, _), (68, _), (69, _), (70, _), (71, _), (72, _), (26, _), (27, _)] ⟨rfl, rfl, rfl, rfl, rfl, rfl, rfl, rfl, rfl, rfl, rfl, rfl, rfl, rfl, rfl, rfl, rfl, rfl, rfl, rfl, rfl, rfl, rfl, rfl, rfl, rfl, rfl, rfl, rfl, rfl, rfl, rfl, rfl, rfl, rfl, rfl, rfl, rfl, rfl, rfl, rfl, rfl, rfl, rfl, rfl, rfl, rfl, rfl, rfl, trivial⟩ ?_
            first
              | exact N.next (G := fun (q : Nat × Value × Nat) => _) (i + 1, .slice ta7 (ts.length + 1) tc7, ts.length + 1) ⟨rfl, rfl, rfl, rfl, rfl, trivial⟩ ⟨by show i + 1 ≤ xs.length; omega, by show i + 1 ≤ 80; omega, _, _, _, _, S7, by simp, by show _ ≤ 32 * (i + 1); omega, by show _ ≤ i + 1; simp; omega⟩ (by show xs.length - (i + 1) < xs.length - i; omega)
              | exact N.next (G := fun (q : Nat × Value × Nat) => _) (i + 1, .slice ta ts.length tc, ts.length) ⟨rfl, rfl, rfl, rfl, rfl, trivial⟩ ⟨by show i + 1 ≤ xs.length; omega, by show i + 1 ≤ 80; omega, _, _, _, _, (⟨(by have h9 := M5; rw [(hst.2 hc).1, (hst.2 hc).2] at h9; exact h9), ho5, hs5, S3.new, S3.dec⟩ : BK H H5 p sv5 x L (.slice ta ts.length tc) ts), rfl, by show _ ≤ 32 * (i + 1); omega, by show _ ≤ i + 1; omega⟩ (by show xs.length - (i + 1) < xs.length - i; omega)
              | exact N.next (G := fun (q : Nat × Value × Nat) => _) (i + 1, .slice ta ts.length tc, ts.length) ⟨rfl, rfl, rfl, rfl, rfl, trivial⟩ ⟨by show i + 1 ≤ xs.length; omega, by show i + 1 ≤ 80; omega, _, _, _, _, S3, rfl, by show _ ≤ 32 * (i + 1); omega, by show _ ≤ i + 1; omega⟩ (by show xs.length - (i + 1) < xs.length - i; omega)
          · refine E.skip ?_
            refine N.blk ?_
            refine N.then ?_
            refine E.region ?_
            refine X.mv rfl rfl rfl rfl rfl ?_
            refine X.add rfl rfl rfl rfl rfl rfl (by omega) ?_
            refine X.asg rfl rfl rfl rfl rfl ?_
            refine X.done [(0, _), (2, _), (3, _), (4, _), (5, _), (18, _), (19, _), (20, _), (21, _), (22, _), (23, _), (24, _), (25, _), (6, _), (28, _), (29, _), (30, _), (31, _), (32, _), (33, _), (46, _), (47, _), (48, _), (49, _), (50, _), (51, _), (52, _), (53, _), (54, _), (55, _), (56, _), (57, _), (58, _), (59, _), (60, _), (61, _), (62, _), (63, _), (64, _), (65, _), (26, _), (27, _)] ⟨rfl, rfl, rfl, rfl, rfl, rfl, rfl, rfl, rfl, rfl, rfl, rfl, rfl, rfl, rfl, rfl, rfl, rfl, rfl, rfl, rfl, rfl, rfl, rfl, rfl, rfl, rfl, rfl, rfl, rfl, rfl, rfl, rfl, rfl, rfl, rfl, rfl, rfl, rfl, rfl, rfl, rfl, trivial⟩ ?_
            first
              | exact N.next (G := fun (q : Nat × Value × Nat) => _) (i + 1, .slice ta7 (ts.length + 1) tc7, ts.length + 1) ⟨rfl, rfl, rfl, rfl, rfl, trivial⟩ ⟨by show i + 1 ≤ xs.length; omega, by show i + 1 ≤ 80; omega, _, _, _, _, S7, by simp, by show _ ≤ 32 * (i + 1); omega, by show _ ≤ i + 1; simp; omega⟩ (by show xs.length - (i + 1) < xs.length - i; omega)
              | exact N.next (G := fun (q : Nat × Value × Nat) => _) (i + 1, .slice ta ts.length tc, ts.length) ⟨rfl, rfl, rfl, rfl, rfl, trivial⟩ ⟨by show i + 1 ≤ xs.length; omega, by show i + 1 ≤ 80; omega, _, _, _, _, (⟨(by have h9 := M5; rw [(hst.2 hc).1, (hst.2 hc).2] at h9; exact h9), ho5, hs5, S3.new, S3.dec⟩ : BK H H5 p sv5 x L (.slice ta ts.length tc) ts), rfl, by show _ ≤ 32 * (i + 1); omega, by show _ ≤ i + 1; omega⟩ (by show xs.length - (i + 1) < xs.length - i; omega)
              | exact N.next (G := fun (q : Nat × Value × Nat) => _) (i + 1, .slice ta ts.length tc, ts.length) ⟨rfl, rfl, rfl, rfl, rfl, trivial⟩ ⟨by show i + 1 ≤ xs.length; omega, by show i + 1 ≤ 80; omega, _, _, _, _, S3, rfl, by show _ ≤ 32 * (i + 1); omega, by show _ ≤ i + 1; omega⟩ (by show xs.length - (i + 1) < xs.length - i; omega)
        · refine E.skip ?_
          refine N.then ?_
          refine E.seq ?_
          refine E.region ?_
          refine X.mv rfl rfl rfl rfl rfl ?_
          refine X.eqlF rfl rfl rfl rfl rfl rfl (by decide) ?_
          refine X.done [(0, _), (2, _), (3, _), (4, _), (5, _), (18, _), (19, _), (20, _), (21, _), (22, _), (23, _), (24, _), (25, _), (6, _), (28, _), (29, _), (30, _), (31, _), (32, _), (33, _), (46, _), (47, _), (48, _), (49, _), (50, _), (51, _), (64, _), (65, _)] ⟨rfl, rfl, rfl, rfl, rfl, rfl, rfl, rfl, rfl, rfl, rfl, rfl, rfl, rfl, rfl, rfl, rfl, rfl, rfl, rfl, rfl, rfl, rfl, rfl, rfl, rfl, rfl, rfl, trivial⟩ ?_
          refine N.then ?_
          refine E.condF rfl ?_
          refine E.skip ?_
          refine N.blk ?_
          refine N.then ?_
          refine E.region ?_
          refine X.mv rfl rfl rfl rfl rfl ?_
          refine X.add rfl rfl rfl rfl rfl rfl (by omega) ?_
          refine X.asg rfl rfl rfl rfl rfl ?_
          refine X.done [(0, _), (2, _), (3, _), (4, _), (5, _), (18, _), (19, _), (20, _), (21, _), (22, _), (23, _), (24, _), (25, _), (6, _), (28, _), (29, _), (30, _), (31, _), (32, _), (33, _), (46, _), (47, _), (48, _), (49, _), (50, _), (51, _), (64, _), (65, _), (26, _), (27, _)] ⟨rfl, rfl, rfl, rfl, rfl, rfl, rfl, rfl, rfl, rfl, rfl, rfl, rfl, rfl, rfl, rfl, rfl, rfl, rfl, rfl, rfl, rfl, rfl, rfl, rfl, rfl, rfl, rfl, rfl, rfl, trivial⟩ ?_
          first
            | exact N.next (G := fun (q : Nat × Value × Nat) => _) (i + 1, .slice ta7 (ts.length + 1) tc7, ts.length + 1) ⟨rfl, rfl, rfl, rfl, rfl, trivial⟩ ⟨by show i + 1 ≤ xs.length; omega, by show i + 1 ≤ 80; omega, _, _, _, _, S7, by simp, by show _ ≤ 32 * (i + 1); omega, by show _ ≤ i + 1; simp; omega⟩ (by show xs.length - (i + 1) < xs.length - i; omega)
            | exact N.next (G := fun (q : Nat × Value × Nat) => _) (i + 1, .slice ta ts.length tc, ts.length) ⟨rfl, rfl, rfl, rfl, rfl, trivial⟩ ⟨by show i + 1 ≤ xs.length; omega, by show i + 1 ≤ 80; omega, _, _, _, _, (⟨(by have h9 := M5; rw [(hst.2 hc).1, (hst.2 hc).2] at h9; exact h9), ho5, hs5, S3.new, S3.dec⟩ : BK H H5 p sv5 x L (.slice ta ts.length tc) ts), rfl, by show _ ≤ 32 * (i + 1); omega, by show _ ≤ i + 1; omega⟩ (by show xs.length - (i + 1) < xs.length - i; omega)
            | exact N.next (G := fun (q : Nat × Value × Nat) => _) (i + 1, .slice ta ts.length tc, ts.length) ⟨rfl, rfl, rfl, rfl, rfl, trivial⟩ ⟨by show i + 1 ≤ xs.length; omega, by show i + 1 ≤ 80; omega, _, _, _, _, S3, rfl, by show _ ≤ 32 * (i + 1); omega, by show _ ≤ i + 1; omega⟩ (by show xs.length - (i + 1) < xs.length - i; omega)
    · refine E.exit ?_
      refine N.thenX ?_
      refine N.loopX ?_
      refine N.blkX ?_
      refine N.then ?_
      refine E.seq ?_
      refine E.region ?_
      refine X.mv rfl rfl rfl rfl rfl ?_
      refine X.call rfl rfl rfl rfl rfl Try.cl16 (text_ct p sv x L H3 S3.wm.wr (by omega)) ?_
      rintro _ H6 ⟨rfl, hk6⟩
      have hdl := digs_len x ((L + 7) / 8)
      refine X.call rfl rfl rfl rfl rfl Try.cl15 (new_ct (digs x ((L + 7) / 8)) 0 H6 (by omega) (by omega)) ?_
      rintro _ H7 ⟨r, rfl, hr7, hR7, hk7⟩
      have M7 := (S3.wm.keep hk6 (by simp) (by simp)).keep hk7 (by simp) (by simp)
      have ho7 := (S3.own.keep hk6 (by simp)).keep hk7 (by simp)
      have hrw : r ∉ p :: blk sv := fun h => by have := (S3.wm.keep hk6 (by simp) (by simp)).wr.blks r h; omega
      have hrt : r ∉ blk (.slice ta ts.length tc) := fun h => by have := (S3.own.keep hk6 (by simp)).lt r h; omega
      have hrn : H.size ≤ r := Nat.le_trans (Nat.le_trans S3.wm.kp.size hk6.size) hr7
      have hxn : num (digs x ((L + 7) / 8)) = x := by rw [digs_num]; exact Nat.mod_eq_of_lt (lt_up S3.wm.wr.lt (by omega))
      refine X.mv rfl rfl rfl rfl rfl ?_
      refine X.extract rfl rfl rfl rfl rfl rfl ?_
      refine X.extract rfl rfl rfl rfl rfl rfl ?_
      refine X.asg rfl rfl rfl rfl rfl ?_
      refine X.asg rfl rfl rfl rfl rfl ?_
      refine X.done [(2, _), (3, _), (4, _), (7, _), (8, _)] ⟨rfl, rfl, rfl, rfl, rfl, trivial⟩ ?_
      refine N.then ?_
      refine E.seq ?_
      refine E.seq ?_
      refine E.region ?_
      refine X.mv rfl rfl rfl rfl rfl ?_
      refine X.neqF rfl rfl rfl rfl rfl rfl (fun h => h rfl) ?_
      refine X.mv rfl rfl rfl rfl rfl ?_
      refine X.mv rfl rfl rfl rfl rfl ?_
      refine X.eqlP1 rfl rfl rfl rfl rfl rfl Try.underlying33 ?_
      refine X.pickF rfl rfl rfl rfl rfl rfl ?_
      refine X.done [(2, _), (3, _), (4, _), (7, _), (84, _)] ⟨rfl, rfl, rfl, rfl, rfl, trivial⟩ ?_
      refine N.then ?_
      refine E.condF rfl ?_
      refine E.skip ?_
      refine N.then ?_
      refine E.seq ?_
      refine E.region ?_
      refine X.asg rfl rfl rfl rfl rfl ?_
      refine X.done [(2, _), (3, _), (4, _), (7, _), (9, _)] ⟨rfl, rfl, rfl, rfl, rfl, trivial⟩ ?_
      refine N.then ?_
      refine E.seq ?_
      refine E.seq ?_
      refine E.region ?_
      refine X.asg rfl rfl rfl rfl rfl ?_
      refine X.done [(2, _), (3, _), (4, _), (7, _), (9, _), (10, _)] ⟨rfl, rfl, rfl, rfl, rfl, rfl, trivial⟩ ?_
      refine N.then ?_
      refine E.block ?_
      refine E.loop (fun (k : Nat) => [(2, .bool false), (3, ptr p), (4, .slice ta ts.length tc), (7, ptr r), (9, i64 (offs ts k)), (10, i64 k)]) (fun (k : Nat) H' => k ≤ ts.length ∧ Rdr H' r (digs x ((L + 7) / 8)) (offs ts k) ∧ WM H H' p sv x L ∧ Own H' 31 4 (.slice ta ts.length tc) ts.length (ts.flatMap opa)) (fun (k : Nat) => ts.length - k) 0 ⟨rfl, rfl, rfl, rfl, rfl, rfl, trivial⟩ ⟨Nat.zero_le _, hR7, M7, ho7⟩ ?_
      rintro k H8 ⟨hk, hR8, M8, ho8⟩
      obtain ⟨at9, hat⟩ : ∃ at9, offs ts k = at9 := ⟨_, rfl⟩
      rw [hat] at hR8 ⊢
      have hatL : at9 ≤ L := by rw [← hat, ← S3.dec.all]; exact offs_mono ts hk
      refine E.seq ?_
      refine E.seq ?_
      refine E.region ?_
      refine X.mv rfl rfl rfl rfl rfl ?_
      refine X.mv rfl rfl rfl rfl rfl ?_
      refine X.lenS rfl rfl rfl rfl rfl Try.underlying26 ?_
      refine X.lss rfl rfl rfl rfl rfl rfl ?_
      refine X.done [(2, _), (3, _), (4, _), (7, _), (9, _), (10, _), (85, _), (86, _), (87, _), (88, _)] ⟨rfl, rfl, rfl, rfl, rfl, rfl, rfl, rfl, rfl, rfl, trivial⟩ ?_
      refine N.then ?_
      refine E.condD rfl (fun hc => ?_) (fun hc => ?_)
      · refine E.skip ?_
        refine N.then ?_
        refine E.seq ?_
        refine E.block ?_
        refine E.seq ?_
        obtain ⟨t, ht⟩ : ∃ t, ts[k]? = some t := ⟨_, List.getElem?_eq_getElem (by omega)⟩
        obtain ⟨⟨v', n, hg⟩, hev, hoff⟩ := S3.dec.each k t ht
        have htn : t.n.toNat = n := by rw [hg.2.1]; rfl
        rw [hat, htn] at hev hoff
        obtain ⟨bb, oo, cc, cs, ct, fz, hv, hbb, hel⟩ := ho8.rd.get opa_len ht (by decide)
        obtain ⟨rfl, _, rfl⟩ := Value.slice.inj hv
        have hk2 : cs[oo + k * 4 + 2]? = some (i64 n) := by rw [← hg.2.1]; exact hel 2 _ rfl
        have hevl := ev_lt hg
        have hpn : 2 ^ n ≤ 2 ^ 32 := Nat.pow_le_pow_right (by omega) hg.2.2.1
        have hTT : t.k = 1 → turnV (ev t) n = v' := fun h1 => by
          rw [turnV_of _ _ (by omega) hg.2.2.1]
          unfold ev
          rw [if_pos h1, hg.1, hg.2.1]
          show turn (turn v' n) n = v'
          rw [turn_turn, Nat.mod_eq_of_lt hg.2.2.2.1]
        have hE0 : t.k ≠ 1 → ev t = v' := fun h1 => by unfold ev; rw [if_neg h1, hg.1]; rfl
        refine E.region ?_
        refine X.mv rfl rfl rfl rfl rfl ?_
        refine X.mv rfl rfl rfl rfl rfl ?_
        refine X.ixA rfl rfl rfl rfl rfl rfl Try.underlying26 Try.sz31 (by omega) ?_
        refine X.fld rfl rfl rfl rfl rfl Try.off31_2 ?_
        refine X.ld rfl rfl rfl rfl Try.ag3 (hbb) (hk2) ?_
        refine X.asg rfl rfl rfl rfl rfl ?_
        refine X.done [(2, _), (3, _), (4, _), (7, _), (9, _), (10, _), (85, _), (86, _), (87, _), (88, _), (91, _), (92, _), (93, _), (94, _), (95, _), (11, _)] ⟨rfl, rfl, rfl, rfl, rfl, rfl, rfl, rfl, rfl, rfl, rfl, rfl, rfl, rfl, rfl, rfl, trivial⟩ ?_
        refine N.then ?_
        refine E.seq ?_
        refine E.region ?_
        refine X.mv rfl rfl rfl rfl rfl ?_
        refine X.mv rfl rfl rfl rfl rfl ?_
        refine X.call rfl rfl rfl rfl rfl Try.cl17 (peek_ct r _ at9 H8 hR8 (by omega) n hg.2.2.1) ?_
        rintro _ H9 ⟨rfl, eH9⟩
        obtain rfl := eH9.symm
        rw [hxn, hev]
        refine X.asg rfl rfl rfl rfl rfl ?_
        refine X.done [(2, _), (3, _), (4, _), (7, _), (9, _), (10, _), (85, _), (86, _), (87, _), (88, _), (91, _), (92, _), (93, _), (94, _), (95, _), (11, _), (96, _), (97, _), (98, _), (12, _)] ⟨rfl, rfl, rfl, rfl, rfl, rfl, rfl, rfl, rfl, rfl, rfl, rfl, rfl, rfl, rfl, rfl, rfl, rfl, rfl, rfl, trivial⟩ ?_
        refine N.then ?_
        refine E.seq ?_
        refine E.region ?_
        refine X.mv rfl rfl rfl rfl rfl ?_
        refine X.mv rfl rfl rfl rfl rfl ?_
        refine X.call rfl rfl rfl rfl rfl Try.cl18 (bits_ct r _ at9 H8 hR8 (by omega) n hg.2.2.1 (by omega)) ?_
        rintro _ H10 ⟨rfl, hR10, hk10⟩
        rw [hxn, hev]
        have M10 := M8.keep hk10 (fun b hb h => hrw (by simp at h; exact h ▸ hb)) (by simp; exact hrn)
        have ho10 := ho8.keep hk10 (fun b hb h => hrt (by simp at h; exact h ▸ hb))
        obtain ⟨bb2, oo2, cc2, cs2, ct2, fz2, hv2, hbb2, hel2⟩ := ho10.rd.get opa_len ht (by decide)
        obtain ⟨e1, _, _⟩ := Value.slice.inj (hv.symm.trans hv2)
        obtain ⟨rfl, rfl, _⟩ := Addr.mk.inj (Option.some.inj e1)
        have hk0 := hel2 0 _ rfl
        have hk1 := hel2 1 _ rfl
        refine X.mv rfl rfl rfl rfl rfl ?_
        refine X.extract rfl rfl rfl rfl rfl rfl ?_
        refine X.extract rfl rfl rfl rfl rfl rfl ?_
        refine X.asg rfl rfl rfl rfl rfl ?_
        refine X.asg rfl rfl rfl rfl rfl ?_
        refine X.done [(2, _), (3, _), (4, _), (7, _), (9, _), (10, _), (85, _), (86, _), (87, _), (88, _), (91, _), (92, _), (93, _), (94, _), (95, _), (11, _), (96, _), (97, _), (98, _), (12, _), (100, _), (101, _), (102, _), (99, _), (103, _), (104, _), (13, _), (14, _)] ⟨rfl, rfl, rfl, rfl, rfl, rfl, rfl, rfl, rfl, rfl, rfl, rfl, rfl, rfl, rfl, rfl, rfl, rfl, rfl, rfl, rfl, rfl, rfl, rfl, rfl, rfl, rfl, rfl, trivial⟩ ?_
        refine N.then ?_
        refine E.seq ?_
        refine E.region ?_
        refine X.mv rfl rfl rfl rfl rfl ?_
        refine X.mv rfl rfl rfl rfl rfl ?_
        refine X.addE (zz := ((at9 + n : Nat) : Int)) rfl rfl rfl rfl rfl rfl (by rw [IntWalk.i64_in _ (by omega)] <;> omega) ?_
        refine X.asg rfl rfl rfl rfl rfl ?_
        refine X.done [(2, _), (3, _), (4, _), (7, _), (9, _), (10, _), (85, _), (86, _), (87, _), (88, _), (91, _), (92, _), (93, _), (94, _), (95, _), (11, _), (96, _), (97, _), (98, _), (12, _), (100, _), (101, _), (102, _), (99, _), (103, _), (104, _), (13, _), (14, _), (105, _), (106, _), (107, _)] ⟨rfl, rfl, rfl, rfl, rfl, rfl, rfl, rfl, rfl, rfl, rfl, rfl, rfl, rfl, rfl, rfl, rfl, rfl, rfl, rfl, rfl, rfl, rfl, rfl, rfl, rfl, rfl, rfl, rfl, rfl, rfl, trivial⟩ ?_
        refine N.then ?_
        refine E.seq ?_
        refine E.seq ?_
        refine E.region ?_
        refine X.mv rfl rfl rfl rfl rfl ?_
        refine X.mv rfl rfl rfl rfl rfl ?_
        refine X.ixA rfl rfl rfl rfl rfl rfl Try.underlying26 Try.sz31 (by omega) ?_
        refine X.fld rfl rfl rfl rfl rfl Try.off31_0 ?_
        refine X.ld rfl rfl rfl rfl Try.ag3 (hbb2) (hk0) ?_
        refine X.eql rfl rfl rfl rfl rfl rfl ?_
        refine X.done [(2, _), (3, _), (4, _), (7, _), (9, _), (10, _), (85, _), (86, _), (87, _), (88, _), (91, _), (92, _), (93, _), (94, _), (95, _), (11, _), (96, _), (97, _), (98, _), (12, _), (100, _), (101, _), (102, _), (99, _), (103, _), (104, _), (13, _), (14, _), (105, _), (106, _), (107, _), (108, _), (109, _), (110, _), (111, _), (112, _), (113, _)] ⟨rfl, rfl, rfl, rfl, rfl, rfl, rfl, rfl, rfl, rfl, rfl, rfl, rfl, rfl, rfl, rfl, rfl, rfl, rfl, rfl, rfl, rfl, rfl, rfl, rfl, rfl, rfl, rfl, rfl, rfl, rfl, rfl, rfl, rfl, rfl, rfl, rfl, trivial⟩ ?_
        refine N.then ?_
        refine E.condD rfl (fun hc => ?_) (fun hc => ?_)
        · refine E.seq ?_
          refine E.region ?_
          refine X.mv rfl rfl rfl rfl rfl ?_
          refine X.mv rfl rfl rfl rfl rfl ?_
          refine X.call rfl rfl rfl rfl rfl Try.cl9 (turn_ct (ev t) n H10) ?_
          rintro _ H11 ⟨rfl, eH11⟩
          obtain rfl := eH11.symm
          rw [hTT (by omega)]
          refine X.asg rfl rfl rfl rfl rfl ?_
          refine X.done [(2, _), (3, _), (4, _), (7, _), (9, _), (10, _), (85, _), (86, _), (87, _), (88, _), (91, _), (92, _), (93, _), (94, _), (95, _), (11, _), (96, _), (97, _), (98, _), (12, _), (100, _), (101, _), (102, _), (99, _), (103, _), (104, _), (13, _), (14, _), (105, _), (106, _), (107, _), (108, _), (109, _), (110, _), (111, _), (112, _), (113, _), (114, _), (115, _), (116, _)] ⟨rfl, rfl, rfl, rfl, rfl, rfl, rfl, rfl, rfl, rfl, rfl, rfl, rfl, rfl, rfl, rfl, rfl, rfl, rfl, rfl, rfl, rfl, rfl, rfl, rfl, rfl, rfl, rfl, rfl, rfl, rfl, rfl, rfl, rfl, rfl, rfl, rfl, rfl, rfl, rfl, trivial⟩ ?_
          refine N.then ?_
          refine E.region ?_
          refine X.mv rfl rfl rfl rfl rfl ?_
          refine X.mv rfl rfl rfl rfl rfl ?_
          refine X.call rfl rfl rfl rfl rfl Try.cl9 (turn_ct (ev t) n H10) ?_
          rintro _ H12 ⟨rfl, eH12⟩
          obtain rfl := eH12.symm
          rw [hTT (by omega)]
          refine X.asg rfl rfl rfl rfl rfl ?_
          refine X.done [(2, _), (3, _), (4, _), (7, _), (9, _), (10, _), (85, _), (86, _), (87, _), (88, _), (91, _), (92, _), (93, _), (94, _), (95, _), (11, _), (96, _), (97, _), (98, _), (12, _), (100, _), (101, _), (102, _), (99, _), (103, _), (104, _), (13, _), (14, _), (105, _), (106, _), (107, _), (108, _), (109, _), (110, _), (111, _), (112, _), (113, _), (114, _), (115, _), (116, _), (117, _), (118, _), (119, _)] ⟨rfl, rfl, rfl, rfl, rfl, rfl, rfl, rfl, rfl, rfl, rfl, rfl, rfl, rfl, rfl, rfl, rfl, rfl, rfl, rfl, rfl, rfl, rfl, rfl, rfl, rfl, rfl, rfl, rfl, rfl, rfl, rfl, rfl, rfl, rfl, rfl, rfl, rfl, rfl, rfl, rfl, rfl, rfl, trivial⟩ ?_
          refine N.then ?_
          refine E.seq ?_
          have hv13 : ((v' : Nat) : Int) = t.v := hg.1.symm
          have hX29 := hE0
          refine E.region ?_
          refine X.mv rfl rfl rfl rfl rfl ?_
          refine X.mv rfl rfl rfl rfl rfl ?_
          refine X.mv rfl rfl rfl rfl rfl ?_
          refine X.ixA rfl rfl rfl rfl rfl rfl Try.underlying26 Try.sz31 (by omega) ?_
          refine X.fld rfl rfl rfl rfl rfl Try.off31_1 ?_
          refine X.ld rfl rfl rfl rfl Try.ag3 (hbb2) (hk1) ?_
          refine X.neqF rfl rfl rfl rfl rfl rfl (fun h => h (by first | exact hv13 | (rw [hE0 (by omega)]; exact hv13))) ?_
          refine X.mv rfl rfl rfl rfl rfl ?_
          refine X.mv rfl rfl rfl rfl rfl ?_
          refine X.mv rfl rfl rfl rfl rfl ?_
          refine X.neqF rfl rfl rfl rfl rfl rfl (fun h => h rfl) ?_
          refine X.pickF rfl rfl rfl rfl rfl rfl ?_
          refine X.mv rfl rfl rfl rfl rfl ?_
          refine X.mv rfl rfl rfl rfl rfl ?_
          refine X.neqF rfl rfl rfl rfl rfl rfl (fun h => h rfl) ?_
          refine X.pickF rfl rfl rfl rfl rfl rfl ?_
          refine X.mv rfl rfl rfl rfl rfl ?_
          refine X.mv rfl rfl rfl rfl rfl ?_
          refine X.call rfl rfl rfl rfl rfl Try.cl19 (at_ct r _ _ H10 hR10 (by omega)) ?_
          rintro _ H13 ⟨rfl, eH13⟩
          obtain rfl := eH13.symm
          refine X.mv rfl rfl rfl rfl rfl ?_
          refine X.neqF rfl rfl rfl rfl rfl rfl (fun h => h rfl) ?_
          refine X.pickF rfl rfl rfl rfl rfl rfl ?_
          refine X.done [(2, _), (3, _), (4, _), (7, _), (9, _), (10, _), (85, _), (86, _), (87, _), (88, _), (91, _), (92, _), (93, _), (94, _), (95, _), (11, _), (96, _), (97, _), (98, _), (12, _), (100, _), (101, _), (102, _), (99, _), (103, _), (104, _), (13, _), (14, _), (105, _), (106, _), (107, _), (108, _), (109, _), (110, _), (111, _), (112, _), (113, _), (114, _), (115, _), (116, _), (117, _), (118, _), (119, _), (120, _), (121, _), (122, _), (123, _), (124, _), (125, _), (126, _), (127, _), (128, _), (129, _), (130, _), (131, _), (132, _), (133, _), (134, _), (135, _), (136, _), (137, _), (138, _), (139, _), (140, _), (141, _)] ⟨rfl, rfl, rfl, rfl, rfl, rfl, rfl, rfl, rfl, rfl, rfl, rfl, rfl, rfl, rfl, rfl, rfl, rfl, rfl, rfl, rfl, rfl, rfl, rfl, rfl, rfl, rfl, rfl, rfl, rfl, rfl, rfl, rfl, rfl, rfl, rfl, rfl, rfl, rfl, rfl, rfl, rfl, rfl, rfl, rfl, rfl, rfl, rfl, rfl, rfl, rfl, rfl, rfl, rfl, rfl, rfl, rfl, rfl, rfl, rfl, rfl, rfl, rfl, rfl, rfl, trivial⟩ ?_
          refine N.then ?_
          refine E.condF rfl ?_
          refine E.skip ?_
          refine N.blk ?_
          refine N.then ?_
          refine E.region ?_
          refine X.mv rfl rfl rfl rfl rfl ?_
          refine X.add rfl rfl rfl rfl rfl rfl (by omega) ?_
          refine X.asg rfl rfl rfl rfl rfl ?_
          refine X.done [(2, _), (3, _), (4, _), (7, _), (9, _), (10, _), (85, _), (86, _), (87, _), (88, _), (91, _), (92, _), (93, _), (94, _), (95, _), (11, _), (96, _), (97, _), (98, _), (12, _), (100, _), (101, _), (102, _), (99, _), (103, _), (104, _), (13, _), (14, _), (105, _), (106, _), (107, _), (108, _), (109, _), (110, _), (111, _), (112, _), (113, _), (114, _), (115, _), (116, _), (117, _), (118, _), (119, _), (120, _), (121, _), (122, _), (123, _), (124, _), (125, _), (126, _), (127, _), (128, _), (129, _), (130, _), (131, _), (132, _), (133, _), (134, _), (135, _), (136, _), (137, _), (138, _), (139, _), (140, _), (141, _), (89, _), (90, _)] ⟨rfl, rfl, rfl, rfl, rfl, rfl, rfl, rfl, rfl, rfl, rfl, rfl, rfl, rfl, rfl, rfl, rfl, rfl, rfl, rfl, rfl, rfl, rfl, rfl, rfl, rfl, rfl, rfl, rfl, rfl, rfl, rfl, rfl, rfl, rfl, rfl, rfl, rfl, rfl, rfl, rfl, rfl, rfl, rfl, rfl, rfl, rfl, rfl, rfl, rfl, rfl, rfl, rfl, rfl, rfl, rfl, rfl, rfl, rfl, rfl, rfl, rfl, rfl, rfl, rfl, rfl, rfl, trivial⟩ ?_
          exact N.next (G := fun (k : Nat) => _) (k + 1) ⟨rfl, rfl, rfl, rfl, by rw [offs_succ ht, hat, htn]; rfl, rfl, trivial⟩ ⟨by omega, by rw [offs_succ ht, hat, htn]; exact hR10, M10, ho10⟩ (by show ts.length - (k + 1) < ts.length - k; omega)
        · refine E.skip ?_
          refine N.then ?_
          refine E.seq ?_
          have hv13 : ((v' : Nat) : Int) = t.v := hg.1.symm
          have hX29 := hE0
          refine E.region ?_
          refine X.mv rfl rfl rfl rfl rfl ?_
          refine X.mv rfl rfl rfl rfl rfl ?_
          refine X.mv rfl rfl rfl rfl rfl ?_
          refine X.ixA rfl rfl rfl rfl rfl rfl Try.underlying26 Try.sz31 (by omega) ?_
          refine X.fld rfl rfl rfl rfl rfl Try.off31_1 ?_
          refine X.ld rfl rfl rfl rfl Try.ag3 (hbb2) (hk1) ?_
          refine X.neqF rfl rfl rfl rfl rfl rfl (fun h => h (by first | exact hv13 | (rw [hE0 (by omega)]; exact hv13))) ?_
          refine X.mv rfl rfl rfl rfl rfl ?_
          refine X.mv rfl rfl rfl rfl rfl ?_
          refine X.mv rfl rfl rfl rfl rfl ?_
          refine X.neqF rfl rfl rfl rfl rfl rfl (fun h => h rfl) ?_
          refine X.pickF rfl rfl rfl rfl rfl rfl ?_
          refine X.mv rfl rfl rfl rfl rfl ?_
          refine X.mv rfl rfl rfl rfl rfl ?_
          refine X.neqF rfl rfl rfl rfl rfl rfl (fun h => h rfl) ?_
          refine X.pickF rfl rfl rfl rfl rfl rfl ?_
          refine X.mv rfl rfl rfl rfl rfl ?_
          refine X.mv rfl rfl rfl rfl rfl ?_
          refine X.call rfl rfl rfl rfl rfl Try.cl19 (at_ct r _ _ H10 hR10 (by omega)) ?_
          rintro _ H13 ⟨rfl, eH13⟩
          obtain rfl := eH13.symm
          refine X.mv rfl rfl rfl rfl rfl ?_
          refine X.neqF rfl rfl rfl rfl rfl rfl (fun h => h rfl) ?_
          refine X.pickF rfl rfl rfl rfl rfl rfl ?_
          refine X.done [(2, _), (3, _), (4, _), (7, _), (9, _), (10, _), (85, _), (86, _), (87, _), (88, _), (91, _), (92, _), (93, _), (94, _), (95, _), (11, _), (96, _), (97, _), (98, _), (12, _), (100, _), (101, _), (102, _), (99, _), (103, _), (104, _), (13, _), (14, _), (105, _), (106, _), (107, _), (108, _), (109, _), (110, _), (111, _), (112, _), (113, _), (120, _), (121, _), (122, _), (123, _), (124, _), (125, _), (126, _), (127, _), (128, _), (129, _), (130, _), (131, _), (132, _), (133, _), (134, _), (135, _), (136, _), (137, _), (138, _), (139, _), (140, _), (141, _)] ⟨rfl, rfl, rfl, rfl, rfl, rfl, rfl, rfl, rfl, rfl, rfl, rfl, rfl, rfl, rfl, rfl, rfl, rfl, rfl, rfl, rfl, rfl, rfl, rfl, rfl, rfl, rfl, rfl, rfl, rfl, rfl, rfl, rfl, rfl, rfl, rfl, rfl, rfl, rfl, rfl, rfl, rfl, rfl, rfl, rfl, rfl, rfl, rfl, rfl, rfl, rfl, rfl, rfl, rfl, rfl, rfl, rfl, rfl, rfl, trivial⟩ ?_
          refine N.then ?_
          refine E.condF rfl ?_
          refine E.skip ?_
          refine N.blk ?_
          refine N.then ?_
          refine E.region ?_
          refine X.mv rfl rfl rfl rfl rfl ?_
          refine X.add rfl rfl rfl rfl rfl rfl (by omega) ?_
          refine X.asg rfl rfl rfl rfl rfl ?_
          refine X.done [(2, _), (3, _), (4, _), (7, _), (9, _), (10, _), (85, _), (86, _), (87, _), (88, _), (91, _), (92, _), (93, _), (94, _), (95, _), (11, _), (96, _), (97, _), (98, _), (12, _), (100, _), (101, _), (102, _), (99, _), (103, _), (104, _), (13, _), (14, _), (105, _), (106, _), (107, _), (108, _), (109, _), (110, _), (111, _), (112, _), (113, _), (120, _), (121, _), (122, _), (123, _), (124, _), (125, _), (126, _), (127, _), (128, _), (129, _), (130, _), (131, _), (132, _), (133, _), (134, _), (135, _), (136, _), (137, _), (138, _), (139, _), (140, _), (141, _), (89, _), (90, _)] ⟨rfl, rfl, rfl, rfl, rfl, rfl, rfl, rfl, rfl, rfl, rfl, rfl, rfl, rfl, rfl, rfl, rfl, rfl, rfl, rfl, rfl, rfl, rfl, rfl, rfl, rfl, rfl, rfl, rfl, rfl, rfl, rfl, rfl, rfl, rfl, rfl, rfl, rfl, rfl, rfl, rfl, rfl, rfl, rfl, rfl, rfl, rfl, rfl, rfl, rfl, rfl, rfl, rfl, rfl, rfl, rfl, rfl, rfl, rfl, rfl, rfl, trivial⟩ ?_
          exact N.next (G := fun (k : Nat) => _) (k + 1) ⟨rfl, rfl, rfl, rfl, by rw [offs_succ ht, hat, htn]; rfl, rfl, trivial⟩ ⟨by omega, by rw [offs_succ ht, hat, htn]; exact hR10, M10, ho10⟩ (by show ts.length - (k + 1) < ts.length - k; omega)
      · refine E.exit ?_
        refine N.thenX ?_
        refine N.loopX ?_
        refine N.blkX ?_
        refine N.then ?_
        refine E.seq ?_
        have hke : k = ts.length := by omega
        have hlen : (L : Int) = (at9 : Int) := by rw [← hat, hke, S3.dec.all]
        refine E.region ?_
        refine X.mv rfl rfl rfl rfl rfl ?_
        refine X.call rfl rfl rfl rfl rfl Try.cl20 (wlen_ct p sv x L H8 M8.wr (by omega)) ?_
        rintro _ H14 ⟨rfl, eH14⟩
        obtain rfl := eH14.symm
        refine X.mv rfl rfl rfl rfl rfl ?_
        refine X.eqlT rfl rfl rfl rfl rfl rfl (hlen) ?_
        refine X.mv rfl rfl rfl rfl rfl ?_
        refine X.mv rfl rfl rfl rfl rfl ?_
        refine X.call rfl rfl rfl rfl rfl Try.cl21 (left_ct r _ at9 H8 hR8 (by omega)) ?_
        rintro _ H15 ⟨rfl, eH15⟩
        obtain rfl := eH15.symm
        refine X.lssT rfl rfl rfl rfl rfl rfl (by omega) ?_
        refine X.pickT rfl rfl rfl rfl rfl rfl ?_
        refine X.mv rfl rfl rfl rfl rfl ?_
        refine X.call rfl rfl rfl rfl rfl Try.cl11 (known_ct H8) ?_
        rintro _ HK ⟨rfl, hkK⟩
        refine X.pickT rfl rfl rfl rfl rfl rfl ?_
        refine X.asg rfl rfl rfl rfl rfl ?_
        refine X.done [(2, _)] ⟨rfl, trivial⟩ ?_
        refine N.then ?_
        refine E.ret ?_
        exact N.retH [_] ⟨_, _, rfl, rfl, rfl⟩ ⟨rfl, M8.kp.trans hkK (by simp)⟩
  · refine X.mv rfl rfl rfl rfl rfl ?_
    refine X.skip rfl rfl rfl ?_
    refine X.skip rfl rfl rfl ?_
    refine X.pickF rfl rfl rfl rfl rfl rfl ?_
    refine X.done [(0, _), (2, _), (3, _), (4, _), (5, _), (18, _), (19, _), (20, _), (21, _), (22, _), (23, _), (24, _), (25, _)] ⟨rfl, rfl, rfl, rfl, rfl, rfl, rfl, rfl, rfl, rfl, rfl, rfl, rfl, trivial⟩ ?_
    refine N.then ?_
    refine E.condF rfl ?_
    refine E.exit ?_
    refine N.thenX ?_
    refine N.loopX ?_
    refine N.blkX ?_
    refine N.then ?_
    refine E.seq ?_
    refine E.region ?_
    refine X.mv rfl rfl rfl rfl rfl ?_
    refine X.call rfl rfl rfl rfl rfl Try.cl16 (text_ct p sv x L H3 S3.wm.wr (by omega)) ?_
    rintro _ H6 ⟨rfl, hk6⟩
    have hdl := digs_len x ((L + 7) / 8)
    refine X.call rfl rfl rfl rfl rfl Try.cl15 (new_ct (digs x ((L + 7) / 8)) 0 H6 (by omega) (by omega)) ?_
    rintro _ H7 ⟨r, rfl, hr7, hR7, hk7⟩
    have M7 := (S3.wm.keep hk6 (by simp) (by simp)).keep hk7 (by simp) (by simp)
    have ho7 := (S3.own.keep hk6 (by simp)).keep hk7 (by simp)
    have hrw : r ∉ p :: blk sv := fun h => by have := (S3.wm.keep hk6 (by simp) (by simp)).wr.blks r h; omega
    have hrt : r ∉ blk (.slice ta ts.length tc) := fun h => by have := (S3.own.keep hk6 (by simp)).lt r h; omega
    have hrn : H.size ≤ r := Nat.le_trans (Nat.le_trans S3.wm.kp.size hk6.size) hr7
    have hxn : num (digs x ((L + 7) / 8)) = x := by rw [digs_num]; exact Nat.mod_eq_of_lt (lt_up S3.wm.wr.lt (by omega))
    refine X.mv rfl rfl rfl rfl rfl ?_
    refine X.extract rfl rfl rfl rfl rfl rfl ?_
    refine X.extract rfl rfl rfl rfl rfl rfl ?_
    refine X.asg rfl rfl rfl rfl rfl ?_
    refine X.asg rfl rfl rfl rfl rfl ?_
    refine X.done [(2, _), (3, _), (4, _), (7, _), (8, _)] ⟨rfl, rfl, rfl, rfl, rfl, trivial⟩ ?_
    refine N.then ?_
    refine E.seq ?_
    refine E.seq ?_
    refine E.region ?_
    refine X.mv rfl rfl rfl rfl rfl ?_
    refine X.neqF rfl rfl rfl rfl rfl rfl (fun h => h rfl) ?_
    refine X.mv rfl rfl rfl rfl rfl ?_
    refine X.mv rfl rfl rfl rfl rfl ?_
    refine X.eqlP1 rfl rfl rfl rfl rfl rfl Try.underlying33 ?_
    refine X.pickF rfl rfl rfl rfl rfl rfl ?_
    refine X.done [(2, _), (3, _), (4, _), (7, _), (84, _)] ⟨rfl, rfl, rfl, rfl, rfl, trivial⟩ ?_
    refine N.then ?_
    refine E.condF rfl ?_
    refine E.skip ?_
    refine N.then ?_
    refine E.seq ?_
    refine E.region ?_
    refine X.asg rfl rfl rfl rfl rfl ?_
    refine X.done [(2, _), (3, _), (4, _), (7, _), (9, _)] ⟨rfl, rfl, rfl, rfl, rfl, trivial⟩ ?_
    refine N.then ?_
    refine E.seq ?_
    refine E.seq ?_
    refine E.region ?_
    refine X.asg rfl rfl rfl rfl rfl ?_
    refine X.done [(2, _), (3, _), (4, _), (7, _), (9, _), (10, _)] ⟨rfl, rfl, rfl, rfl, rfl, rfl, trivial⟩ ?_
    refine N.then ?_
    refine E.block ?_
    refine E.loop (fun (k : Nat) => [(2, .bool false), (3, ptr p), (4, .slice ta ts.length tc), (7, ptr r), (9, i64 (offs ts k)), (10, i64 k)]) (fun (k : Nat) H' => k ≤ ts.length ∧ Rdr H' r (digs x ((L + 7) / 8)) (offs ts k) ∧ WM H H' p sv x L ∧ Own H' 31 4 (.slice ta ts.length tc) ts.length (ts.flatMap opa)) (fun (k : Nat) => ts.length - k) 0 ⟨rfl, rfl, rfl, rfl, rfl, rfl, trivial⟩ ⟨Nat.zero_le _, hR7, M7, ho7⟩ ?_
    rintro k H8 ⟨hk, hR8, M8, ho8⟩
    obtain ⟨at9, hat⟩ : ∃ at9, offs ts k = at9 := ⟨_, rfl⟩
    rw [hat] at hR8 ⊢
    have hatL : at9 ≤ L := by rw [← hat, ← S3.dec.all]; exact offs_mono ts hk
    refine E.seq ?_
    refine E.seq ?_
    refine E.region ?_
    refine X.mv rfl rfl rfl rfl rfl ?_
    refine X.mv rfl rfl rfl rfl rfl ?_
    refine X.lenS rfl rfl rfl rfl rfl Try.underlying26 ?_
    refine X.lss rfl rfl rfl rfl rfl rfl ?_
    refine X.done [(2, _), (3, _), (4, _), (7, _), (9, _), (10, _), (85, _), (86, _), (87, _), (88, _)] ⟨rfl, rfl, rfl, rfl, rfl, rfl, rfl, rfl, rfl, rfl, trivial⟩ ?_
    refine N.then ?_
    refine E.condD rfl (fun hc => ?_) (fun hc => ?_)
    · refine E.skip ?_
      refine N.then ?_
      refine E.seq ?_
      refine E.block ?_
      refine E.seq ?_
      obtain ⟨t, ht⟩ : ∃ t, ts[k]? = some t := ⟨_, List.getElem?_eq_getElem (by omega)⟩
      obtain ⟨⟨v', n, hg⟩, hev, hoff⟩ := S3.dec.each k t ht
      have htn : t.n.toNat = n := by rw [hg.2.1]; rfl
      rw [hat, htn] at hev hoff
      obtain ⟨bb, oo, cc, cs, ct, fz, hv, hbb, hel⟩ := ho8.rd.get opa_len ht (by decide)
      obtain ⟨rfl, _, rfl⟩ := Value.slice.inj hv
      have hk2 : cs[oo + k * 4 + 2]? = some (i64 n) := by rw [← hg.2.1]; exact hel 2 _ rfl
      have hevl := ev_lt hg
      have hpn : 2 ^ n ≤ 2 ^ 32 := Nat.pow_le_pow_right (by omega) hg.2.2.1
      have hTT : t.k = 1 → turnV (ev t) n = v' := fun h1 => by
        rw [turnV_of _ _ (by omega) hg.2.2.1]
        unfold ev
        rw [if_pos h1, hg.1, hg.2.1]
        show turn (turn v' n) n = v'
        rw [turn_turn, Nat.mod_eq_of_lt hg.2.2.2.1]
      have hE0 : t.k ≠ 1 → ev t = v' := fun h1 => by unfold ev; rw [if_neg h1, hg.1]; rfl
      refine E.region ?_
      refine X.mv rfl rfl rfl rfl rfl ?_
      refine X.mv rfl rfl rfl rfl rfl ?_
      refine X.ixA rfl rfl rfl rfl rfl rfl Try.underlying26 Try.sz31 (by omega) ?_
      refine X.fld rfl rfl rfl rfl rfl Try.off31_2 ?_
      refine X.ld rfl rfl rfl rfl Try.ag3 (hbb) (hk2) ?_
      refine X.asg rfl rfl rfl rfl rfl ?_
      refine X.done [(2, _), (3, _), (4, _), (7, _), (9, _), (10, _), (85, _), (86, _), (87, _), (88, _), (91, _), (92, _), (93, _), (94, _), (95, _), (11, _)] ⟨rfl, rfl, rfl, rfl, rfl, rfl, rfl, rfl, rfl, rfl, rfl, rfl, rfl, rfl, rfl, rfl, trivial⟩ ?_
      refine N.then ?_
      refine E.seq ?_
      refine E.region ?_
      refine X.mv rfl rfl rfl rfl rfl ?_
      refine X.mv rfl rfl rfl rfl rfl ?_
      refine X.call rfl rfl rfl rfl rfl Try.cl17 (peek_ct r _ at9 H8 hR8 (by omega) n hg.2.2.1) ?_
      rintro _ H9 ⟨rfl, eH9⟩
      obtain rfl := eH9.symm
      rw [hxn, hev]
      refine X.asg rfl rfl rfl rfl rfl ?_
      refine X.done [(2, _), (3, _), (4, _), (7, _), (9, _), (10, _), (85, _), (86, _), (87, _), (88, _), (91, _), (92, _), (93, _), (94, _), (95, _), (11, _), (96, _), (97, _), (98, _), (12, _)] ⟨rfl, rfl, rfl, rfl, rfl, rfl, rfl, rfl, rfl, rfl, rfl, rfl, rfl, rfl, rfl, rfl, rfl, rfl, rfl, rfl, trivial⟩ ?_
      refine N.then ?_
      refine E.seq ?_
      refine E.region ?_
      refine X.mv rfl rfl rfl rfl rfl ?_
      refine X.mv rfl rfl rfl rfl rfl ?_
      refine X.call rfl rfl rfl rfl rfl Try.cl18 (bits_ct r _ at9 H8 hR8 (by omega) n hg.2.2.1 (by omega)) ?_
      rintro _ H10 ⟨rfl, hR10, hk10⟩
      rw [hxn, hev]
      have M10 := M8.keep hk10 (fun b hb h => hrw (by simp at h; exact h ▸ hb)) (by simp; exact hrn)
      have ho10 := ho8.keep hk10 (fun b hb h => hrt (by simp at h; exact h ▸ hb))
      obtain ⟨bb2, oo2, cc2, cs2, ct2, fz2, hv2, hbb2, hel2⟩ := ho10.rd.get opa_len ht (by decide)
      obtain ⟨e1, _, _⟩ := Value.slice.inj (hv.symm.trans hv2)
      obtain ⟨rfl, rfl, _⟩ := Addr.mk.inj (Option.some.inj e1)
      have hk0 := hel2 0 _ rfl
      have hk1 := hel2 1 _ rfl
      refine X.mv rfl rfl rfl rfl rfl ?_
      refine X.extract rfl rfl rfl rfl rfl rfl ?_
      refine X.extract rfl rfl rfl rfl rfl rfl ?_
      refine X.asg rfl rfl rfl rfl rfl ?_
      refine X.asg rfl rfl rfl rfl rfl ?_
      refine X.done [(2, _), (3, _), (4, _), (7, _), (9, _), (10, _), (85, _), (86, _), (87, _), (88, _), (91, _), (92, _), (93, _), (94, _), (95, _), (11, _), (96, _), (97, _), (98, _), (12, _), (100, _), (101, _), (102, _), (99, _), (103, _), (104, _), (13, _), (14, _)] ⟨rfl, rfl, rfl, rfl, rfl, rfl, rfl, rfl, rfl, rfl, rfl, rfl, rfl, rfl, rfl, rfl, rfl, rfl, rfl, rfl, rfl, rfl, rfl, rfl, rfl, rfl, rfl, rfl, trivial⟩ ?_
      refine N.then ?_
      refine E.seq ?_
      refine E.region ?_
      refine X.mv rfl rfl rfl rfl rfl ?_
      refine X.mv rfl rfl rfl rfl rfl ?_
      refine X.addE (zz := ((at9 + n : Nat) : Int)) rfl rfl rfl rfl rfl rfl (by rw [IntWalk.i64_in _ (by omega)] <;> omega) ?_
      refine X.asg rfl rfl rfl rfl rfl ?_
      refine X.done [(2, _), (3, _), (4, _), (7, _), (9, _), (10, _), (85, _), (86, _), (87, _), (88, _), (91, _), (92, _), (93, _), (94, _), (95, _), (11, _), (96, _), (97, _), (98, _), (12, _), (100, _), (101, _), (102, _), (99, _), (103, _), (104, _), (13, _), (14, _), (105, _), (106, _), (107, _)] ⟨rfl, rfl, rfl, rfl, rfl, rfl, rfl, rfl, rfl, rfl, rfl, rfl, rfl, rfl, rfl, rfl, rfl, rfl, rfl, rfl, rfl, rfl, rfl, rfl, rfl, rfl, rfl, rfl, rfl, rfl, rfl, trivial⟩ ?_
      refine N.then ?_
      refine E.seq ?_
      refine E.seq ?_
      refine E.region ?_
      refine X.mv rfl rfl rfl rfl rfl ?_
      refine X.mv rfl rfl rfl rfl rfl ?_
      refine X.ixA rfl rfl rfl rfl rfl rfl Try.underlying26 Try.sz31 (by omega) ?_
      refine X.fld rfl rfl rfl rfl rfl Try.off31_0 ?_
      refine X.ld rfl rfl rfl rfl Try.ag3 (hbb2) (hk0) ?_
      refine X.eql rfl rfl rfl rfl rfl rfl ?_
      refine X.done [(2, _), (3, _), (4, _), (7, _), (9, _), (10, _), (85, _), (86, _), (87, _), (88, _), (91, _), (92, _), (93, _), (94, _), (95, _), (11, _), (96, _), (97, _), (98, _), (12, _), (100, _), (101, _), (102, _), (99, _), (103, _), (104, _), (13, _), (14, _), (105, _), (106, _), (107, _), (108, _), (109, _), (110, _), (111, _), (112, _), (113, _)] ⟨rfl, rfl, rfl, rfl, rfl, rfl, rfl, rfl, rfl, rfl, rfl, rfl, rfl, rfl, rfl, rfl, rfl, rfl, rfl, rfl, rfl, rfl, rfl, rfl, rfl, rfl, rfl, rfl, rfl, rfl, rfl, rfl, rfl, rfl, rfl, rfl, rfl, trivial⟩ ?_
      refine N.then ?_
      refine E.condD rfl (fun hc => ?_) (fun hc => ?_)
      · refine E.seq ?_
        refine E.region ?_
        refine X.mv rfl rfl rfl rfl rfl ?_
        refine X.mv rfl rfl rfl rfl rfl ?_
        refine X.call rfl rfl rfl rfl rfl Try.cl9 (turn_ct (ev t) n H10) ?_
        rintro _ H11 ⟨rfl, eH11⟩
        obtain rfl := eH11.symm
        rw [hTT (by omega)]
        refine X.asg rfl rfl rfl rfl rfl ?_
        refine X.done [(2, _), (3, _), (4, _), (7, _), (9, _), (10, _), (85, _), (86, _), (87, _), (88, _), (91, _), (92, _), (93, _), (94, _), (95, _), (11, _), (96, _), (97, _), (98, _), (12, _), (100, _), (101, _), (102, _), (99, _), (103, _), (104, _), (13, _), (14, _), (105, _), (106, _), (107, _), (108, _), (109, _), (110, _), (111, _), (112, _), (113, _), (114, _), (115, _), (116, _)] ⟨rfl, rfl, rfl, rfl, rfl, rfl, rfl, rfl, rfl, rfl, rfl, rfl, rfl, rfl, rfl, rfl, rfl, rfl, rfl, rfl, rfl, rfl, rfl, rfl, rfl, rfl, rfl, rfl, rfl, rfl, rfl, rfl, rfl, rfl, rfl, rfl, rfl, rfl, rfl, rfl, trivial⟩ ?_
        refine N.then ?_
        refine E.region ?_
        refine X.mv rfl rfl rfl rfl rfl ?_
        refine X.mv rfl rfl rfl rfl rfl ?_
        refine X.call rfl rfl rfl rfl rfl Try.cl9 (turn_ct (ev t) n H10) ?_
        rintro _ H12 ⟨rfl, eH12⟩
        obtain rfl := eH12.symm
        rw [hTT (by omega)]
        refine X.asg rfl rfl rfl rfl rfl ?_
        refine X.done [(2, _), (3, _), (4, _), (7, _), (9, _), (10, _), (85, _), (86, _), (87, _), (88, _), (91, _), (92, _), (93, _), (94, _), (95, _), (11, _), (96, _), (97, _), (98, _), (12, _), (100, _), (101, _), (102, _), (99, _), (103, _), (104, _), (13, _), (14, _), (105, _), (106, _), (107, _), (108, _), (109, _), (110, _), (111, _), (112, _), (113, _), (114, _), (115, _), (116, _), (117, _), (118, _), (119, _)] ⟨rfl, rfl, rfl, rfl, rfl, rfl, rfl, rfl, rfl, rfl, rfl, rfl, rfl, rfl, rfl, rfl, rfl, rfl, rfl, rfl, rfl, rfl, rfl, rfl, rfl, rfl, rfl, rfl, rfl, rfl, rfl, rfl, rfl, rfl, rfl, rfl, rfl, rfl, rfl, rfl, rfl, rfl, rfl, trivial⟩ ?_
        refine N.then ?_
        refine E.seq ?_
        have hv13 : ((v' : Nat) : Int) = t.v := hg.1.symm
        have hX29 := hE0
        refine E.region ?_
        refine X.mv rfl rfl rfl rfl rfl ?_
        refine X.mv rfl rfl rfl rfl rfl ?_
        refine X.mv rfl rfl rfl rfl rfl ?_
        refine X.ixA rfl rfl rfl rfl rfl rfl Try.underlying26 Try.sz31 (by omega) ?_
        refine X.fld rfl rfl rfl rfl rfl Try.off31_1 ?_
        refine X.ld rfl rfl rfl rfl Try.ag3 (hbb2) (hk1) ?_
        refine X.neqF rfl rfl rfl rfl rfl rfl (fun h => h (by first | exact hv13 | (rw [hE0 (by omega)]; exact hv13))) ?_
        refine X.mv rfl rfl rfl rfl rfl ?_
        refine X.mv rfl rfl rfl rfl rfl ?_
        refine X.mv rfl rfl rfl rfl rfl ?_
        refine X.neqF rfl rfl rfl rfl rfl rfl (fun h => h rfl) ?_
        refine X.pickF rfl rfl rfl rfl rfl rfl ?_
        refine X.mv rfl rfl rfl rfl rfl ?_
        refine X.mv rfl rfl rfl rfl rfl ?_
        refine X.neqF rfl rfl rfl rfl rfl rfl (fun h => h rfl) ?_
        refine X.pickF rfl rfl rfl rfl rfl rfl ?_
        refine X.mv rfl rfl rfl rfl rfl ?_
        refine X.mv rfl rfl rfl rfl rfl ?_
        refine X.call rfl rfl rfl rfl rfl Try.cl19 (at_ct r _ _ H10 hR10 (by omega)) ?_
        rintro _ H13 ⟨rfl, eH13⟩
        obtain rfl := eH13.symm
        refine X.mv rfl rfl rfl rfl rfl ?_
        refine X.neqF rfl rfl rfl rfl rfl rfl (fun h => h rfl) ?_
        refine X.pickF rfl rfl rfl rfl rfl rfl ?_
        refine X.done [(2, _), (3, _), (4, _), (7, _), (9, _), (10, _), (85, _), (86, _), (87, _), (88, _), (91, _), (92, _), (93, _), (94, _), (95, _), (11, _), (96, _), (97, _), (98, _), (12, _), (100, _), (101, _), (102, _), (99, _), (103, _), (104, _), (13, _), (14, _), (105, _), (106, _), (107, _), (108, _), (109, _), (110, _), (111, _), (112, _), (113, _), (114, _), (115, _), (116, _), (117, _), (118, _), (119, _), (120, _), (121, _), (122, _), (123, _), (124, _), (125, _), (126, _), (127, _), (128, _), (129, _), (130, _), (131, _), (132, _), (133, _), (134, _), (135, _), (136, _), (137, _), (138, _), (139, _), (140, _), (141, _)] ⟨rfl, rfl, rfl, rfl, rfl, rfl, rfl, rfl, rfl, rfl, rfl, rfl, rfl, rfl, rfl, rfl, rfl, rfl, rfl, rfl, rfl, rfl, rfl, rfl, rfl, rfl, rfl, rfl, rfl, rfl, rfl, rfl, rfl, rfl, rfl, rfl, rfl, rfl, rfl, rfl, rfl, rfl, rfl, rfl, rfl, rfl, rfl, rfl, rfl, rfl, rfl, rfl, rfl, rfl, rfl, rfl, rfl, rfl, rfl, rfl, rfl, rfl, rfl, rfl, rfl, trivial⟩ ?_
        refine N.then ?_
        refine E.condF rfl ?_
        refine E.skip ?_
        refine N.blk ?_
        refine N.then ?_
        refine E.region ?_
        refine X.mv rfl rfl rfl rfl rfl ?_
        refine X.add rfl rfl rfl rfl rfl rfl (by omega) ?_
        refine X.asg rfl rfl rfl rfl rfl ?_
        refine X.done [(2, _), (3, _), (4, _), (7, _), (9, _), (10, _), (85, _), (86, _), (87, _), (88, _), (91, _), (92, _), (93, _), (94, _), (95, _), (11, _), (96, _), (97, _), (98, _), (12, _), (100, _), (101, _), (102, _), (99, _), (103, _), (104, _), (13, _), (14, _), (105, _), (106, _), (107, _), (108, _), (109, _), (110, _), (111, _), (112, _), (113, _), (114, _), (115, _), (116, _), (117, _), (118, _), (119, _), (120, _), (121, _), (122, _), (123, _), (124, _), (125, _), (126, _), (127, _), (128, _), (129, _), (130, _), (131, _), (132, _), (133, _), (134, _), (135, _), (136, _), (137, _), (138, _), (139, _), (140, _), (141, _), (89, _), (90, _)] ⟨rfl, rfl, rfl, rfl, rfl, rfl, rfl, rfl, rfl, rfl, rfl, rfl, rfl, rfl, rfl, rfl, rfl, rfl, rfl, rfl, rfl, rfl, rfl, rfl, rfl, rfl, rfl, rfl, rfl, rfl, rfl, rfl, rfl, rfl, rfl, rfl, rfl, rfl, rfl, rfl, rfl, rfl, rfl, rfl, rfl, rfl, rfl, rfl, rfl, rfl, rfl, rfl, rfl, rfl, rfl, rfl, rfl, rfl, rfl, rfl, rfl, rfl, rfl, rfl, rfl, rfl, rfl, trivial⟩ ?_
        exact N.next (G := fun (k : Nat) => _) (k + 1) ⟨rfl, rfl, rfl, rfl, by rw [offs_succ ht, hat, htn]; rfl, rfl, trivial⟩ ⟨by omega, by rw [offs_succ ht, hat, htn]; exact hR10, M10, ho10⟩ (by show ts.length - (k + 1) < ts.length - k; omega)
      · refine E.skip ?_
        refine N.then ?_
        refine E.seq ?_
        have hv13 : ((v' : Nat) : Int) = t.v := hg.1.symm
        have hX29 := hE0
        refine E.region ?_
        refine X.mv rfl rfl rfl rfl rfl ?_
        refine X.mv rfl rfl rfl rfl rfl ?_
        refine X.mv rfl rfl rfl rfl rfl ?_
        refine X.ixA rfl rfl rfl rfl rfl rfl Try.underlying26 Try.sz31 (by omega) ?_
        refine X.fld rfl rfl rfl rfl rfl Try.off31_1 ?_
        refine X.ld rfl rfl rfl rfl Try.ag3 (hbb2) (hk1) ?_
        refine X.neqF rfl rfl rfl rfl rfl rfl (fun h => h (by first | exact hv13 | (rw [hE0 (by omega)]; exact hv13))) ?_
        refine X.mv rfl rfl rfl rfl rfl ?_
        refine X.mv rfl rfl rfl rfl rfl ?_
        refine X.mv rfl rfl rfl rfl rfl ?_
        refine X.neqF rfl rfl rfl rfl rfl rfl (fun h => h rfl) ?_
        refine X.pickF rfl rfl rfl rfl rfl rfl ?_
        refine X.mv rfl rfl rfl rfl rfl ?_
        refine X.mv rfl rfl rfl rfl rfl ?_
        refine X.neqF rfl rfl rfl rfl rfl rfl (fun h => h rfl) ?_
        refine X.pickF rfl rfl rfl rfl rfl rfl ?_
        refine X.mv rfl rfl rfl rfl rfl ?_
        refine X.mv rfl rfl rfl rfl rfl ?_
        refine X.call rfl rfl rfl rfl rfl Try.cl19 (at_ct r _ _ H10 hR10 (by omega)) ?_
        rintro _ H13 ⟨rfl, eH13⟩
        obtain rfl := eH13.symm
        refine X.mv rfl rfl rfl rfl rfl ?_
        refine X.neqF rfl rfl rfl rfl rfl rfl (fun h => h rfl) ?_
        refine X.pickF rfl rfl rfl rfl rfl rfl ?_
        refine X.done [(2, _), (3, _), (4, _), (7, _), (9, _), (10, _), (85, _), (86, _), (87, _), (88, _), (91, _), (92, _), (93, _), (94, _), (95, _), (11, _), (96, _), (97, _), (98, _), (12, _), (100, _), (101, _), (102, _), (99, _), (103, _), (104, _), (13, _), (14, _), (105, _), (106, _), (107, _), (108, _), (109, _), (110, _), (111, _), (112, _), (113, _), (120, _), (121, _), (122, _), (123, _), (124, _), (125, _), (126, _), (127, _), (128, _), (129, _), (130, _), (131, _), (132, _), (133, _), (134, _), (135, _), (136, _), (137, _), (138, _), (139, _), (140, _), (141, _)] ⟨rfl, rfl, rfl, rfl, rfl, rfl, rfl, rfl, rfl, rfl, rfl, rfl, rfl, rfl, rfl, rfl, rfl, rfl, rfl, rfl, rfl, rfl, rfl, rfl, rfl, rfl, rfl, rfl, rfl, rfl, rfl, rfl, rfl, rfl, rfl, rfl, rfl, rfl, rfl, rfl, rfl, rfl, rfl, rfl, rfl, rfl, rfl, rfl, rfl, rfl, rfl, rfl, rfl, rfl, rfl, rfl, rfl, rfl, rfl, trivial⟩ ?_
        refine N.then ?_
        refine E.condF rfl ?_
        refine E.skip ?_
        refine N.blk ?_
        refine N.then ?_
        refine E.region ?_
        refine X.mv rfl rfl rfl rfl rfl ?_
        refine X.add rfl rfl rfl rfl rfl rfl (by omega) ?_
        refine X.asg rfl rfl rfl rfl rfl ?_
        refine X.done [(2, _), (3, _), (4, _), (7, _), (9, _), (10, _), (85, _), (86, _), (87, _), (88, _), (91, _), (92, _), (93, _), (94, _), (95, _), (11, _), (96, _), (97, _), (98, _), (12, _), (100, _), (101, _), (102, _), (99, _), (103, _), (104, _), (13, _), (14, _), (105, _), (106, _), (107, _), (108, _), (109, _), (110, _), (111, _), (112, _), (113, _), (120, _), (121, _), (122, _), (123, _), (124, _), (125, _), (126, _), (127, _), (128, _), (129, _), (130, _), (131, _), (132, _), (133, _), (134, _), (135, _), (136, _), (137, _), (138, _), (139, _), (140, _), (141, _), (89, _), (90, _)] ⟨rfl, rfl, rfl, rfl, rfl, rfl, rfl, rfl, rfl, rfl, rfl, rfl, rfl, rfl, rfl, rfl, rfl, rfl, rfl, rfl, rfl, rfl, rfl, rfl, rfl, rfl, rfl, rfl, rfl, rfl, rfl, rfl, rfl, rfl, rfl, rfl, rfl, rfl, rfl, rfl, rfl, rfl, rfl, rfl, rfl, rfl, rfl, rfl, rfl, rfl, rfl, rfl, rfl, rfl, rfl, rfl, rfl, rfl, rfl, rfl, rfl, trivial⟩ ?_
        exact N.next (G := fun (k : Nat) => _) (k + 1) ⟨rfl, rfl, rfl, rfl, by rw [offs_succ ht, hat, htn]; rfl, rfl, trivial⟩ ⟨by omega, by rw [offs_succ ht, hat, htn]; exact hR10, M10, ho10⟩ (by show ts.length - (k + 1) < ts.length - k; omega)
    · refine E.exit ?_
      refine N.thenX ?_
      refine N.loopX ?_
      refine N.blkX ?_
      refine N.then ?_
      refine E.seq ?_
      have hke : k = ts.length := by omega
      have hlen : (L : Int) = (at9 : Int) := by rw [← hat, hke, S3.dec.all]
      refine E.region ?_
      refine X.mv rfl rfl rfl rfl rfl ?_
      refine X.call rfl rfl rfl rfl rfl Try.cl20 (wlen_ct p sv x L H8 M8.wr (by omega)) ?_
      rintro _ H14 ⟨rfl, eH14⟩
      obtain rfl := eH14.symm
      refine X.mv rfl rfl rfl rfl rfl ?_
      refine X.eqlT rfl rfl rfl rfl rfl rfl (hlen) ?_
      refine X.mv rfl rfl rfl rfl rfl ?_
      refine X.mv rfl rfl rfl rfl rfl ?_
      refine X.call rfl rfl rfl rfl rfl Try.cl21 (left_ct r _ at9 H8 hR8 (by omega)) ?_
      rintro _ H15 ⟨rfl, eH15⟩
      obtain rfl := eH15.symm
      refine X.lssT rfl rfl rfl rfl rfl rfl (by omega) ?_
      refine X.pickT rfl rfl rfl rfl rfl rfl ?_
      refine X.mv rfl rfl rfl rfl rfl ?_
      refine X.call rfl rfl rfl rfl rfl Try.cl11 (known_ct H8) ?_
      rintro _ HK ⟨rfl, hkK⟩
      refine X.pickT rfl rfl rfl rfl rfl rfl ?_
      refine X.asg rfl rfl rfl rfl rfl ?_
      refine X.done [(2, _)] ⟨rfl, trivial⟩ ?_
      refine N.then ?_
      refine E.ret ?_
      exact N.retH [_] ⟨_, _, rfl, rfl, rfl⟩ ⟨rfl, M8.kp.trans hkK (by simp)⟩

end Go.Proofs.Ytpengkmmgpoofaa