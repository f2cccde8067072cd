/- The walk: coins two by two. -/
import Derived.Test.YtjlelcfabfmiaaaW2
namespace Go.Proofs.Ytjlelcfabfmiaaa
open Go.SX Go.Hf
attribute [local irreducible] X E N Ct
set_option linter.unusedVariables false

theorem crow {H : Heap} {a : Option Addr} {c i : Nat} {l : List CE} {x y : CE} (h : CR H a c l) (hx : l[i]? = some x) (hy : l[i + 1]? = some y) :
    ∃ bb oo cs ct fz, a = some ⟨bb, oo, none⟩ ∧ H[bb]? = some (.cells (cs : List Value).toArray ct fz) ∧ cs[oo + i * 2 + 0]? = some (i64 x.w) ∧ cs[oo + i * 2 + 1]? = some x.v ∧ cs[oo + (i + 1) * 2 + 0]? = some (i64 y.w) ∧ cs[oo + (i + 1) * 2 + 1]? = some y.v := by
  obtain ⟨hl, a', c', he, hr⟩ := h.rd
  cases he
  rcases hr with hr | ⟨b, o, cs, ct, fz, rfl, hb, h3⟩
  · have h1 := flat_get cel cel_len l i x 0 (i64 x.w) hx rfl
    rw [hr] at h1; simp at h1
  · refine ⟨b, o, cs, ct, fz, rfl, hb, ?_, ?_, ?_, ?_⟩
    · rw [Nat.add_assoc]; exact h3 _ _ (flat_get cel cel_len l i x 0 _ hx rfl)
    · rw [Nat.add_assoc]; exact h3 _ _ (flat_get cel cel_len l i x 1 _ hx rfl)
    · rw [Nat.add_assoc]; exact h3 _ _ (flat_get cel cel_len l (i + 1) y 0 _ hy rfl)
    · rw [Nat.add_assoc]; exact h3 _ _ (flat_get cel cel_len l (i + 1) y 1 _ hy rfl)
theorem SymOK.sl {H : Heap} {x : CE} (h : SymOK H x) : ∃ a c, x.v = .slice a x.s.length c := by
  obtain ⟨_, a, c, e, _⟩ := h; exact ⟨a, c, e⟩
theorem nv_one (l : List Nat) : ∀ u ∈ nv l, u.oneCell' = true := by
  intro u hu; obtain ⟨x, _, rfl⟩ := List.mem_map.1 hu; rfl
theorem nv_app (a b : List Nat) : nv a ++ nv b = nv (a ++ b) := (List.map_append ..).symm
theorem Own.one {H : Heap} {e : TypeId} {sz n : Nat} {v : Value} {vs : List Value} (h : Own H e sz v n vs) : v.oneCell' = true := by
  obtain ⟨a, c, rfl⟩ := h.len; rfl
structure PS where
  i : Nat
  zs : List CE
  v : Value
theorem spec_get {l : List CE} {i : Nat} {x : CE} (h : l[i]? = some x) : (l.map spec)[i]? = some (spec x) := by rw [List.getElem?_map, h]; rfl
theorem zof {cs : List Value} : ∀ j v, cs[j]? = some v → cs[0 + j]? = some v := fun j v h => by rw [Nat.zero_add]; exact h
theorem rd_lt {H : Heap} {z : CE} (h : SymOK H z) : ∀ b ∈ blk z.v, b < H.size ∨ z.s = [] := by
  obtain ⟨hl, a, c, e, hr⟩ := h
  intro b hb
  rcases hr with hr | ⟨b', o, cs, ct, fz, rfl, hb', _⟩
  · right
    have := congrArg List.length hr
    simp at this; exact this
  · left
    rw [e] at hb
    simp [blk] at hb
    subst hb; exact lt_of hb'

theorem packets_ct (l : List CE) (a : Option Addr) (c : Nat) (H : Heap) (hX : CR H a c l) (hs : ∀ x ∈ l, SymOK H x) (hw : ∀ x ∈ l, 0 ≤ x.w ∧ x.w ≤ 1152921504606846976) (hsl : ∀ x ∈ l, x.s.length ≤ 1000000) (hlen : l.length ≤ 100000) : Ct Try.prog 19 #[.slice a l.length c] H fun v H' => ∃ zs : List CE, zs.map spec = pk (l.map spec) ∧ Own H' 40 2 v zs.length (zs.flatMap cel) ∧ (∀ z ∈ zs, SymOK H' z) ∧ Kp [] H H' := by
  refine Ct.into 50 Try.func19 rfl [(0, .slice a l.length c)] rfl ⟨rfl, trivial⟩ ?_
  refine E.seq ?_
  refine E.region ?_
  refine X.asg rfl rfl rfl rfl rfl ?_
  refine X.done [(0, _), (2, _)] ⟨rfl, rfl, trivial⟩ ?_
  refine N.then ?_
  refine E.seq ?_
  refine E.region ?_
  refine X.asg rfl rfl rfl rfl rfl ?_
  refine X.done [(0, _), (2, _), (3, _)] ⟨rfl, rfl, rfl, trivial⟩ ?_
  refine N.then ?_
  refine E.seq ?_
  refine E.seq ?_
  refine E.region ?_
  refine X.asg rfl rfl rfl rfl rfl ?_
  refine X.done [(0, _), (2, _), (3, _), (4, _)] ⟨rfl, rfl, rfl, rfl, trivial⟩ ?_
  refine N.then ?_
  refine E.block ?_
  refine E.loop (fun (q : PS) => [(0, .slice a l.length c), (2, .slice none 0 0), (3, q.v), (4, i64 q.i)]) (fun (q : PS) H' => q.i ≤ l.length ∧ Own H' 40 2 q.v q.zs.length (q.zs.flatMap cel) ∧ q.zs.map spec ++ pk ((l.map spec).drop q.i) = pk (l.map spec) ∧ (∀ z ∈ q.zs, SymOK H' z ∧ ∀ b ∈ blk z.v, b < H'.size ∧ b ∉ blk q.v) ∧ (∀ b ∈ blk q.v, H.size ≤ b) ∧ q.zs.length ≤ q.i ∧ Kp [] H H') (fun (q : PS) => l.length - q.i) ⟨0, [], .slice none 0 0⟩ ⟨rfl, rfl, rfl, rfl, trivial⟩ ⟨Nat.zero_le _, Own.nil _ _ _, rfl, by simp, by simp [blk], Nat.le_refl _, Kp.refl _ _⟩ ?_
  rintro ⟨i, zs, v⟩ H3 hJ
  dsimp only at hJ ⊢
  obtain ⟨hi, hO, heq, hzs, hvb, hzl, hkk⟩ := hJ
  refine E.seq ?_
  refine E.seq ?_
  refine E.region ?_
  refine X.mv rfl rfl rfl rfl rfl ?_
  refine X.addE (zz := ((i + 1 : Nat) : Int)) rfl rfl rfl rfl rfl rfl (by rw [IntWalk.i64_in _ (by omega)] <;> omega) ?_
  refine X.mv rfl rfl rfl rfl rfl ?_
  refine X.lenS rfl rfl rfl rfl rfl Try.underlying38 ?_
  refine X.lss rfl rfl rfl rfl rfl rfl ?_
  refine X.done [(0, _), (2, _), (3, _), (4, _), (6, _), (7, _), (8, _), (9, _), (10, _)] ⟨rfl, rfl, rfl, rfl, rfl, rfl, rfl, rfl, rfl, trivial⟩ ?_
  refine N.then ?_
  refine E.condD rfl (fun hc => ?_) (fun hc => ?_)
  · refine E.skip ?_
    refine N.then ?_
    refine E.seq ?_
    refine E.block ?_
    refine E.seq ?_
    have hi2 : i + 1 < l.length := by omega
    obtain ⟨x, hx⟩ : ∃ x, l[i]? = some x := ⟨_, List.getElem?_eq_getElem (by omega)⟩
    obtain ⟨y, hy⟩ : ∃ y, l[i + 1]? = some y := ⟨_, List.getElem?_eq_getElem hi2⟩
    obtain ⟨bb, oo, cs, ct, fz, hae, hbb, hc0, hc1, hc2, hc3⟩ := crow hX hx hy
    have hbH := lt_of hbb
    replace hbb := hkk.keep hbb (by simp)
    have hmx := List.mem_of_getElem? hx
    have hmy := List.mem_of_getElem? hy
    have hwx := hw x hmx
    have hwy := hw y hmy
    have hlx := hsl x hmx
    have hly := hsl y hmy
    have hsz := hkk.size
    obtain ⟨xa, xc, hxv⟩ := (hs x hmx).sl
    obtain ⟨ya, yc, hyv⟩ := (hs y hmy).sl
    have hk3 : Kp [] H3 H3 := Kp.refl _ _
    refine E.regionD (fun H' => H'[bb]? = some (.cells cs.toArray ct fz)) [(0, .pu), (1, .pu), (2, .pu), (3, .pu), (4, .st), (5, .pu), (6, .pu), (7, .pu), (8, .pu), (9, .pu), (10, .st), (11, .pu), (12, .pu), (13, .mk), (14, .mv)] Try.mixed (by kernel_rfl) (hbb) ?_
    refine X.mv rfl rfl rfl rfl rfl ?_
    refine X.mv rfl rfl rfl rfl rfl ?_
    refine X.ixAe rfl rfl rfl rfl rfl rfl Try.underlying38 Try.sz40 (hae) (by omega) ?_
    refine X.fld rfl rfl rfl rfl rfl Try.off40_0 ?_
    refine X.ld rfl rfl rfl rfl Try.ag3 (fun H' hF => hF) (hc0) ?_
    refine X.mv rfl rfl rfl rfl rfl ?_
    refine X.mv rfl rfl rfl rfl rfl ?_
    refine X.addE (zz := ((i + 1 : Nat) : Int)) rfl rfl rfl rfl rfl rfl (by rw [IntWalk.i64_in _ (by omega)] <;> omega) ?_
    refine X.ixAe rfl rfl rfl rfl rfl rfl Try.underlying38 Try.sz40 (hae) (by omega) ?_
    refine X.fld rfl rfl rfl rfl rfl Try.off40_0 ?_
    refine X.ld rfl rfl rfl rfl Try.ag3 (fun H' hF => hF) (hc2) ?_
    refine X.addE (zz := (x.w + y.w)) rfl rfl rfl rfl rfl rfl (by rw [IntWalk.i64_in _ (by omega)] <;> omega) ?_
    refine X.build (v := .agg ([i64 (x.w + y.w), .slice none 0 0] : List Value).toArray) rfl rfl rfl rfl rfl (fun _ => by kernel_rfl) ?_
    refine X.alloc (z := .agg ([.int .i64 0, .slice none 0 0] : List Value).toArray) (cs := [.int .i64 0, .slice none 0 0]) rfl rfl rfl rfl (by kernel_rfl) rfl ?_
    intro b5 H5 hn5 hb5 hk5
    have h5b : bb ≠ b5 := by have := hk3.size; omega
    replace hbb := hk5.keep hbb (by simp)
    have hs5 : H3.size ≤ b5 := Nat.le_trans hk3.size hn5
    replace hk3 := hk3.trans hk5 (by simp)
    first | refine ⟨hbb, ?_⟩ | skip
    refine X.stA rfl rfl rfl rfl rfl rfl (by simp [Value.oneCell']) Try.sz40 hb5 (Nat.le_refl _) ?_
    intro H6 hx6 hk6
    replace hbb := hk6.keep hbb (by simp; exact h5b)
    replace hb5 : H6[b5]? = some (.cells ([i64 (x.w + y.w), .slice none 0 0] : List Value).toArray 40 (0, 0)) := hx6
    replace hk3 := hk3.trans hk6 (by simp; exact hs5)
    refine X.done [(0, _), (2, _), (3, _), (4, _), (6, _), (7, _), (8, _), (9, _), (10, _), (13, _), (14, _), (15, _), (16, _), (17, _), (18, _), (19, _), (20, _), (21, _), (22, _), (23, _), (24, _), (25, _), (5, _)] ⟨rfl, rfl, rfl, rfl, rfl, rfl, rfl, rfl, rfl, rfl, rfl, rfl, rfl, rfl, rfl, rfl, rfl, rfl, rfl, rfl, rfl, rfl, rfl, trivial⟩ ?_
    refine N.then ?_
    refine E.seq ?_
    refine E.regionD (fun H' => H'[b5]? = some (.cells ([i64 (x.w + y.w), .slice none 0 0] : List Value).toArray 40 (0, 0)) ∧ H'[bb]? = some (.cells cs.toArray ct fz)) [(0, .pu), (1, .st), (2, .pu), (3, .pu), (4, .pu), (5, .pu), (6, .st), (7, .mv), (8, .pu), (9, .mv)] Try.mixed (by kernel_rfl) (⟨hb5, hbb⟩) ?_
    refine X.fld rfl rfl rfl rfl rfl Try.off40_1 ?_
    refine X.ld rfl rfl rfl rfl Try.ag22 (fun H' hF => hF.1) (rfl) ?_
    refine X.mv rfl rfl rfl rfl rfl ?_
    refine X.mv rfl rfl rfl rfl rfl ?_
    refine X.ixAe rfl rfl rfl rfl rfl rfl Try.underlying38 Try.sz40 (hae) (by omega) ?_
    refine X.fld rfl rfl rfl rfl rfl Try.off40_1 ?_
    refine X.ld rfl rfl rfl rfl Try.ag22 (fun H' hF => hF.2) (hc1) ?_
    refine X.app TI rfl rfl rfl rfl rfl rfl (Own.nil _ _ _) (by exact .inl (by rw [hxv]; have h := (hs x hmx).keep (hkk.trans hk3 (by simp)); unfold SymOK at h; rw [hxv] at h; exact h)) (.inl ⟨3, Try.underlying22, xa, xc, hxv⟩) (nv_one _) (by first | (simp only [maxLen]; omega) | omega) (by first | (simp only [maxLen]; omega) | omega) ?_
    intro v1 H7 hO1 hk7 hb7 hn7
    have h1n : ∀ b ∈ blk v1, b5 < b := fun b hb => hb7.elim (fun h => by rw [h] at hb; simp [blk] at hb) (fun h => Nat.lt_of_lt_of_le (lt_of hb5) (h b hb))
    have h1s : ∀ b ∈ blk v1, H3.size ≤ b := fun b hb => Nat.le_trans hs5 (Nat.le_of_lt (h1n b hb))
    replace hk7 : Kp [] _ _ := hk7
    replace hbb := hk7.keep hbb (by simp)
    replace hb5 := hk7.keep hb5 (by simp)
    replace hk3 := hk3.trans hk7 (by simp)
    rw [Nat.zero_add, List.nil_append] at hO1
    obtain ⟨va1, vc1, rfl⟩ := hO1.len
    refine X.fld rfl rfl rfl rfl rfl Try.off40_1 ?_
    refine X.st rfl rfl rfl rfl rfl rfl rfl Try.sz22 hb5 (by show 1 < 2; omega) ?_
    intro Hx hxb hkx
    replace hbb := hkx.keep hbb (by simp; exact h5b)
    replace hb5 := hxb
    replace hO1 := hO1.keep hkx (fun b hb h => absurd (h1n b hb) (by simp at h; subst h; omega))
    replace hk3 := hk3.trans hkx (by simp; exact hs5)
    refine X.done [(0, _), (2, _), (3, _), (4, _), (6, _), (7, _), (8, _), (9, _), (10, _), (13, _), (14, _), (15, _), (16, _), (17, _), (18, _), (19, _), (20, _), (21, _), (22, _), (23, _), (24, _), (25, _), (5, _), (26, _), (27, _), (28, _), (29, _), (30, _), (31, _), (32, _), (33, _), (34, _)] ⟨rfl, rfl, rfl, rfl, rfl, rfl, rfl, rfl, rfl, rfl, rfl, rfl, rfl, rfl, rfl, rfl, rfl, rfl, rfl, rfl, rfl, rfl, rfl, rfl, rfl, rfl, rfl, rfl, rfl, rfl, rfl, rfl, trivial⟩ ?_
    refine N.then ?_
    refine E.seq ?_
    refine E.regionD (fun H' => H'[b5]? = some (.cells ([i64 (x.w + y.w), .slice va1 x.s.length vc1] : List Value).toArray 40 (0, 0)) ∧ H'[bb]? = some (.cells cs.toArray ct fz)) [(0, .pu), (1, .st), (2, .pu), (3, .pu), (4, .pu), (5, .pu), (6, .pu), (7, .st), (8, .mv), (9, .pu), (10, .mv)] Try.mixed (by kernel_rfl) (⟨hb5, hbb⟩) ?_
    refine X.fld rfl rfl rfl rfl rfl Try.off40_1 ?_
    refine X.ld rfl rfl rfl rfl Try.ag22 (fun H' hF => hF.1) (rfl) ?_
    refine X.mv rfl rfl rfl rfl rfl ?_
    refine X.mv rfl rfl rfl rfl rfl ?_
    refine X.addE (zz := ((i + 1 : Nat) : Int)) rfl rfl rfl rfl rfl rfl (by rw [IntWalk.i64_in _ (by omega)] <;> omega) ?_
    refine X.ixAe rfl rfl rfl rfl rfl rfl Try.underlying38 Try.sz40 (hae) (by omega) ?_
    refine X.fld rfl rfl rfl rfl rfl Try.off40_1 ?_
    refine X.ld rfl rfl rfl rfl Try.ag22 (fun H' hF => hF.2) (hc3) ?_
    refine X.app TI rfl rfl rfl rfl rfl rfl (hO1) (by exact .inl (by rw [hyv]; have h := (hs y hmy).keep (hkk.trans hk3 (by simp)); unfold SymOK at h; rw [hyv] at h; exact h)) (.inl ⟨3, Try.underlying22, ya, yc, hyv⟩) (nv_one _) (by first | (simp only [maxLen]; omega) | omega) (by first | (simp only [maxLen]; omega) | omega) ?_
    intro v2 H7 hO2 hk7 hb7 hn7
    have h2s : ∀ b ∈ blk v2, H3.size ≤ b := fun b hb => hb7.elim (fun h => h1s b (h ▸ hb)) (fun h => Nat.le_trans hk3.size (h b hb))
    have h25 : b5 ∉ blk v2 := fun hb => hb7.elim (fun h => absurd (h1n b5 (h ▸ hb)) (by omega)) (fun h => absurd (h b5 hb) (by have := lt_of hb5; omega))
    replace hbb := hk7.keep hbb (fun h => absurd (h1s bb h) (by omega))
    replace hb5 := hk7.keep hb5 (fun h => absurd (h1n b5 h) (by omega))
    replace hk3 := hk3.trans hk7 (fun b hb => .inr (h1s b hb))
    rw [nv_app, ← List.length_append] at hO2
    obtain ⟨va2, vc2, rfl⟩ := hO2.len
    refine X.fld rfl rfl rfl rfl rfl Try.off40_1 ?_
    refine X.st rfl rfl rfl rfl rfl rfl rfl Try.sz22 hb5 (by show 1 < 2; omega) ?_
    intro Hx hxb hkx
    replace hbb := hkx.keep hbb (by simp; exact h5b)
    replace hb5 := hxb
    replace hO2 := hO2.keep hkx (fun b hb h => h25 (by simp at h; exact h ▸ hb))
    replace hk3 := hk3.trans hkx (by simp; exact hs5)
    refine X.done [(0, _), (2, _), (3, _), (4, _), (6, _), (7, _), (8, _), (9, _), (10, _), (13, _), (14, _), (15, _), (16, _), (17, _), (18, _), (19, _), (20, _), (21, _), (22, _), (23, _), (24, _), (25, _), (5, _), (26, _), (27, _), (28, _), (29, _), (30, _), (31, _), (32, _), (33, _), (34, _), (35, _), (36, _), (37, _), (38, _), (39, _), (40, _), (41, _), (42, _), (43, _), (44, _)] ⟨rfl, rfl, rfl, rfl, rfl, rfl, rfl, rfl, rfl, rfl, rfl, rfl, rfl, rfl, rfl, rfl, rfl, rfl, rfl, rfl, rfl, rfl, rfl, rfl, rfl, rfl, rfl, rfl, rfl, rfl, rfl, rfl, rfl, rfl, rfl, rfl, rfl, rfl, rfl, rfl, rfl, rfl, trivial⟩ ?_
    refine N.then ?_
    refine E.region ?_
    refine X.mv rfl rfl rfl rfl rfl ?_
    refine X.ldA rfl rfl rfl rfl Try.ag40 Try.sz40 (hb5) (vs := [i64 (x.w + y.w), (.slice va2 (x.s ++ y.s).length vc2)]) rfl zof ?_
    refine X.lit (e := 40) (cs := [i64 (x.w + y.w), (.slice va2 (x.s ++ y.s).length vc2)]) rfl rfl rfl rfl rfl (fun _ => by kernel_rfl) ?_
    intro b8 H8 hn8 hb8 hk8
    replace hk3 := hk3.trans hk8 (by simp)
    replace hO2 := hO2.keep hk8 (by simp)
    refine X.app TC rfl rfl rfl rfl rfl rfl (hO.keep hk3 (by simp)) (by exact .inl (rd_one (x := ⟨x.w + y.w, (.slice va2 (x.s ++ y.s).length vc2), x.s ++ y.s⟩) hb8)) (.inl ⟨40, Try.underlying38, _, _, rfl⟩) (one_cel ⟨x.w + y.w, (.slice va2 (x.s ++ y.s).length vc2), x.s ++ y.s⟩ (Own.one hO2)) (by first | (simp only [maxLen]; omega) | omega) (by first | (simp only [maxLen]; omega) | omega) ?_
    intro v9 H9 hO9 hk9 hb9 hn9
    have hvlt := hO.lt
    have hkk8 := hkk.trans hk3 (by simp)
    have hkk9 : Kp [] H H9 := hkk8.trans hk9 (fun b hb => .inr (hvb b hb))
    have hvb9 : ∀ b ∈ blk v9, H.size ≤ b := fun b hb => hb9.elim (fun h => hvb b (h ▸ hb)) (fun h => Nat.le_trans hkk8.size (h b hb))
    have hzs9 : ∀ z ∈ zs ++ [(⟨x.w + y.w, (.slice va2 (x.s ++ y.s).length vc2), x.s ++ y.s⟩ : CE)], SymOK H9 z ∧ ∀ b ∈ blk z.v, b < H9.size ∧ b ∉ blk v9 := by
      intro z hz
      rcases List.mem_append.1 hz with hz | hz
      · obtain ⟨hz1, hz2⟩ := hzs z hz
        refine ⟨Rd.keep (hz1.keep hk3) hk9 (fun b hb => (hz2 b hb).2), fun b hb => ⟨by have := (hz2 b hb).1; have := hk3.size; have := hk9.size; omega, fun hb2 => ?_⟩⟩
        rcases hb9 with h | h
        · exact (hz2 b hb).2 (h ▸ hb2)
        · have h1 := h b hb2
          have h2 := (hz2 b hb).1
          have h3 := hk3.size
          omega
      · obtain rfl : z = ⟨x.w + y.w, (.slice va2 (x.s ++ y.s).length vc2), x.s ++ y.s⟩ := by simpa using hz
        refine ⟨Rd.keep (show SymOK _ ⟨x.w + y.w, (.slice va2 (x.s ++ y.s).length vc2), x.s ++ y.s⟩ from hO2.rd) hk9 (fun b hb hb2 => absurd (h2s b hb) (by have := hvlt b hb2; omega)), fun b hb => ⟨by have := hO2.lt b hb; have := hk9.size; omega, fun hb2 => ?_⟩⟩
        rcases hb9 with h | h
        · have := hvlt b (h ▸ hb2); have := h2s b hb; omega
        · have h1 := h b hb2
          have h2 := hO2.lt b hb
          omega
    refine X.asg rfl rfl rfl rfl rfl ?_
    refine X.done [(0, _), (2, _), (3, _), (4, _), (6, _), (7, _), (8, _), (9, _), (10, _), (13, _), (14, _), (15, _), (16, _), (17, _), (18, _), (19, _), (20, _), (21, _), (22, _), (23, _), (24, _), (25, _), (5, _), (26, _), (27, _), (28, _), (29, _), (30, _), (31, _), (32, _), (33, _), (34, _), (35, _), (36, _), (37, _), (38, _), (39, _), (40, _), (41, _), (42, _), (43, _), (44, _), (45, _), (46, _), (47, _), (48, _)] ⟨rfl, rfl, rfl, rfl, rfl, rfl, rfl, rfl, rfl, rfl, rfl, rfl, rfl, rfl, rfl, rfl, rfl, rfl, rfl, rfl, rfl, rfl, rfl, rfl, rfl, rfl, rfl, rfl, rfl, rfl, rfl, rfl, rfl, rfl, rfl, rfl, rfl, rfl, rfl, rfl, rfl, rfl, rfl, rfl, rfl, rfl, trivial⟩ ?_
    refine N.blk ?_
    refine N.then ?_
    refine E.region ?_
    refine X.mv rfl rfl rfl rfl rfl ?_
    refine X.addE (zz := ((i + 2 : Nat) : Int)) rfl rfl rfl rfl rfl rfl (by rw [IntWalk.i64_in _ (by omega)] <;> omega) ?_
    refine X.asg rfl rfl rfl rfl rfl ?_
    refine X.done [(0, _), (2, _), (3, _), (4, _), (6, _), (7, _), (8, _), (9, _), (10, _), (13, _), (14, _), (15, _), (16, _), (17, _), (18, _), (19, _), (20, _), (21, _), (22, _), (23, _), (24, _), (25, _), (5, _), (26, _), (27, _), (28, _), (29, _), (30, _), (31, _), (32, _), (33, _), (34, _), (35, _), (36, _), (37, _), (38, _), (39, _), (40, _), (41, _), (42, _), (43, _), (44, _), (45, _), (46, _), (47, _), (48, _), (11, _), (12, _)] ⟨rfl, rfl, rfl, rfl, rfl, rfl, rfl, rfl, rfl, rfl, rfl, rfl, rfl, rfl, rfl, rfl, rfl, rfl, rfl, rfl, rfl, rfl, rfl, rfl, rfl, rfl, rfl, rfl, rfl, rfl, rfl, rfl, rfl, rfl, rfl, rfl, rfl, rfl, rfl, rfl, rfl, rfl, rfl, rfl, rfl, rfl, rfl, rfl, trivial⟩ ?_
    exact N.next (G := fun (q : PS) => _) ⟨i + 2, zs ++ [⟨x.w + y.w, (.slice va2 (x.s ++ y.s).length vc2), x.s ++ y.s⟩], v9⟩ ⟨rfl, rfl, rfl, rfl, trivial⟩ ⟨by show i + 2 ≤ l.length; omega, by rw [List.length_append, List.flatMap_append]; simpa using hO9, by rw [← heq, pk_drop (spec_get hx) (spec_get hy), List.map_append, List.append_assoc]; rfl, hzs9, hvb9, by simp only [List.length_append, List.length_cons, List.length_nil]; omega, hkk9⟩ (by show l.length - (i + 2) < l.length - i; omega)
  · refine E.exit ?_
    refine N.thenX ?_
    refine N.loopX ?_
    refine N.blkX ?_
    refine N.then ?_
    refine E.seq ?_
    refine E.region ?_
    refine X.mv rfl rfl rfl rfl rfl ?_
    refine X.asg rfl rfl rfl rfl rfl ?_
    refine X.done [(2, _)] ⟨rfl, trivial⟩ ?_
    refine N.then ?_
    refine E.ret ?_
    have hsh : ((l.map spec).drop i).length < 2 := by rw [List.length_drop, List.length_map]; omega
    rw [pk_short hsh, List.append_nil] at heq
    exact N.retH [_] ⟨_, _, rfl, rfl, rfl⟩ ⟨zs, heq, hO, fun z hz => (hzs z hz).1, hkk⟩

end Go.Proofs.Ytjlelcfabfmiaaa