/- The walk: the symbols that are used, the rarest first. -/
import Derived.Test.YtjlelcfabfmiaaaW5
namespace Go.Proofs.Ytjlelcfabfmiaaa
open Go.SX Go.Hf
attribute [local irreducible] X E N Ct
set_option linter.unusedVariables false
set_option linter.unusedSimpArgs false
def downL (fs : List Int) (k : Nat) : List Nat := (List.range k).reverse.filter fun i => decide (0 < fs.getD i 0)
def usedL (fs : List Int) : List Nat := downL fs fs.length
def ordU (fs : List Int) : List Nat := ms (leO (ltU fs (usedL fs))) (List.range (usedL fs).length)
def usedV (fs : List Int) : List Nat := (ordU fs).map fun i => (usedL fs).getD i 0
theorem down_succ (fs : List Int) (k : Nat) : downL fs (k + 1) = if 0 < fs.getD k 0 then k :: downL fs k else downL fs k := by
  unfold downL
  rw [List.range_succ, List.reverse_append, List.reverse_singleton, List.singleton_append, List.filter_cons]
  by_cases h : 0 < fs.getD k 0 <;> simp [h]
theorem down_lt {fs : List Int} {k u : Nat} (h : u ∈ downL fs k) : u < k := by
  have h1 := (List.mem_filter.1 h).1
  exact List.mem_range.1 (List.mem_reverse.1 h1)
theorem used_lt {fs : List Int} {u : Nat} (h : u ∈ usedL fs) : u < fs.length := down_lt h
theorem rdi {H : Heap} {b c x : Nat} {e : TypeId} (hb : H[b]? = some (.cells ([i64 (x : Int)] : List Value).toArray e (0, 0))) : Rd H 1 (.slice (some ⟨b, 0, none⟩) 1 c) 1 (nv [x]) :=
  ⟨rfl, _, _, rfl, .inr ⟨b, 0, _, _, _, rfl, hb, fun j u hj => by rw [Nat.zero_add]; exact hj⟩⟩
theorem down_len (fs : List Int) : ∀ k, (downL fs k).length ≤ k
  | 0 => by simp [downL]
  | k + 1 => by
    have := down_len fs k
    rw [down_succ]; split <;> simp <;> omega
theorem map_take_succ {l : List Nat} {f : Nat → Nat} {j y : Nat} (h : l[j]? = some y) : (l.take (j + 1)).map f = (l.take j).map f ++ [f y] := by
  rw [List.take_add_one, h, List.map_append]; rfl
structure US where
  k : Nat
  us : List Nat
  v : Value

theorem used_ct (fs : List Int) (a : Option Addr) (b o c : Nat) (H : Heap) (hF : Row1 H a b o (iv fs)) (hlen : fs.length ≤ 1000) : Ct Try.prog 17 #[.slice a fs.length c] H fun v H' => Own H' 3 1 v (usedV fs).length (nv (usedV fs)) ∧ (∀ b ∈ blk v, H.size ≤ b) ∧ Kp [] H H' := by
  refine Ct.into 42 Try.func17 rfl [(0, .slice a fs.length c)] rfl ⟨rfl, trivial⟩ ?_
  refine E.seq ?_
  refine E.region ?_
  refine X.box rfl rfl rfl rfl rfl rfl ?_
  intro c1 H1 hn1 h1 hk1
  have q1 := lt_of h1
  refine X.asg rfl rfl rfl rfl rfl ?_
  refine X.done [(1, _), (2, _)] ⟨rfl, rfl, trivial⟩ ?_
  refine N.then ?_
  refine E.seq ?_
  refine E.region ?_
  refine X.alloc (z := .slice none 0 0) (cs := [.slice none 0 0]) rfl rfl rfl rfl (by kernel_rfl) rfl ?_
  intro c2 H2 hn2 h2 hk2
  replace h1 := hk2.keep h1 (by simp)
  have kk2 := hk1.trans hk2 (by simp)
  have q2 := lt_of h2
  have hs1 := hk1.size
  have hc12 : c1 ≠ c2 := by omega
  have hcs : H.size ≤ c1 ∧ H.size ≤ c2 := ⟨hn1, by omega⟩
  refine X.done [(1, _), (2, _), (3, _)] ⟨rfl, rfl, rfl, trivial⟩ ?_
  refine N.then ?_
  refine E.seq ?_
  refine E.seq ?_
  refine E.region ?_
  refine X.ld rfl rfl rfl rfl Try.ag22 (h1) (rfl) ?_
  refine X.lenS rfl rfl rfl rfl rfl Try.underlying22 ?_
  refine X.sbE (zz := ((fs.length : Int) - 1)) rfl rfl rfl rfl rfl rfl (by rw [IntWalk.i64_in _ (by omega)] <;> omega) ?_
  refine X.asg rfl rfl rfl rfl rfl ?_
  refine X.done [(1, _), (2, _), (3, _), (4, _)] ⟨rfl, rfl, rfl, rfl, trivial⟩ ?_
  refine N.then ?_
  refine E.block ?_
  refine E.loop (fun (q : US) => [(1, ptr c1), (3, ptr c2), (4, i64 ((q.k : Int) - 1)), (2, .slice none 0 0)]) (fun (q : US) H' => q.k ≤ fs.length ∧ H'[c1]? = some (.cells ([.slice a fs.length c] : List Value).toArray 22 (0, 0)) ∧ H'[c2]? = some (.cells ([q.v] : List Value).toArray 22 (0, 0)) ∧ Own H' 3 1 q.v q.us.length (nv q.us) ∧ (∀ b ∈ blk q.v, b ≠ c1 ∧ b ≠ c2 ∧ H.size ≤ b) ∧ q.us ++ downL fs q.k = usedL fs ∧ Kp [] H H') (fun (q : US) => q.k) ⟨fs.length, [], .slice none 0 0⟩ ⟨rfl, rfl, rfl, rfl, trivial⟩ ⟨Nat.le_refl _, h1, h2, Own.nil _ _ _, by simp [blk], rfl, kk2⟩ ?_
  rintro ⟨k, us, v⟩ H3 hJ
  dsimp only at hJ ⊢
  obtain ⟨hk, h1, h2, hO, hvb, heq, kk⟩ := hJ
  refine E.seq ?_
  refine E.seq ?_
  refine E.region ?_
  refine X.mv rfl rfl rfl rfl rfl ?_
  refine X.geq rfl rfl rfl rfl rfl rfl ?_
  refine X.done [(1, _), (3, _), (4, _), (2, _), (11, _), (12, _)] ⟨rfl, rfl, rfl, rfl, rfl, rfl, trivial⟩ ?_
  refine N.then ?_
  refine E.condD rfl (fun hc => ?_) (fun hc => ?_)
  · refine E.skip ?_
    refine N.then ?_
    refine E.seq ?_
    refine E.block ?_
    refine E.seq ?_
    have husb : us.length ≤ 1000 := by
      have h8 := congrArg List.length heq
      have h9 := down_len fs fs.length
      simp only [List.length_append] at h8
      unfold usedL at h8
      omega
    obtain ⟨i, rfl⟩ : ∃ i, k = i + 1 := ⟨k - 1, by omega⟩
    rw [show (((i + 1 : Nat) : Int) - 1) = (i : Int) by omega]
    obtain ⟨f, hf⟩ := get_of (xs := fs) (i := i) (by omega)
    obtain ⟨hae, cs, ct, fz, hb, hcf⟩ := row_at hF hf
    replace hb := kk.keep hb (by simp)
    refine E.region ?_
    refine X.ld rfl rfl rfl rfl Try.ag22 (h1) (rfl) ?_
    refine X.mv rfl rfl rfl rfl rfl ?_
    refine X.ixAe rfl rfl rfl rfl rfl rfl Try.underlying22 Try.sz3 (hae) (by omega) ?_
    refine X.ld rfl rfl rfl rfl Try.ag3 (hb) (hcf) ?_
    refine X.gtr rfl rfl rfl rfl rfl rfl ?_
    refine X.done [(1, _), (3, _), (4, _), (2, _), (11, _), (12, _), (15, _), (16, _), (17, _), (18, _), (19, _)] ⟨rfl, rfl, rfl, rfl, rfl, rfl, rfl, rfl, rfl, rfl, rfl, trivial⟩ ?_
    refine N.then ?_
    refine E.condD rfl (fun hc => ?_) (fun hc => ?_)
    · refine E.region ?_
      refine X.ld rfl rfl rfl rfl Try.ag22 (h2) (rfl) ?_
      refine X.mv rfl rfl rfl rfl rfl ?_
      refine X.lit (e := 3) (cs := [i64 (i : Int)]) rfl rfl rfl rfl rfl (fun _ => by kernel_rfl) ?_
      intro b6 H6 hn6 hb6 hk6
      replace h1 := hk6.keep h1 (by simp)
      replace h2 := hk6.keep h2 (by simp)
      have kk6 := kk.trans hk6 (by simp)
      replace hO := hO.keep hk6 (by simp)
      refine X.app TI rfl rfl rfl rfl rfl rfl (hO) (by exact .inl (rdi hb6)) (.inl ⟨3, Try.underlying22, _, _, rfl⟩) (nv_one _) (by first | (simp only [maxLen]; omega) | omega) (by first | (simp only [maxLen]; omega) | omega) ?_
      intro v7 H7 hO7 hk7 hb7 hn7
      have q61 := lt_of h1
      have q62 := lt_of h2
      replace h1 := hk7.keep h1 (fun h => (hvb _ h).1 rfl)
      replace h2 := hk7.keep h2 (fun h => (hvb _ h).2.1 rfl)
      have kk7 := kk6.trans hk7 (fun b hb => .inr (hvb b hb).2.2)
      have hvb7 : ∀ b ∈ blk v7, b ≠ c1 ∧ b ≠ c2 ∧ H.size ≤ b := fun b hb => hb7.elim (fun h => hvb b (h ▸ hb)) (fun h => by have h8 := h b hb; have := kk6.size; exact ⟨by omega, by omega, by omega⟩)
      rw [nv_app, show us.length + 1 = (us ++ [i]).length by simp] at hO7
      obtain ⟨va7, vc7, rfl⟩ := hO7.len
      refine X.st rfl rfl rfl rfl rfl rfl rfl Try.sz22 h2 (by show 0 < 1; omega) ?_
      intro H8 h2n hk8
      replace h2 : H8[c2]? = some (.cells ([.slice va7 (us ++ [i]).length vc7] : List Value).toArray 22 (0, 0)) := h2n
      replace h1 := hk8.keep h1 (by simp; exact hc12)
      replace hO7 := hO7.keep hk8 (fun b hb => by simp; exact (hvb7 b hb).2.1)
      have kk8 := kk7.trans hk8 (by simp; exact hcs.2)
      refine X.done [(1, _), (3, _), (4, _), (2, _), (11, _), (12, _), (15, _), (16, _), (17, _), (18, _), (19, _), (20, _), (21, _), (22, _), (23, _)] ⟨rfl, rfl, rfl, rfl, rfl, rfl, rfl, rfl, rfl, rfl, rfl, rfl, rfl, rfl, rfl, trivial⟩ ?_
      refine N.blk ?_
      refine N.then ?_
      refine E.region ?_
      refine X.mv rfl rfl rfl rfl rfl ?_
      refine X.sbE (zz := ((i : Int) - 1)) rfl rfl rfl rfl rfl rfl (by rw [IntWalk.i64_in _ (by omega)] <;> omega) ?_
      refine X.asg rfl rfl rfl rfl rfl ?_
      refine X.done [(1, _), (3, _), (4, _), (2, _), (11, _), (12, _), (15, _), (16, _), (17, _), (18, _), (19, _), (20, _), (21, _), (22, _), (23, _), (13, _), (14, _)] ⟨rfl, rfl, rfl, rfl, rfl, rfl, rfl, rfl, rfl, rfl, rfl, rfl, rfl, rfl, rfl, rfl, rfl, trivial⟩ ?_
      rw [down_succ, getD_of hf] at heq
      first
        | (rw [if_pos hc] at heq
           exact N.next (G := fun (q : US) => _) ⟨i, us ++ [i], .slice va7 (us ++ [i]).length vc7⟩ ⟨rfl, rfl, rfl, rfl, trivial⟩ ⟨by show i ≤ fs.length; omega, h1, h2, hO7, hvb7, by rw [← heq]; simp, kk8⟩ (by show i < i + 1; omega))
        | (rw [if_neg hc] at heq
           exact N.next (G := fun (q : US) => _) ⟨i, us, v⟩ ⟨rfl, rfl, rfl, rfl, trivial⟩ ⟨by show i ≤ fs.length; omega, h1, h2, hO, hvb, heq, kk⟩ (by show i < i + 1; omega))
    · refine E.skip ?_
      refine N.blk ?_
      refine N.then ?_
      refine E.region ?_
      refine X.mv rfl rfl rfl rfl rfl ?_
      refine X.sbE (zz := ((i : Int) - 1)) rfl rfl rfl rfl rfl rfl (by rw [IntWalk.i64_in _ (by omega)] <;> omega) ?_
      refine X.asg rfl rfl rfl rfl rfl ?_
      refine X.done [(1, _), (3, _), (4, _), (2, _), (11, _), (12, _), (15, _), (16, _), (17, _), (18, _), (19, _), (13, _), (14, _)] ⟨rfl, rfl, rfl, rfl, rfl, rfl, rfl, rfl, rfl, rfl, rfl, rfl, rfl, trivial⟩ ?_
      rw [down_succ, getD_of hf] at heq
      first
        | (rw [if_pos hc] at heq
           exact N.next (G := fun (q : US) => _) ⟨i, us ++ [i], .slice va7 (us ++ [i]).length vc7⟩ ⟨rfl, rfl, rfl, rfl, trivial⟩ ⟨by show i ≤ fs.length; omega, h1, h2, hO7, hvb7, by rw [← heq]; simp, kk8⟩ (by show i < i + 1; omega))
        | (rw [if_neg hc] at heq
           exact N.next (G := fun (q : US) => _) ⟨i, us, v⟩ ⟨rfl, rfl, rfl, rfl, trivial⟩ ⟨by show i ≤ fs.length; omega, h1, h2, hO, hvb, heq, kk⟩ (by show i < i + 1; omega))
  · refine E.exit ?_
    refine N.thenX ?_
    refine N.loopX ?_
    refine N.blkX ?_
    refine N.then ?_
    refine E.seq ?_
    refine E.region ?_
    refine X.asg rfl rfl rfl rfl rfl ?_
    refine X.done [(1, _), (3, _), (2, _), (5, _)] ⟨rfl, rfl, rfl, rfl, trivial⟩ ?_
    refine N.then ?_
    refine E.seq ?_
    refine E.seq ?_
    obtain rfl : k = 0 := by omega
    rw [show downL fs 0 = [] from rfl, List.append_nil] at heq
    obtain ⟨va, vc, rfl⟩ := hO.len
    have husl : us.length ≤ 1000 := by rw [heq]; exact Nat.le_trans (down_len _ _) hlen
    have hul : ∀ u ∈ us, u < fs.length := fun u hu => used_lt (heq ▸ hu)
    refine E.region ?_
    refine X.ld rfl rfl rfl rfl Try.ag22 (h2) (rfl) ?_
    refine X.lenS rfl rfl rfl rfl rfl Try.underlying22 ?_
    refine X.fn rfl rfl rfl rfl rfl rfl ?_
    refine X.call rfl rfl rfl rfl rfl Try.cl20 (ordered_ct us.length (ltU fs us) 28 [ptr c1, ptr c2] H3 (by omega) Try.cl28 (fun H' hk x y hx hy => ahead_used fs us c1 c2 a b o c _ H' (hk.keep h1 (by simp)) (hk.keep h2 (by simp)) (hF.keepN (kk.trans hk (by simp))) ((hO.keep hk (by simp)).rd) hul x y hx hy)) ?_
    rintro _ H4 ⟨ob, rfl, hob, hol0, hk4⟩
    replace h2 := hk4.keep h2 (by simp)
    have hOlt := hO.lt
    have hvlt := lt_of h2
    replace hO := hO.keep hk4 (by simp)
    replace kk := kk.trans hk4 (by simp)
    rw [heq, show ms (leO (ltU fs (usedL fs))) (List.range (usedL fs).length) = ordU fs from rfl] at hob
    have hol : (ordU fs).length = us.length := by rw [ordU, ms_len, List.length_range, heq]
    refine X.lenS rfl rfl rfl rfl rfl Try.underlying22 ?_
    refine X.mv rfl rfl rfl rfl rfl ?_
    refine X.done [(3, _), (2, _), (5, _), (27, _), (28, _), (29, _)] ⟨rfl, rfl, rfl, rfl, rfl, rfl, trivial⟩ ?_
    refine N.then ?_
    refine E.block ?_
    refine E.loop (fun (q : US) => [(27, sl0 ob us.length), (28, i64 us.length), (29, i64 q.k), (3, ptr c2), (5, q.v), (2, .slice none 0 0)]) (fun (q : US) H' => q.k ≤ us.length ∧ H'[c2]? = some (.cells ([.slice va us.length vc] : List Value).toArray 22 (0, 0)) ∧ Own H' 3 1 (.slice va us.length vc) us.length (nv us) ∧ H'[ob]? = some (.cells (nv (ordU fs)).toArray 3 (0, 0)) ∧ q.us = ((ordU fs).take q.k).map (fun i => us.getD i 0) ∧ Own H' 3 1 q.v q.us.length (nv q.us) ∧ (∀ b ∈ blk q.v, H.size ≤ b ∧ b ≠ c2 ∧ b ≠ ob ∧ b ∉ blk (.slice va us.length vc)) ∧ Kp [] H H') (fun (q : US) => us.length - q.k) ⟨0, [], .slice none 0 0⟩ ⟨rfl, rfl, rfl, rfl, rfl, rfl, trivial⟩ ⟨Nat.zero_le _, h2, hO, hob, rfl, Own.nil _ _ _, by simp [blk], kk⟩ ?_
    rintro ⟨j, rs, w⟩ H5 hJ
    dsimp only at hJ ⊢
    obtain ⟨hj, h2, hU, hob, hrs, hO, hwb, kk⟩ := hJ
    refine E.seq ?_
    refine E.region ?_
    refine X.lss rfl rfl rfl rfl rfl rfl ?_
    refine X.done [(27, _), (28, _), (29, _), (3, _), (5, _), (2, _), (30, _)] ⟨rfl, rfl, rfl, rfl, rfl, rfl, rfl, trivial⟩ ?_
    refine N.then ?_
    refine E.seq ?_
    refine E.condD rfl (fun hc => ?_) (fun hc => ?_)
    · refine E.skip ?_
      refine N.then ?_
      refine E.seq ?_
      refine E.block ?_
      refine E.seq ?_
      have hrl : rs.length ≤ 1000 := by rw [hrs, List.length_map, List.length_take]; omega
      obtain ⟨y, hy⟩ : ∃ y, (ordU fs)[j]? = some y := ⟨_, List.getElem?_eq_getElem (by rw [hol]; omega)⟩
      have hyl : y < us.length := by have := List.mem_of_getElem? hy; rw [ordU, ms_mem, List.mem_range, ← heq] at this; exact this
      obtain ⟨u, hu⟩ : ∃ u, us[y]? = some u := ⟨_, List.getElem?_eq_getElem hyl⟩
      obtain ⟨ub, uo, uc, ucs, uct, ufz, hve, hub, huc⟩ := rd_nv hU.rd hu
      refine E.region ?_
      refine X.ixA rfl rfl rfl rfl rfl rfl Try.underlying22 Try.sz3 (by omega) ?_
      refine X.ld rfl rfl rfl rfl Try.ag3 (hob) (nv_at hy) ?_
      refine X.asg rfl rfl rfl rfl rfl ?_
      refine X.done [(27, _), (28, _), (29, _), (3, _), (5, _), (2, _), (30, _), (31, _), (32, _), (7, _)] ⟨rfl, rfl, rfl, rfl, rfl, rfl, rfl, rfl, rfl, rfl, trivial⟩ ?_
      refine N.then ?_
      refine E.region ?_
      refine X.mv rfl rfl rfl rfl rfl ?_
      refine X.ld rfl rfl rfl rfl Try.ag22 (h2) (rfl) ?_
      refine X.mv rfl rfl rfl rfl rfl ?_
      refine X.ixAe rfl rfl rfl rfl rfl rfl Try.underlying22 Try.sz3 ((Value.slice.inj hve).1) (by omega) ?_
      refine X.ld rfl rfl rfl rfl Try.ag3 (hub) (huc) ?_
      refine X.lit (e := 3) (cs := [i64 (u : Int)]) rfl rfl rfl rfl rfl (fun _ => by kernel_rfl) ?_
      intro b6 H6 hn6 hb6 hk6
      replace h2 := hk6.keep h2 (by simp)
      replace hO := hO.keep hk6 (by simp)
      replace hU := hU.keep hk6 (by simp)
      replace hob := hk6.keep hob (by simp)
      have kk6 := kk.trans hk6 (by simp)
      refine X.app TI rfl rfl rfl rfl rfl rfl (hO) (by exact .inl (rdi hb6)) (.inl ⟨3, Try.underlying22, _, _, rfl⟩) (nv_one _) (by first | (simp only [maxLen]; omega) | omega) (by first | (simp only [maxLen]; omega) | omega) ?_
      intro v9 H7 hO9 hk7 hb7 hn7
      have q62 := lt_of h2
      have qob := lt_of hob
      have qU := hU.lt
      replace h2 := hk7.keep h2 (fun h => (hwb _ h).2.1 rfl)
      replace hob := hk7.keep hob (fun h => (hwb _ h).2.2.1 rfl)
      replace hU := hU.keep hk7 (fun b hb h => (hwb b h).2.2.2 hb)
      have kk9 := kk6.trans hk7 (fun b hb => .inr (hwb b hb).1)
      have hwb9 : ∀ b ∈ blk v9, H.size ≤ b ∧ b ≠ c2 ∧ b ≠ ob ∧ b ∉ blk _ := fun b hb => hb7.elim (fun h => hwb b (h ▸ hb)) (fun h => by have h8 := h b hb; have := kk6.size; exact ⟨by omega, by omega, by omega, fun h9 => absurd (qU b h9) (by omega)⟩)
      rw [nv_app, show rs.length + 1 = (rs ++ [u]).length by simp] at hO9
      refine X.asg rfl rfl rfl rfl rfl ?_
      refine X.done [(27, _), (28, _), (29, _), (3, _), (5, _), (2, _), (30, _), (31, _), (32, _), (7, _), (33, _), (34, _), (35, _), (36, _), (37, _), (38, _), (39, _)] ⟨rfl, rfl, rfl, rfl, rfl, rfl, rfl, rfl, rfl, rfl, rfl, rfl, rfl, rfl, rfl, rfl, rfl, trivial⟩ ?_
      refine N.blk ?_
      refine N.then ?_
      refine E.region ?_
      refine X.addE (zz := ((j + 1 : Nat) : Int)) rfl rfl rfl rfl rfl rfl (by rw [IntWalk.i64_in _ (by omega)] <;> omega) ?_
      refine X.mv rfl rfl rfl rfl rfl ?_
      refine X.done [(27, _), (28, _), (29, _), (3, _), (5, _), (2, _), (30, _), (31, _), (32, _), (7, _), (33, _), (34, _), (35, _), (36, _), (37, _), (38, _), (39, _), (40, _)] ⟨rfl, rfl, rfl, rfl, rfl, rfl, rfl, rfl, rfl, rfl, rfl, rfl, rfl, rfl, rfl, rfl, rfl, rfl, trivial⟩ ?_
      exact N.next (G := fun (q : US) => _) ⟨j + 1, rs ++ [u], v9⟩ ⟨rfl, rfl, rfl, rfl, rfl, rfl, trivial⟩ ⟨by show j + 1 ≤ us.length; omega, h2, hU, hob, by show rs ++ [u] = _; rw [map_take_succ hy, ← hrs, getD_of hu], hO9, hwb9, kk9⟩ (by show us.length - (j + 1) < us.length - j; omega)
    · refine E.exit ?_
      refine N.thenX ?_
      refine N.loopX ?_
      refine N.blkX ?_
      refine N.then ?_
      refine E.seq ?_
      refine E.region ?_
      refine X.mv rfl rfl rfl rfl rfl ?_
      refine X.asg rfl rfl rfl rfl rfl ?_
      refine X.done [(2, _)] ⟨rfl, trivial⟩ ?_
      refine N.then ?_
      refine E.ret ?_
      obtain rfl : j = us.length := by omega
      rw [show us.length = (ordU fs).length from hol.symm, List.take_length, heq] at hrs
      have hrv : rs = usedV fs := hrs
      subst hrv
      exact N.retH [_] ⟨_, _, rfl, rfl, rfl⟩ ⟨hO, fun b hb => (hwb b hb).1, kk⟩

end Go.Proofs.Ytjlelcfabfmiaaa