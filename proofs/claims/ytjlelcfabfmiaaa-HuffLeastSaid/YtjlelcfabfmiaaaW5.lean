/- The walks: numbers put in order, what is ahead. -/
import Derived.Test.YtjlelcfabfmiaaaW4
namespace Go.Proofs.Ytjlelcfabfmiaaa
open Go.SX Go.Hf
attribute [local irreducible] X E N Ct
set_option linter.unusedVariables false
set_option linter.unusedSimpArgs false
/-- Of numbers below n, read from a row. -/
def gtT (tk : List Nat) (x y : Nat) : Bool := decide (tk.getD y 0 < tk.getD x 0)
def ltU (fs : List Int) (us : List Nat) (x y : Nat) : Bool := decide (fs.getD (us.getD x 0) 0 < fs.getD (us.getD y 0) 0)
theorem getD_of {α : Type} {l : List α} {i : Nat} {x d : α} (h : l[i]? = some x) : l.getD i d = x := by rw [List.getD_eq_getElem?_getD, h]; rfl
theorem rd_nv {H : Heap} {v : Value} {l : List Nat} (h : Rd H 1 v l.length (nv l)) {i x : Nat} (hx : l[i]? = some x) : ∃ b o c cs ct fz, v = .slice (some ⟨b, o, none⟩) l.length c ∧ H[b]? = some (.cells (cs : List Value).toArray ct fz) ∧ cs[o + (i : Int).toNat * 1]? = some (i64 (x : Int)) := by
  obtain ⟨hl, a, c, e, hr⟩ := h
  have hlt := (List.getElem?_eq_some_iff.1 hx).1
  rcases hr with hr | ⟨b, o, cs, ct, fz, rfl, hb, h3⟩
  · simp at hr; subst hr; simp at hlt
  · exact ⟨b, o, c, cs, ct, fz, e, hb, by rw [Int.toNat_natCast, Nat.mul_one]; exact h3 i _ (by rw [List.getElem?_map, hx]; rfl)⟩

theorem ahead_len (tk : List Nat) (ct tb n : Nat) (H : Heap) (hc : H[ct]? = some (.cells ([sl0 tb n] : List Value).toArray 22 (0, 0))) (hr : H[tb]? = some (.cells (nv tk).toArray 3 (0, 0))) (hl : tk.length = n) (x y : Nat) (hx : x < n) (hy : y < n) : Ct Try.prog 21 #[i64 (x : Int), i64 (y : Int), ptr ct] H (fun v H' => v = .bool (decide (gtT tk x y = true)) ∧ H' = H) := by
  obtain ⟨u, hu⟩ : ∃ u, tk[x]? = some u := ⟨_, List.getElem?_eq_getElem (by omega)⟩
  obtain ⟨w, hw⟩ : ∃ w, tk[y]? = some w := ⟨_, List.getElem?_eq_getElem (by omega)⟩
  refine Ct.into 15 Try.func21 rfl [(0, i64 (x : Int)), (1, i64 (y : Int)), (2, ptr ct)] rfl ⟨rfl, rfl, rfl, trivial⟩ ?_
  refine E.seq ?_
  refine E.region ?_
  refine X.asg rfl rfl rfl rfl rfl ?_
  refine X.done [(0, _), (1, _), (2, _), (5, _)] ⟨rfl, rfl, rfl, rfl, trivial⟩ ?_
  refine N.then ?_
  refine E.seq ?_
  refine E.regionD (fun H' => H' = H) [(0, .st), (1, .pu), (2, .pu), (3, .st), (4, .st), (5, .pu), (6, .pu), (7, .st), (8, .pu), (9, .pu)] Try.mixed (by kernel_rfl) (rfl) ?_
  refine X.ld rfl rfl rfl rfl Try.ag22 (fun H' hF => by subst hF; exact hc) (rfl) ?_
  refine X.mv rfl rfl rfl rfl rfl ?_
  refine X.ixA rfl rfl rfl rfl rfl rfl Try.underlying22 Try.sz3 (by omega) ?_
  refine X.ld rfl rfl rfl rfl Try.ag3 (fun H' hF => by subst hF; exact hr) (nv_at hu) ?_
  refine X.ld rfl rfl rfl rfl Try.ag22 (fun H' hF => by subst hF; exact hc) (rfl) ?_
  refine X.mv rfl rfl rfl rfl rfl ?_
  refine X.ixA rfl rfl rfl rfl rfl rfl Try.underlying22 Try.sz3 (by omega) ?_
  refine X.ld rfl rfl rfl rfl Try.ag3 (fun H' hF => by subst hF; exact hr) (nv_at hw) ?_
  refine X.gtr rfl rfl rfl rfl rfl rfl ?_
  refine X.asg rfl rfl rfl rfl rfl ?_
  refine X.done [(5, _)] ⟨rfl, trivial⟩ ?_
  refine N.then ?_
  refine E.ret ?_
  exact N.retH [_] ⟨_, _, rfl, rfl, rfl⟩ ⟨by rw [gtT, getD_of hu, getD_of hw]; show Value.bool _ = Value.bool _; congr 1; simp only [decide_eq_true_eq, gt_iff_lt, Int.ofNat_lt], rfl⟩

theorem ahead_used (fs : List Int) (us : List Nat) (c1 c2 : Nat) (a : Option Addr) (b o c : Nat) (v : Value) (H : Heap) (h1 : H[c1]? = some (.cells ([.slice a fs.length c] : List Value).toArray 22 (0, 0))) (h2 : H[c2]? = some (.cells ([v] : List Value).toArray 22 (0, 0))) (hF : Row1 H a b o (iv fs)) (hU : Rd H 1 v us.length (nv us)) (hus : ∀ u ∈ us, u < fs.length) (x y : Nat) (hx : x < us.length) (hy : y < us.length) : Ct Try.prog 28 #[i64 (x : Int), i64 (y : Int), ptr c1, ptr c2] H (fun v H' => v = .bool (decide (ltU fs us x y = true)) ∧ H' = H) := by
  obtain ⟨u, hu⟩ : ∃ u, us[x]? = some u := ⟨_, List.getElem?_eq_getElem (by omega)⟩
  obtain ⟨w, hw⟩ : ∃ w, us[y]? = some w := ⟨_, List.getElem?_eq_getElem (by omega)⟩
  have hul := hus u (List.mem_of_getElem? hu)
  have hwl := hus w (List.mem_of_getElem? hw)
  obtain ⟨f, hf⟩ := get_of hul
  obtain ⟨g, hg⟩ := get_of hwl
  obtain ⟨hae, cs, ct, fz, hb, hcf⟩ := row_at hF hf
  obtain ⟨_, cs', ct', fz', hb', hcg⟩ := row_at hF hg
  obtain ⟨ub, uo, uc, ucs, uct, ufz, hve, hub, huc⟩ := rd_nv hU hu
  obtain ⟨wb, wo, wc, wcs, wct, wfz, hve2, hwb, hwc⟩ := rd_nv hU hw
  obtain ⟨e1, e2, e3⟩ := Value.slice.inj (hve.symm.trans hve2)
  obtain ⟨rfl, rfl⟩ : ub = wb ∧ uo = wo := by simpa using e1
  obtain rfl := e3
  subst hve
  refine Ct.into 22 Try.func28 rfl [(0, i64 (x : Int)), (1, i64 (y : Int)), (2, ptr c1), (3, ptr c2)] rfl ⟨rfl, rfl, rfl, rfl, trivial⟩ ?_
  refine E.seq ?_
  refine E.region ?_
  refine X.asg rfl rfl rfl rfl rfl ?_
  refine X.done [(0, _), (1, _), (2, _), (3, _), (6, _)] ⟨rfl, rfl, rfl, rfl, rfl, trivial⟩ ?_
  refine N.then ?_
  refine E.seq ?_
  refine E.regionD (fun H' => H' = H) [(0, .st), (1, .st), (2, .pu), (3, .pu), (4, .st), (5, .pu), (6, .st), (7, .st), (8, .st), (9, .pu), (10, .pu), (11, .st), (12, .pu), (13, .st), (14, .pu), (15, .pu)] Try.mixed (by kernel_rfl) (rfl) ?_
  refine X.ld rfl rfl rfl rfl Try.ag22 (fun H' hF => by subst hF; exact h1) (rfl) ?_
  refine X.ld rfl rfl rfl rfl Try.ag22 (fun H' hF => by subst hF; exact h2) (rfl) ?_
  refine X.mv rfl rfl rfl rfl rfl ?_
  refine X.ixAe rfl rfl rfl rfl rfl rfl Try.underlying22 Try.sz3 (rfl) (by omega) ?_
  refine X.ld rfl rfl rfl rfl Try.ag3 (fun H' hF => by subst hF; exact hub) (huc) ?_
  refine X.ixAe rfl rfl rfl rfl rfl rfl Try.underlying22 Try.sz3 (hae) (by omega) ?_
  refine X.ld rfl rfl rfl rfl Try.ag3 (fun H' hF => by subst hF; exact hb) (hcf) ?_
  refine X.ld rfl rfl rfl rfl Try.ag22 (fun H' hF => by subst hF; exact h1) (rfl) ?_
  refine X.ld rfl rfl rfl rfl Try.ag22 (fun H' hF => by subst hF; exact h2) (rfl) ?_
  refine X.mv rfl rfl rfl rfl rfl ?_
  refine X.ixAe rfl rfl rfl rfl rfl rfl Try.underlying22 Try.sz3 (rfl) (by omega) ?_
  refine X.ld rfl rfl rfl rfl Try.ag3 (fun H' hF => by subst hF; exact hwb) (hwc) ?_
  refine X.ixAe rfl rfl rfl rfl rfl rfl Try.underlying22 Try.sz3 (hae) (by omega) ?_
  refine X.ld rfl rfl rfl rfl Try.ag3 (fun H' hF => by subst hF; exact hb') (hcg) ?_
  refine X.lss rfl rfl rfl rfl rfl rfl ?_
  refine X.asg rfl rfl rfl rfl rfl ?_
  refine X.done [(6, _)] ⟨rfl, trivial⟩ ?_
  refine N.then ?_
  refine E.ret ?_
  exact N.retH [_] ⟨_, _, rfl, rfl, rfl⟩ ⟨by rw [ltU, getD_of hu, getD_of hw, getD_of hf, getD_of hg]; show Value.bool _ = Value.bool _; congr 1; simp only [decide_eq_true_eq], rfl⟩

theorem ordered_ct (n : Nat) (lt : Nat → Nat → Bool) (fa : FuncId) (cap : List Value) (H : Heap) (hn : n ≤ 100000) (hcl : callable Try.prog fa = true) (hah : ∀ H' : Heap, Kp [] H H' → ∀ x y : Nat, x < n → y < n → Ct Try.prog fa ([] ++ [i64 (x : Int), i64 (y : Int)] ++ cap).toArray H' (fun v H'' => v = .bool (decide (lt x y = true)) ∧ H'' = H')) : Ct Try.prog 20 #[i64 (n : Int), AV fa cap] H fun v H' => ∃ b, v = sl0 b n ∧ H'[b]? = some (.cells (nv (ms (leO lt) (List.range n))).toArray 3 (0, 0)) ∧ H.size ≤ b ∧ Kp [] H H' := by
  refine Ct.into 28 Try.func20 rfl [(0, i64 (n : Int)), (1, AV fa cap)] rfl ⟨rfl, rfl, trivial⟩ ?_
  refine E.seq ?_
  refine E.region ?_
  refine X.box rfl rfl rfl rfl rfl rfl ?_
  intro c5 H1 hn5 h5 hk1
  have q5 := lt_of h5
  refine X.asg rfl rfl rfl rfl rfl ?_
  refine X.done [(0, _), (3, _), (4, _)] ⟨rfl, rfl, rfl, trivial⟩ ?_
  refine N.then ?_
  refine E.seq ?_
  refine E.region ?_
  refine X.mv rfl rfl rfl rfl rfl ?_
  refine X.mk Try.underlying22 Try.zi3_22 rfl rfl rfl rfl rfl rfl rfl (by omega) (by omega) (by simp only [maxLen]; omega) ?_
  intro lb H2 hnl hL hk2
  replace h5 := hk2.keep h5 (by simp)
  have kk2 := hk1.trans hk2 (by simp)
  have ql := lt_of hL
  have hs1 := hk1.size
  refine X.alloc (z := .slice none 0 0) (cs := [.slice none 0 0]) rfl rfl rfl rfl (by kernel_rfl) rfl ?_
  intro c4 H3 hn4 h4 hk3
  replace h5 := hk3.keep h5 (by simp)
  replace hL := hk3.keep hL (by simp)
  have kk3 := kk2.trans hk3 (by simp)
  have q4 := lt_of h4
  refine X.st rfl rfl rfl rfl rfl rfl rfl Try.sz22 h4 (by show 0 < 1; omega) ?_
  intro H4 h4n hk4
  replace h4 : H4[c4]? = some (.cells ([sl0 lb n] : List Value).toArray 22 (0, 0)) := h4n
  replace h5 := hk4.keep h5 (by simp; omega)
  replace hL := hk4.keep hL (by simp; omega)
  have kk4 := kk3.trans hk4 (by simp; have := kk3.size; omega)
  have hll : H.size ≤ lb := by omega
  have hcc : lb ≠ c4 ∧ c5 ≠ lb ∧ c5 ≠ c4 := ⟨by omega, by omega, by omega⟩
  refine X.done [(0, _), (3, _), (4, _), (5, _)] ⟨rfl, rfl, rfl, rfl, trivial⟩ ?_
  refine N.then ?_
  refine E.seq ?_
  refine E.seq ?_
  refine E.region ?_
  refine X.ld rfl rfl rfl rfl Try.ag22 (h4) (rfl) ?_
  refine X.lenS rfl rfl rfl rfl rfl Try.underlying22 ?_
  refine X.mv rfl rfl rfl rfl rfl ?_
  refine X.done [(0, _), (3, _), (4, _), (5, _), (12, _), (13, _)] ⟨rfl, rfl, rfl, rfl, rfl, rfl, trivial⟩ ?_
  refine N.then ?_
  refine E.block ?_
  refine E.loop (fun (i : Nat) => [(0, i64 (n : Int)), (4, .slice none 0 0), (3, ptr c5), (5, ptr c4), (12, i64 (n : Int)), (13, i64 (i : Int))]) (fun (i : Nat) H' => i ≤ n ∧ H'[c5]? = some (.cells ([AV fa cap] : List Value).toArray 44 (0, 0)) ∧ H'[c4]? = some (.cells ([sl0 lb n] : List Value).toArray 22 (0, 0)) ∧ H'[lb]? = some (.cells (nv (List.range i ++ List.replicate (n - i) 0)).toArray 3 (0, 0)) ∧ Kp [] H H' ∧ H4.size ≤ H'.size) (fun (i : Nat) => n - i) 0 ⟨rfl, rfl, rfl, rfl, rfl, rfl, trivial⟩ ⟨Nat.zero_le _, h5, h4, by rw [hL]; simp, kk4, Nat.le_refl _⟩ ?_
  intro i H5 hJ
  obtain ⟨hin, h5, h4, hL, kk6, hs4⟩ := hJ
  refine E.seq ?_
  refine E.region ?_
  refine X.lss rfl rfl rfl rfl rfl rfl ?_
  refine X.done [(0, _), (4, _), (3, _), (5, _), (12, _), (13, _), (14, _)] ⟨rfl, rfl, rfl, rfl, rfl, rfl, rfl, trivial⟩ ?_
  refine N.then ?_
  refine E.seq ?_
  refine E.condD rfl (fun hc => ?_) (fun hc => ?_)
  · refine E.skip ?_
    refine N.then ?_
    refine E.seq ?_
    refine E.block ?_
    refine E.seq ?_
    refine E.region ?_
    refine X.mv rfl rfl rfl rfl rfl ?_
    refine X.asg rfl rfl rfl rfl rfl ?_
    refine X.done [(0, _), (4, _), (3, _), (5, _), (12, _), (13, _), (14, _), (15, _), (6, _)] ⟨rfl, rfl, rfl, rfl, rfl, rfl, rfl, rfl, rfl, trivial⟩ ?_
    refine N.then ?_
    refine E.region ?_
    refine X.ld rfl rfl rfl rfl Try.ag22 (h4) (rfl) ?_
    refine X.mv rfl rfl rfl rfl rfl ?_
    refine X.mv rfl rfl rfl rfl rfl ?_
    refine X.ixA rfl rfl rfl rfl rfl rfl Try.underlying22 Try.sz3 (by omega) ?_
    refine X.st rfl rfl rfl rfl rfl rfl rfl Try.sz3 hL (by simp only [List.length_map, List.length_append, List.length_range, List.length_replicate]; omega) ?_
    intro H6 hLn hk6
    rw [show List.range i ++ List.replicate (n - i) 0 = [] ++ List.range i ++ 0 :: List.replicate (n - (i + 1)) 0 ++ [] by rw [List.nil_append, List.append_nil, ← List.replicate_succ]; congr 2; omega, nv_set (by simp)] at hLn
    have h5n := hk6.keep h5 (by simp; exact hcc.2.1)
    have h4n := hk6.keep h4 (by simp; exact fun h => hcc.1 h.symm)
    have kkn := kk6.trans hk6 (by simp; exact hll)
    refine X.done [(0, _), (4, _), (3, _), (5, _), (12, _), (13, _), (14, _), (15, _), (6, _), (16, _), (17, _), (18, _), (19, _)] ⟨rfl, rfl, rfl, rfl, rfl, rfl, rfl, rfl, rfl, rfl, rfl, rfl, rfl, trivial⟩ ?_
    refine N.blk ?_
    refine N.then ?_
    refine E.region ?_
    refine X.addE (zz := ((i + 1 : Nat) : Int)) rfl rfl rfl rfl rfl rfl (by rw [IntWalk.i64_in _ (by omega)] <;> omega) ?_
    refine X.mv rfl rfl rfl rfl rfl ?_
    refine X.done [(0, _), (4, _), (3, _), (5, _), (12, _), (13, _), (14, _), (15, _), (6, _), (16, _), (17, _), (18, _), (19, _), (20, _)] ⟨rfl, rfl, rfl, rfl, rfl, rfl, rfl, rfl, rfl, rfl, rfl, rfl, rfl, rfl, trivial⟩ ?_
    exact N.next (G := fun (i : Nat) => _) (i + 1) ⟨rfl, rfl, rfl, rfl, rfl, rfl, trivial⟩ ⟨by omega, h5n, h4n, by rw [hLn, List.nil_append, List.append_nil, ← List.range_succ], kkn, Nat.le_trans hs4 hk6.size⟩ (by omega)
  · refine E.exit ?_
    refine N.thenX ?_
    refine N.loopX ?_
    refine N.blkX ?_
    refine N.then ?_
    refine E.seq ?_
    obtain rfl : n = i := by omega
    have q55 := lt_of h5
    have q54 := lt_of h4
    have q5l := lt_of hL
    refine E.region ?_
    refine X.mv rfl rfl rfl rfl rfl ?_
    refine X.mk Try.underlying22 Try.zi3_22 rfl rfl rfl rfl rfl rfl rfl (by omega) (by omega) (by simp only [maxLen]; omega) ?_
    intro hb H7 hnb hB hk7
    replace h5 := hk7.keep h5 (by simp)
    replace h4 := hk7.keep h4 (by simp)
    replace hL := hk7.keep hL (by simp)
    have kk7 := kk6.trans hk7 (by simp)
    have qb := lt_of hB
    have q6 := kk6.size
    refine X.alloc (z := .slice none 0 0) (cs := [.slice none 0 0]) rfl rfl rfl rfl (by kernel_rfl) rfl ?_
    intro c3 H8 hn3 h3 hk8
    replace h5 := hk8.keep h5 (by simp)
    replace h4 := hk8.keep h4 (by simp)
    replace hL := hk8.keep hL (by simp)
    replace hB := hk8.keep hB (by simp)
    have kk8 := kk7.trans hk8 (by simp)
    have q3 := lt_of h3
    have s8 := hk8.size
    refine X.st rfl rfl rfl rfl rfl rfl rfl Try.sz22 h3 (by show 0 < 1; omega) ?_
    intro H9 h3n hk9
    replace h3 : H9[c3]? = some (.cells ([sl0 hb n] : List Value).toArray 22 (0, 0)) := h3n
    replace h5 := hk9.keep h5 (by simp; omega)
    replace h4 := hk9.keep h4 (by simp; omega)
    replace hL := hk9.keep hL (by simp; omega)
    replace hB := hk9.keep hB (by simp; omega)
    have s9 := hk9.size
    have kk9 := kk8.trans hk9 (by simp; have := kk8.size; omega)
    refine X.done [(0, _), (4, _), (3, _), (5, _), (7, _)] ⟨rfl, rfl, rfl, rfl, rfl, trivial⟩ ?_
    refine N.then ?_
    refine E.seq ?_
    refine E.region ?_
    refine X.alloc (z := .nilFunc) (cs := [.nilFunc]) rfl rfl rfl rfl (by kernel_rfl) rfl ?_
    intro c2 H10 hn2 h2 hk10
    replace h5 := hk10.keep h5 (by simp)
    replace h4 := hk10.keep h4 (by simp)
    replace h3 := hk10.keep h3 (by simp)
    replace hL := hk10.keep hL (by simp)
    replace hB := hk10.keep hB (by simp)
    have kk10 := kk9.trans hk10 (by simp)
    have q2 := lt_of h2
    have s10 := hk10.size
    refine X.done [(0, _), (4, _), (3, _), (5, _), (7, _), (8, _)] ⟨rfl, rfl, rfl, rfl, rfl, rfl, trivial⟩ ?_
    refine N.then ?_
    refine E.seq ?_
    refine E.region ?_
    refine X.fn rfl rfl rfl rfl rfl rfl ?_
    refine X.st rfl rfl rfl rfl rfl rfl rfl Try.sz52 h2 (by show 0 < 1; omega) ?_
    intro H11 h2n hk11
    replace h2 : H11[c2]? = some (.cells ([SV c2 c3 c4 c5] : List Value).toArray 52 (0, 0)) := h2n
    replace h5 := hk11.keep h5 (by simp; omega)
    replace h4 := hk11.keep h4 (by simp; omega)
    replace h3 := hk11.keep h3 (by simp; omega)
    replace hL := hk11.keep hL (by simp; omega)
    replace hB := hk11.keep hB (by simp; omega)
    have s11 := hk11.size
    have kk11 := kk10.trans hk11 (by simp; have := kk10.size; omega)
    refine X.done [(0, _), (4, _), (5, _), (8, _)] ⟨rfl, rfl, rfl, rfl, trivial⟩ ?_
    refine N.then ?_
    refine E.seq ?_
    have hin2 : ∀ u ∈ List.range n, u < n := fun u hu => List.mem_range.1 hu
    have hkb : H.size ≤ hb := by have := kk6.size; omega
    have sc : SC H11 lt fa cap n c2 c3 c4 c5 hb lb := ⟨hcl, h2, h3, h4, h5, by omega, by simp; omega, by simp; omega, by simp; omega, by simp; omega, fun H' hk x y hx hy => hah H' (kk11.trans hk (by simp; exact ⟨hkb, hll⟩)) x y hx hy⟩
    have sp : SP H11 n hb lb [] (List.range n) [] (List.replicate n 0) 0 n H11 := ⟨rfl, by simp, by simp, by simp, hin2, by rw [hL]; simp, by rw [hB]; simp, Kp.refl _ _⟩
    refine E.region ?_
    refine X.ld rfl rfl rfl rfl Try.ag52 (h2) (rfl) ?_
    refine X.mv rfl rfl rfl rfl rfl ?_
    refine X.callv rfl rfl rfl rfl rfl rfl Try.cl29 (sort_ct H11 lt fa cap n c2 c3 c4 c5 hb lb sc hn n [] (List.range n) [] _ 0 n H11 (by simp) sp) ?_
    rintro v9 H12 ⟨hs', hl', hr9, hh9, hk9⟩
    have h4x := sc.k4 hk9
    refine X.done [(4, _), (5, _)] ⟨rfl, rfl, trivial⟩ ?_
    refine N.then ?_
    refine E.seq ?_
    refine E.region ?_
    refine X.ld rfl rfl rfl rfl Try.ag22 (h4x) (rfl) ?_
    refine X.asg rfl rfl rfl rfl rfl ?_
    refine X.done [(4, _)] ⟨rfl, trivial⟩ ?_
    refine N.then ?_
    refine E.ret ?_
    exact N.retH [_] ⟨_, _, rfl, rfl, rfl⟩ ⟨lb, rfl, by simpa using hr9, hll, kk11.trans hk9 (by simp; exact ⟨hkb, hll⟩)⟩

end Go.Proofs.Ytjlelcfabfmiaaa