/- The walk: a row put in order by halves. -/
import Derived.Test.YtjlelcfabfmiaaaW3
import Derived.Test.YtjlelcfabfmiaaaM2
import Derived.Test.YtjlelcfabfmiaaaQ
namespace Go.Proofs.Ytjlelcfabfmiaaa
open Go.SX Go.Hf
attribute [local irreducible] X E N Ct
set_option linter.unusedVariables false
set_option linter.unusedSimpArgs false
abbrev SV (b2 b3 b4 b5 : Nat) : Value := .func (.func 29) ([] : List Value).toArray ([ptr b2, ptr b3, ptr b4, ptr b5] : List Value).toArray
abbrev AV (fa : FuncId) (cap : List Value) : Value := .func (.func fa) ([] : List Value).toArray cap.toArray
abbrev sl0 (b n : Nat) : Value := .slice (some ⟨b, 0, none⟩) n n
/-- The cells that the inner function sees, and what is ahead. -/
structure SC (H0 : Heap) (lt : Nat → Nat → Bool) (fa : FuncId) (cap : List Value) (n b2 b3 b4 b5 hb lb : Nat) : Prop where
  cl : callable Try.prog fa = true
  c2 : H0[b2]? = some (.cells ([SV b2 b3 b4 b5] : List Value).toArray 52 (0, 0))
  c3 : H0[b3]? = some (.cells ([sl0 hb n] : List Value).toArray 22 (0, 0))
  c4 : H0[b4]? = some (.cells ([sl0 lb n] : List Value).toArray 22 (0, 0))
  c5 : H0[b5]? = some (.cells ([AV fa cap] : List Value).toArray 44 (0, 0))
  hl : hb ≠ lb
  n2 : b2 ∉ [hb, lb]
  n3 : b3 ∉ [hb, lb]
  n4 : b4 ∉ [hb, lb]
  n5 : b5 ∉ [hb, lb]
  ah : ∀ H' : Heap, Kp [hb, lb] H0 H' → ∀ x y : Nat, x < n → y < n → Ct Try.prog fa ([] ++ [i64 (x : Int), i64 (y : Int)] ++ cap).toArray H' (fun v H'' => v = .bool (decide (lt x y = true)) ∧ H'' = H')
section
variable {H0 H : Heap} {lt : Nat → Nat → Bool} {fa : FuncId} {cap : List Value} {n b2 b3 b4 b5 hb lb : Nat}
theorem SC.k2 (s : SC H0 lt fa cap n b2 b3 b4 b5 hb lb) (h : Kp [hb, lb] H0 H) : H[b2]? = some (.cells ([SV b2 b3 b4 b5] : List Value).toArray 52 (0, 0)) := h.keep s.c2 s.n2
theorem SC.k3 (s : SC H0 lt fa cap n b2 b3 b4 b5 hb lb) (h : Kp [hb, lb] H0 H) : H[b3]? = some (.cells ([sl0 hb n] : List Value).toArray 22 (0, 0)) := h.keep s.c3 s.n3
theorem SC.k4 (s : SC H0 lt fa cap n b2 b3 b4 b5 hb lb) (h : Kp [hb, lb] H0 H) : H[b4]? = some (.cells ([sl0 lb n] : List Value).toArray 22 (0, 0)) := h.keep s.c4 s.n4
theorem SC.k5 (s : SC H0 lt fa cap n b2 b3 b4 b5 hb lb) (h : Kp [hb, lb] H0 H) : H[b5]? = some (.cells ([AV fa cap] : List Value).toArray 44 (0, 0)) := h.keep s.c5 s.n5
end
abbrev leO (lt : Nat → Nat → Bool) (a b : Nat) : Bool := !(lt b a)
structure SP (H0 : Heap) (n hb lb : Nat) (p x s hs : List Nat) (fr to : Nat) (H : Heap) : Prop where
  fr : fr = p.length
  to : to = p.length + x.length
  len : p.length + x.length + s.length = n
  lh : hs.length = n
  lt : ∀ y ∈ x, y < n
  row : H[lb]? = some (.cells (nv (p ++ x ++ s)).toArray 3 (0, 0))
  half : H[hb]? = some (.cells (nv hs).toArray 3 (0, 0))
  kp : Kp [hb, lb] H0 H
abbrev SR (H0 : Heap) (lt : Nat → Nat → Bool) (n hb lb : Nat) (p x s : List Nat) (v : Value) (H' : Heap) : Prop :=
  ∃ hs' : List Nat, hs'.length = n ∧ H'[lb]? = some (.cells (nv (p ++ ms (leO lt) x ++ s)).toArray 3 (0, 0)) ∧ H'[hb]? = some (.cells (nv hs').toArray 3 (0, 0)) ∧ Kp [hb, lb] H0 H'
theorem sl_at {b n fr to : Nat} (h : fr < n) : (Value.slice (if n = (fr : Int).toNat then (some ⟨b, 0, none⟩ : Option Addr) else (some (⟨b, 0, none⟩ : Addr)).map (·.add ((fr : Int).toNat * 1))) ((to : Int).toNat - (fr : Int).toNat) (n - (fr : Int).toNat)) = .slice (some ⟨b, fr, none⟩) (to - fr) (n - fr) := by
  rw [Int.toNat_natCast, Int.toNat_natCast, if_neg (by omega), Nat.mul_one]
  have : (⟨b, 0, none⟩ : Addr).add fr = ⟨b, fr, none⟩ := by rw [addr_add, Nat.zero_add]
  rw [Option.map_some, this]
theorem nv_at {l : List Nat} {i x : Nat} (h : l[i]? = some x) : (nv l)[0 + ((i : Nat) : Int).toNat * 1]? = some (i64 (x : Int)) := by
  rw [Nat.zero_add, Nat.mul_one, Int.toNat_natCast, List.getElem?_map, h]; rfl
theorem nv_set {p out rest s : List Nat} {r x i : Nat} (h : i = p.length + out.length) : (nv (p ++ out ++ r :: rest ++ s)).set (0 + ((i : Nat) : Int).toNat * 1) (i64 (x : Int)) = nv (p ++ (out ++ [x]) ++ rest ++ s) := by
  rw [Nat.zero_add, Nat.mul_one, Int.toNat_natCast, ← List.map_set]
  congr 1
  subst h
  rw [List.append_assoc (p ++ out), List.set_append_right _ _ (by simp)]
  simp
theorem nv_src {H : Heap} {b m c : Nat} {p z s : List Nat} (h : H[b]? = some (.cells (nv (p ++ z ++ s)).toArray 3 (0, 0))) (hm : m = z.length) : Rd H 1 (.slice (some ⟨b, p.length, none⟩) m c) m (nv z) := by
  subst hm
  refine ⟨by simp, _, _, rfl, .inr ⟨b, p.length, _, _, _, rfl, h, fun j u hj => ?_⟩⟩
  rw [List.getElem?_map] at hj ⊢
  cases e : z[j]? with
  | none => rw [e] at hj; simp at hj
  | some w =>
    rw [e] at hj
    have hj' : j < z.length := (List.getElem?_eq_some_iff.1 e).1
    rw [List.append_assoc, List.getElem?_append_right (by omega), Nat.add_sub_cancel_left, List.getElem?_append_left hj', e]
    exact hj
theorem drop_head {l r : List Nat} {i x : Nat} (h : l.drop i = x :: r) : l[i]? = some x ∧ l.drop (i + 1) = r := by
  have h1 : i < l.length := by
    rcases Nat.lt_or_ge i l.length with h1 | h1
    · exact h1
    · rw [List.drop_eq_nil_of_le h1] at h; simp at h
  rw [List.drop_eq_getElem_cons h1] at h
  obtain ⟨h2, h3⟩ := List.cons.inj h
  exact ⟨by rw [List.getElem?_eq_getElem h1, h2], h3⟩
theorem at_A {p A B s : List Nat} {i x fr : Nat} (h : A[i]? = some x) (hf : fr = p.length) : (p ++ A ++ B ++ s)[fr + i]? = some x := by
  have h1 := (List.getElem?_eq_some_iff.1 h).1
  subst hf
  rw [List.append_assoc, List.append_assoc, List.getElem?_append_right (by omega), Nat.add_sub_cancel_left, List.getElem?_append_left h1, h]
theorem at_B {p A B s : List Nat} {i x fr m : Nat} (h : B[i]? = some x) (hf : fr = p.length) (hm : m = A.length) : (p ++ A ++ B ++ s)[fr + m + i]? = some x := by
  have h1 := (List.getElem?_eq_some_iff.1 h).1
  subst hf hm
  rw [List.append_assoc, List.getElem?_append_right (by simp), List.length_append, Nat.add_sub_cancel_left, List.getElem?_append_left h1, h]
structure SS where
  i : Nat
  j : Nat
  k : Nat
  a : List Nat
  b : List Nat
  out : List Nat
  rest : List Nat

theorem sort_step (H0 : Heap) (lt : Nat → Nat → Bool) (fa : FuncId) (cap : List Value) (n b2 b3 b4 b5 hb lb : Nat) (sc : SC H0 lt fa cap n b2 b3 b4 b5 hb lb) (hn : n ≤ 100000) (m : Nat) (ih : ∀ m', m' < m → ∀ (p x s hs : List Nat) (fr to : Nat) (H : Heap), x.length = m' → SP H0 n hb lb p x s hs fr to H → Ct Try.prog 29 #[i64 (fr : Int), i64 (to : Int), ptr b2, ptr b3, ptr b4, ptr b5] H (SR H0 lt n hb lb p x s)) (p x s hs : List Nat) (fr to : Nat) (H : Heap) (hm : x.length = m) (sp : SP H0 n hb lb p x s hs fr to H) : Ct Try.prog 29 #[i64 (fr : Int), i64 (to : Int), ptr b2, ptr b3, ptr b4, ptr b5] H (SR H0 lt n hb lb p x s) := by
  have hfr := sp.fr
  have hto := sp.to
  have hln := sp.len
  have hkp := sp.kp
  have hrow0 := sp.row
  have hhalf0 := sp.half
  have hxn := sp.lt
  have hlh := sp.lh
  refine Ct.into 84 Try.func29 rfl [(0, i64 (fr : Int)), (1, i64 (to : Int)), (2, ptr b2), (3, ptr b3), (4, ptr b4), (5, ptr b5)] rfl ⟨rfl, rfl, rfl, rfl, rfl, rfl, trivial⟩ ?_
  refine E.seq ?_
  refine E.seq ?_
  refine E.region ?_
  refine X.mv rfl rfl rfl rfl rfl ?_
  refine X.mv rfl rfl rfl rfl rfl ?_
  refine X.sbE (zz := ((x.length : Nat) : Int)) rfl rfl rfl rfl rfl rfl (by rw [IntWalk.i64_in _ (by omega)] <;> omega) ?_
  refine X.lss rfl rfl rfl rfl rfl rfl ?_
  refine X.done [(0, _), (1, _), (2, _), (3, _), (4, _), (5, _), (15, _)] ⟨rfl, rfl, rfl, rfl, rfl, rfl, rfl, trivial⟩ ?_
  refine N.then ?_
  refine E.condD rfl (fun hc => ?_) (fun hc => ?_)
  · refine E.ret ?_
    refine N.thenR ?_
    exact N.retH [] rfl ⟨hs, hlh, by rw [ms_short _ (by omega)]; exact hrow0, hhalf0, hkp⟩
  · refine E.skip ?_
    refine N.then ?_
    refine E.seq ?_
    obtain ⟨xa, xb, hx, hla, hlb, hms⟩ : ∃ xa xb, x = xa ++ xb ∧ xa.length = x.length / 2 ∧ xb.length = x.length - x.length / 2 ∧ ms (leO lt) x = mg (leO lt) (ms (leO lt) xa) (ms (leO lt) xb) := ⟨_, _, (List.take_append_drop (x.length / 2) x).symm, by rw [List.length_take]; omega, by rw [List.length_drop], ms_split _ (by omega)⟩
    obtain ⟨A, hA⟩ : ∃ A, A = ms (leO lt) xa := ⟨_, rfl⟩
    obtain ⟨B, hB⟩ : ∃ B, B = ms (leO lt) xb := ⟨_, rfl⟩
    have hAl : A.length = xa.length := by rw [hA, ms_len]
    have hBl : B.length = xb.length := by rw [hB, ms_len]
    have hAn : ∀ u ∈ A, u < n := fun u hu => hxn u (by rw [hA, ms_mem] at hu; rw [hx]; simp [hu])
    have hBn : ∀ u ∈ B, u < n := fun u hu => hxn u (by rw [hB, ms_mem] at hu; rw [hx]; simp [hu])
    refine E.region ?_
    refine X.mv rfl rfl rfl rfl rfl ?_
    refine X.mv rfl rfl rfl rfl rfl ?_
    refine X.addE (zz := ((fr + to : Nat) : Int)) rfl rfl rfl rfl rfl rfl (by rw [IntWalk.i64_in _ (by omega)] <;> omega) ?_
    refine X.quoE (zz := ((fr + xa.length : Nat) : Int)) rfl rfl rfl rfl rfl rfl (by omega) (by rw [IntWalk.i64_quo _ _ (by omega)] <;> omega) ?_
    refine X.asg rfl rfl rfl rfl rfl ?_
    refine X.done [(0, _), (1, _), (2, _), (3, _), (4, _), (5, _), (8, _)] ⟨rfl, rfl, rfl, rfl, rfl, rfl, rfl, trivial⟩ ?_
    refine N.then ?_
    refine E.seq ?_
    refine E.region ?_
    refine X.ld rfl rfl rfl rfl Try.ag52 (sc.k2 hkp) (rfl) ?_
    refine X.mv rfl rfl rfl rfl rfl ?_
    refine X.mv rfl rfl rfl rfl rfl ?_
    refine X.callv rfl rfl rfl rfl rfl rfl Try.cl29 (ih xa.length (by omega) p xa (xb ++ s) hs fr (fr + xa.length) H rfl ⟨hfr, by omega, by rw [List.length_append]; omega, hlh, fun u hu => hxn u (by rw [hx]; simp [hu]), by rw [hrow0, hx]; simp, hhalf0, hkp⟩) ?_
    rintro v1 H1 ⟨hs1, hl1, hr1, hh1, hk1⟩
    rw [← hA] at hr1
    refine X.done [(0, _), (1, _), (2, _), (3, _), (4, _), (5, _), (8, _)] ⟨rfl, rfl, rfl, rfl, rfl, rfl, rfl, trivial⟩ ?_
    refine N.then ?_
    refine E.seq ?_
    refine E.region ?_
    refine X.ld rfl rfl rfl rfl Try.ag52 (sc.k2 hk1) (rfl) ?_
    refine X.mv rfl rfl rfl rfl rfl ?_
    refine X.mv rfl rfl rfl rfl rfl ?_
    refine X.callv rfl rfl rfl rfl rfl rfl Try.cl29 (ih xb.length (by omega) (p ++ A) xb s hs1 (fr + xa.length) to H1 rfl ⟨by rw [List.length_append]; omega, by rw [List.length_append]; omega, by rw [List.length_append]; omega, hl1, fun u hu => hxn u (by rw [hx]; simp [hu]), by rw [hr1]; simp, hh1, hk1⟩) ?_
    rintro v2 H2 ⟨hs2, hl2, hr2, hh2, hk2⟩
    rw [← hB] at hr2
    refine X.done [(0, _), (1, _), (3, _), (4, _), (5, _), (8, _)] ⟨rfl, rfl, rfl, rfl, rfl, rfl, trivial⟩ ?_
    refine N.then ?_
    refine E.seq ?_
    refine E.regionD (fun H' => H'[b3]? = some (.cells ([sl0 hb n] : List Value).toArray 22 (0, 0)) ∧ H'[b4]? = some (.cells ([sl0 lb n] : List Value).toArray 22 (0, 0))) [(0, .st), (1, .pu), (2, .pu), (3, .pu), (4, .st), (5, .pu), (6, .pu), (7, .pu), (8, .mk)] Try.mixed (by kernel_rfl) (⟨sc.k3 hk2, sc.k4 hk2⟩) ?_
    refine X.ld rfl rfl rfl rfl Try.ag22 (fun H' hF => hF.1) (rfl) ?_
    refine X.mv rfl rfl rfl rfl rfl ?_
    refine X.mv rfl rfl rfl rfl rfl ?_
    refine X.sl3 rfl rfl rfl rfl rfl rfl rfl Try.underlying22 Try.sz3 (by omega) ?_
    rw [sl_at (by omega)]
    refine X.ld rfl rfl rfl rfl Try.ag22 (fun H' hF => hF.2) (rfl) ?_
    refine X.mv rfl rfl rfl rfl rfl ?_
    refine X.mv rfl rfl rfl rfl rfl ?_
    refine X.sl3 rfl rfl rfl rfl rfl rfl rfl Try.underlying22 Try.sz3 (by omega) ?_
    rw [sl_at (by omega)]
    refine X.cpyO (b := hb) (o := fr) (m := to - fr) (news := nv (A ++ B)) Try.underlying22 Try.sz3 rfl rfl rfl rfl rfl rfl hh2 (by rw [List.length_map]; omega) (by omega) (by rw [hfr]; exact nv_src (s := s) (by rw [show p ++ (A ++ B) ++ s = p ++ A ++ B ++ s by simp]; exact hr2) (by rw [List.length_append]; omega)) (nv_one _) ?_
    intro H3 hb3 hk3
    have hr3 := hk3.keep hr2 (by simp; exact fun h => sc.hl h.symm)
    have hkk3 := hk2.trans hk3 (by simp)
    obtain ⟨ph, sh, hph, hphl, hh3⟩ : ∃ ph sh : List Nat, fr = ph.length ∧ (ph ++ A ++ B ++ sh).length = n ∧ H3[hb]? = some (.cells (nv (ph ++ A ++ B ++ sh)).toArray 3 (0, 0)) := by
      refine ⟨hs2.take fr, hs2.drop (fr + (to - fr)), by rw [List.length_take]; omega, by simp only [List.length_append, List.length_take, List.length_drop]; omega, ?_⟩
      rw [hb3]; simp [List.map_take, List.map_drop]
    refine ⟨⟨sc.k3 hkk3, sc.k4 hkk3⟩, ?_⟩
    refine X.done [(0, _), (1, _), (3, _), (4, _), (5, _), (8, _)] ⟨rfl, rfl, rfl, rfl, rfl, rfl, trivial⟩ ?_
    refine N.then ?_
    refine E.seq ?_
    refine E.region ?_
    refine X.mv rfl rfl rfl rfl rfl ?_
    refine X.mv rfl rfl rfl rfl rfl ?_
    refine X.asg rfl rfl rfl rfl rfl ?_
    refine X.asg rfl rfl rfl rfl rfl ?_
    refine X.done [(0, _), (1, _), (3, _), (4, _), (5, _), (8, _), (9, _), (10, _)] ⟨rfl, rfl, rfl, rfl, rfl, rfl, rfl, rfl, trivial⟩ ?_
    refine N.then ?_
    refine E.seq ?_
    refine E.region ?_
    refine X.mv rfl rfl rfl rfl rfl ?_
    refine X.asg rfl rfl rfl rfl rfl ?_
    refine X.done [(1, _), (3, _), (4, _), (5, _), (8, _), (9, _), (10, _), (11, _)] ⟨rfl, rfl, rfl, rfl, rfl, rfl, rfl, rfl, trivial⟩ ?_
    refine N.then ?_
    refine E.block ?_
    refine E.loop (fun (q : SS) => [(1, i64 (to : Int)), (3, ptr b3), (4, ptr b4), (5, ptr b5), (8, i64 ((fr + xa.length : Nat) : Int)), (9, i64 ((fr + q.i : Nat) : Int)), (10, i64 ((fr + xa.length + q.j : Nat) : Int)), (11, i64 ((fr + q.k : Nat) : Int))]) (fun (q : SS) H' => A.drop q.i = q.a ∧ B.drop q.j = q.b ∧ q.out.length = q.k ∧ q.k = q.i + q.j ∧ q.i + q.a.length = A.length ∧ q.j + q.b.length = B.length ∧ q.rest.length = q.a.length + q.b.length ∧ q.out ++ mg (leO lt) q.a q.b = mg (leO lt) A B ∧ H'[lb]? = some (.cells (nv (p ++ q.out ++ q.rest ++ s)).toArray 3 (0, 0)) ∧ H'[hb]? = some (.cells (nv (ph ++ A ++ B ++ sh)).toArray 3 (0, 0)) ∧ Kp [hb, lb] H0 H') (fun (q : SS) => q.rest.length) ⟨0, 0, 0, A, B, [], A ++ B⟩ ⟨rfl, rfl, rfl, rfl, rfl, rfl, rfl, rfl, trivial⟩ ⟨rfl, rfl, rfl, rfl, by simp, by simp, by simp, rfl, by rw [hr3]; simp, hh3, hkk3⟩ ?_
    rintro ⟨i, j, k, a, b, out, rest⟩ H5 hJ
    dsimp only at hJ ⊢
    obtain ⟨hai, hbj, hol, hkij, hia, hjb, hrl, heq, hrow, hhf, hkk⟩ := hJ
    refine E.seq ?_
    refine E.seq ?_
    refine E.region ?_
    refine X.mv rfl rfl rfl rfl rfl ?_
    refine X.mv rfl rfl rfl rfl rfl ?_
    refine X.lss rfl rfl rfl rfl rfl rfl ?_
    refine X.done [(1, _), (3, _), (4, _), (5, _), (8, _), (9, _), (10, _), (11, _), (40, _), (41, _), (42, _)] ⟨rfl, rfl, rfl, rfl, rfl, rfl, rfl, rfl, rfl, rfl, rfl, trivial⟩ ?_
    refine N.then ?_
    refine E.condD rfl (fun hc => ?_) (fun hc => ?_)
    · refine E.skip ?_
      refine N.then ?_
      refine E.seq ?_
      refine E.block ?_
      refine E.seq ?_
      refine E.regionD (fun H' => H' = H5) [(0, .pu), (1, .pu), (2, .pu), (3, .pu), (4, .pu), (5, .pu), (6, .pu), (7, .pu), (8, .st), (9, .st), (10, .pu), (11, .pu), (12, .st), (13, .st), (14, .pu), (15, .pu), (16, .st), (17, .mk), (18, .pu), (19, .pu), (20, .pu)] Try.mixed (by kernel_rfl) (rfl) ?_
      refine X.mv rfl rfl rfl rfl rfl ?_
      rcases b with _ | ⟨y, b⟩
      · simp only [List.length_nil] at hjb hrl
        obtain ⟨u, a, rfl⟩ : ∃ u l, a = u :: l := by
          cases a with
          | nil => simp only [List.length_nil] at hrl hia; omega
          | cons u l => exact ⟨u, l, rfl⟩
        have hx1 := drop_head hai
        have hgx := nv_at (at_A (p := ph) (B := B) (s := sh) hx1.1 hph)
        have hux : u < n := hAn u (List.mem_of_getElem? hx1.1)
        simp only [List.length_cons] at hia hrl
        refine X.mv rfl rfl rfl rfl rfl ?_
        refine X.eqlT rfl rfl rfl rfl rfl rfl (by first | (simp only [List.length_nil] at hjb; omega) | omega) ?_
        refine X.mv rfl rfl rfl rfl rfl ?_
        refine X.skip rfl rfl rfl ?_
        refine X.skip rfl rfl rfl ?_
        refine X.skip rfl rfl rfl ?_
        refine X.skip rfl rfl rfl ?_
        refine X.skip rfl rfl rfl ?_
        refine X.skip rfl rfl rfl ?_
        refine X.skip rfl rfl rfl ?_
        refine X.skip rfl rfl rfl ?_
        refine X.skip rfl rfl rfl ?_
        refine X.skip rfl rfl rfl ?_
        refine X.skip rfl rfl rfl ?_
        refine X.skip rfl rfl rfl ?_
        refine X.skip rfl rfl rfl ?_
        refine X.skip rfl rfl rfl ?_
        refine X.skip rfl rfl rfl ?_
        refine X.skip rfl rfl rfl ?_
        refine X.pickT rfl rfl rfl rfl rfl rfl ?_
        refine X.done [(1, _), (3, _), (4, _), (5, _), (8, _), (9, _), (10, _), (11, _), (40, _), (41, _), (42, _), (45, _), (46, _), (47, _), (48, _), (49, _), (50, _), (51, _), (52, _), (53, _), (54, _), (55, _), (56, _), (57, _), (58, _), (59, _), (60, _), (61, _), (62, _), (63, _), (64, _), (65, _)] ⟨rfl, rfl, rfl, rfl, rfl, rfl, rfl, rfl, rfl, rfl, rfl, rfl, rfl, rfl, rfl, rfl, rfl, rfl, rfl, rfl, rfl, rfl, rfl, rfl, rfl, rfl, rfl, rfl, rfl, rfl, rfl, rfl, trivial⟩ ?_
        refine N.then ?_
        refine E.condT rfl ?_
        refine E.seq ?_
        obtain ⟨r, rest, rfl⟩ : ∃ r l, rest = r :: l := by
          cases rest with
          | nil => simp only [List.length_nil] at hrl; omega
          | cons r l => exact ⟨r, l, rfl⟩
        simp only [List.length_cons, List.length_nil] at hrl
        refine E.regionD (fun H' => H' = H5) [(0, .st), (1, .pu), (2, .st), (3, .pu), (4, .pu), (5, .st), (6, .pu), (7, .mv)] Try.mixed (by kernel_rfl) (rfl) ?_
        refine X.ld rfl rfl rfl rfl Try.ag22 (fun H' hF => by subst hF; exact sc.k4 hkk) (rfl) ?_
        refine X.mv rfl rfl rfl rfl rfl ?_
        refine X.ld rfl rfl rfl rfl Try.ag22 (fun H' hF => by subst hF; exact sc.k3 hkk) (rfl) ?_
        refine X.mv rfl rfl rfl rfl rfl ?_
        refine X.ixA rfl rfl rfl rfl rfl rfl Try.underlying22 Try.sz3 (by omega) ?_
        refine X.ld rfl rfl rfl rfl Try.ag3 (fun H' hF => by subst hF; exact hhf) (hgx) ?_
        refine X.ixA rfl rfl rfl rfl rfl rfl Try.underlying22 Try.sz3 (by omega) ?_
        refine X.st rfl rfl rfl rfl rfl rfl rfl Try.sz3 hrow (by first | (simp only [List.length_map, List.length_append, List.length_cons, Int.toNat_natCast]; omega) | skip) ?_
        intro H6 hb6 hk6
        rw [nv_set (by omega)] at hb6
        have hhf6 := hk6.keep hhf (by simp; exact sc.hl)
        have hkk6 := hkk.trans hk6 (by simp)
        refine X.done [(1, _), (3, _), (4, _), (5, _), (8, _), (9, _), (10, _), (11, _), (40, _), (41, _), (42, _), (45, _), (46, _), (47, _), (48, _), (49, _), (50, _), (51, _), (52, _), (53, _), (54, _), (55, _), (56, _), (57, _), (58, _), (59, _), (60, _), (61, _), (62, _), (63, _), (64, _), (65, _), (66, _), (67, _), (68, _), (69, _), (70, _), (71, _), (72, _)] ⟨rfl, rfl, rfl, rfl, rfl, rfl, rfl, rfl, rfl, rfl, rfl, rfl, rfl, rfl, rfl, rfl, rfl, rfl, rfl, rfl, rfl, rfl, rfl, rfl, rfl, rfl, rfl, rfl, rfl, rfl, rfl, rfl, rfl, rfl, rfl, rfl, rfl, rfl, rfl, trivial⟩ ?_
        refine N.then ?_
        refine E.region ?_
        refine X.mv rfl rfl rfl rfl rfl ?_
        refine X.addE (zz := ((fr + (i + 1) : Nat) : Int)) rfl rfl rfl rfl rfl rfl (by rw [IntWalk.i64_in _ (by omega)] <;> omega) ?_
        refine X.asg rfl rfl rfl rfl rfl ?_
        refine X.done [(1, _), (3, _), (4, _), (5, _), (8, _), (9, _), (10, _), (11, _), (40, _), (41, _), (42, _), (45, _), (46, _), (47, _), (48, _), (49, _), (50, _), (51, _), (52, _), (53, _), (54, _), (55, _), (56, _), (57, _), (58, _), (59, _), (60, _), (61, _), (62, _), (63, _), (64, _), (65, _), (66, _), (67, _), (68, _), (69, _), (70, _), (71, _), (72, _), (73, _), (74, _)] ⟨rfl, rfl, rfl, rfl, rfl, rfl, rfl, rfl, rfl, rfl, rfl, rfl, rfl, rfl, rfl, rfl, rfl, rfl, rfl, rfl, rfl, rfl, rfl, rfl, rfl, rfl, rfl, rfl, rfl, rfl, rfl, rfl, rfl, rfl, rfl, rfl, rfl, rfl, rfl, rfl, rfl, trivial⟩ ?_
        refine N.blk ?_
        refine N.then ?_
        refine E.region ?_
        refine X.mv rfl rfl rfl rfl rfl ?_
        refine X.addE (zz := ((fr + (k + 1) : Nat) : Int)) rfl rfl rfl rfl rfl rfl (by rw [IntWalk.i64_in _ (by omega)] <;> omega) ?_
        refine X.asg rfl rfl rfl rfl rfl ?_
        refine X.done [(1, _), (3, _), (4, _), (5, _), (8, _), (9, _), (10, _), (11, _), (40, _), (41, _), (42, _), (45, _), (46, _), (47, _), (48, _), (49, _), (50, _), (51, _), (52, _), (53, _), (54, _), (55, _), (56, _), (57, _), (58, _), (59, _), (60, _), (61, _), (62, _), (63, _), (64, _), (65, _), (66, _), (67, _), (68, _), (69, _), (70, _), (71, _), (72, _), (73, _), (74, _), (43, _), (44, _)] ⟨rfl, rfl, rfl, rfl, rfl, rfl, rfl, rfl, rfl, rfl, rfl, rfl, rfl, rfl, rfl, rfl, rfl, rfl, rfl, rfl, rfl, rfl, rfl, rfl, rfl, rfl, rfl, rfl, rfl, rfl, rfl, rfl, rfl, rfl, rfl, rfl, rfl, rfl, rfl, rfl, rfl, rfl, rfl, trivial⟩ ?_
        first
          | exact N.next (G := fun (q : SS) => _) ⟨i + 1, j, k + 1, a, _, out ++ [u], rest⟩ ⟨rfl, rfl, rfl, rfl, rfl, rfl, rfl, rfl, trivial⟩ ⟨hx1.2, hbj, by rw [List.length_append, hol]; rfl, by show k + 1 = i + 1 + j; omega, by show i + 1 + a.length = _; omega, hjb, by show rest.length = a.length + _; first | omega | (simp only [List.length_cons, List.length_nil]; omega) | (simp only [List.length_nil] at hrl ⊢; omega), by rw [← heq, List.append_assoc]; congr 1; first | (rw [mg_nil_right, mg_nil_right]; rfl) | (rw [mg_cons, if_pos (show leO lt u y = true from by simp only [leO]; simpa using hc)]; rfl), hb6, hhf6, hkk6⟩ (by show rest.length < (r :: rest).length; simp)
          | exact N.next (G := fun (q : SS) => _) ⟨i, j + 1, k + 1, _, b, out ++ [y], rest⟩ ⟨rfl, rfl, rfl, rfl, rfl, rfl, rfl, rfl, trivial⟩ ⟨hai, hy1.2, by rw [List.length_append, hol]; rfl, by show k + 1 = i + (j + 1); omega, hia, by show j + 1 + b.length = _; omega, by show rest.length = _ + b.length; first | omega | (simp only [List.length_cons, List.length_nil]; omega) | (simp only [List.length_nil] at hrl ⊢; omega), by rw [← heq, List.append_assoc]; congr 1; first | (rw [mg_nil_left, mg_nil_left]; rfl) | (rw [mg_cons, if_neg (show ¬ leO lt u y = true from by simp only [leO]; simpa using hc)]; rfl), hb6, hhf6, hkk6⟩ (by show rest.length < (r :: rest).length; simp)
      · have hy1 := drop_head hbj
        have hgy := nv_at (at_B (p := ph) (A := A) (s := sh) hy1.1 hph hAl.symm)
        have huy : y < n := hBn y (List.mem_of_getElem? hy1.1)
        simp only [List.length_cons] at hjb hrl
        refine X.mv rfl rfl rfl rfl rfl ?_
        refine X.eqlF rfl rfl rfl rfl rfl rfl (by first | (simp only [List.length_nil] at hjb; omega) | omega) ?_
        refine X.mv rfl rfl rfl rfl rfl ?_
        refine X.mv rfl rfl rfl rfl rfl ?_
        rcases a with _ | ⟨u, a⟩
        · refine X.mv rfl rfl rfl rfl rfl ?_
          refine X.lssF rfl rfl rfl rfl rfl rfl (by first | (simp only [List.length_nil] at hia; omega) | omega) ?_
          refine X.mv rfl rfl rfl rfl rfl ?_
          refine X.skip rfl rfl rfl ?_
          refine X.skip rfl rfl rfl ?_
          refine X.skip rfl rfl rfl ?_
          refine X.skip rfl rfl rfl ?_
          refine X.skip rfl rfl rfl ?_
          refine X.skip rfl rfl rfl ?_
          refine X.skip rfl rfl rfl ?_
          refine X.skip rfl rfl rfl ?_
          refine X.skip rfl rfl rfl ?_
          refine X.skip rfl rfl rfl ?_
          refine X.skip rfl rfl rfl ?_
          refine X.pickF rfl rfl rfl rfl rfl rfl ?_
          refine X.pickF rfl rfl rfl rfl rfl rfl ?_
          refine X.done [(1, _), (3, _), (4, _), (5, _), (8, _), (9, _), (10, _), (11, _), (40, _), (41, _), (42, _), (45, _), (46, _), (47, _), (48, _), (49, _), (50, _), (51, _), (52, _), (53, _), (54, _), (55, _), (56, _), (57, _), (58, _), (59, _), (60, _), (61, _), (62, _), (63, _), (64, _), (65, _)] ⟨rfl, rfl, rfl, rfl, rfl, rfl, rfl, rfl, rfl, rfl, rfl, rfl, rfl, rfl, rfl, rfl, rfl, rfl, rfl, rfl, rfl, rfl, rfl, rfl, rfl, rfl, rfl, rfl, rfl, rfl, rfl, rfl, trivial⟩ ?_
          refine N.then ?_
          refine E.condF rfl ?_
          refine E.seq ?_
          obtain ⟨r, rest, rfl⟩ : ∃ r l, rest = r :: l := by
            cases rest with
            | nil => simp only [List.length_nil] at hrl; omega
            | cons r l => exact ⟨r, l, rfl⟩
          simp only [List.length_cons, List.length_nil] at hrl
          refine E.regionD (fun H' => H' = H5) [(0, .st), (1, .pu), (2, .st), (3, .pu), (4, .pu), (5, .st), (6, .pu), (7, .mv)] Try.mixed (by kernel_rfl) (rfl) ?_
          refine X.ld rfl rfl rfl rfl Try.ag22 (fun H' hF => by subst hF; exact sc.k4 hkk) (rfl) ?_
          refine X.mv rfl rfl rfl rfl rfl ?_
          refine X.ld rfl rfl rfl rfl Try.ag22 (fun H' hF => by subst hF; exact sc.k3 hkk) (rfl) ?_
          refine X.mv rfl rfl rfl rfl rfl ?_
          refine X.ixA rfl rfl rfl rfl rfl rfl Try.underlying22 Try.sz3 (by omega) ?_
          refine X.ld rfl rfl rfl rfl Try.ag3 (fun H' hF => by subst hF; exact hhf) (hgy) ?_
          refine X.ixA rfl rfl rfl rfl rfl rfl Try.underlying22 Try.sz3 (by omega) ?_
          refine X.st rfl rfl rfl rfl rfl rfl rfl Try.sz3 hrow (by first | (simp only [List.length_map, List.length_append, List.length_cons, Int.toNat_natCast]; omega) | skip) ?_
          intro H6 hb6 hk6
          rw [nv_set (by omega)] at hb6
          have hhf6 := hk6.keep hhf (by simp; exact sc.hl)
          have hkk6 := hkk.trans hk6 (by simp)
          refine X.done [(1, _), (3, _), (4, _), (5, _), (8, _), (9, _), (10, _), (11, _), (40, _), (41, _), (42, _), (45, _), (46, _), (47, _), (48, _), (49, _), (50, _), (51, _), (52, _), (53, _), (54, _), (55, _), (56, _), (57, _), (58, _), (59, _), (60, _), (61, _), (62, _), (63, _), (64, _), (65, _), (75, _), (76, _), (77, _), (78, _), (79, _), (80, _), (81, _)] ⟨rfl, rfl, rfl, rfl, rfl, rfl, rfl, rfl, rfl, rfl, rfl, rfl, rfl, rfl, rfl, rfl, rfl, rfl, rfl, rfl, rfl, rfl, rfl, rfl, rfl, rfl, rfl, rfl, rfl, rfl, rfl, rfl, rfl, rfl, rfl, rfl, rfl, rfl, rfl, trivial⟩ ?_
          refine N.then ?_
          refine E.region ?_
          refine X.mv rfl rfl rfl rfl rfl ?_
          refine X.addE (zz := ((fr + xa.length + (j + 1) : Nat) : Int)) rfl rfl rfl rfl rfl rfl (by rw [IntWalk.i64_in _ (by omega)] <;> omega) ?_
          refine X.asg rfl rfl rfl rfl rfl ?_
          refine X.done [(1, _), (3, _), (4, _), (5, _), (8, _), (9, _), (10, _), (11, _), (40, _), (41, _), (42, _), (45, _), (46, _), (47, _), (48, _), (49, _), (50, _), (51, _), (52, _), (53, _), (54, _), (55, _), (56, _), (57, _), (58, _), (59, _), (60, _), (61, _), (62, _), (63, _), (64, _), (65, _), (75, _), (76, _), (77, _), (78, _), (79, _), (80, _), (81, _), (82, _), (83, _)] ⟨rfl, rfl, rfl, rfl, rfl, rfl, rfl, rfl, rfl, rfl, rfl, rfl, rfl, rfl, rfl, rfl, rfl, rfl, rfl, rfl, rfl, rfl, rfl, rfl, rfl, rfl, rfl, rfl, rfl, rfl, rfl, rfl, rfl, rfl, rfl, rfl, rfl, rfl, rfl, rfl, rfl, trivial⟩ ?_
          refine N.blk ?_
          refine N.then ?_
          refine E.region ?_
          refine X.mv rfl rfl rfl rfl rfl ?_
          refine X.addE (zz := ((fr + (k + 1) : Nat) : Int)) rfl rfl rfl rfl rfl rfl (by rw [IntWalk.i64_in _ (by omega)] <;> omega) ?_
          refine X.asg rfl rfl rfl rfl rfl ?_
          refine X.done [(1, _), (3, _), (4, _), (5, _), (8, _), (9, _), (10, _), (11, _), (40, _), (41, _), (42, _), (45, _), (46, _), (47, _), (48, _), (49, _), (50, _), (51, _), (52, _), (53, _), (54, _), (55, _), (56, _), (57, _), (58, _), (59, _), (60, _), (61, _), (62, _), (63, _), (64, _), (65, _), (75, _), (76, _), (77, _), (78, _), (79, _), (80, _), (81, _), (82, _), (83, _), (43, _), (44, _)] ⟨rfl, rfl, rfl, rfl, rfl, rfl, rfl, rfl, rfl, rfl, rfl, rfl, rfl, rfl, rfl, rfl, rfl, rfl, rfl, rfl, rfl, rfl, rfl, rfl, rfl, rfl, rfl, rfl, rfl, rfl, rfl, rfl, rfl, rfl, rfl, rfl, rfl, rfl, rfl, rfl, rfl, rfl, rfl, trivial⟩ ?_
          first
            | exact N.next (G := fun (q : SS) => _) ⟨i + 1, j, k + 1, a, _, out ++ [u], rest⟩ ⟨rfl, rfl, rfl, rfl, rfl, rfl, rfl, rfl, trivial⟩ ⟨hx1.2, hbj, by rw [List.length_append, hol]; rfl, by show k + 1 = i + 1 + j; omega, by show i + 1 + a.length = _; omega, hjb, by show rest.length = a.length + _; first | omega | (simp only [List.length_cons, List.length_nil]; omega) | (simp only [List.length_nil] at hrl ⊢; omega), by rw [← heq, List.append_assoc]; congr 1; first | (rw [mg_nil_right, mg_nil_right]; rfl) | (rw [mg_cons, if_pos (show leO lt u y = true from by simp only [leO]; simpa using hc)]; rfl), hb6, hhf6, hkk6⟩ (by show rest.length < (r :: rest).length; simp)
            | exact N.next (G := fun (q : SS) => _) ⟨i, j + 1, k + 1, _, b, out ++ [y], rest⟩ ⟨rfl, rfl, rfl, rfl, rfl, rfl, rfl, rfl, trivial⟩ ⟨hai, hy1.2, by rw [List.length_append, hol]; rfl, by show k + 1 = i + (j + 1); omega, hia, by show j + 1 + b.length = _; omega, by show rest.length = _ + b.length; first | omega | (simp only [List.length_cons, List.length_nil]; omega) | (simp only [List.length_nil] at hrl ⊢; omega), by rw [← heq, List.append_assoc]; congr 1; first | (rw [mg_nil_left, mg_nil_left]; rfl) | (rw [mg_cons, if_neg (show ¬ leO lt u y = true from by simp only [leO]; simpa using hc)]; rfl), hb6, hhf6, hkk6⟩ (by show rest.length < (r :: rest).length; simp)
        · have hx1 := drop_head hai
          have hgx := nv_at (at_A (p := ph) (B := B) (s := sh) hx1.1 hph)
          have hux : u < n := hAn u (List.mem_of_getElem? hx1.1)
          simp only [List.length_cons] at hia hrl
          refine X.mv rfl rfl rfl rfl rfl ?_
          refine X.lssT rfl rfl rfl rfl rfl rfl (by first | (simp only [List.length_nil] at hia; omega) | omega) ?_
          refine X.mv rfl rfl rfl rfl rfl ?_
          refine X.ld rfl rfl rfl rfl Try.ag44 (fun H' hF => by subst hF; exact sc.k5 hkk) (rfl) ?_
          refine X.ld rfl rfl rfl rfl Try.ag22 (fun H' hF => by subst hF; exact sc.k3 hkk) (rfl) ?_
          refine X.mv rfl rfl rfl rfl rfl ?_
          refine X.ixA rfl rfl rfl rfl rfl rfl Try.underlying22 Try.sz3 (by omega) ?_
          refine X.ld rfl rfl rfl rfl Try.ag3 (fun H' hF => by subst hF; exact hhf) (hgy) ?_
          refine X.ld rfl rfl rfl rfl Try.ag22 (fun H' hF => by subst hF; exact sc.k3 hkk) (rfl) ?_
          refine X.mv rfl rfl rfl rfl rfl ?_
          refine X.ixA rfl rfl rfl rfl rfl rfl Try.underlying22 Try.sz3 (by omega) ?_
          refine X.ld rfl rfl rfl rfl Try.ag3 (fun H' hF => by subst hF; exact hhf) (hgx) ?_
          refine X.callv rfl rfl rfl rfl rfl rfl sc.cl (sc.ah _ hkk y u huy hux) ?_
          rintro _ H6 ⟨rfl, e6⟩
          obtain rfl := e6.symm
          refine ⟨rfl, ?_⟩
          refine X.notD rfl rfl rfl rfl rfl ?_
          refine X.pickT rfl rfl rfl rfl rfl rfl ?_
          refine X.pickF rfl rfl rfl rfl rfl rfl ?_
          refine X.done [(1, _), (3, _), (4, _), (5, _), (8, _), (9, _), (10, _), (11, _), (40, _), (41, _), (42, _), (45, _), (46, _), (47, _), (48, _), (49, _), (50, _), (51, _), (52, _), (53, _), (54, _), (55, _), (56, _), (57, _), (58, _), (59, _), (60, _), (61, _), (62, _), (63, _), (64, _), (65, _)] ⟨rfl, rfl, rfl, rfl, rfl, rfl, rfl, rfl, rfl, rfl, rfl, rfl, rfl, rfl, rfl, rfl, rfl, rfl, rfl, rfl, rfl, rfl, rfl, rfl, rfl, rfl, rfl, rfl, rfl, rfl, rfl, rfl, trivial⟩ ?_
          refine N.then ?_
          refine E.condD rfl (fun hc => ?_) (fun hc => ?_)
          · refine E.seq ?_
            obtain ⟨r, rest, rfl⟩ : ∃ r l, rest = r :: l := by
              cases rest with
              | nil => simp only [List.length_nil] at hrl; omega
              | cons r l => exact ⟨r, l, rfl⟩
            simp only [List.length_cons, List.length_nil] at hrl
            refine E.regionD (fun H' => H' = H5) [(0, .st), (1, .pu), (2, .st), (3, .pu), (4, .pu), (5, .st), (6, .pu), (7, .mv)] Try.mixed (by kernel_rfl) (rfl) ?_
            refine X.ld rfl rfl rfl rfl Try.ag22 (fun H' hF => by subst hF; exact sc.k4 hkk) (rfl) ?_
            refine X.mv rfl rfl rfl rfl rfl ?_
            refine X.ld rfl rfl rfl rfl Try.ag22 (fun H' hF => by subst hF; exact sc.k3 hkk) (rfl) ?_
            refine X.mv rfl rfl rfl rfl rfl ?_
            refine X.ixA rfl rfl rfl rfl rfl rfl Try.underlying22 Try.sz3 (by omega) ?_
            refine X.ld rfl rfl rfl rfl Try.ag3 (fun H' hF => by subst hF; exact hhf) (hgx) ?_
            refine X.ixA rfl rfl rfl rfl rfl rfl Try.underlying22 Try.sz3 (by omega) ?_
            refine X.st rfl rfl rfl rfl rfl rfl rfl Try.sz3 hrow (by first | (simp only [List.length_map, List.length_append, List.length_cons, Int.toNat_natCast]; omega) | skip) ?_
            intro H6 hb6 hk6
            rw [nv_set (by omega)] at hb6
            have hhf6 := hk6.keep hhf (by simp; exact sc.hl)
            have hkk6 := hkk.trans hk6 (by simp)
            refine X.done [(1, _), (3, _), (4, _), (5, _), (8, _), (9, _), (10, _), (11, _), (40, _), (41, _), (42, _), (45, _), (46, _), (47, _), (48, _), (49, _), (50, _), (51, _), (52, _), (53, _), (54, _), (55, _), (56, _), (57, _), (58, _), (59, _), (60, _), (61, _), (62, _), (63, _), (64, _), (65, _), (66, _), (67, _), (68, _), (69, _), (70, _), (71, _), (72, _)] ⟨rfl, rfl, rfl, rfl, rfl, rfl, rfl, rfl, rfl, rfl, rfl, rfl, rfl, rfl, rfl, rfl, rfl, rfl, rfl, rfl, rfl, rfl, rfl, rfl, rfl, rfl, rfl, rfl, rfl, rfl, rfl, rfl, rfl, rfl, rfl, rfl, rfl, rfl, rfl, trivial⟩ ?_
            refine N.then ?_
            refine E.region ?_
            refine X.mv rfl rfl rfl rfl rfl ?_
            refine X.addE (zz := ((fr + (i + 1) : Nat) : Int)) rfl rfl rfl rfl rfl rfl (by rw [IntWalk.i64_in _ (by omega)] <;> omega) ?_
            refine X.asg rfl rfl rfl rfl rfl ?_
            refine X.done [(1, _), (3, _), (4, _), (5, _), (8, _), (9, _), (10, _), (11, _), (40, _), (41, _), (42, _), (45, _), (46, _), (47, _), (48, _), (49, _), (50, _), (51, _), (52, _), (53, _), (54, _), (55, _), (56, _), (57, _), (58, _), (59, _), (60, _), (61, _), (62, _), (63, _), (64, _), (65, _), (66, _), (67, _), (68, _), (69, _), (70, _), (71, _), (72, _), (73, _), (74, _)] ⟨rfl, rfl, rfl, rfl, rfl, rfl, rfl, rfl, rfl, rfl, rfl, rfl, rfl, rfl, rfl, rfl, rfl, rfl, rfl, rfl, rfl, rfl, rfl, rfl, rfl, rfl, rfl, rfl, rfl, rfl, rfl, rfl, rfl, rfl, rfl, rfl, rfl, rfl, rfl, rfl, rfl, trivial⟩ ?_
            refine N.blk ?_
            refine N.then ?_
            refine E.region ?_
            refine X.mv rfl rfl rfl rfl rfl ?_
            refine X.addE (zz := ((fr + (k + 1) : Nat) : Int)) rfl rfl rfl rfl rfl rfl (by rw [IntWalk.i64_in _ (by omega)] <;> omega) ?_
            refine X.asg rfl rfl rfl rfl rfl ?_
            refine X.done [(1, _), (3, _), (4, _), (5, _), (8, _), (9, _), (10, _), (11, _), (40, _), (41, _), (42, _), (45, _), (46, _), (47, _), (48, _), (49, _), (50, _), (51, _), (52, _), (53, _), (54, _), (55, _), (56, _), (57, _), (58, _), (59, _), (60, _), (61, _), (62, _), (63, _), (64, _), (65, _), (66, _), (67, _), (68, _), (69, _), (70, _), (71, _), (72, _), (73, _), (74, _), (43, _), (44, _)] ⟨rfl, rfl, rfl, rfl, rfl, rfl, rfl, rfl, rfl, rfl, rfl, rfl, rfl, rfl, rfl, rfl, rfl, rfl, rfl, rfl, rfl, rfl, rfl, rfl, rfl, rfl, rfl, rfl, rfl, rfl, rfl, rfl, rfl, rfl, rfl, rfl, rfl, rfl, rfl, rfl, rfl, rfl, rfl, trivial⟩ ?_
            first
              | exact N.next (G := fun (q : SS) => _) ⟨i + 1, j, k + 1, a, _, out ++ [u], rest⟩ ⟨rfl, rfl, rfl, rfl, rfl, rfl, rfl, rfl, trivial⟩ ⟨hx1.2, hbj, by rw [List.length_append, hol]; rfl, by show k + 1 = i + 1 + j; omega, by show i + 1 + a.length = _; omega, hjb, by show rest.length = a.length + _; first | omega | (simp only [List.length_cons, List.length_nil]; omega) | (simp only [List.length_nil] at hrl ⊢; omega), by rw [← heq, List.append_assoc]; congr 1; first | (rw [mg_nil_right, mg_nil_right]; rfl) | (rw [mg_cons, if_pos (show leO lt u y = true from by simp only [leO]; simpa using hc)]; rfl), hb6, hhf6, hkk6⟩ (by show rest.length < (r :: rest).length; simp)
              | exact N.next (G := fun (q : SS) => _) ⟨i, j + 1, k + 1, _, b, out ++ [y], rest⟩ ⟨rfl, rfl, rfl, rfl, rfl, rfl, rfl, rfl, trivial⟩ ⟨hai, hy1.2, by rw [List.length_append, hol]; rfl, by show k + 1 = i + (j + 1); omega, hia, by show j + 1 + b.length = _; omega, by show rest.length = _ + b.length; first | omega | (simp only [List.length_cons, List.length_nil]; omega) | (simp only [List.length_nil] at hrl ⊢; omega), by rw [← heq, List.append_assoc]; congr 1; first | (rw [mg_nil_left, mg_nil_left]; rfl) | (rw [mg_cons, if_neg (show ¬ leO lt u y = true from by simp only [leO]; simpa using hc)]; rfl), hb6, hhf6, hkk6⟩ (by show rest.length < (r :: rest).length; simp)
          · refine E.seq ?_
            obtain ⟨r, rest, rfl⟩ : ∃ r l, rest = r :: l := by
              cases rest with
              | nil => simp only [List.length_nil] at hrl; omega
              | cons r l => exact ⟨r, l, rfl⟩
            simp only [List.length_cons, List.length_nil] at hrl
            refine E.regionD (fun H' => H' = H5) [(0, .st), (1, .pu), (2, .st), (3, .pu), (4, .pu), (5, .st), (6, .pu), (7, .mv)] Try.mixed (by kernel_rfl) (rfl) ?_
            refine X.ld rfl rfl rfl rfl Try.ag22 (fun H' hF => by subst hF; exact sc.k4 hkk) (rfl) ?_
            refine X.mv rfl rfl rfl rfl rfl ?_
            refine X.ld rfl rfl rfl rfl Try.ag22 (fun H' hF => by subst hF; exact sc.k3 hkk) (rfl) ?_
            refine X.mv rfl rfl rfl rfl rfl ?_
            refine X.ixA rfl rfl rfl rfl rfl rfl Try.underlying22 Try.sz3 (by omega) ?_
            refine X.ld rfl rfl rfl rfl Try.ag3 (fun H' hF => by subst hF; exact hhf) (hgy) ?_
            refine X.ixA rfl rfl rfl rfl rfl rfl Try.underlying22 Try.sz3 (by omega) ?_
            refine X.st rfl rfl rfl rfl rfl rfl rfl Try.sz3 hrow (by first | (simp only [List.length_map, List.length_append, List.length_cons, Int.toNat_natCast]; omega) | skip) ?_
            intro H6 hb6 hk6
            rw [nv_set (by omega)] at hb6
            have hhf6 := hk6.keep hhf (by simp; exact sc.hl)
            have hkk6 := hkk.trans hk6 (by simp)
            refine X.done [(1, _), (3, _), (4, _), (5, _), (8, _), (9, _), (10, _), (11, _), (40, _), (41, _), (42, _), (45, _), (46, _), (47, _), (48, _), (49, _), (50, _), (51, _), (52, _), (53, _), (54, _), (55, _), (56, _), (57, _), (58, _), (59, _), (60, _), (61, _), (62, _), (63, _), (64, _), (65, _), (75, _), (76, _), (77, _), (78, _), (79, _), (80, _), (81, _)] ⟨rfl, rfl, rfl, rfl, rfl, rfl, rfl, rfl, rfl, rfl, rfl, rfl, rfl, rfl, rfl, rfl, rfl, rfl, rfl, rfl, rfl, rfl, rfl, rfl, rfl, rfl, rfl, rfl, rfl, rfl, rfl, rfl, rfl, rfl, rfl, rfl, rfl, rfl, rfl, trivial⟩ ?_
            refine N.then ?_
            refine E.region ?_
            refine X.mv rfl rfl rfl rfl rfl ?_
            refine X.addE (zz := ((fr + xa.length + (j + 1) : Nat) : Int)) rfl rfl rfl rfl rfl rfl (by rw [IntWalk.i64_in _ (by omega)] <;> omega) ?_
            refine X.asg rfl rfl rfl rfl rfl ?_
            refine X.done [(1, _), (3, _), (4, _), (5, _), (8, _), (9, _), (10, _), (11, _), (40, _), (41, _), (42, _), (45, _), (46, _), (47, _), (48, _), (49, _), (50, _), (51, _), (52, _), (53, _), (54, _), (55, _), (56, _), (57, _), (58, _), (59, _), (60, _), (61, _), (62, _), (63, _), (64, _), (65, _), (75, _), (76, _), (77, _), (78, _), (79, _), (80, _), (81, _), (82, _), (83, _)] ⟨rfl, rfl, rfl, rfl, rfl, rfl, rfl, rfl, rfl, rfl, rfl, rfl, rfl, rfl, rfl, rfl, rfl, rfl, rfl, rfl, rfl, rfl, rfl, rfl, rfl, rfl, rfl, rfl, rfl, rfl, rfl, rfl, rfl, rfl, rfl, rfl, rfl, rfl, rfl, rfl, rfl, trivial⟩ ?_
            refine N.blk ?_
            refine N.then ?_
            refine E.region ?_
            refine X.mv rfl rfl rfl rfl rfl ?_
            refine X.addE (zz := ((fr + (k + 1) : Nat) : Int)) rfl rfl rfl rfl rfl rfl (by rw [IntWalk.i64_in _ (by omega)] <;> omega) ?_
            refine X.asg rfl rfl rfl rfl rfl ?_
            refine X.done [(1, _), (3, _), (4, _), (5, _), (8, _), (9, _), (10, _), (11, _), (40, _), (41, _), (42, _), (45, _), (46, _), (47, _), (48, _), (49, _), (50, _), (51, _), (52, _), (53, _), (54, _), (55, _), (56, _), (57, _), (58, _), (59, _), (60, _), (61, _), (62, _), (63, _), (64, _), (65, _), (75, _), (76, _), (77, _), (78, _), (79, _), (80, _), (81, _), (82, _), (83, _), (43, _), (44, _)] ⟨rfl, rfl, rfl, rfl, rfl, rfl, rfl, rfl, rfl, rfl, rfl, rfl, rfl, rfl, rfl, rfl, rfl, rfl, rfl, rfl, rfl, rfl, rfl, rfl, rfl, rfl, rfl, rfl, rfl, rfl, rfl, rfl, rfl, rfl, rfl, rfl, rfl, rfl, rfl, rfl, rfl, rfl, rfl, trivial⟩ ?_
            first
              | exact N.next (G := fun (q : SS) => _) ⟨i + 1, j, k + 1, a, _, out ++ [u], rest⟩ ⟨rfl, rfl, rfl, rfl, rfl, rfl, rfl, rfl, trivial⟩ ⟨hx1.2, hbj, by rw [List.length_append, hol]; rfl, by show k + 1 = i + 1 + j; omega, by show i + 1 + a.length = _; omega, hjb, by show rest.length = a.length + _; first | omega | (simp only [List.length_cons, List.length_nil]; omega) | (simp only [List.length_nil] at hrl ⊢; omega), by rw [← heq, List.append_assoc]; congr 1; first | (rw [mg_nil_right, mg_nil_right]; rfl) | (rw [mg_cons, if_pos (show leO lt u y = true from by simp only [leO]; simpa using hc)]; rfl), hb6, hhf6, hkk6⟩ (by show rest.length < (r :: rest).length; simp)
              | exact N.next (G := fun (q : SS) => _) ⟨i, j + 1, k + 1, _, b, out ++ [y], rest⟩ ⟨rfl, rfl, rfl, rfl, rfl, rfl, rfl, rfl, trivial⟩ ⟨hai, hy1.2, by rw [List.length_append, hol]; rfl, by show k + 1 = i + (j + 1); omega, hia, by show j + 1 + b.length = _; omega, by show rest.length = _ + b.length; first | omega | (simp only [List.length_cons, List.length_nil]; omega) | (simp only [List.length_nil] at hrl ⊢; omega), by rw [← heq, List.append_assoc]; congr 1; first | (rw [mg_nil_left, mg_nil_left]; rfl) | (rw [mg_cons, if_neg (show ¬ leO lt u y = true from by simp only [leO]; simpa using hc)]; rfl), hb6, hhf6, hkk6⟩ (by show rest.length < (r :: rest).length; simp)
    · refine E.exit ?_
      refine N.thenX ?_
      refine N.loopX ?_
      refine N.blkX ?_
      obtain rfl : rest = [] := List.eq_nil_of_length_eq_zero (by omega)
      simp only [List.length_nil] at hrl
      obtain rfl : a = [] := List.eq_nil_of_length_eq_zero (by omega)
      obtain rfl : b = [] := List.eq_nil_of_length_eq_zero (by omega)
      rw [mg_nil_left, List.append_nil] at heq
      exact N.endH [] rfl ⟨_, hphl, by rw [hms, ← hA, ← hB, ← heq]; simpa using hrow, hhf, hkk⟩

theorem sort_ct (H0 : Heap) (lt : Nat → Nat → Bool) (fa : FuncId) (cap : List Value) (n b2 b3 b4 b5 hb lb : Nat) (sc : SC H0 lt fa cap n b2 b3 b4 b5 hb lb) (hn : n ≤ 100000) (m : Nat) : ∀ (p x s hs : List Nat) (fr to : Nat) (H : Heap), x.length = m → SP H0 n hb lb p x s hs fr to H → Ct Try.prog 29 #[i64 (fr : Int), i64 (to : Int), ptr b2, ptr b3, ptr b4, ptr b5] H (SR H0 lt n hb lb p x s) := by
  induction m using Nat.strongRecOn with
  | ind m ih => exact fun p x s hs fr to H hm sp => sort_step H0 lt fa cap n b2 b3 b4 b5 hb lb sc hn m ih p x s hs fr to H hm sp

end Go.Proofs.Ytjlelcfabfmiaaa