/- Plain laws: what is shown of a right tree is read as that tree. -/
import Derived.Test.YtcandjdomeompaaDoorTP
namespace Go.Proofs.YtcandjdomeompaaDoor
open Go.SX Go.Chr
set_option linter.unusedVariables false
set_option linter.unusedSimpArgs false
def FRep (rest : Bs) : Prop := ∀ c r, rest = c :: r → c.toNat ≠ 42 ∧ c.toNat ≠ 43 ∧ c.toNat ≠ 63 ∧ c.toNat ≠ 123
def FCat (rest : Bs) : Prop := ∀ c r, rest = c :: r → c.toNat = 124 ∨ c.toNat = 41
def FAlt (rest : Bs) : Prop := ∀ c r, rest = c :: r → c.toNat = 41
theorem FCat.rep {r : Bs} (h : FCat r) : FRep r := fun c q e => by have := h c q e; omega
theorem FAlt.cat {r : Bs} (h : FAlt r) : FCat r := fun c q e => .inr (h c q e)
/-- A part begins with neither of these. -/
def OKs (c : UInt8) : Prop := c.toNat ≠ 124 ∧ c.toNat ≠ 41 ∧ c.toNat ≠ 42 ∧ c.toNat ≠ 43 ∧ c.toNat ≠ 63 ∧ c.toNat ≠ 123
instance (c : UInt8) : Decidable (OKs c) := by unfold OKs; infer_instance
theorem wrp_start {k least : Int} {w : Bs} (h : ∃ c r, w = c :: r ∧ OKs c) : ∃ c r, wrp k least w = c :: r ∧ OKs c := by
  unfold wrp; split
  · exact ⟨40, _, rfl, by decide⟩
  · exact h
theorem shS_start (a : S4) : ∃ c r, shS a = c :: r ∧ OKs c := by
  unfold shS shw
  split
  · rename_i h1
    obtain ⟨c, hc⟩ := List.length_eq_one_iff.1 h1
    have hc8 : c < 256 := els_lt c (by rw [hc]; simp)
    obtain ⟨d, w, hd, hdm⟩ := wr_head hc8
    have := mk_ne d.toNat_lt hdm
    exact ⟨d, w, by rw [hc]; exact hd, by unfold OKs; omega⟩
  · split
    · exact ⟨91, _, rfl, by decide⟩
    · exact ⟨91, _, rfl, by decide⟩
theorem app_start {w v : Bs} (h : ∃ c r, w = c :: r ∧ OKs c) : ∃ c r, w ++ v = c :: r ∧ OKs c := by
  obtain ⟨c, r, e, ho⟩ := h; exact ⟨c, r ++ v, by rw [e]; rfl, ho⟩
theorem rt_mem {x : Nd} {ks : List T} {t : T} (hR : Rt (.nd x ks)) (h : t ∈ ks) : Rt t := by
  obtain ⟨i, hi⟩ := List.getElem?_of_mem h
  exact rt_kid hR hi
theorem two_kids {x : Nd} {ks : List T} (hR : Rt (.nd x ks)) (h : x.kind = 3 ∨ x.kind = 4) : ∃ u v r, ks = u :: v :: r := by
  have h1 := hR.rt x (by simp [flat])
  have h2 := hR.wf.1
  unfold rtP at h1
  match ks, h2 with
  | [], h2 => simp at h2; omega
  | [u], h2 => simp at h2; omega
  | u :: v :: r, _ => exact ⟨u, v, r, rfl⟩
mutual
theorem start : ∀ t : T, Rt t → ∃ c r, shT t = c :: r ∧ OKs c
  | .nd x ks, hR => by
    have hk := kind_cases (hR.rt x (by simp [flat]))
    have hs := starts ks (fun t ht => rt_mem hR ht)
    by_cases h1 : x.kind = 1
    · rw [shT_1 h1]; exact shS_start _
    · by_cases h2 : x.kind = 2
      · rw [shT_2 h2]; exact ⟨40, _, rfl, by decide⟩
      · by_cases h3 : x.kind = 3
        · obtain ⟨u, v, r, rfl⟩ := two_kids hR (.inl h3)
          rw [shT_3 h3, shC]; exact app_start (wrp_start (hs u (by simp)))
        · by_cases h4 : x.kind = 4
          · obtain ⟨u, v, r, rfl⟩ := two_kids hR (.inr h4)
            rw [shT_4 h4, shA]; exact app_start (wrp_start (hs u (by simp)))
          · obtain ⟨u, rfl⟩ := one_kid hR (by omega)
            rw [shT, if_neg h1, if_neg h2, if_neg h3, if_neg h4, shU]
            exact app_start (wrp_start (hs u (by simp)))
theorem starts : ∀ ks : List T, (∀ t ∈ ks, Rt t) → ∀ t ∈ ks, ∃ c r, shT t = c :: r ∧ OKs c
  | [], _, t, ht => absurd ht (by simp)
  | u :: r, h, t, ht => (List.mem_cons.1 ht).elim (fun e => e ▸ start u (h u (by simp))) (fun q => starts r (fun v hv => h v (by simp [hv])) t q)
end
section
variable {s : Bs} {A : St → List Nd × St} {i j : Nat} {b : Int} {rest w : Bs} {l : List Nd}
theorem adv_at : adv ⟨i, 0, b⟩ = ⟨i + 1, 0, b⟩ := rfl
theorem repF_stop (f : Nat) (h : s.drop i = rest) (hr : FRep rest) : repF s (f + 1) l ⟨i, 0, b⟩ = (l, ⟨i, 0, b⟩) := by
  rw [repF]
  cases rest with
  | nil => rw [nx_end h]; rfl
  | cons c r =>
    obtain ⟨h1, h2, h3, h4⟩ := hr c r rfl
    rw [nx_at h]; dsimp only
    rw [if_neg h1, if_neg h2, if_neg h3, if_neg h4]
theorem repF_op {q : UInt8} {k : Int} (f : Nat) (hq : q.toNat = 42 ∧ k = 5 ∨ q.toNat = 43 ∧ k = 6 ∨ q.toNat = 63 ∧ k = 7) (h : s.drop i = q :: rest) (hr : FRep rest) : repF s (f + 2) l ⟨i, 0, b⟩ = (jn (knd k) [l], ⟨i + 1, 0, b⟩) := by
  rw [repF, nx_at h]; dsimp only
  have hst := repF_stop (b := b) (l := jn (knd k) [l]) f (dr_one h) hr
  rcases hq with ⟨h1, rfl⟩ | ⟨h1, rfl⟩ | ⟨h1, rfl⟩
  · rw [if_pos h1]; exact hst
  · rw [if_neg (by omega), if_pos h1]; exact hst
  · rw [if_neg (by omega), if_neg (by omega), if_pos h1]; exact hst
theorem dg_dig {d : Nat} (h : d < 10) : dgO (u8 (48 + d)).toNat 10 = true ∧ dgN (u8 (48 + d)).toNat = (d : Nat) := by
  have key : ∀ d, d < 10 → dgO (u8 (48 + d)).toNat 10 = true ∧ dgN (u8 (48 + d)).toNat = (d : Nat) := by decide
  exact key d h
theorem num_read {n : Nat} {c : UInt8} {r : Bs} (hn : n < 100) (hc : dgO c.toNat 10 = false) (h : s.drop i = dcm n ++ c :: r) : num s ⟨i, 0, b⟩ = ((n : Int), ⟨i + (dcm n).length, 0, b⟩) := by
  unfold num
  by_cases h1 : n < 10
  · rw [dcm_one h1] at h ⊢
    obtain ⟨g1, g2⟩ := dg_dig h1
    have n1 := nx_at (b := b) (show s.drop i = u8 (48 + n) :: c :: r from h)
    have n2 := nx_at (b := b) (dr_one (show s.drop i = u8 (48 + n) :: c :: r from h))
    rw [numF, n1]; dsimp only
    rw [if_pos g1, adv_at, numF, n2]; dsimp only
    rw [if_neg (by rw [hc]; simp), if_neg (by omega), g2]
    simp
  · have e : dcm n = [u8 (48 + n / 10), u8 (48 + n % 10)] := by unfold dcm; rw [if_neg h1]
    rw [e] at h ⊢
    obtain ⟨g1, g2⟩ := dg_dig (show n / 10 < 10 by omega)
    obtain ⟨g3, g4⟩ := dg_dig (show n % 10 < 10 by omega)
    have hh : s.drop i = u8 (48 + n / 10) :: u8 (48 + n % 10) :: c :: r := h
    have n1 := nx_at (b := b) hh
    have n2 := nx_at (b := b) (dr_one hh)
    rw [numF, n1]; dsimp only
    rw [if_pos g1, adv_at, numF, n2]; dsimp only
    rw [if_pos g3, adv_at, numF, g2, g4]
    refine Prod.ext ?_ rfl
    show 10 * (10 * 0 + ((n / 10 : Nat) : Int)) + ((n % 10 : Nat) : Int) = n
    omega
theorem dcm_head {n : Nat} (h : n < 100) : ∃ c r, dcm n = c :: r ∧ c.toNat ≠ 125 := by
  have key : ∀ d, d < 10 → (u8 (48 + d)).toNat ≠ 125 := by decide
  unfold dcm; split
  · exact ⟨_, _, rfl, key n (by omega)⟩
  · exact ⟨_, _, rfl, key (n / 10) (by omega)⟩
theorem tms_read {x : Nd} (hx : x.kind = 8) (hr : rtP x) (h : s.drop i = oftV x ++ rest) : tms s ⟨i, 0, b⟩ = (⟨8, 0, s0, x.low, x.high⟩, ⟨i + (oftV x).length, 0, b⟩) := by
  unfold rtP at hr
  obtain ⟨lo, hlo⟩ := Int.eq_ofNat_of_zero_le (show 0 ≤ x.low by omega)
  have hlo30 : lo ≤ 30 := by omega
  by_cases h1 : x.high = -1
  · rw [oft_1 h1, hlo] at h ⊢
    have d0 : s.drop i = 123 :: (dcm lo ++ (44 :: 125 :: rest)) := by rw [h]; simp
    have d1 := dr_one d0
    have e2 := num_read (b := b) (n := lo) (by omega) (by decide) d1
    have d2 := dr_add d1
    have d3 := dr_one d2
    have e4 := hiP_a (s := s) (low := (lo : Int)) (st := ⟨i + 1 + (dcm lo).length, 0, b⟩) (by rw [tk_is (k := 44) d2 rfl]) (by rw [adv_at, nx_at d3]; rfl)
    have e6 := clP_t (s := s) (c := 125) (e := 15) (a := ((i + 1 + (dcm lo).length + 1 : Nat) : Int)) (st := ⟨i + 1 + (dcm lo).length + 1, 0, b⟩) (by rw [tk_is (k := 125) d3 rfl])
    have hb : cntV (lo : Int) (-1) = true := by unfold cntV; exact decide_eq_true (by omega)
    have := tmsE (s := s) (st := ⟨i, 0, b⟩) e2 e4 e6 hb
    rw [this, h1, if_pos rfl]
    refine Prod.ext rfl ?_
    show St.mk (i + 1 + (dcm lo).length + 1 + 1) 0 b = _
    simp; omega
  · obtain ⟨hh, hhi⟩ := Int.eq_ofNat_of_zero_le (show 0 ≤ x.high by omega)
    have hb : cntV (lo : Int) (hh : Int) = true := by unfold cntV; exact decide_eq_true (by omega)
    by_cases h2 : x.high.toNat = x.low.toNat
    · rw [oft_2 h1 h2, hlo] at h ⊢
      have d0 : s.drop i = 123 :: (dcm lo ++ (125 :: rest)) := by rw [h]; simp
      have d1 := dr_one d0
      have e2 := num_read (b := b) (n := lo) (by omega) (by decide) d1
      have d2 := dr_add d1
      have e4 := hiP_c (s := s) (low := (lo : Int)) (st := ⟨i + 1 + (dcm lo).length, 0, b⟩) (by rw [tk_not (k := 44) d2 (by decide)])
      have e6 := clP_t (s := s) (c := 125) (e := 15) (a := ((i + 1 + (dcm lo).length : Nat) : Int)) (st := ⟨i + 1 + (dcm lo).length, 0, b⟩) (by rw [tk_is (k := 125) d2 rfl])
      have eh : hh = lo := by omega
      subst eh
      have := tmsE (s := s) (st := ⟨i, 0, b⟩) e2 e4 e6 hb
      rw [this, hhi, if_pos rfl]
      refine Prod.ext rfl ?_
      show St.mk (i + 1 + (dcm hh).length + 1) 0 b = _
      simp; omega
    · rw [oft_3 h1 h2, hlo, hhi] at h ⊢
      have d0 : s.drop i = 123 :: (dcm lo ++ (44 :: (dcm hh ++ (125 :: rest)))) := by rw [h]; simp
      have d1 := dr_one d0
      have e2 := num_read (b := b) (n := lo) (by omega) (by decide) d1
      have d2 := dr_add d1
      have d3 := dr_one d2
      have d4 := dr_add d3
      have hnd : (nx s ⟨i + 1 + (dcm lo).length + 1, 0, b⟩).1 ≠ 125 := by
        obtain ⟨c, r, ec, hc⟩ := dcm_head (show hh < 100 by omega)
        rw [ec] at d3
        rw [nx_at (show s.drop _ = c :: (r ++ 125 :: rest) from d3)]; exact hc
      have e5 := num_read (b := b) (n := hh) (by omega) (by decide) d3
      have e4 := hiP_b (s := s) (low := (lo : Int)) (st := ⟨i + 1 + (dcm lo).length, 0, b⟩) (by rw [tk_is (k := 44) d2 rfl]) (by rw [adv_at]; exact hnd)
      rw [adv_at, e5] at e4
      have e6 := clP_t (s := s) (c := 125) (e := 15) (a := ((i + 1 + (dcm lo).length + 1 + (dcm hh).length : Nat) : Int)) (st := ⟨i + 1 + (dcm lo).length + 1 + (dcm hh).length, 0, b⟩) (by rw [tk_is (k := 125) d4 rfl])
      have := tmsE (s := s) (st := ⟨i, 0, b⟩) e2 e4 e6 hb
      rw [this, if_pos rfl]
      refine Prod.ext rfl ?_
      show St.mk (i + 1 + (dcm lo).length + 1 + (dcm hh).length + 1) 0 b = _
      simp; omega
theorem oft_head (x : Nd) : ∃ r, oftV x = 123 :: r := by
  unfold oftV oft; split
  · exact ⟨_, rfl⟩
  · split <;> exact ⟨_, rfl⟩
theorem repF_times {x : Nd} (f : Nat) (hx : x.kind = 8) (hrt : rtP x) (h : s.drop i = oftV x ++ rest) (hr : FRep rest) : repF s (f + 2) l ⟨i, 0, b⟩ = (jn x [l], ⟨i + (oftV x).length, 0, b⟩) := by
  have hst := repF_stop (b := b) (l := jn x [l]) f (dr_add h) hr
  have ht := tms_read (b := b) hx hrt h
  obtain ⟨r0, hr0⟩ := oft_head x
  have h2 := h
  rw [hr0] at h2
  rw [repF, nx_at (show s.drop i = 123 :: (r0 ++ rest) from h2)]; dsimp only
  rw [if_neg (by decide), if_neg (by decide), if_neg (by decide), if_pos (by decide), ht]
  have e : jn (⟨8, 0, s0, x.low, x.high⟩ : Nd) [l] = jn x [l] := by
    unfold rtP at hrt
    have hs : x.set = s0 := by rcases hrt with h | h | h | h | h <;> first | (exact h.2.2.1) | (exfalso; omega)
    unfold jn; rw [hx, hs]
  rw [e]; exact hst
theorem atm_paren {n : Nat} (h : s.drop i = 40 :: (w ++ 41 :: rest)) (hA : A ⟨i + 1, 0, b⟩ = (l, ⟨i + 1 + w.length, 0, b⟩)) : atm A s ⟨i, 0, b⟩ = (l, ⟨i + w.length + 2, 0, b⟩) := by
  have d1 := dr_one h
  have d2 := dr_add d1
  have hc := clP_t (s := s) (c := 41) (e := 16) (a := (i : Nat)) (st := ⟨i + 1 + w.length, 0, b⟩) (by rw [tk_is (k := 41) d2 rfl])
  rw [atm_2 (nx_at h) rfl hA hc]
  refine Prod.ext rfl ?_
  show St.mk (i + 1 + w.length + 1) 0 b = St.mk (i + w.length + 2) 0 b
  congr 1; omega
theorem rep_of (h : atm A s ⟨i, 0, b⟩ = (l, ⟨j, 0, b⟩)) (hj : s.drop j = rest) (hr : FRep rest) : rep A s ⟨i, 0, b⟩ = (l, ⟨j, 0, b⟩) := by
  unfold rep; rw [h]; exact repF_stop _ hj hr
theorem inS_y {c : UInt8} {r : Bs} (h : s.drop i = c :: r) (ho : OKs c) : inS s ⟨i, 0, b⟩ = true := by
  unfold inS; rw [nx_at h]
  unfold OKs at ho
  simp; omega
theorem inS_n (h : s.drop i = rest) (hr : FCat rest) : inS s ⟨i, 0, b⟩ = false := by
  unfold inS
  cases rest with
  | nil => rw [nx_end h]; rfl
  | cons c r =>
    rw [nx_at h]
    have := hr c r rfl
    simp; omega
theorem cat_of {c : UInt8} {r : Bs} (h0 : s.drop i = c :: r) (ho : OKs c) (h : rep A s ⟨i, 0, b⟩ = (l, ⟨j, 0, b⟩)) (hj : s.drop j = rest) (hr : FCat rest) : cat A s ⟨i, 0, b⟩ = (l, ⟨j, 0, b⟩) := by
  have h1 := inS_y (b := b) h0 ho
  have h2 := inS_n (b := b) hj hr
  unfold cat
  rw [show s.length + 2 = (s.length + 1) + 1 from rfl, rwF]
  simp only [h1, h, if_true]
  rw [rwF]
  simp only [h2]
  rfl
theorem alt_of {n : Nat} (h : cat (altN s n) s ⟨i, 0, b⟩ = (l, ⟨j, 0, b⟩)) (hj : s.drop j = rest) (hr : FAlt rest) : altN s (n + 1) ⟨i, 0, b⟩ = (l, ⟨j, 0, b⟩) := by
  have ht : tk s 124 ⟨j, 0, b⟩ = (false, ⟨j, 0, b⟩) := by
    cases rest with
    | nil => exact tk_end hj
    | cons c r => exact tk_not hj (by have := hr c r rfl; omega)
  show alt (altN s n) s ⟨i, 0, b⟩ = _
  unfold alt
  rw [show s.length + 3 = (s.length + 2) + 1 from rfl, alt_first, h, show s.length + 2 = (s.length + 1) + 1 from rfl, rwF, moA_f ht]
  rfl
end
/-! ### trees -/
section
variable (s : Bs)
def C3 (t : T) : Prop := ∀ i b rest n, s.drop i = shT t ++ rest → s.length + 1 - i ≤ n → atm (altN s n) s ⟨i, 0, b⟩ = (flat t, ⟨i + (shT t).length, 0, b⟩)
def C2 (t : T) : Prop := ∀ i b rest n, s.drop i = shT t ++ rest → FRep rest → s.length + 1 - i ≤ n → rep (altN s n) s ⟨i, 0, b⟩ = (flat t, ⟨i + (shT t).length, 0, b⟩)
def C1 (t : T) : Prop := ∀ i b rest n, s.drop i = shT t ++ rest → FCat rest → s.length + 1 - i ≤ n → cat (altN s n) s ⟨i, 0, b⟩ = (flat t, ⟨i + (shT t).length, 0, b⟩)
def C0 (t : T) : Prop := ∀ i b rest n, s.drop i = shT t ++ rest → FAlt rest → s.length + 1 - i < n → altN s n ⟨i, 0, b⟩ = (flat t, ⟨i + (shT t).length, 0, b⟩)
def R3 (t : T) : Prop := ∀ i b rest n, s.drop i = wrp (rk t) 3 (shT t) ++ rest → s.length + 1 - i ≤ n → atm (altN s n) s ⟨i, 0, b⟩ = (flat t, ⟨i + (wrp (rk t) 3 (shT t)).length, 0, b⟩)
def R2 (t : T) : Prop := ∀ i b rest n, s.drop i = wrp (rk t) 2 (shT t) ++ rest → FRep rest → s.length + 1 - i ≤ n → rep (altN s n) s ⟨i, 0, b⟩ = (flat t, ⟨i + (wrp (rk t) 2 (shT t)).length, 0, b⟩)
def R1 (t : T) : Prop := ∀ i b rest n, s.drop i = wrp (rk t) 1 (shT t) ++ rest → FCat rest → s.length + 1 - i ≤ n → cat (altN s n) s ⟨i, 0, b⟩ = (flat t, ⟨i + (wrp (rk t) 1 (shT t)).length, 0, b⟩)
end
section
variable {s : Bs} {t : T}
theorem C2_of (h : C3 s t) : C2 s t := fun i b rest n hd hr hn => rep_of (h i b rest n hd hn) (dr_add hd) hr
theorem C1_of (hR : Rt t) (h : C2 s t) : C1 s t := fun i b rest n hd hr hn => by
  obtain ⟨c, r, e, ho⟩ := start t hR
  exact cat_of (show s.drop i = c :: (r ++ rest) by rw [hd, e]; rfl) ho (h i b rest n hd hr.rep hn) (dr_add hd) hr
theorem C0_of (h : C1 s t) : C0 s t := fun i b rest n hd hr hn => by
  obtain ⟨n, rfl⟩ : ∃ m, n = m + 1 := ⟨n - 1, by omega⟩
  exact alt_of (h i b rest n hd hr.cat (by omega)) (dr_add hd) hr
theorem par (h : C0 s t) {i n : Nat} {b : Int} {rest : Bs} (hd : s.drop i = (40 :: (shT t ++ [41])) ++ rest) (hn : s.length + 1 - i ≤ n) : atm (altN s n) s ⟨i, 0, b⟩ = (flat t, ⟨i + (40 :: (shT t ++ [41])).length, 0, b⟩) := by
  have d0 : s.drop i = 40 :: (shT t ++ (41 :: rest)) := by rw [hd]; simp
  have hl := dr_lt d0
  have h1 := h (i + 1) b (41 :: rest) n (dr_one d0) (fun c r e => by rw [← (List.cons.inj e).1]; decide) (by omega)
  have := atm_paren (n := n) d0 h1
  rw [this]
  congr 2
  simp; omega
theorem R3_of (h0 : C0 s t) (h3 : rk t = 1 ∨ rk t = 2 → C3 s t) : R3 s t := fun i b rest n hd hn => by
  by_cases hk : tgt (rk t) < 3
  · rw [wrp_y hk] at hd ⊢; exact par h0 hd hn
  · rw [wrp_n hk] at hd ⊢
    exact h3 (by have := mt tgt_lt3.2 hk; omega) i b rest n hd hn
theorem R2_of (h0 : C0 s t) (h2 : rk t ≠ 3 ∧ rk t ≠ 4 → C2 s t) : R2 s t := fun i b rest n hd hr hn => by
  by_cases hk : tgt (rk t) < 2
  · rw [wrp_y hk] at hd ⊢; exact rep_of (par h0 hd hn) (dr_add hd) hr
  · rw [wrp_n hk] at hd ⊢
    exact h2 (by have := mt tgt_lt2.2 hk; omega) i b rest n hd hr hn
theorem R1_of (h0 : C0 s t) (h1 : rk t ≠ 4 → C1 s t) : R1 s t := fun i b rest n hd hr hn => by
  by_cases hk : tgt (rk t) < 1
  · rw [wrp_y hk] at hd ⊢
    exact cat_of (show s.drop i = 40 :: ((shT t ++ [41]) ++ rest) by rw [hd]; rfl) (by decide) (rep_of (par h0 hd hn) (dr_add hd) hr.rep) (dr_add hd) hr
  · rw [wrp_n hk] at hd ⊢
    exact h1 (by have := mt tgt_lt1.2 hk; omega) i b rest n hd hr hn
theorem shC_start : ∀ {ks : List T} {rest : Bs}, (∀ t ∈ ks, Rt t) → FCat rest → FRep (shC ks ++ rest)
  | [], rest, _, hr => hr.rep
  | t :: r, rest, hR, hr => by
    obtain ⟨c, q, e, ho⟩ := wrp_start (k := rk t) (least := 2) (start t (hR t (by simp)))
    intro d p hd
    rw [shC, e] at hd
    obtain rfl := (List.cons.inj hd).1
    unfold OKs at ho; omega
theorem cat_row {n : Nat} {b : Int} : ∀ (ks : List T) (f i : Nat) (l : List (List Nd)) (rest : Bs), (∀ t ∈ ks, Rt t ∧ R2 s t) → s.drop i = shC ks ++ rest → FCat rest → ks.length < f → s.length + 1 - i ≤ n →
    rwF (fun st => (inS s st, st)) (rep (altN s n) s) f l ⟨i, 0, b⟩ = (l ++ ks.map flat, ⟨i + (shC ks).length, 0, b⟩)
  | [], f, i, l, rest, _, hd, hr, hf, hn => by
    obtain ⟨f, rfl⟩ : ∃ m, f = m + 1 := ⟨f - 1, by omega⟩
    rw [rwF]
    simp only [inS_n (b := b) (show s.drop i = rest from hd) hr]
    simp [shC]
  | t :: r, f, i, l, rest, hk, hd, hr, hf, hn => by
    obtain ⟨f, rfl⟩ : ∃ m, f = m + 1 := ⟨f - 1, by omega⟩
    obtain ⟨hRt, h2⟩ := hk t (by simp)
    obtain ⟨c, q, e, ho⟩ := wrp_start (k := rk t) (least := 2) (start t hRt)
    have d0 : s.drop i = wrp (rk t) 2 (shT t) ++ (shC r ++ rest) := by rw [hd, shC]; simp
    have h3 := h2 i b (shC r ++ rest) n d0 (shC_start (fun u hu => (hk u (by simp [hu])).1) hr) hn
    have hin := inS_y (b := b) (show s.drop i = c :: (q ++ (shC r ++ rest)) by rw [d0, e]; rfl) ho
    have ih := cat_row (n := n) (b := b) r f (i + (wrp (rk t) 2 (shT t)).length) (l ++ [flat t]) rest (fun u hu => hk u (by simp [hu])) (dr_add d0) hr (by simpa using hf) (by omega)
    rw [rwF]
    simp only [hin, h3, if_true]
    rw [ih]
    simp [shC]; omega
theorem alt_row {n : Nat} {b : Int} : ∀ (ks : List T) (f i : Nat) (l : List (List Nd)) (rest : Bs), (∀ t ∈ ks, R1 s t) → s.drop i = shB ks ++ rest → FAlt rest → ks.length < f → s.length + 1 - i ≤ n →
    rwF (moA s) (paA (altN s n) s) f l (false, ⟨i, 0, b⟩) = (l ++ ks.map flat, (false, ⟨i + (shB ks).length, 0, b⟩))
  | [], f, i, l, rest, _, hd, hr, hf, hn => by
    obtain ⟨f, rfl⟩ : ∃ m, f = m + 1 := ⟨f - 1, by omega⟩
    have ht : tk s 124 ⟨i, 0, b⟩ = (false, ⟨i, 0, b⟩) := by
      have hd : s.drop i = rest := hd
      cases rest with
      | nil => exact tk_end hd
      | cons c r => exact tk_not hd (by have := hr c r rfl; omega)
    rw [rwF, moA_f ht]
    simp [shB]
  | t :: r, f, i, l, rest, hk, hd, hr, hf, hn => by
    obtain ⟨f, rfl⟩ : ∃ m, f = m + 1 := ⟨f - 1, by omega⟩
    have d0 : s.drop i = 124 :: (wrp (rk t) 1 (shT t) ++ (shB r ++ rest)) := by rw [hd, shB]; simp
    have ht := tk_is (b := b) (k := 124) d0 rfl
    have d1 := dr_one d0
    have hfc : FCat (shB r ++ rest) := by
      cases r with
      | nil => exact hr.cat
      | cons u r => intro c q e; rw [shB] at e; obtain rfl := (List.cons.inj e).1; exact .inl rfl
    have h3 := hk t (by simp) (i + 1) b (shB r ++ rest) n d1 hfc (by omega)
    have ih := alt_row (n := n) (b := b) r f (i + 1 + (wrp (rk t) 1 (shT t)).length) (l ++ [flat t]) rest (fun u hu => hk u (by simp [hu])) (dr_add d1) hr (by simpa using hf) (by omega)
    rw [rwF, moA_f ht]
    have hp : paA (altN s n) s (false, ⟨i + 1, 0, b⟩) = (flat t, (false, ⟨i + 1 + (wrp (rk t) 1 (shT t)).length, 0, b⟩)) := by
      show ((cat (altN s n) s ⟨i + 1, 0, b⟩).1, (false, (cat (altN s n) s ⟨i + 1, 0, b⟩).2)) = _
      rw [h3]
    simp only [hp, if_true]
    rw [ih]
    simp [shB]; omega
theorem map_flats : ∀ ks : List T, (ks.map flat).flatten = flats ks
  | [] => rfl
  | t :: r => by rw [List.map_cons, List.flatten_cons, map_flats r, flats]
theorem fin_flat {k : Int} {x : Nd} {ks : List T} (h2 : 2 ≤ ks.length) (hk : x.kids = (ks.length : Nat)) (hx : x.kind = k) (hs : x.set = s0) (hl : x.low = 0) (hh : x.high = 0) : fin k (ks.map flat) = flat (.nd x ks) := by
  rw [fin_two k (by simpa using h2), jn, map_flats, flat]
  congr 1
  cases x; simp_all [knd]
theorem shC_ge : ∀ {ks : List T}, (∀ t ∈ ks, Rt t) → ks.length ≤ (shC ks).length
  | [], _ => Nat.le_refl _
  | t :: r, h => by
    obtain ⟨c, q, e, ho⟩ := wrp_start (k := rk t) (least := 2) (start t (h t (by simp)))
    have := shC_ge (ks := r) (fun u hu => h u (by simp [hu]))
    rw [shC, e]; simp; omega
theorem shB_ge : ∀ {ks : List T}, ks.length ≤ (shB ks).length
  | [] => Nat.le_refl _
  | t :: r => by
    have := shB_ge (ks := r)
    rw [shB]; simp; omega
/-- One tree, its kids being read. -/
theorem tree_step {x : Nd} {ks : List T} (hR : Rt (.nd x ks)) (hk : ∀ t ∈ ks, R1 s t ∧ R2 s t ∧ R3 s t) : R1 s (.nd x ks) ∧ R2 s (.nd x ks) ∧ R3 s (.nd x ks) ∧ C0 s (.nd x ks) := by
  have hrt := hR.rt x (by simp [flat])
  have hkx := hR.wf.1
  have hkc := kind_cases hrt
  have hrk : rk (.nd x ks) = x.kind := rfl
  have hset : x.kind ≠ 1 → x.set = s0 := fun h => by unfold rtP at hrt; rcases hrt with q | q | q | q | q <;> first | exact q.2.2.1 | (exfalso; omega)
  -- atoms
  have c3 : x.kind = 1 ∨ x.kind = 2 → C3 s (.nd x ks) := fun hq => by
    have hks : ks = [] := List.eq_nil_of_length_eq_zero (by unfold rtP at hrt; omega)
    subst hks
    rcases hq with hq | hq
    · intro i b rest n hd hn
      rw [shT_1 hq] at hd ⊢
      have hne : x.set ≠ s0 := by unfold rtP at hrt; rcases hrt with q | q | q | q | q <;> first | exact q.2.2.1 | (exfalso; omega)
      rw [atm_set x.set hne hd]
      congr 1
      show [(⟨1, 0, x.set, 0, 0⟩ : Nd)] = x :: flats []
      rw [flats]; congr 1
      unfold rtP at hrt
      exact nd_eq.2 ⟨hq.symm, by show (0 : Int) = x.kids; omega, rfl, by show (0 : Int) = x.low; omega, by show (0 : Int) = x.high; omega⟩
    · intro i b rest n hd hn
      rw [shT_2 hq] at hd ⊢
      have d0 : s.drop i = 40 :: (([] : Bs) ++ 41 :: rest) := hd
      have hl := dr_lt d0
      obtain ⟨n, rfl⟩ : ∃ m, n = m + 1 := ⟨n - 1, by omega⟩
      have d1 := dr_one d0
      have hin := inS_n (b := b) (show s.drop (i + 1) = 41 :: rest from d1) (fun c q e => .inr (by rw [← (List.cons.inj e).1]; rfl))
      have hcat : cat (altN s n) s ⟨i + 1, 0, b⟩ = ([knd 2], ⟨i + 1, 0, b⟩) := by
        unfold cat
        rw [show s.length + 2 = (s.length + 1) + 1 from rfl, rwF]
        simp only [hin]
        rfl
      have halt := alt_of (n := n) hcat (show s.drop (i + 1) = 41 :: rest from d1) (fun c q e => by rw [← (List.cons.inj e).1]; rfl)
      have := atm_paren (n := n) (A := altN s (n + 1)) (b := b) d0 halt
      rw [this]
      congr 1
      show [knd 2] = x :: flats []
      rw [flats]; congr 1
      unfold rtP at hrt
      exact nd_eq.2 ⟨hq.symm, by show (0 : Int) = x.kids; omega, (hset (by omega)).symm, by show (0 : Int) = x.low; omega, by show (0 : Int) = x.high; omega⟩
  -- parts
  have c2 : x.kind ≠ 3 ∧ x.kind ≠ 4 → C2 s (.nd x ks) := fun hq => by
    by_cases h12 : x.kind = 1 ∨ x.kind = 2
    · exact C2_of (c3 h12)
    · obtain ⟨k, rfl⟩ := one_kid hR (by omega)
      have h3 := (hk k (by simp)).2.2
      intro i b rest n hd hr hn
      have e0 : shT (.nd x [k]) = wrp (rk k) 3 (shT k) ++ sfx x := by
        rw [shT, if_neg (by omega), if_neg (by omega), if_neg (by omega), if_neg (by omega), shU]
      rw [e0] at hd ⊢
      have d0 : s.drop i = wrp (rk k) 3 (shT k) ++ (sfx x ++ rest) := by rw [hd]; simp
      have ha := h3 i b (sfx x ++ rest) n d0 hn
      have d1 := dr_add d0
      unfold rep
      rw [ha]
      dsimp only
      have hfl : flats [k] = flat k := by simp [flats]
      have hjn : x.kind ≠ 8 → jn (knd x.kind) [flat k] = flat (.nd x [k]) := fun h8 => by
        rw [flat, hfl, jn]
        simp only [List.flatten_cons, List.flatten_nil, List.append_nil]
        congr 1
        unfold rtP at hrt
        exact nd_eq.2 ⟨rfl, by show ((1 : Nat) : Int) = x.kids; omega, (hset (by omega)).symm, by show (0 : Int) = x.low; omega, by show (0 : Int) = x.high; omega⟩
      by_cases h8 : x.kind = 8
      · have es : sfx x = oftV x := by rw [sfx, if_neg (by omega), if_neg (by omega), if_neg (by omega)]
        rw [es] at d1 ⊢
        rw [repF_times s.length h8 hrt d1 hr]
        refine Prod.ext ?_ ?_
        · show jn x [flat k] = _
          rw [flat, hfl, jn]
          simp only [List.flatten_cons, List.flatten_nil, List.append_nil]
          congr 1
          exact nd_eq.2 ⟨rfl, by show ((1 : Nat) : Int) = x.kids; simp at hkx; omega, rfl, rfl, rfl⟩
        · simp; omega
      · rw [← hjn h8]
        by_cases h5 : x.kind = 5
        · have es : sfx x = [42] := by rw [sfx, if_pos h5]
          rw [es] at d1 ⊢
          rw [repF_op s.length (.inl ⟨rfl, h5⟩) d1 hr]
          refine Prod.ext rfl ?_
          simp; omega
        · by_cases h6 : x.kind = 6
          · have es : sfx x = [43] := by rw [sfx, if_neg h5, if_pos h6]
            rw [es] at d1 ⊢
            rw [repF_op s.length (.inr (.inl ⟨rfl, h6⟩)) d1 hr]
            refine Prod.ext rfl ?_
            simp; omega
          · have h7 : x.kind = 7 := by omega
            have es : sfx x = [63] := by rw [sfx, if_neg h5, if_neg h6, if_pos h7]
            rw [es] at d1 ⊢
            rw [repF_op s.length (.inr (.inr ⟨rfl, h7⟩)) d1 hr]
            refine Prod.ext rfl ?_
            simp; omega
  -- rows of parts
  have c1 : x.kind ≠ 4 → C1 s (.nd x ks) := fun hq => by
    by_cases h3 : x.kind = 3
    · intro i b rest n hd hr hn
      rw [shT_3 h3] at hd ⊢
      have hge := shC_ge (ks := ks) (fun t ht => rt_mem hR ht)
      have hle : (shC ks).length ≤ s.length := by
        have := congrArg List.length hd
        rw [List.length_drop, List.length_append] at this; omega
      have := cat_row (s := s) (n := n) (b := b) ks (s.length + 2) i [] rest (fun t ht => ⟨rt_mem hR ht, (hk t ht).2.1⟩) hd hr (by omega) hn
      unfold cat
      rw [this]
      unfold rtP at hrt
      exact Prod.ext (fin_flat (by omega) hkx h3 (hset (by omega)) (by omega) (by omega)) rfl
    · exact C1_of hR (c2 ⟨h3, hq⟩)
  -- alternatives
  have c0 : C0 s (.nd x ks) := by
    by_cases h4 : x.kind = 4
    · intro i b rest n hd hr hn
      obtain ⟨n, rfl⟩ : ∃ m, n = m + 1 := ⟨n - 1, by omega⟩
      rw [shT_4 h4] at hd ⊢
      obtain ⟨u, v, q, rfl⟩ := two_kids hR (.inr h4)
      have e0 : shA (u :: v :: q) = wrp (rk u) 1 (shT u) ++ shB (v :: q) := rfl
      rw [e0] at hd ⊢
      have d0 : s.drop i = wrp (rk u) 1 (shT u) ++ (shB (v :: q) ++ rest) := by rw [hd]; simp
      have hu := (hk u (by simp)).1 i b (shB (v :: q) ++ rest) n d0 (fun c p e => by rw [shB] at e; obtain rfl := (List.cons.inj e).1; exact .inl rfl) (by omega)
      have d1 := dr_add d0
      have hge := shB_ge (ks := v :: q)
      have hle : (shB (v :: q)).length ≤ s.length := by
        have := congrArg List.length d1
        rw [List.length_drop, List.length_append] at this; omega
      have hrow := alt_row (s := s) (n := n) (b := b) (v :: q) (s.length + 2) (i + (wrp (rk u) 1 (shT u)).length) [flat u] rest (fun t ht => (hk t (by simp at ht ⊢; exact .inr ht)).1) d1 hr (by omega) (by omega)
      show alt (altN s n) s ⟨i, 0, b⟩ = _
      unfold alt
      rw [show s.length + 3 = (s.length + 2) + 1 from rfl, alt_first, hu]
      dsimp only
      rw [hrow]
      unfold rtP at hrt
      refine Prod.ext ?_ ?_
      · exact fin_flat (ks := u :: v :: q) (by simp) hkx h4 (hset (by omega)) (by omega) (by omega)
      · simp; omega
    · exact C0_of (c1 h4)
  exact ⟨R1_of c0 (fun h => c1 (by rw [hrk] at h; exact h)), R2_of c0 (fun h => c2 (by rw [hrk] at h; exact h)), R3_of c0 (fun h => c3 (by rw [hrk] at h; exact h)), c0⟩
mutual
theorem tree_all (s : Bs) : ∀ t : T, Rt t → R1 s t ∧ R2 s t ∧ R3 s t ∧ C0 s t
  | .nd x ks, hR => tree_step hR (fun t ht => trees_all s ks (fun u hu => rt_mem hR hu) t ht)
theorem trees_all (s : Bs) : ∀ ks : List T, (∀ t ∈ ks, Rt t) → ∀ t ∈ ks, R1 s t ∧ R2 s t ∧ R3 s t
  | [], _, t, ht => absurd ht (by simp)
  | u :: r, h, t, ht => (List.mem_cons.1 ht).elim (fun e => by
      obtain ⟨h1, h2, h3, _⟩ := tree_all s u (h u (by simp))
      exact e ▸ ⟨h1, h2, h3⟩) (fun q => trees_all s r (fun v hv => h v (by simp [hv])) t q)
end
end
/-- What is shown of a right tree is read as that tree. -/
theorem prs_show {t : T} (hR : Rt t) (hl : (flat t).length ≤ 400) (hs : (shT t).length ≤ 512) : prs (shT t) = (flat t, 0, 0) := by
  have h := (tree_all (shT t) t hR).2.2.2 0 0 [] ((shT t).length + 2) (by simp) (fun c r e => by cases e) (by omega)
  rw [Nat.zero_add] at h
  have hn := nx_end (s := shT t) (i := (shT t).length) (b := 0) (by simp)
  exact parse_4 (by omega) h (prsE_f hn) (by simp) (by omega)
end Go.Proofs.YtcandjdomeompaaDoor
