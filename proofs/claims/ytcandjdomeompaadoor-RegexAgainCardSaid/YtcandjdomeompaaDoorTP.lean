/- Plain laws: what is written is read: bytes, ranges, brackets. -/
import Derived.Test.YtcandjdomeompaaDoorTG
namespace Go.Proofs.YtcandjdomeompaaDoor
open Go.SX Go.Chr
set_option linter.unusedVariables false
set_option linter.unusedSimpArgs false
section
variable {s : Bs} {i : Nat} {b : Int} {c : UInt8} {r w : Bs}
theorem dr_lt (h : s.drop i = c :: r) : i < s.length := by
  have := congrArg List.length h
  rw [List.length_drop] at this
  simp at this; omega
theorem dr_get (h : s.drop i = c :: r) : s.getD i 0 = c := by
  have h1 := dr_lt h
  rw [List.drop_eq_getElem_cons h1] at h
  rw [List.getD_eq_getElem?_getD, List.getElem?_eq_getElem h1]
  exact (List.cons.inj h).1
theorem dr_one (h : s.drop i = c :: r) : s.drop (i + 1) = r := by
  rw [List.drop_eq_getElem_cons (dr_lt h)] at h
  exact (List.cons.inj h).2
theorem dr_add (h : s.drop i = w ++ r) : s.drop (i + w.length) = r := by
  rw [← List.drop_drop, h, List.drop_left]
theorem nx_at (h : s.drop i = c :: r) : nx s ⟨i, 0, b⟩ = (c.toNat, true) := by
  rw [nx_of rfl (dr_lt h)]; exact congrArg (fun q => (UInt8.toNat q, true)) (dr_get h)
theorem nx_end (h : s.drop i = []) : nx s ⟨i, 0, b⟩ = (0, false) := nx_no (.inr (List.drop_eq_nil_iff.1 h))
theorem tk_is {k : Nat} (h : s.drop i = c :: r) (hk : c.toNat = k) : tk s k ⟨i, 0, b⟩ = (true, ⟨i + 1, 0, b⟩) := by
  have := nx_at (b := b) h
  exact tk_t (by rw [this]; exact hk) (by rw [this])
theorem tk_not {k : Nat} (h : s.drop i = c :: r) (hk : c.toNat ≠ k) : tk s k ⟨i, 0, b⟩ = (false, ⟨i, 0, b⟩) := by
  have := nx_at (b := b) h
  exact tk_f2 (by rw [this]; exact hk)
theorem tk_end {k : Nat} (h : s.drop i = []) : tk s k ⟨i, 0, b⟩ = (false, ⟨i, 0, b⟩) := tk_f1 (by rw [nx_end h])
end
/-! ### a byte -/
theorem msk_of {c : Nat} (h : c < 256) : msk c = true ↔ c = 92 ∨ c = 91 ∨ c = 93 ∨ c = 40 ∨ c = 41 ∨ c = 123 ∨ c = 125 ∨ c = 42 ∨ c = 43 ∨ c = 63 ∨ c = 124 ∨ c = 46 ∨ c = 45 ∨ c = 94 ∨ c = 47 ∨ c = 34 := by
  have key : ∀ c, c < 256 → (msk c = true ↔ c = 92 ∨ c = 91 ∨ c = 93 ∨ c = 40 ∨ c = 41 ∨ c = 123 ∨ c = 125 ∨ c = 42 ∨ c = 43 ∨ c = 63 ∨ c = 124 ∨ c = 46 ∨ c = 45 ∨ c = 94 ∨ c = 47 ∨ c = 34) := by decide +kernel
  exact key c h
theorem hex_ok : ∀ d, d < 16 → dgO (hexs.getD d 0).toNat 16 = true ∧ dgN (hexs.getD d 0).toNat = (d : Nat) := by decide
theorem esc_wr {s : Bs} {i : Nat} {b : Int} {c : Nat} {r w : Bs} (hc : c < 256) (hw : wr c = 92 :: w) (h : s.drop i = wr c ++ r) : esc s ⟨i, 0, b⟩ = ((sRg c c, false), ⟨i + (wr c).length, 0, b⟩) := by
  have hadv : adv ⟨i, 0, b⟩ = ⟨i + 1, 0, b⟩ := rfl
  have two : ∀ d : UInt8, wr c = [92, d] → kds d.toNat = (s0, false) → nmd d.toNat = (c, true) → esc s ⟨i, 0, b⟩ = ((sRg c c, false), ⟨i + (wr c).length, 0, b⟩) := fun d h1 h2 h3 => by
    rw [h1] at h ⊢
    have hn := nx_at (b := b) (dr_one h)
    rw [esc_3 (by rw [hadv]; exact hn) h2 h3]; rfl
  unfold wr at hw
  by_cases h1 : c = 10
  · subst h1; exact two 110 (by simp [wr]) (by decide) (by decide)
  · by_cases h2 : c = 9
    · subst h2; exact two 116 (by simp [wr]) (by decide) (by decide)
    · by_cases h3 : c = 32
      · subst h3; exact two 115 (by simp [wr]) (by decide) (by decide)
      · by_cases hm : msk c = true
        · have hl := (msk_of hc).1 hm
          refine two (u8 c) (by rw [wr, if_neg h1, if_neg h2, if_neg h3, if_pos hm]) ?_ ?_
          · rw [u8_nat hc]; unfold kds; rw [if_neg (by omega), if_neg (by omega)]
          · rw [u8_nat hc]; unfold nmd; rw [if_neg (by omega), if_neg (by omega), if_neg (by omega), hm]
        · by_cases hp : 32 < c ∧ c < 127
          · rw [if_neg h1, if_neg h2, if_neg h3, if_neg hm, if_pos hp] at hw
            have h5 := congrArg UInt8.toNat (List.cons.inj hw).1
            rw [u8_nat hc] at h5
            exact absurd ((msk_of hc).2 (.inl h5)) hm
          · have e : wr c = [92, 120, hexs.getD (c / 16) 0, hexs.getD (c % 16) 0] := by rw [wr, if_neg h1, if_neg h2, if_neg h3, if_neg hm, if_neg hp]
            rw [e] at h ⊢
            have d1 := dr_one h
            have d2 := dr_one d1
            have d3 := dr_one d2
            have hn := nx_at (b := b) d1
            have g2 := dr_get d2
            have g3 := dr_get d3
            have l3 := dr_lt d3
            obtain ⟨o1, v1⟩ := hex_ok (c / 16) (by omega)
            obtain ⟨o2, v2⟩ := hex_ok (c % 16) (by omega)
            have x1 : hxO s (i + 2) = true := by unfold hxO; rw [g2]; exact o1
            have x2 : hxO s (i + 3) = true := by unfold hxO; rw [g3]; exact o2
            have xv : hxV s (i + 2) = c := by
              rw [hxV_is (h := c / 16) (l := c % 16) (by rw [g2]; exact v1) (by rw [show i + 2 + 1 = i + 3 from rfl, g3]; exact v2)]
              omega
            have h4 := esc_4 (s := s) (st := ⟨i, 0, b⟩) (c := 120) (a := s0) (m := 120) (by rw [hadv]; exact hn) (by decide) (by decide) ⟨rfl, l3, x1, x2⟩
            rw [h4]
            show ((sRg (hxV s (i + 2)) (hxV s (i + 2)), false), _) = _
            rw [xv]; rfl
theorem wr_cases {c : Nat} (hc : c < 256) : (∃ w, wr c = 92 :: w) ∨ (wr c = [u8 c] ∧ msk c = false ∧ 32 < c ∧ c < 127) := by
  unfold wr
  by_cases h1 : c = 10
  · rw [if_pos h1]; exact .inl ⟨_, rfl⟩
  · rw [if_neg h1]
    by_cases h2 : c = 9
    · rw [if_pos h2]; exact .inl ⟨_, rfl⟩
    · rw [if_neg h2]
      by_cases h3 : c = 32
      · rw [if_pos h3]; exact .inl ⟨_, rfl⟩
      · rw [if_neg h3]
        by_cases hm : msk c = true
        · rw [if_pos hm]; exact .inl ⟨_, rfl⟩
        · rw [if_neg hm]
          by_cases hp : 32 < c ∧ c < 127
          · rw [if_pos hp]; exact .inr ⟨rfl, by simpa using hm, hp⟩
          · rw [if_neg hp]; exact .inl ⟨_, rfl⟩
/-- What a byte's text begins with is no mark but '\\'. -/
theorem wr_head {c : Nat} (hc : c < 256) : ∃ d w, wr c = d :: w ∧ (d.toNat = 92 ∨ msk d.toNat = false) := by
  rcases wr_cases hc with ⟨w, h⟩ | ⟨h, hm, _⟩
  · exact ⟨92, w, h, .inl rfl⟩
  · exact ⟨u8 c, [], h, .inr (by rw [u8_nat hc]; exact hm)⟩
theorem mk_ne {d : Nat} (hd : d < 256) (h : d = 92 ∨ msk d = false) : d ≠ 91 ∧ d ≠ 93 ∧ d ≠ 40 ∧ d ≠ 41 ∧ d ≠ 123 ∧ d ≠ 125 ∧ d ≠ 42 ∧ d ≠ 43 ∧ d ≠ 63 ∧ d ≠ 124 ∧ d ≠ 46 ∧ d ≠ 45 ∧ d ≠ 94 := by
  rcases h with h | h
  · omega
  · have := msk_of hd
    rw [h] at this
    have h2 := mt this.2 Bool.false_ne_true
    omega
theorem chp_wr {s : Bs} {i : Nat} {b : Int} {c : Nat} {r : Bs} (hc : c < 256) (h : s.drop i = wr c ++ r) : chp s ⟨i, 0, b⟩ = ((sRg c c, false), ⟨i + (wr c).length, 0, b⟩) := by
  rcases wr_cases hc with ⟨w, hw⟩ | ⟨hw, hm, _⟩
  · have h2 := h
    rw [hw] at h2
    exact chp_1 (nx_at h2) rfl (esc_wr hc hw h)
  · rw [hw] at h ⊢
    have hn := nx_at (b := b) h
    rw [u8_nat hc] at hn
    have h3 := mk_ne hc (.inr hm)
    have h92 : c ≠ 92 := fun q => by rw [(msk_of hc).2 (.inl q)] at hm; cases hm
    rw [chp_4 hn h92 (by omega)]; rfl
/-! ### brackets -/
theorem bt_rg {x y c : Nat} (hc : c < 256) : bt (sRg x y).1 c = (decide (x ≤ c) && decide (c ≤ y)) := by
  show bt (ofL (flt (rg x y) 256)) c = _
  rw [bt_ofL (fun d hd => Nat.lt_of_lt_of_le (flt_lt hd) (Nat.le_refl _)) hc]
  rw [Bool.eq_iff_iff, decide_eq_true_iff, mem_flt]
  simp [rg]; intro _ _; exact hc
theorem s_ext {a b : S4} (h : ∀ c, c < 256 → bt a.1 c = bt b.1 c) : a = b := Subtype.ext (Ws.ext a.2 b.2 h)
theorem els_one {a : S4} {c : Nat} (h : els a.1 = [c]) : a = sRg c c := by
  have hc : c < 256 := els_lt c (by rw [h]; simp)
  apply Subtype.ext
  have h1 := ofL_els a.2
  rw [h] at h1
  have h2 := ofL_els (sRg c c).2
  rw [els_rg hc] at h2
  rw [← h1, h2]
theorem mem_els {a : List Nat} {c : Nat} : c ∈ els a ↔ c < 256 ∧ bt a c = true := mem_flt
theorem getD_u8 {l : List Nat} {j x : Nat} (h : l[j]? = some x) : (bts l).getD j 0 = u8 x := by
  rw [List.getD_eq_getElem?_getD, bts, List.getElem?_map, h]; rfl
/-- A run of bytes: one behind the other. -/
theorem rl_run : ∀ (xs : Bs) (x : Nat), x + (rl x xs) ≤ 256 ∨ rl x xs = 0 → ∀ j, j < rl x xs → ∃ y, xs[j]? = some y ∧ y.toNat = x + j
  | [], x, _, j, h => by simp [rl] at h
  | y :: ys, x, hx, j, h => by
    rw [rl] at h hx
    by_cases hy : y.toNat = x
    · rw [if_pos hy] at h hx
      cases j with
      | zero => exact ⟨y, rfl, by omega⟩
      | succ j =>
        obtain ⟨z, h1, h2⟩ := rl_run ys (x + 1) (by omega) j (by omega)
        exact ⟨z, by simpa using h1, by omega⟩
    · rw [if_neg hy] at h; omega
theorem rl_bd : ∀ (xs : Bs) (x : Nat), x ≤ 256 → x + rl x xs ≤ 256
  | [], x, h => by simpa [rl] using h
  | y :: ys, x, h => by
    rw [rl]
    by_cases hy : y.toNat = x
    · rw [if_pos hy]
      have h1 := y.toNat_lt
      have := rl_bd ys (x + 1) (by omega)
      omega
    · rw [if_neg hy]; exact h
/-- The set of bytes that a piece of brackets' text stands for. -/
theorem cls_read {s : Bs} {fr : Int} {rest : Bs} {b : Int} : ∀ (n : Nat) (xs : Bs) (f : Nat) (acc : S4) (i : Nat), xs.length ≤ n → (sh xs).length < f → s.drop i = sh xs ++ 93 :: rest →
    ∃ a : S4, clsF s fr f acc ⟨i, 0, b⟩ = (a, ⟨i + (sh xs).length + 1, 0, b⟩) ∧ ∀ c, c < 256 → bt a.1 c = (bt acc.1 c || decide (u8 c ∈ xs))
  | n, [], f, acc, i, _, hf, h => by
    obtain ⟨f, rfl⟩ : ∃ g, f = g + 1 := ⟨f - 1, by omega⟩
    rw [sh_nil] at h ⊢
    have ht := tk_is (b := b) (k := 93) h rfl
    refine ⟨acc, ?_, fun c hc => by simp⟩
    rw [clsF, if_neg (by simp), if_pos (by rw [ht]), ht]; rfl
  | 0, x :: xs, f, acc, i, hn, hf, h => by simp at hn
  | n + 1, x :: xs, f, acc, i, hn, hf, h => by
    obtain ⟨f, rfl⟩ : ∃ g, f = g + 1 := ⟨f - 1, by omega⟩
    have hx := x.toNat_lt
    obtain ⟨d, w, hd, hdm⟩ := wr_head hx
    have hne := mk_ne d.toNat_lt hdm
    -- what stands next
    have start : ∀ tl : Bs, s.drop i = wr x.toNat ++ tl → (tk s 93 ⟨i, 0, b⟩).1 = false ∧ ¬ s.length ≤ i := fun tl ht => by
      rw [hd] at ht
      refine ⟨by rw [tk_not ht (by omega)], ?_⟩
      have := dr_lt ht; omega
    have headB : ∀ (ys : Bs), ∃ d2 w2, sh ys ++ 93 :: rest = d2 :: w2 ∧ d2.toNat ≠ 45 := fun ys => by
      cases ys with
      | nil => exact ⟨93, rest, rfl, by decide⟩
      | cons y ys =>
        obtain ⟨e, w3, he, hem⟩ := wr_head y.toNat_lt
        have hn3 := mk_ne e.toNat_lt hem
        rw [sh_cons]
        split
        · exact ⟨e, _, by rw [he]; rfl, by omega⟩
        · exact ⟨e, _, by rw [he]; rfl, by omega⟩
    have hcons := sh_cons x xs
    by_cases h3 : 3 ≤ 1 + rl (x.toNat + 1) xs
    · -- a run
      rw [if_pos h3] at hcons
      obtain ⟨m, hm⟩ : ∃ m, rl (x.toNat + 1) xs = m := ⟨_, rfl⟩
      rw [hm] at hcons h3
      have hb1 := rl_bd xs (x.toNat + 1) (by omega)
      rw [hm] at hb1
      have hrun := rl_run xs (x.toNat + 1) (.inl (by rw [hm]; exact hb1))
      rw [hm] at hrun
      have hle := rl_le (x.toNat + 1) xs
      rw [hm] at hle
      obtain ⟨y, hy, hyv⟩ := hrun (m - 1) (by omega)
      have hgy : (x :: xs).getD m 0 = y := by
        rw [show m = (m - 1) + 1 by omega, List.getD_cons_succ, List.getD_eq_getElem?_getD, hy]; rfl
      rw [hgy] at hcons
      rw [hcons] at h ⊢
      have h1 : s.drop i = wr x.toNat ++ (45 :: wr y.toNat ++ sh (xs.drop m) ++ 93 :: rest) := by rw [h]; simp
      have d1 := dr_add h1
      have d2 := dr_one (show s.drop (i + (wr x.toNat).length) = 45 :: (wr y.toNat ++ (sh (xs.drop m) ++ 93 :: rest)) by rw [d1]; simp)
      have d3 := dr_add d2
      obtain ⟨st1, st2⟩ := start _ h1
      have c1 := chp_wr (b := b) hx h1
      have t1 := tk_is (b := b) (k := 45) (show s.drop (i + (wr x.toNat).length) = 45 :: _ from d1) rfl
      have c2 := chp_wr (b := b) y.toNat_lt d2
      obtain ⟨e, w3, he, hem⟩ := wr_head y.toNat_lt
      have hn3 := mk_ne e.toNat_lt hem
      have n2 := nx_at (b := b) (show s.drop (i + (wr x.toNat).length + 1) = e :: (w3 ++ (sh (xs.drop m) ++ 93 :: rest)) by rw [d2, he]; rfl)
      have hit : itm s fr ⟨i, 0, b⟩ = (sRg x.toNat y.toNat, ⟨i + (wr x.toNat).length + 1 + (wr y.toNat).length, 0, b⟩) := by
        refine itm_2 c1 (by rw [t1]) ?_
        have h5 := itR_5 (s := s) (from_ := fr) (at_ := ((i + (wr x.toNat).length : Nat) : Int)) (a := sRg x.toNat x.toNat) (k := false) (st2 := ⟨i + (wr x.toNat).length + 1, 0, b⟩) n2 (by omega) c2 (by simp) (by rw [hd_rg hx, hd_rg y.toNat_lt]; simp; omega)
        rw [hd_rg hx, hd_rg y.toNat_lt] at h5
        exact h5
      obtain ⟨a, ha, hab⟩ := cls_read n (xs.drop m) f (sOr acc (sRg x.toNat y.toNat)) (i + (wr x.toNat).length + 1 + (wr y.toNat).length) (by simp at hn ⊢; omega) (by rw [hcons] at hf; simp at hf; omega) d3
      refine ⟨a, ?_, fun c hc => ?_⟩
      · rw [clsF, if_neg (by simp), if_neg (by rw [st1]; simp), if_neg st2, hit]
        dsimp only
        rw [ha]
        congr 2
        simp; omega
      · rw [hab c hc]
        show (bt (orW acc.1 (sRg x.toNat y.toNat).1) c || _) = _
        rw [bt_or _ _ hc, bt_rg hc, Bool.or_assoc]
        congr 1
        rw [Bool.eq_iff_iff]
        simp only [Bool.or_eq_true, Bool.and_eq_true, decide_eq_true_eq]
        constructor
        · rintro (⟨q1, q2⟩ | q)
          · by_cases q0 : c = x.toNat
            · exact List.mem_cons.2 (.inl (by rw [q0, u8_toNat]))
            · obtain ⟨z, hz, hzv⟩ := hrun (c - x.toNat - 1) (by omega)
              refine List.mem_cons.2 (.inr ?_)
              have : u8 c = z := by rw [← u8_toNat z, hzv]; congr 1; omega
              rw [this]; exact List.mem_of_getElem? hz
          · exact List.mem_cons.2 (.inr (List.mem_of_mem_drop q))
        · intro q
          rcases List.mem_cons.1 q with q | q
          · have := congrArg UInt8.toNat q
            rw [u8_nat hc] at this
            exact .inl ⟨by omega, by omega⟩
          · rw [← List.take_append_drop m xs] at q
            rcases List.mem_append.1 q with q | q
            · obtain ⟨j, hj⟩ := List.getElem?_of_mem q
              have hjl := (List.getElem?_eq_some_iff.1 hj).1
              rw [List.length_take] at hjl
              rw [List.getElem?_take_of_lt (by omega)] at hj
              obtain ⟨z, hz, hzv⟩ := hrun j (by omega)
              rw [hz] at hj
              have := congrArg UInt8.toNat (Option.some.inj hj)
              rw [u8_nat hc] at this
              exact .inl ⟨by omega, by omega⟩
            · exact .inr q
    · -- one byte
      rw [if_neg h3] at hcons
      rw [hcons] at h ⊢
      have h1 : s.drop i = wr x.toNat ++ (sh xs ++ 93 :: rest) := by rw [h]; simp
      have d1 := dr_add h1
      obtain ⟨st1, st2⟩ := start _ h1
      have c1 := chp_wr (b := b) hx h1
      obtain ⟨d2, w2, e2, n2⟩ := headB xs
      rw [e2] at d1
      have hit : itm s fr ⟨i, 0, b⟩ = (sRg x.toNat x.toNat, ⟨i + (wr x.toNat).length, 0, b⟩) := itm_1 c1 (by rw [tk_not d1 n2])
      rw [← e2] at d1
      obtain ⟨a, ha, hab⟩ := cls_read n xs f (sOr acc (sRg x.toNat x.toNat)) (i + (wr x.toNat).length) (by simpa using hn) (by rw [hcons, List.length_append, hd] at hf; simp at hf; omega) d1
      refine ⟨a, ?_, fun c hc => ?_⟩
      · rw [clsF, if_neg (by simp), if_neg (by rw [st1]; simp), if_neg st2, hit]
        dsimp only
        rw [ha]
        congr 2
        simp; omega
      · rw [hab c hc]
        show (bt (orW acc.1 (sRg x.toNat x.toNat).1) c || _) = _
        rw [bt_or _ _ hc, bt_rg hc, Bool.or_assoc]
        congr 1
        rw [Bool.eq_iff_iff]
        simp only [Bool.or_eq_true, Bool.and_eq_true, decide_eq_true_eq, List.mem_cons]
        constructor
        · rintro (⟨q1, q2⟩ | q)
          · exact .inl (by rw [← u8_toNat x]; congr 1; omega)
          · exact .inr q
        · rintro (q | q)
          · have := congrArg UInt8.toNat q
            rw [u8_nat hc] at this
            exact .inl ⟨by omega, by omega⟩
          · exact .inr q
theorem mem_bts {a : List Nat} {c : Nat} (hc : c < 256) : decide (u8 c ∈ bts (els a)) = bt a c := by
  rw [Bool.eq_iff_iff, decide_eq_true_iff]
  constructor
  · intro h
    obtain ⟨d, hd, e⟩ := List.mem_map.1 h
    have hd2 := mem_els.1 hd
    have := congrArg UInt8.toNat e
    rw [u8_nat hc, u8_nat hd2.1] at this
    rw [← this]; exact hd2.2
  · intro h
    exact List.mem_map.2 ⟨c, mem_els.2 ⟨hc, h⟩, rfl⟩
/-- A set's text as an atom. -/
theorem atm_set {A : St → List Nd × St} {s : Bs} {i : Nat} {b : Int} {rest : Bs} (a : S4) (ha : a ≠ s0) (h : s.drop i = shS a ++ rest) : atm A s ⟨i, 0, b⟩ = (setN a, ⟨i + (shS a).length, 0, b⟩) := by
  unfold shS shw at h ⊢
  by_cases h1 : (els a.1).length = 1
  · rw [if_pos h1] at h ⊢
    obtain ⟨c, hc⟩ := List.length_eq_one_iff.1 h1
    rw [hc] at h ⊢
    have hc8 : c < 256 := els_lt c (by rw [hc]; simp)
    have h : s.drop i = wr c ++ rest := h
    show atm A s ⟨i, 0, b⟩ = (setN a, ⟨i + (wr c).length, 0, b⟩)
    rw [els_one hc]
    rcases wr_cases hc8 with ⟨w, hw⟩ | ⟨hw, hm, _⟩
    · have h2 := h
      rw [hw] at h2
      exact atm_1 (nx_at h2) rfl (esc_wr hc8 hw h)
    · have h2 := h
      rw [hw] at h2 ⊢
      have hn := nx_at (b := b) h2
      rw [u8_nat hc8] at hn
      have h3 := mk_ne hc8 (.inr hm)
      have h92 : c ≠ 92 := fun q => by rw [(msk_of hc8).2 (.inl q)] at hm; cases hm
      have hsp : spc c = false := by
        have key : ∀ c, c < 256 → msk c = false → spc c = false := by decide +kernel
        exact key c hc8 hm
      rw [atm_6 hn (by omega) hsp]; rfl
  · rw [if_neg h1] at h ⊢
    by_cases h2 : 128 < (els a.1).length
    · rw [if_pos h2] at h ⊢
      have d1 := dr_one h
      have t94 := tk_is (b := b) (k := 94) d1 rfl
      have d2 := dr_one d1
      have d3 : s.drop (i + 1 + 1) = sh (bts (els (notW a.1))) ++ 93 :: rest := by rw [d2]; simp
      have h5 := congrArg List.length d3
      rw [List.length_drop, List.length_append] at h5
      obtain ⟨q, hq, hqb⟩ := cls_read (s := s) (fr := (i : Nat)) (rest := rest) (b := b) _ (bts (els (notW a.1))) (s.length + 2) s0 (i + 1 + 1) (Nat.le_refl _) (by omega) d3
      have hqa : sNot q = a := s_ext (fun c hc => by
        show bt (notW q.1) c = _
        rw [bt_not q.2 hc, hqb c hc, show bt s0.1 c = false from bt_z4 c hc, Bool.false_or, mem_bts hc, bt_not a.2 hc, Bool.not_not])
      have hcl := cls_2 (s := s) (fr := (i : Nat)) (st := ⟨i + 1, 0, b⟩) t94 hq (fun e => ha (by rw [← hqa]; exact Subtype.ext e))
      rw [atm_3 (nx_at h) rfl hcl, hqa]
      congr 2
      simp; omega
    · rw [if_neg h2] at h ⊢
      have d1 := dr_one h
      have hne : els a.1 ≠ [] := fun e => ha (Subtype.ext (by have := ofL_els a.2; rw [e] at this; exact this.symm))
      obtain ⟨e0, er, he⟩ := List.exists_cons_of_ne_nil hne
      have he8 : e0 < 256 := els_lt e0 (by rw [he]; simp)
      obtain ⟨d, w, hd, hdm⟩ := wr_head (c := (u8 e0).toNat) (UInt8.toNat_lt _)
      have hn3 := mk_ne d.toNat_lt hdm
      have hsh : ∃ w2, sh (bts (els a.1)) = d :: w2 := by
        rw [he]
        show ∃ w2, sh (u8 e0 :: bts er) = d :: w2
        rw [sh_cons]
        split
        · exact ⟨_, by rw [hd]; rfl⟩
        · exact ⟨_, by rw [hd]; rfl⟩
      obtain ⟨w2, hw2⟩ := hsh
      have d1' := d1
      rw [hw2] at d1'
      have t94 := tk_not (b := b) (k := 94) (show s.drop (i + 1) = d :: (w2 ++ [93] ++ rest) by rw [d1']; simp) (by omega)
      have d3 : s.drop (i + 1) = sh (bts (els a.1)) ++ 93 :: rest := by rw [d1]; simp
      have h5 := congrArg List.length d3
      rw [List.length_drop, List.length_append] at h5
      obtain ⟨q, hq, hqb⟩ := cls_read (s := s) (fr := (i : Nat)) (rest := rest) (b := b) _ (bts (els a.1)) (s.length + 2) s0 (i + 1) (Nat.le_refl _) (by omega) d3
      have hqa : q = a := s_ext (fun c hc => by
        rw [hqb c hc, show bt s0.1 c = false from bt_z4 c hc, Bool.false_or, mem_bts hc])
      have hcl := cls_4 (s := s) (fr := (i : Nat)) (st := ⟨i + 1, 0, b⟩) t94 hq (fun e => ha (by rw [← hqa]; exact Subtype.ext e))
      rw [atm_3 (nx_at h) rfl hcl, hqa]
      congr 2
      simp; omega
end Go.Proofs.YtcandjdomeompaaDoor
