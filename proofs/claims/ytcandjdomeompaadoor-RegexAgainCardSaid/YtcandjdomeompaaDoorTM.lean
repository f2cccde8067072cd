/- Plain laws: trees of nodes; how they are shown, whether they match the empty text. -/
import Derived.Test.YtcandjdomeompaaDoorTC
namespace Go.Proofs.YtcandjdomeompaaDoor
open Go.SX Go.Chr
set_option linter.unusedVariables false
set_option linter.unusedSimpArgs false
inductive T where
  | nd : Nd → List T → T
mutual
def flat : T → List Nd
  | .nd x ks => x :: flats ks
def flats : List T → List Nd
  | [] => []
  | t :: r => flat t ++ flats r
end
mutual
def wf : T → Prop
  | .nd x ks => x.kids = (ks.length : Nat) ∧ wfs ks
def wfs : List T → Prop
  | [] => True
  | t :: r => wf t ∧ wfs r
end
theorem flats_app : ∀ a b : List T, flats (a ++ b) = flats a ++ flats b
  | [], b => by simp [flats]
  | t :: a, b => by simp [flats, flats_app a b]
theorem wfs_app : ∀ {a b : List T}, wfs (a ++ b) ↔ wfs a ∧ wfs b
  | [], b => by simp [wfs]
  | t :: a, b => by simp [wfs, wfs_app (a := a) (b := b), and_assoc]
theorem flat_pos (t : T) : 1 ≤ (flat t).length := by cases t; simp [flat]
theorem flats_len : ∀ ts : List T, ts.length ≤ (flats ts).length
  | [] => Nat.le_refl _
  | t :: r => by
    have := flats_len r
    have := flat_pos t
    simp [flats]; omega
/-- What 'End' goes over is a row of trees. -/
theorem forest_of {L : Nat} : ∀ (l : List Nd) (want : Nat) (i : Nat) (j : Int), 1 ≤ want → endA L (want : Nat) i l = j → 0 ≤ j →
    ∃ ts rest, ts.length = want ∧ wfs ts ∧ l = flats ts ++ rest ∧ j = ((i + (flats ts).length : Nat) : Int)
  | [], want, i, j, hw, h, hj => by
    simp only [endA] at h; omega
  | x :: r, want, i, j, hw, h, hj => by
    rw [endA] at h
    by_cases hb : x.kids < 0 ∨ (L : Int) < x.kids
    · rw [if_pos hb] at h; omega
    · rw [if_neg hb] at h
      obtain ⟨k, hk⟩ := Int.eq_ofNat_of_zero_le (show 0 ≤ x.kids by omega)
      by_cases h0 : (want : Int) + (x.kids - 1) = 0
      · rw [if_pos h0] at h
        refine ⟨[.nd x []], r, by simp; omega, by simp [wfs, wf]; omega, by simp [flats, flat], ?_⟩
        simp [flats, flat]; omega
      · rw [if_neg h0, show (want : Int) + (x.kids - 1) = ((want + k - 1 : Nat) : Int) by omega] at h
        obtain ⟨ts, rest, h1, h2, h3, h4⟩ := forest_of r (want + k - 1) (i + 1) j (by omega) h hj
        have ht : ts = ts.take k ++ ts.drop k := (List.take_append_drop k ts).symm
        rw [ht] at h2
        rw [wfs_app] at h2
        refine ⟨.nd x (ts.take k) :: ts.drop k, rest, by simp; omega, ?_, ?_, ?_⟩
        · refine ⟨⟨?_, h2.1⟩, h2.2⟩
          rw [List.length_take]; omega
        · show x :: r = (x :: flats (ts.take k)) ++ flats (ts.drop k) ++ rest
          rw [List.cons_append, ← flats_app, ← ht, List.cons_append, ← h3]
        · rw [h4]
          show _ = ((i + ((x :: flats (ts.take k)) ++ flats (ts.drop k)).length : Nat) : Int)
          rw [List.cons_append, ← flats_app, ← ht]
          simp; omega
theorem end_of {L : Nat} : ∀ (n : Nat) (ts : List T) (post : List Nd) (i : Nat), (flats ts).length ≤ n → 1 ≤ ts.length → wfs ts → (∀ y ∈ flats ts, y.kids ≤ (L : Int)) →
    endA L (ts.length : Nat) i (flats ts ++ post) = ((i + (flats ts).length : Nat) : Int)
  | 0, ts, post, i, hn, h1, _, _ => by have := flats_len ts; omega
  | n + 1, [], post, i, hn, h1, hw, hk => by simp at h1
  | n + 1, .nd x ks :: r, post, i, hn, h1, hw, hk => by
    obtain ⟨⟨hx, hks⟩, hr⟩ := hw
    have e : flats (.nd x ks :: r) = x :: flats (ks ++ r) := by rw [flats_app]; rfl
    rw [e] at hn hk ⊢
    have hkx := hk x (by simp)
    rw [List.cons_append, endA, if_neg (by omega)]
    by_cases h0 : ((Nat.succ r.length : Nat) : Int) + (x.kids - 1) = 0
    · have hk0 : ks = [] := List.eq_nil_of_length_eq_zero (by omega)
      have hr0 : r = [] := List.eq_nil_of_length_eq_zero (by omega)
      subst hk0 hr0
      rw [if_pos (by simpa using h0)]
      simp [flats]
    · rw [if_neg (by simpa using h0)]
      have hl : (((T.nd x ks :: r).length : Nat) : Int) + (x.kids - 1) = (((ks ++ r).length : Nat) : Int) := by simp; omega
      rw [hl, end_of n (ks ++ r) post (i + 1) (by simpa using hn) (by simp at h0 ⊢; omega) (wfs_app.2 ⟨hks, hr⟩) (fun y hy => hk y (by simp [hy]))]
      simp; omega
mutual
theorem kids_le : ∀ t : T, wf t → ∀ y ∈ flat t, y.kids ≤ (((flat t).length : Nat) : Int)
  | .nd x ks, ⟨h1, h2⟩, y, hy => by
    rw [flat] at hy ⊢
    rcases List.mem_cons.1 hy with rfl | hy
    · have := flats_len ks
      simp; omega
    · have := kidss_le ks h2 y hy
      simp; omega
theorem kidss_le : ∀ ts : List T, wfs ts → ∀ y ∈ flats ts, y.kids ≤ (((flats ts).length : Nat) : Int)
  | [], _, y, hy => by simp [flats] at hy
  | t :: r, ⟨h1, h2⟩, y, hy => by
    rw [flats] at hy ⊢
    rcases List.mem_append.1 hy with hy | hy
    · have := kids_le t h1 y hy
      simp; omega
    · have := kidss_le r h2 y hy
      simp; omega
end
theorem endV_sub {l pre post : List Nd} {t : T} (hl : l = pre ++ flat t ++ post) (hw : wf t) : endV l ((pre.length : Nat) : Int) = ((pre.length + (flat t).length : Nat) : Int) := by
  unfold endV
  rw [if_neg (by omega), Int.toNat_natCast]
  have hd : l.drop pre.length = flats [t] ++ post := by rw [hl, List.append_assoc, List.drop_left]; simp [flats]
  have hk := kids_le t hw
  have := end_of (L := l.length) (flats [t]).length [t] post pre.length (Nat.le_refl _) (by simp) ⟨hw, trivial⟩ (fun y hy => by
    have h1 := hk y (by simpa [flats] using hy)
    have : (flat t).length ≤ l.length := by rw [hl]; simp; omega
    omega)
  rw [hd]
  simpa [flats] using this
/-- A right tree, and its list. -/
structure Rt (t : T) : Prop where
  wf : wf t
  rt : ∀ y ∈ flat t, rtP y
theorem chk_cases {l : List Nd} (h : chkV l = 0) : l.length ≤ 400 ∧ endV l 0 = (l.length : Nat) ∧ l ≠ [] ∧ ∀ y ∈ l, rtP y := by
  unfold chkV at h
  split at h
  · cases h
  · rename_i h1
    have h2 := _root_.not_or.1 h1
    have h3 := _root_.not_or.1 h2.2
    split at h
    · rename_i ha
      refine ⟨by omega, Classical.byContradiction h3.2, fun h0 => h2.1 (by rw [h0]; rfl), fun y hy => of_decide_eq_true (List.all_eq_true.1 ha y hy)⟩
    · cases h
theorem chk_tree {l : List Nd} (h : chkV l = 0) : ∃ t, l = flat t ∧ Rt t ∧ l.length ≤ 400 := by
  obtain ⟨h1, h2, h3, h4⟩ := chk_cases h
  have h5 : endA l.length ((1 : Nat) : Int) 0 l = (l.length : Nat) := by
    unfold endV at h2
    rw [if_neg (by omega)] at h2
    simpa using h2
  obtain ⟨ts, rest, q1, q2, q3, q4⟩ := forest_of l 1 0 _ (by omega) h5 (by omega)
  obtain ⟨t, rfl⟩ := List.length_eq_one_iff.1 q1
  have q5 : flats [t] = flat t := by simp [flats]
  rw [q5] at q3 q4
  have q6 : rest = [] := by
    have := congrArg List.length q3
    simp at this
    exact List.eq_nil_of_length_eq_zero (by omega)
  subst q6
  rw [List.append_nil] at q3
  exact ⟨t, q3, ⟨q2.1, q3 ▸ h4⟩, h1⟩
theorem chk_of {t : T} (h : Rt t) (hl : (flat t).length ≤ 400) : chkV (flat t) = 0 := by
  have h1 := endV_sub (l := flat t) (pre := []) (post := []) (t := t) (by simp) h.wf
  have h2 := flat_pos t
  refine chk_ok (fun h3 => ?_) h.rt
  rcases h3 with h3 | h3 | h3
  · omega
  · omega
  · simp at h1; exact h3 h1
/-! ### shown -/
def rk : T → Int
  | .nd x _ => x.kind
def wrp (k least : Int) (s : Bs) : Bs := if tgt k < least then 40 :: (s ++ [41]) else s
def sfx (x : Nd) : Bs := if x.kind = 5 then [42] else if x.kind = 6 then [43] else if x.kind = 7 then [63] else oftV x
def shS (a : S4) : Bs := shw (els a.1) (els (notW a.1))
mutual
def shT : T → Bs
  | .nd x ks => if x.kind = 1 then shS x.set else if x.kind = 2 then [40, 41] else if x.kind = 3 then shC ks else if x.kind = 4 then shA ks else shU ks ++ sfx x
def shC : List T → Bs
  | [] => []
  | t :: r => wrp (rk t) 2 (shT t) ++ shC r
def shA : List T → Bs
  | [] => []
  | t :: r => wrp (rk t) 1 (shT t) ++ shB r
def shB : List T → Bs
  | [] => []
  | t :: r => 124 :: wrp (rk t) 1 (shT t) ++ shB r
def shU : List T → Bs
  | [] => []
  | t :: _ => wrp (rk t) 3 (shT t)
end
theorem shF_len : ∀ (n : Nat) (s : Bs), (shF n s).length ≤ 9 * s.length
  | 0, s => by simp [shF]
  | n + 1, [] => by simp [shF]
  | n + 1, x :: xs => by
    rw [shF]
    have h1 := wr_len x.toNat
    split
    · have h2 := wr_len ((x :: xs).getD (rl (x.toNat + 1) xs) 0).toNat
      have h3 := shF_len n (xs.drop (rl (x.toNat + 1) xs))
      simp only [List.length_append, List.length_cons, List.length_drop] at *
      omega
    · have h3 := shF_len n xs
      simp only [List.length_append, List.length_cons] at *
      omega
theorem shS_len (a : S4) : (shS a).length ≤ 2400 := by
  unfold shS shw
  have h1 := els_len a.1
  have h2 := els_len (notW a.1)
  have h3 := shF_len (bts (els a.1)).length (bts (els a.1))
  have h4 := shF_len (bts (els (notW a.1))).length (bts (els (notW a.1)))
  rw [bts_len] at h3 h4
  split
  · have := wr_len ((els a.1).headD 0); omega
  · split
    · simp only [List.length_cons, List.length_append, List.length_nil]
      unfold sh; rw [bts_len]; omega
    · simp only [List.length_cons, List.length_append, List.length_nil]
      unfold sh; rw [bts_len]; omega
theorem oftV_len (x : Nd) : (oftV x).length ≤ 8 := by
  unfold oftV oft
  have h1 := dcm_len x.low.toNat
  have h2 := dcm_len x.high.toNat
  split
  · simp; omega
  · split <;> simp <;> omega
theorem sfx_len (x : Nd) : (sfx x).length ≤ 8 := by
  unfold sfx
  split
  · simp
  · split
    · simp
    · split
      · simp
      · exact oftV_len x
theorem wrp_len (k least : Int) (s : Bs) : (wrp k least s).length ≤ s.length + 2 := by unfold wrp; split <;> simp
mutual
theorem shT_len : ∀ t : T, (shT t).length + 3 ≤ 4000 * (flat t).length
  | .nd x ks => by
    have h1 := shC_len ks
    have h2 := shA_len ks
    have h3 := shU_len ks
    have h4 := shS_len x.set
    have h5 := sfx_len x
    rw [shT, flat, List.length_cons]
    split
    · omega
    · split
      · simp; omega
      · split
        · omega
        · split
          · omega
          · rw [List.length_append]; omega
theorem shC_len : ∀ ts : List T, (shC ts).length ≤ 4000 * (flats ts).length
  | [] => by simp [shC]
  | t :: r => by
    have h1 := shT_len t
    have h2 := shC_len r
    have h3 := wrp_len (rk t) 2 (shT t)
    rw [shC, flats, List.length_append, List.length_append]; omega
theorem shA_len : ∀ ts : List T, (shA ts).length ≤ 4000 * (flats ts).length
  | [] => by simp [shA]
  | t :: r => by
    have h1 := shT_len t
    have h2 := shB_len r
    have h3 := wrp_len (rk t) 1 (shT t)
    rw [shA, flats, List.length_append, List.length_append]; omega
theorem shB_len : ∀ ts : List T, (shB ts).length ≤ 4000 * (flats ts).length
  | [] => by simp [shB]
  | t :: r => by
    have h1 := shT_len t
    have h2 := shB_len r
    have h3 := wrp_len (rk t) 1 (shT t)
    rw [shB, flats, List.length_append, List.length_append, List.length_cons]; omega
theorem shU_len : ∀ ts : List T, (shU ts).length ≤ 4000 * (flats ts).length
  | [] => by simp [shU]
  | t :: r => by
    have h1 := shT_len t
    have h3 := wrp_len (rk t) 3 (shT t)
    rw [shU, flats, List.length_append]; omega
end
/-! ### the empty text -/
mutual
def nul : T → Bool
  | .nd x ks => if x.kind = 2 ∨ x.kind = 5 ∨ x.kind = 7 then true else if x.kind = 3 ∨ x.kind = 6 then nulA ks else if x.kind = 4 then nulO ks else if x.kind = 8 then (nulA ks || decide (x.low = 0)) else false
def nulA : List T → Bool
  | [] => true
  | t :: r => nul t && nulA r
def nulO : List T → Bool
  | [] => false
  | t :: r => nul t || nulO r
end
/-! ### the list as trees -/
def fo : List Nd → List T
  | [] => []
  | x :: r => .nd x ((fo r).take x.kids.toNat) :: (fo r).drop x.kids.toNat
theorem flats_fo : ∀ l, flats (fo l) = l
  | [] => rfl
  | x :: r => by
    show (x :: flats ((fo r).take x.kids.toNat)) ++ flats ((fo r).drop x.kids.toNat) = _
    rw [List.cons_append, ← flats_app, List.take_append_drop, flats_fo r]
theorem fo_len : ∀ l : List Nd, (fo l).length ≤ l.length
  | [] => Nat.le_refl _
  | x :: r => by
    have := fo_len r
    rw [fo, List.length_cons, List.length_drop, List.length_cons]; omega
mutual
theorem fo_flat : ∀ (t : T) (post : List Nd), wf t → fo (flat t ++ post) = t :: fo post
  | .nd x ks, post, ⟨h1, h2⟩ => by
    have h3 := fo_flats ks post h2
    have hk : x.kids.toNat = ks.length := by omega
    rw [flat, List.cons_append, fo, h3, hk]
    simp
theorem fo_flats : ∀ (ts : List T) (post : List Nd), wfs ts → fo (flats ts ++ post) = ts ++ fo post
  | [], post, _ => by simp [flats]
  | t :: r, post, ⟨h1, h2⟩ => by
    rw [flats, List.append_assoc, fo_flat t _ h1, fo_flats r post h2]; rfl
end
theorem fo_tail {x : Nd} {r : List Nd} (h : wfs (fo (x :: r))) : wfs (fo r) ∧ x.kids = ((x.kids.toNat : Nat) : Int) ∧ x.kids.toNat ≤ (fo r).length := by
  rw [fo] at h
  obtain ⟨⟨h1, h2⟩, h3⟩ := h
  refine ⟨?_, ?_, ?_⟩
  · rw [← List.take_append_drop x.kids.toNat (fo r)]
    exact wfs_app.2 ⟨h2, h3⟩
  · omega
  · rw [List.length_take] at h1; omega
theorem fo_drop {l : List Nd} (h : wfs (fo l)) : ∀ i, wfs (fo (l.drop i)) := by
  intro i
  induction i generalizing l with
  | zero => exact h
  | succ i ih =>
    cases l with
    | nil => exact h
    | cons x r => exact ih (fo_tail h).1
theorem fo_whole {t : T} (h : wf t) : fo (flat t) = [t] := by
  have := fo_flat t [] h
  simpa [fo] using this
end Go.Proofs.YtcandjdomeompaaDoor
