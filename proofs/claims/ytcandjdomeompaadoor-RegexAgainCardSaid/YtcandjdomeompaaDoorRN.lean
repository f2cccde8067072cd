/- Plain laws: how far the reader goes; how many nodes there are. -/
import Derived.Test.YtcandjdomeompaaDoorRM
namespace Go.Proofs.YtcandjdomeompaaDoor
open Go.SX Go.Chr
set_option linter.unusedVariables false
def Mq (s : Bs) (st : St) : Nat := if st.e ≠ 0 then 0 else s.length + 1 - st.at_
structure Sp (s : Bs) (st st' : St) : Prop where
  le : st.at_ ≤ st'.at_
  len : st'.at_ ≤ s.length
  err : st.e ≠ 0 → st'.e ≠ 0
theorem Sp.refl {s : Bs} {st : St} (h : st.at_ ≤ s.length) : Sp s st st := ⟨Nat.le_refl _, h, id⟩
theorem Sp.trans {s : Bs} {a b c : St} (h : Sp s a b) (k : Sp s b c) : Sp s a c := ⟨Nat.le_trans h.le k.le, k.len, fun q => k.err (h.err q)⟩
theorem Sp.M {s : Bs} {a b : St} (h : Sp s a b) : Mq s b ≤ Mq s a := by
  have h1 := h.le
  unfold Mq
  by_cases ha : a.e ≠ 0
  · rw [if_pos (h.err ha)]; exact Nat.zero_le _
  · rw [if_neg ha]; split
    · exact Nat.zero_le _
    · omega
/-- It goes, and farther or into an error. -/
structure Sq (s : Bs) (st st' : St) : Prop extends Sp s st st' where
  lt : Mq s st' < Mq s st
theorem Sq.sp {s : Bs} {a b : St} (h : Sq s a b) : Sp s a b := h.toSp
theorem Sp.sq {s : Bs} {a b c : St} (h : Sp s a b) (k : Sq s b c) : Sq s a c := ⟨h.trans k.sp, Nat.lt_of_lt_of_le k.lt h.M⟩
theorem Sq.then {s : Bs} {a b c : St} (h : Sq s a b) (k : Sp s b c) : Sq s a c := ⟨h.sp.trans k, Nat.lt_of_le_of_lt k.M h.lt⟩
theorem nx_ok {s : Bs} {st : St} (h : (nx s st).2 = true) : st.e = 0 ∧ st.at_ < s.length := by
  unfold nx at h
  split at h
  · cases h
  · rename_i hc
    have h1 := _root_.not_or.1 hc
    exact ⟨Classical.byContradiction h1.1, by omega⟩
theorem nx_of {s : Bs} {st : St} (h0 : st.e = 0) (h : st.at_ < s.length) : nx s st = ((s.getD st.at_ 0).toNat, true) := by
  unfold nx; rw [if_neg]; intro hc; rcases hc with hc | hc
  · exact hc h0
  · omega
theorem nx_no {s : Bs} {st : St} (h : st.e ≠ 0 ∨ s.length ≤ st.at_) : nx s st = (0, false) := by unfold nx; rw [if_pos h]
theorem nx_c {s : Bs} {st : St} (h : (nx s st).1 ≠ 0) : (nx s st).2 = true := by
  unfold nx at h ⊢
  split
  · rename_i hc; rw [if_pos hc] at h; exact absurd rfl h
  · rfl
theorem nx_lt {s : Bs} {st : St} : (nx s st).1 < 256 := by
  unfold nx; split
  · decide
  · exact UInt8.toNat_lt _
theorem M_pos {s : Bs} {st : St} (h0 : st.e = 0) (h : st.at_ ≤ s.length) : 0 < Mq s st := by
  unfold Mq; rw [if_neg (by omega)]; omega
theorem sp_fl {s : Bs} {st : St} {e a : Int} (he : e ≠ 0) (h : st.at_ ≤ s.length) : Sp s st (fl e a st) := by
  unfold fl; split
  · exact ⟨Nat.le_refl _, h, fun _ => he⟩
  · exact Sp.refl h
theorem fl_at (e a : Int) (st : St) : (fl e a st).at_ = st.at_ := by unfold fl; split <;> rfl
theorem fl_err {e a : Int} {st : St} (he : e ≠ 0) : (fl e a st).e ≠ 0 := by
  unfold fl; split
  · exact he
  · assumption
theorem sq_fl {s : Bs} {st : St} {e a : Int} (he : e ≠ 0) (h0 : st.e = 0) (h : st.at_ ≤ s.length) : Sq s st (fl e a st) :=
  ⟨sp_fl he h, by have := M_pos h0 h; have h1 := fl_err (a := a) (st := st) he; unfold Mq at *; rw [if_pos h1]; exact this⟩
theorem sq_adv {s : Bs} {st : St} (h : (nx s st).2 = true) : Sq s st (adv st) := by
  obtain ⟨h0, h1⟩ := nx_ok h
  refine ⟨⟨by show st.at_ ≤ st.at_ + 1; omega, h1, fun q => absurd h0 q⟩, ?_⟩
  show (if st.e ≠ 0 then 0 else s.length + 1 - (st.at_ + 1)) < (if st.e ≠ 0 then 0 else s.length + 1 - st.at_)
  rw [if_neg (by omega), if_neg (by omega)]
  omega
theorem tk_yes {s : Bs} {c : Nat} {st : St} (h : (tk s c st).1 = true) : nx s st = (c, true) ∧ (tk s c st).2 = adv st := by
  unfold tk at h ⊢
  split at h
  · rename_i hc; exact ⟨hc, by rw [if_pos hc]⟩
  · cases h
theorem tk_no {s : Bs} {c : Nat} {st : St} (h : (tk s c st).1 = false) : nx s st ≠ (c, true) ∧ (tk s c st).2 = st := by
  unfold tk at h ⊢
  split at h
  · cases h
  · rename_i hc; exact ⟨hc, by rw [if_neg hc]⟩
theorem sq_tk {s : Bs} {c : Nat} {st : St} (h : (tk s c st).1 = true) : Sq s st (tk s c st).2 := by
  obtain ⟨h1, h2⟩ := tk_yes h
  rw [h2]; exact sq_adv (by rw [h1])
theorem sp_tk {s : Bs} {c : Nat} {st : St} (h : st.at_ ≤ s.length) : Sp s st (tk s c st).2 := by
  cases hc : (tk s c st).1
  · rw [(tk_no hc).2]; exact Sp.refl h
  · exact (sq_tk hc).sp
theorem dg_pos {s : Bs} {st : St} {b : Int} (h : dgO (nx s st).1 b = true) : (nx s st).2 = true := by
  refine nx_c (fun h0 => ?_)
  rw [h0] at h
  unfold dgO dgN at h
  simp at h
theorem sp_numF {s : Bs} : ∀ (f i : Nat) (n : Int) (st : St), st.at_ ≤ s.length → Sp s st (numF s f i n st).2
  | 0, _, _, st, h => Sp.refl h
  | f + 1, i, n, st, h => by
    rw [numF]; split
    · rename_i hd
      have h1 := sq_adv (dg_pos hd)
      exact h1.sp.trans (sp_numF f _ _ _ h1.len)
    · show Sp s st (if i = 0 then _ else _)
      split
      · exact sp_fl (by decide) h
      · exact Sp.refl h
theorem sp_num {s : Bs} {st : St} (h : st.at_ ≤ s.length) : Sp s st (num s st).2 := sp_numF _ _ _ _ h
theorem sp_hi {s : Bs} {low : Int} {st : St} (h : st.at_ ≤ s.length) : Sp s st (hiP s low st).2 := by
  have h1 := sp_tk (c := 44) h
  unfold hiP; split
  · split
    · exact h1
    · exact h1.trans (sp_num h1.len)
  · exact h1
theorem sp_cl {s : Bs} {c : Nat} {e a : Int} {st : St} (he : e ≠ 0) (h : st.at_ ≤ s.length) : Sp s st (clP s c e a st) := by
  have h1 := sp_tk (c := c) h
  unfold clP; split
  · exact h1
  · exact h1.trans (sp_fl he h1.len)
theorem sq_tms {s : Bs} {st : St} (h : (nx s st).2 = true) : Sq s st (tms s st).2 := by
  have h1 := sq_adv h
  have h2 := sp_num h1.len
  have h3 := sp_hi (low := (num s (adv st)).1) h2.len
  have h4 := sp_cl (c := 125) (e := 15) (a := ((hiP s (num s (adv st)).1 (num s (adv st)).2).2.at_ : Nat)) (by decide) h3.len
  refine h1.then (h2.trans (h3.trans (h4.trans ?_)))
  unfold tms; dsimp only; split
  · exact Sp.refl h4.len
  · exact sp_fl (by decide) h4.len
theorem sq_esc {s : Bs} {st : St} (h : (nx s st).2 = true) : Sq s st (esc s st).2 := by
  have h1 := sq_adv h
  unfold esc; dsimp only
  split
  · exact h1.then (sp_fl (by decide) h1.len)
  · rename_i hn
    have h2 := sq_adv (s := s) (st := adv st) (by revert hn; cases (nx s (adv st)).2 <;> simp)
    split
    · exact h1.then h2.sp
    · split
      · exact h1.then h2.sp
      · split
        · rename_i hx
          refine h1.then ⟨?_, ?_, fun q => q⟩
          · show st.at_ + 1 ≤ st.at_ + 4; omega
          · show st.at_ + 4 ≤ s.length; omega
        · exact (h1.then h2.sp).then (sp_fl (by decide) h2.len)
theorem sq_chp {s : Bs} {st : St} (h0 : st.e = 0) (h : st.at_ ≤ s.length) : Sq s st (chp s st).2 := by
  unfold chp; split
  · rename_i hc; exact sq_esc hc.1
  · split
    · exact sq_fl (by decide) h0 h
    · rename_i hc
      refine sq_adv ?_
      have := (_root_.not_or.1 hc).1
      revert this; cases (nx s st).2 <;> simp
theorem sp_itR {s : Bs} {from_ at_ : Int} {a : S4} {k : Bool} {st : St} (h0 : st.e = 0) (h : st.at_ ≤ s.length) : Sp s st (itR s from_ a k at_ st).2 := by
  have h1 := sq_chp h0 h
  unfold itR; split
  · exact sp_fl (by decide) h
  · split
    · exact sp_fl (by decide) h
    · split
      · exact h1.sp
      · split
        · exact h1.sp.trans (sp_fl (by decide) h1.len)
        · exact h1.sp
theorem tk_e {s : Bs} {c : Nat} {st : St} (h : (tk s c st).1 = true) : (tk s c st).2.e = 0 := by
  obtain ⟨h1, h2⟩ := tk_yes h
  have := (nx_ok (s := s) (st := st) (by rw [h1])).1
  rw [h2]; exact this
theorem sq_itm {s : Bs} {from_ : Int} {st : St} (h0 : st.e = 0) (h : st.at_ ≤ s.length) : Sq s st (itm s from_ st).2 := by
  have h1 := sq_chp h0 h
  unfold itm; dsimp only; split
  · rename_i ht
    have h2 := sq_tk ht
    exact (h1.then h2.sp).then (sp_itR (tk_e ht) h2.len)
  · exact h1
theorem sp_clsF {s : Bs} {from_ : Int} : ∀ (f : Nat) (a : S4) (st : St), st.at_ ≤ s.length → Sp s st (clsF s from_ f a st).2
  | 0, a, st, h => Sp.refl h
  | f + 1, a, st, h => by
    rw [clsF]; split
    · exact Sp.refl h
    · rename_i h0
      split
      · exact sp_tk h
      · split
        · exact sp_fl (by decide) h
        · have h1 := sq_itm (from_ := from_) (Classical.byContradiction h0) h
          exact h1.sp.trans (sp_clsF f _ _ h1.len)
theorem sp_cls {s : Bs} {from_ : Int} {st : St} (h : st.at_ ≤ s.length) : Sp s st (cls s from_ st).2 := by
  have h1 := sp_tk (c := 94) h
  have h2 := sp_clsF (from_ := from_) (s.length + 2) s0 _ h1.len
  refine h1.trans (h2.trans ?_)
  have key : ∀ (p : Prop) [Decidable p] (r : St), r.at_ ≤ s.length → Sp s r (if p then fl 17 from_ r else r) := fun p _ r hr => by
    split
    · exact sp_fl (by decide) hr
    · exact Sp.refl hr
  exact key _ _ h2.len
/-- A way to read a tree within, from places that are not far from the end. -/
structure AOK (s : Bs) (n : Nat) (A : St → List Nd × St) : Prop where
  sp : ∀ st, st.at_ ≤ s.length → Mq s st < n → Sp s st (A st).2
  cnt : ∀ st, st.at_ ≤ s.length → Mq s st < n → (A st).1.length ≤ 2 * ((A st).2.at_ - st.at_) + 1
section
variable {s : Bs} {n : Nat} {A : St → List Nd × St}
theorem atm_ok (hA : AOK s n A) {st : St} (h : (nx s st).2 = true) (hn : Mq s st ≤ n) : Sq s st (atm A s st).2 ∧ (atm A s st).1.length ≤ 2 * ((atm A s st).2.at_ - st.at_) - 1 := by
  have h1 := sq_adv h
  have hadv : (adv st).at_ = st.at_ + 1 := rfl
  have one : ∀ {st' : St}, Sp s (adv st) st' → 1 ≤ 2 * (st'.at_ - st.at_) - 1 := fun k => by have := k.le; omega
  unfold atm; dsimp only
  split
  · have h2 := sq_esc h
    refine ⟨h2, ?_⟩
    have : st.at_ < (esc s st).2.at_ := by
      unfold esc; dsimp only; repeat' split
      all_goals first | (rw [fl_at]; show st.at_ < st.at_ + 1 ; omega) | (rw [fl_at]; show st.at_ < st.at_ + 1 + 1; omega) | (show st.at_ < st.at_ + 1 + 1; omega) | (show st.at_ < st.at_ + 4; omega)
    show 1 ≤ 2 * ((esc s st).2.at_ - st.at_) - 1
    omega
  · split
    · have h2 := hA.sp (adv st) h1.len (Nat.lt_of_lt_of_le h1.lt hn)
      have h3 := sp_cl (c := 41) (e := 16) (a := (st.at_ : Nat)) (by decide) h2.len
      have h4 := hA.cnt (adv st) h1.len (Nat.lt_of_lt_of_le h1.lt hn)
      have := h2.le
      have := h3.le
      exact ⟨h1.then (h2.trans h3), by show (A (adv st)).1.length ≤ 2 * ((clP s 41 16 (st.at_ : Nat) (A (adv st)).2).at_ - st.at_) - 1; omega⟩
    · split
      · have h2 := sp_cls (from_ := (st.at_ : Nat)) h1.len
        exact ⟨h1.then h2, one h2⟩
      · split
        · exact ⟨h1, one (Sp.refl h1.len)⟩
        · split
          · obtain ⟨h0, h5⟩ := nx_ok h
            exact ⟨sq_fl (by decide) h0 (by omega), by simp⟩
          · exact ⟨h1, one (Sp.refl h1.len)⟩
theorem jn_len (x : Nd) (ks : List (List Nd)) : (jn x ks).length = ks.flatten.length + 1 := rfl
theorem repF_ok : ∀ (f : Nat) (l : List Nd) (st : St), st.at_ ≤ s.length → Sp s st (repF s f l st).2 ∧ (repF s f l st).1.length ≤ l.length + 2 * ((repF s f l st).2.at_ - st.at_)
  | 0, l, st, h => ⟨Sp.refl h, by simp [repF]⟩
  | f + 1, l, st, h => by
    have step : ∀ (x : Nd) (st' : St), Sq s st st' → st.at_ < st'.at_ → Sp s st (repF s f (jn x [l]) st').2 ∧ (repF s f (jn x [l]) st').1.length ≤ l.length + 2 * ((repF s f (jn x [l]) st').2.at_ - st.at_) := fun x st' k hlt => by
      obtain ⟨h1, h2⟩ := repF_ok f (jn x [l]) st' k.len
      have h3 := h1.le
      rw [jn_len] at h2
      simp at h2
      exact ⟨k.sp.trans h1, by omega⟩
    have ok : (nx s st).1 ≠ 0 → (nx s st).2 = true := nx_c
    have hlt : st.at_ < (adv st).at_ := by show st.at_ < st.at_ + 1; omega
    rw [repF]
    split
    · exact step _ _ (sq_adv (ok (by omega))) hlt
    · split
      · exact step _ _ (sq_adv (ok (by omega))) hlt
      · split
        · exact step _ _ (sq_adv (ok (by omega))) hlt
        · split
          · have ho := ok (by omega)
            have h1 := sq_adv ho
            have h2 := sp_num h1.len
            have h3 := sp_hi (low := (num s (adv st)).1) h2.len
            have h4 := sp_cl (c := 125) (e := 15) (a := ((hiP s (num s (adv st)).1 (num s (adv st)).2).2.at_ : Nat)) (by decide) h3.len
            refine step _ _ (sq_tms ho) ?_
            have e : (tms s st).2.at_ = (clP s 125 15 ((hiP s (num s (adv st)).1 (num s (adv st)).2).2.at_ : Nat) (hiP s (num s (adv st)).1 (num s (adv st)).2).2).at_ := by
              unfold tms; dsimp only; split
              · rfl
              · exact fl_at _ _ _
            rw [e]
            have := h2.le; have := h3.le; have := h4.le
            omega
          · exact ⟨Sp.refl h, by simp⟩
theorem rep_ok (hA : AOK s n A) {st : St} (h : (nx s st).2 = true) (hn : Mq s st ≤ n) : Sq s st (rep A s st).2 ∧ (rep A s st).1.length ≤ 2 * ((rep A s st).2.at_ - st.at_) - 1 ∨ Sq s st (rep A s st).2 ∧ (rep A s st).1.length ≤ 2 * ((rep A s st).2.at_ - st.at_) ∧ (rep A s st).2.e ≠ 0 := by
  obtain ⟨h1, h2⟩ := atm_ok hA h hn
  obtain ⟨h3, h4⟩ := repF_ok (s := s) (s.length + 2) (atm A s st).1 (atm A s st).2 h1.len
  have h5 := h3.le
  have h6 := h1.le
  by_cases hlt : (atm A s st).2.at_ = st.at_
  · refine .inr ⟨h1.then h3, ?_, ?_⟩
    · show (repF s (s.length + 2) (atm A s st).1 (atm A s st).2).1.length ≤ 2 * ((repF s (s.length + 2) (atm A s st).1 (atm A s st).2).2.at_ - st.at_)
      omega
    · refine h3.err (fun he => ?_)
      have h7 := h1.lt
      unfold Mq at h7
      rw [if_neg (by rw [he]; simp), hlt] at h7
      split at h7 <;> omega
  · refine .inl ⟨h1.then h3, ?_⟩
    show (repF s (s.length + 2) (atm A s st).1 (atm A s st).2).1.length ≤ 2 * ((repF s (s.length + 2) (atm A s st).1 (atm A s st).2).2.at_ - st.at_) - 1
    omega
end
end Go.Proofs.YtcandjdomeompaaDoor
