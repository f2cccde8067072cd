/- Plain laws: what is read is a right tree; where an error lies. -/
import Derived.Test.YtcandjdomeompaaDoorTH
namespace Go.Proofs.YtcandjdomeompaaDoor
open Go.SX Go.Chr
set_option linter.unusedVariables false
set_option linter.unusedSimpArgs false
/-! ### where an error lies -/
def Br (s : Bs) (st : St) : Prop := st.e = 0 ∨ (0 ≤ st.bad ∧ st.bad ≤ s.length)
section
variable {s : Bs}
theorem br_fl {e a : Int} {st : St} (h : Br s st) (ha : 0 ≤ a ∧ a ≤ s.length) : Br s (fl e a st) := by
  unfold fl; split
  · exact .inr ha
  · exact h
theorem br_adv {st : St} (h : Br s st) : Br s (adv st) := h
theorem br_tk {c : Nat} {st : St} (h : Br s st) : Br s (tk s c st).2 := by
  unfold tk; split
  · exact h
  · exact h
theorem br_numF : ∀ (f i : Nat) (n : Int) (st : St), st.at_ ≤ s.length → Br s st → Br s (numF s f i n st).2
  | 0, _, _, st, h, hb => hb
  | f + 1, i, n, st, h, hb => by
    rw [numF]; split
    · rename_i hd
      exact br_numF f _ _ _ (sq_adv (dg_pos hd)).len hb
    · show Br s (if i = 0 then _ else _)
      split
      · exact br_fl hb ⟨by omega, by omega⟩
      · exact hb
theorem br_num {st : St} (h : st.at_ ≤ s.length) (hb : Br s st) : Br s (num s st).2 := br_numF _ _ _ _ h hb
theorem br_hi {low : Int} {st : St} (h : st.at_ ≤ s.length) (hb : Br s st) : Br s (hiP s low st).2 := by
  have h1 := sp_tk (c := 44) h
  unfold hiP; split
  · split
    · exact br_tk hb
    · exact br_num h1.len (br_tk hb)
  · exact br_tk hb
theorem br_cl {c : Nat} {e a : Int} {st : St} (hb : Br s st) (ha : 0 ≤ a ∧ a ≤ s.length) : Br s (clP s c e a st) := by
  unfold clP; split
  · exact br_tk hb
  · exact br_fl (br_tk hb) ha
theorem br_tms {st : St} (h : (nx s st).2 = true) (hb : Br s st) : Br s (tms s st).2 := by
  have h0 := (nx_ok h).2
  have h1 := sq_adv h
  have h2 := sp_num h1.len
  have h3 := sp_hi (low := (num s (adv st)).1) h2.len
  have b3 : Br s (hiP s (num s (adv st)).1 (num s (adv st)).2).2 := br_hi h2.len (br_num h1.len hb)
  have b4 : Br s (clP s 125 15 ((hiP s (num s (adv st)).1 (num s (adv st)).2).2.at_ : Nat) (hiP s (num s (adv st)).1 (num s (adv st)).2).2) := br_cl b3 ⟨by omega, by have := h3.len; omega⟩
  unfold tms; dsimp only; split
  · exact b4
  · exact br_fl b4 ⟨by omega, by omega⟩
theorem br_esc {st : St} (h : (nx s st).2 = true) (hb : Br s st) : Br s (esc s st).2 := by
  have h0 := (nx_ok h).2
  unfold esc; dsimp only
  split
  · exact br_fl hb ⟨by omega, by omega⟩
  · split
    · exact hb
    · split
      · exact hb
      · split
        · exact hb
        · exact br_fl hb ⟨by omega, by omega⟩
theorem br_chp {st : St} (h : st.at_ ≤ s.length) (hb : Br s st) : Br s (chp s st).2 := by
  unfold chp; split
  · rename_i hc; exact br_esc hc.1 hb
  · split
    · exact br_fl hb ⟨by omega, by omega⟩
    · exact hb
theorem br_itR {from_ at_ : Int} {a : S4} {k : Bool} {st : St} (h : st.at_ ≤ s.length) (hf : 0 ≤ from_ ∧ from_ ≤ s.length) (ha : 0 ≤ at_ ∧ at_ ≤ s.length) (hb : Br s st) : Br s (itR s from_ a k at_ st).2 := by
  have h1 := br_chp h hb
  unfold itR; split
  · exact br_fl hb hf
  · split
    · exact br_fl hb ⟨by omega, by omega⟩
    · split
      · exact h1
      · split
        · exact br_fl h1 ha
        · exact h1
theorem br_itm {from_ : Int} {st : St} (h0 : st.e = 0) (h : st.at_ ≤ s.length) (hf : 0 ≤ from_ ∧ from_ ≤ s.length) (hb : Br s st) : Br s (itm s from_ st).2 := by
  have h1 := br_chp h hb
  have h2 := (sq_chp h0 h).len
  unfold itm; dsimp only; split
  · rename_i ht
    exact br_itR (sq_tk ht).len hf ⟨by omega, by omega⟩ (br_tk h1)
  · exact h1
theorem br_clsF {from_ : Int} (hf : 0 ≤ from_ ∧ from_ ≤ s.length) : ∀ (f : Nat) (a : S4) (st : St), st.at_ ≤ s.length → Br s st → Br s (clsF s from_ f a st).2
  | 0, a, st, h, hb => hb
  | f + 1, a, st, h, hb => by
    rw [clsF]; split
    · exact hb
    · rename_i h0
      split
      · exact br_tk hb
      · split
        · exact br_fl hb hf
        · have h1 := sq_itm (from_ := from_) (Classical.byContradiction h0) h
          exact br_clsF hf f _ _ h1.len (br_itm (Classical.byContradiction h0) h hf hb)
theorem br_cls {from_ : Int} (hf : 0 ≤ from_ ∧ from_ ≤ s.length) {st : St} (h : st.at_ ≤ s.length) (hb : Br s st) : Br s (cls s from_ st).2 := by
  have h1 := sp_tk (c := 94) h
  have h2 := br_clsF hf (s.length + 2) s0 _ h1.len (br_tk hb)
  have key : ∀ (p : Prop) [Decidable p] (r : St), Br s r → Br s (if p then fl 17 from_ r else r) := fun p _ r hr => by
    split
    · exact br_fl hr hf
    · exact hr
  exact key _ _ h2
end
/-! ### right trees -/
def Good (l : List Nd) : Prop := ∃ t, l = flat t ∧ Rt t
theorem good_rows : ∀ {ls : List (List Nd)}, (∀ l ∈ ls, Good l) → ∃ ts : List T, ls = ts.map flat ∧ wfs ts ∧ ∀ y ∈ flats ts, rtP y
  | [], _ => ⟨[], rfl, trivial, fun y hy => by simp [flats] at hy⟩
  | l :: r, h => by
    obtain ⟨t, e, hR⟩ := h l (by simp)
    obtain ⟨ts, e2, hw, hr⟩ := good_rows (ls := r) (fun m hm => h m (by simp [hm]))
    refine ⟨t :: ts, by rw [e, e2]; rfl, ⟨hR.wf, hw⟩, fun y hy => ?_⟩
    rw [flats] at hy
    rcases List.mem_append.1 hy with hy | hy
    · exact hR.rt y hy
    · exact hr y hy
theorem good_jn {x : Nd} {ls : List (List Nd)} (h : ∀ l ∈ ls, Good l) (hx : rtP ⟨x.kind, (ls.length : Nat), x.set, x.low, x.high⟩) : Good (jn x ls) := by
  obtain ⟨ts, e, hw, hr⟩ := good_rows h
  have hl : ls.length = ts.length := by rw [e]; simp
  refine ⟨.nd ⟨x.kind, (ls.length : Nat), x.set, x.low, x.high⟩ ts, ?_, ⟨⟨by rw [hl], hw⟩, fun y hy => ?_⟩⟩
  · rw [jn, flat, ← map_flats, ← e]
  · rw [flat] at hy
    rcases List.mem_cons.1 hy with hy | hy
    · rw [hy]; exact hx
    · exact hr y hy
theorem good_set {a : S4} (h : a ≠ s0) : Good (setN a) :=
  good_jn (x := ⟨1, 0, a, 0, 0⟩) (ls := []) (fun l hl => absurd hl (by simp)) (.inl ⟨rfl, rfl, h, rfl, rfl⟩)
theorem good_fin {k : Int} (hk : k = 3 ∨ k = 4) : ∀ {ls : List (List Nd)}, (∀ l ∈ ls, Good l) → Good (fin k ls)
  | [], h => good_jn h (.inr (.inl ⟨rfl, rfl, rfl, rfl, rfl⟩))
  | [x], h => h x (by simp)
  | x :: y :: l, h => good_jn h (.inr (.inr (.inl ⟨hk, by show (2 : Int) ≤ ((l.length + 2 : Nat) : Int); omega, rfl, rfl, rfl⟩)))
theorem rg_ne {x y : Nat} (h : x ≤ y) (hx : x < 256) : sRg x y ≠ s0 := fun e => by
  have h1 := bt_rg (x := x) (y := y) (c := x) hx
  rw [e, show bt s0.1 x = false from bt_z4 x hx] at h1
  simp at h1; omega
theorem dg_lt {c : Nat} (h : dgO c 16 = true) : (dgN c).toNat < 16 := by
  unfold dgO at h
  have := of_decide_eq_true h
  omega
section
variable {s : Bs}
theorem fl_zero {e a : Int} {st : St} (he : e ≠ 0) (h : (fl e a st).e = 0) : False := fl_err he h
theorem esc_ne {st : St} (h : (nx s st).2 = true) (h0 : (esc s st).2.e = 0) : (esc s st).1.1 ≠ s0 := by
  unfold esc at h0 ⊢; dsimp only at h0 ⊢
  have hc := nx_lt (s := s) (st := adv st)
  split at h0
  · exact (fl_zero (by decide) h0).elim
  · rename_i c1
    rw [if_neg c1]
    split at h0
    · rename_i c2
      rw [if_pos c2]
      unfold kds at c2 ⊢
      split
      · exact rg_ne (by decide) (by decide)
      · rename_i c3
        split
        · show sOr (sRg 95 95) (sOr (sRg 48 57) (sOr (sRg 97 122) (sRg 65 90))) ≠ s0
          decide +kernel
        · rename_i c4; rw [if_neg c3, if_neg c4] at c2; cases c2
    · rename_i c2
      rw [if_neg c2]
      split at h0
      · rename_i c3
        rw [if_pos c3]
        refine rg_ne (Nat.le_refl _) ?_
        unfold nmd
        repeat' split
        all_goals first | decide | exact hc
      · rename_i c3
        rw [if_neg c3]
        split at h0
        · rename_i c4
          rw [if_pos c4]
          refine rg_ne (Nat.le_refl _) ?_
          have h1 := dg_lt c4.2.2.1
          have h2 : (dgN (s.getD (st.at_ + 2 + 1) 0).toNat).toNat < 16 := dg_lt c4.2.2.2
          unfold hxV; omega
        · exact (fl_zero (by decide) h0).elim
theorem cls_ne {from_ : Int} {st : St} (h0 : (cls s from_ st).2.e = 0) : (cls s from_ st).1 ≠ s0 := by
  intro h
  have key : ∀ (a : S4) (r : St), a = s0 → (if a = s0 then fl 17 from_ r else r).e = 0 → False := fun a r ha h => by
    rw [if_pos ha] at h; exact fl_zero (by decide) h
  exact key _ _ h h0
structure AG (s : Bs) (n : Nat) (A : St → List Nd × St) : Prop where
  br : ∀ st, st.at_ ≤ s.length → Mq s st < n → Br s st → Br s (A st).2
  gd : ∀ st, st.at_ ≤ s.length → Mq s st < n → (A st).2.e = 0 → Good (A st).1
variable {n : Nat} {A : St → List Nd × St}
theorem br_atm (hA : AOK s n A) (hG : AG s n A) {st : St} (h : (nx s st).2 = true) (hn : Mq s st ≤ n) (hb : Br s st) : Br s (atm A s st).2 := by
  have h1 := sq_adv h
  have h0 := (nx_ok h).2
  unfold atm; dsimp only
  split
  · exact br_esc h hb
  · split
    · exact br_cl (hG.br _ h1.len (Nat.lt_of_lt_of_le h1.lt hn) hb) ⟨by omega, by omega⟩
    · split
      · exact br_cls ⟨by omega, by omega⟩ h1.len hb
      · split
        · exact hb
        · split
          · exact br_fl hb ⟨by omega, by omega⟩
          · exact hb
theorem gd_atm (hA : AOK s n A) (hG : AG s n A) {st : St} (h : (nx s st).2 = true) (hn : Mq s st ≤ n) (he : (atm A s st).2.e = 0) : Good (atm A s st).1 := by
  have h1 := sq_adv h
  have h0 := (nx_ok h).2
  unfold atm at he ⊢; dsimp only at he ⊢
  split at he
  · rename_i c1; rw [if_pos c1]; exact good_set (esc_ne h he)
  · rename_i c1; rw [if_neg c1]
    split at he
    · rename_i c2; rw [if_pos c2]
      have h2 := hA.sp (adv st) h1.len (Nat.lt_of_lt_of_le h1.lt hn)
      refine hG.gd _ h1.len (Nat.lt_of_lt_of_le h1.lt hn) (Classical.byContradiction fun hq => ?_)
      exact (sp_cl (s := s) (c := 41) (e := 16) (a := ((st.at_ : Nat) : Int)) (by decide) h2.len).err hq he
    · rename_i c2; rw [if_neg c2]
      split at he
      · rename_i c3; rw [if_pos c3]; exact good_set (cls_ne he)
      · rename_i c3; rw [if_neg c3]
        split at he
        · rename_i c4; rw [if_pos c4]; exact good_set (by decide +kernel)
        · rename_i c4; rw [if_neg c4]
          split at he
          · exact (fl_zero (by decide) he).elim
          · rename_i c5; rw [if_neg c5]; exact good_set (rg_ne (Nat.le_refl _) nx_lt)
theorem tms_rt {st : St} (h0 : (tms s st).2.e = 0) : rtP ⟨(tms s st).1.kind, ((1 : Nat) : Int), (tms s st).1.set, (tms s st).1.low, (tms s st).1.high⟩ := by
  unfold tms at h0 ⊢; dsimp only at h0 ⊢
  split at h0
  · rename_i hc
    unfold cntV at hc
    have := of_decide_eq_true hc
    unfold rtP; dsimp only
    exact .inr (.inr (.inr (.inr ⟨rfl, rfl, rfl, this.1, this.2.1, this.2.2⟩)))
  · exact (fl_zero (by decide) h0).elim
theorem repF_gd : ∀ (f : Nat) (l : List Nd) (st : St), st.at_ ≤ s.length → Br s st → (st.e = 0 → Good l) → Br s (repF s f l st).2 ∧ ((repF s f l st).2.e = 0 → Good (repF s f l st).1)
  | 0, l, st, h, hb, hl => ⟨hb, hl⟩
  | f + 1, l, st, h, hb, hl => by
    have step : ∀ (x : Nd) (st' : St), Sq s st st' → Br s st' → (st'.e = 0 → rtP ⟨x.kind, ((1 : Nat) : Int), x.set, x.low, x.high⟩) → Br s (repF s f (jn x [l]) st').2 ∧ ((repF s f (jn x [l]) st').2.e = 0 → Good (repF s f (jn x [l]) st').1) := fun x st' k hb' hx => by
      refine repF_gd f (jn x [l]) st' k.len hb' (fun he => good_jn (fun m hm => ?_) (hx he))
      obtain rfl := List.mem_singleton.1 hm
      exact hl (Classical.byContradiction fun hq => k.err hq he)
    have ok : (nx s st).1 ≠ 0 → (nx s st).2 = true := nx_c
    have op : ∀ k : Int, k = 5 ∨ k = 6 ∨ k = 7 → rtP ⟨k, ((1 : Nat) : Int), s0, 0, 0⟩ := fun k hk => .inr (.inr (.inr (.inl ⟨hk, rfl, rfl, rfl, rfl⟩)))
    rw [repF]
    split
    · exact step _ _ (sq_adv (ok (by omega))) hb (fun _ => op 5 (by omega))
    · split
      · exact step _ _ (sq_adv (ok (by omega))) hb (fun _ => op 6 (by omega))
      · split
        · exact step _ _ (sq_adv (ok (by omega))) hb (fun _ => op 7 (by omega))
        · split
          · have ho := ok (by omega)
            exact step _ _ (sq_tms ho) (br_tms ho hb) tms_rt
          · exact ⟨hb, hl⟩
theorem rep_gd (hA : AOK s n A) (hG : AG s n A) {st : St} (h : (nx s st).2 = true) (hn : Mq s st ≤ n) (hb : Br s st) : Br s (rep A s st).2 ∧ ((rep A s st).2.e = 0 → Good (rep A s st).1) :=
  repF_gd _ _ _ (atm_ok hA h hn).1.len (br_atm hA hG h hn hb) (gd_atm hA hG h hn)
theorem rep_sq (hA : AOK s n A) {st : St} (h : (nx s st).2 = true) (hn : Mq s st ≤ n) : Sq s st (rep A s st).2 := (rep_ok hA h hn).elim (·.1) (·.1)
theorem good_snoc {l : List (List Nd)} {x : List Nd} {p q : St} (h : p.e = 0 → ∀ y ∈ l, Good y) (hx : q.e = 0 → Good x) (hs : p.e ≠ 0 → q.e ≠ 0) : q.e = 0 → ∀ y ∈ l ++ [x], Good y := fun he y hy => by
  rcases List.mem_append.1 hy with hy | hy
  · exact h (Classical.byContradiction fun hq => hs hq he) y hy
  · rw [List.mem_singleton.1 hy]; exact hx he
theorem cat_gdr (hA : AOK s n A) (hG : AG s n A) : ∀ (f : Nat) (l : List (List Nd)) (st : St), st.at_ ≤ s.length → Mq s st ≤ n → Br s st → (st.e = 0 → ∀ x ∈ l, Good x) →
    Br s (rwF (fun st => (inS s st, st)) (rep A s) f l st).2 ∧ ((rwF (fun st => (inS s st, st)) (rep A s) f l st).2.e = 0 → ∀ x ∈ (rwF (fun st => (inS s st, st)) (rep A s) f l st).1, Good x)
  | 0, l, st, h, hn, hb, hl => ⟨hb, hl⟩
  | f + 1, l, st, h, hn, hb, hl => by
    rw [rwF]
    by_cases hi : inS s st = true
    · rw [if_pos hi]
      have h1 := rep_sq hA (inS_ok hi) hn
      obtain ⟨h2, h3⟩ := rep_gd hA hG (inS_ok hi) hn hb
      exact cat_gdr hA hG f _ _ h1.len (Nat.le_trans (Nat.le_of_lt h1.lt) hn) h2 (good_snoc hl h3 h1.err)
    · rw [if_neg hi]; exact ⟨hb, hl⟩
theorem cat_gd (hA : AOK s n A) (hG : AG s n A) {st : St} (h : st.at_ ≤ s.length) (hn : Mq s st ≤ n) (hb : Br s st) : Br s (cat A s st).2 ∧ ((cat A s st).2.e = 0 → Good (cat A s st).1) := by
  obtain ⟨h1, h2⟩ := cat_gdr hA hG (s.length + 2) [] st h hn hb (fun _ x hx => absurd hx (by simp))
  exact ⟨h1, fun he => good_fin (.inl rfl) (h2 he)⟩
theorem alt_gdr (hA : AOK s n A) (hG : AG s n A) : ∀ (f : Nat) (l : List (List Nd)) (st : St), st.at_ ≤ s.length → Mq s st ≤ n → Br s st → (st.e = 0 → ∀ x ∈ l, Good x) →
    Br s (rwF (moA s) (paA A s) f l (false, st)).2.2 ∧ ((rwF (moA s) (paA A s) f l (false, st)).2.2.e = 0 → ∀ x ∈ (rwF (moA s) (paA A s) f l (false, st)).1, Good x)
  | 0, l, st, h, hn, hb, hl => ⟨hb, hl⟩
  | f + 1, l, st, h, hn, hb, hl => by
    have em : moA s (false, st) = ((tk s 124 st).1, (false, (tk s 124 st).2)) := rfl
    rw [rwF, em]
    dsimp only
    by_cases ht : (tk s 124 st).1 = true
    · rw [if_pos ht]
      have h1 := sq_tk ht
      have ep : paA A s (false, (tk s 124 st).2) = ((cat A s (tk s 124 st).2).1, (false, (cat A s (tk s 124 st).2).2)) := rfl
      rw [ep]
      dsimp only
      have hM := Nat.le_trans (Nat.le_of_lt h1.lt) hn
      have h2 := (cat_ok hA h1.len hM).1
      obtain ⟨h4, h5⟩ := cat_gd hA hG h1.len hM (br_tk hb)
      exact alt_gdr hA hG f _ _ h2.len (Nat.le_trans h2.M hM) h4 (good_snoc hl h5 (h1.sp.trans h2).err)
    · rw [if_neg ht]
      refine ⟨br_tk hb, fun he => hl (Classical.byContradiction fun hq => (sp_tk (c := 124) h).err hq he)⟩
theorem alt_gd (hA : AOK s n A) (hG : AG s n A) {st : St} (h : st.at_ ≤ s.length) (hn : Mq s st ≤ n) (hb : Br s st) : Br s (alt A s st).2 ∧ ((alt A s st).2.e = 0 → Good (alt A s st).1) := by
  have c1 := (cat_ok hA h hn).1
  obtain ⟨c2, c3⟩ := cat_gd hA hG h hn hb
  have hr : alt A s st = (fin 4 (rwF (moA s) (paA A s) (s.length + 3) [] (true, st)).1, (rwF (moA s) (paA A s) (s.length + 3) [] (true, st)).2.2) := rfl
  rw [hr, alt_first (s := s) (A := A) (s.length + 2) st]
  obtain ⟨h1, h2⟩ := alt_gdr hA hG (s.length + 2) [(cat A s st).1] (cat A s st).2 c1.len (Nat.le_trans c1.M hn) c2 (fun he x hx => by rw [List.mem_singleton.1 hx]; exact c3 he)
  exact ⟨h1, fun he => good_fin (.inr rfl) (h2 he)⟩
end
theorem altN_gd (s : Bs) : ∀ n st, st.at_ ≤ s.length → Mq s st < n → Br s st → Br s (altN s n st).2 ∧ ((altN s n st).2.e = 0 → Good (altN s n st).1)
  | 0, st, _, h, _ => absurd h (by omega)
  | n + 1, st, h, hn, hb => by
    exact alt_gd (altN_ok s n) ⟨fun st h hn hb => (altN_gd s n st h hn hb).1, fun st h hn he => by
      have h0 : st.e = 0 := Classical.byContradiction fun hq => ((altN_ok s n).sp st h hn).err hq he
      exact (altN_gd s n st h hn (.inl h0)).2 he⟩ h (by omega) hb
/-- What is read is a right tree; or there is an error, and its place is in the text. -/
theorem prs_law {s : Bs} {l : List Nd} {e b : Int} (h : prs s = (l, e, b)) : (e = 0 → chkV l = 0 ∧ b = 0) ∧ (e ≠ 0 → l = [] ∧ 0 ≤ b ∧ b ≤ s.length) := by
  by_cases h5 : 512 < s.length
  · rw [parse_1 h5] at h
    cases h
    exact ⟨fun h => absurd h (by decide), fun _ => ⟨rfl, by decide, by omega⟩⟩
  · obtain ⟨r, st, eA⟩ : ∃ r st, altN s (s.length + 2) ⟨0, 0, 0⟩ = (r, st) := ⟨_, _, rfl⟩
    have hs := (altN_ok s (s.length + 2)).sp ⟨0, 0, 0⟩ (Nat.zero_le _) (by unfold Mq; split <;> omega)
    obtain ⟨h1, h2⟩ := altN_gd s (s.length + 2) ⟨0, 0, 0⟩ (Nat.zero_le _) (by unfold Mq; split <;> omega) (.inl rfl)
    rw [eA] at h1 h2 hs
    dsimp only at h1 h2
    have hsl := hs.len
    dsimp only at hsl
    have hb1 : Br s (prsE s st) := by
      unfold prsE; split
      · exact br_fl h1 ⟨by omega, by omega⟩
      · exact h1
    by_cases h3 : (prsE s st).e ≠ 0
    · rw [parse_2 h5 eA rfl h3] at h
      cases h
      exact ⟨fun h => absurd h h3, fun _ => ⟨rfl, hb1.elim (fun q => absurd q h3) id⟩⟩
    · by_cases h4 : 400 < r.length
      · rw [parse_3 h5 eA rfl h3 h4] at h
        cases h
        exact ⟨fun h => absurd h (by decide), fun _ => ⟨rfl, by decide, by omega⟩⟩
      · rw [parse_4 h5 eA rfl h3 h4] at h
        cases h
        refine ⟨fun _ => ⟨?_, rfl⟩, fun h => absurd rfl h⟩
        have h6 : st.e = 0 := by
          unfold prsE at h3
          split at h3
          · exact absurd (fl_err (by decide)) h3
          · exact Classical.byContradiction h3
        obtain ⟨t, e, hR⟩ := h2 h6
        rw [e] at h4 ⊢
        exact chk_of hR (by omega)
end Go.Proofs.YtcandjdomeompaaDoor
