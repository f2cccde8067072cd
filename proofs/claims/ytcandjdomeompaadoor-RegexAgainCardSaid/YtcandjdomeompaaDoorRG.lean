/- The walks: rows of parts, alternatives, a whole expression. -/
import Derived.Test.YtcandjdomeompaaDoorRF
namespace Go.Proofs.YtcandjdomeompaaDoor
open Go.SX Go.Chr
attribute [local irreducible] X E N Ct
set_option linter.unusedVariables false
set_option linter.unusedSimpArgs false
/-- What stands ahead of a part. -/
structure CV (s : Bs) (n : Nat) (st : St) : Prop where
  at_ : st.at_ ≤ s.length
  m : Mq s st ≤ n
structure CI (s : Bs) (p : Nat) (st : St) (H : Heap) : Prop where
  ph : PH p s st H
  tab : Tab H
theorem CI.keepN {s : Bs} {p : Nat} {st : St} {H H' : Heap} {B : List Nat} (h : CI s p st H) (hk : Kp B H H') (hp : p ∉ B) (h0 : 0 ∉ B) : CI s p st H' := by
  obtain ⟨ct, fz, ht⟩ := h.tab
  exact ⟨hk.keep h.ph hp, ct, fz, hk.keep ht h0⟩
theorem parse_1 {s : Bs} (h : 512 < s.length) : prs s = ([], 3, 512) := by unfold prs; rw [if_pos h]
section
variable {s : Bs} {l : List Nd} {st st1 : St}
def prsE (s : Bs) (st : St) : St := if (nx s st).2 then fl 15 (st.at_ : Nat) st else st
theorem parse_2 (h : ¬ 512 < s.length) (h1 : altN s (s.length + 2) ⟨0, 0, 0⟩ = (l, st)) (h2 : prsE s st = st1) (he : st1.e ≠ 0) : prs s = ([], st1.e, st1.bad) := by
  unfold prs; rw [if_neg h]; simp only [h1]
  show (if (prsE s st).e ≠ 0 then _ else _) = _
  rw [h2, if_pos he]
  show (([] : List Nd), (prsE s st).e, (prsE s st).bad) = _
  rw [h2]
theorem parse_3 (h : ¬ 512 < s.length) (h1 : altN s (s.length + 2) ⟨0, 0, 0⟩ = (l, st)) (h2 : prsE s st = st1) (he : ¬ st1.e ≠ 0) (hl : 400 < l.length) : prs s = ([], 3, 0) := by
  unfold prs; rw [if_neg h]; simp only [h1]
  show (if (prsE s st).e ≠ 0 then _ else _) = _
  rw [h2, if_neg he, if_pos hl]
theorem parse_4 (h : ¬ 512 < s.length) (h1 : altN s (s.length + 2) ⟨0, 0, 0⟩ = (l, st)) (h2 : prsE s st = st1) (he : ¬ st1.e ≠ 0) (hl : ¬ 400 < l.length) : prs s = (l, 0, 0) := by
  unfold prs; rw [if_neg h]; simp only [h1]
  show (if (prsE s st).e ≠ 0 then _ else _) = _
  rw [h2, if_neg he, if_neg hl]
end

theorem cat_ct (s : Bs) (n : Nat) (A : St → List Nd × St) (hA : AC s n A) (hOK : AOK s n A) (p : Nat) (st : St) (H : Heap) (hP0 : PH p s st H) (hs : s.length ≤ 1000) (hT : Tab H) (hp0 : p ≠ 0) (hat : st.at_ ≤ s.length) (hn : Mq s st ≤ n) : Ct Tryd.prog 36 #[ptr p] H (RetN p s H (cat A s st)) := by
  refine Ct.into 8 Tryd.func36 rfl [(0, ptr p)] rfl ⟨rfl, trivial⟩ ?_
  refine E.seq ?_
  refine E.region ?_
  refine X.asg rfl rfl rfl rfl rfl ?_
  refine X.done [(0, _), (2, _)] ⟨rfl, rfl, trivial⟩ ?_
  refine N.then ?_
  refine E.seq ?_
  refine E.region ?_
  refine X.mv rfl rfl rfl rfl rfl ?_
  refine X.fn rfl rfl rfl rfl rfl rfl ?_
  refine X.mv rfl rfl rfl rfl rfl ?_
  refine X.fn rfl rfl rfl rfl rfl rfl ?_
  refine X.call rfl rfl rfl rfl rfl Tryd.cl33 (row_ct (fun st => (inS s st, st)) (rep A s) (CI s p) (CV s n) (Mq s) [p] 3 47 48 [ptr p] [] [ptr p] [] H Tryd.cl47 Tryd.cl48
      (fun g H' hV hI hk => (inside_ct s p g H' hI.ph).mono fun v H'' ⟨h1, h2⟩ => by subst h2; exact ⟨h1, hI, Kp.refl _ _⟩)
      (fun g H' hV hi hI hk => (rep_ct s n A hA hOK p g H' hI.ph hs hI.tab hp0 (inS_ok hi) hV.m).mono fun v H'' ⟨h1, h2, h3⟩ => ⟨h1, ⟨h2, tab_keep hI.tab hp0 h3⟩, h3⟩)
      (fun g hV hi => by
        have h1 := rep_ok hOK (inS_ok hi) hV.m
        have h2 : Sq s g (rep A s g).2 := h1.elim (fun h => h.1) (fun h => h.1)
        exact ⟨⟨h2.len, Nat.le_trans (Nat.le_of_lt h2.lt) hV.m⟩, h2.lt⟩)
      (by simp; exact lt_of hP0) (fun g H1 H2 B hI hk hB => hI.keepN hk (fun h => absurd (hB _ h) (by have := lt_of hP0; omega)) (fun h => absurd (hB _ h) (by have := tab0 hT; omega)))
      st (s.length + 2) ⟨hat, hn⟩ ⟨hP0, hT⟩ (by unfold Mq; split <;> omega) (by have := cat_bd hOK hat hn; omega)) ?_
  rintro v H1 ⟨h1, h2, h3⟩
  refine X.asg rfl rfl rfl rfl rfl ?_
  refine X.done [(2, _)] ⟨rfl, trivial⟩ ?_
  refine N.then ?_
  refine E.ret ?_
  exact N.retH [_] ⟨_, _, rfl, rfl, rfl⟩ ⟨h1, h2.ph, h3⟩

theorem more_ct (s : Bs) (p fc pc n : Nat) (q : Bool × St) (H : Heap) (hI : AI s p fc pc n q H) (hs : s.length ≤ 1000) (hne : p ≠ fc) (hne2 : pc ≠ p ∧ pc ≠ fc) (hp0 : p ≠ 0) (hf0 : fc ≠ 0) : Ct Tryd.prog 34 #[ptr fc, ptr pc] H fun v H' => v = .bool (moA s q).1 ∧ AI s p fc pc n (moA s q).2 H' ∧ Kp [p, fc] H H' := by
  obtain ⟨fst, st⟩ := q
  obtain ⟨hP, hf, hq, hT⟩ := hI
  dsimp only at hP hf
  have hkk := Kp.refl [p, fc] H
  refine Ct.into 10 Tryd.func34 rfl [(0, ptr fc), (1, ptr pc)] rfl ⟨rfl, rfl, trivial⟩ ?_
  refine E.seq ?_
  refine E.region ?_
  refine X.asg rfl rfl rfl rfl rfl ?_
  refine X.done [(0, _), (1, _), (2, _)] ⟨rfl, rfl, rfl, trivial⟩ ?_
  refine N.then ?_
  refine E.seq ?_
  refine E.region ?_
  refine X.ld rfl rfl rfl rfl Tryd.ag4 (hf) (rfl) ?_
  cases fst
  · refine X.mv rfl rfl rfl rfl rfl ?_
    refine X.ld rfl rfl rfl rfl Tryd.ag45 (hq) (rfl) ?_
    refine X.call rfl rfl rfl rfl rfl Tryd.cl35 (take3_ct s p 124 st _ hP hs) ?_
    rintro _ H1 ⟨b, st1, et, rfl, hPn, hk1⟩
    replace hP := hPn
    replace hf := hk1.keep hf (by simp; exact fun h => hne h.symm)
    replace hq := hk1.keep hq (by simp; exact hne2.1)
    replace hT := tab_keep hT hp0 hk1
    replace hkk := hkk.trans hk1 (by simp)
    refine X.pickF rfl rfl rfl rfl rfl rfl ?_
    refine X.asg rfl rfl rfl rfl rfl ?_
    refine X.done [(0, _), (2, _), (3, _)] ⟨rfl, rfl, rfl, trivial⟩ ?_
    refine N.then ?_
    refine E.seq ?_
    refine E.region ?_
    refine X.st rfl rfl rfl rfl rfl rfl rfl Tryd.sz4 hf (by show 0 < 1; omega) ?_
    intro H2 hf2 hk2
    replace hP := hk2.keep hP (by simp; exact hne)
    replace hq := hk2.keep hq (by simp; exact hne2.2)
    replace hT := tab_keep hT hf0 hk2
    replace hkk := hkk.trans hk2 (by simp)
    refine X.done [(2, _), (3, _)] ⟨rfl, rfl, trivial⟩ ?_
    refine N.then ?_
    refine E.seq ?_
    refine E.region ?_
    refine X.mv rfl rfl rfl rfl rfl ?_
    refine X.asg rfl rfl rfl rfl rfl ?_
    refine X.done [(2, _)] ⟨rfl, trivial⟩ ?_
    refine N.then ?_
    refine E.ret ?_
    first
      | (rw [moA_t]; exact N.retH [_] ⟨_, _, rfl, rfl, rfl⟩ ⟨rfl, ⟨hP, hf2, hq, hT⟩, hkk⟩)
      | (rw [moA_f et]; exact N.retH [_] ⟨_, _, rfl, rfl, rfl⟩ ⟨rfl, ⟨hP, hf2, hq, hT⟩, hkk⟩)
  · refine X.mv rfl rfl rfl rfl rfl ?_
    refine X.skip rfl rfl rfl ?_
    refine X.skip rfl rfl rfl ?_
    refine X.pickT rfl rfl rfl rfl rfl rfl ?_
    refine X.asg rfl rfl rfl rfl rfl ?_
    refine X.done [(0, _), (2, _), (3, _)] ⟨rfl, rfl, rfl, trivial⟩ ?_
    refine N.then ?_
    refine E.seq ?_
    refine E.region ?_
    refine X.st rfl rfl rfl rfl rfl rfl rfl Tryd.sz4 hf (by show 0 < 1; omega) ?_
    intro H2 hf2 hk2
    replace hP := hk2.keep hP (by simp; exact hne)
    replace hq := hk2.keep hq (by simp; exact hne2.2)
    replace hT := tab_keep hT hf0 hk2
    replace hkk := hkk.trans hk2 (by simp)
    refine X.done [(2, _), (3, _)] ⟨rfl, rfl, trivial⟩ ?_
    refine N.then ?_
    refine E.seq ?_
    refine E.region ?_
    refine X.mv rfl rfl rfl rfl rfl ?_
    refine X.asg rfl rfl rfl rfl rfl ?_
    refine X.done [(2, _)] ⟨rfl, trivial⟩ ?_
    refine N.then ?_
    refine E.ret ?_
    first
      | (rw [moA_t]; exact N.retH [_] ⟨_, _, rfl, rfl, rfl⟩ ⟨rfl, ⟨hP, hf2, hq, hT⟩, hkk⟩)
      | (rw [moA_f et]; exact N.retH [_] ⟨_, _, rfl, rfl, rfl⟩ ⟨rfl, ⟨hP, hf2, hq, hT⟩, hkk⟩)

theorem moV {s : Bs} {n : Nat} {g : Bool × St} (h : CV s n g.2) : CV s n (moA s g).2.2 := by
  obtain ⟨b, st⟩ := g
  cases b
  · have h1 := sp_tk (c := 124) h.at_
    exact ⟨h1.len, Nat.le_trans h1.M h.m⟩
  · exact h
theorem moW {s : Bs} {n : Nat} {A : St → List Nd × St} (hOK : AOK s n A) {g : Bool × St} (hV : CV s n g.2) (hi : (moA s g).1 = true) :
    CV s n (paA A s (moA s g).2).2.2 ∧ (Mq s (paA A s (moA s g).2).2.2 + if (paA A s (moA s g).2).2.1 then 1 else 0) < Mq s g.2 + if g.1 then 1 else 0 := by
  have h1 := moV hV
  obtain ⟨h2, _⟩ := cat_ok hOK h1.at_ h1.m
  refine ⟨⟨h2.len, Nat.le_trans h2.M h1.m⟩, ?_⟩
  obtain ⟨b, st⟩ := g
  have h3 := h2.M
  cases b
  · have h4 := (sq_tk (s := s) (c := 124) (st := st) hi).lt
    have h5 : Mq s (moA s (false, st)).2.2 < Mq s st := h4
    show Mq s (cat A s (moA s (false, st)).2.2).2 + 0 < Mq s st + 0
    omega
  · have h5 : (moA s (true, st)).2.2 = st := rfl
    rw [h5] at h3
    show Mq s (cat A s st).2 + 0 < Mq s st + 1
    omega

theorem alt_ct (s : Bs) (n : Nat) (A : St → List Nd × St) (hA : AC s n A) (hOK : AOK s n A) (p : Nat) (st : St) (H : Heap) (hP0 : PH p s st H) (hs : s.length ≤ 1000) (hT0 : Tab H) (hp0 : p ≠ 0) (hat : st.at_ ≤ s.length) (hn : Mq s st ≤ n) : Ct Tryd.prog 22 #[ptr p] H (RetN p s H (alt A s st)) := by
  have hps := lt_of hP0
  have h0s := tab0 hT0
  refine Ct.into 8 Tryd.func22 rfl [(0, ptr p)] rfl ⟨rfl, trivial⟩ ?_
  refine E.seq ?_
  refine E.region ?_
  refine X.box rfl rfl rfl rfl rfl rfl ?_
  intro b1 H1 hn1 hb1 hk1
  have hP := hk1.keep hP0 (by simp)
  have hT := tab_keep hT0 hp0 (hk1.mono (by simp))
  have hs1 := lt_of hb1
  refine X.asg rfl rfl rfl rfl rfl ?_
  refine X.done [(1, _), (2, _)] ⟨rfl, rfl, trivial⟩ ?_
  refine N.then ?_
  refine E.seq ?_
  refine E.region ?_
  refine X.alloc (z := .bool false) (cs := [.bool false]) rfl rfl rfl rfl (by kernel_rfl) rfl ?_
  intro b3 H2 hn2 hb3 hk2
  replace hP := hk2.keep hP (by simp)
  replace hT := tab_keep hT hp0 (hk2.mono (by simp))
  replace hb1 := hk2.keep hb1 (by simp)
  have hs2 := lt_of hb3
  have hsz1 := hk1.size
  refine X.st rfl rfl rfl rfl rfl rfl rfl Tryd.sz4 hb3 (by show 0 < 1; omega) ?_
  intro H3 hb3n hk3
  replace hb3 := hb3n
  replace hP := hk3.keep hP (by simp; omega)
  replace hT := tab_keep hT (show b3 ≠ 0 by omega) hk3
  replace hb1 := hk3.keep hb1 (by simp; omega)
  have hsz3 := hk3.size
  have hkk : Kp [] H H3 := (hk1.trans hk2 (by simp)).trans hk3 (by simp; omega)
  have hszH := hkk.size
  refine X.done [(1, _), (2, _), (3, _)] ⟨rfl, rfl, rfl, trivial⟩ ?_
  refine N.then ?_
  refine E.seq ?_
  refine E.region ?_
  refine X.fn rfl rfl rfl rfl rfl rfl ?_
  refine X.ld rfl rfl rfl rfl Tryd.ag45 (hb1) (rfl) ?_
  refine X.fn rfl rfl rfl rfl rfl rfl ?_
  refine X.call rfl rfl rfl rfl rfl Tryd.cl33 (row_ct (moA s) (paA A s) (AI s p b3 b1 n) (fun q => CV s n q.2) (fun q => Mq s q.2 + if q.1 then 1 else 0) [p, b3] 4 34 36 [] [ptr b3, ptr b1] [ptr p] [] H3 Tryd.cl34 Tryd.cl36
      (fun g H' hV hI hk => more_ct s p b3 b1 n g H' hI hs (by omega) ⟨by omega, by omega⟩ hp0 (by omega))
      (fun g H' hV hi hI hk => (cat_ct s n A hA hOK p (moA s g).2.2 H' hI.ph hs hI.tab hp0 (moV hV).at_ (moV hV).m).mono fun v H'' ⟨h1, h2, h3⟩ => ⟨h1, ⟨h2, h3.keep hI.fst (by simp; omega), h3.keep hI.ptr (by simp; omega), tab_keep hI.tab hp0 h3⟩, h3.mono (by simp)⟩)
      (fun g hV hi => moW hOK hV hi)
      (by simp only [List.mem_cons, List.not_mem_nil, or_false]; rintro b (rfl | rfl) <;> omega) (fun g H1 H2 B hI hk hB => ⟨hk.keep hI.ph (fun h => absurd (hB _ h) (by omega)), hk.keep hI.fst (fun h => absurd (hB _ h) (by omega)), hk.keep hI.ptr (fun h => absurd (hB _ h) (by omega)), by obtain ⟨ct, fz, ht⟩ := hI.tab; exact ⟨ct, fz, hk.keep ht (fun h => absurd (hB _ h) (by omega))⟩⟩)
      (true, st) (s.length + 3) ⟨hat, hn⟩ ⟨hP, hb3, hb1, hT⟩ (by show Mq s st + 1 < s.length + 3; unfold Mq; split <;> omega) (by have := (alt_ok hOK hat hn).2.2; omega)) ?_
  rintro v H4 ⟨h1, h2, h3⟩
  refine X.asg rfl rfl rfl rfl rfl ?_
  refine X.done [(2, _)] ⟨rfl, trivial⟩ ?_
  refine N.then ?_
  refine E.ret ?_
  exact N.retH [_] ⟨_, _, rfl, rfl, rfl⟩ ⟨h1.from hkk.size, h2.ph, (hkk.mono (by simp)).trans h3 (by simp; omega)⟩

theorem altN_ct (s : Bs) (hs : s.length ≤ 1000) : ∀ n, AC s n (altN s n)
  | 0 => fun p st H _ _ _ _ h => absurd h (by omega)
  | n + 1 => fun p st H hP hT hp0 hat hn => alt_ct s n (altN s n) (altN_ct s hs n) (altN_ok s n) p st H hP hs hT hp0 hat (by omega)
theorem prsE_t {s : Bs} {st : St} {c : Nat} (h : nx s st = (c, true)) : prsE s st = fl 15 (st.at_ : Nat) st := by unfold prsE; rw [if_pos (by rw [h])]
theorem prsE_f {s : Bs} {st : St} {c : Nat} (h : nx s st = (c, false)) : prsE s st = st := by unfold prsE; rw [if_neg (by rw [h]; simp)]

theorem parse_ct (s : Bs) (H : Heap) (hT : Tab H) (hs : s.length ≤ 100000) : Ct Tryd.prog 14 #[str s] H fun v H' => ∃ w, v = .tuple #[w, i64 (prs s).2.1, i64 (prs s).2.2] ∧ NRF H H' w (prs s).1 ∧ Kp [] H H' := by
  refine Ct.into 48 Tryd.func14 rfl [(0, str s)] rfl ⟨rfl, trivial⟩ ?_
  refine E.seq ?_
  refine E.region ?_
  refine X.asg rfl rfl rfl rfl rfl ?_
  refine X.asg rfl rfl rfl rfl rfl ?_
  refine X.asg rfl rfl rfl rfl rfl ?_
  refine X.done [(0, _), (2, _), (3, _), (4, _)] ⟨rfl, rfl, rfl, rfl, trivial⟩ ?_
  refine N.then ?_
  refine E.seq ?_
  refine E.seq ?_
  refine E.region ?_
  refine X.mv rfl rfl rfl rfl rfl ?_
  refine X.lenL rfl rfl rfl rfl rfl Tryd.underlying9 ?_
  refine X.gtr rfl rfl rfl rfl rfl rfl ?_
  refine X.done [(0, _), (2, _), (3, _), (4, _), (11, _)] ⟨rfl, rfl, rfl, rfl, rfl, trivial⟩ ?_
  refine N.then ?_
  refine E.condD rfl (fun hc => ?_) (fun hc => ?_)
  · refine E.seq ?_
    refine E.region ?_
    refine X.asg rfl rfl rfl rfl rfl ?_
    refine X.asg rfl rfl rfl rfl rfl ?_
    refine X.asg rfl rfl rfl rfl rfl ?_
    refine X.done [(0, _), (2, _), (3, _), (4, _)] ⟨rfl, rfl, rfl, rfl, trivial⟩ ?_
    refine N.then ?_
    refine E.ret ?_
    refine N.thenR ?_
    exact N.retH [_, _, _] ⟨_, _, rfl, rfl, _, _, rfl, rfl, _, _, rfl, rfl, rfl⟩ ⟨_, by rw [parse_1 (by omega)]; rfl, by rw [parse_1 (by omega)]; exact ⟨NR.nil _, fun b hb => absurd (show b ∈ ([] : List Nat) from hb) (by simp)⟩, Kp.refl _ _⟩
  · refine E.skip ?_
    refine N.then ?_
    refine E.seq ?_
    refine E.region ?_
    refine X.mv rfl rfl rfl rfl rfl ?_
    refine X.build (v := .agg (pcl s ⟨0, 0, 0⟩).toArray) rfl rfl rfl rfl rfl (fun _ => by kernel_rfl) ?_
    refine X.box rfl rfl rfl rfl rfl rfl ?_
    intro p H1 hn1 hP hk1
    replace hP : PH p s ⟨0, 0, 0⟩ H1 := hP
    have hT1 : Tab H1 := by obtain ⟨ct, fz, ht⟩ := hT; exact ⟨ct, fz, hk1.keep ht (by simp)⟩
    have hp0 := ph0 hT1 hP
    have h512 : ¬ 512 < s.length := by omega
    have hkk := hk1
    have hp1 := lt_of hP
    refine X.asg rfl rfl rfl rfl rfl ?_
    refine X.done [(2, _), (3, _), (4, _), (5, _)] ⟨rfl, rfl, rfl, rfl, trivial⟩ ?_
    refine N.then ?_
    refine E.seq ?_
    refine E.region ?_
    refine X.mv rfl rfl rfl rfl rfl ?_
    refine X.call rfl rfl rfl rfl rfl Tryd.cl22 (altN_ct s (by omega) (s.length + 2) p ⟨0, 0, 0⟩ H1 hP hT1 hp0 (Nat.zero_le _) (by unfold Mq; split <;> omega)) ?_
    rintro w H2 hr
    obtain ⟨l, st, eA⟩ : ∃ l st, altN s (s.length + 2) ⟨0, 0, 0⟩ = (l, st) := ⟨_, _, rfl⟩
    rw [eA] at hr
    obtain ⟨hr, hPn, hk2⟩ := hr
    replace hr : NRF H1 H2 w l := hr
    replace hP : PH p s st H2 := hPn
    have hr2 := hr.2
    replace hr := hr.from hkk.size
    replace hkk := hkk.trans hk2 (by simp; exact hn1)
    obtain ⟨wa, wc, rfl⟩ := hr.1.sl
    refine X.asg rfl rfl rfl rfl rfl ?_
    refine X.done [(2, _), (3, _), (4, _), (5, _), (6, _)] ⟨rfl, rfl, rfl, rfl, rfl, trivial⟩ ?_
    refine N.then ?_
    refine E.seq ?_
    refine E.seq ?_
    refine E.region ?_
    refine X.mv rfl rfl rfl rfl rfl ?_
    refine X.call rfl rfl rfl rfl rfl Tryd.cl23 (next2_ct s p st _ hP) ?_
    rintro _ Hx ⟨c, bq, ec, hc8, _, rfl, e⟩
    obtain rfl := e.symm
    cases bq
    · refine X.mv rfl rfl rfl rfl rfl ?_
      refine X.extract rfl rfl rfl rfl rfl rfl ?_
      refine X.extract rfl rfl rfl rfl rfl rfl ?_
      refine X.asg rfl rfl rfl rfl rfl ?_
      refine X.asg rfl rfl rfl rfl rfl ?_
      refine X.done [(2, _), (3, _), (4, _), (5, _), (6, _), (8, _)] ⟨rfl, rfl, rfl, rfl, rfl, rfl, trivial⟩ ?_
      refine N.then ?_
      refine E.seq ?_
      refine E.region ?_
      refine X.mv rfl rfl rfl rfl rfl ?_
      refine X.done [(2, _), (3, _), (4, _), (5, _), (6, _), (22, _)] ⟨rfl, rfl, rfl, rfl, rfl, rfl, trivial⟩ ?_
      refine N.then ?_
      refine E.condF rfl ?_
      refine E.skip ?_
      refine N.then ?_
      refine E.seq ?_
      refine E.block ?_
      refine E.seq ?_
      first
        | (have e1 := prsE_t ec
           obtain ⟨st1, est⟩ : ∃ st1, fl 15 (st.at_ : Nat) st = st1 := ⟨_, rfl⟩
           rw [est] at e1 hP)
        | (obtain ⟨st1, est⟩ : ∃ st1, st1 = st := ⟨_, rfl⟩
           have e1 : prsE s st = st1 := by rw [est]; exact prsE_f ec
           rw [← est] at hP)
      refine E.region ?_
      refine X.mv rfl rfl rfl rfl rfl ?_
      refine X.nilP rfl rfl rfl rfl rfl ?_
      refine X.fld rfl rfl rfl rfl rfl Tryd.off47_2 ?_
      refine X.ld rfl rfl rfl rfl Tryd.ag24 (hP) (rfl) ?_
      refine X.neq rfl rfl rfl rfl rfl rfl ?_
      refine X.asg rfl rfl rfl rfl rfl ?_
      refine X.done [(2, _), (3, _), (4, _), (5, _), (6, _), (29, _)] ⟨rfl, rfl, rfl, rfl, rfl, rfl, trivial⟩ ?_
      refine N.then ?_
      refine E.condD rfl (fun hc => ?_) (fun hc => ?_)
      · refine E.seq ?_
        refine E.regionD (fun H' => H'[p]? = some (.cells (pcl s st1).toArray 47 (0, 0))) [(0, .pu), (1, .pu), (2, .pu), (3, .st), (4, .pu), (5, .pu), (6, .pu), (7, .st), (8, .pu), (9, .pu), (10, .pu)] Tryd.mixed (by kernel_rfl) (hP) ?_
        refine X.mv rfl rfl rfl rfl rfl ?_
        refine X.nilP rfl rfl rfl rfl rfl ?_
        refine X.fld rfl rfl rfl rfl rfl Tryd.off47_2 ?_
        refine X.ld rfl rfl rfl rfl Tryd.ag24 (fun H' hF => hF) (rfl) ?_
        refine X.mv rfl rfl rfl rfl rfl ?_
        refine X.nilP rfl rfl rfl rfl rfl ?_
        refine X.fld rfl rfl rfl rfl rfl Tryd.off47_3 ?_
        refine X.ld rfl rfl rfl rfl Tryd.ag3 (fun H' hF => hF) (rfl) ?_
        refine X.asg rfl rfl rfl rfl rfl ?_
        refine X.asg rfl rfl rfl rfl rfl ?_
        refine X.asg rfl rfl rfl rfl rfl ?_
        refine X.done [(2, _), (3, _), (4, _), (6, _)] ⟨rfl, rfl, rfl, rfl, trivial⟩ ?_
        refine N.then ?_
        refine E.ret ?_
        refine N.blkR ?_
        refine N.thenR ?_
        exact N.retH [_, _, _] ⟨_, _, rfl, rfl, _, _, rfl, rfl, _, _, rfl, rfl, rfl⟩ ⟨_, by rw [parse_2 h512 eA e1 (by assumption)]; rfl, by rw [parse_2 h512 eA e1 (by assumption)]; exact ⟨NR.nil _, fun b hb => absurd (show b ∈ ([] : List Nat) from hb) (by simp)⟩, hkk⟩
      · refine E.seq ?_
        refine E.region ?_
        refine X.mv rfl rfl rfl rfl rfl ?_
        refine X.lenS rfl rfl rfl rfl rfl Tryd.underlying22 ?_
        refine X.gtr rfl rfl rfl rfl rfl rfl ?_
        refine X.asg rfl rfl rfl rfl rfl ?_
        refine X.done [(2, _), (3, _), (4, _), (6, _), (43, _)] ⟨rfl, rfl, rfl, rfl, rfl, trivial⟩ ?_
        refine N.then ?_
        refine E.condD rfl (fun hc => ?_) (fun hc => ?_)
        · refine E.seq ?_
          refine E.region ?_
          refine X.asg rfl rfl rfl rfl rfl ?_
          refine X.asg rfl rfl rfl rfl rfl ?_
          refine X.asg rfl rfl rfl rfl rfl ?_
          refine X.done [(2, _), (3, _), (4, _), (6, _)] ⟨rfl, rfl, rfl, rfl, trivial⟩ ?_
          refine N.then ?_
          refine E.ret ?_
          refine N.blkR ?_
          refine N.thenR ?_
          exact N.retH [_, _, _] ⟨_, _, rfl, rfl, _, _, rfl, rfl, _, _, rfl, rfl, rfl⟩ ⟨_, by rw [parse_3 h512 eA e1 (by assumption) (by omega)]; rfl, by rw [parse_3 h512 eA e1 (by assumption) (by omega)]; exact ⟨NR.nil _, fun b hb => absurd (show b ∈ ([] : List Nat) from hb) (by simp)⟩, hkk⟩
        · refine E.skip ?_
          refine N.blk ?_
          refine N.then ?_
          refine E.seq ?_
          refine E.region ?_
          refine X.mv rfl rfl rfl rfl rfl ?_
          refine X.asg rfl rfl rfl rfl rfl ?_
          refine X.asg rfl rfl rfl rfl rfl ?_
          refine X.asg rfl rfl rfl rfl rfl ?_
          refine X.done [(2, _), (3, _), (4, _)] ⟨rfl, rfl, rfl, trivial⟩ ?_
          refine N.then ?_
          refine E.ret ?_
          exact N.retH [_, _, _] ⟨_, _, rfl, rfl, _, _, rfl, rfl, _, _, rfl, rfl, rfl⟩ ⟨_, by rw [parse_4 h512 eA e1 (by assumption) (by omega)]; rfl, by rw [parse_4 h512 eA e1 (by assumption) (by omega)]; exact hr, hkk⟩
    · refine X.mv rfl rfl rfl rfl rfl ?_
      refine X.extract rfl rfl rfl rfl rfl rfl ?_
      refine X.extract rfl rfl rfl rfl rfl rfl ?_
      refine X.asg rfl rfl rfl rfl rfl ?_
      refine X.asg rfl rfl rfl rfl rfl ?_
      refine X.done [(2, _), (3, _), (4, _), (5, _), (6, _), (8, _)] ⟨rfl, rfl, rfl, rfl, rfl, rfl, trivial⟩ ?_
      refine N.then ?_
      refine E.seq ?_
      refine E.region ?_
      refine X.mv rfl rfl rfl rfl rfl ?_
      refine X.done [(2, _), (3, _), (4, _), (5, _), (6, _), (22, _)] ⟨rfl, rfl, rfl, rfl, rfl, rfl, trivial⟩ ?_
      refine N.then ?_
      refine E.condT rfl ?_
      refine E.region ?_
      refine X.mv rfl rfl rfl rfl rfl ?_
      refine X.mv rfl rfl rfl rfl rfl ?_
      refine X.nilP rfl rfl rfl rfl rfl ?_
      refine X.fld rfl rfl rfl rfl rfl Tryd.off47_1 ?_
      refine X.ld rfl rfl rfl rfl Tryd.ag3 (hP) (rfl) ?_
      refine X.call rfl rfl rfl rfl rfl Tryd.cl24 (fail_ct s p _ 15 _ _ hP) ?_
      rintro _ H3 ⟨rfl, hPn, hk3⟩
      replace hP := hPn
      replace hr : NRF H H3 _ l := ⟨hr.1.keep hk3 (fun b hb h => by have := (hr2 b hb).1; simp at h; omega), fun b hb => ⟨(hr.2 b hb).1, Nat.lt_of_lt_of_le (hr.2 b hb).2 hk3.size⟩⟩
      replace hkk := hkk.trans hk3 (by simp; exact hn1)
      refine X.done [(2, _), (3, _), (4, _), (5, _), (6, _)] ⟨rfl, rfl, rfl, rfl, rfl, trivial⟩ ?_
      refine N.then ?_
      refine E.seq ?_
      refine E.block ?_
      refine E.seq ?_
      first
        | (have e1 := prsE_t ec
           obtain ⟨st1, est⟩ : ∃ st1, fl 15 (st.at_ : Nat) st = st1 := ⟨_, rfl⟩
           rw [est] at e1 hP)
        | (obtain ⟨st1, est⟩ : ∃ st1, st1 = st := ⟨_, rfl⟩
           have e1 : prsE s st = st1 := by rw [est]; exact prsE_f ec
           rw [← est] at hP)
      refine E.region ?_
      refine X.mv rfl rfl rfl rfl rfl ?_
      refine X.nilP rfl rfl rfl rfl rfl ?_
      refine X.fld rfl rfl rfl rfl rfl Tryd.off47_2 ?_
      refine X.ld rfl rfl rfl rfl Tryd.ag24 (hP) (rfl) ?_
      refine X.neq rfl rfl rfl rfl rfl rfl ?_
      refine X.asg rfl rfl rfl rfl rfl ?_
      refine X.done [(2, _), (3, _), (4, _), (5, _), (6, _), (29, _)] ⟨rfl, rfl, rfl, rfl, rfl, rfl, trivial⟩ ?_
      refine N.then ?_
      refine E.condD rfl (fun hc => ?_) (fun hc => ?_)
      · refine E.seq ?_
        refine E.regionD (fun H' => H'[p]? = some (.cells (pcl s st1).toArray 47 (0, 0))) [(0, .pu), (1, .pu), (2, .pu), (3, .st), (4, .pu), (5, .pu), (6, .pu), (7, .st), (8, .pu), (9, .pu), (10, .pu)] Tryd.mixed (by kernel_rfl) (hP) ?_
        refine X.mv rfl rfl rfl rfl rfl ?_
        refine X.nilP rfl rfl rfl rfl rfl ?_
        refine X.fld rfl rfl rfl rfl rfl Tryd.off47_2 ?_
        refine X.ld rfl rfl rfl rfl Tryd.ag24 (fun H' hF => hF) (rfl) ?_
        refine X.mv rfl rfl rfl rfl rfl ?_
        refine X.nilP rfl rfl rfl rfl rfl ?_
        refine X.fld rfl rfl rfl rfl rfl Tryd.off47_3 ?_
        refine X.ld rfl rfl rfl rfl Tryd.ag3 (fun H' hF => hF) (rfl) ?_
        refine X.asg rfl rfl rfl rfl rfl ?_
        refine X.asg rfl rfl rfl rfl rfl ?_
        refine X.asg rfl rfl rfl rfl rfl ?_
        refine X.done [(2, _), (3, _), (4, _), (6, _)] ⟨rfl, rfl, rfl, rfl, trivial⟩ ?_
        refine N.then ?_
        refine E.ret ?_
        refine N.blkR ?_
        refine N.thenR ?_
        exact N.retH [_, _, _] ⟨_, _, rfl, rfl, _, _, rfl, rfl, _, _, rfl, rfl, rfl⟩ ⟨_, by rw [parse_2 h512 eA e1 (by assumption)]; rfl, by rw [parse_2 h512 eA e1 (by assumption)]; exact ⟨NR.nil _, fun b hb => absurd (show b ∈ ([] : List Nat) from hb) (by simp)⟩, hkk⟩
      · refine E.seq ?_
        refine E.region ?_
        refine X.mv rfl rfl rfl rfl rfl ?_
        refine X.lenS rfl rfl rfl rfl rfl Tryd.underlying22 ?_
        refine X.gtr rfl rfl rfl rfl rfl rfl ?_
        refine X.asg rfl rfl rfl rfl rfl ?_
        refine X.done [(2, _), (3, _), (4, _), (6, _), (43, _)] ⟨rfl, rfl, rfl, rfl, rfl, trivial⟩ ?_
        refine N.then ?_
        refine E.condD rfl (fun hc => ?_) (fun hc => ?_)
        · refine E.seq ?_
          refine E.region ?_
          refine X.asg rfl rfl rfl rfl rfl ?_
          refine X.asg rfl rfl rfl rfl rfl ?_
          refine X.asg rfl rfl rfl rfl rfl ?_
          refine X.done [(2, _), (3, _), (4, _), (6, _)] ⟨rfl, rfl, rfl, rfl, trivial⟩ ?_
          refine N.then ?_
          refine E.ret ?_
          refine N.blkR ?_
          refine N.thenR ?_
          exact N.retH [_, _, _] ⟨_, _, rfl, rfl, _, _, rfl, rfl, _, _, rfl, rfl, rfl⟩ ⟨_, by rw [parse_3 h512 eA e1 (by assumption) (by omega)]; rfl, by rw [parse_3 h512 eA e1 (by assumption) (by omega)]; exact ⟨NR.nil _, fun b hb => absurd (show b ∈ ([] : List Nat) from hb) (by simp)⟩, hkk⟩
        · refine E.skip ?_
          refine N.blk ?_
          refine N.then ?_
          refine E.seq ?_
          refine E.region ?_
          refine X.mv rfl rfl rfl rfl rfl ?_
          refine X.asg rfl rfl rfl rfl rfl ?_
          refine X.asg rfl rfl rfl rfl rfl ?_
          refine X.asg rfl rfl rfl rfl rfl ?_
          refine X.done [(2, _), (3, _), (4, _)] ⟨rfl, rfl, rfl, trivial⟩ ?_
          refine N.then ?_
          refine E.ret ?_
          exact N.retH [_, _, _] ⟨_, _, rfl, rfl, _, _, rfl, rfl, _, _, rfl, rfl, rfl⟩ ⟨_, by rw [parse_4 h512 eA e1 (by assumption) (by omega)]; rfl, by rw [parse_4 h512 eA e1 (by assumption) (by omega)]; exact hr, hkk⟩

end Go.Proofs.YtcandjdomeompaaDoor