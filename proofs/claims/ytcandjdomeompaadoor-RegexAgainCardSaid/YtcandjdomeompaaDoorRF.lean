/- The walks: parts, rows of parts, alternatives, a whole expression. -/
import Derived.Test.YtcandjdomeompaaDoorRE
namespace Go.Proofs.YtcandjdomeompaaDoor
open Go.SX Go.Chr
attribute [local irreducible] X E N Ct
set_option linter.unusedVariables false
set_option linter.unusedSimpArgs false
/-- A reader's contract within, where not too much is left. -/
def AC (s : Bs) (n : Nat) (A : St → List Nd × St) : Prop := ∀ (p : Nat) (st : St) (H : Heap), PH p s st H → Tab H → p ≠ 0 → st.at_ ≤ s.length → Mq s st < n → Ct Tryd.prog 22 #[ptr p] H (RetN p s H (A st))
theorem tms_at {s : Bs} {st : St} (h : (nx s st).2 = true) : st.at_ < (tms s st).2.at_ := by
  have h1 := sq_adv h
  have h2 := sp_num h1.len
  have h3 := sp_hi (low := (num s (adv st)).1) h2.len
  have h4 := sp_cl (c := 125) (e := 15) (a := ((hiP s (num s (adv st)).1 (num s (adv st)).2).2.at_ : Nat)) (by decide) h3.len
  have e : (tms s st).2.at_ = (clP s 125 15 ((hiP s (num s (adv st)).1 (num s (adv st)).2).2.at_ : Nat) (hiP s (num s (adv st)).1 (num s (adv st)).2).2).at_ := by
    unfold tms; dsimp only; split
    · rfl
    · exact fl_at _ _ _
  rw [e]
  have h5 : (adv st).at_ = st.at_ + 1 := rfl
  have := h2.le; have := h3.le; have := h4.le
  omega
theorem kr1 {H : Heap} {b : Nat} {v : Value} {l : List Nd} (hb : H[b]? = some (.cells ([v] : List Value).toArray 22 (0, 0))) (h : NR H v l) : KR H (.slice (some ⟨b, 0, none⟩) 1 1) [(v, l)] :=
  ⟨rd1 hb, by simp only [List.mem_singleton]; rintro k rfl; exact h⟩
section
variable {s : Bs} {f : Nat} {l : List Nd} {st st2 : St} {r : List Nd × St} {c : Nat} {b : Bool} {x : Nd}
theorem rF_0 (hJ : repF s f l st = r) (hf : Mq s st < f) (h : (nx s st).1 ≠ 42 ∧ (nx s st).1 ≠ 43 ∧ (nx s st).1 ≠ 63 ∧ (nx s st).1 ≠ 123) : r = (l, st) := by
  obtain ⟨f, rfl⟩ : ∃ g, f = g + 1 := ⟨f - 1, by omega⟩
  rw [← hJ, repF, if_neg h.1, if_neg h.2.1, if_neg h.2.2.1, if_neg h.2.2.2]
theorem rF_1 (hJ : repF s f l st = r) (hf : Mq s st < f) (h : (nx s st).1 = 42) : repF s (f - 1) (jn (knd 5) [l]) (adv st) = r := by
  obtain ⟨f, rfl⟩ : ∃ g, f = g + 1 := ⟨f - 1, by omega⟩
  rw [← hJ, repF, if_pos h]; rfl
theorem rF_2 (hJ : repF s f l st = r) (hf : Mq s st < f) (h : (nx s st).1 = 43) : repF s (f - 1) (jn (knd 6) [l]) (adv st) = r := by
  obtain ⟨f, rfl⟩ : ∃ g, f = g + 1 := ⟨f - 1, by omega⟩
  rw [← hJ, repF, if_neg (by omega), if_pos h]; rfl
theorem rF_3 (hJ : repF s f l st = r) (hf : Mq s st < f) (h : (nx s st).1 = 63) : repF s (f - 1) (jn (knd 7) [l]) (adv st) = r := by
  obtain ⟨f, rfl⟩ : ∃ g, f = g + 1 := ⟨f - 1, by omega⟩
  rw [← hJ, repF, if_neg (by omega), if_neg (by omega), if_pos h]; rfl
theorem rF_4 (hJ : repF s f l st = r) (hf : Mq s st < f) (h : (nx s st).1 = 123) (ht : tms s st = (x, st2)) : repF s (f - 1) (jn x [l]) st2 = r := by
  obtain ⟨f, rfl⟩ : ∃ g, f = g + 1 := ⟨f - 1, by omega⟩
  rw [← hJ, repF, if_neg (by omega), if_neg (by omega), if_neg (by omega), if_pos h, ht]; rfl
theorem jn1_len (x : Nd) (l : List Nd) : (jn x [l]).length = l.length + 1 := by simp [jn]
end
section
variable {s : Bs} {A : St → List Nd × St} {st st1 st2 : St} {c : Nat} {b k : Bool} {a : S4} {l : List Nd}
theorem atm_1 (h : nx s st = (c, b)) (hc : c = 92) (he : esc s st = ((a, k), st1)) : atm A s st = (setN a, st1) := by unfold atm; rw [h]; dsimp only; rw [if_pos hc, he]
theorem atm_2 (h : nx s st = (c, b)) (hc : c = 40) (hA : A (adv st) = (l, st1)) (hcl : clP s 41 16 (st.at_ : Nat) st1 = st2) : atm A s st = (l, st2) := by unfold atm; rw [h]; dsimp only; rw [if_neg (by omega), if_pos hc, hA, hcl]
theorem atm_3 (h : nx s st = (c, b)) (hc : c = 91) (he : cls s (st.at_ : Nat) (adv st) = (a, st1)) : atm A s st = (setN a, st1) := by unfold atm; rw [h]; dsimp only; rw [if_neg (by omega), if_neg (by omega), if_pos hc, he]
theorem atm_4 (h : nx s st = (c, b)) (hc : c = 46) : atm A s st = (setN (sNot (sRg 10 10)), adv st) := by unfold atm; rw [h]; dsimp only; rw [if_neg (by omega), if_neg (by omega), if_neg (by omega), if_pos hc]
theorem atm_5 (h : nx s st = (c, b)) (hc : c ≠ 92 ∧ c ≠ 40 ∧ c ≠ 91 ∧ c ≠ 46) (hs : spc c = true) : atm A s st = ([], fl 15 (st.at_ : Nat) st) := by unfold atm; rw [h]; dsimp only; rw [if_neg hc.1, if_neg hc.2.1, if_neg hc.2.2.1, if_neg hc.2.2.2, if_pos hs]
theorem atm_6 (h : nx s st = (c, b)) (hc : c ≠ 92 ∧ c ≠ 40 ∧ c ≠ 91 ∧ c ≠ 46) (hs : spc c = false) : atm A s st = (setN (sRg c c), adv st) := by unfold atm; rw [h]; dsimp only; rw [if_neg hc.1, if_neg hc.2.1, if_neg hc.2.2.1, if_neg hc.2.2.2, if_neg (by rw [hs]; simp)]
end
structure PQ where
  f : Nat
  l : List Nd
  v : Value
  st : St
/-- What stands in alt's cells. -/
structure AI (s : Bs) (p fc pc n : Nat) (q : Bool × St) (H : Heap) : Prop where
  ph : PH p s q.2 H
  fst : H[fc]? = some (.cells ([.bool q.1] : List Value).toArray 4 (0, 0))
  ptr : H[pc]? = some (.cells ([ptr p] : List Value).toArray 45 (0, 0))
  tab : Tab H
theorem moA_t (s : Bs) (st : St) : moA s (true, st) = (true, (false, st)) := rfl
theorem moA_f {s : Bs} {st st' : St} {b : Bool} (h : tk s 124 st = (b, st')) : moA s (false, st) = (b, (false, st')) := by show ((tk s 124 st).1, (false, (tk s 124 st).2)) = _; rw [h]
theorem tab0 {H : Heap} (h : Tab H) : 0 < H.size := by obtain ⟨_, _, h⟩ := h; exact lt_of h
theorem ph0 {H : Heap} {p : Nat} {s : Bs} {st : St} (hT : Tab H) (hP : PH p s st H) : p ≠ 0 := by
  rintro rfl
  obtain ⟨ct, fz, h⟩ := hT
  have e := (Option.some.inj (h.symm.trans hP))
  injection e with e1
  have := congrArg (fun a => a.toList.length) e1
  simp [tab, pcl] at this

theorem atom_ct (s : Bs) (n : Nat) (A : St → List Nd × St) (hA : AC s n A) (hOK : AOK s n A) (p : Nat) (st : St) (H : Heap) (hP0 : PH p s st H) (hs : s.length ≤ 1000) (hT : Tab H) (hp0 : p ≠ 0) (hok : (nx s st).2 = true) (hn : Mq s st ≤ n) : Ct Tryd.prog 57 #[ptr p] H (RetN p s H (atm A s st)) := by
  have hP := hP0
  have hkk := Kp.refl [p] H
  have hlt := (nx_ok hok).2
  have hps := lt_of hP0
  have hadv := sq_adv hok
  refine Ct.into 80 Tryd.func57 rfl [(0, ptr p)] rfl ⟨rfl, trivial⟩ ?_
  refine E.seq ?_
  refine E.region ?_
  refine X.asg rfl rfl rfl rfl rfl ?_
  refine X.done [(0, _), (2, _)] ⟨rfl, rfl, trivial⟩ ?_
  refine N.then ?_
  refine E.seq ?_
  refine E.region ?_
  refine X.mv rfl rfl rfl rfl rfl ?_
  refine X.nilP rfl rfl rfl rfl rfl ?_
  refine X.fld rfl rfl rfl rfl rfl Tryd.off47_1 ?_
  refine X.ld rfl rfl rfl rfl Tryd.ag3 (hP) (rfl) ?_
  refine X.asg rfl rfl rfl rfl rfl ?_
  refine X.done [(0, _), (2, _), (3, _)] ⟨rfl, rfl, rfl, trivial⟩ ?_
  refine N.then ?_
  refine E.seq ?_
  refine E.region ?_
  refine X.mv rfl rfl rfl rfl rfl ?_
  refine X.call rfl rfl rfl rfl rfl Tryd.cl23 (next2_ct s p st _ hP) ?_
  rintro _ Hx ⟨c, bq, ec, hc8, _, rfl, e⟩
  obtain rfl := e.symm
  refine X.mv rfl rfl rfl rfl rfl ?_
  refine X.extract rfl rfl rfl rfl rfl rfl ?_
  refine X.extract rfl rfl rfl rfl rfl rfl ?_
  refine X.asg rfl rfl rfl rfl rfl ?_
  refine X.asg rfl rfl rfl rfl rfl ?_
  refine X.done [(0, _), (2, _), (3, _), (4, _)] ⟨rfl, rfl, rfl, rfl, trivial⟩ ?_
  refine N.then ?_
  refine E.seq ?_
  refine E.block ?_
  refine E.seq ?_
  refine E.region ?_
  refine X.mv rfl rfl rfl rfl rfl ?_
  refine X.eql rfl rfl rfl rfl rfl rfl ?_
  refine X.asg rfl rfl rfl rfl rfl ?_
  refine X.done [(0, _), (2, _), (3, _), (4, _), (21, _)] ⟨rfl, rfl, rfl, rfl, rfl, trivial⟩ ?_
  refine N.then ?_
  refine E.condD rfl (fun hc => ?_) (fun hc => ?_)
  · refine E.seq ?_
    refine E.region ?_
    refine X.mv rfl rfl rfl rfl rfl ?_
    refine X.call rfl rfl rfl rfl rfl Tryd.cl59 (escape_ct s p st _ hP hs hok) ?_
    rintro _ H3 ⟨a, k, st2, ee, rfl, hPn, hk3⟩
    replace hP := hPn
    replace hkk := hkk.trans hk3 (by simp)
    refine X.mv rfl rfl rfl rfl rfl ?_
    refine X.extract rfl rfl rfl rfl rfl rfl ?_
    refine X.extract rfl rfl rfl rfl rfl rfl ?_
    refine X.alloc (z := .agg ([.int .u64 0, .int .u64 0, .int .u64 0, .int .u64 0] : List Value).toArray) (cs := [.int .u64 0, .int .u64 0, .int .u64 0, .int .u64 0]) rfl rfl rfl rfl (by kernel_rfl) rfl ?_
    intro b6 H4 hn4 hb6 hk4
    have hne6 : b6 ≠ p := by have := lt_of hP; omega
    have hs6 := hkk.size
    replace hP := hk4.keep hP (by simp)
    replace hkk := hkk.trans hk4 (by simp)
    refine X.stA rfl rfl rfl rfl rfl rfl (uv_one _) (sz24w a.2) hb6 (by rw [uv4 a.2]; show 0 + 4 ≤ 4; omega) ?_
    intro H5 hb6n hk5
    rw [splice_all (by rw [uv4 a.2]; rfl)] at hb6n
    replace hb6 := hb6n
    replace hP := hk5.keep hP (by simp; exact fun h => hne6 h.symm)
    replace hkk := hkk.trans hk5 (by simp; omega)
    refine X.asg rfl rfl rfl rfl rfl ?_
    refine X.done [(0, _), (2, _), (3, _), (4, _), (6, _)] ⟨rfl, rfl, rfl, rfl, rfl, trivial⟩ ?_
    refine N.then ?_
    refine E.seq ?_
    refine E.region ?_
    refine X.ldA rfl rfl rfl rfl Tryd.ag36 Tryd.sz36 (hb6) (uv4 a.2) zoff ?_
    refine X.call rfl rfl rfl rfl rfl Tryd.cl60 (set_ct a _) ?_
    rintro v9 H9 ⟨hr9, hk9⟩
    replace hr9 := hr9.from hkk.size
    replace hP := hk9.keep hP (by simp)
    replace hkk := hkk.trans hk9 (by simp)
    refine X.asg rfl rfl rfl rfl rfl ?_
    refine X.done [(0, _), (2, _), (3, _), (4, _)] ⟨rfl, rfl, rfl, rfl, trivial⟩ ?_
    refine N.then ?_
    refine E.ret ?_
    refine N.blkR ?_
    refine N.thenR ?_
    rw [atm_1 ec (by omega) ee]
    exact N.retH [_] ⟨_, _, rfl, rfl, rfl⟩ ⟨hr9, hP, hkk⟩
  · refine E.seq ?_
    refine E.region ?_
    refine X.mv rfl rfl rfl rfl rfl ?_
    refine X.eqlC rfl rfl rfl rfl rfl rfl (fun hc => ?_) (fun hc => ?_)
    · refine X.mv rfl rfl rfl rfl rfl ?_
      refine X.skip rfl rfl rfl ?_
      refine X.skip rfl rfl rfl ?_
      refine X.pickT rfl rfl rfl rfl rfl rfl ?_
      refine X.mv rfl rfl rfl rfl rfl ?_
      refine X.skip rfl rfl rfl ?_
      refine X.skip rfl rfl rfl ?_
      refine X.pickT rfl rfl rfl rfl rfl rfl ?_
      refine X.mv rfl rfl rfl rfl rfl ?_
      refine X.skip rfl rfl rfl ?_
      refine X.skip rfl rfl rfl ?_
      refine X.skip rfl rfl rfl ?_
      refine X.pickT rfl rfl rfl rfl rfl rfl ?_
      refine X.asg rfl rfl rfl rfl rfl ?_
      refine X.done [(0, _), (2, _), (3, _), (4, _), (31, _)] ⟨rfl, rfl, rfl, rfl, rfl, trivial⟩ ?_
      refine N.then ?_
      refine E.condT rfl ?_
      refine E.region ?_
      refine X.mv rfl rfl rfl rfl rfl ?_
      refine X.nilP rfl rfl rfl rfl rfl ?_
      refine X.fld rfl rfl rfl rfl rfl Tryd.off47_1 ?_
      refine X.ld rfl rfl rfl rfl Tryd.ag3 (hP) (rfl) ?_
      refine X.addE (zz := ((st.at_ + 1 : Nat) : Int)) rfl rfl rfl rfl rfl rfl (by rw [IntWalk.i64_in _ (by omega)] <;> omega) ?_
      refine X.nilP rfl rfl rfl rfl rfl ?_
      refine X.fld rfl rfl rfl rfl rfl Tryd.off47_1 ?_
      refine X.st rfl rfl rfl rfl rfl rfl rfl Tryd.sz3 hP (by show 1 < 4; omega) ?_
      intro H4 h4 hk4
      replace hP : PH p s (adv st) H4 := h4
      replace hkk := hkk.trans hk4 (by simp)
      refine X.done [(0, _), (2, _), (3, _), (4, _)] ⟨rfl, rfl, rfl, rfl, trivial⟩ ?_
      refine N.blk ?_
      refine N.then ?_
      refine E.seq ?_
      refine E.seq ?_
      refine E.region ?_
      refine X.mv rfl rfl rfl rfl rfl ?_
      refine X.done [(0, _), (2, _), (3, _), (4, _), (54, _)] ⟨rfl, rfl, rfl, rfl, rfl, trivial⟩ ?_
      refine N.then ?_
      refine E.block ?_
      refine E.seq ?_
      refine E.region ?_
      refine X.eqlT rfl rfl rfl rfl rfl rfl (by omega) ?_
      refine X.asg rfl rfl rfl rfl rfl ?_
      refine X.done [(0, _), (2, _), (3, _), (4, _), (54, _), (55, _)] ⟨rfl, rfl, rfl, rfl, rfl, rfl, trivial⟩ ?_
      refine N.then ?_
      refine E.condT rfl ?_
      refine E.seq ?_
      refine E.region ?_
      refine X.mv rfl rfl rfl rfl rfl ?_
      refine X.call rfl rfl rfl rfl rfl Tryd.cl22 (hA p (adv st) _ hP (tab_keep hT hp0 hkk) hp0 hadv.len (Nat.lt_of_lt_of_le hadv.lt hn)) ?_
      rintro v8 H8 hr8
      obtain ⟨l1, st1, eA⟩ : ∃ l1 st1, A (adv st) = (l1, st1) := ⟨_, _, rfl⟩
      rw [eA] at hr8
      obtain ⟨hr8, hPn, hk8⟩ := hr8
      replace hP := hPn
      replace hr8 := hr8.from hkk.size
      replace hkk := hkk.trans hk8 (by simp)
      refine X.asg rfl rfl rfl rfl rfl ?_
      refine X.done [(0, _), (2, _), (3, _), (4, _), (8, _)] ⟨rfl, rfl, rfl, rfl, rfl, trivial⟩ ?_
      refine N.then ?_
      refine E.seq ?_
      refine E.seq ?_
      refine E.region ?_
      refine X.mv rfl rfl rfl rfl rfl ?_
      refine X.call rfl rfl rfl rfl rfl Tryd.cl35 (take2_ct s p 41 _ _ hP hs) ?_
      rintro _ H9 hq
      rcases hq with ⟨rfl, ht, hPn, hk9⟩ | ⟨rfl, hf, hPn, hk9⟩
      · replace hP := hPn
        replace hr8 := hr8.keepP hk9 (by simp; omega)
        replace hkk := hkk.trans hk9 (by simp)
        refine X.notT rfl rfl rfl rfl rfl ?_
        refine X.done [(0, _), (2, _), (3, _), (4, _), (8, _), (61, _)] ⟨rfl, rfl, rfl, rfl, rfl, rfl, trivial⟩ ?_
        refine N.then ?_
        refine E.condF rfl ?_
        refine E.skip ?_
        refine N.then ?_
        refine E.seq ?_
        refine E.region ?_
        refine X.mv rfl rfl rfl rfl rfl ?_
        refine X.asg rfl rfl rfl rfl rfl ?_
        refine X.done [(2, _), (4, _)] ⟨rfl, rfl, trivial⟩ ?_
        refine N.then ?_
        refine E.ret ?_
        refine N.blkR ?_
        refine N.thenR ?_
        first
          | (have ecl := clP_t (e := 16) (a := (st.at_ : Nat)) ht
             rw [atm_2 ec (by omega) eA ecl]
             exact N.retH [_] ⟨_, _, rfl, rfl, rfl⟩ ⟨hr8, hP, hkk⟩)
          | (have ecl := clP_f (e := 16) (a := (st.at_ : Nat)) hf
             rw [atm_2 ec (by omega) eA ecl]
             exact N.retH [_] ⟨_, _, rfl, rfl, rfl⟩ ⟨hr8, hP, hkk⟩)
      · replace hP := hPn
        replace hr8 := hr8.keepP hk9 (by simp; omega)
        replace hkk := hkk.trans hk9 (by simp)
        refine X.notF rfl rfl rfl rfl rfl ?_
        refine X.done [(0, _), (2, _), (3, _), (4, _), (8, _), (61, _)] ⟨rfl, rfl, rfl, rfl, rfl, rfl, trivial⟩ ?_
        refine N.then ?_
        refine E.condT rfl ?_
        refine E.region ?_
        refine X.mv rfl rfl rfl rfl rfl ?_
        refine X.mv rfl rfl rfl rfl rfl ?_
        refine X.call rfl rfl rfl rfl rfl Tryd.cl24 (fail_ct s p _ 16 _ _ hP) ?_
        rintro _ H10 ⟨rfl, hPn, hk10⟩
        replace hP := hPn
        replace hr8 := hr8.keepP hk10 (by simp; omega)
        replace hkk := hkk.trans hk10 (by simp)
        refine X.done [(2, _), (4, _), (8, _)] ⟨rfl, rfl, rfl, trivial⟩ ?_
        refine N.then ?_
        refine E.seq ?_
        refine E.region ?_
        refine X.mv rfl rfl rfl rfl rfl ?_
        refine X.asg rfl rfl rfl rfl rfl ?_
        refine X.done [(2, _), (4, _)] ⟨rfl, rfl, trivial⟩ ?_
        refine N.then ?_
        refine E.ret ?_
        refine N.blkR ?_
        refine N.thenR ?_
        first
          | (have ecl := clP_t (e := 16) (a := (st.at_ : Nat)) ht
             rw [atm_2 ec (by omega) eA ecl]
             exact N.retH [_] ⟨_, _, rfl, rfl, rfl⟩ ⟨hr8, hP, hkk⟩)
          | (have ecl := clP_f (e := 16) (a := (st.at_ : Nat)) hf
             rw [atm_2 ec (by omega) eA ecl]
             exact N.retH [_] ⟨_, _, rfl, rfl, rfl⟩ ⟨hr8, hP, hkk⟩)
    · refine X.mv rfl rfl rfl rfl rfl ?_
      refine X.mv rfl rfl rfl rfl rfl ?_
      refine X.eqlC rfl rfl rfl rfl rfl rfl (fun hc => ?_) (fun hc => ?_)
      · refine X.pickF rfl rfl rfl rfl rfl rfl ?_
        refine X.mv rfl rfl rfl rfl rfl ?_
        refine X.skip rfl rfl rfl ?_
        refine X.skip rfl rfl rfl ?_
        refine X.pickT rfl rfl rfl rfl rfl rfl ?_
        refine X.mv rfl rfl rfl rfl rfl ?_
        refine X.skip rfl rfl rfl ?_
        refine X.skip rfl rfl rfl ?_
        refine X.skip rfl rfl rfl ?_
        refine X.pickT rfl rfl rfl rfl rfl rfl ?_
        refine X.asg rfl rfl rfl rfl rfl ?_
        refine X.done [(0, _), (2, _), (3, _), (4, _), (31, _)] ⟨rfl, rfl, rfl, rfl, rfl, trivial⟩ ?_
        refine N.then ?_
        refine E.condT rfl ?_
        refine E.region ?_
        refine X.mv rfl rfl rfl rfl rfl ?_
        refine X.nilP rfl rfl rfl rfl rfl ?_
        refine X.fld rfl rfl rfl rfl rfl Tryd.off47_1 ?_
        refine X.ld rfl rfl rfl rfl Tryd.ag3 (hP) (rfl) ?_
        refine X.addE (zz := ((st.at_ + 1 : Nat) : Int)) rfl rfl rfl rfl rfl rfl (by rw [IntWalk.i64_in _ (by omega)] <;> omega) ?_
        refine X.nilP rfl rfl rfl rfl rfl ?_
        refine X.fld rfl rfl rfl rfl rfl Tryd.off47_1 ?_
        refine X.st rfl rfl rfl rfl rfl rfl rfl Tryd.sz3 hP (by show 1 < 4; omega) ?_
        intro H4 h4 hk4
        replace hP : PH p s (adv st) H4 := h4
        replace hkk := hkk.trans hk4 (by simp)
        refine X.done [(0, _), (2, _), (3, _), (4, _)] ⟨rfl, rfl, rfl, rfl, trivial⟩ ?_
        refine N.blk ?_
        refine N.then ?_
        refine E.seq ?_
        refine E.seq ?_
        refine E.region ?_
        refine X.mv rfl rfl rfl rfl rfl ?_
        refine X.done [(0, _), (2, _), (3, _), (4, _), (54, _)] ⟨rfl, rfl, rfl, rfl, rfl, trivial⟩ ?_
        refine N.then ?_
        refine E.block ?_
        refine E.seq ?_
        refine E.region ?_
        refine X.eqlF rfl rfl rfl rfl rfl rfl (by omega) ?_
        refine X.asg rfl rfl rfl rfl rfl ?_
        refine X.done [(0, _), (2, _), (3, _), (4, _), (54, _), (55, _)] ⟨rfl, rfl, rfl, rfl, rfl, rfl, trivial⟩ ?_
        refine N.then ?_
        refine E.condF rfl ?_
        refine E.seq ?_
        refine E.region ?_
        refine X.eqlT rfl rfl rfl rfl rfl rfl (by omega) ?_
        refine X.asg rfl rfl rfl rfl rfl ?_
        refine X.done [(0, _), (2, _), (3, _), (4, _), (54, _), (66, _)] ⟨rfl, rfl, rfl, rfl, rfl, rfl, trivial⟩ ?_
        refine N.then ?_
        refine E.condT rfl ?_
        refine E.seq ?_
        refine E.region ?_
        refine X.mv rfl rfl rfl rfl rfl ?_
        refine X.mv rfl rfl rfl rfl rfl ?_
        refine X.call rfl rfl rfl rfl rfl Tryd.cl62 (class_ct s p (st.at_ : Nat) (adv st) _ hP hs (tab_keep hT hp0 hkk) hp0 hadv.len) ?_
        rintro _ H8 ⟨a, st1, ecl, rfl, hPn, hk8⟩
        replace hP := hPn
        replace hkk := hkk.trans hk8 (by simp)
        refine X.call rfl rfl rfl rfl rfl Tryd.cl60 (set_ct a _) ?_
        rintro v9 H9 ⟨hr9, hk9⟩
        replace hr9 := hr9.from hkk.size
        replace hP := hk9.keep hP (by simp)
        replace hkk := hkk.trans hk9 (by simp)
        refine X.asg rfl rfl rfl rfl rfl ?_
        refine X.done [(2, _), (4, _)] ⟨rfl, rfl, trivial⟩ ?_
        refine N.then ?_
        refine E.ret ?_
        refine N.blkR ?_
        refine N.thenR ?_
        rw [atm_3 ec (by omega) ecl]
        exact N.retH [_] ⟨_, _, rfl, rfl, rfl⟩ ⟨hr9, hP, hkk⟩
      · refine X.pickF rfl rfl rfl rfl rfl rfl ?_
        refine X.mv rfl rfl rfl rfl rfl ?_
        refine X.mv rfl rfl rfl rfl rfl ?_
        refine X.eqlC rfl rfl rfl rfl rfl rfl (fun hc => ?_) (fun hc => ?_)
        · refine X.pickF rfl rfl rfl rfl rfl rfl ?_
          refine X.mv rfl rfl rfl rfl rfl ?_
          refine X.skip rfl rfl rfl ?_
          refine X.skip rfl rfl rfl ?_
          refine X.skip rfl rfl rfl ?_
          refine X.pickT rfl rfl rfl rfl rfl rfl ?_
          refine X.asg rfl rfl rfl rfl rfl ?_
          refine X.done [(0, _), (2, _), (3, _), (4, _), (31, _)] ⟨rfl, rfl, rfl, rfl, rfl, trivial⟩ ?_
          refine N.then ?_
          refine E.condT rfl ?_
          refine E.region ?_
          refine X.mv rfl rfl rfl rfl rfl ?_
          refine X.nilP rfl rfl rfl rfl rfl ?_
          refine X.fld rfl rfl rfl rfl rfl Tryd.off47_1 ?_
          refine X.ld rfl rfl rfl rfl Tryd.ag3 (hP) (rfl) ?_
          refine X.addE (zz := ((st.at_ + 1 : Nat) : Int)) rfl rfl rfl rfl rfl rfl (by rw [IntWalk.i64_in _ (by omega)] <;> omega) ?_
          refine X.nilP rfl rfl rfl rfl rfl ?_
          refine X.fld rfl rfl rfl rfl rfl Tryd.off47_1 ?_
          refine X.st rfl rfl rfl rfl rfl rfl rfl Tryd.sz3 hP (by show 1 < 4; omega) ?_
          intro H4 h4 hk4
          replace hP : PH p s (adv st) H4 := h4
          replace hkk := hkk.trans hk4 (by simp)
          refine X.done [(0, _), (2, _), (3, _), (4, _)] ⟨rfl, rfl, rfl, rfl, trivial⟩ ?_
          refine N.blk ?_
          refine N.then ?_
          refine E.seq ?_
          refine E.seq ?_
          refine E.region ?_
          refine X.mv rfl rfl rfl rfl rfl ?_
          refine X.done [(0, _), (2, _), (3, _), (4, _), (54, _)] ⟨rfl, rfl, rfl, rfl, rfl, trivial⟩ ?_
          refine N.then ?_
          refine E.block ?_
          refine E.seq ?_
          refine E.region ?_
          refine X.eqlF rfl rfl rfl rfl rfl rfl (by omega) ?_
          refine X.asg rfl rfl rfl rfl rfl ?_
          refine X.done [(0, _), (2, _), (3, _), (4, _), (54, _), (55, _)] ⟨rfl, rfl, rfl, rfl, rfl, rfl, trivial⟩ ?_
          refine N.then ?_
          refine E.condF rfl ?_
          refine E.seq ?_
          refine E.region ?_
          refine X.eqlF rfl rfl rfl rfl rfl rfl (by omega) ?_
          refine X.asg rfl rfl rfl rfl rfl ?_
          refine X.done [(0, _), (2, _), (3, _), (4, _), (54, _), (66, _)] ⟨rfl, rfl, rfl, rfl, rfl, rfl, trivial⟩ ?_
          refine N.then ?_
          refine E.condF rfl ?_
          refine E.seq ?_
          refine E.region ?_
          refine X.eqlT rfl rfl rfl rfl rfl rfl (by omega) ?_
          refine X.asg rfl rfl rfl rfl rfl ?_
          refine X.done [(2, _), (4, _), (72, _)] ⟨rfl, rfl, rfl, trivial⟩ ?_
          refine N.then ?_
          refine E.condT rfl ?_
          refine E.seq ?_
          refine E.region ?_
          refine X.call rfl rfl rfl rfl rfl Tryd.cl63 (single_ct 10 _ (by decide)) ?_
          rintro _ H7 ⟨rfl, hk7⟩
          replace hP := hk7.keep hP (by simp)
          replace hkk := hkk.trans hk7 (by simp)
          refine X.call rfl rfl rfl rfl rfl Tryd.cl40 (notS_ct (sRg 10 10) _) ?_
          rintro _ H8 ⟨rfl, hk8⟩
          replace hP := hk8.keep hP (by simp)
          replace hkk := hkk.trans hk8 (by simp)
          refine X.call rfl rfl rfl rfl rfl Tryd.cl60 (set_ct (sNot (sRg 10 10)) _) ?_
          rintro v9 H9 ⟨hr9, hk9⟩
          replace hr9 := hr9.from hkk.size
          replace hP := hk9.keep hP (by simp)
          replace hkk := hkk.trans hk9 (by simp)
          refine X.asg rfl rfl rfl rfl rfl ?_
          refine X.done [(2, _), (4, _)] ⟨rfl, rfl, trivial⟩ ?_
          refine N.then ?_
          refine E.ret ?_
          refine N.blkR ?_
          refine N.thenR ?_
          rw [atm_4 ec (by omega)]
          exact N.retH [_] ⟨_, _, rfl, rfl, rfl⟩ ⟨hr9, hP, hkk⟩
        · refine X.pickF rfl rfl rfl rfl rfl rfl ?_
          refine X.mv rfl rfl rfl rfl rfl ?_
          refine X.mv rfl rfl rfl rfl rfl ?_
          refine X.call rfl rfl rfl rfl rfl Tryd.cl61 (within_ct specials c _ hc8 (by decide)) ?_
          rintro _ Hx ⟨rfl, e⟩
          obtain rfl := e.symm
          rw [show decide (u8 c ∈ specials) = spc c from rfl]
          cases hsp : spc c
          · refine X.notF rfl rfl rfl rfl rfl ?_
            refine X.pickF rfl rfl rfl rfl rfl rfl ?_
            refine X.asg rfl rfl rfl rfl rfl ?_
            refine X.done [(0, _), (2, _), (3, _), (4, _), (31, _)] ⟨rfl, rfl, rfl, rfl, rfl, trivial⟩ ?_
            refine N.then ?_
            refine E.condT rfl ?_
            refine E.region ?_
            refine X.mv rfl rfl rfl rfl rfl ?_
            refine X.nilP rfl rfl rfl rfl rfl ?_
            refine X.fld rfl rfl rfl rfl rfl Tryd.off47_1 ?_
            refine X.ld rfl rfl rfl rfl Tryd.ag3 (hP) (rfl) ?_
            refine X.addE (zz := ((st.at_ + 1 : Nat) : Int)) rfl rfl rfl rfl rfl rfl (by rw [IntWalk.i64_in _ (by omega)] <;> omega) ?_
            refine X.nilP rfl rfl rfl rfl rfl ?_
            refine X.fld rfl rfl rfl rfl rfl Tryd.off47_1 ?_
            refine X.st rfl rfl rfl rfl rfl rfl rfl Tryd.sz3 hP (by show 1 < 4; omega) ?_
            intro H4 h4 hk4
            replace hP : PH p s (adv st) H4 := h4
            replace hkk := hkk.trans hk4 (by simp)
            refine X.done [(0, _), (2, _), (3, _), (4, _)] ⟨rfl, rfl, rfl, rfl, trivial⟩ ?_
            refine N.blk ?_
            refine N.then ?_
            refine E.seq ?_
            refine E.seq ?_
            refine E.region ?_
            refine X.mv rfl rfl rfl rfl rfl ?_
            refine X.done [(0, _), (2, _), (3, _), (4, _), (54, _)] ⟨rfl, rfl, rfl, rfl, rfl, trivial⟩ ?_
            refine N.then ?_
            refine E.block ?_
            refine E.seq ?_
            refine E.region ?_
            refine X.eqlF rfl rfl rfl rfl rfl rfl (by omega) ?_
            refine X.asg rfl rfl rfl rfl rfl ?_
            refine X.done [(0, _), (2, _), (3, _), (4, _), (54, _), (55, _)] ⟨rfl, rfl, rfl, rfl, rfl, rfl, trivial⟩ ?_
            refine N.then ?_
            refine E.condF rfl ?_
            refine E.seq ?_
            refine E.region ?_
            refine X.eqlF rfl rfl rfl rfl rfl rfl (by omega) ?_
            refine X.asg rfl rfl rfl rfl rfl ?_
            refine X.done [(0, _), (2, _), (3, _), (4, _), (54, _), (66, _)] ⟨rfl, rfl, rfl, rfl, rfl, rfl, trivial⟩ ?_
            refine N.then ?_
            refine E.condF rfl ?_
            refine E.seq ?_
            refine E.region ?_
            refine X.eqlF rfl rfl rfl rfl rfl rfl (by omega) ?_
            refine X.asg rfl rfl rfl rfl rfl ?_
            refine X.done [(2, _), (4, _), (72, _)] ⟨rfl, rfl, rfl, trivial⟩ ?_
            refine N.then ?_
            refine E.condF rfl ?_
            refine E.skip ?_
            refine N.blk ?_
            refine N.then ?_
            refine E.seq ?_
            refine E.region ?_
            refine X.mv rfl rfl rfl rfl rfl ?_
            refine X.call rfl rfl rfl rfl rfl Tryd.cl63 (single_ct c _ hc8) ?_
            rintro _ H7 ⟨rfl, hk7⟩
            replace hP := hk7.keep hP (by simp)
            replace hkk := hkk.trans hk7 (by simp)
            refine X.call rfl rfl rfl rfl rfl Tryd.cl60 (set_ct (sRg c c) _) ?_
            rintro v9 H9 ⟨hr9, hk9⟩
            replace hr9 := hr9.from hkk.size
            replace hP := hk9.keep hP (by simp)
            replace hkk := hkk.trans hk9 (by simp)
            refine X.asg rfl rfl rfl rfl rfl ?_
            refine X.done [(2, _)] ⟨rfl, trivial⟩ ?_
            refine N.then ?_
            refine E.ret ?_
            rw [atm_6 ec (by omega) hsp]
            exact N.retH [_] ⟨_, _, rfl, rfl, rfl⟩ ⟨hr9, hP, hkk⟩
          · refine X.notT rfl rfl rfl rfl rfl ?_
            refine X.pickF rfl rfl rfl rfl rfl rfl ?_
            refine X.asg rfl rfl rfl rfl rfl ?_
            refine X.done [(0, _), (2, _), (3, _), (4, _), (31, _)] ⟨rfl, rfl, rfl, rfl, rfl, trivial⟩ ?_
            refine N.then ?_
            refine E.condF rfl ?_
            refine E.seq ?_
            refine E.region ?_
            refine X.mv rfl rfl rfl rfl rfl ?_
            refine X.mv rfl rfl rfl rfl rfl ?_
            refine X.call rfl rfl rfl rfl rfl Tryd.cl24 (fail_ct s p _ 15 _ _ hP) ?_
            rintro _ H8 ⟨rfl, hPn, hk8⟩
            replace hP := hPn
            replace hkk := hkk.trans hk8 (by simp)
            refine X.done [(0, _), (2, _), (3, _), (4, _)] ⟨rfl, rfl, rfl, rfl, trivial⟩ ?_
            refine N.then ?_
            refine E.seq ?_
            refine E.region ?_
            refine X.asg rfl rfl rfl rfl rfl ?_
            refine X.done [(0, _), (2, _), (3, _), (4, _)] ⟨rfl, rfl, rfl, rfl, trivial⟩ ?_
            refine N.then ?_
            refine E.ret ?_
            refine N.blkR ?_
            refine N.thenR ?_
            rw [atm_5 ec (by omega) hsp]
            exact N.retH [_] ⟨_, _, rfl, rfl, rfl⟩ ⟨⟨NR.nil _, fun b hb => absurd (show b ∈ ([] : List Nat) from hb) (by simp)⟩, hP, hkk⟩

theorem rep_ct (s : Bs) (n : Nat) (A : St → List Nd × St) (hA : AC s n A) (hOK : AOK s n A) (p : Nat) (st0 : St) (H : Heap) (hP0 : PH p s st0 H) (hs : s.length ≤ 1000) (hT : Tab H) (hp0 : p ≠ 0) (hok0 : (nx s st0).2 = true) (hn : Mq s st0 ≤ n) : Ct Tryd.prog 48 #[ptr p] H (RetN p s H (rep A s st0)) := by
  have hps := lt_of hP0
  obtain ⟨ho1, ho2⟩ := atm_ok hOK hok0 hn
  have hsx := Classical.em True
  refine Ct.into 45 Tryd.func48 rfl [(0, ptr p)] rfl ⟨rfl, trivial⟩ ?_
  refine E.seq ?_
  refine E.region ?_
  refine X.asg rfl rfl rfl rfl rfl ?_
  refine X.done [(0, _), (2, _)] ⟨rfl, rfl, trivial⟩ ?_
  refine N.then ?_
  refine E.seq ?_
  refine E.region ?_
  refine X.mv rfl rfl rfl rfl rfl ?_
  refine X.call rfl rfl rfl rfl rfl Tryd.cl57 (atom_ct s n A hA hOK p st0 H hP0 hs hT hp0 hok0 hn) ?_
  rintro v3 H1 ⟨hr1, hP1, hk1⟩
  refine X.asg rfl rfl rfl rfl rfl ?_
  refine X.done [(0, _), (2, _), (3, _)] ⟨rfl, rfl, rfl, trivial⟩ ?_
  refine N.then ?_
  refine E.block ?_
  refine E.loop (fun (q : PQ) => [(0, ptr p), (2, .slice none 0 0), (3, q.v)]) (fun (q : PQ) H' => repF s q.f q.l q.st = rep A s st0 ∧ Mq s q.st < q.f ∧ NRF H H' q.v q.l ∧ PH p s q.st H' ∧ q.st.at_ ≤ s.length ∧ q.l.length ≤ 2 * q.st.at_ + 1 ∧ Kp [p] H H') (fun (q : PQ) => q.f) ⟨s.length + 2, (atm A s st0).1, v3, (atm A s st0).2⟩ ⟨rfl, rfl, rfl, trivial⟩ ⟨rfl, by show Mq s (atm A s st0).2 < s.length + 2; unfold Mq; split <;> omega, hr1, hP1, ho1.len, by show (atm A s st0).1.length ≤ 2 * (atm A s st0).2.at_ + 1; omega, hk1⟩ ?_
  rintro ⟨f, l, w, st⟩ H3 hJ
  dsimp only at hJ ⊢
  obtain ⟨hJ, hf, hr, hP, hat, hll, hkk⟩ := hJ
  refine E.block ?_
  refine E.seq ?_
  refine E.region ?_
  refine X.build rfl rfl rfl rfl rfl build_none ?_
  refine X.alloc (z := .agg ([.int .i64 0, .int .i64 0, .int .u64 0, .int .u64 0, .int .u64 0, .int .u64 0, .int .i64 0, .int .i64 0] : List Value).toArray) (cs := [.int .i64 0, .int .i64 0, .int .u64 0, .int .u64 0, .int .u64 0, .int .u64 0, .int .i64 0, .int .i64 0]) rfl rfl rfl rfl (by kernel_rfl) rfl ?_
  intro b4 H4 hn4 hb4 hk4
  have hne4 : b4 ≠ p := by have := lt_of hP; omega
  have hsz4 := hkk.size
  have hnw4 : b4 ∉ blk w := fun h => by have := (hr.2 b4 h).2; omega
  replace hP := hk4.keep hP (by simp)
  replace hr := hr.keepN hk4
  replace hkk := hkk.trans hk4 (by simp)
  refine X.stA rfl rfl rfl rfl rfl rfl (ncel_one _) Tryd.sz38 hb4 (by show 0 + 8 ≤ 8; omega) ?_
  intro H5 hb4n hk5
  rw [splice_all (by rfl)] at hb4n
  replace hb4 := hb4n
  replace hP := hk5.keep hP (by simp; exact fun h => hne4 h.symm)
  replace hr : NRF H H5 w l := ⟨hr.1.keep hk5 (fun b hb h => hnw4 (by simp at h; exact h ▸ hb)), fun b hb => ⟨(hr.2 b hb).1, Nat.lt_of_lt_of_le (hr.2 b hb).2 hk5.size⟩⟩
  replace hkk := hkk.trans hk5 (by simp; omega)
  refine X.done [(0, _), (2, _), (3, _), (9, _), (4, _)] ⟨rfl, rfl, rfl, rfl, rfl, trivial⟩ ?_
  refine N.then ?_
  refine E.seq ?_
  refine E.seq ?_
  refine E.region ?_
  refine X.mv rfl rfl rfl rfl rfl ?_
  refine X.call rfl rfl rfl rfl rfl Tryd.cl23 (next2_ct s p st _ hP) ?_
  rintro _ Hx ⟨c, bq, ec, hc8, hc0, rfl, e⟩
  obtain rfl := e.symm
  refine X.mv rfl rfl rfl rfl rfl ?_
  refine X.extract rfl rfl rfl rfl rfl rfl ?_
  refine X.extract rfl rfl rfl rfl rfl rfl ?_
  refine X.asg rfl rfl rfl rfl rfl ?_
  refine X.asg rfl rfl rfl rfl rfl ?_
  refine X.done [(0, _), (2, _), (3, _), (9, _), (4, _), (11, _), (12, _), (10, _), (13, _), (14, _), (5, _)] ⟨rfl, rfl, rfl, rfl, rfl, rfl, rfl, rfl, rfl, rfl, rfl, trivial⟩ ?_
  refine N.then ?_
  refine E.seq ?_
  refine E.region ?_
  refine X.mv rfl rfl rfl rfl rfl ?_
  refine X.done [(0, _), (2, _), (3, _), (9, _), (4, _), (11, _), (12, _), (10, _), (13, _), (14, _), (5, _), (15, _)] ⟨rfl, rfl, rfl, rfl, rfl, rfl, rfl, rfl, rfl, rfl, rfl, rfl, trivial⟩ ?_
  refine N.then ?_
  refine E.block ?_
  refine E.seq ?_
  refine E.region ?_
  refine X.eql rfl rfl rfl rfl rfl rfl ?_
  refine X.asg rfl rfl rfl rfl rfl ?_
  refine X.done [(0, _), (2, _), (3, _), (9, _), (4, _), (11, _), (12, _), (10, _), (13, _), (14, _), (5, _), (15, _), (18, _), (17, _)] ⟨rfl, rfl, rfl, rfl, rfl, rfl, rfl, rfl, rfl, rfl, rfl, rfl, rfl, rfl, trivial⟩ ?_
  refine N.then ?_
  refine E.condD rfl (fun hc => ?_) (fun hc => ?_)
  · refine E.region ?_
    refine X.fld rfl rfl rfl rfl rfl Tryd.off38_0 ?_
    refine X.st rfl rfl rfl rfl rfl rfl rfl Tryd.sz3 hb4 (by show 0 < 8; omega) ?_
    intro H7 hb4n hk7
    replace hb4 : H7[b4]? = some (.cells (ncel (knd 5)).toArray 38 (0, 0)) := hb4n
    obtain ⟨xx, exx⟩ : ∃ xx, knd 5 = xx := ⟨_, rfl⟩
    rw [exx] at hb4
    replace hP := hk7.keep hP (by simp; exact fun h => hne4 h.symm)
    replace hr : NRF H H7 w l := ⟨hr.1.keep hk7 (fun b hb h => hnw4 (by simp at h; exact h ▸ hb)), fun b hb => ⟨(hr.2 b hb).1, Nat.lt_of_lt_of_le (hr.2 b hb).2 hk7.size⟩⟩
    replace hkk := hkk.trans hk7 (by simp; omega)
    refine X.done [(0, _), (2, _), (3, _), (9, _), (4, _), (11, _), (12, _), (10, _), (13, _), (14, _), (5, _), (15, _), (18, _), (17, _), (19, _)] ⟨rfl, rfl, rfl, rfl, rfl, rfl, rfl, rfl, rfl, rfl, rfl, rfl, rfl, rfl, rfl, trivial⟩ ?_
    refine N.blk ?_
    refine N.then ?_
    refine E.seq ?_
    have hok : (nx s st).2 = true := by rw [ec]; cases bq; (have := hc0 rfl; omega); rfl
    have hlt := (nx_ok hok).2
    refine E.region ?_
    refine X.mv rfl rfl rfl rfl rfl ?_
    refine X.nilP rfl rfl rfl rfl rfl ?_
    refine X.fld rfl rfl rfl rfl rfl Tryd.off47_1 ?_
    refine X.ld rfl rfl rfl rfl Tryd.ag3 (hP) (rfl) ?_
    refine X.addE (zz := ((st.at_ + 1 : Nat) : Int)) rfl rfl rfl rfl rfl rfl (by rw [IntWalk.i64_in _ (by omega)] <;> omega) ?_
    refine X.nilP rfl rfl rfl rfl rfl ?_
    refine X.fld rfl rfl rfl rfl rfl Tryd.off47_1 ?_
    refine X.st rfl rfl rfl rfl rfl rfl rfl Tryd.sz3 hP (by show 1 < 4; omega) ?_
    intro H8 h8 hk8
    replace hP : PH p s (adv st) H8 := h8
    replace hb4 := hk8.keep hb4 (by simp; exact hne4)
    replace hr := hr.keepP hk8 (by simp; omega)
    replace hkk := hkk.trans hk8 (by simp)
    refine X.done [(0, _), (2, _), (3, _), (9, _), (4, _), (11, _), (12, _), (10, _), (13, _), (14, _), (5, _), (15, _), (18, _), (17, _), (19, _), (34, _), (35, _), (36, _), (37, _), (38, _), (39, _), (40, _)] ⟨rfl, rfl, rfl, rfl, rfl, rfl, rfl, rfl, rfl, rfl, rfl, rfl, rfl, rfl, rfl, rfl, rfl, rfl, rfl, rfl, rfl, rfl, trivial⟩ ?_
    refine N.then ?_
    refine E.region ?_
    refine X.ldA rfl rfl rfl rfl Tryd.ag38 Tryd.sz38 (hb4) (ncel_len xx) zoff ?_
    refine X.mv rfl rfl rfl rfl rfl ?_
    refine X.lit (e := 22) (cs := [w]) rfl rfl rfl rfl rfl (lit22 hr.1) ?_
    intro b43 H11 hn11 hb43 hk11
    replace hP := hk11.keep hP (by simp)
    replace hr := hr.keepN hk11
    replace hkk := hkk.trans hk11 (by simp)
    refine X.call rfl rfl rfl rfl rfl Tryd.cl46 (join_ct xx _ [(w, l)] _ (kr1 hb43 hr.1) (by simp; omega)) ?_
    rintro w7 H12 ⟨h1, h2, h3⟩
    have hr7 : NRF H H12 w7 (jn xx [l]) := ⟨h1.rd, fun b hb => ⟨by have := h2 b hb; have := hkk.size; omega, h1.lt b hb⟩⟩
    replace hP := h3.keep hP (by simp)
    replace hkk := hkk.trans h3 (by simp)
    refine X.asg rfl rfl rfl rfl rfl ?_
    refine X.done [(0, _), (2, _), (3, _), (9, _), (4, _), (11, _), (12, _), (10, _), (13, _), (14, _), (5, _), (15, _), (18, _), (17, _), (19, _), (34, _), (35, _), (36, _), (37, _), (38, _), (39, _), (40, _), (41, _), (42, _), (43, _), (44, _)] ⟨rfl, rfl, rfl, rfl, rfl, rfl, rfl, rfl, rfl, rfl, rfl, rfl, rfl, rfl, rfl, rfl, rfl, rfl, rfl, rfl, rfl, rfl, rfl, rfl, rfl, rfl, trivial⟩ ?_
    refine N.blk ?_
    have hcc : (nx s st).1 = c := by rw [ec]
    first
      | (subst exx
         first
           | exact N.next (G := fun (q : PQ) => _) ⟨f - 1, jn (knd 5) [l], w7, (adv st)⟩ ⟨rfl, rfl, rfl, trivial⟩ ⟨rF_1 hJ hf (by omega), by have := (sq_adv hok).lt; show Mq s (adv st) < f - 1; omega, hr7, hP, (sq_adv hok).len, by rw [jn1_len]; have := (show (adv st).at_ = st.at_ + 1 from rfl); show l.length + 1 ≤ 2 * ((adv st)).at_ + 1; omega, hkk⟩ (by show f - 1 < f; omega)
           | exact N.next (G := fun (q : PQ) => _) ⟨f - 1, jn (knd 6) [l], w7, (adv st)⟩ ⟨rfl, rfl, rfl, trivial⟩ ⟨rF_2 hJ hf (by omega), by have := (sq_adv hok).lt; show Mq s (adv st) < f - 1; omega, hr7, hP, (sq_adv hok).len, by rw [jn1_len]; have := (show (adv st).at_ = st.at_ + 1 from rfl); show l.length + 1 ≤ 2 * ((adv st)).at_ + 1; omega, hkk⟩ (by show f - 1 < f; omega)
           | exact N.next (G := fun (q : PQ) => _) ⟨f - 1, jn (knd 7) [l], w7, (adv st)⟩ ⟨rfl, rfl, rfl, trivial⟩ ⟨rF_3 hJ hf (by omega), by have := (sq_adv hok).lt; show Mq s (adv st) < f - 1; omega, hr7, hP, (sq_adv hok).len, by rw [jn1_len]; have := (show (adv st).at_ = st.at_ + 1 from rfl); show l.length + 1 ≤ 2 * ((adv st)).at_ + 1; omega, hkk⟩ (by show f - 1 < f; omega))
      | (have hsq : Sq s st st2 := by have := sq_tms hok; rw [et] at this; exact this
         have hat2 : st.at_ < st2.at_ := by have := tms_at hok; rw [et] at this; exact this
         exact N.next (G := fun (q : PQ) => _) ⟨f - 1, jn x [l], w7, st2⟩ ⟨rfl, rfl, rfl, trivial⟩ ⟨rF_4 hJ hf (by omega) et, by have := (hsq).lt; show Mq s st2 < f - 1; omega, hr7, hP, (hsq).len, by rw [jn1_len]; have := hat2; show l.length + 1 ≤ 2 * (st2).at_ + 1; omega, hkk⟩ (by show f - 1 < f; omega))
  · refine E.seq ?_
    refine E.region ?_
    refine X.eql rfl rfl rfl rfl rfl rfl ?_
    refine X.asg rfl rfl rfl rfl rfl ?_
    refine X.done [(0, _), (2, _), (3, _), (9, _), (4, _), (11, _), (12, _), (10, _), (13, _), (14, _), (5, _), (15, _), (18, _), (17, _), (21, _), (20, _)] ⟨rfl, rfl, rfl, rfl, rfl, rfl, rfl, rfl, rfl, rfl, rfl, rfl, rfl, rfl, rfl, rfl, trivial⟩ ?_
    refine N.then ?_
    refine E.condD rfl (fun hc => ?_) (fun hc => ?_)
    · refine E.region ?_
      refine X.fld rfl rfl rfl rfl rfl Tryd.off38_0 ?_
      refine X.st rfl rfl rfl rfl rfl rfl rfl Tryd.sz3 hb4 (by show 0 < 8; omega) ?_
      intro H7 hb4n hk7
      replace hb4 : H7[b4]? = some (.cells (ncel (knd 6)).toArray 38 (0, 0)) := hb4n
      obtain ⟨xx, exx⟩ : ∃ xx, knd 6 = xx := ⟨_, rfl⟩
      rw [exx] at hb4
      replace hP := hk7.keep hP (by simp; exact fun h => hne4 h.symm)
      replace hr : NRF H H7 w l := ⟨hr.1.keep hk7 (fun b hb h => hnw4 (by simp at h; exact h ▸ hb)), fun b hb => ⟨(hr.2 b hb).1, Nat.lt_of_lt_of_le (hr.2 b hb).2 hk7.size⟩⟩
      replace hkk := hkk.trans hk7 (by simp; omega)
      refine X.done [(0, _), (2, _), (3, _), (9, _), (4, _), (11, _), (12, _), (10, _), (13, _), (14, _), (5, _), (15, _), (18, _), (17, _), (21, _), (20, _), (22, _)] ⟨rfl, rfl, rfl, rfl, rfl, rfl, rfl, rfl, rfl, rfl, rfl, rfl, rfl, rfl, rfl, rfl, rfl, trivial⟩ ?_
      refine N.blk ?_
      refine N.then ?_
      refine E.seq ?_
      have hok : (nx s st).2 = true := by rw [ec]; cases bq; (have := hc0 rfl; omega); rfl
      have hlt := (nx_ok hok).2
      refine E.region ?_
      refine X.mv rfl rfl rfl rfl rfl ?_
      refine X.nilP rfl rfl rfl rfl rfl ?_
      refine X.fld rfl rfl rfl rfl rfl Tryd.off47_1 ?_
      refine X.ld rfl rfl rfl rfl Tryd.ag3 (hP) (rfl) ?_
      refine X.addE (zz := ((st.at_ + 1 : Nat) : Int)) rfl rfl rfl rfl rfl rfl (by rw [IntWalk.i64_in _ (by omega)] <;> omega) ?_
      refine X.nilP rfl rfl rfl rfl rfl ?_
      refine X.fld rfl rfl rfl rfl rfl Tryd.off47_1 ?_
      refine X.st rfl rfl rfl rfl rfl rfl rfl Tryd.sz3 hP (by show 1 < 4; omega) ?_
      intro H8 h8 hk8
      replace hP : PH p s (adv st) H8 := h8
      replace hb4 := hk8.keep hb4 (by simp; exact hne4)
      replace hr := hr.keepP hk8 (by simp; omega)
      replace hkk := hkk.trans hk8 (by simp)
      refine X.done [(0, _), (2, _), (3, _), (9, _), (4, _), (11, _), (12, _), (10, _), (13, _), (14, _), (5, _), (15, _), (18, _), (17, _), (21, _), (20, _), (22, _), (34, _), (35, _), (36, _), (37, _), (38, _), (39, _), (40, _)] ⟨rfl, rfl, rfl, rfl, rfl, rfl, rfl, rfl, rfl, rfl, rfl, rfl, rfl, rfl, rfl, rfl, rfl, rfl, rfl, rfl, rfl, rfl, rfl, rfl, trivial⟩ ?_
      refine N.then ?_
      refine E.region ?_
      refine X.ldA rfl rfl rfl rfl Tryd.ag38 Tryd.sz38 (hb4) (ncel_len xx) zoff ?_
      refine X.mv rfl rfl rfl rfl rfl ?_
      refine X.lit (e := 22) (cs := [w]) rfl rfl rfl rfl rfl (lit22 hr.1) ?_
      intro b43 H11 hn11 hb43 hk11
      replace hP := hk11.keep hP (by simp)
      replace hr := hr.keepN hk11
      replace hkk := hkk.trans hk11 (by simp)
      refine X.call rfl rfl rfl rfl rfl Tryd.cl46 (join_ct xx _ [(w, l)] _ (kr1 hb43 hr.1) (by simp; omega)) ?_
      rintro w7 H12 ⟨h1, h2, h3⟩
      have hr7 : NRF H H12 w7 (jn xx [l]) := ⟨h1.rd, fun b hb => ⟨by have := h2 b hb; have := hkk.size; omega, h1.lt b hb⟩⟩
      replace hP := h3.keep hP (by simp)
      replace hkk := hkk.trans h3 (by simp)
      refine X.asg rfl rfl rfl rfl rfl ?_
      refine X.done [(0, _), (2, _), (3, _), (9, _), (4, _), (11, _), (12, _), (10, _), (13, _), (14, _), (5, _), (15, _), (18, _), (17, _), (21, _), (20, _), (22, _), (34, _), (35, _), (36, _), (37, _), (38, _), (39, _), (40, _), (41, _), (42, _), (43, _), (44, _)] ⟨rfl, rfl, rfl, rfl, rfl, rfl, rfl, rfl, rfl, rfl, rfl, rfl, rfl, rfl, rfl, rfl, rfl, rfl, rfl, rfl, rfl, rfl, rfl, rfl, rfl, rfl, rfl, rfl, trivial⟩ ?_
      refine N.blk ?_
      have hcc : (nx s st).1 = c := by rw [ec]
      first
        | (subst exx
           first
             | exact N.next (G := fun (q : PQ) => _) ⟨f - 1, jn (knd 5) [l], w7, (adv st)⟩ ⟨rfl, rfl, rfl, trivial⟩ ⟨rF_1 hJ hf (by omega), by have := (sq_adv hok).lt; show Mq s (adv st) < f - 1; omega, hr7, hP, (sq_adv hok).len, by rw [jn1_len]; have := (show (adv st).at_ = st.at_ + 1 from rfl); show l.length + 1 ≤ 2 * ((adv st)).at_ + 1; omega, hkk⟩ (by show f - 1 < f; omega)
             | exact N.next (G := fun (q : PQ) => _) ⟨f - 1, jn (knd 6) [l], w7, (adv st)⟩ ⟨rfl, rfl, rfl, trivial⟩ ⟨rF_2 hJ hf (by omega), by have := (sq_adv hok).lt; show Mq s (adv st) < f - 1; omega, hr7, hP, (sq_adv hok).len, by rw [jn1_len]; have := (show (adv st).at_ = st.at_ + 1 from rfl); show l.length + 1 ≤ 2 * ((adv st)).at_ + 1; omega, hkk⟩ (by show f - 1 < f; omega)
             | exact N.next (G := fun (q : PQ) => _) ⟨f - 1, jn (knd 7) [l], w7, (adv st)⟩ ⟨rfl, rfl, rfl, trivial⟩ ⟨rF_3 hJ hf (by omega), by have := (sq_adv hok).lt; show Mq s (adv st) < f - 1; omega, hr7, hP, (sq_adv hok).len, by rw [jn1_len]; have := (show (adv st).at_ = st.at_ + 1 from rfl); show l.length + 1 ≤ 2 * ((adv st)).at_ + 1; omega, hkk⟩ (by show f - 1 < f; omega))
        | (have hsq : Sq s st st2 := by have := sq_tms hok; rw [et] at this; exact this
           have hat2 : st.at_ < st2.at_ := by have := tms_at hok; rw [et] at this; exact this
           exact N.next (G := fun (q : PQ) => _) ⟨f - 1, jn x [l], w7, st2⟩ ⟨rfl, rfl, rfl, trivial⟩ ⟨rF_4 hJ hf (by omega) et, by have := (hsq).lt; show Mq s st2 < f - 1; omega, hr7, hP, (hsq).len, by rw [jn1_len]; have := hat2; show l.length + 1 ≤ 2 * (st2).at_ + 1; omega, hkk⟩ (by show f - 1 < f; omega))
    · refine E.seq ?_
      refine E.region ?_
      refine X.eql rfl rfl rfl rfl rfl rfl ?_
      refine X.asg rfl rfl rfl rfl rfl ?_
      refine X.done [(0, _), (2, _), (3, _), (9, _), (4, _), (11, _), (12, _), (10, _), (13, _), (14, _), (5, _), (15, _), (18, _), (17, _), (21, _), (20, _), (24, _), (23, _)] ⟨rfl, rfl, rfl, rfl, rfl, rfl, rfl, rfl, rfl, rfl, rfl, rfl, rfl, rfl, rfl, rfl, rfl, rfl, trivial⟩ ?_
      refine N.then ?_
      refine E.condD rfl (fun hc => ?_) (fun hc => ?_)
      · refine E.region ?_
        refine X.fld rfl rfl rfl rfl rfl Tryd.off38_0 ?_
        refine X.st rfl rfl rfl rfl rfl rfl rfl Tryd.sz3 hb4 (by show 0 < 8; omega) ?_
        intro H7 hb4n hk7
        replace hb4 : H7[b4]? = some (.cells (ncel (knd 7)).toArray 38 (0, 0)) := hb4n
        obtain ⟨xx, exx⟩ : ∃ xx, knd 7 = xx := ⟨_, rfl⟩
        rw [exx] at hb4
        replace hP := hk7.keep hP (by simp; exact fun h => hne4 h.symm)
        replace hr : NRF H H7 w l := ⟨hr.1.keep hk7 (fun b hb h => hnw4 (by simp at h; exact h ▸ hb)), fun b hb => ⟨(hr.2 b hb).1, Nat.lt_of_lt_of_le (hr.2 b hb).2 hk7.size⟩⟩
        replace hkk := hkk.trans hk7 (by simp; omega)
        refine X.done [(0, _), (2, _), (3, _), (9, _), (4, _), (11, _), (12, _), (10, _), (13, _), (14, _), (5, _), (15, _), (18, _), (17, _), (21, _), (20, _), (24, _), (23, _), (25, _)] ⟨rfl, rfl, rfl, rfl, rfl, rfl, rfl, rfl, rfl, rfl, rfl, rfl, rfl, rfl, rfl, rfl, rfl, rfl, rfl, trivial⟩ ?_
        refine N.blk ?_
        refine N.then ?_
        refine E.seq ?_
        have hok : (nx s st).2 = true := by rw [ec]; cases bq; (have := hc0 rfl; omega); rfl
        have hlt := (nx_ok hok).2
        refine E.region ?_
        refine X.mv rfl rfl rfl rfl rfl ?_
        refine X.nilP rfl rfl rfl rfl rfl ?_
        refine X.fld rfl rfl rfl rfl rfl Tryd.off47_1 ?_
        refine X.ld rfl rfl rfl rfl Tryd.ag3 (hP) (rfl) ?_
        refine X.addE (zz := ((st.at_ + 1 : Nat) : Int)) rfl rfl rfl rfl rfl rfl (by rw [IntWalk.i64_in _ (by omega)] <;> omega) ?_
        refine X.nilP rfl rfl rfl rfl rfl ?_
        refine X.fld rfl rfl rfl rfl rfl Tryd.off47_1 ?_
        refine X.st rfl rfl rfl rfl rfl rfl rfl Tryd.sz3 hP (by show 1 < 4; omega) ?_
        intro H8 h8 hk8
        replace hP : PH p s (adv st) H8 := h8
        replace hb4 := hk8.keep hb4 (by simp; exact hne4)
        replace hr := hr.keepP hk8 (by simp; omega)
        replace hkk := hkk.trans hk8 (by simp)
        refine X.done [(0, _), (2, _), (3, _), (9, _), (4, _), (11, _), (12, _), (10, _), (13, _), (14, _), (5, _), (15, _), (18, _), (17, _), (21, _), (20, _), (24, _), (23, _), (25, _), (34, _), (35, _), (36, _), (37, _), (38, _), (39, _), (40, _)] ⟨rfl, rfl, rfl, rfl, rfl, rfl, rfl, rfl, rfl, rfl, rfl, rfl, rfl, rfl, rfl, rfl, rfl, rfl, rfl, rfl, rfl, rfl, rfl, rfl, rfl, rfl, trivial⟩ ?_
        refine N.then ?_
        refine E.region ?_
        refine X.ldA rfl rfl rfl rfl Tryd.ag38 Tryd.sz38 (hb4) (ncel_len xx) zoff ?_
        refine X.mv rfl rfl rfl rfl rfl ?_
        refine X.lit (e := 22) (cs := [w]) rfl rfl rfl rfl rfl (lit22 hr.1) ?_
        intro b43 H11 hn11 hb43 hk11
        replace hP := hk11.keep hP (by simp)
        replace hr := hr.keepN hk11
        replace hkk := hkk.trans hk11 (by simp)
        refine X.call rfl rfl rfl rfl rfl Tryd.cl46 (join_ct xx _ [(w, l)] _ (kr1 hb43 hr.1) (by simp; omega)) ?_
        rintro w7 H12 ⟨h1, h2, h3⟩
        have hr7 : NRF H H12 w7 (jn xx [l]) := ⟨h1.rd, fun b hb => ⟨by have := h2 b hb; have := hkk.size; omega, h1.lt b hb⟩⟩
        replace hP := h3.keep hP (by simp)
        replace hkk := hkk.trans h3 (by simp)
        refine X.asg rfl rfl rfl rfl rfl ?_
        refine X.done [(0, _), (2, _), (3, _), (9, _), (4, _), (11, _), (12, _), (10, _), (13, _), (14, _), (5, _), (15, _), (18, _), (17, _), (21, _), (20, _), (24, _), (23, _), (25, _), (34, _), (35, _), (36, _), (37, _), (38, _), (39, _), (40, _), (41, _), (42, _), (43, _), (44, _)] ⟨rfl, rfl, rfl, rfl, rfl, rfl, rfl, rfl, rfl, rfl, rfl, rfl, rfl, rfl, rfl, rfl, rfl, rfl, rfl, rfl, rfl, rfl, rfl, rfl, rfl, rfl, rfl, rfl, rfl, rfl, trivial⟩ ?_
        refine N.blk ?_
        have hcc : (nx s st).1 = c := by rw [ec]
        first
          | (subst exx
             first
               | exact N.next (G := fun (q : PQ) => _) ⟨f - 1, jn (knd 5) [l], w7, (adv st)⟩ ⟨rfl, rfl, rfl, trivial⟩ ⟨rF_1 hJ hf (by omega), by have := (sq_adv hok).lt; show Mq s (adv st) < f - 1; omega, hr7, hP, (sq_adv hok).len, by rw [jn1_len]; have := (show (adv st).at_ = st.at_ + 1 from rfl); show l.length + 1 ≤ 2 * ((adv st)).at_ + 1; omega, hkk⟩ (by show f - 1 < f; omega)
               | exact N.next (G := fun (q : PQ) => _) ⟨f - 1, jn (knd 6) [l], w7, (adv st)⟩ ⟨rfl, rfl, rfl, trivial⟩ ⟨rF_2 hJ hf (by omega), by have := (sq_adv hok).lt; show Mq s (adv st) < f - 1; omega, hr7, hP, (sq_adv hok).len, by rw [jn1_len]; have := (show (adv st).at_ = st.at_ + 1 from rfl); show l.length + 1 ≤ 2 * ((adv st)).at_ + 1; omega, hkk⟩ (by show f - 1 < f; omega)
               | exact N.next (G := fun (q : PQ) => _) ⟨f - 1, jn (knd 7) [l], w7, (adv st)⟩ ⟨rfl, rfl, rfl, trivial⟩ ⟨rF_3 hJ hf (by omega), by have := (sq_adv hok).lt; show Mq s (adv st) < f - 1; omega, hr7, hP, (sq_adv hok).len, by rw [jn1_len]; have := (show (adv st).at_ = st.at_ + 1 from rfl); show l.length + 1 ≤ 2 * ((adv st)).at_ + 1; omega, hkk⟩ (by show f - 1 < f; omega))
          | (have hsq : Sq s st st2 := by have := sq_tms hok; rw [et] at this; exact this
             have hat2 : st.at_ < st2.at_ := by have := tms_at hok; rw [et] at this; exact this
             exact N.next (G := fun (q : PQ) => _) ⟨f - 1, jn x [l], w7, st2⟩ ⟨rfl, rfl, rfl, trivial⟩ ⟨rF_4 hJ hf (by omega) et, by have := (hsq).lt; show Mq s st2 < f - 1; omega, hr7, hP, (hsq).len, by rw [jn1_len]; have := hat2; show l.length + 1 ≤ 2 * (st2).at_ + 1; omega, hkk⟩ (by show f - 1 < f; omega))
      · refine E.seq ?_
        refine E.region ?_
        refine X.eql rfl rfl rfl rfl rfl rfl ?_
        refine X.asg rfl rfl rfl rfl rfl ?_
        refine X.done [(0, _), (2, _), (3, _), (9, _), (4, _), (11, _), (12, _), (10, _), (13, _), (14, _), (5, _), (15, _), (18, _), (17, _), (21, _), (20, _), (24, _), (23, _), (27, _), (26, _)] ⟨rfl, rfl, rfl, rfl, rfl, rfl, rfl, rfl, rfl, rfl, rfl, rfl, rfl, rfl, rfl, rfl, rfl, rfl, rfl, rfl, trivial⟩ ?_
        refine N.then ?_
        refine E.condD rfl (fun hc => ?_) (fun hc => ?_)
        · refine E.seq ?_
          have hok : (nx s st).2 = true := by rw [ec]; cases bq; (have := hc0 rfl; omega); rfl
          refine E.region ?_
          refine X.mv rfl rfl rfl rfl rfl ?_
          refine X.call rfl rfl rfl rfl rfl Tryd.cl58 (times_ct s p st _ hP hs (by rw [ec]; cases bq; (have := hc0 rfl; omega); rfl)) ?_
          rintro _ H6 ⟨rfl, hPn, hk6⟩
          obtain ⟨x, st2, et⟩ : ∃ x st2, tms s st = (x, st2) := ⟨_, _, rfl⟩
          rw [et] at hPn ⊢
          have hP6 := hPn
          replace hb4 := hk6.keep hb4 (by simp; exact hne4)
          replace hr := hr.keepP hk6 (by simp; omega)
          replace hkk := hkk.trans hk6 (by simp)
          refine X.stA rfl rfl rfl rfl rfl rfl (ncel_one _) Tryd.sz38 hb4 (by show 0 + 8 ≤ 8; omega) ?_
          intro H7 hb4n hk7
          rw [splice_all (by rfl)] at hb4n
          replace hb4 := hb4n
          have hP := hk7.keep hP6 (by simp; exact fun h => hne4 h.symm)
          replace hr : NRF H H7 w l := ⟨hr.1.keep hk7 (fun b hb h => hnw4 (by simp at h; exact h ▸ hb)), fun b hb => ⟨(hr.2 b hb).1, Nat.lt_of_lt_of_le (hr.2 b hb).2 hk7.size⟩⟩
          replace hkk := hkk.trans hk7 (by simp; omega)
          refine X.done [(0, _), (2, _), (3, _), (9, _), (4, _), (11, _), (12, _), (10, _), (13, _), (14, _), (5, _), (15, _), (18, _), (17, _), (21, _), (20, _), (24, _), (23, _), (27, _), (26, _), (28, _), (29, _)] ⟨rfl, rfl, rfl, rfl, rfl, rfl, rfl, rfl, rfl, rfl, rfl, rfl, rfl, rfl, rfl, rfl, rfl, rfl, rfl, rfl, rfl, rfl, trivial⟩ ?_
          refine N.then ?_
          refine E.seq ?_
          refine E.region ?_
          refine X.ldA rfl rfl rfl rfl Tryd.ag38 Tryd.sz38 (hb4) (ncel_len x) zoff ?_
          refine X.mv rfl rfl rfl rfl rfl ?_
          refine X.lit (e := 22) (cs := [w]) rfl rfl rfl rfl rfl (lit22 hr.1) ?_
          intro b32 H11 hn11 hb32 hk11
          replace hP := hk11.keep hP (by simp)
          replace hr := hr.keepN hk11
          replace hkk := hkk.trans hk11 (by simp)
          refine X.call rfl rfl rfl rfl rfl Tryd.cl46 (join_ct x _ [(w, l)] _ (kr1 hb32 hr.1) (by simp; omega)) ?_
          rintro w7 H12 ⟨h1, h2, h3⟩
          have hr7 : NRF H H12 w7 (jn x [l]) := ⟨h1.rd, fun b hb => ⟨by have := h2 b hb; have := hkk.size; omega, h1.lt b hb⟩⟩
          replace hP := h3.keep hP (by simp)
          replace hkk := hkk.trans h3 (by simp)
          refine X.asg rfl rfl rfl rfl rfl ?_
          refine X.done [(0, _), (2, _), (3, _), (9, _), (4, _), (11, _), (12, _), (10, _), (13, _), (14, _), (5, _), (15, _), (18, _), (17, _), (21, _), (20, _), (24, _), (23, _), (27, _), (26, _), (28, _), (29, _), (30, _), (31, _), (32, _), (33, _)] ⟨rfl, rfl, rfl, rfl, rfl, rfl, rfl, rfl, rfl, rfl, rfl, rfl, rfl, rfl, rfl, rfl, rfl, rfl, rfl, rfl, rfl, rfl, rfl, rfl, rfl, rfl, trivial⟩ ?_
          refine N.then ?_
          refine E.exit ?_
          refine N.blkO rfl ?_
          refine N.thenX ?_
          refine N.blkX ?_
          have hcc : (nx s st).1 = c := by rw [ec]
          first
            | (subst exx
               first
                 | exact N.next (G := fun (q : PQ) => _) ⟨f - 1, jn (knd 5) [l], w7, (adv st)⟩ ⟨rfl, rfl, rfl, trivial⟩ ⟨rF_1 hJ hf (by omega), by have := (sq_adv hok).lt; show Mq s (adv st) < f - 1; omega, hr7, hP, (sq_adv hok).len, by rw [jn1_len]; have := (show (adv st).at_ = st.at_ + 1 from rfl); show l.length + 1 ≤ 2 * ((adv st)).at_ + 1; omega, hkk⟩ (by show f - 1 < f; omega)
                 | exact N.next (G := fun (q : PQ) => _) ⟨f - 1, jn (knd 6) [l], w7, (adv st)⟩ ⟨rfl, rfl, rfl, trivial⟩ ⟨rF_2 hJ hf (by omega), by have := (sq_adv hok).lt; show Mq s (adv st) < f - 1; omega, hr7, hP, (sq_adv hok).len, by rw [jn1_len]; have := (show (adv st).at_ = st.at_ + 1 from rfl); show l.length + 1 ≤ 2 * ((adv st)).at_ + 1; omega, hkk⟩ (by show f - 1 < f; omega)
                 | exact N.next (G := fun (q : PQ) => _) ⟨f - 1, jn (knd 7) [l], w7, (adv st)⟩ ⟨rfl, rfl, rfl, trivial⟩ ⟨rF_3 hJ hf (by omega), by have := (sq_adv hok).lt; show Mq s (adv st) < f - 1; omega, hr7, hP, (sq_adv hok).len, by rw [jn1_len]; have := (show (adv st).at_ = st.at_ + 1 from rfl); show l.length + 1 ≤ 2 * ((adv st)).at_ + 1; omega, hkk⟩ (by show f - 1 < f; omega))
            | (have hsq : Sq s st st2 := by have := sq_tms hok; rw [et] at this; exact this
               have hat2 : st.at_ < st2.at_ := by have := tms_at hok; rw [et] at this; exact this
               exact N.next (G := fun (q : PQ) => _) ⟨f - 1, jn x [l], w7, st2⟩ ⟨rfl, rfl, rfl, trivial⟩ ⟨rF_4 hJ hf (by omega) et, by have := (hsq).lt; show Mq s st2 < f - 1; omega, hr7, hP, (hsq).len, by rw [jn1_len]; have := hat2; show l.length + 1 ≤ 2 * (st2).at_ + 1; omega, hkk⟩ (by show f - 1 < f; omega))
        · refine E.seq ?_
          refine E.region ?_
          refine X.mv rfl rfl rfl rfl rfl ?_
          refine X.asg rfl rfl rfl rfl rfl ?_
          refine X.done [(0, _), (2, _), (3, _), (9, _), (4, _), (11, _), (12, _), (10, _), (13, _), (14, _), (5, _), (15, _), (18, _), (17, _), (21, _), (20, _), (24, _), (23, _), (27, _), (26, _), (16, _)] ⟨rfl, rfl, rfl, rfl, rfl, rfl, rfl, rfl, rfl, rfl, rfl, rfl, rfl, rfl, rfl, rfl, rfl, rfl, rfl, rfl, rfl, trivial⟩ ?_
          refine N.then ?_
          refine E.ret ?_
          refine N.blkR ?_
          refine N.thenR ?_
          refine N.blkR ?_
          refine N.loopR ?_
          refine N.blkR ?_
          rw [rF_0 hJ hf (by rw [ec]; dsimp only; omega)]
          exact N.retH [_] ⟨_, _, rfl, rfl, rfl⟩ ⟨hr, hP, hkk⟩

end Go.Proofs.YtcandjdomeompaaDoor