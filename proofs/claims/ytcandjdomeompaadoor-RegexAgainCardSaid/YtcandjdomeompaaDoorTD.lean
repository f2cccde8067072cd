/- The walks: a tree as text, by the program. -/
import Derived.Test.YtcandjdomeompaaDoorTM
namespace Go.Proofs.YtcandjdomeompaaDoor
open Go.SX Go.Chr
attribute [local irreducible] X E N Ct
set_option linter.unusedVariables false
set_option linter.unusedSimpArgs false
abbrev wcl (v : Value) (i : Nat) : List Value := [v, i64 (i : Nat)]
abbrev WH (w : Nat) (v : Value) (i : Nat) (H : Heap) : Prop := H[w]? = some (.cells (wcl v i).toArray 42 (0, 0))
theorem shC_snoc : ∀ (a : List T) (t : T), shC (a ++ [t]) = shC a ++ wrp (rk t) 2 (shT t)
  | [], t => by simp [shC]
  | u :: a, t => by simp [shC, shC_snoc a t]
theorem shB_snoc : ∀ (a : List T) (t : T), shB (a ++ [t]) = shB a ++ (124 :: wrp (rk t) 1 (shT t))
  | [], t => by simp [shB]
  | u :: a, t => by simp [shB, shB_snoc a t]
theorem shA_one (t : T) : shA [t] = wrp (rk t) 1 (shT t) := by simp [shA, shB]
theorem shA_snoc (u : T) (a : List T) (t : T) : shA ((u :: a) ++ [t]) = shA (u :: a) ++ (124 :: wrp (rk t) 1 (shT t)) := by
  simp [shA, shB_snoc]
theorem take_one {ks : List T} {i : Nat} {t : T} (h : ks[i]? = some t) : ks.take (i + 1) = ks.take i ++ [t] := by rw [List.take_add_one, h]; rfl
theorem shA_take {ks : List T} {i : Nat} {t : T} (h : ks[i]? = some t) (h0 : 0 < i) : shA (ks.take (i + 1)) = shA (ks.take i) ++ (124 :: wrp (rk t) 1 (shT t)) := by
  rw [take_one h]
  cases ks with
  | nil => simp at h
  | cons u r =>
    obtain ⟨i, rfl⟩ : ∃ j, i = j + 1 := ⟨i - 1, by omega⟩
    rw [List.take_succ_cons]; exact shA_snoc _ _ _
theorem shA_first {ks : List T} {i : Nat} {t : T} (h : ks[i]? = some t) (h0 : i = 0) : shA (ks.take (i + 1)) = shA (ks.take i) ++ wrp (rk t) 1 (shT t) := by
  subst h0; rw [take_one h]; simp [shA, shB]
theorem shC_take {ks : List T} {i : Nat} {t : T} (h : ks[i]? = some t) : shC (ks.take (i + 1)) = shC (ks.take i) ++ wrp (rk t) 2 (shT t) := by rw [take_one h, shC_snoc]
theorem flats_take {ks : List T} {i : Nat} {t : T} (h : ks[i]? = some t) : flats (ks.take (i + 1)) = flats (ks.take i) ++ flat t := by rw [take_one h, flats_app]; simp [flats]
theorem flats_split {ks : List T} {i : Nat} {t : T} (h : ks[i]? = some t) : flats ks = flats (ks.take i) ++ flat t ++ flats (ks.drop (i + 1)) := by
  conv => lhs; rw [← List.take_append_drop (i + 1) ks, flats_app, flats_take h]
theorem get_t {ks : List T} {i : Nat} (h : i < ks.length) : ∃ t, ks[i]? = some t := ⟨_, List.getElem?_eq_getElem h⟩
theorem kid_at {l pre post : List Nd} {x : Nd} {ks : List T} {i : Nat} {t : T} (hl : l = pre ++ flat (.nd x ks) ++ post) (h : ks[i]? = some t) :
    l = (pre ++ [x] ++ flats (ks.take i)) ++ flat t ++ (flats (ks.drop (i + 1)) ++ post) ∧ (pre ++ [x] ++ flats (ks.take i)).length = pre.length + 1 + (flats (ks.take i)).length := by
  refine ⟨?_, by simp; omega⟩
  rw [hl, flat, flats_split h]; simp
theorem root_at {l pre post : List Nd} {x : Nd} {ks : List T} (hl : l = pre ++ flat (.nd x ks) ++ post) : l[pre.length]? = some x := by
  rw [hl, List.append_assoc, List.getElem?_append_right (Nat.le_refl _)]; simp [flat]
theorem root_k {l pre post : List Nd} {t : T} (hl : l = pre ++ flat t ++ post) : ∃ y, l[pre.length]? = some y ∧ y.kind = rk t := by
  cases t with
  | nd x ks => exact ⟨x, root_at hl, rfl⟩
theorem flat_le {l pre post : List Nd} {t : T} (hl : l = pre ++ flat t ++ post) : pre.length + (flat t).length ≤ l.length := by rw [hl]; simp
theorem flats_tl {ks : List T} {i : Nat} : (flats (ks.take i)).length ≤ (flats ks).length := by
  conv => rhs; rw [← List.take_append_drop i ks, flats_app, List.length_append]
  omega
theorem shC_tl {ks : List T} {i : Nat} {n : Nat} (h : (flats ks).length ≤ n) : (shC (ks.take i)).length ≤ 4000 * n := by
  have h1 := shC_len (ks.take i); have h2 := flats_tl (ks := ks) (i := i); omega
theorem shA_tl {ks : List T} {i : Nat} {n : Nat} (h : (flats ks).length ≤ n) : (shA (ks.take i)).length ≤ 4000 * n := by
  have h1 := shA_len (ks.take i); have h2 := flats_tl (ks := ks) (i := i); omega
theorem shT_tl {l pre post : List Nd} {t : T} (hl : l = pre ++ flat t ++ post) (h : l.length ≤ 1000) : (shT t).length ≤ 4000000 := by
  have h1 := shT_len t; have h2 := flat_le hl; omega
theorem rt_kid {x : Nd} {ks : List T} {i : Nat} {t : T} (hR : Rt (.nd x ks)) (h : ks[i]? = some t) : Rt t := by
  obtain ⟨⟨h1, h2⟩, h3⟩ := hR
  have hs := flats_split h
  have hw : wfs (ks.take i ++ [t] ++ ks.drop (i + 1)) := by rw [← take_one h, List.take_append_drop]; exact h2
  have hw2 := (wfs_app.1 (wfs_app.1 hw).1).2
  exact ⟨hw2.1, fun y hy => h3 y (by rw [flat, hs]; simp [hy])⟩
section
variable {x : Nd} {ks : List T}
theorem shT_1 (h : x.kind = 1) : shT (.nd x ks) = shS x.set := by rw [shT, if_pos h]
theorem shT_2 (h : x.kind = 2) : shT (.nd x ks) = [40, 41] := by rw [shT, if_neg (by omega), if_pos h]
theorem shT_3 (h : x.kind = 3) : shT (.nd x ks) = shC ks := by rw [shT, if_neg (by omega), if_neg (by omega), if_pos h]
theorem shT_4 (h : x.kind = 4) : shT (.nd x ks) = shA ks := by rw [shT, if_neg (by omega), if_neg (by omega), if_neg (by omega), if_pos h]
theorem shT_5 (h : x.kind = 5) : shT (.nd x ks) = shU ks ++ [42] := by rw [shT, if_neg (by omega), if_neg (by omega), if_neg (by omega), if_neg (by omega), sfx, if_pos h]
theorem shT_6 (h : x.kind = 6) : shT (.nd x ks) = shU ks ++ [43] := by rw [shT, if_neg (by omega), if_neg (by omega), if_neg (by omega), if_neg (by omega), sfx, if_neg (by omega), if_pos h]
theorem shT_7 (h : x.kind = 7) : shT (.nd x ks) = shU ks ++ [63] := by rw [shT, if_neg (by omega), if_neg (by omega), if_neg (by omega), if_neg (by omega), sfx, if_neg (by omega), if_neg (by omega), if_pos h]
theorem shT_8 (h : x.kind = 8) : shT (.nd x ks) = shU ks ++ oftV x := by rw [shT, if_neg (by omega), if_neg (by omega), if_neg (by omega), if_neg (by omega), sfx, if_neg (by omega), if_neg (by omega), if_neg (by omega)]
end
theorem one_kid {x : Nd} {ks : List T} (hR : Rt (.nd x ks)) (h : x.kind = 5 ∨ x.kind = 6 ∨ x.kind = 7 ∨ x.kind = 8) : ∃ t, ks = [t] := by
  have h1 := hR.rt x (by simp [flat])
  have h2 := hR.wf.1
  unfold rtP at h1
  exact List.length_eq_one_iff.1 (by omega)
theorem kind_cases {x : Nd} (h : rtP x) : x.kind = 1 ∨ x.kind = 2 ∨ x.kind = 3 ∨ x.kind = 4 ∨ x.kind = 5 ∨ x.kind = 6 ∨ x.kind = 7 ∨ x.kind = 8 := by
  unfold rtP at h; omega
/-- What the writer's next tree's contract is. -/
def WN (l : List Nd) (v : Value) (w : Nat) (t : T) : Prop := ∀ (pre post : List Nd) (H : Heap), l = pre ++ flat t ++ post → WH w v pre.length H → NR H v l → Tab H →
  Ct Tryd.prog 20 #[ptr w] H fun r H' => r = str (shT t) ∧ WH w v (pre.length + (flat t).length) H' ∧ Kp [w] H H'
structure WQ where
  i : Nat
  s : Bs
theorem vlen {s : Bs} {n : Nat} (h : s.length ≤ n) (hn : n ≤ 100000000) : s.length ≤ 100000000 := by omega

theorem part_ct (l pre post : List Nd) (a : Option Addr) (c w : Nat) (t : T) (least : Int) (H : Heap) (hl : l = pre ++ flat t ++ post) (hW : WH w (.slice a l.length c) pre.length H) (hN : NR H (.slice a l.length c) l) (hT : Tab H) (hlen : l.length ≤ 1000) (hn : WN l (.slice a l.length c) w t) : Ct Tryd.prog 29 #[ptr w, i64 least] H fun r H' => r = str (wrp (rk t) least (shT t)) ∧ WH w (.slice a l.length c) (pre.length + (flat t).length) H' ∧ Kp [w] H H' := by
  have hle := flat_le hl
  have hp := flat_pos t
  obtain ⟨y, hy, hyk⟩ := root_k hl
  obtain ⟨bb, oo, cs, ct, fz, hae, hbb, hcc⟩ := hN.at hy
  have hsl := shT_tl hl hlen
  have hkd : cs[oo + pre.length * 8 + 0]? = some (i64 (rk t)) := by rw [← hyk]; exact hcc 0 _ rfl
  refine Ct.into 28 Tryd.func29 rfl [(0, ptr w), (1, i64 least)] rfl ⟨rfl, rfl, trivial⟩ ?_
  refine E.seq ?_
  refine E.region ?_
  refine X.asg rfl rfl rfl rfl rfl ?_
  refine X.done [(0, _), (1, _), (4, _)] ⟨rfl, rfl, rfl, trivial⟩ ?_
  refine N.then ?_
  refine E.seq ?_
  refine E.regionD (fun H' => H' = H) [(0, .pu), (1, .pu), (2, .pu), (3, .st), (4, .pu), (5, .pu), (6, .pu), (7, .st), (8, .pu), (9, .pu), (10, .st), (12, .pu), (11, .mk), (13, .pu), (14, .pu)] Tryd.mixed (by kernel_rfl) (rfl) ?_
  refine X.mv rfl rfl rfl rfl rfl ?_
  refine X.nilP rfl rfl rfl rfl rfl ?_
  refine X.fld rfl rfl rfl rfl rfl Tryd.off42_0 ?_
  refine X.ld rfl rfl rfl rfl Tryd.ag22 (fun H' hF => by rw [hF]; exact hW) (rfl) ?_
  refine X.mv rfl rfl rfl rfl rfl ?_
  refine X.nilP rfl rfl rfl rfl rfl ?_
  refine X.fld rfl rfl rfl rfl rfl Tryd.off42_1 ?_
  refine X.ld rfl rfl rfl rfl Tryd.ag3 (fun H' hF => by rw [hF]; exact hW) (rfl) ?_
  refine X.ixAe rfl rfl rfl rfl rfl rfl Tryd.underlying22 Tryd.sz38 (hae) (by omega) ?_
  refine X.fld rfl rfl rfl rfl rfl Tryd.off38_0 ?_
  refine X.ld rfl rfl rfl rfl Tryd.ag3 (fun H' hF => by rw [hF]; exact hbb) (by exact hkd) ?_
  refine X.mv rfl rfl rfl rfl rfl ?_
  refine X.call rfl rfl rfl rfl rfl Tryd.cl41 (tight_ct (rk t) _) ?_
  rintro _ Hx ⟨rfl, e⟩
  obtain rfl := e.symm
  refine ⟨rfl, ?_⟩
  refine X.lss rfl rfl rfl rfl rfl rfl ?_
  refine X.asg rfl rfl rfl rfl rfl ?_
  refine X.done [(0, _), (4, _), (5, _)] ⟨rfl, rfl, rfl, trivial⟩ ?_
  refine N.then ?_
  refine E.seq ?_
  refine E.region ?_
  refine X.mv rfl rfl rfl rfl rfl ?_
  refine X.call rfl rfl rfl rfl rfl Tryd.cl20 (hn pre post H hl hW hN hT) ?_
  rintro _ H2 ⟨rfl, hW2, hk2⟩
  refine X.asg rfl rfl rfl rfl rfl ?_
  refine X.done [(4, _), (5, _), (6, _)] ⟨rfl, rfl, rfl, trivial⟩ ?_
  refine N.then ?_
  refine E.seq ?_
  refine E.seq ?_
  refine E.region ?_
  refine X.mv rfl rfl rfl rfl rfl ?_
  refine X.done [(4, _), (6, _), (23, _)] ⟨rfl, rfl, rfl, trivial⟩ ?_
  refine N.then ?_
  refine E.condD rfl (fun hc => ?_) (fun hc => ?_)
  · refine E.seq ?_
    refine E.region ?_
    refine X.mv rfl rfl rfl rfl rfl ?_
    refine X.cat rfl rfl rfl rfl rfl rfl (by simp; omega) ?_
    refine X.cat rfl rfl rfl rfl rfl rfl (by simp; omega) ?_
    refine X.asg rfl rfl rfl rfl rfl ?_
    refine X.done [(4, _), (6, _)] ⟨rfl, rfl, trivial⟩ ?_
    refine N.then ?_
    refine E.ret ?_
    refine N.thenR ?_
    exact N.retH [_] ⟨_, _, rfl, rfl, rfl⟩ ⟨by unfold wrp; rw [if_pos (by assumption)]; simp [tup], hW2, hk2⟩
  · refine E.skip ?_
    refine N.then ?_
    refine E.seq ?_
    refine E.region ?_
    refine X.mv rfl rfl rfl rfl rfl ?_
    refine X.asg rfl rfl rfl rfl rfl ?_
    refine X.done [(4, _)] ⟨rfl, trivial⟩ ?_
    refine N.then ?_
    refine E.ret ?_
    exact N.retH [_] ⟨_, _, rfl, rfl, rfl⟩ ⟨by unfold wrp; rw [if_neg (by assumption)]; rfl, hW2, hk2⟩

theorem next_step (l pre post : List Nd) (a : Option Addr) (c w : Nat) (x : Nd) (ks : List T) (H : Heap) (hl : l = pre ++ flat (.nd x ks) ++ post) (hR : Rt (.nd x ks)) (hW0 : WH w (.slice a l.length c) pre.length H) (hN : NR H (.slice a l.length c) l) (hT : Tab H) (hlen : l.length ≤ 1000) (hnw : ∀ b ∈ blk (.slice a l.length c), b ≠ w) (hw0 : w ≠ 0) (hkids : ∀ t ∈ ks, Rt t → WN l (.slice a l.length c) w t) : Ct Tryd.prog 20 #[ptr w] H fun r H' => r = str (shT (.nd x ks)) ∧ WH w (.slice a l.length c) (pre.length + (flat (.nd x ks)).length) H' ∧ Kp [w] H H' := by
  have hle := flat_le hl
  have hx := root_at hl
  have hrx := hR.rt x (by simp [flat])
  have hkc := kind_cases hrx
  have hkx := hR.wf.1
  have hfl0 : (flat (T.nd x ks)).length = (flats ks).length + 1 := by simp [flat]
  have hfl : (flats ks).length ≤ 1000 := by omega
  have hkn1 := flats_len ks
  obtain ⟨bb, oo, cs, ct, fz, hae, hbb, hcc⟩ := hN.at hx
  have hw1 := lt_of hW0
  have hkk := Kp.refl [w] H
  have hss := shS_len x.set
  refine Ct.into 81 Tryd.func20 rfl [(0, ptr w)] rfl ⟨rfl, trivial⟩ ?_
  refine E.seq ?_
  refine E.region ?_
  refine X.asg rfl rfl rfl rfl rfl ?_
  refine X.done [(0, _), (2, _)] ⟨rfl, rfl, trivial⟩ ?_
  refine N.then ?_
  refine E.seq ?_
  refine E.regionD (fun H' => WH w (.slice a l.length c) pre.length H' ∧ H'[bb]? = some (.cells cs.toArray ct fz)) [(0, .pu), (1, .pu), (2, .pu), (3, .st), (4, .pu), (5, .pu), (6, .pu), (7, .st), (8, .pu), (9, .st), (10, .mk), (11, .mv)] Tryd.mixed (by kernel_rfl) (⟨hW0, hbb⟩) ?_
  refine X.mv rfl rfl rfl rfl rfl ?_
  refine X.nilP rfl rfl rfl rfl rfl ?_
  refine X.fld rfl rfl rfl rfl rfl Tryd.off42_0 ?_
  refine X.ld rfl rfl rfl rfl Tryd.ag22 (fun H' hF => hF.1) (rfl) ?_
  refine X.mv rfl rfl rfl rfl rfl ?_
  refine X.nilP rfl rfl rfl rfl rfl ?_
  refine X.fld rfl rfl rfl rfl rfl Tryd.off42_1 ?_
  refine X.ld rfl rfl rfl rfl Tryd.ag3 (fun H' hF => hF.1) (rfl) ?_
  refine X.ixAe rfl rfl rfl rfl rfl rfl Tryd.underlying22 Tryd.sz38 (hae) (by omega) ?_
  refine X.ldA rfl rfl rfl rfl Tryd.ag38 Tryd.sz38 (fun H' hF => hF.2) (ncel_len x) hcc ?_
  refine X.alloc (z := .agg ([.int .i64 0, .int .i64 0, .int .u64 0, .int .u64 0, .int .u64 0, .int .u64 0, .int .i64 0, .int .i64 0] : List Value).toArray) (cs := [.int .i64 0, .int .i64 0, .int .u64 0, .int .u64 0, .int .u64 0, .int .u64 0, .int .i64 0, .int .i64 0]) rfl rfl rfl rfl (by kernel_rfl) rfl ?_
  intro b3 H1 hn1 hb3 hk1
  have hW := hk1.keep hW0 (by simp)
  have hne3 : b3 ≠ w := by omega
  replace hkk := hkk.trans hk1 (by simp)
  refine ⟨⟨hW, hk1.keep hbb (by simp)⟩, ?_⟩
  refine X.stA rfl rfl rfl rfl rfl rfl (ncel_one _) Tryd.sz38 hb3 (by show 0 + 8 ≤ 8; omega) ?_
  intro H2 hb3n hk2
  rw [splice_all (by rfl)] at hb3n
  replace hb3 := hb3n
  replace hW := hk2.keep hW (by simp; exact fun h => hne3 h.symm)
  replace hkk := hkk.trans hk2 (by simp; omega)
  refine X.done [(0, _), (2, _), (3, _)] ⟨rfl, rfl, rfl, trivial⟩ ?_
  refine N.then ?_
  refine E.seq ?_
  refine E.region ?_
  refine X.mv rfl rfl rfl rfl rfl ?_
  refine X.nilP rfl rfl rfl rfl rfl ?_
  refine X.fld rfl rfl rfl rfl rfl Tryd.off42_1 ?_
  refine X.ld rfl rfl rfl rfl Tryd.ag3 (hW) (rfl) ?_
  refine X.addE (zz := ((pre.length + 1 : Nat) : Int)) rfl rfl rfl rfl rfl rfl (by rw [IntWalk.i64_in _ (by omega)] <;> omega) ?_
  refine X.nilP rfl rfl rfl rfl rfl ?_
  refine X.fld rfl rfl rfl rfl rfl Tryd.off42_1 ?_
  refine X.st rfl rfl rfl rfl rfl rfl rfl Tryd.sz3 hW (by show 1 < 2; omega) ?_
  intro H3 hWn hk3
  replace hW : WH w (.slice a l.length c) (pre.length + 1) H3 := hWn
  replace hb3 := hk3.keep hb3 (by simp; exact hne3)
  replace hkk := hkk.trans hk3 (by simp)
  refine X.done [(0, _), (2, _), (3, _)] ⟨rfl, rfl, rfl, trivial⟩ ?_
  refine N.then ?_
  refine E.seq ?_
  refine E.region ?_
  refine X.asg rfl rfl rfl rfl rfl ?_
  refine X.done [(0, _), (2, _), (3, _), (4, _)] ⟨rfl, rfl, rfl, rfl, trivial⟩ ?_
  refine N.then ?_
  refine E.seq ?_
  refine E.seq ?_
  refine E.region ?_
  refine X.fld rfl rfl rfl rfl rfl Tryd.off38_0 ?_
  refine X.ld rfl rfl rfl rfl Tryd.ag3 (hb3) (rfl) ?_
  refine X.done [(0, _), (2, _), (3, _), (4, _), (24, _)] ⟨rfl, rfl, rfl, rfl, rfl, trivial⟩ ?_
  refine N.then ?_
  refine E.block ?_
  refine E.seq ?_
  refine E.region ?_
  refine X.eql rfl rfl rfl rfl rfl rfl ?_
  refine X.asg rfl rfl rfl rfl rfl ?_
  refine X.done [(0, _), (2, _), (3, _), (4, _), (24, _), (25, _)] ⟨rfl, rfl, rfl, rfl, rfl, rfl, trivial⟩ ?_
  refine N.then ?_
  refine E.condD rfl (fun hc => ?_) (fun hc => ?_)
  · refine E.seq ?_
    refine E.region ?_
    refine X.fld rfl rfl rfl rfl rfl Tryd.off38_2 ?_
    refine X.ldA rfl rfl rfl rfl Tryd.ag36 Tryd.sz36 (hb3) (uv4 x.set.2) (ncel_set x) ?_
    refine X.call rfl rfl rfl rfl rfl Tryd.cl28 (show_ct x.set.1 _ x.set.2 (tab_keep hT hw0 hkk)) ?_
    rintro _ H5 ⟨rfl, hk5⟩
    replace hW := hk5.keep hW (by simp)
    replace hkk := hkk.trans hk5 (by simp)
    refine X.asg rfl rfl rfl rfl rfl ?_
    refine X.done [(0, _), (2, _), (3, _)] ⟨rfl, rfl, rfl, trivial⟩ ?_
    refine N.then ?_
    refine E.ret ?_
    refine N.blkR ?_
    refine N.thenR ?_
    rw [shT_1 (by omega), show pre.length + (flat (T.nd x ks)).length = pre.length + 1 by rw [hfl0]; have : ks = [] := List.eq_nil_of_length_eq_zero (by unfold rtP at hrx; omega); subst this; rfl]
    exact N.retH [_] ⟨_, _, rfl, rfl, rfl⟩ ⟨rfl, hW, hkk⟩
  · refine E.seq ?_
    refine E.region ?_
    refine X.eql rfl rfl rfl rfl rfl rfl ?_
    refine X.asg rfl rfl rfl rfl rfl ?_
    refine X.done [(0, _), (2, _), (3, _), (4, _), (24, _), (30, _)] ⟨rfl, rfl, rfl, rfl, rfl, rfl, trivial⟩ ?_
    refine N.then ?_
    refine E.condD rfl (fun hc => ?_) (fun hc => ?_)
    · refine E.seq ?_
      refine E.region ?_
      refine X.asg rfl rfl rfl rfl rfl ?_
      refine X.done [(0, _), (2, _), (3, _)] ⟨rfl, rfl, rfl, trivial⟩ ?_
      refine N.then ?_
      refine E.ret ?_
      refine N.blkR ?_
      refine N.thenR ?_
      rw [shT_2 (by omega), show pre.length + (flat (T.nd x ks)).length = pre.length + 1 by rw [hfl0]; have : ks = [] := List.eq_nil_of_length_eq_zero (by unfold rtP at hrx; omega); subst this; rfl]
      exact N.retH [_] ⟨_, _, rfl, rfl, rfl⟩ ⟨rfl, hW, hkk⟩
    · refine E.seq ?_
      refine E.region ?_
      refine X.eql rfl rfl rfl rfl rfl rfl ?_
      refine X.asg rfl rfl rfl rfl rfl ?_
      refine X.done [(0, _), (2, _), (3, _), (4, _), (24, _), (32, _)] ⟨rfl, rfl, rfl, rfl, rfl, rfl, trivial⟩ ?_
      refine N.then ?_
      refine E.condD rfl (fun hc => ?_) (fun hc => ?_)
      · refine E.seq ?_
        refine E.seq ?_
        refine E.region ?_
        refine X.fld rfl rfl rfl rfl rfl Tryd.off38_1 ?_
        refine X.ld rfl rfl rfl rfl Tryd.ag3 (hb3) (by exact congrArg (fun q => some (i64 q)) hkx) ?_
        refine X.mv rfl rfl rfl rfl rfl ?_
        refine X.done [(0, _), (2, _), (3, _), (4, _), (35, _), (36, _)] ⟨rfl, rfl, rfl, rfl, rfl, rfl, trivial⟩ ?_
        refine N.then ?_
        refine E.block ?_
        -- MISSING in G: [3]
        refine E.loop (fun (q : WQ) => [(0, ptr w), (2, str []), (4, str q.s), (35, i64 (ks.length : Nat)), (36, i64 q.i)]) (fun (q : WQ) H' => q.i ≤ ks.length ∧ q.s = shC (ks.take q.i) ∧ WH w (.slice a l.length c) (pre.length + 1 + (flats (ks.take q.i)).length) H' ∧ Kp [w] H H') (fun (q : WQ) => ks.length - q.i) ⟨0, []⟩ ⟨rfl, rfl, rfl, rfl, rfl, trivial⟩ ⟨Nat.zero_le _, rfl, hW, hkk⟩ ?_
        clear hW hkk
        rintro ⟨i, s⟩ H8 hJ
        dsimp only at hJ ⊢
        obtain ⟨hi, hs, hW, hkk⟩ := hJ
        clear hb3
        refine E.seq ?_
        refine E.region ?_
        refine X.lss rfl rfl rfl rfl rfl rfl ?_
        refine X.done [(0, _), (2, _), (4, _), (35, _), (36, _), (37, _)] ⟨rfl, rfl, rfl, rfl, rfl, rfl, trivial⟩ ?_
        refine N.then ?_
        refine E.seq ?_
        refine E.condD rfl (fun hc => ?_) (fun hc => ?_)
        · refine E.skip ?_
          refine N.then ?_
          refine E.seq ?_
          refine E.block ?_
          have hi2 : i < ks.length := by omega
          obtain ⟨t, ht⟩ := get_t hi2
          obtain ⟨hkl, hkn⟩ := kid_at hl ht
          have hRt := rt_kid hR ht
          have hlt := shT_tl hkl hlen
          have hwl1 := wrp_len (rk t) 1 (shT t)
          have hwl2 := wrp_len (rk t) 2 (shT t)
          have hcl := shC_tl (i := i) hfl
          have hal := shA_tl (i := i) hfl
          have hft := congrArg List.length (flats_take ht)
          rw [List.length_append] at hft
          refine E.region ?_
          refine X.mv rfl rfl rfl rfl rfl ?_
          refine X.mv rfl rfl rfl rfl rfl ?_
          refine X.call rfl rfl rfl rfl rfl Tryd.cl29 (part_ct l _ _ a c w t 2 _ hkl (by rw [hkn]; exact hW) (hN.keep hkk (by simpa using hnw)) (tab_keep hT hw0 hkk) hlen (hkids t (List.mem_of_getElem? ht) hRt)) ?_
          rintro _ H9 ⟨rfl, hW9, hk9⟩
          rw [hkn] at hW9
          replace hkk := hkk.trans hk9 (by simp)
          refine X.cat rfl rfl rfl rfl rfl rfl (by rw [hs]; omega) ?_
          refine X.asg rfl rfl rfl rfl rfl ?_
          refine X.done [(0, _), (2, _), (4, _), (35, _), (36, _), (37, _), (38, _), (39, _), (40, _), (41, _)] ⟨rfl, rfl, rfl, rfl, rfl, rfl, rfl, rfl, rfl, rfl, trivial⟩ ?_
          refine N.blk ?_
          refine N.then ?_
          refine E.region ?_
          refine X.addE (zz := ((i + 1 : Nat) : Int)) rfl rfl rfl rfl rfl rfl (by rw [IntWalk.i64_in _ (by omega)] <;> omega) ?_
          refine X.mv rfl rfl rfl rfl rfl ?_
          refine X.done [(0, _), (2, _), (4, _), (35, _), (36, _), (37, _), (38, _), (39, _), (40, _), (41, _), (42, _)] ⟨rfl, rfl, rfl, rfl, rfl, rfl, rfl, rfl, rfl, rfl, rfl, trivial⟩ ?_
          exact N.next (G := fun (q : WQ) => _) ⟨i + 1, s ++ wrp (rk t) 2 (shT t)⟩ ⟨rfl, rfl, rfl, rfl, rfl, trivial⟩ ⟨by show i + 1 ≤ ks.length; omega, by rw [hs]; exact (shC_take ht).symm, by show WH w _ (pre.length + 1 + (flats (ks.take (i + 1))).length) _; rw [hft, ← Nat.add_assoc]; exact hW9, hkk⟩ (by show ks.length - (i + 1) < ks.length - i; omega)
        · refine E.exit ?_
          refine N.thenX ?_
          refine N.loopX ?_
          refine N.blkX ?_
          refine N.then ?_
          refine E.seq ?_
          refine E.region ?_
          refine X.mv rfl rfl rfl rfl rfl ?_
          refine X.asg rfl rfl rfl rfl rfl ?_
          refine X.done [(0, _), (2, _)] ⟨rfl, rfl, trivial⟩ ?_
          refine N.then ?_
          refine E.ret ?_
          refine N.blkR ?_
          refine N.thenR ?_
          obtain rfl : i = ks.length := by omega
          rw [List.take_length] at hs hW
          rw [shT_3 (by omega), hs, show pre.length + (flat (T.nd x ks)).length = pre.length + 1 + (flats ks).length by simp [flat]; omega]
          exact N.retH [_] ⟨_, _, rfl, rfl, rfl⟩ ⟨rfl, hW, hkk⟩
      · refine E.seq ?_
        refine E.region ?_
        refine X.eql rfl rfl rfl rfl rfl rfl ?_
        refine X.asg rfl rfl rfl rfl rfl ?_
        refine X.done [(0, _), (2, _), (3, _), (4, _), (24, _), (44, _)] ⟨rfl, rfl, rfl, rfl, rfl, rfl, trivial⟩ ?_
        refine N.then ?_
        refine E.condD rfl (fun hc => ?_) (fun hc => ?_)
        · refine E.seq ?_
          refine E.seq ?_
          refine E.region ?_
          refine X.fld rfl rfl rfl rfl rfl Tryd.off38_1 ?_
          refine X.ld rfl rfl rfl rfl Tryd.ag3 (hb3) (by exact congrArg (fun q => some (i64 q)) hkx) ?_
          refine X.mv rfl rfl rfl rfl rfl ?_
          refine X.done [(0, _), (2, _), (3, _), (4, _), (47, _), (48, _)] ⟨rfl, rfl, rfl, rfl, rfl, rfl, trivial⟩ ?_
          refine N.then ?_
          refine E.block ?_
          -- MISSING in G: [3]
          refine E.loop (fun (q : WQ) => [(0, ptr w), (2, str []), (4, str q.s), (47, i64 (ks.length : Nat)), (48, i64 q.i)]) (fun (q : WQ) H' => q.i ≤ ks.length ∧ q.s = shA (ks.take q.i) ∧ WH w (.slice a l.length c) (pre.length + 1 + (flats (ks.take q.i)).length) H' ∧ Kp [w] H H') (fun (q : WQ) => ks.length - q.i) ⟨0, []⟩ ⟨rfl, rfl, rfl, rfl, rfl, trivial⟩ ⟨Nat.zero_le _, rfl, hW, hkk⟩ ?_
          clear hW hkk
          rintro ⟨i, s⟩ H8 hJ
          dsimp only at hJ ⊢
          obtain ⟨hi, hs, hW, hkk⟩ := hJ
          clear hb3
          refine E.seq ?_
          refine E.region ?_
          refine X.lss rfl rfl rfl rfl rfl rfl ?_
          refine X.done [(0, _), (2, _), (4, _), (47, _), (48, _), (49, _)] ⟨rfl, rfl, rfl, rfl, rfl, rfl, trivial⟩ ?_
          refine N.then ?_
          refine E.seq ?_
          refine E.condD rfl (fun hc => ?_) (fun hc => ?_)
          · refine E.skip ?_
            refine N.then ?_
            refine E.seq ?_
            refine E.block ?_
            refine E.seq ?_
            have hi2 : i < ks.length := by omega
            obtain ⟨t, ht⟩ := get_t hi2
            obtain ⟨hkl, hkn⟩ := kid_at hl ht
            have hRt := rt_kid hR ht
            have hlt := shT_tl hkl hlen
            have hwl1 := wrp_len (rk t) 1 (shT t)
            have hwl2 := wrp_len (rk t) 2 (shT t)
            have hcl := shC_tl (i := i) hfl
            have hal := shA_tl (i := i) hfl
            have hft := congrArg List.length (flats_take ht)
            rw [List.length_append] at hft
            refine E.region ?_
            refine X.mv rfl rfl rfl rfl rfl ?_
            refine X.asg rfl rfl rfl rfl rfl ?_
            refine X.done [(0, _), (2, _), (4, _), (47, _), (48, _), (49, _), (50, _), (5, _)] ⟨rfl, rfl, rfl, rfl, rfl, rfl, rfl, rfl, trivial⟩ ?_
            refine N.then ?_
            refine E.seq ?_
            refine E.seq ?_
            refine E.region ?_
            refine X.mv rfl rfl rfl rfl rfl ?_
            refine X.gtr rfl rfl rfl rfl rfl rfl ?_
            refine X.done [(0, _), (2, _), (4, _), (47, _), (48, _), (49, _), (50, _), (5, _), (51, _), (52, _)] ⟨rfl, rfl, rfl, rfl, rfl, rfl, rfl, rfl, rfl, rfl, trivial⟩ ?_
            refine N.then ?_
            refine E.condD rfl (fun hc => ?_) (fun hc => ?_)
            · refine E.region ?_
              refine X.mv rfl rfl rfl rfl rfl ?_
              refine X.cat rfl rfl rfl rfl rfl rfl (by rw [hs]; (try simp only [List.length_cons, List.length_nil]); omega) ?_
              refine X.asg rfl rfl rfl rfl rfl ?_
              refine X.done [(0, _), (2, _), (4, _), (47, _), (48, _), (49, _), (50, _), (5, _), (51, _), (52, _), (53, _), (54, _)] ⟨rfl, rfl, rfl, rfl, rfl, rfl, rfl, rfl, rfl, rfl, rfl, rfl, trivial⟩ ?_
              refine N.then ?_
              refine E.region ?_
              refine X.mv rfl rfl rfl rfl rfl ?_
              refine X.mv rfl rfl rfl rfl rfl ?_
              refine X.call rfl rfl rfl rfl rfl Tryd.cl29 (part_ct l _ _ a c w t 1 _ hkl (by rw [hkn]; exact hW) (hN.keep hkk (by simpa using hnw)) (tab_keep hT hw0 hkk) hlen (hkids t (List.mem_of_getElem? ht) hRt)) ?_
              rintro _ H9 ⟨rfl, hW9, hk9⟩
              rw [hkn] at hW9
              replace hkk := hkk.trans hk9 (by simp)
              refine X.cat rfl rfl rfl rfl rfl rfl (by (try simp only [List.length_append, List.length_cons, List.length_nil]); rw [hs]; omega) ?_
              refine X.asg rfl rfl rfl rfl rfl ?_
              refine X.done [(0, _), (2, _), (4, _), (47, _), (48, _), (49, _), (50, _), (5, _), (51, _), (52, _), (53, _), (54, _), (55, _), (56, _), (57, _), (58, _)] ⟨rfl, rfl, rfl, rfl, rfl, rfl, rfl, rfl, rfl, rfl, rfl, rfl, rfl, rfl, rfl, rfl, trivial⟩ ?_
              refine N.blk ?_
              refine N.then ?_
              refine E.region ?_
              refine X.addE (zz := ((i + 1 : Nat) : Int)) rfl rfl rfl rfl rfl rfl (by rw [IntWalk.i64_in _ (by omega)] <;> omega) ?_
              refine X.mv rfl rfl rfl rfl rfl ?_
              refine X.done [(0, _), (2, _), (4, _), (47, _), (48, _), (49, _), (50, _), (5, _), (51, _), (52, _), (53, _), (54, _), (55, _), (56, _), (57, _), (58, _), (59, _)] ⟨rfl, rfl, rfl, rfl, rfl, rfl, rfl, rfl, rfl, rfl, rfl, rfl, rfl, rfl, rfl, rfl, rfl, trivial⟩ ?_
              first
                | exact N.next (G := fun (q : WQ) => _) ⟨i + 1, s ++ [124] ++ wrp (rk t) 1 (shT t)⟩ ⟨rfl, rfl, rfl, rfl, rfl, trivial⟩ ⟨by show i + 1 ≤ ks.length; omega, by rw [hs, shA_take ht (by omega)]; simp, by show WH w _ (pre.length + 1 + (flats (ks.take (i + 1))).length) _; rw [hft, ← Nat.add_assoc]; exact hW9, hkk⟩ (by show ks.length - (i + 1) < ks.length - i; omega)
                | exact N.next (G := fun (q : WQ) => _) ⟨i + 1, s ++ wrp (rk t) 1 (shT t)⟩ ⟨rfl, rfl, rfl, rfl, rfl, trivial⟩ ⟨by show i + 1 ≤ ks.length; omega, by rw [hs]; exact (shA_first ht (by omega)).symm, by show WH w _ (pre.length + 1 + (flats (ks.take (i + 1))).length) _; rw [hft, ← Nat.add_assoc]; exact hW9, hkk⟩ (by show ks.length - (i + 1) < ks.length - i; omega)
            · refine E.skip ?_
              refine N.then ?_
              refine E.region ?_
              refine X.mv rfl rfl rfl rfl rfl ?_
              refine X.mv rfl rfl rfl rfl rfl ?_
              refine X.call rfl rfl rfl rfl rfl Tryd.cl29 (part_ct l _ _ a c w t 1 _ hkl (by rw [hkn]; exact hW) (hN.keep hkk (by simpa using hnw)) (tab_keep hT hw0 hkk) hlen (hkids t (List.mem_of_getElem? ht) hRt)) ?_
              rintro _ H9 ⟨rfl, hW9, hk9⟩
              rw [hkn] at hW9
              replace hkk := hkk.trans hk9 (by simp)
              refine X.cat rfl rfl rfl rfl rfl rfl (by (try simp only [List.length_append, List.length_cons, List.length_nil]); rw [hs]; omega) ?_
              refine X.asg rfl rfl rfl rfl rfl ?_
              refine X.done [(0, _), (2, _), (4, _), (47, _), (48, _), (49, _), (50, _), (5, _), (51, _), (52, _), (55, _), (56, _), (57, _), (58, _)] ⟨rfl, rfl, rfl, rfl, rfl, rfl, rfl, rfl, rfl, rfl, rfl, rfl, rfl, rfl, trivial⟩ ?_
              refine N.blk ?_
              refine N.then ?_
              refine E.region ?_
              refine X.addE (zz := ((i + 1 : Nat) : Int)) rfl rfl rfl rfl rfl rfl (by rw [IntWalk.i64_in _ (by omega)] <;> omega) ?_
              refine X.mv rfl rfl rfl rfl rfl ?_
              refine X.done [(0, _), (2, _), (4, _), (47, _), (48, _), (49, _), (50, _), (5, _), (51, _), (52, _), (55, _), (56, _), (57, _), (58, _), (59, _)] ⟨rfl, rfl, rfl, rfl, rfl, rfl, rfl, rfl, rfl, rfl, rfl, rfl, rfl, rfl, rfl, trivial⟩ ?_
              first
                | exact N.next (G := fun (q : WQ) => _) ⟨i + 1, s ++ [124] ++ wrp (rk t) 1 (shT t)⟩ ⟨rfl, rfl, rfl, rfl, rfl, trivial⟩ ⟨by show i + 1 ≤ ks.length; omega, by rw [hs, shA_take ht (by omega)]; simp, by show WH w _ (pre.length + 1 + (flats (ks.take (i + 1))).length) _; rw [hft, ← Nat.add_assoc]; exact hW9, hkk⟩ (by show ks.length - (i + 1) < ks.length - i; omega)
                | exact N.next (G := fun (q : WQ) => _) ⟨i + 1, s ++ wrp (rk t) 1 (shT t)⟩ ⟨rfl, rfl, rfl, rfl, rfl, trivial⟩ ⟨by show i + 1 ≤ ks.length; omega, by rw [hs]; exact (shA_first ht (by omega)).symm, by show WH w _ (pre.length + 1 + (flats (ks.take (i + 1))).length) _; rw [hft, ← Nat.add_assoc]; exact hW9, hkk⟩ (by show ks.length - (i + 1) < ks.length - i; omega)
          · refine E.exit ?_
            refine N.thenX ?_
            refine N.loopX ?_
            refine N.blkX ?_
            refine N.then ?_
            refine E.seq ?_
            refine E.region ?_
            refine X.mv rfl rfl rfl rfl rfl ?_
            refine X.asg rfl rfl rfl rfl rfl ?_
            refine X.done [(0, _), (2, _)] ⟨rfl, rfl, trivial⟩ ?_
            refine N.then ?_
            refine E.ret ?_
            refine N.blkR ?_
            refine N.thenR ?_
            obtain rfl : i = ks.length := by omega
            rw [List.take_length] at hs hW
            rw [shT_4 (by omega), hs, show pre.length + (flat (T.nd x ks)).length = pre.length + 1 + (flats ks).length by simp [flat]; omega]
            exact N.retH [_] ⟨_, _, rfl, rfl, rfl⟩ ⟨rfl, hW, hkk⟩
        · refine E.seq ?_
          refine E.region ?_
          refine X.eql rfl rfl rfl rfl rfl rfl ?_
          refine X.asg rfl rfl rfl rfl rfl ?_
          refine X.done [(0, _), (2, _), (3, _), (24, _), (61, _)] ⟨rfl, rfl, rfl, rfl, rfl, trivial⟩ ?_
          refine N.then ?_
          refine E.condD rfl (fun hc => ?_) (fun hc => ?_)
          · refine E.seq ?_
            obtain ⟨t, rfl⟩ := one_kid hR (by omega)
            obtain ⟨hkl, hkn⟩ := kid_at (i := 0) (t := t) hl rfl
            have hRt := rt_kid (i := 0) (t := t) hR rfl
            have hlt := shT_tl hkl hlen
            have hwl3 := wrp_len (rk t) 3 (shT t)
            rw [show (flats ([t].take 0)).length = 0 from rfl, Nat.add_zero] at hkn
            refine E.region ?_
            refine X.mv rfl rfl rfl rfl rfl ?_
            refine X.call rfl rfl rfl rfl rfl Tryd.cl29 (part_ct l _ _ a c w t 3 _ hkl (by rw [hkn]; exact hW) (hN.keep hkk (by simpa using hnw)) (tab_keep hT hw0 hkk) hlen (hkids t (by simp) hRt)) ?_
            rintro _ H9 ⟨rfl, hW9, hk9⟩
            rw [hkn] at hW9
            replace hkk := hkk.trans hk9 (by simp)
            refine X.cat rfl rfl rfl rfl rfl rfl (by simp; omega) ?_
            refine X.asg rfl rfl rfl rfl rfl ?_
            refine X.done [(0, _), (2, _), (3, _)] ⟨rfl, rfl, rfl, trivial⟩ ?_
            refine N.then ?_
            refine E.ret ?_
            refine N.blkR ?_
            refine N.thenR ?_
            have hfl1 : (flat (T.nd x [t])).length = 1 + (flat t).length := by simp [flat, flats]; omega
            rw [shT_5 (by omega), hfl1, ← Nat.add_assoc]
            exact N.retH [_] ⟨_, _, rfl, rfl, rfl⟩ ⟨rfl, hW9, hkk⟩
          · refine E.seq ?_
            refine E.region ?_
            refine X.eql rfl rfl rfl rfl rfl rfl ?_
            refine X.asg rfl rfl rfl rfl rfl ?_
            refine X.done [(0, _), (2, _), (3, _), (24, _), (66, _)] ⟨rfl, rfl, rfl, rfl, rfl, trivial⟩ ?_
            refine N.then ?_
            refine E.condD rfl (fun hc => ?_) (fun hc => ?_)
            · refine E.seq ?_
              obtain ⟨t, rfl⟩ := one_kid hR (by omega)
              obtain ⟨hkl, hkn⟩ := kid_at (i := 0) (t := t) hl rfl
              have hRt := rt_kid (i := 0) (t := t) hR rfl
              have hlt := shT_tl hkl hlen
              have hwl3 := wrp_len (rk t) 3 (shT t)
              rw [show (flats ([t].take 0)).length = 0 from rfl, Nat.add_zero] at hkn
              refine E.region ?_
              refine X.mv rfl rfl rfl rfl rfl ?_
              refine X.call rfl rfl rfl rfl rfl Tryd.cl29 (part_ct l _ _ a c w t 3 _ hkl (by rw [hkn]; exact hW) (hN.keep hkk (by simpa using hnw)) (tab_keep hT hw0 hkk) hlen (hkids t (by simp) hRt)) ?_
              rintro _ H9 ⟨rfl, hW9, hk9⟩
              rw [hkn] at hW9
              replace hkk := hkk.trans hk9 (by simp)
              refine X.cat rfl rfl rfl rfl rfl rfl (by simp; omega) ?_
              refine X.asg rfl rfl rfl rfl rfl ?_
              refine X.done [(0, _), (2, _), (3, _)] ⟨rfl, rfl, rfl, trivial⟩ ?_
              refine N.then ?_
              refine E.ret ?_
              refine N.blkR ?_
              refine N.thenR ?_
              have hfl1 : (flat (T.nd x [t])).length = 1 + (flat t).length := by simp [flat, flats]; omega
              rw [shT_6 (by omega), hfl1, ← Nat.add_assoc]
              exact N.retH [_] ⟨_, _, rfl, rfl, rfl⟩ ⟨rfl, hW9, hkk⟩
            · refine E.seq ?_
              refine E.region ?_
              refine X.eql rfl rfl rfl rfl rfl rfl ?_
              refine X.asg rfl rfl rfl rfl rfl ?_
              refine X.done [(0, _), (2, _), (3, _), (71, _)] ⟨rfl, rfl, rfl, rfl, trivial⟩ ?_
              refine N.then ?_
              refine E.condD rfl (fun hc => ?_) (fun hc => ?_)
              · refine E.seq ?_
                obtain ⟨t, rfl⟩ := one_kid hR (by omega)
                obtain ⟨hkl, hkn⟩ := kid_at (i := 0) (t := t) hl rfl
                have hRt := rt_kid (i := 0) (t := t) hR rfl
                have hlt := shT_tl hkl hlen
                have hwl3 := wrp_len (rk t) 3 (shT t)
                rw [show (flats ([t].take 0)).length = 0 from rfl, Nat.add_zero] at hkn
                refine E.region ?_
                refine X.mv rfl rfl rfl rfl rfl ?_
                refine X.call rfl rfl rfl rfl rfl Tryd.cl29 (part_ct l _ _ a c w t 3 _ hkl (by rw [hkn]; exact hW) (hN.keep hkk (by simpa using hnw)) (tab_keep hT hw0 hkk) hlen (hkids t (by simp) hRt)) ?_
                rintro _ H9 ⟨rfl, hW9, hk9⟩
                rw [hkn] at hW9
                replace hkk := hkk.trans hk9 (by simp)
                refine X.cat rfl rfl rfl rfl rfl rfl (by simp; omega) ?_
                refine X.asg rfl rfl rfl rfl rfl ?_
                refine X.done [(0, _), (2, _), (3, _)] ⟨rfl, rfl, rfl, trivial⟩ ?_
                refine N.then ?_
                refine E.ret ?_
                refine N.blkR ?_
                refine N.thenR ?_
                have hfl1 : (flat (T.nd x [t])).length = 1 + (flat t).length := by simp [flat, flats]; omega
                rw [shT_7 (by omega), hfl1, ← Nat.add_assoc]
                exact N.retH [_] ⟨_, _, rfl, rfl, rfl⟩ ⟨rfl, hW9, hkk⟩
              · refine E.skip ?_
                refine N.blk ?_
                refine N.then ?_
                refine E.seq ?_
                obtain ⟨t, rfl⟩ := one_kid hR (by omega)
                obtain ⟨hkl, hkn⟩ := kid_at (i := 0) (t := t) hl rfl
                have hRt := rt_kid (i := 0) (t := t) hR rfl
                have hlt := shT_tl hkl hlen
                have hwl3 := wrp_len (rk t) 3 (shT t)
                rw [show (flats ([t].take 0)).length = 0 from rfl, Nat.add_zero] at hkn
                have hol := oftV_len x
                refine E.regionD (fun H' => H'[b3]? = some (.cells (ncel x).toArray 38 (0, 0))) [(0, .pu), (2, .st), (1, .mk), (3, .mv), (4, .pu), (5, .pu)] Tryd.mixed (by kernel_rfl) (hb3) ?_
                refine X.mv rfl rfl rfl rfl rfl ?_
                refine X.ldA rfl rfl rfl rfl Tryd.ag38 Tryd.sz38 (fun H' hF => hF) (ncel_len x) zoff ?_
                refine X.call rfl rfl rfl rfl rfl Tryd.cl29 (part_ct l _ _ a c w t 3 _ hkl (by rw [hkn]; exact hW) (hN.keep hkk (by simpa using hnw)) (tab_keep hT hw0 hkk) hlen (hkids t (by simp) hRt)) ?_
                rintro _ H9 ⟨rfl, hW9, hk9⟩
                rw [hkn] at hW9
                replace hkk := hkk.trans hk9 (by simp)
                replace hb3 := hk9.keep hb3 (by simp; exact hne3)
                refine ⟨hb3, ?_⟩
                refine X.call rfl rfl rfl rfl rfl Tryd.cl30 (often_ct x x.low.toNat _ (by unfold rtP at hrx; omega) (by unfold rtP at hrx; omega) (by unfold rtP at hrx; omega)) ?_
                rintro _ H10 ⟨rfl, hk10⟩
                replace hW9 := hk10.keep hW9 (by simp)
                replace hkk := hkk.trans hk10 (by simp)
                refine X.cat rfl rfl rfl rfl rfl rfl (by omega) ?_
                refine X.asg rfl rfl rfl rfl rfl ?_
                refine X.done [(2, _)] ⟨rfl, trivial⟩ ?_
                refine N.then ?_
                refine E.ret ?_
                have hfl1 : (flat (T.nd x [t])).length = 1 + (flat t).length := by simp [flat, flats]; omega
                rw [shT_8 (by omega), hfl1, ← Nat.add_assoc]
                exact N.retH [_] ⟨_, _, rfl, rfl, rfl⟩ ⟨rfl, hW9, hkk⟩

mutual
theorem next_wn (l : List Nd) (a : Option Addr) (c w : Nat) (hlen : l.length ≤ 1000) (hnw : ∀ b ∈ blk (.slice a l.length c), b ≠ w) (hw0 : w ≠ 0) : ∀ t : T, Rt t → WN l (.slice a l.length c) w t
  | .nd x ks, hR => fun pre post H hl hW hN hT => next_step l pre post a c w x ks H hl hR hW hN hT hlen hnw hw0 (next_wns l a c w hlen hnw hw0 ks)
theorem next_wns (l : List Nd) (a : Option Addr) (c w : Nat) (hlen : l.length ≤ 1000) (hnw : ∀ b ∈ blk (.slice a l.length c), b ≠ w) (hw0 : w ≠ 0) : ∀ ks : List T, ∀ t ∈ ks, Rt t → WN l (.slice a l.length c) w t
  | [], t, ht => absurd ht (by simp)
  | u :: r, t, ht => (List.mem_cons.1 ht).elim (fun e => e ▸ next_wn l a c w hlen hnw hw0 u) (fun h => next_wns l a c w hlen hnw hw0 r t h)
end
/-- A tree as text; none, if it is none. -/
def showV (l : List Nd) : Bs := if chkV l = 0 then (match fo l with | [t] => shT t | _ => []) else []
theorem showV_t {l : List Nd} {t : T} (h : chkV l = 0) (ht : l = flat t) (hw : wf t) : showV l = shT t := by
  unfold showV; rw [if_pos h, ht, fo_whole hw]
theorem showV_n {l : List Nd} (h : chkV l ≠ 0) : showV l = [] := by unfold showV; rw [if_neg h]

theorem show15_ct (l : List Nd) (a : Option Addr) (c : Nat) (H : Heap) (hN : NR H (.slice a l.length c) l) (hT : Tab H) (hlen : l.length ≤ 1000) : Ct Tryd.prog 10 #[(.slice a l.length c)] H fun r H' => r = str (showV l) ∧ Kp [] H H' := by
  refine Ct.into 12 Tryd.func10 rfl [(0, (.slice a l.length c))] rfl ⟨rfl, trivial⟩ ?_
  refine E.seq ?_
  refine E.region ?_
  refine X.asg rfl rfl rfl rfl rfl ?_
  refine X.done [(0, _), (2, _)] ⟨rfl, rfl, trivial⟩ ?_
  refine N.then ?_
  refine E.seq ?_
  refine E.seq ?_
  refine E.region ?_
  refine X.mv rfl rfl rfl rfl rfl ?_
  refine X.call rfl rfl rfl rfl rfl Tryd.cl8 (check_ct l a c H hN hlen) ?_
  rintro _ H1 ⟨rfl, hk1⟩
  have hN1 := hN.keepN hk1
  have hT1 : Tab H1 := by obtain ⟨ct, fz, ht⟩ := hT; exact ⟨ct, fz, hk1.keep ht (by simp)⟩
  refine X.neq rfl rfl rfl rfl rfl rfl ?_
  refine X.done [(0, _), (2, _), (6, _)] ⟨rfl, rfl, rfl, trivial⟩ ?_
  refine N.then ?_
  refine E.condD rfl (fun hc => ?_) (fun hc => ?_)
  · refine E.seq ?_
    refine E.region ?_
    refine X.asg rfl rfl rfl rfl rfl ?_
    refine X.done [(0, _), (2, _)] ⟨rfl, rfl, trivial⟩ ?_
    refine N.then ?_
    refine E.ret ?_
    refine N.thenR ?_
    exact N.retH [_] ⟨_, _, rfl, rfl, rfl⟩ ⟨by rw [showV_n (by assumption)]; rfl, hk1⟩
  · refine E.skip ?_
    refine N.then ?_
    refine E.seq ?_
    obtain ⟨t, hlt, hRt, hl4⟩ := chk_tree (show chkV l = 0 by omega)
    refine E.region ?_
    refine X.mv rfl rfl rfl rfl rfl ?_
    refine X.build (v := .agg (wcl (.slice a l.length c) 0).toArray) rfl rfl rfl rfl rfl (fun _ => by kernel_rfl) ?_
    refine X.box rfl rfl rfl rfl rfl rfl ?_
    intro w H2 hn2 hW hk2
    have hN2 := hN1.keepN hk2
    have hT2 : Tab H2 := by obtain ⟨ct, fz, ht⟩ := hT1; exact ⟨ct, fz, hk2.keep ht (by simp)⟩
    have hw0 : w ≠ 0 := by have := tab0 hT1; omega
    have hnw : ∀ b ∈ blk (.slice a l.length c), b ≠ w := fun b hb => by
      obtain ⟨hl1, a1, c1, e1, hr1⟩ := hN1
      cases e1
      rcases hr1 with hr1 | ⟨b1, o1, cs1, ct1, fz1, rfl, hb1, _⟩
      · have := flat_pos t
        have h5 := congrArg List.length hr1
        rw [hl1, hlt] at h5
        simp at h5; omega
      · simp [blk] at hb; have := lt_of hb1; omega
    refine X.asg rfl rfl rfl rfl rfl ?_
    refine X.done [(2, _), (3, _)] ⟨rfl, rfl, trivial⟩ ?_
    refine N.then ?_
    refine E.seq ?_
    refine E.region ?_
    refine X.mv rfl rfl rfl rfl rfl ?_
    refine X.call rfl rfl rfl rfl rfl Tryd.cl20 (next_wn l a c w hlen hnw hw0 t hRt [] [] H2 (by rw [List.nil_append, List.append_nil]; exact hlt) hW hN2 hT2) ?_
    rintro _ H3 ⟨rfl, hW3, hk3⟩
    refine X.asg rfl rfl rfl rfl rfl ?_
    refine X.done [(2, _)] ⟨rfl, trivial⟩ ?_
    refine N.then ?_
    refine E.ret ?_
    exact N.retH [_] ⟨_, _, rfl, rfl, rfl⟩ ⟨by rw [showV_t (by omega) hlt hRt.wf]; rfl, (hk1.trans hk2 (by simp)).trans hk3 (by simp; have := hk1.size; omega)⟩

end Go.Proofs.YtcandjdomeompaaDoor