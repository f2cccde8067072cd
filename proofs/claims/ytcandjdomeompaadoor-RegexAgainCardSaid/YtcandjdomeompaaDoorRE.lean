/- The walks: brackets; rows of parts. -/
import Derived.Test.YtcandjdomeompaaDoorRD
namespace Go.Proofs.YtcandjdomeompaaDoor
open Go.SX Go.Chr
attribute [local irreducible] X E N Ct
set_option linter.unusedVariables false
set_option linter.unusedSimpArgs false
section
variable {s : Bs} {fr : Int} {f : Nat} {st st1 st2 : St} {a x : S4} {r : S4 × St} {b : Bool}
theorem cF_1 (hJ : clsF s fr f a st = r) (hf : Mq s st < f) (he : st.e ≠ 0) : r = (a, st) := by
  obtain ⟨f, rfl⟩ : ∃ g, f = g + 1 := ⟨f - 1, by omega⟩
  rw [← hJ, clsF, if_pos he]
theorem cF_2 (hJ : clsF s fr f a st = r) (hf : Mq s st < f) (he : st.e = 0) (ht : (tk s 93 st).1 = true) : r = (a, adv st) := by
  obtain ⟨f, rfl⟩ : ∃ g, f = g + 1 := ⟨f - 1, by omega⟩
  rw [← hJ, clsF, if_neg (by omega), if_pos ht, (tk_yes ht).2]
theorem cF_3 (hJ : clsF s fr f a st = r) (hf : Mq s st < f) (he : st.e = 0) (ht : (tk s 93 st).1 = false) (hl : s.length ≤ st.at_) : r = (a, fl 16 fr st) := by
  obtain ⟨f, rfl⟩ : ∃ g, f = g + 1 := ⟨f - 1, by omega⟩
  rw [← hJ, clsF, if_neg (by omega), if_neg (by rw [ht]; simp), if_pos hl]
theorem cF_4 (hJ : clsF s fr f a st = r) (hf : Mq s st < f) (he : st.e = 0) (ht : (tk s 93 st).1 = false) (hl : ¬ s.length ≤ st.at_) (hx : itm s fr st = (x, st2)) : clsF s fr (f - 1) (sOr a x) st2 = r := by
  obtain ⟨f, rfl⟩ : ∃ g, f = g + 1 := ⟨f - 1, by omega⟩
  rw [← hJ, clsF, if_neg (by omega), if_neg (by rw [ht]; simp), if_neg hl, hx]; rfl
theorem cls_1 (e94 : tk s 94 st = (true, st1)) (eF : clsF s fr (s.length + 2) s0 st1 = (a, st2)) (h : (sNot a).1 = z4) : cls s fr st = (sNot a, fl 17 fr st2) := by
  have h2 : sNot a = s0 := Subtype.ext h
  unfold cls; simp only [e94, eF]; rw [if_pos trivial, if_pos h2]
theorem cls_2 (e94 : tk s 94 st = (true, st1)) (eF : clsF s fr (s.length + 2) s0 st1 = (a, st2)) (h : ¬ (sNot a).1 = z4) : cls s fr st = (sNot a, st2) := by
  have h2 : ¬ sNot a = s0 := fun q => h (congrArg Subtype.val q)
  unfold cls; simp only [e94, eF]; rw [if_pos trivial, if_neg h2]
theorem cls_3 (e94 : tk s 94 st = (false, st1)) (eF : clsF s fr (s.length + 2) s0 st1 = (a, st2)) (h : a.1 = z4) : cls s fr st = (a, fl 17 fr st2) := by
  have h2 : a = s0 := Subtype.ext h
  unfold cls; simp only [e94, eF]; rw [if_neg (by simp), if_pos h2]
theorem cls_4 (e94 : tk s 94 st = (false, st1)) (eF : clsF s fr (s.length + 2) s0 st1 = (a, st2)) (h : ¬ a.1 = z4) : cls s fr st = (a, st2) := by
  have h2 : ¬ a = s0 := fun q => h (congrArg Subtype.val q)
  unfold cls; simp only [e94, eF]; rw [if_neg (by simp), if_neg h2]
end
structure CQ where
  f : Nat
  a : S4
  st : St
/-- What a reader of a tree answers. -/
def RetN (p : Nat) (s : Bs) (H : Heap) (r : List Nd × St) (v : Value) (H' : Heap) : Prop := NRF H H' v r.1 ∧ PH p s r.2 H' ∧ Kp [p] H H'
theorem T66 : AppT Tryd.prog 66 66 22 1 24 (.slice none 0 0) := ⟨Tryd.underlying66, Tryd.zi22_66, rfl, by decide⟩
theorem rd1 {H : Heap} {b c : Nat} {v : Value} {e : TypeId} (hb : H[b]? = some (.cells ([v] : List Value).toArray e (0, 0))) : Rd H 1 (.slice (some ⟨b, 0, none⟩) 1 c) 1 [v] :=
  ⟨rfl, _, _, rfl, .inr ⟨b, 0, _, _, _, rfl, hb, fun j u hj => by rw [Nat.zero_add]; exact hj⟩⟩
theorem fin_two (k : Int) {l : List (List Nd)} (h : 2 ≤ l.length) : fin k l = jn (knd k) l := by
  match l, h with
  | x :: y :: r, _ => rfl
theorem NR.one {H : Heap} {v : Value} {xs : List Nd} (h : NR H v xs) : v.oneCell' = true := by
  obtain ⟨a, c, rfl⟩ := h.sl; rfl
theorem lit22 {H : Heap} {v : Value} {xs : List Nd} (h : NR H v xs) (w : World) : (Instr.buildSlice 66 1 (([(0, v)] : List (Nat × Value)).toArray)).run Tryd.prog w = .ok (.slice (some ⟨w.heap.size, 0, none⟩) 1 1) (w.alloc (.cells ([v] : List Value).toArray 22)) := by
  obtain ⟨a, c, rfl⟩ := h.sl
  kernel_rfl
structure RQ (σ : Type) where
  f : Nat
  ks : List (Value × List Nd)
  g : σ
  v : Value

theorem class_ct (s : Bs) (p : Nat) (fr : Int) (st : St) (H : Heap) (hP0 : PH p s st H) (hs : s.length ≤ 1000) (hT : Tab H) (hp0 : p ≠ 0) (h0 : st.at_ ≤ s.length) : Ct Tryd.prog 62 #[ptr p, i64 fr] H fun v H' => ∃ (a : S4) (st' : St), cls s fr st = (a, st') ∧ v = agg4 a.1 ∧ PH p s st' H' ∧ Kp [p] H H' := by
  have hP := hP0
  have hkk := Kp.refl [p] H
  refine Ct.into 47 Tryd.func62 rfl [(0, ptr p), (1, i64 fr)] rfl ⟨rfl, rfl, trivial⟩ ?_
  refine E.seq ?_
  refine E.region ?_
  refine X.alloc (z := .agg ([.int .u64 0, .int .u64 0, .int .u64 0, .int .u64 0] : List Value).toArray) (cs := [.int .u64 0, .int .u64 0, .int .u64 0, .int .u64 0]) rfl rfl rfl rfl (by kernel_rfl) rfl ?_
  intro b4 H1 hn1 hb4 hk1
  have hpl1 := lt_of hP
  have hne4 : b4 ≠ p := by omega
  have hsz1 := hkk.size
  replace hP := hk1.keep hP (by simp)
  replace hkk := hkk.trans hk1 (by simp)
  refine X.done [(0, _), (1, _), (4, _)] ⟨rfl, rfl, rfl, trivial⟩ ?_
  refine N.then ?_
  refine E.seq ?_
  refine E.region ?_
  refine X.mv rfl rfl rfl rfl rfl ?_
  refine X.call rfl rfl rfl rfl rfl Tryd.cl35 (take3_ct s p 94 _ _ hP hs) ?_
  rintro _ H2 ⟨nb, st1, e94, rfl, hPn, hk2⟩
  replace hP := hPn
  replace hb4 := hk2.keep hb4 (by simp; exact hne4)
  replace hkk := hkk.trans hk2 (by simp)
  have hat1 : st1.at_ ≤ s.length := by have := (sp_tk (c := 94) h0).len; rw [e94] at this; exact this
  refine X.asg rfl rfl rfl rfl rfl ?_
  refine X.done [(0, _), (1, _), (4, _), (5, _)] ⟨rfl, rfl, rfl, rfl, trivial⟩ ?_
  refine N.then ?_
  refine E.seq ?_
  refine E.region ?_
  refine X.alloc (z := .agg ([.int .u64 0, .int .u64 0, .int .u64 0, .int .u64 0] : List Value).toArray) (cs := [.int .u64 0, .int .u64 0, .int .u64 0, .int .u64 0]) rfl rfl rfl rfl (by kernel_rfl) rfl ?_
  intro b6 H3 hn3 hb6 hk3
  have hpl3 := lt_of hP
  have hbl3_4 := lt_of hb4
  have hne6 : b6 ≠ p := by omega
  have hsz3 := hkk.size
  have hnb6_4 : b6 ≠ b4 := by omega
  replace hP := hk3.keep hP (by simp)
  replace hb4 := hk3.keep hb4 (by simp)
  replace hkk := hkk.trans hk3 (by simp)
  refine X.done [(0, _), (1, _), (4, _), (5, _), (6, _)] ⟨rfl, rfl, rfl, rfl, rfl, trivial⟩ ?_
  refine N.then ?_
  refine E.seq ?_
  refine E.block ?_
  refine E.loop (fun (q : CQ) => [(0, ptr p), (1, i64 fr), (4, ptr b4), (5, .bool nb), (6, ptr b6)]) (fun (q : CQ) H' => clsF s fr q.f q.a q.st = clsF s fr (s.length + 2) s0 st1 ∧ Mq s q.st < q.f ∧ PH p s q.st H' ∧ H'[b4]? = some (.cells (uv z4).toArray 36 (0, 0)) ∧ H'[b6]? = some (.cells (uv q.a.1).toArray 36 (0, 0)) ∧ q.st.at_ ≤ s.length ∧ Kp [p] H H') (fun (q : CQ) => q.f) ⟨s.length + 2, s0, st1⟩ ⟨rfl, rfl, rfl, rfl, rfl, trivial⟩ ⟨rfl, by show Mq s st1 < s.length + 2; unfold Mq; split <;> omega, hP, hb4, hb6, hat1, hkk⟩ ?_
  rintro ⟨f, a, st⟩ Hl hJ
  dsimp only at hJ ⊢
  obtain ⟨hJ, hf, hP, hb4, hb6, hat, hkk⟩ := hJ
  refine E.seq ?_
  refine E.seq ?_
  refine E.region ?_
  refine X.mv rfl rfl rfl rfl rfl ?_
  refine X.nilP rfl rfl rfl rfl rfl ?_
  refine X.fld rfl rfl rfl rfl rfl Tryd.off47_2 ?_
  refine X.ld rfl rfl rfl rfl Tryd.ag24 (hP) (rfl) ?_
  refine X.eqlC rfl rfl rfl rfl rfl rfl (fun hc => ?_) (fun hc => ?_)
  · refine X.mv rfl rfl rfl rfl rfl ?_
    refine X.mv rfl rfl rfl rfl rfl ?_
    refine X.call rfl rfl rfl rfl rfl Tryd.cl35 (take2_ct s p 93 _ _ hP hs) ?_
    rintro _ H5 hq
    rcases hq with ⟨rfl, ht3, hPn, hk5⟩ | ⟨rfl, hf3, hPn, hk5⟩
    · replace hP := hPn
      replace hb4 := hk5.keep hb4 (by simp; exact hne4)
      replace hb6 := hk5.keep hb6 (by simp; exact hne6)
      replace hkk := hkk.trans hk5 (by simp)
      refine X.notT rfl rfl rfl rfl rfl ?_
      refine X.pickT rfl rfl rfl rfl rfl rfl ?_
      refine X.done [(0, _), (1, _), (4, _), (5, _), (6, _), (9, _), (10, _), (11, _), (12, _), (13, _), (14, _), (15, _), (16, _), (17, _), (18, _)] ⟨rfl, rfl, rfl, rfl, rfl, rfl, rfl, rfl, rfl, rfl, rfl, rfl, rfl, rfl, rfl, trivial⟩ ?_
      refine N.then ?_
      refine E.condF rfl ?_
      refine E.exit ?_
      refine N.thenX ?_
      refine N.loopX ?_
      refine N.blkX ?_
      refine N.then ?_
      refine E.seq ?_
      refine E.seq ?_
      first
        | have eF := cF_2 hJ hf (by omega) ht3
        | have eF := cF_1 hJ hf (by omega)
        | have eF := cF_3 hJ hf (by omega) hf3 (by omega)
      refine E.region ?_
      refine X.mv rfl rfl rfl rfl rfl ?_
      cases nb
      · refine X.done [(0, _), (1, _), (4, _), (6, _), (37, _)] ⟨rfl, rfl, rfl, rfl, rfl, trivial⟩ ?_
        refine N.then ?_
        refine E.condF rfl ?_
        refine E.skip ?_
        refine N.then ?_
        refine E.seq ?_
        refine E.seq ?_
        refine E.region ?_
        refine X.ldA rfl rfl rfl rfl Tryd.ag36 Tryd.sz36 (hb6) (by first | exact uv4 (sNot a).2 | exact uv4 a.2) zoff ?_
        refine X.build rfl rfl rfl rfl rfl build_z4 ?_
        refine X.eqlW rfl rfl rfl rfl rfl rfl Tryd.underlying36 Tryd.underlying34 Tryd.ag34 Tryd.sz34 (by kernel_rfl) (by first | exact (sNot a).2.len | exact a.2.len) (rfl) ?_
        refine X.done [(0, _), (1, _), (4, _), (6, _), (42, _)] ⟨rfl, rfl, rfl, rfl, rfl, trivial⟩ ?_
        refine N.then ?_
        refine E.condD rfl (fun hc => ?_) (fun hc => ?_)
        · refine E.region ?_
          refine X.mv rfl rfl rfl rfl rfl ?_
          refine X.mv rfl rfl rfl rfl rfl ?_
          refine X.call rfl rfl rfl rfl rfl Tryd.cl24 (fail_ct s p _ 17 _ _ hP) ?_
          rintro _ H13 ⟨rfl, hPn, hk13⟩
          replace hP := hPn
          replace hb4 := hk13.keep hb4 (by simp; exact hne4)
          replace hb6 := hk13.keep hb6 (by simp; exact hne6)
          replace hkk := hkk.trans hk13 (by simp)
          refine X.done [(4, _), (6, _)] ⟨rfl, rfl, trivial⟩ ?_
          refine N.then ?_
          refine E.seq ?_
          refine E.region ?_
          refine X.ldA rfl rfl rfl rfl Tryd.ag36 Tryd.sz36 (hb6) (by first | exact uv4 (sNot a).2 | exact uv4 a.2) zoff ?_
          refine X.stA rfl rfl rfl rfl rfl rfl (uv_one _) (by first | exact sz24w (sNot a).2 | exact sz24w a.2) hb4 (by first | (rw [uv4 (sNot a).2, uv4 ws_z4]; show 0 + 4 ≤ 4; omega) | (rw [uv4 a.2, uv4 ws_z4]; show 0 + 4 ≤ 4; omega)) ?_
          intro H20 hb20 hk20
          rw [splice_all (by first | (rw [uv4 (sNot a).2, uv4 ws_z4]) | (rw [uv4 a.2, uv4 ws_z4]))] at hb20
          replace hP := hk20.keep hP (by simp; exact fun h => hne4 h.symm)
          replace hkk := hkk.trans hk20 (by simp; omega)
          refine X.done [(4, _)] ⟨rfl, trivial⟩ ?_
          refine N.then ?_
          refine E.ret ?_
          first
            | exact N.retH [_] ⟨_, _, _, 0, rfl, rfl, loadsA Tryd.ag36 Tryd.sz36 hb20 (uv4 (sNot a).2) zoff, rfl⟩ ⟨_, _, cls_1 e94 eF (by assumption), rfl, hP, hkk⟩
            | exact N.retH [_] ⟨_, _, _, 0, rfl, rfl, loadsA Tryd.ag36 Tryd.sz36 hb20 (uv4 (sNot a).2) zoff, rfl⟩ ⟨_, _, cls_2 e94 eF (by assumption), rfl, hP, hkk⟩
            | exact N.retH [_] ⟨_, _, _, 0, rfl, rfl, loadsA Tryd.ag36 Tryd.sz36 hb20 (uv4 a.2) zoff, rfl⟩ ⟨_, _, cls_3 e94 eF (by assumption), rfl, hP, hkk⟩
            | exact N.retH [_] ⟨_, _, _, 0, rfl, rfl, loadsA Tryd.ag36 Tryd.sz36 hb20 (uv4 a.2) zoff, rfl⟩ ⟨_, _, cls_4 e94 eF (by assumption), rfl, hP, hkk⟩
        · refine E.skip ?_
          refine N.then ?_
          refine E.seq ?_
          refine E.region ?_
          refine X.ldA rfl rfl rfl rfl Tryd.ag36 Tryd.sz36 (hb6) (by first | exact uv4 (sNot a).2 | exact uv4 a.2) zoff ?_
          refine X.stA rfl rfl rfl rfl rfl rfl (uv_one _) (by first | exact sz24w (sNot a).2 | exact sz24w a.2) hb4 (by first | (rw [uv4 (sNot a).2, uv4 ws_z4]; show 0 + 4 ≤ 4; omega) | (rw [uv4 a.2, uv4 ws_z4]; show 0 + 4 ≤ 4; omega)) ?_
          intro H20 hb20 hk20
          rw [splice_all (by first | (rw [uv4 (sNot a).2, uv4 ws_z4]) | (rw [uv4 a.2, uv4 ws_z4]))] at hb20
          replace hP := hk20.keep hP (by simp; exact fun h => hne4 h.symm)
          replace hkk := hkk.trans hk20 (by simp; omega)
          refine X.done [(4, _)] ⟨rfl, trivial⟩ ?_
          refine N.then ?_
          refine E.ret ?_
          first
            | exact N.retH [_] ⟨_, _, _, 0, rfl, rfl, loadsA Tryd.ag36 Tryd.sz36 hb20 (uv4 (sNot a).2) zoff, rfl⟩ ⟨_, _, cls_1 e94 eF (by assumption), rfl, hP, hkk⟩
            | exact N.retH [_] ⟨_, _, _, 0, rfl, rfl, loadsA Tryd.ag36 Tryd.sz36 hb20 (uv4 (sNot a).2) zoff, rfl⟩ ⟨_, _, cls_2 e94 eF (by assumption), rfl, hP, hkk⟩
            | exact N.retH [_] ⟨_, _, _, 0, rfl, rfl, loadsA Tryd.ag36 Tryd.sz36 hb20 (uv4 a.2) zoff, rfl⟩ ⟨_, _, cls_3 e94 eF (by assumption), rfl, hP, hkk⟩
            | exact N.retH [_] ⟨_, _, _, 0, rfl, rfl, loadsA Tryd.ag36 Tryd.sz36 hb20 (uv4 a.2) zoff, rfl⟩ ⟨_, _, cls_4 e94 eF (by assumption), rfl, hP, hkk⟩
      · refine X.done [(0, _), (1, _), (4, _), (6, _), (37, _)] ⟨rfl, rfl, rfl, rfl, rfl, trivial⟩ ?_
        refine N.then ?_
        refine E.condT rfl ?_
        refine E.region ?_
        refine X.ldA rfl rfl rfl rfl Tryd.ag36 Tryd.sz36 (hb6) (uv4 a.2) zoff ?_
        refine X.call rfl rfl rfl rfl rfl Tryd.cl40 (notS_ct a _) ?_
        rintro _ H11 ⟨rfl, hk11⟩
        replace hP := hk11.keep hP (by simp)
        replace hb4 := hk11.keep hb4 (by simp)
        replace hb6 := hk11.keep hb6 (by simp)
        replace hkk := hkk.trans hk11 (by simp)
        refine X.stA rfl rfl rfl rfl rfl rfl (uv_one _) (sz24w (sNot a).2) hb6 (by rw [uv4 (sNot a).2, uv4 a.2]; show 0 + 4 ≤ 4; omega) ?_
        intro H12 hb6n hk12
        rw [splice_all (by rw [uv4 (sNot a).2, uv4 a.2])] at hb6n
        replace hb6 := hb6n
        replace hP := hk12.keep hP (by simp; exact fun h => hne6 h.symm)
        replace hb4 := hk12.keep hb4 (by simp; exact fun h => hnb6_4 h.symm)
        replace hkk := hkk.trans hk12 (by simp; omega)
        refine X.done [(0, _), (1, _), (4, _), (6, _)] ⟨rfl, rfl, rfl, rfl, trivial⟩ ?_
        refine N.then ?_
        refine E.seq ?_
        refine E.seq ?_
        refine E.region ?_
        refine X.ldA rfl rfl rfl rfl Tryd.ag36 Tryd.sz36 (hb6) (by first | exact uv4 (sNot a).2 | exact uv4 a.2) zoff ?_
        refine X.build rfl rfl rfl rfl rfl build_z4 ?_
        refine X.eqlW rfl rfl rfl rfl rfl rfl Tryd.underlying36 Tryd.underlying34 Tryd.ag34 Tryd.sz34 (by kernel_rfl) (by first | exact (sNot a).2.len | exact a.2.len) (rfl) ?_
        refine X.done [(0, _), (1, _), (4, _), (6, _), (42, _)] ⟨rfl, rfl, rfl, rfl, rfl, trivial⟩ ?_
        refine N.then ?_
        refine E.condD rfl (fun hc => ?_) (fun hc => ?_)
        · refine E.region ?_
          refine X.mv rfl rfl rfl rfl rfl ?_
          refine X.mv rfl rfl rfl rfl rfl ?_
          refine X.call rfl rfl rfl rfl rfl Tryd.cl24 (fail_ct s p _ 17 _ _ hP) ?_
          rintro _ H13 ⟨rfl, hPn, hk13⟩
          replace hP := hPn
          replace hb4 := hk13.keep hb4 (by simp; exact hne4)
          replace hb6 := hk13.keep hb6 (by simp; exact hne6)
          replace hkk := hkk.trans hk13 (by simp)
          refine X.done [(4, _), (6, _)] ⟨rfl, rfl, trivial⟩ ?_
          refine N.then ?_
          refine E.seq ?_
          refine E.region ?_
          refine X.ldA rfl rfl rfl rfl Tryd.ag36 Tryd.sz36 (hb6) (by first | exact uv4 (sNot a).2 | exact uv4 a.2) zoff ?_
          refine X.stA rfl rfl rfl rfl rfl rfl (uv_one _) (by first | exact sz24w (sNot a).2 | exact sz24w a.2) hb4 (by first | (rw [uv4 (sNot a).2, uv4 ws_z4]; show 0 + 4 ≤ 4; omega) | (rw [uv4 a.2, uv4 ws_z4]; show 0 + 4 ≤ 4; omega)) ?_
          intro H20 hb20 hk20
          rw [splice_all (by first | (rw [uv4 (sNot a).2, uv4 ws_z4]) | (rw [uv4 a.2, uv4 ws_z4]))] at hb20
          replace hP := hk20.keep hP (by simp; exact fun h => hne4 h.symm)
          replace hkk := hkk.trans hk20 (by simp; omega)
          refine X.done [(4, _)] ⟨rfl, trivial⟩ ?_
          refine N.then ?_
          refine E.ret ?_
          first
            | exact N.retH [_] ⟨_, _, _, 0, rfl, rfl, loadsA Tryd.ag36 Tryd.sz36 hb20 (uv4 (sNot a).2) zoff, rfl⟩ ⟨_, _, cls_1 e94 eF (by assumption), rfl, hP, hkk⟩
            | exact N.retH [_] ⟨_, _, _, 0, rfl, rfl, loadsA Tryd.ag36 Tryd.sz36 hb20 (uv4 (sNot a).2) zoff, rfl⟩ ⟨_, _, cls_2 e94 eF (by assumption), rfl, hP, hkk⟩
            | exact N.retH [_] ⟨_, _, _, 0, rfl, rfl, loadsA Tryd.ag36 Tryd.sz36 hb20 (uv4 a.2) zoff, rfl⟩ ⟨_, _, cls_3 e94 eF (by assumption), rfl, hP, hkk⟩
            | exact N.retH [_] ⟨_, _, _, 0, rfl, rfl, loadsA Tryd.ag36 Tryd.sz36 hb20 (uv4 a.2) zoff, rfl⟩ ⟨_, _, cls_4 e94 eF (by assumption), rfl, hP, hkk⟩
        · refine E.skip ?_
          refine N.then ?_
          refine E.seq ?_
          refine E.region ?_
          refine X.ldA rfl rfl rfl rfl Tryd.ag36 Tryd.sz36 (hb6) (by first | exact uv4 (sNot a).2 | exact uv4 a.2) zoff ?_
          refine X.stA rfl rfl rfl rfl rfl rfl (uv_one _) (by first | exact sz24w (sNot a).2 | exact sz24w a.2) hb4 (by first | (rw [uv4 (sNot a).2, uv4 ws_z4]; show 0 + 4 ≤ 4; omega) | (rw [uv4 a.2, uv4 ws_z4]; show 0 + 4 ≤ 4; omega)) ?_
          intro H20 hb20 hk20
          rw [splice_all (by first | (rw [uv4 (sNot a).2, uv4 ws_z4]) | (rw [uv4 a.2, uv4 ws_z4]))] at hb20
          replace hP := hk20.keep hP (by simp; exact fun h => hne4 h.symm)
          replace hkk := hkk.trans hk20 (by simp; omega)
          refine X.done [(4, _)] ⟨rfl, trivial⟩ ?_
          refine N.then ?_
          refine E.ret ?_
          first
            | exact N.retH [_] ⟨_, _, _, 0, rfl, rfl, loadsA Tryd.ag36 Tryd.sz36 hb20 (uv4 (sNot a).2) zoff, rfl⟩ ⟨_, _, cls_1 e94 eF (by assumption), rfl, hP, hkk⟩
            | exact N.retH [_] ⟨_, _, _, 0, rfl, rfl, loadsA Tryd.ag36 Tryd.sz36 hb20 (uv4 (sNot a).2) zoff, rfl⟩ ⟨_, _, cls_2 e94 eF (by assumption), rfl, hP, hkk⟩
            | exact N.retH [_] ⟨_, _, _, 0, rfl, rfl, loadsA Tryd.ag36 Tryd.sz36 hb20 (uv4 a.2) zoff, rfl⟩ ⟨_, _, cls_3 e94 eF (by assumption), rfl, hP, hkk⟩
            | exact N.retH [_] ⟨_, _, _, 0, rfl, rfl, loadsA Tryd.ag36 Tryd.sz36 hb20 (uv4 a.2) zoff, rfl⟩ ⟨_, _, cls_4 e94 eF (by assumption), rfl, hP, hkk⟩
    · replace hP := hPn
      replace hb4 := hk5.keep hb4 (by simp; exact hne4)
      replace hb6 := hk5.keep hb6 (by simp; exact hne6)
      replace hkk := hkk.trans hk5 (by simp)
      refine X.notF rfl rfl rfl rfl rfl ?_
      refine X.pickT rfl rfl rfl rfl rfl rfl ?_
      refine X.done [(0, _), (1, _), (4, _), (5, _), (6, _), (9, _), (10, _), (11, _), (12, _), (13, _), (14, _), (15, _), (16, _), (17, _), (18, _)] ⟨rfl, rfl, rfl, rfl, rfl, rfl, rfl, rfl, rfl, rfl, rfl, rfl, rfl, rfl, rfl, trivial⟩ ?_
      refine N.then ?_
      refine E.condT rfl ?_
      refine E.skip ?_
      refine N.then ?_
      refine E.block ?_
      refine E.seq ?_
      refine E.seq ?_
      refine E.regionD (fun H' => H'[p]? = some (.cells (pcl s st).toArray 47 (0, 0))) [(0, .pu), (1, .pu), (2, .pu), (3, .st), (4, .pu), (5, .pu), (6, .pu), (7, .st), (8, .pu), (9, .pu)] Tryd.mixed (by kernel_rfl) (hP) ?_
      refine X.mv rfl rfl rfl rfl rfl ?_
      refine X.nilP rfl rfl rfl rfl rfl ?_
      refine X.fld rfl rfl rfl rfl rfl Tryd.off47_1 ?_
      refine X.ld rfl rfl rfl rfl Tryd.ag3 (fun H' hF => hF) (rfl) ?_
      refine X.mv rfl rfl rfl rfl rfl ?_
      refine X.nilP rfl rfl rfl rfl rfl ?_
      refine X.fld rfl rfl rfl rfl rfl Tryd.off47_0 ?_
      refine X.ld rfl rfl rfl rfl Tryd.ag9 (fun H' hF => hF) (rfl) ?_
      refine X.lenL rfl rfl rfl rfl rfl Tryd.underlying9 ?_
      refine X.geq rfl rfl rfl rfl rfl rfl ?_
      refine X.done [(0, _), (1, _), (4, _), (5, _), (6, _), (9, _), (10, _), (11, _), (12, _), (13, _), (14, _), (15, _), (16, _), (17, _), (18, _), (19, _), (20, _), (21, _), (22, _), (23, _), (24, _), (25, _), (26, _), (27, _), (28, _)] ⟨rfl, rfl, rfl, rfl, rfl, rfl, rfl, rfl, rfl, rfl, rfl, rfl, rfl, rfl, rfl, rfl, rfl, rfl, rfl, rfl, rfl, rfl, rfl, rfl, rfl, trivial⟩ ?_
      refine N.then ?_
      refine E.condD rfl (fun hc => ?_) (fun hc => ?_)
      · refine E.seq ?_
        refine E.region ?_
        refine X.mv rfl rfl rfl rfl rfl ?_
        refine X.mv rfl rfl rfl rfl rfl ?_
        refine X.call rfl rfl rfl rfl rfl Tryd.cl24 (fail_ct s p _ 16 _ _ hP) ?_
        rintro _ H8 ⟨rfl, hPn, hk8⟩
        replace hP := hPn
        replace hb4 := hk8.keep hb4 (by simp; exact hne4)
        replace hb6 := hk8.keep hb6 (by simp; exact hne6)
        replace hkk := hkk.trans hk8 (by simp)
        refine X.done [(0, _), (1, _), (4, _), (5, _), (6, _), (9, _), (10, _), (11, _), (12, _), (13, _), (14, _), (15, _), (16, _), (17, _), (18, _), (19, _), (20, _), (21, _), (22, _), (23, _), (24, _), (25, _), (26, _), (27, _), (28, _), (29, _), (30, _)] ⟨rfl, rfl, rfl, rfl, rfl, rfl, rfl, rfl, rfl, rfl, rfl, rfl, rfl, rfl, rfl, rfl, rfl, rfl, rfl, rfl, rfl, rfl, rfl, rfl, rfl, rfl, rfl, trivial⟩ ?_
        refine N.then ?_
        refine E.exit ?_
        refine N.thenX ?_
        refine N.blkO rfl ?_
        refine N.loopX ?_
        refine N.blkX ?_
        refine N.then ?_
        refine E.seq ?_
        refine E.seq ?_
        first
          | have eF := cF_2 hJ hf (by omega) ht3
          | have eF := cF_1 hJ hf (by omega)
          | have eF := cF_3 hJ hf (by omega) hf3 (by omega)
        refine E.region ?_
        refine X.mv rfl rfl rfl rfl rfl ?_
        cases nb
        · refine X.done [(0, _), (1, _), (4, _), (6, _), (37, _)] ⟨rfl, rfl, rfl, rfl, rfl, trivial⟩ ?_
          refine N.then ?_
          refine E.condF rfl ?_
          refine E.skip ?_
          refine N.then ?_
          refine E.seq ?_
          refine E.seq ?_
          refine E.region ?_
          refine X.ldA rfl rfl rfl rfl Tryd.ag36 Tryd.sz36 (hb6) (by first | exact uv4 (sNot a).2 | exact uv4 a.2) zoff ?_
          refine X.build rfl rfl rfl rfl rfl build_z4 ?_
          refine X.eqlW rfl rfl rfl rfl rfl rfl Tryd.underlying36 Tryd.underlying34 Tryd.ag34 Tryd.sz34 (by kernel_rfl) (by first | exact (sNot a).2.len | exact a.2.len) (rfl) ?_
          refine X.done [(0, _), (1, _), (4, _), (6, _), (42, _)] ⟨rfl, rfl, rfl, rfl, rfl, trivial⟩ ?_
          refine N.then ?_
          refine E.condD rfl (fun hc => ?_) (fun hc => ?_)
          · refine E.region ?_
            refine X.mv rfl rfl rfl rfl rfl ?_
            refine X.mv rfl rfl rfl rfl rfl ?_
            refine X.call rfl rfl rfl rfl rfl Tryd.cl24 (fail_ct s p _ 17 _ _ hP) ?_
            rintro _ H13 ⟨rfl, hPn, hk13⟩
            replace hP := hPn
            replace hb4 := hk13.keep hb4 (by simp; exact hne4)
            replace hb6 := hk13.keep hb6 (by simp; exact hne6)
            replace hkk := hkk.trans hk13 (by simp)
            refine X.done [(4, _), (6, _)] ⟨rfl, rfl, trivial⟩ ?_
            refine N.then ?_
            refine E.seq ?_
            refine E.region ?_
            refine X.ldA rfl rfl rfl rfl Tryd.ag36 Tryd.sz36 (hb6) (by first | exact uv4 (sNot a).2 | exact uv4 a.2) zoff ?_
            refine X.stA rfl rfl rfl rfl rfl rfl (uv_one _) (by first | exact sz24w (sNot a).2 | exact sz24w a.2) hb4 (by first | (rw [uv4 (sNot a).2, uv4 ws_z4]; show 0 + 4 ≤ 4; omega) | (rw [uv4 a.2, uv4 ws_z4]; show 0 + 4 ≤ 4; omega)) ?_
            intro H20 hb20 hk20
            rw [splice_all (by first | (rw [uv4 (sNot a).2, uv4 ws_z4]) | (rw [uv4 a.2, uv4 ws_z4]))] at hb20
            replace hP := hk20.keep hP (by simp; exact fun h => hne4 h.symm)
            replace hkk := hkk.trans hk20 (by simp; omega)
            refine X.done [(4, _)] ⟨rfl, trivial⟩ ?_
            refine N.then ?_
            refine E.ret ?_
            first
              | exact N.retH [_] ⟨_, _, _, 0, rfl, rfl, loadsA Tryd.ag36 Tryd.sz36 hb20 (uv4 (sNot a).2) zoff, rfl⟩ ⟨_, _, cls_1 e94 eF (by assumption), rfl, hP, hkk⟩
              | exact N.retH [_] ⟨_, _, _, 0, rfl, rfl, loadsA Tryd.ag36 Tryd.sz36 hb20 (uv4 (sNot a).2) zoff, rfl⟩ ⟨_, _, cls_2 e94 eF (by assumption), rfl, hP, hkk⟩
              | exact N.retH [_] ⟨_, _, _, 0, rfl, rfl, loadsA Tryd.ag36 Tryd.sz36 hb20 (uv4 a.2) zoff, rfl⟩ ⟨_, _, cls_3 e94 eF (by assumption), rfl, hP, hkk⟩
              | exact N.retH [_] ⟨_, _, _, 0, rfl, rfl, loadsA Tryd.ag36 Tryd.sz36 hb20 (uv4 a.2) zoff, rfl⟩ ⟨_, _, cls_4 e94 eF (by assumption), rfl, hP, hkk⟩
          · refine E.skip ?_
            refine N.then ?_
            refine E.seq ?_
            refine E.region ?_
            refine X.ldA rfl rfl rfl rfl Tryd.ag36 Tryd.sz36 (hb6) (by first | exact uv4 (sNot a).2 | exact uv4 a.2) zoff ?_
            refine X.stA rfl rfl rfl rfl rfl rfl (uv_one _) (by first | exact sz24w (sNot a).2 | exact sz24w a.2) hb4 (by first | (rw [uv4 (sNot a).2, uv4 ws_z4]; show 0 + 4 ≤ 4; omega) | (rw [uv4 a.2, uv4 ws_z4]; show 0 + 4 ≤ 4; omega)) ?_
            intro H20 hb20 hk20
            rw [splice_all (by first | (rw [uv4 (sNot a).2, uv4 ws_z4]) | (rw [uv4 a.2, uv4 ws_z4]))] at hb20
            replace hP := hk20.keep hP (by simp; exact fun h => hne4 h.symm)
            replace hkk := hkk.trans hk20 (by simp; omega)
            refine X.done [(4, _)] ⟨rfl, trivial⟩ ?_
            refine N.then ?_
            refine E.ret ?_
            first
              | exact N.retH [_] ⟨_, _, _, 0, rfl, rfl, loadsA Tryd.ag36 Tryd.sz36 hb20 (uv4 (sNot a).2) zoff, rfl⟩ ⟨_, _, cls_1 e94 eF (by assumption), rfl, hP, hkk⟩
              | exact N.retH [_] ⟨_, _, _, 0, rfl, rfl, loadsA Tryd.ag36 Tryd.sz36 hb20 (uv4 (sNot a).2) zoff, rfl⟩ ⟨_, _, cls_2 e94 eF (by assumption), rfl, hP, hkk⟩
              | exact N.retH [_] ⟨_, _, _, 0, rfl, rfl, loadsA Tryd.ag36 Tryd.sz36 hb20 (uv4 a.2) zoff, rfl⟩ ⟨_, _, cls_3 e94 eF (by assumption), rfl, hP, hkk⟩
              | exact N.retH [_] ⟨_, _, _, 0, rfl, rfl, loadsA Tryd.ag36 Tryd.sz36 hb20 (uv4 a.2) zoff, rfl⟩ ⟨_, _, cls_4 e94 eF (by assumption), rfl, hP, hkk⟩
        · refine X.done [(0, _), (1, _), (4, _), (6, _), (37, _)] ⟨rfl, rfl, rfl, rfl, rfl, trivial⟩ ?_
          refine N.then ?_
          refine E.condT rfl ?_
          refine E.region ?_
          refine X.ldA rfl rfl rfl rfl Tryd.ag36 Tryd.sz36 (hb6) (uv4 a.2) zoff ?_
          refine X.call rfl rfl rfl rfl rfl Tryd.cl40 (notS_ct a _) ?_
          rintro _ H11 ⟨rfl, hk11⟩
          replace hP := hk11.keep hP (by simp)
          replace hb4 := hk11.keep hb4 (by simp)
          replace hb6 := hk11.keep hb6 (by simp)
          replace hkk := hkk.trans hk11 (by simp)
          refine X.stA rfl rfl rfl rfl rfl rfl (uv_one _) (sz24w (sNot a).2) hb6 (by rw [uv4 (sNot a).2, uv4 a.2]; show 0 + 4 ≤ 4; omega) ?_
          intro H12 hb6n hk12
          rw [splice_all (by rw [uv4 (sNot a).2, uv4 a.2])] at hb6n
          replace hb6 := hb6n
          replace hP := hk12.keep hP (by simp; exact fun h => hne6 h.symm)
          replace hb4 := hk12.keep hb4 (by simp; exact fun h => hnb6_4 h.symm)
          replace hkk := hkk.trans hk12 (by simp; omega)
          refine X.done [(0, _), (1, _), (4, _), (6, _)] ⟨rfl, rfl, rfl, rfl, trivial⟩ ?_
          refine N.then ?_
          refine E.seq ?_
          refine E.seq ?_
          refine E.region ?_
          refine X.ldA rfl rfl rfl rfl Tryd.ag36 Tryd.sz36 (hb6) (by first | exact uv4 (sNot a).2 | exact uv4 a.2) zoff ?_
          refine X.build rfl rfl rfl rfl rfl build_z4 ?_
          refine X.eqlW rfl rfl rfl rfl rfl rfl Tryd.underlying36 Tryd.underlying34 Tryd.ag34 Tryd.sz34 (by kernel_rfl) (by first | exact (sNot a).2.len | exact a.2.len) (rfl) ?_
          refine X.done [(0, _), (1, _), (4, _), (6, _), (42, _)] ⟨rfl, rfl, rfl, rfl, rfl, trivial⟩ ?_
          refine N.then ?_
          refine E.condD rfl (fun hc => ?_) (fun hc => ?_)
          · refine E.region ?_
            refine X.mv rfl rfl rfl rfl rfl ?_
            refine X.mv rfl rfl rfl rfl rfl ?_
            refine X.call rfl rfl rfl rfl rfl Tryd.cl24 (fail_ct s p _ 17 _ _ hP) ?_
            rintro _ H13 ⟨rfl, hPn, hk13⟩
            replace hP := hPn
            replace hb4 := hk13.keep hb4 (by simp; exact hne4)
            replace hb6 := hk13.keep hb6 (by simp; exact hne6)
            replace hkk := hkk.trans hk13 (by simp)
            refine X.done [(4, _), (6, _)] ⟨rfl, rfl, trivial⟩ ?_
            refine N.then ?_
            refine E.seq ?_
            refine E.region ?_
            refine X.ldA rfl rfl rfl rfl Tryd.ag36 Tryd.sz36 (hb6) (by first | exact uv4 (sNot a).2 | exact uv4 a.2) zoff ?_
            refine X.stA rfl rfl rfl rfl rfl rfl (uv_one _) (by first | exact sz24w (sNot a).2 | exact sz24w a.2) hb4 (by first | (rw [uv4 (sNot a).2, uv4 ws_z4]; show 0 + 4 ≤ 4; omega) | (rw [uv4 a.2, uv4 ws_z4]; show 0 + 4 ≤ 4; omega)) ?_
            intro H20 hb20 hk20
            rw [splice_all (by first | (rw [uv4 (sNot a).2, uv4 ws_z4]) | (rw [uv4 a.2, uv4 ws_z4]))] at hb20
            replace hP := hk20.keep hP (by simp; exact fun h => hne4 h.symm)
            replace hkk := hkk.trans hk20 (by simp; omega)
            refine X.done [(4, _)] ⟨rfl, trivial⟩ ?_
            refine N.then ?_
            refine E.ret ?_
            first
              | exact N.retH [_] ⟨_, _, _, 0, rfl, rfl, loadsA Tryd.ag36 Tryd.sz36 hb20 (uv4 (sNot a).2) zoff, rfl⟩ ⟨_, _, cls_1 e94 eF (by assumption), rfl, hP, hkk⟩
              | exact N.retH [_] ⟨_, _, _, 0, rfl, rfl, loadsA Tryd.ag36 Tryd.sz36 hb20 (uv4 (sNot a).2) zoff, rfl⟩ ⟨_, _, cls_2 e94 eF (by assumption), rfl, hP, hkk⟩
              | exact N.retH [_] ⟨_, _, _, 0, rfl, rfl, loadsA Tryd.ag36 Tryd.sz36 hb20 (uv4 a.2) zoff, rfl⟩ ⟨_, _, cls_3 e94 eF (by assumption), rfl, hP, hkk⟩
              | exact N.retH [_] ⟨_, _, _, 0, rfl, rfl, loadsA Tryd.ag36 Tryd.sz36 hb20 (uv4 a.2) zoff, rfl⟩ ⟨_, _, cls_4 e94 eF (by assumption), rfl, hP, hkk⟩
          · refine E.skip ?_
            refine N.then ?_
            refine E.seq ?_
            refine E.region ?_
            refine X.ldA rfl rfl rfl rfl Tryd.ag36 Tryd.sz36 (hb6) (by first | exact uv4 (sNot a).2 | exact uv4 a.2) zoff ?_
            refine X.stA rfl rfl rfl rfl rfl rfl (uv_one _) (by first | exact sz24w (sNot a).2 | exact sz24w a.2) hb4 (by first | (rw [uv4 (sNot a).2, uv4 ws_z4]; show 0 + 4 ≤ 4; omega) | (rw [uv4 a.2, uv4 ws_z4]; show 0 + 4 ≤ 4; omega)) ?_
            intro H20 hb20 hk20
            rw [splice_all (by first | (rw [uv4 (sNot a).2, uv4 ws_z4]) | (rw [uv4 a.2, uv4 ws_z4]))] at hb20
            replace hP := hk20.keep hP (by simp; exact fun h => hne4 h.symm)
            replace hkk := hkk.trans hk20 (by simp; omega)
            refine X.done [(4, _)] ⟨rfl, trivial⟩ ?_
            refine N.then ?_
            refine E.ret ?_
            first
              | exact N.retH [_] ⟨_, _, _, 0, rfl, rfl, loadsA Tryd.ag36 Tryd.sz36 hb20 (uv4 (sNot a).2) zoff, rfl⟩ ⟨_, _, cls_1 e94 eF (by assumption), rfl, hP, hkk⟩
              | exact N.retH [_] ⟨_, _, _, 0, rfl, rfl, loadsA Tryd.ag36 Tryd.sz36 hb20 (uv4 (sNot a).2) zoff, rfl⟩ ⟨_, _, cls_2 e94 eF (by assumption), rfl, hP, hkk⟩
              | exact N.retH [_] ⟨_, _, _, 0, rfl, rfl, loadsA Tryd.ag36 Tryd.sz36 hb20 (uv4 a.2) zoff, rfl⟩ ⟨_, _, cls_3 e94 eF (by assumption), rfl, hP, hkk⟩
              | exact N.retH [_] ⟨_, _, _, 0, rfl, rfl, loadsA Tryd.ag36 Tryd.sz36 hb20 (uv4 a.2) zoff, rfl⟩ ⟨_, _, cls_4 e94 eF (by assumption), rfl, hP, hkk⟩
      · refine E.skip ?_
        refine N.then ?_
        refine E.regionD (fun H' => H'[b6]? = some (.cells (uv a.1).toArray 36 (0, 0))) [(0, .st), (1, .pu), (2, .pu), (3, .mk), (4, .mv), (5, .mv)] Tryd.mixed (by kernel_rfl) (hb6) ?_
        refine X.ldA rfl rfl rfl rfl Tryd.ag36 Tryd.sz36 (fun H' hF => hF) (uv4 a.2) zoff ?_
        refine X.mv rfl rfl rfl rfl rfl ?_
        refine X.mv rfl rfl rfl rfl rfl ?_
        refine X.call rfl rfl rfl rfl rfl Tryd.cl69 (item_ct s p fr _ _ hP hs (tab_keep hT hp0 hkk) hp0) ?_
        rintro _ H9 ⟨x, st2, ei, rfl, hPn, hk9⟩
        replace hP := hPn
        replace hb4 := hk9.keep hb4 (by simp; exact hne4)
        replace hb6 := hk9.keep hb6 (by simp; exact hne6)
        replace hkk := hkk.trans hk9 (by simp)
        refine ⟨hb6, ?_⟩
        refine X.call rfl rfl rfl rfl rfl Tryd.cl68 (orS_ct a x _) ?_
        rintro _ H10 ⟨rfl, hk10⟩
        replace hP := hk10.keep hP (by simp)
        replace hb4 := hk10.keep hb4 (by simp)
        replace hb6 := hk10.keep hb6 (by simp)
        replace hkk := hkk.trans hk10 (by simp)
        refine X.stA rfl rfl rfl rfl rfl rfl (uv_one _) (sz24w (sOr a x).2) hb6 (by rw [uv4 (sOr a x).2, uv4 a.2]; show 0 + 4 ≤ 4; omega) ?_
        intro H12 hb6n hk12
        rw [splice_all (by rw [uv4 (sOr a x).2, uv4 a.2])] at hb6n
        replace hb6 := hb6n
        replace hP := hk12.keep hP (by simp; exact fun h => hne6 h.symm)
        replace hb4 := hk12.keep hb4 (by simp; exact fun h => hnb6_4 h.symm)
        replace hkk := hkk.trans hk12 (by simp; omega)
        refine X.done [(0, _), (1, _), (4, _), (5, _), (6, _), (9, _), (10, _), (11, _), (12, _), (13, _), (14, _), (15, _), (16, _), (17, _), (18, _), (19, _), (20, _), (21, _), (22, _), (23, _), (24, _), (25, _), (26, _), (27, _), (28, _), (32, _), (33, _), (34, _), (35, _), (36, _)] ⟨rfl, rfl, rfl, rfl, rfl, rfl, rfl, rfl, rfl, rfl, rfl, rfl, rfl, rfl, rfl, rfl, rfl, rfl, rfl, rfl, rfl, rfl, rfl, rfl, rfl, rfl, rfl, rfl, rfl, rfl, trivial⟩ ?_
        refine N.blk ?_
        exact N.next (G := fun (q : CQ) => _) ⟨f - 1, sOr a x, st2⟩ ⟨rfl, rfl, rfl, rfl, rfl, trivial⟩ ⟨cF_4 hJ hf (by omega) hf3 (by omega) ei, by have := (sq_itm (s := s) (from_ := fr) (st := st) (by omega) hat).lt; rw [ei] at this; show Mq s st2 < f - 1; dsimp only at this; omega, hP, hb4, hb6, by have := (sq_itm (s := s) (from_ := fr) (st := st) (by omega) hat).len; rw [ei] at this; exact this, hkk⟩ (by show f - 1 < f; omega)
  · refine X.mv rfl rfl rfl rfl rfl ?_
    refine X.skip rfl rfl rfl ?_
    refine X.skip rfl rfl rfl ?_
    refine X.skip rfl rfl rfl ?_
    refine X.pickF rfl rfl rfl rfl rfl rfl ?_
    refine X.done [(0, _), (1, _), (4, _), (5, _), (6, _), (9, _), (10, _), (11, _), (12, _), (13, _), (14, _), (15, _), (16, _), (17, _), (18, _)] ⟨rfl, rfl, rfl, rfl, rfl, rfl, rfl, rfl, rfl, rfl, rfl, rfl, rfl, rfl, rfl, trivial⟩ ?_
    refine N.then ?_
    refine E.condF rfl ?_
    refine E.exit ?_
    refine N.thenX ?_
    refine N.loopX ?_
    refine N.blkX ?_
    refine N.then ?_
    refine E.seq ?_
    refine E.seq ?_
    first
      | have eF := cF_2 hJ hf (by omega) ht3
      | have eF := cF_1 hJ hf (by omega)
      | have eF := cF_3 hJ hf (by omega) hf3 (by omega)
    refine E.region ?_
    refine X.mv rfl rfl rfl rfl rfl ?_
    cases nb
    · refine X.done [(0, _), (1, _), (4, _), (6, _), (37, _)] ⟨rfl, rfl, rfl, rfl, rfl, trivial⟩ ?_
      refine N.then ?_
      refine E.condF rfl ?_
      refine E.skip ?_
      refine N.then ?_
      refine E.seq ?_
      refine E.seq ?_
      refine E.region ?_
      refine X.ldA rfl rfl rfl rfl Tryd.ag36 Tryd.sz36 (hb6) (by first | exact uv4 (sNot a).2 | exact uv4 a.2) zoff ?_
      refine X.build rfl rfl rfl rfl rfl build_z4 ?_
      refine X.eqlW rfl rfl rfl rfl rfl rfl Tryd.underlying36 Tryd.underlying34 Tryd.ag34 Tryd.sz34 (by kernel_rfl) (by first | exact (sNot a).2.len | exact a.2.len) (rfl) ?_
      refine X.done [(0, _), (1, _), (4, _), (6, _), (42, _)] ⟨rfl, rfl, rfl, rfl, rfl, trivial⟩ ?_
      refine N.then ?_
      refine E.condD rfl (fun hc => ?_) (fun hc => ?_)
      · refine E.region ?_
        refine X.mv rfl rfl rfl rfl rfl ?_
        refine X.mv rfl rfl rfl rfl rfl ?_
        refine X.call rfl rfl rfl rfl rfl Tryd.cl24 (fail_ct s p _ 17 _ _ hP) ?_
        rintro _ H13 ⟨rfl, hPn, hk13⟩
        replace hP := hPn
        replace hb4 := hk13.keep hb4 (by simp; exact hne4)
        replace hb6 := hk13.keep hb6 (by simp; exact hne6)
        replace hkk := hkk.trans hk13 (by simp)
        refine X.done [(4, _), (6, _)] ⟨rfl, rfl, trivial⟩ ?_
        refine N.then ?_
        refine E.seq ?_
        refine E.region ?_
        refine X.ldA rfl rfl rfl rfl Tryd.ag36 Tryd.sz36 (hb6) (by first | exact uv4 (sNot a).2 | exact uv4 a.2) zoff ?_
        refine X.stA rfl rfl rfl rfl rfl rfl (uv_one _) (by first | exact sz24w (sNot a).2 | exact sz24w a.2) hb4 (by first | (rw [uv4 (sNot a).2, uv4 ws_z4]; show 0 + 4 ≤ 4; omega) | (rw [uv4 a.2, uv4 ws_z4]; show 0 + 4 ≤ 4; omega)) ?_
        intro H20 hb20 hk20
        rw [splice_all (by first | (rw [uv4 (sNot a).2, uv4 ws_z4]) | (rw [uv4 a.2, uv4 ws_z4]))] at hb20
        replace hP := hk20.keep hP (by simp; exact fun h => hne4 h.symm)
        replace hkk := hkk.trans hk20 (by simp; omega)
        refine X.done [(4, _)] ⟨rfl, trivial⟩ ?_
        refine N.then ?_
        refine E.ret ?_
        first
          | exact N.retH [_] ⟨_, _, _, 0, rfl, rfl, loadsA Tryd.ag36 Tryd.sz36 hb20 (uv4 (sNot a).2) zoff, rfl⟩ ⟨_, _, cls_1 e94 eF (by assumption), rfl, hP, hkk⟩
          | exact N.retH [_] ⟨_, _, _, 0, rfl, rfl, loadsA Tryd.ag36 Tryd.sz36 hb20 (uv4 (sNot a).2) zoff, rfl⟩ ⟨_, _, cls_2 e94 eF (by assumption), rfl, hP, hkk⟩
          | exact N.retH [_] ⟨_, _, _, 0, rfl, rfl, loadsA Tryd.ag36 Tryd.sz36 hb20 (uv4 a.2) zoff, rfl⟩ ⟨_, _, cls_3 e94 eF (by assumption), rfl, hP, hkk⟩
          | exact N.retH [_] ⟨_, _, _, 0, rfl, rfl, loadsA Tryd.ag36 Tryd.sz36 hb20 (uv4 a.2) zoff, rfl⟩ ⟨_, _, cls_4 e94 eF (by assumption), rfl, hP, hkk⟩
      · refine E.skip ?_
        refine N.then ?_
        refine E.seq ?_
        refine E.region ?_
        refine X.ldA rfl rfl rfl rfl Tryd.ag36 Tryd.sz36 (hb6) (by first | exact uv4 (sNot a).2 | exact uv4 a.2) zoff ?_
        refine X.stA rfl rfl rfl rfl rfl rfl (uv_one _) (by first | exact sz24w (sNot a).2 | exact sz24w a.2) hb4 (by first | (rw [uv4 (sNot a).2, uv4 ws_z4]; show 0 + 4 ≤ 4; omega) | (rw [uv4 a.2, uv4 ws_z4]; show 0 + 4 ≤ 4; omega)) ?_
        intro H20 hb20 hk20
        rw [splice_all (by first | (rw [uv4 (sNot a).2, uv4 ws_z4]) | (rw [uv4 a.2, uv4 ws_z4]))] at hb20
        replace hP := hk20.keep hP (by simp; exact fun h => hne4 h.symm)
        replace hkk := hkk.trans hk20 (by simp; omega)
        refine X.done [(4, _)] ⟨rfl, trivial⟩ ?_
        refine N.then ?_
        refine E.ret ?_
        first
          | exact N.retH [_] ⟨_, _, _, 0, rfl, rfl, loadsA Tryd.ag36 Tryd.sz36 hb20 (uv4 (sNot a).2) zoff, rfl⟩ ⟨_, _, cls_1 e94 eF (by assumption), rfl, hP, hkk⟩
          | exact N.retH [_] ⟨_, _, _, 0, rfl, rfl, loadsA Tryd.ag36 Tryd.sz36 hb20 (uv4 (sNot a).2) zoff, rfl⟩ ⟨_, _, cls_2 e94 eF (by assumption), rfl, hP, hkk⟩
          | exact N.retH [_] ⟨_, _, _, 0, rfl, rfl, loadsA Tryd.ag36 Tryd.sz36 hb20 (uv4 a.2) zoff, rfl⟩ ⟨_, _, cls_3 e94 eF (by assumption), rfl, hP, hkk⟩
          | exact N.retH [_] ⟨_, _, _, 0, rfl, rfl, loadsA Tryd.ag36 Tryd.sz36 hb20 (uv4 a.2) zoff, rfl⟩ ⟨_, _, cls_4 e94 eF (by assumption), rfl, hP, hkk⟩
    · refine X.done [(0, _), (1, _), (4, _), (6, _), (37, _)] ⟨rfl, rfl, rfl, rfl, rfl, trivial⟩ ?_
      refine N.then ?_
      refine E.condT rfl ?_
      refine E.region ?_
      refine X.ldA rfl rfl rfl rfl Tryd.ag36 Tryd.sz36 (hb6) (uv4 a.2) zoff ?_
      refine X.call rfl rfl rfl rfl rfl Tryd.cl40 (notS_ct a _) ?_
      rintro _ H11 ⟨rfl, hk11⟩
      replace hP := hk11.keep hP (by simp)
      replace hb4 := hk11.keep hb4 (by simp)
      replace hb6 := hk11.keep hb6 (by simp)
      replace hkk := hkk.trans hk11 (by simp)
      refine X.stA rfl rfl rfl rfl rfl rfl (uv_one _) (sz24w (sNot a).2) hb6 (by rw [uv4 (sNot a).2, uv4 a.2]; show 0 + 4 ≤ 4; omega) ?_
      intro H12 hb6n hk12
      rw [splice_all (by rw [uv4 (sNot a).2, uv4 a.2])] at hb6n
      replace hb6 := hb6n
      replace hP := hk12.keep hP (by simp; exact fun h => hne6 h.symm)
      replace hb4 := hk12.keep hb4 (by simp; exact fun h => hnb6_4 h.symm)
      replace hkk := hkk.trans hk12 (by simp; omega)
      refine X.done [(0, _), (1, _), (4, _), (6, _)] ⟨rfl, rfl, rfl, rfl, trivial⟩ ?_
      refine N.then ?_
      refine E.seq ?_
      refine E.seq ?_
      refine E.region ?_
      refine X.ldA rfl rfl rfl rfl Tryd.ag36 Tryd.sz36 (hb6) (by first | exact uv4 (sNot a).2 | exact uv4 a.2) zoff ?_
      refine X.build rfl rfl rfl rfl rfl build_z4 ?_
      refine X.eqlW rfl rfl rfl rfl rfl rfl Tryd.underlying36 Tryd.underlying34 Tryd.ag34 Tryd.sz34 (by kernel_rfl) (by first | exact (sNot a).2.len | exact a.2.len) (rfl) ?_
      refine X.done [(0, _), (1, _), (4, _), (6, _), (42, _)] ⟨rfl, rfl, rfl, rfl, rfl, trivial⟩ ?_
      refine N.then ?_
      refine E.condD rfl (fun hc => ?_) (fun hc => ?_)
      · refine E.region ?_
        refine X.mv rfl rfl rfl rfl rfl ?_
        refine X.mv rfl rfl rfl rfl rfl ?_
        refine X.call rfl rfl rfl rfl rfl Tryd.cl24 (fail_ct s p _ 17 _ _ hP) ?_
        rintro _ H13 ⟨rfl, hPn, hk13⟩
        replace hP := hPn
        replace hb4 := hk13.keep hb4 (by simp; exact hne4)
        replace hb6 := hk13.keep hb6 (by simp; exact hne6)
        replace hkk := hkk.trans hk13 (by simp)
        refine X.done [(4, _), (6, _)] ⟨rfl, rfl, trivial⟩ ?_
        refine N.then ?_
        refine E.seq ?_
        refine E.region ?_
        refine X.ldA rfl rfl rfl rfl Tryd.ag36 Tryd.sz36 (hb6) (by first | exact uv4 (sNot a).2 | exact uv4 a.2) zoff ?_
        refine X.stA rfl rfl rfl rfl rfl rfl (uv_one _) (by first | exact sz24w (sNot a).2 | exact sz24w a.2) hb4 (by first | (rw [uv4 (sNot a).2, uv4 ws_z4]; show 0 + 4 ≤ 4; omega) | (rw [uv4 a.2, uv4 ws_z4]; show 0 + 4 ≤ 4; omega)) ?_
        intro H20 hb20 hk20
        rw [splice_all (by first | (rw [uv4 (sNot a).2, uv4 ws_z4]) | (rw [uv4 a.2, uv4 ws_z4]))] at hb20
        replace hP := hk20.keep hP (by simp; exact fun h => hne4 h.symm)
        replace hkk := hkk.trans hk20 (by simp; omega)
        refine X.done [(4, _)] ⟨rfl, trivial⟩ ?_
        refine N.then ?_
        refine E.ret ?_
        first
          | exact N.retH [_] ⟨_, _, _, 0, rfl, rfl, loadsA Tryd.ag36 Tryd.sz36 hb20 (uv4 (sNot a).2) zoff, rfl⟩ ⟨_, _, cls_1 e94 eF (by assumption), rfl, hP, hkk⟩
          | exact N.retH [_] ⟨_, _, _, 0, rfl, rfl, loadsA Tryd.ag36 Tryd.sz36 hb20 (uv4 (sNot a).2) zoff, rfl⟩ ⟨_, _, cls_2 e94 eF (by assumption), rfl, hP, hkk⟩
          | exact N.retH [_] ⟨_, _, _, 0, rfl, rfl, loadsA Tryd.ag36 Tryd.sz36 hb20 (uv4 a.2) zoff, rfl⟩ ⟨_, _, cls_3 e94 eF (by assumption), rfl, hP, hkk⟩
          | exact N.retH [_] ⟨_, _, _, 0, rfl, rfl, loadsA Tryd.ag36 Tryd.sz36 hb20 (uv4 a.2) zoff, rfl⟩ ⟨_, _, cls_4 e94 eF (by assumption), rfl, hP, hkk⟩
      · refine E.skip ?_
        refine N.then ?_
        refine E.seq ?_
        refine E.region ?_
        refine X.ldA rfl rfl rfl rfl Tryd.ag36 Tryd.sz36 (hb6) (by first | exact uv4 (sNot a).2 | exact uv4 a.2) zoff ?_
        refine X.stA rfl rfl rfl rfl rfl rfl (uv_one _) (by first | exact sz24w (sNot a).2 | exact sz24w a.2) hb4 (by first | (rw [uv4 (sNot a).2, uv4 ws_z4]; show 0 + 4 ≤ 4; omega) | (rw [uv4 a.2, uv4 ws_z4]; show 0 + 4 ≤ 4; omega)) ?_
        intro H20 hb20 hk20
        rw [splice_all (by first | (rw [uv4 (sNot a).2, uv4 ws_z4]) | (rw [uv4 a.2, uv4 ws_z4]))] at hb20
        replace hP := hk20.keep hP (by simp; exact fun h => hne4 h.symm)
        replace hkk := hkk.trans hk20 (by simp; omega)
        refine X.done [(4, _)] ⟨rfl, trivial⟩ ?_
        refine N.then ?_
        refine E.ret ?_
        first
          | exact N.retH [_] ⟨_, _, _, 0, rfl, rfl, loadsA Tryd.ag36 Tryd.sz36 hb20 (uv4 (sNot a).2) zoff, rfl⟩ ⟨_, _, cls_1 e94 eF (by assumption), rfl, hP, hkk⟩
          | exact N.retH [_] ⟨_, _, _, 0, rfl, rfl, loadsA Tryd.ag36 Tryd.sz36 hb20 (uv4 (sNot a).2) zoff, rfl⟩ ⟨_, _, cls_2 e94 eF (by assumption), rfl, hP, hkk⟩
          | exact N.retH [_] ⟨_, _, _, 0, rfl, rfl, loadsA Tryd.ag36 Tryd.sz36 hb20 (uv4 a.2) zoff, rfl⟩ ⟨_, _, cls_3 e94 eF (by assumption), rfl, hP, hkk⟩
          | exact N.retH [_] ⟨_, _, _, 0, rfl, rfl, loadsA Tryd.ag36 Tryd.sz36 hb20 (uv4 a.2) zoff, rfl⟩ ⟨_, _, cls_4 e94 eF (by assumption), rfl, hP, hkk⟩

theorem row_ct {σ : Type} (mo : σ → Bool × σ) (pa : σ → List Nd × σ) (I : σ → Heap → Prop) (V : σ → Prop) (μ : σ → Nat) (S : List Nat) (kind : Int) (F1 F2 : FuncId) (us1 cs1 us2 cs2 : List Value) (H0 : Heap)
    (hc1 : callable Tryd.prog F1 = true) (hc2 : callable Tryd.prog F2 = true)
    (hm : ∀ g H, V g → I g H → Kp S H0 H → Ct Tryd.prog F1 (us1 ++ [] ++ cs1).toArray H fun v H' => v = .bool (mo g).1 ∧ I (mo g).2 H' ∧ Kp S H H')
    (hp : ∀ g H, V g → (mo g).1 = true → I (mo g).2 H → Kp S H0 H → Ct Tryd.prog F2 (us2 ++ [] ++ cs2).toArray H fun v H' => NRF H H' v (pa (mo g).2).1 ∧ I (pa (mo g).2).2 H' ∧ Kp S H H')
    (hVs : ∀ g, V g → (mo g).1 = true → V (pa (mo g).2).2 ∧ μ (pa (mo g).2).2 < μ g) (hS : ∀ b ∈ S, b < H0.size)
    (hIk : ∀ g H H' B, I g H → Kp B H H' → (∀ b ∈ B, H0.size ≤ b) → I g H')
    (g0 : σ) (f0 : Nat) (hV0 : V g0) (hI0 : I g0 H0) (hf : μ g0 < f0) (hbd : (rwF mo pa f0 [] g0).1.flatten.length + (rwF mo pa f0 [] g0).1.length ≤ 100000) :
    Ct Tryd.prog 33 #[i64 kind, .func (.func F1) us1.toArray cs1.toArray, .func (.func F2) us2.toArray cs2.toArray] H0 fun v H' => NRF H0 H' v (fin kind (rwF mo pa f0 [] g0).1) ∧ I (rwF mo pa f0 [] g0).2 H' ∧ Kp S H0 H' := by
  refine Ct.into 30 Tryd.func33 rfl [(0, i64 kind), (1, .func (.func F1) us1.toArray cs1.toArray), (2, .func (.func F2) us2.toArray cs2.toArray)] rfl ⟨rfl, rfl, rfl, trivial⟩ ?_
  refine E.seq ?_
  refine E.region ?_
  refine X.asg rfl rfl rfl rfl rfl ?_
  refine X.done [(0, _), (1, _), (2, _), (6, _)] ⟨rfl, rfl, rfl, rfl, trivial⟩ ?_
  refine N.then ?_
  refine E.seq ?_
  refine E.region ?_
  refine X.asg rfl rfl rfl rfl rfl ?_
  refine X.done [(0, _), (1, _), (2, _), (6, _), (7, _)] ⟨rfl, rfl, rfl, rfl, rfl, trivial⟩ ?_
  refine N.then ?_
  refine E.seq ?_
  refine E.block ?_
  refine E.loop (fun (q : RQ σ) => [(0, i64 kind), (1, .func (.func F1) us1.toArray cs1.toArray), (2, .func (.func F2) us2.toArray cs2.toArray), (6, .slice none 0 0), (7, q.v)]) (fun (q : RQ σ) H' => rwF mo pa q.f (q.ks.map (·.2)) q.g = rwF mo pa f0 [] g0 ∧ μ q.g < q.f ∧ V q.g ∧ I q.g H' ∧ Own H' 22 1 q.v q.ks.length (q.ks.map (·.1)) ∧ (∀ k ∈ q.ks, NR H' k.1 k.2 ∧ ∀ b ∈ blk k.1, H0.size ≤ b ∧ b ∉ blk q.v ∧ b < H'.size) ∧ (∀ b ∈ blk q.v, H0.size ≤ b) ∧ Kp S H0 H') (fun (q : RQ σ) => q.f) ⟨f0, [], g0, .slice none 0 0⟩ ⟨rfl, rfl, rfl, rfl, rfl, trivial⟩ ⟨rfl, hf, hV0, hI0, Own.nil _ _ _, by simp, by simp [blk], Kp.refl _ _⟩ ?_
  rintro ⟨f, ks, g, v⟩ H3 hJ
  dsimp only at hJ ⊢
  obtain ⟨hJ, hff, hV, hI, hO, hks, hvb, hkk⟩ := hJ
  refine E.seq ?_
  refine E.seq ?_
  refine E.region ?_
  refine X.mv rfl rfl rfl rfl rfl ?_
  refine X.callv rfl rfl rfl rfl rfl rfl hc1 (hm g H3 hV hI hkk) ?_
  rintro _ H4 ⟨rfl, hI4, hk4⟩
  have hkk4 := hkk.trans hk4 (fun b hb => .inl hb)
  refine X.done [(0, _), (1, _), (2, _), (6, _), (7, _), (8, _), (9, _)] ⟨rfl, rfl, rfl, rfl, rfl, rfl, rfl, trivial⟩ ?_
  refine N.then ?_
  refine E.cond rfl (fun hc => ?_) (fun hc => ?_)
  · refine E.skip ?_
    refine N.then ?_
    refine E.block ?_
    have hsz5 := hJ
    obtain ⟨f1, hf1⟩ : ∃ f1, f = f1 + 1 := ⟨f - 1, by omega⟩
    have hJ5 : rwF mo pa (f - 1) (ks.map (·.2) ++ [(pa (mo g).2).1]) (pa (mo g).2).2 = rwF mo pa f0 [] g0 := by rw [← hJ, hf1, rwF, if_pos hc]; rfl
    have hlt5 := (hVs g hV hc).2
    have hln := rwF_len mo pa (f - 1) (ks.map (·.2) ++ [(pa (mo g).2).1]) (pa (mo g).2).2
    rw [hJ5] at hln
    simp only [List.length_append, List.length_map, List.length_cons, List.length_nil] at hln
    have hO4 := hO.keep hk4 (fun b hb hbS => absurd (hS b hbS) (by have := hvb b hb; omega))
    have hks4 : ∀ k ∈ ks, NR H4 k.1 k.2 ∧ ∀ b ∈ blk k.1, H0.size ≤ b ∧ b ∉ blk v ∧ b < H4.size := fun k hk => by
      obtain ⟨q1, q2⟩ := hks k hk
      exact ⟨q1.keep hk4 (fun b hb hbS => absurd (hS b hbS) (by have := (q2 b hb).1; omega)), fun b hb => ⟨(q2 b hb).1, (q2 b hb).2.1, Nat.lt_of_lt_of_le (q2 b hb).2.2 hk4.size⟩⟩
    refine E.region ?_
    refine X.mv rfl rfl rfl rfl rfl ?_
    refine X.mv rfl rfl rfl rfl rfl ?_
    refine X.callv rfl rfl rfl rfl rfl rfl hc2 (hp g H4 hV hc hI4 hkk4) ?_
    rintro v5 H5 ⟨⟨hn5, hff5⟩, hI5, hk5⟩
    have hf5 : ∀ b ∈ blk v5, H4.size ≤ b := fun b hb => (hff5 b hb).1
    have hO5 := hO4.keep hk5 (fun b hb hbS => absurd (hS b hbS) (by have := hvb b hb; omega))
    have hkk5 := hkk4.trans hk5 (fun b hb => .inl hb)
    refine X.lit (e := 22) (cs := [v5]) rfl rfl rfl rfl rfl (lit22 hn5) ?_
    intro b6 H6 hn6 hb6 hk6
    refine X.app T66 rfl rfl rfl rfl rfl rfl ((hO5.keep hk6 (by simp))) (by exact .inl (rd1 hb6)) (.inl ⟨22, Tryd.underlying66, _, _, rfl⟩) (by simp only [List.mem_singleton]; rintro u rfl; exact hn5.one) (by first | (simp only [maxLen]; omega) | omega) (by first | (simp only [maxLen]; omega) | omega) ?_
    intro v7 H7 hO7 hk7 hb7 hn7
    have hkk6 := hkk5.trans hk6 (by simp)
    have hkk7 := hkk6.trans hk7 (fun b hb => .inr (hvb b hb))
    have hvb7 : ∀ b ∈ blk v7, H0.size ≤ b := fun b hb => hb7.elim (fun h => hvb b (h ▸ hb)) (fun h => Nat.le_trans hkk6.size (h b hb))
    have hI7 := hIk _ _ _ _ (hIk _ _ _ [] hI5 hk6 (by simp)) hk7 hvb
    have hks7 : ∀ k ∈ ks ++ [(v5, (pa (mo g).2).1)], NR H7 k.1 k.2 ∧ ∀ b ∈ blk k.1, H0.size ≤ b ∧ b ∉ blk v7 ∧ b < H7.size := by
      intro k hk
      rcases List.mem_append.1 hk with hk | hk
      · obtain ⟨q1, q2⟩ := hks4 k hk
        refine ⟨((q1.keep hk5 (fun b hb => fun hbS => absurd (hS b hbS) (by have := (q2 b hb).1; omega))).keepN hk6).keep hk7 (fun b hb => (q2 b hb).2.1), fun b hb => ⟨(q2 b hb).1, fun h8 => ?_, ?_⟩⟩
        · rcases hb7 with h9 | h9
          · exact (q2 b hb).2.1 (h9 ▸ h8)
          · have h10 := h9 b h8
            have h11 := (q2 b hb).2.2
            have := hk5.size
            have := hk6.size
            omega
        · have h11 := (q2 b hb).2.2
          have := hk5.size
          have := hk6.size
          have := hk7.size
          omega
      · obtain rfl : k = (v5, (pa (mo g).2).1) := by simpa using hk
        have hlt5 : ∀ b ∈ blk v5, b < H5.size := fun b hb => (hff5 b hb).2
        refine ⟨(hn5.keepN hk6).keep hk7 (fun b hb h8 => absurd (hf5 b hb) (by have := hO4.lt b h8; omega)), fun b hb => ⟨Nat.le_trans hkk4.size (hf5 b hb), fun h8 => ?_, ?_⟩⟩
        · rcases hb7 with h9 | h9
          · have h10 := hO4.lt b (h9 ▸ h8)
            have := hf5 b hb
            omega
          · have h10 := h9 b h8
            have := hlt5 b hb
            have := hk6.size
            omega
        · have := hlt5 b hb
          have := hk6.size
          have := hk7.size
          omega
    have hO7' : Own H7 22 1 v7 (ks ++ [(v5, (pa (mo g).2).1)]).length ((ks ++ [(v5, (pa (mo g).2).1)]).map (·.1)) := by simpa using hO7
    refine X.asg rfl rfl rfl rfl rfl ?_
    refine X.done [(0, _), (1, _), (2, _), (6, _), (7, _), (8, _), (9, _), (10, _), (11, _), (12, _), (13, _), (14, _)] ⟨rfl, rfl, rfl, rfl, rfl, rfl, rfl, rfl, rfl, rfl, rfl, rfl, trivial⟩ ?_
    refine N.blk ?_
    exact N.next (G := fun (q : RQ σ) => _) ⟨f - 1, ks ++ [(v5, (pa (mo g).2).1)], (pa (mo g).2).2, v7⟩ ⟨rfl, rfl, rfl, rfl, rfl, trivial⟩ ⟨by show rwF mo pa (f - 1) ((ks ++ [(v5, (pa (mo g).2).1)]).map (·.2)) _ = _; rw [List.map_append]; exact hJ5, by show μ (pa (mo g).2).2 < f - 1; omega, (hVs g hV hc).1, hI7, hO7', hks7, hvb7, hkk7⟩ (by show f - 1 < f; omega)
  · refine E.exit ?_
    refine N.thenX ?_
    refine N.loopX ?_
    refine N.blkX ?_
    refine N.then ?_
    refine E.seq ?_
    refine E.seq ?_
    obtain ⟨f1, hf1⟩ : ∃ f1, f = f1 + 1 := ⟨f - 1, by omega⟩
    have hR : rwF mo pa f0 [] g0 = (ks.map (·.2), (mo g).2) := by rw [← hJ, hf1, rwF, if_neg (by rw [hc]; simp)]
    rw [hR] at hbd ⊢
    dsimp only at hbd ⊢
    have hO4 := hO.keep hk4 (fun b hb hbS => absurd (hS b hbS) (by have := hvb b hb; omega))
    have hks4 : ∀ k ∈ ks, NRF H0 H4 k.1 k.2 := fun k hk => by
      obtain ⟨q1, q2⟩ := hks k hk
      exact ⟨q1.keep hk4 (fun b hb hbS => absurd (hS b hbS) (by have := (q2 b hb).1; omega)), fun b hb => ⟨(q2 b hb).1, Nat.lt_of_lt_of_le (q2 b hb).2.2 hk4.size⟩⟩
    have hbk : ks.length + ((ks.map (·.2)).flatten).length ≤ 100000 := by rw [List.length_map] at hbd; omega
    obtain ⟨va, vc, rfl⟩ := hO4.len
    refine E.region ?_
    refine X.mv rfl rfl rfl rfl rfl ?_
    refine X.lenS rfl rfl rfl rfl rfl Tryd.underlying66 ?_
    refine X.done [(0, _), (6, _), (7, _), (16, _)] ⟨rfl, rfl, rfl, rfl, trivial⟩ ?_
    refine N.then ?_
    refine E.block ?_
    refine E.seq ?_
    refine E.region ?_
    refine X.eql rfl rfl rfl rfl rfl rfl ?_
    refine X.asg rfl rfl rfl rfl rfl ?_
    refine X.done [(0, _), (6, _), (7, _), (16, _), (17, _)] ⟨rfl, rfl, rfl, rfl, rfl, trivial⟩ ?_
    refine N.then ?_
    refine E.condD rfl (fun hc => ?_) (fun hc => ?_)
    · refine E.seq ?_
      obtain rfl : ks = [] := List.eq_nil_of_length_eq_zero (by omega)
      refine E.region ?_
      refine X.build rfl rfl rfl rfl rfl (build_knd 2) ?_
      refine X.call rfl rfl rfl rfl rfl Tryd.cl46 (join0_ct (knd 2) _) ?_
      rintro v9 H9 ⟨h1, h3⟩
      refine X.asg rfl rfl rfl rfl rfl ?_
      refine X.done [(0, _), (6, _), (7, _)] ⟨rfl, rfl, rfl, trivial⟩ ?_
      refine N.then ?_
      refine E.ret ?_
      refine N.blkR ?_
      refine N.thenR ?_
      exact N.retH [_] ⟨_, _, rfl, rfl, rfl⟩ ⟨h1.from hkk4.size, hIk _ _ _ [] hI4 h3 (by simp), hkk4.trans h3 (by simp)⟩
    · refine E.seq ?_
      refine E.region ?_
      refine X.eql rfl rfl rfl rfl rfl rfl ?_
      refine X.asg rfl rfl rfl rfl rfl ?_
      refine X.done [(0, _), (6, _), (7, _), (21, _)] ⟨rfl, rfl, rfl, rfl, trivial⟩ ?_
      refine N.then ?_
      refine E.condD rfl (fun hc => ?_) (fun hc => ?_)
      · refine E.seq ?_
        obtain ⟨k, rfl⟩ : ∃ k, ks = [k] := List.length_eq_one_iff.1 (by omega)
        obtain ⟨bk, ok, csk, ctk, fzk, hae, hbk2, hck⟩ := (KR.mk hO4.rd (fun k hk => (hks4 k hk).1) : KR _ _ _).at (i := 0) rfl
        refine E.region ?_
        refine X.mv rfl rfl rfl rfl rfl ?_
        refine X.ixAe rfl rfl rfl rfl rfl rfl Tryd.underlying66 Tryd.sz22 (hae) (by omega) ?_
        refine X.ld rfl rfl rfl rfl Tryd.ag22 (hbk2) (hck) ?_
        refine X.asg rfl rfl rfl rfl rfl ?_
        refine X.done [(0, _), (6, _), (7, _)] ⟨rfl, rfl, rfl, trivial⟩ ?_
        refine N.then ?_
        refine E.ret ?_
        refine N.blkR ?_
        refine N.thenR ?_
        exact N.retH [_] ⟨_, _, rfl, rfl, rfl⟩ ⟨hks4 k (by simp), hI4, hkk4⟩
      · refine E.skip ?_
        refine N.blk ?_
        refine N.then ?_
        refine E.seq ?_
        refine E.region ?_
        refine X.mv rfl rfl rfl rfl rfl ?_
        refine X.build rfl rfl rfl rfl rfl (build_knd kind) ?_
        refine X.mv rfl rfl rfl rfl rfl ?_
        refine X.call rfl rfl rfl rfl rfl Tryd.cl46 (join_ct (knd kind) _ ks _ ⟨hO4.rd, fun k hk => (hks4 k hk).1⟩ hbk) ?_
        rintro v9 H9 ⟨h1, h2, h3⟩
        refine X.asg rfl rfl rfl rfl rfl ?_
        refine X.done [(6, _)] ⟨rfl, trivial⟩ ?_
        refine N.then ?_
        refine E.ret ?_
        rw [fin_two kind (by rw [List.length_map]; omega)]
        exact N.retH [_] ⟨_, _, rfl, rfl, rfl⟩ ⟨⟨h1.rd, fun b hb => ⟨Nat.le_trans hkk4.size (h2 b hb), h1.lt b hb⟩⟩, hIk _ _ _ [] hI4 h3 (by simp), hkk4.trans h3 (by simp)⟩

end Go.Proofs.YtcandjdomeompaaDoor