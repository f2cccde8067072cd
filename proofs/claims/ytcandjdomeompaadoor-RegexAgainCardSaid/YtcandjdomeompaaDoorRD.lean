/- The walks: a byte, a kind or a range in brackets; all that stands in brackets. -/
import Derived.Test.YtcandjdomeompaaDoorRC
namespace Go.Proofs.YtcandjdomeompaaDoor
open Go.SX Go.Chr
attribute [local irreducible] X E N Ct
set_option linter.unusedVariables false
set_option linter.unusedSimpArgs false
section
variable {P : Program} {n : Nat} {l : List Oper} {F : Heap → Prop} {K : Act → Heap → Prop} {r : List (Nat × Kd)} {env : Env} {H : Heap} {i : Nat} {k : Kd}
variable {d : Option Tmp} {ty : TypeId} {pos : String} {aft : Array Edge} {g : Option (Nat × Bool)} {x y z : Operand} {t t' : TypeId}
theorem u8_lt {a b : Nat} (ha : a < 256) (hb : b < 256) : (u8 a < u8 b) ↔ a < b := by rw [UInt8.lt_iff_toNat_lt, u8_nat ha, u8_nat hb]
theorem gtr_one {a b : Nat} (ha : a < 256) (hb : b < 256) : Op.stringOp .gtr ⟨([u8 a] : List UInt8).toArray⟩ ⟨([u8 b] : List UInt8).toArray⟩ = pure (.bool (decide (b < a))) := by
  have e : ∀ c : Nat, (⟨([u8 c] : List UInt8).toArray⟩ : ByteArray).toList = [u8 c] := fun c => by rw [ByteArray.toList_eq]
  have hl : Op.bytesLess [u8 a] [u8 b] = decide (a < b) := by
    show (decide (u8 a < u8 b) || (u8 a == u8 b && false)) = _
    rw [Bool.and_false, Bool.or_false]; exact dec_eq (u8_lt ha hb)
  have he : (([u8 a] : List UInt8) == [u8 b]) = decide (a = b) := by
    rw [Bool.eq_iff_iff]
    simp only [beq_iff_eq, List.cons.injEq, and_true, decide_eq_true_eq]
    exact ⟨fun h => by rw [← u8_nat ha, ← u8_nat hb, h], fun h => by rw [h]⟩
  simp only [Op.stringOp, e, hl, he]
  congr 2
  rw [Bool.eq_iff_iff]
  simp only [Bool.not_eq_true', Bool.or_eq_false_iff, decide_eq_false_iff_not, decide_eq_true_eq]
  omega
theorem X.gtrS1 {a b : Nat} (ho : nth l i = some ⟨d, .binOp .gtr t x y t', ty, pos, aft, g⟩) (hw : wantE l env ⟨d, .binOp .gtr t x y t', ty, pos, aft, g⟩ = some true) (hd : dOK n d = true) (hk : noMk k = true)
    (hx : opv env x = some (str [u8 a])) (hy : opv env y = some (str [u8 b])) (ha : a < 256) (hb : b < 256) (h : X P n l F K r (setd d (.bool (decide (b < a))) env) H) : X P n l F K ((i, k) :: r) env H :=
  X.pure _ ho hw hd hk (fun ρ w hρ => by
    have h1 := gtr_one ha hb
    simp only [execOp, hρ _ _ hx, hρ _ _ hy]
    simp [eqGuard, binOp, h1]) h
end
theorem flt_eq1 {x : Nat} : ∀ n, flt (rg x x) n = if x < n then [x] else []
  | 0 => by simp [flt]
  | n + 1 => by
    rw [flt_succ, flt_eq1 n]
    by_cases h : x = n
    · subst h
      rw [if_pos (by simp [rg]), if_neg (by omega), if_pos (by omega)]; rfl
    · rw [if_neg (by simp [rg]; omega)]
      by_cases h2 : x < n
      · rw [if_pos h2, if_pos (by omega)]
      · rw [if_neg h2, if_neg (by omega)]
theorem els_rg {x : Nat} (h : x < 256) : els (sRg x x).1 = [x] := by
  show els (ofL (flt (rg x x) 256)) = _
  rw [els_ofL, flt_eq1, if_pos h]
theorem hd_rg {x : Nat} (h : x < 256) : hd (sRg x x) = x := by unfold hd; rw [els_rg h]; rfl
theorem esc_one {s : Bs} {st st' : St} {a : S4} (h : esc s st = ((a, false), st')) (he : st'.e = 0) : ∃ x, x < 256 ∧ a = sRg x x := by
  unfold esc at h; dsimp only at h
  split at h
  · cases h; exact absurd he (fl_err (by decide))
  · split at h
    · rename_i hk
      have := congrArg (fun r => r.1.2) h
      dsimp only at this
      rw [hk] at this; cases this
    · split at h
      · cases h; exact ⟨_, nmd_lt nx_lt, rfl⟩
      · split at h
        · rename_i hx
          cases h
          refine ⟨_, ?_, rfl⟩
          have h1 := dgO_lt hx.2.2.1
          have h2 := dgO_lt hx.2.2.2
          show (dgN (s.getD (st.at_ + 2) 0).toNat).toNat * 16 + (dgN (s.getD (st.at_ + 3) 0).toNat).toNat < 256
          omega
        · cases h; exact absurd he (fl_err (by decide))
theorem chp_one {s : Bs} {st st' : St} {a : S4} (h : chp s st = ((a, false), st')) (he : st'.e = 0) : ∃ x, x < 256 ∧ a = sRg x x := by
  unfold chp at h
  split at h
  · exact esc_one h he
  · split at h
    · cases h; exact absurd he (fl_err (by decide))
    · cases h; exact ⟨_, nx_lt, rfl⟩
theorem tab_keep {H H' : Heap} {p : Nat} (hT : Tab H) (hp : p ≠ 0) (hk : Kp [p] H H') : Tab H' := by
  obtain ⟨ct, fz, h⟩ := hT
  exact ⟨ct, fz, hk.keep h (by simp; omega)⟩
section
variable {s : Bs} {from_ at_ : Int} {st st1 st2 st3 : St} {a b : S4} {k o : Bool} {c : Nat} {r : S4 × St}
theorem itm_1 (e1 : chp s st = ((a, k), st1)) (h : (tk s 45 st1).1 = false) : itm s from_ st = (a, st1) := by unfold itm; simp only [e1]; rw [if_neg (by rw [h]; simp)]
theorem itm_2 (e1 : chp s st = ((a, k), st1)) (h : (tk s 45 st1).1 = true) (hr : itR s from_ a k (st1.at_ : Nat) (adv st1) = r) : itm s from_ st = r := by unfold itm; simp only [e1]; rw [if_pos h, (tk_yes h).2, hr]
theorem itR_1 (h : nx s st2 = (c, false)) : itR s from_ a k at_ st2 = (a, fl 16 from_ st2) := by unfold itR; rw [if_pos (by rw [h])]
theorem itR_2 (h : nx s st2 = (c, true)) (hc : c = 93) : itR s from_ a k at_ st2 = (a, fl 15 (st2.at_ : Nat) st2) := by unfold itR; rw [if_neg (by rw [h]; simp), if_pos (by rw [h]; exact hc)]
theorem itR_3 (h : nx s st2 = (c, true)) (hc : c ≠ 93) (e3 : chp s st2 = ((b, o), st3)) (he : st3.e ≠ 0) : itR s from_ a k at_ st2 = (a, st3) := by
  unfold itR; rw [if_neg (by rw [h]; simp), if_neg (by rw [h]; exact hc), e3, if_pos he]
theorem itR_4 (h : nx s st2 = (c, true)) (hc : c ≠ 93) (e3 : chp s st2 = ((b, o), st3)) (he : ¬ st3.e ≠ 0) (hr : k = true ∨ o = true ∨ hd b < hd a) : itR s from_ a k at_ st2 = (a, fl 18 at_ st3) := by
  unfold itR; rw [if_neg (by rw [h]; simp), if_neg (by rw [h]; exact hc), e3, if_neg he, if_pos hr]
theorem itR_5 (h : nx s st2 = (c, true)) (hc : c ≠ 93) (e3 : chp s st2 = ((b, o), st3)) (he : ¬ st3.e ≠ 0) (hr : ¬ (k = true ∨ o = true ∨ hd b < hd a)) : itR s from_ a k at_ st2 = (sRg (hd a) (hd b), st3) := by
  unfold itR; rw [if_neg (by rw [h]; simp), if_neg (by rw [h]; exact hc), e3, if_neg he, if_neg hr]
end

theorem item_ct (s : Bs) (p : Nat) (from_ : Int) (st : St) (H : Heap) (hP0 : PH p s st H) (hs : s.length ≤ 1000) (hT : Tab H) (hp0 : p ≠ 0) : Ct Tryd.prog 69 #[ptr p, i64 from_] H fun v H' => ∃ (a : S4) (st' : St), itm s from_ st = (a, st') ∧ v = agg4 a.1 ∧ PH p s st' H' ∧ Kp [p] H H' := by
  have hP := hP0
  have hkk := Kp.refl [p] H
  refine Ct.into 82 Tryd.func69 rfl [(0, ptr p), (1, i64 from_)] rfl ⟨rfl, rfl, trivial⟩ ?_
  refine E.seq ?_
  refine E.region ?_
  refine X.alloc (z := .agg ([.int .u64 0, .int .u64 0, .int .u64 0, .int .u64 0] : List Value).toArray) (cs := [.int .u64 0, .int .u64 0, .int .u64 0, .int .u64 0]) rfl rfl rfl rfl (by kernel_rfl) rfl ?_
  intro b4 H1 hn1 hb4 hk1
  have hpl1 := lt_of hP
  have hne4 : b4 ≠ p := by omega
  have hsz1 := hkk.size
  replace hP := hk1.keep hP (by simp)
  replace hkk := hkk.trans hk1 (by simp)
  refine X.done [(0, _), (1, _), (4, _)] ⟨rfl, rfl, rfl, trivial⟩ ?_
  refine N.then ?_
  refine E.seq ?_
  refine E.region ?_
  refine X.mv rfl rfl rfl rfl rfl ?_
  refine X.call rfl rfl rfl rfl rfl Tryd.cl72 (char_ct s p st _ hP hs) ?_
  rintro _ H2 ⟨a, k1, st1, e1, rfl, hPn, hk2⟩
  replace hP := hPn
  replace hb4 := hk2.keep hb4 (by simp; exact hne4)
  replace hkk := hkk.trans hk2 (by simp)
  refine X.mv rfl rfl rfl rfl rfl ?_
  refine X.extract rfl rfl rfl rfl rfl rfl ?_
  refine X.extract rfl rfl rfl rfl rfl rfl ?_
  refine X.alloc (z := .agg ([.int .u64 0, .int .u64 0, .int .u64 0, .int .u64 0] : List Value).toArray) (cs := [.int .u64 0, .int .u64 0, .int .u64 0, .int .u64 0]) rfl rfl rfl rfl (by kernel_rfl) rfl ?_
  intro b5 H3 hn3 hb5 hk3
  have hpl3 := lt_of hP
  have hbl3_4 := lt_of hb4
  have hne5 : b5 ≠ p := by omega
  have hsz3 := hkk.size
  have hnb5_4 : b5 ≠ b4 := by omega
  replace hP := hk3.keep hP (by simp)
  replace hb4 := hk3.keep hb4 (by simp)
  replace hkk := hkk.trans hk3 (by simp)
  refine X.stA rfl rfl rfl rfl rfl rfl (uv_one _) (sz24w a.2) hb5 (by rw [uv4 a.2]; show 0 + 4 ≤ 4; omega) ?_
  intro H4 hb5n hk4
  rw [splice_all (by rw [uv4 a.2]; rfl)] at hb5n
  replace hb5 := hb5n
  replace hP := hk4.keep hP (by simp; exact fun h => hne5 h.symm)
  replace hb4 := hk4.keep hb4 (by simp; exact fun h => hnb5_4 h.symm)
  replace hkk := hkk.trans hk4 (by simp; omega)
  refine X.asg rfl rfl rfl rfl rfl ?_
  refine X.done [(0, _), (1, _), (4, _), (5, _), (6, _)] ⟨rfl, rfl, rfl, rfl, rfl, trivial⟩ ?_
  refine N.then ?_
  refine E.seq ?_
  refine E.region ?_
  refine X.mv rfl rfl rfl rfl rfl ?_
  refine X.nilP rfl rfl rfl rfl rfl ?_
  refine X.fld rfl rfl rfl rfl rfl Tryd.off47_1 ?_
  refine X.ld rfl rfl rfl rfl Tryd.ag3 (hP) (rfl) ?_
  refine X.asg rfl rfl rfl rfl rfl ?_
  refine X.done [(0, _), (1, _), (4, _), (5, _), (6, _), (7, _)] ⟨rfl, rfl, rfl, rfl, rfl, rfl, trivial⟩ ?_
  refine N.then ?_
  refine E.seq ?_
  refine E.seq ?_
  refine E.region ?_
  refine X.mv rfl rfl rfl rfl rfl ?_
  refine X.call rfl rfl rfl rfl rfl Tryd.cl35 (take2_ct s p 45 _ _ hP hs) ?_
  rintro _ H5 hq
  rcases hq with ⟨rfl, ht, hPn, hk5⟩ | ⟨rfl, hf, hPn, hk5⟩
  · replace hP := hPn
    replace hb4 := hk5.keep hb4 (by simp; exact hne4)
    replace hb5 := hk5.keep hb5 (by simp; exact hne5)
    replace hkk := hkk.trans hk5 (by simp)
    refine X.notT rfl rfl rfl rfl rfl ?_
    refine X.done [(0, _), (1, _), (4, _), (5, _), (6, _), (7, _), (25, _)] ⟨rfl, rfl, rfl, rfl, rfl, rfl, rfl, trivial⟩ ?_
    refine N.then ?_
    refine E.condF rfl ?_
    refine E.skip ?_
    refine N.then ?_
    refine E.seq ?_
    refine E.seq ?_
    have he1 : st1.e = 0 := (nx_ok (s := s) (st := st1) (by rw [(tk_yes ht).1])).1
    refine E.region ?_
    refine X.mv rfl rfl rfl rfl rfl ?_
    refine X.call rfl rfl rfl rfl rfl Tryd.cl23 (next2_ct s p _ _ hP) ?_
    rintro _ Hx ⟨c, bq, ec, hc8, _, rfl, e⟩
    obtain rfl := e.symm
    cases bq
    · refine X.mv rfl rfl rfl rfl rfl ?_
      refine X.extract rfl rfl rfl rfl rfl rfl ?_
      refine X.extract rfl rfl rfl rfl rfl rfl ?_
      refine X.asg rfl rfl rfl rfl rfl ?_
      refine X.asg rfl rfl rfl rfl rfl ?_
      refine X.done [(0, _), (1, _), (4, _), (5, _), (6, _), (7, _), (8, _), (9, _)] ⟨rfl, rfl, rfl, rfl, rfl, rfl, rfl, rfl, trivial⟩ ?_
      refine N.then ?_
      refine E.block ?_
      refine E.seq ?_
      refine E.region ?_
      refine X.mv rfl rfl rfl rfl rfl ?_
      refine X.notF rfl rfl rfl rfl rfl ?_
      refine X.asg rfl rfl rfl rfl rfl ?_
      refine X.done [(0, _), (1, _), (4, _), (5, _), (6, _), (7, _), (8, _), (32, _)] ⟨rfl, rfl, rfl, rfl, rfl, rfl, rfl, rfl, trivial⟩ ?_
      refine N.then ?_
      refine E.condT rfl ?_
      refine E.seq ?_
      refine E.region ?_
      refine X.mv rfl rfl rfl rfl rfl ?_
      refine X.mv rfl rfl rfl rfl rfl ?_
      refine X.call rfl rfl rfl rfl rfl Tryd.cl24 (fail_ct s p _ 16 _ _ hP) ?_
      rintro _ H8 ⟨rfl, hPn, hk8⟩
      replace hP := hPn
      replace hb4 := hk8.keep hb4 (by simp; exact hne4)
      replace hb5 := hk8.keep hb5 (by simp; exact hne5)
      replace hkk := hkk.trans hk8 (by simp)
      refine X.done [(0, _), (4, _), (5, _), (6, _), (7, _)] ⟨rfl, rfl, rfl, rfl, rfl, trivial⟩ ?_
      refine N.then ?_
      refine E.seq ?_
      refine E.region ?_
      refine X.ldA rfl rfl rfl rfl Tryd.ag36 Tryd.sz36 (hb5) (uv4 a.2) zoff ?_
      refine X.stA rfl rfl rfl rfl rfl rfl (uv_one _) (sz24w a.2) hb4 (by rw [uv4 a.2]; show 0 + 4 ≤ 4; omega) ?_
      intro H20 hb20 hk20
      rw [splice_all (by rw [uv4 a.2]; rfl)] at hb20
      replace hP := hk20.keep hP (by simp; exact fun h => hne4 h.symm)
      replace hkk := hkk.trans hk20 (by simp; omega)
      refine X.done [(0, _), (4, _), (5, _), (6, _), (7, _)] ⟨rfl, rfl, rfl, rfl, rfl, trivial⟩ ?_
      refine N.then ?_
      refine E.ret ?_
      refine N.blkR ?_
      refine N.thenR ?_
      exact N.retH [_] ⟨_, _, _, 0, rfl, rfl, loadsA Tryd.ag36 Tryd.sz36 hb20 (uv4 a.2) zoff, rfl⟩ ⟨_, _, itm_2 e1 ht (itR_1 ec), rfl, hP, hkk⟩
    · refine X.mv rfl rfl rfl rfl rfl ?_
      refine X.extract rfl rfl rfl rfl rfl rfl ?_
      refine X.extract rfl rfl rfl rfl rfl rfl ?_
      refine X.asg rfl rfl rfl rfl rfl ?_
      refine X.asg rfl rfl rfl rfl rfl ?_
      refine X.done [(0, _), (1, _), (4, _), (5, _), (6, _), (7, _), (8, _), (9, _)] ⟨rfl, rfl, rfl, rfl, rfl, rfl, rfl, rfl, trivial⟩ ?_
      refine N.then ?_
      refine E.block ?_
      refine E.seq ?_
      refine E.region ?_
      refine X.mv rfl rfl rfl rfl rfl ?_
      refine X.notT rfl rfl rfl rfl rfl ?_
      refine X.asg rfl rfl rfl rfl rfl ?_
      refine X.done [(0, _), (1, _), (4, _), (5, _), (6, _), (7, _), (8, _), (32, _)] ⟨rfl, rfl, rfl, rfl, rfl, rfl, rfl, rfl, trivial⟩ ?_
      refine N.then ?_
      refine E.condF rfl ?_
      refine E.seq ?_
      refine E.region ?_
      refine X.mv rfl rfl rfl rfl rfl ?_
      refine X.eql rfl rfl rfl rfl rfl rfl ?_
      refine X.asg rfl rfl rfl rfl rfl ?_
      refine X.done [(0, _), (4, _), (5, _), (6, _), (7, _), (39, _)] ⟨rfl, rfl, rfl, rfl, rfl, rfl, trivial⟩ ?_
      refine N.then ?_
      refine E.condD rfl (fun hc => ?_) (fun hc => ?_)
      · refine E.seq ?_
        refine E.region ?_
        refine X.mv rfl rfl rfl rfl rfl ?_
        refine X.mv rfl rfl rfl rfl rfl ?_
        refine X.nilP rfl rfl rfl rfl rfl ?_
        refine X.fld rfl rfl rfl rfl rfl Tryd.off47_1 ?_
        refine X.ld rfl rfl rfl rfl Tryd.ag3 (hP) (rfl) ?_
        refine X.call rfl rfl rfl rfl rfl Tryd.cl24 (fail_ct s p _ 15 _ _ hP) ?_
        rintro _ H8 ⟨rfl, hPn, hk8⟩
        replace hP := hPn
        replace hb4 := hk8.keep hb4 (by simp; exact hne4)
        replace hb5 := hk8.keep hb5 (by simp; exact hne5)
        replace hkk := hkk.trans hk8 (by simp)
        refine X.done [(0, _), (4, _), (5, _), (6, _), (7, _)] ⟨rfl, rfl, rfl, rfl, rfl, trivial⟩ ?_
        refine N.then ?_
        refine E.seq ?_
        refine E.region ?_
        refine X.ldA rfl rfl rfl rfl Tryd.ag36 Tryd.sz36 (hb5) (uv4 a.2) zoff ?_
        refine X.stA rfl rfl rfl rfl rfl rfl (uv_one _) (sz24w a.2) hb4 (by rw [uv4 a.2]; show 0 + 4 ≤ 4; omega) ?_
        intro H20 hb20 hk20
        rw [splice_all (by rw [uv4 a.2]; rfl)] at hb20
        replace hP := hk20.keep hP (by simp; exact fun h => hne4 h.symm)
        replace hkk := hkk.trans hk20 (by simp; omega)
        refine X.done [(0, _), (4, _), (5, _), (6, _), (7, _)] ⟨rfl, rfl, rfl, rfl, rfl, trivial⟩ ?_
        refine N.then ?_
        refine E.ret ?_
        refine N.blkR ?_
        refine N.thenR ?_
        exact N.retH [_] ⟨_, _, _, 0, rfl, rfl, loadsA Tryd.ag36 Tryd.sz36 hb20 (uv4 a.2) zoff, rfl⟩ ⟨_, _, itm_2 e1 ht (itR_2 ec (by omega)), rfl, hP, hkk⟩
      · refine E.skip ?_
        refine N.blk ?_
        refine N.then ?_
        refine E.seq ?_
        refine E.region ?_
        refine X.mv rfl rfl rfl rfl rfl ?_
        refine X.call rfl rfl rfl rfl rfl Tryd.cl72 (char_ct s p _ _ hP hs) ?_
        rintro _ H12 ⟨b, k2, st3, e3, rfl, hPn, hk12⟩
        replace hP := hPn
        replace hb4 := hk12.keep hb4 (by simp; exact hne4)
        replace hb5 := hk12.keep hb5 (by simp; exact hne5)
        replace hkk := hkk.trans hk12 (by simp)
        refine X.mv rfl rfl rfl rfl rfl ?_
        refine X.extract rfl rfl rfl rfl rfl rfl ?_
        refine X.extract rfl rfl rfl rfl rfl rfl ?_
        refine X.alloc (z := .agg ([.int .u64 0, .int .u64 0, .int .u64 0, .int .u64 0] : List Value).toArray) (cs := [.int .u64 0, .int .u64 0, .int .u64 0, .int .u64 0]) rfl rfl rfl rfl (by kernel_rfl) rfl ?_
        intro b10 H13 hn13 hb10 hk13
        have hpl13 := lt_of hP
        have hbl13_4 := lt_of hb4
        have hbl13_5 := lt_of hb5
        have hne10 : b10 ≠ p := by omega
        have hsz13 := hkk.size
        have hnb10_4 : b10 ≠ b4 := by omega
        have hnb10_5 : b10 ≠ b5 := by omega
        replace hP := hk13.keep hP (by simp)
        replace hb4 := hk13.keep hb4 (by simp)
        replace hb5 := hk13.keep hb5 (by simp)
        replace hkk := hkk.trans hk13 (by simp)
        refine X.stA rfl rfl rfl rfl rfl rfl (uv_one _) (sz24w b.2) hb10 (by rw [uv4 b.2]; show 0 + 4 ≤ 4; omega) ?_
        intro H14 hb10n hk14
        rw [splice_all (by rw [uv4 b.2]; rfl)] at hb10n
        replace hb10 := hb10n
        replace hP := hk14.keep hP (by simp; exact fun h => hne10 h.symm)
        replace hb4 := hk14.keep hb4 (by simp; exact fun h => hnb10_4 h.symm)
        replace hb5 := hk14.keep hb5 (by simp; exact fun h => hnb10_5 h.symm)
        replace hkk := hkk.trans hk14 (by simp; omega)
        refine X.asg rfl rfl rfl rfl rfl ?_
        refine X.done [(0, _), (4, _), (5, _), (6, _), (7, _), (10, _), (11, _)] ⟨rfl, rfl, rfl, rfl, rfl, rfl, rfl, trivial⟩ ?_
        refine N.then ?_
        refine E.seq ?_
        refine E.seq ?_
        refine E.region ?_
        refine X.mv rfl rfl rfl rfl rfl ?_
        refine X.nilP rfl rfl rfl rfl rfl ?_
        refine X.fld rfl rfl rfl rfl rfl Tryd.off47_2 ?_
        refine X.ld rfl rfl rfl rfl Tryd.ag24 (hP) (rfl) ?_
        refine X.neq rfl rfl rfl rfl rfl rfl ?_
        refine X.done [(0, _), (4, _), (5, _), (6, _), (7, _), (10, _), (11, _), (58, _)] ⟨rfl, rfl, rfl, rfl, rfl, rfl, rfl, rfl, trivial⟩ ?_
        refine N.then ?_
        refine E.condD rfl (fun hc => ?_) (fun hc => ?_)
        · refine E.seq ?_
          refine E.region ?_
          refine X.ldA rfl rfl rfl rfl Tryd.ag36 Tryd.sz36 (hb5) (uv4 a.2) zoff ?_
          refine X.stA rfl rfl rfl rfl rfl rfl (uv_one _) (sz24w a.2) hb4 (by rw [uv4 a.2]; show 0 + 4 ≤ 4; omega) ?_
          intro H20 hb20 hk20
          rw [splice_all (by rw [uv4 a.2]; rfl)] at hb20
          replace hP := hk20.keep hP (by simp; exact fun h => hne4 h.symm)
          replace hkk := hkk.trans hk20 (by simp; omega)
          refine X.done [(0, _), (4, _), (5, _), (6, _), (7, _), (10, _), (11, _)] ⟨rfl, rfl, rfl, rfl, rfl, rfl, rfl, trivial⟩ ?_
          refine N.then ?_
          refine E.ret ?_
          refine N.thenR ?_
          exact N.retH [_] ⟨_, _, _, 0, rfl, rfl, loadsA Tryd.ag36 Tryd.sz36 hb20 (uv4 a.2) zoff, rfl⟩ ⟨_, _, itm_2 e1 ht (itR_3 ec (by omega) e3 (by assumption)), rfl, hP, hkk⟩
        · refine E.skip ?_
          refine N.then ?_
          refine E.seq ?_
          refine E.regionD (fun H' => H'[b5]? = some (.cells (uv a.1).toArray 36 (0, 0)) ∧ H'[b10]? = some (.cells (uv b.1).toArray 36 (0, 0))) [(0, .st), (2, .st), (1, .mk), (3, .mk), (4, .pu), (5, .pu)] Tryd.mixed (by kernel_rfl) (⟨hb5, hb10⟩) ?_
          refine X.ldA rfl rfl rfl rfl Tryd.ag36 Tryd.sz36 (fun H' hF => hF.1) (uv4 a.2) zoff ?_
          refine X.ldA rfl rfl rfl rfl Tryd.ag36 Tryd.sz36 (fun H' hF => hF.2) (uv4 b.2) zoff ?_
          refine X.call rfl rfl rfl rfl rfl Tryd.cl39 (bytes_ct a.1 _ a.2 (tab_keep hT hp0 hkk)) ?_
          rintro _ H15 ⟨rfl, hk15⟩
          replace hP := hk15.keep hP (by simp)
          replace hb4 := hk15.keep hb4 (by simp)
          replace hb5 := hk15.keep hb5 (by simp)
          replace hb10 := hk15.keep hb10 (by simp)
          replace hkk := hkk.trans hk15 (by simp)
          refine ⟨⟨hb5, hb10⟩, ?_⟩
          refine X.call rfl rfl rfl rfl rfl Tryd.cl39 (bytes_ct b.1 _ b.2 (tab_keep hT hp0 hkk)) ?_
          rintro _ H16 ⟨rfl, hk16⟩
          replace hP := hk16.keep hP (by simp)
          replace hb4 := hk16.keep hb4 (by simp)
          replace hb5 := hk16.keep hb5 (by simp)
          replace hb10 := hk16.keep hb10 (by simp)
          replace hkk := hkk.trans hk16 (by simp)
          refine ⟨⟨hb5, hb10⟩, ?_⟩
          refine X.asg rfl rfl rfl rfl rfl ?_
          refine X.asg rfl rfl rfl rfl rfl ?_
          refine X.done [(0, _), (4, _), (5, _), (6, _), (7, _), (11, _), (12, _), (13, _)] ⟨rfl, rfl, rfl, rfl, rfl, rfl, rfl, rfl, trivial⟩ ?_
          refine N.then ?_
          refine E.seq ?_
          refine E.seq ?_
          refine E.region ?_
          refine X.mv rfl rfl rfl rfl rfl ?_
          cases k1
          · refine X.mv rfl rfl rfl rfl rfl ?_
            refine X.mv rfl rfl rfl rfl rfl ?_
            cases k2
            · refine X.pickF rfl rfl rfl rfl rfl rfl ?_
              refine X.mv rfl rfl rfl rfl rfl ?_
              have he3 : st3.e = 0 := by omega
              obtain ⟨x, hx8, hax⟩ := chp_one e1 he1
              obtain ⟨y, hy8, hby⟩ := chp_one e3 he3
              rw [show els a.1 = [x] by rw [hax]; exact els_rg hx8, show els b.1 = [y] by rw [hby]; exact els_rg hy8]
              refine X.mv rfl rfl rfl rfl rfl ?_
              refine X.mv rfl rfl rfl rfl rfl ?_
              refine X.gtrS1 rfl rfl rfl rfl rfl rfl hx8 hy8 ?_
              refine X.pickF rfl rfl rfl rfl rfl rfl ?_
              refine X.done [(0, _), (4, _), (5, _), (7, _), (12, _), (13, _), (72, _)] ⟨rfl, rfl, rfl, rfl, rfl, rfl, rfl, trivial⟩ ?_
              refine N.then ?_
              refine E.condD rfl (fun hc => ?_) (fun hc => ?_)
              · refine E.seq ?_
                refine E.region ?_
                refine X.mv rfl rfl rfl rfl rfl ?_
                refine X.mv rfl rfl rfl rfl rfl ?_
                refine X.call rfl rfl rfl rfl rfl Tryd.cl24 (fail_ct s p _ 18 _ _ hP) ?_
                rintro _ H8 ⟨rfl, hPn, hk8⟩
                replace hP := hPn
                replace hb4 := hk8.keep hb4 (by simp; exact hne4)
                replace hb5 := hk8.keep hb5 (by simp; exact hne5)
                replace hkk := hkk.trans hk8 (by simp)
                refine X.done [(4, _), (5, _), (12, _), (13, _)] ⟨rfl, rfl, rfl, rfl, trivial⟩ ?_
                refine N.then ?_
                refine E.seq ?_
                refine E.region ?_
                refine X.ldA rfl rfl rfl rfl Tryd.ag36 Tryd.sz36 (hb5) (uv4 a.2) zoff ?_
                refine X.stA rfl rfl rfl rfl rfl rfl (uv_one _) (sz24w a.2) hb4 (by rw [uv4 a.2]; show 0 + 4 ≤ 4; omega) ?_
                intro H20 hb20 hk20
                rw [splice_all (by rw [uv4 a.2]; rfl)] at hb20
                replace hP := hk20.keep hP (by simp; exact fun h => hne4 h.symm)
                replace hkk := hkk.trans hk20 (by simp; omega)
                refine X.done [(4, _), (12, _), (13, _)] ⟨rfl, rfl, rfl, trivial⟩ ?_
                refine N.then ?_
                refine E.ret ?_
                refine N.thenR ?_
                first
                  | exact N.retH [_] ⟨_, _, _, 0, rfl, rfl, loadsA Tryd.ag36 Tryd.sz36 hb20 (uv4 a.2) zoff, rfl⟩ ⟨_, _, itm_2 e1 ht (itR_4 ec (by omega) e3 (by omega) (.inr (.inr (by rw [hax, hby, hd_rg hx8, hd_rg hy8]; assumption)))), rfl, hP, hkk⟩
                  | exact N.retH [_] ⟨_, _, _, 0, rfl, rfl, loadsA Tryd.ag36 Tryd.sz36 hb20 (uv4 a.2) zoff, rfl⟩ ⟨_, _, itm_2 e1 ht (itR_4 ec (by omega) e3 (by omega) (by simp)), rfl, hP, hkk⟩
              · refine E.skip ?_
                refine N.then ?_
                refine E.seq ?_
                have hr5 : ¬ (false = true ∨ false = true ∨ hd b < hd a) := by rw [hax, hby, hd_rg hx8, hd_rg hy8]; simp; omega
                have e5 := itR_5 (from_ := from_) (at_ := ((st1.at_ : Nat) : Int)) ec (by omega) e3 (by omega) hr5
                rw [show hd a = x by rw [hax]; exact hd_rg hx8, show hd b = y by rw [hby]; exact hd_rg hy8] at e5
                refine E.regionD (fun _ => True) [(0, .pu), (1, .pu), (2, .pu), (3, .pu), (4, .mv), (5, .mv)] Tryd.mixed (by kernel_rfl) (trivial) ?_
                refine X.mv rfl rfl rfl rfl rfl ?_
                refine X.ixS rfl rfl rfl rfl rfl rfl Tryd.underlying9 (by omega) (by exact rfl) ?_
                refine X.mv rfl rfl rfl rfl rfl ?_
                refine X.ixS rfl rfl rfl rfl rfl rfl Tryd.underlying9 (by omega) (by exact rfl) ?_
                refine X.call rfl rfl rfl rfl rfl Tryd.cl70 (rangeS_ct _ _ _ (UInt8.toNat_lt _) (UInt8.toNat_lt _)) ?_
                rintro _ H19 ⟨rfl, hk19⟩
                rw [u8_nat hx8, u8_nat hy8]
                replace hP := hk19.keep hP (by simp)
                replace hb4 := hk19.keep hb4 (by simp)
                replace hkk := hkk.trans hk19 (by simp)
                refine X.stA rfl rfl rfl rfl rfl rfl (uv_one _) (sz24w (sRg x y).2) hb4 (by rw [uv4 (sRg x y).2]; show 0 + 4 ≤ 4; omega) ?_
                intro H20 hb20 hk20
                rw [splice_all (by rw [uv4 (sRg x y).2]; rfl)] at hb20
                replace hP := hk20.keep hP (by simp; exact fun h => hne4 h.symm)
                replace hkk := hkk.trans hk20 (by simp; omega)
                refine X.done [(4, _)] ⟨rfl, trivial⟩ ?_
                refine N.then ?_
                refine E.ret ?_
                exact N.retH [_] ⟨_, _, _, 0, rfl, rfl, loadsA Tryd.ag36 Tryd.sz36 hb20 (uv4 (sRg x y).2) zoff, rfl⟩ ⟨_, _, itm_2 e1 ht e5, rfl, hP, hkk⟩
            · refine X.pickF rfl rfl rfl rfl rfl rfl ?_
              refine X.mv rfl rfl rfl rfl rfl ?_
              refine X.skip rfl rfl rfl ?_
              refine X.skip rfl rfl rfl ?_
              refine X.skip rfl rfl rfl ?_
              refine X.pickT rfl rfl rfl rfl rfl rfl ?_
              refine X.done [(0, _), (4, _), (5, _), (7, _), (12, _), (13, _), (72, _)] ⟨rfl, rfl, rfl, rfl, rfl, rfl, rfl, trivial⟩ ?_
              refine N.then ?_
              refine E.condT rfl ?_
              refine E.seq ?_
              refine E.region ?_
              refine X.mv rfl rfl rfl rfl rfl ?_
              refine X.mv rfl rfl rfl rfl rfl ?_
              refine X.call rfl rfl rfl rfl rfl Tryd.cl24 (fail_ct s p _ 18 _ _ hP) ?_
              rintro _ H8 ⟨rfl, hPn, hk8⟩
              replace hP := hPn
              replace hb4 := hk8.keep hb4 (by simp; exact hne4)
              replace hb5 := hk8.keep hb5 (by simp; exact hne5)
              replace hkk := hkk.trans hk8 (by simp)
              refine X.done [(4, _), (5, _), (12, _), (13, _)] ⟨rfl, rfl, rfl, rfl, trivial⟩ ?_
              refine N.then ?_
              refine E.seq ?_
              refine E.region ?_
              refine X.ldA rfl rfl rfl rfl Tryd.ag36 Tryd.sz36 (hb5) (uv4 a.2) zoff ?_
              refine X.stA rfl rfl rfl rfl rfl rfl (uv_one _) (sz24w a.2) hb4 (by rw [uv4 a.2]; show 0 + 4 ≤ 4; omega) ?_
              intro H20 hb20 hk20
              rw [splice_all (by rw [uv4 a.2]; rfl)] at hb20
              replace hP := hk20.keep hP (by simp; exact fun h => hne4 h.symm)
              replace hkk := hkk.trans hk20 (by simp; omega)
              refine X.done [(4, _), (12, _), (13, _)] ⟨rfl, rfl, rfl, trivial⟩ ?_
              refine N.then ?_
              refine E.ret ?_
              refine N.thenR ?_
              first
                | exact N.retH [_] ⟨_, _, _, 0, rfl, rfl, loadsA Tryd.ag36 Tryd.sz36 hb20 (uv4 a.2) zoff, rfl⟩ ⟨_, _, itm_2 e1 ht (itR_4 ec (by omega) e3 (by omega) (.inr (.inr (by rw [hax, hby, hd_rg hx8, hd_rg hy8]; assumption)))), rfl, hP, hkk⟩
                | exact N.retH [_] ⟨_, _, _, 0, rfl, rfl, loadsA Tryd.ag36 Tryd.sz36 hb20 (uv4 a.2) zoff, rfl⟩ ⟨_, _, itm_2 e1 ht (itR_4 ec (by omega) e3 (by omega) (by simp)), rfl, hP, hkk⟩
          · refine X.mv rfl rfl rfl rfl rfl ?_
            refine X.skip rfl rfl rfl ?_
            refine X.pickT rfl rfl rfl rfl rfl rfl ?_
            refine X.mv rfl rfl rfl rfl rfl ?_
            refine X.skip rfl rfl rfl ?_
            refine X.skip rfl rfl rfl ?_
            refine X.skip rfl rfl rfl ?_
            refine X.pickT rfl rfl rfl rfl rfl rfl ?_
            refine X.done [(0, _), (4, _), (5, _), (7, _), (12, _), (13, _), (72, _)] ⟨rfl, rfl, rfl, rfl, rfl, rfl, rfl, trivial⟩ ?_
            refine N.then ?_
            refine E.condT rfl ?_
            refine E.seq ?_
            refine E.region ?_
            refine X.mv rfl rfl rfl rfl rfl ?_
            refine X.mv rfl rfl rfl rfl rfl ?_
            refine X.call rfl rfl rfl rfl rfl Tryd.cl24 (fail_ct s p _ 18 _ _ hP) ?_
            rintro _ H8 ⟨rfl, hPn, hk8⟩
            replace hP := hPn
            replace hb4 := hk8.keep hb4 (by simp; exact hne4)
            replace hb5 := hk8.keep hb5 (by simp; exact hne5)
            replace hkk := hkk.trans hk8 (by simp)
            refine X.done [(4, _), (5, _), (12, _), (13, _)] ⟨rfl, rfl, rfl, rfl, trivial⟩ ?_
            refine N.then ?_
            refine E.seq ?_
            refine E.region ?_
            refine X.ldA rfl rfl rfl rfl Tryd.ag36 Tryd.sz36 (hb5) (uv4 a.2) zoff ?_
            refine X.stA rfl rfl rfl rfl rfl rfl (uv_one _) (sz24w a.2) hb4 (by rw [uv4 a.2]; show 0 + 4 ≤ 4; omega) ?_
            intro H20 hb20 hk20
            rw [splice_all (by rw [uv4 a.2]; rfl)] at hb20
            replace hP := hk20.keep hP (by simp; exact fun h => hne4 h.symm)
            replace hkk := hkk.trans hk20 (by simp; omega)
            refine X.done [(4, _), (12, _), (13, _)] ⟨rfl, rfl, rfl, trivial⟩ ?_
            refine N.then ?_
            refine E.ret ?_
            refine N.thenR ?_
            first
              | exact N.retH [_] ⟨_, _, _, 0, rfl, rfl, loadsA Tryd.ag36 Tryd.sz36 hb20 (uv4 a.2) zoff, rfl⟩ ⟨_, _, itm_2 e1 ht (itR_4 ec (by omega) e3 (by omega) (.inr (.inr (by rw [hax, hby, hd_rg hx8, hd_rg hy8]; assumption)))), rfl, hP, hkk⟩
              | exact N.retH [_] ⟨_, _, _, 0, rfl, rfl, loadsA Tryd.ag36 Tryd.sz36 hb20 (uv4 a.2) zoff, rfl⟩ ⟨_, _, itm_2 e1 ht (itR_4 ec (by omega) e3 (by omega) (by simp)), rfl, hP, hkk⟩
  · replace hP := hPn
    replace hb4 := hk5.keep hb4 (by simp; exact hne4)
    replace hb5 := hk5.keep hb5 (by simp; exact hne5)
    replace hkk := hkk.trans hk5 (by simp)
    refine X.notF rfl rfl rfl rfl rfl ?_
    refine X.done [(0, _), (1, _), (4, _), (5, _), (6, _), (7, _), (25, _)] ⟨rfl, rfl, rfl, rfl, rfl, rfl, rfl, trivial⟩ ?_
    refine N.then ?_
    refine E.condT rfl ?_
    refine E.seq ?_
    refine E.region ?_
    refine X.ldA rfl rfl rfl rfl Tryd.ag36 Tryd.sz36 (hb5) (uv4 a.2) zoff ?_
    refine X.stA rfl rfl rfl rfl rfl rfl (uv_one _) (sz24w a.2) hb4 (by rw [uv4 a.2]; show 0 + 4 ≤ 4; omega) ?_
    intro H20 hb20 hk20
    rw [splice_all (by rw [uv4 a.2]; rfl)] at hb20
    replace hP := hk20.keep hP (by simp; exact fun h => hne4 h.symm)
    replace hkk := hkk.trans hk20 (by simp; omega)
    refine X.done [(0, _), (1, _), (4, _), (5, _), (6, _), (7, _)] ⟨rfl, rfl, rfl, rfl, rfl, rfl, trivial⟩ ?_
    refine N.then ?_
    refine E.ret ?_
    refine N.thenR ?_
    exact N.retH [_] ⟨_, _, _, 0, rfl, rfl, loadsA Tryd.ag36 Tryd.sz36 hb20 (uv4 a.2) zoff, rfl⟩ ⟨_, _, itm_1 e1 hf, rfl, hP, hkk⟩

end Go.Proofs.YtcandjdomeompaaDoor