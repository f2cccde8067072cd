/- The walks: what stands behind a bar, what stands in brackets. -/
import Derived.Test.YtcandjdomeompaaDoorRB
namespace Go.Proofs.YtcandjdomeompaaDoor
open Go.SX Go.Chr
attribute [local irreducible] X E N Ct
set_option linter.unusedVariables false
set_option linter.unusedSimpArgs false
theorem digit2_ct (c : Nat) (base : Int) (H : Heap) (hc8 : c < 256) : Ct Tryd.prog 67 #[.int .u8 c, i64 base] H fun v H' => ∃ n b, dgN c = n ∧ dgO c base = b ∧ v = .tuple #[i64 n, .bool b] ∧ H' = H :=
  (digit_ct c base H hc8).mono fun v H' ⟨h1, h2⟩ => ⟨_, _, rfl, rfl, h1, h2⟩
theorem take3_ct (s : Bs) (p c : Nat) (st : St) (H : Heap) (hP : PH p s st H) (hs : s.length ≤ 1000) : Ct Tryd.prog 35 #[ptr p, .int .u8 c] H fun v H' => ∃ b st', tk s c st = (b, st') ∧ v = .bool b ∧ PH p s st' H' ∧ Kp [p] H H' :=
  (take_ct s p c st H hP hs).mono fun v H' ⟨h1, h2, h3⟩ => ⟨_, _, rfl, h1, h2, h3⟩
theorem kinds2_ct (c : Nat) (H : Heap) (hc8 : c < 256) : Ct Tryd.prog 65 #[.int .u8 c] H fun v H' => ∃ (a : S4) (b : Bool), kds c = (a, b) ∧ v = .tuple #[agg4 a.1, .bool b] ∧ Kp [] H H' :=
  (kinds_ct c H hc8).mono fun v H' ⟨h1, h2⟩ => ⟨_, _, rfl, h1, h2⟩
theorem nmd_lt {c : Nat} (h : c < 256) : (nmd c).1 < 256 := by
  unfold nmd; repeat' split
  all_goals first | decide | exact h
theorem named2_ct (c : Nat) (H : Heap) (hc8 : c < 256) : Ct Tryd.prog 66 #[.int .u8 c] H fun v H' => ∃ n b, nmd c = (n, b) ∧ n < 256 ∧ v = .tuple #[.int .u8 (n : Nat), .bool b] ∧ H' = H :=
  (named_ct c H hc8).mono fun v H' ⟨h1, h2⟩ => ⟨_, _, rfl, nmd_lt hc8, h1, h2⟩
section
variable {s : Bs} {st : St} {c : Nat}
theorem esc_1 (h : nx s (adv st) = (c, false)) : esc s st = ((s0, false), fl 15 ((st.at_ + 1 : Nat) : Int) (adv st)) := by unfold esc; dsimp only; rw [if_pos (by rw [h])]
theorem esc_2 {a : S4} (h : nx s (adv st) = (c, true)) (hk : kds c = (a, true)) : esc s st = ((a, true), adv (adv st)) := by
  unfold esc; dsimp only; rw [if_neg (by rw [h]; simp), h, if_pos (by rw [hk]), hk]
theorem esc_3 {a : S4} {m : Nat} (h : nx s (adv st) = (c, true)) (hk : kds c = (a, false)) (hn : nmd c = (m, true)) : esc s st = ((sRg m m, false), adv (adv st)) := by
  unfold esc; dsimp only; rw [if_neg (by rw [h]; simp), h, if_neg (by rw [hk]; simp), if_pos (by rw [hn]), hn]
theorem esc_4 {a : S4} {m : Nat} (h : nx s (adv st) = (c, true)) (hk : kds c = (a, false)) (hn : nmd c = (m, false)) (hx : c = 120 ∧ st.at_ + 3 < s.length ∧ hxO s (st.at_ + 2) = true ∧ hxO s (st.at_ + 3) = true) : esc s st = ((sRg (hxV s (st.at_ + 2)) (hxV s (st.at_ + 2)), false), ⟨st.at_ + 4, st.e, st.bad⟩) := by
  unfold esc; dsimp only; rw [if_neg (by rw [h]; simp), h, if_neg (by rw [hk]; simp), if_neg (by rw [hn]; simp), if_pos hx]
theorem esc_5 {a : S4} {m : Nat} (h : nx s (adv st) = (c, true)) (hk : kds c = (a, false)) (hn : nmd c = (m, false)) (hx : ¬ (c = 120 ∧ st.at_ + 3 < s.length ∧ hxO s (st.at_ + 2) = true ∧ hxO s (st.at_ + 3) = true)) : esc s st = ((s0, false), fl 15 ((st.at_ + 1 : Nat) : Int) (adv (adv st))) := by
  unfold esc; dsimp only; rw [if_neg (by rw [h]; simp), h, if_neg (by rw [hk]; simp), if_neg (by rw [hn]; simp), if_neg hx]
theorem nib : ∀ h, h < 16 → ∀ l, l < 16 → h * 16 ||| l = h * 16 + l := by decide
theorem or_nib {h l : Nat} (hh : h < 16) (hl : l < 16) : IntKind.i64.wrap (BitVec.ofInt IntKind.i64.bits ((h * 16 : Nat) : Int) ||| BitVec.ofInt IntKind.i64.bits (l : Int)).toNat = ((h * 16 + l : Nat) : Int) := by
  rw [show IntKind.i64.bits = 64 from rfl, bv_or rfl rfl (by omega) (by omega), nib h hh l hl]
  exact IntWalk.i64_in _ (by omega)
theorem shl_nib {h : Nat} (hh : h < 16) : IntKind.i64.wrap (((h : Nat) : Int) * 2 ^ (min ((4 : Int)).toNat IntKind.i64.bits)) = ((h * 16 : Nat) : Int) := by
  rw [shlN (q := 4) (k := 4) rfl (by omega) (by omega) (by omega)]; omega
theorem hxV_is {a h l : Nat} (h1 : dgN (s.getD a 0).toNat = (h : Nat)) (h2 : dgN (s.getD (a + 1) 0).toNat = (l : Nat)) : hxV s a = h * 16 + l := by
  unfold hxV; rw [h1, h2]; simp
theorem get_byte {i : Nat} (h : i < s.length) : s[i]? = some (s.getD i 0) := by rw [List.getD_eq_getElem?_getD, List.getElem?_eq_getElem h]; rfl
theorem chp_1 {r : (S4 × Bool) × St} (h : nx s st = (c, true)) (hc : c = 92) (he : esc s st = r) : chp s st = r := by unfold chp; rw [if_pos (by rw [h]; exact ⟨rfl, hc⟩), he]
theorem chp_2 (h : nx s st = (c, false)) : chp s st = ((s0, false), fl 15 (st.at_ : Nat) st) := by unfold chp; rw [if_neg (by rw [h]; simp), if_pos (by rw [h]; exact .inl rfl)]
theorem chp_3 (h : nx s st = (c, true)) (hc : c = 45) : chp s st = ((s0, false), fl 15 (st.at_ : Nat) st) := by unfold chp; rw [if_neg (by rw [h]; simp; omega), if_pos (by rw [h]; exact .inr hc)]
theorem chp_4 (h : nx s st = (c, true)) (hc : c ≠ 92) (hc2 : c ≠ 45) : chp s st = ((sRg c c, false), adv st) := by
  unfold chp; rw [if_neg (by rw [h]; simp; omega), if_neg (by rw [h]; simp; omega), h]
end

theorem escape_ct (s : Bs) (p : Nat) (st : St) (H : Heap) (hP0 : PH p s st H) (hs : s.length ≤ 1000) (hok : (nx s st).2 = true) : Ct Tryd.prog 59 #[ptr p] H fun v H' => ∃ (a : S4) (k : Bool) (st' : St), esc s st = ((a, k), st') ∧ v = .tuple #[agg4 a.1, .bool k] ∧ PH p s st' H' ∧ Kp [p] H H' := by
  have hlt := (nx_ok hok).2
  have hps := lt_of hP0
  refine Ct.into 112 Tryd.func59 rfl [(0, ptr p)] rfl ⟨rfl, trivial⟩ ?_
  refine E.seq ?_
  refine E.region ?_
  refine X.alloc (z := .agg ([.int .u64 0, .int .u64 0, .int .u64 0, .int .u64 0] : List Value).toArray) (cs := [.int .u64 0, .int .u64 0, .int .u64 0, .int .u64 0]) rfl rfl rfl rfl (by kernel_rfl) rfl ?_
  intro b2 H1 hn1 hb2 hk1
  have hP := hk1.keep hP0 (by simp)
  have hne : b2 ≠ p := by omega
  have hkk : Kp [p] H H1 := hk1.mono (by simp)
  refine X.asg rfl rfl rfl rfl rfl ?_
  refine X.done [(0, _), (2, _), (3, _)] ⟨rfl, rfl, rfl, trivial⟩ ?_
  refine N.then ?_
  refine E.seq ?_
  refine E.region ?_
  refine X.mv rfl rfl rfl rfl rfl ?_
  refine X.nilP rfl rfl rfl rfl rfl ?_
  refine X.fld rfl rfl rfl rfl rfl Tryd.off47_1 ?_
  refine X.ld rfl rfl rfl rfl Tryd.ag3 (hP) (rfl) ?_
  refine X.addE (zz := ((st.at_ + 1 : Nat) : Int)) rfl rfl rfl rfl rfl rfl (by rw [IntWalk.i64_in _ (by omega)] <;> omega) ?_
  refine X.nilP rfl rfl rfl rfl rfl ?_
  refine X.fld rfl rfl rfl rfl rfl Tryd.off47_1 ?_
  refine X.st rfl rfl rfl rfl rfl rfl rfl Tryd.sz3 hP (by show 1 < 4; omega) ?_
  intro H2 h2 hk2
  replace hP : PH p s (adv st) H2 := h2
  replace hb2 := hk2.keep hb2 (by simp; exact hne)
  replace hkk := hkk.trans hk2 (by simp)
  refine X.done [(0, _), (2, _), (3, _)] ⟨rfl, rfl, rfl, trivial⟩ ?_
  refine N.then ?_
  refine E.seq ?_
  have hadv : (adv st).at_ = st.at_ + 1 := rfl
  refine E.region ?_
  refine X.mv rfl rfl rfl rfl rfl ?_
  refine X.nilP rfl rfl rfl rfl rfl ?_
  refine X.fld rfl rfl rfl rfl rfl Tryd.off47_1 ?_
  refine X.ld rfl rfl rfl rfl Tryd.ag3 (hP) (rfl) ?_
  refine X.asg rfl rfl rfl rfl rfl ?_
  refine X.done [(0, _), (2, _), (3, _), (4, _)] ⟨rfl, rfl, rfl, rfl, trivial⟩ ?_
  refine N.then ?_
  refine E.seq ?_
  refine E.region ?_
  refine X.mv rfl rfl rfl rfl rfl ?_
  refine X.call rfl rfl rfl rfl rfl Tryd.cl23 (next2_ct s p (adv st) H2 hP) ?_
  rintro _ Hx ⟨c, bq, ec, hc8, _, rfl, e⟩
  obtain rfl := e.symm
  cases bq
  · refine X.mv rfl rfl rfl rfl rfl ?_
    refine X.extract rfl rfl rfl rfl rfl rfl ?_
    refine X.extract rfl rfl rfl rfl rfl rfl ?_
    refine X.asg rfl rfl rfl rfl rfl ?_
    refine X.asg rfl rfl rfl rfl rfl ?_
    refine X.done [(0, _), (2, _), (3, _), (4, _), (5, _), (6, _)] ⟨rfl, rfl, rfl, rfl, rfl, rfl, trivial⟩ ?_
    refine N.then ?_
    refine E.seq ?_
    refine E.seq ?_
    refine E.region ?_
    refine X.mv rfl rfl rfl rfl rfl ?_
    refine X.notF rfl rfl rfl rfl rfl ?_
    refine X.done [(0, _), (2, _), (3, _), (4, _), (5, _), (32, _)] ⟨rfl, rfl, rfl, rfl, rfl, rfl, trivial⟩ ?_
    refine N.then ?_
    refine E.condT rfl ?_
    refine E.seq ?_
    refine E.region ?_
    refine X.mv rfl rfl rfl rfl rfl ?_
    refine X.mv rfl rfl rfl rfl rfl ?_
    refine X.call rfl rfl rfl rfl rfl Tryd.cl24 (fail_ct s p _ 15 _ _ hP) ?_
    rintro _ H8 ⟨rfl, hPn, hk8⟩
    replace hP := hPn
    replace hb2 := hk8.keep hb2 (by simp; exact hne)
    replace hkk := hkk.trans hk8 (by simp)
    refine X.done [(0, _), (2, _), (3, _), (4, _), (5, _)] ⟨rfl, rfl, rfl, rfl, rfl, trivial⟩ ?_
    refine N.then ?_
    refine E.seq ?_
    refine E.region ?_
    refine X.build rfl rfl rfl rfl rfl build_z4 ?_
    refine X.stA rfl rfl rfl rfl rfl rfl (uv_one _) (sz24w ws_z4) hb2 (by show 0 + 4 ≤ 4; omega) ?_
    intro H9 hb9 hk9
    rw [splice_all (by rfl)] at hb9
    replace hP := hk9.keep hP (by simp; exact fun h => hne h.symm)
    replace hkk := hkk.trans hk9 (by simp; omega)
    refine X.asg rfl rfl rfl rfl rfl ?_
    refine X.done [(0, _), (2, _), (3, _), (4, _), (5, _)] ⟨rfl, rfl, rfl, rfl, rfl, trivial⟩ ?_
    refine N.then ?_
    refine E.ret ?_
    refine N.thenR ?_
    exact N.retH [_, _] ⟨_, _, _, 0, rfl, rfl, loadsA Tryd.ag36 Tryd.sz36 hb9 (uv4 ws_z4) zoff, _, _, rfl, rfl, rfl⟩ ⟨s0, _, _, esc_1 ec, rfl, hP, hkk⟩
  · refine X.mv rfl rfl rfl rfl rfl ?_
    refine X.extract rfl rfl rfl rfl rfl rfl ?_
    refine X.extract rfl rfl rfl rfl rfl rfl ?_
    refine X.asg rfl rfl rfl rfl rfl ?_
    refine X.asg rfl rfl rfl rfl rfl ?_
    refine X.done [(0, _), (2, _), (3, _), (4, _), (5, _), (6, _)] ⟨rfl, rfl, rfl, rfl, rfl, rfl, trivial⟩ ?_
    refine N.then ?_
    refine E.seq ?_
    refine E.seq ?_
    refine E.region ?_
    refine X.mv rfl rfl rfl rfl rfl ?_
    refine X.notT rfl rfl rfl rfl rfl ?_
    refine X.done [(0, _), (2, _), (3, _), (4, _), (5, _), (32, _)] ⟨rfl, rfl, rfl, rfl, rfl, rfl, trivial⟩ ?_
    refine N.then ?_
    refine E.condF rfl ?_
    refine E.skip ?_
    refine N.then ?_
    refine E.seq ?_
    have hok2 : (adv st).at_ < s.length := (nx_ok (s := s) (st := adv st) (by rw [ec])).2
    have hlt2 : st.at_ + 1 < s.length := hok2
    refine E.region ?_
    refine X.mv rfl rfl rfl rfl rfl ?_
    refine X.nilP rfl rfl rfl rfl rfl ?_
    refine X.fld rfl rfl rfl rfl rfl Tryd.off47_1 ?_
    refine X.ld rfl rfl rfl rfl Tryd.ag3 (hP) (rfl) ?_
    refine X.addE (zz := ((st.at_ + 1 + 1 : Nat) : Int)) rfl rfl rfl rfl rfl rfl (by rw [IntWalk.i64_in _ (by omega)] <;> omega) ?_
    refine X.nilP rfl rfl rfl rfl rfl ?_
    refine X.fld rfl rfl rfl rfl rfl Tryd.off47_1 ?_
    refine X.st rfl rfl rfl rfl rfl rfl rfl Tryd.sz3 hP (by show 1 < 4; omega) ?_
    intro H4 h4 hk4
    replace hP : PH p s (adv (adv st)) H4 := h4
    replace hb2 := hk4.keep hb2 (by simp; exact hne)
    replace hkk := hkk.trans hk4 (by simp)
    refine X.done [(0, _), (2, _), (3, _), (4, _), (5, _)] ⟨rfl, rfl, rfl, rfl, rfl, trivial⟩ ?_
    refine N.then ?_
    refine E.seq ?_
    refine E.seq ?_
    refine E.region ?_
    refine X.mv rfl rfl rfl rfl rfl ?_
    refine X.call rfl rfl rfl rfl rfl Tryd.cl65 (kinds2_ct c H4 hc8) ?_
    rintro _ H5 ⟨a, kb, ek, rfl, hk5⟩
    replace hP := hk5.keep hP (by simp)
    replace hb2 := hk5.keep hb2 (by simp)
    replace hkk := hkk.trans hk5 (by simp)
    cases kb
    · refine X.mv rfl rfl rfl rfl rfl ?_
      refine X.extract rfl rfl rfl rfl rfl rfl ?_
      refine X.extract rfl rfl rfl rfl rfl rfl ?_
      refine X.alloc (z := .agg ([.int .u64 0, .int .u64 0, .int .u64 0, .int .u64 0] : List Value).toArray) (cs := [.int .u64 0, .int .u64 0, .int .u64 0, .int .u64 0]) rfl rfl rfl rfl (by kernel_rfl) rfl ?_
      intro b7 H6 hn6 hb7 hk6
      have hs7 := lt_of hb2
      have hp7 := lt_of hP
      replace hP := hk6.keep hP (by simp)
      replace hb2 := hk6.keep hb2 (by simp)
      replace hkk := hkk.trans hk6 (by simp)
      refine X.stA rfl rfl rfl rfl rfl rfl (uv_one _) (sz24w a.2) hb7 (by rw [uv4 a.2]; show 0 + 4 ≤ 4; omega) ?_
      intro H7 hb7n hk7
      rw [splice_all (by rw [uv4 a.2]; rfl)] at hb7n
      replace hb7 := hb7n
      replace hP := hk7.keep hP (by simp; omega)
      replace hb2 := hk7.keep hb2 (by simp; omega)
      replace hkk := hkk.trans hk7 (by simp; right; have := hkk.size; omega)
      refine X.asg rfl rfl rfl rfl rfl ?_
      refine X.done [(0, _), (2, _), (3, _), (4, _), (5, _), (7, _), (8, _)] ⟨rfl, rfl, rfl, rfl, rfl, rfl, rfl, trivial⟩ ?_
      refine N.then ?_
      refine E.seq ?_
      refine E.region ?_
      refine X.mv rfl rfl rfl rfl rfl ?_
      refine X.done [(0, _), (2, _), (3, _), (4, _), (5, _), (7, _), (49, _)] ⟨rfl, rfl, rfl, rfl, rfl, rfl, rfl, trivial⟩ ?_
      refine N.then ?_
      refine E.condF rfl ?_
      refine E.skip ?_
      refine N.then ?_
      refine E.seq ?_
      refine E.seq ?_
      refine E.region ?_
      refine X.mv rfl rfl rfl rfl rfl ?_
      refine X.call rfl rfl rfl rfl rfl Tryd.cl66 (named2_ct c _ hc8) ?_
      rintro _ Hx ⟨m, nb, en, hm8, rfl, e⟩
      obtain rfl := e.symm
      cases nb
      · refine X.mv rfl rfl rfl rfl rfl ?_
        refine X.extract rfl rfl rfl rfl rfl rfl ?_
        refine X.extract rfl rfl rfl rfl rfl rfl ?_
        refine X.asg rfl rfl rfl rfl rfl ?_
        refine X.asg rfl rfl rfl rfl rfl ?_
        refine X.done [(0, _), (2, _), (3, _), (4, _), (5, _), (9, _), (10, _)] ⟨rfl, rfl, rfl, rfl, rfl, rfl, rfl, trivial⟩ ?_
        refine N.then ?_
        refine E.seq ?_
        refine E.region ?_
        refine X.mv rfl rfl rfl rfl rfl ?_
        refine X.done [(0, _), (2, _), (3, _), (4, _), (5, _), (9, _), (56, _)] ⟨rfl, rfl, rfl, rfl, rfl, rfl, rfl, trivial⟩ ?_
        refine N.then ?_
        refine E.condF rfl ?_
        refine E.skip ?_
        refine N.then ?_
        refine E.seq ?_
        refine E.seq ?_
        refine E.region ?_
        refine X.mv rfl rfl rfl rfl rfl ?_
        refine X.eqlC rfl rfl rfl rfl rfl rfl (fun hc => ?_) (fun hc => ?_)
        · refine X.mv rfl rfl rfl rfl rfl ?_
          refine X.mv rfl rfl rfl rfl rfl ?_
          refine X.addE (zz := ((st.at_ + 3 : Nat) : Int)) rfl rfl rfl rfl rfl rfl (by rw [IntWalk.i64_in _ (by omega)] <;> omega) ?_
          refine X.mv rfl rfl rfl rfl rfl ?_
          refine X.nilP rfl rfl rfl rfl rfl ?_
          refine X.fld rfl rfl rfl rfl rfl Tryd.off47_0 ?_
          refine X.ld rfl rfl rfl rfl Tryd.ag9 (hP) (rfl) ?_
          refine X.lenL rfl rfl rfl rfl rfl Tryd.underlying9 ?_
          refine X.lss rfl rfl rfl rfl rfl rfl ?_
          refine X.pickT rfl rfl rfl rfl rfl rfl ?_
          refine X.done [(0, _), (2, _), (3, _), (4, _), (70, _)] ⟨rfl, rfl, rfl, rfl, rfl, trivial⟩ ?_
          refine N.then ?_
          refine E.condD rfl (fun hc => ?_) (fun hc => ?_)
          · refine E.seq ?_
            refine E.region ?_
            refine X.mv rfl rfl rfl rfl rfl ?_
            refine X.nilP rfl rfl rfl rfl rfl ?_
            refine X.fld rfl rfl rfl rfl rfl Tryd.off47_0 ?_
            refine X.ld rfl rfl rfl rfl Tryd.ag9 (hP) (rfl) ?_
            refine X.mv rfl rfl rfl rfl rfl ?_
            refine X.addE (zz := ((st.at_ + 2 : Nat) : Int)) rfl rfl rfl rfl rfl rfl (by rw [IntWalk.i64_in _ (by omega)] <;> omega) ?_
            refine X.ixS rfl rfl rfl rfl rfl rfl Tryd.underlying9 (by omega) (by exact get_byte (i := st.at_ + 2) (by omega)) ?_
            refine X.call rfl rfl rfl rfl rfl Tryd.cl67 (digit2_ct _ 16 _ (UInt8.toNat_lt _)) ?_
            rintro _ Hx ⟨n1, x1, en1, eo1, rfl, e⟩
            obtain rfl := e.symm
            cases x1
            · refine X.mv rfl rfl rfl rfl rfl ?_
              refine X.extract rfl rfl rfl rfl rfl rfl ?_
              refine X.extract rfl rfl rfl rfl rfl rfl ?_
              refine X.asg rfl rfl rfl rfl rfl ?_
              refine X.asg rfl rfl rfl rfl rfl ?_
              refine X.done [(0, _), (2, _), (3, _), (4, _), (11, _), (12, _)] ⟨rfl, rfl, rfl, rfl, rfl, rfl, trivial⟩ ?_
              refine N.then ?_
              refine E.seq ?_
              refine E.region ?_
              refine X.mv rfl rfl rfl rfl rfl ?_
              refine X.nilP rfl rfl rfl rfl rfl ?_
              refine X.fld rfl rfl rfl rfl rfl Tryd.off47_0 ?_
              refine X.ld rfl rfl rfl rfl Tryd.ag9 (hP) (rfl) ?_
              refine X.mv rfl rfl rfl rfl rfl ?_
              refine X.addE (zz := ((st.at_ + 3 : Nat) : Int)) rfl rfl rfl rfl rfl rfl (by rw [IntWalk.i64_in _ (by omega)] <;> omega) ?_
              refine X.ixS rfl rfl rfl rfl rfl rfl Tryd.underlying9 (by omega) (by exact get_byte (i := st.at_ + 3) (by omega)) ?_
              refine X.call rfl rfl rfl rfl rfl Tryd.cl67 (digit2_ct _ 16 _ (UInt8.toNat_lt _)) ?_
              rintro _ Hx ⟨n2, x2, en2, eo2, rfl, e⟩
              obtain rfl := e.symm
              cases x2
              · refine X.mv rfl rfl rfl rfl rfl ?_
                refine X.extract rfl rfl rfl rfl rfl rfl ?_
                refine X.extract rfl rfl rfl rfl rfl rfl ?_
                refine X.asg rfl rfl rfl rfl rfl ?_
                refine X.asg rfl rfl rfl rfl rfl ?_
                refine X.done [(0, _), (2, _), (3, _), (4, _), (11, _), (12, _), (13, _), (14, _)] ⟨rfl, rfl, rfl, rfl, rfl, rfl, rfl, rfl, trivial⟩ ?_
                refine N.then ?_
                refine E.seq ?_
                refine E.region ?_
                refine X.mv rfl rfl rfl rfl rfl ?_
                refine X.mv rfl rfl rfl rfl rfl ?_
                refine X.skip rfl rfl rfl ?_
                refine X.pickF rfl rfl rfl rfl rfl rfl ?_
                refine X.done [(0, _), (2, _), (3, _), (4, _), (11, _), (13, _), (96, _)] ⟨rfl, rfl, rfl, rfl, rfl, rfl, rfl, trivial⟩ ?_
                refine N.then ?_
                refine E.condF rfl ?_
                refine E.skip ?_
                refine N.then ?_
                refine E.seq ?_
                refine E.region ?_
                refine X.mv rfl rfl rfl rfl rfl ?_
                refine X.mv rfl rfl rfl rfl rfl ?_
                refine X.call rfl rfl rfl rfl rfl Tryd.cl24 (fail_ct s p _ 15 _ _ hP) ?_
                rintro _ H8 ⟨rfl, hPn, hk8⟩
                replace hP := hPn
                replace hb2 := hk8.keep hb2 (by simp; exact hne)
                replace hkk := hkk.trans hk8 (by simp)
                refine X.done [(2, _), (3, _)] ⟨rfl, rfl, trivial⟩ ?_
                refine N.then ?_
                refine E.seq ?_
                refine E.region ?_
                refine X.build rfl rfl rfl rfl rfl build_z4 ?_
                refine X.stA rfl rfl rfl rfl rfl rfl (uv_one _) (sz24w ws_z4) hb2 (by show 0 + 4 ≤ 4; omega) ?_
                intro H9 hb9 hk9
                rw [splice_all (by rfl)] at hb9
                replace hP := hk9.keep hP (by simp; exact fun h => hne h.symm)
                replace hkk := hkk.trans hk9 (by simp; omega)
                refine X.asg rfl rfl rfl rfl rfl ?_
                refine X.done [(2, _), (3, _)] ⟨rfl, rfl, trivial⟩ ?_
                refine N.then ?_
                refine E.ret ?_
                have e5 : esc s st = _ := esc_5 ec ek en (by
                  rintro ⟨z1, z2, z3, z4⟩
                  first
                    | omega
                    | (rw [show hxO s (st.at_ + 2) = false from eo1] at z3; cases z3)
                    | (rw [show hxO s (st.at_ + 3) = false from eo2] at z4; cases z4))
                exact N.retH [_, _] ⟨_, _, _, 0, rfl, rfl, loadsA Tryd.ag36 Tryd.sz36 hb9 (uv4 ws_z4) zoff, _, _, rfl, rfl, rfl⟩ ⟨s0, _, _, e5, rfl, hP, hkk⟩
              · refine X.mv rfl rfl rfl rfl rfl ?_
                refine X.extract rfl rfl rfl rfl rfl rfl ?_
                refine X.extract rfl rfl rfl rfl rfl rfl ?_
                refine X.asg rfl rfl rfl rfl rfl ?_
                refine X.asg rfl rfl rfl rfl rfl ?_
                refine X.done [(0, _), (2, _), (3, _), (4, _), (11, _), (12, _), (13, _), (14, _)] ⟨rfl, rfl, rfl, rfl, rfl, rfl, rfl, rfl, trivial⟩ ?_
                refine N.then ?_
                refine E.seq ?_
                refine E.region ?_
                refine X.mv rfl rfl rfl rfl rfl ?_
                refine X.mv rfl rfl rfl rfl rfl ?_
                refine X.skip rfl rfl rfl ?_
                refine X.pickF rfl rfl rfl rfl rfl rfl ?_
                refine X.done [(0, _), (2, _), (3, _), (4, _), (11, _), (13, _), (96, _)] ⟨rfl, rfl, rfl, rfl, rfl, rfl, rfl, trivial⟩ ?_
                refine N.then ?_
                refine E.condF rfl ?_
                refine E.skip ?_
                refine N.then ?_
                refine E.seq ?_
                refine E.region ?_
                refine X.mv rfl rfl rfl rfl rfl ?_
                refine X.mv rfl rfl rfl rfl rfl ?_
                refine X.call rfl rfl rfl rfl rfl Tryd.cl24 (fail_ct s p _ 15 _ _ hP) ?_
                rintro _ H8 ⟨rfl, hPn, hk8⟩
                replace hP := hPn
                replace hb2 := hk8.keep hb2 (by simp; exact hne)
                replace hkk := hkk.trans hk8 (by simp)
                refine X.done [(2, _), (3, _)] ⟨rfl, rfl, trivial⟩ ?_
                refine N.then ?_
                refine E.seq ?_
                refine E.region ?_
                refine X.build rfl rfl rfl rfl rfl build_z4 ?_
                refine X.stA rfl rfl rfl rfl rfl rfl (uv_one _) (sz24w ws_z4) hb2 (by show 0 + 4 ≤ 4; omega) ?_
                intro H9 hb9 hk9
                rw [splice_all (by rfl)] at hb9
                replace hP := hk9.keep hP (by simp; exact fun h => hne h.symm)
                replace hkk := hkk.trans hk9 (by simp; omega)
                refine X.asg rfl rfl rfl rfl rfl ?_
                refine X.done [(2, _), (3, _)] ⟨rfl, rfl, trivial⟩ ?_
                refine N.then ?_
                refine E.ret ?_
                have e5 : esc s st = _ := esc_5 ec ek en (by
                  rintro ⟨z1, z2, z3, z4⟩
                  first
                    | omega
                    | (rw [show hxO s (st.at_ + 2) = false from eo1] at z3; cases z3)
                    | (rw [show hxO s (st.at_ + 3) = false from eo2] at z4; cases z4))
                exact N.retH [_, _] ⟨_, _, _, 0, rfl, rfl, loadsA Tryd.ag36 Tryd.sz36 hb9 (uv4 ws_z4) zoff, _, _, rfl, rfl, rfl⟩ ⟨s0, _, _, e5, rfl, hP, hkk⟩
            · refine X.mv rfl rfl rfl rfl rfl ?_
              refine X.extract rfl rfl rfl rfl rfl rfl ?_
              refine X.extract rfl rfl rfl rfl rfl rfl ?_
              refine X.asg rfl rfl rfl rfl rfl ?_
              refine X.asg rfl rfl rfl rfl rfl ?_
              refine X.done [(0, _), (2, _), (3, _), (4, _), (11, _), (12, _)] ⟨rfl, rfl, rfl, rfl, rfl, rfl, trivial⟩ ?_
              refine N.then ?_
              refine E.seq ?_
              refine E.region ?_
              refine X.mv rfl rfl rfl rfl rfl ?_
              refine X.nilP rfl rfl rfl rfl rfl ?_
              refine X.fld rfl rfl rfl rfl rfl Tryd.off47_0 ?_
              refine X.ld rfl rfl rfl rfl Tryd.ag9 (hP) (rfl) ?_
              refine X.mv rfl rfl rfl rfl rfl ?_
              refine X.addE (zz := ((st.at_ + 3 : Nat) : Int)) rfl rfl rfl rfl rfl rfl (by rw [IntWalk.i64_in _ (by omega)] <;> omega) ?_
              refine X.ixS rfl rfl rfl rfl rfl rfl Tryd.underlying9 (by omega) (by exact get_byte (i := st.at_ + 3) (by omega)) ?_
              refine X.call rfl rfl rfl rfl rfl Tryd.cl67 (digit2_ct _ 16 _ (UInt8.toNat_lt _)) ?_
              rintro _ Hx ⟨n2, x2, en2, eo2, rfl, e⟩
              obtain rfl := e.symm
              cases x2
              · refine X.mv rfl rfl rfl rfl rfl ?_
                refine X.extract rfl rfl rfl rfl rfl rfl ?_
                refine X.extract rfl rfl rfl rfl rfl rfl ?_
                refine X.asg rfl rfl rfl rfl rfl ?_
                refine X.asg rfl rfl rfl rfl rfl ?_
                refine X.done [(0, _), (2, _), (3, _), (4, _), (11, _), (12, _), (13, _), (14, _)] ⟨rfl, rfl, rfl, rfl, rfl, rfl, rfl, rfl, trivial⟩ ?_
                refine N.then ?_
                refine E.seq ?_
                refine E.region ?_
                refine X.mv rfl rfl rfl rfl rfl ?_
                refine X.mv rfl rfl rfl rfl rfl ?_
                refine X.mv rfl rfl rfl rfl rfl ?_
                refine X.pickT rfl rfl rfl rfl rfl rfl ?_
                refine X.done [(0, _), (2, _), (3, _), (4, _), (11, _), (13, _), (96, _)] ⟨rfl, rfl, rfl, rfl, rfl, rfl, rfl, trivial⟩ ?_
                refine N.then ?_
                refine E.condF rfl ?_
                refine E.skip ?_
                refine N.then ?_
                refine E.seq ?_
                refine E.region ?_
                refine X.mv rfl rfl rfl rfl rfl ?_
                refine X.mv rfl rfl rfl rfl rfl ?_
                refine X.call rfl rfl rfl rfl rfl Tryd.cl24 (fail_ct s p _ 15 _ _ hP) ?_
                rintro _ H8 ⟨rfl, hPn, hk8⟩
                replace hP := hPn
                replace hb2 := hk8.keep hb2 (by simp; exact hne)
                replace hkk := hkk.trans hk8 (by simp)
                refine X.done [(2, _), (3, _)] ⟨rfl, rfl, trivial⟩ ?_
                refine N.then ?_
                refine E.seq ?_
                refine E.region ?_
                refine X.build rfl rfl rfl rfl rfl build_z4 ?_
                refine X.stA rfl rfl rfl rfl rfl rfl (uv_one _) (sz24w ws_z4) hb2 (by show 0 + 4 ≤ 4; omega) ?_
                intro H9 hb9 hk9
                rw [splice_all (by rfl)] at hb9
                replace hP := hk9.keep hP (by simp; exact fun h => hne h.symm)
                replace hkk := hkk.trans hk9 (by simp; omega)
                refine X.asg rfl rfl rfl rfl rfl ?_
                refine X.done [(2, _), (3, _)] ⟨rfl, rfl, trivial⟩ ?_
                refine N.then ?_
                refine E.ret ?_
                have e5 : esc s st = _ := esc_5 ec ek en (by
                  rintro ⟨z1, z2, z3, z4⟩
                  first
                    | omega
                    | (rw [show hxO s (st.at_ + 2) = false from eo1] at z3; cases z3)
                    | (rw [show hxO s (st.at_ + 3) = false from eo2] at z4; cases z4))
                exact N.retH [_, _] ⟨_, _, _, 0, rfl, rfl, loadsA Tryd.ag36 Tryd.sz36 hb9 (uv4 ws_z4) zoff, _, _, rfl, rfl, rfl⟩ ⟨s0, _, _, e5, rfl, hP, hkk⟩
              · refine X.mv rfl rfl rfl rfl rfl ?_
                refine X.extract rfl rfl rfl rfl rfl rfl ?_
                refine X.extract rfl rfl rfl rfl rfl rfl ?_
                refine X.asg rfl rfl rfl rfl rfl ?_
                refine X.asg rfl rfl rfl rfl rfl ?_
                refine X.done [(0, _), (2, _), (3, _), (4, _), (11, _), (12, _), (13, _), (14, _)] ⟨rfl, rfl, rfl, rfl, rfl, rfl, rfl, rfl, trivial⟩ ?_
                refine N.then ?_
                refine E.seq ?_
                refine E.region ?_
                refine X.mv rfl rfl rfl rfl rfl ?_
                refine X.mv rfl rfl rfl rfl rfl ?_
                refine X.mv rfl rfl rfl rfl rfl ?_
                refine X.pickT rfl rfl rfl rfl rfl rfl ?_
                refine X.done [(0, _), (2, _), (3, _), (4, _), (11, _), (13, _), (96, _)] ⟨rfl, rfl, rfl, rfl, rfl, rfl, rfl, trivial⟩ ?_
                refine N.then ?_
                refine E.condT rfl ?_
                refine E.seq ?_
                refine E.region ?_
                refine X.mv rfl rfl rfl rfl rfl ?_
                refine X.mv rfl rfl rfl rfl rfl ?_
                refine X.addE (zz := ((st.at_ + 4 : Nat) : Int)) rfl rfl rfl rfl rfl rfl (by rw [IntWalk.i64_in _ (by omega)] <;> omega) ?_
                refine X.nilP rfl rfl rfl rfl rfl ?_
                refine X.fld rfl rfl rfl rfl rfl Tryd.off47_1 ?_
                refine X.st rfl rfl rfl rfl rfl rfl rfl Tryd.sz3 hP (by show 1 < 4; omega) ?_
                intro H8 h8 hk8
                replace hP : PH p s ⟨st.at_ + 4, st.e, st.bad⟩ H8 := h8
                replace hb2 := hk8.keep hb2 (by simp; exact hne)
                replace hkk := hkk.trans hk8 (by simp)
                refine X.done [(0, _), (2, _), (3, _), (4, _), (11, _), (13, _)] ⟨rfl, rfl, rfl, rfl, rfl, rfl, trivial⟩ ?_
                refine N.then ?_
                refine E.seq ?_
                obtain ⟨q1, q2⟩ := dgO_lt eo1
                obtain ⟨q3, q4⟩ := dgO_lt eo2
                rw [en1] at q1 q2
                rw [en2] at q3 q4
                obtain ⟨h, rfl⟩ := Int.eq_ofNat_of_zero_le q1
                obtain ⟨l, rfl⟩ := Int.eq_ofNat_of_zero_le q3
                have hh16 : h < 16 := by omega
                have hl16 : l < 16 := by omega
                have hv := hxV_is en1 en2
                have e4 := esc_4 ec ek en ⟨by omega, by omega, eo1, eo2⟩
                rw [hv] at e4
                refine E.region ?_
                refine X.mv rfl rfl rfl rfl rfl ?_
                refine X.shlE (zz := ((h * 16 : Nat) : Int)) rfl rfl rfl rfl rfl rfl (by omega) (shl_nib hh16) ?_
                refine X.mv rfl rfl rfl rfl rfl ?_
                refine X.borE (zz := ((h * 16 + l : Nat) : Int)) rfl rfl rfl rfl rfl rfl (or_nib hh16 hl16) ?_
                refine X.convE (zz := ((h * 16 + l : Nat) : Int)) rfl rfl rfl rfl rfl Tryd.underlying5 Tryd.us3 (IntWalk.u8_in _ (by omega)) ?_
                refine X.call rfl rfl rfl rfl rfl Tryd.cl63 (single_ct (h * 16 + l) _ (by omega)) ?_
                rintro _ H8a ⟨rfl, hk8a⟩
                replace hP := hk8a.keep hP (by simp)
                replace hb2 := hk8a.keep hb2 (by simp)
                replace hkk := hkk.trans hk8a (by simp)
                refine X.stA rfl rfl rfl rfl rfl rfl (uv_one _) (sz24w (sRg (h * 16 + l) (h * 16 + l)).2) hb2 (by rw [uv4 (sRg (h * 16 + l) (h * 16 + l)).2]; show 0 + 4 ≤ 4; omega) ?_
                intro H9 hb9 hk9
                rw [splice_all (by rw [uv4 (sRg (h * 16 + l) (h * 16 + l)).2]; rfl)] at hb9
                replace hP := hk9.keep hP (by simp; exact fun h => hne h.symm)
                replace hkk := hkk.trans hk9 (by simp; omega)
                refine X.asg rfl rfl rfl rfl rfl ?_
                refine X.done [(0, _), (2, _), (3, _), (4, _)] ⟨rfl, rfl, rfl, rfl, trivial⟩ ?_
                refine N.then ?_
                refine E.ret ?_
                refine N.thenR ?_
                exact N.retH [_, _] ⟨_, _, _, 0, rfl, rfl, loadsA Tryd.ag36 Tryd.sz36 hb9 (uv4 (sRg (h * 16 + l) (h * 16 + l)).2) zoff, _, _, rfl, rfl, rfl⟩ ⟨_, _, _, e4, rfl, hP, hkk⟩
          · refine E.skip ?_
            refine N.then ?_
            refine E.seq ?_
            refine E.region ?_
            refine X.mv rfl rfl rfl rfl rfl ?_
            refine X.mv rfl rfl rfl rfl rfl ?_
            refine X.call rfl rfl rfl rfl rfl Tryd.cl24 (fail_ct s p _ 15 _ _ hP) ?_
            rintro _ H8 ⟨rfl, hPn, hk8⟩
            replace hP := hPn
            replace hb2 := hk8.keep hb2 (by simp; exact hne)
            replace hkk := hkk.trans hk8 (by simp)
            refine X.done [(2, _), (3, _)] ⟨rfl, rfl, trivial⟩ ?_
            refine N.then ?_
            refine E.seq ?_
            refine E.region ?_
            refine X.build rfl rfl rfl rfl rfl build_z4 ?_
            refine X.stA rfl rfl rfl rfl rfl rfl (uv_one _) (sz24w ws_z4) hb2 (by show 0 + 4 ≤ 4; omega) ?_
            intro H9 hb9 hk9
            rw [splice_all (by rfl)] at hb9
            replace hP := hk9.keep hP (by simp; exact fun h => hne h.symm)
            replace hkk := hkk.trans hk9 (by simp; omega)
            refine X.asg rfl rfl rfl rfl rfl ?_
            refine X.done [(2, _), (3, _)] ⟨rfl, rfl, trivial⟩ ?_
            refine N.then ?_
            refine E.ret ?_
            have e5 : esc s st = _ := esc_5 ec ek en (by
              rintro ⟨z1, z2, z3, z4⟩
              first
                | omega
                | (rw [show hxO s (st.at_ + 2) = false from eo1] at z3; cases z3)
                | (rw [show hxO s (st.at_ + 3) = false from eo2] at z4; cases z4))
            exact N.retH [_, _] ⟨_, _, _, 0, rfl, rfl, loadsA Tryd.ag36 Tryd.sz36 hb9 (uv4 ws_z4) zoff, _, _, rfl, rfl, rfl⟩ ⟨s0, _, _, e5, rfl, hP, hkk⟩
        · refine X.mv rfl rfl rfl rfl rfl ?_
          refine X.skip rfl rfl rfl ?_
          refine X.skip rfl rfl rfl ?_
          refine X.skip rfl rfl rfl ?_
          refine X.skip rfl rfl rfl ?_
          refine X.skip rfl rfl rfl ?_
          refine X.skip rfl rfl rfl ?_
          refine X.skip rfl rfl rfl ?_
          refine X.skip rfl rfl rfl ?_
          refine X.pickF rfl rfl rfl rfl rfl rfl ?_
          refine X.done [(0, _), (2, _), (3, _), (4, _), (70, _)] ⟨rfl, rfl, rfl, rfl, rfl, trivial⟩ ?_
          refine N.then ?_
          refine E.condF rfl ?_
          refine E.skip ?_
          refine N.then ?_
          refine E.seq ?_
          refine E.region ?_
          refine X.mv rfl rfl rfl rfl rfl ?_
          refine X.mv rfl rfl rfl rfl rfl ?_
          refine X.call rfl rfl rfl rfl rfl Tryd.cl24 (fail_ct s p _ 15 _ _ hP) ?_
          rintro _ H8 ⟨rfl, hPn, hk8⟩
          replace hP := hPn
          replace hb2 := hk8.keep hb2 (by simp; exact hne)
          replace hkk := hkk.trans hk8 (by simp)
          refine X.done [(2, _), (3, _)] ⟨rfl, rfl, trivial⟩ ?_
          refine N.then ?_
          refine E.seq ?_
          refine E.region ?_
          refine X.build rfl rfl rfl rfl rfl build_z4 ?_
          refine X.stA rfl rfl rfl rfl rfl rfl (uv_one _) (sz24w ws_z4) hb2 (by show 0 + 4 ≤ 4; omega) ?_
          intro H9 hb9 hk9
          rw [splice_all (by rfl)] at hb9
          replace hP := hk9.keep hP (by simp; exact fun h => hne h.symm)
          replace hkk := hkk.trans hk9 (by simp; omega)
          refine X.asg rfl rfl rfl rfl rfl ?_
          refine X.done [(2, _), (3, _)] ⟨rfl, rfl, trivial⟩ ?_
          refine N.then ?_
          refine E.ret ?_
          have e5 : esc s st = _ := esc_5 ec ek en (by
            rintro ⟨z1, z2, z3, z4⟩
            first
              | omega
              | (rw [show hxO s (st.at_ + 2) = false from eo1] at z3; cases z3)
              | (rw [show hxO s (st.at_ + 3) = false from eo2] at z4; cases z4))
          exact N.retH [_, _] ⟨_, _, _, 0, rfl, rfl, loadsA Tryd.ag36 Tryd.sz36 hb9 (uv4 ws_z4) zoff, _, _, rfl, rfl, rfl⟩ ⟨s0, _, _, e5, rfl, hP, hkk⟩
      · refine X.mv rfl rfl rfl rfl rfl ?_
        refine X.extract rfl rfl rfl rfl rfl rfl ?_
        refine X.extract rfl rfl rfl rfl rfl rfl ?_
        refine X.asg rfl rfl rfl rfl rfl ?_
        refine X.asg rfl rfl rfl rfl rfl ?_
        refine X.done [(0, _), (2, _), (3, _), (4, _), (5, _), (9, _), (10, _)] ⟨rfl, rfl, rfl, rfl, rfl, rfl, rfl, trivial⟩ ?_
        refine N.then ?_
        refine E.seq ?_
        refine E.region ?_
        refine X.mv rfl rfl rfl rfl rfl ?_
        refine X.done [(0, _), (2, _), (3, _), (4, _), (5, _), (9, _), (56, _)] ⟨rfl, rfl, rfl, rfl, rfl, rfl, rfl, trivial⟩ ?_
        refine N.then ?_
        refine E.condT rfl ?_
        refine E.seq ?_
        refine E.region ?_
        refine X.mv rfl rfl rfl rfl rfl ?_
        refine X.call rfl rfl rfl rfl rfl Tryd.cl63 (single_ct m _ hm8) ?_
        rintro _ H8 ⟨rfl, hk8⟩
        replace hP := hk8.keep hP (by simp)
        replace hb2 := hk8.keep hb2 (by simp)
        replace hkk := hkk.trans hk8 (by simp)
        refine X.stA rfl rfl rfl rfl rfl rfl (uv_one _) (sz24w (sRg m m).2) hb2 (by rw [uv4 (sRg m m).2]; show 0 + 4 ≤ 4; omega) ?_
        intro H9 hb9 hk9
        rw [splice_all (by rw [uv4 (sRg m m).2]; rfl)] at hb9
        replace hP := hk9.keep hP (by simp; exact fun h => hne h.symm)
        replace hkk := hkk.trans hk9 (by simp; omega)
        refine X.asg rfl rfl rfl rfl rfl ?_
        refine X.done [(0, _), (2, _), (3, _), (4, _), (5, _)] ⟨rfl, rfl, rfl, rfl, rfl, trivial⟩ ?_
        refine N.then ?_
        refine E.ret ?_
        refine N.thenR ?_
        exact N.retH [_, _] ⟨_, _, _, 0, rfl, rfl, loadsA Tryd.ag36 Tryd.sz36 hb9 (uv4 (sRg m m).2) zoff, _, _, rfl, rfl, rfl⟩ ⟨_, _, _, esc_3 ec ek en, rfl, hP, hkk⟩
    · refine X.mv rfl rfl rfl rfl rfl ?_
      refine X.extract rfl rfl rfl rfl rfl rfl ?_
      refine X.extract rfl rfl rfl rfl rfl rfl ?_
      refine X.alloc (z := .agg ([.int .u64 0, .int .u64 0, .int .u64 0, .int .u64 0] : List Value).toArray) (cs := [.int .u64 0, .int .u64 0, .int .u64 0, .int .u64 0]) rfl rfl rfl rfl (by kernel_rfl) rfl ?_
      intro b7 H6 hn6 hb7 hk6
      have hs7 := lt_of hb2
      have hp7 := lt_of hP
      replace hP := hk6.keep hP (by simp)
      replace hb2 := hk6.keep hb2 (by simp)
      replace hkk := hkk.trans hk6 (by simp)
      refine X.stA rfl rfl rfl rfl rfl rfl (uv_one _) (sz24w a.2) hb7 (by rw [uv4 a.2]; show 0 + 4 ≤ 4; omega) ?_
      intro H7 hb7n hk7
      rw [splice_all (by rw [uv4 a.2]; rfl)] at hb7n
      replace hb7 := hb7n
      replace hP := hk7.keep hP (by simp; omega)
      replace hb2 := hk7.keep hb2 (by simp; omega)
      replace hkk := hkk.trans hk7 (by simp; right; have := hkk.size; omega)
      refine X.asg rfl rfl rfl rfl rfl ?_
      refine X.done [(0, _), (2, _), (3, _), (4, _), (5, _), (7, _), (8, _)] ⟨rfl, rfl, rfl, rfl, rfl, rfl, rfl, trivial⟩ ?_
      refine N.then ?_
      refine E.seq ?_
      refine E.region ?_
      refine X.mv rfl rfl rfl rfl rfl ?_
      refine X.done [(0, _), (2, _), (3, _), (4, _), (5, _), (7, _), (49, _)] ⟨rfl, rfl, rfl, rfl, rfl, rfl, rfl, trivial⟩ ?_
      refine N.then ?_
      refine E.condT rfl ?_
      refine E.seq ?_
      refine E.region ?_
      refine X.ldA rfl rfl rfl rfl Tryd.ag36 Tryd.sz36 (hb7) (uv4 a.2) zoff ?_
      refine X.stA rfl rfl rfl rfl rfl rfl (uv_one _) (sz24w a.2) hb2 (by rw [uv4 a.2]; show 0 + 4 ≤ 4; omega) ?_
      intro H9 hb9 hk9
      rw [splice_all (by rw [uv4 a.2]; rfl)] at hb9
      replace hP := hk9.keep hP (by simp; exact fun h => hne h.symm)
      replace hkk := hkk.trans hk9 (by simp; omega)
      refine X.asg rfl rfl rfl rfl rfl ?_
      refine X.done [(0, _), (2, _), (3, _), (4, _), (5, _)] ⟨rfl, rfl, rfl, rfl, rfl, trivial⟩ ?_
      refine N.then ?_
      refine E.ret ?_
      refine N.thenR ?_
      exact N.retH [_, _] ⟨_, _, _, 0, rfl, rfl, loadsA Tryd.ag36 Tryd.sz36 hb9 (uv4 a.2) zoff, _, _, rfl, rfl, rfl⟩ ⟨_, _, _, esc_2 ec ek, rfl, hP, hkk⟩

theorem char_ct (s : Bs) (p : Nat) (st : St) (H : Heap) (hP0 : PH p s st H) (hs : s.length ≤ 1000) : Ct Tryd.prog 72 #[ptr p] H fun v H' => ∃ (a : S4) (k : Bool) (st' : St), chp s st = ((a, k), st') ∧ v = .tuple #[agg4 a.1, .bool k] ∧ PH p s st' H' ∧ Kp [p] H H' := by
  have hps := lt_of hP0
  refine Ct.into 44 Tryd.func72 rfl [(0, ptr p)] rfl ⟨rfl, trivial⟩ ?_
  refine E.seq ?_
  refine E.region ?_
  refine X.alloc (z := .agg ([.int .u64 0, .int .u64 0, .int .u64 0, .int .u64 0] : List Value).toArray) (cs := [.int .u64 0, .int .u64 0, .int .u64 0, .int .u64 0]) rfl rfl rfl rfl (by kernel_rfl) rfl ?_
  intro b2 H1 hn1 hb2 hk1
  have hP := hk1.keep hP0 (by simp)
  have hne : b2 ≠ p := by omega
  have hkk : Kp [p] H H1 := hk1.mono (by simp)
  refine X.asg rfl rfl rfl rfl rfl ?_
  refine X.done [(0, _), (2, _), (3, _)] ⟨rfl, rfl, rfl, trivial⟩ ?_
  refine N.then ?_
  refine E.seq ?_
  refine E.region ?_
  refine X.mv rfl rfl rfl rfl rfl ?_
  refine X.call rfl rfl rfl rfl rfl Tryd.cl23 (next2_ct s p st H1 hP) ?_
  rintro _ Hx ⟨c, bq, ec, hc8, _, rfl, e⟩
  obtain rfl := e.symm
  cases bq
  · refine X.mv rfl rfl rfl rfl rfl ?_
    refine X.extract rfl rfl rfl rfl rfl rfl ?_
    refine X.extract rfl rfl rfl rfl rfl rfl ?_
    refine X.asg rfl rfl rfl rfl rfl ?_
    refine X.asg rfl rfl rfl rfl rfl ?_
    refine X.done [(0, _), (2, _), (3, _), (4, _), (5, _)] ⟨rfl, rfl, rfl, rfl, rfl, trivial⟩ ?_
    refine N.then ?_
    refine E.seq ?_
    refine E.block ?_
    refine E.seq ?_
    refine E.region ?_
    refine X.mv rfl rfl rfl rfl rfl ?_
    refine X.mv rfl rfl rfl rfl rfl ?_
    refine X.skip rfl rfl rfl ?_
    refine X.skip rfl rfl rfl ?_
    refine X.pickF rfl rfl rfl rfl rfl rfl ?_
    refine X.asg rfl rfl rfl rfl rfl ?_
    refine X.done [(0, _), (2, _), (3, _), (4, _), (5, _), (11, _)] ⟨rfl, rfl, rfl, rfl, rfl, rfl, trivial⟩ ?_
    refine N.then ?_
    refine E.condF rfl ?_
    refine E.seq ?_
    refine E.region ?_
    refine X.mv rfl rfl rfl rfl rfl ?_
    refine X.notF rfl rfl rfl rfl rfl ?_
    refine X.mv rfl rfl rfl rfl rfl ?_
    refine X.skip rfl rfl rfl ?_
    refine X.skip rfl rfl rfl ?_
    refine X.pickT rfl rfl rfl rfl rfl rfl ?_
    refine X.asg rfl rfl rfl rfl rfl ?_
    refine X.done [(0, _), (2, _), (3, _), (4, _), (21, _)] ⟨rfl, rfl, rfl, rfl, rfl, trivial⟩ ?_
    refine N.then ?_
    refine E.condT rfl ?_
    refine E.seq ?_
    refine E.region ?_
    refine X.mv rfl rfl rfl rfl rfl ?_
    refine X.mv rfl rfl rfl rfl rfl ?_
    refine X.nilP rfl rfl rfl rfl rfl ?_
    refine X.fld rfl rfl rfl rfl rfl Tryd.off47_1 ?_
    refine X.ld rfl rfl rfl rfl Tryd.ag3 (hP) (rfl) ?_
    refine X.call rfl rfl rfl rfl rfl Tryd.cl24 (fail_ct s p _ 15 _ _ hP) ?_
    rintro _ H8 ⟨rfl, hPn, hk8⟩
    replace hP := hPn
    replace hb2 := hk8.keep hb2 (by simp; exact hne)
    replace hkk := hkk.trans hk8 (by simp)
    refine X.done [(0, _), (2, _), (3, _), (4, _)] ⟨rfl, rfl, rfl, rfl, trivial⟩ ?_
    refine N.then ?_
    refine E.seq ?_
    refine E.region ?_
    refine X.build rfl rfl rfl rfl rfl build_z4 ?_
    refine X.stA rfl rfl rfl rfl rfl rfl (uv_one _) (sz24w ws_z4) hb2 (by show 0 + 4 ≤ 4; omega) ?_
    intro H9 hb9 hk9
    rw [splice_all (by rfl)] at hb9
    replace hP := hk9.keep hP (by simp; exact fun h => hne h.symm)
    replace hkk := hkk.trans hk9 (by simp; omega)
    refine X.asg rfl rfl rfl rfl rfl ?_
    refine X.done [(0, _), (2, _), (3, _), (4, _)] ⟨rfl, rfl, rfl, rfl, trivial⟩ ?_
    refine N.then ?_
    refine E.ret ?_
    refine N.blkR ?_
    refine N.thenR ?_
    first
      | exact N.retH [_, _] ⟨_, _, _, 0, rfl, rfl, loadsA Tryd.ag36 Tryd.sz36 hb9 (uv4 ws_z4) zoff, _, _, rfl, rfl, rfl⟩ ⟨s0, _, _, chp_2 ec, rfl, hP, hkk⟩
      | exact N.retH [_, _] ⟨_, _, _, 0, rfl, rfl, loadsA Tryd.ag36 Tryd.sz36 hb9 (uv4 ws_z4) zoff, _, _, rfl, rfl, rfl⟩ ⟨s0, _, _, chp_3 ec (by omega), rfl, hP, hkk⟩
  · refine X.mv rfl rfl rfl rfl rfl ?_
    refine X.extract rfl rfl rfl rfl rfl rfl ?_
    refine X.extract rfl rfl rfl rfl rfl rfl ?_
    refine X.asg rfl rfl rfl rfl rfl ?_
    refine X.asg rfl rfl rfl rfl rfl ?_
    refine X.done [(0, _), (2, _), (3, _), (4, _), (5, _)] ⟨rfl, rfl, rfl, rfl, rfl, trivial⟩ ?_
    refine N.then ?_
    refine E.seq ?_
    refine E.block ?_
    refine E.seq ?_
    refine E.region ?_
    refine X.mv rfl rfl rfl rfl rfl ?_
    refine X.mv rfl rfl rfl rfl rfl ?_
    refine X.mv rfl rfl rfl rfl rfl ?_
    refine X.eql rfl rfl rfl rfl rfl rfl ?_
    refine X.pickT rfl rfl rfl rfl rfl rfl ?_
    refine X.asg rfl rfl rfl rfl rfl ?_
    refine X.done [(0, _), (2, _), (3, _), (4, _), (5, _), (11, _)] ⟨rfl, rfl, rfl, rfl, rfl, rfl, trivial⟩ ?_
    refine N.then ?_
    refine E.condD rfl (fun hc => ?_) (fun hc => ?_)
    · refine E.seq ?_
      refine E.region ?_
      refine X.mv rfl rfl rfl rfl rfl ?_
      refine X.call rfl rfl rfl rfl rfl Tryd.cl59 (escape_ct s p st _ hP hs (by rw [ec])) ?_
      rintro _ H3 ⟨a, k, st2, ee, rfl, hPn, hk3⟩
      replace hP := hPn
      replace hb2 := hk3.keep hb2 (by simp; exact hne)
      replace hkk := hkk.trans hk3 (by simp)
      refine X.extract rfl rfl rfl rfl rfl rfl ?_
      refine X.extract rfl rfl rfl rfl rfl rfl ?_
      refine X.stA rfl rfl rfl rfl rfl rfl (uv_one _) (sz24w a.2) hb2 (by rw [uv4 a.2]; show 0 + 4 ≤ 4; omega) ?_
      intro H9 hb9 hk9
      rw [splice_all (by rw [uv4 a.2]; rfl)] at hb9
      replace hP := hk9.keep hP (by simp; exact fun h => hne h.symm)
      replace hkk := hkk.trans hk9 (by simp; omega)
      refine X.asg rfl rfl rfl rfl rfl ?_
      refine X.done [(0, _), (2, _), (3, _), (4, _)] ⟨rfl, rfl, rfl, rfl, trivial⟩ ?_
      refine N.then ?_
      refine E.ret ?_
      refine N.blkR ?_
      refine N.thenR ?_
      exact N.retH [_, _] ⟨_, _, _, 0, rfl, rfl, loadsA Tryd.ag36 Tryd.sz36 hb9 (uv4 a.2) zoff, _, _, rfl, rfl, rfl⟩ ⟨_, _, _, chp_1 ec (by omega) ee, rfl, hP, hkk⟩
    · refine E.seq ?_
      refine E.region ?_
      refine X.mv rfl rfl rfl rfl rfl ?_
      refine X.notT rfl rfl rfl rfl rfl ?_
      refine X.mv rfl rfl rfl rfl rfl ?_
      refine X.mv rfl rfl rfl rfl rfl ?_
      refine X.eql rfl rfl rfl rfl rfl rfl ?_
      refine X.pickF rfl rfl rfl rfl rfl rfl ?_
      refine X.asg rfl rfl rfl rfl rfl ?_
      refine X.done [(0, _), (2, _), (3, _), (4, _), (21, _)] ⟨rfl, rfl, rfl, rfl, rfl, trivial⟩ ?_
      refine N.then ?_
      refine E.condD rfl (fun hc => ?_) (fun hc => ?_)
      · refine E.seq ?_
        refine E.region ?_
        refine X.mv rfl rfl rfl rfl rfl ?_
        refine X.mv rfl rfl rfl rfl rfl ?_
        refine X.nilP rfl rfl rfl rfl rfl ?_
        refine X.fld rfl rfl rfl rfl rfl Tryd.off47_1 ?_
        refine X.ld rfl rfl rfl rfl Tryd.ag3 (hP) (rfl) ?_
        refine X.call rfl rfl rfl rfl rfl Tryd.cl24 (fail_ct s p _ 15 _ _ hP) ?_
        rintro _ H8 ⟨rfl, hPn, hk8⟩
        replace hP := hPn
        replace hb2 := hk8.keep hb2 (by simp; exact hne)
        replace hkk := hkk.trans hk8 (by simp)
        refine X.done [(0, _), (2, _), (3, _), (4, _)] ⟨rfl, rfl, rfl, rfl, trivial⟩ ?_
        refine N.then ?_
        refine E.seq ?_
        refine E.region ?_
        refine X.build rfl rfl rfl rfl rfl build_z4 ?_
        refine X.stA rfl rfl rfl rfl rfl rfl (uv_one _) (sz24w ws_z4) hb2 (by show 0 + 4 ≤ 4; omega) ?_
        intro H9 hb9 hk9
        rw [splice_all (by rfl)] at hb9
        replace hP := hk9.keep hP (by simp; exact fun h => hne h.symm)
        replace hkk := hkk.trans hk9 (by simp; omega)
        refine X.asg rfl rfl rfl rfl rfl ?_
        refine X.done [(0, _), (2, _), (3, _), (4, _)] ⟨rfl, rfl, rfl, rfl, trivial⟩ ?_
        refine N.then ?_
        refine E.ret ?_
        refine N.blkR ?_
        refine N.thenR ?_
        first
          | exact N.retH [_, _] ⟨_, _, _, 0, rfl, rfl, loadsA Tryd.ag36 Tryd.sz36 hb9 (uv4 ws_z4) zoff, _, _, rfl, rfl, rfl⟩ ⟨s0, _, _, chp_2 ec, rfl, hP, hkk⟩
          | exact N.retH [_, _] ⟨_, _, _, 0, rfl, rfl, loadsA Tryd.ag36 Tryd.sz36 hb9 (uv4 ws_z4) zoff, _, _, rfl, rfl, rfl⟩ ⟨s0, _, _, chp_3 ec (by omega), rfl, hP, hkk⟩
      · refine E.skip ?_
        refine N.blk ?_
        refine N.then ?_
        refine E.seq ?_
        have hlt := (nx_ok (s := s) (st := st) (by rw [ec])).2
        refine E.region ?_
        refine X.mv rfl rfl rfl rfl rfl ?_
        refine X.nilP rfl rfl rfl rfl rfl ?_
        refine X.fld rfl rfl rfl rfl rfl Tryd.off47_1 ?_
        refine X.ld rfl rfl rfl rfl Tryd.ag3 (hP) (rfl) ?_
        refine X.addE (zz := ((st.at_ + 1 : Nat) : Int)) rfl rfl rfl rfl rfl rfl (by rw [IntWalk.i64_in _ (by omega)] <;> omega) ?_
        refine X.nilP rfl rfl rfl rfl rfl ?_
        refine X.fld rfl rfl rfl rfl rfl Tryd.off47_1 ?_
        refine X.st rfl rfl rfl rfl rfl rfl rfl Tryd.sz3 hP (by show 1 < 4; omega) ?_
        intro H2 h2 hk2
        replace hP : PH p s (adv st) H2 := h2
        replace hb2 := hk2.keep hb2 (by simp; exact hne)
        replace hkk := hkk.trans hk2 (by simp)
        refine X.done [(2, _), (3, _), (4, _)] ⟨rfl, rfl, rfl, trivial⟩ ?_
        refine N.then ?_
        refine E.seq ?_
        refine E.region ?_
        refine X.mv rfl rfl rfl rfl rfl ?_
        refine X.call rfl rfl rfl rfl rfl Tryd.cl63 (single_ct c _ hc8) ?_
        rintro _ H8 ⟨rfl, hk8⟩
        replace hP := hk8.keep hP (by simp)
        replace hb2 := hk8.keep hb2 (by simp)
        replace hkk := hkk.trans hk8 (by simp)
        refine X.stA rfl rfl rfl rfl rfl rfl (uv_one _) (sz24w (sRg c c).2) hb2 (by rw [uv4 (sRg c c).2]; show 0 + 4 ≤ 4; omega) ?_
        intro H9 hb9 hk9
        rw [splice_all (by rw [uv4 (sRg c c).2]; rfl)] at hb9
        replace hP := hk9.keep hP (by simp; exact fun h => hne h.symm)
        replace hkk := hkk.trans hk9 (by simp; omega)
        refine X.asg rfl rfl rfl rfl rfl ?_
        refine X.done [(2, _), (3, _)] ⟨rfl, rfl, trivial⟩ ?_
        refine N.then ?_
        refine E.ret ?_
        exact N.retH [_, _] ⟨_, _, _, 0, rfl, rfl, loadsA Tryd.ag36 Tryd.sz36 hb9 (uv4 (sRg c c).2) zoff, _, _, rfl, rfl, rfl⟩ ⟨_, _, _, chp_4 ec (by omega) (by omega), rfl, hP, hkk⟩

end Go.Proofs.YtcandjdomeompaaDoor