/- The laws of blames: chains. -/
import Derived.Test.YtaofjmaekpjkhaaDoorW6
namespace Go.Proofs.YtaofjmaekpjkhaaDoor
open Go.SX Go.Blm
attribute [local irreducible] X E N Ct
set_option linter.unusedVariables false

theorem has_take {w : Int} {l : List LK} {i : Nat} {x : LK} (hx : l[i]? = some x) : has w (l.take (i + 1)) = (has w (l.take i) || decide (x.1 = w)) := by
  rw [List.take_add_one, hx]; simp [has, List.any_append]
theorem last_get {l : List LK} (h : l ≠ []) : l[l.length - 1]? = some (lastL l) := by
  have e : l.getLast? = some (lastL l) := by
    rw [lastL, List.getLastD_eq_getLast?]
    cases hl : l.getLast? with
    | none => exact absurd (List.getLast?_eq_none_iff.1 hl) h
    | some x => rfl
  rw [← e, List.getLast?_eq_getElem?]
theorem code_get {l : List LK} {x : LK} (h : l[0]? = some x) : codeV l = x.1 ∧ atV l = x.2 := by
  cases l with
  | nil => simp at h
  | cons y r => simp at h; subst h; exact ⟨rfl, rfl⟩
theorem famN_some {l : List LK} (h : l ≠ []) : famN l = (fi (lastL l).1 : Int) := if_neg h
theorem code_nil {l : List LK} (h : l = []) : codeV l = 0 ∧ atV l = 0 ∧ famN l = 0 := by subst h; exact ⟨rfl, rfl, rfl⟩
theorem rows2 {H : Heap} {a : Option Addr} {n c : Nat} {l : List LK} (h : Rd H 2 (.slice a n c) n (l.flatMap opl)) : ∃ b o, ∀ i x, l[i]? = some x → a = some ⟨b, o, none⟩ ∧ ∃ cs ct fz, H[b]? = some (.cells (cs : List Value).toArray ct fz) ∧ cs[o + i * 2 + 0]? = some (i64 x.1) ∧ cs[o + i * 2 + 1]? = some (i64 x.2) ∧ ∀ j u, (opl x)[j]? = some u → cs[o + i * 2 + j]? = some u := by
  cases l with
  | nil => exact ⟨0, 0, fun i x hx => by simp at hx⟩
  | cons y r =>
    obtain ⟨b, o, c', cs, ct, fz, hv, hb, _⟩ := h.get (i := 0) (x := y) opl_len rfl (by decide)
    obtain ⟨rfl, _, _⟩ := Value.slice.inj hv
    refine ⟨b, o, fun i x hx => ⟨rfl, ?_⟩⟩
    obtain ⟨b2, o2, c2, cs2, ct2, fz2, hv2, hb2, h3⟩ := h.get opl_len hx (by decide)
    have e := (Value.slice.inj hv2).1
    injection e with e
    injection e with e1 e2
    subst e1 e2
    exact ⟨cs2, ct2, fz2, hb2, h3 0 _ rfl, h3 1 _ rfl, h3⟩

theorem chains_long (l : List LK) (a : Option Addr) (cc : Nat) (w : Int) (H : Heap) (hS : Rd H 2 (.slice a l.length cc) l.length (l.flatMap opl)) (hok : ∀ z ∈ l, ok64 z.2) (A : Nat → Addr) (hG : Gl H A) (hl : 40 < l.length) : Ct Tryd.prog 4 #[.slice a l.length cc, i64 w] H fun v H' => v = .bool true ∧ Kp [] H H' := by
  have hkk : Kp [] H H := Kp.refl _ _
  refine Ct.into 124 Tryd.func4 rfl [(0, .slice a l.length cc), (1, i64 w)] rfl ⟨rfl, rfl, trivial⟩ ?_
  refine E.seq ?_
  refine E.region ?_
  refine X.asg rfl rfl rfl rfl rfl ?_
  refine X.done [(0, _), (1, _), (4, _)] ⟨rfl, rfl, rfl, trivial⟩ ?_
  refine N.then ?_
  refine E.seq ?_
  refine E.seq ?_
  refine E.region ?_
  refine X.mv rfl rfl rfl rfl rfl ?_
  refine X.lenS rfl rfl rfl rfl rfl Tryd.underlying41 ?_
  refine X.gtrT rfl rfl rfl rfl rfl rfl (by omega) ?_
  refine X.done [(0, _), (1, _), (4, _), (14, _)] ⟨rfl, rfl, rfl, rfl, trivial⟩ ?_
  refine N.then ?_
  refine E.condT rfl ?_
  refine E.seq ?_
  refine E.region ?_
  refine X.call rfl rfl rfl rfl rfl Tryd.cl14 (known_ct A _ (hG.keep hkk)) ?_
  rintro _ Hx ⟨rfl, hkx⟩
  replace hkk := hkk.trans hkx (by simp)
  clear hkx
  refine X.asg rfl rfl rfl rfl rfl ?_
  refine X.done [(0, _), (1, _), (4, _)] ⟨rfl, rfl, rfl, trivial⟩ ?_
  refine N.then ?_
  refine E.ret ?_
  refine N.thenR ?_
  exact N.retH [_] ⟨_, _, rfl, rfl, rfl⟩ ⟨rfl, hkk⟩

theorem chains_ok (l : List LK) (a : Option Addr) (cc : Nat) (w : Int) (H : Heap) (hS : Rd H 2 (.slice a l.length cc) l.length (l.flatMap opl)) (hok : ∀ z ∈ l, ok64 z.2) (A : Nat → Addr) (hG : Gl H A) (hl : l.length ≤ 40) : Ct Tryd.prog 4 #[.slice a l.length cc, i64 w] H fun v H' => v = .bool true ∧ Kp [] H H' := by
  have hkk : Kp [] H H := Kp.refl _ _
  have hcl := chain_len l
  have hco := chain_ok hok
  refine Ct.into 124 Tryd.func4 rfl [(0, .slice a l.length cc), (1, i64 w)] rfl ⟨rfl, rfl, trivial⟩ ?_
  refine E.seq ?_
  refine E.region ?_
  refine X.asg rfl rfl rfl rfl rfl ?_
  refine X.done [(0, _), (1, _), (4, _)] ⟨rfl, rfl, rfl, trivial⟩ ?_
  refine N.then ?_
  refine E.seq ?_
  refine E.seq ?_
  refine E.region ?_
  refine X.mv rfl rfl rfl rfl rfl ?_
  refine X.lenS rfl rfl rfl rfl rfl Tryd.underlying41 ?_
  refine X.gtrF rfl rfl rfl rfl rfl rfl (by omega) ?_
  refine X.done [(0, _), (1, _), (4, _), (14, _)] ⟨rfl, rfl, rfl, rfl, trivial⟩ ?_
  refine N.then ?_
  refine E.condF rfl ?_
  refine E.skip ?_
  refine N.then ?_
  refine E.seq ?_
  refine E.region ?_
  refine X.mv rfl rfl rfl rfl rfl ?_
  refine X.call rfl rfl rfl rfl rfl Tryd.cl23 (wrapped_ct l a cc H hS (by omega) A hG) ?_
  rintro _ Hx ⟨v5, rfl, hB, hkx⟩
  replace hkk := hkk.trans hkx (by simp)
  clear hkx
  refine X.alloc (z := .agg ([.nilIface] : List Value).toArray) (cs := [.nilIface]) rfl rfl rfl rfl (by kernel_rfl) rfl ?_
  intro b5 Hx hnb5 hb5 hkx
  replace hB := hB.keep hkx
  have hsb5 : H.size ≤ b5 := Nat.le_trans hkk.size hnb5
  replace hkk := hkk.trans hkx (by simp)
  clear hkx
  refine X.stA rfl rfl rfl rfl rfl rfl (hB.one) Tryd.sz26 hb5 (Nat.le_refl _) ?_
  intro Hx hxb hkx
  replace hB := hB.keepT hkx hb5 (by decide)
  replace hb5 := hxb
  replace hkk := hkk.trans hkx (by simp; exact hsb5)
  clear hkx hxb
  refine X.done [(0, _), (1, _), (4, _), (5, _)] ⟨rfl, rfl, rfl, rfl, trivial⟩ ?_
  refine N.then ?_
  refine E.seq ?_
  refine E.region ?_
  refine X.mv rfl rfl rfl rfl rfl ?_
  refine X.call rfl rfl rfl rfl rfl Tryd.cl24 (chain_ct l a cc _ (hS.keep hkk (by simp)) (by omega)) ?_
  rintro _ Hc ⟨a2, c2, rfl, hRc, hkx⟩
  replace hB := hB.keep hkx
  replace hb5 := hkx.keep hb5 (by simp)
  replace hkk := hkk.trans hkx (by simp)
  clear hkx
  obtain ⟨b, o, hrows⟩ := rows2 hRc
  have hkc : Kp [] Hc Hc := Kp.refl _ _
  refine X.asg rfl rfl rfl rfl rfl ?_
  refine X.done [(1, _), (4, _), (5, _), (6, _)] ⟨rfl, rfl, rfl, rfl, trivial⟩ ?_
  refine N.then ?_
  refine E.seq ?_
  refine E.region ?_
  refine X.asg rfl rfl rfl rfl rfl ?_
  refine X.done [(1, _), (4, _), (5, _), (6, _), (7, _)] ⟨rfl, rfl, rfl, rfl, rfl, trivial⟩ ?_
  refine N.then ?_
  refine E.seq ?_
  refine E.seq ?_
  refine E.region ?_
  refine X.asg rfl rfl rfl rfl rfl ?_
  refine X.done [(1, _), (4, _), (5, _), (6, _), (7, _), (8, _)] ⟨rfl, rfl, rfl, rfl, rfl, rfl, trivial⟩ ?_
  refine N.then ?_
  refine E.block ?_
  -- MISSING in G: [4]
  refine E.loop (fun (i : Nat) => [(1, i64 w), (5, ptr b5), (6, .slice a2 (chain l).length c2), (7, .bool (has w ((chain l).take i))), (8, i64 (i : Int))]) (fun (i : Nat) H' => i ≤ (chain l).length ∧ H' = Hc) (fun (i : Nat) => (chain l).length - i) 0 ⟨rfl, rfl, rfl, rfl, rfl, trivial⟩ ⟨Nat.zero_le _, rfl⟩ ?_
  rintro i H9 ⟨hi, eH9⟩
  obtain rfl := eH9.symm
  refine E.seq ?_
  refine E.seq ?_
  refine E.region ?_
  refine X.mv rfl rfl rfl rfl rfl ?_
  refine X.mv rfl rfl rfl rfl rfl ?_
  refine X.lenS rfl rfl rfl rfl rfl Tryd.underlying41 ?_
  refine X.lss rfl rfl rfl rfl rfl rfl ?_
  refine X.done [(1, _), (5, _), (6, _), (7, _), (8, _), (20, _), (21, _), (22, _), (23, _)] ⟨rfl, rfl, rfl, rfl, rfl, rfl, rfl, rfl, rfl, trivial⟩ ?_
  refine N.then ?_
  refine E.condD rfl (fun hc => ?_) (fun hc => ?_)
  · refine E.skip ?_
    refine N.then ?_
    refine E.seq ?_
    refine E.block ?_
    have hi2 : i < (chain l).length := Int.ofNat_lt.1 (by assumption)
    obtain ⟨x, hx⟩ : ∃ x, (chain l)[i]? = some x := ⟨_, List.getElem?_eq_getElem hi2⟩
    obtain ⟨hae, cs, ct, fz, hbb, hk0, hk1, _⟩ := hrows i x hx
    subst hae
    refine E.region ?_
    refine X.mv rfl rfl rfl rfl rfl ?_
    cases hh : has w ((chain l).take i)
    · refine X.mv rfl rfl rfl rfl rfl ?_
      refine X.mv rfl rfl rfl rfl rfl ?_
      refine X.mv rfl rfl rfl rfl rfl ?_
      refine X.ixA rfl rfl rfl rfl rfl rfl Tryd.underlying41 Tryd.sz40 (by omega) ?_
      refine X.fld rfl rfl rfl rfl rfl Tryd.off40_0 ?_
      refine X.ld rfl rfl rfl rfl Tryd.ag22 (hbb) (hk0) ?_
      refine X.mv rfl rfl rfl rfl rfl ?_
      refine X.eql rfl rfl rfl rfl rfl rfl ?_
      refine X.pickF rfl rfl rfl rfl rfl rfl ?_
      refine X.asg rfl rfl rfl rfl rfl ?_
      refine X.done [(1, _), (5, _), (6, _), (7, _), (8, _), (20, _), (21, _), (22, _), (23, _), (26, _), (27, _), (28, _), (29, _), (30, _), (31, _), (32, _), (33, _), (34, _), (35, _)] ⟨rfl, rfl, rfl, rfl, rfl, rfl, rfl, rfl, rfl, rfl, rfl, rfl, rfl, rfl, rfl, rfl, rfl, rfl, rfl, trivial⟩ ?_
      refine N.blk ?_
      refine N.then ?_
      refine E.region ?_
      refine X.mv rfl rfl rfl rfl rfl ?_
      refine X.add rfl rfl rfl rfl rfl rfl (by omega) ?_
      refine X.asg rfl rfl rfl rfl rfl ?_
      refine X.done [(1, _), (5, _), (6, _), (7, _), (8, _), (20, _), (21, _), (22, _), (23, _), (26, _), (27, _), (28, _), (29, _), (30, _), (31, _), (32, _), (33, _), (34, _), (35, _), (24, _), (25, _)] ⟨rfl, rfl, rfl, rfl, rfl, rfl, rfl, rfl, rfl, rfl, rfl, rfl, rfl, rfl, rfl, rfl, rfl, rfl, rfl, rfl, rfl, trivial⟩ ?_
      first | exact N.next (i + 1) ⟨rfl, rfl, rfl, by rw [has_take hx, hh]; rfl, rfl, trivial⟩ ⟨by omega, rfl⟩ (by omega)
    · refine X.mv rfl rfl rfl rfl rfl ?_
      refine X.skip rfl rfl rfl ?_
      refine X.skip rfl rfl rfl ?_
      refine X.skip rfl rfl rfl ?_
      refine X.skip rfl rfl rfl ?_
      refine X.skip rfl rfl rfl ?_
      refine X.skip rfl rfl rfl ?_
      refine X.skip rfl rfl rfl ?_
      refine X.pickT rfl rfl rfl rfl rfl rfl ?_
      refine X.asg rfl rfl rfl rfl rfl ?_
      refine X.done [(1, _), (5, _), (6, _), (7, _), (8, _), (20, _), (21, _), (22, _), (23, _), (26, _), (27, _), (28, _), (29, _), (30, _), (31, _), (32, _), (33, _), (34, _), (35, _)] ⟨rfl, rfl, rfl, rfl, rfl, rfl, rfl, rfl, rfl, rfl, rfl, rfl, rfl, rfl, rfl, rfl, rfl, rfl, rfl, trivial⟩ ?_
      refine N.blk ?_
      refine N.then ?_
      refine E.region ?_
      refine X.mv rfl rfl rfl rfl rfl ?_
      refine X.add rfl rfl rfl rfl rfl rfl (by omega) ?_
      refine X.asg rfl rfl rfl rfl rfl ?_
      refine X.done [(1, _), (5, _), (6, _), (7, _), (8, _), (20, _), (21, _), (22, _), (23, _), (26, _), (27, _), (28, _), (29, _), (30, _), (31, _), (32, _), (33, _), (34, _), (35, _), (24, _), (25, _)] ⟨rfl, rfl, rfl, rfl, rfl, rfl, rfl, rfl, rfl, rfl, rfl, rfl, rfl, rfl, rfl, rfl, rfl, rfl, rfl, rfl, rfl, trivial⟩ ?_
      first | exact N.next (i + 1) ⟨rfl, rfl, rfl, by rw [has_take hx, hh]; rfl, rfl, trivial⟩ ⟨by omega, rfl⟩ (by omega)
  · refine E.exit ?_
    refine N.thenX ?_
    refine N.loopX ?_
    refine N.blkX ?_
    refine N.then ?_
    refine E.seq ?_
    refine E.seq ?_
    have hkc : Kp [] Hc Hc := Kp.refl _ _
    refine E.region ?_
    refine X.ldA rfl rfl rfl rfl Tryd.ag26 Tryd.sz26 (hb5) rfl zoff ?_
    refine X.call rfl rfl rfl rfl rfl Tryd.cl12 (deep_ct (chain l) v5 _ _ (by omega) (hG.keep hkk).et hB.bv) ?_
    rintro _ Hx ⟨rfl, hkx⟩
    replace hb5 := hkx.keep hb5 (by simp)
    replace hB := hB.keep hkx
    replace hkc := hkc.trans hkx (by simp)
    replace hkk := hkk.trans hkx (by simp)
    clear hkx
    refine X.mv rfl rfl rfl rfl rfl ?_
    refine X.lenS rfl rfl rfl rfl rfl Tryd.underlying41 ?_
    refine X.neqF rfl rfl rfl rfl rfl rfl (fun h => h rfl) ?_
    refine X.mv rfl rfl rfl rfl rfl ?_
    refine X.ldA rfl rfl rfl rfl Tryd.ag26 Tryd.sz26 (hb5) rfl zoff ?_
    refine X.call rfl rfl rfl rfl rfl Tryd.cl13 (say_ct (chain l) v5 _ _ (hG.keep hkk).et hB.bv (by omega) hco) ?_
    rintro _ Hx ⟨rfl, hkx⟩
    replace hb5 := hkx.keep hb5 (by simp)
    replace hB := hB.keep hkx
    replace hkc := hkc.trans hkx (by simp)
    replace hkk := hkk.trans hkx (by simp)
    clear hkx
    refine X.mv rfl rfl rfl rfl rfl ?_
    refine X.call rfl rfl rfl rfl rfl Tryd.cl22 (rsay_ct (chain l) a2 c2 _ (hRc.keep hkc (by simp)) (by omega) hco) ?_
    rintro _ Hx ⟨rfl, hkx⟩
    replace hb5 := hkx.keep hb5 (by simp)
    replace hB := hB.keep hkx
    replace hkc := hkc.trans hkx (by simp)
    replace hkk := hkk.trans hkx (by simp)
    clear hkx
    refine X.neqSF rfl rfl rfl rfl rfl rfl (rfl) ?_
    refine X.pickF rfl rfl rfl rfl rfl rfl ?_
    refine X.mv rfl rfl rfl rfl rfl ?_
    refine X.ldA rfl rfl rfl rfl Tryd.ag26 Tryd.sz26 (hb5) rfl zoff ?_
    refine X.mv rfl rfl rfl rfl rfl ?_
    refine X.call rfl rfl rfl rfl rfl Tryd.cl19 (has_ct (chain l) v5 _ w _ (hG.keep hkk).et hB.bv) ?_
    rintro _ Hx ⟨rfl, hkx⟩
    replace hb5 := hkx.keep hb5 (by simp)
    replace hB := hB.keep hkx
    replace hkc := hkc.trans hkx (by simp)
    replace hkk := hkk.trans hkx (by simp)
    clear hkx
    rw [show has w (chain l) = has w ((chain l).take i) from by rw [List.take_of_length_le (Int.ofNat_le.1 (Int.not_lt.1 (by assumption)))]]
    refine X.mv rfl rfl rfl rfl rfl ?_
    refine X.neqBF rfl rfl rfl rfl rfl rfl Tryd.underlying4 (rfl) ?_
    refine X.pickF rfl rfl rfl rfl rfl rfl ?_
    refine X.done [(5, _), (6, _), (54, _)] ⟨rfl, rfl, rfl, trivial⟩ ?_
    refine N.then ?_
    refine E.condF rfl ?_
    refine E.skip ?_
    refine N.then ?_
    refine E.seq ?_
    refine E.seq ?_
    refine E.region ?_
    refine X.mv rfl rfl rfl rfl rfl ?_
    refine X.lenS rfl rfl rfl rfl rfl Tryd.underlying41 ?_
    refine X.eqlC rfl rfl rfl rfl rfl rfl (fun hc => ?_) (fun hc => ?_)
    · refine X.done [(5, _), (6, _), (57, _)] ⟨rfl, rfl, rfl, trivial⟩ ?_
      refine N.then ?_
      refine E.condT rfl ?_
      refine E.seq ?_
      have hcn : chain l = [] := List.eq_nil_of_length_eq_zero (by omega)
      obtain ⟨hn1, hn2, hn3⟩ := code_nil hcn
      refine E.region ?_
      refine X.ldA rfl rfl rfl rfl Tryd.ag26 Tryd.sz26 (hb5) rfl zoff ?_
      refine X.call rfl rfl rfl rfl rfl Tryd.cl17 (code_ct (chain l) v5 _ _ (hG.keep hkk).et hB.bv) ?_
      rintro _ Hx ⟨rfl, hkx⟩
      replace hb5 := hkx.keep hb5 (by simp)
      replace hB := hB.keep hkx
      replace hkc := hkc.trans hkx (by simp)
      replace hkk := hkk.trans hkx (by simp)
      clear hkx
      refine X.eqlT rfl rfl rfl rfl rfl rfl (hn1) ?_
      refine X.mv rfl rfl rfl rfl rfl ?_
      refine X.ldA rfl rfl rfl rfl Tryd.ag26 Tryd.sz26 (hb5) rfl zoff ?_
      refine X.call rfl rfl rfl rfl rfl Tryd.cl18 (at_ct (chain l) v5 _ _ (hG.keep hkk).et hB.bv) ?_
      rintro _ Hx ⟨rfl, hkx⟩
      replace hb5 := hkx.keep hb5 (by simp)
      replace hB := hB.keep hkx
      replace hkc := hkc.trans hkx (by simp)
      replace hkk := hkk.trans hkx (by simp)
      clear hkx
      refine X.eqlT rfl rfl rfl rfl rfl rfl (hn2) ?_
      refine X.pickT rfl rfl rfl rfl rfl rfl ?_
      refine X.mv rfl rfl rfl rfl rfl ?_
      refine X.ldA rfl rfl rfl rfl Tryd.ag26 Tryd.sz26 (hb5) rfl zoff ?_
      refine X.call rfl rfl rfl rfl rfl Tryd.cl20 (famtell_ct (chain l) v5 A _ (hG.keep hkk) hB) ?_
      rintro _ Hx ⟨rfl, hkx⟩
      replace hb5 := hkx.keep hb5 (by simp)
      replace hB := hB.keep hkx
      replace hkc := hkc.trans hkx (by simp)
      replace hkk := hkk.trans hkx (by simp)
      clear hkx
      refine X.eqlT rfl rfl rfl rfl rfl rfl (hn3) ?_
      refine X.pickT rfl rfl rfl rfl rfl rfl ?_
      refine X.mv rfl rfl rfl rfl rfl ?_
      refine X.call rfl rfl rfl rfl rfl Tryd.cl14 (known_ct A _ (hG.keep hkk)) ?_
      rintro _ Hx ⟨rfl, hkx⟩
      replace hb5 := hkx.keep hb5 (by simp)
      replace hB := hB.keep hkx
      replace hkk := hkk.trans hkx (by simp)
      clear hkx
      refine X.pickT rfl rfl rfl rfl rfl rfl ?_
      refine X.asg rfl rfl rfl rfl rfl ?_
      refine X.done [(5, _), (6, _), (4, _)] ⟨rfl, rfl, rfl, trivial⟩ ?_
      refine N.then ?_
      refine E.ret ?_
      refine N.thenR ?_
      exact N.retH [_] ⟨_, _, rfl, rfl, rfl⟩ ⟨rfl, hkk⟩
    · refine X.done [(5, _), (6, _), (57, _)] ⟨rfl, rfl, rfl, trivial⟩ ?_
      refine N.then ?_
      refine E.condF rfl ?_
      refine E.skip ?_
      refine N.then ?_
      refine E.seq ?_
      have hlen0 : (chain l).length ≠ 0 := fun h => absurd (congrArg Int.ofNat h) (by assumption)
      refine E.region ?_
      refine X.ldA rfl rfl rfl rfl Tryd.ag26 Tryd.sz26 (hb5) rfl zoff ?_
      refine X.call rfl rfl rfl rfl rfl Tryd.cl15 (root_ct (chain l) v5 _ _ (hG.keep hkk).et hB.bv) ?_
      rintro _ Hx ⟨rfl, hkx⟩
      replace hb5 := hkx.keep hb5 (by simp)
      replace hB := hB.keep hkx
      replace hkc := hkc.trans hkx (by simp)
      replace hkk := hkk.trans hkx (by simp)
      clear hkx
      refine X.mv rfl rfl rfl rfl rfl ?_
      refine X.extract rfl rfl rfl rfl rfl rfl ?_
      refine X.extract rfl rfl rfl rfl rfl rfl ?_
      refine X.asg rfl rfl rfl rfl rfl ?_
      refine X.asg rfl rfl rfl rfl rfl ?_
      refine X.done [(5, _), (6, _), (9, _), (10, _)] ⟨rfl, rfl, rfl, rfl, trivial⟩ ?_
      refine N.then ?_
      refine E.seq ?_
      have hne : chain l ≠ [] := fun h => by rw [h] at hlen0; exact hlen0 rfl
      have hlpos : 0 < (chain l).length := List.length_pos_iff.2 hne
      obtain ⟨x0, hx0⟩ : ∃ x0, (chain l)[0]? = some x0 := ⟨_, List.getElem?_eq_getElem hlpos⟩
      obtain ⟨hae, csx, ctx, fzx, hbbx0, hk0x, hk1x, _⟩ := hrows 0 x0 hx0
      obtain ⟨_, csy, cty, fzy, hbby0, _, _, hely⟩ := hrows _ _ (last_get hne)
      have hbbx := hkc.keep hbbx0 (by simp)
      have hbby := hkc.keep hbby0 (by simp)
      obtain ⟨hcv, hav⟩ := code_get hx0
      subst hae
      refine E.region ?_
      refine X.mv rfl rfl rfl rfl rfl ?_
      refine X.mv rfl rfl rfl rfl rfl ?_
      refine X.lenS rfl rfl rfl rfl rfl Tryd.underlying41 ?_
      refine X.sbE (zz := (((chain l).length - 1 : Nat) : Int)) rfl rfl rfl rfl rfl rfl (by rw [IntWalk.i64_in _ (by omega)] <;> omega) ?_
      refine X.ixA rfl rfl rfl rfl rfl rfl Tryd.underlying41 Tryd.sz40 (by omega) ?_
      refine X.ldA rfl rfl rfl rfl Tryd.ag40 Tryd.sz40 (hbby) (vs := opl (lastL (chain l))) rfl (fun j u hj => hely j u hj) ?_
      refine X.alloc (z := .agg ([.int .i64 0, .int .i64 0] : List Value).toArray) (cs := [.int .i64 0, .int .i64 0]) rfl rfl rfl rfl (by kernel_rfl) rfl ?_
      intro b11 Hx hnb11 hb11 hkx
      replace hB := hB.keep hkx
      have hlhb5 := lt_of hb5
      have hneb5b11 : b5 ≠ b11 := by omega
      replace hb5 := hkx.keep hb5 (by simp)
      have hsb11 : H.size ≤ b11 := Nat.le_trans hkk.size hnb11
      replace hkk := hkk.trans hkx (by simp)
      replace hbbx := hkx.keep hbbx (by simp)
      have hlbb := lt_of hbbx0
      have hxx : b ≠ b11 := by have := hkc.size; omega
      clear hkx
      refine X.stA rfl rfl rfl rfl rfl rfl (by simp [opl, Value.oneCell']) Tryd.sz40 hb11 (Nat.le_refl _) ?_
      intro Hx hxb hkx
      replace hB := hB.keepT hkx hb11 (by decide)
      replace hb5 := hkx.keep hb5 (by simp; exact hneb5b11)
      replace hbbx := hkx.keep hbbx (by simp; exact hxx)
      replace hb11 := hxb
      replace hkk := hkk.trans hkx (by simp; exact hsb11)
      clear hkx hxb
      refine X.done [(5, _), (6, _), (9, _), (10, _), (11, _)] ⟨rfl, rfl, rfl, rfl, rfl, trivial⟩ ?_
      refine N.then ?_
      refine E.seq ?_
      refine E.regionD (fun H' => H'[b5]? = some (.cells ([v5] : List Value).toArray 26 (0, 0)) ∧ H'[b11]? = some (.cells (opl (lastL (chain l))).toArray 40 (0, 0)) ∧ H'[b]? = some (.cells csx.toArray ctx fzx)) [(0, .st), (2, .pu), (3, .pu), (4, .pu), (5, .st), (1, .mk), (6, .pu), (7, .pu), (8, .st), (10, .pu), (11, .pu), (12, .pu), (13, .st), (9, .mk), (14, .pu), (15, .pu), (16, .pu), (17, .pu), (18, .pu), (19, .st), (20, .pu), (21, .pu), (22, .pu), (23, .pu), (24, .pu), (25, .st), (26, .pu), (27, .pu), (28, .pu), (29, .st), (31, .pu), (32, .st), (30, .mk), (33, .mk), (34, .pu), (35, .pu), (36, .pu), (37, .mk), (38, .pu), (39, .pu)] Tryd.mixed (by kernel_rfl) (⟨hb5, hb11, hbbx⟩) ?_
      refine X.ldA rfl rfl rfl rfl Tryd.ag26 Tryd.sz26 (fun H' hF => hF.1) rfl zoff ?_
      refine X.mv rfl rfl rfl rfl rfl ?_
      refine X.ixA rfl rfl rfl rfl rfl rfl Tryd.underlying41 Tryd.sz40 (by omega) ?_
      refine X.fld rfl rfl rfl rfl rfl Tryd.off40_0 ?_
      refine X.ld rfl rfl rfl rfl Tryd.ag22 (fun H' hF => hF.2.2) (hk0x) ?_
      refine X.call rfl rfl rfl rfl rfl Tryd.cl17 (code_ct (chain l) v5 _ _ (hG.keep hkk).et hB.bv) ?_
      rintro _ Hx ⟨rfl, hkx⟩
      replace hb5 := hkx.keep hb5 (by simp)
      replace hB := hB.keep hkx
      replace hb11 := hkx.keep hb11 (by simp)
      replace hbbx := hkx.keep hbbx (by simp)
      replace hkk := hkk.trans hkx (by simp)
      clear hkx
      refine ⟨⟨hb5, hb11, hbbx⟩, ?_⟩
      refine X.eqlT rfl rfl rfl rfl rfl rfl (hcv) ?_
      refine X.mv rfl rfl rfl rfl rfl ?_
      refine X.ldA rfl rfl rfl rfl Tryd.ag26 Tryd.sz26 (fun H' hF => hF.1) rfl zoff ?_
      refine X.mv rfl rfl rfl rfl rfl ?_
      refine X.ixA rfl rfl rfl rfl rfl rfl Tryd.underlying41 Tryd.sz40 (by omega) ?_
      refine X.fld rfl rfl rfl rfl rfl Tryd.off40_1 ?_
      refine X.ld rfl rfl rfl rfl Tryd.ag3 (fun H' hF => hF.2.2) (hk1x) ?_
      refine X.call rfl rfl rfl rfl rfl Tryd.cl18 (at_ct (chain l) v5 _ _ (hG.keep hkk).et hB.bv) ?_
      rintro _ Hx ⟨rfl, hkx⟩
      replace hb5 := hkx.keep hb5 (by simp)
      replace hB := hB.keep hkx
      replace hb11 := hkx.keep hb11 (by simp)
      replace hbbx := hkx.keep hbbx (by simp)
      replace hkk := hkk.trans hkx (by simp)
      clear hkx
      refine ⟨⟨hb5, hb11, hbbx⟩, ?_⟩
      refine X.eqlT rfl rfl rfl rfl rfl rfl (hav) ?_
      refine X.pickT rfl rfl rfl rfl rfl rfl ?_
      refine X.mv rfl rfl rfl rfl rfl ?_
      refine X.mv rfl rfl rfl rfl rfl ?_
      refine X.fld rfl rfl rfl rfl rfl Tryd.off40_0 ?_
      refine X.ld rfl rfl rfl rfl Tryd.ag22 (fun H' hF => hF.2.1) (rfl) ?_
      refine X.eqlT rfl rfl rfl rfl rfl rfl (rfl) ?_
      refine X.pickT rfl rfl rfl rfl rfl rfl ?_
      refine X.mv rfl rfl rfl rfl rfl ?_
      refine X.mv rfl rfl rfl rfl rfl ?_
      refine X.fld rfl rfl rfl rfl rfl Tryd.off40_1 ?_
      refine X.ld rfl rfl rfl rfl Tryd.ag3 (fun H' hF => hF.2.1) (rfl) ?_
      refine X.eqlT rfl rfl rfl rfl rfl rfl (rfl) ?_
      refine X.pickT rfl rfl rfl rfl rfl rfl ?_
      refine X.mv rfl rfl rfl rfl rfl ?_
      refine X.ldA rfl rfl rfl rfl Tryd.ag26 Tryd.sz26 (fun H' hF => hF.1) rfl zoff ?_
      refine X.fld rfl rfl rfl rfl rfl Tryd.off40_0 ?_
      refine X.ld rfl rfl rfl rfl Tryd.ag22 (fun H' hF => hF.2.1) (rfl) ?_
      refine X.call rfl rfl rfl rfl rfl Tryd.cl20 (famtell_ct (chain l) v5 A _ (hG.keep hkk) hB) ?_
      rintro _ Hx ⟨rfl, hkx⟩
      replace hb5 := hkx.keep hb5 (by simp)
      replace hB := hB.keep hkx
      replace hb11 := hkx.keep hb11 (by simp)
      replace hbbx := hkx.keep hbbx (by simp)
      replace hkk := hkk.trans hkx (by simp)
      clear hkx
      refine ⟨⟨hb5, hb11, hbbx⟩, ?_⟩
      refine X.call rfl rfl rfl rfl rfl Tryd.cl21 (rfamily_ct _ _) ?_
      rintro _ Hx ⟨rfl, hkx⟩
      replace hb5 := hkx.keep hb5 (by simp)
      replace hB := hB.keep hkx
      replace hb11 := hkx.keep hb11 (by simp)
      replace hbbx := hkx.keep hbbx (by simp)
      replace hkk := hkk.trans hkx (by simp)
      clear hkx
      refine ⟨⟨hb5, hb11, hbbx⟩, ?_⟩
      refine X.eqlT rfl rfl rfl rfl rfl rfl (famN_some hne) ?_
      refine X.pickT rfl rfl rfl rfl rfl rfl ?_
      refine X.mv rfl rfl rfl rfl rfl ?_
      refine X.call rfl rfl rfl rfl rfl Tryd.cl14 (known_ct A _ (hG.keep hkk)) ?_
      rintro _ Hx ⟨rfl, hkx⟩
      replace hb5 := hkx.keep hb5 (by simp)
      replace hB := hB.keep hkx
      replace hb11 := hkx.keep hb11 (by simp)
      replace hbbx := hkx.keep hbbx (by simp)
      replace hkk := hkk.trans hkx (by simp)
      clear hkx
      refine ⟨⟨hb5, hb11, hbbx⟩, ?_⟩
      refine X.pickT rfl rfl rfl rfl rfl rfl ?_
      refine X.asg rfl rfl rfl rfl rfl ?_
      refine X.done [(4, _)] ⟨rfl, trivial⟩ ?_
      refine N.then ?_
      refine E.ret ?_
      exact N.retH [_] ⟨_, _, rfl, rfl, rfl⟩ ⟨rfl, hkk⟩

end Go.Proofs.YtaofjmaekpjkhaaDoor