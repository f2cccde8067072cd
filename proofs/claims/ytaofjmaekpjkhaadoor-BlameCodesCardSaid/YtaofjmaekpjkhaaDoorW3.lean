/- The walks: families, the first link, what is done with each link. -/
import Derived.Test.YtaofjmaekpjkhaaDoorW2
namespace Go.Proofs.YtaofjmaekpjkhaaDoor
open Go.SX Go.Blm
attribute [local irreducible] X E N Ct
set_option linter.unusedVariables false

abbrev famV (a : Addr) : Value := .iface 97 (.pointer (some a))
abbrev lnk (b : Nat) : Value := .iface 51 (ptr b)
abbrev row3 (x : LK) (u : Value) : List Value := [i64 x.1, i64 x.2, u]
/-- What the package's variables hold. -/
structure Gl (H : Heap) (A : Nat → Addr) : Prop where
  et : Et H
  fam : ∀ k, 1 ≤ k → k ≤ 5 → ∃ ct fz, H[k - 1]? = some (.cells ([famV (A k)] : List Value).toArray ct fz)
  row : ∀ k, 1 ≤ k → k ≤ 5 → ∃ c t, H[(A k).block]? = some (.cells c t (0, 0))
  inj : ∀ i j, 1 ≤ i → i ≤ 5 → 1 ≤ j → j ≤ 5 → A i = A j → i = j
theorem Gl.keep {H H' : Heap} {A : Nat → Addr} (h : Gl H A) (hk : Kp [] H H') : Gl H' A :=
  ⟨h.et.keep hk, fun k h1 h2 => by obtain ⟨ct, fz, g⟩ := h.fam k h1 h2; exact ⟨ct, fz, hk.keep g (by simp)⟩, fun k h1 h2 => by obtain ⟨c, t, g⟩ := h.row k h1 h2; exact ⟨c, t, hk.keep g (by simp)⟩, h.inj⟩
/-- A pointer to a chain's first link. -/
def LinkP (H : Heap) (e : Addr) (l : List LK) (pv : Value) : Prop := (l = [] ∧ pv = .pointer none) ∨ ∃ x r b u, l = x :: r ∧ pv = ptr b ∧ H[b]? = some (.cells (row3 x u).toArray 55 (0, 0)) ∧ Ch H e r u
/-- An error that is a chain. -/
def Bv (H : Heap) (e : Addr) (l : List LK) (v : Value) : Prop := (l = [] ∧ v = .nilIface) ∨ Ch H e l v
def Bl (H : Heap) (A : Nat → Addr) (l : List LK) (v : Value) : Prop := (l = [] ∧ v = .nilIface) ∨ (l ≠ [] ∧ Ch H (A (fi (lastL l).1)) l v)
theorem Bl.bv {H : Heap} {A : Nat → Addr} {l : List LK} {v : Value} (h : Bl H A l v) : Bv H (A (fi (lastL l).1)) l v := by
  rcases h with h | h
  · exact .inl h
  · exact .inr h.2
theorem Bl.keep {H H' : Heap} {A : Nat → Addr} {l : List LK} {v : Value} (h : Bl H A l v) (hk : Kp [] H H') : Bl H' A l v := by
  rcases h with h | h
  · exact .inl h
  · exact .inr ⟨h.1, Ch.keep hk h.2⟩
theorem iv_get {l : List Int} {i : Nat} {x : Int} (h : l[i]? = some x) : (iv l)[0 + (i : Int).toNat * 1]? = some (i64 x) := by
  rw [Int.toNat_natCast, Nat.zero_add, Nat.mul_one, List.getElem?_map, h]; rfl

theorem among_ct (l : List Int) (b : Nat) (ct : TypeId) (fz : Nat × Nat) (c : Int) (H : Heap) (hb : H[b]? = some (.cells (iv l).toArray ct fz)) (hl : l.length ≤ 100) : Ct Tryd.prog 34 #[.slice (some ⟨b, 0, none⟩) l.length l.length, i64 c] H fun v H' => v = .bool (decide (c ∈ l)) ∧ H' = H := by
  refine Ct.into 18 Tryd.func34 rfl [(0, .slice (some ⟨b, 0, none⟩) l.length l.length), (1, i64 c)] rfl ⟨rfl, rfl, trivial⟩ ?_
  refine E.seq ?_
  refine E.region ?_
  refine X.asg rfl rfl rfl rfl rfl ?_
  refine X.done [(0, _), (1, _), (4, _)] ⟨rfl, rfl, rfl, trivial⟩ ?_
  refine N.then ?_
  refine E.seq ?_
  refine E.seq ?_
  refine E.region ?_
  refine X.asg rfl rfl rfl rfl rfl ?_
  refine X.done [(0, _), (1, _), (4, _), (5, _)] ⟨rfl, rfl, rfl, rfl, trivial⟩ ?_
  refine N.then ?_
  refine E.block ?_
  -- MISSING in G: [4]
  refine E.loop (fun (i : Nat) => [(0, .slice (some ⟨b, 0, none⟩) l.length l.length), (1, i64 c), (5, i64 i)]) (fun (i : Nat) H' => i ≤ l.length ∧ H' = H ∧ ∀ j x, j < i → l[j]? = some x → x ≠ c) (fun (i : Nat) => l.length - i) 0 ⟨rfl, rfl, rfl, trivial⟩ ⟨Nat.zero_le _, rfl, fun j x h => absurd h (Nat.not_lt_zero _)⟩ ?_
  rintro i H3 ⟨hi, eH, hno⟩
  obtain rfl := eH.symm
  refine E.seq ?_
  refine E.seq ?_
  refine E.region ?_
  refine X.mv rfl rfl rfl rfl rfl ?_
  refine X.mv rfl rfl rfl rfl rfl ?_
  refine X.lenS rfl rfl rfl rfl rfl Tryd.underlying59 ?_
  refine X.lss rfl rfl rfl rfl rfl rfl ?_
  refine X.done [(0, _), (1, _), (5, _), (6, _), (7, _), (8, _), (9, _)] ⟨rfl, rfl, rfl, rfl, rfl, rfl, rfl, trivial⟩ ?_
  refine N.then ?_
  refine E.condD rfl (fun hc => ?_) (fun hc => ?_)
  · refine E.skip ?_
    refine N.then ?_
    refine E.seq ?_
    refine E.block ?_
    refine E.seq ?_
    have hi2 : i < l.length := Int.ofNat_lt.1 (by assumption)
    obtain ⟨x, hx⟩ : ∃ x, l[i]? = some x := ⟨_, List.getElem?_eq_getElem hi2⟩
    refine E.region ?_
    refine X.mv rfl rfl rfl rfl rfl ?_
    refine X.mv rfl rfl rfl rfl rfl ?_
    refine X.ixA rfl rfl rfl rfl rfl rfl Tryd.underlying59 Tryd.sz22 (by omega) ?_
    refine X.ld rfl rfl rfl rfl Tryd.ag22 (hb) (iv_get hx) ?_
    refine X.mv rfl rfl rfl rfl rfl ?_
    refine X.eql rfl rfl rfl rfl rfl rfl ?_
    refine X.done [(0, _), (1, _), (5, _), (6, _), (7, _), (8, _), (9, _), (12, _), (13, _), (14, _), (15, _), (16, _), (17, _)] ⟨rfl, rfl, rfl, rfl, rfl, rfl, rfl, rfl, rfl, rfl, rfl, rfl, rfl, trivial⟩ ?_
    refine N.then ?_
    refine E.condD rfl (fun hc => ?_) (fun hc => ?_)
    · refine E.seq ?_
      refine E.region ?_
      refine X.asg rfl rfl rfl rfl rfl ?_
      refine X.done [(0, _), (1, _), (5, _), (6, _), (7, _), (8, _), (9, _), (12, _), (13, _), (14, _), (15, _), (16, _), (17, _), (4, _)] ⟨rfl, rfl, rfl, rfl, rfl, rfl, rfl, rfl, rfl, rfl, rfl, rfl, rfl, rfl, trivial⟩ ?_
      refine N.then ?_
      refine E.ret ?_
      refine N.blkR ?_
      refine N.thenR ?_
      refine N.loopR ?_
      refine N.blkR ?_
      refine N.thenR ?_
      exact N.retH [_] ⟨_, _, rfl, rfl, rfl⟩ ⟨by show Value.bool true = _; rw [decide_eq_true ((show x = c by assumption) ▸ List.mem_of_getElem? hx)], rfl⟩
    · refine E.skip ?_
      refine N.blk ?_
      refine N.then ?_
      refine E.region ?_
      refine X.mv rfl rfl rfl rfl rfl ?_
      refine X.add rfl rfl rfl rfl rfl rfl (by omega) ?_
      refine X.asg rfl rfl rfl rfl rfl ?_
      refine X.done [(0, _), (1, _), (5, _), (6, _), (7, _), (8, _), (9, _), (12, _), (13, _), (14, _), (15, _), (16, _), (17, _), (10, _), (11, _)] ⟨rfl, rfl, rfl, rfl, rfl, rfl, rfl, rfl, rfl, rfl, rfl, rfl, rfl, rfl, rfl, trivial⟩ ?_
      exact N.next (i + 1) ⟨rfl, rfl, rfl, trivial⟩ ⟨by omega, rfl, fun j y hj hy => by
        rcases Nat.lt_succ_iff_lt_or_eq.1 hj with h | h
        · exact hno j y h hy
        · subst h; rw [hx] at hy; obtain rfl := Option.some.inj hy; assumption⟩ (by omega)
  · refine E.exit ?_
    refine N.thenX ?_
    refine N.loopX ?_
    refine N.blkX ?_
    refine N.then ?_
    refine E.seq ?_
    refine E.region ?_
    refine X.asg rfl rfl rfl rfl rfl ?_
    refine X.done [(4, _)] ⟨rfl, trivial⟩ ?_
    refine N.then ?_
    refine E.ret ?_
    exact N.retH [_] ⟨_, _, rfl, rfl, rfl⟩ ⟨by show Value.bool false = _; rw [decide_eq_false (fun hm => by obtain ⟨j, hj, e⟩ := List.getElem_of_mem hm; exact hno j c (Nat.lt_of_lt_of_le hj (Int.ofNat_le.1 (Int.not_lt.1 (by assumption)))) (by rw [List.getElem?_eq_getElem hj, e]) rfl)], rfl⟩

theorem rfamily_ct (c : Int) (H : Heap) : Ct Tryd.prog 21 #[i64 c] H fun v H' => v = i64 (fi c) ∧ Kp [] H H' := by
  have hkk : Kp [] H H := Kp.refl _ _
  refine Ct.into 19 Tryd.func21 rfl [(0, i64 c)] rfl ⟨rfl, trivial⟩ ?_
  refine E.seq ?_
  refine E.region ?_
  refine X.asg rfl rfl rfl rfl rfl ?_
  refine X.done [(0, _), (2, _)] ⟨rfl, rfl, trivial⟩ ?_
  refine N.then ?_
  refine E.seq ?_
  refine E.block ?_
  refine E.seq ?_
  refine E.region ?_
  refine X.lit (e := 22) (cs := iv [2, 4, 5, 6, 12, 13, 14]) rfl rfl rfl rfl rfl (fun _ => by kernel_rfl) ?_
  intro b0 H0 hn0 hb0 hk0
  replace hkk := hkk.trans hk0 (by simp)
  refine X.mv rfl rfl rfl rfl rfl ?_
  refine X.call rfl rfl rfl rfl rfl Tryd.cl34 (among_ct [2, 4, 5, 6, 12, 13, 14] b0 _ _ c H0 hb0 (by decide)) ?_
  rintro _ H0x ⟨rfl, eH0x⟩
  obtain rfl := eH0x.symm
  refine X.asg rfl rfl rfl rfl rfl ?_
  refine X.done [(0, _), (2, _), (3, _)] ⟨rfl, rfl, rfl, trivial⟩ ?_
  refine N.then ?_
  refine E.cond rfl (fun hc => ?_) (fun hc => ?_)
  · refine E.seq ?_
    refine E.region ?_
    refine X.asg rfl rfl rfl rfl rfl ?_
    refine X.done [(2, _)] ⟨rfl, trivial⟩ ?_
    refine N.then ?_
    refine E.ret ?_
    refine N.blkR ?_
    refine N.thenR ?_
    exact N.retH [_] ⟨_, _, rfl, rfl, rfl⟩ ⟨by rw [fi, if_pos (of_decide_eq_true (show decide (c ∈ [2, 4, 5, 6, 12, 13, 14]) = true by assumption))]; rfl, hkk⟩
  · refine E.seq ?_
    refine E.region ?_
    refine X.lit (e := 22) (cs := iv [7, 8, 9, 10, 11]) rfl rfl rfl rfl rfl (fun _ => by kernel_rfl) ?_
    intro b1 H1 hn1 hb1 hk1
    replace hkk := hkk.trans hk1 (by simp)
    refine X.mv rfl rfl rfl rfl rfl ?_
    refine X.call rfl rfl rfl rfl rfl Tryd.cl34 (among_ct [7, 8, 9, 10, 11] b1 _ _ c H1 hb1 (by decide)) ?_
    rintro _ H1x ⟨rfl, eH1x⟩
    obtain rfl := eH1x.symm
    refine X.asg rfl rfl rfl rfl rfl ?_
    refine X.done [(0, _), (2, _), (7, _)] ⟨rfl, rfl, rfl, trivial⟩ ?_
    refine N.then ?_
    refine E.cond rfl (fun hc => ?_) (fun hc => ?_)
    · refine E.seq ?_
      refine E.region ?_
      refine X.asg rfl rfl rfl rfl rfl ?_
      refine X.done [(2, _)] ⟨rfl, trivial⟩ ?_
      refine N.then ?_
      refine E.ret ?_
      refine N.blkR ?_
      refine N.thenR ?_
      exact N.retH [_] ⟨_, _, rfl, rfl, rfl⟩ ⟨by rw [fi, if_neg (of_decide_eq_false (show decide (c ∈ [2, 4, 5, 6, 12, 13, 14]) = false by assumption)), if_pos (of_decide_eq_true (show decide (c ∈ [7, 8, 9, 10, 11]) = true by assumption))]; rfl, hkk⟩
    · refine E.seq ?_
      refine E.region ?_
      refine X.lit (e := 22) (cs := iv [15, 16, 17, 18, 19, 20, 27]) rfl rfl rfl rfl rfl (fun _ => by kernel_rfl) ?_
      intro b2 H2 hn2 hb2 hk2
      replace hkk := hkk.trans hk2 (by simp)
      refine X.mv rfl rfl rfl rfl rfl ?_
      refine X.call rfl rfl rfl rfl rfl Tryd.cl34 (among_ct [15, 16, 17, 18, 19, 20, 27] b2 _ _ c H2 hb2 (by decide)) ?_
      rintro _ H2x ⟨rfl, eH2x⟩
      obtain rfl := eH2x.symm
      refine X.asg rfl rfl rfl rfl rfl ?_
      refine X.done [(0, _), (2, _), (11, _)] ⟨rfl, rfl, rfl, trivial⟩ ?_
      refine N.then ?_
      refine E.cond rfl (fun hc => ?_) (fun hc => ?_)
      · refine E.seq ?_
        refine E.region ?_
        refine X.asg rfl rfl rfl rfl rfl ?_
        refine X.done [(2, _)] ⟨rfl, trivial⟩ ?_
        refine N.then ?_
        refine E.ret ?_
        refine N.blkR ?_
        refine N.thenR ?_
        exact N.retH [_] ⟨_, _, rfl, rfl, rfl⟩ ⟨by rw [fi, if_neg (of_decide_eq_false (show decide (c ∈ [2, 4, 5, 6, 12, 13, 14]) = false by assumption)), if_neg (of_decide_eq_false (show decide (c ∈ [7, 8, 9, 10, 11]) = false by assumption)), if_pos (of_decide_eq_true (show decide (c ∈ [15, 16, 17, 18, 19, 20, 27]) = true by assumption))]; rfl, hkk⟩
      · refine E.seq ?_
        refine E.region ?_
        refine X.lit (e := 22) (cs := iv [3, 22]) rfl rfl rfl rfl rfl (fun _ => by kernel_rfl) ?_
        intro b3 H3 hn3 hb3 hk3
        replace hkk := hkk.trans hk3 (by simp)
        refine X.mv rfl rfl rfl rfl rfl ?_
        refine X.call rfl rfl rfl rfl rfl Tryd.cl34 (among_ct [3, 22] b3 _ _ c H3 hb3 (by decide)) ?_
        rintro _ H3x ⟨rfl, eH3x⟩
        obtain rfl := eH3x.symm
        refine X.asg rfl rfl rfl rfl rfl ?_
        refine X.done [(2, _), (15, _)] ⟨rfl, rfl, trivial⟩ ?_
        refine N.then ?_
        refine E.cond rfl (fun hc => ?_) (fun hc => ?_)
        · refine E.seq ?_
          refine E.region ?_
          refine X.asg rfl rfl rfl rfl rfl ?_
          refine X.done [(2, _)] ⟨rfl, trivial⟩ ?_
          refine N.then ?_
          refine E.ret ?_
          refine N.blkR ?_
          refine N.thenR ?_
          exact N.retH [_] ⟨_, _, rfl, rfl, rfl⟩ ⟨by rw [fi, if_neg (of_decide_eq_false (show decide (c ∈ [2, 4, 5, 6, 12, 13, 14]) = false by assumption)), if_neg (of_decide_eq_false (show decide (c ∈ [7, 8, 9, 10, 11]) = false by assumption)), if_neg (of_decide_eq_false (show decide (c ∈ [15, 16, 17, 18, 19, 20, 27]) = false by assumption)), if_pos (of_decide_eq_true (show decide (c ∈ [3, 22]) = true by assumption))]; rfl, hkk⟩
        · refine E.skip ?_
          refine N.blk ?_
          refine N.then ?_
          refine E.seq ?_
          refine E.region ?_
          refine X.asg rfl rfl rfl rfl rfl ?_
          refine X.done [(2, _)] ⟨rfl, trivial⟩ ?_
          refine N.then ?_
          refine E.ret ?_
          exact N.retH [_] ⟨_, _, rfl, rfl, rfl⟩ ⟨by rw [fi, if_neg (of_decide_eq_false (show decide (c ∈ [2, 4, 5, 6, 12, 13, 14]) = false by assumption)), if_neg (of_decide_eq_false (show decide (c ∈ [7, 8, 9, 10, 11]) = false by assumption)), if_neg (of_decide_eq_false (show decide (c ∈ [15, 16, 17, 18, 19, 20, 27]) = false by assumption)), if_neg (of_decide_eq_false (show decide (c ∈ [3, 22]) = false by assumption))]; rfl, hkk⟩

theorem family_ct (c : Int) (A : Nat → Addr) (H : Heap) (hG : Gl H A) : Ct Tryd.prog 37 #[i64 c] H fun v H' => v = famV (A (fi c)) ∧ H' = H := by
  obtain ⟨ct1, fz1, g1⟩ := hG.fam 1 (by decide) (by decide)
  obtain ⟨ct2, fz2, g2⟩ := hG.fam 2 (by decide) (by decide)
  obtain ⟨ct3, fz3, g3⟩ := hG.fam 3 (by decide) (by decide)
  obtain ⟨ct4, fz4, g4⟩ := hG.fam 4 (by decide) (by decide)
  obtain ⟨ct5, fz5, g5⟩ := hG.fam 5 (by decide) (by decide)
  refine Ct.into 37 Tryd.func37 rfl [(0, i64 c)] rfl ⟨rfl, trivial⟩ ?_
  refine E.seq ?_
  refine E.region ?_
  refine X.asg rfl rfl rfl rfl rfl ?_
  refine X.done [(0, _), (2, _)] ⟨rfl, rfl, trivial⟩ ?_
  refine N.then ?_
  refine E.seq ?_
  refine E.seq ?_
  refine E.region ?_
  refine X.mv rfl rfl rfl rfl rfl ?_
  refine X.done [(2, _), (3, _)] ⟨rfl, rfl, trivial⟩ ?_
  refine N.then ?_
  refine E.block ?_
  refine E.seq ?_
  refine E.block ?_
  refine E.seq ?_
  refine E.block ?_
  refine E.block ?_
  refine E.seq ?_
  refine E.block ?_
  refine E.block ?_
  refine E.seq ?_
  refine E.block ?_
  refine E.block ?_
  refine E.seq ?_
  refine E.seq ?_
  refine E.seq ?_
  refine E.seq ?_
  refine E.region ?_
  refine X.eqlC rfl rfl rfl rfl rfl rfl (fun hc => ?_) (fun hc => ?_)
  · refine X.asg rfl rfl rfl rfl rfl ?_
    refine X.done [(2, _), (3, _), (4, _)] ⟨rfl, rfl, rfl, trivial⟩ ?_
    refine N.then ?_
    refine E.condT rfl ?_
    refine E.skip ?_
    refine N.then ?_
    refine E.condT rfl ?_
    refine E.exit ?_
    refine N.thenX ?_
    refine N.thenX ?_
    refine N.blkX ?_
    refine N.blk ?_
    refine N.then ?_
    refine E.seq ?_
    refine E.seq ?_
    refine E.region ?_
    refine X.ld rfl rfl rfl rfl Tryd.ag24 (g1) (rfl) ?_
    refine X.asg rfl rfl rfl rfl rfl ?_
    refine X.done [(2, _)] ⟨rfl, trivial⟩ ?_
    refine N.then ?_
    refine E.ret ?_
    refine N.thenR ?_
    refine N.blkR ?_
    refine N.blkR ?_
    refine N.thenR ?_
    refine N.blkR ?_
    refine N.blkR ?_
    refine N.thenR ?_
    refine N.blkR ?_
    refine N.thenR ?_
    refine N.blkR ?_
    refine N.thenR ?_
    exact N.retH [_] ⟨_, _, rfl, rfl, rfl⟩ ⟨by rw [fi_1 (by omega)]; rfl, rfl⟩
  · refine X.asg rfl rfl rfl rfl rfl ?_
    refine X.done [(2, _), (3, _), (4, _)] ⟨rfl, rfl, rfl, trivial⟩ ?_
    refine N.then ?_
    refine E.condF rfl ?_
    refine E.seq ?_
    refine E.region ?_
    refine X.eqlC rfl rfl rfl rfl rfl rfl (fun hc => ?_) (fun hc => ?_)
    · refine X.asg rfl rfl rfl rfl rfl ?_
      refine X.done [(2, _), (3, _), (4, _)] ⟨rfl, rfl, rfl, trivial⟩ ?_
      refine N.then ?_
      refine E.condT rfl ?_
      refine E.skip ?_
      refine N.then ?_
      refine E.condT rfl ?_
      refine E.exit ?_
      refine N.thenX ?_
      refine N.thenX ?_
      refine N.blkX ?_
      refine N.blk ?_
      refine N.then ?_
      refine E.seq ?_
      refine E.seq ?_
      refine E.region ?_
      refine X.ld rfl rfl rfl rfl Tryd.ag24 (g1) (rfl) ?_
      refine X.asg rfl rfl rfl rfl rfl ?_
      refine X.done [(2, _)] ⟨rfl, trivial⟩ ?_
      refine N.then ?_
      refine E.ret ?_
      refine N.thenR ?_
      refine N.blkR ?_
      refine N.blkR ?_
      refine N.thenR ?_
      refine N.blkR ?_
      refine N.blkR ?_
      refine N.thenR ?_
      refine N.blkR ?_
      refine N.thenR ?_
      refine N.blkR ?_
      refine N.thenR ?_
      exact N.retH [_] ⟨_, _, rfl, rfl, rfl⟩ ⟨by rw [fi_1 (by omega)]; rfl, rfl⟩
    · refine X.asg rfl rfl rfl rfl rfl ?_
      refine X.done [(2, _), (3, _), (4, _)] ⟨rfl, rfl, rfl, trivial⟩ ?_
      refine N.then ?_
      refine E.condF rfl ?_
      refine E.seq ?_
      refine E.region ?_
      refine X.eqlC rfl rfl rfl rfl rfl rfl (fun hc => ?_) (fun hc => ?_)
      · refine X.asg rfl rfl rfl rfl rfl ?_
        refine X.done [(2, _), (3, _), (4, _)] ⟨rfl, rfl, rfl, trivial⟩ ?_
        refine N.then ?_
        refine E.condT rfl ?_
        refine E.skip ?_
        refine N.then ?_
        refine E.condT rfl ?_
        refine E.exit ?_
        refine N.thenX ?_
        refine N.thenX ?_
        refine N.blkX ?_
        refine N.blk ?_
        refine N.then ?_
        refine E.seq ?_
        refine E.seq ?_
        refine E.region ?_
        refine X.ld rfl rfl rfl rfl Tryd.ag24 (g1) (rfl) ?_
        refine X.asg rfl rfl rfl rfl rfl ?_
        refine X.done [(2, _)] ⟨rfl, trivial⟩ ?_
        refine N.then ?_
        refine E.ret ?_
        refine N.thenR ?_
        refine N.blkR ?_
        refine N.blkR ?_
        refine N.thenR ?_
        refine N.blkR ?_
        refine N.blkR ?_
        refine N.thenR ?_
        refine N.blkR ?_
        refine N.thenR ?_
        refine N.blkR ?_
        refine N.thenR ?_
        exact N.retH [_] ⟨_, _, rfl, rfl, rfl⟩ ⟨by rw [fi_1 (by omega)]; rfl, rfl⟩
      · refine X.asg rfl rfl rfl rfl rfl ?_
        refine X.done [(2, _), (3, _), (4, _)] ⟨rfl, rfl, rfl, trivial⟩ ?_
        refine N.then ?_
        refine E.condF rfl ?_
        refine E.region ?_
        refine X.eqlC rfl rfl rfl rfl rfl rfl (fun hc => ?_) (fun hc => ?_)
        · refine X.asg rfl rfl rfl rfl rfl ?_
          refine X.done [(2, _), (3, _), (4, _)] ⟨rfl, rfl, rfl, trivial⟩ ?_
          refine N.then ?_
          refine E.condT rfl ?_
          refine E.exit ?_
          refine N.thenX ?_
          refine N.thenX ?_
          refine N.blkX ?_
          refine N.blk ?_
          refine N.then ?_
          refine E.seq ?_
          refine E.seq ?_
          refine E.region ?_
          refine X.ld rfl rfl rfl rfl Tryd.ag24 (g1) (rfl) ?_
          refine X.asg rfl rfl rfl rfl rfl ?_
          refine X.done [(2, _)] ⟨rfl, trivial⟩ ?_
          refine N.then ?_
          refine E.ret ?_
          refine N.thenR ?_
          refine N.blkR ?_
          refine N.blkR ?_
          refine N.thenR ?_
          refine N.blkR ?_
          refine N.blkR ?_
          refine N.thenR ?_
          refine N.blkR ?_
          refine N.thenR ?_
          refine N.blkR ?_
          refine N.thenR ?_
          exact N.retH [_] ⟨_, _, rfl, rfl, rfl⟩ ⟨by rw [fi_1 (by omega)]; rfl, rfl⟩
        · refine X.asg rfl rfl rfl rfl rfl ?_
          refine X.done [(2, _), (3, _), (4, _)] ⟨rfl, rfl, rfl, trivial⟩ ?_
          refine N.then ?_
          refine E.condF rfl ?_
          refine E.skip ?_
          refine N.then ?_
          refine E.seq ?_
          refine E.seq ?_
          refine E.seq ?_
          refine E.region ?_
          refine X.eqlC rfl rfl rfl rfl rfl rfl (fun hc => ?_) (fun hc => ?_)
          · refine X.asg rfl rfl rfl rfl rfl ?_
            refine X.done [(2, _), (3, _), (9, _)] ⟨rfl, rfl, rfl, trivial⟩ ?_
            refine N.then ?_
            refine E.condT rfl ?_
            refine E.skip ?_
            refine N.then ?_
            refine E.condT rfl ?_
            refine E.exit ?_
            refine N.thenX ?_
            refine N.thenX ?_
            refine N.blkO rfl ?_
            refine N.blkX ?_
            refine N.then ?_
            refine E.seq ?_
            refine E.seq ?_
            refine E.region ?_
            refine X.ld rfl rfl rfl rfl Tryd.ag24 (g1) (rfl) ?_
            refine X.asg rfl rfl rfl rfl rfl ?_
            refine X.done [(2, _)] ⟨rfl, trivial⟩ ?_
            refine N.then ?_
            refine E.ret ?_
            refine N.thenR ?_
            refine N.blkR ?_
            refine N.blkR ?_
            refine N.thenR ?_
            refine N.blkR ?_
            refine N.blkR ?_
            refine N.thenR ?_
            refine N.blkR ?_
            refine N.thenR ?_
            refine N.blkR ?_
            refine N.thenR ?_
            exact N.retH [_] ⟨_, _, rfl, rfl, rfl⟩ ⟨by rw [fi_1 (by omega)]; rfl, rfl⟩
          · refine X.asg rfl rfl rfl rfl rfl ?_
            refine X.done [(2, _), (3, _), (9, _)] ⟨rfl, rfl, rfl, trivial⟩ ?_
            refine N.then ?_
            refine E.condF rfl ?_
            refine E.seq ?_
            refine E.region ?_
            refine X.eqlC rfl rfl rfl rfl rfl rfl (fun hc => ?_) (fun hc => ?_)
            · refine X.asg rfl rfl rfl rfl rfl ?_
              refine X.done [(2, _), (3, _), (9, _)] ⟨rfl, rfl, rfl, trivial⟩ ?_
              refine N.then ?_
              refine E.condT rfl ?_
              refine E.skip ?_
              refine N.then ?_
              refine E.condT rfl ?_
              refine E.exit ?_
              refine N.thenX ?_
              refine N.thenX ?_
              refine N.blkO rfl ?_
              refine N.blkX ?_
              refine N.then ?_
              refine E.seq ?_
              refine E.seq ?_
              refine E.region ?_
              refine X.ld rfl rfl rfl rfl Tryd.ag24 (g1) (rfl) ?_
              refine X.asg rfl rfl rfl rfl rfl ?_
              refine X.done [(2, _)] ⟨rfl, trivial⟩ ?_
              refine N.then ?_
              refine E.ret ?_
              refine N.thenR ?_
              refine N.blkR ?_
              refine N.blkR ?_
              refine N.thenR ?_
              refine N.blkR ?_
              refine N.blkR ?_
              refine N.thenR ?_
              refine N.blkR ?_
              refine N.thenR ?_
              refine N.blkR ?_
              refine N.thenR ?_
              exact N.retH [_] ⟨_, _, rfl, rfl, rfl⟩ ⟨by rw [fi_1 (by omega)]; rfl, rfl⟩
            · refine X.asg rfl rfl rfl rfl rfl ?_
              refine X.done [(2, _), (3, _), (9, _)] ⟨rfl, rfl, rfl, trivial⟩ ?_
              refine N.then ?_
              refine E.condF rfl ?_
              refine E.region ?_
              refine X.eqlC rfl rfl rfl rfl rfl rfl (fun hc => ?_) (fun hc => ?_)
              · refine X.asg rfl rfl rfl rfl rfl ?_
                refine X.done [(2, _), (3, _), (9, _)] ⟨rfl, rfl, rfl, trivial⟩ ?_
                refine N.then ?_
                refine E.condT rfl ?_
                refine E.exit ?_
                refine N.thenX ?_
                refine N.thenX ?_
                refine N.blkO rfl ?_
                refine N.blkX ?_
                refine N.then ?_
                refine E.seq ?_
                refine E.seq ?_
                refine E.region ?_
                refine X.ld rfl rfl rfl rfl Tryd.ag24 (g1) (rfl) ?_
                refine X.asg rfl rfl rfl rfl rfl ?_
                refine X.done [(2, _)] ⟨rfl, trivial⟩ ?_
                refine N.then ?_
                refine E.ret ?_
                refine N.thenR ?_
                refine N.blkR ?_
                refine N.blkR ?_
                refine N.thenR ?_
                refine N.blkR ?_
                refine N.blkR ?_
                refine N.thenR ?_
                refine N.blkR ?_
                refine N.thenR ?_
                refine N.blkR ?_
                refine N.thenR ?_
                exact N.retH [_] ⟨_, _, rfl, rfl, rfl⟩ ⟨by rw [fi_1 (by omega)]; rfl, rfl⟩
              · refine X.asg rfl rfl rfl rfl rfl ?_
                refine X.done [(2, _), (3, _), (9, _)] ⟨rfl, rfl, rfl, trivial⟩ ?_
                refine N.then ?_
                refine E.condF rfl ?_
                refine E.skip ?_
                refine N.then ?_
                refine E.seq ?_
                refine E.seq ?_
                refine E.seq ?_
                refine E.region ?_
                refine X.eqlC rfl rfl rfl rfl rfl rfl (fun hc => ?_) (fun hc => ?_)
                · refine X.asg rfl rfl rfl rfl rfl ?_
                  refine X.done [(2, _), (3, _), (13, _)] ⟨rfl, rfl, rfl, trivial⟩ ?_
                  refine N.then ?_
                  refine E.condT rfl ?_
                  refine E.skip ?_
                  refine N.then ?_
                  refine E.condT rfl ?_
                  refine E.exit ?_
                  refine N.thenX ?_
                  refine N.thenX ?_
                  refine N.blkO rfl ?_
                  refine N.blkO rfl ?_
                  refine N.thenX ?_
                  refine N.blkX ?_
                  refine N.blk ?_
                  refine N.then ?_
                  refine E.seq ?_
                  refine E.seq ?_
                  refine E.region ?_
                  refine X.ld rfl rfl rfl rfl Tryd.ag24 (g2) (rfl) ?_
                  refine X.asg rfl rfl rfl rfl rfl ?_
                  refine X.done [(2, _)] ⟨rfl, trivial⟩ ?_
                  refine N.then ?_
                  refine E.ret ?_
                  refine N.thenR ?_
                  refine N.blkR ?_
                  refine N.blkR ?_
                  refine N.thenR ?_
                  refine N.blkR ?_
                  refine N.thenR ?_
                  refine N.blkR ?_
                  refine N.thenR ?_
                  exact N.retH [_] ⟨_, _, rfl, rfl, rfl⟩ ⟨by rw [fi_2 (by omega)]; rfl, rfl⟩
                · refine X.asg rfl rfl rfl rfl rfl ?_
                  refine X.done [(2, _), (3, _), (13, _)] ⟨rfl, rfl, rfl, trivial⟩ ?_
                  refine N.then ?_
                  refine E.condF rfl ?_
                  refine E.region ?_
                  refine X.eqlC rfl rfl rfl rfl rfl rfl (fun hc => ?_) (fun hc => ?_)
                  · refine X.asg rfl rfl rfl rfl rfl ?_
                    refine X.done [(2, _), (3, _), (13, _)] ⟨rfl, rfl, rfl, trivial⟩ ?_
                    refine N.then ?_
                    refine E.condT rfl ?_
                    refine E.exit ?_
                    refine N.thenX ?_
                    refine N.thenX ?_
                    refine N.blkO rfl ?_
                    refine N.blkO rfl ?_
                    refine N.thenX ?_
                    refine N.blkX ?_
                    refine N.blk ?_
                    refine N.then ?_
                    refine E.seq ?_
                    refine E.seq ?_
                    refine E.region ?_
                    refine X.ld rfl rfl rfl rfl Tryd.ag24 (g2) (rfl) ?_
                    refine X.asg rfl rfl rfl rfl rfl ?_
                    refine X.done [(2, _)] ⟨rfl, trivial⟩ ?_
                    refine N.then ?_
                    refine E.ret ?_
                    refine N.thenR ?_
                    refine N.blkR ?_
                    refine N.blkR ?_
                    refine N.thenR ?_
                    refine N.blkR ?_
                    refine N.thenR ?_
                    refine N.blkR ?_
                    refine N.thenR ?_
                    exact N.retH [_] ⟨_, _, rfl, rfl, rfl⟩ ⟨by rw [fi_2 (by omega)]; rfl, rfl⟩
                  · refine X.asg rfl rfl rfl rfl rfl ?_
                    refine X.done [(2, _), (3, _), (13, _)] ⟨rfl, rfl, rfl, trivial⟩ ?_
                    refine N.then ?_
                    refine E.condF rfl ?_
                    refine E.skip ?_
                    refine N.then ?_
                    refine E.seq ?_
                    refine E.seq ?_
                    refine E.seq ?_
                    refine E.region ?_
                    refine X.eqlC rfl rfl rfl rfl rfl rfl (fun hc => ?_) (fun hc => ?_)
                    · refine X.asg rfl rfl rfl rfl rfl ?_
                      refine X.done [(2, _), (3, _), (16, _)] ⟨rfl, rfl, rfl, trivial⟩ ?_
                      refine N.then ?_
                      refine E.condT rfl ?_
                      refine E.skip ?_
                      refine N.then ?_
                      refine E.condT rfl ?_
                      refine E.exit ?_
                      refine N.thenX ?_
                      refine N.thenX ?_
                      refine N.blkO rfl ?_
                      refine N.blkO rfl ?_
                      refine N.thenX ?_
                      refine N.blkO rfl ?_
                      refine N.blkX ?_
                      refine N.then ?_
                      refine E.seq ?_
                      refine E.seq ?_
                      refine E.region ?_
                      refine X.ld rfl rfl rfl rfl Tryd.ag24 (g2) (rfl) ?_
                      refine X.asg rfl rfl rfl rfl rfl ?_
                      refine X.done [(2, _)] ⟨rfl, trivial⟩ ?_
                      refine N.then ?_
                      refine E.ret ?_
                      refine N.thenR ?_
                      refine N.blkR ?_
                      refine N.blkR ?_
                      refine N.thenR ?_
                      refine N.blkR ?_
                      refine N.thenR ?_
                      refine N.blkR ?_
                      refine N.thenR ?_
                      exact N.retH [_] ⟨_, _, rfl, rfl, rfl⟩ ⟨by rw [fi_2 (by omega)]; rfl, rfl⟩
                    · refine X.asg rfl rfl rfl rfl rfl ?_
                      refine X.done [(2, _), (3, _), (16, _)] ⟨rfl, rfl, rfl, trivial⟩ ?_
                      refine N.then ?_
                      refine E.condF rfl ?_
                      refine E.seq ?_
                      refine E.region ?_
                      refine X.eqlC rfl rfl rfl rfl rfl rfl (fun hc => ?_) (fun hc => ?_)
                      · refine X.asg rfl rfl rfl rfl rfl ?_
                        refine X.done [(2, _), (3, _), (16, _)] ⟨rfl, rfl, rfl, trivial⟩ ?_
                        refine N.then ?_
                        refine E.condT rfl ?_
                        refine E.skip ?_
                        refine N.then ?_
                        refine E.condT rfl ?_
                        refine E.exit ?_
                        refine N.thenX ?_
                        refine N.thenX ?_
                        refine N.blkO rfl ?_
                        refine N.blkO rfl ?_
                        refine N.thenX ?_
                        refine N.blkO rfl ?_
                        refine N.blkX ?_
                        refine N.then ?_
                        refine E.seq ?_
                        refine E.seq ?_
                        refine E.region ?_
                        refine X.ld rfl rfl rfl rfl Tryd.ag24 (g2) (rfl) ?_
                        refine X.asg rfl rfl rfl rfl rfl ?_
                        refine X.done [(2, _)] ⟨rfl, trivial⟩ ?_
                        refine N.then ?_
                        refine E.ret ?_
                        refine N.thenR ?_
                        refine N.blkR ?_
                        refine N.blkR ?_
                        refine N.thenR ?_
                        refine N.blkR ?_
                        refine N.thenR ?_
                        refine N.blkR ?_
                        refine N.thenR ?_
                        exact N.retH [_] ⟨_, _, rfl, rfl, rfl⟩ ⟨by rw [fi_2 (by omega)]; rfl, rfl⟩
                      · refine X.asg rfl rfl rfl rfl rfl ?_
                        refine X.done [(2, _), (3, _), (16, _)] ⟨rfl, rfl, rfl, trivial⟩ ?_
                        refine N.then ?_
                        refine E.condF rfl ?_
                        refine E.region ?_
                        refine X.eqlC rfl rfl rfl rfl rfl rfl (fun hc => ?_) (fun hc => ?_)
                        · refine X.asg rfl rfl rfl rfl rfl ?_
                          refine X.done [(2, _), (3, _), (16, _)] ⟨rfl, rfl, rfl, trivial⟩ ?_
                          refine N.then ?_
                          refine E.condT rfl ?_
                          refine E.exit ?_
                          refine N.thenX ?_
                          refine N.thenX ?_
                          refine N.blkO rfl ?_
                          refine N.blkO rfl ?_
                          refine N.thenX ?_
                          refine N.blkO rfl ?_
                          refine N.blkX ?_
                          refine N.then ?_
                          refine E.seq ?_
                          refine E.seq ?_
                          refine E.region ?_
                          refine X.ld rfl rfl rfl rfl Tryd.ag24 (g2) (rfl) ?_
                          refine X.asg rfl rfl rfl rfl rfl ?_
                          refine X.done [(2, _)] ⟨rfl, trivial⟩ ?_
                          refine N.then ?_
                          refine E.ret ?_
                          refine N.thenR ?_
                          refine N.blkR ?_
                          refine N.blkR ?_
                          refine N.thenR ?_
                          refine N.blkR ?_
                          refine N.thenR ?_
                          refine N.blkR ?_
                          refine N.thenR ?_
                          exact N.retH [_] ⟨_, _, rfl, rfl, rfl⟩ ⟨by rw [fi_2 (by omega)]; rfl, rfl⟩
                        · refine X.asg rfl rfl rfl rfl rfl ?_
                          refine X.done [(2, _), (3, _), (16, _)] ⟨rfl, rfl, rfl, trivial⟩ ?_
                          refine N.then ?_
                          refine E.condF rfl ?_
                          refine E.skip ?_
                          refine N.then ?_
                          refine E.seq ?_
                          refine E.seq ?_
                          refine E.seq ?_
                          refine E.region ?_
                          refine X.eqlC rfl rfl rfl rfl rfl rfl (fun hc => ?_) (fun hc => ?_)
                          · refine X.asg rfl rfl rfl rfl rfl ?_
                            refine X.done [(2, _), (3, _), (20, _)] ⟨rfl, rfl, rfl, trivial⟩ ?_
                            refine N.then ?_
                            refine E.condT rfl ?_
                            refine E.skip ?_
                            refine N.then ?_
                            refine E.condT rfl ?_
                            refine E.exit ?_
                            refine N.thenX ?_
                            refine N.thenX ?_
                            refine N.blkO rfl ?_
                            refine N.blkO rfl ?_
                            refine N.thenX ?_
                            refine N.blkO rfl ?_
                            refine N.blkO rfl ?_
                            refine N.thenX ?_
                            refine N.blkX ?_
                            refine N.blk ?_
                            refine N.then ?_
                            refine E.seq ?_
                            refine E.seq ?_
                            refine E.region ?_
                            refine X.ld rfl rfl rfl rfl Tryd.ag24 (g3) (rfl) ?_
                            refine X.asg rfl rfl rfl rfl rfl ?_
                            refine X.done [(2, _)] ⟨rfl, trivial⟩ ?_
                            refine N.then ?_
                            refine E.ret ?_
                            refine N.thenR ?_
                            refine N.blkR ?_
                            refine N.thenR ?_
                            refine N.blkR ?_
                            refine N.thenR ?_
                            exact N.retH [_] ⟨_, _, rfl, rfl, rfl⟩ ⟨by rw [fi_3 (by omega)]; rfl, rfl⟩
                          · refine X.asg rfl rfl rfl rfl rfl ?_
                            refine X.done [(2, _), (3, _), (20, _)] ⟨rfl, rfl, rfl, trivial⟩ ?_
                            refine N.then ?_
                            refine E.condF rfl ?_
                            refine E.seq ?_
                            refine E.region ?_
                            refine X.eqlC rfl rfl rfl rfl rfl rfl (fun hc => ?_) (fun hc => ?_)
                            · refine X.asg rfl rfl rfl rfl rfl ?_
                              refine X.done [(2, _), (3, _), (20, _)] ⟨rfl, rfl, rfl, trivial⟩ ?_
                              refine N.then ?_
                              refine E.condT rfl ?_
                              refine E.skip ?_
                              refine N.then ?_
                              refine E.condT rfl ?_
                              refine E.exit ?_
                              refine N.thenX ?_
                              refine N.thenX ?_
                              refine N.blkO rfl ?_
                              refine N.blkO rfl ?_
                              refine N.thenX ?_
                              refine N.blkO rfl ?_
                              refine N.blkO rfl ?_
                              refine N.thenX ?_
                              refine N.blkX ?_
                              refine N.blk ?_
                              refine N.then ?_
                              refine E.seq ?_
                              refine E.seq ?_
                              refine E.region ?_
                              refine X.ld rfl rfl rfl rfl Tryd.ag24 (g3) (rfl) ?_
                              refine X.asg rfl rfl rfl rfl rfl ?_
                              refine X.done [(2, _)] ⟨rfl, trivial⟩ ?_
                              refine N.then ?_
                              refine E.ret ?_
                              refine N.thenR ?_
                              refine N.blkR ?_
                              refine N.thenR ?_
                              refine N.blkR ?_
                              refine N.thenR ?_
                              exact N.retH [_] ⟨_, _, rfl, rfl, rfl⟩ ⟨by rw [fi_3 (by omega)]; rfl, rfl⟩
                            · refine X.asg rfl rfl rfl rfl rfl ?_
                              refine X.done [(2, _), (3, _), (20, _)] ⟨rfl, rfl, rfl, trivial⟩ ?_
                              refine N.then ?_
                              refine E.condF rfl ?_
                              refine E.region ?_
                              refine X.eqlC rfl rfl rfl rfl rfl rfl (fun hc => ?_) (fun hc => ?_)
                              · refine X.asg rfl rfl rfl rfl rfl ?_
                                refine X.done [(2, _), (3, _), (20, _)] ⟨rfl, rfl, rfl, trivial⟩ ?_
                                refine N.then ?_
                                refine E.condT rfl ?_
                                refine E.exit ?_
                                refine N.thenX ?_
                                refine N.thenX ?_
                                refine N.blkO rfl ?_
                                refine N.blkO rfl ?_
                                refine N.thenX ?_
                                refine N.blkO rfl ?_
                                refine N.blkO rfl ?_
                                refine N.thenX ?_
                                refine N.blkX ?_
                                refine N.blk ?_
                                refine N.then ?_
                                refine E.seq ?_
                                refine E.seq ?_
                                refine E.region ?_
                                refine X.ld rfl rfl rfl rfl Tryd.ag24 (g3) (rfl) ?_
                                refine X.asg rfl rfl rfl rfl rfl ?_
                                refine X.done [(2, _)] ⟨rfl, trivial⟩ ?_
                                refine N.then ?_
                                refine E.ret ?_
                                refine N.thenR ?_
                                refine N.blkR ?_
                                refine N.thenR ?_
                                refine N.blkR ?_
                                refine N.thenR ?_
                                exact N.retH [_] ⟨_, _, rfl, rfl, rfl⟩ ⟨by rw [fi_3 (by omega)]; rfl, rfl⟩
                              · refine X.asg rfl rfl rfl rfl rfl ?_
                                refine X.done [(2, _), (3, _), (20, _)] ⟨rfl, rfl, rfl, trivial⟩ ?_
                                refine N.then ?_
                                refine E.condF rfl ?_
                                refine E.skip ?_
                                refine N.then ?_
                                refine E.seq ?_
                                refine E.seq ?_
                                refine E.seq ?_
                                refine E.region ?_
                                refine X.eqlC rfl rfl rfl rfl rfl rfl (fun hc => ?_) (fun hc => ?_)
                                · refine X.asg rfl rfl rfl rfl rfl ?_
                                  refine X.done [(2, _), (3, _), (24, _)] ⟨rfl, rfl, rfl, trivial⟩ ?_
                                  refine N.then ?_
                                  refine E.condT rfl ?_
                                  refine E.skip ?_
                                  refine N.then ?_
                                  refine E.condT rfl ?_
                                  refine E.exit ?_
                                  refine N.thenX ?_
                                  refine N.thenX ?_
                                  refine N.blkO rfl ?_
                                  refine N.blkO rfl ?_
                                  refine N.thenX ?_
                                  refine N.blkO rfl ?_
                                  refine N.blkO rfl ?_
                                  refine N.thenX ?_
                                  refine N.blkO rfl ?_
                                  refine N.blkX ?_
                                  refine N.then ?_
                                  refine E.seq ?_
                                  refine E.seq ?_
                                  refine E.region ?_
                                  refine X.ld rfl rfl rfl rfl Tryd.ag24 (g3) (rfl) ?_
                                  refine X.asg rfl rfl rfl rfl rfl ?_
                                  refine X.done [(2, _)] ⟨rfl, trivial⟩ ?_
                                  refine N.then ?_
                                  refine E.ret ?_
                                  refine N.thenR ?_
                                  refine N.blkR ?_
                                  refine N.thenR ?_
                                  refine N.blkR ?_
                                  refine N.thenR ?_
                                  exact N.retH [_] ⟨_, _, rfl, rfl, rfl⟩ ⟨by rw [fi_3 (by omega)]; rfl, rfl⟩
                                · refine X.asg rfl rfl rfl rfl rfl ?_
                                  refine X.done [(2, _), (3, _), (24, _)] ⟨rfl, rfl, rfl, trivial⟩ ?_
                                  refine N.then ?_
                                  refine E.condF rfl ?_
                                  refine E.seq ?_
                                  refine E.region ?_
                                  refine X.eqlC rfl rfl rfl rfl rfl rfl (fun hc => ?_) (fun hc => ?_)
                                  · refine X.asg rfl rfl rfl rfl rfl ?_
                                    refine X.done [(2, _), (3, _), (24, _)] ⟨rfl, rfl, rfl, trivial⟩ ?_
                                    refine N.then ?_
                                    refine E.condT rfl ?_
                                    refine E.skip ?_
                                    refine N.then ?_
                                    refine E.condT rfl ?_
                                    refine E.exit ?_
                                    refine N.thenX ?_
                                    refine N.thenX ?_
                                    refine N.blkO rfl ?_
                                    refine N.blkO rfl ?_
                                    refine N.thenX ?_
                                    refine N.blkO rfl ?_
                                    refine N.blkO rfl ?_
                                    refine N.thenX ?_
                                    refine N.blkO rfl ?_
                                    refine N.blkX ?_
                                    refine N.then ?_
                                    refine E.seq ?_
                                    refine E.seq ?_
                                    refine E.region ?_
                                    refine X.ld rfl rfl rfl rfl Tryd.ag24 (g3) (rfl) ?_
                                    refine X.asg rfl rfl rfl rfl rfl ?_
                                    refine X.done [(2, _)] ⟨rfl, trivial⟩ ?_
                                    refine N.then ?_
                                    refine E.ret ?_
                                    refine N.thenR ?_
                                    refine N.blkR ?_
                                    refine N.thenR ?_
                                    refine N.blkR ?_
                                    refine N.thenR ?_
                                    exact N.retH [_] ⟨_, _, rfl, rfl, rfl⟩ ⟨by rw [fi_3 (by omega)]; rfl, rfl⟩
                                  · refine X.asg rfl rfl rfl rfl rfl ?_
                                    refine X.done [(2, _), (3, _), (24, _)] ⟨rfl, rfl, rfl, trivial⟩ ?_
                                    refine N.then ?_
                                    refine E.condF rfl ?_
                                    refine E.seq ?_
                                    refine E.region ?_
                                    refine X.eqlC rfl rfl rfl rfl rfl rfl (fun hc => ?_) (fun hc => ?_)
                                    · refine X.asg rfl rfl rfl rfl rfl ?_
                                      refine X.done [(2, _), (3, _), (24, _)] ⟨rfl, rfl, rfl, trivial⟩ ?_
                                      refine N.then ?_
                                      refine E.condT rfl ?_
                                      refine E.skip ?_
                                      refine N.then ?_
                                      refine E.condT rfl ?_
                                      refine E.exit ?_
                                      refine N.thenX ?_
                                      refine N.thenX ?_
                                      refine N.blkO rfl ?_
                                      refine N.blkO rfl ?_
                                      refine N.thenX ?_
                                      refine N.blkO rfl ?_
                                      refine N.blkO rfl ?_
                                      refine N.thenX ?_
                                      refine N.blkO rfl ?_
                                      refine N.blkX ?_
                                      refine N.then ?_
                                      refine E.seq ?_
                                      refine E.seq ?_
                                      refine E.region ?_
                                      refine X.ld rfl rfl rfl rfl Tryd.ag24 (g3) (rfl) ?_
                                      refine X.asg rfl rfl rfl rfl rfl ?_
                                      refine X.done [(2, _)] ⟨rfl, trivial⟩ ?_
                                      refine N.then ?_
                                      refine E.ret ?_
                                      refine N.thenR ?_
                                      refine N.blkR ?_
                                      refine N.thenR ?_
                                      refine N.blkR ?_
                                      refine N.thenR ?_
                                      exact N.retH [_] ⟨_, _, rfl, rfl, rfl⟩ ⟨by rw [fi_3 (by omega)]; rfl, rfl⟩
                                    · refine X.asg rfl rfl rfl rfl rfl ?_
                                      refine X.done [(2, _), (3, _), (24, _)] ⟨rfl, rfl, rfl, trivial⟩ ?_
                                      refine N.then ?_
                                      refine E.condF rfl ?_
                                      refine E.region ?_
                                      refine X.eqlC rfl rfl rfl rfl rfl rfl (fun hc => ?_) (fun hc => ?_)
                                      · refine X.asg rfl rfl rfl rfl rfl ?_
                                        refine X.done [(2, _), (3, _), (24, _)] ⟨rfl, rfl, rfl, trivial⟩ ?_
                                        refine N.then ?_
                                        refine E.condT rfl ?_
                                        refine E.exit ?_
                                        refine N.thenX ?_
                                        refine N.thenX ?_
                                        refine N.blkO rfl ?_
                                        refine N.blkO rfl ?_
                                        refine N.thenX ?_
                                        refine N.blkO rfl ?_
                                        refine N.blkO rfl ?_
                                        refine N.thenX ?_
                                        refine N.blkO rfl ?_
                                        refine N.blkX ?_
                                        refine N.then ?_
                                        refine E.seq ?_
                                        refine E.seq ?_
                                        refine E.region ?_
                                        refine X.ld rfl rfl rfl rfl Tryd.ag24 (g3) (rfl) ?_
                                        refine X.asg rfl rfl rfl rfl rfl ?_
                                        refine X.done [(2, _)] ⟨rfl, trivial⟩ ?_
                                        refine N.then ?_
                                        refine E.ret ?_
                                        refine N.thenR ?_
                                        refine N.blkR ?_
                                        refine N.thenR ?_
                                        refine N.blkR ?_
                                        refine N.thenR ?_
                                        exact N.retH [_] ⟨_, _, rfl, rfl, rfl⟩ ⟨by rw [fi_3 (by omega)]; rfl, rfl⟩
                                      · refine X.asg rfl rfl rfl rfl rfl ?_
                                        refine X.done [(2, _), (3, _), (24, _)] ⟨rfl, rfl, rfl, trivial⟩ ?_
                                        refine N.then ?_
                                        refine E.condF rfl ?_
                                        refine E.skip ?_
                                        refine N.then ?_
                                        refine E.seq ?_
                                        refine E.seq ?_
                                        refine E.region ?_
                                        refine X.eqlC rfl rfl rfl rfl rfl rfl (fun hc => ?_) (fun hc => ?_)
                                        · refine X.asg rfl rfl rfl rfl rfl ?_
                                          refine X.done [(2, _), (3, _), (29, _)] ⟨rfl, rfl, rfl, trivial⟩ ?_
                                          refine N.then ?_
                                          refine E.condT rfl ?_
                                          refine E.skip ?_
                                          refine N.then ?_
                                          refine E.condT rfl ?_
                                          refine E.exit ?_
                                          refine N.thenX ?_
                                          refine N.blkO rfl ?_
                                          refine N.blkO rfl ?_
                                          refine N.thenX ?_
                                          refine N.blkO rfl ?_
                                          refine N.blkO rfl ?_
                                          refine N.thenX ?_
                                          refine N.blkO rfl ?_
                                          refine N.blkO rfl ?_
                                          refine N.thenX ?_
                                          refine N.blkX ?_
                                          refine N.then ?_
                                          refine E.seq ?_
                                          refine E.seq ?_
                                          refine E.region ?_
                                          refine X.ld rfl rfl rfl rfl Tryd.ag24 (g4) (rfl) ?_
                                          refine X.asg rfl rfl rfl rfl rfl ?_
                                          refine X.done [(2, _)] ⟨rfl, trivial⟩ ?_
                                          refine N.then ?_
                                          refine E.ret ?_
                                          refine N.thenR ?_
                                          refine N.blkR ?_
                                          refine N.thenR ?_
                                          exact N.retH [_] ⟨_, _, rfl, rfl, rfl⟩ ⟨by rw [fi_4 (by omega)]; rfl, rfl⟩
                                        · refine X.asg rfl rfl rfl rfl rfl ?_
                                          refine X.done [(2, _), (3, _), (29, _)] ⟨rfl, rfl, rfl, trivial⟩ ?_
                                          refine N.then ?_
                                          refine E.condF rfl ?_
                                          refine E.region ?_
                                          refine X.eqlC rfl rfl rfl rfl rfl rfl (fun hc => ?_) (fun hc => ?_)
                                          · refine X.asg rfl rfl rfl rfl rfl ?_
                                            refine X.done [(2, _), (29, _)] ⟨rfl, rfl, trivial⟩ ?_
                                            refine N.then ?_
                                            refine E.condT rfl ?_
                                            refine E.exit ?_
                                            refine N.thenX ?_
                                            refine N.blkO rfl ?_
                                            refine N.blkO rfl ?_
                                            refine N.thenX ?_
                                            refine N.blkO rfl ?_
                                            refine N.blkO rfl ?_
                                            refine N.thenX ?_
                                            refine N.blkO rfl ?_
                                            refine N.blkO rfl ?_
                                            refine N.thenX ?_
                                            refine N.blkX ?_
                                            refine N.then ?_
                                            refine E.seq ?_
                                            refine E.seq ?_
                                            refine E.region ?_
                                            refine X.ld rfl rfl rfl rfl Tryd.ag24 (g4) (rfl) ?_
                                            refine X.asg rfl rfl rfl rfl rfl ?_
                                            refine X.done [(2, _)] ⟨rfl, trivial⟩ ?_
                                            refine N.then ?_
                                            refine E.ret ?_
                                            refine N.thenR ?_
                                            refine N.blkR ?_
                                            refine N.thenR ?_
                                            exact N.retH [_] ⟨_, _, rfl, rfl, rfl⟩ ⟨by rw [fi_4 (by omega)]; rfl, rfl⟩
                                          · refine X.asg rfl rfl rfl rfl rfl ?_
                                            refine X.done [(2, _), (29, _)] ⟨rfl, rfl, trivial⟩ ?_
                                            refine N.then ?_
                                            refine E.condF rfl ?_
                                            refine E.skip ?_
                                            refine N.then ?_
                                            refine E.exit ?_
                                            refine N.blkO rfl ?_
                                            refine N.blkO rfl ?_
                                            refine N.thenX ?_
                                            refine N.blkO rfl ?_
                                            refine N.blkO rfl ?_
                                            refine N.thenX ?_
                                            refine N.blkO rfl ?_
                                            refine N.blkO rfl ?_
                                            refine N.thenX ?_
                                            refine N.blkO rfl ?_
                                            refine N.thenX ?_
                                            refine N.blkX ?_
                                            refine N.then ?_
                                            refine E.seq ?_
                                            refine E.region ?_
                                            refine X.ld rfl rfl rfl rfl Tryd.ag24 (g5) (rfl) ?_
                                            refine X.asg rfl rfl rfl rfl rfl ?_
                                            refine X.done [(2, _)] ⟨rfl, trivial⟩ ?_
                                            refine N.then ?_
                                            refine E.ret ?_
                                            exact N.retH [_] ⟨_, _, rfl, rfl, rfl⟩ ⟨by rw [fi_5 (by omega) (by omega) (by omega) (by omega)]; rfl, rfl⟩

theorem numbered_ct (n : Nat) (A : Nat → Addr) (H : Heap) (hG : Gl H A) (h1 : 1 ≤ n) (h5 : n ≤ 5) : Ct Tryd.prog 33 #[i64 (n : Int)] H fun v H' => v = famV (A n) ∧ H' = H := by
  obtain ⟨ct1, fz1, g1⟩ := hG.fam 1 (by decide) (by decide)
  obtain ⟨ct2, fz2, g2⟩ := hG.fam 2 (by decide) (by decide)
  obtain ⟨ct3, fz3, g3⟩ := hG.fam 3 (by decide) (by decide)
  obtain ⟨ct4, fz4, g4⟩ := hG.fam 4 (by decide) (by decide)
  obtain ⟨ct5, fz5, g5⟩ := hG.fam 5 (by decide) (by decide)
  refine Ct.into 17 Tryd.func33 rfl [(0, i64 (n : Int))] rfl ⟨rfl, trivial⟩ ?_
  refine E.seq ?_
  refine E.region ?_
  refine X.asg rfl rfl rfl rfl rfl ?_
  refine X.done [(0, _), (2, _)] ⟨rfl, rfl, trivial⟩ ?_
  refine N.then ?_
  refine E.seq ?_
  refine E.seq ?_
  refine E.region ?_
  refine X.mv rfl rfl rfl rfl rfl ?_
  refine X.done [(2, _), (3, _)] ⟨rfl, rfl, trivial⟩ ?_
  refine N.then ?_
  refine E.block ?_
  refine E.seq ?_
  refine E.region ?_
  refine X.eqlC rfl rfl rfl rfl rfl rfl (fun hc => ?_) (fun hc => ?_)
  · refine X.asg rfl rfl rfl rfl rfl ?_
    refine X.done [(2, _), (3, _), (4, _)] ⟨rfl, rfl, rfl, trivial⟩ ?_
    refine N.then ?_
    refine E.condT rfl ?_
    refine E.seq ?_
    refine E.region ?_
    refine X.ld rfl rfl rfl rfl Tryd.ag24 (g1) (rfl) ?_
    refine X.asg rfl rfl rfl rfl rfl ?_
    refine X.done [(2, _)] ⟨rfl, trivial⟩ ?_
    refine N.then ?_
    refine E.ret ?_
    refine N.blkR ?_
    refine N.thenR ?_
    exact N.retH [_] ⟨_, _, rfl, rfl, rfl⟩ ⟨by rw [show n = 1 by omega]; rfl, rfl⟩
  · refine X.asg rfl rfl rfl rfl rfl ?_
    refine X.done [(2, _), (3, _), (4, _)] ⟨rfl, rfl, rfl, trivial⟩ ?_
    refine N.then ?_
    refine E.condF rfl ?_
    refine E.seq ?_
    refine E.region ?_
    refine X.eqlC rfl rfl rfl rfl rfl rfl (fun hc => ?_) (fun hc => ?_)
    · refine X.asg rfl rfl rfl rfl rfl ?_
      refine X.done [(2, _), (3, _), (7, _)] ⟨rfl, rfl, rfl, trivial⟩ ?_
      refine N.then ?_
      refine E.condT rfl ?_
      refine E.seq ?_
      refine E.region ?_
      refine X.ld rfl rfl rfl rfl Tryd.ag24 (g2) (rfl) ?_
      refine X.asg rfl rfl rfl rfl rfl ?_
      refine X.done [(2, _)] ⟨rfl, trivial⟩ ?_
      refine N.then ?_
      refine E.ret ?_
      refine N.blkR ?_
      refine N.thenR ?_
      exact N.retH [_] ⟨_, _, rfl, rfl, rfl⟩ ⟨by rw [show n = 2 by omega]; rfl, rfl⟩
    · refine X.asg rfl rfl rfl rfl rfl ?_
      refine X.done [(2, _), (3, _), (7, _)] ⟨rfl, rfl, rfl, trivial⟩ ?_
      refine N.then ?_
      refine E.condF rfl ?_
      refine E.seq ?_
      refine E.region ?_
      refine X.eqlC rfl rfl rfl rfl rfl rfl (fun hc => ?_) (fun hc => ?_)
      · refine X.asg rfl rfl rfl rfl rfl ?_
        refine X.done [(2, _), (3, _), (10, _)] ⟨rfl, rfl, rfl, trivial⟩ ?_
        refine N.then ?_
        refine E.condT rfl ?_
        refine E.seq ?_
        refine E.region ?_
        refine X.ld rfl rfl rfl rfl Tryd.ag24 (g3) (rfl) ?_
        refine X.asg rfl rfl rfl rfl rfl ?_
        refine X.done [(2, _)] ⟨rfl, trivial⟩ ?_
        refine N.then ?_
        refine E.ret ?_
        refine N.blkR ?_
        refine N.thenR ?_
        exact N.retH [_] ⟨_, _, rfl, rfl, rfl⟩ ⟨by rw [show n = 3 by omega]; rfl, rfl⟩
      · refine X.asg rfl rfl rfl rfl rfl ?_
        refine X.done [(2, _), (3, _), (10, _)] ⟨rfl, rfl, rfl, trivial⟩ ?_
        refine N.then ?_
        refine E.condF rfl ?_
        refine E.seq ?_
        refine E.region ?_
        refine X.eqlC rfl rfl rfl rfl rfl rfl (fun hc => ?_) (fun hc => ?_)
        · refine X.asg rfl rfl rfl rfl rfl ?_
          refine X.done [(2, _), (13, _)] ⟨rfl, rfl, trivial⟩ ?_
          refine N.then ?_
          refine E.condT rfl ?_
          refine E.seq ?_
          refine E.region ?_
          refine X.ld rfl rfl rfl rfl Tryd.ag24 (g4) (rfl) ?_
          refine X.asg rfl rfl rfl rfl rfl ?_
          refine X.done [(2, _)] ⟨rfl, trivial⟩ ?_
          refine N.then ?_
          refine E.ret ?_
          refine N.blkR ?_
          refine N.thenR ?_
          exact N.retH [_] ⟨_, _, rfl, rfl, rfl⟩ ⟨by rw [show n = 4 by omega]; rfl, rfl⟩
        · refine X.asg rfl rfl rfl rfl rfl ?_
          refine X.done [(2, _), (13, _)] ⟨rfl, rfl, trivial⟩ ?_
          refine N.then ?_
          refine E.condF rfl ?_
          refine E.skip ?_
          refine N.blk ?_
          refine N.then ?_
          refine E.seq ?_
          refine E.region ?_
          refine X.ld rfl rfl rfl rfl Tryd.ag24 (g5) (rfl) ?_
          refine X.asg rfl rfl rfl rfl rfl ?_
          refine X.done [(2, _)] ⟨rfl, trivial⟩ ?_
          refine N.then ?_
          refine E.ret ?_
          exact N.retH [_] ⟨_, _, rfl, rfl, rfl⟩ ⟨by rw [show n = 5 by omega]; rfl, rfl⟩

theorem next_nil (H : Heap) : Ct Tryd.prog 28 #[.nilIface] H fun v H' => v = .pointer none ∧ Kp [] H H' := by
  refine Ct.into 13 Tryd.func28 rfl [(0, .nilIface)] rfl ⟨rfl, trivial⟩ ?_
  refine E.seq ?_
  refine E.region ?_
  refine X.asg rfl rfl rfl rfl rfl ?_
  refine X.done [(0, _), (2, _)] ⟨rfl, rfl, trivial⟩ ?_
  refine N.then ?_
  refine E.seq ?_
  refine E.region ?_
  refine X.alloc (z := .pointer none) (cs := [.pointer none]) rfl rfl rfl rfl (by kernel_rfl) rfl ?_
  intro b3 H1 hn1 hb1 hk1
  refine X.done [(0, _), (2, _), (3, _)] ⟨rfl, rfl, rfl, trivial⟩ ?_
  refine N.then ?_
  refine E.seq ?_
  refine E.seq ?_
  refine E.region ?_
  refine X.mv rfl rfl rfl rfl rfl ?_
  refine X.eqlI0 rfl rfl rfl rfl rfl (by kernel_rfl) ?_
  refine X.mv rfl rfl rfl rfl rfl ?_
  refine X.skip rfl rfl rfl ?_
  refine X.skip rfl rfl rfl ?_
  refine X.skip rfl rfl rfl ?_
  refine X.skip rfl rfl rfl ?_
  refine X.pickT rfl rfl rfl rfl rfl rfl ?_
  refine X.done [(2, _), (3, _), (11, _)] ⟨rfl, rfl, rfl, trivial⟩ ?_
  refine N.then ?_
  refine E.condT rfl ?_
  refine E.seq ?_
  refine E.region ?_
  refine X.asg rfl rfl rfl rfl rfl ?_
  refine X.done [(2, _), (3, _)] ⟨rfl, rfl, trivial⟩ ?_
  refine N.then ?_
  refine E.ret ?_
  refine N.thenR ?_
  exact N.retH [_] ⟨_, _, rfl, rfl, rfl⟩ ⟨rfl, hk1⟩

theorem next_fam (a : Addr) (H : Heap) (hE : Et H) : Ct Tryd.prog 28 #[famV a] H fun v H' => v = .pointer none ∧ Kp [] H H' := by
  refine Ct.into 13 Tryd.func28 rfl [(0, famV a)] rfl ⟨rfl, trivial⟩ ?_
  refine E.seq ?_
  refine E.region ?_
  refine X.asg rfl rfl rfl rfl rfl ?_
  refine X.done [(0, _), (2, _)] ⟨rfl, rfl, trivial⟩ ?_
  refine N.then ?_
  refine E.seq ?_
  refine E.region ?_
  refine X.alloc (z := .pointer none) (cs := [.pointer none]) rfl rfl rfl rfl (by kernel_rfl) rfl ?_
  intro b3 H1 hn1 hb1 hk1
  have hE1 := hE.keep hk1
  refine X.done [(0, _), (2, _), (3, _)] ⟨rfl, rfl, rfl, trivial⟩ ?_
  refine N.then ?_
  refine E.seq ?_
  refine E.seq ?_
  refine E.region ?_
  refine X.mv rfl rfl rfl rfl rfl ?_
  refine X.eqlI1 rfl rfl rfl rfl rfl rfl (by kernel_rfl) ?_
  refine X.mv rfl rfl rfl rfl rfl ?_
  refine X.mv rfl rfl rfl rfl rfl ?_
  refine X.mkI rfl rfl rfl rfl rfl Tryd.underlying63 ?_
  refine X.call rfl rfl rfl rfl rfl Tryd.cl38 (as_miss_ct a b3 _ _ H1 hE1 hb1) ?_
  rintro _ H2 ⟨rfl, hk2⟩
  refine X.notF rfl rfl rfl rfl rfl ?_
  refine X.pickF rfl rfl rfl rfl rfl rfl ?_
  refine X.done [(2, _), (3, _), (11, _)] ⟨rfl, rfl, rfl, trivial⟩ ?_
  refine N.then ?_
  refine E.condT rfl ?_
  refine E.seq ?_
  refine E.region ?_
  refine X.asg rfl rfl rfl rfl rfl ?_
  refine X.done [(2, _), (3, _)] ⟨rfl, rfl, trivial⟩ ?_
  refine N.then ?_
  refine E.ret ?_
  refine N.thenR ?_
  exact N.retH [_] ⟨_, _, rfl, rfl, rfl⟩ ⟨rfl, hk1.trans hk2 (by simp)⟩

theorem next_link (b : Nat) (H : Heap) (hE : Et H) : Ct Tryd.prog 28 #[lnk b] H fun v H' => v = ptr b ∧ Kp [] H H' := by
  refine Ct.into 13 Tryd.func28 rfl [(0, lnk b)] rfl ⟨rfl, trivial⟩ ?_
  refine E.seq ?_
  refine E.region ?_
  refine X.asg rfl rfl rfl rfl rfl ?_
  refine X.done [(0, _), (2, _)] ⟨rfl, rfl, trivial⟩ ?_
  refine N.then ?_
  refine E.seq ?_
  refine E.region ?_
  refine X.alloc (z := .pointer none) (cs := [.pointer none]) rfl rfl rfl rfl (by kernel_rfl) rfl ?_
  intro b3 H1 hn1 hb1 hk1
  have hE1 := hE.keep hk1
  refine X.done [(0, _), (2, _), (3, _)] ⟨rfl, rfl, rfl, trivial⟩ ?_
  refine N.then ?_
  refine E.seq ?_
  refine E.seq ?_
  refine E.region ?_
  refine X.mv rfl rfl rfl rfl rfl ?_
  refine X.eqlI1 rfl rfl rfl rfl rfl rfl (by kernel_rfl) ?_
  refine X.mv rfl rfl rfl rfl rfl ?_
  refine X.mv rfl rfl rfl rfl rfl ?_
  refine X.mkI rfl rfl rfl rfl rfl Tryd.underlying63 ?_
  refine X.call rfl rfl rfl rfl rfl Tryd.cl38 (as_hit_ct ⟨b, 0, none⟩ b3 _ _ H1 hE1 hb1) ?_
  rintro _ H2 ⟨rfl, hb2, hk2⟩
  replace hb2 : H2[b3]? = some (.cells ([ptr b] : List Value).toArray 51 (0, 0)) := hb2
  refine X.notT rfl rfl rfl rfl rfl ?_
  refine X.pickF rfl rfl rfl rfl rfl rfl ?_
  refine X.done [(2, _), (3, _), (11, _)] ⟨rfl, rfl, rfl, trivial⟩ ?_
  refine N.then ?_
  refine E.condF rfl ?_
  refine E.skip ?_
  refine N.then ?_
  refine E.seq ?_
  refine E.region ?_
  refine X.ld rfl rfl rfl rfl Tryd.ag51 (hb2) (rfl) ?_
  refine X.asg rfl rfl rfl rfl rfl ?_
  refine X.done [(2, _)] ⟨rfl, trivial⟩ ?_
  refine N.then ?_
  refine E.ret ?_
  exact N.retH [_] ⟨_, _, rfl, rfl, rfl⟩ ⟨rfl, hk1.trans hk2 (by simp; exact hn1)⟩

theorem next_ct (H0 H : Heap) (e : Addr) (l : List LK) (v : Value) (hE : Et H) (h : Bv H0 e l v) : Ct Tryd.prog 28 #[v] H fun pv H' => LinkP H0 e l pv ∧ Kp [] H H' := by
  rcases h with ⟨rfl, rfl⟩ | h
  · exact (next_nil H).mono fun v H' h => ⟨.inl ⟨rfl, h.1⟩, h.2⟩
  · cases l with
    | nil =>
      have hv : v = famV e := h
      subst hv
      exact (next_fam e H hE).mono fun v H' h => ⟨.inl ⟨rfl, h.1⟩, h.2⟩
    | cons x r =>
      obtain ⟨b, u, rfl, hb, hc⟩ := h
      exact (next_link b H hE).mono fun v H' h => ⟨.inr ⟨x, r, b, u, rfl, h.1, hb, hc⟩, h.2⟩

theorem deep1_ct (b c : Nat) (n : Nat) (H : Heap) (hc : H[c]? = some (.cells ([i64 (n : Int)] : List Value).toArray 3 (0, 0))) (hn : n ≤ 1000) : Ct Tryd.prog 27 #[ptr b, ptr c] H fun v H' => v = .tuple #[] ∧ H'[c]? = some (.cells ([i64 ((n + 1 : Nat) : Int)] : List Value).toArray 3 (0, 0)) ∧ Kp [c] H H' := by
  refine Ct.into 5 Tryd.func27 rfl [(0, ptr b), (1, ptr c)] rfl ⟨rfl, rfl, trivial⟩ ?_
  refine E.region ?_
  refine X.ld rfl rfl rfl rfl Tryd.ag3 (hc) (rfl) ?_
  refine X.addE (zz := ((n + 1 : Nat) : Int)) rfl rfl rfl rfl rfl rfl (by rw [IntWalk.i64_in _ (by omega)] <;> omega) ?_
  refine X.st rfl rfl rfl rfl rfl rfl rfl Tryd.sz3 hc (Nat.zero_lt_one) ?_
  intro H2 hb2 hk2
  refine X.done [] trivial ?_
  exact N.endH [] rfl ⟨rfl, hb2, hk2⟩

theorem root1_ct (b c d : Nat) (x : LK) (u p q : Value) (H : Heap) (hb : H[b]? = some (.cells (row3 x u).toArray 55 (0, 0))) (hc : H[c]? = some (.cells ([p] : List Value).toArray 22 (0, 0))) (hd : H[d]? = some (.cells ([q] : List Value).toArray 3 (0, 0))) (hcd : c ≠ d) (hbc : b ≠ c) : Ct Tryd.prog 30 #[ptr b, ptr c, ptr d] H fun v H' => v = .tuple #[] ∧ H'[c]? = some (.cells ([i64 x.1] : List Value).toArray 22 (0, 0)) ∧ H'[d]? = some (.cells ([i64 x.2] : List Value).toArray 3 (0, 0)) ∧ Kp [c, d] H H' := by
  refine Ct.into 12 Tryd.func30 rfl [(0, ptr b), (1, ptr c), (2, ptr d)] rfl ⟨rfl, rfl, rfl, trivial⟩ ?_
  refine E.regionD (fun H' => H'[b]? = some (.cells (row3 x u).toArray 55 (0, 0))) [(0, .pu), (1, .pu), (2, .pu), (3, .st), (4, .pu), (5, .pu), (6, .pu), (7, .st), (8, .mk), (9, .mv)] Tryd.mixed (by kernel_rfl) (hb) ?_
  refine X.mv rfl rfl rfl rfl rfl ?_
  refine X.nilP rfl rfl rfl rfl rfl ?_
  refine X.fld rfl rfl rfl rfl rfl Tryd.off55_0 ?_
  refine X.ld rfl rfl rfl rfl Tryd.ag22 (fun H' hF => hF) (rfl) ?_
  refine X.mv rfl rfl rfl rfl rfl ?_
  refine X.nilP rfl rfl rfl rfl rfl ?_
  refine X.fld rfl rfl rfl rfl rfl Tryd.off55_1 ?_
  refine X.ld rfl rfl rfl rfl Tryd.ag3 (fun H' hF => hF) (rfl) ?_
  refine X.st rfl rfl rfl rfl rfl rfl rfl Tryd.sz22 hc (Nat.zero_lt_one) ?_
  intro H2 hb2 hk2
  replace hd := hk2.keep hd (by simp; exact Ne.symm hcd)
  refine ⟨hk2.keep hb (by simp; exact hbc), ?_⟩
  refine X.st rfl rfl rfl rfl rfl rfl rfl Tryd.sz3 hd (Nat.zero_lt_one) ?_
  intro H3 hb3 hk3
  replace hb2 := hk3.keep hb2 (by simp; exact hcd)
  refine X.done [] trivial ?_
  exact N.endH [] rfl ⟨rfl, hb2, hb3, (hk2.mono (by simp)).trans (hk3.mono (T := [c, d]) (by simp)) (fun b hb => .inl hb)⟩

theorem has1_ct (b c d : Nat) (x : LK) (u : Value) (m : Bool) (w : Int) (H : Heap) (hb : H[b]? = some (.cells (row3 x u).toArray 55 (0, 0))) (hc : H[c]? = some (.cells ([.bool m] : List Value).toArray 4 (0, 0))) (hd : H[d]? = some (.cells ([i64 w] : List Value).toArray 22 (0, 0))) : Ct Tryd.prog 31 #[ptr b, ptr c, ptr d] H fun v H' => v = .tuple #[] ∧ H'[c]? = some (.cells ([.bool (m || decide (x.1 = w))] : List Value).toArray 4 (0, 0)) ∧ Kp [c] H H' := by
  refine Ct.into 13 Tryd.func31 rfl [(0, ptr b), (1, ptr c), (2, ptr d)] rfl ⟨rfl, rfl, rfl, trivial⟩ ?_
  refine E.regionD (fun H' => H'[c]? = some (.cells ([.bool m] : List Value).toArray 4 (0, 0)) ∧ H'[b]? = some (.cells (row3 x u).toArray 55 (0, 0)) ∧ H'[d]? = some (.cells ([i64 w] : List Value).toArray 22 (0, 0))) [(0, .st), (1, .pu), (2, .pu), (3, .pu), (4, .pu), (5, .st), (6, .st), (7, .pu), (8, .pu), (9, .mv)] Tryd.mixed (by kernel_rfl) (⟨hc, hb, hd⟩) ?_
  refine X.ld rfl rfl rfl rfl Tryd.ag4 (fun H' hF => hF.1) (rfl) ?_
  cases m
  · refine X.mv rfl rfl rfl rfl rfl ?_
    refine X.mv rfl rfl rfl rfl rfl ?_
    refine X.nilP rfl rfl rfl rfl rfl ?_
    refine X.fld rfl rfl rfl rfl rfl Tryd.off55_0 ?_
    refine X.ld rfl rfl rfl rfl Tryd.ag22 (fun H' hF => hF.2.1) (rfl) ?_
    refine X.ld rfl rfl rfl rfl Tryd.ag22 (fun H' hF => hF.2.2) (rfl) ?_
    refine X.eql rfl rfl rfl rfl rfl rfl ?_
    refine X.pickF rfl rfl rfl rfl rfl rfl ?_
    refine X.st rfl rfl rfl rfl rfl rfl rfl Tryd.sz4 hc (Nat.zero_lt_one) ?_
    intro H2 hb2 hk2
    refine X.done [] trivial ?_
    first | exact N.endH [] rfl ⟨rfl, by rw [Bool.false_or]; exact hb2, hk2⟩ | exact N.endH [] rfl ⟨rfl, by rw [Bool.true_or]; exact hb2, hk2⟩
  · refine X.mv rfl rfl rfl rfl rfl ?_
    refine X.skip rfl rfl rfl ?_
    refine X.skip rfl rfl rfl ?_
    refine X.skip rfl rfl rfl ?_
    refine X.skip rfl rfl rfl ?_
    refine X.skip rfl rfl rfl ?_
    refine X.skip rfl rfl rfl ?_
    refine X.pickT rfl rfl rfl rfl rfl rfl ?_
    refine X.st rfl rfl rfl rfl rfl rfl rfl Tryd.sz4 hc (Nat.zero_lt_one) ?_
    intro H2 hb2 hk2
    refine X.done [] trivial ?_
    first | exact N.endH [] rfl ⟨rfl, by rw [Bool.false_or]; exact hb2, hk2⟩ | exact N.endH [] rfl ⟨rfl, by rw [Bool.true_or]; exact hb2, hk2⟩

end Go.Proofs.YtaofjmaekpjkhaaDoor