/- The walks: right trees, equal trees, kids, numbers. -/
import Derived.Test.YtcandjdomeompaaDoorTB
namespace Go.Proofs.YtcandjdomeompaaDoor
open Go.SX Go.Chr
attribute [local irreducible] X E N Ct
set_option linter.unusedVariables false
set_option linter.unusedSimpArgs false
theorem fits2_ct (x : Nd) (H : Heap) : Ct Tryd.prog 18 #[ndv x] H fun v H' => ∃ b, decide (rtP x) = b ∧ v = .bool b ∧ Kp [] H H' := (fits_ct x H).mono fun v H' ⟨h1, h2⟩ => ⟨_, rfl, h1, h2⟩
theorem right2_ct (x : Nd) (H : Heap) : Ct Tryd.prog 19 #[ndv x] H fun v H' => ∃ b, decide (rtP x) = b ∧ v = .bool b ∧ Kp [] H H' := (right_ct x H).mono fun v H' ⟨h1, h2⟩ => ⟨_, rfl, h1, h2⟩
theorem T52 : AppT Tryd.prog 52 52 3 1 8 (.int .i64 0) := ⟨Tryd.underlying52, Tryd.zi3_52, rfl, by decide⟩
theorem rdz {H : Heap} {b c : Nat} {x : Int} {e : TypeId} (hb : H[b]? = some (.cells ([i64 x] : List Value).toArray e (0, 0))) : Rd H 1 (.slice (some ⟨b, 0, none⟩) 1 c) 1 (iv [x]) :=
  ⟨rfl, _, _, rfl, .inr ⟨b, 0, _, _, _, rfl, hb, fun j u hj => by rw [Nat.zero_add]; exact hj⟩⟩
theorem iv_one (l : List Int) : ∀ u ∈ iv l, u.oneCell' = true := by
  intro u hu; obtain ⟨x, _, rfl⟩ := List.mem_map.1 hu; rfl
theorem iv_app (a b : List Int) : iv a ++ iv b = iv (a ++ b) := (List.map_append ..).symm
structure DQ where
  k : Nat
  a : Int
  v : Value
  d : List Int
def dcm (n : Nat) : Bs := if n < 10 then [u8 (48 + n)] else [u8 (48 + n / 10), u8 (48 + n % 10)]
theorem dcm_one {n : Nat} (h : n < 10) : dcm n = [u8 (48 + n)] := by unfold dcm; rw [if_pos h]
theorem dcm_two {n : Nat} (h : ¬ n < 10) (h2 : n < 100) : dcm (n / 10) ++ dcm (n % 10) = dcm n := by
  rw [dcm_one (show n / 10 < 10 by omega), dcm_one (show n % 10 < 10 by omega)]; unfold dcm; rw [if_neg h]; rfl
theorem dcm_two' {n : Nat} (h : ¬ n < 10) (h2 : n < 100) : dcm (n / 10) ++ [u8 (48 + n % 10)] = dcm n := by
  rw [dcm_one (show n / 10 < 10 by omega)]; unfold dcm; rw [if_neg h]; rfl
theorem dcm_len (n : Nat) : (dcm n).length ≤ 2 := by unfold dcm; split <;> simp
theorem cs1 {n : Nat} (h : n < 10) : ([.int .u8 ((48 + n : Nat) : Int)] : List Value) = bv [u8 (48 + n)] := by rw [bv1 (by omega)]
def oft (low high : Nat) (inf : Bool) : Bs := if inf then 123 :: dcm low ++ [44, 125] else if high = low then 123 :: dcm low ++ [125] else 123 :: dcm low ++ [44] ++ dcm high ++ [125]
/-- How a repeat is written. -/
def oftV (x : Nd) : Bs := oft x.low.toNat x.high.toNat (decide (x.high = -1))
theorem oft_1 {x : Nd} (h : x.high = -1) : oftV x = ([123] ++ dcm x.low.toNat) ++ [44, 125] := by unfold oftV oft; rw [if_pos (by simp [h])]; rfl
theorem oft_2 {x : Nd} (h1 : ¬ x.high = -1) (h : x.high.toNat = x.low.toNat) : oftV x = ([123] ++ dcm x.low.toNat) ++ [125] := by unfold oftV oft; rw [if_neg (by simp [h1]), if_pos h]; rfl
theorem oft_3 {x : Nd} (h1 : ¬ x.high = -1) (h : ¬ x.high.toNat = x.low.toNat) : oftV x = ((([123] ++ dcm x.low.toNat) ++ [44]) ++ dcm x.high.toNat) ++ [125] := by unfold oftV oft; rw [if_neg (by simp [h1]), if_neg h]; simp

theorem check_ct (l : List Nd) (a : Option Addr) (c : Nat) (H : Heap) (hN : NR H (.slice a l.length c) l) (hl : l.length ≤ 1000) : Ct Tryd.prog 8 #[.slice a l.length c] H fun v H' => v = i64 (chkV l) ∧ Kp [] H H' := by
  refine Ct.into 30 Tryd.func8 rfl [(0, .slice a l.length c)] rfl ⟨rfl, trivial⟩ ?_
  refine E.seq ?_
  refine E.region ?_
  refine X.asg rfl rfl rfl rfl rfl ?_
  refine X.done [(0, _), (2, _)] ⟨rfl, rfl, trivial⟩ ?_
  refine N.then ?_
  refine E.seq ?_
  refine E.seq ?_
  refine E.region ?_
  refine X.mv rfl rfl rfl rfl rfl ?_
  refine X.lenS rfl rfl rfl rfl rfl Tryd.underlying22 ?_
  refine X.eqlC rfl rfl rfl rfl rfl rfl (fun hc => ?_) (fun hc => ?_)
  · refine X.mv rfl rfl rfl rfl rfl ?_
    refine X.skip rfl rfl rfl ?_
    refine X.skip rfl rfl rfl ?_
    refine X.skip rfl rfl rfl ?_
    refine X.pickT rfl rfl rfl rfl rfl rfl ?_
    refine X.mv rfl rfl rfl rfl rfl ?_
    refine X.skip rfl rfl rfl ?_
    refine X.skip rfl rfl rfl ?_
    refine X.skip rfl rfl rfl ?_
    refine X.skip rfl rfl rfl ?_
    refine X.skip rfl rfl rfl ?_
    refine X.pickT rfl rfl rfl rfl rfl rfl ?_
    refine X.done [(0, _), (2, _), (19, _)] ⟨rfl, rfl, rfl, trivial⟩ ?_
    refine N.then ?_
    refine E.condT rfl ?_
    refine E.seq ?_
    refine E.region ?_
    refine X.asg rfl rfl rfl rfl rfl ?_
    refine X.done [(0, _), (2, _)] ⟨rfl, rfl, trivial⟩ ?_
    refine N.then ?_
    refine E.ret ?_
    refine N.thenR ?_
    exact N.retH [_] ⟨_, _, rfl, rfl, rfl⟩ ⟨by rw [chk_bad (by omega)]; rfl, by first | exact Kp.refl _ _ | exact hkk⟩
  · refine X.mv rfl rfl rfl rfl rfl ?_
    refine X.mv rfl rfl rfl rfl rfl ?_
    refine X.lenS rfl rfl rfl rfl rfl Tryd.underlying22 ?_
    refine X.gtrC rfl rfl rfl rfl rfl rfl (fun hc => ?_) (fun hc => ?_)
    · refine X.pickF rfl rfl rfl rfl rfl rfl ?_
      refine X.mv rfl rfl rfl rfl rfl ?_
      refine X.skip rfl rfl rfl ?_
      refine X.skip rfl rfl rfl ?_
      refine X.skip rfl rfl rfl ?_
      refine X.skip rfl rfl rfl ?_
      refine X.skip rfl rfl rfl ?_
      refine X.pickT rfl rfl rfl rfl rfl rfl ?_
      refine X.done [(0, _), (2, _), (19, _)] ⟨rfl, rfl, rfl, trivial⟩ ?_
      refine N.then ?_
      refine E.condT rfl ?_
      refine E.seq ?_
      refine E.region ?_
      refine X.asg rfl rfl rfl rfl rfl ?_
      refine X.done [(0, _), (2, _)] ⟨rfl, rfl, trivial⟩ ?_
      refine N.then ?_
      refine E.ret ?_
      refine N.thenR ?_
      exact N.retH [_] ⟨_, _, rfl, rfl, rfl⟩ ⟨by rw [chk_bad (by omega)]; rfl, by first | exact Kp.refl _ _ | exact hkk⟩
    · refine X.pickF rfl rfl rfl rfl rfl rfl ?_
      refine X.mv rfl rfl rfl rfl rfl ?_
      refine X.mv rfl rfl rfl rfl rfl ?_
      refine X.call rfl rfl rfl rfl rfl Tryd.cl12 (end_ct l a c 0 H hN hl) ?_
      rintro _ Hx ⟨rfl, e⟩
      obtain rfl := e.symm
      refine X.mv rfl rfl rfl rfl rfl ?_
      refine X.lenS rfl rfl rfl rfl rfl Tryd.underlying22 ?_
      refine X.neq rfl rfl rfl rfl rfl rfl ?_
      refine X.pickF rfl rfl rfl rfl rfl rfl ?_
      refine X.done [(0, _), (2, _), (19, _)] ⟨rfl, rfl, rfl, trivial⟩ ?_
      refine N.then ?_
      refine E.condD rfl (fun hc => ?_) (fun hc => ?_)
      · refine E.seq ?_
        refine E.region ?_
        refine X.asg rfl rfl rfl rfl rfl ?_
        refine X.done [(0, _), (2, _)] ⟨rfl, rfl, trivial⟩ ?_
        refine N.then ?_
        refine E.ret ?_
        refine N.thenR ?_
        exact N.retH [_] ⟨_, _, rfl, rfl, rfl⟩ ⟨by rw [chk_bad (by omega)]; rfl, by first | exact Kp.refl _ _ | exact hkk⟩
      · refine E.skip ?_
        refine N.then ?_
        refine E.seq ?_
        refine E.seq ?_
        refine E.region ?_
        refine X.mv rfl rfl rfl rfl rfl ?_
        refine X.lenS rfl rfl rfl rfl rfl Tryd.underlying22 ?_
        refine X.mv rfl rfl rfl rfl rfl ?_
        refine X.done [(2, _), (20, _), (21, _), (22, _)] ⟨rfl, rfl, rfl, rfl, trivial⟩ ?_
        refine N.then ?_
        refine E.block ?_
        -- MISSING in G: [2]
        refine E.loop (fun (i : Nat) => [(20, .slice a l.length c), (21, i64 l.length), (22, i64 i)]) (fun (i : Nat) H' => i ≤ l.length ∧ (∀ y ∈ l.take i, rtP y) ∧ Kp [] H H') (fun (i : Nat) => l.length - i) 0 ⟨rfl, rfl, rfl, trivial⟩ ⟨Nat.zero_le _, by simp, Kp.refl _ _⟩ ?_
        rintro i H3 ⟨hi, hJ, hkk⟩
        have hN3 := hN.keepN hkk
        refine E.seq ?_
        refine E.region ?_
        refine X.lss rfl rfl rfl rfl rfl rfl ?_
        refine X.done [(20, _), (21, _), (22, _), (23, _)] ⟨rfl, rfl, rfl, rfl, trivial⟩ ?_
        refine N.then ?_
        refine E.seq ?_
        refine E.condD rfl (fun hc => ?_) (fun hc => ?_)
        · refine E.skip ?_
          refine N.then ?_
          refine E.seq ?_
          refine E.block ?_
          refine E.seq ?_
          have hi2 : i < l.length := Int.ofNat_lt.1 (by assumption)
          obtain ⟨x, hx⟩ := get_nd hi2
          obtain ⟨bb, oo, cs, ct, fz, hae, hbb, hcc⟩ := hN3.at hx
          refine E.region ?_
          refine X.ixAe rfl rfl rfl rfl rfl rfl Tryd.underlying22 Tryd.sz38 (hae) (by omega) ?_
          refine X.ldA rfl rfl rfl rfl Tryd.ag38 Tryd.sz38 (hbb) (ncel_len x) hcc ?_
          refine X.alloc (z := .agg ([.int .i64 0, .int .i64 0, .int .u64 0, .int .u64 0, .int .u64 0, .int .u64 0, .int .i64 0, .int .i64 0] : List Value).toArray) (cs := [.int .i64 0, .int .i64 0, .int .u64 0, .int .u64 0, .int .u64 0, .int .u64 0, .int .i64 0, .int .i64 0]) rfl rfl rfl rfl (by kernel_rfl) rfl ?_
          intro b4 H4 hn4 hb4 hk4
          have hn4b : H.size ≤ b4 := Nat.le_trans hkk.size hn4
          replace hkk := hkk.trans hk4 (by simp)
          refine X.stA rfl rfl rfl rfl rfl rfl (ncel_one _) Tryd.sz38 hb4 (by show 0 + 8 ≤ 8; omega) ?_
          intro H5 hb5 hk5
          rw [splice_all (by rfl)] at hb5
          replace hb4 := hb5
          replace hkk := hkk.trans hk5 (by simp; exact hn4b)
          refine X.done [(20, _), (21, _), (22, _), (23, _), (24, _), (25, _), (4, _)] ⟨rfl, rfl, rfl, rfl, rfl, rfl, rfl, trivial⟩ ?_
          refine N.then ?_
          refine E.seq ?_
          refine E.region ?_
          refine X.ldA rfl rfl rfl rfl Tryd.ag38 Tryd.sz38 (hb4) (ncel_len x) zoff ?_
          refine X.call rfl rfl rfl rfl rfl Tryd.cl18 (fits2_ct x _) ?_
          rintro _ H6 ⟨b, hb, rfl, hk6⟩
          replace hkk := hkk.trans hk6 (by simp)
          cases b
          · refine X.notF rfl rfl rfl rfl rfl ?_
            refine X.done [(20, _), (21, _), (22, _), (23, _), (24, _), (25, _), (4, _), (26, _), (27, _), (28, _)] ⟨rfl, rfl, rfl, rfl, rfl, rfl, rfl, rfl, rfl, rfl, trivial⟩ ?_
            refine N.then ?_
            refine E.condT rfl ?_
            refine E.seq ?_
            refine E.region ?_
            refine X.asg rfl rfl rfl rfl rfl ?_
            refine X.done [(20, _), (21, _), (22, _), (23, _), (24, _), (25, _), (4, _), (26, _), (27, _), (28, _), (2, _)] ⟨rfl, rfl, rfl, rfl, rfl, rfl, rfl, rfl, rfl, rfl, rfl, trivial⟩ ?_
            refine N.then ?_
            refine E.ret ?_
            refine N.blkR ?_
            refine N.thenR ?_
            refine N.loopR ?_
            refine N.blkR ?_
            refine N.thenR ?_
            exact N.retH [_] ⟨_, _, rfl, rfl, rfl⟩ ⟨by rw [chk_no (List.mem_of_getElem? hx) (of_decide_eq_false hb)]; rfl, hkk⟩
          · refine X.notT rfl rfl rfl rfl rfl ?_
            refine X.done [(20, _), (21, _), (22, _), (23, _), (24, _), (25, _), (4, _), (26, _), (27, _), (28, _)] ⟨rfl, rfl, rfl, rfl, rfl, rfl, rfl, rfl, rfl, rfl, trivial⟩ ?_
            refine N.then ?_
            refine E.condF rfl ?_
            refine E.skip ?_
            refine N.blk ?_
            refine N.then ?_
            refine E.region ?_
            refine X.add rfl rfl rfl rfl rfl rfl (by omega) ?_
            refine X.mv rfl rfl rfl rfl rfl ?_
            refine X.done [(20, _), (21, _), (22, _), (23, _), (24, _), (25, _), (4, _), (26, _), (27, _), (28, _), (29, _)] ⟨rfl, rfl, rfl, rfl, rfl, rfl, rfl, rfl, rfl, rfl, rfl, trivial⟩ ?_
            exact N.next (i + 1) ⟨rfl, rfl, rfl, trivial⟩ ⟨by omega, take_all hJ hx (of_decide_eq_true hb), hkk⟩ (by omega)
        · refine E.exit ?_
          refine N.thenX ?_
          refine N.loopX ?_
          refine N.blkX ?_
          refine N.then ?_
          refine E.seq ?_
          refine E.region ?_
          refine X.asg rfl rfl rfl rfl rfl ?_
          refine X.done [(2, _)] ⟨rfl, trivial⟩ ?_
          refine N.then ?_
          refine E.ret ?_
          exact N.retH [_] ⟨_, _, rfl, rfl, rfl⟩ ⟨by rw [chk_ok (by omega) (fun y hy => hJ y (by rw [List.take_of_length_le (by omega)]; exact hy))]; rfl, hkk⟩

theorem rcheck_ct (l : List Nd) (a : Option Addr) (c : Nat) (H : Heap) (hN : NR H (.slice a l.length c) l) (hl : l.length ≤ 1000) : Ct Tryd.prog 9 #[.slice a l.length c] H fun v H' => v = i64 (chkV l) ∧ Kp [] H H' := by
  refine Ct.into 31 Tryd.func9 rfl [(0, .slice a l.length c)] rfl ⟨rfl, trivial⟩ ?_
  refine E.seq ?_
  refine E.region ?_
  refine X.asg rfl rfl rfl rfl rfl ?_
  refine X.done [(0, _), (2, _)] ⟨rfl, rfl, trivial⟩ ?_
  refine N.then ?_
  refine E.seq ?_
  refine E.seq ?_
  refine E.region ?_
  refine X.mv rfl rfl rfl rfl rfl ?_
  refine X.lenS rfl rfl rfl rfl rfl Tryd.underlying22 ?_
  refine X.gtrC rfl rfl rfl rfl rfl rfl (fun hc => ?_) (fun hc => ?_)
  · refine X.mv rfl rfl rfl rfl rfl ?_
    refine X.skip rfl rfl rfl ?_
    refine X.skip rfl rfl rfl ?_
    refine X.skip rfl rfl rfl ?_
    refine X.skip rfl rfl rfl ?_
    refine X.skip rfl rfl rfl ?_
    refine X.pickT rfl rfl rfl rfl rfl rfl ?_
    refine X.mv rfl rfl rfl rfl rfl ?_
    refine X.skip rfl rfl rfl ?_
    refine X.skip rfl rfl rfl ?_
    refine X.skip rfl rfl rfl ?_
    refine X.pickT rfl rfl rfl rfl rfl rfl ?_
    refine X.done [(0, _), (2, _), (18, _)] ⟨rfl, rfl, rfl, trivial⟩ ?_
    refine N.then ?_
    refine E.condT rfl ?_
    refine E.seq ?_
    refine E.region ?_
    refine X.asg rfl rfl rfl rfl rfl ?_
    refine X.done [(0, _), (2, _)] ⟨rfl, rfl, trivial⟩ ?_
    refine N.then ?_
    refine E.ret ?_
    refine N.thenR ?_
    exact N.retH [_] ⟨_, _, rfl, rfl, rfl⟩ ⟨by rw [chk_bad (by omega)]; rfl, by first | exact Kp.refl _ _ | exact hkk⟩
  · refine X.mv rfl rfl rfl rfl rfl ?_
    refine X.mv rfl rfl rfl rfl rfl ?_
    refine X.call rfl rfl rfl rfl rfl Tryd.cl13 (rend_ct l a c 0 H hN hl) ?_
    rintro _ Hx ⟨rfl, e⟩
    obtain rfl := e.symm
    refine X.mv rfl rfl rfl rfl rfl ?_
    refine X.lenS rfl rfl rfl rfl rfl Tryd.underlying22 ?_
    refine X.neqC rfl rfl rfl rfl rfl rfl (fun hc => ?_) (fun hc => ?_)
    · refine X.pickF rfl rfl rfl rfl rfl rfl ?_
      refine X.mv rfl rfl rfl rfl rfl ?_
      refine X.skip rfl rfl rfl ?_
      refine X.skip rfl rfl rfl ?_
      refine X.skip rfl rfl rfl ?_
      refine X.pickT rfl rfl rfl rfl rfl rfl ?_
      refine X.done [(0, _), (2, _), (18, _)] ⟨rfl, rfl, rfl, trivial⟩ ?_
      refine N.then ?_
      refine E.condT rfl ?_
      refine E.seq ?_
      refine E.region ?_
      refine X.asg rfl rfl rfl rfl rfl ?_
      refine X.done [(0, _), (2, _)] ⟨rfl, rfl, trivial⟩ ?_
      refine N.then ?_
      refine E.ret ?_
      refine N.thenR ?_
      exact N.retH [_] ⟨_, _, rfl, rfl, rfl⟩ ⟨by rw [chk_bad (by omega)]; rfl, by first | exact Kp.refl _ _ | exact hkk⟩
    · refine X.pickF rfl rfl rfl rfl rfl rfl ?_
      refine X.mv rfl rfl rfl rfl rfl ?_
      refine X.mv rfl rfl rfl rfl rfl ?_
      refine X.lenS rfl rfl rfl rfl rfl Tryd.underlying22 ?_
      refine X.eql rfl rfl rfl rfl rfl rfl ?_
      refine X.pickF rfl rfl rfl rfl rfl rfl ?_
      refine X.done [(0, _), (2, _), (18, _)] ⟨rfl, rfl, rfl, trivial⟩ ?_
      refine N.then ?_
      refine E.condD rfl (fun hc => ?_) (fun hc => ?_)
      · refine E.seq ?_
        refine E.region ?_
        refine X.asg rfl rfl rfl rfl rfl ?_
        refine X.done [(0, _), (2, _)] ⟨rfl, rfl, trivial⟩ ?_
        refine N.then ?_
        refine E.ret ?_
        refine N.thenR ?_
        exact N.retH [_] ⟨_, _, rfl, rfl, rfl⟩ ⟨by rw [chk_bad (by omega)]; rfl, by first | exact Kp.refl _ _ | exact hkk⟩
      · refine E.skip ?_
        refine N.then ?_
        refine E.seq ?_
        refine E.seq ?_
        refine E.region ?_
        refine X.asg rfl rfl rfl rfl rfl ?_
        refine X.done [(0, _), (2, _), (3, _)] ⟨rfl, rfl, rfl, trivial⟩ ?_
        refine N.then ?_
        refine E.block ?_
        -- MISSING in G: [2]
        refine E.loop (fun (i : Nat) => [(0, .slice a l.length c), (3, i64 i)]) (fun (i : Nat) H' => i ≤ l.length ∧ (∀ y ∈ l.take i, rtP y) ∧ Kp [] H H') (fun (i : Nat) => l.length - i) 0 ⟨rfl, rfl, trivial⟩ ⟨Nat.zero_le _, by simp, Kp.refl _ _⟩ ?_
        rintro i H3 ⟨hi, hJ, hkk⟩
        have hN3 := hN.keepN hkk
        refine E.seq ?_
        refine E.seq ?_
        refine E.region ?_
        refine X.mv rfl rfl rfl rfl rfl ?_
        refine X.mv rfl rfl rfl rfl rfl ?_
        refine X.lenS rfl rfl rfl rfl rfl Tryd.underlying22 ?_
        refine X.lss rfl rfl rfl rfl rfl rfl ?_
        refine X.done [(0, _), (3, _), (19, _), (20, _), (21, _), (22, _)] ⟨rfl, rfl, rfl, rfl, rfl, rfl, trivial⟩ ?_
        refine N.then ?_
        refine E.condD rfl (fun hc => ?_) (fun hc => ?_)
        · refine E.skip ?_
          refine N.then ?_
          refine E.seq ?_
          refine E.block ?_
          refine E.seq ?_
          have hi2 : i < l.length := Int.ofNat_lt.1 (by assumption)
          obtain ⟨x, hx⟩ := get_nd hi2
          obtain ⟨bb, oo, cs, ct, fz, hae, hbb, hcc⟩ := hN3.at hx
          refine E.region ?_
          refine X.mv rfl rfl rfl rfl rfl ?_
          refine X.mv rfl rfl rfl rfl rfl ?_
          refine X.ixAe rfl rfl rfl rfl rfl rfl Tryd.underlying22 Tryd.sz38 (hae) (by omega) ?_
          refine X.ldA rfl rfl rfl rfl Tryd.ag38 Tryd.sz38 (hbb) (ncel_len x) hcc ?_
          refine X.call rfl rfl rfl rfl rfl Tryd.cl19 (right2_ct x _) ?_
          rintro _ H6 ⟨b, hb, rfl, hk6⟩
          replace hkk := hkk.trans hk6 (by simp)
          cases b
          · refine X.notF rfl rfl rfl rfl rfl ?_
            refine X.done [(0, _), (3, _), (19, _), (20, _), (21, _), (22, _), (25, _), (26, _), (27, _), (28, _), (29, _), (30, _)] ⟨rfl, rfl, rfl, rfl, rfl, rfl, rfl, rfl, rfl, rfl, rfl, rfl, trivial⟩ ?_
            refine N.then ?_
            refine E.condT rfl ?_
            refine E.seq ?_
            refine E.region ?_
            refine X.asg rfl rfl rfl rfl rfl ?_
            refine X.done [(0, _), (3, _), (19, _), (20, _), (21, _), (22, _), (25, _), (26, _), (27, _), (28, _), (29, _), (30, _), (2, _)] ⟨rfl, rfl, rfl, rfl, rfl, rfl, rfl, rfl, rfl, rfl, rfl, rfl, rfl, trivial⟩ ?_
            refine N.then ?_
            refine E.ret ?_
            refine N.blkR ?_
            refine N.thenR ?_
            refine N.loopR ?_
            refine N.blkR ?_
            refine N.thenR ?_
            exact N.retH [_] ⟨_, _, rfl, rfl, rfl⟩ ⟨by rw [chk_no (List.mem_of_getElem? hx) (of_decide_eq_false hb)]; rfl, hkk⟩
          · refine X.notT rfl rfl rfl rfl rfl ?_
            refine X.done [(0, _), (3, _), (19, _), (20, _), (21, _), (22, _), (25, _), (26, _), (27, _), (28, _), (29, _), (30, _)] ⟨rfl, rfl, rfl, rfl, rfl, rfl, rfl, rfl, rfl, rfl, rfl, rfl, trivial⟩ ?_
            refine N.then ?_
            refine E.condF rfl ?_
            refine E.skip ?_
            refine N.blk ?_
            refine N.then ?_
            refine E.region ?_
            refine X.mv rfl rfl rfl rfl rfl ?_
            refine X.add rfl rfl rfl rfl rfl rfl (by omega) ?_
            refine X.asg rfl rfl rfl rfl rfl ?_
            refine X.done [(0, _), (3, _), (19, _), (20, _), (21, _), (22, _), (25, _), (26, _), (27, _), (28, _), (29, _), (30, _), (23, _), (24, _)] ⟨rfl, rfl, rfl, rfl, rfl, rfl, rfl, rfl, rfl, rfl, rfl, rfl, rfl, rfl, trivial⟩ ?_
            exact N.next (i + 1) ⟨rfl, rfl, trivial⟩ ⟨by omega, take_all hJ hx (of_decide_eq_true hb), hkk⟩ (by omega)
        · refine E.exit ?_
          refine N.thenX ?_
          refine N.loopX ?_
          refine N.blkX ?_
          refine N.then ?_
          refine E.seq ?_
          refine E.region ?_
          refine X.asg rfl rfl rfl rfl rfl ?_
          refine X.done [(2, _)] ⟨rfl, trivial⟩ ?_
          refine N.then ?_
          refine E.ret ?_
          exact N.retH [_] ⟨_, _, rfl, rfl, rfl⟩ ⟨by rw [chk_ok (by omega) (fun y hy => hJ y (by rw [List.take_of_length_le (by omega)]; exact hy))]; rfl, hkk⟩

theorem same_ct (l m : List Nd) (a : Option Addr) (c : Nat) (a2 : Option Addr) (c2 : Nat) (H : Heap) (hN : NR H (.slice a l.length c) l) (hM : NR H (.slice a2 m.length c2) m) (hl : l.length ≤ 10000) : Ct Tryd.prog 15 #[.slice a l.length c, .slice a2 m.length c2] H fun v H' => v = .bool (decide (l = m)) ∧ H' = H := by
  refine Ct.into 26 Tryd.func15 rfl [(0, .slice a l.length c), (1, .slice a2 m.length c2)] rfl ⟨rfl, rfl, trivial⟩ ?_
  refine E.seq ?_
  refine E.region ?_
  refine X.asg rfl rfl rfl rfl rfl ?_
  refine X.done [(0, _), (1, _), (4, _)] ⟨rfl, rfl, rfl, trivial⟩ ?_
  refine N.then ?_
  refine E.seq ?_
  refine E.seq ?_
  refine E.region ?_
  refine X.mv rfl rfl rfl rfl rfl ?_
  refine X.lenS rfl rfl rfl rfl rfl Tryd.underlying22 ?_
  refine X.mv rfl rfl rfl rfl rfl ?_
  refine X.lenS rfl rfl rfl rfl rfl Tryd.underlying22 ?_
  refine X.neq rfl rfl rfl rfl rfl rfl ?_
  refine X.done [(0, _), (1, _), (4, _), (10, _)] ⟨rfl, rfl, rfl, rfl, trivial⟩ ?_
  refine N.then ?_
  refine E.condD rfl (fun hc => ?_) (fun hc => ?_)
  · refine E.seq ?_
    refine E.region ?_
    refine X.asg rfl rfl rfl rfl rfl ?_
    refine X.done [(0, _), (1, _), (4, _)] ⟨rfl, rfl, rfl, trivial⟩ ?_
    refine N.then ?_
    refine E.ret ?_
    refine N.thenR ?_
    exact N.retH [_] ⟨_, _, rfl, rfl, rfl⟩ ⟨by show Value.bool false = _; rw [decide_eq_false (fun h => absurd (congrArg List.length h) (by omega))], rfl⟩
  · refine E.skip ?_
    refine N.then ?_
    refine E.seq ?_
    refine E.seq ?_
    refine E.region ?_
    refine X.asg rfl rfl rfl rfl rfl ?_
    refine X.done [(0, _), (1, _), (4, _), (5, _)] ⟨rfl, rfl, rfl, rfl, trivial⟩ ?_
    refine N.then ?_
    refine E.block ?_
    -- MISSING in G: [4]
    refine E.loop (fun (i : Nat) => [(0, .slice a l.length c), (1, .slice a2 m.length c2), (5, i64 i)]) (fun (i : Nat) H' => i ≤ l.length ∧ H' = H ∧ l.take i = m.take i) (fun (i : Nat) => l.length - i) 0 ⟨rfl, rfl, rfl, trivial⟩ ⟨Nat.zero_le _, rfl, rfl⟩ ?_
    rintro i H3 ⟨hi, eH, hJ⟩
    obtain rfl := eH.symm
    refine E.seq ?_
    refine E.seq ?_
    refine E.region ?_
    refine X.mv rfl rfl rfl rfl rfl ?_
    refine X.mv rfl rfl rfl rfl rfl ?_
    refine X.lenS rfl rfl rfl rfl rfl Tryd.underlying22 ?_
    refine X.lss rfl rfl rfl rfl rfl rfl ?_
    refine X.done [(0, _), (1, _), (5, _), (11, _), (12, _), (13, _), (14, _)] ⟨rfl, rfl, rfl, rfl, rfl, rfl, rfl, trivial⟩ ?_
    refine N.then ?_
    refine E.condD rfl (fun hc => ?_) (fun hc => ?_)
    · refine E.skip ?_
      refine N.then ?_
      refine E.seq ?_
      refine E.block ?_
      refine E.seq ?_
      have hi2 : i < l.length := Int.ofNat_lt.1 (by assumption)
      obtain ⟨x, hx⟩ := get_nd hi2
      obtain ⟨bb, oo, cs, ct, fz, hae, hbb, hcc⟩ := hN.at hx
      obtain ⟨y, hy⟩ := get_nd (l := m) (i := i) (by omega)
      obtain ⟨bb2, oo2, cs2, ct2, fz2, hae2, hbb2, hcc2⟩ := hM.at hy
      refine E.regionD (fun H' => H' = H) [(0, .pu), (1, .pu), (2, .pu), (3, .st), (4, .pu), (5, .pu), (6, .pu), (7, .st), (8, .pu)] Tryd.mixed (by kernel_rfl) (rfl) ?_
      refine X.mv rfl rfl rfl rfl rfl ?_
      refine X.mv rfl rfl rfl rfl rfl ?_
      refine X.ixAe rfl rfl rfl rfl rfl rfl Tryd.underlying22 Tryd.sz38 (hae) (by omega) ?_
      refine X.ldA rfl rfl rfl rfl Tryd.ag38 Tryd.sz38 (fun H' hF => by rw [hF]; exact hbb) (ncel_len x) hcc ?_
      refine X.mv rfl rfl rfl rfl rfl ?_
      refine X.mv rfl rfl rfl rfl rfl ?_
      refine X.ixAe rfl rfl rfl rfl rfl rfl Tryd.underlying22 Tryd.sz38 (hae2) (by omega) ?_
      refine X.ldA rfl rfl rfl rfl Tryd.ag38 Tryd.sz38 (fun H' hF => by rw [hF]; exact hbb2) (ncel_len y) hcc2 ?_
      refine X.neqN rfl rfl rfl rfl rfl rfl ?_
      refine X.done [(0, _), (1, _), (5, _), (11, _), (12, _), (13, _), (14, _), (17, _), (18, _), (19, _), (20, _), (21, _), (22, _), (23, _), (24, _), (25, _)] ⟨rfl, rfl, rfl, rfl, rfl, rfl, rfl, rfl, rfl, rfl, rfl, rfl, rfl, rfl, rfl, rfl, trivial⟩ ?_
      refine N.then ?_
      refine E.condD rfl (fun hc => ?_) (fun hc => ?_)
      · refine E.seq ?_
        refine E.region ?_
        refine X.asg rfl rfl rfl rfl rfl ?_
        refine X.done [(0, _), (1, _), (5, _), (11, _), (12, _), (13, _), (14, _), (17, _), (18, _), (19, _), (20, _), (21, _), (22, _), (23, _), (24, _), (25, _), (4, _)] ⟨rfl, rfl, rfl, rfl, rfl, rfl, rfl, rfl, rfl, rfl, rfl, rfl, rfl, rfl, rfl, rfl, rfl, trivial⟩ ?_
        refine N.then ?_
        refine E.ret ?_
        refine N.blkR ?_
        refine N.thenR ?_
        refine N.loopR ?_
        refine N.blkR ?_
        refine N.thenR ?_
        exact N.retH [_] ⟨_, _, rfl, rfl, rfl⟩ ⟨by show Value.bool false = _; rw [decide_eq_false (fun h => by rw [h, hy] at hx; have := Option.some.inj hx; exact absurd this.symm (by assumption))], rfl⟩
      · refine E.skip ?_
        refine N.blk ?_
        refine N.then ?_
        refine E.region ?_
        refine X.mv rfl rfl rfl rfl rfl ?_
        refine X.add rfl rfl rfl rfl rfl rfl (by omega) ?_
        refine X.asg rfl rfl rfl rfl rfl ?_
        refine X.done [(0, _), (1, _), (5, _), (11, _), (12, _), (13, _), (14, _), (17, _), (18, _), (19, _), (20, _), (21, _), (22, _), (23, _), (24, _), (25, _), (15, _), (16, _)] ⟨rfl, rfl, rfl, rfl, rfl, rfl, rfl, rfl, rfl, rfl, rfl, rfl, rfl, rfl, rfl, rfl, rfl, rfl, trivial⟩ ?_
        exact N.next (i + 1) ⟨rfl, rfl, rfl, trivial⟩ ⟨by omega, rfl, by rw [List.take_add_one, List.take_add_one, hJ, hx, hy, show x = y from Classical.byContradiction (by assumption)]⟩ (by omega)
    · refine E.exit ?_
      refine N.thenX ?_
      refine N.loopX ?_
      refine N.blkX ?_
      refine N.then ?_
      refine E.seq ?_
      refine E.region ?_
      refine X.asg rfl rfl rfl rfl rfl ?_
      refine X.done [(4, _)] ⟨rfl, trivial⟩ ?_
      refine N.then ?_
      refine E.ret ?_
      exact N.retH [_] ⟨_, _, rfl, rfl, rfl⟩ ⟨by show Value.bool true = _; rw [decide_eq_true (by rw [← List.take_of_length_le (l := l) (i := i) (by omega), hJ, List.take_of_length_le (by omega)])], rfl⟩

theorem kids_ct (l : List Nd) (a : Option Addr) (c i n : Nat) (x : Nd) (H : Heap) (hN : NR H (.slice a l.length c) l) (hl : l.length ≤ 1000) (hx : l[i]? = some x) (hk : x.kids = (n : Nat)) (hn : n ≤ 1000) : Ct Tryd.prog 26 #[.slice a l.length c, i64 (i : Nat)] H fun v H' => Own H' 3 1 v (kdF l n ((i + 1 : Nat) : Int)).length (iv (kdF l n ((i + 1 : Nat) : Int))) ∧ (∀ b ∈ blk v, H.size ≤ b) ∧ Kp [] H H' := by
  have hi2 := (List.getElem?_eq_some_iff.1 hx).1
  refine Ct.into 27 Tryd.func26 rfl [(0, .slice a l.length c), (1, i64 (i : Nat))] rfl ⟨rfl, rfl, trivial⟩ ?_
  refine E.seq ?_
  refine E.region ?_
  refine X.asg rfl rfl rfl rfl rfl ?_
  refine X.done [(0, _), (1, _), (4, _)] ⟨rfl, rfl, rfl, trivial⟩ ?_
  refine N.then ?_
  refine E.seq ?_
  refine E.region ?_
  refine X.asg rfl rfl rfl rfl rfl ?_
  refine X.done [(0, _), (1, _), (4, _), (5, _)] ⟨rfl, rfl, rfl, rfl, trivial⟩ ?_
  refine N.then ?_
  refine E.seq ?_
  refine E.region ?_
  refine X.mv rfl rfl rfl rfl rfl ?_
  refine X.addE (zz := ((i + 1 : Nat) : Int)) rfl rfl rfl rfl rfl rfl (by rw [IntWalk.i64_in _ (by omega)] <;> omega) ?_
  refine X.asg rfl rfl rfl rfl rfl ?_
  refine X.done [(0, _), (1, _), (4, _), (5, _), (6, _)] ⟨rfl, rfl, rfl, rfl, rfl, trivial⟩ ?_
  refine N.then ?_
  refine E.seq ?_
  refine E.seq ?_
  refine E.region ?_
  refine X.asg rfl rfl rfl rfl rfl ?_
  refine X.done [(0, _), (1, _), (4, _), (5, _), (6, _), (7, _)] ⟨rfl, rfl, rfl, rfl, rfl, rfl, trivial⟩ ?_
  refine N.then ?_
  refine E.block ?_
  refine E.loop (fun (q : DQ) => [(0, .slice a l.length c), (1, i64 (i : Nat)), (4, .slice none 0 0), (5, q.v), (6, i64 q.a), (7, i64 q.k)]) (fun (q : DQ) H' => q.k ≤ n ∧ q.d.length = q.k ∧ q.d ++ kdF l (n - q.k) q.a = kdF l n ((i + 1 : Nat) : Int) ∧ Own H' 3 1 q.v q.d.length (iv q.d) ∧ (∀ b ∈ blk q.v, H.size ≤ b) ∧ Kp [] H H') (fun (q : DQ) => n - q.k) ⟨0, ((i + 1 : Nat) : Int), .slice none 0 0, []⟩ ⟨rfl, rfl, rfl, rfl, rfl, rfl, trivial⟩ ⟨Nat.zero_le _, rfl, rfl, Own.nil _ _ _, by simp [blk], Kp.refl _ _⟩ ?_
  rintro ⟨k, t, v, d⟩ H3 hJ
  dsimp only at hJ ⊢
  obtain ⟨hkn, hdl, hJ, hO, hvb, hkk⟩ := hJ
  have hN3 := hN.keepN hkk
  obtain ⟨bb, oo, cs, ct, fz, hae, hbb, hcc⟩ := hN3.at hx
  refine E.seq ?_
  refine E.seq ?_
  refine E.region ?_
  refine X.mv rfl rfl rfl rfl rfl ?_
  refine X.mv rfl rfl rfl rfl rfl ?_
  refine X.mv rfl rfl rfl rfl rfl ?_
  refine X.ixAe rfl rfl rfl rfl rfl rfl Tryd.underlying22 Tryd.sz38 (hae) (by omega) ?_
  refine X.fld rfl rfl rfl rfl rfl Tryd.off38_1 ?_
  refine X.ld rfl rfl rfl rfl Tryd.ag3 (hbb) (by exact hcc 1 _ rfl) ?_
  refine X.lss rfl rfl rfl rfl rfl rfl ?_
  refine X.done [(0, _), (1, _), (4, _), (5, _), (6, _), (7, _), (10, _), (11, _), (12, _), (13, _), (14, _), (15, _), (16, _)] ⟨rfl, rfl, rfl, rfl, rfl, rfl, rfl, rfl, rfl, rfl, rfl, rfl, rfl, trivial⟩ ?_
  refine N.then ?_
  refine E.condD rfl (fun hc => ?_) (fun hc => ?_)
  · refine E.skip ?_
    refine N.then ?_
    refine E.seq ?_
    refine E.block ?_
    refine E.seq ?_
    refine E.region ?_
    refine X.mv rfl rfl rfl rfl rfl ?_
    refine X.mv rfl rfl rfl rfl rfl ?_
    refine X.lit (e := 3) (cs := [i64 t]) rfl rfl rfl rfl rfl (fun _ => by kernel_rfl) ?_
    intro b5 H5 hn5 hb5 hk5
    refine X.app T52 rfl rfl rfl rfl rfl rfl ((hO.keep hk5 (by simp))) (by exact .inl (rdz hb5)) (.inl ⟨3, Tryd.underlying52, _, _, rfl⟩) (iv_one _) (by first | (simp only [maxLen]; omega) | omega) (by first | (simp only [maxLen]; omega) | omega) ?_
    intro v6 H6 hO6 hk6 hb6 hn6
    have hkk5 := hkk.trans hk5 (by simp)
    have hkk6 := hkk5.trans hk6 (fun b hb => .inr (hvb b hb))
    have hvb6 : ∀ b ∈ blk v6, H.size ≤ b := fun b hb => hb6.elim (fun h => hvb b (h ▸ hb)) (fun h => Nat.le_trans hkk5.size (h b hb))
    rw [iv_app, show d.length + 1 = (d ++ [t]).length by simp] at hO6
    have hN6 := hN.keepN hkk6
    refine X.asg rfl rfl rfl rfl rfl ?_
    refine X.done [(0, _), (1, _), (4, _), (5, _), (6, _), (7, _), (10, _), (11, _), (12, _), (13, _), (14, _), (15, _), (16, _), (19, _), (20, _), (21, _), (22, _)] ⟨rfl, rfl, rfl, rfl, rfl, rfl, rfl, rfl, rfl, rfl, rfl, rfl, rfl, rfl, rfl, rfl, rfl, trivial⟩ ?_
    refine N.then ?_
    refine E.region ?_
    refine X.mv rfl rfl rfl rfl rfl ?_
    refine X.mv rfl rfl rfl rfl rfl ?_
    refine X.call rfl rfl rfl rfl rfl Tryd.cl13 (rend_ct l a c t H6 hN6 hl) ?_
    rintro _ Hx ⟨rfl, e⟩
    obtain rfl := e.symm
    refine X.asg rfl rfl rfl rfl rfl ?_
    refine X.done [(0, _), (1, _), (4, _), (5, _), (6, _), (7, _), (10, _), (11, _), (12, _), (13, _), (14, _), (15, _), (16, _), (19, _), (20, _), (21, _), (22, _), (23, _), (24, _), (25, _)] ⟨rfl, rfl, rfl, rfl, rfl, rfl, rfl, rfl, rfl, rfl, rfl, rfl, rfl, rfl, rfl, rfl, rfl, rfl, rfl, rfl, trivial⟩ ?_
    refine N.blk ?_
    refine N.then ?_
    refine E.region ?_
    refine X.mv rfl rfl rfl rfl rfl ?_
    refine X.addE (zz := ((k + 1 : Nat) : Int)) rfl rfl rfl rfl rfl rfl (by rw [IntWalk.i64_in _ (by omega)] <;> omega) ?_
    refine X.asg rfl rfl rfl rfl rfl ?_
    refine X.done [(0, _), (1, _), (4, _), (5, _), (6, _), (7, _), (10, _), (11, _), (12, _), (13, _), (14, _), (15, _), (16, _), (19, _), (20, _), (21, _), (22, _), (23, _), (24, _), (25, _), (17, _), (18, _)] ⟨rfl, rfl, rfl, rfl, rfl, rfl, rfl, rfl, rfl, rfl, rfl, rfl, rfl, rfl, rfl, rfl, rfl, rfl, rfl, rfl, rfl, rfl, trivial⟩ ?_
    exact N.next (G := fun (q : DQ) => _) ⟨k + 1, endV l t, v6, d ++ [t]⟩ ⟨rfl, rfl, rfl, rfl, rfl, rfl, trivial⟩ ⟨by show k + 1 ≤ n; omega, by simp [hdl], by rw [← hJ, show n - k = (n - (k + 1)) + 1 by omega, kdF]; simp, hO6, hvb6, hkk6⟩ (by show n - (k + 1) < n - k; omega)
  · refine E.exit ?_
    refine N.thenX ?_
    refine N.loopX ?_
    refine N.blkX ?_
    refine N.then ?_
    refine E.seq ?_
    refine E.region ?_
    refine X.mv rfl rfl rfl rfl rfl ?_
    refine X.asg rfl rfl rfl rfl rfl ?_
    refine X.done [(4, _)] ⟨rfl, trivial⟩ ?_
    refine N.then ?_
    refine E.ret ?_
    rw [show n - k = 0 by omega, show kdF l 0 t = [] from rfl, List.append_nil] at hJ
    subst hJ
    exact N.retH [_] ⟨_, _, rfl, rfl, rfl⟩ ⟨hO, hvb, hkk⟩

theorem decimal_step (n : Nat) (H : Heap) (hn : n < 100) (ih : ∀ m H', m < 10 → m < n → Ct Tryd.prog 42 #[i64 (m : Nat)] H' fun v H'' => v = str (dcm m) ∧ Kp [] H' H'') : Ct Tryd.prog 42 #[i64 (n : Nat)] H fun v H' => v = str (dcm n) ∧ Kp [] H H' := by
  refine Ct.into 17 Tryd.func42 rfl [(0, i64 (n : Nat))] rfl ⟨rfl, trivial⟩ ?_
  refine E.seq ?_
  refine E.region ?_
  refine X.asg rfl rfl rfl rfl rfl ?_
  refine X.done [(0, _), (2, _)] ⟨rfl, rfl, trivial⟩ ?_
  refine N.then ?_
  refine E.seq ?_
  refine E.seq ?_
  refine E.region ?_
  refine X.mv rfl rfl rfl rfl rfl ?_
  refine X.lss rfl rfl rfl rfl rfl rfl ?_
  refine X.done [(0, _), (2, _), (4, _)] ⟨rfl, rfl, rfl, trivial⟩ ?_
  refine N.then ?_
  refine E.condD rfl (fun hc => ?_) (fun hc => ?_)
  · refine E.seq ?_
    refine E.region ?_
    refine X.mv rfl rfl rfl rfl rfl ?_
    refine X.addE (zz := ((48 + n : Nat) : Int)) rfl rfl rfl rfl rfl rfl (by rw [IntWalk.i64_in _ (by omega)] <;> omega) ?_
    refine X.convE (zz := ((48 + n : Nat) : Int)) rfl rfl rfl rfl rfl Tryd.underlying5 Tryd.us3 (IntWalk.u8_in _ (by omega)) ?_
    refine X.lit (e := 5) (cs := [.int .u8 ((48 + n : Nat) : Int)]) rfl rfl rfl rfl rfl (fun _ => by kernel_rfl) ?_
    intro b2 H2 hn2 hb2 hk2
    refine X.b2s rfl rfl rfl rfl Tryd.underlying65 Tryd.underlying5 Tryd.underlying9 (rd_lit (s := [u8 (48 + n)]) hb2 (bv1 (by omega)) rfl) ?_
    refine X.asg rfl rfl rfl rfl rfl ?_
    refine X.done [(0, _), (2, _)] ⟨rfl, rfl, trivial⟩ ?_
    refine N.then ?_
    refine E.ret ?_
    refine N.thenR ?_
    exact N.retH [_] ⟨_, _, rfl, rfl, rfl⟩ ⟨by rw [dcm_one (by omega)]; rfl, hk2⟩
  · refine E.skip ?_
    refine N.then ?_
    refine E.seq ?_
    refine E.region ?_
    refine X.mv rfl rfl rfl rfl rfl ?_
    refine X.quoE (zz := ((n / 10 : Nat) : Int)) rfl rfl rfl rfl rfl rfl (by omega) (by rw [IntWalk.i64_quo _ _ (by omega)] <;> omega) ?_
    refine X.call rfl rfl rfl rfl rfl Tryd.cl42 (ih (n / 10) H (by omega) (by omega)) ?_
    rintro _ H3 ⟨rfl, hk3⟩
    refine X.mv rfl rfl rfl rfl rfl ?_
    refine X.remE (zz := ((n % 10 : Nat) : Int)) rfl rfl rfl rfl rfl rfl (by omega) (by rw [IntWalk.rem_in _ _ (by omega)] <;> omega) ?_
    refine X.call rfl rfl rfl rfl rfl Tryd.cl42 (ih (n % 10) H3 (by omega) (by omega)) ?_
    rintro _ H4 ⟨rfl, hk4⟩
    refine X.cat rfl rfl rfl rfl rfl rfl (by have := dcm_len (n / 10); have := dcm_len (n % 10); omega) ?_
    refine X.asg rfl rfl rfl rfl rfl ?_
    refine X.done [(2, _)] ⟨rfl, trivial⟩ ?_
    refine N.then ?_
    refine E.ret ?_
    exact N.retH [_] ⟨_, _, rfl, rfl, rfl⟩ ⟨by rw [dcm_two (by omega) hn]; rfl, hk3.trans hk4 (by simp)⟩

theorem decimal_ct (n : Nat) (H : Heap) (hn : n < 100) : Ct Tryd.prog 42 #[i64 (n : Nat)] H fun v H' => v = str (dcm n) ∧ Kp [] H H' := by
  by_cases h : n < 10
  · have : ∀ k n, n ≤ k → n < 10 → ∀ H, Ct Tryd.prog 42 #[i64 (n : Nat)] H fun v H' => v = str (dcm n) ∧ Kp [] H H' := fun k => by
      induction k with
      | zero => exact fun n h1 h2 H => decimal_step n H (by omega) (fun m H' h3 h4 => absurd h4 (by omega))
      | succ k ih => exact fun n h1 h2 H => decimal_step n H (by omega) (fun m H' h3 h4 => ih m (by omega) h3 H')
    exact this n n (Nat.le_refl _) h H
  · have : ∀ k n, n ≤ k → n < 10 → ∀ H, Ct Tryd.prog 42 #[i64 (n : Nat)] H fun v H' => v = str (dcm n) ∧ Kp [] H H' := fun k => by
      induction k with
      | zero => exact fun n h1 h2 H => decimal_step n H (by omega) (fun m H' h3 h4 => absurd h4 (by omega))
      | succ k ih => exact fun n h1 h2 H => decimal_step n H (by omega) (fun m H' h3 h4 => ih m (by omega) h3 H')
    exact decimal_step n H hn (fun m H' h1 h2 => this m m (Nat.le_refl _) h1 H')

theorem digits_step (n : Nat) (H : Heap) (hn : n < 100) (ih : ∀ m H', m < 10 → m < n → Ct Tryd.prog 32 #[i64 (m : Nat)] H' fun v H'' => v = str (dcm m) ∧ Kp [] H' H'') : Ct Tryd.prog 32 #[i64 (n : Nat)] H fun v H' => v = str (dcm n) ∧ Kp [] H H' := by
  refine Ct.into 20 Tryd.func32 rfl [(0, i64 (n : Nat))] rfl ⟨rfl, trivial⟩ ?_
  refine E.seq ?_
  refine E.region ?_
  refine X.asg rfl rfl rfl rfl rfl ?_
  refine X.done [(0, _), (2, _)] ⟨rfl, rfl, trivial⟩ ?_
  refine N.then ?_
  refine E.seq ?_
  refine E.seq ?_
  refine E.region ?_
  refine X.mv rfl rfl rfl rfl rfl ?_
  refine X.lss rfl rfl rfl rfl rfl rfl ?_
  refine X.done [(0, _), (2, _), (4, _)] ⟨rfl, rfl, rfl, trivial⟩ ?_
  refine N.then ?_
  refine E.condD rfl (fun hc => ?_) (fun hc => ?_)
  · refine E.seq ?_
    refine E.region ?_
    refine X.mv rfl rfl rfl rfl rfl ?_
    refine X.addE (zz := ((48 + n : Nat) : Int)) rfl rfl rfl rfl rfl rfl (by rw [IntWalk.i64_in _ (by omega)] <;> omega) ?_
    refine X.convE (zz := ((48 + n : Nat) : Int)) rfl rfl rfl rfl rfl Tryd.underlying5 Tryd.us3 (IntWalk.u8_in _ (by omega)) ?_
    refine X.lit (e := 5) (cs := [.int .u8 ((48 + n : Nat) : Int)]) rfl rfl rfl rfl rfl (fun _ => by kernel_rfl) ?_
    intro b2 H2 hn2 hb2 hk2
    refine X.b2s rfl rfl rfl rfl Tryd.underlying65 Tryd.underlying5 Tryd.underlying9 (rd_lit (s := [u8 (48 + n)]) hb2 (bv1 (by omega)) rfl) ?_
    refine X.asg rfl rfl rfl rfl rfl ?_
    refine X.done [(0, _), (2, _)] ⟨rfl, rfl, trivial⟩ ?_
    refine N.then ?_
    refine E.ret ?_
    refine N.thenR ?_
    exact N.retH [_] ⟨_, _, rfl, rfl, rfl⟩ ⟨by rw [dcm_one (by omega)]; rfl, hk2⟩
  · refine E.skip ?_
    refine N.then ?_
    refine E.seq ?_
    refine E.regionT (fun _ => True) (.fork [(0, .pu), (1, .pu), (3, .pu), (4, .pu), (5, .pu), (6, .pu)] 2 .mv (.lin [(7, .mv), (8, .mv), (9, .pu), (10, .pu)]) 7 .mv (.fork [] 2 .mv (.lin [(8, .mv), (9, .pu), (10, .pu)]) 8 .mv (.lin [(2, .mv), (9, .pu), (10, .pu)]))) Tryd.mixed (by kernel_rfl) (trivial) ?_
    refine X.tree [(0, _), (2, _), (4, _)] ⟨rfl, rfl, rfl, trivial⟩ ?_
    refine X.mv rfl rfl rfl rfl rfl ?_
    refine X.quoE (zz := ((n / 10 : Nat) : Int)) rfl rfl rfl rfl rfl rfl (by omega) (by rw [IntWalk.i64_quo _ _ (by omega)] <;> omega) ?_
    refine X.mv rfl rfl rfl rfl rfl ?_
    refine X.remE (zz := ((n % 10 : Nat) : Int)) rfl rfl rfl rfl rfl rfl (by omega) (by rw [IntWalk.rem_in _ _ (by omega)] <;> omega) ?_
    refine X.addE (zz := ((48 + n % 10 : Nat) : Int)) rfl rfl rfl rfl rfl rfl (by rw [IntWalk.i64_in _ (by omega)] <;> omega) ?_
    refine X.convE (zz := ((48 + n % 10 : Nat) : Int)) rfl rfl rfl rfl rfl Tryd.underlying5 Tryd.us3 (IntWalk.u8_in _ (by omega)) ?_
    refine X.fork [(0, _), (2, _), (4, _), (10, _), (11, _), (13, _), (14, _), (15, _), (16, _)] ⟨rfl, rfl, rfl, rfl, rfl, rfl, rfl, rfl, rfl, trivial⟩ ?_ ?_
    · refine X.call rfl rfl rfl rfl rfl Tryd.cl32 (ih (n / 10) _ (by omega) (by omega)) ?_
      rintro _ H3 ⟨rfl, hk3⟩
      first | (replace hb7 := hk3.keep hb7 (by simp)) | skip
      first | (have hkk := hk7.trans hk3 (by simp)) | have hkk := hk3
      refine X.lin [(0, _), (2, _), (4, _), (10, _), (11, _), (13, _), (14, _), (15, _), (16, _), (12, _)] ⟨rfl, rfl, rfl, rfl, rfl, rfl, rfl, rfl, rfl, rfl, trivial⟩ ?_
      refine X.lit (e := 5) (cs := [.int .u8 ((48 + n % 10 : Nat) : Int)]) rfl rfl rfl rfl rfl (fun _ => by kernel_rfl) ?_
      intro b7 H7 hn7 hb7 hk7
      first | (have hkk := hk3.trans hk7 (by simp)) | skip
      refine X.b2s rfl rfl rfl rfl Tryd.underlying65 Tryd.underlying5 Tryd.underlying9 (rd_lit (s := [u8 (48 + n % 10)]) hb7 (bv1 (by omega)) rfl) ?_
      refine X.cat rfl rfl rfl rfl rfl rfl (by have := dcm_len (n / 10); simp; omega) ?_
      refine X.asg rfl rfl rfl rfl rfl ?_
      refine X.done [(2, _)] ⟨rfl, trivial⟩ ?_
      refine N.then ?_
      refine E.ret ?_
      exact N.retH [_] ⟨_, _, rfl, rfl, rfl⟩ ⟨by rw [dcm_two' (by omega) hn]; rfl, hkk⟩
    · refine X.lit (e := 5) (cs := [.int .u8 ((48 + n % 10 : Nat) : Int)]) rfl rfl rfl rfl rfl (fun _ => by kernel_rfl) ?_
      intro b7 H7 hn7 hb7 hk7
      first | (have hkk := hk3.trans hk7 (by simp)) | skip
      refine X.tree [(0, _), (2, _), (4, _), (10, _), (11, _), (13, _), (14, _), (15, _), (16, _), (17, _)] ⟨rfl, rfl, rfl, rfl, rfl, rfl, rfl, rfl, rfl, rfl, trivial⟩ ?_
      refine X.fork [(0, _), (2, _), (4, _), (10, _), (11, _), (13, _), (14, _), (15, _), (16, _), (17, _)] ⟨rfl, rfl, rfl, rfl, rfl, rfl, rfl, rfl, rfl, rfl, trivial⟩ ?_ ?_
      · refine X.call rfl rfl rfl rfl rfl Tryd.cl32 (ih (n / 10) _ (by omega) (by omega)) ?_
        rintro _ H3 ⟨rfl, hk3⟩
        first | (replace hb7 := hk3.keep hb7 (by simp)) | skip
        first | (have hkk := hk7.trans hk3 (by simp)) | have hkk := hk3
        refine X.lin [(0, _), (2, _), (4, _), (10, _), (11, _), (13, _), (14, _), (15, _), (16, _), (17, _), (12, _)] ⟨rfl, rfl, rfl, rfl, rfl, rfl, rfl, rfl, rfl, rfl, rfl, trivial⟩ ?_
        refine X.b2s rfl rfl rfl rfl Tryd.underlying65 Tryd.underlying5 Tryd.underlying9 (rd_lit (s := [u8 (48 + n % 10)]) hb7 (bv1 (by omega)) rfl) ?_
        refine X.cat rfl rfl rfl rfl rfl rfl (by have := dcm_len (n / 10); simp; omega) ?_
        refine X.asg rfl rfl rfl rfl rfl ?_
        refine X.done [(2, _)] ⟨rfl, trivial⟩ ?_
        refine N.then ?_
        refine E.ret ?_
        exact N.retH [_] ⟨_, _, rfl, rfl, rfl⟩ ⟨by rw [dcm_two' (by omega) hn]; rfl, hkk⟩
      · refine X.b2s rfl rfl rfl rfl Tryd.underlying65 Tryd.underlying5 Tryd.underlying9 (rd_lit (s := [u8 (48 + n % 10)]) hb7 (bv1 (by omega)) rfl) ?_
        refine X.lin [(0, _), (2, _), (4, _), (10, _), (11, _), (13, _), (14, _), (15, _), (16, _), (17, _), (18, _)] ⟨rfl, rfl, rfl, rfl, rfl, rfl, rfl, rfl, rfl, rfl, rfl, trivial⟩ ?_
        refine X.call rfl rfl rfl rfl rfl Tryd.cl32 (ih (n / 10) _ (by omega) (by omega)) ?_
        rintro _ H3 ⟨rfl, hk3⟩
        first | (replace hb7 := hk3.keep hb7 (by simp)) | skip
        first | (have hkk := hk7.trans hk3 (by simp)) | have hkk := hk3
        refine X.cat rfl rfl rfl rfl rfl rfl (by have := dcm_len (n / 10); simp; omega) ?_
        refine X.asg rfl rfl rfl rfl rfl ?_
        refine X.done [(2, _)] ⟨rfl, trivial⟩ ?_
        refine N.then ?_
        refine E.ret ?_
        exact N.retH [_] ⟨_, _, rfl, rfl, rfl⟩ ⟨by rw [dcm_two' (by omega) hn]; rfl, hkk⟩

theorem digits_ct (n : Nat) (H : Heap) (hn : n < 100) : Ct Tryd.prog 32 #[i64 (n : Nat)] H fun v H' => v = str (dcm n) ∧ Kp [] H H' := by
  by_cases h : n < 10
  · have : ∀ k n, n ≤ k → n < 10 → ∀ H, Ct Tryd.prog 32 #[i64 (n : Nat)] H fun v H' => v = str (dcm n) ∧ Kp [] H H' := fun k => by
      induction k with
      | zero => exact fun n h1 h2 H => digits_step n H (by omega) (fun m H' h3 h4 => absurd h4 (by omega))
      | succ k ih => exact fun n h1 h2 H => digits_step n H (by omega) (fun m H' h3 h4 => ih m (by omega) h3 H')
    exact this n n (Nat.le_refl _) h H
  · have : ∀ k n, n ≤ k → n < 10 → ∀ H, Ct Tryd.prog 32 #[i64 (n : Nat)] H fun v H' => v = str (dcm n) ∧ Kp [] H H' := fun k => by
      induction k with
      | zero => exact fun n h1 h2 H => digits_step n H (by omega) (fun m H' h3 h4 => absurd h4 (by omega))
      | succ k ih => exact fun n h1 h2 H => digits_step n H (by omega) (fun m H' h3 h4 => ih m (by omega) h3 H')
    exact digits_step n H hn (fun m H' h1 h2 => this m m (Nat.le_refl _) h1 H')

theorem often_ct (x : Nd) (lo : Nat) (H : Heap) (h0 : x.low = (lo : Nat)) (h1 : lo ≤ 30) (h2 : x.high = -1 ∨ (lo : Int) ≤ x.high ∧ x.high ≤ 30) : Ct Tryd.prog 30 #[ndv x] H fun v H' => v = str (oftV x) ∧ Kp [] H H' := by
  have elo : x.low.toNat = lo := by omega
  have hlo : (ncel x)[6]? = some (i64 (lo : Nat)) := by rw [← h0]; rfl
  refine Ct.into 33 Tryd.func30 rfl [(0, ndv x)] rfl ⟨rfl, trivial⟩ ?_
  refine E.seq ?_
  refine E.region ?_
  refine X.box rfl rfl rfl rfl rfl rfl ?_
  intro b1 H1 hn1 hb1 hkk
  refine X.asg rfl rfl rfl rfl rfl ?_
  refine X.done [(1, _), (2, _)] ⟨rfl, rfl, trivial⟩ ?_
  refine N.then ?_
  refine E.seq ?_
  refine E.block ?_
  refine E.seq ?_
  refine E.region ?_
  refine X.fld rfl rfl rfl rfl rfl Tryd.off38_4 ?_
  refine X.ld rfl rfl rfl rfl Tryd.ag3 (hb1) (rfl) ?_
  refine X.eql rfl rfl rfl rfl rfl rfl ?_
  refine X.asg rfl rfl rfl rfl rfl ?_
  refine X.done [(1, _), (2, _), (3, _)] ⟨rfl, rfl, rfl, trivial⟩ ?_
  refine N.then ?_
  refine E.condD rfl (fun hc => ?_) (fun hc => ?_)
  · refine E.seq ?_
    refine E.region ?_
    refine X.fld rfl rfl rfl rfl rfl Tryd.off38_3 ?_
    refine X.ld rfl rfl rfl rfl Tryd.ag3 (hb1) (hlo) ?_
    refine X.call rfl rfl rfl rfl rfl Tryd.cl42 (decimal_ct lo _ (by omega)) ?_
    rintro _ H2 ⟨rfl, hk2⟩
    replace hkk := hkk.trans hk2 (by simp)
    replace hb1 := hk2.keep hb1 (by simp)
    refine X.cat rfl rfl rfl rfl rfl rfl (by have := dcm_len lo; simp only [List.length_append, List.length_cons, List.length_nil]; omega) ?_
    refine X.cat rfl rfl rfl rfl rfl rfl (by have := dcm_len lo; simp only [List.length_append, List.length_cons, List.length_nil]; omega) ?_
    refine X.asg rfl rfl rfl rfl rfl ?_
    refine X.done [(1, _), (2, _)] ⟨rfl, rfl, trivial⟩ ?_
    refine N.then ?_
    refine E.ret ?_
    refine N.blkR ?_
    refine N.thenR ?_
    exact N.retH [_] ⟨_, _, rfl, rfl, rfl⟩ ⟨by rw [oft_1 (by omega), elo]; rfl, hkk⟩
  · refine E.seq ?_
    refine E.region ?_
    refine X.fld rfl rfl rfl rfl rfl Tryd.off38_4 ?_
    refine X.ld rfl rfl rfl rfl Tryd.ag3 (hb1) (rfl) ?_
    refine X.fld rfl rfl rfl rfl rfl Tryd.off38_3 ?_
    refine X.ld rfl rfl rfl rfl Tryd.ag3 (hb1) (hlo) ?_
    refine X.eql rfl rfl rfl rfl rfl rfl ?_
    refine X.asg rfl rfl rfl rfl rfl ?_
    refine X.done [(1, _), (2, _), (12, _)] ⟨rfl, rfl, rfl, trivial⟩ ?_
    refine N.then ?_
    refine E.condD rfl (fun hc => ?_) (fun hc => ?_)
    · refine E.seq ?_
      refine E.region ?_
      refine X.fld rfl rfl rfl rfl rfl Tryd.off38_3 ?_
      refine X.ld rfl rfl rfl rfl Tryd.ag3 (hb1) (hlo) ?_
      refine X.call rfl rfl rfl rfl rfl Tryd.cl42 (decimal_ct lo _ (by omega)) ?_
      rintro _ H2 ⟨rfl, hk2⟩
      replace hkk := hkk.trans hk2 (by simp)
      replace hb1 := hk2.keep hb1 (by simp)
      refine X.cat rfl rfl rfl rfl rfl rfl (by have := dcm_len lo; simp only [List.length_append, List.length_cons, List.length_nil]; omega) ?_
      refine X.cat rfl rfl rfl rfl rfl rfl (by have := dcm_len lo; simp only [List.length_append, List.length_cons, List.length_nil]; omega) ?_
      refine X.asg rfl rfl rfl rfl rfl ?_
      refine X.done [(1, _), (2, _)] ⟨rfl, rfl, trivial⟩ ?_
      refine N.then ?_
      refine E.ret ?_
      refine N.blkR ?_
      refine N.thenR ?_
      exact N.retH [_] ⟨_, _, rfl, rfl, rfl⟩ ⟨by rw [oft_2 (by omega) (by omega), elo]; rfl, hkk⟩
    · refine E.skip ?_
      refine N.blk ?_
      refine N.then ?_
      refine E.seq ?_
      obtain ⟨hh, ehh⟩ := Int.eq_ofNat_of_zero_le (show 0 ≤ x.high by omega)
      have hhi : (ncel x)[7]? = some (i64 (hh : Nat)) := by rw [← ehh]; rfl
      have eh2 : x.high.toNat = hh := by omega
      refine E.regionD (fun H' => H'[b1]? = some (.cells (ncel x).toArray 38 (0, 0))) [(0, .pu), (1, .st), (5, .pu), (6, .st), (2, .mk), (3, .pu), (4, .pu), (7, .mk), (8, .pu), (9, .pu), (10, .pu)] Tryd.mixed (by kernel_rfl) (hb1) ?_
      refine X.fld rfl rfl rfl rfl rfl Tryd.off38_3 ?_
      refine X.ld rfl rfl rfl rfl Tryd.ag3 (fun H' hF => hF) (hlo) ?_
      refine X.fld rfl rfl rfl rfl rfl Tryd.off38_4 ?_
      refine X.ld rfl rfl rfl rfl Tryd.ag3 (fun H' hF => hF) (hhi) ?_
      refine X.call rfl rfl rfl rfl rfl Tryd.cl42 (decimal_ct lo _ (by omega)) ?_
      rintro _ H2 ⟨rfl, hk2⟩
      replace hkk := hkk.trans hk2 (by simp)
      replace hb1 := hk2.keep hb1 (by simp)
      refine ⟨hb1, ?_⟩
      refine X.cat rfl rfl rfl rfl rfl rfl (by have := dcm_len lo; have := dcm_len hh; simp only [List.length_append, List.length_cons, List.length_nil]; omega) ?_
      refine X.cat rfl rfl rfl rfl rfl rfl (by have := dcm_len lo; have := dcm_len hh; simp only [List.length_append, List.length_cons, List.length_nil]; omega) ?_
      refine X.call rfl rfl rfl rfl rfl Tryd.cl42 (decimal_ct hh _ (by omega)) ?_
      rintro _ H3 ⟨rfl, hk3⟩
      replace hkk := hkk.trans hk3 (by simp)
      replace hb1 := hk3.keep hb1 (by simp)
      refine ⟨hb1, ?_⟩
      refine X.cat rfl rfl rfl rfl rfl rfl (by have := dcm_len lo; have := dcm_len hh; simp only [List.length_append, List.length_cons, List.length_nil]; omega) ?_
      refine X.cat rfl rfl rfl rfl rfl rfl (by have := dcm_len lo; have := dcm_len hh; simp only [List.length_append, List.length_cons, List.length_nil]; omega) ?_
      refine X.asg rfl rfl rfl rfl rfl ?_
      refine X.done [(2, _)] ⟨rfl, trivial⟩ ?_
      refine N.then ?_
      refine E.ret ?_
      exact N.retH [_] ⟨_, _, rfl, rfl, rfl⟩ ⟨by rw [oft_3 (by omega) (by omega), elo, eh2]; rfl, hkk⟩

end Go.Proofs.YtcandjdomeompaaDoor