/- The walk: whether a tree matches the empty text, by its definition. -/
import Derived.Test.YtcandjdomeompaaDoorTF
namespace Go.Proofs.YtcandjdomeompaaDoor
open Go.SX Go.Chr
attribute [local irreducible] X E N Ct
set_option linter.unusedVariables false
set_option linter.unusedSimpArgs false

theorem rempty_step (l pre post : List Nd) (a : Option Addr) (c : Nat) (x : Nd) (ks : List T) (H : Heap) (hl : l = pre ++ flat (.nd x ks) ++ post) (hR : Rt (.nd x ks)) (hN : NR H (.slice a l.length c) l) (hlen : l.length ≤ 1000) (hkids : ∀ t ∈ ks, Rt t → RE l (.slice a l.length c) t) : Ct Tryd.prog 17 #[(.slice a l.length c), i64 (pre.length : Nat)] H fun r H' => r = .bool (nul (.nd x ks)) ∧ Kp [] H H' := by
  have hle := flat_le hl
  have hx := root_at hl
  have hrx := hR.rt x (by simp [flat])
  have hkc := kind_cases hrx
  have hkx := hR.wf.1
  have hfl0 : (flat (T.nd x ks)).length = (flats ks).length + 1 := by simp [flat]
  have hkn1 := flats_len ks
  refine Ct.into 71 Tryd.func17 rfl [(0, (.slice a l.length c)), (1, i64 (pre.length : Nat))] rfl ⟨rfl, rfl, trivial⟩ ?_
  refine E.seq ?_
  refine E.region ?_
  refine X.asg rfl rfl rfl rfl rfl ?_
  refine X.done [(0, _), (1, _), (4, _)] ⟨rfl, rfl, rfl, trivial⟩ ?_
  refine N.then ?_
  refine E.seq ?_
  refine E.region ?_
  refine X.mv rfl rfl rfl rfl rfl ?_
  refine X.mv rfl rfl rfl rfl rfl ?_
  refine X.call rfl rfl rfl rfl rfl Tryd.cl26 (kids_ct l a c pre.length ks.length x H hN hlen hx hkx (by omega)) ?_
  rintro vk H1 ⟨hO, hvb, hkk⟩
  rw [kids_pos hl hR.wf, posL_len] at hO
  obtain ⟨ka, kc, rfl⟩ := hO.len
  have hN1 := hN.keepN hkk
  obtain ⟨xb, xo, xcs, xct, xfz, hxa, hxb, hxc⟩ := hN1.at hx
  refine X.asg rfl rfl rfl rfl rfl ?_
  refine X.done [(0, _), (1, _), (4, _), (5, _)] ⟨rfl, rfl, rfl, rfl, trivial⟩ ?_
  refine N.then ?_
  refine E.seq ?_
  refine E.seq ?_
  refine E.region ?_
  refine X.mv rfl rfl rfl rfl rfl ?_
  refine X.mv rfl rfl rfl rfl rfl ?_
  refine X.ixAe rfl rfl rfl rfl rfl rfl Tryd.underlying22 Tryd.sz38 (hxa) (by omega) ?_
  refine X.fld rfl rfl rfl rfl rfl Tryd.off38_0 ?_
  refine X.ld rfl rfl rfl rfl Tryd.ag3 (hxb) (by exact hxc 0 _ rfl) ?_
  refine X.done [(0, _), (1, _), (4, _), (5, _), (15, _)] ⟨rfl, rfl, rfl, rfl, rfl, trivial⟩ ?_
  refine N.then ?_
  refine E.block ?_
  refine E.seq ?_
  refine E.seq ?_
  refine E.region ?_
  refine X.eql rfl rfl rfl rfl rfl rfl ?_
  rcases Decidable.em (x.kind = 2) with hz2 | hz2
  rw [decide_eq_true hz2]
  rotate_left
  rw [decide_eq_false hz2]
  rotate_left
  · refine X.asg rfl rfl rfl rfl rfl ?_
    refine X.done [(0, _), (1, _), (4, _), (5, _), (15, _), (16, _)] ⟨rfl, rfl, rfl, rfl, rfl, rfl, trivial⟩ ?_
    refine N.then ?_
    refine E.condT rfl ?_
    refine E.skip ?_
    refine N.then ?_
    refine E.condT rfl ?_
    refine E.seq ?_
    refine E.region ?_
    refine X.asg rfl rfl rfl rfl rfl ?_
    refine X.done [(4, _)] ⟨rfl, trivial⟩ ?_
    refine N.then ?_
    refine E.ret ?_
    refine N.blkR ?_
    refine N.thenR ?_
    exact N.retH [_] ⟨_, _, rfl, rfl, rfl⟩ ⟨by rw [nul_t (by omega)]; rfl, hkk⟩
  · refine X.asg rfl rfl rfl rfl rfl ?_
    refine X.done [(0, _), (1, _), (4, _), (5, _), (15, _), (16, _)] ⟨rfl, rfl, rfl, rfl, rfl, rfl, trivial⟩ ?_
    refine N.then ?_
    refine E.condF rfl ?_
    refine E.seq ?_
    refine E.region ?_
    refine X.eql rfl rfl rfl rfl rfl rfl ?_
    rcases Decidable.em (x.kind = 5) with hz5 | hz5
    rw [decide_eq_true hz5]
    rotate_left
    rw [decide_eq_false hz5]
    rotate_left
    · refine X.asg rfl rfl rfl rfl rfl ?_
      refine X.done [(0, _), (1, _), (4, _), (5, _), (15, _), (16, _)] ⟨rfl, rfl, rfl, rfl, rfl, rfl, trivial⟩ ?_
      refine N.then ?_
      refine E.condT rfl ?_
      refine E.skip ?_
      refine N.then ?_
      refine E.condT rfl ?_
      refine E.seq ?_
      refine E.region ?_
      refine X.asg rfl rfl rfl rfl rfl ?_
      refine X.done [(4, _)] ⟨rfl, trivial⟩ ?_
      refine N.then ?_
      refine E.ret ?_
      refine N.blkR ?_
      refine N.thenR ?_
      exact N.retH [_] ⟨_, _, rfl, rfl, rfl⟩ ⟨by rw [nul_t (by omega)]; rfl, hkk⟩
    · refine X.asg rfl rfl rfl rfl rfl ?_
      refine X.done [(0, _), (1, _), (4, _), (5, _), (15, _), (16, _)] ⟨rfl, rfl, rfl, rfl, rfl, rfl, trivial⟩ ?_
      refine N.then ?_
      refine E.condF rfl ?_
      refine E.region ?_
      refine X.eql rfl rfl rfl rfl rfl rfl ?_
      rcases Decidable.em (x.kind = 7) with hz7 | hz7
      rw [decide_eq_true hz7]
      rotate_left
      rw [decide_eq_false hz7]
      rotate_left
      · refine X.asg rfl rfl rfl rfl rfl ?_
        refine X.done [(0, _), (1, _), (4, _), (5, _), (15, _), (16, _)] ⟨rfl, rfl, rfl, rfl, rfl, rfl, trivial⟩ ?_
        refine N.then ?_
        refine E.condT rfl ?_
        refine E.seq ?_
        refine E.region ?_
        refine X.asg rfl rfl rfl rfl rfl ?_
        refine X.done [(4, _)] ⟨rfl, trivial⟩ ?_
        refine N.then ?_
        refine E.ret ?_
        refine N.blkR ?_
        refine N.thenR ?_
        exact N.retH [_] ⟨_, _, rfl, rfl, rfl⟩ ⟨by rw [nul_t (by omega)]; rfl, hkk⟩
      · refine X.asg rfl rfl rfl rfl rfl ?_
        refine X.done [(0, _), (1, _), (4, _), (5, _), (15, _), (16, _)] ⟨rfl, rfl, rfl, rfl, rfl, rfl, trivial⟩ ?_
        refine N.then ?_
        refine E.condF rfl ?_
        refine E.seq ?_
        refine E.region ?_
        refine X.eql rfl rfl rfl rfl rfl rfl ?_
        refine X.asg rfl rfl rfl rfl rfl ?_
        refine X.done [(0, _), (1, _), (4, _), (5, _), (15, _), (20, _)] ⟨rfl, rfl, rfl, rfl, rfl, rfl, trivial⟩ ?_
        refine N.then ?_
        refine E.condD rfl (fun hc => ?_) (fun hc => ?_)
        · refine E.seq ?_
          refine E.seq ?_
          refine E.region ?_
          refine X.asg rfl rfl rfl rfl rfl ?_
          refine X.done [(0, _), (4, _), (5, _), (6, _)] ⟨rfl, rfl, rfl, rfl, trivial⟩ ?_
          refine N.then ?_
          refine E.block ?_
          refine E.loop (fun (i : Nat) => [(0, (.slice a l.length c)), (4, .bool false), (5, .slice ka ks.length kc), (6, i64 i)]) (fun (i : Nat) H' => i ≤ ks.length ∧ nulA (ks.take i) = true ∧ Own H' 3 1 (.slice ka ks.length kc) ks.length (iv (posL (pre.length + 1) ks)) ∧ Kp [] H H') (fun (i : Nat) => ks.length - i) 0 ⟨rfl, rfl, rfl, rfl, trivial⟩ ⟨Nat.zero_le _, rfl, hO, hkk⟩ ?_
          clear hO hkk hxb hxc hxa hN1
          rintro i H8 ⟨hi, hs, hO, hkk⟩
          have hN3 := hN.keepN hkk
          refine E.seq ?_
          refine E.seq ?_
          refine E.region ?_
          refine X.mv rfl rfl rfl rfl rfl ?_
          refine X.mv rfl rfl rfl rfl rfl ?_
          refine X.lenS rfl rfl rfl rfl rfl Tryd.underlying52 ?_
          refine X.lss rfl rfl rfl rfl rfl rfl ?_
          refine X.done [(0, _), (4, _), (5, _), (6, _), (25, _)] ⟨rfl, rfl, rfl, rfl, rfl, trivial⟩ ?_
          refine N.then ?_
          refine E.condD rfl (fun hc => ?_) (fun hc => ?_)
          · refine E.skip ?_
            refine N.then ?_
            refine E.seq ?_
            refine E.block ?_
            refine E.seq ?_
            have hi2 : i < ks.length := by omega
            obtain ⟨t, ht⟩ := get_t hi2
            obtain ⟨hkl, hkn⟩ := kid_at hl ht
            have hRt := rt_kid hR ht
            obtain ⟨pb, po, pcs, pct, pfz, hpa, hpb, hpc⟩ := own_at hO (posL_get ks (pre.length + 1) i t ht)
            refine E.region ?_
            refine X.mv rfl rfl rfl rfl rfl ?_
            refine X.mv rfl rfl rfl rfl rfl ?_
            refine X.mv rfl rfl rfl rfl rfl ?_
            refine X.ixAe rfl rfl rfl rfl rfl rfl Tryd.underlying52 Tryd.sz3 (hpa) (by omega) ?_
            refine X.ld rfl rfl rfl rfl Tryd.ag3 (hpb) (by exact hpc) ?_
            refine X.call rfl rfl rfl rfl rfl Tryd.cl17 (hkids t (by first | exact List.mem_of_getElem? ht | simp) hRt _ _ _ _ hkl hkn hN3) ?_
            rintro _ H9 ⟨rfl, hk9⟩
            replace hkk := hkk.trans hk9 (by simp)
            replace hO := hO.keep hk9 (by simp)
            cases hnt : nul t
            · refine X.notF rfl rfl rfl rfl rfl ?_
              refine X.done [(0, _), (4, _), (5, _), (6, _), (34, _)] ⟨rfl, rfl, rfl, rfl, rfl, trivial⟩ ?_
              refine N.then ?_
              refine E.condT rfl ?_
              refine E.seq ?_
              refine E.region ?_
              refine X.asg rfl rfl rfl rfl rfl ?_
              refine X.done [(0, _), (4, _), (5, _), (6, _)] ⟨rfl, rfl, rfl, rfl, trivial⟩ ?_
              refine N.then ?_
              refine E.ret ?_
              refine N.blkR ?_
              refine N.thenR ?_
              refine N.loopR ?_
              refine N.blkR ?_
              refine N.thenR ?_
              refine N.blkR ?_
              refine N.thenR ?_
              exact N.retH [_] ⟨_, _, rfl, rfl, rfl⟩ ⟨by rw [nul_a (by omega), nulA_no ht hnt]; rfl, hkk⟩
            · refine X.notT rfl rfl rfl rfl rfl ?_
              refine X.done [(0, _), (4, _), (5, _), (6, _), (34, _)] ⟨rfl, rfl, rfl, rfl, rfl, trivial⟩ ?_
              refine N.then ?_
              refine E.condF rfl ?_
              refine E.skip ?_
              refine N.blk ?_
              refine N.then ?_
              refine E.region ?_
              refine X.mv rfl rfl rfl rfl rfl ?_
              refine X.addE (zz := ((i + 1 : Nat) : Int)) rfl rfl rfl rfl rfl rfl (by rw [IntWalk.i64_in _ (by omega)] <;> omega) ?_
              refine X.asg rfl rfl rfl rfl rfl ?_
              refine X.done [(0, _), (4, _), (5, _), (6, _)] ⟨rfl, rfl, rfl, rfl, trivial⟩ ?_
              exact N.next (i + 1) ⟨rfl, rfl, rfl, rfl, trivial⟩ ⟨by omega, by rw [nulA_take ht, hs, hnt]; rfl, hO, hkk⟩ (by omega)
          · refine E.exit ?_
            refine N.thenX ?_
            refine N.loopX ?_
            refine N.blkX ?_
            refine N.then ?_
            refine E.seq ?_
            refine E.region ?_
            refine X.asg rfl rfl rfl rfl rfl ?_
            refine X.done [(4, _)] ⟨rfl, trivial⟩ ?_
            refine N.then ?_
            refine E.ret ?_
            refine N.blkR ?_
            refine N.thenR ?_
            obtain rfl : i = ks.length := by omega
            rw [List.take_length] at hs
            exact N.retH [_] ⟨_, _, rfl, rfl, rfl⟩ ⟨by rw [nul_a (by omega), hs]; rfl, hkk⟩
        · refine E.seq ?_
          refine E.region ?_
          refine X.eql rfl rfl rfl rfl rfl rfl ?_
          refine X.asg rfl rfl rfl rfl rfl ?_
          refine X.done [(0, _), (1, _), (4, _), (5, _), (15, _), (35, _)] ⟨rfl, rfl, rfl, rfl, rfl, rfl, trivial⟩ ?_
          refine N.then ?_
          refine E.condD rfl (fun hc => ?_) (fun hc => ?_)
          · refine E.seq ?_
            refine E.seq ?_
            refine E.region ?_
            refine X.asg rfl rfl rfl rfl rfl ?_
            refine X.done [(0, _), (4, _), (5, _), (7, _)] ⟨rfl, rfl, rfl, rfl, trivial⟩ ?_
            refine N.then ?_
            refine E.block ?_
            refine E.loop (fun (i : Nat) => [(0, (.slice a l.length c)), (4, .bool false), (5, .slice ka ks.length kc), (7, i64 i)]) (fun (i : Nat) H' => i ≤ ks.length ∧ nulO (ks.take i) = false ∧ Own H' 3 1 (.slice ka ks.length kc) ks.length (iv (posL (pre.length + 1) ks)) ∧ Kp [] H H') (fun (i : Nat) => ks.length - i) 0 ⟨rfl, rfl, rfl, rfl, trivial⟩ ⟨Nat.zero_le _, rfl, hO, hkk⟩ ?_
            clear hO hkk hxb hxc hxa hN1
            rintro i H8 ⟨hi, hs, hO, hkk⟩
            have hN3 := hN.keepN hkk
            refine E.seq ?_
            refine E.seq ?_
            refine E.region ?_
            refine X.mv rfl rfl rfl rfl rfl ?_
            refine X.mv rfl rfl rfl rfl rfl ?_
            refine X.lenS rfl rfl rfl rfl rfl Tryd.underlying52 ?_
            refine X.lss rfl rfl rfl rfl rfl rfl ?_
            refine X.done [(0, _), (4, _), (5, _), (7, _), (40, _)] ⟨rfl, rfl, rfl, rfl, rfl, trivial⟩ ?_
            refine N.then ?_
            refine E.condD rfl (fun hc => ?_) (fun hc => ?_)
            · refine E.skip ?_
              refine N.then ?_
              refine E.seq ?_
              refine E.block ?_
              refine E.seq ?_
              have hi2 : i < ks.length := by omega
              obtain ⟨t, ht⟩ := get_t hi2
              obtain ⟨hkl, hkn⟩ := kid_at hl ht
              have hRt := rt_kid hR ht
              obtain ⟨pb, po, pcs, pct, pfz, hpa, hpb, hpc⟩ := own_at hO (posL_get ks (pre.length + 1) i t ht)
              refine E.region ?_
              refine X.mv rfl rfl rfl rfl rfl ?_
              refine X.mv rfl rfl rfl rfl rfl ?_
              refine X.mv rfl rfl rfl rfl rfl ?_
              refine X.ixAe rfl rfl rfl rfl rfl rfl Tryd.underlying52 Tryd.sz3 (hpa) (by omega) ?_
              refine X.ld rfl rfl rfl rfl Tryd.ag3 (hpb) (by exact hpc) ?_
              refine X.call rfl rfl rfl rfl rfl Tryd.cl17 (hkids t (by first | exact List.mem_of_getElem? ht | simp) hRt _ _ _ _ hkl hkn hN3) ?_
              rintro _ H9 ⟨rfl, hk9⟩
              replace hkk := hkk.trans hk9 (by simp)
              replace hO := hO.keep hk9 (by simp)
              cases hnt : nul t
              · refine X.done [(0, _), (4, _), (5, _), (7, _), (48, _)] ⟨rfl, rfl, rfl, rfl, rfl, trivial⟩ ?_
                refine N.then ?_
                refine E.condF rfl ?_
                refine E.skip ?_
                refine N.blk ?_
                refine N.then ?_
                refine E.region ?_
                refine X.mv rfl rfl rfl rfl rfl ?_
                refine X.addE (zz := ((i + 1 : Nat) : Int)) rfl rfl rfl rfl rfl rfl (by rw [IntWalk.i64_in _ (by omega)] <;> omega) ?_
                refine X.asg rfl rfl rfl rfl rfl ?_
                refine X.done [(0, _), (4, _), (5, _), (7, _)] ⟨rfl, rfl, rfl, rfl, trivial⟩ ?_
                exact N.next (i + 1) ⟨rfl, rfl, rfl, rfl, trivial⟩ ⟨by omega, by rw [nulO_take ht, hs, hnt]; rfl, hO, hkk⟩ (by omega)
              · refine X.done [(0, _), (4, _), (5, _), (7, _), (48, _)] ⟨rfl, rfl, rfl, rfl, rfl, trivial⟩ ?_
                refine N.then ?_
                refine E.condT rfl ?_
                refine E.seq ?_
                refine E.region ?_
                refine X.asg rfl rfl rfl rfl rfl ?_
                refine X.done [(0, _), (4, _), (5, _), (7, _)] ⟨rfl, rfl, rfl, rfl, trivial⟩ ?_
                refine N.then ?_
                refine E.ret ?_
                refine N.blkR ?_
                refine N.thenR ?_
                refine N.loopR ?_
                refine N.blkR ?_
                refine N.thenR ?_
                refine N.blkR ?_
                refine N.thenR ?_
                exact N.retH [_] ⟨_, _, rfl, rfl, rfl⟩ ⟨by rw [nul_o (by omega), nulO_yes ht hnt]; rfl, hkk⟩
            · refine E.exit ?_
              refine N.thenX ?_
              refine N.loopX ?_
              refine N.blkX ?_
              refine N.then ?_
              refine E.seq ?_
              refine E.region ?_
              refine X.asg rfl rfl rfl rfl rfl ?_
              refine X.done [(4, _)] ⟨rfl, trivial⟩ ?_
              refine N.then ?_
              refine E.ret ?_
              refine N.blkR ?_
              refine N.thenR ?_
              obtain rfl : i = ks.length := by omega
              rw [List.take_length] at hs
              exact N.retH [_] ⟨_, _, rfl, rfl, rfl⟩ ⟨by rw [nul_o (by omega), hs]; rfl, hkk⟩
          · refine E.seq ?_
            refine E.region ?_
            refine X.eql rfl rfl rfl rfl rfl rfl ?_
            refine X.asg rfl rfl rfl rfl rfl ?_
            refine X.done [(0, _), (1, _), (4, _), (5, _), (15, _), (49, _)] ⟨rfl, rfl, rfl, rfl, rfl, rfl, trivial⟩ ?_
            refine N.then ?_
            refine E.condD rfl (fun hc => ?_) (fun hc => ?_)
            · refine E.seq ?_
              obtain ⟨t, rfl⟩ := one_kid hR (by omega)
              obtain ⟨hkl, hkn⟩ := kid_at (i := 0) (t := t) hl rfl
              rw [show (flats ([t].take 0)).length = 0 from rfl, Nat.add_zero] at hkn
              have hRt := rt_kid (i := 0) (t := t) hR rfl
              obtain ⟨pb, po, pcs, pct, pfz, hpa, hpb, hpc⟩ := own_at hO (posL_get [t] (pre.length + 1) 0 t rfl)
              rw [show (flats ([t].take 0)).length = 0 from rfl, Nat.add_zero] at hpc
              have hA1 : nulA [t] = nul t := by simp [nulA]
              have h1l : [t].length = 1 := rfl
              refine E.region ?_
              refine X.mv rfl rfl rfl rfl rfl ?_
              refine X.mv rfl rfl rfl rfl rfl ?_
              refine X.ixAe rfl rfl rfl rfl rfl rfl Tryd.underlying52 Tryd.sz3 (hpa) (by omega) ?_
              refine X.ld rfl rfl rfl rfl Tryd.ag3 (hpb) (by exact hpc) ?_
              refine X.call rfl rfl rfl rfl rfl Tryd.cl17 (hkids t (by first | exact List.mem_of_getElem? ht | simp) hRt _ _ _ _ hkl hkn hN1) ?_
              rintro _ H9 ⟨rfl, hk9⟩
              replace hkk := hkk.trans hk9 (by simp)
              replace hO := hO.keep hk9 (by simp)
              refine X.asg rfl rfl rfl rfl rfl ?_
              refine X.done [(4, _)] ⟨rfl, trivial⟩ ?_
              refine N.then ?_
              refine E.ret ?_
              refine N.blkR ?_
              refine N.thenR ?_
              exact N.retH [_] ⟨_, _, rfl, rfl, rfl⟩ ⟨by rw [nul_a (by omega), hA1]; rfl, hkk⟩
            · refine E.seq ?_
              refine E.region ?_
              refine X.eql rfl rfl rfl rfl rfl rfl ?_
              refine X.asg rfl rfl rfl rfl rfl ?_
              refine X.done [(0, _), (1, _), (4, _), (5, _), (56, _)] ⟨rfl, rfl, rfl, rfl, rfl, trivial⟩ ?_
              refine N.then ?_
              refine E.condD rfl (fun hc => ?_) (fun hc => ?_)
              · refine E.seq ?_
                obtain ⟨t, rfl⟩ := one_kid hR (by omega)
                obtain ⟨hkl, hkn⟩ := kid_at (i := 0) (t := t) hl rfl
                rw [show (flats ([t].take 0)).length = 0 from rfl, Nat.add_zero] at hkn
                have hRt := rt_kid (i := 0) (t := t) hR rfl
                obtain ⟨pb, po, pcs, pct, pfz, hpa, hpb, hpc⟩ := own_at hO (posL_get [t] (pre.length + 1) 0 t rfl)
                rw [show (flats ([t].take 0)).length = 0 from rfl, Nat.add_zero] at hpc
                have hA1 : nulA [t] = nul t := by simp [nulA]
                have h1l : [t].length = 1 := rfl
                refine E.region ?_
                refine X.mv rfl rfl rfl rfl rfl ?_
                refine X.mv rfl rfl rfl rfl rfl ?_
                refine X.ixAe rfl rfl rfl rfl rfl rfl Tryd.underlying22 Tryd.sz38 (hxa) (by omega) ?_
                refine X.fld rfl rfl rfl rfl rfl Tryd.off38_3 ?_
                refine X.ld rfl rfl rfl rfl Tryd.ag3 (hxb) (by exact hxc 6 _ rfl) ?_
                refine X.eqlC rfl rfl rfl rfl rfl rfl (fun hc => ?_) (fun hc => ?_)
                · refine X.mv rfl rfl rfl rfl rfl ?_
                  refine X.skip rfl rfl rfl ?_
                  refine X.skip rfl rfl rfl ?_
                  refine X.skip rfl rfl rfl ?_
                  refine X.skip rfl rfl rfl ?_
                  refine X.skip rfl rfl rfl ?_
                  refine X.pickT rfl rfl rfl rfl rfl rfl ?_
                  refine X.asg rfl rfl rfl rfl rfl ?_
                  refine X.done [(4, _)] ⟨rfl, trivial⟩ ?_
                  refine N.then ?_
                  refine E.ret ?_
                  refine N.blkR ?_
                  refine N.thenR ?_
                  first
                    | (exact N.retH [_] ⟨_, _, rfl, rfl, rfl⟩ ⟨by rw [nul_r (by omega), decide_eq_true (show x.low = 0 by omega), Bool.or_true]; rfl, hkk⟩)
                    | (exact N.retH [_] ⟨_, _, rfl, rfl, rfl⟩ ⟨by rw [nul_r (by omega), decide_eq_false (show ¬ x.low = 0 by omega), Bool.or_false, hA1]; rfl, hkk⟩)
                · refine X.mv rfl rfl rfl rfl rfl ?_
                  refine X.mv rfl rfl rfl rfl rfl ?_
                  refine X.mv rfl rfl rfl rfl rfl ?_
                  refine X.ixAe rfl rfl rfl rfl rfl rfl Tryd.underlying52 Tryd.sz3 (hpa) (by omega) ?_
                  refine X.ld rfl rfl rfl rfl Tryd.ag3 (hpb) (by exact hpc) ?_
                  refine X.call rfl rfl rfl rfl rfl Tryd.cl17 (hkids t (by first | exact List.mem_of_getElem? ht | simp) hRt _ _ _ _ hkl hkn hN1) ?_
                  rintro _ H9 ⟨rfl, hk9⟩
                  replace hkk := hkk.trans hk9 (by simp)
                  replace hO := hO.keep hk9 (by simp)
                  refine X.pickF rfl rfl rfl rfl rfl rfl ?_
                  refine X.asg rfl rfl rfl rfl rfl ?_
                  refine X.done [(4, _)] ⟨rfl, trivial⟩ ?_
                  refine N.then ?_
                  refine E.ret ?_
                  refine N.blkR ?_
                  refine N.thenR ?_
                  first
                    | (exact N.retH [_] ⟨_, _, rfl, rfl, rfl⟩ ⟨by rw [nul_r (by omega), decide_eq_true (show x.low = 0 by omega), Bool.or_true]; rfl, hkk⟩)
                    | (exact N.retH [_] ⟨_, _, rfl, rfl, rfl⟩ ⟨by rw [nul_r (by omega), decide_eq_false (show ¬ x.low = 0 by omega), Bool.or_false, hA1]; rfl, hkk⟩)
              · refine E.skip ?_
                refine N.blk ?_
                refine N.then ?_
                refine E.seq ?_
                refine E.region ?_
                refine X.asg rfl rfl rfl rfl rfl ?_
                refine X.done [(4, _)] ⟨rfl, trivial⟩ ?_
                refine N.then ?_
                refine E.ret ?_
                exact N.retH [_] ⟨_, _, rfl, rfl, rfl⟩ ⟨by rw [nul_f (by omega)]; rfl, hkk⟩

mutual
theorem rempty_re (l : List Nd) (a : Option Addr) (c : Nat) (hlen : l.length ≤ 1000) : ∀ t : T, Rt t → RE l (.slice a l.length c) t
  | .nd x ks, hR => fun pre post p H hl hp hN => hp ▸ rempty_step l pre post a c x ks H hl hR hN hlen (rempty_res l a c hlen ks)
theorem rempty_res (l : List Nd) (a : Option Addr) (c : Nat) (hlen : l.length ≤ 1000) : ∀ ks : List T, ∀ t ∈ ks, Rt t → RE l (.slice a l.length c) t
  | [], t, ht => absurd ht (by simp)
  | u :: r, t, ht => (List.mem_cons.1 ht).elim (fun e => e ▸ rempty_re l a c hlen u) (fun h => rempty_res l a c hlen r t h)
end

end Go.Proofs.YtcandjdomeompaaDoor