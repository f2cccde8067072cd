/- The walks: a tree as text, by the document. -/
import Derived.Test.YtcandjdomeompaaDoorTD
namespace Go.Proofs.YtcandjdomeompaaDoor
open Go.SX Go.Chr
attribute [local irreducible] X E N Ct
set_option linter.unusedVariables false
set_option linter.unusedSimpArgs false
def posL : Nat → List T → List Int
  | _, [] => []
  | p, t :: r => (p : Int) :: posL (p + (flat t).length) r
theorem kd_pos {l post : List Nd} : ∀ (ks : List T) (pre : List Nd), l = pre ++ flats ks ++ post → wfs ks → kdF l ks.length ((pre.length : Nat) : Int) = posL pre.length ks
  | [], pre, _, _ => rfl
  | t :: r, pre, hl, ⟨h1, h2⟩ => by
    have e1 : l = pre ++ flat t ++ (flats r ++ post) := by rw [hl]; simp [flats]
    have e2 := kd_pos (l := l) (post := post) r (pre ++ flat t) (by rw [hl]; simp [flats]) h2
    rw [List.length_cons, kdF, endV_sub e1 h1, posL]
    rw [List.length_append] at e2
    rw [e2]
theorem posL_get : ∀ (ks : List T) (p j : Nat) (t : T), ks[j]? = some t → (posL p ks)[j]? = some ((p + (flats (ks.take j)).length : Nat) : Int)
  | [], p, j, t, h => by simp at h
  | u :: r, p, 0, t, h => by simp [posL, flats]
  | u :: r, p, j + 1, t, h => by
    have := posL_get r (p + (flat u).length) j t (by simpa using h)
    rw [posL, List.getElem?_cons_succ, this, List.take_succ_cons, flats, List.length_append]
    congr 2; omega
theorem posL_len : ∀ (ks : List T) (p : Nat), (posL p ks).length = ks.length
  | [], p => rfl
  | t :: r, p => by rw [posL, List.length_cons, posL_len r, List.length_cons]
theorem own_at {H : Heap} {a : Option Addr} {n c : Nat} {xs : List Int} (h : Own H 3 1 (.slice a n c) n (iv xs)) {i : Nat} {x : Int} (hx : xs[i]? = some x) :
    ∃ b o cs ct fz, a = some ⟨b, o, none⟩ ∧ H[b]? = some (.cells (cs : List Value).toArray ct fz) ∧ cs[o + (i : Int).toNat * 1]? = some (i64 x) := by
  obtain ⟨b, o, hR, _⟩ := Row1.of_rd h.rd
  obtain ⟨h1, cs, ct, fz, h2, h3⟩ := hR.get i (i64 x) (by rw [List.getElem?_map, hx]; rfl)
  exact ⟨b, o, cs, ct, fz, h1, h2, by rw [Int.toNat_natCast, Nat.mul_one]; exact h3⟩
theorem kids_pos {l pre post : List Nd} {x : Nd} {ks : List T} (hl : l = pre ++ flat (.nd x ks) ++ post) (hw : wf (.nd x ks)) : kdF l ks.length ((pre.length + 1 : Nat) : Int) = posL (pre.length + 1) ks := by
  have := kd_pos (l := l) (post := post) ks (pre ++ [x]) (by rw [hl, flat]; simp) hw.2
  simpa using this
/-- What the document's tree's contract is. -/
def RS (l : List Nd) (v : Value) (t : T) : Prop := ∀ (pre post : List Nd) (p : Nat) (H : Heap), l = pre ++ flat t ++ post → pre.length = p → NR H v l → Ct Tryd.prog 21 #[v, i64 (p : Nat)] H fun r H' => r = str (shT t) ∧ Kp [] H H'
def shK (k : Int) (ks : List T) : Bs := if k = 3 then shC ks else shA ks
theorem shK_3 {k : Int} {ks : List T} (h : k = 3) : shK k ks = shC ks := by unfold shK; rw [if_pos h]
theorem shK_4 {k : Int} {ks : List T} (h : k ≠ 3) : shK k ks = shA ks := by unfold shK; rw [if_neg h]
theorem shK_nil (k : Int) : shK k [] = [] := by unfold shK; split <;> rfl
theorem shK_tl {ks : List T} {i : Nat} {n : Nat} {k : Int} (h : (flats ks).length ≤ n) : (shK k (ks.take i)).length ≤ 4000 * n := by
  unfold shK; split
  · exact shC_tl h
  · exact shA_tl h
theorem wrp_y {k least : Int} {s : Bs} (h : tgt k < least) : wrp k least s = 40 :: (s ++ [41]) := by unfold wrp; rw [if_pos h]
theorem wrp_n {k least : Int} {s : Bs} (h : ¬ tgt k < least) : wrp k least s = s := by unfold wrp; rw [if_neg h]
theorem tgt_lt2 {k : Int} : tgt k < 2 ↔ k = 4 ∨ k = 3 := by
  unfold tgt; repeat' split
  all_goals omega
theorem tgt_lt1 {k : Int} : tgt k < 1 ↔ k = 4 := by
  unfold tgt; repeat' split
  all_goals omega
theorem tgt_lt3 {k : Int} : tgt k < 3 ↔ k ≠ 1 ∧ k ≠ 2 := by
  unfold tgt; repeat' split
  all_goals omega
theorem oft_a {x : Nd} {lo : Nat} (h0 : x.low = (lo : Nat)) (h : x.high = -1) : ([123] ++ dcm lo) ++ [44, 125] = oftV x := by rw [oft_1 h, h0]; rfl
theorem oft_b {x : Nd} {lo hh : Nat} (h0 : x.low = (lo : Nat)) (h1 : x.high = (hh : Nat)) (h : ¬ lo < hh) (h2 : lo ≤ hh) : ([123] ++ dcm lo) ++ [125] = oftV x := by rw [oft_2 (by omega) (by omega), h0]; rfl
theorem oft_c {x : Nd} {lo hh : Nat} (h0 : x.low = (lo : Nat)) (h1 : x.high = (hh : Nat)) (h : lo < hh) : ((([123] ++ dcm lo) ++ [44]) ++ dcm hh) ++ [125] = oftV x := by rw [oft_3 (by omega) (by omega), h0, h1]; rfl

set_option maxHeartbeats 1600000 in
theorem rshow_step (l pre post : List Nd) (a : Option Addr) (c : Nat) (x : Nd) (ks : List T) (H : Heap) (hl : l = pre ++ flat (.nd x ks) ++ post) (hR : Rt (.nd x ks)) (hN : NR H (.slice a l.length c) l) (hlen : l.length ≤ 1000) (hkids : ∀ t ∈ ks, Rt t → RS l (.slice a l.length c) t) : Ct Tryd.prog 21 #[(.slice a l.length c), i64 (pre.length : Nat)] H fun r H' => r = str (shT (.nd x ks)) ∧ Kp [] H H' := by
  have hle := flat_le hl
  have hx := root_at hl
  have hrx := hR.rt x (by simp [flat])
  have hkc := kind_cases hrx
  have hkx := hR.wf.1
  have hfl0 : (flat (T.nd x ks)).length = (flats ks).length + 1 := by simp [flat]
  have hfl : (flats ks).length ≤ 1000 := by omega
  have hkn1 := flats_len ks
  have hss := shS_len x.set
  refine Ct.into 171 Tryd.func21 rfl [(0, (.slice a l.length c)), (1, i64 (pre.length : Nat))] rfl ⟨rfl, rfl, trivial⟩ ?_
  refine E.seq ?_
  refine E.region ?_
  refine X.asg rfl rfl rfl rfl rfl ?_
  refine X.done [(0, _), (1, _), (4, _)] ⟨rfl, rfl, rfl, trivial⟩ ?_
  refine N.then ?_
  refine E.seq ?_
  refine E.region ?_
  refine X.mv rfl rfl rfl rfl rfl ?_
  refine X.mv rfl rfl rfl rfl rfl ?_
  refine X.call rfl rfl rfl rfl rfl Tryd.cl26 (kids_ct l a c pre.length ks.length x H hN hlen hx hkx (by omega)) ?_
  rintro vk H1 ⟨hO, hvb, hkk⟩
  rw [kids_pos hl hR.wf, posL_len] at hO
  obtain ⟨ka, kc, rfl⟩ := hO.len
  have hN1 := hN.keepN hkk
  obtain ⟨xb, xo, xcs, xct, xfz, hxa, hxb, hxc⟩ := hN1.at hx
  refine X.asg rfl rfl rfl rfl rfl ?_
  refine X.done [(0, _), (1, _), (4, _), (5, _)] ⟨rfl, rfl, rfl, rfl, trivial⟩ ?_
  refine N.then ?_
  refine E.seq ?_
  refine E.region ?_
  refine X.asg rfl rfl rfl rfl rfl ?_
  refine X.done [(0, _), (1, _), (4, _), (5, _), (6, _)] ⟨rfl, rfl, rfl, rfl, rfl, trivial⟩ ?_
  refine N.then ?_
  refine E.seq ?_
  refine E.seq ?_
  refine E.region ?_
  refine X.mv rfl rfl rfl rfl rfl ?_
  refine X.mv rfl rfl rfl rfl rfl ?_
  refine X.ixAe rfl rfl rfl rfl rfl rfl Tryd.underlying22 Tryd.sz38 (hxa) (by omega) ?_
  refine X.fld rfl rfl rfl rfl rfl Tryd.off38_0 ?_
  refine X.ld rfl rfl rfl rfl Tryd.ag3 (hxb) (by exact hxc 0 _ rfl) ?_
  refine X.done [(0, _), (1, _), (4, _), (5, _), (6, _), (16, _)] ⟨rfl, rfl, rfl, rfl, rfl, rfl, trivial⟩ ?_
  refine N.then ?_
  refine E.block ?_
  refine E.seq ?_
  refine E.region ?_
  refine X.eql rfl rfl rfl rfl rfl rfl ?_
  refine X.asg rfl rfl rfl rfl rfl ?_
  refine X.done [(0, _), (1, _), (4, _), (5, _), (6, _), (16, _), (17, _)] ⟨rfl, rfl, rfl, rfl, rfl, rfl, rfl, trivial⟩ ?_
  refine N.then ?_
  refine E.condD rfl (fun hc => ?_) (fun hc => ?_)
  · refine E.seq ?_
    refine E.region ?_
    refine X.mv rfl rfl rfl rfl rfl ?_
    refine X.mv rfl rfl rfl rfl rfl ?_
    refine X.ixAe rfl rfl rfl rfl rfl rfl Tryd.underlying22 Tryd.sz38 (hxa) (by omega) ?_
    refine X.fld rfl rfl rfl rfl rfl Tryd.off38_2 ?_
    refine X.ldA rfl rfl rfl rfl Tryd.ag36 Tryd.sz36 (hxb) (uv4 x.set.2) (fun j v h => by have := hxc _ _ (ncel_set x j v h); rw [← Nat.add_assoc] at this; exact this) ?_
    refine X.call rfl rfl rfl rfl rfl Tryd.cl31 (rshow_ct x.set.1 _ x.set.2) ?_
    rintro _ H5 ⟨rfl, hk5⟩
    replace hkk := hkk.trans hk5 (by simp)
    refine X.asg rfl rfl rfl rfl rfl ?_
    refine X.done [(0, _), (1, _), (4, _), (5, _)] ⟨rfl, rfl, rfl, rfl, trivial⟩ ?_
    refine N.then ?_
    refine E.ret ?_
    refine N.blkR ?_
    refine N.thenR ?_
    rw [shT_1 (by omega)]
    exact N.retH [_] ⟨_, _, rfl, rfl, rfl⟩ ⟨rfl, hkk⟩
  · refine E.seq ?_
    refine E.region ?_
    refine X.eql rfl rfl rfl rfl rfl rfl ?_
    refine X.asg rfl rfl rfl rfl rfl ?_
    refine X.done [(0, _), (1, _), (4, _), (5, _), (6, _), (16, _), (25, _)] ⟨rfl, rfl, rfl, rfl, rfl, rfl, rfl, trivial⟩ ?_
    refine N.then ?_
    refine E.condD rfl (fun hc => ?_) (fun hc => ?_)
    · refine E.seq ?_
      refine E.region ?_
      refine X.asg rfl rfl rfl rfl rfl ?_
      refine X.done [(0, _), (1, _), (4, _), (5, _)] ⟨rfl, rfl, rfl, rfl, trivial⟩ ?_
      refine N.then ?_
      refine E.ret ?_
      refine N.blkR ?_
      refine N.thenR ?_
      rw [shT_2 (by omega)]
      exact N.retH [_] ⟨_, _, rfl, rfl, rfl⟩ ⟨rfl, hkk⟩
    · refine E.seq ?_
      refine E.seq ?_
      refine E.region ?_
      refine X.eql rfl rfl rfl rfl rfl rfl ?_
      rcases Decidable.em (x.kind = 3) with hz | hz
      rw [decide_eq_true hz]
      rotate_left
      rw [decide_eq_false hz]
      rotate_left
      · refine X.asg rfl rfl rfl rfl rfl ?_
        refine X.done [(0, _), (1, _), (4, _), (5, _), (6, _), (16, _), (27, _)] ⟨rfl, rfl, rfl, rfl, rfl, rfl, rfl, trivial⟩ ?_
        refine N.then ?_
        refine E.condT rfl ?_
        refine E.skip ?_
        refine N.then ?_
        refine E.condT rfl ?_
        refine E.seq ?_
        refine E.seq ?_
        refine E.region ?_
        refine X.asg rfl rfl rfl rfl rfl ?_
        refine X.done [(0, _), (1, _), (4, _), (5, _), (6, _), (7, _)] ⟨rfl, rfl, rfl, rfl, rfl, rfl, trivial⟩ ?_
        refine N.then ?_
        refine E.block ?_
        refine E.loop (fun (q : WQ) => [(0, (.slice a l.length c)), (1, i64 (pre.length : Nat)), (4, str []), (5, .slice ka ks.length kc), (6, str q.s), (7, i64 q.i)]) (fun (q : WQ) H' => q.i ≤ ks.length ∧ q.s = shK x.kind (ks.take q.i) ∧ Own H' 3 1 (.slice ka ks.length kc) ks.length (iv (posL (pre.length + 1) ks)) ∧ Kp [] H H') (fun (q : WQ) => ks.length - q.i) ⟨0, []⟩ ⟨rfl, rfl, rfl, rfl, rfl, rfl, trivial⟩ ⟨Nat.zero_le _, (shK_nil _).symm, hO, hkk⟩ ?_
        clear hO hkk hxb hxc hxa hN1
        rintro ⟨i, s⟩ H8 hJ
        dsimp only at hJ ⊢
        obtain ⟨hi, hs, hO, hkk⟩ := hJ
        have hN3 := hN.keepN hkk
        refine E.seq ?_
        refine E.seq ?_
        refine E.region ?_
        refine X.mv rfl rfl rfl rfl rfl ?_
        refine X.mv rfl rfl rfl rfl rfl ?_
        refine X.lenS rfl rfl rfl rfl rfl Tryd.underlying52 ?_
        refine X.lss rfl rfl rfl rfl rfl rfl ?_
        refine X.done [(0, _), (1, _), (4, _), (5, _), (6, _), (7, _), (33, _)] ⟨rfl, rfl, rfl, rfl, rfl, rfl, rfl, trivial⟩ ?_
        refine N.then ?_
        refine E.condD rfl (fun hc => ?_) (fun hc => ?_)
        · refine E.skip ?_
          refine N.then ?_
          refine E.seq ?_
          refine E.block ?_
          refine E.seq ?_
          refine E.seq ?_
          have hi2 : i < ks.length := by omega
          obtain ⟨t, ht⟩ := get_t hi2
          obtain ⟨hkl, hkn⟩ := kid_at hl ht
          have hRt := rt_kid hR ht
          have hlt := shT_tl hkl hlen
          have hpos := flat_le hkl
          rw [hkn] at hpos
          have hpp := flat_pos t
          have hsl := shK_tl (i := i) (k := x.kind) hfl
          obtain ⟨y, hy, hyk⟩ := root_k hkl
          rw [hkn] at hy
          obtain ⟨pb, po, pcs, pct, pfz, hpa, hpb, hpc⟩ := own_at hO (posL_get ks (pre.length + 1) i t ht)
          obtain ⟨yb, yo, ycs, yct, yfz, hya, hyb, hyc⟩ := hN3.at hy
          obtain ⟨xb, xo, xcs, xct, xfz, hxa, hxb, hxc⟩ := hN3.at hx
          have hykd : ycs[yo + (pre.length + 1 + (flats (ks.take i)).length) * 8 + 0]? = some (i64 (rk t)) := by rw [← hyk]; exact hyc 0 _ rfl
          refine E.region ?_
          refine X.mv rfl rfl rfl rfl rfl ?_
          refine X.gtrC rfl rfl rfl rfl rfl rfl (fun hc => ?_) (fun hc => ?_)
          · refine X.mv rfl rfl rfl rfl rfl ?_
            refine X.mv rfl rfl rfl rfl rfl ?_
            refine X.mv rfl rfl rfl rfl rfl ?_
            refine X.ixAe rfl rfl rfl rfl rfl rfl Tryd.underlying22 Tryd.sz38 (hxa) (by omega) ?_
            refine X.fld rfl rfl rfl rfl rfl Tryd.off38_0 ?_
            refine X.ld rfl rfl rfl rfl Tryd.ag3 (hxb) (by exact hxc 0 _ rfl) ?_
            refine X.eql rfl rfl rfl rfl rfl rfl ?_
            refine X.pickT rfl rfl rfl rfl rfl rfl ?_
            refine X.done [(0, _), (1, _), (4, _), (5, _), (6, _), (7, _), (45, _)] ⟨rfl, rfl, rfl, rfl, rfl, rfl, rfl, trivial⟩ ?_
            refine N.then ?_
            refine E.condD rfl (fun hc => ?_) (fun hc => ?_)
            · refine E.region ?_
              refine X.mv rfl rfl rfl rfl rfl ?_
              refine X.cat rfl rfl rfl rfl rfl rfl (by (try simp only [List.length_append, List.length_cons, List.length_nil]); (try rw [hs]); omega) ?_
              refine X.asg rfl rfl rfl rfl rfl ?_
              refine X.done [(0, _), (1, _), (4, _), (5, _), (6, _), (7, _)] ⟨rfl, rfl, rfl, rfl, rfl, rfl, trivial⟩ ?_
              refine N.then ?_
              refine E.seq ?_
              refine E.region ?_
              refine X.mv rfl rfl rfl rfl rfl ?_
              refine X.mv rfl rfl rfl rfl rfl ?_
              refine X.mv rfl rfl rfl rfl rfl ?_
              refine X.ixAe rfl rfl rfl rfl rfl rfl Tryd.underlying52 Tryd.sz3 (hpa) (by omega) ?_
              refine X.ld rfl rfl rfl rfl Tryd.ag3 (hpb) (by exact hpc) ?_
              refine X.ixAe rfl rfl rfl rfl rfl rfl Tryd.underlying22 Tryd.sz38 (hya) (by omega) ?_
              refine X.fld rfl rfl rfl rfl rfl Tryd.off38_0 ?_
              refine X.ld rfl rfl rfl rfl Tryd.ag3 (hyb) (by exact hykd) ?_
              refine X.asg rfl rfl rfl rfl rfl ?_
              refine X.done [(0, _), (1, _), (4, _), (5, _), (6, _), (7, _), (8, _)] ⟨rfl, rfl, rfl, rfl, rfl, rfl, rfl, trivial⟩ ?_
              refine N.then ?_
              refine E.seq ?_
              refine E.region ?_
              refine X.mv rfl rfl rfl rfl rfl ?_
              refine X.eqlC rfl rfl rfl rfl rfl rfl (fun hc => ?_) (fun hc => ?_)
              · refine X.mv rfl rfl rfl rfl rfl ?_
                refine X.skip rfl rfl rfl ?_
                refine X.skip rfl rfl rfl ?_
                refine X.skip rfl rfl rfl ?_
                refine X.skip rfl rfl rfl ?_
                refine X.skip rfl rfl rfl ?_
                refine X.skip rfl rfl rfl ?_
                refine X.skip rfl rfl rfl ?_
                refine X.skip rfl rfl rfl ?_
                refine X.skip rfl rfl rfl ?_
                refine X.skip rfl rfl rfl ?_
                refine X.pickT rfl rfl rfl rfl rfl rfl ?_
                refine X.done [(0, _), (1, _), (4, _), (5, _), (6, _), (7, _), (69, _)] ⟨rfl, rfl, rfl, rfl, rfl, rfl, rfl, trivial⟩ ?_
                refine N.then ?_
                refine E.condT rfl ?_
                refine E.region ?_
                refine X.mv rfl rfl rfl rfl rfl ?_
                refine X.cat rfl rfl rfl rfl rfl rfl (by (try simp only [List.length_append, List.length_cons, List.length_nil]); (try rw [hs]); omega) ?_
                refine X.mv rfl rfl rfl rfl rfl ?_
                refine X.mv rfl rfl rfl rfl rfl ?_
                refine X.mv rfl rfl rfl rfl rfl ?_
                refine X.ixAe rfl rfl rfl rfl rfl rfl Tryd.underlying52 Tryd.sz3 (hpa) (by omega) ?_
                refine X.ld rfl rfl rfl rfl Tryd.ag3 (hpb) (by exact hpc) ?_
                refine X.call rfl rfl rfl rfl rfl Tryd.cl21 (hkids t (List.mem_of_getElem? ht) hRt _ _ _ _ hkl hkn hN3) ?_
                rintro _ H9 ⟨rfl, hk9⟩
                replace hkk := hkk.trans hk9 (by simp)
                replace hO := hO.keep hk9 (by simp)
                refine X.cat rfl rfl rfl rfl rfl rfl (by (try simp only [List.length_append, List.length_cons, List.length_nil]); (try rw [hs]); omega) ?_
                refine X.cat rfl rfl rfl rfl rfl rfl (by (try simp only [List.length_append, List.length_cons, List.length_nil]); (try rw [hs]); omega) ?_
                refine X.asg rfl rfl rfl rfl rfl ?_
                refine X.done [(0, _), (1, _), (4, _), (5, _), (6, _), (7, _)] ⟨rfl, rfl, rfl, rfl, rfl, rfl, trivial⟩ ?_
                refine N.blk ?_
                refine N.then ?_
                refine E.region ?_
                refine X.mv rfl rfl rfl rfl rfl ?_
                refine X.addE (zz := ((i + 1 : Nat) : Int)) rfl rfl rfl rfl rfl rfl (by rw [IntWalk.i64_in _ (by omega)] <;> omega) ?_
                refine X.asg rfl rfl rfl rfl rfl ?_
                refine X.done [(0, _), (1, _), (4, _), (5, _), (6, _), (7, _)] ⟨rfl, rfl, rfl, rfl, rfl, rfl, trivial⟩ ?_
                first
                  | exact N.next (G := fun (q : WQ) => _) ⟨i + 1, s ++ [40] ++ shT t ++ [41]⟩ ⟨rfl, rfl, rfl, rfl, rfl, rfl, trivial⟩ ⟨by show i + 1 ≤ ks.length; omega, by rw [hs, shK_3 (by omega), shK_3 (by omega), shC_take ht, wrp_y (tgt_lt2.2 (by omega))]; simp, hO, hkk⟩ (by show ks.length - (i + 1) < ks.length - i; omega)
                  | exact N.next (G := fun (q : WQ) => _) ⟨i + 1, s ++ shT t⟩ ⟨rfl, rfl, rfl, rfl, rfl, rfl, trivial⟩ ⟨by show i + 1 ≤ ks.length; omega, by rw [hs, shK_3 (by omega), shK_3 (by omega), shC_take ht, wrp_n (fun h => by have := tgt_lt2.1 h; omega)], hO, hkk⟩ (by show ks.length - (i + 1) < ks.length - i; omega)
                  | exact N.next (G := fun (q : WQ) => _) ⟨i + 1, s ++ [40] ++ shT t ++ [41]⟩ ⟨rfl, rfl, rfl, rfl, rfl, rfl, trivial⟩ ⟨by show i + 1 ≤ ks.length; omega, by rw [hs, shK_4 (by omega), shK_4 (by omega), shA_first ht (by omega), wrp_y (tgt_lt1.2 (by omega))]; simp, hO, hkk⟩ (by show ks.length - (i + 1) < ks.length - i; omega)
                  | exact N.next (G := fun (q : WQ) => _) ⟨i + 1, s ++ shT t⟩ ⟨rfl, rfl, rfl, rfl, rfl, rfl, trivial⟩ ⟨by show i + 1 ≤ ks.length; omega, by rw [hs, shK_4 (by omega), shK_4 (by omega), shA_first ht (by omega), wrp_n (fun h => by have := tgt_lt1.1 h; omega)], hO, hkk⟩ (by show ks.length - (i + 1) < ks.length - i; omega)
                  | exact N.next (G := fun (q : WQ) => _) ⟨i + 1, s ++ [124] ++ [40] ++ shT t ++ [41]⟩ ⟨rfl, rfl, rfl, rfl, rfl, rfl, trivial⟩ ⟨by show i + 1 ≤ ks.length; omega, by rw [hs, shK_4 (by omega), shK_4 (by omega), shA_take ht (by omega), wrp_y (tgt_lt1.2 (by omega))]; simp, hO, hkk⟩ (by show ks.length - (i + 1) < ks.length - i; omega)
                  | exact N.next (G := fun (q : WQ) => _) ⟨i + 1, s ++ [124] ++ shT t⟩ ⟨rfl, rfl, rfl, rfl, rfl, rfl, trivial⟩ ⟨by show i + 1 ≤ ks.length; omega, by rw [hs, shK_4 (by omega), shK_4 (by omega), shA_take ht (by omega), wrp_n (fun h => by have := tgt_lt1.1 h; omega)]; simp, hO, hkk⟩ (by show ks.length - (i + 1) < ks.length - i; omega)
              · refine X.mv rfl rfl rfl rfl rfl ?_
                refine X.mv rfl rfl rfl rfl rfl ?_
                refine X.eqlC rfl rfl rfl rfl rfl rfl (fun hc => ?_) (fun hc => ?_)
                · refine X.mv rfl rfl rfl rfl rfl ?_
                  refine X.mv rfl rfl rfl rfl rfl ?_
                  refine X.mv rfl rfl rfl rfl rfl ?_
                  refine X.ixAe rfl rfl rfl rfl rfl rfl Tryd.underlying22 Tryd.sz38 (hxa) (by omega) ?_
                  refine X.fld rfl rfl rfl rfl rfl Tryd.off38_0 ?_
                  refine X.ld rfl rfl rfl rfl Tryd.ag3 (hxb) (by exact hxc 0 _ rfl) ?_
                  refine X.eql rfl rfl rfl rfl rfl rfl ?_
                  refine X.pickT rfl rfl rfl rfl rfl rfl ?_
                  refine X.pickF rfl rfl rfl rfl rfl rfl ?_
                  refine X.done [(0, _), (1, _), (4, _), (5, _), (6, _), (7, _), (69, _)] ⟨rfl, rfl, rfl, rfl, rfl, rfl, rfl, trivial⟩ ?_
                  refine N.then ?_
                  refine E.condD rfl (fun hc => ?_) (fun hc => ?_)
                  · refine E.region ?_
                    refine X.mv rfl rfl rfl rfl rfl ?_
                    refine X.cat rfl rfl rfl rfl rfl rfl (by (try simp only [List.length_append, List.length_cons, List.length_nil]); (try rw [hs]); omega) ?_
                    refine X.mv rfl rfl rfl rfl rfl ?_
                    refine X.mv rfl rfl rfl rfl rfl ?_
                    refine X.mv rfl rfl rfl rfl rfl ?_
                    refine X.ixAe rfl rfl rfl rfl rfl rfl Tryd.underlying52 Tryd.sz3 (hpa) (by omega) ?_
                    refine X.ld rfl rfl rfl rfl Tryd.ag3 (hpb) (by exact hpc) ?_
                    refine X.call rfl rfl rfl rfl rfl Tryd.cl21 (hkids t (List.mem_of_getElem? ht) hRt _ _ _ _ hkl hkn hN3) ?_
                    rintro _ H9 ⟨rfl, hk9⟩
                    replace hkk := hkk.trans hk9 (by simp)
                    replace hO := hO.keep hk9 (by simp)
                    refine X.cat rfl rfl rfl rfl rfl rfl (by (try simp only [List.length_append, List.length_cons, List.length_nil]); (try rw [hs]); omega) ?_
                    refine X.cat rfl rfl rfl rfl rfl rfl (by (try simp only [List.length_append, List.length_cons, List.length_nil]); (try rw [hs]); omega) ?_
                    refine X.asg rfl rfl rfl rfl rfl ?_
                    refine X.done [(0, _), (1, _), (4, _), (5, _), (6, _), (7, _)] ⟨rfl, rfl, rfl, rfl, rfl, rfl, trivial⟩ ?_
                    refine N.blk ?_
                    refine N.then ?_
                    refine E.region ?_
                    refine X.mv rfl rfl rfl rfl rfl ?_
                    refine X.addE (zz := ((i + 1 : Nat) : Int)) rfl rfl rfl rfl rfl rfl (by rw [IntWalk.i64_in _ (by omega)] <;> omega) ?_
                    refine X.asg rfl rfl rfl rfl rfl ?_
                    refine X.done [(0, _), (1, _), (4, _), (5, _), (6, _), (7, _)] ⟨rfl, rfl, rfl, rfl, rfl, rfl, trivial⟩ ?_
                    first
                      | exact N.next (G := fun (q : WQ) => _) ⟨i + 1, s ++ [40] ++ shT t ++ [41]⟩ ⟨rfl, rfl, rfl, rfl, rfl, rfl, trivial⟩ ⟨by show i + 1 ≤ ks.length; omega, by rw [hs, shK_3 (by omega), shK_3 (by omega), shC_take ht, wrp_y (tgt_lt2.2 (by omega))]; simp, hO, hkk⟩ (by show ks.length - (i + 1) < ks.length - i; omega)
                      | exact N.next (G := fun (q : WQ) => _) ⟨i + 1, s ++ shT t⟩ ⟨rfl, rfl, rfl, rfl, rfl, rfl, trivial⟩ ⟨by show i + 1 ≤ ks.length; omega, by rw [hs, shK_3 (by omega), shK_3 (by omega), shC_take ht, wrp_n (fun h => by have := tgt_lt2.1 h; omega)], hO, hkk⟩ (by show ks.length - (i + 1) < ks.length - i; omega)
                      | exact N.next (G := fun (q : WQ) => _) ⟨i + 1, s ++ [40] ++ shT t ++ [41]⟩ ⟨rfl, rfl, rfl, rfl, rfl, rfl, trivial⟩ ⟨by show i + 1 ≤ ks.length; omega, by rw [hs, shK_4 (by omega), shK_4 (by omega), shA_first ht (by omega), wrp_y (tgt_lt1.2 (by omega))]; simp, hO, hkk⟩ (by show ks.length - (i + 1) < ks.length - i; omega)
                      | exact N.next (G := fun (q : WQ) => _) ⟨i + 1, s ++ shT t⟩ ⟨rfl, rfl, rfl, rfl, rfl, rfl, trivial⟩ ⟨by show i + 1 ≤ ks.length; omega, by rw [hs, shK_4 (by omega), shK_4 (by omega), shA_first ht (by omega), wrp_n (fun h => by have := tgt_lt1.1 h; omega)], hO, hkk⟩ (by show ks.length - (i + 1) < ks.length - i; omega)
                      | exact N.next (G := fun (q : WQ) => _) ⟨i + 1, s ++ [124] ++ [40] ++ shT t ++ [41]⟩ ⟨rfl, rfl, rfl, rfl, rfl, rfl, trivial⟩ ⟨by show i + 1 ≤ ks.length; omega, by rw [hs, shK_4 (by omega), shK_4 (by omega), shA_take ht (by omega), wrp_y (tgt_lt1.2 (by omega))]; simp, hO, hkk⟩ (by show ks.length - (i + 1) < ks.length - i; omega)
                      | exact N.next (G := fun (q : WQ) => _) ⟨i + 1, s ++ [124] ++ shT t⟩ ⟨rfl, rfl, rfl, rfl, rfl, rfl, trivial⟩ ⟨by show i + 1 ≤ ks.length; omega, by rw [hs, shK_4 (by omega), shK_4 (by omega), shA_take ht (by omega), wrp_n (fun h => by have := tgt_lt1.1 h; omega)]; simp, hO, hkk⟩ (by show ks.length - (i + 1) < ks.length - i; omega)
                  · refine E.region ?_
                    refine X.mv rfl rfl rfl rfl rfl ?_
                    refine X.mv rfl rfl rfl rfl rfl ?_
                    refine X.mv rfl rfl rfl rfl rfl ?_
                    refine X.mv rfl rfl rfl rfl rfl ?_
                    refine X.ixAe rfl rfl rfl rfl rfl rfl Tryd.underlying52 Tryd.sz3 (hpa) (by omega) ?_
                    refine X.ld rfl rfl rfl rfl Tryd.ag3 (hpb) (by exact hpc) ?_
                    refine X.call rfl rfl rfl rfl rfl Tryd.cl21 (hkids t (List.mem_of_getElem? ht) hRt _ _ _ _ hkl hkn hN3) ?_
                    rintro _ H9 ⟨rfl, hk9⟩
                    replace hkk := hkk.trans hk9 (by simp)
                    replace hO := hO.keep hk9 (by simp)
                    refine X.cat rfl rfl rfl rfl rfl rfl (by (try simp only [List.length_append, List.length_cons, List.length_nil]); (try rw [hs]); omega) ?_
                    refine X.asg rfl rfl rfl rfl rfl ?_
                    refine X.done [(0, _), (1, _), (4, _), (5, _), (6, _), (7, _)] ⟨rfl, rfl, rfl, rfl, rfl, rfl, trivial⟩ ?_
                    refine N.blk ?_
                    refine N.then ?_
                    refine E.region ?_
                    refine X.mv rfl rfl rfl rfl rfl ?_
                    refine X.addE (zz := ((i + 1 : Nat) : Int)) rfl rfl rfl rfl rfl rfl (by rw [IntWalk.i64_in _ (by omega)] <;> omega) ?_
                    refine X.asg rfl rfl rfl rfl rfl ?_
                    refine X.done [(0, _), (1, _), (4, _), (5, _), (6, _), (7, _)] ⟨rfl, rfl, rfl, rfl, rfl, rfl, trivial⟩ ?_
                    first
                      | exact N.next (G := fun (q : WQ) => _) ⟨i + 1, s ++ [40] ++ shT t ++ [41]⟩ ⟨rfl, rfl, rfl, rfl, rfl, rfl, trivial⟩ ⟨by show i + 1 ≤ ks.length; omega, by rw [hs, shK_3 (by omega), shK_3 (by omega), shC_take ht, wrp_y (tgt_lt2.2 (by omega))]; simp, hO, hkk⟩ (by show ks.length - (i + 1) < ks.length - i; omega)
                      | exact N.next (G := fun (q : WQ) => _) ⟨i + 1, s ++ shT t⟩ ⟨rfl, rfl, rfl, rfl, rfl, rfl, trivial⟩ ⟨by show i + 1 ≤ ks.length; omega, by rw [hs, shK_3 (by omega), shK_3 (by omega), shC_take ht, wrp_n (fun h => by have := tgt_lt2.1 h; omega)], hO, hkk⟩ (by show ks.length - (i + 1) < ks.length - i; omega)
                      | exact N.next (G := fun (q : WQ) => _) ⟨i + 1, s ++ [40] ++ shT t ++ [41]⟩ ⟨rfl, rfl, rfl, rfl, rfl, rfl, trivial⟩ ⟨by show i + 1 ≤ ks.length; omega, by rw [hs, shK_4 (by omega), shK_4 (by omega), shA_first ht (by omega), wrp_y (tgt_lt1.2 (by omega))]; simp, hO, hkk⟩ (by show ks.length - (i + 1) < ks.length - i; omega)
                      | exact N.next (G := fun (q : WQ) => _) ⟨i + 1, s ++ shT t⟩ ⟨rfl, rfl, rfl, rfl, rfl, rfl, trivial⟩ ⟨by show i + 1 ≤ ks.length; omega, by rw [hs, shK_4 (by omega), shK_4 (by omega), shA_first ht (by omega), wrp_n (fun h => by have := tgt_lt1.1 h; omega)], hO, hkk⟩ (by show ks.length - (i + 1) < ks.length - i; omega)
                      | exact N.next (G := fun (q : WQ) => _) ⟨i + 1, s ++ [124] ++ [40] ++ shT t ++ [41]⟩ ⟨rfl, rfl, rfl, rfl, rfl, rfl, trivial⟩ ⟨by show i + 1 ≤ ks.length; omega, by rw [hs, shK_4 (by omega), shK_4 (by omega), shA_take ht (by omega), wrp_y (tgt_lt1.2 (by omega))]; simp, hO, hkk⟩ (by show ks.length - (i + 1) < ks.length - i; omega)
                      | exact N.next (G := fun (q : WQ) => _) ⟨i + 1, s ++ [124] ++ shT t⟩ ⟨rfl, rfl, rfl, rfl, rfl, rfl, trivial⟩ ⟨by show i + 1 ≤ ks.length; omega, by rw [hs, shK_4 (by omega), shK_4 (by omega), shA_take ht (by omega), wrp_n (fun h => by have := tgt_lt1.1 h; omega)]; simp, hO, hkk⟩ (by show ks.length - (i + 1) < ks.length - i; omega)
                · refine X.mv rfl rfl rfl rfl rfl ?_
                  refine X.skip rfl rfl rfl ?_
                  refine X.skip rfl rfl rfl ?_
                  refine X.skip rfl rfl rfl ?_
                  refine X.skip rfl rfl rfl ?_
                  refine X.skip rfl rfl rfl ?_
                  refine X.skip rfl rfl rfl ?_
                  refine X.pickF rfl rfl rfl rfl rfl rfl ?_
                  refine X.pickF rfl rfl rfl rfl rfl rfl ?_
                  refine X.done [(0, _), (1, _), (4, _), (5, _), (6, _), (7, _), (69, _)] ⟨rfl, rfl, rfl, rfl, rfl, rfl, rfl, trivial⟩ ?_
                  refine N.then ?_
                  refine E.condF rfl ?_
                  refine E.region ?_
                  refine X.mv rfl rfl rfl rfl rfl ?_
                  refine X.mv rfl rfl rfl rfl rfl ?_
                  refine X.mv rfl rfl rfl rfl rfl ?_
                  refine X.mv rfl rfl rfl rfl rfl ?_
                  refine X.ixAe rfl rfl rfl rfl rfl rfl Tryd.underlying52 Tryd.sz3 (hpa) (by omega) ?_
                  refine X.ld rfl rfl rfl rfl Tryd.ag3 (hpb) (by exact hpc) ?_
                  refine X.call rfl rfl rfl rfl rfl Tryd.cl21 (hkids t (List.mem_of_getElem? ht) hRt _ _ _ _ hkl hkn hN3) ?_
                  rintro _ H9 ⟨rfl, hk9⟩
                  replace hkk := hkk.trans hk9 (by simp)
                  replace hO := hO.keep hk9 (by simp)
                  refine X.cat rfl rfl rfl rfl rfl rfl (by (try simp only [List.length_append, List.length_cons, List.length_nil]); (try rw [hs]); omega) ?_
                  refine X.asg rfl rfl rfl rfl rfl ?_
                  refine X.done [(0, _), (1, _), (4, _), (5, _), (6, _), (7, _)] ⟨rfl, rfl, rfl, rfl, rfl, rfl, trivial⟩ ?_
                  refine N.blk ?_
                  refine N.then ?_
                  refine E.region ?_
                  refine X.mv rfl rfl rfl rfl rfl ?_
                  refine X.addE (zz := ((i + 1 : Nat) : Int)) rfl rfl rfl rfl rfl rfl (by rw [IntWalk.i64_in _ (by omega)] <;> omega) ?_
                  refine X.asg rfl rfl rfl rfl rfl ?_
                  refine X.done [(0, _), (1, _), (4, _), (5, _), (6, _), (7, _)] ⟨rfl, rfl, rfl, rfl, rfl, rfl, trivial⟩ ?_
                  first
                    | exact N.next (G := fun (q : WQ) => _) ⟨i + 1, s ++ [40] ++ shT t ++ [41]⟩ ⟨rfl, rfl, rfl, rfl, rfl, rfl, trivial⟩ ⟨by show i + 1 ≤ ks.length; omega, by rw [hs, shK_3 (by omega), shK_3 (by omega), shC_take ht, wrp_y (tgt_lt2.2 (by omega))]; simp, hO, hkk⟩ (by show ks.length - (i + 1) < ks.length - i; omega)
                    | exact N.next (G := fun (q : WQ) => _) ⟨i + 1, s ++ shT t⟩ ⟨rfl, rfl, rfl, rfl, rfl, rfl, trivial⟩ ⟨by show i + 1 ≤ ks.length; omega, by rw [hs, shK_3 (by omega), shK_3 (by omega), shC_take ht, wrp_n (fun h => by have := tgt_lt2.1 h; omega)], hO, hkk⟩ (by show ks.length - (i + 1) < ks.length - i; omega)
                    | exact N.next (G := fun (q : WQ) => _) ⟨i + 1, s ++ [40] ++ shT t ++ [41]⟩ ⟨rfl, rfl, rfl, rfl, rfl, rfl, trivial⟩ ⟨by show i + 1 ≤ ks.length; omega, by rw [hs, shK_4 (by omega), shK_4 (by omega), shA_first ht (by omega), wrp_y (tgt_lt1.2 (by omega))]; simp, hO, hkk⟩ (by show ks.length - (i + 1) < ks.length - i; omega)
                    | exact N.next (G := fun (q : WQ) => _) ⟨i + 1, s ++ shT t⟩ ⟨rfl, rfl, rfl, rfl, rfl, rfl, trivial⟩ ⟨by show i + 1 ≤ ks.length; omega, by rw [hs, shK_4 (by omega), shK_4 (by omega), shA_first ht (by omega), wrp_n (fun h => by have := tgt_lt1.1 h; omega)], hO, hkk⟩ (by show ks.length - (i + 1) < ks.length - i; omega)
                    | exact N.next (G := fun (q : WQ) => _) ⟨i + 1, s ++ [124] ++ [40] ++ shT t ++ [41]⟩ ⟨rfl, rfl, rfl, rfl, rfl, rfl, trivial⟩ ⟨by show i + 1 ≤ ks.length; omega, by rw [hs, shK_4 (by omega), shK_4 (by omega), shA_take ht (by omega), wrp_y (tgt_lt1.2 (by omega))]; simp, hO, hkk⟩ (by show ks.length - (i + 1) < ks.length - i; omega)
                    | exact N.next (G := fun (q : WQ) => _) ⟨i + 1, s ++ [124] ++ shT t⟩ ⟨rfl, rfl, rfl, rfl, rfl, rfl, trivial⟩ ⟨by show i + 1 ≤ ks.length; omega, by rw [hs, shK_4 (by omega), shK_4 (by omega), shA_take ht (by omega), wrp_n (fun h => by have := tgt_lt1.1 h; omega)]; simp, hO, hkk⟩ (by show ks.length - (i + 1) < ks.length - i; omega)
            · refine E.skip ?_
              refine N.then ?_
              refine E.seq ?_
              refine E.region ?_
              refine X.mv rfl rfl rfl rfl rfl ?_
              refine X.mv rfl rfl rfl rfl rfl ?_
              refine X.mv rfl rfl rfl rfl rfl ?_
              refine X.ixAe rfl rfl rfl rfl rfl rfl Tryd.underlying52 Tryd.sz3 (hpa) (by omega) ?_
              refine X.ld rfl rfl rfl rfl Tryd.ag3 (hpb) (by exact hpc) ?_
              refine X.ixAe rfl rfl rfl rfl rfl rfl Tryd.underlying22 Tryd.sz38 (hya) (by omega) ?_
              refine X.fld rfl rfl rfl rfl rfl Tryd.off38_0 ?_
              refine X.ld rfl rfl rfl rfl Tryd.ag3 (hyb) (by exact hykd) ?_
              refine X.asg rfl rfl rfl rfl rfl ?_
              refine X.done [(0, _), (1, _), (4, _), (5, _), (6, _), (7, _), (8, _)] ⟨rfl, rfl, rfl, rfl, rfl, rfl, rfl, trivial⟩ ?_
              refine N.then ?_
              refine E.seq ?_
              refine E.region ?_
              refine X.mv rfl rfl rfl rfl rfl ?_
              refine X.eqlC rfl rfl rfl rfl rfl rfl (fun hc => ?_) (fun hc => ?_)
              · refine X.mv rfl rfl rfl rfl rfl ?_
                refine X.skip rfl rfl rfl ?_
                refine X.skip rfl rfl rfl ?_
                refine X.skip rfl rfl rfl ?_
                refine X.skip rfl rfl rfl ?_
                refine X.skip rfl rfl rfl ?_
                refine X.skip rfl rfl rfl ?_
                refine X.skip rfl rfl rfl ?_
                refine X.skip rfl rfl rfl ?_
                refine X.skip rfl rfl rfl ?_
                refine X.skip rfl rfl rfl ?_
                refine X.pickT rfl rfl rfl rfl rfl rfl ?_
                refine X.done [(0, _), (1, _), (4, _), (5, _), (6, _), (7, _), (69, _)] ⟨rfl, rfl, rfl, rfl, rfl, rfl, rfl, trivial⟩ ?_
                refine N.then ?_
                refine E.condT rfl ?_
                refine E.region ?_
                refine X.mv rfl rfl rfl rfl rfl ?_
                refine X.cat rfl rfl rfl rfl rfl rfl (by (try simp only [List.length_append, List.length_cons, List.length_nil]); (try rw [hs]); omega) ?_
                refine X.mv rfl rfl rfl rfl rfl ?_
                refine X.mv rfl rfl rfl rfl rfl ?_
                refine X.mv rfl rfl rfl rfl rfl ?_
                refine X.ixAe rfl rfl rfl rfl rfl rfl Tryd.underlying52 Tryd.sz3 (hpa) (by omega) ?_
                refine X.ld rfl rfl rfl rfl Tryd.ag3 (hpb) (by exact hpc) ?_
                refine X.call rfl rfl rfl rfl rfl Tryd.cl21 (hkids t (List.mem_of_getElem? ht) hRt _ _ _ _ hkl hkn hN3) ?_
                rintro _ H9 ⟨rfl, hk9⟩
                replace hkk := hkk.trans hk9 (by simp)
                replace hO := hO.keep hk9 (by simp)
                refine X.cat rfl rfl rfl rfl rfl rfl (by (try simp only [List.length_append, List.length_cons, List.length_nil]); (try rw [hs]); omega) ?_
                refine X.cat rfl rfl rfl rfl rfl rfl (by (try simp only [List.length_append, List.length_cons, List.length_nil]); (try rw [hs]); omega) ?_
                refine X.asg rfl rfl rfl rfl rfl ?_
                refine X.done [(0, _), (1, _), (4, _), (5, _), (6, _), (7, _)] ⟨rfl, rfl, rfl, rfl, rfl, rfl, trivial⟩ ?_
                refine N.blk ?_
                refine N.then ?_
                refine E.region ?_
                refine X.mv rfl rfl rfl rfl rfl ?_
                refine X.addE (zz := ((i + 1 : Nat) : Int)) rfl rfl rfl rfl rfl rfl (by rw [IntWalk.i64_in _ (by omega)] <;> omega) ?_
                refine X.asg rfl rfl rfl rfl rfl ?_
                refine X.done [(0, _), (1, _), (4, _), (5, _), (6, _), (7, _)] ⟨rfl, rfl, rfl, rfl, rfl, rfl, trivial⟩ ?_
                first
                  | exact N.next (G := fun (q : WQ) => _) ⟨i + 1, s ++ [40] ++ shT t ++ [41]⟩ ⟨rfl, rfl, rfl, rfl, rfl, rfl, trivial⟩ ⟨by show i + 1 ≤ ks.length; omega, by rw [hs, shK_3 (by omega), shK_3 (by omega), shC_take ht, wrp_y (tgt_lt2.2 (by omega))]; simp, hO, hkk⟩ (by show ks.length - (i + 1) < ks.length - i; omega)
                  | exact N.next (G := fun (q : WQ) => _) ⟨i + 1, s ++ shT t⟩ ⟨rfl, rfl, rfl, rfl, rfl, rfl, trivial⟩ ⟨by show i + 1 ≤ ks.length; omega, by rw [hs, shK_3 (by omega), shK_3 (by omega), shC_take ht, wrp_n (fun h => by have := tgt_lt2.1 h; omega)], hO, hkk⟩ (by show ks.length - (i + 1) < ks.length - i; omega)
                  | exact N.next (G := fun (q : WQ) => _) ⟨i + 1, s ++ [40] ++ shT t ++ [41]⟩ ⟨rfl, rfl, rfl, rfl, rfl, rfl, trivial⟩ ⟨by show i + 1 ≤ ks.length; omega, by rw [hs, shK_4 (by omega), shK_4 (by omega), shA_first ht (by omega), wrp_y (tgt_lt1.2 (by omega))]; simp, hO, hkk⟩ (by show ks.length - (i + 1) < ks.length - i; omega)
                  | exact N.next (G := fun (q : WQ) => _) ⟨i + 1, s ++ shT t⟩ ⟨rfl, rfl, rfl, rfl, rfl, rfl, trivial⟩ ⟨by show i + 1 ≤ ks.length; omega, by rw [hs, shK_4 (by omega), shK_4 (by omega), shA_first ht (by omega), wrp_n (fun h => by have := tgt_lt1.1 h; omega)], hO, hkk⟩ (by show ks.length - (i + 1) < ks.length - i; omega)
                  | exact N.next (G := fun (q : WQ) => _) ⟨i + 1, s ++ [124] ++ [40] ++ shT t ++ [41]⟩ ⟨rfl, rfl, rfl, rfl, rfl, rfl, trivial⟩ ⟨by show i + 1 ≤ ks.length; omega, by rw [hs, shK_4 (by omega), shK_4 (by omega), shA_take ht (by omega), wrp_y (tgt_lt1.2 (by omega))]; simp, hO, hkk⟩ (by show ks.length - (i + 1) < ks.length - i; omega)
                  | exact N.next (G := fun (q : WQ) => _) ⟨i + 1, s ++ [124] ++ shT t⟩ ⟨rfl, rfl, rfl, rfl, rfl, rfl, trivial⟩ ⟨by show i + 1 ≤ ks.length; omega, by rw [hs, shK_4 (by omega), shK_4 (by omega), shA_take ht (by omega), wrp_n (fun h => by have := tgt_lt1.1 h; omega)]; simp, hO, hkk⟩ (by show ks.length - (i + 1) < ks.length - i; omega)
              · refine X.mv rfl rfl rfl rfl rfl ?_
                refine X.mv rfl rfl rfl rfl rfl ?_
                refine X.eqlC rfl rfl rfl rfl rfl rfl (fun hc => ?_) (fun hc => ?_)
                · refine X.mv rfl rfl rfl rfl rfl ?_
                  refine X.mv rfl rfl rfl rfl rfl ?_
                  refine X.mv rfl rfl rfl rfl rfl ?_
                  refine X.ixAe rfl rfl rfl rfl rfl rfl Tryd.underlying22 Tryd.sz38 (hxa) (by omega) ?_
                  refine X.fld rfl rfl rfl rfl rfl Tryd.off38_0 ?_
                  refine X.ld rfl rfl rfl rfl Tryd.ag3 (hxb) (by exact hxc 0 _ rfl) ?_
                  refine X.eql rfl rfl rfl rfl rfl rfl ?_
                  refine X.pickT rfl rfl rfl rfl rfl rfl ?_
                  refine X.pickF rfl rfl rfl rfl rfl rfl ?_
                  refine X.done [(0, _), (1, _), (4, _), (5, _), (6, _), (7, _), (69, _)] ⟨rfl, rfl, rfl, rfl, rfl, rfl, rfl, trivial⟩ ?_
                  refine N.then ?_
                  refine E.condD rfl (fun hc => ?_) (fun hc => ?_)
                  · refine E.region ?_
                    refine X.mv rfl rfl rfl rfl rfl ?_
                    refine X.cat rfl rfl rfl rfl rfl rfl (by (try simp only [List.length_append, List.length_cons, List.length_nil]); (try rw [hs]); omega) ?_
                    refine X.mv rfl rfl rfl rfl rfl ?_
                    refine X.mv rfl rfl rfl rfl rfl ?_
                    refine X.mv rfl rfl rfl rfl rfl ?_
                    refine X.ixAe rfl rfl rfl rfl rfl rfl Tryd.underlying52 Tryd.sz3 (hpa) (by omega) ?_
                    refine X.ld rfl rfl rfl rfl Tryd.ag3 (hpb) (by exact hpc) ?_
                    refine X.call rfl rfl rfl rfl rfl Tryd.cl21 (hkids t (List.mem_of_getElem? ht) hRt _ _ _ _ hkl hkn hN3) ?_
                    rintro _ H9 ⟨rfl, hk9⟩
                    replace hkk := hkk.trans hk9 (by simp)
                    replace hO := hO.keep hk9 (by simp)
                    refine X.cat rfl rfl rfl rfl rfl rfl (by (try simp only [List.length_append, List.length_cons, List.length_nil]); (try rw [hs]); omega) ?_
                    refine X.cat rfl rfl rfl rfl rfl rfl (by (try simp only [List.length_append, List.length_cons, List.length_nil]); (try rw [hs]); omega) ?_
                    refine X.asg rfl rfl rfl rfl rfl ?_
                    refine X.done [(0, _), (1, _), (4, _), (5, _), (6, _), (7, _)] ⟨rfl, rfl, rfl, rfl, rfl, rfl, trivial⟩ ?_
                    refine N.blk ?_
                    refine N.then ?_
                    refine E.region ?_
                    refine X.mv rfl rfl rfl rfl rfl ?_
                    refine X.addE (zz := ((i + 1 : Nat) : Int)) rfl rfl rfl rfl rfl rfl (by rw [IntWalk.i64_in _ (by omega)] <;> omega) ?_
                    refine X.asg rfl rfl rfl rfl rfl ?_
                    refine X.done [(0, _), (1, _), (4, _), (5, _), (6, _), (7, _)] ⟨rfl, rfl, rfl, rfl, rfl, rfl, trivial⟩ ?_
                    first
                      | exact N.next (G := fun (q : WQ) => _) ⟨i + 1, s ++ [40] ++ shT t ++ [41]⟩ ⟨rfl, rfl, rfl, rfl, rfl, rfl, trivial⟩ ⟨by show i + 1 ≤ ks.length; omega, by rw [hs, shK_3 (by omega), shK_3 (by omega), shC_take ht, wrp_y (tgt_lt2.2 (by omega))]; simp, hO, hkk⟩ (by show ks.length - (i + 1) < ks.length - i; omega)
                      | exact N.next (G := fun (q : WQ) => _) ⟨i + 1, s ++ shT t⟩ ⟨rfl, rfl, rfl, rfl, rfl, rfl, trivial⟩ ⟨by show i + 1 ≤ ks.length; omega, by rw [hs, shK_3 (by omega), shK_3 (by omega), shC_take ht, wrp_n (fun h => by have := tgt_lt2.1 h; omega)], hO, hkk⟩ (by show ks.length - (i + 1) < ks.length - i; omega)
                      | exact N.next (G := fun (q : WQ) => _) ⟨i + 1, s ++ [40] ++ shT t ++ [41]⟩ ⟨rfl, rfl, rfl, rfl, rfl, rfl, trivial⟩ ⟨by show i + 1 ≤ ks.length; omega, by rw [hs, shK_4 (by omega), shK_4 (by omega), shA_first ht (by omega), wrp_y (tgt_lt1.2 (by omega))]; simp, hO, hkk⟩ (by show ks.length - (i + 1) < ks.length - i; omega)
                      | exact N.next (G := fun (q : WQ) => _) ⟨i + 1, s ++ shT t⟩ ⟨rfl, rfl, rfl, rfl, rfl, rfl, trivial⟩ ⟨by show i + 1 ≤ ks.length; omega, by rw [hs, shK_4 (by omega), shK_4 (by omega), shA_first ht (by omega), wrp_n (fun h => by have := tgt_lt1.1 h; omega)], hO, hkk⟩ (by show ks.length - (i + 1) < ks.length - i; omega)
                      | exact N.next (G := fun (q : WQ) => _) ⟨i + 1, s ++ [124] ++ [40] ++ shT t ++ [41]⟩ ⟨rfl, rfl, rfl, rfl, rfl, rfl, trivial⟩ ⟨by show i + 1 ≤ ks.length; omega, by rw [hs, shK_4 (by omega), shK_4 (by omega), shA_take ht (by omega), wrp_y (tgt_lt1.2 (by omega))]; simp, hO, hkk⟩ (by show ks.length - (i + 1) < ks.length - i; omega)
                      | exact N.next (G := fun (q : WQ) => _) ⟨i + 1, s ++ [124] ++ shT t⟩ ⟨rfl, rfl, rfl, rfl, rfl, rfl, trivial⟩ ⟨by show i + 1 ≤ ks.length; omega, by rw [hs, shK_4 (by omega), shK_4 (by omega), shA_take ht (by omega), wrp_n (fun h => by have := tgt_lt1.1 h; omega)]; simp, hO, hkk⟩ (by show ks.length - (i + 1) < ks.length - i; omega)
                  · refine E.region ?_
                    refine X.mv rfl rfl rfl rfl rfl ?_
                    refine X.mv rfl rfl rfl rfl rfl ?_
                    refine X.mv rfl rfl rfl rfl rfl ?_
                    refine X.mv rfl rfl rfl rfl rfl ?_
                    refine X.ixAe rfl rfl rfl rfl rfl rfl Tryd.underlying52 Tryd.sz3 (hpa) (by omega) ?_
                    refine X.ld rfl rfl rfl rfl Tryd.ag3 (hpb) (by exact hpc) ?_
                    refine X.call rfl rfl rfl rfl rfl Tryd.cl21 (hkids t (List.mem_of_getElem? ht) hRt _ _ _ _ hkl hkn hN3) ?_
                    rintro _ H9 ⟨rfl, hk9⟩
                    replace hkk := hkk.trans hk9 (by simp)
                    replace hO := hO.keep hk9 (by simp)
                    refine X.cat rfl rfl rfl rfl rfl rfl (by (try simp only [List.length_append, List.length_cons, List.length_nil]); (try rw [hs]); omega) ?_
                    refine X.asg rfl rfl rfl rfl rfl ?_
                    refine X.done [(0, _), (1, _), (4, _), (5, _), (6, _), (7, _)] ⟨rfl, rfl, rfl, rfl, rfl, rfl, trivial⟩ ?_
                    refine N.blk ?_
                    refine N.then ?_
                    refine E.region ?_
                    refine X.mv rfl rfl rfl rfl rfl ?_
                    refine X.addE (zz := ((i + 1 : Nat) : Int)) rfl rfl rfl rfl rfl rfl (by rw [IntWalk.i64_in _ (by omega)] <;> omega) ?_
                    refine X.asg rfl rfl rfl rfl rfl ?_
                    refine X.done [(0, _), (1, _), (4, _), (5, _), (6, _), (7, _)] ⟨rfl, rfl, rfl, rfl, rfl, rfl, trivial⟩ ?_
                    first
                      | exact N.next (G := fun (q : WQ) => _) ⟨i + 1, s ++ [40] ++ shT t ++ [41]⟩ ⟨rfl, rfl, rfl, rfl, rfl, rfl, trivial⟩ ⟨by show i + 1 ≤ ks.length; omega, by rw [hs, shK_3 (by omega), shK_3 (by omega), shC_take ht, wrp_y (tgt_lt2.2 (by omega))]; simp, hO, hkk⟩ (by show ks.length - (i + 1) < ks.length - i; omega)
                      | exact N.next (G := fun (q : WQ) => _) ⟨i + 1, s ++ shT t⟩ ⟨rfl, rfl, rfl, rfl, rfl, rfl, trivial⟩ ⟨by show i + 1 ≤ ks.length; omega, by rw [hs, shK_3 (by omega), shK_3 (by omega), shC_take ht, wrp_n (fun h => by have := tgt_lt2.1 h; omega)], hO, hkk⟩ (by show ks.length - (i + 1) < ks.length - i; omega)
                      | exact N.next (G := fun (q : WQ) => _) ⟨i + 1, s ++ [40] ++ shT t ++ [41]⟩ ⟨rfl, rfl, rfl, rfl, rfl, rfl, trivial⟩ ⟨by show i + 1 ≤ ks.length; omega, by rw [hs, shK_4 (by omega), shK_4 (by omega), shA_first ht (by omega), wrp_y (tgt_lt1.2 (by omega))]; simp, hO, hkk⟩ (by show ks.length - (i + 1) < ks.length - i; omega)
                      | exact N.next (G := fun (q : WQ) => _) ⟨i + 1, s ++ shT t⟩ ⟨rfl, rfl, rfl, rfl, rfl, rfl, trivial⟩ ⟨by show i + 1 ≤ ks.length; omega, by rw [hs, shK_4 (by omega), shK_4 (by omega), shA_first ht (by omega), wrp_n (fun h => by have := tgt_lt1.1 h; omega)], hO, hkk⟩ (by show ks.length - (i + 1) < ks.length - i; omega)
                      | exact N.next (G := fun (q : WQ) => _) ⟨i + 1, s ++ [124] ++ [40] ++ shT t ++ [41]⟩ ⟨rfl, rfl, rfl, rfl, rfl, rfl, trivial⟩ ⟨by show i + 1 ≤ ks.length; omega, by rw [hs, shK_4 (by omega), shK_4 (by omega), shA_take ht (by omega), wrp_y (tgt_lt1.2 (by omega))]; simp, hO, hkk⟩ (by show ks.length - (i + 1) < ks.length - i; omega)
                      | exact N.next (G := fun (q : WQ) => _) ⟨i + 1, s ++ [124] ++ shT t⟩ ⟨rfl, rfl, rfl, rfl, rfl, rfl, trivial⟩ ⟨by show i + 1 ≤ ks.length; omega, by rw [hs, shK_4 (by omega), shK_4 (by omega), shA_take ht (by omega), wrp_n (fun h => by have := tgt_lt1.1 h; omega)]; simp, hO, hkk⟩ (by show ks.length - (i + 1) < ks.length - i; omega)
                · refine X.mv rfl rfl rfl rfl rfl ?_
                  refine X.skip rfl rfl rfl ?_
                  refine X.skip rfl rfl rfl ?_
                  refine X.skip rfl rfl rfl ?_
                  refine X.skip rfl rfl rfl ?_
                  refine X.skip rfl rfl rfl ?_
                  refine X.skip rfl rfl rfl ?_
                  refine X.pickF rfl rfl rfl rfl rfl rfl ?_
                  refine X.pickF rfl rfl rfl rfl rfl rfl ?_
                  refine X.done [(0, _), (1, _), (4, _), (5, _), (6, _), (7, _), (69, _)] ⟨rfl, rfl, rfl, rfl, rfl, rfl, rfl, trivial⟩ ?_
                  refine N.then ?_
                  refine E.condF rfl ?_
                  refine E.region ?_
                  refine X.mv rfl rfl rfl rfl rfl ?_
                  refine X.mv rfl rfl rfl rfl rfl ?_
                  refine X.mv rfl rfl rfl rfl rfl ?_
                  refine X.mv rfl rfl rfl rfl rfl ?_
                  refine X.ixAe rfl rfl rfl rfl rfl rfl Tryd.underlying52 Tryd.sz3 (hpa) (by omega) ?_
                  refine X.ld rfl rfl rfl rfl Tryd.ag3 (hpb) (by exact hpc) ?_
                  refine X.call rfl rfl rfl rfl rfl Tryd.cl21 (hkids t (List.mem_of_getElem? ht) hRt _ _ _ _ hkl hkn hN3) ?_
                  rintro _ H9 ⟨rfl, hk9⟩
                  replace hkk := hkk.trans hk9 (by simp)
                  replace hO := hO.keep hk9 (by simp)
                  refine X.cat rfl rfl rfl rfl rfl rfl (by (try simp only [List.length_append, List.length_cons, List.length_nil]); (try rw [hs]); omega) ?_
                  refine X.asg rfl rfl rfl rfl rfl ?_
                  refine X.done [(0, _), (1, _), (4, _), (5, _), (6, _), (7, _)] ⟨rfl, rfl, rfl, rfl, rfl, rfl, trivial⟩ ?_
                  refine N.blk ?_
                  refine N.then ?_
                  refine E.region ?_
                  refine X.mv rfl rfl rfl rfl rfl ?_
                  refine X.addE (zz := ((i + 1 : Nat) : Int)) rfl rfl rfl rfl rfl rfl (by rw [IntWalk.i64_in _ (by omega)] <;> omega) ?_
                  refine X.asg rfl rfl rfl rfl rfl ?_
                  refine X.done [(0, _), (1, _), (4, _), (5, _), (6, _), (7, _)] ⟨rfl, rfl, rfl, rfl, rfl, rfl, trivial⟩ ?_
                  first
                    | exact N.next (G := fun (q : WQ) => _) ⟨i + 1, s ++ [40] ++ shT t ++ [41]⟩ ⟨rfl, rfl, rfl, rfl, rfl, rfl, trivial⟩ ⟨by show i + 1 ≤ ks.length; omega, by rw [hs, shK_3 (by omega), shK_3 (by omega), shC_take ht, wrp_y (tgt_lt2.2 (by omega))]; simp, hO, hkk⟩ (by show ks.length - (i + 1) < ks.length - i; omega)
                    | exact N.next (G := fun (q : WQ) => _) ⟨i + 1, s ++ shT t⟩ ⟨rfl, rfl, rfl, rfl, rfl, rfl, trivial⟩ ⟨by show i + 1 ≤ ks.length; omega, by rw [hs, shK_3 (by omega), shK_3 (by omega), shC_take ht, wrp_n (fun h => by have := tgt_lt2.1 h; omega)], hO, hkk⟩ (by show ks.length - (i + 1) < ks.length - i; omega)
                    | exact N.next (G := fun (q : WQ) => _) ⟨i + 1, s ++ [40] ++ shT t ++ [41]⟩ ⟨rfl, rfl, rfl, rfl, rfl, rfl, trivial⟩ ⟨by show i + 1 ≤ ks.length; omega, by rw [hs, shK_4 (by omega), shK_4 (by omega), shA_first ht (by omega), wrp_y (tgt_lt1.2 (by omega))]; simp, hO, hkk⟩ (by show ks.length - (i + 1) < ks.length - i; omega)
                    | exact N.next (G := fun (q : WQ) => _) ⟨i + 1, s ++ shT t⟩ ⟨rfl, rfl, rfl, rfl, rfl, rfl, trivial⟩ ⟨by show i + 1 ≤ ks.length; omega, by rw [hs, shK_4 (by omega), shK_4 (by omega), shA_first ht (by omega), wrp_n (fun h => by have := tgt_lt1.1 h; omega)], hO, hkk⟩ (by show ks.length - (i + 1) < ks.length - i; omega)
                    | exact N.next (G := fun (q : WQ) => _) ⟨i + 1, s ++ [124] ++ [40] ++ shT t ++ [41]⟩ ⟨rfl, rfl, rfl, rfl, rfl, rfl, trivial⟩ ⟨by show i + 1 ≤ ks.length; omega, by rw [hs, shK_4 (by omega), shK_4 (by omega), shA_take ht (by omega), wrp_y (tgt_lt1.2 (by omega))]; simp, hO, hkk⟩ (by show ks.length - (i + 1) < ks.length - i; omega)
                    | exact N.next (G := fun (q : WQ) => _) ⟨i + 1, s ++ [124] ++ shT t⟩ ⟨rfl, rfl, rfl, rfl, rfl, rfl, trivial⟩ ⟨by show i + 1 ≤ ks.length; omega, by rw [hs, shK_4 (by omega), shK_4 (by omega), shA_take ht (by omega), wrp_n (fun h => by have := tgt_lt1.1 h; omega)]; simp, hO, hkk⟩ (by show ks.length - (i + 1) < ks.length - i; omega)
          · refine X.mv rfl rfl rfl rfl rfl ?_
            refine X.skip rfl rfl rfl ?_
            refine X.skip rfl rfl rfl ?_
            refine X.skip rfl rfl rfl ?_
            refine X.skip rfl rfl rfl ?_
            refine X.skip rfl rfl rfl ?_
            refine X.skip rfl rfl rfl ?_
            refine X.pickF rfl rfl rfl rfl rfl rfl ?_
            refine X.done [(0, _), (1, _), (4, _), (5, _), (6, _), (7, _), (45, _)] ⟨rfl, rfl, rfl, rfl, rfl, rfl, rfl, trivial⟩ ?_
            refine N.then ?_
            refine E.condF rfl ?_
            refine E.skip ?_
            refine N.then ?_
            refine E.seq ?_
            refine E.region ?_
            refine X.mv rfl rfl rfl rfl rfl ?_
            refine X.mv rfl rfl rfl rfl rfl ?_
            refine X.mv rfl rfl rfl rfl rfl ?_
            refine X.ixAe rfl rfl rfl rfl rfl rfl Tryd.underlying52 Tryd.sz3 (hpa) (by omega) ?_
            refine X.ld rfl rfl rfl rfl Tryd.ag3 (hpb) (by exact hpc) ?_
            refine X.ixAe rfl rfl rfl rfl rfl rfl Tryd.underlying22 Tryd.sz38 (hya) (by omega) ?_
            refine X.fld rfl rfl rfl rfl rfl Tryd.off38_0 ?_
            refine X.ld rfl rfl rfl rfl Tryd.ag3 (hyb) (by exact hykd) ?_
            refine X.asg rfl rfl rfl rfl rfl ?_
            refine X.done [(0, _), (1, _), (4, _), (5, _), (6, _), (7, _), (8, _)] ⟨rfl, rfl, rfl, rfl, rfl, rfl, rfl, trivial⟩ ?_
            refine N.then ?_
            refine E.seq ?_
            refine E.region ?_
            refine X.mv rfl rfl rfl rfl rfl ?_
            refine X.eqlC rfl rfl rfl rfl rfl rfl (fun hc => ?_) (fun hc => ?_)
            · refine X.mv rfl rfl rfl rfl rfl ?_
              refine X.skip rfl rfl rfl ?_
              refine X.skip rfl rfl rfl ?_
              refine X.skip rfl rfl rfl ?_
              refine X.skip rfl rfl rfl ?_
              refine X.skip rfl rfl rfl ?_
              refine X.skip rfl rfl rfl ?_
              refine X.skip rfl rfl rfl ?_
              refine X.skip rfl rfl rfl ?_
              refine X.skip rfl rfl rfl ?_
              refine X.skip rfl rfl rfl ?_
              refine X.pickT rfl rfl rfl rfl rfl rfl ?_
              refine X.done [(0, _), (1, _), (4, _), (5, _), (6, _), (7, _), (69, _)] ⟨rfl, rfl, rfl, rfl, rfl, rfl, rfl, trivial⟩ ?_
              refine N.then ?_
              refine E.condT rfl ?_
              refine E.region ?_
              refine X.mv rfl rfl rfl rfl rfl ?_
              refine X.cat rfl rfl rfl rfl rfl rfl (by (try simp only [List.length_append, List.length_cons, List.length_nil]); (try rw [hs]); omega) ?_
              refine X.mv rfl rfl rfl rfl rfl ?_
              refine X.mv rfl rfl rfl rfl rfl ?_
              refine X.mv rfl rfl rfl rfl rfl ?_
              refine X.ixAe rfl rfl rfl rfl rfl rfl Tryd.underlying52 Tryd.sz3 (hpa) (by omega) ?_
              refine X.ld rfl rfl rfl rfl Tryd.ag3 (hpb) (by exact hpc) ?_
              refine X.call rfl rfl rfl rfl rfl Tryd.cl21 (hkids t (List.mem_of_getElem? ht) hRt _ _ _ _ hkl hkn hN3) ?_
              rintro _ H9 ⟨rfl, hk9⟩
              replace hkk := hkk.trans hk9 (by simp)
              replace hO := hO.keep hk9 (by simp)
              refine X.cat rfl rfl rfl rfl rfl rfl (by (try simp only [List.length_append, List.length_cons, List.length_nil]); (try rw [hs]); omega) ?_
              refine X.cat rfl rfl rfl rfl rfl rfl (by (try simp only [List.length_append, List.length_cons, List.length_nil]); (try rw [hs]); omega) ?_
              refine X.asg rfl rfl rfl rfl rfl ?_
              refine X.done [(0, _), (1, _), (4, _), (5, _), (6, _), (7, _)] ⟨rfl, rfl, rfl, rfl, rfl, rfl, trivial⟩ ?_
              refine N.blk ?_
              refine N.then ?_
              refine E.region ?_
              refine X.mv rfl rfl rfl rfl rfl ?_
              refine X.addE (zz := ((i + 1 : Nat) : Int)) rfl rfl rfl rfl rfl rfl (by rw [IntWalk.i64_in _ (by omega)] <;> omega) ?_
              refine X.asg rfl rfl rfl rfl rfl ?_
              refine X.done [(0, _), (1, _), (4, _), (5, _), (6, _), (7, _)] ⟨rfl, rfl, rfl, rfl, rfl, rfl, trivial⟩ ?_
              first
                | exact N.next (G := fun (q : WQ) => _) ⟨i + 1, s ++ [40] ++ shT t ++ [41]⟩ ⟨rfl, rfl, rfl, rfl, rfl, rfl, trivial⟩ ⟨by show i + 1 ≤ ks.length; omega, by rw [hs, shK_3 (by omega), shK_3 (by omega), shC_take ht, wrp_y (tgt_lt2.2 (by omega))]; simp, hO, hkk⟩ (by show ks.length - (i + 1) < ks.length - i; omega)
                | exact N.next (G := fun (q : WQ) => _) ⟨i + 1, s ++ shT t⟩ ⟨rfl, rfl, rfl, rfl, rfl, rfl, trivial⟩ ⟨by show i + 1 ≤ ks.length; omega, by rw [hs, shK_3 (by omega), shK_3 (by omega), shC_take ht, wrp_n (fun h => by have := tgt_lt2.1 h; omega)], hO, hkk⟩ (by show ks.length - (i + 1) < ks.length - i; omega)
                | exact N.next (G := fun (q : WQ) => _) ⟨i + 1, s ++ [40] ++ shT t ++ [41]⟩ ⟨rfl, rfl, rfl, rfl, rfl, rfl, trivial⟩ ⟨by show i + 1 ≤ ks.length; omega, by rw [hs, shK_4 (by omega), shK_4 (by omega), shA_first ht (by omega), wrp_y (tgt_lt1.2 (by omega))]; simp, hO, hkk⟩ (by show ks.length - (i + 1) < ks.length - i; omega)
                | exact N.next (G := fun (q : WQ) => _) ⟨i + 1, s ++ shT t⟩ ⟨rfl, rfl, rfl, rfl, rfl, rfl, trivial⟩ ⟨by show i + 1 ≤ ks.length; omega, by rw [hs, shK_4 (by omega), shK_4 (by omega), shA_first ht (by omega), wrp_n (fun h => by have := tgt_lt1.1 h; omega)], hO, hkk⟩ (by show ks.length - (i + 1) < ks.length - i; omega)
                | exact N.next (G := fun (q : WQ) => _) ⟨i + 1, s ++ [124] ++ [40] ++ shT t ++ [41]⟩ ⟨rfl, rfl, rfl, rfl, rfl, rfl, trivial⟩ ⟨by show i + 1 ≤ ks.length; omega, by rw [hs, shK_4 (by omega), shK_4 (by omega), shA_take ht (by omega), wrp_y (tgt_lt1.2 (by omega))]; simp, hO, hkk⟩ (by show ks.length - (i + 1) < ks.length - i; omega)
                | exact N.next (G := fun (q : WQ) => _) ⟨i + 1, s ++ [124] ++ shT t⟩ ⟨rfl, rfl, rfl, rfl, rfl, rfl, trivial⟩ ⟨by show i + 1 ≤ ks.length; omega, by rw [hs, shK_4 (by omega), shK_4 (by omega), shA_take ht (by omega), wrp_n (fun h => by have := tgt_lt1.1 h; omega)]; simp, hO, hkk⟩ (by show ks.length - (i + 1) < ks.length - i; omega)
            · refine X.mv rfl rfl rfl rfl rfl ?_
              refine X.mv rfl rfl rfl rfl rfl ?_
              refine X.eqlC rfl rfl rfl rfl rfl rfl (fun hc => ?_) (fun hc => ?_)
              · refine X.mv rfl rfl rfl rfl rfl ?_
                refine X.mv rfl rfl rfl rfl rfl ?_
                refine X.mv rfl rfl rfl rfl rfl ?_
                refine X.ixAe rfl rfl rfl rfl rfl rfl Tryd.underlying22 Tryd.sz38 (hxa) (by omega) ?_
                refine X.fld rfl rfl rfl rfl rfl Tryd.off38_0 ?_
                refine X.ld rfl rfl rfl rfl Tryd.ag3 (hxb) (by exact hxc 0 _ rfl) ?_
                refine X.eql rfl rfl rfl rfl rfl rfl ?_
                refine X.pickT rfl rfl rfl rfl rfl rfl ?_
                refine X.pickF rfl rfl rfl rfl rfl rfl ?_
                refine X.done [(0, _), (1, _), (4, _), (5, _), (6, _), (7, _), (69, _)] ⟨rfl, rfl, rfl, rfl, rfl, rfl, rfl, trivial⟩ ?_
                refine N.then ?_
                refine E.condD rfl (fun hc => ?_) (fun hc => ?_)
                · refine E.region ?_
                  refine X.mv rfl rfl rfl rfl rfl ?_
                  refine X.cat rfl rfl rfl rfl rfl rfl (by (try simp only [List.length_append, List.length_cons, List.length_nil]); (try rw [hs]); omega) ?_
                  refine X.mv rfl rfl rfl rfl rfl ?_
                  refine X.mv rfl rfl rfl rfl rfl ?_
                  refine X.mv rfl rfl rfl rfl rfl ?_
                  refine X.ixAe rfl rfl rfl rfl rfl rfl Tryd.underlying52 Tryd.sz3 (hpa) (by omega) ?_
                  refine X.ld rfl rfl rfl rfl Tryd.ag3 (hpb) (by exact hpc) ?_
                  refine X.call rfl rfl rfl rfl rfl Tryd.cl21 (hkids t (List.mem_of_getElem? ht) hRt _ _ _ _ hkl hkn hN3) ?_
                  rintro _ H9 ⟨rfl, hk9⟩
                  replace hkk := hkk.trans hk9 (by simp)
                  replace hO := hO.keep hk9 (by simp)
                  refine X.cat rfl rfl rfl rfl rfl rfl (by (try simp only [List.length_append, List.length_cons, List.length_nil]); (try rw [hs]); omega) ?_
                  refine X.cat rfl rfl rfl rfl rfl rfl (by (try simp only [List.length_append, List.length_cons, List.length_nil]); (try rw [hs]); omega) ?_
                  refine X.asg rfl rfl rfl rfl rfl ?_
                  refine X.done [(0, _), (1, _), (4, _), (5, _), (6, _), (7, _)] ⟨rfl, rfl, rfl, rfl, rfl, rfl, trivial⟩ ?_
                  refine N.blk ?_
                  refine N.then ?_
                  refine E.region ?_
                  refine X.mv rfl rfl rfl rfl rfl ?_
                  refine X.addE (zz := ((i + 1 : Nat) : Int)) rfl rfl rfl rfl rfl rfl (by rw [IntWalk.i64_in _ (by omega)] <;> omega) ?_
                  refine X.asg rfl rfl rfl rfl rfl ?_
                  refine X.done [(0, _), (1, _), (4, _), (5, _), (6, _), (7, _)] ⟨rfl, rfl, rfl, rfl, rfl, rfl, trivial⟩ ?_
                  first
                    | exact N.next (G := fun (q : WQ) => _) ⟨i + 1, s ++ [40] ++ shT t ++ [41]⟩ ⟨rfl, rfl, rfl, rfl, rfl, rfl, trivial⟩ ⟨by show i + 1 ≤ ks.length; omega, by rw [hs, shK_3 (by omega), shK_3 (by omega), shC_take ht, wrp_y (tgt_lt2.2 (by omega))]; simp, hO, hkk⟩ (by show ks.length - (i + 1) < ks.length - i; omega)
                    | exact N.next (G := fun (q : WQ) => _) ⟨i + 1, s ++ shT t⟩ ⟨rfl, rfl, rfl, rfl, rfl, rfl, trivial⟩ ⟨by show i + 1 ≤ ks.length; omega, by rw [hs, shK_3 (by omega), shK_3 (by omega), shC_take ht, wrp_n (fun h => by have := tgt_lt2.1 h; omega)], hO, hkk⟩ (by show ks.length - (i + 1) < ks.length - i; omega)
                    | exact N.next (G := fun (q : WQ) => _) ⟨i + 1, s ++ [40] ++ shT t ++ [41]⟩ ⟨rfl, rfl, rfl, rfl, rfl, rfl, trivial⟩ ⟨by show i + 1 ≤ ks.length; omega, by rw [hs, shK_4 (by omega), shK_4 (by omega), shA_first ht (by omega), wrp_y (tgt_lt1.2 (by omega))]; simp, hO, hkk⟩ (by show ks.length - (i + 1) < ks.length - i; omega)
                    | exact N.next (G := fun (q : WQ) => _) ⟨i + 1, s ++ shT t⟩ ⟨rfl, rfl, rfl, rfl, rfl, rfl, trivial⟩ ⟨by show i + 1 ≤ ks.length; omega, by rw [hs, shK_4 (by omega), shK_4 (by omega), shA_first ht (by omega), wrp_n (fun h => by have := tgt_lt1.1 h; omega)], hO, hkk⟩ (by show ks.length - (i + 1) < ks.length - i; omega)
                    | exact N.next (G := fun (q : WQ) => _) ⟨i + 1, s ++ [124] ++ [40] ++ shT t ++ [41]⟩ ⟨rfl, rfl, rfl, rfl, rfl, rfl, trivial⟩ ⟨by show i + 1 ≤ ks.length; omega, by rw [hs, shK_4 (by omega), shK_4 (by omega), shA_take ht (by omega), wrp_y (tgt_lt1.2 (by omega))]; simp, hO, hkk⟩ (by show ks.length - (i + 1) < ks.length - i; omega)
                    | exact N.next (G := fun (q : WQ) => _) ⟨i + 1, s ++ [124] ++ shT t⟩ ⟨rfl, rfl, rfl, rfl, rfl, rfl, trivial⟩ ⟨by show i + 1 ≤ ks.length; omega, by rw [hs, shK_4 (by omega), shK_4 (by omega), shA_take ht (by omega), wrp_n (fun h => by have := tgt_lt1.1 h; omega)]; simp, hO, hkk⟩ (by show ks.length - (i + 1) < ks.length - i; omega)
                · refine E.region ?_
                  refine X.mv rfl rfl rfl rfl rfl ?_
                  refine X.mv rfl rfl rfl rfl rfl ?_
                  refine X.mv rfl rfl rfl rfl rfl ?_
                  refine X.mv rfl rfl rfl rfl rfl ?_
                  refine X.ixAe rfl rfl rfl rfl rfl rfl Tryd.underlying52 Tryd.sz3 (hpa) (by omega) ?_
                  refine X.ld rfl rfl rfl rfl Tryd.ag3 (hpb) (by exact hpc) ?_
                  refine X.call rfl rfl rfl rfl rfl Tryd.cl21 (hkids t (List.mem_of_getElem? ht) hRt _ _ _ _ hkl hkn hN3) ?_
                  rintro _ H9 ⟨rfl, hk9⟩
                  replace hkk := hkk.trans hk9 (by simp)
                  replace hO := hO.keep hk9 (by simp)
                  refine X.cat rfl rfl rfl rfl rfl rfl (by (try simp only [List.length_append, List.length_cons, List.length_nil]); (try rw [hs]); omega) ?_
                  refine X.asg rfl rfl rfl rfl rfl ?_
                  refine X.done [(0, _), (1, _), (4, _), (5, _), (6, _), (7, _)] ⟨rfl, rfl, rfl, rfl, rfl, rfl, trivial⟩ ?_
                  refine N.blk ?_
                  refine N.then ?_
                  refine E.region ?_
                  refine X.mv rfl rfl rfl rfl rfl ?_
                  refine X.addE (zz := ((i + 1 : Nat) : Int)) rfl rfl rfl rfl rfl rfl (by rw [IntWalk.i64_in _ (by omega)] <;> omega) ?_
                  refine X.asg rfl rfl rfl rfl rfl ?_
                  refine X.done [(0, _), (1, _), (4, _), (5, _), (6, _), (7, _)] ⟨rfl, rfl, rfl, rfl, rfl, rfl, trivial⟩ ?_
                  first
                    | exact N.next (G := fun (q : WQ) => _) ⟨i + 1, s ++ [40] ++ shT t ++ [41]⟩ ⟨rfl, rfl, rfl, rfl, rfl, rfl, trivial⟩ ⟨by show i + 1 ≤ ks.length; omega, by rw [hs, shK_3 (by omega), shK_3 (by omega), shC_take ht, wrp_y (tgt_lt2.2 (by omega))]; simp, hO, hkk⟩ (by show ks.length - (i + 1) < ks.length - i; omega)
                    | exact N.next (G := fun (q : WQ) => _) ⟨i + 1, s ++ shT t⟩ ⟨rfl, rfl, rfl, rfl, rfl, rfl, trivial⟩ ⟨by show i + 1 ≤ ks.length; omega, by rw [hs, shK_3 (by omega), shK_3 (by omega), shC_take ht, wrp_n (fun h => by have := tgt_lt2.1 h; omega)], hO, hkk⟩ (by show ks.length - (i + 1) < ks.length - i; omega)
                    | exact N.next (G := fun (q : WQ) => _) ⟨i + 1, s ++ [40] ++ shT t ++ [41]⟩ ⟨rfl, rfl, rfl, rfl, rfl, rfl, trivial⟩ ⟨by show i + 1 ≤ ks.length; omega, by rw [hs, shK_4 (by omega), shK_4 (by omega), shA_first ht (by omega), wrp_y (tgt_lt1.2 (by omega))]; simp, hO, hkk⟩ (by show ks.length - (i + 1) < ks.length - i; omega)
                    | exact N.next (G := fun (q : WQ) => _) ⟨i + 1, s ++ shT t⟩ ⟨rfl, rfl, rfl, rfl, rfl, rfl, trivial⟩ ⟨by show i + 1 ≤ ks.length; omega, by rw [hs, shK_4 (by omega), shK_4 (by omega), shA_first ht (by omega), wrp_n (fun h => by have := tgt_lt1.1 h; omega)], hO, hkk⟩ (by show ks.length - (i + 1) < ks.length - i; omega)
                    | exact N.next (G := fun (q : WQ) => _) ⟨i + 1, s ++ [124] ++ [40] ++ shT t ++ [41]⟩ ⟨rfl, rfl, rfl, rfl, rfl, rfl, trivial⟩ ⟨by show i + 1 ≤ ks.length; omega, by rw [hs, shK_4 (by omega), shK_4 (by omega), shA_take ht (by omega), wrp_y (tgt_lt1.2 (by omega))]; simp, hO, hkk⟩ (by show ks.length - (i + 1) < ks.length - i; omega)
                    | exact N.next (G := fun (q : WQ) => _) ⟨i + 1, s ++ [124] ++ shT t⟩ ⟨rfl, rfl, rfl, rfl, rfl, rfl, trivial⟩ ⟨by show i + 1 ≤ ks.length; omega, by rw [hs, shK_4 (by omega), shK_4 (by omega), shA_take ht (by omega), wrp_n (fun h => by have := tgt_lt1.1 h; omega)]; simp, hO, hkk⟩ (by show ks.length - (i + 1) < ks.length - i; omega)
              · refine X.mv rfl rfl rfl rfl rfl ?_
                refine X.skip rfl rfl rfl ?_
                refine X.skip rfl rfl rfl ?_
                refine X.skip rfl rfl rfl ?_
                refine X.skip rfl rfl rfl ?_
                refine X.skip rfl rfl rfl ?_
                refine X.skip rfl rfl rfl ?_
                refine X.pickF rfl rfl rfl rfl rfl rfl ?_
                refine X.pickF rfl rfl rfl rfl rfl rfl ?_
                refine X.done [(0, _), (1, _), (4, _), (5, _), (6, _), (7, _), (69, _)] ⟨rfl, rfl, rfl, rfl, rfl, rfl, rfl, trivial⟩ ?_
                refine N.then ?_
                refine E.condF rfl ?_
                refine E.region ?_
                refine X.mv rfl rfl rfl rfl rfl ?_
                refine X.mv rfl rfl rfl rfl rfl ?_
                refine X.mv rfl rfl rfl rfl rfl ?_
                refine X.mv rfl rfl rfl rfl rfl ?_
                refine X.ixAe rfl rfl rfl rfl rfl rfl Tryd.underlying52 Tryd.sz3 (hpa) (by omega) ?_
                refine X.ld rfl rfl rfl rfl Tryd.ag3 (hpb) (by exact hpc) ?_
                refine X.call rfl rfl rfl rfl rfl Tryd.cl21 (hkids t (List.mem_of_getElem? ht) hRt _ _ _ _ hkl hkn hN3) ?_
                rintro _ H9 ⟨rfl, hk9⟩
                replace hkk := hkk.trans hk9 (by simp)
                replace hO := hO.keep hk9 (by simp)
                refine X.cat rfl rfl rfl rfl rfl rfl (by (try simp only [List.length_append, List.length_cons, List.length_nil]); (try rw [hs]); omega) ?_
                refine X.asg rfl rfl rfl rfl rfl ?_
                refine X.done [(0, _), (1, _), (4, _), (5, _), (6, _), (7, _)] ⟨rfl, rfl, rfl, rfl, rfl, rfl, trivial⟩ ?_
                refine N.blk ?_
                refine N.then ?_
                refine E.region ?_
                refine X.mv rfl rfl rfl rfl rfl ?_
                refine X.addE (zz := ((i + 1 : Nat) : Int)) rfl rfl rfl rfl rfl rfl (by rw [IntWalk.i64_in _ (by omega)] <;> omega) ?_
                refine X.asg rfl rfl rfl rfl rfl ?_
                refine X.done [(0, _), (1, _), (4, _), (5, _), (6, _), (7, _)] ⟨rfl, rfl, rfl, rfl, rfl, rfl, trivial⟩ ?_
                first
                  | exact N.next (G := fun (q : WQ) => _) ⟨i + 1, s ++ [40] ++ shT t ++ [41]⟩ ⟨rfl, rfl, rfl, rfl, rfl, rfl, trivial⟩ ⟨by show i + 1 ≤ ks.length; omega, by rw [hs, shK_3 (by omega), shK_3 (by omega), shC_take ht, wrp_y (tgt_lt2.2 (by omega))]; simp, hO, hkk⟩ (by show ks.length - (i + 1) < ks.length - i; omega)
                  | exact N.next (G := fun (q : WQ) => _) ⟨i + 1, s ++ shT t⟩ ⟨rfl, rfl, rfl, rfl, rfl, rfl, trivial⟩ ⟨by show i + 1 ≤ ks.length; omega, by rw [hs, shK_3 (by omega), shK_3 (by omega), shC_take ht, wrp_n (fun h => by have := tgt_lt2.1 h; omega)], hO, hkk⟩ (by show ks.length - (i + 1) < ks.length - i; omega)
                  | exact N.next (G := fun (q : WQ) => _) ⟨i + 1, s ++ [40] ++ shT t ++ [41]⟩ ⟨rfl, rfl, rfl, rfl, rfl, rfl, trivial⟩ ⟨by show i + 1 ≤ ks.length; omega, by rw [hs, shK_4 (by omega), shK_4 (by omega), shA_first ht (by omega), wrp_y (tgt_lt1.2 (by omega))]; simp, hO, hkk⟩ (by show ks.length - (i + 1) < ks.length - i; omega)
                  | exact N.next (G := fun (q : WQ) => _) ⟨i + 1, s ++ shT t⟩ ⟨rfl, rfl, rfl, rfl, rfl, rfl, trivial⟩ ⟨by show i + 1 ≤ ks.length; omega, by rw [hs, shK_4 (by omega), shK_4 (by omega), shA_first ht (by omega), wrp_n (fun h => by have := tgt_lt1.1 h; omega)], hO, hkk⟩ (by show ks.length - (i + 1) < ks.length - i; omega)
                  | exact N.next (G := fun (q : WQ) => _) ⟨i + 1, s ++ [124] ++ [40] ++ shT t ++ [41]⟩ ⟨rfl, rfl, rfl, rfl, rfl, rfl, trivial⟩ ⟨by show i + 1 ≤ ks.length; omega, by rw [hs, shK_4 (by omega), shK_4 (by omega), shA_take ht (by omega), wrp_y (tgt_lt1.2 (by omega))]; simp, hO, hkk⟩ (by show ks.length - (i + 1) < ks.length - i; omega)
                  | exact N.next (G := fun (q : WQ) => _) ⟨i + 1, s ++ [124] ++ shT t⟩ ⟨rfl, rfl, rfl, rfl, rfl, rfl, trivial⟩ ⟨by show i + 1 ≤ ks.length; omega, by rw [hs, shK_4 (by omega), shK_4 (by omega), shA_take ht (by omega), wrp_n (fun h => by have := tgt_lt1.1 h; omega)]; simp, hO, hkk⟩ (by show ks.length - (i + 1) < ks.length - i; omega)
        · refine E.exit ?_
          refine N.thenX ?_
          refine N.loopX ?_
          refine N.blkX ?_
          refine N.then ?_
          refine E.seq ?_
          refine E.region ?_
          refine X.mv rfl rfl rfl rfl rfl ?_
          refine X.asg rfl rfl rfl rfl rfl ?_
          refine X.done [(0, _), (1, _), (4, _), (5, _)] ⟨rfl, rfl, rfl, rfl, trivial⟩ ?_
          refine N.then ?_
          refine E.ret ?_
          refine N.blkR ?_
          refine N.thenR ?_
          obtain rfl : i = ks.length := by omega
          rw [List.take_length] at hs
          first
            | (rw [shT_3 (by omega), hs, shK_3 (by omega)]; exact N.retH [_] ⟨_, _, rfl, rfl, rfl⟩ ⟨rfl, hkk⟩)
            | (rw [shT_4 (by omega), hs, shK_4 (by omega)]; exact N.retH [_] ⟨_, _, rfl, rfl, rfl⟩ ⟨rfl, hkk⟩)
      · refine X.asg rfl rfl rfl rfl rfl ?_
        refine X.done [(0, _), (1, _), (4, _), (5, _), (6, _), (16, _), (27, _)] ⟨rfl, rfl, rfl, rfl, rfl, rfl, rfl, trivial⟩ ?_
        refine N.then ?_
        refine E.condF rfl ?_
        refine E.region ?_
        refine X.eql rfl rfl rfl rfl rfl rfl ?_
        rcases Decidable.em (x.kind = 4) with hz | hz
        rw [decide_eq_true hz]
        rotate_left
        rw [decide_eq_false hz]
        rotate_left
        · refine X.asg rfl rfl rfl rfl rfl ?_
          refine X.done [(0, _), (1, _), (4, _), (5, _), (6, _), (27, _)] ⟨rfl, rfl, rfl, rfl, rfl, rfl, trivial⟩ ?_
          refine N.then ?_
          refine E.condT rfl ?_
          refine E.seq ?_
          refine E.seq ?_
          refine E.region ?_
          refine X.asg rfl rfl rfl rfl rfl ?_
          refine X.done [(0, _), (1, _), (4, _), (5, _), (6, _), (7, _)] ⟨rfl, rfl, rfl, rfl, rfl, rfl, trivial⟩ ?_
          refine N.then ?_
          refine E.block ?_
          refine E.loop (fun (q : WQ) => [(0, (.slice a l.length c)), (1, i64 (pre.length : Nat)), (4, str []), (5, .slice ka ks.length kc), (6, str q.s), (7, i64 q.i)]) (fun (q : WQ) H' => q.i ≤ ks.length ∧ q.s = shK x.kind (ks.take q.i) ∧ Own H' 3 1 (.slice ka ks.length kc) ks.length (iv (posL (pre.length + 1) ks)) ∧ Kp [] H H') (fun (q : WQ) => ks.length - q.i) ⟨0, []⟩ ⟨rfl, rfl, rfl, rfl, rfl, rfl, trivial⟩ ⟨Nat.zero_le _, (shK_nil _).symm, hO, hkk⟩ ?_
          clear hO hkk hxb hxc hxa hN1
          rintro ⟨i, s⟩ H8 hJ
          dsimp only at hJ ⊢
          obtain ⟨hi, hs, hO, hkk⟩ := hJ
          have hN3 := hN.keepN hkk
          refine E.seq ?_
          refine E.seq ?_
          refine E.region ?_
          refine X.mv rfl rfl rfl rfl rfl ?_
          refine X.mv rfl rfl rfl rfl rfl ?_
          refine X.lenS rfl rfl rfl rfl rfl Tryd.underlying52 ?_
          refine X.lss rfl rfl rfl rfl rfl rfl ?_
          refine X.done [(0, _), (1, _), (4, _), (5, _), (6, _), (7, _), (33, _)] ⟨rfl, rfl, rfl, rfl, rfl, rfl, rfl, trivial⟩ ?_
          refine N.then ?_
          refine E.condD rfl (fun hc => ?_) (fun hc => ?_)
          · refine E.skip ?_
            refine N.then ?_
            refine E.seq ?_
            refine E.block ?_
            refine E.seq ?_
            refine E.seq ?_
            have hi2 : i < ks.length := by omega
            obtain ⟨t, ht⟩ := get_t hi2
            obtain ⟨hkl, hkn⟩ := kid_at hl ht
            have hRt := rt_kid hR ht
            have hlt := shT_tl hkl hlen
            have hpos := flat_le hkl
            rw [hkn] at hpos
            have hpp := flat_pos t
            have hsl := shK_tl (i := i) (k := x.kind) hfl
            obtain ⟨y, hy, hyk⟩ := root_k hkl
            rw [hkn] at hy
            obtain ⟨pb, po, pcs, pct, pfz, hpa, hpb, hpc⟩ := own_at hO (posL_get ks (pre.length + 1) i t ht)
            obtain ⟨yb, yo, ycs, yct, yfz, hya, hyb, hyc⟩ := hN3.at hy
            obtain ⟨xb, xo, xcs, xct, xfz, hxa, hxb, hxc⟩ := hN3.at hx
            have hykd : ycs[yo + (pre.length + 1 + (flats (ks.take i)).length) * 8 + 0]? = some (i64 (rk t)) := by rw [← hyk]; exact hyc 0 _ rfl
            refine E.region ?_
            refine X.mv rfl rfl rfl rfl rfl ?_
            refine X.gtrC rfl rfl rfl rfl rfl rfl (fun hc => ?_) (fun hc => ?_)
            · refine X.mv rfl rfl rfl rfl rfl ?_
              refine X.mv rfl rfl rfl rfl rfl ?_
              refine X.mv rfl rfl rfl rfl rfl ?_
              refine X.ixAe rfl rfl rfl rfl rfl rfl Tryd.underlying22 Tryd.sz38 (hxa) (by omega) ?_
              refine X.fld rfl rfl rfl rfl rfl Tryd.off38_0 ?_
              refine X.ld rfl rfl rfl rfl Tryd.ag3 (hxb) (by exact hxc 0 _ rfl) ?_
              refine X.eql rfl rfl rfl rfl rfl rfl ?_
              refine X.pickT rfl rfl rfl rfl rfl rfl ?_
              refine X.done [(0, _), (1, _), (4, _), (5, _), (6, _), (7, _), (45, _)] ⟨rfl, rfl, rfl, rfl, rfl, rfl, rfl, trivial⟩ ?_
              refine N.then ?_
              refine E.condD rfl (fun hc => ?_) (fun hc => ?_)
              · refine E.region ?_
                refine X.mv rfl rfl rfl rfl rfl ?_
                refine X.cat rfl rfl rfl rfl rfl rfl (by (try simp only [List.length_append, List.length_cons, List.length_nil]); (try rw [hs]); omega) ?_
                refine X.asg rfl rfl rfl rfl rfl ?_
                refine X.done [(0, _), (1, _), (4, _), (5, _), (6, _), (7, _)] ⟨rfl, rfl, rfl, rfl, rfl, rfl, trivial⟩ ?_
                refine N.then ?_
                refine E.seq ?_
                refine E.region ?_
                refine X.mv rfl rfl rfl rfl rfl ?_
                refine X.mv rfl rfl rfl rfl rfl ?_
                refine X.mv rfl rfl rfl rfl rfl ?_
                refine X.ixAe rfl rfl rfl rfl rfl rfl Tryd.underlying52 Tryd.sz3 (hpa) (by omega) ?_
                refine X.ld rfl rfl rfl rfl Tryd.ag3 (hpb) (by exact hpc) ?_
                refine X.ixAe rfl rfl rfl rfl rfl rfl Tryd.underlying22 Tryd.sz38 (hya) (by omega) ?_
                refine X.fld rfl rfl rfl rfl rfl Tryd.off38_0 ?_
                refine X.ld rfl rfl rfl rfl Tryd.ag3 (hyb) (by exact hykd) ?_
                refine X.asg rfl rfl rfl rfl rfl ?_
                refine X.done [(0, _), (1, _), (4, _), (5, _), (6, _), (7, _), (8, _)] ⟨rfl, rfl, rfl, rfl, rfl, rfl, rfl, trivial⟩ ?_
                refine N.then ?_
                refine E.seq ?_
                refine E.region ?_
                refine X.mv rfl rfl rfl rfl rfl ?_
                refine X.eqlC rfl rfl rfl rfl rfl rfl (fun hc => ?_) (fun hc => ?_)
                · refine X.mv rfl rfl rfl rfl rfl ?_
                  refine X.skip rfl rfl rfl ?_
                  refine X.skip rfl rfl rfl ?_
                  refine X.skip rfl rfl rfl ?_
                  refine X.skip rfl rfl rfl ?_
                  refine X.skip rfl rfl rfl ?_
                  refine X.skip rfl rfl rfl ?_
                  refine X.skip rfl rfl rfl ?_
                  refine X.skip rfl rfl rfl ?_
                  refine X.skip rfl rfl rfl ?_
                  refine X.skip rfl rfl rfl ?_
                  refine X.pickT rfl rfl rfl rfl rfl rfl ?_
                  refine X.done [(0, _), (1, _), (4, _), (5, _), (6, _), (7, _), (69, _)] ⟨rfl, rfl, rfl, rfl, rfl, rfl, rfl, trivial⟩ ?_
                  refine N.then ?_
                  refine E.condT rfl ?_
                  refine E.region ?_
                  refine X.mv rfl rfl rfl rfl rfl ?_
                  refine X.cat rfl rfl rfl rfl rfl rfl (by (try simp only [List.length_append, List.length_cons, List.length_nil]); (try rw [hs]); omega) ?_
                  refine X.mv rfl rfl rfl rfl rfl ?_
                  refine X.mv rfl rfl rfl rfl rfl ?_
                  refine X.mv rfl rfl rfl rfl rfl ?_
                  refine X.ixAe rfl rfl rfl rfl rfl rfl Tryd.underlying52 Tryd.sz3 (hpa) (by omega) ?_
                  refine X.ld rfl rfl rfl rfl Tryd.ag3 (hpb) (by exact hpc) ?_
                  refine X.call rfl rfl rfl rfl rfl Tryd.cl21 (hkids t (List.mem_of_getElem? ht) hRt _ _ _ _ hkl hkn hN3) ?_
                  rintro _ H9 ⟨rfl, hk9⟩
                  replace hkk := hkk.trans hk9 (by simp)
                  replace hO := hO.keep hk9 (by simp)
                  refine X.cat rfl rfl rfl rfl rfl rfl (by (try simp only [List.length_append, List.length_cons, List.length_nil]); (try rw [hs]); omega) ?_
                  refine X.cat rfl rfl rfl rfl rfl rfl (by (try simp only [List.length_append, List.length_cons, List.length_nil]); (try rw [hs]); omega) ?_
                  refine X.asg rfl rfl rfl rfl rfl ?_
                  refine X.done [(0, _), (1, _), (4, _), (5, _), (6, _), (7, _)] ⟨rfl, rfl, rfl, rfl, rfl, rfl, trivial⟩ ?_
                  refine N.blk ?_
                  refine N.then ?_
                  refine E.region ?_
                  refine X.mv rfl rfl rfl rfl rfl ?_
                  refine X.addE (zz := ((i + 1 : Nat) : Int)) rfl rfl rfl rfl rfl rfl (by rw [IntWalk.i64_in _ (by omega)] <;> omega) ?_
                  refine X.asg rfl rfl rfl rfl rfl ?_
                  refine X.done [(0, _), (1, _), (4, _), (5, _), (6, _), (7, _)] ⟨rfl, rfl, rfl, rfl, rfl, rfl, trivial⟩ ?_
                  first
                    | exact N.next (G := fun (q : WQ) => _) ⟨i + 1, s ++ [40] ++ shT t ++ [41]⟩ ⟨rfl, rfl, rfl, rfl, rfl, rfl, trivial⟩ ⟨by show i + 1 ≤ ks.length; omega, by rw [hs, shK_3 (by omega), shK_3 (by omega), shC_take ht, wrp_y (tgt_lt2.2 (by omega))]; simp, hO, hkk⟩ (by show ks.length - (i + 1) < ks.length - i; omega)
                    | exact N.next (G := fun (q : WQ) => _) ⟨i + 1, s ++ shT t⟩ ⟨rfl, rfl, rfl, rfl, rfl, rfl, trivial⟩ ⟨by show i + 1 ≤ ks.length; omega, by rw [hs, shK_3 (by omega), shK_3 (by omega), shC_take ht, wrp_n (fun h => by have := tgt_lt2.1 h; omega)], hO, hkk⟩ (by show ks.length - (i + 1) < ks.length - i; omega)
                    | exact N.next (G := fun (q : WQ) => _) ⟨i + 1, s ++ [40] ++ shT t ++ [41]⟩ ⟨rfl, rfl, rfl, rfl, rfl, rfl, trivial⟩ ⟨by show i + 1 ≤ ks.length; omega, by rw [hs, shK_4 (by omega), shK_4 (by omega), shA_first ht (by omega), wrp_y (tgt_lt1.2 (by omega))]; simp, hO, hkk⟩ (by show ks.length - (i + 1) < ks.length - i; omega)
                    | exact N.next (G := fun (q : WQ) => _) ⟨i + 1, s ++ shT t⟩ ⟨rfl, rfl, rfl, rfl, rfl, rfl, trivial⟩ ⟨by show i + 1 ≤ ks.length; omega, by rw [hs, shK_4 (by omega), shK_4 (by omega), shA_first ht (by omega), wrp_n (fun h => by have := tgt_lt1.1 h; omega)], hO, hkk⟩ (by show ks.length - (i + 1) < ks.length - i; omega)
                    | exact N.next (G := fun (q : WQ) => _) ⟨i + 1, s ++ [124] ++ [40] ++ shT t ++ [41]⟩ ⟨rfl, rfl, rfl, rfl, rfl, rfl, trivial⟩ ⟨by show i + 1 ≤ ks.length; omega, by rw [hs, shK_4 (by omega), shK_4 (by omega), shA_take ht (by omega), wrp_y (tgt_lt1.2 (by omega))]; simp, hO, hkk⟩ (by show ks.length - (i + 1) < ks.length - i; omega)
                    | exact N.next (G := fun (q : WQ) => _) ⟨i + 1, s ++ [124] ++ shT t⟩ ⟨rfl, rfl, rfl, rfl, rfl, rfl, trivial⟩ ⟨by show i + 1 ≤ ks.length; omega, by rw [hs, shK_4 (by omega), shK_4 (by omega), shA_take ht (by omega), wrp_n (fun h => by have := tgt_lt1.1 h; omega)]; simp, hO, hkk⟩ (by show ks.length - (i + 1) < ks.length - i; omega)
                · refine X.mv rfl rfl rfl rfl rfl ?_
                  refine X.mv rfl rfl rfl rfl rfl ?_
                  refine X.eqlC rfl rfl rfl rfl rfl rfl (fun hc => ?_) (fun hc => ?_)
                  · refine X.mv rfl rfl rfl rfl rfl ?_
                    refine X.mv rfl rfl rfl rfl rfl ?_
                    refine X.mv rfl rfl rfl rfl rfl ?_
                    refine X.ixAe rfl rfl rfl rfl rfl rfl Tryd.underlying22 Tryd.sz38 (hxa) (by omega) ?_
                    refine X.fld rfl rfl rfl rfl rfl Tryd.off38_0 ?_
                    refine X.ld rfl rfl rfl rfl Tryd.ag3 (hxb) (by exact hxc 0 _ rfl) ?_
                    refine X.eql rfl rfl rfl rfl rfl rfl ?_
                    refine X.pickT rfl rfl rfl rfl rfl rfl ?_
                    refine X.pickF rfl rfl rfl rfl rfl rfl ?_
                    refine X.done [(0, _), (1, _), (4, _), (5, _), (6, _), (7, _), (69, _)] ⟨rfl, rfl, rfl, rfl, rfl, rfl, rfl, trivial⟩ ?_
                    refine N.then ?_
                    refine E.condD rfl (fun hc => ?_) (fun hc => ?_)
                    · refine E.region ?_
                      refine X.mv rfl rfl rfl rfl rfl ?_
                      refine X.cat rfl rfl rfl rfl rfl rfl (by (try simp only [List.length_append, List.length_cons, List.length_nil]); (try rw [hs]); omega) ?_
                      refine X.mv rfl rfl rfl rfl rfl ?_
                      refine X.mv rfl rfl rfl rfl rfl ?_
                      refine X.mv rfl rfl rfl rfl rfl ?_
                      refine X.ixAe rfl rfl rfl rfl rfl rfl Tryd.underlying52 Tryd.sz3 (hpa) (by omega) ?_
                      refine X.ld rfl rfl rfl rfl Tryd.ag3 (hpb) (by exact hpc) ?_
                      refine X.call rfl rfl rfl rfl rfl Tryd.cl21 (hkids t (List.mem_of_getElem? ht) hRt _ _ _ _ hkl hkn hN3) ?_
                      rintro _ H9 ⟨rfl, hk9⟩
                      replace hkk := hkk.trans hk9 (by simp)
                      replace hO := hO.keep hk9 (by simp)
                      refine X.cat rfl rfl rfl rfl rfl rfl (by (try simp only [List.length_append, List.length_cons, List.length_nil]); (try rw [hs]); omega) ?_
                      refine X.cat rfl rfl rfl rfl rfl rfl (by (try simp only [List.length_append, List.length_cons, List.length_nil]); (try rw [hs]); omega) ?_
                      refine X.asg rfl rfl rfl rfl rfl ?_
                      refine X.done [(0, _), (1, _), (4, _), (5, _), (6, _), (7, _)] ⟨rfl, rfl, rfl, rfl, rfl, rfl, trivial⟩ ?_
                      refine N.blk ?_
                      refine N.then ?_
                      refine E.region ?_
                      refine X.mv rfl rfl rfl rfl rfl ?_
                      refine X.addE (zz := ((i + 1 : Nat) : Int)) rfl rfl rfl rfl rfl rfl (by rw [IntWalk.i64_in _ (by omega)] <;> omega) ?_
                      refine X.asg rfl rfl rfl rfl rfl ?_
                      refine X.done [(0, _), (1, _), (4, _), (5, _), (6, _), (7, _)] ⟨rfl, rfl, rfl, rfl, rfl, rfl, trivial⟩ ?_
                      first
                        | exact N.next (G := fun (q : WQ) => _) ⟨i + 1, s ++ [40] ++ shT t ++ [41]⟩ ⟨rfl, rfl, rfl, rfl, rfl, rfl, trivial⟩ ⟨by show i + 1 ≤ ks.length; omega, by rw [hs, shK_3 (by omega), shK_3 (by omega), shC_take ht, wrp_y (tgt_lt2.2 (by omega))]; simp, hO, hkk⟩ (by show ks.length - (i + 1) < ks.length - i; omega)
                        | exact N.next (G := fun (q : WQ) => _) ⟨i + 1, s ++ shT t⟩ ⟨rfl, rfl, rfl, rfl, rfl, rfl, trivial⟩ ⟨by show i + 1 ≤ ks.length; omega, by rw [hs, shK_3 (by omega), shK_3 (by omega), shC_take ht, wrp_n (fun h => by have := tgt_lt2.1 h; omega)], hO, hkk⟩ (by show ks.length - (i + 1) < ks.length - i; omega)
                        | exact N.next (G := fun (q : WQ) => _) ⟨i + 1, s ++ [40] ++ shT t ++ [41]⟩ ⟨rfl, rfl, rfl, rfl, rfl, rfl, trivial⟩ ⟨by show i + 1 ≤ ks.length; omega, by rw [hs, shK_4 (by omega), shK_4 (by omega), shA_first ht (by omega), wrp_y (tgt_lt1.2 (by omega))]; simp, hO, hkk⟩ (by show ks.length - (i + 1) < ks.length - i; omega)
                        | exact N.next (G := fun (q : WQ) => _) ⟨i + 1, s ++ shT t⟩ ⟨rfl, rfl, rfl, rfl, rfl, rfl, trivial⟩ ⟨by show i + 1 ≤ ks.length; omega, by rw [hs, shK_4 (by omega), shK_4 (by omega), shA_first ht (by omega), wrp_n (fun h => by have := tgt_lt1.1 h; omega)], hO, hkk⟩ (by show ks.length - (i + 1) < ks.length - i; omega)
                        | exact N.next (G := fun (q : WQ) => _) ⟨i + 1, s ++ [124] ++ [40] ++ shT t ++ [41]⟩ ⟨rfl, rfl, rfl, rfl, rfl, rfl, trivial⟩ ⟨by show i + 1 ≤ ks.length; omega, by rw [hs, shK_4 (by omega), shK_4 (by omega), shA_take ht (by omega), wrp_y (tgt_lt1.2 (by omega))]; simp, hO, hkk⟩ (by show ks.length - (i + 1) < ks.length - i; omega)
                        | exact N.next (G := fun (q : WQ) => _) ⟨i + 1, s ++ [124] ++ shT t⟩ ⟨rfl, rfl, rfl, rfl, rfl, rfl, trivial⟩ ⟨by show i + 1 ≤ ks.length; omega, by rw [hs, shK_4 (by omega), shK_4 (by omega), shA_take ht (by omega), wrp_n (fun h => by have := tgt_lt1.1 h; omega)]; simp, hO, hkk⟩ (by show ks.length - (i + 1) < ks.length - i; omega)
                    · refine E.region ?_
                      refine X.mv rfl rfl rfl rfl rfl ?_
                      refine X.mv rfl rfl rfl rfl rfl ?_
                      refine X.mv rfl rfl rfl rfl rfl ?_
                      refine X.mv rfl rfl rfl rfl rfl ?_
                      refine X.ixAe rfl rfl rfl rfl rfl rfl Tryd.underlying52 Tryd.sz3 (hpa) (by omega) ?_
                      refine X.ld rfl rfl rfl rfl Tryd.ag3 (hpb) (by exact hpc) ?_
                      refine X.call rfl rfl rfl rfl rfl Tryd.cl21 (hkids t (List.mem_of_getElem? ht) hRt _ _ _ _ hkl hkn hN3) ?_
                      rintro _ H9 ⟨rfl, hk9⟩
                      replace hkk := hkk.trans hk9 (by simp)
                      replace hO := hO.keep hk9 (by simp)
                      refine X.cat rfl rfl rfl rfl rfl rfl (by (try simp only [List.length_append, List.length_cons, List.length_nil]); (try rw [hs]); omega) ?_
                      refine X.asg rfl rfl rfl rfl rfl ?_
                      refine X.done [(0, _), (1, _), (4, _), (5, _), (6, _), (7, _)] ⟨rfl, rfl, rfl, rfl, rfl, rfl, trivial⟩ ?_
                      refine N.blk ?_
                      refine N.then ?_
                      refine E.region ?_
                      refine X.mv rfl rfl rfl rfl rfl ?_
                      refine X.addE (zz := ((i + 1 : Nat) : Int)) rfl rfl rfl rfl rfl rfl (by rw [IntWalk.i64_in _ (by omega)] <;> omega) ?_
                      refine X.asg rfl rfl rfl rfl rfl ?_
                      refine X.done [(0, _), (1, _), (4, _), (5, _), (6, _), (7, _)] ⟨rfl, rfl, rfl, rfl, rfl, rfl, trivial⟩ ?_
                      first
                        | exact N.next (G := fun (q : WQ) => _) ⟨i + 1, s ++ [40] ++ shT t ++ [41]⟩ ⟨rfl, rfl, rfl, rfl, rfl, rfl, trivial⟩ ⟨by show i + 1 ≤ ks.length; omega, by rw [hs, shK_3 (by omega), shK_3 (by omega), shC_take ht, wrp_y (tgt_lt2.2 (by omega))]; simp, hO, hkk⟩ (by show ks.length - (i + 1) < ks.length - i; omega)
                        | exact N.next (G := fun (q : WQ) => _) ⟨i + 1, s ++ shT t⟩ ⟨rfl, rfl, rfl, rfl, rfl, rfl, trivial⟩ ⟨by show i + 1 ≤ ks.length; omega, by rw [hs, shK_3 (by omega), shK_3 (by omega), shC_take ht, wrp_n (fun h => by have := tgt_lt2.1 h; omega)], hO, hkk⟩ (by show ks.length - (i + 1) < ks.length - i; omega)
                        | exact N.next (G := fun (q : WQ) => _) ⟨i + 1, s ++ [40] ++ shT t ++ [41]⟩ ⟨rfl, rfl, rfl, rfl, rfl, rfl, trivial⟩ ⟨by show i + 1 ≤ ks.length; omega, by rw [hs, shK_4 (by omega), shK_4 (by omega), shA_first ht (by omega), wrp_y (tgt_lt1.2 (by omega))]; simp, hO, hkk⟩ (by show ks.length - (i + 1) < ks.length - i; omega)
                        | exact N.next (G := fun (q : WQ) => _) ⟨i + 1, s ++ shT t⟩ ⟨rfl, rfl, rfl, rfl, rfl, rfl, trivial⟩ ⟨by show i + 1 ≤ ks.length; omega, by rw [hs, shK_4 (by omega), shK_4 (by omega), shA_first ht (by omega), wrp_n (fun h => by have := tgt_lt1.1 h; omega)], hO, hkk⟩ (by show ks.length - (i + 1) < ks.length - i; omega)
                        | exact N.next (G := fun (q : WQ) => _) ⟨i + 1, s ++ [124] ++ [40] ++ shT t ++ [41]⟩ ⟨rfl, rfl, rfl, rfl, rfl, rfl, trivial⟩ ⟨by show i + 1 ≤ ks.length; omega, by rw [hs, shK_4 (by omega), shK_4 (by omega), shA_take ht (by omega), wrp_y (tgt_lt1.2 (by omega))]; simp, hO, hkk⟩ (by show ks.length - (i + 1) < ks.length - i; omega)
                        | exact N.next (G := fun (q : WQ) => _) ⟨i + 1, s ++ [124] ++ shT t⟩ ⟨rfl, rfl, rfl, rfl, rfl, rfl, trivial⟩ ⟨by show i + 1 ≤ ks.length; omega, by rw [hs, shK_4 (by omega), shK_4 (by omega), shA_take ht (by omega), wrp_n (fun h => by have := tgt_lt1.1 h; omega)]; simp, hO, hkk⟩ (by show ks.length - (i + 1) < ks.length - i; omega)
                  · refine X.mv rfl rfl rfl rfl rfl ?_
                    refine X.skip rfl rfl rfl ?_
                    refine X.skip rfl rfl rfl ?_
                    refine X.skip rfl rfl rfl ?_
                    refine X.skip rfl rfl rfl ?_
                    refine X.skip rfl rfl rfl ?_
                    refine X.skip rfl rfl rfl ?_
                    refine X.pickF rfl rfl rfl rfl rfl rfl ?_
                    refine X.pickF rfl rfl rfl rfl rfl rfl ?_
                    refine X.done [(0, _), (1, _), (4, _), (5, _), (6, _), (7, _), (69, _)] ⟨rfl, rfl, rfl, rfl, rfl, rfl, rfl, trivial⟩ ?_
                    refine N.then ?_
                    refine E.condF rfl ?_
                    refine E.region ?_
                    refine X.mv rfl rfl rfl rfl rfl ?_
                    refine X.mv rfl rfl rfl rfl rfl ?_
                    refine X.mv rfl rfl rfl rfl rfl ?_
                    refine X.mv rfl rfl rfl rfl rfl ?_
                    refine X.ixAe rfl rfl rfl rfl rfl rfl Tryd.underlying52 Tryd.sz3 (hpa) (by omega) ?_
                    refine X.ld rfl rfl rfl rfl Tryd.ag3 (hpb) (by exact hpc) ?_
                    refine X.call rfl rfl rfl rfl rfl Tryd.cl21 (hkids t (List.mem_of_getElem? ht) hRt _ _ _ _ hkl hkn hN3) ?_
                    rintro _ H9 ⟨rfl, hk9⟩
                    replace hkk := hkk.trans hk9 (by simp)
                    replace hO := hO.keep hk9 (by simp)
                    refine X.cat rfl rfl rfl rfl rfl rfl (by (try simp only [List.length_append, List.length_cons, List.length_nil]); (try rw [hs]); omega) ?_
                    refine X.asg rfl rfl rfl rfl rfl ?_
                    refine X.done [(0, _), (1, _), (4, _), (5, _), (6, _), (7, _)] ⟨rfl, rfl, rfl, rfl, rfl, rfl, trivial⟩ ?_
                    refine N.blk ?_
                    refine N.then ?_
                    refine E.region ?_
                    refine X.mv rfl rfl rfl rfl rfl ?_
                    refine X.addE (zz := ((i + 1 : Nat) : Int)) rfl rfl rfl rfl rfl rfl (by rw [IntWalk.i64_in _ (by omega)] <;> omega) ?_
                    refine X.asg rfl rfl rfl rfl rfl ?_
                    refine X.done [(0, _), (1, _), (4, _), (5, _), (6, _), (7, _)] ⟨rfl, rfl, rfl, rfl, rfl, rfl, trivial⟩ ?_
                    first
                      | exact N.next (G := fun (q : WQ) => _) ⟨i + 1, s ++ [40] ++ shT t ++ [41]⟩ ⟨rfl, rfl, rfl, rfl, rfl, rfl, trivial⟩ ⟨by show i + 1 ≤ ks.length; omega, by rw [hs, shK_3 (by omega), shK_3 (by omega), shC_take ht, wrp_y (tgt_lt2.2 (by omega))]; simp, hO, hkk⟩ (by show ks.length - (i + 1) < ks.length - i; omega)
                      | exact N.next (G := fun (q : WQ) => _) ⟨i + 1, s ++ shT t⟩ ⟨rfl, rfl, rfl, rfl, rfl, rfl, trivial⟩ ⟨by show i + 1 ≤ ks.length; omega, by rw [hs, shK_3 (by omega), shK_3 (by omega), shC_take ht, wrp_n (fun h => by have := tgt_lt2.1 h; omega)], hO, hkk⟩ (by show ks.length - (i + 1) < ks.length - i; omega)
                      | exact N.next (G := fun (q : WQ) => _) ⟨i + 1, s ++ [40] ++ shT t ++ [41]⟩ ⟨rfl, rfl, rfl, rfl, rfl, rfl, trivial⟩ ⟨by show i + 1 ≤ ks.length; omega, by rw [hs, shK_4 (by omega), shK_4 (by omega), shA_first ht (by omega), wrp_y (tgt_lt1.2 (by omega))]; simp, hO, hkk⟩ (by show ks.length - (i + 1) < ks.length - i; omega)
                      | exact N.next (G := fun (q : WQ) => _) ⟨i + 1, s ++ shT t⟩ ⟨rfl, rfl, rfl, rfl, rfl, rfl, trivial⟩ ⟨by show i + 1 ≤ ks.length; omega, by rw [hs, shK_4 (by omega), shK_4 (by omega), shA_first ht (by omega), wrp_n (fun h => by have := tgt_lt1.1 h; omega)], hO, hkk⟩ (by show ks.length - (i + 1) < ks.length - i; omega)
                      | exact N.next (G := fun (q : WQ) => _) ⟨i + 1, s ++ [124] ++ [40] ++ shT t ++ [41]⟩ ⟨rfl, rfl, rfl, rfl, rfl, rfl, trivial⟩ ⟨by show i + 1 ≤ ks.length; omega, by rw [hs, shK_4 (by omega), shK_4 (by omega), shA_take ht (by omega), wrp_y (tgt_lt1.2 (by omega))]; simp, hO, hkk⟩ (by show ks.length - (i + 1) < ks.length - i; omega)
                      | exact N.next (G := fun (q : WQ) => _) ⟨i + 1, s ++ [124] ++ shT t⟩ ⟨rfl, rfl, rfl, rfl, rfl, rfl, trivial⟩ ⟨by show i + 1 ≤ ks.length; omega, by rw [hs, shK_4 (by omega), shK_4 (by omega), shA_take ht (by omega), wrp_n (fun h => by have := tgt_lt1.1 h; omega)]; simp, hO, hkk⟩ (by show ks.length - (i + 1) < ks.length - i; omega)
              · refine E.skip ?_
                refine N.then ?_
                refine E.seq ?_
                refine E.region ?_
                refine X.mv rfl rfl rfl rfl rfl ?_
                refine X.mv rfl rfl rfl rfl rfl ?_
                refine X.mv rfl rfl rfl rfl rfl ?_
                refine X.ixAe rfl rfl rfl rfl rfl rfl Tryd.underlying52 Tryd.sz3 (hpa) (by omega) ?_
                refine X.ld rfl rfl rfl rfl Tryd.ag3 (hpb) (by exact hpc) ?_
                refine X.ixAe rfl rfl rfl rfl rfl rfl Tryd.underlying22 Tryd.sz38 (hya) (by omega) ?_
                refine X.fld rfl rfl rfl rfl rfl Tryd.off38_0 ?_
                refine X.ld rfl rfl rfl rfl Tryd.ag3 (hyb) (by exact hykd) ?_
                refine X.asg rfl rfl rfl rfl rfl ?_
                refine X.done [(0, _), (1, _), (4, _), (5, _), (6, _), (7, _), (8, _)] ⟨rfl, rfl, rfl, rfl, rfl, rfl, rfl, trivial⟩ ?_
                refine N.then ?_
                refine E.seq ?_
                refine E.region ?_
                refine X.mv rfl rfl rfl rfl rfl ?_
                refine X.eqlC rfl rfl rfl rfl rfl rfl (fun hc => ?_) (fun hc => ?_)
                · refine X.mv rfl rfl rfl rfl rfl ?_
                  refine X.skip rfl rfl rfl ?_
                  refine X.skip rfl rfl rfl ?_
                  refine X.skip rfl rfl rfl ?_
                  refine X.skip rfl rfl rfl ?_
                  refine X.skip rfl rfl rfl ?_
                  refine X.skip rfl rfl rfl ?_
                  refine X.skip rfl rfl rfl ?_
                  refine X.skip rfl rfl rfl ?_
                  refine X.skip rfl rfl rfl ?_
                  refine X.skip rfl rfl rfl ?_
                  refine X.pickT rfl rfl rfl rfl rfl rfl ?_
                  refine X.done [(0, _), (1, _), (4, _), (5, _), (6, _), (7, _), (69, _)] ⟨rfl, rfl, rfl, rfl, rfl, rfl, rfl, trivial⟩ ?_
                  refine N.then ?_
                  refine E.condT rfl ?_
                  refine E.region ?_
                  refine X.mv rfl rfl rfl rfl rfl ?_
                  refine X.cat rfl rfl rfl rfl rfl rfl (by (try simp only [List.length_append, List.length_cons, List.length_nil]); (try rw [hs]); omega) ?_
                  refine X.mv rfl rfl rfl rfl rfl ?_
                  refine X.mv rfl rfl rfl rfl rfl ?_
                  refine X.mv rfl rfl rfl rfl rfl ?_
                  refine X.ixAe rfl rfl rfl rfl rfl rfl Tryd.underlying52 Tryd.sz3 (hpa) (by omega) ?_
                  refine X.ld rfl rfl rfl rfl Tryd.ag3 (hpb) (by exact hpc) ?_
                  refine X.call rfl rfl rfl rfl rfl Tryd.cl21 (hkids t (List.mem_of_getElem? ht) hRt _ _ _ _ hkl hkn hN3) ?_
                  rintro _ H9 ⟨rfl, hk9⟩
                  replace hkk := hkk.trans hk9 (by simp)
                  replace hO := hO.keep hk9 (by simp)
                  refine X.cat rfl rfl rfl rfl rfl rfl (by (try simp only [List.length_append, List.length_cons, List.length_nil]); (try rw [hs]); omega) ?_
                  refine X.cat rfl rfl rfl rfl rfl rfl (by (try simp only [List.length_append, List.length_cons, List.length_nil]); (try rw [hs]); omega) ?_
                  refine X.asg rfl rfl rfl rfl rfl ?_
                  refine X.done [(0, _), (1, _), (4, _), (5, _), (6, _), (7, _)] ⟨rfl, rfl, rfl, rfl, rfl, rfl, trivial⟩ ?_
                  refine N.blk ?_
                  refine N.then ?_
                  refine E.region ?_
                  refine X.mv rfl rfl rfl rfl rfl ?_
                  refine X.addE (zz := ((i + 1 : Nat) : Int)) rfl rfl rfl rfl rfl rfl (by rw [IntWalk.i64_in _ (by omega)] <;> omega) ?_
                  refine X.asg rfl rfl rfl rfl rfl ?_
                  refine X.done [(0, _), (1, _), (4, _), (5, _), (6, _), (7, _)] ⟨rfl, rfl, rfl, rfl, rfl, rfl, trivial⟩ ?_
                  first
                    | exact N.next (G := fun (q : WQ) => _) ⟨i + 1, s ++ [40] ++ shT t ++ [41]⟩ ⟨rfl, rfl, rfl, rfl, rfl, rfl, trivial⟩ ⟨by show i + 1 ≤ ks.length; omega, by rw [hs, shK_3 (by omega), shK_3 (by omega), shC_take ht, wrp_y (tgt_lt2.2 (by omega))]; simp, hO, hkk⟩ (by show ks.length - (i + 1) < ks.length - i; omega)
                    | exact N.next (G := fun (q : WQ) => _) ⟨i + 1, s ++ shT t⟩ ⟨rfl, rfl, rfl, rfl, rfl, rfl, trivial⟩ ⟨by show i + 1 ≤ ks.length; omega, by rw [hs, shK_3 (by omega), shK_3 (by omega), shC_take ht, wrp_n (fun h => by have := tgt_lt2.1 h; omega)], hO, hkk⟩ (by show ks.length - (i + 1) < ks.length - i; omega)
                    | exact N.next (G := fun (q : WQ) => _) ⟨i + 1, s ++ [40] ++ shT t ++ [41]⟩ ⟨rfl, rfl, rfl, rfl, rfl, rfl, trivial⟩ ⟨by show i + 1 ≤ ks.length; omega, by rw [hs, shK_4 (by omega), shK_4 (by omega), shA_first ht (by omega), wrp_y (tgt_lt1.2 (by omega))]; simp, hO, hkk⟩ (by show ks.length - (i + 1) < ks.length - i; omega)
                    | exact N.next (G := fun (q : WQ) => _) ⟨i + 1, s ++ shT t⟩ ⟨rfl, rfl, rfl, rfl, rfl, rfl, trivial⟩ ⟨by show i + 1 ≤ ks.length; omega, by rw [hs, shK_4 (by omega), shK_4 (by omega), shA_first ht (by omega), wrp_n (fun h => by have := tgt_lt1.1 h; omega)], hO, hkk⟩ (by show ks.length - (i + 1) < ks.length - i; omega)
                    | exact N.next (G := fun (q : WQ) => _) ⟨i + 1, s ++ [124] ++ [40] ++ shT t ++ [41]⟩ ⟨rfl, rfl, rfl, rfl, rfl, rfl, trivial⟩ ⟨by show i + 1 ≤ ks.length; omega, by rw [hs, shK_4 (by omega), shK_4 (by omega), shA_take ht (by omega), wrp_y (tgt_lt1.2 (by omega))]; simp, hO, hkk⟩ (by show ks.length - (i + 1) < ks.length - i; omega)
                    | exact N.next (G := fun (q : WQ) => _) ⟨i + 1, s ++ [124] ++ shT t⟩ ⟨rfl, rfl, rfl, rfl, rfl, rfl, trivial⟩ ⟨by show i + 1 ≤ ks.length; omega, by rw [hs, shK_4 (by omega), shK_4 (by omega), shA_take ht (by omega), wrp_n (fun h => by have := tgt_lt1.1 h; omega)]; simp, hO, hkk⟩ (by show ks.length - (i + 1) < ks.length - i; omega)
                · refine X.mv rfl rfl rfl rfl rfl ?_
                  refine X.mv rfl rfl rfl rfl rfl ?_
                  refine X.eqlC rfl rfl rfl rfl rfl rfl (fun hc => ?_) (fun hc => ?_)
                  · refine X.mv rfl rfl rfl rfl rfl ?_
                    refine X.mv rfl rfl rfl rfl rfl ?_
                    refine X.mv rfl rfl rfl rfl rfl ?_
                    refine X.ixAe rfl rfl rfl rfl rfl rfl Tryd.underlying22 Tryd.sz38 (hxa) (by omega) ?_
                    refine X.fld rfl rfl rfl rfl rfl Tryd.off38_0 ?_
                    refine X.ld rfl rfl rfl rfl Tryd.ag3 (hxb) (by exact hxc 0 _ rfl) ?_
                    refine X.eql rfl rfl rfl rfl rfl rfl ?_
                    refine X.pickT rfl rfl rfl rfl rfl rfl ?_
                    refine X.pickF rfl rfl rfl rfl rfl rfl ?_
                    refine X.done [(0, _), (1, _), (4, _), (5, _), (6, _), (7, _), (69, _)] ⟨rfl, rfl, rfl, rfl, rfl, rfl, rfl, trivial⟩ ?_
                    refine N.then ?_
                    refine E.condD rfl (fun hc => ?_) (fun hc => ?_)
                    · refine E.region ?_
                      refine X.mv rfl rfl rfl rfl rfl ?_
                      refine X.cat rfl rfl rfl rfl rfl rfl (by (try simp only [List.length_append, List.length_cons, List.length_nil]); (try rw [hs]); omega) ?_
                      refine X.mv rfl rfl rfl rfl rfl ?_
                      refine X.mv rfl rfl rfl rfl rfl ?_
                      refine X.mv rfl rfl rfl rfl rfl ?_
                      refine X.ixAe rfl rfl rfl rfl rfl rfl Tryd.underlying52 Tryd.sz3 (hpa) (by omega) ?_
                      refine X.ld rfl rfl rfl rfl Tryd.ag3 (hpb) (by exact hpc) ?_
                      refine X.call rfl rfl rfl rfl rfl Tryd.cl21 (hkids t (List.mem_of_getElem? ht) hRt _ _ _ _ hkl hkn hN3) ?_
                      rintro _ H9 ⟨rfl, hk9⟩
                      replace hkk := hkk.trans hk9 (by simp)
                      replace hO := hO.keep hk9 (by simp)
                      refine X.cat rfl rfl rfl rfl rfl rfl (by (try simp only [List.length_append, List.length_cons, List.length_nil]); (try rw [hs]); omega) ?_
                      refine X.cat rfl rfl rfl rfl rfl rfl (by (try simp only [List.length_append, List.length_cons, List.length_nil]); (try rw [hs]); omega) ?_
                      refine X.asg rfl rfl rfl rfl rfl ?_
                      refine X.done [(0, _), (1, _), (4, _), (5, _), (6, _), (7, _)] ⟨rfl, rfl, rfl, rfl, rfl, rfl, trivial⟩ ?_
                      refine N.blk ?_
                      refine N.then ?_
                      refine E.region ?_
                      refine X.mv rfl rfl rfl rfl rfl ?_
                      refine X.addE (zz := ((i + 1 : Nat) : Int)) rfl rfl rfl rfl rfl rfl (by rw [IntWalk.i64_in _ (by omega)] <;> omega) ?_
                      refine X.asg rfl rfl rfl rfl rfl ?_
                      refine X.done [(0, _), (1, _), (4, _), (5, _), (6, _), (7, _)] ⟨rfl, rfl, rfl, rfl, rfl, rfl, trivial⟩ ?_
                      first
                        | exact N.next (G := fun (q : WQ) => _) ⟨i + 1, s ++ [40] ++ shT t ++ [41]⟩ ⟨rfl, rfl, rfl, rfl, rfl, rfl, trivial⟩ ⟨by show i + 1 ≤ ks.length; omega, by rw [hs, shK_3 (by omega), shK_3 (by omega), shC_take ht, wrp_y (tgt_lt2.2 (by omega))]; simp, hO, hkk⟩ (by show ks.length - (i + 1) < ks.length - i; omega)
                        | exact N.next (G := fun (q : WQ) => _) ⟨i + 1, s ++ shT t⟩ ⟨rfl, rfl, rfl, rfl, rfl, rfl, trivial⟩ ⟨by show i + 1 ≤ ks.length; omega, by rw [hs, shK_3 (by omega), shK_3 (by omega), shC_take ht, wrp_n (fun h => by have := tgt_lt2.1 h; omega)], hO, hkk⟩ (by show ks.length - (i + 1) < ks.length - i; omega)
                        | exact N.next (G := fun (q : WQ) => _) ⟨i + 1, s ++ [40] ++ shT t ++ [41]⟩ ⟨rfl, rfl, rfl, rfl, rfl, rfl, trivial⟩ ⟨by show i + 1 ≤ ks.length; omega, by rw [hs, shK_4 (by omega), shK_4 (by omega), shA_first ht (by omega), wrp_y (tgt_lt1.2 (by omega))]; simp, hO, hkk⟩ (by show ks.length - (i + 1) < ks.length - i; omega)
                        | exact N.next (G := fun (q : WQ) => _) ⟨i + 1, s ++ shT t⟩ ⟨rfl, rfl, rfl, rfl, rfl, rfl, trivial⟩ ⟨by show i + 1 ≤ ks.length; omega, by rw [hs, shK_4 (by omega), shK_4 (by omega), shA_first ht (by omega), wrp_n (fun h => by have := tgt_lt1.1 h; omega)], hO, hkk⟩ (by show ks.length - (i + 1) < ks.length - i; omega)
                        | exact N.next (G := fun (q : WQ) => _) ⟨i + 1, s ++ [124] ++ [40] ++ shT t ++ [41]⟩ ⟨rfl, rfl, rfl, rfl, rfl, rfl, trivial⟩ ⟨by show i + 1 ≤ ks.length; omega, by rw [hs, shK_4 (by omega), shK_4 (by omega), shA_take ht (by omega), wrp_y (tgt_lt1.2 (by omega))]; simp, hO, hkk⟩ (by show ks.length - (i + 1) < ks.length - i; omega)
                        | exact N.next (G := fun (q : WQ) => _) ⟨i + 1, s ++ [124] ++ shT t⟩ ⟨rfl, rfl, rfl, rfl, rfl, rfl, trivial⟩ ⟨by show i + 1 ≤ ks.length; omega, by rw [hs, shK_4 (by omega), shK_4 (by omega), shA_take ht (by omega), wrp_n (fun h => by have := tgt_lt1.1 h; omega)]; simp, hO, hkk⟩ (by show ks.length - (i + 1) < ks.length - i; omega)
                    · refine E.region ?_
                      refine X.mv rfl rfl rfl rfl rfl ?_
                      refine X.mv rfl rfl rfl rfl rfl ?_
                      refine X.mv rfl rfl rfl rfl rfl ?_
                      refine X.mv rfl rfl rfl rfl rfl ?_
                      refine X.ixAe rfl rfl rfl rfl rfl rfl Tryd.underlying52 Tryd.sz3 (hpa) (by omega) ?_
                      refine X.ld rfl rfl rfl rfl Tryd.ag3 (hpb) (by exact hpc) ?_
                      refine X.call rfl rfl rfl rfl rfl Tryd.cl21 (hkids t (List.mem_of_getElem? ht) hRt _ _ _ _ hkl hkn hN3) ?_
                      rintro _ H9 ⟨rfl, hk9⟩
                      replace hkk := hkk.trans hk9 (by simp)
                      replace hO := hO.keep hk9 (by simp)
                      refine X.cat rfl rfl rfl rfl rfl rfl (by (try simp only [List.length_append, List.length_cons, List.length_nil]); (try rw [hs]); omega) ?_
                      refine X.asg rfl rfl rfl rfl rfl ?_
                      refine X.done [(0, _), (1, _), (4, _), (5, _), (6, _), (7, _)] ⟨rfl, rfl, rfl, rfl, rfl, rfl, trivial⟩ ?_
                      refine N.blk ?_
                      refine N.then ?_
                      refine E.region ?_
                      refine X.mv rfl rfl rfl rfl rfl ?_
                      refine X.addE (zz := ((i + 1 : Nat) : Int)) rfl rfl rfl rfl rfl rfl (by rw [IntWalk.i64_in _ (by omega)] <;> omega) ?_
                      refine X.asg rfl rfl rfl rfl rfl ?_
                      refine X.done [(0, _), (1, _), (4, _), (5, _), (6, _), (7, _)] ⟨rfl, rfl, rfl, rfl, rfl, rfl, trivial⟩ ?_
                      first
                        | exact N.next (G := fun (q : WQ) => _) ⟨i + 1, s ++ [40] ++ shT t ++ [41]⟩ ⟨rfl, rfl, rfl, rfl, rfl, rfl, trivial⟩ ⟨by show i + 1 ≤ ks.length; omega, by rw [hs, shK_3 (by omega), shK_3 (by omega), shC_take ht, wrp_y (tgt_lt2.2 (by omega))]; simp, hO, hkk⟩ (by show ks.length - (i + 1) < ks.length - i; omega)
                        | exact N.next (G := fun (q : WQ) => _) ⟨i + 1, s ++ shT t⟩ ⟨rfl, rfl, rfl, rfl, rfl, rfl, trivial⟩ ⟨by show i + 1 ≤ ks.length; omega, by rw [hs, shK_3 (by omega), shK_3 (by omega), shC_take ht, wrp_n (fun h => by have := tgt_lt2.1 h; omega)], hO, hkk⟩ (by show ks.length - (i + 1) < ks.length - i; omega)
                        | exact N.next (G := fun (q : WQ) => _) ⟨i + 1, s ++ [40] ++ shT t ++ [41]⟩ ⟨rfl, rfl, rfl, rfl, rfl, rfl, trivial⟩ ⟨by show i + 1 ≤ ks.length; omega, by rw [hs, shK_4 (by omega), shK_4 (by omega), shA_first ht (by omega), wrp_y (tgt_lt1.2 (by omega))]; simp, hO, hkk⟩ (by show ks.length - (i + 1) < ks.length - i; omega)
                        | exact N.next (G := fun (q : WQ) => _) ⟨i + 1, s ++ shT t⟩ ⟨rfl, rfl, rfl, rfl, rfl, rfl, trivial⟩ ⟨by show i + 1 ≤ ks.length; omega, by rw [hs, shK_4 (by omega), shK_4 (by omega), shA_first ht (by omega), wrp_n (fun h => by have := tgt_lt1.1 h; omega)], hO, hkk⟩ (by show ks.length - (i + 1) < ks.length - i; omega)
                        | exact N.next (G := fun (q : WQ) => _) ⟨i + 1, s ++ [124] ++ [40] ++ shT t ++ [41]⟩ ⟨rfl, rfl, rfl, rfl, rfl, rfl, trivial⟩ ⟨by show i + 1 ≤ ks.length; omega, by rw [hs, shK_4 (by omega), shK_4 (by omega), shA_take ht (by omega), wrp_y (tgt_lt1.2 (by omega))]; simp, hO, hkk⟩ (by show ks.length - (i + 1) < ks.length - i; omega)
                        | exact N.next (G := fun (q : WQ) => _) ⟨i + 1, s ++ [124] ++ shT t⟩ ⟨rfl, rfl, rfl, rfl, rfl, rfl, trivial⟩ ⟨by show i + 1 ≤ ks.length; omega, by rw [hs, shK_4 (by omega), shK_4 (by omega), shA_take ht (by omega), wrp_n (fun h => by have := tgt_lt1.1 h; omega)]; simp, hO, hkk⟩ (by show ks.length - (i + 1) < ks.length - i; omega)
                  · refine X.mv rfl rfl rfl rfl rfl ?_
                    refine X.skip rfl rfl rfl ?_
                    refine X.skip rfl rfl rfl ?_
                    refine X.skip rfl rfl rfl ?_
                    refine X.skip rfl rfl rfl ?_
                    refine X.skip rfl rfl rfl ?_
                    refine X.skip rfl rfl rfl ?_
                    refine X.pickF rfl rfl rfl rfl rfl rfl ?_
                    refine X.pickF rfl rfl rfl rfl rfl rfl ?_
                    refine X.done [(0, _), (1, _), (4, _), (5, _), (6, _), (7, _), (69, _)] ⟨rfl, rfl, rfl, rfl, rfl, rfl, rfl, trivial⟩ ?_
                    refine N.then ?_
                    refine E.condF rfl ?_
                    refine E.region ?_
                    refine X.mv rfl rfl rfl rfl rfl ?_
                    refine X.mv rfl rfl rfl rfl rfl ?_
                    refine X.mv rfl rfl rfl rfl rfl ?_
                    refine X.mv rfl rfl rfl rfl rfl ?_
                    refine X.ixAe rfl rfl rfl rfl rfl rfl Tryd.underlying52 Tryd.sz3 (hpa) (by omega) ?_
                    refine X.ld rfl rfl rfl rfl Tryd.ag3 (hpb) (by exact hpc) ?_
                    refine X.call rfl rfl rfl rfl rfl Tryd.cl21 (hkids t (List.mem_of_getElem? ht) hRt _ _ _ _ hkl hkn hN3) ?_
                    rintro _ H9 ⟨rfl, hk9⟩
                    replace hkk := hkk.trans hk9 (by simp)
                    replace hO := hO.keep hk9 (by simp)
                    refine X.cat rfl rfl rfl rfl rfl rfl (by (try simp only [List.length_append, List.length_cons, List.length_nil]); (try rw [hs]); omega) ?_
                    refine X.asg rfl rfl rfl rfl rfl ?_
                    refine X.done [(0, _), (1, _), (4, _), (5, _), (6, _), (7, _)] ⟨rfl, rfl, rfl, rfl, rfl, rfl, trivial⟩ ?_
                    refine N.blk ?_
                    refine N.then ?_
                    refine E.region ?_
                    refine X.mv rfl rfl rfl rfl rfl ?_
                    refine X.addE (zz := ((i + 1 : Nat) : Int)) rfl rfl rfl rfl rfl rfl (by rw [IntWalk.i64_in _ (by omega)] <;> omega) ?_
                    refine X.asg rfl rfl rfl rfl rfl ?_
                    refine X.done [(0, _), (1, _), (4, _), (5, _), (6, _), (7, _)] ⟨rfl, rfl, rfl, rfl, rfl, rfl, trivial⟩ ?_
                    first
                      | exact N.next (G := fun (q : WQ) => _) ⟨i + 1, s ++ [40] ++ shT t ++ [41]⟩ ⟨rfl, rfl, rfl, rfl, rfl, rfl, trivial⟩ ⟨by show i + 1 ≤ ks.length; omega, by rw [hs, shK_3 (by omega), shK_3 (by omega), shC_take ht, wrp_y (tgt_lt2.2 (by omega))]; simp, hO, hkk⟩ (by show ks.length - (i + 1) < ks.length - i; omega)
                      | exact N.next (G := fun (q : WQ) => _) ⟨i + 1, s ++ shT t⟩ ⟨rfl, rfl, rfl, rfl, rfl, rfl, trivial⟩ ⟨by show i + 1 ≤ ks.length; omega, by rw [hs, shK_3 (by omega), shK_3 (by omega), shC_take ht, wrp_n (fun h => by have := tgt_lt2.1 h; omega)], hO, hkk⟩ (by show ks.length - (i + 1) < ks.length - i; omega)
                      | exact N.next (G := fun (q : WQ) => _) ⟨i + 1, s ++ [40] ++ shT t ++ [41]⟩ ⟨rfl, rfl, rfl, rfl, rfl, rfl, trivial⟩ ⟨by show i + 1 ≤ ks.length; omega, by rw [hs, shK_4 (by omega), shK_4 (by omega), shA_first ht (by omega), wrp_y (tgt_lt1.2 (by omega))]; simp, hO, hkk⟩ (by show ks.length - (i + 1) < ks.length - i; omega)
                      | exact N.next (G := fun (q : WQ) => _) ⟨i + 1, s ++ shT t⟩ ⟨rfl, rfl, rfl, rfl, rfl, rfl, trivial⟩ ⟨by show i + 1 ≤ ks.length; omega, by rw [hs, shK_4 (by omega), shK_4 (by omega), shA_first ht (by omega), wrp_n (fun h => by have := tgt_lt1.1 h; omega)], hO, hkk⟩ (by show ks.length - (i + 1) < ks.length - i; omega)
                      | exact N.next (G := fun (q : WQ) => _) ⟨i + 1, s ++ [124] ++ [40] ++ shT t ++ [41]⟩ ⟨rfl, rfl, rfl, rfl, rfl, rfl, trivial⟩ ⟨by show i + 1 ≤ ks.length; omega, by rw [hs, shK_4 (by omega), shK_4 (by omega), shA_take ht (by omega), wrp_y (tgt_lt1.2 (by omega))]; simp, hO, hkk⟩ (by show ks.length - (i + 1) < ks.length - i; omega)
                      | exact N.next (G := fun (q : WQ) => _) ⟨i + 1, s ++ [124] ++ shT t⟩ ⟨rfl, rfl, rfl, rfl, rfl, rfl, trivial⟩ ⟨by show i + 1 ≤ ks.length; omega, by rw [hs, shK_4 (by omega), shK_4 (by omega), shA_take ht (by omega), wrp_n (fun h => by have := tgt_lt1.1 h; omega)]; simp, hO, hkk⟩ (by show ks.length - (i + 1) < ks.length - i; omega)
            · refine X.mv rfl rfl rfl rfl rfl ?_
              refine X.skip rfl rfl rfl ?_
              refine X.skip rfl rfl rfl ?_
              refine X.skip rfl rfl rfl ?_
              refine X.skip rfl rfl rfl ?_
              refine X.skip rfl rfl rfl ?_
              refine X.skip rfl rfl rfl ?_
              refine X.pickF rfl rfl rfl rfl rfl rfl ?_
              refine X.done [(0, _), (1, _), (4, _), (5, _), (6, _), (7, _), (45, _)] ⟨rfl, rfl, rfl, rfl, rfl, rfl, rfl, trivial⟩ ?_
              refine N.then ?_
              refine E.condF rfl ?_
              refine E.skip ?_
              refine N.then ?_
              refine E.seq ?_
              refine E.region ?_
              refine X.mv rfl rfl rfl rfl rfl ?_
              refine X.mv rfl rfl rfl rfl rfl ?_
              refine X.mv rfl rfl rfl rfl rfl ?_
              refine X.ixAe rfl rfl rfl rfl rfl rfl Tryd.underlying52 Tryd.sz3 (hpa) (by omega) ?_
              refine X.ld rfl rfl rfl rfl Tryd.ag3 (hpb) (by exact hpc) ?_
              refine X.ixAe rfl rfl rfl rfl rfl rfl Tryd.underlying22 Tryd.sz38 (hya) (by omega) ?_
              refine X.fld rfl rfl rfl rfl rfl Tryd.off38_0 ?_
              refine X.ld rfl rfl rfl rfl Tryd.ag3 (hyb) (by exact hykd) ?_
              refine X.asg rfl rfl rfl rfl rfl ?_
              refine X.done [(0, _), (1, _), (4, _), (5, _), (6, _), (7, _), (8, _)] ⟨rfl, rfl, rfl, rfl, rfl, rfl, rfl, trivial⟩ ?_
              refine N.then ?_
              refine E.seq ?_
              refine E.region ?_
              refine X.mv rfl rfl rfl rfl rfl ?_
              refine X.eqlC rfl rfl rfl rfl rfl rfl (fun hc => ?_) (fun hc => ?_)
              · refine X.mv rfl rfl rfl rfl rfl ?_
                refine X.skip rfl rfl rfl ?_
                refine X.skip rfl rfl rfl ?_
                refine X.skip rfl rfl rfl ?_
                refine X.skip rfl rfl rfl ?_
                refine X.skip rfl rfl rfl ?_
                refine X.skip rfl rfl rfl ?_
                refine X.skip rfl rfl rfl ?_
                refine X.skip rfl rfl rfl ?_
                refine X.skip rfl rfl rfl ?_
                refine X.skip rfl rfl rfl ?_
                refine X.pickT rfl rfl rfl rfl rfl rfl ?_
                refine X.done [(0, _), (1, _), (4, _), (5, _), (6, _), (7, _), (69, _)] ⟨rfl, rfl, rfl, rfl, rfl, rfl, rfl, trivial⟩ ?_
                refine N.then ?_
                refine E.condT rfl ?_
                refine E.region ?_
                refine X.mv rfl rfl rfl rfl rfl ?_
                refine X.cat rfl rfl rfl rfl rfl rfl (by (try simp only [List.length_append, List.length_cons, List.length_nil]); (try rw [hs]); omega) ?_
                refine X.mv rfl rfl rfl rfl rfl ?_
                refine X.mv rfl rfl rfl rfl rfl ?_
                refine X.mv rfl rfl rfl rfl rfl ?_
                refine X.ixAe rfl rfl rfl rfl rfl rfl Tryd.underlying52 Tryd.sz3 (hpa) (by omega) ?_
                refine X.ld rfl rfl rfl rfl Tryd.ag3 (hpb) (by exact hpc) ?_
                refine X.call rfl rfl rfl rfl rfl Tryd.cl21 (hkids t (List.mem_of_getElem? ht) hRt _ _ _ _ hkl hkn hN3) ?_
                rintro _ H9 ⟨rfl, hk9⟩
                replace hkk := hkk.trans hk9 (by simp)
                replace hO := hO.keep hk9 (by simp)
                refine X.cat rfl rfl rfl rfl rfl rfl (by (try simp only [List.length_append, List.length_cons, List.length_nil]); (try rw [hs]); omega) ?_
                refine X.cat rfl rfl rfl rfl rfl rfl (by (try simp only [List.length_append, List.length_cons, List.length_nil]); (try rw [hs]); omega) ?_
                refine X.asg rfl rfl rfl rfl rfl ?_
                refine X.done [(0, _), (1, _), (4, _), (5, _), (6, _), (7, _)] ⟨rfl, rfl, rfl, rfl, rfl, rfl, trivial⟩ ?_
                refine N.blk ?_
                refine N.then ?_
                refine E.region ?_
                refine X.mv rfl rfl rfl rfl rfl ?_
                refine X.addE (zz := ((i + 1 : Nat) : Int)) rfl rfl rfl rfl rfl rfl (by rw [IntWalk.i64_in _ (by omega)] <;> omega) ?_
                refine X.asg rfl rfl rfl rfl rfl ?_
                refine X.done [(0, _), (1, _), (4, _), (5, _), (6, _), (7, _)] ⟨rfl, rfl, rfl, rfl, rfl, rfl, trivial⟩ ?_
                first
                  | exact N.next (G := fun (q : WQ) => _) ⟨i + 1, s ++ [40] ++ shT t ++ [41]⟩ ⟨rfl, rfl, rfl, rfl, rfl, rfl, trivial⟩ ⟨by show i + 1 ≤ ks.length; omega, by rw [hs, shK_3 (by omega), shK_3 (by omega), shC_take ht, wrp_y (tgt_lt2.2 (by omega))]; simp, hO, hkk⟩ (by show ks.length - (i + 1) < ks.length - i; omega)
                  | exact N.next (G := fun (q : WQ) => _) ⟨i + 1, s ++ shT t⟩ ⟨rfl, rfl, rfl, rfl, rfl, rfl, trivial⟩ ⟨by show i + 1 ≤ ks.length; omega, by rw [hs, shK_3 (by omega), shK_3 (by omega), shC_take ht, wrp_n (fun h => by have := tgt_lt2.1 h; omega)], hO, hkk⟩ (by show ks.length - (i + 1) < ks.length - i; omega)
                  | exact N.next (G := fun (q : WQ) => _) ⟨i + 1, s ++ [40] ++ shT t ++ [41]⟩ ⟨rfl, rfl, rfl, rfl, rfl, rfl, trivial⟩ ⟨by show i + 1 ≤ ks.length; omega, by rw [hs, shK_4 (by omega), shK_4 (by omega), shA_first ht (by omega), wrp_y (tgt_lt1.2 (by omega))]; simp, hO, hkk⟩ (by show ks.length - (i + 1) < ks.length - i; omega)
                  | exact N.next (G := fun (q : WQ) => _) ⟨i + 1, s ++ shT t⟩ ⟨rfl, rfl, rfl, rfl, rfl, rfl, trivial⟩ ⟨by show i + 1 ≤ ks.length; omega, by rw [hs, shK_4 (by omega), shK_4 (by omega), shA_first ht (by omega), wrp_n (fun h => by have := tgt_lt1.1 h; omega)], hO, hkk⟩ (by show ks.length - (i + 1) < ks.length - i; omega)
                  | exact N.next (G := fun (q : WQ) => _) ⟨i + 1, s ++ [124] ++ [40] ++ shT t ++ [41]⟩ ⟨rfl, rfl, rfl, rfl, rfl, rfl, trivial⟩ ⟨by show i + 1 ≤ ks.length; omega, by rw [hs, shK_4 (by omega), shK_4 (by omega), shA_take ht (by omega), wrp_y (tgt_lt1.2 (by omega))]; simp, hO, hkk⟩ (by show ks.length - (i + 1) < ks.length - i; omega)
                  | exact N.next (G := fun (q : WQ) => _) ⟨i + 1, s ++ [124] ++ shT t⟩ ⟨rfl, rfl, rfl, rfl, rfl, rfl, trivial⟩ ⟨by show i + 1 ≤ ks.length; omega, by rw [hs, shK_4 (by omega), shK_4 (by omega), shA_take ht (by omega), wrp_n (fun h => by have := tgt_lt1.1 h; omega)]; simp, hO, hkk⟩ (by show ks.length - (i + 1) < ks.length - i; omega)
              · refine X.mv rfl rfl rfl rfl rfl ?_
                refine X.mv rfl rfl rfl rfl rfl ?_
                refine X.eqlC rfl rfl rfl rfl rfl rfl (fun hc => ?_) (fun hc => ?_)
                · refine X.mv rfl rfl rfl rfl rfl ?_
                  refine X.mv rfl rfl rfl rfl rfl ?_
                  refine X.mv rfl rfl rfl rfl rfl ?_
                  refine X.ixAe rfl rfl rfl rfl rfl rfl Tryd.underlying22 Tryd.sz38 (hxa) (by omega) ?_
                  refine X.fld rfl rfl rfl rfl rfl Tryd.off38_0 ?_
                  refine X.ld rfl rfl rfl rfl Tryd.ag3 (hxb) (by exact hxc 0 _ rfl) ?_
                  refine X.eql rfl rfl rfl rfl rfl rfl ?_
                  refine X.pickT rfl rfl rfl rfl rfl rfl ?_
                  refine X.pickF rfl rfl rfl rfl rfl rfl ?_
                  refine X.done [(0, _), (1, _), (4, _), (5, _), (6, _), (7, _), (69, _)] ⟨rfl, rfl, rfl, rfl, rfl, rfl, rfl, trivial⟩ ?_
                  refine N.then ?_
                  refine E.condD rfl (fun hc => ?_) (fun hc => ?_)
                  · refine E.region ?_
                    refine X.mv rfl rfl rfl rfl rfl ?_
                    refine X.cat rfl rfl rfl rfl rfl rfl (by (try simp only [List.length_append, List.length_cons, List.length_nil]); (try rw [hs]); omega) ?_
                    refine X.mv rfl rfl rfl rfl rfl ?_
                    refine X.mv rfl rfl rfl rfl rfl ?_
                    refine X.mv rfl rfl rfl rfl rfl ?_
                    refine X.ixAe rfl rfl rfl rfl rfl rfl Tryd.underlying52 Tryd.sz3 (hpa) (by omega) ?_
                    refine X.ld rfl rfl rfl rfl Tryd.ag3 (hpb) (by exact hpc) ?_
                    refine X.call rfl rfl rfl rfl rfl Tryd.cl21 (hkids t (List.mem_of_getElem? ht) hRt _ _ _ _ hkl hkn hN3) ?_
                    rintro _ H9 ⟨rfl, hk9⟩
                    replace hkk := hkk.trans hk9 (by simp)
                    replace hO := hO.keep hk9 (by simp)
                    refine X.cat rfl rfl rfl rfl rfl rfl (by (try simp only [List.length_append, List.length_cons, List.length_nil]); (try rw [hs]); omega) ?_
                    refine X.cat rfl rfl rfl rfl rfl rfl (by (try simp only [List.length_append, List.length_cons, List.length_nil]); (try rw [hs]); omega) ?_
                    refine X.asg rfl rfl rfl rfl rfl ?_
                    refine X.done [(0, _), (1, _), (4, _), (5, _), (6, _), (7, _)] ⟨rfl, rfl, rfl, rfl, rfl, rfl, trivial⟩ ?_
                    refine N.blk ?_
                    refine N.then ?_
                    refine E.region ?_
                    refine X.mv rfl rfl rfl rfl rfl ?_
                    refine X.addE (zz := ((i + 1 : Nat) : Int)) rfl rfl rfl rfl rfl rfl (by rw [IntWalk.i64_in _ (by omega)] <;> omega) ?_
                    refine X.asg rfl rfl rfl rfl rfl ?_
                    refine X.done [(0, _), (1, _), (4, _), (5, _), (6, _), (7, _)] ⟨rfl, rfl, rfl, rfl, rfl, rfl, trivial⟩ ?_
                    first
                      | exact N.next (G := fun (q : WQ) => _) ⟨i + 1, s ++ [40] ++ shT t ++ [41]⟩ ⟨rfl, rfl, rfl, rfl, rfl, rfl, trivial⟩ ⟨by show i + 1 ≤ ks.length; omega, by rw [hs, shK_3 (by omega), shK_3 (by omega), shC_take ht, wrp_y (tgt_lt2.2 (by omega))]; simp, hO, hkk⟩ (by show ks.length - (i + 1) < ks.length - i; omega)
                      | exact N.next (G := fun (q : WQ) => _) ⟨i + 1, s ++ shT t⟩ ⟨rfl, rfl, rfl, rfl, rfl, rfl, trivial⟩ ⟨by show i + 1 ≤ ks.length; omega, by rw [hs, shK_3 (by omega), shK_3 (by omega), shC_take ht, wrp_n (fun h => by have := tgt_lt2.1 h; omega)], hO, hkk⟩ (by show ks.length - (i + 1) < ks.length - i; omega)
                      | exact N.next (G := fun (q : WQ) => _) ⟨i + 1, s ++ [40] ++ shT t ++ [41]⟩ ⟨rfl, rfl, rfl, rfl, rfl, rfl, trivial⟩ ⟨by show i + 1 ≤ ks.length; omega, by rw [hs, shK_4 (by omega), shK_4 (by omega), shA_first ht (by omega), wrp_y (tgt_lt1.2 (by omega))]; simp, hO, hkk⟩ (by show ks.length - (i + 1) < ks.length - i; omega)
                      | exact N.next (G := fun (q : WQ) => _) ⟨i + 1, s ++ shT t⟩ ⟨rfl, rfl, rfl, rfl, rfl, rfl, trivial⟩ ⟨by show i + 1 ≤ ks.length; omega, by rw [hs, shK_4 (by omega), shK_4 (by omega), shA_first ht (by omega), wrp_n (fun h => by have := tgt_lt1.1 h; omega)], hO, hkk⟩ (by show ks.length - (i + 1) < ks.length - i; omega)
                      | exact N.next (G := fun (q : WQ) => _) ⟨i + 1, s ++ [124] ++ [40] ++ shT t ++ [41]⟩ ⟨rfl, rfl, rfl, rfl, rfl, rfl, trivial⟩ ⟨by show i + 1 ≤ ks.length; omega, by rw [hs, shK_4 (by omega), shK_4 (by omega), shA_take ht (by omega), wrp_y (tgt_lt1.2 (by omega))]; simp, hO, hkk⟩ (by show ks.length - (i + 1) < ks.length - i; omega)
                      | exact N.next (G := fun (q : WQ) => _) ⟨i + 1, s ++ [124] ++ shT t⟩ ⟨rfl, rfl, rfl, rfl, rfl, rfl, trivial⟩ ⟨by show i + 1 ≤ ks.length; omega, by rw [hs, shK_4 (by omega), shK_4 (by omega), shA_take ht (by omega), wrp_n (fun h => by have := tgt_lt1.1 h; omega)]; simp, hO, hkk⟩ (by show ks.length - (i + 1) < ks.length - i; omega)
                  · refine E.region ?_
                    refine X.mv rfl rfl rfl rfl rfl ?_
                    refine X.mv rfl rfl rfl rfl rfl ?_
                    refine X.mv rfl rfl rfl rfl rfl ?_
                    refine X.mv rfl rfl rfl rfl rfl ?_
                    refine X.ixAe rfl rfl rfl rfl rfl rfl Tryd.underlying52 Tryd.sz3 (hpa) (by omega) ?_
                    refine X.ld rfl rfl rfl rfl Tryd.ag3 (hpb) (by exact hpc) ?_
                    refine X.call rfl rfl rfl rfl rfl Tryd.cl21 (hkids t (List.mem_of_getElem? ht) hRt _ _ _ _ hkl hkn hN3) ?_
                    rintro _ H9 ⟨rfl, hk9⟩
                    replace hkk := hkk.trans hk9 (by simp)
                    replace hO := hO.keep hk9 (by simp)
                    refine X.cat rfl rfl rfl rfl rfl rfl (by (try simp only [List.length_append, List.length_cons, List.length_nil]); (try rw [hs]); omega) ?_
                    refine X.asg rfl rfl rfl rfl rfl ?_
                    refine X.done [(0, _), (1, _), (4, _), (5, _), (6, _), (7, _)] ⟨rfl, rfl, rfl, rfl, rfl, rfl, trivial⟩ ?_
                    refine N.blk ?_
                    refine N.then ?_
                    refine E.region ?_
                    refine X.mv rfl rfl rfl rfl rfl ?_
                    refine X.addE (zz := ((i + 1 : Nat) : Int)) rfl rfl rfl rfl rfl rfl (by rw [IntWalk.i64_in _ (by omega)] <;> omega) ?_
                    refine X.asg rfl rfl rfl rfl rfl ?_
                    refine X.done [(0, _), (1, _), (4, _), (5, _), (6, _), (7, _)] ⟨rfl, rfl, rfl, rfl, rfl, rfl, trivial⟩ ?_
                    first
                      | exact N.next (G := fun (q : WQ) => _) ⟨i + 1, s ++ [40] ++ shT t ++ [41]⟩ ⟨rfl, rfl, rfl, rfl, rfl, rfl, trivial⟩ ⟨by show i + 1 ≤ ks.length; omega, by rw [hs, shK_3 (by omega), shK_3 (by omega), shC_take ht, wrp_y (tgt_lt2.2 (by omega))]; simp, hO, hkk⟩ (by show ks.length - (i + 1) < ks.length - i; omega)
                      | exact N.next (G := fun (q : WQ) => _) ⟨i + 1, s ++ shT t⟩ ⟨rfl, rfl, rfl, rfl, rfl, rfl, trivial⟩ ⟨by show i + 1 ≤ ks.length; omega, by rw [hs, shK_3 (by omega), shK_3 (by omega), shC_take ht, wrp_n (fun h => by have := tgt_lt2.1 h; omega)], hO, hkk⟩ (by show ks.length - (i + 1) < ks.length - i; omega)
                      | exact N.next (G := fun (q : WQ) => _) ⟨i + 1, s ++ [40] ++ shT t ++ [41]⟩ ⟨rfl, rfl, rfl, rfl, rfl, rfl, trivial⟩ ⟨by show i + 1 ≤ ks.length; omega, by rw [hs, shK_4 (by omega), shK_4 (by omega), shA_first ht (by omega), wrp_y (tgt_lt1.2 (by omega))]; simp, hO, hkk⟩ (by show ks.length - (i + 1) < ks.length - i; omega)
                      | exact N.next (G := fun (q : WQ) => _) ⟨i + 1, s ++ shT t⟩ ⟨rfl, rfl, rfl, rfl, rfl, rfl, trivial⟩ ⟨by show i + 1 ≤ ks.length; omega, by rw [hs, shK_4 (by omega), shK_4 (by omega), shA_first ht (by omega), wrp_n (fun h => by have := tgt_lt1.1 h; omega)], hO, hkk⟩ (by show ks.length - (i + 1) < ks.length - i; omega)
                      | exact N.next (G := fun (q : WQ) => _) ⟨i + 1, s ++ [124] ++ [40] ++ shT t ++ [41]⟩ ⟨rfl, rfl, rfl, rfl, rfl, rfl, trivial⟩ ⟨by show i + 1 ≤ ks.length; omega, by rw [hs, shK_4 (by omega), shK_4 (by omega), shA_take ht (by omega), wrp_y (tgt_lt1.2 (by omega))]; simp, hO, hkk⟩ (by show ks.length - (i + 1) < ks.length - i; omega)
                      | exact N.next (G := fun (q : WQ) => _) ⟨i + 1, s ++ [124] ++ shT t⟩ ⟨rfl, rfl, rfl, rfl, rfl, rfl, trivial⟩ ⟨by show i + 1 ≤ ks.length; omega, by rw [hs, shK_4 (by omega), shK_4 (by omega), shA_take ht (by omega), wrp_n (fun h => by have := tgt_lt1.1 h; omega)]; simp, hO, hkk⟩ (by show ks.length - (i + 1) < ks.length - i; omega)
                · refine X.mv rfl rfl rfl rfl rfl ?_
                  refine X.skip rfl rfl rfl ?_
                  refine X.skip rfl rfl rfl ?_
                  refine X.skip rfl rfl rfl ?_
                  refine X.skip rfl rfl rfl ?_
                  refine X.skip rfl rfl rfl ?_
                  refine X.skip rfl rfl rfl ?_
                  refine X.pickF rfl rfl rfl rfl rfl rfl ?_
                  refine X.pickF rfl rfl rfl rfl rfl rfl ?_
                  refine X.done [(0, _), (1, _), (4, _), (5, _), (6, _), (7, _), (69, _)] ⟨rfl, rfl, rfl, rfl, rfl, rfl, rfl, trivial⟩ ?_
                  refine N.then ?_
                  refine E.condF rfl ?_
                  refine E.region ?_
                  refine X.mv rfl rfl rfl rfl rfl ?_
                  refine X.mv rfl rfl rfl rfl rfl ?_
                  refine X.mv rfl rfl rfl rfl rfl ?_
                  refine X.mv rfl rfl rfl rfl rfl ?_
                  refine X.ixAe rfl rfl rfl rfl rfl rfl Tryd.underlying52 Tryd.sz3 (hpa) (by omega) ?_
                  refine X.ld rfl rfl rfl rfl Tryd.ag3 (hpb) (by exact hpc) ?_
                  refine X.call rfl rfl rfl rfl rfl Tryd.cl21 (hkids t (List.mem_of_getElem? ht) hRt _ _ _ _ hkl hkn hN3) ?_
                  rintro _ H9 ⟨rfl, hk9⟩
                  replace hkk := hkk.trans hk9 (by simp)
                  replace hO := hO.keep hk9 (by simp)
                  refine X.cat rfl rfl rfl rfl rfl rfl (by (try simp only [List.length_append, List.length_cons, List.length_nil]); (try rw [hs]); omega) ?_
                  refine X.asg rfl rfl rfl rfl rfl ?_
                  refine X.done [(0, _), (1, _), (4, _), (5, _), (6, _), (7, _)] ⟨rfl, rfl, rfl, rfl, rfl, rfl, trivial⟩ ?_
                  refine N.blk ?_
                  refine N.then ?_
                  refine E.region ?_
                  refine X.mv rfl rfl rfl rfl rfl ?_
                  refine X.addE (zz := ((i + 1 : Nat) : Int)) rfl rfl rfl rfl rfl rfl (by rw [IntWalk.i64_in _ (by omega)] <;> omega) ?_
                  refine X.asg rfl rfl rfl rfl rfl ?_
                  refine X.done [(0, _), (1, _), (4, _), (5, _), (6, _), (7, _)] ⟨rfl, rfl, rfl, rfl, rfl, rfl, trivial⟩ ?_
                  first
                    | exact N.next (G := fun (q : WQ) => _) ⟨i + 1, s ++ [40] ++ shT t ++ [41]⟩ ⟨rfl, rfl, rfl, rfl, rfl, rfl, trivial⟩ ⟨by show i + 1 ≤ ks.length; omega, by rw [hs, shK_3 (by omega), shK_3 (by omega), shC_take ht, wrp_y (tgt_lt2.2 (by omega))]; simp, hO, hkk⟩ (by show ks.length - (i + 1) < ks.length - i; omega)
                    | exact N.next (G := fun (q : WQ) => _) ⟨i + 1, s ++ shT t⟩ ⟨rfl, rfl, rfl, rfl, rfl, rfl, trivial⟩ ⟨by show i + 1 ≤ ks.length; omega, by rw [hs, shK_3 (by omega), shK_3 (by omega), shC_take ht, wrp_n (fun h => by have := tgt_lt2.1 h; omega)], hO, hkk⟩ (by show ks.length - (i + 1) < ks.length - i; omega)
                    | exact N.next (G := fun (q : WQ) => _) ⟨i + 1, s ++ [40] ++ shT t ++ [41]⟩ ⟨rfl, rfl, rfl, rfl, rfl, rfl, trivial⟩ ⟨by show i + 1 ≤ ks.length; omega, by rw [hs, shK_4 (by omega), shK_4 (by omega), shA_first ht (by omega), wrp_y (tgt_lt1.2 (by omega))]; simp, hO, hkk⟩ (by show ks.length - (i + 1) < ks.length - i; omega)
                    | exact N.next (G := fun (q : WQ) => _) ⟨i + 1, s ++ shT t⟩ ⟨rfl, rfl, rfl, rfl, rfl, rfl, trivial⟩ ⟨by show i + 1 ≤ ks.length; omega, by rw [hs, shK_4 (by omega), shK_4 (by omega), shA_first ht (by omega), wrp_n (fun h => by have := tgt_lt1.1 h; omega)], hO, hkk⟩ (by show ks.length - (i + 1) < ks.length - i; omega)
                    | exact N.next (G := fun (q : WQ) => _) ⟨i + 1, s ++ [124] ++ [40] ++ shT t ++ [41]⟩ ⟨rfl, rfl, rfl, rfl, rfl, rfl, trivial⟩ ⟨by show i + 1 ≤ ks.length; omega, by rw [hs, shK_4 (by omega), shK_4 (by omega), shA_take ht (by omega), wrp_y (tgt_lt1.2 (by omega))]; simp, hO, hkk⟩ (by show ks.length - (i + 1) < ks.length - i; omega)
                    | exact N.next (G := fun (q : WQ) => _) ⟨i + 1, s ++ [124] ++ shT t⟩ ⟨rfl, rfl, rfl, rfl, rfl, rfl, trivial⟩ ⟨by show i + 1 ≤ ks.length; omega, by rw [hs, shK_4 (by omega), shK_4 (by omega), shA_take ht (by omega), wrp_n (fun h => by have := tgt_lt1.1 h; omega)]; simp, hO, hkk⟩ (by show ks.length - (i + 1) < ks.length - i; omega)
          · refine E.exit ?_
            refine N.thenX ?_
            refine N.loopX ?_
            refine N.blkX ?_
            refine N.then ?_
            refine E.seq ?_
            refine E.region ?_
            refine X.mv rfl rfl rfl rfl rfl ?_
            refine X.asg rfl rfl rfl rfl rfl ?_
            refine X.done [(0, _), (1, _), (4, _), (5, _)] ⟨rfl, rfl, rfl, rfl, trivial⟩ ?_
            refine N.then ?_
            refine E.ret ?_
            refine N.blkR ?_
            refine N.thenR ?_
            obtain rfl : i = ks.length := by omega
            rw [List.take_length] at hs
            first
              | (rw [shT_3 (by omega), hs, shK_3 (by omega)]; exact N.retH [_] ⟨_, _, rfl, rfl, rfl⟩ ⟨rfl, hkk⟩)
              | (rw [shT_4 (by omega), hs, shK_4 (by omega)]; exact N.retH [_] ⟨_, _, rfl, rfl, rfl⟩ ⟨rfl, hkk⟩)
        · refine X.asg rfl rfl rfl rfl rfl ?_
          refine X.done [(0, _), (1, _), (4, _), (5, _), (6, _), (27, _)] ⟨rfl, rfl, rfl, rfl, rfl, rfl, trivial⟩ ?_
          refine N.then ?_
          refine E.condF rfl ?_
          refine E.skip ?_
          refine N.blk ?_
          refine N.then ?_
          refine E.seq ?_
          obtain ⟨t, rfl⟩ := one_kid hR (by omega)
          obtain ⟨hkl, hkn⟩ := kid_at (i := 0) (t := t) hl rfl
          rw [show (flats ([t].take 0)).length = 0 from rfl, Nat.add_zero] at hkn
          have hRt := rt_kid (i := 0) (t := t) hR rfl
          have hlt := shT_tl hkl hlen
          have hpos := flat_le hkl
          rw [hkn] at hpos
          have hpp := flat_pos t
          obtain ⟨y, hy, hyk⟩ := root_k hkl
          rw [hkn] at hy
          obtain ⟨pb, po, pcs, pct, pfz, hpa, hpb, hpc⟩ := own_at hO (posL_get [t] (pre.length + 1) 0 t rfl)
          rw [show (flats ([t].take 0)).length = 0 from rfl, Nat.add_zero] at hpc
          obtain ⟨yb, yo, ycs, yct, yfz, hya, hyb, hyc⟩ := hN1.at hy
          obtain ⟨xb, xo, xcs, xct, xfz, hxa, hxb, hxc⟩ := hN1.at hx
          have hykd : ycs[yo + (pre.length + 1) * 8 + 0]? = some (i64 (rk t)) := by rw [← hyk]; exact hyc 0 _ rfl
          have hsu : shU [t] = wrp (rk t) 3 (shT t) := rfl
          have hlo := hrx
          unfold rtP at hlo
          refine E.region ?_
          refine X.mv rfl rfl rfl rfl rfl ?_
          refine X.mv rfl rfl rfl rfl rfl ?_
          refine X.ixAe rfl rfl rfl rfl rfl rfl Tryd.underlying52 Tryd.sz3 (hpa) (by omega) ?_
          refine X.ld rfl rfl rfl rfl Tryd.ag3 (hpb) (by exact hpc) ?_
          refine X.call rfl rfl rfl rfl rfl Tryd.cl21 (hkids t (by simp) hRt _ _ _ _ hkl hkn hN1) ?_
          rintro _ H9 ⟨rfl, hk9⟩
          replace hkk := hkk.trans hk9 (by simp)
          replace hN1 := hN1.keepN hk9
          replace hpb := hk9.keep hpb (by simp)
          replace hyb := hk9.keep hyb (by simp)
          replace hxb := hk9.keep hxb (by simp)
          refine X.asg rfl rfl rfl rfl rfl ?_
          refine X.done [(0, _), (1, _), (4, _), (5, _), (6, _)] ⟨rfl, rfl, rfl, rfl, rfl, trivial⟩ ?_
          refine N.then ?_
          refine E.seq ?_
          refine E.seq ?_
          refine E.region ?_
          refine X.mv rfl rfl rfl rfl rfl ?_
          refine X.mv rfl rfl rfl rfl rfl ?_
          refine X.ixAe rfl rfl rfl rfl rfl rfl Tryd.underlying52 Tryd.sz3 (hpa) (by omega) ?_
          refine X.ld rfl rfl rfl rfl Tryd.ag3 (hpb) (by exact hpc) ?_
          refine X.ixAe rfl rfl rfl rfl rfl rfl Tryd.underlying22 Tryd.sz38 (hya) (by omega) ?_
          refine X.fld rfl rfl rfl rfl rfl Tryd.off38_0 ?_
          refine X.ld rfl rfl rfl rfl Tryd.ag3 (hyb) (by exact hykd) ?_
          refine X.neqC rfl rfl rfl rfl rfl rfl (fun hc => ?_) (fun hc => ?_)
          · refine X.mv rfl rfl rfl rfl rfl ?_
            refine X.mv rfl rfl rfl rfl rfl ?_
            refine X.mv rfl rfl rfl rfl rfl ?_
            refine X.ixAe rfl rfl rfl rfl rfl rfl Tryd.underlying52 Tryd.sz3 (hpa) (by omega) ?_
            refine X.ld rfl rfl rfl rfl Tryd.ag3 (hpb) (by exact hpc) ?_
            refine X.ixAe rfl rfl rfl rfl rfl rfl Tryd.underlying22 Tryd.sz38 (hya) (by omega) ?_
            refine X.fld rfl rfl rfl rfl rfl Tryd.off38_0 ?_
            refine X.ld rfl rfl rfl rfl Tryd.ag3 (hyb) (by exact hykd) ?_
            refine X.neq rfl rfl rfl rfl rfl rfl ?_
            refine X.pickT rfl rfl rfl rfl rfl rfl ?_
            refine X.done [(0, _), (1, _), (4, _), (6, _), (111, _)] ⟨rfl, rfl, rfl, rfl, rfl, trivial⟩ ?_
            refine N.then ?_
            refine E.condD rfl (fun hc => ?_) (fun hc => ?_)
            · refine E.region ?_
              refine X.mv rfl rfl rfl rfl rfl ?_
              refine X.cat rfl rfl rfl rfl rfl rfl (by simp only [List.length_append, List.length_cons, List.length_nil]; omega) ?_
              refine X.cat rfl rfl rfl rfl rfl rfl (by simp only [List.length_append, List.length_cons, List.length_nil]; omega) ?_
              refine X.asg rfl rfl rfl rfl rfl ?_
              refine X.done [(0, _), (1, _), (4, _), (6, _)] ⟨rfl, rfl, rfl, rfl, trivial⟩ ?_
              refine N.then ?_
              refine E.seq ?_
              refine E.seq ?_
              refine E.region ?_
              refine X.mv rfl rfl rfl rfl rfl ?_
              refine X.mv rfl rfl rfl rfl rfl ?_
              refine X.ixAe rfl rfl rfl rfl rfl rfl Tryd.underlying22 Tryd.sz38 (hxa) (by omega) ?_
              refine X.fld rfl rfl rfl rfl rfl Tryd.off38_0 ?_
              refine X.ld rfl rfl rfl rfl Tryd.ag3 (hxb) (by exact hxc 0 _ rfl) ?_
              refine X.done [(0, _), (1, _), (4, _), (6, _), (119, _)] ⟨rfl, rfl, rfl, rfl, rfl, trivial⟩ ?_
              refine N.then ?_
              refine E.block ?_
              refine E.seq ?_
              refine E.region ?_
              refine X.eql rfl rfl rfl rfl rfl rfl ?_
              refine X.asg rfl rfl rfl rfl rfl ?_
              refine X.done [(0, _), (1, _), (4, _), (6, _), (119, _), (120, _)] ⟨rfl, rfl, rfl, rfl, rfl, rfl, trivial⟩ ?_
              refine N.then ?_
              refine E.condD rfl (fun hc => ?_) (fun hc => ?_)
              · refine E.seq ?_
                refine E.region ?_
                refine X.mv rfl rfl rfl rfl rfl ?_
                refine X.cat rfl rfl rfl rfl rfl rfl (by (try simp only [List.length_append, List.length_cons, List.length_nil]); (try rw [hs]); omega) ?_
                refine X.asg rfl rfl rfl rfl rfl ?_
                refine X.done [(0, _), (1, _), (4, _), (6, _)] ⟨rfl, rfl, rfl, rfl, trivial⟩ ?_
                refine N.then ?_
                refine E.ret ?_
                refine N.blkR ?_
                refine N.thenR ?_
                first
                  | (have hw : wrp (rk t) 3 (shT t) = 40 :: (shT t ++ [41]) := wrp_y (tgt_lt3.2 (by omega))
                     rw [shT_5 (by omega), hsu, hw]
                     exact N.retH [_] ⟨_, _, rfl, rfl, rfl⟩ ⟨rfl, hkk⟩)
                  | (have hw : wrp (rk t) 3 (shT t) = shT t := wrp_n (fun h => by have := tgt_lt3.1 h; omega)
                     rw [shT_5 (by omega), hsu, hw]
                     exact N.retH [_] ⟨_, _, rfl, rfl, rfl⟩ ⟨rfl, hkk⟩)
              · refine E.seq ?_
                refine E.region ?_
                refine X.eql rfl rfl rfl rfl rfl rfl ?_
                refine X.asg rfl rfl rfl rfl rfl ?_
                refine X.done [(0, _), (1, _), (4, _), (6, _), (119, _), (124, _)] ⟨rfl, rfl, rfl, rfl, rfl, rfl, trivial⟩ ?_
                refine N.then ?_
                refine E.condD rfl (fun hc => ?_) (fun hc => ?_)
                · refine E.seq ?_
                  refine E.region ?_
                  refine X.mv rfl rfl rfl rfl rfl ?_
                  refine X.cat rfl rfl rfl rfl rfl rfl (by (try simp only [List.length_append, List.length_cons, List.length_nil]); (try rw [hs]); omega) ?_
                  refine X.asg rfl rfl rfl rfl rfl ?_
                  refine X.done [(0, _), (1, _), (4, _), (6, _)] ⟨rfl, rfl, rfl, rfl, trivial⟩ ?_
                  refine N.then ?_
                  refine E.ret ?_
                  refine N.blkR ?_
                  refine N.thenR ?_
                  first
                    | (have hw : wrp (rk t) 3 (shT t) = 40 :: (shT t ++ [41]) := wrp_y (tgt_lt3.2 (by omega))
                       rw [shT_6 (by omega), hsu, hw]
                       exact N.retH [_] ⟨_, _, rfl, rfl, rfl⟩ ⟨rfl, hkk⟩)
                    | (have hw : wrp (rk t) 3 (shT t) = shT t := wrp_n (fun h => by have := tgt_lt3.1 h; omega)
                       rw [shT_6 (by omega), hsu, hw]
                       exact N.retH [_] ⟨_, _, rfl, rfl, rfl⟩ ⟨rfl, hkk⟩)
                · refine E.seq ?_
                  refine E.region ?_
                  refine X.eql rfl rfl rfl rfl rfl rfl ?_
                  refine X.asg rfl rfl rfl rfl rfl ?_
                  refine X.done [(0, _), (1, _), (4, _), (6, _), (128, _)] ⟨rfl, rfl, rfl, rfl, rfl, trivial⟩ ?_
                  refine N.then ?_
                  refine E.condD rfl (fun hc => ?_) (fun hc => ?_)
                  · refine E.seq ?_
                    refine E.region ?_
                    refine X.mv rfl rfl rfl rfl rfl ?_
                    refine X.cat rfl rfl rfl rfl rfl rfl (by (try simp only [List.length_append, List.length_cons, List.length_nil]); (try rw [hs]); omega) ?_
                    refine X.asg rfl rfl rfl rfl rfl ?_
                    refine X.done [(0, _), (1, _), (4, _), (6, _)] ⟨rfl, rfl, rfl, rfl, trivial⟩ ?_
                    refine N.then ?_
                    refine E.ret ?_
                    refine N.blkR ?_
                    refine N.thenR ?_
                    first
                      | (have hw : wrp (rk t) 3 (shT t) = 40 :: (shT t ++ [41]) := wrp_y (tgt_lt3.2 (by omega))
                         rw [shT_7 (by omega), hsu, hw]
                         exact N.retH [_] ⟨_, _, rfl, rfl, rfl⟩ ⟨rfl, hkk⟩)
                      | (have hw : wrp (rk t) 3 (shT t) = shT t := wrp_n (fun h => by have := tgt_lt3.1 h; omega)
                         rw [shT_7 (by omega), hsu, hw]
                         exact N.retH [_] ⟨_, _, rfl, rfl, rfl⟩ ⟨rfl, hkk⟩)
                  · refine E.skip ?_
                    refine N.blk ?_
                    refine N.then ?_
                    refine E.seq ?_
                    obtain ⟨lo, hlo1⟩ := Int.eq_ofNat_of_zero_le (show 0 ≤ x.low by omega)
                    have hlod : xcs[xo + pre.length * 8 + 6]? = some (i64 (lo : Nat)) := by rw [← hlo1]; exact hxc 6 _ rfl
                    have hdl := dcm_len lo
                    refine E.region ?_
                    refine X.mv rfl rfl rfl rfl rfl ?_
                    refine X.cat rfl rfl rfl rfl rfl rfl (by (try simp only [List.length_append, List.length_cons, List.length_nil]); (try rw [hs]); omega) ?_
                    refine X.mv rfl rfl rfl rfl rfl ?_
                    refine X.mv rfl rfl rfl rfl rfl ?_
                    refine X.ixAe rfl rfl rfl rfl rfl rfl Tryd.underlying22 Tryd.sz38 (hxa) (by omega) ?_
                    refine X.fld rfl rfl rfl rfl rfl Tryd.off38_3 ?_
                    refine X.ld rfl rfl rfl rfl Tryd.ag3 (hxb) (by exact hlod) ?_
                    refine X.call rfl rfl rfl rfl rfl Tryd.cl32 (digits_ct lo _ (by omega)) ?_
                    rintro _ H10 ⟨rfl, hk10⟩
                    replace hkk := hkk.trans hk10 (by simp)
                    replace hxb := hk10.keep hxb (by simp)
                    refine X.cat rfl rfl rfl rfl rfl rfl (by simp only [List.length_append, List.length_cons, List.length_nil]; omega) ?_
                    refine X.asg rfl rfl rfl rfl rfl ?_
                    refine X.done [(0, _), (1, _), (4, _), (6, _)] ⟨rfl, rfl, rfl, rfl, trivial⟩ ?_
                    refine N.then ?_
                    refine E.seq ?_
                    refine E.seq ?_
                    refine E.region ?_
                    refine X.mv rfl rfl rfl rfl rfl ?_
                    refine X.mv rfl rfl rfl rfl rfl ?_
                    refine X.ixAe rfl rfl rfl rfl rfl rfl Tryd.underlying22 Tryd.sz38 (hxa) (by omega) ?_
                    refine X.fld rfl rfl rfl rfl rfl Tryd.off38_4 ?_
                    refine X.ld rfl rfl rfl rfl Tryd.ag3 (hxb) (by exact hxc 7 _ rfl) ?_
                    refine X.lss rfl rfl rfl rfl rfl rfl ?_
                    refine X.done [(0, _), (1, _), (4, _), (6, _), (146, _)] ⟨rfl, rfl, rfl, rfl, rfl, trivial⟩ ?_
                    refine N.then ?_
                    refine E.condD rfl (fun hc => ?_) (fun hc => ?_)
                    · refine E.seq ?_
                      refine E.region ?_
                      refine X.mv rfl rfl rfl rfl rfl ?_
                      refine X.cat rfl rfl rfl rfl rfl rfl (by simp only [List.length_append, List.length_cons, List.length_nil]; omega) ?_
                      refine X.asg rfl rfl rfl rfl rfl ?_
                      refine X.done [(0, _), (1, _), (4, _), (6, _)] ⟨rfl, rfl, rfl, rfl, trivial⟩ ?_
                      refine N.then ?_
                      refine E.ret ?_
                      refine N.thenR ?_
                      first
                        | (have hw : wrp (rk t) 3 (shT t) = 40 :: (shT t ++ [41]) := wrp_y (tgt_lt3.2 (by omega))
                           rw [shT_8 (by omega), ← oft_a hlo1 (by omega), hsu, hw]
                           exact N.retH [_] ⟨_, _, rfl, rfl, rfl⟩ ⟨by simp [tup], hkk⟩)
                        | (have hw : wrp (rk t) 3 (shT t) = shT t := wrp_n (fun h => by have := tgt_lt3.1 h; omega)
                           rw [shT_8 (by omega), ← oft_a hlo1 (by omega), hsu, hw]
                           exact N.retH [_] ⟨_, _, rfl, rfl, rfl⟩ ⟨by simp [tup], hkk⟩)
                    · refine E.skip ?_
                      refine N.then ?_
                      refine E.seq ?_
                      refine E.seq ?_
                      obtain ⟨hh, hhi1⟩ := Int.eq_ofNat_of_zero_le (show 0 ≤ x.high by omega)
                      have hhid : xcs[xo + pre.length * 8 + 7]? = some (i64 (hh : Nat)) := by rw [← hhi1]; exact hxc 7 _ rfl
                      have hdh := dcm_len hh
                      refine E.regionD (fun H' => H' = H10) [(0, .pu), (1, .pu), (2, .pu), (3, .pu), (4, .st), (5, .pu), (6, .pu), (7, .pu), (8, .pu), (9, .st), (10, .pu)] Tryd.mixed (by kernel_rfl) (rfl) ?_
                      refine X.mv rfl rfl rfl rfl rfl ?_
                      refine X.mv rfl rfl rfl rfl rfl ?_
                      refine X.ixAe rfl rfl rfl rfl rfl rfl Tryd.underlying22 Tryd.sz38 (hxa) (by omega) ?_
                      refine X.fld rfl rfl rfl rfl rfl Tryd.off38_4 ?_
                      refine X.ld rfl rfl rfl rfl Tryd.ag3 (fun H' hF => by rw [hF]; exact hxb) (by exact hhid) ?_
                      refine X.mv rfl rfl rfl rfl rfl ?_
                      refine X.mv rfl rfl rfl rfl rfl ?_
                      refine X.ixAe rfl rfl rfl rfl rfl rfl Tryd.underlying22 Tryd.sz38 (hxa) (by omega) ?_
                      refine X.fld rfl rfl rfl rfl rfl Tryd.off38_3 ?_
                      refine X.ld rfl rfl rfl rfl Tryd.ag3 (fun H' hF => by rw [hF]; exact hxb) (by exact hlod) ?_
                      refine X.gtr rfl rfl rfl rfl rfl rfl ?_
                      refine X.done [(0, _), (1, _), (4, _), (6, _), (159, _)] ⟨rfl, rfl, rfl, rfl, rfl, trivial⟩ ?_
                      refine N.then ?_
                      refine E.condD rfl (fun hc => ?_) (fun hc => ?_)
                      · refine E.region ?_
                        refine X.mv rfl rfl rfl rfl rfl ?_
                        refine X.cat rfl rfl rfl rfl rfl rfl (by simp only [List.length_append, List.length_cons, List.length_nil]; omega) ?_
                        refine X.mv rfl rfl rfl rfl rfl ?_
                        refine X.mv rfl rfl rfl rfl rfl ?_
                        refine X.ixAe rfl rfl rfl rfl rfl rfl Tryd.underlying22 Tryd.sz38 (hxa) (by omega) ?_
                        refine X.fld rfl rfl rfl rfl rfl Tryd.off38_4 ?_
                        refine X.ld rfl rfl rfl rfl Tryd.ag3 (hxb) (by exact hhid) ?_
                        refine X.call rfl rfl rfl rfl rfl Tryd.cl32 (digits_ct hh _ (by omega)) ?_
                        rintro _ H11 ⟨rfl, hk11⟩
                        replace hkk := hkk.trans hk11 (by simp)
                        replace hxb := hk11.keep hxb (by simp)
                        refine X.cat rfl rfl rfl rfl rfl rfl (by simp only [List.length_append, List.length_cons, List.length_nil]; omega) ?_
                        refine X.asg rfl rfl rfl rfl rfl ?_
                        refine X.done [(4, _), (6, _)] ⟨rfl, rfl, trivial⟩ ?_
                        refine N.then ?_
                        refine E.seq ?_
                        refine E.region ?_
                        refine X.mv rfl rfl rfl rfl rfl ?_
                        refine X.cat rfl rfl rfl rfl rfl rfl (by simp only [List.length_append, List.length_cons, List.length_nil]; omega) ?_
                        refine X.asg rfl rfl rfl rfl rfl ?_
                        refine X.done [(4, _)] ⟨rfl, trivial⟩ ?_
                        refine N.then ?_
                        refine E.ret ?_
                        first
                          | (have eo := oft_c hlo1 hhi1 (by omega)
                             first
                               | (have hw : wrp (rk t) 3 (shT t) = 40 :: (shT t ++ [41]) := wrp_y (tgt_lt3.2 (by omega))
                                  rw [shT_8 (by omega), ← eo, hsu, hw]
                                  exact N.retH [_] ⟨_, _, rfl, rfl, rfl⟩ ⟨by simp [tup], hkk⟩)
                               | (have hw : wrp (rk t) 3 (shT t) = shT t := wrp_n (fun h => by have := tgt_lt3.1 h; omega)
                                  rw [shT_8 (by omega), ← eo, hsu, hw]
                                  exact N.retH [_] ⟨_, _, rfl, rfl, rfl⟩ ⟨by simp [tup], hkk⟩))
                          | (have eo := oft_b hlo1 hhi1 (by omega) (by omega)
                             first
                               | (have hw : wrp (rk t) 3 (shT t) = 40 :: (shT t ++ [41]) := wrp_y (tgt_lt3.2 (by omega))
                                  rw [shT_8 (by omega), ← eo, hsu, hw]
                                  exact N.retH [_] ⟨_, _, rfl, rfl, rfl⟩ ⟨by simp [tup], hkk⟩)
                               | (have hw : wrp (rk t) 3 (shT t) = shT t := wrp_n (fun h => by have := tgt_lt3.1 h; omega)
                                  rw [shT_8 (by omega), ← eo, hsu, hw]
                                  exact N.retH [_] ⟨_, _, rfl, rfl, rfl⟩ ⟨by simp [tup], hkk⟩))
                      · refine E.skip ?_
                        refine N.then ?_
                        refine E.seq ?_
                        refine E.region ?_
                        refine X.mv rfl rfl rfl rfl rfl ?_
                        refine X.cat rfl rfl rfl rfl rfl rfl (by simp only [List.length_append, List.length_cons, List.length_nil]; omega) ?_
                        refine X.asg rfl rfl rfl rfl rfl ?_
                        refine X.done [(4, _)] ⟨rfl, trivial⟩ ?_
                        refine N.then ?_
                        refine E.ret ?_
                        first
                          | (have eo := oft_c hlo1 hhi1 (by omega)
                             first
                               | (have hw : wrp (rk t) 3 (shT t) = 40 :: (shT t ++ [41]) := wrp_y (tgt_lt3.2 (by omega))
                                  rw [shT_8 (by omega), ← eo, hsu, hw]
                                  exact N.retH [_] ⟨_, _, rfl, rfl, rfl⟩ ⟨by simp [tup], hkk⟩)
                               | (have hw : wrp (rk t) 3 (shT t) = shT t := wrp_n (fun h => by have := tgt_lt3.1 h; omega)
                                  rw [shT_8 (by omega), ← eo, hsu, hw]
                                  exact N.retH [_] ⟨_, _, rfl, rfl, rfl⟩ ⟨by simp [tup], hkk⟩))
                          | (have eo := oft_b hlo1 hhi1 (by omega) (by omega)
                             first
                               | (have hw : wrp (rk t) 3 (shT t) = 40 :: (shT t ++ [41]) := wrp_y (tgt_lt3.2 (by omega))
                                  rw [shT_8 (by omega), ← eo, hsu, hw]
                                  exact N.retH [_] ⟨_, _, rfl, rfl, rfl⟩ ⟨by simp [tup], hkk⟩)
                               | (have hw : wrp (rk t) 3 (shT t) = shT t := wrp_n (fun h => by have := tgt_lt3.1 h; omega)
                                  rw [shT_8 (by omega), ← eo, hsu, hw]
                                  exact N.retH [_] ⟨_, _, rfl, rfl, rfl⟩ ⟨by simp [tup], hkk⟩))
            · refine E.skip ?_
              refine N.then ?_
              refine E.seq ?_
              refine E.seq ?_
              refine E.region ?_
              refine X.mv rfl rfl rfl rfl rfl ?_
              refine X.mv rfl rfl rfl rfl rfl ?_
              refine X.ixAe rfl rfl rfl rfl rfl rfl Tryd.underlying22 Tryd.sz38 (hxa) (by omega) ?_
              refine X.fld rfl rfl rfl rfl rfl Tryd.off38_0 ?_
              refine X.ld rfl rfl rfl rfl Tryd.ag3 (hxb) (by exact hxc 0 _ rfl) ?_
              refine X.done [(0, _), (1, _), (4, _), (6, _), (119, _)] ⟨rfl, rfl, rfl, rfl, rfl, trivial⟩ ?_
              refine N.then ?_
              refine E.block ?_
              refine E.seq ?_
              refine E.region ?_
              refine X.eql rfl rfl rfl rfl rfl rfl ?_
              refine X.asg rfl rfl rfl rfl rfl ?_
              refine X.done [(0, _), (1, _), (4, _), (6, _), (119, _), (120, _)] ⟨rfl, rfl, rfl, rfl, rfl, rfl, trivial⟩ ?_
              refine N.then ?_
              refine E.condD rfl (fun hc => ?_) (fun hc => ?_)
              · refine E.seq ?_
                refine E.region ?_
                refine X.mv rfl rfl rfl rfl rfl ?_
                refine X.cat rfl rfl rfl rfl rfl rfl (by (try simp only [List.length_append, List.length_cons, List.length_nil]); (try rw [hs]); omega) ?_
                refine X.asg rfl rfl rfl rfl rfl ?_
                refine X.done [(0, _), (1, _), (4, _), (6, _)] ⟨rfl, rfl, rfl, rfl, trivial⟩ ?_
                refine N.then ?_
                refine E.ret ?_
                refine N.blkR ?_
                refine N.thenR ?_
                first
                  | (have hw : wrp (rk t) 3 (shT t) = 40 :: (shT t ++ [41]) := wrp_y (tgt_lt3.2 (by omega))
                     rw [shT_5 (by omega), hsu, hw]
                     exact N.retH [_] ⟨_, _, rfl, rfl, rfl⟩ ⟨rfl, hkk⟩)
                  | (have hw : wrp (rk t) 3 (shT t) = shT t := wrp_n (fun h => by have := tgt_lt3.1 h; omega)
                     rw [shT_5 (by omega), hsu, hw]
                     exact N.retH [_] ⟨_, _, rfl, rfl, rfl⟩ ⟨rfl, hkk⟩)
              · refine E.seq ?_
                refine E.region ?_
                refine X.eql rfl rfl rfl rfl rfl rfl ?_
                refine X.asg rfl rfl rfl rfl rfl ?_
                refine X.done [(0, _), (1, _), (4, _), (6, _), (119, _), (124, _)] ⟨rfl, rfl, rfl, rfl, rfl, rfl, trivial⟩ ?_
                refine N.then ?_
                refine E.condD rfl (fun hc => ?_) (fun hc => ?_)
                · refine E.seq ?_
                  refine E.region ?_
                  refine X.mv rfl rfl rfl rfl rfl ?_
                  refine X.cat rfl rfl rfl rfl rfl rfl (by (try simp only [List.length_append, List.length_cons, List.length_nil]); (try rw [hs]); omega) ?_
                  refine X.asg rfl rfl rfl rfl rfl ?_
                  refine X.done [(0, _), (1, _), (4, _), (6, _)] ⟨rfl, rfl, rfl, rfl, trivial⟩ ?_
                  refine N.then ?_
                  refine E.ret ?_
                  refine N.blkR ?_
                  refine N.thenR ?_
                  first
                    | (have hw : wrp (rk t) 3 (shT t) = 40 :: (shT t ++ [41]) := wrp_y (tgt_lt3.2 (by omega))
                       rw [shT_6 (by omega), hsu, hw]
                       exact N.retH [_] ⟨_, _, rfl, rfl, rfl⟩ ⟨rfl, hkk⟩)
                    | (have hw : wrp (rk t) 3 (shT t) = shT t := wrp_n (fun h => by have := tgt_lt3.1 h; omega)
                       rw [shT_6 (by omega), hsu, hw]
                       exact N.retH [_] ⟨_, _, rfl, rfl, rfl⟩ ⟨rfl, hkk⟩)
                · refine E.seq ?_
                  refine E.region ?_
                  refine X.eql rfl rfl rfl rfl rfl rfl ?_
                  refine X.asg rfl rfl rfl rfl rfl ?_
                  refine X.done [(0, _), (1, _), (4, _), (6, _), (128, _)] ⟨rfl, rfl, rfl, rfl, rfl, trivial⟩ ?_
                  refine N.then ?_
                  refine E.condD rfl (fun hc => ?_) (fun hc => ?_)
                  · refine E.seq ?_
                    refine E.region ?_
                    refine X.mv rfl rfl rfl rfl rfl ?_
                    refine X.cat rfl rfl rfl rfl rfl rfl (by (try simp only [List.length_append, List.length_cons, List.length_nil]); (try rw [hs]); omega) ?_
                    refine X.asg rfl rfl rfl rfl rfl ?_
                    refine X.done [(0, _), (1, _), (4, _), (6, _)] ⟨rfl, rfl, rfl, rfl, trivial⟩ ?_
                    refine N.then ?_
                    refine E.ret ?_
                    refine N.blkR ?_
                    refine N.thenR ?_
                    first
                      | (have hw : wrp (rk t) 3 (shT t) = 40 :: (shT t ++ [41]) := wrp_y (tgt_lt3.2 (by omega))
                         rw [shT_7 (by omega), hsu, hw]
                         exact N.retH [_] ⟨_, _, rfl, rfl, rfl⟩ ⟨rfl, hkk⟩)
                      | (have hw : wrp (rk t) 3 (shT t) = shT t := wrp_n (fun h => by have := tgt_lt3.1 h; omega)
                         rw [shT_7 (by omega), hsu, hw]
                         exact N.retH [_] ⟨_, _, rfl, rfl, rfl⟩ ⟨rfl, hkk⟩)
                  · refine E.skip ?_
                    refine N.blk ?_
                    refine N.then ?_
                    refine E.seq ?_
                    obtain ⟨lo, hlo1⟩ := Int.eq_ofNat_of_zero_le (show 0 ≤ x.low by omega)
                    have hlod : xcs[xo + pre.length * 8 + 6]? = some (i64 (lo : Nat)) := by rw [← hlo1]; exact hxc 6 _ rfl
                    have hdl := dcm_len lo
                    refine E.region ?_
                    refine X.mv rfl rfl rfl rfl rfl ?_
                    refine X.cat rfl rfl rfl rfl rfl rfl (by (try simp only [List.length_append, List.length_cons, List.length_nil]); (try rw [hs]); omega) ?_
                    refine X.mv rfl rfl rfl rfl rfl ?_
                    refine X.mv rfl rfl rfl rfl rfl ?_
                    refine X.ixAe rfl rfl rfl rfl rfl rfl Tryd.underlying22 Tryd.sz38 (hxa) (by omega) ?_
                    refine X.fld rfl rfl rfl rfl rfl Tryd.off38_3 ?_
                    refine X.ld rfl rfl rfl rfl Tryd.ag3 (hxb) (by exact hlod) ?_
                    refine X.call rfl rfl rfl rfl rfl Tryd.cl32 (digits_ct lo _ (by omega)) ?_
                    rintro _ H10 ⟨rfl, hk10⟩
                    replace hkk := hkk.trans hk10 (by simp)
                    replace hxb := hk10.keep hxb (by simp)
                    refine X.cat rfl rfl rfl rfl rfl rfl (by simp only [List.length_append, List.length_cons, List.length_nil]; omega) ?_
                    refine X.asg rfl rfl rfl rfl rfl ?_
                    refine X.done [(0, _), (1, _), (4, _), (6, _)] ⟨rfl, rfl, rfl, rfl, trivial⟩ ?_
                    refine N.then ?_
                    refine E.seq ?_
                    refine E.seq ?_
                    refine E.region ?_
                    refine X.mv rfl rfl rfl rfl rfl ?_
                    refine X.mv rfl rfl rfl rfl rfl ?_
                    refine X.ixAe rfl rfl rfl rfl rfl rfl Tryd.underlying22 Tryd.sz38 (hxa) (by omega) ?_
                    refine X.fld rfl rfl rfl rfl rfl Tryd.off38_4 ?_
                    refine X.ld rfl rfl rfl rfl Tryd.ag3 (hxb) (by exact hxc 7 _ rfl) ?_
                    refine X.lss rfl rfl rfl rfl rfl rfl ?_
                    refine X.done [(0, _), (1, _), (4, _), (6, _), (146, _)] ⟨rfl, rfl, rfl, rfl, rfl, trivial⟩ ?_
                    refine N.then ?_
                    refine E.condD rfl (fun hc => ?_) (fun hc => ?_)
                    · refine E.seq ?_
                      refine E.region ?_
                      refine X.mv rfl rfl rfl rfl rfl ?_
                      refine X.cat rfl rfl rfl rfl rfl rfl (by simp only [List.length_append, List.length_cons, List.length_nil]; omega) ?_
                      refine X.asg rfl rfl rfl rfl rfl ?_
                      refine X.done [(0, _), (1, _), (4, _), (6, _)] ⟨rfl, rfl, rfl, rfl, trivial⟩ ?_
                      refine N.then ?_
                      refine E.ret ?_
                      refine N.thenR ?_
                      first
                        | (have hw : wrp (rk t) 3 (shT t) = 40 :: (shT t ++ [41]) := wrp_y (tgt_lt3.2 (by omega))
                           rw [shT_8 (by omega), ← oft_a hlo1 (by omega), hsu, hw]
                           exact N.retH [_] ⟨_, _, rfl, rfl, rfl⟩ ⟨by simp [tup], hkk⟩)
                        | (have hw : wrp (rk t) 3 (shT t) = shT t := wrp_n (fun h => by have := tgt_lt3.1 h; omega)
                           rw [shT_8 (by omega), ← oft_a hlo1 (by omega), hsu, hw]
                           exact N.retH [_] ⟨_, _, rfl, rfl, rfl⟩ ⟨by simp [tup], hkk⟩)
                    · refine E.skip ?_
                      refine N.then ?_
                      refine E.seq ?_
                      refine E.seq ?_
                      obtain ⟨hh, hhi1⟩ := Int.eq_ofNat_of_zero_le (show 0 ≤ x.high by omega)
                      have hhid : xcs[xo + pre.length * 8 + 7]? = some (i64 (hh : Nat)) := by rw [← hhi1]; exact hxc 7 _ rfl
                      have hdh := dcm_len hh
                      refine E.regionD (fun H' => H' = H10) [(0, .pu), (1, .pu), (2, .pu), (3, .pu), (4, .st), (5, .pu), (6, .pu), (7, .pu), (8, .pu), (9, .st), (10, .pu)] Tryd.mixed (by kernel_rfl) (rfl) ?_
                      refine X.mv rfl rfl rfl rfl rfl ?_
                      refine X.mv rfl rfl rfl rfl rfl ?_
                      refine X.ixAe rfl rfl rfl rfl rfl rfl Tryd.underlying22 Tryd.sz38 (hxa) (by omega) ?_
                      refine X.fld rfl rfl rfl rfl rfl Tryd.off38_4 ?_
                      refine X.ld rfl rfl rfl rfl Tryd.ag3 (fun H' hF => by rw [hF]; exact hxb) (by exact hhid) ?_
                      refine X.mv rfl rfl rfl rfl rfl ?_
                      refine X.mv rfl rfl rfl rfl rfl ?_
                      refine X.ixAe rfl rfl rfl rfl rfl rfl Tryd.underlying22 Tryd.sz38 (hxa) (by omega) ?_
                      refine X.fld rfl rfl rfl rfl rfl Tryd.off38_3 ?_
                      refine X.ld rfl rfl rfl rfl Tryd.ag3 (fun H' hF => by rw [hF]; exact hxb) (by exact hlod) ?_
                      refine X.gtr rfl rfl rfl rfl rfl rfl ?_
                      refine X.done [(0, _), (1, _), (4, _), (6, _), (159, _)] ⟨rfl, rfl, rfl, rfl, rfl, trivial⟩ ?_
                      refine N.then ?_
                      refine E.condD rfl (fun hc => ?_) (fun hc => ?_)
                      · refine E.region ?_
                        refine X.mv rfl rfl rfl rfl rfl ?_
                        refine X.cat rfl rfl rfl rfl rfl rfl (by simp only [List.length_append, List.length_cons, List.length_nil]; omega) ?_
                        refine X.mv rfl rfl rfl rfl rfl ?_
                        refine X.mv rfl rfl rfl rfl rfl ?_
                        refine X.ixAe rfl rfl rfl rfl rfl rfl Tryd.underlying22 Tryd.sz38 (hxa) (by omega) ?_
                        refine X.fld rfl rfl rfl rfl rfl Tryd.off38_4 ?_
                        refine X.ld rfl rfl rfl rfl Tryd.ag3 (hxb) (by exact hhid) ?_
                        refine X.call rfl rfl rfl rfl rfl Tryd.cl32 (digits_ct hh _ (by omega)) ?_
                        rintro _ H11 ⟨rfl, hk11⟩
                        replace hkk := hkk.trans hk11 (by simp)
                        replace hxb := hk11.keep hxb (by simp)
                        refine X.cat rfl rfl rfl rfl rfl rfl (by simp only [List.length_append, List.length_cons, List.length_nil]; omega) ?_
                        refine X.asg rfl rfl rfl rfl rfl ?_
                        refine X.done [(4, _), (6, _)] ⟨rfl, rfl, trivial⟩ ?_
                        refine N.then ?_
                        refine E.seq ?_
                        refine E.region ?_
                        refine X.mv rfl rfl rfl rfl rfl ?_
                        refine X.cat rfl rfl rfl rfl rfl rfl (by simp only [List.length_append, List.length_cons, List.length_nil]; omega) ?_
                        refine X.asg rfl rfl rfl rfl rfl ?_
                        refine X.done [(4, _)] ⟨rfl, trivial⟩ ?_
                        refine N.then ?_
                        refine E.ret ?_
                        first
                          | (have eo := oft_c hlo1 hhi1 (by omega)
                             first
                               | (have hw : wrp (rk t) 3 (shT t) = 40 :: (shT t ++ [41]) := wrp_y (tgt_lt3.2 (by omega))
                                  rw [shT_8 (by omega), ← eo, hsu, hw]
                                  exact N.retH [_] ⟨_, _, rfl, rfl, rfl⟩ ⟨by simp [tup], hkk⟩)
                               | (have hw : wrp (rk t) 3 (shT t) = shT t := wrp_n (fun h => by have := tgt_lt3.1 h; omega)
                                  rw [shT_8 (by omega), ← eo, hsu, hw]
                                  exact N.retH [_] ⟨_, _, rfl, rfl, rfl⟩ ⟨by simp [tup], hkk⟩))
                          | (have eo := oft_b hlo1 hhi1 (by omega) (by omega)
                             first
                               | (have hw : wrp (rk t) 3 (shT t) = 40 :: (shT t ++ [41]) := wrp_y (tgt_lt3.2 (by omega))
                                  rw [shT_8 (by omega), ← eo, hsu, hw]
                                  exact N.retH [_] ⟨_, _, rfl, rfl, rfl⟩ ⟨by simp [tup], hkk⟩)
                               | (have hw : wrp (rk t) 3 (shT t) = shT t := wrp_n (fun h => by have := tgt_lt3.1 h; omega)
                                  rw [shT_8 (by omega), ← eo, hsu, hw]
                                  exact N.retH [_] ⟨_, _, rfl, rfl, rfl⟩ ⟨by simp [tup], hkk⟩))
                      · refine E.skip ?_
                        refine N.then ?_
                        refine E.seq ?_
                        refine E.region ?_
                        refine X.mv rfl rfl rfl rfl rfl ?_
                        refine X.cat rfl rfl rfl rfl rfl rfl (by simp only [List.length_append, List.length_cons, List.length_nil]; omega) ?_
                        refine X.asg rfl rfl rfl rfl rfl ?_
                        refine X.done [(4, _)] ⟨rfl, trivial⟩ ?_
                        refine N.then ?_
                        refine E.ret ?_
                        first
                          | (have eo := oft_c hlo1 hhi1 (by omega)
                             first
                               | (have hw : wrp (rk t) 3 (shT t) = 40 :: (shT t ++ [41]) := wrp_y (tgt_lt3.2 (by omega))
                                  rw [shT_8 (by omega), ← eo, hsu, hw]
                                  exact N.retH [_] ⟨_, _, rfl, rfl, rfl⟩ ⟨by simp [tup], hkk⟩)
                               | (have hw : wrp (rk t) 3 (shT t) = shT t := wrp_n (fun h => by have := tgt_lt3.1 h; omega)
                                  rw [shT_8 (by omega), ← eo, hsu, hw]
                                  exact N.retH [_] ⟨_, _, rfl, rfl, rfl⟩ ⟨by simp [tup], hkk⟩))
                          | (have eo := oft_b hlo1 hhi1 (by omega) (by omega)
                             first
                               | (have hw : wrp (rk t) 3 (shT t) = 40 :: (shT t ++ [41]) := wrp_y (tgt_lt3.2 (by omega))
                                  rw [shT_8 (by omega), ← eo, hsu, hw]
                                  exact N.retH [_] ⟨_, _, rfl, rfl, rfl⟩ ⟨by simp [tup], hkk⟩)
                               | (have hw : wrp (rk t) 3 (shT t) = shT t := wrp_n (fun h => by have := tgt_lt3.1 h; omega)
                                  rw [shT_8 (by omega), ← eo, hsu, hw]
                                  exact N.retH [_] ⟨_, _, rfl, rfl, rfl⟩ ⟨by simp [tup], hkk⟩))
          · refine X.mv rfl rfl rfl rfl rfl ?_
            refine X.skip rfl rfl rfl ?_
            refine X.skip rfl rfl rfl ?_
            refine X.skip rfl rfl rfl ?_
            refine X.skip rfl rfl rfl ?_
            refine X.skip rfl rfl rfl ?_
            refine X.skip rfl rfl rfl ?_
            refine X.skip rfl rfl rfl ?_
            refine X.skip rfl rfl rfl ?_
            refine X.pickF rfl rfl rfl rfl rfl rfl ?_
            refine X.done [(0, _), (1, _), (4, _), (6, _), (111, _)] ⟨rfl, rfl, rfl, rfl, rfl, trivial⟩ ?_
            refine N.then ?_
            refine E.condF rfl ?_
            refine E.skip ?_
            refine N.then ?_
            refine E.seq ?_
            refine E.seq ?_
            refine E.region ?_
            refine X.mv rfl rfl rfl rfl rfl ?_
            refine X.mv rfl rfl rfl rfl rfl ?_
            refine X.ixAe rfl rfl rfl rfl rfl rfl Tryd.underlying22 Tryd.sz38 (hxa) (by omega) ?_
            refine X.fld rfl rfl rfl rfl rfl Tryd.off38_0 ?_
            refine X.ld rfl rfl rfl rfl Tryd.ag3 (hxb) (by exact hxc 0 _ rfl) ?_
            refine X.done [(0, _), (1, _), (4, _), (6, _), (119, _)] ⟨rfl, rfl, rfl, rfl, rfl, trivial⟩ ?_
            refine N.then ?_
            refine E.block ?_
            refine E.seq ?_
            refine E.region ?_
            refine X.eql rfl rfl rfl rfl rfl rfl ?_
            refine X.asg rfl rfl rfl rfl rfl ?_
            refine X.done [(0, _), (1, _), (4, _), (6, _), (119, _), (120, _)] ⟨rfl, rfl, rfl, rfl, rfl, rfl, trivial⟩ ?_
            refine N.then ?_
            refine E.condD rfl (fun hc => ?_) (fun hc => ?_)
            · refine E.seq ?_
              refine E.region ?_
              refine X.mv rfl rfl rfl rfl rfl ?_
              refine X.cat rfl rfl rfl rfl rfl rfl (by (try simp only [List.length_append, List.length_cons, List.length_nil]); (try rw [hs]); omega) ?_
              refine X.asg rfl rfl rfl rfl rfl ?_
              refine X.done [(0, _), (1, _), (4, _), (6, _)] ⟨rfl, rfl, rfl, rfl, trivial⟩ ?_
              refine N.then ?_
              refine E.ret ?_
              refine N.blkR ?_
              refine N.thenR ?_
              first
                | (have hw : wrp (rk t) 3 (shT t) = 40 :: (shT t ++ [41]) := wrp_y (tgt_lt3.2 (by omega))
                   rw [shT_5 (by omega), hsu, hw]
                   exact N.retH [_] ⟨_, _, rfl, rfl, rfl⟩ ⟨rfl, hkk⟩)
                | (have hw : wrp (rk t) 3 (shT t) = shT t := wrp_n (fun h => by have := tgt_lt3.1 h; omega)
                   rw [shT_5 (by omega), hsu, hw]
                   exact N.retH [_] ⟨_, _, rfl, rfl, rfl⟩ ⟨rfl, hkk⟩)
            · refine E.seq ?_
              refine E.region ?_
              refine X.eql rfl rfl rfl rfl rfl rfl ?_
              refine X.asg rfl rfl rfl rfl rfl ?_
              refine X.done [(0, _), (1, _), (4, _), (6, _), (119, _), (124, _)] ⟨rfl, rfl, rfl, rfl, rfl, rfl, trivial⟩ ?_
              refine N.then ?_
              refine E.condD rfl (fun hc => ?_) (fun hc => ?_)
              · refine E.seq ?_
                refine E.region ?_
                refine X.mv rfl rfl rfl rfl rfl ?_
                refine X.cat rfl rfl rfl rfl rfl rfl (by (try simp only [List.length_append, List.length_cons, List.length_nil]); (try rw [hs]); omega) ?_
                refine X.asg rfl rfl rfl rfl rfl ?_
                refine X.done [(0, _), (1, _), (4, _), (6, _)] ⟨rfl, rfl, rfl, rfl, trivial⟩ ?_
                refine N.then ?_
                refine E.ret ?_
                refine N.blkR ?_
                refine N.thenR ?_
                first
                  | (have hw : wrp (rk t) 3 (shT t) = 40 :: (shT t ++ [41]) := wrp_y (tgt_lt3.2 (by omega))
                     rw [shT_6 (by omega), hsu, hw]
                     exact N.retH [_] ⟨_, _, rfl, rfl, rfl⟩ ⟨rfl, hkk⟩)
                  | (have hw : wrp (rk t) 3 (shT t) = shT t := wrp_n (fun h => by have := tgt_lt3.1 h; omega)
                     rw [shT_6 (by omega), hsu, hw]
                     exact N.retH [_] ⟨_, _, rfl, rfl, rfl⟩ ⟨rfl, hkk⟩)
              · refine E.seq ?_
                refine E.region ?_
                refine X.eql rfl rfl rfl rfl rfl rfl ?_
                refine X.asg rfl rfl rfl rfl rfl ?_
                refine X.done [(0, _), (1, _), (4, _), (6, _), (128, _)] ⟨rfl, rfl, rfl, rfl, rfl, trivial⟩ ?_
                refine N.then ?_
                refine E.condD rfl (fun hc => ?_) (fun hc => ?_)
                · refine E.seq ?_
                  refine E.region ?_
                  refine X.mv rfl rfl rfl rfl rfl ?_
                  refine X.cat rfl rfl rfl rfl rfl rfl (by (try simp only [List.length_append, List.length_cons, List.length_nil]); (try rw [hs]); omega) ?_
                  refine X.asg rfl rfl rfl rfl rfl ?_
                  refine X.done [(0, _), (1, _), (4, _), (6, _)] ⟨rfl, rfl, rfl, rfl, trivial⟩ ?_
                  refine N.then ?_
                  refine E.ret ?_
                  refine N.blkR ?_
                  refine N.thenR ?_
                  first
                    | (have hw : wrp (rk t) 3 (shT t) = 40 :: (shT t ++ [41]) := wrp_y (tgt_lt3.2 (by omega))
                       rw [shT_7 (by omega), hsu, hw]
                       exact N.retH [_] ⟨_, _, rfl, rfl, rfl⟩ ⟨rfl, hkk⟩)
                    | (have hw : wrp (rk t) 3 (shT t) = shT t := wrp_n (fun h => by have := tgt_lt3.1 h; omega)
                       rw [shT_7 (by omega), hsu, hw]
                       exact N.retH [_] ⟨_, _, rfl, rfl, rfl⟩ ⟨rfl, hkk⟩)
                · refine E.skip ?_
                  refine N.blk ?_
                  refine N.then ?_
                  refine E.seq ?_
                  obtain ⟨lo, hlo1⟩ := Int.eq_ofNat_of_zero_le (show 0 ≤ x.low by omega)
                  have hlod : xcs[xo + pre.length * 8 + 6]? = some (i64 (lo : Nat)) := by rw [← hlo1]; exact hxc 6 _ rfl
                  have hdl := dcm_len lo
                  refine E.region ?_
                  refine X.mv rfl rfl rfl rfl rfl ?_
                  refine X.cat rfl rfl rfl rfl rfl rfl (by (try simp only [List.length_append, List.length_cons, List.length_nil]); (try rw [hs]); omega) ?_
                  refine X.mv rfl rfl rfl rfl rfl ?_
                  refine X.mv rfl rfl rfl rfl rfl ?_
                  refine X.ixAe rfl rfl rfl rfl rfl rfl Tryd.underlying22 Tryd.sz38 (hxa) (by omega) ?_
                  refine X.fld rfl rfl rfl rfl rfl Tryd.off38_3 ?_
                  refine X.ld rfl rfl rfl rfl Tryd.ag3 (hxb) (by exact hlod) ?_
                  refine X.call rfl rfl rfl rfl rfl Tryd.cl32 (digits_ct lo _ (by omega)) ?_
                  rintro _ H10 ⟨rfl, hk10⟩
                  replace hkk := hkk.trans hk10 (by simp)
                  replace hxb := hk10.keep hxb (by simp)
                  refine X.cat rfl rfl rfl rfl rfl rfl (by simp only [List.length_append, List.length_cons, List.length_nil]; omega) ?_
                  refine X.asg rfl rfl rfl rfl rfl ?_
                  refine X.done [(0, _), (1, _), (4, _), (6, _)] ⟨rfl, rfl, rfl, rfl, trivial⟩ ?_
                  refine N.then ?_
                  refine E.seq ?_
                  refine E.seq ?_
                  refine E.region ?_
                  refine X.mv rfl rfl rfl rfl rfl ?_
                  refine X.mv rfl rfl rfl rfl rfl ?_
                  refine X.ixAe rfl rfl rfl rfl rfl rfl Tryd.underlying22 Tryd.sz38 (hxa) (by omega) ?_
                  refine X.fld rfl rfl rfl rfl rfl Tryd.off38_4 ?_
                  refine X.ld rfl rfl rfl rfl Tryd.ag3 (hxb) (by exact hxc 7 _ rfl) ?_
                  refine X.lss rfl rfl rfl rfl rfl rfl ?_
                  refine X.done [(0, _), (1, _), (4, _), (6, _), (146, _)] ⟨rfl, rfl, rfl, rfl, rfl, trivial⟩ ?_
                  refine N.then ?_
                  refine E.condD rfl (fun hc => ?_) (fun hc => ?_)
                  · refine E.seq ?_
                    refine E.region ?_
                    refine X.mv rfl rfl rfl rfl rfl ?_
                    refine X.cat rfl rfl rfl rfl rfl rfl (by simp only [List.length_append, List.length_cons, List.length_nil]; omega) ?_
                    refine X.asg rfl rfl rfl rfl rfl ?_
                    refine X.done [(0, _), (1, _), (4, _), (6, _)] ⟨rfl, rfl, rfl, rfl, trivial⟩ ?_
                    refine N.then ?_
                    refine E.ret ?_
                    refine N.thenR ?_
                    first
                      | (have hw : wrp (rk t) 3 (shT t) = 40 :: (shT t ++ [41]) := wrp_y (tgt_lt3.2 (by omega))
                         rw [shT_8 (by omega), ← oft_a hlo1 (by omega), hsu, hw]
                         exact N.retH [_] ⟨_, _, rfl, rfl, rfl⟩ ⟨by simp [tup], hkk⟩)
                      | (have hw : wrp (rk t) 3 (shT t) = shT t := wrp_n (fun h => by have := tgt_lt3.1 h; omega)
                         rw [shT_8 (by omega), ← oft_a hlo1 (by omega), hsu, hw]
                         exact N.retH [_] ⟨_, _, rfl, rfl, rfl⟩ ⟨by simp [tup], hkk⟩)
                  · refine E.skip ?_
                    refine N.then ?_
                    refine E.seq ?_
                    refine E.seq ?_
                    obtain ⟨hh, hhi1⟩ := Int.eq_ofNat_of_zero_le (show 0 ≤ x.high by omega)
                    have hhid : xcs[xo + pre.length * 8 + 7]? = some (i64 (hh : Nat)) := by rw [← hhi1]; exact hxc 7 _ rfl
                    have hdh := dcm_len hh
                    refine E.regionD (fun H' => H' = H10) [(0, .pu), (1, .pu), (2, .pu), (3, .pu), (4, .st), (5, .pu), (6, .pu), (7, .pu), (8, .pu), (9, .st), (10, .pu)] Tryd.mixed (by kernel_rfl) (rfl) ?_
                    refine X.mv rfl rfl rfl rfl rfl ?_
                    refine X.mv rfl rfl rfl rfl rfl ?_
                    refine X.ixAe rfl rfl rfl rfl rfl rfl Tryd.underlying22 Tryd.sz38 (hxa) (by omega) ?_
                    refine X.fld rfl rfl rfl rfl rfl Tryd.off38_4 ?_
                    refine X.ld rfl rfl rfl rfl Tryd.ag3 (fun H' hF => by rw [hF]; exact hxb) (by exact hhid) ?_
                    refine X.mv rfl rfl rfl rfl rfl ?_
                    refine X.mv rfl rfl rfl rfl rfl ?_
                    refine X.ixAe rfl rfl rfl rfl rfl rfl Tryd.underlying22 Tryd.sz38 (hxa) (by omega) ?_
                    refine X.fld rfl rfl rfl rfl rfl Tryd.off38_3 ?_
                    refine X.ld rfl rfl rfl rfl Tryd.ag3 (fun H' hF => by rw [hF]; exact hxb) (by exact hlod) ?_
                    refine X.gtr rfl rfl rfl rfl rfl rfl ?_
                    refine X.done [(0, _), (1, _), (4, _), (6, _), (159, _)] ⟨rfl, rfl, rfl, rfl, rfl, trivial⟩ ?_
                    refine N.then ?_
                    refine E.condD rfl (fun hc => ?_) (fun hc => ?_)
                    · refine E.region ?_
                      refine X.mv rfl rfl rfl rfl rfl ?_
                      refine X.cat rfl rfl rfl rfl rfl rfl (by simp only [List.length_append, List.length_cons, List.length_nil]; omega) ?_
                      refine X.mv rfl rfl rfl rfl rfl ?_
                      refine X.mv rfl rfl rfl rfl rfl ?_
                      refine X.ixAe rfl rfl rfl rfl rfl rfl Tryd.underlying22 Tryd.sz38 (hxa) (by omega) ?_
                      refine X.fld rfl rfl rfl rfl rfl Tryd.off38_4 ?_
                      refine X.ld rfl rfl rfl rfl Tryd.ag3 (hxb) (by exact hhid) ?_
                      refine X.call rfl rfl rfl rfl rfl Tryd.cl32 (digits_ct hh _ (by omega)) ?_
                      rintro _ H11 ⟨rfl, hk11⟩
                      replace hkk := hkk.trans hk11 (by simp)
                      replace hxb := hk11.keep hxb (by simp)
                      refine X.cat rfl rfl rfl rfl rfl rfl (by simp only [List.length_append, List.length_cons, List.length_nil]; omega) ?_
                      refine X.asg rfl rfl rfl rfl rfl ?_
                      refine X.done [(4, _), (6, _)] ⟨rfl, rfl, trivial⟩ ?_
                      refine N.then ?_
                      refine E.seq ?_
                      refine E.region ?_
                      refine X.mv rfl rfl rfl rfl rfl ?_
                      refine X.cat rfl rfl rfl rfl rfl rfl (by simp only [List.length_append, List.length_cons, List.length_nil]; omega) ?_
                      refine X.asg rfl rfl rfl rfl rfl ?_
                      refine X.done [(4, _)] ⟨rfl, trivial⟩ ?_
                      refine N.then ?_
                      refine E.ret ?_
                      first
                        | (have eo := oft_c hlo1 hhi1 (by omega)
                           first
                             | (have hw : wrp (rk t) 3 (shT t) = 40 :: (shT t ++ [41]) := wrp_y (tgt_lt3.2 (by omega))
                                rw [shT_8 (by omega), ← eo, hsu, hw]
                                exact N.retH [_] ⟨_, _, rfl, rfl, rfl⟩ ⟨by simp [tup], hkk⟩)
                             | (have hw : wrp (rk t) 3 (shT t) = shT t := wrp_n (fun h => by have := tgt_lt3.1 h; omega)
                                rw [shT_8 (by omega), ← eo, hsu, hw]
                                exact N.retH [_] ⟨_, _, rfl, rfl, rfl⟩ ⟨by simp [tup], hkk⟩))
                        | (have eo := oft_b hlo1 hhi1 (by omega) (by omega)
                           first
                             | (have hw : wrp (rk t) 3 (shT t) = 40 :: (shT t ++ [41]) := wrp_y (tgt_lt3.2 (by omega))
                                rw [shT_8 (by omega), ← eo, hsu, hw]
                                exact N.retH [_] ⟨_, _, rfl, rfl, rfl⟩ ⟨by simp [tup], hkk⟩)
                             | (have hw : wrp (rk t) 3 (shT t) = shT t := wrp_n (fun h => by have := tgt_lt3.1 h; omega)
                                rw [shT_8 (by omega), ← eo, hsu, hw]
                                exact N.retH [_] ⟨_, _, rfl, rfl, rfl⟩ ⟨by simp [tup], hkk⟩))
                    · refine E.skip ?_
                      refine N.then ?_
                      refine E.seq ?_
                      refine E.region ?_
                      refine X.mv rfl rfl rfl rfl rfl ?_
                      refine X.cat rfl rfl rfl rfl rfl rfl (by simp only [List.length_append, List.length_cons, List.length_nil]; omega) ?_
                      refine X.asg rfl rfl rfl rfl rfl ?_
                      refine X.done [(4, _)] ⟨rfl, trivial⟩ ?_
                      refine N.then ?_
                      refine E.ret ?_
                      first
                        | (have eo := oft_c hlo1 hhi1 (by omega)
                           first
                             | (have hw : wrp (rk t) 3 (shT t) = 40 :: (shT t ++ [41]) := wrp_y (tgt_lt3.2 (by omega))
                                rw [shT_8 (by omega), ← eo, hsu, hw]
                                exact N.retH [_] ⟨_, _, rfl, rfl, rfl⟩ ⟨by simp [tup], hkk⟩)
                             | (have hw : wrp (rk t) 3 (shT t) = shT t := wrp_n (fun h => by have := tgt_lt3.1 h; omega)
                                rw [shT_8 (by omega), ← eo, hsu, hw]
                                exact N.retH [_] ⟨_, _, rfl, rfl, rfl⟩ ⟨by simp [tup], hkk⟩))
                        | (have eo := oft_b hlo1 hhi1 (by omega) (by omega)
                           first
                             | (have hw : wrp (rk t) 3 (shT t) = 40 :: (shT t ++ [41]) := wrp_y (tgt_lt3.2 (by omega))
                                rw [shT_8 (by omega), ← eo, hsu, hw]
                                exact N.retH [_] ⟨_, _, rfl, rfl, rfl⟩ ⟨by simp [tup], hkk⟩)
                             | (have hw : wrp (rk t) 3 (shT t) = shT t := wrp_n (fun h => by have := tgt_lt3.1 h; omega)
                                rw [shT_8 (by omega), ← eo, hsu, hw]
                                exact N.retH [_] ⟨_, _, rfl, rfl, rfl⟩ ⟨by simp [tup], hkk⟩))

mutual
theorem rshow_rs (l : List Nd) (a : Option Addr) (c : Nat) (hlen : l.length ≤ 1000) : ∀ t : T, Rt t → RS l (.slice a l.length c) t
  | .nd x ks, hR => fun pre post p H hl hp hN => hp ▸ rshow_step l pre post a c x ks H hl hR hN hlen (rshow_rss l a c hlen ks)
theorem rshow_rss (l : List Nd) (a : Option Addr) (c : Nat) (hlen : l.length ≤ 1000) : ∀ ks : List T, ∀ t ∈ ks, Rt t → RS l (.slice a l.length c) t
  | [], t, ht => absurd ht (by simp)
  | u :: r, t, ht => (List.mem_cons.1 ht).elim (fun e => e ▸ rshow_rs l a c hlen u) (fun h => rshow_rss l a c hlen r t h)
end

theorem rshow15_ct (l : List Nd) (a : Option Addr) (c : Nat) (H : Heap) (hN : NR H (.slice a l.length c) l) (hlen : l.length ≤ 1000) : Ct Tryd.prog 11 #[(.slice a l.length c)] H fun r H' => r = str (showV l) ∧ Kp [] H H' := by
  refine Ct.into 8 Tryd.func11 rfl [(0, (.slice a l.length c))] rfl ⟨rfl, trivial⟩ ?_
  refine E.seq ?_
  refine E.region ?_
  refine X.asg rfl rfl rfl rfl rfl ?_
  refine X.done [(0, _), (2, _)] ⟨rfl, rfl, trivial⟩ ?_
  refine N.then ?_
  refine E.seq ?_
  refine E.seq ?_
  refine E.region ?_
  refine X.mv rfl rfl rfl rfl rfl ?_
  refine X.call rfl rfl rfl rfl rfl Tryd.cl9 (rcheck_ct l a c H hN hlen) ?_
  rintro _ H1 ⟨rfl, hk1⟩
  have hN1 := hN.keepN hk1
  refine X.neq rfl rfl rfl rfl rfl rfl ?_
  refine X.done [(0, _), (2, _), (5, _)] ⟨rfl, rfl, rfl, trivial⟩ ?_
  refine N.then ?_
  refine E.condD rfl (fun hc => ?_) (fun hc => ?_)
  · refine E.seq ?_
    refine E.region ?_
    refine X.asg rfl rfl rfl rfl rfl ?_
    refine X.done [(0, _), (2, _)] ⟨rfl, rfl, trivial⟩ ?_
    refine N.then ?_
    refine E.ret ?_
    refine N.thenR ?_
    exact N.retH [_] ⟨_, _, rfl, rfl, rfl⟩ ⟨by rw [showV_n (by assumption)]; rfl, hk1⟩
  · refine E.skip ?_
    refine N.then ?_
    refine E.seq ?_
    obtain ⟨t, hlt, hRt, hl4⟩ := chk_tree (show chkV l = 0 by omega)
    refine E.region ?_
    refine X.mv rfl rfl rfl rfl rfl ?_
    refine X.call rfl rfl rfl rfl rfl Tryd.cl21 (rshow_rs l a c hlen t hRt [] [] 0 H1 (by rw [List.nil_append, List.append_nil]; exact hlt) rfl hN1) ?_
    rintro _ H3 ⟨rfl, hk3⟩
    refine X.asg rfl rfl rfl rfl rfl ?_
    refine X.done [(2, _)] ⟨rfl, trivial⟩ ?_
    refine N.then ?_
    refine E.ret ?_
    exact N.retH [_] ⟨_, _, rfl, rfl, rfl⟩ ⟨by rw [showV_t (by omega) hlt hRt.wf]; rfl, hk1.trans hk3 (by simp)⟩

end Go.Proofs.YtcandjdomeompaaDoor