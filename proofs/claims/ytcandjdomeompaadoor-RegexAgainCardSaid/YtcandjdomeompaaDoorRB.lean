/- The walks: sets, nodes, numbers in braces. -/
import Derived.Test.YtcandjdomeompaaDoorRA
namespace Go.Proofs.YtcandjdomeompaaDoor
open Go.SX Go.Chr
attribute [local irreducible] X E N Ct
set_option linter.unusedVariables false
set_option linter.unusedSimpArgs false
theorem take2_ct (s : Bs) (p c : Nat) (st : St) (H : Heap) (hP : PH p s st H) (hs : s.length ≤ 1000) : Ct Tryd.prog 35 #[ptr p, .int .u8 c] H fun v H' =>
    (v = .bool true ∧ (tk s c st).1 = true ∧ PH p s (adv st) H' ∧ Kp [p] H H') ∨ (v = .bool false ∧ (tk s c st).1 = false ∧ PH p s st H' ∧ Kp [p] H H') := by
  refine (take_ct s p c st H hP hs).mono fun v H' ⟨h1, h2, h3⟩ => ?_
  cases hc : (tk s c st).1
  · rw [(tk_no hc).2] at h2; exact .inr ⟨by rw [h1, hc], rfl, h2, h3⟩
  · rw [(tk_yes hc).2] at h2; exact .inl ⟨by rw [h1, hc], rfl, h2, h3⟩
theorem next2_ct (s : Bs) (p : Nat) (st : St) (H : Heap) (hP : PH p s st H) : Ct Tryd.prog 23 #[ptr p] H fun v H' => ∃ c b, nx s st = (c, b) ∧ c < 256 ∧ (b = false → c = 0) ∧ v = .tuple #[.int .u8 (c : Nat), .bool b] ∧ H' = H :=
  (next_ct s p st H hP).mono fun v H' ⟨h1, h2⟩ => ⟨(nx s st).1, (nx s st).2, rfl, nx_lt, (fun h => by
    refine Classical.byContradiction fun h3 => ?_
    rw [nx_c h3] at h; cases h), h1, h2⟩
theorem number2_ct (s : Bs) (p : Nat) (st : St) (H : Heap) (hP : PH p s st H) (hs : s.length ≤ 1000) (h0 : st.at_ ≤ s.length) : Ct Tryd.prog 64 #[ptr p] H fun v H' => ∃ n st', num s st = (n, st') ∧ v = i64 n ∧ PH p s st' H' ∧ Kp [p] H H' ∧ 0 ≤ n ∧ n ≤ 99 ∧ st'.at_ ≤ s.length :=
  (number_ct s p st H hP hs h0).mono fun v H' ⟨h1, h2, h3, h4, h5⟩ => ⟨_, _, rfl, h1, h2, h3, h4, h5, (sp_num h0).len⟩
theorem counts2_ct (low high : Int) (H : Heap) : Ct Tryd.prog 27 #[i64 low, i64 high] H fun v H' => ∃ b, cntV low high = b ∧ v = .bool b ∧ H' = H :=
  (counts_ct low high H).mono fun v H' ⟨h1, h2⟩ => ⟨_, rfl, h1, h2⟩
theorem rangeS_ct (a b : Nat) (H : Heap) (ha : a < 256) (hb : b < 256) : Ct Tryd.prog 70 #[.int .u8 a, .int .u8 b] H fun v H' => v = agg4 (sRg a b).1 ∧ Kp [] H H' := range_ct a b H ha hb
theorem orS_ct (a b : S4) (H : Heap) : Ct Tryd.prog 68 #[agg4 a.1, agg4 b.1] H fun v H' => v = agg4 (sOr a b).1 ∧ Kp [] H H' := or_ct a.1 b.1 H a.2 b.2
theorem notS_ct (a : S4) (H : Heap) : Ct Tryd.prog 40 #[agg4 a.1] H fun v H' => v = agg4 (sNot a).1 ∧ Kp [] H H' := not_ct a.1 H a.2
theorem four {ws : List Nat} (h : Ws ws) : ∃ a b c d, ws = [a, b, c, d] := by
  have := h.len
  match ws, this with
  | [a, b, c, d], _ => exact ⟨a, b, c, d, rfl⟩
theorem build_set (a : S4) (w : World) : (Instr.build 38 (([(0, i64 1), (2, agg4 a.1)] : List (Nat × Value)).toArray)).run Tryd.prog w = .ok (ndv ⟨1, 0, a, 0, 0⟩) w := by
  obtain ⟨ws, h⟩ := a
  obtain ⟨x0, x1, x2, x3, rfl⟩ := four h
  kernel_rfl
theorem build_knd (k : Int) (w : World) : (Instr.build 38 (([(0, i64 k)] : List (Nat × Value)).toArray)).run Tryd.prog w = .ok (ndv (knd k)) w := by kernel_rfl
theorem build_none (w : World) : (Instr.build 38 (([] : List (Nat × Value)).toArray)).run Tryd.prog w = .ok (ndv (knd 0)) w := by kernel_rfl
theorem build_rep (low high : Int) (w : World) : (Instr.build 38 (([(0, i64 8), (3, i64 low), (4, i64 high)] : List (Nat × Value)).toArray)).run Tryd.prog w = .ok (ndv ⟨8, 0, s0, low, high⟩) w := by kernel_rfl
theorem build_z4 (w : World) : (Instr.build 36 (([] : List (Nat × Value)).toArray)).run Tryd.prog w = .ok (agg4 z4) w := by kernel_rfl
theorem zi38 : (Tryd.prog.info? 38).map (fun i => (i.zero, i.size, i.bytes)) = some (some (ndv (knd 0)), 8, 64) := by kernel_rfl
theorem TN : AppT Tryd.prog 22 22 38 8 64 (ndv (knd 0)) := ⟨Tryd.underlying22, zi38, rfl, by decide⟩
theorem own_lit {H : Heap} {b : Nat} {e : TypeId} {sz : Nat} {cs : List Value} (hb : H[b]? = some (.cells cs.toArray e (0, 0))) (hl : cs.length = sz) : Own H e sz (.slice (some ⟨b, 0, none⟩) 1 1) 1 cs :=
  ⟨by rw [hl, Nat.one_mul], .inr ⟨b, 1, [], rfl, by rw [List.append_nil]; exact hb, by simp [hl], Nat.le_refl _, by decide⟩⟩
/-- .. that lies in what is new. -/
def NRF (H H' : Heap) (v : Value) (xs : List Nd) : Prop := NR H' v xs ∧ ∀ b ∈ blk v, H.size ≤ b ∧ b < H'.size
theorem NRF.from {H0 H H' : Heap} {v : Value} {xs : List Nd} (h : NRF H H' v xs) (hs : H0.size ≤ H.size) : NRF H0 H' v xs := ⟨h.1, fun b hb => ⟨Nat.le_trans hs (h.2 b hb).1, (h.2 b hb).2⟩⟩
theorem NRF.keepN {H0 H H' : Heap} {v : Value} {xs : List Nd} (h : NRF H0 H v xs) (hk : Kp [] H H') : NRF H0 H' v xs := ⟨h.1.keepN hk, fun b hb => ⟨(h.2 b hb).1, Nat.lt_of_lt_of_le (h.2 b hb).2 hk.size⟩⟩
theorem NRF.keepP {H0 H H' : Heap} {v : Value} {xs : List Nd} {S : List Nat} (h : NRF H0 H v xs) (hk : Kp S H H') (hS : ∀ b ∈ S, b < H0.size) : NRF H0 H' v xs :=
  ⟨h.1.keep hk (fun b hb hbS => absurd (hS b hbS) (by have := (h.2 b hb).1; omega)), fun b hb => ⟨(h.2 b hb).1, Nat.lt_of_lt_of_le (h.2 b hb).2 hk.size⟩⟩
/-- Rows of nodes, in a row. -/
structure KR (H : Heap) (v : Value) (ks : List (Value × List Nd)) : Prop where
  rd : Rd H 1 v ks.length (ks.map (·.1))
  nr : ∀ k ∈ ks, NR H k.1 k.2
theorem KR.nil (H : Heap) : KR H (.slice none 0 0) [] := ⟨⟨rfl, none, 0, rfl, .inl rfl⟩, by simp⟩
theorem KR.at {H : Heap} {a : Option Addr} {n c : Nat} {ks : List (Value × List Nd)} (h : KR H (.slice a n c) ks) {i : Nat} {k : Value × List Nd} (hi : ks[i]? = some k) :
    ∃ b o cs ct fz, a = some ⟨b, o, none⟩ ∧ H[b]? = some (.cells (cs : List Value).toArray ct fz) ∧ cs[o + (i : Int).toNat * 1]? = some k.1 := by
  obtain ⟨hl, a', c', he, hr⟩ := h.rd
  cases he
  have hm : (ks.map (·.1))[i]? = some k.1 := by rw [List.getElem?_map, hi]; rfl
  rcases hr with hr | ⟨b, o, cs, ct, fz, rfl, hb, h3⟩
  · rw [hr] at hm; simp at hm
  · exact ⟨b, o, cs, ct, fz, rfl, hb, by rw [Int.toNat_natCast, Nat.mul_one]; exact h3 _ _ hm⟩
theorem KR.sl {H : Heap} {v : Value} {ks : List (Value × List Nd)} (h : KR H v ks) : ∃ a c, v = .slice a ks.length c := by
  obtain ⟨_, a, c, e, _⟩ := h.rd; exact ⟨a, c, e⟩
theorem KR.keepN {H H' : Heap} {v : Value} {ks : List (Value × List Nd)} (h : KR H v ks) (hk : Kp [] H H') : KR H' v ks := ⟨Rd.keep h.rd hk (by simp), fun k hk' => (h.nr k hk').keepN hk⟩
def jnL (x : Nd) (ks : List (Value × List Nd)) (i : Nat) : List Nd := ⟨x.kind, (ks.length : Nat), x.set, x.low, x.high⟩ :: ((ks.take i).map (·.2)).flatten
theorem jnL_succ {x : Nd} {ks : List (Value × List Nd)} {i : Nat} {k : Value × List Nd} (h : ks[i]? = some k) : jnL x ks (i + 1) = jnL x ks i ++ k.2 := by
  unfold jnL; rw [List.take_add_one, h]; simp
theorem jnL_all {x : Nd} {ks : List (Value × List Nd)} {i : Nat} (h : ks.length ≤ i) : jnL x ks i = jn x (ks.map (·.2)) := by
  unfold jnL jn; rw [List.take_of_length_le h, List.length_map]
theorem jnL_len {x : Nd} {ks : List (Value × List Nd)} : ∀ {i : Nat}, (jnL x ks i).length ≤ 1 + ((ks.map (·.2)).flatten).length := by
  intro i
  unfold jnL
  conv => rhs; rw [← List.take_append_drop i ks]
  simp only [List.map_append, List.flatten_append, List.length_append, List.length_cons]; omega
theorem flat_nr {H : Heap} {v : Value} {xs : List Nd} (h : NR H v xs) : Rd H 8 v xs.length (xs.flatMap ncel) := h
theorem flat_one (xs : List Nd) : ∀ u ∈ xs.flatMap ncel, u.oneCell' = true := by
  intro u hu
  obtain ⟨x, _, h⟩ := List.mem_flatMap.1 hu
  exact ncel_one x u h
theorem hiP_a {s : Bs} {low : Int} {st : St} (h : (tk s 44 st).1 = true) (h2 : (nx s (adv st)).1 = 125) : hiP s low st = (-1, adv st) := by
  unfold hiP; rw [if_pos h, (tk_yes h).2, if_pos h2]
theorem hiP_b {s : Bs} {low : Int} {st : St} (h : (tk s 44 st).1 = true) (h2 : (nx s (adv st)).1 ≠ 125) : hiP s low st = num s (adv st) := by
  unfold hiP; rw [if_pos h, (tk_yes h).2, if_neg h2]
theorem hiP_c {s : Bs} {low : Int} {st : St} (h : (tk s 44 st).1 = false) : hiP s low st = (low, st) := by
  unfold hiP; rw [if_neg (by rw [h]; simp), (tk_no h).2]
theorem clP_t {s : Bs} {c : Nat} {e a : Int} {st : St} (h : (tk s c st).1 = true) : clP s c e a st = adv st := by unfold clP; rw [if_pos h, (tk_yes h).2]
theorem clP_f {s : Bs} {c : Nat} {e a : Int} {st : St} (h : (tk s c st).1 = false) : clP s c e a st = fl e a st := by unfold clP; rw [if_neg (by rw [h]; simp), (tk_no h).2]
theorem tmsE {s : Bs} {st st2 st4 : St} {low hi : Int} {b : Bool} {st6 : St} (e2 : num s (adv st) = (low, st2)) (e4 : hiP s low st2 = (hi, st4)) (e6 : clP s 125 15 (st4.at_ : Nat) st4 = st6) (hb : cntV low hi = b) :
    tms s st = (⟨8, 0, s0, low, hi⟩, if b then st6 else fl 18 (st.at_ : Nat) st6) := by
  unfold tms; simp only [e2, e4, e6, hb]

theorem single_ct (c : Nat) (H : Heap) (hc8 : c < 256) : Ct Tryd.prog 63 #[.int .u8 c] H fun v H' => v = agg4 (sRg c c).1 ∧ Kp [] H H' := by
  refine Ct.into 6 Tryd.func63 rfl [(0, .int .u8 c)] rfl ⟨rfl, trivial⟩ ?_
  refine E.seq ?_
  refine E.region ?_
  refine X.alloc (z := .agg ([.int .u64 0, .int .u64 0, .int .u64 0, .int .u64 0] : List Value).toArray) (cs := [.int .u64 0, .int .u64 0, .int .u64 0, .int .u64 0]) rfl rfl rfl rfl (by kernel_rfl) rfl ?_
  intro b2 H1 hn1 hb1 hk1
  refine X.done [(0, _), (2, _)] ⟨rfl, rfl, trivial⟩ ?_
  refine N.then ?_
  refine E.seq ?_
  refine E.region ?_
  refine X.mv rfl rfl rfl rfl rfl ?_
  refine X.mv rfl rfl rfl rfl rfl ?_
  refine X.call rfl rfl rfl rfl rfl Tryd.cl70 (rangeS_ct c c H1 hc8 hc8) ?_
  rintro _ H2 ⟨rfl, hk2⟩
  replace hb1 := hk2.keep hb1 (by simp)
  have hk12 := hk1.trans hk2 (by simp)
  refine X.stA rfl rfl rfl rfl rfl rfl (uv_one _) (sz24w (sRg c c).2) hb1 (by rw [uv4 (sRg c c).2]; show 0 + 4 ≤ 4; omega) ?_
  intro H3 hb3 hk3
  rw [splice_all (by rw [uv4 (sRg c c).2]; rfl)] at hb3
  refine X.done [(2, _)] ⟨rfl, trivial⟩ ?_
  refine N.then ?_
  refine E.ret ?_
  exact N.retH [_] ⟨_, _, _, 0, rfl, rfl, loadsA Tryd.ag36 Tryd.sz36 hb3 (uv4 (sRg c c).2) zoff, rfl⟩ ⟨rfl, hk12.trans hk3 (by simp; exact hn1)⟩

theorem join_ct (x : Nd) (v : Value) (ks : List (Value × List Nd)) (H : Heap) (hK : KR H v ks) (hlen : ks.length + ((ks.map (·.2)).flatten).length ≤ 100000) : Ct Tryd.prog 46 #[ndv x, v] H fun v' H' => Own H' 38 8 v' (jn x (ks.map (·.2))).length ((jn x (ks.map (·.2))).flatMap ncel) ∧ (∀ b ∈ blk v', H.size ≤ b) ∧ Kp [] H H' := by
  obtain ⟨a, c, rfl⟩ := hK.sl
  refine Ct.into 24 Tryd.func46 rfl [(0, ndv x), (1, .slice a ks.length c)] rfl ⟨rfl, rfl, trivial⟩ ?_
  refine E.seq ?_
  refine E.region ?_
  refine X.box rfl rfl rfl rfl rfl rfl ?_
  intro b2 H1 hn1 hb1 hk1
  have hK1 := hK.keepN hk1
  refine X.asg rfl rfl rfl rfl rfl ?_
  refine X.done [(1, _), (2, _), (4, _)] ⟨rfl, rfl, rfl, trivial⟩ ?_
  refine N.then ?_
  refine E.seq ?_
  refine E.region ?_
  refine X.mv rfl rfl rfl rfl rfl ?_
  refine X.lenS rfl rfl rfl rfl rfl Tryd.underlying66 ?_
  refine X.fld rfl rfl rfl rfl rfl Tryd.off38_1 ?_
  refine X.st rfl rfl rfl rfl rfl rfl rfl Tryd.sz3 hb1 (by show 1 < 8; omega) ?_
  intro H2 hb2 hk2
  have hkk2 := hk1.trans hk2 (by simp; exact hn1)
  replace hK1 : KR H2 (.slice a ks.length c) ks := hK.keepN hkk2
  obtain ⟨x2, hx2⟩ : ∃ x2 : Nd, (⟨x.kind, (ks.length : Nat), x.set, x.low, x.high⟩ : Nd) = x2 := ⟨_, rfl⟩
  replace hb2 : H2[b2]? = some (.cells (ncel x2).toArray 38 (0, 0)) := by rw [← hx2]; exact hb2
  refine X.done [(1, _), (2, _), (4, _)] ⟨rfl, rfl, rfl, trivial⟩ ?_
  refine N.then ?_
  refine E.seq ?_
  refine E.region ?_
  refine X.ldA rfl rfl rfl rfl Tryd.ag38 Tryd.sz38 (hb2) (ncel_len x2) zoff ?_
  refine X.lit (e := 38) (cs := ncel x2) rfl rfl rfl rfl rfl (fun _ => by kernel_rfl) ?_
  intro b5 H3 hn3 hb3 hk3
  replace hK1 := hK1.keepN hk3
  have hkk3 := hkk2.trans hk3 (by simp)
  have hs5 : H.size ≤ b5 := Nat.le_trans hkk2.size hn3
  refine X.asg rfl rfl rfl rfl rfl ?_
  refine X.done [(1, _), (4, _), (5, _)] ⟨rfl, rfl, rfl, trivial⟩ ?_
  refine N.then ?_
  refine E.seq ?_
  refine E.seq ?_
  refine E.region ?_
  refine X.mv rfl rfl rfl rfl rfl ?_
  refine X.lenS rfl rfl rfl rfl rfl Tryd.underlying66 ?_
  refine X.mv rfl rfl rfl rfl rfl ?_
  refine X.done [(4, _), (5, _), (13, _), (14, _), (15, _)] ⟨rfl, rfl, rfl, rfl, rfl, trivial⟩ ?_
  refine N.then ?_
  refine E.block ?_
  refine E.loop (fun (q : Nat × Value) => [(5, q.2), (13, .slice a ks.length c), (14, i64 ks.length), (15, i64 q.1), (4, .slice none 0 0)]) (fun (q : Nat × Value) H' => q.1 ≤ ks.length ∧ Own H' 38 8 q.2 (jnL x ks q.1).length ((jnL x ks q.1).flatMap ncel) ∧ (∀ b ∈ blk q.2, H.size ≤ b) ∧ Kp [] H H') (fun (q : Nat × Value) => ks.length - q.1) (0, .slice (some ⟨b5, 0, none⟩) 1 1) ⟨rfl, rfl, rfl, rfl, rfl, trivial⟩ ⟨Nat.zero_le _, by have h := own_lit hb3 (ncel_len x2); rw [← hx2] at h; simpa [jnL] using h, by simp [blk]; exact hs5, hkk3⟩ ?_
  rintro ⟨i, w⟩ H4 hJ
  dsimp only at hJ ⊢
  obtain ⟨hi, hO, hwb, hkk⟩ := hJ
  have hK4 := hK.keepN hkk
  refine E.seq ?_
  refine E.region ?_
  refine X.lss rfl rfl rfl rfl rfl rfl ?_
  refine X.done [(5, _), (13, _), (14, _), (15, _), (4, _), (16, _)] ⟨rfl, rfl, rfl, rfl, rfl, rfl, trivial⟩ ?_
  refine N.then ?_
  refine E.seq ?_
  refine E.condD rfl (fun hc => ?_) (fun hc => ?_)
  · refine E.skip ?_
    refine N.then ?_
    refine E.seq ?_
    refine E.block ?_
    refine E.seq ?_
    have hi2 : i < ks.length := Int.ofNat_lt.1 (by assumption)
    obtain ⟨k, hkq⟩ : ∃ k, ks[i]? = some k := ⟨_, List.getElem?_eq_getElem hi2⟩
    obtain ⟨bk, ok, csk, ctk, fzk, hae, hbk, hck⟩ := hK4.at hkq
    have hkm := List.mem_of_getElem? hkq
    have hkn := hK4.nr k hkm
    obtain ⟨ka, kc, hks⟩ := hkn.sl
    have hL1 := jnL_len (x := x) (ks := ks) (i := i)
    have hL2 := jnL_len (x := x) (ks := ks) (i := i + 1)
    have hL3 := congrArg List.length (jnL_succ (x := x) hkq)
    rw [List.length_append] at hL3
    refine E.region ?_
    refine X.ixAe rfl rfl rfl rfl rfl rfl Tryd.underlying66 Tryd.sz22 (hae) (by omega) ?_
    refine X.ld rfl rfl rfl rfl Tryd.ag22 (hbk) (hck) ?_
    refine X.asg rfl rfl rfl rfl rfl ?_
    refine X.done [(5, _), (13, _), (14, _), (15, _), (4, _), (16, _), (17, _), (18, _), (7, _)] ⟨rfl, rfl, rfl, rfl, rfl, rfl, rfl, rfl, rfl, trivial⟩ ?_
    refine N.then ?_
    refine E.region ?_
    refine X.mv rfl rfl rfl rfl rfl ?_
    refine X.mv rfl rfl rfl rfl rfl ?_
    refine X.app TN rfl rfl rfl rfl rfl rfl (hO) (by exact .inl hkn) (.inl ⟨38, Tryd.underlying22, ka, kc, hks⟩) (flat_one _) (by first | (simp only [maxLen]; omega) | omega) (by first | (simp only [maxLen]; omega) | omega) ?_
    intro w7 H7 hO7 hk7 hb7 hn7
    have hkk7 := hkk.trans hk7 (fun b hb => .inr (hwb b hb))
    have hwb7 : ∀ b ∈ blk w7, H.size ≤ b := fun b hb => hb7.elim (fun h => hwb b (h ▸ hb)) (fun h => Nat.le_trans hkk.size (h b hb))
    rw [← List.flatMap_append, ← List.length_append, ← jnL_succ hkq] at hO7
    refine X.asg rfl rfl rfl rfl rfl ?_
    refine X.done [(5, _), (13, _), (14, _), (15, _), (4, _), (16, _), (17, _), (18, _), (7, _), (19, _), (20, _), (21, _)] ⟨rfl, rfl, rfl, rfl, rfl, rfl, rfl, rfl, rfl, rfl, rfl, rfl, trivial⟩ ?_
    refine N.blk ?_
    refine N.then ?_
    refine E.region ?_
    refine X.add rfl rfl rfl rfl rfl rfl (by omega) ?_
    refine X.mv rfl rfl rfl rfl rfl ?_
    refine X.done [(5, _), (13, _), (14, _), (15, _), (4, _), (16, _), (17, _), (18, _), (7, _), (19, _), (20, _), (21, _), (22, _)] ⟨rfl, rfl, rfl, rfl, rfl, rfl, rfl, rfl, rfl, rfl, rfl, rfl, rfl, trivial⟩ ?_
    exact N.next (G := fun (q : Nat × Value) => _) (i + 1, w7) ⟨rfl, rfl, rfl, rfl, rfl, trivial⟩ ⟨by show i + 1 ≤ ks.length; omega, hO7, hwb7, hkk7⟩ (by show ks.length - (i + 1) < ks.length - i; omega)
  · refine E.exit ?_
    refine N.thenX ?_
    refine N.loopX ?_
    refine N.blkX ?_
    refine N.then ?_
    refine E.seq ?_
    refine E.region ?_
    refine X.mv rfl rfl rfl rfl rfl ?_
    refine X.asg rfl rfl rfl rfl rfl ?_
    refine X.done [(4, _)] ⟨rfl, trivial⟩ ?_
    refine N.then ?_
    refine E.ret ?_
    rw [jnL_all (by omega)] at hO
    exact N.retH [_] ⟨_, _, rfl, rfl, rfl⟩ ⟨hO, hwb, hkk⟩

theorem join0_ct (x : Nd) (H : Heap) : Ct Tryd.prog 46 #[ndv x, .slice none 0 0] H fun v' H' => NRF H H' v' (jn x []) ∧ Kp [] H H' :=
  (join_ct x _ [] H (KR.nil H) (by simp)).mono fun v H' ⟨h1, h2, h3⟩ => ⟨⟨h1.rd, fun b hb => ⟨h2 b hb, h1.lt b hb⟩⟩, h3⟩
theorem jn_set (a : S4) : jn ⟨1, 0, a, 0, 0⟩ [] = setN a := rfl

theorem set_ct (a : S4) (H : Heap) : Ct Tryd.prog 60 #[agg4 a.1] H fun v H' => NRF H H' v (setN a) ∧ Kp [] H H' := by
  refine Ct.into 6 Tryd.func60 rfl [(0, agg4 a.1)] rfl ⟨rfl, trivial⟩ ?_
  refine E.seq ?_
  refine E.region ?_
  refine X.box rfl rfl rfl rfl rfl rfl ?_
  intro b1 H1 hn1 hb1 hk1
  refine X.asg rfl rfl rfl rfl rfl ?_
  refine X.done [(1, _), (2, _)] ⟨rfl, rfl, trivial⟩ ?_
  refine N.then ?_
  refine E.seq ?_
  refine E.region ?_
  refine X.ldA rfl rfl rfl rfl Tryd.ag36 Tryd.sz36 (hb1) (uv4 a.2) zoff ?_
  refine X.build rfl rfl rfl rfl rfl (build_set a) ?_
  refine X.call rfl rfl rfl rfl rfl Tryd.cl46 (join0_ct ⟨1, 0, a, 0, 0⟩ H1) ?_
  rintro v2 H2 ⟨h1, h3⟩
  rw [jn_set] at h1
  refine X.asg rfl rfl rfl rfl rfl ?_
  refine X.done [(2, _)] ⟨rfl, trivial⟩ ?_
  refine N.then ?_
  refine E.ret ?_
  exact N.retH [_] ⟨_, _, rfl, rfl, rfl⟩ ⟨h1.from hk1.size, hk1.trans h3 (by simp)⟩

theorem kds_d {c : Nat} (h : c = 100) : kds c = (sRg 48 57, true) := by unfold kds; rw [if_pos h]
theorem kds_w {c : Nat} (h : c = 119) : kds c = (sOr (sRg 95 95) (sOr (sRg 48 57) (sOr (sRg 97 122) (sRg 65 90))), true) := by unfold kds; rw [if_neg (by omega), if_pos h]
theorem kds_n {c : Nat} (h : c ≠ 100) (h2 : c ≠ 119) : kds c = (s0, false) := by unfold kds; rw [if_neg h, if_neg h2]

theorem kinds_ct (c : Nat) (H : Heap) (hc8 : c < 256) : Ct Tryd.prog 65 #[.int .u8 c] H fun v H' => v = .tuple #[agg4 (kds c).1.1, .bool (kds c).2] ∧ Kp [] H H' := by
  refine Ct.into 22 Tryd.func65 rfl [(0, .int .u8 c)] rfl ⟨rfl, trivial⟩ ?_
  refine E.seq ?_
  refine E.region ?_
  refine X.alloc (z := .agg ([.int .u64 0, .int .u64 0, .int .u64 0, .int .u64 0] : List Value).toArray) (cs := [.int .u64 0, .int .u64 0, .int .u64 0, .int .u64 0]) rfl rfl rfl rfl (by kernel_rfl) rfl ?_
  intro b2 H1 hn1 hb2 hk1
  have hkk := hk1
  have h2s := lt_of hb2
  refine X.asg rfl rfl rfl rfl rfl ?_
  refine X.done [(0, _), (2, _), (3, _)] ⟨rfl, rfl, rfl, trivial⟩ ?_
  refine N.then ?_
  refine E.seq ?_
  refine E.region ?_
  refine X.call rfl rfl rfl rfl rfl Tryd.cl70 (rangeS_ct 48 57 H1 (by decide) (by decide)) ?_
  rintro _ H2 ⟨rfl, hk2⟩
  replace hb2 := hk2.keep hb2 (by simp)
  have h2s2 := lt_of hb2
  replace hkk := hkk.trans hk2 (by simp)
  refine X.alloc (z := .agg ([.int .u64 0, .int .u64 0, .int .u64 0, .int .u64 0] : List Value).toArray) (cs := [.int .u64 0, .int .u64 0, .int .u64 0, .int .u64 0]) rfl rfl rfl rfl (by kernel_rfl) rfl ?_
  intro b4 H3 hn3 hb4 hk3
  replace hb2 := hk3.keep hb2 (by simp)
  replace hkk := hkk.trans hk3 (by simp)
  refine X.stA rfl rfl rfl rfl rfl rfl (uv_one _) (sz24w (sRg 48 57).2) hb4 (by rw [uv4 (sRg 48 57).2]; show 0 + 4 ≤ 4; omega) ?_
  intro H4 hb4n hk4
  rw [splice_all (by rw [uv4 (sRg 48 57).2]; rfl)] at hb4n
  replace hb4 := hb4n
  have hne : b2 ≠ b4 := by omega
  replace hb2 := hk4.keep hb2 (by simp; exact hne)
  replace hkk := hkk.trans hk4 (by simp; omega)
  refine X.done [(0, _), (2, _), (3, _), (4, _)] ⟨rfl, rfl, rfl, rfl, trivial⟩ ?_
  refine N.then ?_
  refine E.seq ?_
  refine E.seq ?_
  refine E.region ?_
  refine X.mv rfl rfl rfl rfl rfl ?_
  refine X.done [(2, _), (3, _), (4, _), (7, _)] ⟨rfl, rfl, rfl, rfl, trivial⟩ ?_
  refine N.then ?_
  refine E.block ?_
  refine E.seq ?_
  refine E.region ?_
  refine X.eql rfl rfl rfl rfl rfl rfl ?_
  refine X.asg rfl rfl rfl rfl rfl ?_
  refine X.done [(2, _), (3, _), (4, _), (7, _), (8, _)] ⟨rfl, rfl, rfl, rfl, rfl, trivial⟩ ?_
  refine N.then ?_
  refine E.condD rfl (fun hc => ?_) (fun hc => ?_)
  · refine E.seq ?_
    refine E.region ?_
    refine X.ldA rfl rfl rfl rfl Tryd.ag36 Tryd.sz36 (hb4) (uv4 (sRg 48 57).2) zoff ?_
    refine X.stA rfl rfl rfl rfl rfl rfl (uv_one _) (sz24w (sRg 48 57).2) hb2 (by rw [uv4 (sRg 48 57).2]; show 0 + 4 ≤ 4; omega) ?_
    intro H5 hb5 hk5
    rw [splice_all (by rw [uv4 (sRg 48 57).2]; rfl)] at hb5
    refine X.asg rfl rfl rfl rfl rfl ?_
    refine X.done [(2, _), (3, _)] ⟨rfl, rfl, trivial⟩ ?_
    refine N.then ?_
    refine E.ret ?_
    refine N.blkR ?_
    refine N.thenR ?_
    exact N.retH [_, _] ⟨_, _, _, 0, rfl, rfl, loadsA Tryd.ag36 Tryd.sz36 hb5 (uv4 (sRg 48 57).2) zoff, _, _, rfl, rfl, rfl⟩ ⟨by rw [kds_d (by omega)]; rfl, hkk.trans hk5 (by simp; exact hn1)⟩
  · refine E.seq ?_
    refine E.region ?_
    refine X.eql rfl rfl rfl rfl rfl rfl ?_
    refine X.asg rfl rfl rfl rfl rfl ?_
    refine X.done [(2, _), (3, _), (4, _), (11, _)] ⟨rfl, rfl, rfl, rfl, trivial⟩ ?_
    refine N.then ?_
    refine E.condD rfl (fun hc => ?_) (fun hc => ?_)
    · refine E.seq ?_
      refine E.region ?_
      refine X.call rfl rfl rfl rfl rfl Tryd.cl70 (rangeS_ct 97 122 _ (by decide) (by decide)) ?_
      rintro _ H5 ⟨rfl, hk5⟩
      replace hb2 := hk5.keep hb2 (by simp)
      replace hb4 := hk5.keep hb4 (by simp)
      replace hkk := hkk.trans hk5 (by simp)
      refine X.call rfl rfl rfl rfl rfl Tryd.cl70 (rangeS_ct 65 90 _ (by decide) (by decide)) ?_
      rintro _ H6 ⟨rfl, hk6⟩
      replace hb2 := hk6.keep hb2 (by simp)
      replace hb4 := hk6.keep hb4 (by simp)
      replace hkk := hkk.trans hk6 (by simp)
      refine X.call rfl rfl rfl rfl rfl Tryd.cl68 (orS_ct (sRg 97 122) (sRg 65 90) _) ?_
      rintro _ H7 ⟨rfl, hk7⟩
      replace hb2 := hk7.keep hb2 (by simp)
      replace hb4 := hk7.keep hb4 (by simp)
      have h2s7 := lt_of hb2
      have h4s7 := lt_of hb4
      replace hkk := hkk.trans hk7 (by simp)
      refine X.alloc (z := .agg ([.int .u64 0, .int .u64 0, .int .u64 0, .int .u64 0] : List Value).toArray) (cs := [.int .u64 0, .int .u64 0, .int .u64 0, .int .u64 0]) rfl rfl rfl rfl (by kernel_rfl) rfl ?_
      intro b5 H8 hn8 hb5 hk8
      replace hb2 := hk8.keep hb2 (by simp)
      replace hb4 := hk8.keep hb4 (by simp)
      replace hkk := hkk.trans hk8 (by simp)
      refine X.stA rfl rfl rfl rfl rfl rfl (uv_one _) (sz24w (sOr (sRg 97 122) (sRg 65 90)).2) hb5 (by rw [uv4 (sOr (sRg 97 122) (sRg 65 90)).2]; show 0 + 4 ≤ 4; omega) ?_
      intro H9 hb5n hk9
      rw [splice_all (by rw [uv4 (sOr (sRg 97 122) (sRg 65 90)).2]; rfl)] at hb5n
      replace hb5 := hb5n
      replace hb2 := hk9.keep hb2 (by simp; omega)
      replace hb4 := hk9.keep hb4 (by simp; omega)
      replace hkk := hkk.trans hk9 (by simp; omega)
      refine X.done [(2, _), (3, _), (4, _), (5, _)] ⟨rfl, rfl, rfl, rfl, trivial⟩ ?_
      refine N.then ?_
      refine E.seq ?_
      refine E.regionD (fun H' => H'[b4]? = some (.cells (uv (sRg 48 57).1).toArray 36 (0, 0)) ∧ H'[b5]? = some (.cells (uv (sOr (sRg 97 122) (sRg 65 90)).1).toArray 36 (0, 0))) [(1, .st), (2, .st), (0, .mk), (3, .mv), (4, .mk), (5, .mv), (6, .pu)] Tryd.mixed (by kernel_rfl) (⟨hb4, hb5⟩) ?_
      refine X.ldA rfl rfl rfl rfl Tryd.ag36 Tryd.sz36 (fun H' hF => hF.1) (uv4 (sRg 48 57).2) zoff ?_
      refine X.ldA rfl rfl rfl rfl Tryd.ag36 Tryd.sz36 (fun H' hF => hF.2) (uv4 (sOr (sRg 97 122) (sRg 65 90)).2) zoff ?_
      refine X.call rfl rfl rfl rfl rfl Tryd.cl63 (single_ct 95 _ (by decide)) ?_
      rintro _ H10 ⟨rfl, hk10⟩
      replace hb2 := hk10.keep hb2 (by simp)
      replace hb4 := hk10.keep hb4 (by simp)
      replace hb5 := hk10.keep hb5 (by simp)
      replace hkk := hkk.trans hk10 (by simp)
      refine ⟨⟨hb4, hb5⟩, ?_⟩
      refine X.call rfl rfl rfl rfl rfl Tryd.cl68 (orS_ct (sRg 48 57) (sOr (sRg 97 122) (sRg 65 90)) _) ?_
      rintro _ H11 ⟨rfl, hk11⟩
      replace hb2 := hk11.keep hb2 (by simp)
      replace hb4 := hk11.keep hb4 (by simp)
      replace hb5 := hk11.keep hb5 (by simp)
      replace hkk := hkk.trans hk11 (by simp)
      refine X.call rfl rfl rfl rfl rfl Tryd.cl68 (orS_ct (sRg 95 95) (sOr (sRg 48 57) (sOr (sRg 97 122) (sRg 65 90))) _) ?_
      rintro _ H12 ⟨rfl, hk12⟩
      replace hb2 := hk12.keep hb2 (by simp)
      replace hkk := hkk.trans hk12 (by simp)
      refine ⟨⟨hk12.keep hb4 (by simp), hk12.keep hb5 (by simp)⟩, ?_⟩
      refine X.stA rfl rfl rfl rfl rfl rfl (uv_one _) (sz24w (sOr (sRg 95 95) (sOr (sRg 48 57) (sOr (sRg 97 122) (sRg 65 90)))).2) hb2 (by rw [uv4 (sOr (sRg 95 95) (sOr (sRg 48 57) (sOr (sRg 97 122) (sRg 65 90)))).2]; show 0 + 4 ≤ 4; omega) ?_
      intro H13 hb13 hk13
      rw [splice_all (by rw [uv4 (sOr (sRg 95 95) (sOr (sRg 48 57) (sOr (sRg 97 122) (sRg 65 90)))).2]; rfl)] at hb13
      refine X.asg rfl rfl rfl rfl rfl ?_
      refine X.done [(2, _), (3, _)] ⟨rfl, rfl, trivial⟩ ?_
      refine N.then ?_
      refine E.ret ?_
      refine N.blkR ?_
      refine N.thenR ?_
      exact N.retH [_, _] ⟨_, _, _, 0, rfl, rfl, loadsA Tryd.ag36 Tryd.sz36 hb13 (uv4 (sOr (sRg 95 95) (sOr (sRg 48 57) (sOr (sRg 97 122) (sRg 65 90)))).2) zoff, _, _, rfl, rfl, rfl⟩ ⟨by rw [kds_w (by omega)]; rfl, hkk.trans hk13 (by simp; exact hn1)⟩
    · refine E.skip ?_
      refine N.blk ?_
      refine N.then ?_
      refine E.seq ?_
      refine E.region ?_
      refine X.build rfl rfl rfl rfl rfl build_z4 ?_
      refine X.stA rfl rfl rfl rfl rfl rfl (uv_one _) (sz24w ws_z4) hb2 (by show 0 + 4 ≤ 4; omega) ?_
      intro H6 hb6 hk6
      rw [splice_all (by rfl)] at hb6
      refine X.asg rfl rfl rfl rfl rfl ?_
      refine X.done [(2, _), (3, _)] ⟨rfl, rfl, trivial⟩ ?_
      refine N.then ?_
      refine E.ret ?_
      exact N.retH [_, _] ⟨_, _, _, 0, rfl, rfl, loadsA Tryd.ag36 Tryd.sz36 hb6 (uv4 ws_z4) zoff, _, _, rfl, rfl, rfl⟩ ⟨by rw [kds_n (by omega) (by omega)]; rfl, hkk.trans hk6 (by simp; exact hn1)⟩

theorem named_ct (c : Nat) (H : Heap) (hc8 : c < 256) : Ct Tryd.prog 66 #[.int .u8 c] H fun v H' => v = .tuple #[.int .u8 ((nmd c).1 : Nat), .bool (nmd c).2] ∧ H' = H := by
  refine Ct.into 14 Tryd.func66 rfl [(0, .int .u8 c)] rfl ⟨rfl, trivial⟩ ?_
  refine E.seq ?_
  refine E.region ?_
  refine X.asg rfl rfl rfl rfl rfl ?_
  refine X.asg rfl rfl rfl rfl rfl ?_
  refine X.done [(0, _), (2, _), (3, _)] ⟨rfl, rfl, rfl, trivial⟩ ?_
  refine N.then ?_
  refine E.seq ?_
  refine E.seq ?_
  refine E.region ?_
  refine X.mv rfl rfl rfl rfl rfl ?_
  refine X.done [(0, _), (2, _), (3, _), (4, _)] ⟨rfl, rfl, rfl, rfl, trivial⟩ ?_
  refine N.then ?_
  refine E.block ?_
  refine E.seq ?_
  refine E.region ?_
  refine X.eql rfl rfl rfl rfl rfl rfl ?_
  refine X.asg rfl rfl rfl rfl rfl ?_
  refine X.done [(0, _), (2, _), (3, _), (4, _), (5, _)] ⟨rfl, rfl, rfl, rfl, rfl, trivial⟩ ?_
  refine N.then ?_
  refine E.condD rfl (fun hc => ?_) (fun hc => ?_)
  · refine E.seq ?_
    refine E.region ?_
    refine X.asg rfl rfl rfl rfl rfl ?_
    refine X.asg rfl rfl rfl rfl rfl ?_
    refine X.done [(0, _), (2, _), (3, _)] ⟨rfl, rfl, rfl, trivial⟩ ?_
    refine N.then ?_
    refine E.ret ?_
    refine N.blkR ?_
    refine N.thenR ?_
    exact N.retH [_, _] ⟨_, _, rfl, rfl, _, _, rfl, rfl, rfl⟩ ⟨by unfold nmd; rw [if_pos (by omega)]; rfl, rfl⟩
  · refine E.seq ?_
    refine E.region ?_
    refine X.eql rfl rfl rfl rfl rfl rfl ?_
    refine X.asg rfl rfl rfl rfl rfl ?_
    refine X.done [(0, _), (2, _), (3, _), (4, _), (7, _)] ⟨rfl, rfl, rfl, rfl, rfl, trivial⟩ ?_
    refine N.then ?_
    refine E.condD rfl (fun hc => ?_) (fun hc => ?_)
    · refine E.seq ?_
      refine E.region ?_
      refine X.asg rfl rfl rfl rfl rfl ?_
      refine X.asg rfl rfl rfl rfl rfl ?_
      refine X.done [(0, _), (2, _), (3, _)] ⟨rfl, rfl, rfl, trivial⟩ ?_
      refine N.then ?_
      refine E.ret ?_
      refine N.blkR ?_
      refine N.thenR ?_
      exact N.retH [_, _] ⟨_, _, rfl, rfl, _, _, rfl, rfl, rfl⟩ ⟨by unfold nmd; rw [if_neg (by omega), if_pos (by omega)]; rfl, rfl⟩
    · refine E.seq ?_
      refine E.region ?_
      refine X.eql rfl rfl rfl rfl rfl rfl ?_
      refine X.asg rfl rfl rfl rfl rfl ?_
      refine X.done [(0, _), (2, _), (3, _), (9, _)] ⟨rfl, rfl, rfl, rfl, trivial⟩ ?_
      refine N.then ?_
      refine E.condD rfl (fun hc => ?_) (fun hc => ?_)
      · refine E.seq ?_
        refine E.region ?_
        refine X.asg rfl rfl rfl rfl rfl ?_
        refine X.asg rfl rfl rfl rfl rfl ?_
        refine X.done [(0, _), (2, _), (3, _)] ⟨rfl, rfl, rfl, trivial⟩ ?_
        refine N.then ?_
        refine E.ret ?_
        refine N.blkR ?_
        refine N.thenR ?_
        exact N.retH [_, _] ⟨_, _, rfl, rfl, _, _, rfl, rfl, rfl⟩ ⟨by unfold nmd; rw [if_neg (by omega), if_neg (by omega), if_pos (by omega)]; rfl, rfl⟩
      · refine E.skip ?_
        refine N.blk ?_
        refine N.then ?_
        refine E.seq ?_
        refine E.region ?_
        refine X.mv rfl rfl rfl rfl rfl ?_
        refine X.mv rfl rfl rfl rfl rfl ?_
        refine X.call rfl rfl rfl rfl rfl Tryd.cl61 (within_ct marks c H hc8 (by decide)) ?_
        rintro _ Hx ⟨rfl, e⟩
        obtain rfl := e.symm
        refine X.asg rfl rfl rfl rfl rfl ?_
        refine X.asg rfl rfl rfl rfl rfl ?_
        refine X.done [(2, _), (3, _)] ⟨rfl, rfl, trivial⟩ ?_
        refine N.then ?_
        refine E.ret ?_
        exact N.retH [_, _] ⟨_, _, rfl, rfl, _, _, rfl, rfl, rfl⟩ ⟨by unfold nmd; rw [if_neg (by omega), if_neg (by omega), if_neg (by omega)]; rfl, rfl⟩

theorem times_ct (s : Bs) (p : Nat) (st : St) (H : Heap) (hP0 : PH p s st H) (hs : s.length ≤ 1000) (hok : (nx s st).2 = true) : Ct Tryd.prog 58 #[ptr p] H fun v H' => v = ndv (tms s st).1 ∧ PH p s (tms s st).2 H' ∧ Kp [p] H H' := by
  have hlt := (nx_ok hok).2
  have hps := lt_of hP0
  refine Ct.into 52 Tryd.func58 rfl [(0, ptr p)] rfl ⟨rfl, trivial⟩ ?_
  refine E.seq ?_
  refine E.region ?_
  refine X.alloc (z := .agg ([.int .i64 0, .int .i64 0, .int .u64 0, .int .u64 0, .int .u64 0, .int .u64 0, .int .i64 0, .int .i64 0] : List Value).toArray) (cs := [.int .i64 0, .int .i64 0, .int .u64 0, .int .u64 0, .int .u64 0, .int .u64 0, .int .i64 0, .int .i64 0]) rfl rfl rfl rfl (by kernel_rfl) rfl ?_
  intro b2 H1 hn1 hb2 hk1
  have hP := hk1.keep hP0 (by simp)
  have hne : b2 ≠ p := by omega
  have hkk : Kp [p] H H1 := hk1.mono (by simp)
  refine X.done [(0, _), (2, _)] ⟨rfl, rfl, trivial⟩ ?_
  refine N.then ?_
  refine E.seq ?_
  refine E.region ?_
  refine X.mv rfl rfl rfl rfl rfl ?_
  refine X.nilP rfl rfl rfl rfl rfl ?_
  refine X.fld rfl rfl rfl rfl rfl Tryd.off47_1 ?_
  refine X.ld rfl rfl rfl rfl Tryd.ag3 (hP) (rfl) ?_
  refine X.asg rfl rfl rfl rfl rfl ?_
  refine X.done [(0, _), (2, _), (3, _)] ⟨rfl, rfl, rfl, trivial⟩ ?_
  refine N.then ?_
  refine E.seq ?_
  refine E.region ?_
  refine X.mv rfl rfl rfl rfl rfl ?_
  refine X.nilP rfl rfl rfl rfl rfl ?_
  refine X.fld rfl rfl rfl rfl rfl Tryd.off47_1 ?_
  refine X.ld rfl rfl rfl rfl Tryd.ag3 (hP) (rfl) ?_
  refine X.addE (zz := ((st.at_ + 1 : Nat) : Int)) rfl rfl rfl rfl rfl rfl (by rw [IntWalk.i64_in _ (by omega)] <;> omega) ?_
  refine X.nilP rfl rfl rfl rfl rfl ?_
  refine X.fld rfl rfl rfl rfl rfl Tryd.off47_1 ?_
  refine X.st rfl rfl rfl rfl rfl rfl rfl Tryd.sz3 hP (by show 1 < 4; omega) ?_
  intro H2 h2 hk2
  replace hP : PH p s (adv st) H2 := h2
  replace hb2 := hk2.keep hb2 (by simp; exact hne)
  replace hkk := hkk.trans hk2 (by simp)
  refine X.done [(0, _), (2, _), (3, _)] ⟨rfl, rfl, rfl, trivial⟩ ?_
  refine N.then ?_
  refine E.seq ?_
  refine E.region ?_
  refine X.mv rfl rfl rfl rfl rfl ?_
  refine X.call rfl rfl rfl rfl rfl Tryd.cl64 (number2_ct s p (adv st) H2 hP hs hlt) ?_
  rintro _ H3 ⟨low, st2, e2, rfl, hPn, hk3, hl0, hl1, hat2⟩
  replace hP := hPn
  replace hb2 := hk3.keep hb2 (by simp; exact hne)
  replace hkk := hkk.trans hk3 (by simp)
  refine X.asg rfl rfl rfl rfl rfl ?_
  refine X.done [(0, _), (2, _), (3, _), (4, _)] ⟨rfl, rfl, rfl, rfl, trivial⟩ ?_
  refine N.then ?_
  refine E.seq ?_
  refine E.region ?_
  refine X.mv rfl rfl rfl rfl rfl ?_
  refine X.asg rfl rfl rfl rfl rfl ?_
  refine X.done [(0, _), (2, _), (3, _), (4, _), (5, _)] ⟨rfl, rfl, rfl, rfl, rfl, trivial⟩ ?_
  refine N.then ?_
  refine E.seq ?_
  refine E.seq ?_
  refine E.region ?_
  refine X.mv rfl rfl rfl rfl rfl ?_
  refine X.call rfl rfl rfl rfl rfl Tryd.cl35 (take2_ct s p 44 st2 _ hP hs) ?_
  rintro _ H4 hq
  rcases hq with ⟨rfl, ht, hPn, hk4⟩ | ⟨rfl, hf, hPn, hk4⟩
  · replace hP := hPn
    replace hb2 := hk4.keep hb2 (by simp; exact hne)
    replace hkk := hkk.trans hk4 (by simp)
    refine X.done [(0, _), (2, _), (3, _), (4, _), (5, _), (23, _)] ⟨rfl, rfl, rfl, rfl, rfl, rfl, trivial⟩ ?_
    refine N.then ?_
    refine E.condT rfl ?_
    refine E.seq ?_
    refine E.region ?_
    refine X.mv rfl rfl rfl rfl rfl ?_
    refine X.call rfl rfl rfl rfl rfl Tryd.cl23 (next2_ct s p _ _ hP) ?_
    rintro _ Hx ⟨c, bq, ec, hc8, _, rfl, e⟩
    obtain rfl := e.symm
    refine X.mv rfl rfl rfl rfl rfl ?_
    refine X.extract rfl rfl rfl rfl rfl rfl ?_
    refine X.extract rfl rfl rfl rfl rfl rfl ?_
    refine X.asg rfl rfl rfl rfl rfl ?_
    refine X.asg rfl rfl rfl rfl rfl ?_
    refine X.done [(0, _), (2, _), (3, _), (4, _), (5, _), (6, _)] ⟨rfl, rfl, rfl, rfl, rfl, rfl, trivial⟩ ?_
    refine N.then ?_
    refine E.seq ?_
    refine E.region ?_
    refine X.mv rfl rfl rfl rfl rfl ?_
    refine X.eql rfl rfl rfl rfl rfl rfl ?_
    refine X.done [(0, _), (2, _), (3, _), (4, _), (5, _), (30, _)] ⟨rfl, rfl, rfl, rfl, rfl, rfl, trivial⟩ ?_
    refine N.then ?_
    refine E.condD rfl (fun hc => ?_) (fun hc => ?_)
    · refine E.region ?_
      refine X.asg rfl rfl rfl rfl rfl ?_
      refine X.done [(0, _), (2, _), (3, _), (4, _), (5, _)] ⟨rfl, rfl, rfl, rfl, rfl, trivial⟩ ?_
      refine N.then ?_
      refine E.seq ?_
      refine E.seq ?_
      first
        | have e4 := hiP_c (low := low) hf
        | have e4 := hiP_a (low := low) ht (by rw [ec]; omega)
        | (have e4 := hiP_b (low := low) ht (by rw [ec]; omega); rw [e5] at e4)
      refine E.region ?_
      refine X.mv rfl rfl rfl rfl rfl ?_
      refine X.call rfl rfl rfl rfl rfl Tryd.cl35 (take2_ct s p 125 _ _ hP hs) ?_
      rintro _ H7 hq
      rcases hq with ⟨rfl, ht2, hPn, hk7⟩ | ⟨rfl, hf2, hPn, hk7⟩
      · replace hP := hPn
        replace hb2 := hk7.keep hb2 (by simp; exact hne)
        replace hkk := hkk.trans hk7 (by simp)
        refine X.notT rfl rfl rfl rfl rfl ?_
        refine X.done [(0, _), (2, _), (3, _), (4, _), (5, _), (35, _)] ⟨rfl, rfl, rfl, rfl, rfl, rfl, trivial⟩ ?_
        refine N.then ?_
        refine E.condF rfl ?_
        refine E.skip ?_
        refine N.then ?_
        refine E.seq ?_
        refine E.seq ?_
        first
          | have e6 := fun (a : Int) => clP_t (e := 15) (a := a) ht2
          | have e6 := fun (a : Int) => clP_f (e := 15) (a := a) hf2
        refine E.region ?_
        refine X.mv rfl rfl rfl rfl rfl ?_
        refine X.mv rfl rfl rfl rfl rfl ?_
        refine X.call rfl rfl rfl rfl rfl Tryd.cl27 (counts2_ct _ _ _) ?_
        rintro _ Hx ⟨b, hcb, rfl, e⟩
        obtain rfl := e.symm
        cases b
        · refine X.notF rfl rfl rfl rfl rfl ?_
          refine X.done [(0, _), (2, _), (3, _), (4, _), (5, _), (45, _)] ⟨rfl, rfl, rfl, rfl, rfl, rfl, trivial⟩ ?_
          refine N.then ?_
          refine E.condT rfl ?_
          refine E.region ?_
          refine X.mv rfl rfl rfl rfl rfl ?_
          refine X.mv rfl rfl rfl rfl rfl ?_
          refine X.call rfl rfl rfl rfl rfl Tryd.cl24 (fail_ct s p _ 18 _ _ hP) ?_
          rintro _ H9 ⟨rfl, hPn, hk9⟩
          replace hP := hPn
          replace hb2 := hk9.keep hb2 (by simp; exact hne)
          replace hkk := hkk.trans hk9 (by simp)
          refine X.done [(2, _), (4, _), (5, _)] ⟨rfl, rfl, rfl, trivial⟩ ?_
          refine N.then ?_
          refine E.seq ?_
          refine E.region ?_
          refine X.mv rfl rfl rfl rfl rfl ?_
          refine X.mv rfl rfl rfl rfl rfl ?_
          refine X.build rfl rfl rfl rfl rfl (build_rep _ _) ?_
          refine X.stA rfl rfl rfl rfl rfl rfl (ncel_one _) Tryd.sz38 hb2 (by show 0 + 8 ≤ 8; omega) ?_
          intro H9 hb9 hk9
          rw [splice_all (by rfl)] at hb9
          replace hP := hk9.keep hP (by simp; exact fun h => hne h.symm)
          replace hkk := hkk.trans hk9 (by simp; omega)
          refine X.done [(2, _)] ⟨rfl, trivial⟩ ?_
          refine N.then ?_
          refine E.ret ?_
          rw [tmsE e2 e4 (e6 _) hcb]
          exact N.retH [_] ⟨_, _, _, 0, rfl, rfl, loadsA Tryd.ag38 Tryd.sz38 hb9 (ncel_len _) zoff, rfl⟩ ⟨rfl, hP, hkk⟩
        · refine X.notT rfl rfl rfl rfl rfl ?_
          refine X.done [(0, _), (2, _), (3, _), (4, _), (5, _), (45, _)] ⟨rfl, rfl, rfl, rfl, rfl, rfl, trivial⟩ ?_
          refine N.then ?_
          refine E.condF rfl ?_
          refine E.skip ?_
          refine N.then ?_
          refine E.seq ?_
          refine E.region ?_
          refine X.mv rfl rfl rfl rfl rfl ?_
          refine X.mv rfl rfl rfl rfl rfl ?_
          refine X.build rfl rfl rfl rfl rfl (build_rep _ _) ?_
          refine X.stA rfl rfl rfl rfl rfl rfl (ncel_one _) Tryd.sz38 hb2 (by show 0 + 8 ≤ 8; omega) ?_
          intro H9 hb9 hk9
          rw [splice_all (by rfl)] at hb9
          replace hP := hk9.keep hP (by simp; exact fun h => hne h.symm)
          replace hkk := hkk.trans hk9 (by simp; omega)
          refine X.done [(2, _)] ⟨rfl, trivial⟩ ?_
          refine N.then ?_
          refine E.ret ?_
          rw [tmsE e2 e4 (e6 _) hcb]
          exact N.retH [_] ⟨_, _, _, 0, rfl, rfl, loadsA Tryd.ag38 Tryd.sz38 hb9 (ncel_len _) zoff, rfl⟩ ⟨rfl, hP, hkk⟩
      · replace hP := hPn
        replace hb2 := hk7.keep hb2 (by simp; exact hne)
        replace hkk := hkk.trans hk7 (by simp)
        refine X.notF rfl rfl rfl rfl rfl ?_
        refine X.done [(0, _), (2, _), (3, _), (4, _), (5, _), (35, _)] ⟨rfl, rfl, rfl, rfl, rfl, rfl, trivial⟩ ?_
        refine N.then ?_
        refine E.condT rfl ?_
        refine E.region ?_
        refine X.mv rfl rfl rfl rfl rfl ?_
        refine X.mv rfl rfl rfl rfl rfl ?_
        refine X.nilP rfl rfl rfl rfl rfl ?_
        refine X.fld rfl rfl rfl rfl rfl Tryd.off47_1 ?_
        refine X.ld rfl rfl rfl rfl Tryd.ag3 (hP) (rfl) ?_
        refine X.call rfl rfl rfl rfl rfl Tryd.cl24 (fail_ct s p _ 15 _ _ hP) ?_
        rintro _ H8 ⟨rfl, hPn, hk8⟩
        replace hP := hPn
        replace hb2 := hk8.keep hb2 (by simp; exact hne)
        replace hkk := hkk.trans hk8 (by simp)
        refine X.done [(0, _), (2, _), (3, _), (4, _), (5, _)] ⟨rfl, rfl, rfl, rfl, rfl, trivial⟩ ?_
        refine N.then ?_
        refine E.seq ?_
        refine E.seq ?_
        first
          | have e6 := fun (a : Int) => clP_t (e := 15) (a := a) ht2
          | have e6 := fun (a : Int) => clP_f (e := 15) (a := a) hf2
        refine E.region ?_
        refine X.mv rfl rfl rfl rfl rfl ?_
        refine X.mv rfl rfl rfl rfl rfl ?_
        refine X.call rfl rfl rfl rfl rfl Tryd.cl27 (counts2_ct _ _ _) ?_
        rintro _ Hx ⟨b, hcb, rfl, e⟩
        obtain rfl := e.symm
        cases b
        · refine X.notF rfl rfl rfl rfl rfl ?_
          refine X.done [(0, _), (2, _), (3, _), (4, _), (5, _), (45, _)] ⟨rfl, rfl, rfl, rfl, rfl, rfl, trivial⟩ ?_
          refine N.then ?_
          refine E.condT rfl ?_
          refine E.region ?_
          refine X.mv rfl rfl rfl rfl rfl ?_
          refine X.mv rfl rfl rfl rfl rfl ?_
          refine X.call rfl rfl rfl rfl rfl Tryd.cl24 (fail_ct s p _ 18 _ _ hP) ?_
          rintro _ H9 ⟨rfl, hPn, hk9⟩
          replace hP := hPn
          replace hb2 := hk9.keep hb2 (by simp; exact hne)
          replace hkk := hkk.trans hk9 (by simp)
          refine X.done [(2, _), (4, _), (5, _)] ⟨rfl, rfl, rfl, trivial⟩ ?_
          refine N.then ?_
          refine E.seq ?_
          refine E.region ?_
          refine X.mv rfl rfl rfl rfl rfl ?_
          refine X.mv rfl rfl rfl rfl rfl ?_
          refine X.build rfl rfl rfl rfl rfl (build_rep _ _) ?_
          refine X.stA rfl rfl rfl rfl rfl rfl (ncel_one _) Tryd.sz38 hb2 (by show 0 + 8 ≤ 8; omega) ?_
          intro H9 hb9 hk9
          rw [splice_all (by rfl)] at hb9
          replace hP := hk9.keep hP (by simp; exact fun h => hne h.symm)
          replace hkk := hkk.trans hk9 (by simp; omega)
          refine X.done [(2, _)] ⟨rfl, trivial⟩ ?_
          refine N.then ?_
          refine E.ret ?_
          rw [tmsE e2 e4 (e6 _) hcb]
          exact N.retH [_] ⟨_, _, _, 0, rfl, rfl, loadsA Tryd.ag38 Tryd.sz38 hb9 (ncel_len _) zoff, rfl⟩ ⟨rfl, hP, hkk⟩
        · refine X.notT rfl rfl rfl rfl rfl ?_
          refine X.done [(0, _), (2, _), (3, _), (4, _), (5, _), (45, _)] ⟨rfl, rfl, rfl, rfl, rfl, rfl, trivial⟩ ?_
          refine N.then ?_
          refine E.condF rfl ?_
          refine E.skip ?_
          refine N.then ?_
          refine E.seq ?_
          refine E.region ?_
          refine X.mv rfl rfl rfl rfl rfl ?_
          refine X.mv rfl rfl rfl rfl rfl ?_
          refine X.build rfl rfl rfl rfl rfl (build_rep _ _) ?_
          refine X.stA rfl rfl rfl rfl rfl rfl (ncel_one _) Tryd.sz38 hb2 (by show 0 + 8 ≤ 8; omega) ?_
          intro H9 hb9 hk9
          rw [splice_all (by rfl)] at hb9
          replace hP := hk9.keep hP (by simp; exact fun h => hne h.symm)
          replace hkk := hkk.trans hk9 (by simp; omega)
          refine X.done [(2, _)] ⟨rfl, trivial⟩ ?_
          refine N.then ?_
          refine E.ret ?_
          rw [tmsE e2 e4 (e6 _) hcb]
          exact N.retH [_] ⟨_, _, _, 0, rfl, rfl, loadsA Tryd.ag38 Tryd.sz38 hb9 (ncel_len _) zoff, rfl⟩ ⟨rfl, hP, hkk⟩
    · refine E.region ?_
      refine X.mv rfl rfl rfl rfl rfl ?_
      refine X.call rfl rfl rfl rfl rfl Tryd.cl64 (number2_ct s p _ _ hP hs (by have := (sq_tk ht).len; rw [(tk_yes ht).2] at this; exact this)) ?_
      rintro _ H6 ⟨hi, st4, e5, rfl, hPn, hk6, hh0, hh1, hat4⟩
      replace hP := hPn
      replace hb2 := hk6.keep hb2 (by simp; exact hne)
      replace hkk := hkk.trans hk6 (by simp)
      refine X.asg rfl rfl rfl rfl rfl ?_
      refine X.done [(0, _), (2, _), (3, _), (4, _), (5, _)] ⟨rfl, rfl, rfl, rfl, rfl, trivial⟩ ?_
      refine N.then ?_
      refine E.seq ?_
      refine E.seq ?_
      first
        | have e4 := hiP_c (low := low) hf
        | have e4 := hiP_a (low := low) ht (by rw [ec]; omega)
        | (have e4 := hiP_b (low := low) ht (by rw [ec]; omega); rw [e5] at e4)
      refine E.region ?_
      refine X.mv rfl rfl rfl rfl rfl ?_
      refine X.call rfl rfl rfl rfl rfl Tryd.cl35 (take2_ct s p 125 _ _ hP hs) ?_
      rintro _ H7 hq
      rcases hq with ⟨rfl, ht2, hPn, hk7⟩ | ⟨rfl, hf2, hPn, hk7⟩
      · replace hP := hPn
        replace hb2 := hk7.keep hb2 (by simp; exact hne)
        replace hkk := hkk.trans hk7 (by simp)
        refine X.notT rfl rfl rfl rfl rfl ?_
        refine X.done [(0, _), (2, _), (3, _), (4, _), (5, _), (35, _)] ⟨rfl, rfl, rfl, rfl, rfl, rfl, trivial⟩ ?_
        refine N.then ?_
        refine E.condF rfl ?_
        refine E.skip ?_
        refine N.then ?_
        refine E.seq ?_
        refine E.seq ?_
        first
          | have e6 := fun (a : Int) => clP_t (e := 15) (a := a) ht2
          | have e6 := fun (a : Int) => clP_f (e := 15) (a := a) hf2
        refine E.region ?_
        refine X.mv rfl rfl rfl rfl rfl ?_
        refine X.mv rfl rfl rfl rfl rfl ?_
        refine X.call rfl rfl rfl rfl rfl Tryd.cl27 (counts2_ct _ _ _) ?_
        rintro _ Hx ⟨b, hcb, rfl, e⟩
        obtain rfl := e.symm
        cases b
        · refine X.notF rfl rfl rfl rfl rfl ?_
          refine X.done [(0, _), (2, _), (3, _), (4, _), (5, _), (45, _)] ⟨rfl, rfl, rfl, rfl, rfl, rfl, trivial⟩ ?_
          refine N.then ?_
          refine E.condT rfl ?_
          refine E.region ?_
          refine X.mv rfl rfl rfl rfl rfl ?_
          refine X.mv rfl rfl rfl rfl rfl ?_
          refine X.call rfl rfl rfl rfl rfl Tryd.cl24 (fail_ct s p _ 18 _ _ hP) ?_
          rintro _ H9 ⟨rfl, hPn, hk9⟩
          replace hP := hPn
          replace hb2 := hk9.keep hb2 (by simp; exact hne)
          replace hkk := hkk.trans hk9 (by simp)
          refine X.done [(2, _), (4, _), (5, _)] ⟨rfl, rfl, rfl, trivial⟩ ?_
          refine N.then ?_
          refine E.seq ?_
          refine E.region ?_
          refine X.mv rfl rfl rfl rfl rfl ?_
          refine X.mv rfl rfl rfl rfl rfl ?_
          refine X.build rfl rfl rfl rfl rfl (build_rep _ _) ?_
          refine X.stA rfl rfl rfl rfl rfl rfl (ncel_one _) Tryd.sz38 hb2 (by show 0 + 8 ≤ 8; omega) ?_
          intro H9 hb9 hk9
          rw [splice_all (by rfl)] at hb9
          replace hP := hk9.keep hP (by simp; exact fun h => hne h.symm)
          replace hkk := hkk.trans hk9 (by simp; omega)
          refine X.done [(2, _)] ⟨rfl, trivial⟩ ?_
          refine N.then ?_
          refine E.ret ?_
          rw [tmsE e2 e4 (e6 _) hcb]
          exact N.retH [_] ⟨_, _, _, 0, rfl, rfl, loadsA Tryd.ag38 Tryd.sz38 hb9 (ncel_len _) zoff, rfl⟩ ⟨rfl, hP, hkk⟩
        · refine X.notT rfl rfl rfl rfl rfl ?_
          refine X.done [(0, _), (2, _), (3, _), (4, _), (5, _), (45, _)] ⟨rfl, rfl, rfl, rfl, rfl, rfl, trivial⟩ ?_
          refine N.then ?_
          refine E.condF rfl ?_
          refine E.skip ?_
          refine N.then ?_
          refine E.seq ?_
          refine E.region ?_
          refine X.mv rfl rfl rfl rfl rfl ?_
          refine X.mv rfl rfl rfl rfl rfl ?_
          refine X.build rfl rfl rfl rfl rfl (build_rep _ _) ?_
          refine X.stA rfl rfl rfl rfl rfl rfl (ncel_one _) Tryd.sz38 hb2 (by show 0 + 8 ≤ 8; omega) ?_
          intro H9 hb9 hk9
          rw [splice_all (by rfl)] at hb9
          replace hP := hk9.keep hP (by simp; exact fun h => hne h.symm)
          replace hkk := hkk.trans hk9 (by simp; omega)
          refine X.done [(2, _)] ⟨rfl, trivial⟩ ?_
          refine N.then ?_
          refine E.ret ?_
          rw [tmsE e2 e4 (e6 _) hcb]
          exact N.retH [_] ⟨_, _, _, 0, rfl, rfl, loadsA Tryd.ag38 Tryd.sz38 hb9 (ncel_len _) zoff, rfl⟩ ⟨rfl, hP, hkk⟩
      · replace hP := hPn
        replace hb2 := hk7.keep hb2 (by simp; exact hne)
        replace hkk := hkk.trans hk7 (by simp)
        refine X.notF rfl rfl rfl rfl rfl ?_
        refine X.done [(0, _), (2, _), (3, _), (4, _), (5, _), (35, _)] ⟨rfl, rfl, rfl, rfl, rfl, rfl, trivial⟩ ?_
        refine N.then ?_
        refine E.condT rfl ?_
        refine E.region ?_
        refine X.mv rfl rfl rfl rfl rfl ?_
        refine X.mv rfl rfl rfl rfl rfl ?_
        refine X.nilP rfl rfl rfl rfl rfl ?_
        refine X.fld rfl rfl rfl rfl rfl Tryd.off47_1 ?_
        refine X.ld rfl rfl rfl rfl Tryd.ag3 (hP) (rfl) ?_
        refine X.call rfl rfl rfl rfl rfl Tryd.cl24 (fail_ct s p _ 15 _ _ hP) ?_
        rintro _ H8 ⟨rfl, hPn, hk8⟩
        replace hP := hPn
        replace hb2 := hk8.keep hb2 (by simp; exact hne)
        replace hkk := hkk.trans hk8 (by simp)
        refine X.done [(0, _), (2, _), (3, _), (4, _), (5, _)] ⟨rfl, rfl, rfl, rfl, rfl, trivial⟩ ?_
        refine N.then ?_
        refine E.seq ?_
        refine E.seq ?_
        first
          | have e6 := fun (a : Int) => clP_t (e := 15) (a := a) ht2
          | have e6 := fun (a : Int) => clP_f (e := 15) (a := a) hf2
        refine E.region ?_
        refine X.mv rfl rfl rfl rfl rfl ?_
        refine X.mv rfl rfl rfl rfl rfl ?_
        refine X.call rfl rfl rfl rfl rfl Tryd.cl27 (counts2_ct _ _ _) ?_
        rintro _ Hx ⟨b, hcb, rfl, e⟩
        obtain rfl := e.symm
        cases b
        · refine X.notF rfl rfl rfl rfl rfl ?_
          refine X.done [(0, _), (2, _), (3, _), (4, _), (5, _), (45, _)] ⟨rfl, rfl, rfl, rfl, rfl, rfl, trivial⟩ ?_
          refine N.then ?_
          refine E.condT rfl ?_
          refine E.region ?_
          refine X.mv rfl rfl rfl rfl rfl ?_
          refine X.mv rfl rfl rfl rfl rfl ?_
          refine X.call rfl rfl rfl rfl rfl Tryd.cl24 (fail_ct s p _ 18 _ _ hP) ?_
          rintro _ H9 ⟨rfl, hPn, hk9⟩
          replace hP := hPn
          replace hb2 := hk9.keep hb2 (by simp; exact hne)
          replace hkk := hkk.trans hk9 (by simp)
          refine X.done [(2, _), (4, _), (5, _)] ⟨rfl, rfl, rfl, trivial⟩ ?_
          refine N.then ?_
          refine E.seq ?_
          refine E.region ?_
          refine X.mv rfl rfl rfl rfl rfl ?_
          refine X.mv rfl rfl rfl rfl rfl ?_
          refine X.build rfl rfl rfl rfl rfl (build_rep _ _) ?_
          refine X.stA rfl rfl rfl rfl rfl rfl (ncel_one _) Tryd.sz38 hb2 (by show 0 + 8 ≤ 8; omega) ?_
          intro H9 hb9 hk9
          rw [splice_all (by rfl)] at hb9
          replace hP := hk9.keep hP (by simp; exact fun h => hne h.symm)
          replace hkk := hkk.trans hk9 (by simp; omega)
          refine X.done [(2, _)] ⟨rfl, trivial⟩ ?_
          refine N.then ?_
          refine E.ret ?_
          rw [tmsE e2 e4 (e6 _) hcb]
          exact N.retH [_] ⟨_, _, _, 0, rfl, rfl, loadsA Tryd.ag38 Tryd.sz38 hb9 (ncel_len _) zoff, rfl⟩ ⟨rfl, hP, hkk⟩
        · refine X.notT rfl rfl rfl rfl rfl ?_
          refine X.done [(0, _), (2, _), (3, _), (4, _), (5, _), (45, _)] ⟨rfl, rfl, rfl, rfl, rfl, rfl, trivial⟩ ?_
          refine N.then ?_
          refine E.condF rfl ?_
          refine E.skip ?_
          refine N.then ?_
          refine E.seq ?_
          refine E.region ?_
          refine X.mv rfl rfl rfl rfl rfl ?_
          refine X.mv rfl rfl rfl rfl rfl ?_
          refine X.build rfl rfl rfl rfl rfl (build_rep _ _) ?_
          refine X.stA rfl rfl rfl rfl rfl rfl (ncel_one _) Tryd.sz38 hb2 (by show 0 + 8 ≤ 8; omega) ?_
          intro H9 hb9 hk9
          rw [splice_all (by rfl)] at hb9
          replace hP := hk9.keep hP (by simp; exact fun h => hne h.symm)
          replace hkk := hkk.trans hk9 (by simp; omega)
          refine X.done [(2, _)] ⟨rfl, trivial⟩ ?_
          refine N.then ?_
          refine E.ret ?_
          rw [tmsE e2 e4 (e6 _) hcb]
          exact N.retH [_] ⟨_, _, _, 0, rfl, rfl, loadsA Tryd.ag38 Tryd.sz38 hb9 (ncel_len _) zoff, rfl⟩ ⟨rfl, hP, hkk⟩
  · replace hP := hPn
    replace hb2 := hk4.keep hb2 (by simp; exact hne)
    replace hkk := hkk.trans hk4 (by simp)
    refine X.done [(0, _), (2, _), (3, _), (4, _), (5, _), (23, _)] ⟨rfl, rfl, rfl, rfl, rfl, rfl, trivial⟩ ?_
    refine N.then ?_
    refine E.condF rfl ?_
    refine E.skip ?_
    refine N.then ?_
    refine E.seq ?_
    refine E.seq ?_
    first
      | have e4 := hiP_c (low := low) hf
      | have e4 := hiP_a (low := low) ht (by rw [ec]; omega)
      | (have e4 := hiP_b (low := low) ht (by rw [ec]; omega); rw [e5] at e4)
    refine E.region ?_
    refine X.mv rfl rfl rfl rfl rfl ?_
    refine X.call rfl rfl rfl rfl rfl Tryd.cl35 (take2_ct s p 125 _ _ hP hs) ?_
    rintro _ H7 hq
    rcases hq with ⟨rfl, ht2, hPn, hk7⟩ | ⟨rfl, hf2, hPn, hk7⟩
    · replace hP := hPn
      replace hb2 := hk7.keep hb2 (by simp; exact hne)
      replace hkk := hkk.trans hk7 (by simp)
      refine X.notT rfl rfl rfl rfl rfl ?_
      refine X.done [(0, _), (2, _), (3, _), (4, _), (5, _), (35, _)] ⟨rfl, rfl, rfl, rfl, rfl, rfl, trivial⟩ ?_
      refine N.then ?_
      refine E.condF rfl ?_
      refine E.skip ?_
      refine N.then ?_
      refine E.seq ?_
      refine E.seq ?_
      first
        | have e6 := fun (a : Int) => clP_t (e := 15) (a := a) ht2
        | have e6 := fun (a : Int) => clP_f (e := 15) (a := a) hf2
      refine E.region ?_
      refine X.mv rfl rfl rfl rfl rfl ?_
      refine X.mv rfl rfl rfl rfl rfl ?_
      refine X.call rfl rfl rfl rfl rfl Tryd.cl27 (counts2_ct _ _ _) ?_
      rintro _ Hx ⟨b, hcb, rfl, e⟩
      obtain rfl := e.symm
      cases b
      · refine X.notF rfl rfl rfl rfl rfl ?_
        refine X.done [(0, _), (2, _), (3, _), (4, _), (5, _), (45, _)] ⟨rfl, rfl, rfl, rfl, rfl, rfl, trivial⟩ ?_
        refine N.then ?_
        refine E.condT rfl ?_
        refine E.region ?_
        refine X.mv rfl rfl rfl rfl rfl ?_
        refine X.mv rfl rfl rfl rfl rfl ?_
        refine X.call rfl rfl rfl rfl rfl Tryd.cl24 (fail_ct s p _ 18 _ _ hP) ?_
        rintro _ H9 ⟨rfl, hPn, hk9⟩
        replace hP := hPn
        replace hb2 := hk9.keep hb2 (by simp; exact hne)
        replace hkk := hkk.trans hk9 (by simp)
        refine X.done [(2, _), (4, _), (5, _)] ⟨rfl, rfl, rfl, trivial⟩ ?_
        refine N.then ?_
        refine E.seq ?_
        refine E.region ?_
        refine X.mv rfl rfl rfl rfl rfl ?_
        refine X.mv rfl rfl rfl rfl rfl ?_
        refine X.build rfl rfl rfl rfl rfl (build_rep _ _) ?_
        refine X.stA rfl rfl rfl rfl rfl rfl (ncel_one _) Tryd.sz38 hb2 (by show 0 + 8 ≤ 8; omega) ?_
        intro H9 hb9 hk9
        rw [splice_all (by rfl)] at hb9
        replace hP := hk9.keep hP (by simp; exact fun h => hne h.symm)
        replace hkk := hkk.trans hk9 (by simp; omega)
        refine X.done [(2, _)] ⟨rfl, trivial⟩ ?_
        refine N.then ?_
        refine E.ret ?_
        rw [tmsE e2 e4 (e6 _) hcb]
        exact N.retH [_] ⟨_, _, _, 0, rfl, rfl, loadsA Tryd.ag38 Tryd.sz38 hb9 (ncel_len _) zoff, rfl⟩ ⟨rfl, hP, hkk⟩
      · refine X.notT rfl rfl rfl rfl rfl ?_
        refine X.done [(0, _), (2, _), (3, _), (4, _), (5, _), (45, _)] ⟨rfl, rfl, rfl, rfl, rfl, rfl, trivial⟩ ?_
        refine N.then ?_
        refine E.condF rfl ?_
        refine E.skip ?_
        refine N.then ?_
        refine E.seq ?_
        refine E.region ?_
        refine X.mv rfl rfl rfl rfl rfl ?_
        refine X.mv rfl rfl rfl rfl rfl ?_
        refine X.build rfl rfl rfl rfl rfl (build_rep _ _) ?_
        refine X.stA rfl rfl rfl rfl rfl rfl (ncel_one _) Tryd.sz38 hb2 (by show 0 + 8 ≤ 8; omega) ?_
        intro H9 hb9 hk9
        rw [splice_all (by rfl)] at hb9
        replace hP := hk9.keep hP (by simp; exact fun h => hne h.symm)
        replace hkk := hkk.trans hk9 (by simp; omega)
        refine X.done [(2, _)] ⟨rfl, trivial⟩ ?_
        refine N.then ?_
        refine E.ret ?_
        rw [tmsE e2 e4 (e6 _) hcb]
        exact N.retH [_] ⟨_, _, _, 0, rfl, rfl, loadsA Tryd.ag38 Tryd.sz38 hb9 (ncel_len _) zoff, rfl⟩ ⟨rfl, hP, hkk⟩
    · replace hP := hPn
      replace hb2 := hk7.keep hb2 (by simp; exact hne)
      replace hkk := hkk.trans hk7 (by simp)
      refine X.notF rfl rfl rfl rfl rfl ?_
      refine X.done [(0, _), (2, _), (3, _), (4, _), (5, _), (35, _)] ⟨rfl, rfl, rfl, rfl, rfl, rfl, trivial⟩ ?_
      refine N.then ?_
      refine E.condT rfl ?_
      refine E.region ?_
      refine X.mv rfl rfl rfl rfl rfl ?_
      refine X.mv rfl rfl rfl rfl rfl ?_
      refine X.nilP rfl rfl rfl rfl rfl ?_
      refine X.fld rfl rfl rfl rfl rfl Tryd.off47_1 ?_
      refine X.ld rfl rfl rfl rfl Tryd.ag3 (hP) (rfl) ?_
      refine X.call rfl rfl rfl rfl rfl Tryd.cl24 (fail_ct s p _ 15 _ _ hP) ?_
      rintro _ H8 ⟨rfl, hPn, hk8⟩
      replace hP := hPn
      replace hb2 := hk8.keep hb2 (by simp; exact hne)
      replace hkk := hkk.trans hk8 (by simp)
      refine X.done [(0, _), (2, _), (3, _), (4, _), (5, _)] ⟨rfl, rfl, rfl, rfl, rfl, trivial⟩ ?_
      refine N.then ?_
      refine E.seq ?_
      refine E.seq ?_
      first
        | have e6 := fun (a : Int) => clP_t (e := 15) (a := a) ht2
        | have e6 := fun (a : Int) => clP_f (e := 15) (a := a) hf2
      refine E.region ?_
      refine X.mv rfl rfl rfl rfl rfl ?_
      refine X.mv rfl rfl rfl rfl rfl ?_
      refine X.call rfl rfl rfl rfl rfl Tryd.cl27 (counts2_ct _ _ _) ?_
      rintro _ Hx ⟨b, hcb, rfl, e⟩
      obtain rfl := e.symm
      cases b
      · refine X.notF rfl rfl rfl rfl rfl ?_
        refine X.done [(0, _), (2, _), (3, _), (4, _), (5, _), (45, _)] ⟨rfl, rfl, rfl, rfl, rfl, rfl, trivial⟩ ?_
        refine N.then ?_
        refine E.condT rfl ?_
        refine E.region ?_
        refine X.mv rfl rfl rfl rfl rfl ?_
        refine X.mv rfl rfl rfl rfl rfl ?_
        refine X.call rfl rfl rfl rfl rfl Tryd.cl24 (fail_ct s p _ 18 _ _ hP) ?_
        rintro _ H9 ⟨rfl, hPn, hk9⟩
        replace hP := hPn
        replace hb2 := hk9.keep hb2 (by simp; exact hne)
        replace hkk := hkk.trans hk9 (by simp)
        refine X.done [(2, _), (4, _), (5, _)] ⟨rfl, rfl, rfl, trivial⟩ ?_
        refine N.then ?_
        refine E.seq ?_
        refine E.region ?_
        refine X.mv rfl rfl rfl rfl rfl ?_
        refine X.mv rfl rfl rfl rfl rfl ?_
        refine X.build rfl rfl rfl rfl rfl (build_rep _ _) ?_
        refine X.stA rfl rfl rfl rfl rfl rfl (ncel_one _) Tryd.sz38 hb2 (by show 0 + 8 ≤ 8; omega) ?_
        intro H9 hb9 hk9
        rw [splice_all (by rfl)] at hb9
        replace hP := hk9.keep hP (by simp; exact fun h => hne h.symm)
        replace hkk := hkk.trans hk9 (by simp; omega)
        refine X.done [(2, _)] ⟨rfl, trivial⟩ ?_
        refine N.then ?_
        refine E.ret ?_
        rw [tmsE e2 e4 (e6 _) hcb]
        exact N.retH [_] ⟨_, _, _, 0, rfl, rfl, loadsA Tryd.ag38 Tryd.sz38 hb9 (ncel_len _) zoff, rfl⟩ ⟨rfl, hP, hkk⟩
      · refine X.notT rfl rfl rfl rfl rfl ?_
        refine X.done [(0, _), (2, _), (3, _), (4, _), (5, _), (45, _)] ⟨rfl, rfl, rfl, rfl, rfl, rfl, trivial⟩ ?_
        refine N.then ?_
        refine E.condF rfl ?_
        refine E.skip ?_
        refine N.then ?_
        refine E.seq ?_
        refine E.region ?_
        refine X.mv rfl rfl rfl rfl rfl ?_
        refine X.mv rfl rfl rfl rfl rfl ?_
        refine X.build rfl rfl rfl rfl rfl (build_rep _ _) ?_
        refine X.stA rfl rfl rfl rfl rfl rfl (ncel_one _) Tryd.sz38 hb2 (by show 0 + 8 ≤ 8; omega) ?_
        intro H9 hb9 hk9
        rw [splice_all (by rfl)] at hb9
        replace hP := hk9.keep hP (by simp; exact fun h => hne h.symm)
        replace hkk := hkk.trans hk9 (by simp; omega)
        refine X.done [(2, _)] ⟨rfl, trivial⟩ ?_
        refine N.then ?_
        refine E.ret ?_
        rw [tmsE e2 e4 (e6 _) hcb]
        exact N.retH [_] ⟨_, _, _, 0, rfl, rfl, loadsA Tryd.ag38 Tryd.sz38 hb9 (ncel_len _) zoff, rfl⟩ ⟨rfl, hP, hkk⟩

end Go.Proofs.YtcandjdomeompaaDoor