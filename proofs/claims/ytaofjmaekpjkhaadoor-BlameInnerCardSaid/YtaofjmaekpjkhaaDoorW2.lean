/- The walks: numbers in digits, families. -/
import Derived.Test.YtaofjmaekpjkhaaDoorW1
import Derived.Test.YtaofjmaekpjkhaaDoorO
namespace Go.Proofs.YtaofjmaekpjkhaaDoor
open Go.SX Go.Blm
attribute [local irreducible] X E N Ct
set_option linter.unusedVariables false

theorem dg_short {m : Nat} (h : m ≤ 9223372036854775808) : (dg m).length ≤ 19 := dg_len 18 m (Nat.lt_of_le_of_lt h (by decide))
theorem bv_cons (c : Nat) (h : c < 256) (T : Bs) : bv (u8 c :: T) = .int .u8 (c : Int) :: bv T := by
  show Value.int .u8 (((u8 c).toNat : Nat) : Int) :: _ = _; rw [u8_nat h]; rfl
theorem set_drop {cs : List Value} {p : Nat} {v : Value} (h1 : p < cs.length) : (cs.set p v).drop p = v :: cs.drop (p + 1) := by
  rw [List.drop_eq_getElem_cons (by simpa using h1), List.getElem_set_self, List.drop_set_of_lt (by omega)]
theorem pow_step {u p : Nat} (hp : 3 ≤ p) (h : u < 10 ^ (p - 1)) : u / 10 < 10 ^ (p - 1 - 1) := by
  apply (Nat.div_lt_iff_lt_mul (by omega)).2
  rw [← Nat.pow_succ, show (p - 1 - 1).succ = p - 1 by omega]; exact h
theorem p_three {u p : Nat} (hp : 2 ≤ p) (h : u < 10 ^ (p - 1)) (h0 : u / 10 ≠ 0) : 3 ≤ p := by
  by_cases e : p = 2
  · subst e; simp at h; omega
  · omega
/-- What stands in the digits' row. -/
structure Dg (H0 H : Heap) (U b p u : Nat) (cs : List Value) (T : Bs) : Prop where
  row : H[b]? = some (.cells cs.toArray 78 (0, 0))
  len : cs.length = 20
  tl : cs.drop p = bv T
  ple : p ≤ 20
  two : 2 ≤ p
  lt : u < 10 ^ (p - 1)
  eq : dg U = dg u ++ T
  z : u = 0 → T = []
  kp : Kp [] H0 H
theorem rd_tail {H : Heap} {b p : Nat} {cs : List Value} {s : Bs} {ct : TypeId} (hb : H[b]? = some (.cells cs.toArray ct (0, 0))) (hl : cs.length = 20) (hd : cs.drop p = bv s) (hp : p ≤ 20) : Rd H 1 (.slice (some ⟨b, 0 + p * 1, none⟩) (20 - p) (20 - p)) (20 - p) (bv s) := by
  have hlen : (bv s).length = 20 - p := by rw [← hd, List.length_drop, hl]
  refine ⟨by omega, _, _, rfl, .inr ⟨b, p, _, _, _, by rw [Nat.zero_add, Nat.mul_one], hb, fun j u hj => ?_⟩⟩
  rw [← hd, List.getElem?_drop] at hj; exact hj
theorem quo_neg (m : Nat) : (-(m : Int)).tdiv 10 = -((m / 10 : Nat) : Int) := by rw [Int.neg_tdiv]; rfl
theorem rem_neg (m : Nat) : (-(m : Int)).tmod 10 = -((m % 10 : Nat) : Int) := by rw [Int.neg_tmod]; rfl

theorem digits_step (m : Nat) (ih : ∀ k, k < m → ∀ H : Heap, Ct Tryd.prog 42 #[i64 (k : Int)] H fun v H' => v = str (dg k) ∧ Kp [] H H') (H : Heap) (hm : m ≤ 9223372036854775808) (hm2 : m ≤ 9223372036854775807) : Ct Tryd.prog 42 #[i64 (m : Int)] H fun v H' => v = str (dg m) ∧ Kp [] H H' := by
  have hd := dg_short (m := m / 10) (by omega)
  refine Ct.into 20 Tryd.func42 rfl [(0, i64 (m : Int))] rfl ⟨rfl, trivial⟩ ?_
  refine E.seq ?_
  refine E.region ?_
  refine X.asg rfl rfl rfl rfl rfl ?_
  refine X.done [(0, _), (2, _)] ⟨rfl, rfl, trivial⟩ ?_
  refine N.then ?_
  refine E.seq ?_
  refine E.seq ?_
  refine E.region ?_
  refine X.mv rfl rfl rfl rfl rfl ?_
  refine X.lss rfl rfl rfl rfl rfl rfl ?_
  refine X.done [(0, _), (2, _), (4, _)] ⟨rfl, rfl, rfl, trivial⟩ ?_
  refine N.then ?_
  refine E.condD rfl (fun hc => ?_) (fun hc => ?_)
  · refine E.seq ?_
    refine E.region ?_
    refine X.mv rfl rfl rfl rfl rfl ?_
    refine X.addE (zz := ((48 + m : Nat) : Int)) rfl rfl rfl rfl rfl rfl (by rw [IntWalk.i64_in _ (by omega)] <;> omega) ?_
    refine X.convE (zz := ((48 + m : Nat) : Int)) rfl rfl rfl rfl rfl Tryd.underlying5 Tryd.us3 (IntWalk.u8_in _ (by omega)) ?_
    refine X.lit (e := 5) (cs := [.int .u8 ((48 + m : Nat) : Int)]) rfl rfl rfl rfl rfl (fun _ => by kernel_rfl) ?_
    intro b2 H2 hn2 hb2 hk2
    refine X.b2s rfl rfl rfl rfl Tryd.underlying80 Tryd.underlying5 Tryd.underlying9 (rd_lit (s := [u8 (48 + m)]) hb2 (bv1 (by omega)) rfl) ?_
    refine X.asg rfl rfl rfl rfl rfl ?_
    refine X.done [(0, _), (2, _)] ⟨rfl, rfl, trivial⟩ ?_
    refine N.then ?_
    refine E.ret ?_
    refine N.thenR ?_
    exact N.retH [_] ⟨_, _, rfl, rfl, rfl⟩ ⟨by rw [dg_lt (by omega)]; rfl, hk2⟩
  · refine E.skip ?_
    refine N.then ?_
    refine E.seq ?_
    refine E.regionT (fun _ => True) (.fork [(0, .pu), (1, .pu), (3, .pu), (4, .pu), (5, .pu), (6, .pu)] 2 .mv (.lin [(7, .mv), (8, .mv), (9, .pu), (10, .pu)]) 7 .mv (.fork [] 2 .mv (.lin [(8, .mv), (9, .pu), (10, .pu)]) 8 .mv (.lin [(2, .mv), (9, .pu), (10, .pu)]))) Tryd.mixed (by kernel_rfl) (trivial) ?_
    refine X.tree [(0, _), (2, _), (4, _)] ⟨rfl, rfl, rfl, trivial⟩ ?_
    refine X.mv rfl rfl rfl rfl rfl ?_
    refine X.quoE (zz := ((m / 10 : Nat) : Int)) rfl rfl rfl rfl rfl rfl (by omega) (by rw [IntWalk.i64_quo _ _ (by omega)] <;> omega) ?_
    refine X.mv rfl rfl rfl rfl rfl ?_
    refine X.remE (zz := ((m % 10 : Nat) : Int)) rfl rfl rfl rfl rfl rfl (by omega) (by rw [IntWalk.rem_in _ _ (by omega)] <;> omega) ?_
    refine X.addE (zz := ((48 + m % 10 : Nat) : Int)) rfl rfl rfl rfl rfl rfl (by rw [IntWalk.i64_in _ (by omega)] <;> omega) ?_
    refine X.convE (zz := ((48 + m % 10 : Nat) : Int)) rfl rfl rfl rfl rfl Tryd.underlying5 Tryd.us3 (IntWalk.u8_in _ (by omega)) ?_
    refine X.fork [(0, _), (2, _), (4, _), (10, _), (11, _), (13, _), (14, _), (15, _), (16, _)] ⟨rfl, rfl, rfl, rfl, rfl, rfl, rfl, rfl, rfl, trivial⟩ ?_ ?_
    · refine X.call rfl rfl rfl rfl rfl Tryd.cl42 (ih (m / 10) (by omega) _) ?_
      rintro _ H1 ⟨rfl, hk1⟩
      first | have hk12 := hk2.trans hk1 (by simp) | skip
      first | (replace hb2 := hk1.keep hb2 (by simp)) | skip
      refine X.lin [(0, _), (2, _), (4, _), (10, _), (11, _), (13, _), (14, _), (15, _), (16, _), (12, _)] ⟨rfl, rfl, rfl, rfl, rfl, rfl, rfl, rfl, rfl, rfl, trivial⟩ ?_
      refine X.lit (e := 5) (cs := [.int .u8 ((48 + m % 10 : Nat) : Int)]) rfl rfl rfl rfl rfl (fun _ => by kernel_rfl) ?_
      intro b2 H2 hn2 hb2 hk2
      first | have hk12 := hk1.trans hk2 (by simp) | skip
      refine X.b2s rfl rfl rfl rfl Tryd.underlying80 Tryd.underlying5 Tryd.underlying9 (rd_lit (s := [u8 (48 + m % 10)]) hb2 (bv1 (by omega)) rfl) ?_
      refine X.cat rfl rfl rfl rfl rfl rfl (by show (dg (m / 10)).length + 1 ≤ _; omega) ?_
      refine X.asg rfl rfl rfl rfl rfl ?_
      refine X.done [(2, _)] ⟨rfl, trivial⟩ ?_
      refine N.then ?_
      refine E.ret ?_
      exact N.retH [_] ⟨_, _, rfl, rfl, rfl⟩ ⟨by rw [dg_ge (m := m) (by omega)]; rfl, hk12⟩
    · refine X.lit (e := 5) (cs := [.int .u8 ((48 + m % 10 : Nat) : Int)]) rfl rfl rfl rfl rfl (fun _ => by kernel_rfl) ?_
      intro b2 H2 hn2 hb2 hk2
      first | have hk12 := hk1.trans hk2 (by simp) | skip
      refine X.tree [(0, _), (2, _), (4, _), (10, _), (11, _), (13, _), (14, _), (15, _), (16, _), (17, _)] ⟨rfl, rfl, rfl, rfl, rfl, rfl, rfl, rfl, rfl, rfl, trivial⟩ ?_
      refine X.fork [(0, _), (2, _), (4, _), (10, _), (11, _), (13, _), (14, _), (15, _), (16, _), (17, _)] ⟨rfl, rfl, rfl, rfl, rfl, rfl, rfl, rfl, rfl, rfl, trivial⟩ ?_ ?_
      · refine X.call rfl rfl rfl rfl rfl Tryd.cl42 (ih (m / 10) (by omega) _) ?_
        rintro _ H1 ⟨rfl, hk1⟩
        first | have hk12 := hk2.trans hk1 (by simp) | skip
        first | (replace hb2 := hk1.keep hb2 (by simp)) | skip
        refine X.lin [(0, _), (2, _), (4, _), (10, _), (11, _), (13, _), (14, _), (15, _), (16, _), (17, _), (12, _)] ⟨rfl, rfl, rfl, rfl, rfl, rfl, rfl, rfl, rfl, rfl, rfl, trivial⟩ ?_
        refine X.b2s rfl rfl rfl rfl Tryd.underlying80 Tryd.underlying5 Tryd.underlying9 (rd_lit (s := [u8 (48 + m % 10)]) hb2 (bv1 (by omega)) rfl) ?_
        refine X.cat rfl rfl rfl rfl rfl rfl (by show (dg (m / 10)).length + 1 ≤ _; omega) ?_
        refine X.asg rfl rfl rfl rfl rfl ?_
        refine X.done [(2, _)] ⟨rfl, trivial⟩ ?_
        refine N.then ?_
        refine E.ret ?_
        exact N.retH [_] ⟨_, _, rfl, rfl, rfl⟩ ⟨by rw [dg_ge (m := m) (by omega)]; rfl, hk12⟩
      · refine X.b2s rfl rfl rfl rfl Tryd.underlying80 Tryd.underlying5 Tryd.underlying9 (rd_lit (s := [u8 (48 + m % 10)]) hb2 (bv1 (by omega)) rfl) ?_
        refine X.lin [(0, _), (2, _), (4, _), (10, _), (11, _), (13, _), (14, _), (15, _), (16, _), (17, _), (18, _)] ⟨rfl, rfl, rfl, rfl, rfl, rfl, rfl, rfl, rfl, rfl, rfl, trivial⟩ ?_
        refine X.call rfl rfl rfl rfl rfl Tryd.cl42 (ih (m / 10) (by omega) _) ?_
        rintro _ H1 ⟨rfl, hk1⟩
        first | have hk12 := hk2.trans hk1 (by simp) | skip
        first | (replace hb2 := hk1.keep hb2 (by simp)) | skip
        refine X.cat rfl rfl rfl rfl rfl rfl (by show (dg (m / 10)).length + 1 ≤ _; omega) ?_
        refine X.asg rfl rfl rfl rfl rfl ?_
        refine X.done [(2, _)] ⟨rfl, trivial⟩ ?_
        refine N.then ?_
        refine E.ret ?_
        exact N.retH [_] ⟨_, _, rfl, rfl, rfl⟩ ⟨by rw [dg_ge (m := m) (by omega)]; rfl, hk12⟩

theorem digits_ct (m : Nat) (hm : m ≤ 9223372036854775807) : ∀ H : Heap, Ct Tryd.prog 42 #[i64 (m : Int)] H fun v H' => v = str (dg m) ∧ Kp [] H H' := by
  induction m using Nat.strongRecOn with
  | ind m ih => exact fun H => digits_step m (fun k hk => ih k hk (by omega)) H (by omega) hm

theorem number_pos (m : Nat) (H : Heap) (hm : m ≤ 9223372036854775807) : Ct Tryd.prog 39 #[i64 (m : Int)] H fun v H' => v = str (dg m) ∧ Kp [] H H' := by
  refine Ct.into 33 Tryd.func39 rfl [(0, i64 (m : Int))] rfl ⟨rfl, trivial⟩ ?_
  refine E.seq ?_
  refine E.region ?_
  refine X.asg rfl rfl rfl rfl rfl ?_
  refine X.done [(0, _), (2, _)] ⟨rfl, rfl, trivial⟩ ?_
  refine N.then ?_
  refine E.seq ?_
  refine E.region ?_
  refine X.alloc (z := .agg ([.int .u8 0, .int .u8 0, .int .u8 0, .int .u8 0, .int .u8 0, .int .u8 0, .int .u8 0, .int .u8 0, .int .u8 0, .int .u8 0, .int .u8 0, .int .u8 0, .int .u8 0, .int .u8 0, .int .u8 0, .int .u8 0, .int .u8 0, .int .u8 0, .int .u8 0, .int .u8 0] : List Value).toArray) (cs := [.int .u8 0, .int .u8 0, .int .u8 0, .int .u8 0, .int .u8 0, .int .u8 0, .int .u8 0, .int .u8 0, .int .u8 0, .int .u8 0, .int .u8 0, .int .u8 0, .int .u8 0, .int .u8 0, .int .u8 0, .int .u8 0, .int .u8 0, .int .u8 0, .int .u8 0, .int .u8 0]) rfl rfl rfl rfl (by kernel_rfl) rfl ?_
  intro b3 H3 hn3 hb3 hk3
  refine X.done [(0, _), (2, _), (3, _)] ⟨rfl, rfl, rfl, trivial⟩ ?_
  refine N.then ?_
  refine E.seq ?_
  refine E.region ?_
  refine X.asg rfl rfl rfl rfl rfl ?_
  refine X.done [(0, _), (2, _), (3, _), (4, _)] ⟨rfl, rfl, rfl, rfl, trivial⟩ ?_
  refine N.then ?_
  refine E.seq ?_
  refine E.region ?_
  refine X.mv rfl rfl rfl rfl rfl ?_
  refine X.convE (zz := (m : Int)) rfl rfl rfl rfl rfl Tryd.underlying79 Tryd.us3 (IntWalk.u64_in _ (by omega)) ?_
  refine X.asg rfl rfl rfl rfl rfl ?_
  refine X.done [(0, _), (2, _), (3, _), (4, _), (5, _)] ⟨rfl, rfl, rfl, rfl, rfl, trivial⟩ ?_
  refine N.then ?_
  refine E.seq ?_
  refine E.seq ?_
  refine E.region ?_
  refine X.mv rfl rfl rfl rfl rfl ?_
  refine X.lssF rfl rfl rfl rfl rfl rfl (by omega) ?_
  refine X.done [(0, _), (2, _), (3, _), (4, _), (5, _), (9, _)] ⟨rfl, rfl, rfl, rfl, rfl, rfl, trivial⟩ ?_
  refine N.then ?_
  refine E.condF rfl ?_
  refine E.skip ?_
  refine N.then ?_
  refine E.seq ?_
  refine E.block ?_
  -- MISSING in G: [2]
  refine E.loop (fun (q : Nat × Nat) => [(0, i64 (m : Int)), (3, ptr b3), (4, i64 q.1), (5, .int .u64 (q.2 : Int))]) (fun (q : Nat × Nat) H' => ∃ cs T, Dg H H' m b3 q.1 q.2 cs T) (fun (q : Nat × Nat) => q.1) (20, m) ⟨rfl, rfl, rfl, rfl, trivial⟩ ⟨_, [], ⟨hb3, rfl, rfl, Nat.le_refl _, (show 2 ≤ 20 by decide), Nat.lt_of_le_of_lt hm (show _ < 10 ^ (20 - 1) by decide), (List.append_nil _).symm, fun _ => rfl, hk3⟩⟩ ?_
  rintro ⟨p, u⟩ H4 hJ
  dsimp only at hJ ⊢
  obtain ⟨cs, T, hJ⟩ := hJ
  have hple := hJ.ple
  have hp2 := hJ.two
  have hul : u < 10 ^ 19 := Nat.lt_of_lt_of_le hJ.lt (Nat.pow_le_pow_right (by omega) (by omega))
  refine E.block ?_
  refine E.seq ?_
  refine E.region ?_
  refine X.mv rfl rfl rfl rfl rfl ?_
  refine X.sbE (zz := ((p - 1 : Nat) : Int)) rfl rfl rfl rfl rfl rfl (by rw [IntWalk.i64_in _ (by omega)] <;> omega) ?_
  refine X.asg rfl rfl rfl rfl rfl ?_
  refine X.done [(0, _), (3, _), (4, _), (5, _), (12, _), (13, _)] ⟨rfl, rfl, rfl, rfl, rfl, rfl, trivial⟩ ?_
  refine N.then ?_
  refine E.seq ?_
  refine E.region ?_
  refine X.mv rfl rfl rfl rfl rfl ?_
  refine X.mv rfl rfl rfl rfl rfl ?_
  refine X.remE (zz := ((u % 10 : Nat) : Int)) rfl rfl rfl rfl rfl rfl (by omega) (by rw [IntWalk.rem_in _ _ (by omega)]; omega) ?_
  refine X.addE (zz := ((48 + u % 10 : Nat) : Int)) rfl rfl rfl rfl rfl rfl (by rw [IntWalk.u64_in _ (by omega)] <;> omega) ?_
  refine X.convE (zz := ((48 + u % 10 : Nat) : Int)) rfl rfl rfl rfl rfl Tryd.underlying5 Tryd.us79 (IntWalk.u8_in _ (by omega)) ?_
  refine X.ixP rfl rfl rfl rfl rfl rfl Tryd.underlying78 Tryd.sz5 (by omega) ?_
  refine X.st rfl rfl rfl rfl rfl rfl rfl Tryd.sz5 hJ.row (by rw [hJ.len]; show 0 + (p - 1) * 1 < 20; omega) ?_
  intro H5 hb5 hk5
  rw [show 0 + ((p - 1 : Nat) : Int).toNat * 1 = p - 1 from by rw [Int.toNat_natCast]; omega] at hb5
  have hdr : (cs.set (p - 1) (.int .u8 ((48 + u % 10 : Nat) : Int))).drop (p - 1) = bv (u8 (48 + u % 10) :: T) := by rw [set_drop (by rw [hJ.len]; omega), bv_cons _ (by omega), show p - 1 + 1 = p by omega, hJ.tl]
  refine X.done [(0, _), (3, _), (4, _), (5, _), (12, _), (13, _), (14, _), (15, _), (16, _), (17, _), (18, _), (19, _)] ⟨rfl, rfl, rfl, rfl, rfl, rfl, rfl, rfl, rfl, rfl, rfl, rfl, trivial⟩ ?_
  refine N.then ?_
  refine E.seq ?_
  refine E.region ?_
  refine X.mv rfl rfl rfl rfl rfl ?_
  refine X.quoE (zz := ((u / 10 : Nat) : Int)) rfl rfl rfl rfl rfl rfl (by omega) (by rw [IntWalk.u64_quo _ _ (by omega)] <;> omega) ?_
  refine X.asg rfl rfl rfl rfl rfl ?_
  refine X.done [(0, _), (3, _), (4, _), (5, _), (12, _), (13, _), (14, _), (15, _), (16, _), (17, _), (18, _), (19, _), (20, _), (21, _)] ⟨rfl, rfl, rfl, rfl, rfl, rfl, rfl, rfl, rfl, rfl, rfl, rfl, rfl, rfl, trivial⟩ ?_
  refine N.then ?_
  refine E.seq ?_
  refine E.region ?_
  refine X.mv rfl rfl rfl rfl rfl ?_
  refine X.eql rfl rfl rfl rfl rfl rfl ?_
  refine X.done [(0, _), (3, _), (4, _), (5, _), (12, _), (13, _), (14, _), (15, _), (16, _), (17, _), (18, _), (19, _), (20, _), (21, _), (22, _), (23, _)] ⟨rfl, rfl, rfl, rfl, rfl, rfl, rfl, rfl, rfl, rfl, rfl, rfl, rfl, rfl, rfl, rfl, trivial⟩ ?_
  refine N.then ?_
  refine E.condD rfl (fun hc => ?_) (fun hc => ?_)
  · refine E.exit ?_
    refine N.blkO rfl ?_
    refine N.loopX ?_
    refine N.blkX ?_
    refine N.then ?_
    refine E.seq ?_
    refine E.seq ?_
    have hple := hJ.ple
    have hu9 : u < 10 := by omega
    have hfin : dg m = u8 (48 + u % 10) :: T := by rw [hJ.eq, dg_lt hu9, Nat.mod_eq_of_lt hu9]; rfl
    have hkk := hJ.kp.trans hk5 (by simp; exact hn3)
    refine E.region ?_
    refine X.mv rfl rfl rfl rfl rfl ?_
    refine X.lssF rfl rfl rfl rfl rfl rfl (by omega) ?_
    refine X.done [(3, _), (4, _), (25, _)] ⟨rfl, rfl, rfl, trivial⟩ ?_
    refine N.then ?_
    refine E.condF rfl ?_
    refine E.skip ?_
    refine N.then ?_
    refine E.seq ?_
    refine E.region ?_
    refine X.mv rfl rfl rfl rfl rfl ?_
    refine X.slAr rfl rfl rfl rfl rfl rfl Tryd.underlying78 Tryd.sz5 (by omega) ?_
    refine X.b2s rfl rfl rfl rfl Tryd.underlying80 Tryd.underlying5 Tryd.underlying9 (by rw [show ((p - 1 : Nat) : Int).toNat = p - 1 from rfl]; exact rd_tail hb5 (by rw [List.length_set, hJ.len]) hdr (by omega)) ?_
    refine X.asg rfl rfl rfl rfl rfl ?_
    refine X.done [(2, _)] ⟨rfl, trivial⟩ ?_
    refine N.then ?_
    refine E.ret ?_
    exact N.retH [_] ⟨_, _, rfl, rfl, rfl⟩ ⟨by rw [hfin]; rfl, hkk⟩
  · refine E.skip ?_
    refine N.blk ?_
    have hp3 := p_three hp2 hJ.lt (fun h => absurd (congrArg Int.ofNat h) (by assumption))
    have hu0 : u / 10 ≠ 0 := fun h => absurd (congrArg Int.ofNat h) (by assumption)
    exact N.next (G := fun (q : Nat × Nat) => _) (p - 1, u / 10) ⟨rfl, rfl, rfl, rfl, trivial⟩ ⟨_, u8 (48 + u % 10) :: T, ⟨hb5, by rw [List.length_set]; exact hJ.len, hdr, by show p - 1 ≤ 20; have := hJ.ple; omega, by show 2 ≤ p - 1; omega, pow_step hp3 hJ.lt, by rw [hJ.eq, dg_ge (m := u) (by omega), List.append_assoc]; rfl, fun h => absurd h (by show u / 10 ≠ 0; omega), hJ.kp.trans hk5 (by simp; exact hn3)⟩⟩ (by show p - 1 < p; omega)

theorem number_neg (m : Nat) (H : Heap) (hm : m ≤ 9223372036854775808) (h0 : 0 < m) : Ct Tryd.prog 39 #[i64 (-(m : Int))] H fun v H' => v = str (45 :: dg m) ∧ Kp [] H H' := by
  refine Ct.into 33 Tryd.func39 rfl [(0, i64 (-(m : Int)))] rfl ⟨rfl, trivial⟩ ?_
  refine E.seq ?_
  refine E.region ?_
  refine X.asg rfl rfl rfl rfl rfl ?_
  refine X.done [(0, _), (2, _)] ⟨rfl, rfl, trivial⟩ ?_
  refine N.then ?_
  refine E.seq ?_
  refine E.region ?_
  refine X.alloc (z := .agg ([.int .u8 0, .int .u8 0, .int .u8 0, .int .u8 0, .int .u8 0, .int .u8 0, .int .u8 0, .int .u8 0, .int .u8 0, .int .u8 0, .int .u8 0, .int .u8 0, .int .u8 0, .int .u8 0, .int .u8 0, .int .u8 0, .int .u8 0, .int .u8 0, .int .u8 0, .int .u8 0] : List Value).toArray) (cs := [.int .u8 0, .int .u8 0, .int .u8 0, .int .u8 0, .int .u8 0, .int .u8 0, .int .u8 0, .int .u8 0, .int .u8 0, .int .u8 0, .int .u8 0, .int .u8 0, .int .u8 0, .int .u8 0, .int .u8 0, .int .u8 0, .int .u8 0, .int .u8 0, .int .u8 0, .int .u8 0]) rfl rfl rfl rfl (by kernel_rfl) rfl ?_
  intro b3 H3 hn3 hb3 hk3
  refine X.done [(0, _), (2, _), (3, _)] ⟨rfl, rfl, rfl, trivial⟩ ?_
  refine N.then ?_
  refine E.seq ?_
  refine E.region ?_
  refine X.asg rfl rfl rfl rfl rfl ?_
  refine X.done [(0, _), (2, _), (3, _), (4, _)] ⟨rfl, rfl, rfl, rfl, trivial⟩ ?_
  refine N.then ?_
  refine E.seq ?_
  refine E.region ?_
  refine X.mv rfl rfl rfl rfl rfl ?_
  refine X.convE (zz := ((18446744073709551616 - m : Nat) : Int)) rfl rfl rfl rfl rfl Tryd.underlying79 Tryd.us3 (by rw [IntKind.wrap_u64]; omega) ?_
  refine X.asg rfl rfl rfl rfl rfl ?_
  refine X.done [(0, _), (2, _), (3, _), (4, _), (5, _)] ⟨rfl, rfl, rfl, rfl, rfl, trivial⟩ ?_
  refine N.then ?_
  refine E.seq ?_
  refine E.seq ?_
  refine E.region ?_
  refine X.mv rfl rfl rfl rfl rfl ?_
  refine X.lssT rfl rfl rfl rfl rfl rfl (by omega) ?_
  refine X.done [(0, _), (2, _), (3, _), (4, _), (5, _), (9, _)] ⟨rfl, rfl, rfl, rfl, rfl, rfl, trivial⟩ ?_
  refine N.then ?_
  refine E.condT rfl ?_
  refine E.region ?_
  refine X.mv rfl rfl rfl rfl rfl ?_
  refine X.negE (zz := (m : Int)) rfl rfl rfl rfl rfl (by rw [IntKind.wrap_u64]; omega) ?_
  refine X.asg rfl rfl rfl rfl rfl ?_
  refine X.done [(0, _), (2, _), (3, _), (4, _), (5, _)] ⟨rfl, rfl, rfl, rfl, rfl, trivial⟩ ?_
  refine N.then ?_
  refine E.seq ?_
  refine E.block ?_
  -- MISSING in G: [2]
  refine E.loop (fun (q : Nat × Nat) => [(0, i64 (-(m : Int))), (3, ptr b3), (4, i64 q.1), (5, .int .u64 (q.2 : Int))]) (fun (q : Nat × Nat) H' => ∃ cs T, Dg H H' m b3 q.1 q.2 cs T) (fun (q : Nat × Nat) => q.1) (20, m) ⟨rfl, rfl, rfl, rfl, trivial⟩ ⟨_, [], ⟨hb3, rfl, rfl, Nat.le_refl _, (show 2 ≤ 20 by decide), Nat.lt_of_le_of_lt hm (show _ < 10 ^ (20 - 1) by decide), (List.append_nil _).symm, fun _ => rfl, hk3⟩⟩ ?_
  rintro ⟨p, u⟩ H4 hJ
  dsimp only at hJ ⊢
  obtain ⟨cs, T, hJ⟩ := hJ
  have hple := hJ.ple
  have hp2 := hJ.two
  have hul : u < 10 ^ 19 := Nat.lt_of_lt_of_le hJ.lt (Nat.pow_le_pow_right (by omega) (by omega))
  refine E.block ?_
  refine E.seq ?_
  refine E.region ?_
  refine X.mv rfl rfl rfl rfl rfl ?_
  refine X.sbE (zz := ((p - 1 : Nat) : Int)) rfl rfl rfl rfl rfl rfl (by rw [IntWalk.i64_in _ (by omega)] <;> omega) ?_
  refine X.asg rfl rfl rfl rfl rfl ?_
  refine X.done [(0, _), (3, _), (4, _), (5, _), (12, _), (13, _)] ⟨rfl, rfl, rfl, rfl, rfl, rfl, trivial⟩ ?_
  refine N.then ?_
  refine E.seq ?_
  refine E.region ?_
  refine X.mv rfl rfl rfl rfl rfl ?_
  refine X.mv rfl rfl rfl rfl rfl ?_
  refine X.remE (zz := ((u % 10 : Nat) : Int)) rfl rfl rfl rfl rfl rfl (by omega) (by rw [IntWalk.rem_in _ _ (by omega)]; omega) ?_
  refine X.addE (zz := ((48 + u % 10 : Nat) : Int)) rfl rfl rfl rfl rfl rfl (by rw [IntWalk.u64_in _ (by omega)] <;> omega) ?_
  refine X.convE (zz := ((48 + u % 10 : Nat) : Int)) rfl rfl rfl rfl rfl Tryd.underlying5 Tryd.us79 (IntWalk.u8_in _ (by omega)) ?_
  refine X.ixP rfl rfl rfl rfl rfl rfl Tryd.underlying78 Tryd.sz5 (by omega) ?_
  refine X.st rfl rfl rfl rfl rfl rfl rfl Tryd.sz5 hJ.row (by rw [hJ.len]; show 0 + (p - 1) * 1 < 20; omega) ?_
  intro H5 hb5 hk5
  rw [show 0 + ((p - 1 : Nat) : Int).toNat * 1 = p - 1 from by rw [Int.toNat_natCast]; omega] at hb5
  have hdr : (cs.set (p - 1) (.int .u8 ((48 + u % 10 : Nat) : Int))).drop (p - 1) = bv (u8 (48 + u % 10) :: T) := by rw [set_drop (by rw [hJ.len]; omega), bv_cons _ (by omega), show p - 1 + 1 = p by omega, hJ.tl]
  refine X.done [(0, _), (3, _), (4, _), (5, _), (12, _), (13, _), (14, _), (15, _), (16, _), (17, _), (18, _), (19, _)] ⟨rfl, rfl, rfl, rfl, rfl, rfl, rfl, rfl, rfl, rfl, rfl, rfl, trivial⟩ ?_
  refine N.then ?_
  refine E.seq ?_
  refine E.region ?_
  refine X.mv rfl rfl rfl rfl rfl ?_
  refine X.quoE (zz := ((u / 10 : Nat) : Int)) rfl rfl rfl rfl rfl rfl (by omega) (by rw [IntWalk.u64_quo _ _ (by omega)] <;> omega) ?_
  refine X.asg rfl rfl rfl rfl rfl ?_
  refine X.done [(0, _), (3, _), (4, _), (5, _), (12, _), (13, _), (14, _), (15, _), (16, _), (17, _), (18, _), (19, _), (20, _), (21, _)] ⟨rfl, rfl, rfl, rfl, rfl, rfl, rfl, rfl, rfl, rfl, rfl, rfl, rfl, rfl, trivial⟩ ?_
  refine N.then ?_
  refine E.seq ?_
  refine E.region ?_
  refine X.mv rfl rfl rfl rfl rfl ?_
  refine X.eql rfl rfl rfl rfl rfl rfl ?_
  refine X.done [(0, _), (3, _), (4, _), (5, _), (12, _), (13, _), (14, _), (15, _), (16, _), (17, _), (18, _), (19, _), (20, _), (21, _), (22, _), (23, _)] ⟨rfl, rfl, rfl, rfl, rfl, rfl, rfl, rfl, rfl, rfl, rfl, rfl, rfl, rfl, rfl, rfl, trivial⟩ ?_
  refine N.then ?_
  refine E.condD rfl (fun hc => ?_) (fun hc => ?_)
  · refine E.exit ?_
    refine N.blkO rfl ?_
    refine N.loopX ?_
    refine N.blkX ?_
    refine N.then ?_
    refine E.seq ?_
    refine E.seq ?_
    have hple := hJ.ple
    have hu9 : u < 10 := by omega
    have hfin : dg m = u8 (48 + u % 10) :: T := by rw [hJ.eq, dg_lt hu9, Nat.mod_eq_of_lt hu9]; rfl
    have hkk := hJ.kp.trans hk5 (by simp; exact hn3)
    refine E.region ?_
    refine X.mv rfl rfl rfl rfl rfl ?_
    refine X.lssT rfl rfl rfl rfl rfl rfl (by omega) ?_
    refine X.done [(3, _), (4, _), (25, _)] ⟨rfl, rfl, rfl, trivial⟩ ?_
    refine N.then ?_
    refine E.condT rfl ?_
    refine E.seq ?_
    refine E.region ?_
    refine X.mv rfl rfl rfl rfl rfl ?_
    refine X.sbE (zz := ((p - 1 - 1 : Nat) : Int)) rfl rfl rfl rfl rfl rfl (by rw [IntWalk.i64_in _ (by omega)] <;> omega) ?_
    refine X.asg rfl rfl rfl rfl rfl ?_
    refine X.done [(3, _), (4, _)] ⟨rfl, rfl, trivial⟩ ?_
    refine N.then ?_
    refine E.region ?_
    refine X.mv rfl rfl rfl rfl rfl ?_
    refine X.ixP rfl rfl rfl rfl rfl rfl Tryd.underlying78 Tryd.sz5 (by omega) ?_
    refine X.st rfl rfl rfl rfl rfl rfl rfl Tryd.sz5 hb5 (by rw [List.length_set, hJ.len]; show 0 + (p - 1 - 1) * 1 < 20; omega) ?_
    intro H6 hb6 hk6
    rw [show 0 + ((p - 1 - 1 : Nat) : Int).toNat * 1 = p - 1 - 1 from by rw [Int.toNat_natCast]; omega] at hb6
    have hdr2 : ((cs.set (p - 1) (.int .u8 ((48 + u % 10 : Nat) : Int))).set (p - 1 - 1) (.int .u8 45)).drop (p - 1 - 1) = bv (45 :: u8 (48 + u % 10) :: T) := by rw [set_drop (by rw [List.length_set, hJ.len]; omega), show p - 1 - 1 + 1 = p - 1 by omega, hdr]; rfl
    replace hkk := hkk.trans hk6 (by simp; exact hn3)
    refine X.done [(3, _), (4, _)] ⟨rfl, rfl, trivial⟩ ?_
    refine N.then ?_
    refine E.seq ?_
    refine E.region ?_
    refine X.mv rfl rfl rfl rfl rfl ?_
    refine X.slAr rfl rfl rfl rfl rfl rfl Tryd.underlying78 Tryd.sz5 (by omega) ?_
    refine X.b2s rfl rfl rfl rfl Tryd.underlying80 Tryd.underlying5 Tryd.underlying9 (by rw [show ((p - 1 - 1 : Nat) : Int).toNat = p - 1 - 1 from rfl]; exact rd_tail hb6 (by rw [List.length_set, List.length_set, hJ.len]) hdr2 (by omega)) ?_
    refine X.asg rfl rfl rfl rfl rfl ?_
    refine X.done [(2, _)] ⟨rfl, trivial⟩ ?_
    refine N.then ?_
    refine E.ret ?_
    exact N.retH [_] ⟨_, _, rfl, rfl, rfl⟩ ⟨by rw [hfin]; rfl, hkk⟩
  · refine E.skip ?_
    refine N.blk ?_
    have hp3 := p_three hp2 hJ.lt (fun h => absurd (congrArg Int.ofNat h) (by assumption))
    have hu0 : u / 10 ≠ 0 := fun h => absurd (congrArg Int.ofNat h) (by assumption)
    exact N.next (G := fun (q : Nat × Nat) => _) (p - 1, u / 10) ⟨rfl, rfl, rfl, rfl, trivial⟩ ⟨_, u8 (48 + u % 10) :: T, ⟨hb5, by rw [List.length_set]; exact hJ.len, hdr, by show p - 1 ≤ 20; have := hJ.ple; omega, by show 2 ≤ p - 1; omega, pow_step hp3 hJ.lt, by rw [hJ.eq, dg_ge (m := u) (by omega), List.append_assoc]; rfl, fun h => absurd h (by show u / 10 ≠ 0; omega), hJ.kp.trans hk5 (by simp; exact hn3)⟩⟩ (by show p - 1 < p; omega)

theorem number_ct (n : Int) (H : Heap) (h : ok64 n) : Ct Tryd.prog 39 #[i64 n] H fun v H' => v = str (numV n) ∧ Kp [] H H' := by
  obtain ⟨h1, h2⟩ := h
  unfold numV
  by_cases hn : n < 0
  · rw [if_pos hn]
    obtain ⟨m, hm⟩ : ∃ m : Nat, n = -(m : Int) := ⟨n.natAbs, by omega⟩
    subst hm
    have e : (-(m : Int)).natAbs = m := by omega
    rw [e]
    exact number_neg m H (by omega) (by omega)
  · rw [if_neg hn]
    obtain ⟨m, rfl⟩ := Int.eq_ofNat_of_zero_le (show 0 ≤ n by omega)
    exact number_pos m H (by omega)

theorem rnum_pos (m : Nat) (H : Heap) (hm : m ≤ 9223372036854775807) : Ct Tryd.prog 35 #[i64 (m : Int)] H fun v H' => v = str (dg m) ∧ Kp [] H H' := by
  refine Ct.into 21 Tryd.func35 rfl [(0, i64 (m : Int))] rfl ⟨rfl, trivial⟩ ?_
  refine E.seq ?_
  refine E.region ?_
  refine X.asg rfl rfl rfl rfl rfl ?_
  refine X.done [(0, _), (2, _)] ⟨rfl, rfl, trivial⟩ ?_
  refine N.then ?_
  refine E.seq ?_
  refine E.seq ?_
  refine E.region ?_
  refine X.mv rfl rfl rfl rfl rfl ?_
  refine X.geqT rfl rfl rfl rfl rfl rfl (by omega) ?_
  refine X.done [(0, _), (2, _), (4, _)] ⟨rfl, rfl, rfl, trivial⟩ ?_
  refine N.then ?_
  refine E.condT rfl ?_
  refine E.seq ?_
  refine E.region ?_
  refine X.mv rfl rfl rfl rfl rfl ?_
  refine X.call rfl rfl rfl rfl rfl Tryd.cl42 (digits_ct m hm H) ?_
  rintro _ H1 ⟨rfl, hk1⟩
  refine X.asg rfl rfl rfl rfl rfl ?_
  refine X.done [(0, _), (2, _)] ⟨rfl, rfl, trivial⟩ ?_
  refine N.then ?_
  refine E.ret ?_
  refine N.thenR ?_
  exact N.retH [_] ⟨_, _, rfl, rfl, rfl⟩ ⟨rfl, hk1⟩

theorem rnum_step (m : Nat) (ih : ∀ k, k < m → 0 < k → ∀ H : Heap, Ct Tryd.prog 35 #[i64 (-(k : Int))] H fun v H' => v = str (45 :: dg k) ∧ Kp [] H H') (H : Heap) (hm : m ≤ 9223372036854775808) (h0 : 0 < m) : Ct Tryd.prog 35 #[i64 (-(m : Int))] H fun v H' => v = str (45 :: dg m) ∧ Kp [] H H' := by
  have hd := dg_short (m := m) hm
  have hd2 := dg_short (m := m / 10) (by omega)
  have hd3 := dg_short (m := m % 10) (by omega)
  refine Ct.into 21 Tryd.func35 rfl [(0, i64 (-(m : Int)))] rfl ⟨rfl, trivial⟩ ?_
  refine E.seq ?_
  refine E.region ?_
  refine X.asg rfl rfl rfl rfl rfl ?_
  refine X.done [(0, _), (2, _)] ⟨rfl, rfl, trivial⟩ ?_
  refine N.then ?_
  refine E.seq ?_
  refine E.seq ?_
  refine E.region ?_
  refine X.mv rfl rfl rfl rfl rfl ?_
  refine X.geqF rfl rfl rfl rfl rfl rfl (by omega) ?_
  refine X.done [(0, _), (2, _), (4, _)] ⟨rfl, rfl, rfl, trivial⟩ ?_
  refine N.then ?_
  refine E.condF rfl ?_
  refine E.skip ?_
  refine N.then ?_
  refine E.seq ?_
  refine E.seq ?_
  refine E.region ?_
  refine X.mv rfl rfl rfl rfl rfl ?_
  refine X.gtr rfl rfl rfl rfl rfl rfl ?_
  refine X.done [(0, _), (2, _), (8, _)] ⟨rfl, rfl, rfl, trivial⟩ ?_
  refine N.then ?_
  refine E.condD rfl (fun hc => ?_) (fun hc => ?_)
  · refine E.seq ?_
    refine E.region ?_
    refine X.mv rfl rfl rfl rfl rfl ?_
    refine X.negE (zz := (m : Int)) rfl rfl rfl rfl rfl (by rw [IntWalk.i64_in _ (by omega)]; omega) ?_
    refine X.call rfl rfl rfl rfl rfl Tryd.cl42 (digits_ct m (by omega) H) ?_
    rintro _ H1 ⟨rfl, hk1⟩
    refine X.cat rfl rfl rfl rfl rfl rfl (by show 1 + (dg m).length ≤ _; omega) ?_
    refine X.asg rfl rfl rfl rfl rfl ?_
    refine X.done [(0, _), (2, _)] ⟨rfl, rfl, trivial⟩ ?_
    refine N.then ?_
    refine E.ret ?_
    refine N.thenR ?_
    exact N.retH [_] ⟨_, _, rfl, rfl, rfl⟩ ⟨rfl, hk1⟩
  · refine E.skip ?_
    refine N.then ?_
    refine E.seq ?_
    refine E.region ?_
    refine X.mv rfl rfl rfl rfl rfl ?_
    refine X.quoE (zz := -((m / 10 : Nat) : Int)) rfl rfl rfl rfl rfl rfl (by omega) (by rw [quo_neg, IntWalk.i64_in _ (by omega)]) ?_
    refine X.call rfl rfl rfl rfl rfl Tryd.cl35 (ih (m / 10) (by omega) (by omega) H) ?_
    rintro _ H1 ⟨rfl, hk1⟩
    refine X.mv rfl rfl rfl rfl rfl ?_
    refine X.remE (zz := -((m % 10 : Nat) : Int)) rfl rfl rfl rfl rfl rfl (by omega) (rem_neg m) ?_
    refine X.negE (zz := ((m % 10 : Nat) : Int)) rfl rfl rfl rfl rfl (by rw [IntWalk.i64_in _ (by omega)]; omega) ?_
    refine X.call rfl rfl rfl rfl rfl Tryd.cl42 (digits_ct (m % 10) (by omega) H1) ?_
    rintro _ H2 ⟨rfl, hk2⟩
    refine X.cat rfl rfl rfl rfl rfl rfl (by show (dg (m / 10)).length + 1 + (dg (m % 10)).length ≤ _; omega) ?_
    refine X.asg rfl rfl rfl rfl rfl ?_
    refine X.done [(2, _)] ⟨rfl, trivial⟩ ?_
    refine N.then ?_
    refine E.ret ?_
    exact N.retH [_] ⟨_, _, rfl, rfl, rfl⟩ ⟨by rw [dg_ge (m := m) (by omega), dg_lt (m := m % 10) (by omega)]; rfl, hk1.trans hk2 (by simp)⟩

theorem rnum_neg (m : Nat) (hm : m ≤ 9223372036854775808) (h0 : 0 < m) : ∀ H : Heap, Ct Tryd.prog 35 #[i64 (-(m : Int))] H fun v H' => v = str (45 :: dg m) ∧ Kp [] H H' := by
  induction m using Nat.strongRecOn with
  | ind m ih => exact fun H => rnum_step m (fun k hk hk0 => ih k hk (by omega) hk0) H hm h0
theorem rnumber_ct (n : Int) (H : Heap) (h : ok64 n) : Ct Tryd.prog 35 #[i64 n] H fun v H' => v = str (numV n) ∧ Kp [] H H' := by
  obtain ⟨h1, h2⟩ := h
  unfold numV
  by_cases hn : n < 0
  · rw [if_pos hn]
    obtain ⟨m, hm⟩ : ∃ m : Nat, n = -(m : Int) := ⟨n.natAbs, by omega⟩
    subst hm
    have e : (-(m : Int)).natAbs = m := by omega
    rw [e]
    exact rnum_neg m (by omega) (by omega) H
  · rw [if_neg hn]
    obtain ⟨m, rfl⟩ := Int.eq_ofNat_of_zero_le (show 0 ≤ n by omega)
    exact rnum_pos m H (by omega)

end Go.Proofs.YtaofjmaekpjkhaaDoor