/- The walks: the sets of texts and ranges, the three ways to make one of two. -/
import Derived.Test.YtcandjdomeompaaDoorZ3
namespace Go.Proofs.YtcandjdomeompaaDoor
open Go.SX Go.Chr
attribute [local irreducible] X E N Ct
set_option linter.unusedVariables false
set_option linter.unusedSimpArgs false

theorem sz24w {ws : List Nat} (h : Ws ws) : (Tryd.prog.info? 36).map (·.size) = some (uv ws).length := by rw [uv4 h]; exact Tryd.sz36
def nb (s : Bs) : List Nat := s.map (·.toNat)
theorem nb_lt {s : Bs} : ∀ c ∈ nb s, c < 256 := by
  intro c hc
  obtain ⟨x, _, rfl⟩ := List.mem_map.1 hc
  exact x.toNat_lt
theorem of_step {s : Bs} {i : Nat} {cb : UInt8} (h : s[i]? = some cb) : ofL (nb (s.take (i + 1))) = setb (ofL (nb (s.take i))) cb.toNat := by
  rw [List.take_add_one, h]; simp only [nb, List.map_append]; exact ofL_snoc _ _
theorem of_all {s : Bs} {i : Nat} (h : s.length ≤ i) : ofL (nb (s.take i)) = ofL (nb s) := by rw [List.take_of_length_le h]
theorem ws_of (s : Bs) : Ws (ofL (nb s)) := ws_ofL nb_lt
theorem zero_cells : ([.int .u64 0, .int .u64 0, .int .u64 0, .int .u64 0] : List Value) = uv z4 := rfl
theorem ws_rg (a b n : Nat) (h : n ≤ 256) : Ws (ofL (flt (rg a b) n)) := ws_ofL (fun c hc => Nat.lt_of_lt_of_le (flt_lt hc) h)
theorem rg_yes {a b n : Nat} (h : a ≤ n ∧ n ≤ b) : ofL (flt (rg a b) (n + 1)) = setb (ofL (flt (rg a b) n)) n := by
  rw [flt_succ, rg, decide_eq_true h.1, decide_eq_true h.2, Bool.and_self, if_pos rfl, ofL_snoc]
theorem rg_no {a b n : Nat} (h : ¬ (a ≤ n ∧ n ≤ b)) : ofL (flt (rg a b) (n + 1)) = ofL (flt (rg a b) n) := by
  have : rg a b n = false := by
    rw [rg, ← Bool.decide_and]; exact decide_eq_false h
  rw [flt_succ, this]; rfl
theorem rg_start (a b : Nat) : ofL (flt (rg a b) a) = z4 := by
  rw [flt_stop (n := 0) (Nat.zero_le _) (fun c _ h => by rw [rg, decide_eq_false (Nat.not_le.2 h)]; rfl)]; rfl
theorem rg_end {a b c : Nat} (h : b < c) (hc : c ≤ 256) : ofL (flt (rg a b) c) = ofL (flt (rg a b) 256) := by
  rw [flt_stop (m := 256) hc (fun d h1 _ => by rw [rg, decide_eq_false (show ¬ d ≤ b by omega), Bool.and_false])]
theorem rhas_bt (ws : List Nat) (c : Nat) (H : Heap) (hw : Ws ws) (hc8 : c ≤ 255) : Ct Tryd.prog 54 #[agg4 ws, .int .u8 c] H fun v H' => v = .bool (bt ws c) ∧ Kp [] H H' :=
  (rhas_ct ws c H hw hc8).mono fun v H' h => by rw [← dec_bt]; exact h
/-- Which of the words are made anew. -/
def mid (g : Nat → Nat → Nat) (ws vs : List Nat) (i : Nat) : List Nat := mk4 fun j => if j < i then g (wd ws j) (wd vs j) else wd ws j
theorem mid_zero (g : Nat → Nat → Nat) {ws vs : List Nat} (h : Ws ws) : mid g ws vs 0 = ws := by
  conv => rhs; rw [eq_mk4 h.len]
  exact mk4_congr (fun j _ => if_neg (Nat.not_lt_zero _))
theorem mid_four (g : Nat → Nat → Nat) (ws vs : List Nat) : mid g ws vs 4 = mk4 fun j => g (wd ws j) (wd vs j) := mk4_congr (fun j h => if_pos h)
theorem mid_wd (g : Nat → Nat → Nat) (ws vs : List Nat) {i : Nat} (h : i < 4) : wd (mid g ws vs i) i = wd ws i := by
  rw [mid, wd_mk4 _ h, if_neg (Nat.lt_irrefl _)]
theorem mid_at (g : Nat → Nat → Nat) (ws vs : List Nat) {i : Nat} (h : i < 4) : (uv (mid g ws vs i))[0 + (i : Int).toNat * 1]? = some (.int .u64 ((wd ws i : Nat) : Int)) := by
  rw [Int.toNat_natCast, Nat.zero_add, Nat.mul_one, ← mid_wd g ws vs h]
  apply uv_get
  rw [mid]
  match i, h with
  | 0, _ => rfl
  | 1, _ => rfl
  | 2, _ => rfl
  | 3, _ => rfl
theorem mid_step (g : Nat → Nat → Nat) (ws vs : List Nat) {i : Nat} (h : i < 4) : (uv (mid g ws vs i)).set (0 + (i : Int).toNat * 1) (.int .u64 ((g (wd ws i) (wd vs i) : Nat) : Int)) = uv (mid g ws vs (i + 1)) := by
  rw [Int.toNat_natCast, Nat.zero_add, Nat.mul_one, uv_set, mid, mk4_set _ _ h]
  congr 1
  apply mk4_congr
  intro j hj
  by_cases e : j = i
  · rw [if_pos e, e, if_pos (by omega)]
  · rw [if_neg e]
    by_cases e2 : j < i
    · rw [if_pos e2, if_pos (by omega)]
    · rw [if_neg e2, if_neg (by omega)]
theorem mid_len (g : Nat → Nat → Nat) (ws vs : List Nat) (i : Nat) : (uv (mid g ws vs i)).length = 4 := rfl



theorem range_ct (a b : Nat) (H : Heap) (ha : a < 256) (hb : b < 256) : Ct Tryd.prog 70 #[.int .u8 a, .int .u8 b] H fun v H' => v = agg4 (ofL (flt (rg a b) 256)) ∧ Kp [] H H' := by
  refine Ct.into 32 Tryd.func70 rfl [(0, .int .u8 a), (1, .int .u8 b)] rfl ⟨rfl, rfl, trivial⟩ ?_
  refine E.seq ?_
  refine E.region ?_
  refine X.alloc (z := .agg ([.int .u64 0, .int .u64 0, .int .u64 0, .int .u64 0] : List Value).toArray) (cs := [.int .u64 0, .int .u64 0, .int .u64 0, .int .u64 0]) rfl rfl rfl rfl (by kernel_rfl) rfl ?_
  intro bc H1 hn1 hbc hk1
  refine X.done [(0, _), (1, _), (4, _)] ⟨rfl, rfl, rfl, trivial⟩ ?_
  refine N.then ?_
  refine E.seq ?_
  refine E.region ?_
  refine X.alloc (z := .agg ([.int .u64 0, .int .u64 0, .int .u64 0, .int .u64 0] : List Value).toArray) (cs := [.int .u64 0, .int .u64 0, .int .u64 0, .int .u64 0]) rfl rfl rfl rfl (by kernel_rfl) rfl ?_
  intro bv H2 hn2 hbv hk2
  have hlt := lt_of hbc
  have hne : bc ≠ bv := by omega
  replace hbc := hk2.keep hbc (by simp)
  have hkk := hk1.trans hk2 (by simp)
  have hnv : H.size ≤ bv := Nat.le_trans hk1.size hn2
  refine X.done [(0, _), (1, _), (4, _), (5, _)] ⟨rfl, rfl, rfl, rfl, trivial⟩ ?_
  refine N.then ?_
  refine E.seq ?_
  refine E.seq ?_
  refine E.region ?_
  refine X.mv rfl rfl rfl rfl rfl ?_
  refine X.done [(0, _), (1, _), (4, _), (5, _), (7, _)] ⟨rfl, rfl, rfl, rfl, rfl, trivial⟩ ?_
  refine N.then ?_
  refine E.block ?_
  refine E.loop (fun (i : Nat) => [(0, .int .u8 a), (1, .int .u8 b), (4, ptr bc), (5, ptr bv), (7, i64 i)]) (fun (i : Nat) H' => i ≤ 256 ∧ H'[bc]? = some (.cells (uv z4).toArray 36 (0, 0)) ∧ H'[bv]? = some (.cells (uv (ofL (flt (rg a b) i))).toArray 36 (0, 0)) ∧ Kp [] H H') (fun (i : Nat) => 256 - i) 0 ⟨rfl, rfl, rfl, rfl, rfl, trivial⟩ ⟨Nat.zero_le _, hbc, hbv, hkk⟩ ?_
  rintro i H3 ⟨hi, hbc, hbv, hkk⟩
  obtain ⟨ws, hws⟩ : ∃ ws, ofL (flt (rg a b) i) = ws := ⟨_, rfl⟩
  have hw : Ws ws := hws ▸ ws_rg a b i (by omega)
  rw [hws] at hbv
  refine E.seq ?_
  refine E.region ?_
  refine X.lss rfl rfl rfl rfl rfl rfl ?_
  refine X.done [(0, _), (1, _), (4, _), (5, _), (7, _), (8, _)] ⟨rfl, rfl, rfl, rfl, rfl, rfl, trivial⟩ ?_
  refine N.then ?_
  refine E.seq ?_
  refine E.condD rfl (fun hc => ?_) (fun hc => ?_)
  · refine E.skip ?_
    refine N.then ?_
    refine E.seq ?_
    refine E.block ?_
    refine E.seq ?_
    refine E.region ?_
    refine X.mv rfl rfl rfl rfl rfl ?_
    refine X.asg rfl rfl rfl rfl rfl ?_
    refine X.done [(0, _), (1, _), (4, _), (5, _), (7, _), (8, _), (9, _), (6, _)] ⟨rfl, rfl, rfl, rfl, rfl, rfl, rfl, rfl, trivial⟩ ?_
    refine N.then ?_
    refine E.seq ?_
    refine E.region ?_
    refine X.mv rfl rfl rfl rfl rfl ?_
    refine X.mv rfl rfl rfl rfl rfl ?_
    refine X.convE (zz := (a : Int)) rfl rfl rfl rfl rfl Tryd.underlying3 Tryd.us5 (IntWalk.i64_in _ (by omega)) ?_
    refine X.geqC rfl rfl rfl rfl rfl rfl (fun hc => ?_) (fun hc => ?_)
    · refine X.mv rfl rfl rfl rfl rfl ?_
      refine X.mv rfl rfl rfl rfl rfl ?_
      refine X.mv rfl rfl rfl rfl rfl ?_
      refine X.convE (zz := (b : Int)) rfl rfl rfl rfl rfl Tryd.underlying3 Tryd.us5 (IntWalk.i64_in _ (by omega)) ?_
      refine X.leq rfl rfl rfl rfl rfl rfl ?_
      refine X.pickT rfl rfl rfl rfl rfl rfl ?_
      refine X.done [(0, _), (1, _), (4, _), (5, _), (7, _), (8, _), (9, _), (6, _), (10, _), (11, _), (12, _), (13, _), (14, _), (15, _), (16, _), (17, _), (18, _), (19, _)] ⟨rfl, rfl, rfl, rfl, rfl, rfl, rfl, rfl, rfl, rfl, rfl, rfl, rfl, rfl, rfl, rfl, rfl, rfl, trivial⟩ ?_
      refine N.then ?_
      refine E.condD rfl (fun hc => ?_) (fun hc => ?_)
      · refine E.region ?_
        refine X.mv rfl rfl rfl rfl rfl ?_
        refine X.quoE (zz := ((i / 64 : Nat) : Int)) rfl rfl rfl rfl rfl rfl (by omega) (by rw [IntWalk.i64_quo _ _ (by omega)] <;> omega) ?_
        refine X.ixP rfl rfl rfl rfl rfl rfl Tryd.underlying36 Tryd.sz34 (by omega) ?_
        refine X.ld rfl rfl rfl rfl Tryd.ag34 (hbv) (uv_at hw (by omega)) ?_
        refine X.mv rfl rfl rfl rfl rfl ?_
        refine X.remE (zz := ((i % 64 : Nat) : Int)) rfl rfl rfl rfl rfl rfl (by omega) (by rw [IntWalk.rem_in _ _ (by omega)] <;> omega) ?_
        refine X.convE (zz := ((i % 64 : Nat) : Int)) rfl rfl rfl rfl rfl Tryd.underlying69 Tryd.us3 (IntWalk.u64_in _ (by omega)) ?_
        refine X.shlE (zz := ((2 ^ (i % 64) : Nat) : Int)) rfl rfl rfl rfl rfl rfl (by omega) (shl1 rfl) ?_
        refine X.borE (zz := ((wd ws (i / 64) ||| 2 ^ (i % 64) : Nat) : Int)) rfl rfl rfl rfl rfl rfl (or64 rfl rfl (hw.get (show i / 64 < 4 by omega)).2 (bitw_lt i)) ?_
        refine X.ixP rfl rfl rfl rfl rfl rfl Tryd.underlying36 Tryd.sz34 (by omega) ?_
        refine X.st rfl rfl rfl rfl rfl rfl rfl Tryd.sz34 hbv (by rw [uv4 hw]; show 0 + i / 64 * 1 < 4; omega) ?_
        intro H5 hb5 hk5
        rw [uv_setb hw (by omega)] at hb5
        refine X.done [(0, _), (1, _), (4, _), (5, _), (7, _), (8, _), (9, _), (6, _), (10, _), (11, _), (12, _), (13, _), (14, _), (15, _), (16, _), (17, _), (18, _), (19, _), (20, _), (21, _), (22, _), (23, _), (24, _), (25, _), (26, _), (27, _), (28, _), (29, _)] ⟨rfl, rfl, rfl, rfl, rfl, rfl, rfl, rfl, rfl, rfl, rfl, rfl, rfl, rfl, rfl, rfl, rfl, rfl, rfl, rfl, rfl, rfl, rfl, rfl, rfl, rfl, rfl, rfl, trivial⟩ ?_
        refine N.blk ?_
        refine N.then ?_
        refine E.region ?_
        refine X.add rfl rfl rfl rfl rfl rfl (by omega) ?_
        refine X.mv rfl rfl rfl rfl rfl ?_
        refine X.done [(0, _), (1, _), (4, _), (5, _), (7, _), (8, _), (9, _), (6, _), (10, _), (11, _), (12, _), (13, _), (14, _), (15, _), (16, _), (17, _), (18, _), (19, _), (20, _), (21, _), (22, _), (23, _), (24, _), (25, _), (26, _), (27, _), (28, _), (29, _), (30, _)] ⟨rfl, rfl, rfl, rfl, rfl, rfl, rfl, rfl, rfl, rfl, rfl, rfl, rfl, rfl, rfl, rfl, rfl, rfl, rfl, rfl, rfl, rfl, rfl, rfl, rfl, rfl, rfl, rfl, rfl, trivial⟩ ?_
        first | exact N.next (i + 1) ⟨rfl, rfl, rfl, rfl, rfl, trivial⟩ ⟨by omega, hk5.keep hbc (by simp; exact hne), by rw [rg_yes (by omega), hws]; exact hb5, hkk.trans hk5 (by simp; exact hnv)⟩ (by omega) | exact N.next (i + 1) ⟨rfl, rfl, rfl, rfl, rfl, trivial⟩ ⟨by omega, hbc, by rw [rg_no (by omega), hws]; exact hbv, hkk⟩ (by omega)
      · refine E.skip ?_
        refine N.blk ?_
        refine N.then ?_
        refine E.region ?_
        refine X.add rfl rfl rfl rfl rfl rfl (by omega) ?_
        refine X.mv rfl rfl rfl rfl rfl ?_
        refine X.done [(0, _), (1, _), (4, _), (5, _), (7, _), (8, _), (9, _), (6, _), (10, _), (11, _), (12, _), (13, _), (14, _), (15, _), (16, _), (17, _), (18, _), (19, _), (30, _)] ⟨rfl, rfl, rfl, rfl, rfl, rfl, rfl, rfl, rfl, rfl, rfl, rfl, rfl, rfl, rfl, rfl, rfl, rfl, rfl, trivial⟩ ?_
        first | exact N.next (i + 1) ⟨rfl, rfl, rfl, rfl, rfl, trivial⟩ ⟨by omega, hk5.keep hbc (by simp; exact hne), by rw [rg_yes (by omega), hws]; exact hb5, hkk.trans hk5 (by simp; exact hnv)⟩ (by omega) | exact N.next (i + 1) ⟨rfl, rfl, rfl, rfl, rfl, trivial⟩ ⟨by omega, hbc, by rw [rg_no (by omega), hws]; exact hbv, hkk⟩ (by omega)
    · refine X.mv rfl rfl rfl rfl rfl ?_
      refine X.skip rfl rfl rfl ?_
      refine X.skip rfl rfl rfl ?_
      refine X.skip rfl rfl rfl ?_
      refine X.skip rfl rfl rfl ?_
      refine X.pickF rfl rfl rfl rfl rfl rfl ?_
      refine X.done [(0, _), (1, _), (4, _), (5, _), (7, _), (8, _), (9, _), (6, _), (10, _), (11, _), (12, _), (13, _), (14, _), (15, _), (16, _), (17, _), (18, _), (19, _)] ⟨rfl, rfl, rfl, rfl, rfl, rfl, rfl, rfl, rfl, rfl, rfl, rfl, rfl, rfl, rfl, rfl, rfl, rfl, trivial⟩ ?_
      refine N.then ?_
      refine E.condF rfl ?_
      refine E.skip ?_
      refine N.blk ?_
      refine N.then ?_
      refine E.region ?_
      refine X.add rfl rfl rfl rfl rfl rfl (by omega) ?_
      refine X.mv rfl rfl rfl rfl rfl ?_
      refine X.done [(0, _), (1, _), (4, _), (5, _), (7, _), (8, _), (9, _), (6, _), (10, _), (11, _), (12, _), (13, _), (14, _), (15, _), (16, _), (17, _), (18, _), (19, _), (30, _)] ⟨rfl, rfl, rfl, rfl, rfl, rfl, rfl, rfl, rfl, rfl, rfl, rfl, rfl, rfl, rfl, rfl, rfl, rfl, rfl, trivial⟩ ?_
      first | exact N.next (i + 1) ⟨rfl, rfl, rfl, rfl, rfl, trivial⟩ ⟨by omega, hk5.keep hbc (by simp; exact hne), by rw [rg_yes (by omega), hws]; exact hb5, hkk.trans hk5 (by simp; exact hnv)⟩ (by omega) | exact N.next (i + 1) ⟨rfl, rfl, rfl, rfl, rfl, trivial⟩ ⟨by omega, hbc, by rw [rg_no (by omega), hws]; exact hbv, hkk⟩ (by omega)
  · refine E.exit ?_
    refine N.thenX ?_
    refine N.loopX ?_
    refine N.blkX ?_
    refine N.then ?_
    refine E.seq ?_
    refine E.region ?_
    refine X.ldA rfl rfl rfl rfl Tryd.ag36 Tryd.sz36 (hbv) (uv4 hw) zoff ?_
    refine X.stA rfl rfl rfl rfl rfl rfl (uv_one _) (sz24w hw) hbc (by rw [uv4 hw]; decide) ?_
    intro H6 hb6 hk6
    rw [splice_all (by rw [uv4 hw]; rfl)] at hb6
    refine X.done [(4, _)] ⟨rfl, trivial⟩ ?_
    refine N.then ?_
    refine E.ret ?_
    exact N.retH [_] ⟨_, _, _, 0, rfl, rfl, loadsA Tryd.ag36 Tryd.sz36 hb6 (by first | rfl | exact uv4 hw) zoff, rfl⟩ ⟨by rw [← hws, show i = 256 by omega]; rfl, hkk.trans hk6 (by simp; omega)⟩


theorem not64 {x : Nat} {p : Int} (hp : p = x) (h : x < 2 ^ 64) : IntKind.u64.wrap (BitVec.ofInt 64 18446744073709551615 ^^^ BitVec.ofInt 64 p).toNat = ((2 ^ 64 - 1 - x : Nat) : Int) := by
  subst hp
  have e1 : BitVec.ofInt 64 18446744073709551615 = BitVec.allOnes 64 := by decide
  have e2 : BitVec.ofInt 64 (x : Int) = BitVec.ofNat 64 x := BitVec.ofInt_natCast _ _
  rw [e1, e2, BitVec.allOnes_xor, BitVec.toNat_not, BitVec.toNat_ofNat, Nat.mod_eq_of_lt h]
  exact IntWalk.u64_in _ (by omega)

theorem not1_ct (x y : Nat) (H : Heap) (hx : x < 2 ^ 64) (hy : y < 2 ^ 64) : Ct Tryd.prog 53 #[.int .u64 x, .int .u64 y] H fun v H' => v = .int .u64 ((2 ^ 64 - 1 - x : Nat) : Int) ∧ H' = H := by
  refine Ct.into 7 Tryd.func53 rfl [(0, .int .u64 x), (1, .int .u64 y)] rfl ⟨rfl, rfl, trivial⟩ ?_
  refine E.seq ?_
  refine E.region ?_
  refine X.asg rfl rfl rfl rfl rfl ?_
  refine X.done [(0, _), (4, _)] ⟨rfl, rfl, trivial⟩ ?_
  refine N.then ?_
  refine E.seq ?_
  refine E.region ?_
  refine X.mv rfl rfl rfl rfl rfl ?_
  refine X.bnotE (zz := ((2 ^ 64 - 1 - x : Nat) : Int)) rfl rfl rfl rfl rfl (not64 rfl hx) ?_
  refine X.asg rfl rfl rfl rfl rfl ?_
  refine X.done [(4, _)] ⟨rfl, trivial⟩ ?_
  refine N.then ?_
  refine E.ret ?_
  exact N.retH [_] ⟨_, _, rfl, rfl, rfl⟩ ⟨rfl, rfl⟩

theorem each_not1 (ws vs : List Nat) (H : Heap) (hw : Ws ws) (hv : Ws vs) : Ct Tryd.prog 52 #[agg4 ws, agg4 vs, .func (.func 53) #[] #[]] H fun v H' => v = agg4 (mid (fun x y => 2 ^ 64 - 1 - x) ws vs 4) ∧ Kp [] H H' := by
  refine Ct.into 23 Tryd.func52 rfl [(0, agg4 ws), (1, agg4 vs), (2, .func (.func 53) #[] #[])] rfl ⟨rfl, rfl, rfl, trivial⟩ ?_
  refine E.seq ?_
  refine E.region ?_
  refine X.box rfl rfl rfl rfl rfl rfl ?_
  intro ba H1 hn1 hba hk1
  refine X.box rfl rfl rfl rfl rfl rfl ?_
  intro bb H2 hn2 hbb hk2
  have hlt := lt_of hba
  have hne : ba ≠ bb := by omega
  replace hba := hk2.keep hba (by simp)
  have hkk := hk1.trans hk2 (by simp)
  have hna : H.size ≤ ba := hn1
  rw [← mid_zero (fun x y => 2 ^ 64 - 1 - x) (vs := vs) hw] at hba
  refine X.alloc (z := .agg ([.int .u64 0, .int .u64 0, .int .u64 0, .int .u64 0] : List Value).toArray) (cs := [.int .u64 0, .int .u64 0, .int .u64 0, .int .u64 0]) rfl rfl rfl rfl (by kernel_rfl) rfl ?_
  intro bc H3 hn3 hbc hk3
  have hltb := lt_of hbb
  have hlta := lt_of hba
  have hne2 : ba ≠ bc := by omega
  replace hba := hk3.keep hba (by simp)
  replace hbb := hk3.keep hbb (by simp)
  replace hkk := hkk.trans hk3 (by simp)
  have hnc : H.size ≤ bc := Nat.le_trans (Nat.le_trans hk1.size hk2.size) hn3
  refine X.done [(2, _), (3, _), (4, _), (6, _)] ⟨rfl, rfl, rfl, rfl, trivial⟩ ?_
  refine N.then ?_
  refine E.seq ?_
  refine E.seq ?_
  refine E.region ?_
  refine X.mv rfl rfl rfl rfl rfl ?_
  refine X.done [(2, _), (3, _), (4, _), (6, _), (8, _)] ⟨rfl, rfl, rfl, rfl, rfl, trivial⟩ ?_
  refine N.then ?_
  refine E.block ?_
  refine E.loop (fun (i : Nat) => [(2, .func (.func 53) #[] #[]), (3, ptr ba), (4, ptr bb), (6, ptr bc), (8, i64 i)]) (fun (i : Nat) H' => i ≤ 4 ∧ H'[ba]? = some (.cells (uv (mid (fun x y => 2 ^ 64 - 1 - x) ws vs i)).toArray 36 (0, 0)) ∧ H'[bb]? = some (.cells (uv vs).toArray 36 (0, 0)) ∧ H'[bc]? = some (.cells (uv z4).toArray 36 (0, 0)) ∧ Kp [] H H') (fun (i : Nat) => 4 - i) 0 ⟨rfl, rfl, rfl, rfl, rfl, trivial⟩ ⟨Nat.zero_le _, hba, hbb, hbc, hkk⟩ ?_
  rintro i H4 ⟨hi, hba, hbb, hbc, hkk⟩
  refine E.seq ?_
  refine E.region ?_
  refine X.lss rfl rfl rfl rfl rfl rfl ?_
  refine X.done [(2, _), (3, _), (4, _), (6, _), (8, _), (9, _)] ⟨rfl, rfl, rfl, rfl, rfl, rfl, trivial⟩ ?_
  refine N.then ?_
  refine E.seq ?_
  refine E.condD rfl (fun hc => ?_) (fun hc => ?_)
  · refine E.skip ?_
    refine N.then ?_
    refine E.seq ?_
    refine E.block ?_
    refine E.seq ?_
    refine E.region ?_
    refine X.mv rfl rfl rfl rfl rfl ?_
    refine X.asg rfl rfl rfl rfl rfl ?_
    refine X.done [(2, _), (3, _), (4, _), (6, _), (8, _), (9, _), (10, _), (7, _)] ⟨rfl, rfl, rfl, rfl, rfl, rfl, rfl, rfl, trivial⟩ ?_
    refine N.then ?_
    refine E.regionD (fun H' => H'[ba]? = some (.cells (uv (mid (fun x y => 2 ^ 64 - 1 - x) ws vs i)).toArray 36 (0, 0)) ∧ H'[bb]? = some (.cells (uv vs).toArray 36 (0, 0))) [(0, .pu), (1, .pu), (2, .pu), (3, .pu), (4, .st), (5, .pu), (6, .pu), (7, .st), (8, .mv), (9, .pu), (10, .mv)] Tryd.mixed (by kernel_rfl) (⟨hba, hbb⟩) ?_
    refine X.mv rfl rfl rfl rfl rfl ?_
    refine X.mv rfl rfl rfl rfl rfl ?_
    refine X.mv rfl rfl rfl rfl rfl ?_
    refine X.ixP rfl rfl rfl rfl rfl rfl Tryd.underlying36 Tryd.sz34 (by omega) ?_
    refine X.ld rfl rfl rfl rfl Tryd.ag34 (fun H' hF => hF.1) (mid_at (fun x y => 2 ^ 64 - 1 - x) ws vs (by omega)) ?_
    refine X.mv rfl rfl rfl rfl rfl ?_
    refine X.ixP rfl rfl rfl rfl rfl rfl Tryd.underlying36 Tryd.sz34 (by omega) ?_
    refine X.ld rfl rfl rfl rfl Tryd.ag34 (fun H' hF => hF.2) (by exact uv_at hv (by omega)) ?_
    refine X.callv rfl rfl rfl rfl rfl rfl Tryd.cl53 (not1_ct (wd ws i) (wd vs i) H4 (hw.get (by omega)).2 (hv.get (by omega)).2) ?_
    rintro _ H9 ⟨rfl, eH9⟩
    obtain rfl := eH9.symm
    refine X.ixP rfl rfl rfl rfl rfl rfl Tryd.underlying36 Tryd.sz34 (by omega) ?_
    refine X.st rfl rfl rfl rfl rfl rfl rfl Tryd.sz34 hba (by rw [mid_len]; show 0 + i * 1 < 4; omega) ?_
    intro H5 hb5 hk5
    have hb5 := hb5.trans (congrArg (fun q => some (Obj.cells (List.toArray q) 36 (0, 0))) (mid_step (fun x y => 2 ^ 64 - 1 - x) ws vs (show i < 4 by omega)))
    refine X.done [(2, _), (3, _), (4, _), (6, _), (8, _), (9, _), (10, _), (7, _), (11, _), (12, _), (13, _), (14, _), (15, _), (16, _), (17, _), (18, _), (19, _), (20, _)] ⟨rfl, rfl, rfl, rfl, rfl, rfl, rfl, rfl, rfl, rfl, rfl, rfl, rfl, rfl, rfl, rfl, rfl, rfl, trivial⟩ ?_
    refine N.blk ?_
    refine N.then ?_
    refine E.region ?_
    refine X.add rfl rfl rfl rfl rfl rfl (by omega) ?_
    refine X.mv rfl rfl rfl rfl rfl ?_
    refine X.done [(2, _), (3, _), (4, _), (6, _), (8, _), (9, _), (10, _), (7, _), (11, _), (12, _), (13, _), (14, _), (15, _), (16, _), (17, _), (18, _), (19, _), (20, _), (21, _)] ⟨rfl, rfl, rfl, rfl, rfl, rfl, rfl, rfl, rfl, rfl, rfl, rfl, rfl, rfl, rfl, rfl, rfl, rfl, rfl, trivial⟩ ?_
    exact N.next (i + 1) ⟨rfl, rfl, rfl, rfl, rfl, trivial⟩ ⟨by omega, hb5, hk5.keep hbb (by simp; exact Ne.symm hne), hk5.keep hbc (by simp; exact Ne.symm hne2), hkk.trans hk5 (by simp; exact hna)⟩ (by omega)
  · refine E.exit ?_
    refine N.thenX ?_
    refine N.loopX ?_
    refine N.blkX ?_
    refine N.then ?_
    refine E.seq ?_
    refine E.region ?_
    refine X.ldA rfl rfl rfl rfl Tryd.ag36 Tryd.sz36 (hba) (mid_len (fun x y => 2 ^ 64 - 1 - x) ws vs i) zoff ?_
    refine X.stA rfl rfl rfl rfl rfl rfl (uv_one _) Tryd.sz36 hbc (by rw [mid_len]; decide) ?_
    intro H6 hb6 hk6
    rw [splice_all (by rw [mid_len]; rfl)] at hb6
    refine X.done [(6, _)] ⟨rfl, trivial⟩ ?_
    refine N.then ?_
    refine E.ret ?_
    exact N.retH [_] ⟨_, _, _, 0, rfl, rfl, loadsA Tryd.ag36 Tryd.sz36 hb6 (by first | rfl | exact uv4 hw) zoff, rfl⟩ ⟨by rw [show i = 4 by omega]; rfl, hkk.trans hk6 (by simp; exact hnc)⟩

theorem or1_ct (x y : Nat) (H : Heap) (hx : x < 2 ^ 64) (hy : y < 2 ^ 64) : Ct Tryd.prog 71 #[.int .u64 x, .int .u64 y] H fun v H' => v = .int .u64 ((x ||| y : Nat) : Int) ∧ H' = H := by
  refine Ct.into 8 Tryd.func71 rfl [(0, .int .u64 x), (1, .int .u64 y)] rfl ⟨rfl, rfl, trivial⟩ ?_
  refine E.seq ?_
  refine E.region ?_
  refine X.asg rfl rfl rfl rfl rfl ?_
  refine X.done [(0, _), (1, _), (4, _)] ⟨rfl, rfl, rfl, trivial⟩ ?_
  refine N.then ?_
  refine E.seq ?_
  refine E.region ?_
  refine X.mv rfl rfl rfl rfl rfl ?_
  refine X.mv rfl rfl rfl rfl rfl ?_
  refine X.borE (zz := ((x ||| y : Nat) : Int)) rfl rfl rfl rfl rfl rfl (or64 rfl rfl hx hy) ?_
  refine X.asg rfl rfl rfl rfl rfl ?_
  refine X.done [(4, _)] ⟨rfl, trivial⟩ ?_
  refine N.then ?_
  refine E.ret ?_
  exact N.retH [_] ⟨_, _, rfl, rfl, rfl⟩ ⟨rfl, rfl⟩

theorem each_or1 (ws vs : List Nat) (H : Heap) (hw : Ws ws) (hv : Ws vs) : Ct Tryd.prog 52 #[agg4 ws, agg4 vs, .func (.func 71) #[] #[]] H fun v H' => v = agg4 (mid (fun x y => x ||| y) ws vs 4) ∧ Kp [] H H' := by
  refine Ct.into 23 Tryd.func52 rfl [(0, agg4 ws), (1, agg4 vs), (2, .func (.func 71) #[] #[])] rfl ⟨rfl, rfl, rfl, trivial⟩ ?_
  refine E.seq ?_
  refine E.region ?_
  refine X.box rfl rfl rfl rfl rfl rfl ?_
  intro ba H1 hn1 hba hk1
  refine X.box rfl rfl rfl rfl rfl rfl ?_
  intro bb H2 hn2 hbb hk2
  have hlt := lt_of hba
  have hne : ba ≠ bb := by omega
  replace hba := hk2.keep hba (by simp)
  have hkk := hk1.trans hk2 (by simp)
  have hna : H.size ≤ ba := hn1
  rw [← mid_zero (fun x y => x ||| y) (vs := vs) hw] at hba
  refine X.alloc (z := .agg ([.int .u64 0, .int .u64 0, .int .u64 0, .int .u64 0] : List Value).toArray) (cs := [.int .u64 0, .int .u64 0, .int .u64 0, .int .u64 0]) rfl rfl rfl rfl (by kernel_rfl) rfl ?_
  intro bc H3 hn3 hbc hk3
  have hltb := lt_of hbb
  have hlta := lt_of hba
  have hne2 : ba ≠ bc := by omega
  replace hba := hk3.keep hba (by simp)
  replace hbb := hk3.keep hbb (by simp)
  replace hkk := hkk.trans hk3 (by simp)
  have hnc : H.size ≤ bc := Nat.le_trans (Nat.le_trans hk1.size hk2.size) hn3
  refine X.done [(2, _), (3, _), (4, _), (6, _)] ⟨rfl, rfl, rfl, rfl, trivial⟩ ?_
  refine N.then ?_
  refine E.seq ?_
  refine E.seq ?_
  refine E.region ?_
  refine X.mv rfl rfl rfl rfl rfl ?_
  refine X.done [(2, _), (3, _), (4, _), (6, _), (8, _)] ⟨rfl, rfl, rfl, rfl, rfl, trivial⟩ ?_
  refine N.then ?_
  refine E.block ?_
  refine E.loop (fun (i : Nat) => [(2, .func (.func 71) #[] #[]), (3, ptr ba), (4, ptr bb), (6, ptr bc), (8, i64 i)]) (fun (i : Nat) H' => i ≤ 4 ∧ H'[ba]? = some (.cells (uv (mid (fun x y => x ||| y) ws vs i)).toArray 36 (0, 0)) ∧ H'[bb]? = some (.cells (uv vs).toArray 36 (0, 0)) ∧ H'[bc]? = some (.cells (uv z4).toArray 36 (0, 0)) ∧ Kp [] H H') (fun (i : Nat) => 4 - i) 0 ⟨rfl, rfl, rfl, rfl, rfl, trivial⟩ ⟨Nat.zero_le _, hba, hbb, hbc, hkk⟩ ?_
  rintro i H4 ⟨hi, hba, hbb, hbc, hkk⟩
  refine E.seq ?_
  refine E.region ?_
  refine X.lss rfl rfl rfl rfl rfl rfl ?_
  refine X.done [(2, _), (3, _), (4, _), (6, _), (8, _), (9, _)] ⟨rfl, rfl, rfl, rfl, rfl, rfl, trivial⟩ ?_
  refine N.then ?_
  refine E.seq ?_
  refine E.condD rfl (fun hc => ?_) (fun hc => ?_)
  · refine E.skip ?_
    refine N.then ?_
    refine E.seq ?_
    refine E.block ?_
    refine E.seq ?_
    refine E.region ?_
    refine X.mv rfl rfl rfl rfl rfl ?_
    refine X.asg rfl rfl rfl rfl rfl ?_
    refine X.done [(2, _), (3, _), (4, _), (6, _), (8, _), (9, _), (10, _), (7, _)] ⟨rfl, rfl, rfl, rfl, rfl, rfl, rfl, rfl, trivial⟩ ?_
    refine N.then ?_
    refine E.regionD (fun H' => H'[ba]? = some (.cells (uv (mid (fun x y => x ||| y) ws vs i)).toArray 36 (0, 0)) ∧ H'[bb]? = some (.cells (uv vs).toArray 36 (0, 0))) [(0, .pu), (1, .pu), (2, .pu), (3, .pu), (4, .st), (5, .pu), (6, .pu), (7, .st), (8, .mv), (9, .pu), (10, .mv)] Tryd.mixed (by kernel_rfl) (⟨hba, hbb⟩) ?_
    refine X.mv rfl rfl rfl rfl rfl ?_
    refine X.mv rfl rfl rfl rfl rfl ?_
    refine X.mv rfl rfl rfl rfl rfl ?_
    refine X.ixP rfl rfl rfl rfl rfl rfl Tryd.underlying36 Tryd.sz34 (by omega) ?_
    refine X.ld rfl rfl rfl rfl Tryd.ag34 (fun H' hF => hF.1) (mid_at (fun x y => x ||| y) ws vs (by omega)) ?_
    refine X.mv rfl rfl rfl rfl rfl ?_
    refine X.ixP rfl rfl rfl rfl rfl rfl Tryd.underlying36 Tryd.sz34 (by omega) ?_
    refine X.ld rfl rfl rfl rfl Tryd.ag34 (fun H' hF => hF.2) (by exact uv_at hv (by omega)) ?_
    refine X.callv rfl rfl rfl rfl rfl rfl Tryd.cl71 (or1_ct (wd ws i) (wd vs i) H4 (hw.get (by omega)).2 (hv.get (by omega)).2) ?_
    rintro _ H9 ⟨rfl, eH9⟩
    obtain rfl := eH9.symm
    refine X.ixP rfl rfl rfl rfl rfl rfl Tryd.underlying36 Tryd.sz34 (by omega) ?_
    refine X.st rfl rfl rfl rfl rfl rfl rfl Tryd.sz34 hba (by rw [mid_len]; show 0 + i * 1 < 4; omega) ?_
    intro H5 hb5 hk5
    have hb5 := hb5.trans (congrArg (fun q => some (Obj.cells (List.toArray q) 36 (0, 0))) (mid_step (fun x y => x ||| y) ws vs (show i < 4 by omega)))
    refine X.done [(2, _), (3, _), (4, _), (6, _), (8, _), (9, _), (10, _), (7, _), (11, _), (12, _), (13, _), (14, _), (15, _), (16, _), (17, _), (18, _), (19, _), (20, _)] ⟨rfl, rfl, rfl, rfl, rfl, rfl, rfl, rfl, rfl, rfl, rfl, rfl, rfl, rfl, rfl, rfl, rfl, rfl, trivial⟩ ?_
    refine N.blk ?_
    refine N.then ?_
    refine E.region ?_
    refine X.add rfl rfl rfl rfl rfl rfl (by omega) ?_
    refine X.mv rfl rfl rfl rfl rfl ?_
    refine X.done [(2, _), (3, _), (4, _), (6, _), (8, _), (9, _), (10, _), (7, _), (11, _), (12, _), (13, _), (14, _), (15, _), (16, _), (17, _), (18, _), (19, _), (20, _), (21, _)] ⟨rfl, rfl, rfl, rfl, rfl, rfl, rfl, rfl, rfl, rfl, rfl, rfl, rfl, rfl, rfl, rfl, rfl, rfl, rfl, trivial⟩ ?_
    exact N.next (i + 1) ⟨rfl, rfl, rfl, rfl, rfl, trivial⟩ ⟨by omega, hb5, hk5.keep hbb (by simp; exact Ne.symm hne), hk5.keep hbc (by simp; exact Ne.symm hne2), hkk.trans hk5 (by simp; exact hna)⟩ (by omega)
  · refine E.exit ?_
    refine N.thenX ?_
    refine N.loopX ?_
    refine N.blkX ?_
    refine N.then ?_
    refine E.seq ?_
    refine E.region ?_
    refine X.ldA rfl rfl rfl rfl Tryd.ag36 Tryd.sz36 (hba) (mid_len (fun x y => x ||| y) ws vs i) zoff ?_
    refine X.stA rfl rfl rfl rfl rfl rfl (uv_one _) Tryd.sz36 hbc (by rw [mid_len]; decide) ?_
    intro H6 hb6 hk6
    rw [splice_all (by rw [mid_len]; rfl)] at hb6
    refine X.done [(6, _)] ⟨rfl, trivial⟩ ?_
    refine N.then ?_
    refine E.ret ?_
    exact N.retH [_] ⟨_, _, _, 0, rfl, rfl, loadsA Tryd.ag36 Tryd.sz36 hb6 (by first | rfl | exact uv4 hw) zoff, rfl⟩ ⟨by rw [show i = 4 by omega]; rfl, hkk.trans hk6 (by simp; exact hnc)⟩



end Go.Proofs.YtcandjdomeompaaDoor
