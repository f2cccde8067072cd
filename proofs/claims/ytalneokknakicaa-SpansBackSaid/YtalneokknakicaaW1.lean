/- The functions of package spans and of its reference, and what each of them gives: contracts over the heap, for whatever numbers fit their kinds. -/
import Derived.Test.YtalneokknakicaaFacts
import Derived.Test.YtalneokknakicaaM
namespace Go.Proofs.Ytalneokknakicaa
open Go.SX Go.Spans
attribute [local irreducible] X E N Ct
set_option linter.unusedVariables false

theorem shl1 (q : Int) (h : 0 ≤ q ∧ q ≤ 15) : IntKind.i64.wrap (1 * 2 ^ (min q.toNat IntKind.i64.bits)) = 2 ^ q.toNat := by
  have h1 : min q.toNat IntKind.i64.bits = q.toNat := by simp [IntKind.bits]; omega
  have h2 := pow_le' q h.2
  have h3 := pow_pos' q
  rw [h1, Int.one_mul]
  exact IntWalk.i64_in _ (by omega)

theorem quo_max (n e : Int) (he : 1 ≤ e) : (if n < 2 * e then 0 else n / e - 1) = max 0 (n / e - 1) := by
  split
  · rename_i h
    have : n / e < 2 := Int.ediv_lt_of_lt_mul (by omega) (by omega)
    omega
  · rename_i h
    have : 2 ≤ n / e := Int.le_ediv_of_mul_le (by omega) (by omega)
    omega

def kindV (f c b e : Int) : List Value := [.int .i64 f, .int .i64 c, .int .i64 b, .int .i64 e]
def arr (e b : Int) (c : Nat) : List Value := (List.range 30).map fun j => .int .i64 (if j < c then bse e b j else 0)
theorem arr_zero (e b : Int) : arr e b 0 = List.replicate 30 (.int .i64 0) := by
  unfold arr; simp; rfl
theorem arr_len (e b : Int) (c : Nat) : (arr e b c).length = 30 := by simp [arr]
theorem arr_one (e b : Int) (c : Nat) : ∀ v ∈ arr e b c, v.oneCell' = true := by
  intro v hv
  simp only [arr, List.mem_map] at hv
  obtain ⟨_, _, rfl⟩ := hv
  rfl
theorem arr_get (e b : Int) (c j : Nat) (h : j < 30) : (arr e b c)[j]? = some (.int .i64 (if j < c then bse e b j else 0)) := by
  simp [arr, h]
theorem arr_set (e b : Int) (k : Nat) (h : k < 30) : (arr e b k).set (0 + (k : Int).toNat * 1) (.int .i64 (bse e b k)) = arr e b (k + 1) := by
  apply List.ext_getElem?
  intro j
  simp only [Int.toNat_natCast, Nat.mul_one, Nat.zero_add]
  rw [List.getElem?_set, arr_len]
  by_cases hj : j < 30
  · rw [arr_get e b k j hj, arr_get e b (k + 1) j hj]
    by_cases hkj : k = j
    · subst hkj; simp [h]
    · rw [if_neg hkj]
      have : (j < k + 1) = (j < k) := by apply propext; omega
      simp [this]
  · have h1 : (arr e b k)[j]? = none := by simp [arr]; omega
    have h2 : (arr e b (k + 1))[j]? = none := by simp [arr]; omega
    rw [h1, h2]
    by_cases hkj : k = j
    · omega
    · simp [hkj]

theorem rbits_ct (n e : Int) (H : Heap) (hn : 0 ≤ n ∧ n ≤ 1000) (he : 1 ≤ e ∧ e ≤ 4) :
    Ct Try.prog 20 #[.int .i64 n, .int .i64 e] H fun v H' => v = .int .i64 (max 0 (n / e - 1)) ∧ H' = H := by
  have hd : 0 ≤ n / e := Int.ediv_nonneg (by omega) (by omega)
  have hd2 := Int.ediv_le_self (a := n) e (by omega)
  have hq := quo_max n e he.1
  refine Ct.into 13 Try.func20 rfl [(0, .int .i64 n), (1, .int .i64 e)] rfl ⟨rfl, rfl, trivial⟩ ?_
  refine E.seq ?_
  refine E.region ?_
  refine X.asg rfl rfl rfl rfl rfl ?_
  refine X.done [(0, _), (1, _), (4, _)] ⟨rfl, rfl, rfl, trivial⟩ ?_
  refine N.then ?_
  refine E.seq ?_
  refine E.seq ?_
  refine E.region ?_
  refine X.mv rfl rfl rfl rfl rfl ?_
  refine X.mv rfl rfl rfl rfl rfl ?_
  refine X.mul rfl rfl rfl rfl rfl rfl (by omega) ?_
  refine X.lss rfl rfl rfl rfl rfl rfl ?_
  refine X.done [(0, _), (1, _), (4, _), (8, _)] ⟨rfl, rfl, rfl, rfl, trivial⟩ ?_
  refine N.then ?_
  refine E.condD rfl (fun hc => ?_) (fun hc => ?_)
  · refine E.seq ?_
    refine E.region ?_
    refine X.asg rfl rfl rfl rfl rfl ?_
    refine X.done [(0, _), (1, _), (4, _)] ⟨rfl, rfl, rfl, trivial⟩ ?_
    refine N.then ?_
    refine E.ret ?_
    refine N.thenR ?_
    exact N.retH [_] ⟨_, _, rfl, rfl, rfl⟩ ⟨by rw [← hq, if_pos hc]; rfl, rfl⟩
  · refine E.skip ?_
    refine N.then ?_
    refine E.seq ?_
    refine E.region ?_
    refine X.mv rfl rfl rfl rfl rfl ?_
    refine X.mv rfl rfl rfl rfl rfl ?_
    refine X.quo rfl rfl rfl rfl rfl rfl (by omega) ?_
    refine X.sb rfl rfl rfl rfl rfl rfl (by omega) ?_
    refine X.asg rfl rfl rfl rfl rfl ?_
    refine X.done [(4, _)] ⟨rfl, trivial⟩ ?_
    refine N.then ?_
    refine E.ret ?_
    exact N.retH [_] ⟨_, _, rfl, rfl, rfl⟩ ⟨by rw [← hq, if_neg hc]; rfl, rfl⟩

theorem bits_ct (a b c e i : Int) (H : Heap) (hi : 0 ≤ i ∧ i ≤ 1000) (he : 1 ≤ e ∧ e ≤ 4) :
    Ct Try.prog 22 #[.agg (kindV a b c e).toArray, .int .i64 i] H fun v H' => v = .int .i64 (max 0 (i / e - 1)) ∧ Kp [] H H' := by
  have hd : 0 ≤ i / e := Int.ediv_nonneg (by omega) (by omega)
  have hd2 := Int.ediv_le_self (a := i) e (by omega)
  refine Ct.into 11 Try.func22 rfl [(0, .agg (kindV a b c e).toArray), (1, .int .i64 i)] rfl ⟨rfl, rfl, trivial⟩ ?_
  refine E.seq ?_
  refine E.region ?_
  refine X.box rfl rfl rfl rfl rfl rfl ?_
  intro b2 H2 hn2 hb2 hk2
  refine X.asg rfl rfl rfl rfl rfl ?_
  refine X.done [(1, _), (2, _), (4, _)] ⟨rfl, rfl, rfl, trivial⟩ ?_
  refine N.then ?_
  refine E.seq ?_
  refine E.region ?_
  refine X.mv rfl rfl rfl rfl rfl ?_
  refine X.fld rfl rfl rfl rfl rfl Try.off35_3 ?_
  refine X.ld rfl rfl rfl rfl Try.ag3 (hb2) (rfl) ?_
  refine X.quo rfl rfl rfl rfl rfl rfl (by omega) ?_
  refine X.sb rfl rfl rfl rfl rfl rfl (by omega) ?_
  refine X.mxE rfl rfl rfl rfl rfl rfl (by show (if (0:Int) < i / e - 1 then i / e - 1 else 0) = max 0 (i / e - 1); omega) ?_
  refine X.asg rfl rfl rfl rfl rfl ?_
  refine X.done [(4, _)] ⟨rfl, trivial⟩ ?_
  refine N.then ?_
  refine E.ret ?_
  exact N.retH [_] ⟨_, _, rfl, rfl, rfl⟩ ⟨rfl, hk2⟩

theorem bases_ct (f b e : Int) (c : Nat) (H : Heap) (hp : Pair e b c) :
    Ct Try.prog 21 #[.agg (kindV f c b e).toArray] H fun v H' => v = .agg (arr e b c).toArray ∧ Kp [] H H' := by
  have hc30 : c ≤ 30 := by rcases hp with h | h <;> omega
  have he : 1 ≤ e ∧ e ≤ 4 := by rcases hp with h | h <;> omega
  refine Ct.into 25 Try.func21 rfl [(0, .agg (kindV f c b e).toArray)] rfl ⟨rfl, trivial⟩ ?_
  refine E.seq ?_
  refine E.region ?_
  refine X.box rfl rfl rfl rfl rfl rfl ?_
  intro b1 H1 hn1 hb1 hk1
  refine X.alloc rfl rfl rfl rfl rfl rfl ?_
  intro b2 H2 hn2 hb2 hk2
  refine X.done [(1, _), (2, _)] ⟨rfl, rfl, trivial⟩ ?_
  refine N.then ?_
  refine E.seq ?_
  refine E.region ?_
  refine X.alloc rfl rfl rfl rfl rfl rfl ?_
  intro b3 H3 hn3 hb3 hk3
  refine X.done [(1, _), (2, _), (3, _)] ⟨rfl, rfl, rfl, trivial⟩ ?_
  refine N.then ?_
  refine E.seq ?_
  have n12 := ne_of_ge hb1 hn2
  have n13 := ne_of_ge (hk2.keep hb1 (by simp)) hn3
  have n23 := ne_of_ge hb2 hn3
  have hb1 := (hk3.keep (hk2.keep hb1 (by simp)) (by simp))
  have hb2 := hk3.keep hb2 (by simp)
  have hk : Kp [] H H3 := (hk1.trans hk2 (by simp)).trans hk3 (by simp)
  have hs1 : H.size ≤ b1 := hn1
  have hs2 : H.size ≤ b2 := Nat.le_trans hk1.size hn2
  have hs3 : H.size ≤ b3 := Nat.le_trans (hk1.trans hk2 (by simp)).size hn3
  clear hk1 hk2 hk3 hn1 hn2 hn3
  refine E.region ?_
  refine X.fld rfl rfl rfl rfl rfl Try.off35_2 ?_
  refine X.ld rfl rfl rfl rfl Try.ag3 (hb1) (rfl) ?_
  refine X.asg rfl rfl rfl rfl rfl ?_
  refine X.done [(1, _), (2, _), (3, _), (4, _)] ⟨rfl, rfl, rfl, rfl, trivial⟩ ?_
  refine N.then ?_
  refine E.seq ?_
  refine E.seq ?_
  refine E.region ?_
  refine X.fld rfl rfl rfl rfl rfl Try.off35_1 ?_
  refine X.ld rfl rfl rfl rfl Try.ag3 (hb1) (rfl) ?_
  refine X.mv rfl rfl rfl rfl rfl ?_
  refine X.done [(1, _), (2, _), (3, _), (4, _), (9, _), (10, _)] ⟨rfl, rfl, rfl, rfl, rfl, rfl, trivial⟩ ?_
  refine N.then ?_
  refine E.block ?_
  refine E.loop (fun (k : Nat) => [(1, .pointer (some ⟨b1, 0, none⟩)), (2, .pointer (some ⟨b2, 0, none⟩)), (3, .pointer (some ⟨b3, 0, none⟩)), (4, .int .i64 (bse e b k)), (9, .int .i64 (c : Int)), (10, .int .i64 (k : Int))]) (fun (k : Nat) H' => k ≤ c ∧ Kp [] H H' ∧ H'[b1]? = some (.cells (kindV f c b e).toArray 35 (0, 0)) ∧ H'[b2]? = some (.cells (List.replicate 30 (.int .i64 0)).toArray 39 (0, 0)) ∧ H'[b3]? = some (.cells (arr e b k).toArray 39 (0, 0))) (fun (k : Nat) => c - k) 0 ⟨rfl, rfl, rfl, rfl, rfl, rfl, trivial⟩ ⟨Nat.zero_le _, hk, hb1, hb2, by rw [arr_zero]; exact hb3⟩ ?_
  clear hk hb1 hb2 hb3
  rintro k H4 ⟨hkc, hk, hb1, hb2, hb3⟩
  have hbd := bse_bd hp k hkc
  have hdk : (0:Int) ≤ (k:Int) / e := Int.ediv_nonneg (by omega) (by omega)
  have hpw := pow_pos' (bt e k)
  have hpl := pow_le' (bt e k) hbd.2.2.2
  refine E.seq ?_
  refine E.region ?_
  refine X.lss rfl rfl rfl rfl rfl rfl ?_
  refine X.done [(1, _), (2, _), (3, _), (4, _), (9, _), (10, _), (11, _)] ⟨rfl, rfl, rfl, rfl, rfl, rfl, rfl, trivial⟩ ?_
  refine N.then ?_
  refine E.seq ?_
  refine E.condD rfl (fun hc => ?_) (fun hc => ?_)
  · refine E.skip ?_
    refine N.then ?_
    refine E.seq ?_
    refine E.block ?_
    refine E.seq ?_
    refine E.region ?_
    refine X.mv rfl rfl rfl rfl rfl ?_
    refine X.asg rfl rfl rfl rfl rfl ?_
    refine X.done [(1, _), (2, _), (3, _), (4, _), (9, _), (10, _), (11, _), (12, _), (5, _)] ⟨rfl, rfl, rfl, rfl, rfl, rfl, rfl, rfl, rfl, trivial⟩ ?_
    refine N.then ?_
    refine E.seq ?_
    refine E.region ?_
    refine X.mv rfl rfl rfl rfl rfl ?_
    refine X.mv rfl rfl rfl rfl rfl ?_
    refine X.ixP rfl rfl rfl rfl rfl rfl Try.underlying39 Try.sz3 (by omega) ?_
    refine X.st rfl rfl rfl rfl rfl rfl rfl Try.sz3 hb3 (by rw [arr_len]; omega) ?_
    intro H5 hb3' hk5
    rw [arr_set e b k (by omega)] at hb3'
    replace hb1 := hk5.keep hb1 (by simp [n13])
    replace hb2 := hk5.keep hb2 (by simp [n23])
    replace hb3 := hb3'
    clear hb3'
    replace hk : Kp [] H H5 := hk.trans hk5 (by simp [hs3])
    refine X.done [(1, _), (2, _), (3, _), (4, _), (9, _), (10, _), (11, _), (12, _), (5, _), (13, _), (14, _), (15, _)] ⟨rfl, rfl, rfl, rfl, rfl, rfl, rfl, rfl, rfl, rfl, rfl, rfl, trivial⟩ ?_
    refine N.then ?_
    refine E.region ?_
    refine X.mv rfl rfl rfl rfl rfl ?_
    refine X.ldA rfl rfl rfl rfl Try.ag35 Try.sz35 (hb1) rfl (fun j v hj => by rw [Nat.zero_add]; exact hj) ?_
    refine X.mv rfl rfl rfl rfl rfl ?_
    refine X.call rfl rfl rfl rfl rfl Try.cl22 (bits_ct f c b e k H5 (by omega) he) ?_
    rintro _ H6 ⟨rfl, hk6⟩
    replace hb1 := hk6.keep hb1 (by simp)
    replace hb2 := hk6.keep hb2 (by simp)
    replace hb3 := hk6.keep hb3 (by simp)
    replace hk : Kp [] H H6 := hk.trans hk6 (by simp)
    refine X.convE rfl rfl rfl rfl rfl Try.underlying30 Try.us3 (IntWalk.u64_in _ (by have : max 0 ((k:Int) / e - 1) = bt e k := rfl; omega)) ?_
    refine X.shlE rfl rfl rfl rfl rfl rfl (by omega) (shl1 (bt e k) (by omega)) ?_
    refine X.add rfl rfl rfl rfl rfl rfl (by have : (2:Int) ^ (max 0 ((k:Int) / e - 1)).toNat = 2 ^ (bt e k).toNat := rfl; omega) ?_
    refine X.asg rfl rfl rfl rfl rfl ?_
    refine X.done [(1, _), (2, _), (3, _), (4, _), (9, _), (10, _), (11, _), (12, _), (5, _), (13, _), (14, _), (15, _), (16, _), (17, _), (18, _), (19, _), (20, _), (21, _), (22, _)] ⟨rfl, rfl, rfl, rfl, rfl, rfl, rfl, rfl, rfl, rfl, rfl, rfl, rfl, rfl, rfl, rfl, rfl, rfl, rfl, trivial⟩ ?_
    refine N.blk ?_
    refine N.then ?_
    refine E.region ?_
    refine X.add rfl rfl rfl rfl rfl rfl (by omega) ?_
    refine X.mv rfl rfl rfl rfl rfl ?_
    refine X.done [(1, _), (2, _), (3, _), (4, _), (9, _), (10, _), (11, _), (12, _), (5, _), (13, _), (14, _), (15, _), (16, _), (17, _), (18, _), (19, _), (20, _), (21, _), (22, _), (23, _)] ⟨rfl, rfl, rfl, rfl, rfl, rfl, rfl, rfl, rfl, rfl, rfl, rfl, rfl, rfl, rfl, rfl, rfl, rfl, rfl, rfl, trivial⟩ ?_
    refine N.next (k + 1) ⟨rfl, rfl, rfl, rfl, rfl, rfl, trivial⟩ ⟨by omega, hk, hb1, hb2, hb3⟩ (by omega)
  · refine E.exit ?_
    refine N.thenX ?_
    refine N.loopX ?_
    refine N.blkX ?_
    refine N.then ?_
    refine E.seq ?_
    obtain rfl : k = c := by omega
    refine E.region ?_
    refine X.ldA rfl rfl rfl rfl Try.ag39 Try.sz39 (hb3) (arr_len e b k) (fun j v hj => by rw [Nat.zero_add]; exact hj) ?_
    refine X.stA rfl rfl rfl rfl rfl rfl (arr_one e b k) Try.sz39 hb2 (by simp [arr_len]) ?_
    intro H5 hb2' hk5
    replace hk : Kp [] H H5 := hk.trans hk5 (by simp [hs2])
    have hsp : splice (List.replicate 30 (Value.int .i64 0)) 0 (arr e b k) = arr e b k := by simp [splice, arr_len]
    rw [hsp] at hb2'
    refine X.done [(2, _)] ⟨rfl, trivial⟩ ?_
    refine N.then ?_
    refine E.ret ?_
    exact N.retH [_] ⟨_, _, _, _, rfl, rfl, loadsA Try.ag39 Try.sz39 hb2' (arr_len e b k) (fun j v hj => by rw [Nat.zero_add]; exact hj), rfl⟩ ⟨rfl, hk⟩


def T3 (p : Int × Int × Bool) : Value := .tuple #[.int .i64 p.1, .int .i64 p.2.1, .bool p.2.2]
def T4 (p : Int × Int × Int × Int) : Value := .tuple #[.int .i64 p.1, .int .i64 p.2.1, .int .i64 p.2.2.1, .int .i64 p.2.2.2]

theorem arr_at (e b : Int) (c j : Nat) (h : j < c) (hc : c ≤ 30) : (arr e b c)[0 + (j : Int).toNat * 1]? = some (.int .i64 (bse e b j)) := by
  have h1 : 0 + (j : Int).toNat * 1 = j := by simp
  rw [h1, arr_get e b c j (by omega), if_pos h]

theorem lengths_ct (H : Heap) : Ct Try.prog 16 #[] H fun v H' => v = .agg (kindV 257 28 3 4).toArray ∧ Kp [] H H' := by
  refine Ct.into 2 Try.func16 rfl [] rfl trivial ?_
  refine E.seq ?_
  refine E.region ?_
  refine X.alloc rfl rfl rfl rfl rfl rfl ?_
  intro b0 H0 hn0 hb0 hk0
  refine X.done [(0, _)] ⟨rfl, trivial⟩ ?_
  refine N.then ?_
  refine E.seq ?_
  refine E.region ?_
  refine X.build (v := .agg (kindV 257 28 3 4).toArray) rfl rfl rfl rfl rfl (fun _ => by kernel_rfl) ?_
  refine X.stA rfl rfl rfl rfl rfl rfl (by simp [kindV, Value.oneCell']) Try.sz35 hb0 (by simp [kindV]) ?_
  intro H1 hb1 hk1
  refine X.done [(0, _)] ⟨rfl, trivial⟩ ?_
  refine N.then ?_
  refine E.ret ?_
  exact N.retH [_] ⟨_, _, _, _, rfl, rfl, loadsA (vs := kindV 257 28 3 4) Try.ag35 Try.sz35 hb1 rfl (fun j v hj => by rw [Nat.zero_add]; exact hj), rfl⟩ ⟨rfl, hk0.trans hk1 (by simp [hn0])⟩

theorem dists_ct (H : Heap) : Ct Try.prog 18 #[] H fun v H' => v = .agg (kindV 0 30 1 2).toArray ∧ Kp [] H H' := by
  refine Ct.into 2 Try.func18 rfl [] rfl trivial ?_
  refine E.seq ?_
  refine E.region ?_
  refine X.alloc rfl rfl rfl rfl rfl rfl ?_
  intro b0 H0 hn0 hb0 hk0
  refine X.done [(0, _)] ⟨rfl, trivial⟩ ?_
  refine N.then ?_
  refine E.seq ?_
  refine E.region ?_
  refine X.build (v := .agg (kindV 0 30 1 2).toArray) rfl rfl rfl rfl rfl (fun _ => by kernel_rfl) ?_
  refine X.stA rfl rfl rfl rfl rfl rfl (by simp [kindV, Value.oneCell']) Try.sz35 hb0 (by simp [kindV]) ?_
  intro H1 hb1 hk1
  refine X.done [(0, _)] ⟨rfl, trivial⟩ ?_
  refine N.then ?_
  refine E.ret ?_
  exact N.retH [_] ⟨_, _, _, _, rfl, rfl, loadsA (vs := kindV 0 30 1 2) Try.ag35 Try.sz35 hb1 rfl (fun j v hj => by rw [Nat.zero_add]; exact hj), rfl⟩ ⟨rfl, hk0.trans hk1 (by simp [hn0])⟩

theorem of_lo (f b e s : Int) (c : Nat) (H : Heap) (h : s < f) :
    Ct Try.prog 19 #[.agg (kindV f c b e).toArray, .int .i64 s] H fun v H' => v = T3 (ofS f c b e s) ∧ Kp [] H H' := by
  refine Ct.into 29 Try.func19 rfl [(0, .agg (kindV f c b e).toArray), (1, .int .i64 s)] rfl ⟨rfl, rfl, trivial⟩ ?_
  refine E.seq ?_
  refine E.region ?_
  refine X.box rfl rfl rfl rfl rfl rfl ?_
  intro b2 H2 hn2 hb2 hk2
  refine X.asg rfl rfl rfl rfl rfl ?_
  refine X.asg rfl rfl rfl rfl rfl ?_
  refine X.asg rfl rfl rfl rfl rfl ?_
  refine X.done [(1, _), (2, _), (4, _), (5, _), (6, _)] ⟨rfl, rfl, rfl, rfl, rfl, trivial⟩ ?_
  refine N.then ?_
  refine E.seq ?_
  refine E.region ?_
  refine X.mv rfl rfl rfl rfl rfl ?_
  refine X.fld rfl rfl rfl rfl rfl Try.off35_0 ?_
  refine X.ld rfl rfl rfl rfl Try.ag3 (hb2) (rfl) ?_
  refine X.sbE (zz := IntKind.i64.wrap (s - f)) rfl rfl rfl rfl rfl rfl rfl ?_
  refine X.asg rfl rfl rfl rfl rfl ?_
  refine X.done [(1, _), (2, _), (4, _), (5, _), (6, _), (7, _)] ⟨rfl, rfl, rfl, rfl, rfl, rfl, trivial⟩ ?_
  refine N.then ?_
  refine E.seq ?_
  refine E.seq ?_
  refine E.region ?_
  refine X.mv rfl rfl rfl rfl rfl ?_
  refine X.fld rfl rfl rfl rfl rfl Try.off35_0 ?_
  refine X.ld rfl rfl rfl rfl Try.ag3 (hb2) (rfl) ?_
  refine X.lssT rfl rfl rfl rfl rfl rfl (by omega) ?_
  refine X.mv rfl rfl rfl rfl rfl ?_
  refine X.skip rfl rfl rfl ?_
  refine X.skip rfl rfl rfl ?_
  refine X.skip rfl rfl rfl ?_
  refine X.skip rfl rfl rfl ?_
  refine X.pickT rfl rfl rfl rfl rfl rfl ?_
  refine X.done [(2, _), (4, _), (5, _), (6, _), (7, _), (21, _)] ⟨rfl, rfl, rfl, rfl, rfl, rfl, trivial⟩ ?_
  refine N.then ?_
  refine E.condT rfl ?_
  refine E.seq ?_
  refine E.region ?_
  refine X.asg rfl rfl rfl rfl rfl ?_
  refine X.asg rfl rfl rfl rfl rfl ?_
  refine X.asg rfl rfl rfl rfl rfl ?_
  refine X.done [(2, _), (4, _), (5, _), (6, _), (7, _)] ⟨rfl, rfl, rfl, rfl, rfl, trivial⟩ ?_
  refine N.then ?_
  refine E.ret ?_
  refine N.thenR ?_
  exact N.retH [_, _, _] ⟨_, _, rfl, rfl, _, _, rfl, rfl, _, _, rfl, rfl, rfl⟩ ⟨by unfold ofS; rw [if_pos (.inl h)]; rfl, hk2⟩

theorem of_hi (f b e s : Int) (c : Nat) (H : Heap) (hp : Pair e b c) (hf : 0 ≤ f ∧ f ≤ 1000) (h : f ≤ s) (hs : s ≤ 9223372036854775807) :
    Ct Try.prog 19 #[.agg (kindV f c b e).toArray, .int .i64 s] H fun v H' => v = T3 (ofS f c b e s) ∧ Kp [] H H' := by
  have hc30 : c ≤ 30 := by rcases hp with h | h <;> omega
  have he : 1 ≤ e ∧ e ≤ 4 := by rcases hp with h | h <;> omega
  refine Ct.into 29 Try.func19 rfl [(0, .agg (kindV f c b e).toArray), (1, .int .i64 s)] rfl ⟨rfl, rfl, trivial⟩ ?_
  refine E.seq ?_
  refine E.region ?_
  refine X.box rfl rfl rfl rfl rfl rfl ?_
  intro b2 H2 hn2 hb2 hk2
  refine X.asg rfl rfl rfl rfl rfl ?_
  refine X.asg rfl rfl rfl rfl rfl ?_
  refine X.asg rfl rfl rfl rfl rfl ?_
  refine X.done [(1, _), (2, _), (4, _), (5, _), (6, _)] ⟨rfl, rfl, rfl, rfl, rfl, trivial⟩ ?_
  refine N.then ?_
  refine E.seq ?_
  refine E.region ?_
  refine X.mv rfl rfl rfl rfl rfl ?_
  refine X.fld rfl rfl rfl rfl rfl Try.off35_0 ?_
  refine X.ld rfl rfl rfl rfl Try.ag3 (hb2) (rfl) ?_
  refine X.sb rfl rfl rfl rfl rfl rfl (by omega) ?_
  refine X.asg rfl rfl rfl rfl rfl ?_
  refine X.done [(1, _), (2, _), (4, _), (5, _), (6, _), (7, _)] ⟨rfl, rfl, rfl, rfl, rfl, rfl, trivial⟩ ?_
  refine N.then ?_
  refine E.seq ?_
  refine E.seq ?_
  refine E.region ?_
  refine X.mv rfl rfl rfl rfl rfl ?_
  refine X.fld rfl rfl rfl rfl rfl Try.off35_0 ?_
  refine X.ld rfl rfl rfl rfl Try.ag3 (hb2) (rfl) ?_
  refine X.lssF rfl rfl rfl rfl rfl rfl (by omega) ?_
  refine X.mv rfl rfl rfl rfl rfl ?_
  refine X.mv rfl rfl rfl rfl rfl ?_
  refine X.fld rfl rfl rfl rfl rfl Try.off35_1 ?_
  refine X.ld rfl rfl rfl rfl Try.ag3 (hb2) (rfl) ?_
  refine X.geqC rfl rfl rfl rfl rfl rfl (fun hc => ?_) (fun hc => ?_)
  · refine X.pickF rfl rfl rfl rfl rfl rfl ?_
    refine X.done [(2, _), (4, _), (5, _), (6, _), (7, _), (21, _)] ⟨rfl, rfl, rfl, rfl, rfl, rfl, trivial⟩ ?_
    refine N.then ?_
    refine E.condT rfl ?_
    refine E.seq ?_
    refine E.region ?_
    refine X.asg rfl rfl rfl rfl rfl ?_
    refine X.asg rfl rfl rfl rfl rfl ?_
    refine X.asg rfl rfl rfl rfl rfl ?_
    refine X.done [(2, _), (4, _), (5, _), (6, _), (7, _)] ⟨rfl, rfl, rfl, rfl, rfl, trivial⟩ ?_
    refine N.then ?_
    refine E.ret ?_
    refine N.thenR ?_
    exact N.retH [_, _, _] ⟨_, _, rfl, rfl, _, _, rfl, rfl, _, _, rfl, rfl, rfl⟩ ⟨by unfold ofS; rw [if_pos (.inr (by omega))]; rfl, hk2⟩
  · refine X.pickF rfl rfl rfl rfl rfl rfl ?_
    refine X.done [(2, _), (4, _), (5, _), (6, _), (7, _), (21, _)] ⟨rfl, rfl, rfl, rfl, rfl, rfl, trivial⟩ ?_
    refine N.then ?_
    refine E.condF rfl ?_
    refine E.skip ?_
    refine N.then ?_
    refine E.seq ?_
    obtain ⟨k, hk⟩ := Int.eq_ofNat_of_zero_le (show 0 ≤ s - f by omega)
    rw [hk]
    have hbk := arr_at e b c k (by omega) hc30
    refine E.regionD (fun H' => H'[b2]? = some (.cells (kindV f c b e).toArray 35 (0, 0))) [(0, .st), (2, .pu), (4, .st), (5, .pu), (1, .mk), (3, .pu), (6, .mk), (7, .pu), (8, .pu), (9, .pu)] Try.mixed (by kernel_rfl) (hb2) ?_
    refine X.ldA rfl rfl rfl rfl Try.ag35 Try.sz35 (fun H' hF => hF) rfl (fun j v hj => by rw [Nat.zero_add]; exact hj) ?_
    refine X.mv rfl rfl rfl rfl rfl ?_
    refine X.ldA rfl rfl rfl rfl Try.ag35 Try.sz35 (fun H' hF => hF) rfl (fun j v hj => by rw [Nat.zero_add]; exact hj) ?_
    refine X.mv rfl rfl rfl rfl rfl ?_
    refine X.call rfl rfl rfl rfl rfl Try.cl21 (bases_ct f b e c H2 hp) ?_
    rintro _ H3 ⟨rfl, hk3⟩
    replace hb2 := hk3.keep hb2 (by simp)
    refine ⟨hb2, ?_⟩
    refine X.ixV rfl rfl rfl rfl rfl rfl Try.underlying39 Try.ag3 Try.sz3 (by omega) (by simpa using hbk) ?_
    refine X.call rfl rfl rfl rfl rfl Try.cl22 (bits_ct f c b e k H3 (by omega) he) ?_
    rintro _ H4 ⟨rfl, hk4⟩
    replace hb2 := hk4.keep hb2 (by simp)
    refine ⟨hb2, ?_⟩
    refine X.asg rfl rfl rfl rfl rfl ?_
    refine X.asg rfl rfl rfl rfl rfl ?_
    refine X.asg rfl rfl rfl rfl rfl ?_
    refine X.done [(4, _), (5, _), (6, _)] ⟨rfl, rfl, rfl, trivial⟩ ?_
    refine N.then ?_
    refine E.ret ?_
    exact N.retH [_, _, _] ⟨_, _, rfl, rfl, _, _, rfl, rfl, _, _, rfl, rfl, rfl⟩ ⟨by unfold ofS; rw [if_neg (by omega), hk]; rfl, (hk2.trans hk3 (by simp)).trans hk4 (by simp)⟩

theorem symbol_ct (f b e m : Int) (c : Nat) (H : Heap) (hp : Pair e b c) (hc1 : 1 ≤ c) (hf : 0 ≤ f ∧ f ≤ 1000) (hm : b ≤ m ∧ m ≤ 40000) :
    Ct Try.prog 17 #[.agg (kindV f c b e).toArray, .int .i64 m] H fun v H' => v = .tuple #[.int .i64 (f + (srch e b m (c - 1) : Nat)), .int .i64 (bt e (srch e b m (c - 1))), .int .i64 (m - bse e b (srch e b m (c - 1)))] ∧ Kp [] H H' := by
  have hc30 : c ≤ 30 := by rcases hp with h | h <;> omega
  have he : 1 ≤ e ∧ e ≤ 4 := by rcases hp with h | h <;> omega
  have hb0 : 0 ≤ b ∧ b ≤ 3 := by rcases hp with h | h <;> omega
  refine Ct.into 33 Try.func17 rfl [(0, .agg (kindV f c b e).toArray), (1, .int .i64 m)] rfl ⟨rfl, rfl, trivial⟩ ?_
  refine E.seq ?_
  refine E.region ?_
  refine X.box rfl rfl rfl rfl rfl rfl ?_
  intro b2 H2 hn2 hb2 hk2
  refine X.asg rfl rfl rfl rfl rfl ?_
  refine X.asg rfl rfl rfl rfl rfl ?_
  refine X.asg rfl rfl rfl rfl rfl ?_
  refine X.done [(1, _), (2, _), (4, _), (5, _), (6, _)] ⟨rfl, rfl, rfl, rfl, rfl, trivial⟩ ?_
  refine N.then ?_
  refine E.seq ?_
  refine E.region ?_
  refine X.ldA rfl rfl rfl rfl Try.ag35 Try.sz35 (hb2) rfl (fun j v hj => by rw [Nat.zero_add]; exact hj) ?_
  refine X.call rfl rfl rfl rfl rfl Try.cl21 (bases_ct f b e c H2 hp) ?_
  rintro _ H3 ⟨rfl, hk3⟩
  replace hb2 := hk3.keep hb2 (by simp)
  refine X.alloc rfl rfl rfl rfl rfl rfl ?_
  intro b7 H7 hn7 hb7 hk7
  have n27 := ne_of_ge hb2 hn7
  replace hb2 := hk7.keep hb2 (by simp)
  refine X.stA rfl rfl rfl rfl rfl rfl (arr_one e b c) Try.sz39 hb7 (by simp [arr_len]) ?_
  intro H4 hb7' hk4
  replace hb2 := hk4.keep hb2 (by simp [n27])
  have hsp : splice (List.replicate 30 (Value.int .i64 0)) 0 (arr e b c) = arr e b c := by simp [splice, arr_len]
  have hb7 : H4[b7]? = some (.cells (arr e b c).toArray 39 (0, 0)) := by rw [← hsp]; exact hb7'
  have hk : Kp [] H H4 := ((hk2.trans hk3 (by simp)).trans hk7 (by simp)).trans hk4 (by have := hk2.size; have := hk3.size; simp; omega)
  clear hb7' hk2 hk3 hk7 hk4
  refine X.done [(1, _), (2, _), (4, _), (5, _), (6, _), (7, _)] ⟨rfl, rfl, rfl, rfl, rfl, rfl, trivial⟩ ?_
  refine N.then ?_
  refine E.seq ?_
  refine E.region ?_
  refine X.fld rfl rfl rfl rfl rfl Try.off35_1 ?_
  refine X.ld rfl rfl rfl rfl Try.ag3 (hb2) (rfl) ?_
  refine X.sbE (zz := ((c - 1 : Nat) : Int)) rfl rfl rfl rfl rfl rfl (by rw [IntWalk.i64_in _ (by omega)]; omega) ?_
  refine X.asg rfl rfl rfl rfl rfl ?_
  refine X.done [(1, _), (2, _), (4, _), (5, _), (6, _), (7, _), (8, _)] ⟨rfl, rfl, rfl, rfl, rfl, rfl, rfl, trivial⟩ ?_
  refine N.then ?_
  refine E.seq ?_
  refine E.block ?_
  -- MISSING in G: [4, 5, 6]
  refine E.loop (fun (j : Nat) => [(1, .int .i64 m), (2, .pointer (some ⟨b2, 0, none⟩)), (7, .pointer (some ⟨b7, 0, none⟩)), (8, .int .i64 (j : Int))]) (fun (j : Nat) H' => j ≤ c - 1 ∧ srch e b m (c - 1) = srch e b m j ∧ Kp [] H H' ∧ H'[b2]? = some (.cells (kindV f c b e).toArray 35 (0, 0)) ∧ H'[b7]? = some (.cells (arr e b c).toArray 39 (0, 0))) (fun (j : Nat) => j) (c - 1) ⟨rfl, rfl, rfl, rfl, trivial⟩ ⟨Nat.le_refl _, rfl, hk, hb2, hb7⟩ ?_
  clear hk hb2 hb7
  rintro j H8 ⟨hj, hsr, hk, hb2, hb7⟩
  have hbd := bse_bd hp j (by omega)
  refine E.seq ?_
  refine E.seq ?_
  refine E.region ?_
  refine X.mv rfl rfl rfl rfl rfl ?_
  refine X.ixP rfl rfl rfl rfl rfl rfl Try.underlying39 Try.sz3 (by omega) ?_
  refine X.ld rfl rfl rfl rfl Try.ag3 (hb7) (arr_at e b c j (by omega) hc30) ?_
  refine X.mv rfl rfl rfl rfl rfl ?_
  refine X.gtr rfl rfl rfl rfl rfl rfl ?_
  refine X.done [(1, _), (2, _), (7, _), (8, _), (14, _), (15, _), (16, _), (17, _), (18, _)] ⟨rfl, rfl, rfl, rfl, rfl, rfl, rfl, rfl, rfl, trivial⟩ ?_
  refine N.then ?_
  refine E.condD rfl (fun hc => ?_) (fun hc => ?_)
  · refine E.skip ?_
    refine N.then ?_
    refine E.block ?_
    obtain ⟨j', rfl⟩ : ∃ j', j = j' + 1 := by
      cases j with
      | zero => exfalso; have h0 : bse e b 0 = b := rfl; omega
      | succ j' => exact ⟨j', rfl⟩
    refine E.region ?_
    refine X.mv rfl rfl rfl rfl rfl ?_
    refine X.sbE (zz := (j' : Int)) rfl rfl rfl rfl rfl rfl (by rw [IntWalk.i64_in _ (by omega)]; omega) ?_
    refine X.asg rfl rfl rfl rfl rfl ?_
    refine X.done [(1, _), (2, _), (7, _), (8, _), (14, _), (15, _), (16, _), (17, _), (18, _), (19, _), (20, _)] ⟨rfl, rfl, rfl, rfl, rfl, rfl, rfl, rfl, rfl, rfl, rfl, trivial⟩ ?_
    refine N.blk ?_
    refine N.next j' ⟨rfl, rfl, rfl, rfl, trivial⟩ ⟨by omega, by rw [hsr, srch_step e b m (by omega)], hk, hb2, hb7⟩ (by omega)
  · refine E.exit ?_
    refine N.thenX ?_
    refine N.loopX ?_
    refine N.blkX ?_
    refine N.then ?_
    refine E.seq ?_
    have hj2 := srch_stop e b m (i := j) (by omega)
    refine E.regionD (fun H' => H'[b2]? = some (.cells (kindV f c b e).toArray 35 (0, 0)) ∧ H'[b7]? = some (.cells (arr e b c).toArray 39 (0, 0))) [(0, .pu), (1, .st), (2, .pu), (3, .pu), (4, .st), (5, .pu), (7, .pu), (8, .pu), (9, .pu), (10, .st), (11, .pu), (6, .mk), (12, .pu), (13, .pu), (14, .pu)] Try.mixed (by kernel_rfl) (⟨hb2, hb7⟩) ?_
    refine X.fld rfl rfl rfl rfl rfl Try.off35_0 ?_
    refine X.ld rfl rfl rfl rfl Try.ag3 (fun H' hF => hF.1) (rfl) ?_
    refine X.mv rfl rfl rfl rfl rfl ?_
    refine X.add rfl rfl rfl rfl rfl rfl (by omega) ?_
    refine X.ldA rfl rfl rfl rfl Try.ag35 Try.sz35 (fun H' hF => hF.1) rfl (fun j v hj => by rw [Nat.zero_add]; exact hj) ?_
    refine X.mv rfl rfl rfl rfl rfl ?_
    refine X.mv rfl rfl rfl rfl rfl ?_
    refine X.mv rfl rfl rfl rfl rfl ?_
    refine X.ixP rfl rfl rfl rfl rfl rfl Try.underlying39 Try.sz3 (by omega) ?_
    refine X.ld rfl rfl rfl rfl Try.ag3 (fun H' hF => hF.2) (arr_at e b c j (by omega) hc30) ?_
    refine X.sb rfl rfl rfl rfl rfl rfl (by omega) ?_
    refine X.call rfl rfl rfl rfl rfl Try.cl22 (bits_ct f c b e j H8 (by omega) he) ?_
    rintro _ H9 ⟨rfl, hk9⟩
    replace hb2 := hk9.keep hb2 (by simp)
    replace hb7 := hk9.keep hb7 (by simp)
    refine ⟨⟨hb2, hb7⟩, ?_⟩
    refine X.asg rfl rfl rfl rfl rfl ?_
    refine X.asg rfl rfl rfl rfl rfl ?_
    refine X.asg rfl rfl rfl rfl rfl ?_
    refine X.done [(4, _), (5, _), (6, _)] ⟨rfl, rfl, rfl, trivial⟩ ?_
    refine N.then ?_
    refine E.ret ?_
    exact N.retH [_, _, _] ⟨_, _, rfl, rfl, _, _, rfl, rfl, _, _, rfl, rfl, rfl⟩ ⟨by rw [hsr, hj2]; rfl, hk.trans hk9 (by simp)⟩


theorem of_ct (f b e s : Int) (c : Nat) (H : Heap) (hp : Pair e b c) (hf : 0 ≤ f ∧ f ≤ 1000) (hs : -9223372036854775808 ≤ s ∧ s ≤ 9223372036854775807) :
    Ct Try.prog 19 #[.agg (kindV f c b e).toArray, .int .i64 s] H fun v H' => v = T3 (ofS f c b e s) ∧ Kp [] H H' := by
  by_cases h : s < f
  · exact of_lo f b e s c H h
  · exact of_hi f b e s c H hp hf (by omega) hs.2

theorem len_ct (s : Int) (H : Heap) (hs : -9223372036854775808 ≤ s ∧ s ≤ 9223372036854775807) : Ct Try.prog 12 #[.int .i64 s] H fun v H' => v = T3 (lenS s) ∧ Kp [] H H' := by
  refine Ct.into 13 Try.func12 rfl [(0, .int .i64 s)] rfl ⟨rfl, trivial⟩ ?_
  refine E.seq ?_
  refine E.region ?_
  refine X.asg rfl rfl rfl rfl rfl ?_
  refine X.asg rfl rfl rfl rfl rfl ?_
  refine X.asg rfl rfl rfl rfl rfl ?_
  refine X.done [(0, _), (2, _), (3, _), (4, _)] ⟨rfl, rfl, rfl, rfl, trivial⟩ ?_
  refine N.then ?_
  refine E.seq ?_
  refine E.seq ?_
  refine E.region ?_
  refine X.mv rfl rfl rfl rfl rfl ?_
  refine X.eql rfl rfl rfl rfl rfl rfl ?_
  refine X.done [(0, _), (2, _), (3, _), (4, _), (6, _)] ⟨rfl, rfl, rfl, rfl, rfl, trivial⟩ ?_
  refine N.then ?_
  refine E.condD rfl (fun hc => ?_) (fun hc => ?_)
  · refine E.seq ?_
    refine E.region ?_
    refine X.asg rfl rfl rfl rfl rfl ?_
    refine X.asg rfl rfl rfl rfl rfl ?_
    refine X.asg rfl rfl rfl rfl rfl ?_
    refine X.done [(0, _), (2, _), (3, _), (4, _)] ⟨rfl, rfl, rfl, rfl, trivial⟩ ?_
    refine N.then ?_
    refine E.ret ?_
    refine N.thenR ?_
    exact N.retH [_, _, _] ⟨_, _, rfl, rfl, _, _, rfl, rfl, _, _, rfl, rfl, rfl⟩ ⟨by unfold lenS; rw [if_pos hc]; rfl, Kp.refl _ _⟩
  · refine E.skip ?_
    refine N.then ?_
    refine E.seq ?_
    refine E.region ?_
    refine X.call rfl rfl rfl rfl rfl Try.cl16 (lengths_ct H) ?_
    rintro _ H1 ⟨rfl, hk1⟩
    refine X.mv rfl rfl rfl rfl rfl ?_
    refine X.call rfl rfl rfl rfl rfl Try.cl19 (of_ct 257 3 4 s 28 H1 (.inl ⟨rfl, rfl, by omega⟩) (by omega) hs) ?_
    rintro _ H2 ⟨rfl, hk2⟩
    refine X.extract rfl rfl rfl rfl rfl rfl ?_
    refine X.extract rfl rfl rfl rfl rfl rfl ?_
    refine X.extract rfl rfl rfl rfl rfl rfl ?_
    refine X.asg rfl rfl rfl rfl rfl ?_
    refine X.asg rfl rfl rfl rfl rfl ?_
    refine X.asg rfl rfl rfl rfl rfl ?_
    refine X.done [(2, _), (3, _), (4, _)] ⟨rfl, rfl, rfl, trivial⟩ ?_
    refine N.then ?_
    refine E.ret ?_
    exact N.retH [_, _, _] ⟨_, _, rfl, rfl, _, _, rfl, rfl, _, _, rfl, rfl, rfl⟩ ⟨by unfold lenS; rw [if_neg hc]; rfl, hk1.trans hk2 (by simp)⟩

theorem dist_ct (s : Int) (H : Heap) (hs : -9223372036854775808 ≤ s ∧ s ≤ 9223372036854775807) : Ct Try.prog 14 #[.int .i64 s] H fun v H' => v = T3 (distS s) ∧ Kp [] H H' := by
  refine Ct.into 11 Try.func14 rfl [(0, .int .i64 s)] rfl ⟨rfl, trivial⟩ ?_
  refine E.seq ?_
  refine E.region ?_
  refine X.asg rfl rfl rfl rfl rfl ?_
  refine X.asg rfl rfl rfl rfl rfl ?_
  refine X.asg rfl rfl rfl rfl rfl ?_
  refine X.done [(0, _), (2, _), (3, _), (4, _)] ⟨rfl, rfl, rfl, rfl, trivial⟩ ?_
  refine N.then ?_
  refine E.seq ?_
  refine E.region ?_
  refine X.call rfl rfl rfl rfl rfl Try.cl18 (dists_ct H) ?_
  rintro _ H1 ⟨rfl, hk1⟩
  refine X.mv rfl rfl rfl rfl rfl ?_
  refine X.call rfl rfl rfl rfl rfl Try.cl19 (of_ct 0 1 2 s 30 H1 (.inr ⟨rfl, rfl, by omega⟩) (by omega) hs) ?_
  rintro _ H2 ⟨rfl, hk2⟩
  refine X.extract rfl rfl rfl rfl rfl rfl ?_
  refine X.extract rfl rfl rfl rfl rfl rfl ?_
  refine X.extract rfl rfl rfl rfl rfl rfl ?_
  refine X.asg rfl rfl rfl rfl rfl ?_
  refine X.asg rfl rfl rfl rfl rfl ?_
  refine X.asg rfl rfl rfl rfl rfl ?_
  refine X.done [(2, _), (3, _), (4, _)] ⟨rfl, rfl, rfl, trivial⟩ ?_
  refine N.then ?_
  refine E.ret ?_
  exact N.retH [_, _, _] ⟨_, _, rfl, rfl, _, _, rfl, rfl, _, _, rfl, rfl, rfl⟩ ⟨rfl, hk1.trans hk2 (by simp)⟩

theorem oflen_ct (s : Int) (H : Heap) : Ct Try.prog 7 #[.int .i64 s] H fun v H' => v = T4 (ofLenS s) ∧ Kp [] H H' := by
  refine Ct.into 29 Try.func7 rfl [(0, .int .i64 s)] rfl ⟨rfl, trivial⟩ ?_
  refine E.seq ?_
  refine E.region ?_
  refine X.asg rfl rfl rfl rfl rfl ?_
  refine X.asg rfl rfl rfl rfl rfl ?_
  refine X.asg rfl rfl rfl rfl rfl ?_
  refine X.asg rfl rfl rfl rfl rfl ?_
  refine X.done [(0, _), (2, _), (3, _), (4, _), (5, _)] ⟨rfl, rfl, rfl, rfl, rfl, trivial⟩ ?_
  refine N.then ?_
  refine E.seq ?_
  refine E.block ?_
  refine E.seq ?_
  refine E.region ?_
  refine X.mv rfl rfl rfl rfl rfl ?_
  refine X.lssC rfl rfl rfl rfl rfl rfl (fun hc => ?_) (fun hc => ?_)
  · refine X.mv rfl rfl rfl rfl rfl ?_
    refine X.skip rfl rfl rfl ?_
    refine X.skip rfl rfl rfl ?_
    refine X.pickT rfl rfl rfl rfl rfl rfl ?_
    refine X.asg rfl rfl rfl rfl rfl ?_
    refine X.done [(0, _), (2, _), (3, _), (4, _), (5, _), (9, _)] ⟨rfl, rfl, rfl, rfl, rfl, rfl, trivial⟩ ?_
    refine N.then ?_
    refine E.condT rfl ?_
    refine E.seq ?_
    refine E.region ?_
    refine X.asg rfl rfl rfl rfl rfl ?_
    refine X.asg rfl rfl rfl rfl rfl ?_
    refine X.asg rfl rfl rfl rfl rfl ?_
    refine X.asg rfl rfl rfl rfl rfl ?_
    refine X.done [(0, _), (2, _), (3, _), (4, _), (5, _)] ⟨rfl, rfl, rfl, rfl, rfl, trivial⟩ ?_
    refine N.then ?_
    refine E.ret ?_
    refine N.blkR ?_
    refine N.thenR ?_
    exact N.retH [_, _, _, _] ⟨_, _, rfl, rfl, _, _, rfl, rfl, _, _, rfl, rfl, _, _, rfl, rfl, rfl⟩ ⟨by unfold ofLenS; rw [if_pos (by omega)]; rfl, Kp.refl _ _⟩
  · refine X.mv rfl rfl rfl rfl rfl ?_
    refine X.mv rfl rfl rfl rfl rfl ?_
    refine X.gtr rfl rfl rfl rfl rfl rfl ?_
    refine X.pickF rfl rfl rfl rfl rfl rfl ?_
    refine X.asg rfl rfl rfl rfl rfl ?_
    refine X.done [(0, _), (2, _), (3, _), (4, _), (5, _), (9, _)] ⟨rfl, rfl, rfl, rfl, rfl, rfl, trivial⟩ ?_
    refine N.then ?_
    refine E.condD rfl (fun hc => ?_) (fun hc => ?_)
    · refine E.seq ?_
      refine E.region ?_
      refine X.asg rfl rfl rfl rfl rfl ?_
      refine X.asg rfl rfl rfl rfl rfl ?_
      refine X.asg rfl rfl rfl rfl rfl ?_
      refine X.asg rfl rfl rfl rfl rfl ?_
      refine X.done [(0, _), (2, _), (3, _), (4, _), (5, _)] ⟨rfl, rfl, rfl, rfl, rfl, trivial⟩ ?_
      refine N.then ?_
      refine E.ret ?_
      refine N.blkR ?_
      refine N.thenR ?_
      exact N.retH [_, _, _, _] ⟨_, _, rfl, rfl, _, _, rfl, rfl, _, _, rfl, rfl, _, _, rfl, rfl, rfl⟩ ⟨by unfold ofLenS; rw [if_pos (by omega)]; rfl, Kp.refl _ _⟩
    · refine E.seq ?_
      refine E.region ?_
      refine X.mv rfl rfl rfl rfl rfl ?_
      refine X.eql rfl rfl rfl rfl rfl rfl ?_
      refine X.asg rfl rfl rfl rfl rfl ?_
      refine X.done [(0, _), (2, _), (3, _), (4, _), (5, _), (16, _)] ⟨rfl, rfl, rfl, rfl, rfl, rfl, trivial⟩ ?_
      refine N.then ?_
      refine E.condD rfl (fun hc => ?_) (fun hc => ?_)
      · refine E.seq ?_
        refine E.region ?_
        refine X.asg rfl rfl rfl rfl rfl ?_
        refine X.asg rfl rfl rfl rfl rfl ?_
        refine X.asg rfl rfl rfl rfl rfl ?_
        refine X.asg rfl rfl rfl rfl rfl ?_
        refine X.done [(0, _), (2, _), (3, _), (4, _), (5, _)] ⟨rfl, rfl, rfl, rfl, rfl, trivial⟩ ?_
        refine N.then ?_
        refine E.ret ?_
        refine N.blkR ?_
        refine N.thenR ?_
        exact N.retH [_, _, _, _] ⟨_, _, rfl, rfl, _, _, rfl, rfl, _, _, rfl, rfl, _, _, rfl, rfl, rfl⟩ ⟨by unfold ofLenS; rw [if_neg (by omega), if_pos (by omega)]; rfl, Kp.refl _ _⟩
      · refine E.skip ?_
        refine N.blk ?_
        refine N.then ?_
        refine E.seq ?_
        refine E.region ?_
        refine X.call rfl rfl rfl rfl rfl Try.cl16 (lengths_ct H) ?_
        rintro _ H1 ⟨rfl, hk1⟩
        refine X.mv rfl rfl rfl rfl rfl ?_
        refine X.call rfl rfl rfl rfl rfl Try.cl17 (symbol_ct 257 3 4 s 28 H1 (.inl ⟨rfl, rfl, by omega⟩) (by omega) (by omega) (by omega)) ?_
        rintro _ H2 ⟨rfl, hk2⟩
        refine X.mv rfl rfl rfl rfl rfl ?_
        refine X.extract rfl rfl rfl rfl rfl rfl ?_
        refine X.extract rfl rfl rfl rfl rfl rfl ?_
        refine X.extract rfl rfl rfl rfl rfl rfl ?_
        refine X.asg rfl rfl rfl rfl rfl ?_
        refine X.asg rfl rfl rfl rfl rfl ?_
        refine X.asg rfl rfl rfl rfl rfl ?_
        refine X.done [(2, _), (3, _), (4, _), (5, _), (6, _), (7, _), (8, _)] ⟨rfl, rfl, rfl, rfl, rfl, rfl, rfl, trivial⟩ ?_
        refine N.then ?_
        refine E.seq ?_
        refine E.region ?_
        refine X.mv rfl rfl rfl rfl rfl ?_
        refine X.mv rfl rfl rfl rfl rfl ?_
        refine X.mv rfl rfl rfl rfl rfl ?_
        refine X.asg rfl rfl rfl rfl rfl ?_
        refine X.asg rfl rfl rfl rfl rfl ?_
        refine X.asg rfl rfl rfl rfl rfl ?_
        refine X.asg rfl rfl rfl rfl rfl ?_
        refine X.done [(2, _), (3, _), (4, _), (5, _)] ⟨rfl, rfl, rfl, rfl, trivial⟩ ?_
        refine N.then ?_
        refine E.ret ?_
        exact N.retH [_, _, _, _] ⟨_, _, rfl, rfl, _, _, rfl, rfl, _, _, rfl, rfl, _, _, rfl, rfl, rfl⟩ ⟨by unfold ofLenS; rw [if_neg (by omega), if_neg (by omega)]; rfl, hk1.trans hk2 (by simp)⟩

theorem ofdist_ct (s : Int) (H : Heap) : Ct Try.prog 9 #[.int .i64 s] H fun v H' => v = T4 (ofDistS s) ∧ Kp [] H H' := by
  refine Ct.into 25 Try.func9 rfl [(0, .int .i64 s)] rfl ⟨rfl, trivial⟩ ?_
  refine E.seq ?_
  refine E.region ?_
  refine X.asg rfl rfl rfl rfl rfl ?_
  refine X.asg rfl rfl rfl rfl rfl ?_
  refine X.asg rfl rfl rfl rfl rfl ?_
  refine X.asg rfl rfl rfl rfl rfl ?_
  refine X.done [(0, _), (2, _), (3, _), (4, _), (5, _)] ⟨rfl, rfl, rfl, rfl, rfl, trivial⟩ ?_
  refine N.then ?_
  refine E.seq ?_
  refine E.seq ?_
  refine E.region ?_
  refine X.mv rfl rfl rfl rfl rfl ?_
  refine X.lssC rfl rfl rfl rfl rfl rfl (fun hc => ?_) (fun hc => ?_)
  · refine X.mv rfl rfl rfl rfl rfl ?_
    refine X.skip rfl rfl rfl ?_
    refine X.skip rfl rfl rfl ?_
    refine X.pickT rfl rfl rfl rfl rfl rfl ?_
    refine X.done [(0, _), (2, _), (3, _), (4, _), (5, _), (14, _)] ⟨rfl, rfl, rfl, rfl, rfl, rfl, trivial⟩ ?_
    refine N.then ?_
    refine E.condT rfl ?_
    refine E.seq ?_
    refine E.region ?_
    refine X.asg rfl rfl rfl rfl rfl ?_
    refine X.asg rfl rfl rfl rfl rfl ?_
    refine X.asg rfl rfl rfl rfl rfl ?_
    refine X.asg rfl rfl rfl rfl rfl ?_
    refine X.done [(0, _), (2, _), (3, _), (4, _), (5, _)] ⟨rfl, rfl, rfl, rfl, rfl, trivial⟩ ?_
    refine N.then ?_
    refine E.ret ?_
    refine N.thenR ?_
    exact N.retH [_, _, _, _] ⟨_, _, rfl, rfl, _, _, rfl, rfl, _, _, rfl, rfl, _, _, rfl, rfl, rfl⟩ ⟨by unfold ofDistS; rw [if_pos (by omega)]; rfl, Kp.refl _ _⟩
  · refine X.mv rfl rfl rfl rfl rfl ?_
    refine X.mv rfl rfl rfl rfl rfl ?_
    refine X.gtr rfl rfl rfl rfl rfl rfl ?_
    refine X.pickF rfl rfl rfl rfl rfl rfl ?_
    refine X.done [(0, _), (2, _), (3, _), (4, _), (5, _), (14, _)] ⟨rfl, rfl, rfl, rfl, rfl, rfl, trivial⟩ ?_
    refine N.then ?_
    refine E.condD rfl (fun hc => ?_) (fun hc => ?_)
    · refine E.seq ?_
      refine E.region ?_
      refine X.asg rfl rfl rfl rfl rfl ?_
      refine X.asg rfl rfl rfl rfl rfl ?_
      refine X.asg rfl rfl rfl rfl rfl ?_
      refine X.asg rfl rfl rfl rfl rfl ?_
      refine X.done [(0, _), (2, _), (3, _), (4, _), (5, _)] ⟨rfl, rfl, rfl, rfl, rfl, trivial⟩ ?_
      refine N.then ?_
      refine E.ret ?_
      refine N.thenR ?_
      exact N.retH [_, _, _, _] ⟨_, _, rfl, rfl, _, _, rfl, rfl, _, _, rfl, rfl, _, _, rfl, rfl, rfl⟩ ⟨by unfold ofDistS; rw [if_pos (by omega)]; rfl, Kp.refl _ _⟩
    · refine E.skip ?_
      refine N.then ?_
      refine E.seq ?_
      refine E.region ?_
      refine X.call rfl rfl rfl rfl rfl Try.cl18 (dists_ct H) ?_
      rintro _ H1 ⟨rfl, hk1⟩
      refine X.mv rfl rfl rfl rfl rfl ?_
      refine X.call rfl rfl rfl rfl rfl Try.cl17 (symbol_ct 0 1 2 s 30 H1 (.inr ⟨rfl, rfl, by omega⟩) (by omega) (by omega) (by omega)) ?_
      rintro _ H2 ⟨rfl, hk2⟩
      refine X.mv rfl rfl rfl rfl rfl ?_
      refine X.extract rfl rfl rfl rfl rfl rfl ?_
      refine X.extract rfl rfl rfl rfl rfl rfl ?_
      refine X.extract rfl rfl rfl rfl rfl rfl ?_
      refine X.asg rfl rfl rfl rfl rfl ?_
      refine X.asg rfl rfl rfl rfl rfl ?_
      refine X.asg rfl rfl rfl rfl rfl ?_
      refine X.done [(2, _), (3, _), (4, _), (5, _), (6, _), (7, _), (8, _)] ⟨rfl, rfl, rfl, rfl, rfl, rfl, rfl, trivial⟩ ?_
      refine N.then ?_
      refine E.seq ?_
      refine E.region ?_
      refine X.mv rfl rfl rfl rfl rfl ?_
      refine X.mv rfl rfl rfl rfl rfl ?_
      refine X.mv rfl rfl rfl rfl rfl ?_
      refine X.asg rfl rfl rfl rfl rfl ?_
      refine X.asg rfl rfl rfl rfl rfl ?_
      refine X.asg rfl rfl rfl rfl rfl ?_
      refine X.asg rfl rfl rfl rfl rfl ?_
      refine X.done [(2, _), (3, _), (4, _), (5, _)] ⟨rfl, rfl, rfl, rfl, trivial⟩ ?_
      refine N.then ?_
      refine E.ret ?_
      exact N.retH [_, _, _, _] ⟨_, _, rfl, rfl, _, _, rfl, rfl, _, _, rfl, rfl, _, _, rfl, rfl, rfl⟩ ⟨by unfold ofDistS; rw [if_neg (by omega)]; rfl, hk1.trans hk2 (by simp)⟩

theorem rlen_ct (s : Int) (H : Heap) : Ct Try.prog 13 #[.int .i64 s] H fun v H' => v = T3 (lenS s) ∧ H' = H := by
  refine Ct.into 31 Try.func13 rfl [(0, .int .i64 s)] rfl ⟨rfl, trivial⟩ ?_
  refine E.seq ?_
  refine E.region ?_
  refine X.asg rfl rfl rfl rfl rfl ?_
  refine X.asg rfl rfl rfl rfl rfl ?_
  refine X.asg rfl rfl rfl rfl rfl ?_
  refine X.done [(0, _), (2, _), (3, _), (4, _)] ⟨rfl, rfl, rfl, rfl, trivial⟩ ?_
  refine N.then ?_
  refine E.seq ?_
  refine E.seq ?_
  refine E.region ?_
  refine X.mv rfl rfl rfl rfl rfl ?_
  refine X.eql rfl rfl rfl rfl rfl rfl ?_
  refine X.done [(0, _), (2, _), (3, _), (4, _), (8, _)] ⟨rfl, rfl, rfl, rfl, rfl, trivial⟩ ?_
  refine N.then ?_
  refine E.condD rfl (fun hc => ?_) (fun hc => ?_)
  · refine E.seq ?_
    refine E.region ?_
    refine X.asg rfl rfl rfl rfl rfl ?_
    refine X.asg rfl rfl rfl rfl rfl ?_
    refine X.asg rfl rfl rfl rfl rfl ?_
    refine X.done [(0, _), (2, _), (3, _), (4, _)] ⟨rfl, rfl, rfl, rfl, trivial⟩ ?_
    refine N.then ?_
    refine E.ret ?_
    refine N.thenR ?_
    exact N.retH [_, _, _] ⟨_, _, rfl, rfl, _, _, rfl, rfl, _, _, rfl, rfl, rfl⟩ ⟨by unfold lenS; rw [if_pos hc]; rfl, rfl⟩
  · refine E.skip ?_
    refine N.then ?_
    refine E.seq ?_
    refine E.seq ?_
    refine E.region ?_
    refine X.mv rfl rfl rfl rfl rfl ?_
    refine X.lssC rfl rfl rfl rfl rfl rfl (fun hc => ?_) (fun hc => ?_)
    · refine X.mv rfl rfl rfl rfl rfl ?_
      refine X.skip rfl rfl rfl ?_
      refine X.skip rfl rfl rfl ?_
      refine X.pickT rfl rfl rfl rfl rfl rfl ?_
      refine X.done [(0, _), (2, _), (3, _), (4, _), (14, _)] ⟨rfl, rfl, rfl, rfl, rfl, trivial⟩ ?_
      refine N.then ?_
      refine E.condT rfl ?_
      refine E.seq ?_
      refine E.region ?_
      refine X.asg rfl rfl rfl rfl rfl ?_
      refine X.asg rfl rfl rfl rfl rfl ?_
      refine X.asg rfl rfl rfl rfl rfl ?_
      refine X.done [(0, _), (2, _), (3, _), (4, _)] ⟨rfl, rfl, rfl, rfl, trivial⟩ ?_
      refine N.then ?_
      refine E.ret ?_
      refine N.thenR ?_
      exact N.retH [_, _, _] ⟨_, _, rfl, rfl, _, _, rfl, rfl, _, _, rfl, rfl, rfl⟩ ⟨by unfold lenS ofS; rw [if_neg (by omega), if_pos (by omega)]; rfl, rfl⟩
    · refine X.mv rfl rfl rfl rfl rfl ?_
      refine X.mv rfl rfl rfl rfl rfl ?_
      refine X.gtr rfl rfl rfl rfl rfl rfl ?_
      refine X.pickF rfl rfl rfl rfl rfl rfl ?_
      refine X.done [(0, _), (2, _), (3, _), (4, _), (14, _)] ⟨rfl, rfl, rfl, rfl, rfl, trivial⟩ ?_
      refine N.then ?_
      refine E.condD rfl (fun hc => ?_) (fun hc => ?_)
      · refine E.seq ?_
        refine E.region ?_
        refine X.asg rfl rfl rfl rfl rfl ?_
        refine X.asg rfl rfl rfl rfl rfl ?_
        refine X.asg rfl rfl rfl rfl rfl ?_
        refine X.done [(0, _), (2, _), (3, _), (4, _)] ⟨rfl, rfl, rfl, rfl, trivial⟩ ?_
        refine N.then ?_
        refine E.ret ?_
        refine N.thenR ?_
        exact N.retH [_, _, _] ⟨_, _, rfl, rfl, _, _, rfl, rfl, _, _, rfl, rfl, rfl⟩ ⟨by unfold lenS ofS; rw [if_neg (by omega), if_pos (by omega)]; rfl, rfl⟩
      · refine E.skip ?_
        refine N.then ?_
        refine E.seq ?_
        refine E.region ?_
        refine X.asg rfl rfl rfl rfl rfl ?_
        refine X.done [(0, _), (2, _), (3, _), (4, _), (5, _)] ⟨rfl, rfl, rfl, rfl, rfl, trivial⟩ ?_
        refine N.then ?_
        refine E.seq ?_
        refine E.seq ?_
        refine E.region ?_
        refine X.asg rfl rfl rfl rfl rfl ?_
        refine X.done [(0, _), (2, _), (3, _), (4, _), (5, _), (6, _)] ⟨rfl, rfl, rfl, rfl, rfl, rfl, trivial⟩ ?_
        refine N.then ?_
        refine E.block ?_
        -- MISSING in G: [2, 3, 4]
        refine E.loop (fun (k : Nat) => [(0, .int .i64 s), (5, .int .i64 (bse 4 3 k)), (6, .int .i64 (257 + (k : Int)))]) (fun (k : Nat) H' => 257 + (k : Int) ≤ s ∧ H' = H) (fun (k : Nat) => (s - 257 - k).toNat) 0 ⟨rfl, rfl, rfl, trivial⟩ ⟨by omega, rfl⟩ ?_
        rintro k H1 ⟨hk, rfl⟩
        have hbd := bse_bd (c := 28) (e := 4) (b := 3) (.inl ⟨rfl, rfl, by omega⟩) k (by omega)
        have hdk : (0:Int) ≤ (k:Int) / 4 := Int.ediv_nonneg (by omega) (by omega)
        have hpw := pow_pos' (bt 4 k)
        have hpl := pow_le' (bt 4 k) hbd.2.2.2
        refine E.seq ?_
        refine E.seq ?_
        refine E.region ?_
        refine X.mv rfl rfl rfl rfl rfl ?_
        refine X.mv rfl rfl rfl rfl rfl ?_
        refine X.lss rfl rfl rfl rfl rfl rfl ?_
        refine X.done [(0, _), (5, _), (6, _), (15, _), (16, _), (17, _)] ⟨rfl, rfl, rfl, rfl, rfl, rfl, trivial⟩ ?_
        refine N.then ?_
        refine E.condD rfl (fun hc => ?_) (fun hc => ?_)
        · refine E.skip ?_
          refine N.then ?_
          refine E.seq ?_
          refine E.block ?_
          refine E.region ?_
          refine X.mv rfl rfl rfl rfl rfl ?_
          refine X.mv rfl rfl rfl rfl rfl ?_
          refine X.sbE (zz := (k : Int)) rfl rfl rfl rfl rfl rfl (by rw [IntWalk.i64_in _ (by omega)]; omega) ?_
          refine X.call rfl rfl rfl rfl rfl Try.cl20 (rbits_ct k 4 H1 (by omega) (by omega)) ?_
          rintro _ _ ⟨rfl, rfl⟩
          refine X.convE rfl rfl rfl rfl rfl Try.underlying30 Try.us3 (IntWalk.u64_in _ (by have : max 0 ((k:Int) / 4 - 1) = bt 4 k := rfl; omega)) ?_
          refine X.shlE rfl rfl rfl rfl rfl rfl (by omega) (shl1 (bt 4 k) (by omega)) ?_
          refine X.add rfl rfl rfl rfl rfl rfl (by have : (2:Int) ^ (max 0 ((k:Int) / 4 - 1)).toNat = 2 ^ (bt 4 k).toNat := rfl; omega) ?_
          refine X.asg rfl rfl rfl rfl rfl ?_
          refine X.done [(0, _), (5, _), (6, _), (15, _), (16, _), (17, _), (20, _), (21, _), (22, _), (23, _), (24, _), (25, _), (26, _)] ⟨rfl, rfl, rfl, rfl, rfl, rfl, rfl, rfl, rfl, rfl, rfl, rfl, rfl, trivial⟩ ?_
          refine N.blk ?_
          refine N.then ?_
          refine E.region ?_
          refine X.mv rfl rfl rfl rfl rfl ?_
          refine X.add rfl rfl rfl rfl rfl rfl (by omega) ?_
          refine X.asg rfl rfl rfl rfl rfl ?_
          refine X.done [(0, _), (5, _), (6, _), (15, _), (16, _), (17, _), (20, _), (21, _), (22, _), (23, _), (24, _), (25, _), (26, _), (18, _), (19, _)] ⟨rfl, rfl, rfl, rfl, rfl, rfl, rfl, rfl, rfl, rfl, rfl, rfl, rfl, rfl, rfl, trivial⟩ ?_
          refine N.next (k + 1) ⟨rfl, rfl, rfl, trivial⟩ ⟨by omega, rfl⟩ (by omega)
        · refine E.exit ?_
          refine N.thenX ?_
          refine N.loopX ?_
          refine N.blkX ?_
          refine N.then ?_
          refine E.seq ?_
          refine E.region ?_
          refine X.mv rfl rfl rfl rfl rfl ?_
          refine X.mv rfl rfl rfl rfl rfl ?_
          refine X.sbE (zz := (k : Int)) rfl rfl rfl rfl rfl rfl (by rw [IntWalk.i64_in _ (by omega)]; omega) ?_
          refine X.call rfl rfl rfl rfl rfl Try.cl20 (rbits_ct k 4 H1 (by omega) (by omega)) ?_
          rintro _ _ ⟨rfl, rfl⟩
          refine X.asg rfl rfl rfl rfl rfl ?_
          refine X.asg rfl rfl rfl rfl rfl ?_
          refine X.asg rfl rfl rfl rfl rfl ?_
          refine X.done [(2, _), (3, _), (4, _)] ⟨rfl, rfl, rfl, trivial⟩ ?_
          refine N.then ?_
          refine E.ret ?_
          exact N.retH [_, _, _] ⟨_, _, rfl, rfl, _, _, rfl, rfl, _, _, rfl, rfl, rfl⟩ ⟨by unfold lenS ofS; rw [if_neg (by omega), if_neg (by omega)]; have e1 : (s - 257).toNat = k := (by omega); rw [e1]; rfl, rfl⟩

theorem rdist_ct (s : Int) (H : Heap) : Ct Try.prog 15 #[.int .i64 s] H fun v H' => v = T3 (distS s) ∧ H' = H := by
  refine Ct.into 27 Try.func15 rfl [(0, .int .i64 s)] rfl ⟨rfl, trivial⟩ ?_
  refine E.seq ?_
  refine E.region ?_
  refine X.asg rfl rfl rfl rfl rfl ?_
  refine X.asg rfl rfl rfl rfl rfl ?_
  refine X.asg rfl rfl rfl rfl rfl ?_
  refine X.done [(0, _), (2, _), (3, _), (4, _)] ⟨rfl, rfl, rfl, rfl, trivial⟩ ?_
  refine N.then ?_
  refine E.seq ?_
  refine E.seq ?_
  refine E.region ?_
  refine X.mv rfl rfl rfl rfl rfl ?_
  refine X.lssC rfl rfl rfl rfl rfl rfl (fun hc => ?_) (fun hc => ?_)
  · refine X.mv rfl rfl rfl rfl rfl ?_
    refine X.skip rfl rfl rfl ?_
    refine X.skip rfl rfl rfl ?_
    refine X.pickT rfl rfl rfl rfl rfl rfl ?_
    refine X.done [(0, _), (2, _), (3, _), (4, _), (12, _)] ⟨rfl, rfl, rfl, rfl, rfl, trivial⟩ ?_
    refine N.then ?_
    refine E.condT rfl ?_
    refine E.seq ?_
    refine E.region ?_
    refine X.asg rfl rfl rfl rfl rfl ?_
    refine X.asg rfl rfl rfl rfl rfl ?_
    refine X.asg rfl rfl rfl rfl rfl ?_
    refine X.done [(0, _), (2, _), (3, _), (4, _)] ⟨rfl, rfl, rfl, rfl, trivial⟩ ?_
    refine N.then ?_
    refine E.ret ?_
    refine N.thenR ?_
    exact N.retH [_, _, _] ⟨_, _, rfl, rfl, _, _, rfl, rfl, _, _, rfl, rfl, rfl⟩ ⟨by unfold distS ofS; rw [if_pos (by omega)]; rfl, rfl⟩
  · refine X.mv rfl rfl rfl rfl rfl ?_
    refine X.mv rfl rfl rfl rfl rfl ?_
    refine X.gtr rfl rfl rfl rfl rfl rfl ?_
    refine X.pickF rfl rfl rfl rfl rfl rfl ?_
    refine X.done [(0, _), (2, _), (3, _), (4, _), (12, _)] ⟨rfl, rfl, rfl, rfl, rfl, trivial⟩ ?_
    refine N.then ?_
    refine E.condD rfl (fun hc => ?_) (fun hc => ?_)
    · refine E.seq ?_
      refine E.region ?_
      refine X.asg rfl rfl rfl rfl rfl ?_
      refine X.asg rfl rfl rfl rfl rfl ?_
      refine X.asg rfl rfl rfl rfl rfl ?_
      refine X.done [(0, _), (2, _), (3, _), (4, _)] ⟨rfl, rfl, rfl, rfl, trivial⟩ ?_
      refine N.then ?_
      refine E.ret ?_
      refine N.thenR ?_
      exact N.retH [_, _, _] ⟨_, _, rfl, rfl, _, _, rfl, rfl, _, _, rfl, rfl, rfl⟩ ⟨by unfold distS ofS; rw [if_pos (by omega)]; rfl, rfl⟩
    · refine E.skip ?_
      refine N.then ?_
      refine E.seq ?_
      refine E.region ?_
      refine X.asg rfl rfl rfl rfl rfl ?_
      refine X.done [(0, _), (2, _), (3, _), (4, _), (5, _)] ⟨rfl, rfl, rfl, rfl, rfl, trivial⟩ ?_
      refine N.then ?_
      refine E.seq ?_
      refine E.seq ?_
      refine E.region ?_
      refine X.asg rfl rfl rfl rfl rfl ?_
      refine X.done [(0, _), (2, _), (3, _), (4, _), (5, _), (6, _)] ⟨rfl, rfl, rfl, rfl, rfl, rfl, trivial⟩ ?_
      refine N.then ?_
      refine E.block ?_
      -- MISSING in G: [2, 3, 4]
      refine E.loop (fun (k : Nat) => [(0, .int .i64 s), (5, .int .i64 (bse 2 1 k)), (6, .int .i64 (k : Int))]) (fun (k : Nat) H' => (k : Int) ≤ s ∧ H' = H) (fun (k : Nat) => (s - k).toNat) 0 ⟨rfl, rfl, rfl, trivial⟩ ⟨by omega, rfl⟩ ?_
      rintro k H1 ⟨hk, rfl⟩
      have hbd := bse_bd (c := 30) (e := 2) (b := 1) (.inr ⟨rfl, rfl, by omega⟩) k (by omega)
      have hdk : (0:Int) ≤ (k:Int) / 2 := Int.ediv_nonneg (by omega) (by omega)
      have hpw := pow_pos' (bt 2 k)
      have hpl := pow_le' (bt 2 k) hbd.2.2.2
      refine E.seq ?_
      refine E.seq ?_
      refine E.region ?_
      refine X.mv rfl rfl rfl rfl rfl ?_
      refine X.mv rfl rfl rfl rfl rfl ?_
      refine X.lss rfl rfl rfl rfl rfl rfl ?_
      refine X.done [(0, _), (5, _), (6, _), (13, _), (14, _), (15, _)] ⟨rfl, rfl, rfl, rfl, rfl, rfl, trivial⟩ ?_
      refine N.then ?_
      refine E.condD rfl (fun hc => ?_) (fun hc => ?_)
      · refine E.skip ?_
        refine N.then ?_
        refine E.seq ?_
        refine E.block ?_
        refine E.region ?_
        refine X.mv rfl rfl rfl rfl rfl ?_
        refine X.mv rfl rfl rfl rfl rfl ?_
        refine X.call rfl rfl rfl rfl rfl Try.cl20 (rbits_ct k 2 H1 (by omega) (by omega)) ?_
        rintro _ _ ⟨rfl, rfl⟩
        refine X.convE rfl rfl rfl rfl rfl Try.underlying30 Try.us3 (IntWalk.u64_in _ (by have : max 0 ((k:Int) / 2 - 1) = bt 2 k := rfl; omega)) ?_
        refine X.shlE rfl rfl rfl rfl rfl rfl (by omega) (shl1 (bt 2 k) (by omega)) ?_
        refine X.add rfl rfl rfl rfl rfl rfl (by have : (2:Int) ^ (max 0 ((k:Int) / 2 - 1)).toNat = 2 ^ (bt 2 k).toNat := rfl; omega) ?_
        refine X.asg rfl rfl rfl rfl rfl ?_
        refine X.done [(0, _), (5, _), (6, _), (13, _), (14, _), (15, _), (18, _), (19, _), (20, _), (21, _), (22, _), (23, _)] ⟨rfl, rfl, rfl, rfl, rfl, rfl, rfl, rfl, rfl, rfl, rfl, rfl, trivial⟩ ?_
        refine N.blk ?_
        refine N.then ?_
        refine E.region ?_
        refine X.mv rfl rfl rfl rfl rfl ?_
        refine X.add rfl rfl rfl rfl rfl rfl (by omega) ?_
        refine X.asg rfl rfl rfl rfl rfl ?_
        refine X.done [(0, _), (5, _), (6, _), (13, _), (14, _), (15, _), (18, _), (19, _), (20, _), (21, _), (22, _), (23, _), (16, _), (17, _)] ⟨rfl, rfl, rfl, rfl, rfl, rfl, rfl, rfl, rfl, rfl, rfl, rfl, rfl, rfl, trivial⟩ ?_
        refine N.next (k + 1) ⟨rfl, rfl, rfl, trivial⟩ ⟨by omega, rfl⟩ (by omega)
      · refine E.exit ?_
        refine N.thenX ?_
        refine N.loopX ?_
        refine N.blkX ?_
        refine N.then ?_
        refine E.seq ?_
        obtain rfl : s = (k : Int) := by omega
        refine E.region ?_
        refine X.mv rfl rfl rfl rfl rfl ?_
        refine X.mv rfl rfl rfl rfl rfl ?_
        refine X.call rfl rfl rfl rfl rfl Try.cl20 (rbits_ct k 2 H1 (by omega) (by omega)) ?_
        rintro _ _ ⟨rfl, rfl⟩
        refine X.asg rfl rfl rfl rfl rfl ?_
        refine X.asg rfl rfl rfl rfl rfl ?_
        refine X.asg rfl rfl rfl rfl rfl ?_
        refine X.done [(2, _), (3, _), (4, _)] ⟨rfl, rfl, rfl, trivial⟩ ?_
        refine N.then ?_
        refine E.ret ?_
        exact N.retH [_, _, _] ⟨_, _, rfl, rfl, _, _, rfl, rfl, _, _, rfl, rfl, rfl⟩ ⟨by unfold distS ofS; rw [if_neg (by omega)]; have e1 : ((k : Int) - 0).toNat = k := (by omega); rw [e1]; rfl, rfl⟩


theorem lenS_at (j : Nat) (h : j < 28) : lenS (257 + (j : Int)) = (bse 4 3 j, bt 4 j, true) := by
  unfold lenS ofS
  have e1 : (257 + (j : Int) - 257).toNat = j := by omega
  rw [if_neg (by omega), if_neg (by omega), e1]
theorem lenS_28 : lenS (257 + ((28 : Nat) : Int)) = (258, 0, true) := rfl
theorem distS_at (j : Nat) (h : j < 30) : distS (j : Int) = (bse 2 1 j, bt 2 j, true) := by
  unfold distS ofS
  have e1 : ((j : Int) - 0).toNat = j := by omega
  rw [if_neg (by omega), e1]
theorem bse0 (e b : Int) : bse e b 0 = b := rfl
theorem bse41 : bse 4 3 1 = 4 := rfl
theorem bse21 : bse 2 1 1 = 2 := rfl
theorem lenS_bd (j : Nat) (h : j ≤ 28) : 0 ≤ (lenS (257 + (j : Int))).1 ∧ (lenS (257 + (j : Int))).1 ≤ 40000 := by
  by_cases hj : j < 28
  · rw [lenS_at j hj]; have := bse_bd (c := 28) (e := 4) (b := 3) (.inl ⟨rfl, rfl, by omega⟩) j (by omega); show 0 ≤ bse 4 3 j ∧ bse 4 3 j ≤ 40000; omega
  · have : j = 28 := by omega
    subst this; rw [lenS_28]; simp

theorem roflen_ct (s : Int) (H : Heap) : Ct Try.prog 8 #[.int .i64 s] H fun v H' => v = T4 (ofLenS s) ∧ H' = H := by
  refine Ct.into 34 Try.func8 rfl [(0, .int .i64 s)] rfl ⟨rfl, trivial⟩ ?_
  refine E.seq ?_
  refine E.region ?_
  refine X.asg rfl rfl rfl rfl rfl ?_
  refine X.asg rfl rfl rfl rfl rfl ?_
  refine X.asg rfl rfl rfl rfl rfl ?_
  refine X.asg rfl rfl rfl rfl rfl ?_
  refine X.done [(0, _), (2, _), (3, _), (4, _), (5, _)] ⟨rfl, rfl, rfl, rfl, rfl, trivial⟩ ?_
  refine N.then ?_
  refine E.seq ?_
  refine E.seq ?_
  refine E.region ?_
  refine X.mv rfl rfl rfl rfl rfl ?_
  refine X.lssC rfl rfl rfl rfl rfl rfl (fun hc => ?_) (fun hc => ?_)
  · refine X.mv rfl rfl rfl rfl rfl ?_
    refine X.skip rfl rfl rfl ?_
    refine X.skip rfl rfl rfl ?_
    refine X.pickT rfl rfl rfl rfl rfl rfl ?_
    refine X.done [(0, _), (2, _), (3, _), (4, _), (5, _), (15, _)] ⟨rfl, rfl, rfl, rfl, rfl, rfl, trivial⟩ ?_
    refine N.then ?_
    refine E.condT rfl ?_
    refine E.seq ?_
    refine E.region ?_
    refine X.asg rfl rfl rfl rfl rfl ?_
    refine X.asg rfl rfl rfl rfl rfl ?_
    refine X.asg rfl rfl rfl rfl rfl ?_
    refine X.asg rfl rfl rfl rfl rfl ?_
    refine X.done [(0, _), (2, _), (3, _), (4, _), (5, _)] ⟨rfl, rfl, rfl, rfl, rfl, trivial⟩ ?_
    refine N.then ?_
    refine E.ret ?_
    refine N.thenR ?_
    exact N.retH [_, _, _, _] ⟨_, _, rfl, rfl, _, _, rfl, rfl, _, _, rfl, rfl, _, _, rfl, rfl, rfl⟩ ⟨by unfold ofLenS; rw [if_pos (by omega)]; rfl, rfl⟩
  · refine X.mv rfl rfl rfl rfl rfl ?_
    refine X.mv rfl rfl rfl rfl rfl ?_
    refine X.gtr rfl rfl rfl rfl rfl rfl ?_
    refine X.pickF rfl rfl rfl rfl rfl rfl ?_
    refine X.done [(0, _), (2, _), (3, _), (4, _), (5, _), (15, _)] ⟨rfl, rfl, rfl, rfl, rfl, rfl, trivial⟩ ?_
    refine N.then ?_
    refine E.condD rfl (fun hc => ?_) (fun hc => ?_)
    · refine E.seq ?_
      refine E.region ?_
      refine X.asg rfl rfl rfl rfl rfl ?_
      refine X.asg rfl rfl rfl rfl rfl ?_
      refine X.asg rfl rfl rfl rfl rfl ?_
      refine X.asg rfl rfl rfl rfl rfl ?_
      refine X.done [(0, _), (2, _), (3, _), (4, _), (5, _)] ⟨rfl, rfl, rfl, rfl, rfl, trivial⟩ ?_
      refine N.then ?_
      refine E.ret ?_
      refine N.thenR ?_
      exact N.retH [_, _, _, _] ⟨_, _, rfl, rfl, _, _, rfl, rfl, _, _, rfl, rfl, _, _, rfl, rfl, rfl⟩ ⟨by unfold ofLenS; rw [if_pos (by omega)]; rfl, rfl⟩
    · refine E.skip ?_
      refine N.then ?_
      refine E.seq ?_
      refine E.seq ?_
      refine E.region ?_
      refine X.asg rfl rfl rfl rfl rfl ?_
      refine X.done [(0, _), (2, _), (3, _), (4, _), (5, _), (6, _)] ⟨rfl, rfl, rfl, rfl, rfl, rfl, trivial⟩ ?_
      refine N.then ?_
      refine E.block ?_
      -- MISSING in G: [2, 3, 4, 5]
      refine E.loop (fun (j : Nat) => [(0, .int .i64 s), (6, .int .i64 (257 + (j : Int)))]) (fun (j : Nat) H' => j ≤ 28 ∧ (j = 28 ∨ (s < 258 ∧ srch 4 3 s 27 = srch 4 3 s j ∧ (j < 27 → s < bse 4 3 (j + 1)))) ∧ H' = H) (fun (j : Nat) => j) 28 ⟨rfl, rfl, trivial⟩ ⟨by omega, .inl rfl, rfl⟩ ?_
      rintro j H1 ⟨hj, hJ, rfl⟩
      have hbd := lenS_bd j hj
      refine E.seq ?_
      refine E.seq ?_
      refine E.region ?_
      refine X.mv rfl rfl rfl rfl rfl ?_
      refine X.gtr rfl rfl rfl rfl rfl rfl ?_
      refine X.done [(0, _), (6, _), (16, _), (17, _)] ⟨rfl, rfl, rfl, rfl, trivial⟩ ?_
      refine N.then ?_
      refine E.condD rfl (fun hc => ?_) (fun hc => ?_)
      · refine E.skip ?_
        refine N.then ?_
        refine E.seq ?_
        refine E.block ?_
        refine E.seq ?_
        refine E.region ?_
        refine X.mv rfl rfl rfl rfl rfl ?_
        refine X.call rfl rfl rfl rfl rfl Try.cl13 (rlen_ct (257 + (j : Int)) H1) ?_
        rintro _ _ ⟨rfl, rfl⟩
        refine X.mv rfl rfl rfl rfl rfl ?_
        refine X.extract rfl rfl rfl rfl rfl rfl ?_
        refine X.extract rfl rfl rfl rfl rfl rfl ?_
        refine X.extract rfl rfl rfl rfl rfl rfl ?_
        refine X.asg rfl rfl rfl rfl rfl ?_
        refine X.asg rfl rfl rfl rfl rfl ?_
        refine X.asg rfl rfl rfl rfl rfl ?_
        refine X.done [(0, _), (6, _), (16, _), (17, _), (21, _), (22, _), (20, _), (23, _), (24, _), (25, _), (7, _), (8, _)] ⟨rfl, rfl, rfl, rfl, rfl, rfl, rfl, rfl, rfl, rfl, rfl, rfl, trivial⟩ ?_
        refine N.then ?_
        refine E.seq ?_
        refine E.region ?_
        refine X.mv rfl rfl rfl rfl rfl ?_
        refine X.mv rfl rfl rfl rfl rfl ?_
        refine X.leq rfl rfl rfl rfl rfl rfl ?_
        refine X.done [(0, _), (6, _), (16, _), (17, _), (21, _), (22, _), (20, _), (23, _), (24, _), (25, _), (7, _), (8, _), (26, _), (27, _), (28, _)] ⟨rfl, rfl, rfl, rfl, rfl, rfl, rfl, rfl, rfl, rfl, rfl, rfl, rfl, rfl, rfl, trivial⟩ ?_
        refine N.then ?_
        refine E.condD rfl (fun hc => ?_) (fun hc => ?_)
        · refine E.seq ?_
          refine E.region ?_
          refine X.mv rfl rfl rfl rfl rfl ?_
          refine X.mv rfl rfl rfl rfl rfl ?_
          refine X.mv rfl rfl rfl rfl rfl ?_
          refine X.mv rfl rfl rfl rfl rfl ?_
          refine X.sb rfl rfl rfl rfl rfl rfl (by omega) ?_
          refine X.asg rfl rfl rfl rfl rfl ?_
          refine X.asg rfl rfl rfl rfl rfl ?_
          refine X.asg rfl rfl rfl rfl rfl ?_
          refine X.asg rfl rfl rfl rfl rfl ?_
          refine X.done [(0, _), (6, _), (16, _), (17, _), (21, _), (22, _), (20, _), (23, _), (24, _), (25, _), (7, _), (8, _), (26, _), (27, _), (28, _), (29, _), (30, _), (31, _), (32, _), (33, _), (2, _), (3, _), (4, _), (5, _)] ⟨rfl, rfl, rfl, rfl, rfl, rfl, rfl, rfl, rfl, rfl, rfl, rfl, rfl, rfl, rfl, rfl, rfl, rfl, rfl, rfl, rfl, rfl, rfl, rfl, trivial⟩ ?_
          refine N.then ?_
          refine E.ret ?_
          refine N.blkR ?_
          refine N.thenR ?_
          refine N.loopR ?_
          refine N.blkR ?_
          refine N.thenR ?_
          refine N.retH [_, _, _, _] ⟨_, _, rfl, rfl, _, _, rfl, rfl, _, _, rfl, rfl, _, _, rfl, rfl, rfl⟩ ⟨?_, rfl⟩
          unfold ofLenS
          rw [if_neg (by omega)]
          by_cases h28 : j = 28
          · subst h28
            have h258 : (lenS (257 + ((28 : Nat) : Int))).1 = 258 := rfl
            obtain rfl : s = 258 := by omega
            rfl
          · have hl := lenS_at j (by omega)
            rw [hl] at hc ⊢
            have hc3 : bse 4 3 j ≤ s := hc
            rcases hJ with h | ⟨h1, h2, h3⟩
            · omega
            · rw [if_neg (by omega), h2, srch_stop 4 3 s hc3]; rfl
        · refine E.skip ?_
          refine N.blk ?_
          refine N.then ?_
          have hc2 := hc
          obtain ⟨j', rfl⟩ : ∃ j', j = j' + 1 := ⟨j - 1, by omega⟩
          refine E.region ?_
          refine X.mv rfl rfl rfl rfl rfl ?_
          refine X.sbE (zz := 257 + (j' : Int)) rfl rfl rfl rfl rfl rfl (by rw [IntWalk.i64_in _ (by omega)]; omega) ?_
          refine X.asg rfl rfl rfl rfl rfl ?_
          refine X.done [(0, _), (6, _), (16, _), (17, _), (21, _), (22, _), (20, _), (23, _), (24, _), (25, _), (7, _), (8, _), (26, _), (27, _), (28, _), (18, _), (19, _)] ⟨rfl, rfl, rfl, rfl, rfl, rfl, rfl, rfl, rfl, rfl, rfl, rfl, rfl, rfl, rfl, rfl, rfl, trivial⟩ ?_
          refine N.next j' ⟨rfl, rfl, trivial⟩ ⟨by omega, .inr ?_, rfl⟩ (by omega)
          by_cases h28 : j' + 1 = 28
          · obtain rfl : j' = 27 := by omega
            have h258 : (lenS (257 + ((27 + 1 : Nat) : Int))).1 = 258 := rfl
            exact ⟨by omega, rfl, fun h => by omega⟩
          · have hl := lenS_at (j' + 1) (by omega)
            rw [hl] at hc2
            have hc3 : ¬ bse 4 3 (j' + 1) ≤ s := hc2
            rcases hJ with h | ⟨h1, h2, h3⟩
            · omega
            · exact ⟨h1, by rw [h2, srch_step 4 3 s hc3], fun _ => by omega⟩
      · refine E.exit ?_
        refine N.thenX ?_
        refine N.loopX ?_
        refine N.blkX ?_
        refine N.then ?_
        refine E.seq ?_
        refine E.region ?_
        refine X.asg rfl rfl rfl rfl rfl ?_
        refine X.asg rfl rfl rfl rfl rfl ?_
        refine X.asg rfl rfl rfl rfl rfl ?_
        refine X.asg rfl rfl rfl rfl rfl ?_
        refine X.done [(2, _), (3, _), (4, _), (5, _)] ⟨rfl, rfl, rfl, rfl, trivial⟩ ?_
        refine N.then ?_
        refine E.ret ?_
        refine N.retH [_, _, _, _] ⟨_, _, rfl, rfl, _, _, rfl, rfl, _, _, rfl, rfl, _, _, rfl, rfl, rfl⟩ ⟨?_, rfl⟩
        obtain rfl : j = 0 := by omega
        rcases hJ with h | ⟨h1, h2, h3⟩
        · omega
        have h4 := h3 (by omega)
        rw [bse41] at h4
        obtain rfl : s = 3 := by omega
        rfl

theorem rofdist_ct (s : Int) (H : Heap) : Ct Try.prog 10 #[.int .i64 s] H fun v H' => v = T4 (ofDistS s) ∧ H' = H := by
  refine Ct.into 34 Try.func10 rfl [(0, .int .i64 s)] rfl ⟨rfl, trivial⟩ ?_
  refine E.seq ?_
  refine E.region ?_
  refine X.asg rfl rfl rfl rfl rfl ?_
  refine X.asg rfl rfl rfl rfl rfl ?_
  refine X.asg rfl rfl rfl rfl rfl ?_
  refine X.asg rfl rfl rfl rfl rfl ?_
  refine X.done [(0, _), (2, _), (3, _), (4, _), (5, _)] ⟨rfl, rfl, rfl, rfl, rfl, trivial⟩ ?_
  refine N.then ?_
  refine E.seq ?_
  refine E.seq ?_
  refine E.region ?_
  refine X.mv rfl rfl rfl rfl rfl ?_
  refine X.lssC rfl rfl rfl rfl rfl rfl (fun hc => ?_) (fun hc => ?_)
  · refine X.mv rfl rfl rfl rfl rfl ?_
    refine X.skip rfl rfl rfl ?_
    refine X.skip rfl rfl rfl ?_
    refine X.pickT rfl rfl rfl rfl rfl rfl ?_
    refine X.done [(0, _), (2, _), (3, _), (4, _), (5, _), (15, _)] ⟨rfl, rfl, rfl, rfl, rfl, rfl, trivial⟩ ?_
    refine N.then ?_
    refine E.condT rfl ?_
    refine E.seq ?_
    refine E.region ?_
    refine X.asg rfl rfl rfl rfl rfl ?_
    refine X.asg rfl rfl rfl rfl rfl ?_
    refine X.asg rfl rfl rfl rfl rfl ?_
    refine X.asg rfl rfl rfl rfl rfl ?_
    refine X.done [(0, _), (2, _), (3, _), (4, _), (5, _)] ⟨rfl, rfl, rfl, rfl, rfl, trivial⟩ ?_
    refine N.then ?_
    refine E.ret ?_
    refine N.thenR ?_
    exact N.retH [_, _, _, _] ⟨_, _, rfl, rfl, _, _, rfl, rfl, _, _, rfl, rfl, _, _, rfl, rfl, rfl⟩ ⟨by unfold ofDistS; rw [if_pos (by omega)]; rfl, rfl⟩
  · refine X.mv rfl rfl rfl rfl rfl ?_
    refine X.mv rfl rfl rfl rfl rfl ?_
    refine X.gtr rfl rfl rfl rfl rfl rfl ?_
    refine X.pickF rfl rfl rfl rfl rfl rfl ?_
    refine X.done [(0, _), (2, _), (3, _), (4, _), (5, _), (15, _)] ⟨rfl, rfl, rfl, rfl, rfl, rfl, trivial⟩ ?_
    refine N.then ?_
    refine E.condD rfl (fun hc => ?_) (fun hc => ?_)
    · refine E.seq ?_
      refine E.region ?_
      refine X.asg rfl rfl rfl rfl rfl ?_
      refine X.asg rfl rfl rfl rfl rfl ?_
      refine X.asg rfl rfl rfl rfl rfl ?_
      refine X.asg rfl rfl rfl rfl rfl ?_
      refine X.done [(0, _), (2, _), (3, _), (4, _), (5, _)] ⟨rfl, rfl, rfl, rfl, rfl, trivial⟩ ?_
      refine N.then ?_
      refine E.ret ?_
      refine N.thenR ?_
      exact N.retH [_, _, _, _] ⟨_, _, rfl, rfl, _, _, rfl, rfl, _, _, rfl, rfl, _, _, rfl, rfl, rfl⟩ ⟨by unfold ofDistS; rw [if_pos (by omega)]; rfl, rfl⟩
    · refine E.skip ?_
      refine N.then ?_
      refine E.seq ?_
      refine E.seq ?_
      refine E.region ?_
      refine X.asg rfl rfl rfl rfl rfl ?_
      refine X.done [(0, _), (2, _), (3, _), (4, _), (5, _), (6, _)] ⟨rfl, rfl, rfl, rfl, rfl, rfl, trivial⟩ ?_
      refine N.then ?_
      refine E.block ?_
      -- MISSING in G: [2, 3, 4, 5]
      refine E.loop (fun (j : Nat) => [(0, .int .i64 s), (6, .int .i64 (j : Int))]) (fun (j : Nat) H' => j ≤ 29 ∧ srch 2 1 s 29 = srch 2 1 s j ∧ (j < 29 → s < bse 2 1 (j + 1)) ∧ H' = H) (fun (j : Nat) => j) 29 ⟨rfl, rfl, trivial⟩ ⟨by omega, rfl, fun h => by omega, rfl⟩ ?_
      rintro j H1 ⟨hj, h2, h3, rfl⟩
      have hbd := bse_bd (c := 30) (e := 2) (b := 1) (.inr ⟨rfl, rfl, by omega⟩) j (by omega)
      have hl := distS_at j (by omega)
      have hct := rdist_ct (j : Int) H1
      rw [hl] at hct
      refine E.seq ?_
      refine E.seq ?_
      refine E.region ?_
      refine X.mv rfl rfl rfl rfl rfl ?_
      refine X.gtr rfl rfl rfl rfl rfl rfl ?_
      refine X.done [(0, _), (6, _), (16, _), (17, _)] ⟨rfl, rfl, rfl, rfl, trivial⟩ ?_
      refine N.then ?_
      refine E.condD rfl (fun hc => ?_) (fun hc => ?_)
      · refine E.skip ?_
        refine N.then ?_
        refine E.seq ?_
        refine E.block ?_
        refine E.seq ?_
        refine E.region ?_
        refine X.mv rfl rfl rfl rfl rfl ?_
        refine X.call rfl rfl rfl rfl rfl Try.cl15 (hct) ?_
        rintro _ _ ⟨rfl, rfl⟩
        refine X.mv rfl rfl rfl rfl rfl ?_
        refine X.extract rfl rfl rfl rfl rfl rfl ?_
        refine X.extract rfl rfl rfl rfl rfl rfl ?_
        refine X.extract rfl rfl rfl rfl rfl rfl ?_
        refine X.asg rfl rfl rfl rfl rfl ?_
        refine X.asg rfl rfl rfl rfl rfl ?_
        refine X.asg rfl rfl rfl rfl rfl ?_
        refine X.done [(0, _), (6, _), (16, _), (17, _), (21, _), (22, _), (20, _), (23, _), (24, _), (25, _), (7, _), (8, _)] ⟨rfl, rfl, rfl, rfl, rfl, rfl, rfl, rfl, rfl, rfl, rfl, rfl, trivial⟩ ?_
        refine N.then ?_
        refine E.seq ?_
        refine E.region ?_
        refine X.mv rfl rfl rfl rfl rfl ?_
        refine X.mv rfl rfl rfl rfl rfl ?_
        refine X.leq rfl rfl rfl rfl rfl rfl ?_
        refine X.done [(0, _), (6, _), (16, _), (17, _), (21, _), (22, _), (20, _), (23, _), (24, _), (25, _), (7, _), (8, _), (26, _), (27, _), (28, _)] ⟨rfl, rfl, rfl, rfl, rfl, rfl, rfl, rfl, rfl, rfl, rfl, rfl, rfl, rfl, rfl, trivial⟩ ?_
        refine N.then ?_
        refine E.condD rfl (fun hc => ?_) (fun hc => ?_)
        · refine E.seq ?_
          refine E.region ?_
          refine X.mv rfl rfl rfl rfl rfl ?_
          refine X.mv rfl rfl rfl rfl rfl ?_
          refine X.mv rfl rfl rfl rfl rfl ?_
          refine X.mv rfl rfl rfl rfl rfl ?_
          refine X.sb rfl rfl rfl rfl rfl rfl (by omega) ?_
          refine X.asg rfl rfl rfl rfl rfl ?_
          refine X.asg rfl rfl rfl rfl rfl ?_
          refine X.asg rfl rfl rfl rfl rfl ?_
          refine X.asg rfl rfl rfl rfl rfl ?_
          refine X.done [(0, _), (6, _), (16, _), (17, _), (21, _), (22, _), (20, _), (23, _), (24, _), (25, _), (7, _), (8, _), (26, _), (27, _), (28, _), (29, _), (30, _), (31, _), (32, _), (33, _), (2, _), (3, _), (4, _), (5, _)] ⟨rfl, rfl, rfl, rfl, rfl, rfl, rfl, rfl, rfl, rfl, rfl, rfl, rfl, rfl, rfl, rfl, rfl, rfl, rfl, rfl, rfl, rfl, rfl, rfl, trivial⟩ ?_
          refine N.then ?_
          refine E.ret ?_
          refine N.blkR ?_
          refine N.thenR ?_
          refine N.loopR ?_
          refine N.blkR ?_
          refine N.thenR ?_
          exact N.retH [_, _, _, _] ⟨_, _, rfl, rfl, _, _, rfl, rfl, _, _, rfl, rfl, _, _, rfl, rfl, rfl⟩ ⟨by unfold ofDistS; rw [if_neg (by omega), h2, srch_stop 2 1 s hc]; simp [T4, tup], rfl⟩
        · refine E.skip ?_
          refine N.blk ?_
          refine N.then ?_
          have hc2 := hc
          obtain ⟨j', rfl⟩ : ∃ j', j = j' + 1 := ⟨j - 1, by omega⟩
          refine E.region ?_
          refine X.mv rfl rfl rfl rfl rfl ?_
          refine X.sbE (zz := (j' : Int)) rfl rfl rfl rfl rfl rfl (by rw [IntWalk.i64_in _ (by omega)]; omega) ?_
          refine X.asg rfl rfl rfl rfl rfl ?_
          refine X.done [(0, _), (6, _), (16, _), (17, _), (21, _), (22, _), (20, _), (23, _), (24, _), (25, _), (7, _), (8, _), (26, _), (27, _), (28, _), (18, _), (19, _)] ⟨rfl, rfl, rfl, rfl, rfl, rfl, rfl, rfl, rfl, rfl, rfl, rfl, rfl, rfl, rfl, rfl, rfl, trivial⟩ ?_
          refine N.next j' ⟨rfl, rfl, trivial⟩ ⟨by omega, by rw [h2, srch_step 2 1 s hc2], fun _ => by omega, rfl⟩ (by omega)
      · refine E.exit ?_
        refine N.thenX ?_
        refine N.loopX ?_
        refine N.blkX ?_
        refine N.then ?_
        refine E.seq ?_
        refine E.region ?_
        refine X.asg rfl rfl rfl rfl rfl ?_
        refine X.asg rfl rfl rfl rfl rfl ?_
        refine X.asg rfl rfl rfl rfl rfl ?_
        refine X.asg rfl rfl rfl rfl rfl ?_
        refine X.done [(2, _), (3, _), (4, _), (5, _)] ⟨rfl, rfl, rfl, rfl, trivial⟩ ?_
        refine N.then ?_
        refine E.ret ?_
        refine N.retH [_, _, _, _] ⟨_, _, rfl, rfl, _, _, rfl, rfl, _, _, rfl, rfl, _, _, rfl, rfl, rfl⟩ ⟨?_, rfl⟩
        obtain rfl : j = 0 := by omega
        have h4 := h3 (by omega)
        rw [bse21] at h4
        obtain rfl : s = 1 := by omega
        rfl

end Go.Proofs.Ytalneokknakicaa