/- The walks: a byte as it is written, sets of texts. -/
import Derived.Test.YtcandjdomeompaaDoorZ2
import Derived.Test.YtcandjdomeompaaDoorZO
namespace Go.Proofs.YtcandjdomeompaaDoor
open Go.SX Go.Chr
attribute [local irreducible] X E N Ct
set_option linter.unusedVariables false
set_option linter.unusedSimpArgs false

theorem zoff {cs : List Value} : ∀ j v, cs[j]? = some v → cs[0 + j]? = some v := fun j v h => by rw [Nat.zero_add]; exact h
theorem splice_all {cs vs : List Value} (h : cs.length = vs.length) : splice cs 0 vs = vs := by
  simp [splice, ← h]
theorem uv_len (ws : List Nat) : (uv ws).length = ws.length := List.length_map _
theorem rd_lit {H : Heap} {b c : Nat} {e : TypeId} {s : Bs} {cs : List Value} {n : Nat} (hb : H[b]? = some (.cells cs.toArray e (0, 0))) (h : bv s = cs) (hl : s.length = n) : Rd H 1 (.slice (some ⟨b, 0, none⟩) n c) n (bv s) := by
  subst h hl
  exact ⟨by simp [bv], _, _, rfl, .inr ⟨b, 0, _, _, _, rfl, hb, fun j u hj => by rw [Nat.zero_add]; exact hj⟩⟩
theorem bv1 {c : Nat} (h : c < 256) : bv [u8 c] = [.int .u8 (c : Int)] := by
  show [Value.int .u8 (((u8 c).toNat : Nat) : Int)] = _; rw [u8_nat h]
theorem and8 {a b : Nat} {p q : Int} (hp : p = a) (hq : q = b) (ha : a < 2 ^ 8) (hb : b < 2 ^ 8) : IntKind.u8.wrap (BitVec.ofInt IntKind.u8.bits p &&& BitVec.ofInt IntKind.u8.bits q).toNat = ((a &&& b : Nat) : Int) := by
  rw [show IntKind.u8.bits = 8 from rfl, bv_and hp hq ha hb]
  have : a &&& b ≤ a := Nat.and_le_left
  exact IntWalk.u8_in _ (by omega)
theorem msk_true {i c : Nat} {m : UInt8} (h : marks[i]? = some m) (e : (m.toNat : Int) = c) : msk c = true := by
  have : u8 c = m := by rw [show c = m.toNat by omega, u8_toNat]
  rw [msk, this]; exact decide_eq_true (List.mem_of_getElem? h)
theorem msk_false {c : Nat} (hc : c < 256) (h : ∀ j m, j < 16 → marks[j]? = some m → (m.toNat : Int) ≠ c) : msk c = false := by
  apply decide_eq_false
  intro hm
  obtain ⟨j, hj, e⟩ := List.getElem_of_mem hm
  refine h j _ hj (List.getElem?_eq_getElem hj) ?_
  rw [e, u8_nat hc]
theorem mark_at {i : Nat} (h : i < 16) : ∃ m, marks[i]? = some m := ⟨_, List.getElem?_eq_getElem h⟩
theorem hex_at {i : Nat} (h : i < 16) : ∃ m, hexs[i]? = some m ∧ hexs.getD i 0 = m := by
  refine ⟨hexs[i]'h, List.getElem?_eq_getElem h, ?_⟩
  simp [List.getD, List.getElem?_eq_getElem (l := hexs) h]
theorem wr_a {c : Nat} (h : c = 10) : wr c = [92, 110] := by simp [wr, h]
theorem wr_b {c : Nat} (h : c = 9) : wr c = [92, 116] := by simp [wr, h]
theorem wr_c {c : Nat} (h : c = 32) : wr c = [92, 115] := by simp [wr, h]
theorem wr_d {c : Nat} (h : c ≠ 10 ∧ c ≠ 9 ∧ c ≠ 32) (hm : msk c = true) : wr c = [92, u8 c] := by simp [wr, h, hm]
theorem wr_e {c : Nat} (h : c ≠ 10 ∧ c ≠ 9 ∧ c ≠ 32) (hm : msk c = false) (h2 : 32 < c ∧ c < 127) : wr c = [u8 c] := by simp [wr, h, hm, h2]
theorem wr_f {c : Nat} {a b : UInt8} (h : c ≠ 10 ∧ c ≠ 9 ∧ c ≠ 32) (hm : msk c = false) (h2 : ¬ (32 < c ∧ c < 127)) (ha : hexs.getD (c / 16) 0 = a) (hb : hexs.getD (c % 16) 0 = b) : wr c = [92, 120, a, b] := by
  rw [wr, if_neg h.1, if_neg h.2.1, if_neg h.2.2, hm, if_neg (by decide), if_neg h2, ha, hb]
theorem shl1 {c : Nat} {q : Int} (hq : q = ((c % 64 : Nat) : Int)) : IntKind.u64.wrap ((1 : Int) * 2 ^ (min q.toNat IntKind.u64.bits)) = ((2 ^ (c % 64) : Nat) : Int) := by
  have h := bitw_lt c
  have e : (1 : Int) * 2 ^ (c % 64) = ((2 ^ (c % 64) : Nat) : Int) := by simp
  have h1 : ((2 ^ (c % 64) : Nat) : Int) ≤ 18446744073709551615 := by
    have : 2 ^ (c % 64) ≤ 18446744073709551615 := by omega
    exact Int.ofNat_le.2 this
  rw [shlU hq (by omega) (by rw [e]; exact Int.natCast_nonneg _) (by rw [e]; exact h1), e]
theorem uv_at {ws : List Nat} (h : Ws ws) {i : Nat} (hi : i < 4) : (uv ws)[0 + i * 1]? = some (.int .u64 ((wd ws i : Nat) : Int)) := by
  rw [Nat.zero_add, Nat.mul_one]; exact uv_get (h.get hi).1
theorem uv_setb {ws : List Nat} (h : Ws ws) {c : Nat} (hc : c < 256) : (uv ws).set (0 + ((c / 64 : Nat) : Int).toNat * 1) (.int .u64 ((wd ws (c / 64) ||| 2 ^ (c % 64) : Nat) : Int)) = uv (setb ws c) := by
  rw [Int.toNat_natCast, Nat.zero_add, Nat.mul_one, uv_set, set_setb h.len hc]
theorem uv4 {ws : List Nat} (h : Ws ws) : (uv ws).length = 4 := by rw [uv_len, h.len]

theorem masked_ct (c : Nat) (H : Heap) (hc8 : c < 256) : Ct Tryd.prog 50 #[.int .u8 c] H fun v H' => v = .bool (msk c) ∧ H' = H := by
  refine Ct.into 12 Tryd.func50 rfl [(0, .int .u8 c)] rfl ⟨rfl, trivial⟩ ?_
  refine E.seq ?_
  refine E.region ?_
  refine X.asg rfl rfl rfl rfl rfl ?_
  refine X.done [(0, _), (2, _)] ⟨rfl, rfl, trivial⟩ ?_
  refine N.then ?_
  refine E.seq ?_
  refine E.seq ?_
  refine E.region ?_
  refine X.mv rfl rfl rfl rfl rfl ?_
  refine X.done [(0, _), (2, _), (4, _)] ⟨rfl, rfl, rfl, trivial⟩ ?_
  refine N.then ?_
  refine E.block ?_
  refine E.loop (fun (i : Nat) => [(0, .int .u8 c), (2, .bool false), (4, i64 i)]) (fun (i : Nat) H' => i ≤ 16 ∧ H' = H ∧ ∀ j m, j < i → marks[j]? = some m → (m.toNat : Int) ≠ c) (fun (i : Nat) => 16 - i) 0 ⟨rfl, rfl, rfl, trivial⟩ ⟨Nat.zero_le _, rfl, fun j m h => absurd h (Nat.not_lt_zero _)⟩ ?_
  rintro i H1 ⟨hi, eH, hno⟩
  obtain rfl := eH.symm
  refine E.seq ?_
  refine E.region ?_
  refine X.lss rfl rfl rfl rfl rfl rfl ?_
  refine X.done [(0, _), (2, _), (4, _), (5, _)] ⟨rfl, rfl, rfl, rfl, trivial⟩ ?_
  refine N.then ?_
  refine E.seq ?_
  refine E.condD rfl (fun hc => ?_) (fun hc => ?_)
  · refine E.skip ?_
    refine N.then ?_
    refine E.seq ?_
    refine E.block ?_
    refine E.seq ?_
    have hi16 : i < 16 := Int.ofNat_lt.1 (show (i : Int) < ((16 : Nat) : Int) from by assumption)
    obtain ⟨m, hm⟩ := mark_at hi16
    refine E.region ?_
    refine X.mv rfl rfl rfl rfl rfl ?_
    refine X.asg rfl rfl rfl rfl rfl ?_
    refine X.done [(0, _), (2, _), (4, _), (5, _), (6, _), (3, _)] ⟨rfl, rfl, rfl, rfl, rfl, rfl, trivial⟩ ?_
    refine N.then ?_
    refine E.seq ?_
    refine E.region ?_
    refine X.mv rfl rfl rfl rfl rfl ?_
    refine X.ixS rfl rfl rfl rfl rfl rfl Tryd.underlying9 (by omega) (by exact hm) ?_
    refine X.mv rfl rfl rfl rfl rfl ?_
    refine X.eql rfl rfl rfl rfl rfl rfl ?_
    refine X.done [(0, _), (2, _), (4, _), (5, _), (6, _), (3, _), (7, _), (8, _), (9, _), (10, _)] ⟨rfl, rfl, rfl, rfl, rfl, rfl, rfl, rfl, rfl, rfl, trivial⟩ ?_
    refine N.then ?_
    refine E.condD rfl (fun hc => ?_) (fun hc => ?_)
    · refine E.seq ?_
      refine E.region ?_
      refine X.asg rfl rfl rfl rfl rfl ?_
      refine X.done [(0, _), (2, _), (4, _), (5, _), (6, _), (3, _), (7, _), (8, _), (9, _), (10, _)] ⟨rfl, rfl, rfl, rfl, rfl, rfl, rfl, rfl, rfl, rfl, trivial⟩ ?_
      refine N.then ?_
      refine E.ret ?_
      refine N.blkR ?_
      refine N.thenR ?_
      refine N.loopR ?_
      refine N.blkR ?_
      refine N.thenR ?_
      exact N.retH [_] ⟨_, _, rfl, rfl, rfl⟩ ⟨by rw [msk_true hm (by assumption)]; rfl, rfl⟩
    · refine E.skip ?_
      refine N.blk ?_
      refine N.then ?_
      refine E.region ?_
      refine X.add rfl rfl rfl rfl rfl rfl (by omega) ?_
      refine X.mv rfl rfl rfl rfl rfl ?_
      refine X.done [(0, _), (2, _), (4, _), (5, _), (6, _), (3, _), (7, _), (8, _), (9, _), (10, _), (11, _)] ⟨rfl, rfl, rfl, rfl, rfl, rfl, rfl, rfl, rfl, rfl, rfl, trivial⟩ ?_
      exact N.next (i + 1) ⟨rfl, rfl, rfl, trivial⟩ ⟨by omega, rfl, fun j m' hj hm' => by
        rcases Nat.lt_succ_iff_lt_or_eq.1 hj with h | h
        · exact hno j m' h hm'
        · subst h; rw [hm] at hm'; obtain rfl := Option.some.inj hm'; assumption⟩ (by omega)
  · refine E.exit ?_
    refine N.thenX ?_
    refine N.loopX ?_
    refine N.blkX ?_
    refine N.then ?_
    refine E.seq ?_
    refine E.region ?_
    refine X.asg rfl rfl rfl rfl rfl ?_
    refine X.done [(2, _)] ⟨rfl, trivial⟩ ?_
    refine N.then ?_
    refine E.ret ?_
    exact N.retH [_] ⟨_, _, rfl, rfl, rfl⟩ ⟨by rw [msk_false hc8 (fun j m hj hm => hno j m (Nat.lt_of_lt_of_le hj (Int.ofNat_le.1 (Int.not_lt.1 (show ¬ (i : Int) < ((16 : Nat) : Int) from by assumption)))) hm)]; rfl, rfl⟩

theorem rmasked_ct (c : Nat) (H : Heap) (hc8 : c < 256) : Ct Tryd.prog 55 #[.int .u8 c] H fun v H' => v = .bool (msk c) ∧ H' = H := by
  refine Ct.into 16 Tryd.func55 rfl [(0, .int .u8 c)] rfl ⟨rfl, trivial⟩ ?_
  refine E.seq ?_
  refine E.region ?_
  refine X.asg rfl rfl rfl rfl rfl ?_
  refine X.done [(0, _), (2, _)] ⟨rfl, rfl, trivial⟩ ?_
  refine N.then ?_
  refine E.seq ?_
  refine E.region ?_
  refine X.asg rfl rfl rfl rfl rfl ?_
  refine X.done [(0, _), (2, _), (3, _)] ⟨rfl, rfl, rfl, trivial⟩ ?_
  refine N.then ?_
  refine E.seq ?_
  refine E.seq ?_
  refine E.region ?_
  refine X.asg rfl rfl rfl rfl rfl ?_
  refine X.done [(0, _), (2, _), (3, _), (4, _)] ⟨rfl, rfl, rfl, rfl, trivial⟩ ?_
  refine N.then ?_
  refine E.block ?_
  refine E.loop (fun (i : Nat) => [(0, .int .u8 c), (2, .bool false), (4, i64 i), (3, .string ⟨#[92, 91, 93, 40, 41, 123, 125, 42, 43, 63, 124, 46, 45, 94, 47, 34]⟩)]) (fun (i : Nat) H' => i ≤ 16 ∧ H' = H ∧ ∀ j m, j < i → marks[j]? = some m → (m.toNat : Int) ≠ c) (fun (i : Nat) => 16 - i) 0 ⟨rfl, rfl, rfl, rfl, trivial⟩ ⟨Nat.zero_le _, rfl, fun j m h => absurd h (Nat.not_lt_zero _)⟩ ?_
  rintro i H1 ⟨hi, eH, hno⟩
  obtain rfl := eH.symm
  refine E.seq ?_
  refine E.seq ?_
  refine E.region ?_
  refine X.mv rfl rfl rfl rfl rfl ?_
  refine X.mv rfl rfl rfl rfl rfl ?_
  refine X.lenL rfl rfl rfl rfl rfl Tryd.underlying9 ?_
  refine X.lss rfl rfl rfl rfl rfl rfl ?_
  refine X.done [(0, _), (2, _), (4, _), (3, _), (5, _), (6, _), (7, _), (8, _)] ⟨rfl, rfl, rfl, rfl, rfl, rfl, rfl, rfl, trivial⟩ ?_
  refine N.then ?_
  refine E.condD rfl (fun hc => ?_) (fun hc => ?_)
  · refine E.skip ?_
    refine N.then ?_
    refine E.seq ?_
    refine E.block ?_
    refine E.seq ?_
    have hi16 : i < 16 := Int.ofNat_lt.1 (show (i : Int) < ((16 : Nat) : Int) from by assumption)
    obtain ⟨m, hm⟩ := mark_at hi16
    refine E.region ?_
    refine X.mv rfl rfl rfl rfl rfl ?_
    refine X.mv rfl rfl rfl rfl rfl ?_
    refine X.ixS rfl rfl rfl rfl rfl rfl Tryd.underlying9 (by omega) (by exact hm) ?_
    refine X.mv rfl rfl rfl rfl rfl ?_
    refine X.eql rfl rfl rfl rfl rfl rfl ?_
    refine X.done [(0, _), (2, _), (4, _), (3, _), (5, _), (6, _), (7, _), (8, _), (11, _), (12, _), (13, _), (14, _), (15, _)] ⟨rfl, rfl, rfl, rfl, rfl, rfl, rfl, rfl, rfl, rfl, rfl, rfl, rfl, trivial⟩ ?_
    refine N.then ?_
    refine E.condD rfl (fun hc => ?_) (fun hc => ?_)
    · refine E.seq ?_
      refine E.region ?_
      refine X.asg rfl rfl rfl rfl rfl ?_
      refine X.done [(0, _), (2, _), (4, _), (3, _), (5, _), (6, _), (7, _), (8, _), (11, _), (12, _), (13, _), (14, _), (15, _)] ⟨rfl, rfl, rfl, rfl, rfl, rfl, rfl, rfl, rfl, rfl, rfl, rfl, rfl, trivial⟩ ?_
      refine N.then ?_
      refine E.ret ?_
      refine N.blkR ?_
      refine N.thenR ?_
      refine N.loopR ?_
      refine N.blkR ?_
      refine N.thenR ?_
      exact N.retH [_] ⟨_, _, rfl, rfl, rfl⟩ ⟨by rw [msk_true hm (by assumption)]; rfl, rfl⟩
    · refine E.skip ?_
      refine N.blk ?_
      refine N.then ?_
      refine E.region ?_
      refine X.mv rfl rfl rfl rfl rfl ?_
      refine X.add rfl rfl rfl rfl rfl rfl (by omega) ?_
      refine X.asg rfl rfl rfl rfl rfl ?_
      refine X.done [(0, _), (2, _), (4, _), (3, _), (5, _), (6, _), (7, _), (8, _), (11, _), (12, _), (13, _), (14, _), (15, _), (9, _), (10, _)] ⟨rfl, rfl, rfl, rfl, rfl, rfl, rfl, rfl, rfl, rfl, rfl, rfl, rfl, rfl, rfl, trivial⟩ ?_
      exact N.next (i + 1) ⟨rfl, rfl, rfl, rfl, trivial⟩ ⟨by omega, rfl, fun j m' hj hm' => by
        rcases Nat.lt_succ_iff_lt_or_eq.1 hj with h | h
        · exact hno j m' h hm'
        · subst h; rw [hm] at hm'; obtain rfl := Option.some.inj hm'; assumption⟩ (by omega)
  · refine E.exit ?_
    refine N.thenX ?_
    refine N.loopX ?_
    refine N.blkX ?_
    refine N.then ?_
    refine E.seq ?_
    refine E.region ?_
    refine X.asg rfl rfl rfl rfl rfl ?_
    refine X.done [(2, _)] ⟨rfl, trivial⟩ ?_
    refine N.then ?_
    refine E.ret ?_
    exact N.retH [_] ⟨_, _, rfl, rfl, rfl⟩ ⟨by rw [msk_false hc8 (fun j m hj hm => hno j m (Nat.lt_of_lt_of_le hj (Int.ofNat_le.1 (Int.not_lt.1 (show ¬ (i : Int) < ((16 : Nat) : Int) from by assumption)))) hm)]; rfl, rfl⟩

theorem written_ct (c : Nat) (H : Heap) (hc8 : c < 256) : Ct Tryd.prog 38 #[.int .u8 c] H fun v H' => v = str (wr c) ∧ Kp [] H H' := by
  obtain ⟨xa, ha1, ha2⟩ := hex_at (show c / 16 < 16 by omega)
  obtain ⟨xb, hb1, hb2x⟩ := hex_at (show c % 16 < 16 by omega)
  refine Ct.into 36 Tryd.func38 rfl [(0, .int .u8 c)] rfl ⟨rfl, trivial⟩ ?_
  refine E.seq ?_
  refine E.region ?_
  refine X.asg rfl rfl rfl rfl rfl ?_
  refine X.done [(0, _), (2, _)] ⟨rfl, rfl, trivial⟩ ?_
  refine N.then ?_
  refine E.seq ?_
  refine E.block ?_
  refine E.seq ?_
  refine E.region ?_
  refine X.mv rfl rfl rfl rfl rfl ?_
  refine X.eql rfl rfl rfl rfl rfl rfl ?_
  refine X.asg rfl rfl rfl rfl rfl ?_
  refine X.done [(0, _), (2, _), (3, _)] ⟨rfl, rfl, rfl, trivial⟩ ?_
  refine N.then ?_
  refine E.condD rfl (fun hc => ?_) (fun hc => ?_)
  · refine E.seq ?_
    refine E.region ?_
    refine X.asg rfl rfl rfl rfl rfl ?_
    refine X.done [(0, _), (2, _)] ⟨rfl, rfl, trivial⟩ ?_
    refine N.then ?_
    refine E.ret ?_
    refine N.blkR ?_
    refine N.thenR ?_
    exact N.retH [_] ⟨_, _, rfl, rfl, rfl⟩ ⟨by rw [wr_a (by omega)]; rfl, Kp.refl _ _⟩
  · refine E.seq ?_
    refine E.region ?_
    refine X.mv rfl rfl rfl rfl rfl ?_
    refine X.eql rfl rfl rfl rfl rfl rfl ?_
    refine X.asg rfl rfl rfl rfl rfl ?_
    refine X.done [(0, _), (2, _), (6, _)] ⟨rfl, rfl, rfl, trivial⟩ ?_
    refine N.then ?_
    refine E.condD rfl (fun hc => ?_) (fun hc => ?_)
    · refine E.seq ?_
      refine E.region ?_
      refine X.asg rfl rfl rfl rfl rfl ?_
      refine X.done [(0, _), (2, _)] ⟨rfl, rfl, trivial⟩ ?_
      refine N.then ?_
      refine E.ret ?_
      refine N.blkR ?_
      refine N.thenR ?_
      exact N.retH [_] ⟨_, _, rfl, rfl, rfl⟩ ⟨by rw [wr_b (by omega)]; rfl, Kp.refl _ _⟩
    · refine E.seq ?_
      refine E.region ?_
      refine X.mv rfl rfl rfl rfl rfl ?_
      refine X.eql rfl rfl rfl rfl rfl rfl ?_
      refine X.asg rfl rfl rfl rfl rfl ?_
      refine X.done [(0, _), (2, _), (9, _)] ⟨rfl, rfl, rfl, trivial⟩ ?_
      refine N.then ?_
      refine E.condD rfl (fun hc => ?_) (fun hc => ?_)
      · refine E.seq ?_
        refine E.region ?_
        refine X.asg rfl rfl rfl rfl rfl ?_
        refine X.done [(0, _), (2, _)] ⟨rfl, rfl, trivial⟩ ?_
        refine N.then ?_
        refine E.ret ?_
        refine N.blkR ?_
        refine N.thenR ?_
        exact N.retH [_] ⟨_, _, rfl, rfl, rfl⟩ ⟨by rw [wr_c (by omega)]; rfl, Kp.refl _ _⟩
      · refine E.seq ?_
        refine E.region ?_
        refine X.mv rfl rfl rfl rfl rfl ?_
        refine X.call rfl rfl rfl rfl rfl Tryd.cl50 (masked_ct c H hc8) ?_
        rintro _ H1 ⟨rfl, eH1⟩
        obtain rfl := eH1.symm
        refine X.asg rfl rfl rfl rfl rfl ?_
        refine X.done [(0, _), (2, _), (12, _)] ⟨rfl, rfl, rfl, trivial⟩ ?_
        refine N.then ?_
        refine E.cond rfl (fun hc => ?_) (fun hc => ?_)
        · refine E.seq ?_
          refine E.region ?_
          refine X.mv rfl rfl rfl rfl rfl ?_
          refine X.lit (e := 5) (cs := [.int .u8 92, .int .u8 (c : Int)]) rfl rfl rfl rfl rfl (fun _ => by kernel_rfl) ?_
          intro b2 H2 hn2 hb2 hk2
          refine X.b2s rfl rfl rfl rfl Tryd.underlying65 Tryd.underlying5 Tryd.underlying9 (rd_lit (s := [92, u8 c]) hb2 (by show Value.int .u8 92 :: bv [u8 c] = _; rw [bv1 hc8]) rfl) ?_
          refine X.asg rfl rfl rfl rfl rfl ?_
          refine X.done [(0, _), (2, _)] ⟨rfl, rfl, trivial⟩ ?_
          refine N.then ?_
          refine E.ret ?_
          refine N.blkR ?_
          refine N.thenR ?_
          exact N.retH [_] ⟨_, _, rfl, rfl, rfl⟩ ⟨by rw [wr_d (by omega) (by assumption)]; rfl, hk2⟩
        · refine E.seq ?_
          refine E.region ?_
          refine X.mv rfl rfl rfl rfl rfl ?_
          refine X.gtrC rfl rfl rfl rfl rfl rfl (fun hc => ?_) (fun hc => ?_)
          · refine X.mv rfl rfl rfl rfl rfl ?_
            refine X.mv rfl rfl rfl rfl rfl ?_
            refine X.lss rfl rfl rfl rfl rfl rfl ?_
            refine X.pickT rfl rfl rfl rfl rfl rfl ?_
            refine X.asg rfl rfl rfl rfl rfl ?_
            refine X.done [(0, _), (2, _), (18, _)] ⟨rfl, rfl, rfl, trivial⟩ ?_
            refine N.then ?_
            refine E.condD rfl (fun hc => ?_) (fun hc => ?_)
            · refine E.seq ?_
              refine E.region ?_
              refine X.mv rfl rfl rfl rfl rfl ?_
              refine X.lit (e := 5) (cs := [.int .u8 (c : Int)]) rfl rfl rfl rfl rfl (fun _ => by kernel_rfl) ?_
              intro b2 H2 hn2 hb2 hk2
              refine X.b2s rfl rfl rfl rfl Tryd.underlying65 Tryd.underlying5 Tryd.underlying9 (rd_lit (s := [u8 c]) hb2 (bv1 hc8) rfl) ?_
              refine X.asg rfl rfl rfl rfl rfl ?_
              refine X.done [(0, _), (2, _)] ⟨rfl, rfl, trivial⟩ ?_
              refine N.then ?_
              refine E.ret ?_
              refine N.blkR ?_
              refine N.thenR ?_
              exact N.retH [_] ⟨_, _, rfl, rfl, rfl⟩ ⟨by rw [wr_e (by omega) (by assumption) (by omega)]; rfl, hk2⟩
            · refine E.skip ?_
              refine N.blk ?_
              refine N.then ?_
              refine E.seq ?_
              refine E.regionD (fun _ => True) [(0, .pu), (1, .pu), (2, .pu), (3, .pu), (4, .pu), (5, .pu), (6, .mv), (7, .mv), (8, .pu)] Tryd.mixed (by kernel_rfl) (trivial) ?_
              refine X.mv rfl rfl rfl rfl rfl ?_
              refine X.shrE (zz := ((c / 2 ^ 4 : Nat) : Int)) rfl rfl rfl rfl rfl rfl (by omega) (shrN (rfl) (rfl) (by show _ ≤ 8; omega)) ?_
              refine X.ixS rfl rfl rfl rfl rfl rfl Tryd.underlying9 (by omega) (by exact ha1) ?_
              refine X.mv rfl rfl rfl rfl rfl ?_
              refine X.bandE (zz := ((c % 16 : Nat) : Int)) rfl rfl rfl rfl rfl rfl (by have e := and8 (a := c) (b := 15) (p := (c : Int)) (q := 15) rfl rfl (by omega) (by decide); rw [show c &&& 15 = c % 16 from Nat.and_two_pow_sub_one_eq_mod c 4] at e; exact e) ?_
              refine X.ixS rfl rfl rfl rfl rfl rfl Tryd.underlying9 (by omega) (by exact hb1) ?_
              refine X.lit (e := 5) (cs := [.int .u8 92, .int .u8 120, .int .u8 (xa.toNat : Int), .int .u8 (xb.toNat : Int)]) rfl rfl rfl rfl rfl (fun _ => by kernel_rfl) ?_
              intro b2 H2 hn2 hb2 hk2
              refine X.b2s rfl rfl rfl rfl Tryd.underlying65 Tryd.underlying5 Tryd.underlying9 (rd_lit (s := [92, 120, xa, xb]) hb2 rfl rfl) ?_
              refine X.asg rfl rfl rfl rfl rfl ?_
              refine X.done [(2, _)] ⟨rfl, trivial⟩ ?_
              refine N.then ?_
              refine E.ret ?_
              exact N.retH [_] ⟨_, _, rfl, rfl, rfl⟩ ⟨by rw [wr_f (by omega) (by assumption) (by omega) ha2 hb2x]; rfl, hk2⟩
          · refine X.mv rfl rfl rfl rfl rfl ?_
            refine X.skip rfl rfl rfl ?_
            refine X.skip rfl rfl rfl ?_
            refine X.pickF rfl rfl rfl rfl rfl rfl ?_
            refine X.asg rfl rfl rfl rfl rfl ?_
            refine X.done [(0, _), (2, _), (18, _)] ⟨rfl, rfl, rfl, trivial⟩ ?_
            refine N.then ?_
            refine E.condF rfl ?_
            refine E.skip ?_
            refine N.blk ?_
            refine N.then ?_
            refine E.seq ?_
            refine E.regionD (fun _ => True) [(0, .pu), (1, .pu), (2, .pu), (3, .pu), (4, .pu), (5, .pu), (6, .mv), (7, .mv), (8, .pu)] Tryd.mixed (by kernel_rfl) (trivial) ?_
            refine X.mv rfl rfl rfl rfl rfl ?_
            refine X.shrE (zz := ((c / 2 ^ 4 : Nat) : Int)) rfl rfl rfl rfl rfl rfl (by omega) (shrN (rfl) (rfl) (by show _ ≤ 8; omega)) ?_
            refine X.ixS rfl rfl rfl rfl rfl rfl Tryd.underlying9 (by omega) (by exact ha1) ?_
            refine X.mv rfl rfl rfl rfl rfl ?_
            refine X.bandE (zz := ((c % 16 : Nat) : Int)) rfl rfl rfl rfl rfl rfl (by have e := and8 (a := c) (b := 15) (p := (c : Int)) (q := 15) rfl rfl (by omega) (by decide); rw [show c &&& 15 = c % 16 from Nat.and_two_pow_sub_one_eq_mod c 4] at e; exact e) ?_
            refine X.ixS rfl rfl rfl rfl rfl rfl Tryd.underlying9 (by omega) (by exact hb1) ?_
            refine X.lit (e := 5) (cs := [.int .u8 92, .int .u8 120, .int .u8 (xa.toNat : Int), .int .u8 (xb.toNat : Int)]) rfl rfl rfl rfl rfl (fun _ => by kernel_rfl) ?_
            intro b2 H2 hn2 hb2 hk2
            refine X.b2s rfl rfl rfl rfl Tryd.underlying65 Tryd.underlying5 Tryd.underlying9 (rd_lit (s := [92, 120, xa, xb]) hb2 rfl rfl) ?_
            refine X.asg rfl rfl rfl rfl rfl ?_
            refine X.done [(2, _)] ⟨rfl, trivial⟩ ?_
            refine N.then ?_
            refine E.ret ?_
            exact N.retH [_] ⟨_, _, rfl, rfl, rfl⟩ ⟨by rw [wr_f (by omega) (by assumption) (by omega) ha2 hb2x]; rfl, hk2⟩

theorem byte_ct (c : Nat) (H : Heap) (hc8 : c < 256) : Ct Tryd.prog 44 #[.int .u8 c] H fun v H' => v = str (wr c) ∧ Kp [] H H' := by
  obtain ⟨xa, ha1, ha2⟩ := hex_at (show c / 16 < 16 by omega)
  obtain ⟨xb, hb1, hb2x⟩ := hex_at (show c % 16 < 16 by omega)
  refine Ct.into 41 Tryd.func44 rfl [(0, .int .u8 c)] rfl ⟨rfl, trivial⟩ ?_
  refine E.seq ?_
  refine E.region ?_
  refine X.asg rfl rfl rfl rfl rfl ?_
  refine X.done [(0, _), (2, _)] ⟨rfl, rfl, trivial⟩ ?_
  refine N.then ?_
  refine E.seq ?_
  refine E.region ?_
  refine X.asg rfl rfl rfl rfl rfl ?_
  refine X.done [(0, _), (2, _), (3, _)] ⟨rfl, rfl, rfl, trivial⟩ ?_
  refine N.then ?_
  refine E.seq ?_
  refine E.block ?_
  refine E.seq ?_
  refine E.region ?_
  refine X.mv rfl rfl rfl rfl rfl ?_
  refine X.eql rfl rfl rfl rfl rfl rfl ?_
  refine X.asg rfl rfl rfl rfl rfl ?_
  refine X.done [(0, _), (2, _), (3, _), (4, _)] ⟨rfl, rfl, rfl, rfl, trivial⟩ ?_
  refine N.then ?_
  refine E.condD rfl (fun hc => ?_) (fun hc => ?_)
  · refine E.seq ?_
    refine E.region ?_
    refine X.asg rfl rfl rfl rfl rfl ?_
    refine X.done [(0, _), (2, _), (3, _)] ⟨rfl, rfl, rfl, trivial⟩ ?_
    refine N.then ?_
    refine E.ret ?_
    refine N.blkR ?_
    refine N.thenR ?_
    exact N.retH [_] ⟨_, _, rfl, rfl, rfl⟩ ⟨by rw [wr_a (by omega)]; rfl, Kp.refl _ _⟩
  · refine E.seq ?_
    refine E.region ?_
    refine X.mv rfl rfl rfl rfl rfl ?_
    refine X.eql rfl rfl rfl rfl rfl rfl ?_
    refine X.asg rfl rfl rfl rfl rfl ?_
    refine X.done [(0, _), (2, _), (3, _), (7, _)] ⟨rfl, rfl, rfl, rfl, trivial⟩ ?_
    refine N.then ?_
    refine E.condD rfl (fun hc => ?_) (fun hc => ?_)
    · refine E.seq ?_
      refine E.region ?_
      refine X.asg rfl rfl rfl rfl rfl ?_
      refine X.done [(0, _), (2, _), (3, _)] ⟨rfl, rfl, rfl, trivial⟩ ?_
      refine N.then ?_
      refine E.ret ?_
      refine N.blkR ?_
      refine N.thenR ?_
      exact N.retH [_] ⟨_, _, rfl, rfl, rfl⟩ ⟨by rw [wr_b (by omega)]; rfl, Kp.refl _ _⟩
    · refine E.seq ?_
      refine E.region ?_
      refine X.mv rfl rfl rfl rfl rfl ?_
      refine X.eql rfl rfl rfl rfl rfl rfl ?_
      refine X.asg rfl rfl rfl rfl rfl ?_
      refine X.done [(0, _), (2, _), (3, _), (10, _)] ⟨rfl, rfl, rfl, rfl, trivial⟩ ?_
      refine N.then ?_
      refine E.condD rfl (fun hc => ?_) (fun hc => ?_)
      · refine E.seq ?_
        refine E.region ?_
        refine X.asg rfl rfl rfl rfl rfl ?_
        refine X.done [(0, _), (2, _), (3, _)] ⟨rfl, rfl, rfl, trivial⟩ ?_
        refine N.then ?_
        refine E.ret ?_
        refine N.blkR ?_
        refine N.thenR ?_
        exact N.retH [_] ⟨_, _, rfl, rfl, rfl⟩ ⟨by rw [wr_c (by omega)]; rfl, Kp.refl _ _⟩
      · refine E.seq ?_
        refine E.region ?_
        refine X.mv rfl rfl rfl rfl rfl ?_
        refine X.call rfl rfl rfl rfl rfl Tryd.cl55 (rmasked_ct c H hc8) ?_
        rintro _ H1 ⟨rfl, eH1⟩
        obtain rfl := eH1.symm
        refine X.asg rfl rfl rfl rfl rfl ?_
        refine X.done [(0, _), (2, _), (3, _), (13, _)] ⟨rfl, rfl, rfl, rfl, trivial⟩ ?_
        refine N.then ?_
        refine E.cond rfl (fun hc => ?_) (fun hc => ?_)
        · refine E.seq ?_
          refine E.region ?_
          refine X.mv rfl rfl rfl rfl rfl ?_
          refine X.lit (e := 5) (cs := [.int .u8 (c : Int)]) rfl rfl rfl rfl rfl (fun _ => by kernel_rfl) ?_
          intro b2 H2 hn2 hb2 hk2
          refine X.b2s rfl rfl rfl rfl Tryd.underlying65 Tryd.underlying5 Tryd.underlying9 (rd_lit (s := [u8 c]) hb2 (bv1 hc8) rfl) ?_
          refine X.cat rfl rfl rfl rfl rfl rfl (by simp) ?_
          refine X.asg rfl rfl rfl rfl rfl ?_
          refine X.done [(0, _), (2, _), (3, _)] ⟨rfl, rfl, rfl, trivial⟩ ?_
          refine N.then ?_
          refine E.ret ?_
          refine N.blkR ?_
          refine N.thenR ?_
          exact N.retH [_] ⟨_, _, rfl, rfl, rfl⟩ ⟨by rw [wr_d (by omega) (by assumption)]; rfl, hk2⟩
        · refine E.seq ?_
          refine E.region ?_
          refine X.mv rfl rfl rfl rfl rfl ?_
          refine X.gtrC rfl rfl rfl rfl rfl rfl (fun hc => ?_) (fun hc => ?_)
          · refine X.mv rfl rfl rfl rfl rfl ?_
            refine X.mv rfl rfl rfl rfl rfl ?_
            refine X.lss rfl rfl rfl rfl rfl rfl ?_
            refine X.pickT rfl rfl rfl rfl rfl rfl ?_
            refine X.asg rfl rfl rfl rfl rfl ?_
            refine X.done [(0, _), (2, _), (3, _), (20, _)] ⟨rfl, rfl, rfl, rfl, trivial⟩ ?_
            refine N.then ?_
            refine E.condD rfl (fun hc => ?_) (fun hc => ?_)
            · refine E.seq ?_
              refine E.region ?_
              refine X.mv rfl rfl rfl rfl rfl ?_
              refine X.lit (e := 5) (cs := [.int .u8 (c : Int)]) rfl rfl rfl rfl rfl (fun _ => by kernel_rfl) ?_
              intro b2 H2 hn2 hb2 hk2
              refine X.b2s rfl rfl rfl rfl Tryd.underlying65 Tryd.underlying5 Tryd.underlying9 (rd_lit (s := [u8 c]) hb2 (bv1 hc8) rfl) ?_
              refine X.asg rfl rfl rfl rfl rfl ?_
              refine X.done [(0, _), (2, _), (3, _)] ⟨rfl, rfl, rfl, trivial⟩ ?_
              refine N.then ?_
              refine E.ret ?_
              refine N.blkR ?_
              refine N.thenR ?_
              exact N.retH [_] ⟨_, _, rfl, rfl, rfl⟩ ⟨by rw [wr_e (by omega) (by assumption) (by omega)]; rfl, hk2⟩
            · refine E.skip ?_
              refine N.blk ?_
              refine N.then ?_
              refine E.seq ?_
              refine E.regionD (fun _ => True) [(0, .pu), (1, .pu), (2, .pu), (3, .pu), (4, .pu), (5, .pu), (6, .pu), (7, .pu), (8, .mv), (9, .mv), (10, .pu), (11, .pu)] Tryd.mixed (by kernel_rfl) (trivial) ?_
              refine X.mv rfl rfl rfl rfl rfl ?_
              refine X.mv rfl rfl rfl rfl rfl ?_
              refine X.quoE (zz := ((c / 16 : Nat) : Int)) rfl rfl rfl rfl rfl rfl (by omega) (by rw [IntWalk.u8_quo _ _ (by omega)] <;> omega) ?_
              refine X.ixS rfl rfl rfl rfl rfl rfl Tryd.underlying9 (by omega) (by exact ha1) ?_
              refine X.mv rfl rfl rfl rfl rfl ?_
              refine X.mv rfl rfl rfl rfl rfl ?_
              refine X.remE (zz := ((c % 16 : Nat) : Int)) rfl rfl rfl rfl rfl rfl (by omega) (by rw [IntWalk.rem_in _ _ (by omega)] <;> omega) ?_
              refine X.ixS rfl rfl rfl rfl rfl rfl Tryd.underlying9 (by omega) (by exact hb1) ?_
              refine X.lit (e := 5) (cs := [.int .u8 (xa.toNat : Int), .int .u8 (xb.toNat : Int)]) rfl rfl rfl rfl rfl (fun _ => by kernel_rfl) ?_
              intro b2 H2 hn2 hb2 hk2
              refine X.b2s rfl rfl rfl rfl Tryd.underlying65 Tryd.underlying5 Tryd.underlying9 (rd_lit (s := [xa, xb]) hb2 rfl rfl) ?_
              refine X.cat rfl rfl rfl rfl rfl rfl (by simp) ?_
              refine X.asg rfl rfl rfl rfl rfl ?_
              refine X.done [(2, _)] ⟨rfl, trivial⟩ ?_
              refine N.then ?_
              refine E.ret ?_
              exact N.retH [_] ⟨_, _, rfl, rfl, rfl⟩ ⟨by rw [wr_f (by omega) (by assumption) (by omega) ha2 hb2x]; rfl, hk2⟩
          · refine X.mv rfl rfl rfl rfl rfl ?_
            refine X.skip rfl rfl rfl ?_
            refine X.skip rfl rfl rfl ?_
            refine X.pickF rfl rfl rfl rfl rfl rfl ?_
            refine X.asg rfl rfl rfl rfl rfl ?_
            refine X.done [(0, _), (2, _), (3, _), (20, _)] ⟨rfl, rfl, rfl, rfl, trivial⟩ ?_
            refine N.then ?_
            refine E.condF rfl ?_
            refine E.skip ?_
            refine N.blk ?_
            refine N.then ?_
            refine E.seq ?_
            refine E.regionD (fun _ => True) [(0, .pu), (1, .pu), (2, .pu), (3, .pu), (4, .pu), (5, .pu), (6, .pu), (7, .pu), (8, .mv), (9, .mv), (10, .pu), (11, .pu)] Tryd.mixed (by kernel_rfl) (trivial) ?_
            refine X.mv rfl rfl rfl rfl rfl ?_
            refine X.mv rfl rfl rfl rfl rfl ?_
            refine X.quoE (zz := ((c / 16 : Nat) : Int)) rfl rfl rfl rfl rfl rfl (by omega) (by rw [IntWalk.u8_quo _ _ (by omega)] <;> omega) ?_
            refine X.ixS rfl rfl rfl rfl rfl rfl Tryd.underlying9 (by omega) (by exact ha1) ?_
            refine X.mv rfl rfl rfl rfl rfl ?_
            refine X.mv rfl rfl rfl rfl rfl ?_
            refine X.remE (zz := ((c % 16 : Nat) : Int)) rfl rfl rfl rfl rfl rfl (by omega) (by rw [IntWalk.rem_in _ _ (by omega)] <;> omega) ?_
            refine X.ixS rfl rfl rfl rfl rfl rfl Tryd.underlying9 (by omega) (by exact hb1) ?_
            refine X.lit (e := 5) (cs := [.int .u8 (xa.toNat : Int), .int .u8 (xb.toNat : Int)]) rfl rfl rfl rfl rfl (fun _ => by kernel_rfl) ?_
            intro b2 H2 hn2 hb2 hk2
            refine X.b2s rfl rfl rfl rfl Tryd.underlying65 Tryd.underlying5 Tryd.underlying9 (rd_lit (s := [xa, xb]) hb2 rfl rfl) ?_
            refine X.cat rfl rfl rfl rfl rfl rfl (by simp) ?_
            refine X.asg rfl rfl rfl rfl rfl ?_
            refine X.done [(2, _)] ⟨rfl, trivial⟩ ?_
            refine N.then ?_
            refine E.ret ?_
            exact N.retH [_] ⟨_, _, rfl, rfl, rfl⟩ ⟨by rw [wr_f (by omega) (by assumption) (by omega) ha2 hb2x]; rfl, hk2⟩

theorem with_ct (ws : List Nat) (c : Nat) (H : Heap) (hw : Ws ws) (hc8 : c < 256) : Ct Tryd.prog 56 #[agg4 ws, .int .u8 c] H fun v H' => v = agg4 (setb ws c) ∧ Kp [] H H' := by
  have hj4 : c / 64 < 4 := by omega
  refine Ct.into 17 Tryd.func56 rfl [(0, agg4 ws), (1, .int .u8 c)] rfl ⟨rfl, rfl, trivial⟩ ?_
  refine E.seq ?_
  refine E.region ?_
  refine X.box rfl rfl rfl rfl rfl rfl ?_
  intro b2 H2 hn2 hb2 hk2
  refine X.alloc (z := .agg ([.int .u64 0, .int .u64 0, .int .u64 0, .int .u64 0] : List Value).toArray) (cs := [.int .u64 0, .int .u64 0, .int .u64 0, .int .u64 0]) rfl rfl rfl rfl (by kernel_rfl) rfl ?_
  intro b4 H4 hn4 hb4 hk4
  have hb24 := hk4.keep hb2 (by simp)
  have hne : b4 ≠ b2 := by have := lt_of hb2; omega
  refine X.done [(1, _), (2, _), (4, _)] ⟨rfl, rfl, rfl, trivial⟩ ?_
  refine N.then ?_
  refine E.seq ?_
  refine E.region ?_
  refine X.mv rfl rfl rfl rfl rfl ?_
  refine X.quoE (zz := ((c / 64 : Nat) : Int)) rfl rfl rfl rfl rfl rfl (by omega) (by rw [IntWalk.u8_quo _ _ (by omega)] <;> omega) ?_
  refine X.mv rfl rfl rfl rfl rfl ?_
  refine X.quoE (zz := ((c / 64 : Nat) : Int)) rfl rfl rfl rfl rfl rfl (by omega) (by rw [IntWalk.u8_quo _ _ (by omega)] <;> omega) ?_
  refine X.ixP rfl rfl rfl rfl rfl rfl Tryd.underlying36 Tryd.sz34 (by omega) ?_
  refine X.ld rfl rfl rfl rfl Tryd.ag34 (hb24) (uv_at hw hj4) ?_
  refine X.mv rfl rfl rfl rfl rfl ?_
  refine X.remE (zz := ((c % 64 : Nat) : Int)) rfl rfl rfl rfl rfl rfl (by omega) (by rw [IntWalk.rem_in _ _ (by omega)] <;> omega) ?_
  refine X.shlE (zz := ((2 ^ (c % 64) : Nat) : Int)) rfl rfl rfl rfl rfl rfl (by omega) (shl1 rfl) ?_
  refine X.borE (zz := ((wd ws (c / 64) ||| 2 ^ (c % 64) : Nat) : Int)) rfl rfl rfl rfl rfl rfl (or64 rfl rfl (hw.get hj4).2 (bitw_lt c)) ?_
  refine X.ixP rfl rfl rfl rfl rfl rfl Tryd.underlying36 Tryd.sz34 (by omega) ?_
  refine X.st rfl rfl rfl rfl rfl rfl rfl Tryd.sz34 hb24 (by rw [uv4 hw]; show 0 + c / 64 * 1 < 4; omega) ?_
  intro H5 hb5 hk5
  rw [uv_setb hw hc8] at hb5
  refine X.done [(2, _), (4, _)] ⟨rfl, rfl, trivial⟩ ?_
  refine N.then ?_
  refine E.seq ?_
  refine E.region ?_
  refine X.ldA rfl rfl rfl rfl Tryd.ag36 Tryd.sz36 (hb5) (uv4 (hw.setb hc8)) zoff ?_
  refine X.stA rfl rfl rfl rfl rfl rfl (uv_one _) Tryd.sz36 (hk5.keep hb4 (by simp; exact hne)) (by rw [uv4 (hw.setb hc8)]; decide) ?_
  intro H6 hb6 hk6
  rw [splice_all (by rw [uv4 (hw.setb hc8)]; rfl)] at hb6
  refine X.done [(4, _)] ⟨rfl, trivial⟩ ?_
  refine N.then ?_
  refine E.ret ?_
  exact N.retH [_] ⟨_, _, _, 0, rfl, rfl, loadsA Tryd.ag36 Tryd.sz36 hb6 (by first | rfl | exact uv4 hw) zoff, rfl⟩ ⟨rfl, ((hk2.trans hk4 (by simp)).trans hk5 (by simp; omega)).trans hk6 (by simp; exact Nat.le_trans hk2.size hn4)⟩

end Go.Proofs.YtcandjdomeompaaDoor
