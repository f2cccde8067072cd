/- The walks of the writer's functions. -/
import Derived.Test.YtpengkmmgpoofaaW1
namespace Go.Proofs.Ytpengkmmgpoofaa
open Go.SX Go.Bit
attribute [local irreducible] X E N Ct
set_option linter.unusedVariables false

abbrev wcells (sv : Value) (a n : Nat) : List Value := [Value.bool true, sv, .int .u64 (a : Int), i64 (n : Int)]
/-- A writer that is there: len bits, the number x. -/
structure Wr (H : Heap) (p : Nat) (sv : Value) (x len : Nat) : Prop where
  cell : H[p]? = some (.cells (wcells sv (x / 2 ^ (8 * (len / 8))) (len % 8)).toArray 64 (0, 0))
  own : Own H 5 1 sv (len / 8) (bv (digs x (len / 8)))
  sep : p ∉ blk sv
  lt : x < 2 ^ len
theorem Wr.keep {H H' : Heap} {p : Nat} {sv : Value} {x len : Nat} {S : List Nat} (h : Wr H p sv x len) (hk : Kp S H H') (hS : ∀ b ∈ p :: blk sv, b ∉ S) : Wr H' p sv x len :=
  ⟨hk.keep h.cell (hS p (by simp)), h.own.keep hk (fun b hb => hS b (by simp [hb])), h.sep, h.lt⟩
theorem Wr.blks {H : Heap} {p : Nat} {sv : Value} {x len : Nat} (h : Wr H p sv x len) : ∀ b ∈ p :: blk sv, b < H.size := by
  intro b hb
  rcases List.mem_cons.1 hb with rfl | hb
  · exact lt_of h.cell
  · exact h.own.lt b hb
def Chg (p : Nat) (sv : Value) (H H' : Heap) (sv' : Value) : Prop := Kp (p :: blk sv) H H' ∧ ∀ b ∈ blk sv', b ∈ blk sv ∨ H.size ≤ b
theorem Chg.refl (p : Nat) (sv : Value) (H : Heap) : Chg p sv H H sv := ⟨Kp.refl _ _, fun b hb => .inl hb⟩
theorem Chg.trans {p : Nat} {s0 s1 s2 : Value} {A B C : Heap} (h : Chg p s0 A B s1) (k : Chg p s1 B C s2) : Chg p s0 A C s2 := by
  refine ⟨h.1.trans k.1 (fun b hb => ?_), fun b hb => ?_⟩
  · rcases List.mem_cons.1 hb with rfl | hb
    · exact .inl (by simp)
    · rcases h.2 b hb with h1 | h1
      · exact .inl (by simp [h1])
      · exact .inr h1
  · rcases k.2 b hb with h1 | h1
    · exact h.2 b h1
    · exact .inr (Nat.le_trans h.1.size h1)
theorem Chg.ne {p r : Nat} {sv sv' : Value} {H H' : Heap} (h : Chg p sv H H' sv') (hr : r < H.size) (hn : r ∉ p :: blk sv) : r ∉ p :: blk sv' := by
  intro hm
  rcases List.mem_cons.1 hm with rfl | hm
  · exact hn (by simp)
  · rcases h.2 r hm with h1 | h1
    · exact hn (by simp [h1])
    · omega
theorem Chg.one {p : Nat} {sv : Value} {A B : Heap} (k : Kp [p] A B) : Chg p sv A B sv := ⟨k.mono (fun b hb => .inl (by simp at hb; simp [hb])), fun b hb => .inl hb⟩
theorem T5 : AppT Try.prog 45 45 5 1 1 (.int .u8 0) := ⟨Try.underlying45, Try.zi5_45, rfl, by decide⟩
theorem T9 : AppT Try.prog 45 9 5 1 1 (.int .u8 0) := ⟨Try.underlying45, Try.zi5_45, rfl, by decide⟩
theorem srcS (H : Heap) (s : Bs) : SrcH H 1 (.string ⟨s.toArray⟩) s.length (bv s) := .inr ⟨rfl, s, rfl, rfl, rfl⟩
theorem acc_lt {x len : Nat} (h : x < 2 ^ len) : x / 2 ^ (8 * (len / 8)) < 2 ^ (len % 8) := by
  apply (Nat.div_lt_iff_lt_mul (Nat.two_pow_pos _)).2
  rw [← Nat.pow_add, show len % 8 + 8 * (len / 8) = len by omega]; exact h
theorem put_acc (x len v : Nat) : put x len v / 2 ^ (8 * (len / 8)) = x / 2 ^ (8 * (len / 8)) + 2 ^ (len % 8) * v := by
  unfold put
  have : (2 : Nat) ^ len = 2 ^ (8 * (len / 8)) * 2 ^ (len % 8) := by rw [← Nat.pow_add]; congr 1; omega
  rw [this, Nat.mul_assoc, Nat.add_mul_div_left _ _ (Nat.two_pow_pos _)]
theorem put_digs (x len v : Nat) : digs (put x len v) (len / 8) = digs x (len / 8) := by
  apply digs_congr
  unfold put
  have : (2 : Nat) ^ len = 2 ^ (8 * (len / 8)) * 2 ^ (len % 8) := by rw [← Nat.pow_add]; congr 1; omega
  rw [this, Nat.mul_assoc, Nat.add_mul_mod_self_left]
theorem acc_div (X m : Nat) : X / 2 ^ (8 * m) / 2 ^ 8 = X / 2 ^ (8 * (m + 1)) := by rw [Nat.div_div_eq_div_mul, ← Nat.pow_add]; congr 2

theorem wthere_ct (p : Nat) (sv : Value) (x len : Nat) (H : Heap) (hW : Wr H p sv x len) : Ct Try.prog 43 #[ptr p] H fun v H' => v = .bool true ∧ H' = H := by
  refine Ct.into 11 Try.func43 rfl [(0, ptr p)] rfl ⟨rfl, trivial⟩ ?_
  refine E.seq ?_
  refine E.region ?_
  refine X.asg rfl rfl rfl rfl rfl ?_
  refine X.done [(0, _), (2, _)] ⟨rfl, rfl, trivial⟩ ?_
  refine N.then ?_
  refine E.seq ?_
  refine E.region ?_
  refine X.mv rfl rfl rfl rfl rfl ?_
  refine X.neqP1 rfl rfl rfl rfl rfl rfl Try.underlying27 ?_
  refine X.mv rfl rfl rfl rfl rfl ?_
  refine X.mv rfl rfl rfl rfl rfl ?_
  refine X.nilP rfl rfl rfl rfl rfl ?_
  refine X.fld rfl rfl rfl rfl rfl Try.off64_0 ?_
  refine X.ld rfl rfl rfl rfl Try.ag4 (hW.cell) (rfl) ?_
  refine X.pickT rfl rfl rfl rfl rfl rfl ?_
  refine X.asg rfl rfl rfl rfl rfl ?_
  refine X.done [(2, _)] ⟨rfl, trivial⟩ ?_
  refine N.then ?_
  refine E.ret ?_
  exact N.retH [_] ⟨_, _, rfl, rfl, rfl⟩ ⟨rfl, rfl⟩

theorem wthere0_ct (p : Nat) (a b c : Value) (H : Heap) (hW : H[p]? = some (.cells [Value.bool false, a, b, c].toArray 64 (0, 0))) : Ct Try.prog 43 #[ptr p] H fun v H' => v = .bool false ∧ H' = H := by
  refine Ct.into 11 Try.func43 rfl [(0, ptr p)] rfl ⟨rfl, trivial⟩ ?_
  refine E.seq ?_
  refine E.region ?_
  refine X.asg rfl rfl rfl rfl rfl ?_
  refine X.done [(0, _), (2, _)] ⟨rfl, rfl, trivial⟩ ?_
  refine N.then ?_
  refine E.seq ?_
  refine E.region ?_
  refine X.mv rfl rfl rfl rfl rfl ?_
  refine X.neqP1 rfl rfl rfl rfl rfl rfl Try.underlying27 ?_
  refine X.mv rfl rfl rfl rfl rfl ?_
  refine X.mv rfl rfl rfl rfl rfl ?_
  refine X.nilP rfl rfl rfl rfl rfl ?_
  refine X.fld rfl rfl rfl rfl rfl Try.off64_0 ?_
  refine X.ld rfl rfl rfl rfl Try.ag4 (hW) (rfl) ?_
  refine X.pickT rfl rfl rfl rfl rfl rfl ?_
  refine X.asg rfl rfl rfl rfl rfl ?_
  refine X.done [(2, _)] ⟨rfl, trivial⟩ ?_
  refine N.then ?_
  refine E.ret ?_
  exact N.retH [_] ⟨_, _, rfl, rfl, rfl⟩ ⟨rfl, rfl⟩

theorem wthereN_ct (H : Heap) : Ct Try.prog 43 #[.pointer none] H fun v H' => v = .bool false ∧ H' = H := by
  refine Ct.into 11 Try.func43 rfl [(0, .pointer none)] rfl ⟨rfl, trivial⟩ ?_
  refine E.seq ?_
  refine E.region ?_
  refine X.asg rfl rfl rfl rfl rfl ?_
  refine X.done [(0, _), (2, _)] ⟨rfl, rfl, trivial⟩ ?_
  refine N.then ?_
  refine E.seq ?_
  refine E.region ?_
  refine X.mv rfl rfl rfl rfl rfl ?_
  refine X.neqP0 rfl rfl rfl rfl rfl rfl Try.underlying27 ?_
  refine X.mv rfl rfl rfl rfl rfl ?_
  refine X.skip rfl rfl rfl ?_
  refine X.skip rfl rfl rfl ?_
  refine X.skip rfl rfl rfl ?_
  refine X.skip rfl rfl rfl ?_
  refine X.pickF rfl rfl rfl rfl rfl rfl ?_
  refine X.asg rfl rfl rfl rfl rfl ?_
  refine X.done [(2, _)] ⟨rfl, trivial⟩ ?_
  refine N.then ?_
  refine E.ret ?_
  exact N.retH [_] ⟨_, _, rfl, rfl, rfl⟩ ⟨rfl, rfl⟩

theorem open_ct (H : Heap) : Ct Try.prog 12 #[] H fun v H' => ∃ p, v = ptr p ∧ H.size ≤ p ∧ Wr H' p (.slice none 0 0) 0 0 ∧ Kp [] H H' := by
  refine Ct.into 3 Try.func12 rfl [] rfl trivial ?_
  refine E.seq ?_
  refine E.region ?_
  refine X.asg rfl rfl rfl rfl rfl ?_
  refine X.done [(0, _)] ⟨rfl, trivial⟩ ?_
  refine N.then ?_
  refine E.seq ?_
  refine E.region ?_
  refine X.build (v := .agg (wcells (.slice none 0 0) 0 0 : List Value).toArray) rfl rfl rfl rfl rfl (fun _ => by kernel_rfl) ?_
  refine X.box rfl rfl rfl rfl rfl rfl ?_
  intro p H1 hn1 hb1 hk1
  refine X.asg rfl rfl rfl rfl rfl ?_
  refine X.done [(0, _)] ⟨rfl, trivial⟩ ?_
  refine N.then ?_
  refine E.ret ?_
  exact N.retH [_] ⟨_, _, rfl, rfl, rfl⟩ ⟨p, rfl, hn1, ⟨hb1, Own.nil _ _ _, by simp [blk], by decide⟩, hk1⟩

theorem wlen_ct (p : Nat) (sv : Value) (x len : Nat) (H : Heap) (hW : Wr H p sv x len) (hb : len ≤ 10000000) : Ct Try.prog 20 #[ptr p] H fun v H' => v = i64 len ∧ H' = H := by
  obtain ⟨sa, sc, rfl⟩ := hW.own.len
  refine Ct.into 17 Try.func20 rfl [(0, ptr p)] rfl ⟨rfl, trivial⟩ ?_
  refine E.seq ?_
  refine E.region ?_
  refine X.asg rfl rfl rfl rfl rfl ?_
  refine X.done [(0, _), (2, _)] ⟨rfl, rfl, trivial⟩ ?_
  refine N.then ?_
  refine E.seq ?_
  refine E.seq ?_
  refine E.region ?_
  refine X.mv rfl rfl rfl rfl rfl ?_
  refine X.call rfl rfl rfl rfl rfl Try.cl43 (wthere_ct p _ x len H hW) ?_
  rintro _ H1 ⟨rfl, eH1⟩
  obtain rfl := eH1.symm
  refine X.notT rfl rfl rfl rfl rfl ?_
  refine X.done [(0, _), (2, _), (5, _)] ⟨rfl, rfl, rfl, trivial⟩ ?_
  refine N.then ?_
  refine E.condF rfl ?_
  refine E.skip ?_
  refine N.then ?_
  refine E.seq ?_
  refine E.regionD (fun H' => Wr H' p (.slice sa (len / 8) sc) x len) [(0, .pu), (1, .pu), (2, .pu), (3, .st), (4, .pu), (5, .pu), (6, .pu), (7, .pu), (8, .pu), (9, .st), (10, .pu), (11, .pu)] Try.mixed (by kernel_rfl) (hW) ?_
  refine X.mv rfl rfl rfl rfl rfl ?_
  refine X.nilP rfl rfl rfl rfl rfl ?_
  refine X.fld rfl rfl rfl rfl rfl Try.off64_1 ?_
  refine X.ld rfl rfl rfl rfl Try.ag45 (fun H' hF => hF.cell) (rfl) ?_
  refine X.lenS rfl rfl rfl rfl rfl Try.underlying45 ?_
  refine X.mulE (zz := ((8 * (len / 8) : Nat) : Int)) rfl rfl rfl rfl rfl rfl (by rw [IntWalk.i64_in _ (by omega)] <;> omega) ?_
  refine X.mv rfl rfl rfl rfl rfl ?_
  refine X.nilP rfl rfl rfl rfl rfl ?_
  refine X.fld rfl rfl rfl rfl rfl Try.off64_3 ?_
  refine X.ld rfl rfl rfl rfl Try.ag3 (fun H' hF => hF.cell) (rfl) ?_
  refine X.addE (zz := (len : Int)) rfl rfl rfl rfl rfl rfl (by rw [IntWalk.i64_in _ (by omega)] <;> omega) ?_
  refine X.asg rfl rfl rfl rfl rfl ?_
  refine X.done [(2, _)] ⟨rfl, trivial⟩ ?_
  refine N.then ?_
  refine E.ret ?_
  exact N.retH [_] ⟨_, _, rfl, rfl, rfl⟩ ⟨rfl, rfl⟩

theorem wlenN_ct (pv : Value) (H : Heap) (hno : Ct Try.prog 43 #[pv] H fun v H' => v = .bool false ∧ H' = H) : Ct Try.prog 20 #[pv] H fun v H' => v = i64 0 ∧ H' = H := by
  refine Ct.into 17 Try.func20 rfl [(0, pv)] rfl ⟨rfl, trivial⟩ ?_
  refine E.seq ?_
  refine E.region ?_
  refine X.asg rfl rfl rfl rfl rfl ?_
  refine X.done [(0, _), (2, _)] ⟨rfl, rfl, trivial⟩ ?_
  refine N.then ?_
  refine E.seq ?_
  refine E.seq ?_
  refine E.region ?_
  refine X.mv rfl rfl rfl rfl rfl ?_
  refine X.call rfl rfl rfl rfl rfl Try.cl43 (hno) ?_
  rintro _ H1 ⟨rfl, eH1⟩
  obtain rfl := eH1.symm
  refine X.notF rfl rfl rfl rfl rfl ?_
  refine X.done [(0, _), (2, _), (5, _)] ⟨rfl, rfl, rfl, trivial⟩ ?_
  refine N.then ?_
  refine E.condT rfl ?_
  refine E.seq ?_
  refine E.region ?_
  refine X.asg rfl rfl rfl rfl rfl ?_
  refine X.done [(0, _), (2, _)] ⟨rfl, rfl, trivial⟩ ?_
  refine N.then ?_
  refine E.ret ?_
  refine N.thenR ?_
  exact N.retH [_] ⟨_, _, rfl, rfl, rfl⟩ ⟨rfl, rfl⟩

theorem textN_ct (pv : Value) (H : Heap) (hno : Ct Try.prog 43 #[pv] H fun v H' => v = .bool false ∧ H' = H) : Ct Try.prog 16 #[pv] H fun v H' => v = str [] ∧ H' = H := by
  refine Ct.into 27 Try.func16 rfl [(0, pv)] rfl ⟨rfl, trivial⟩ ?_
  refine E.seq ?_
  refine E.region ?_
  refine X.asg rfl rfl rfl rfl rfl ?_
  refine X.done [(0, _), (2, _)] ⟨rfl, rfl, trivial⟩ ?_
  refine N.then ?_
  refine E.seq ?_
  refine E.seq ?_
  refine E.region ?_
  refine X.mv rfl rfl rfl rfl rfl ?_
  refine X.call rfl rfl rfl rfl rfl Try.cl43 (hno) ?_
  rintro _ H1 ⟨rfl, eH1⟩
  obtain rfl := eH1.symm
  refine X.notF rfl rfl rfl rfl rfl ?_
  refine X.done [(0, _), (2, _), (6, _)] ⟨rfl, rfl, rfl, trivial⟩ ?_
  refine N.then ?_
  refine E.condT rfl ?_
  refine E.seq ?_
  refine E.region ?_
  refine X.asg rfl rfl rfl rfl rfl ?_
  refine X.done [(0, _), (2, _)] ⟨rfl, rfl, trivial⟩ ?_
  refine N.then ?_
  refine E.ret ?_
  refine N.thenR ?_
  exact N.retH [_] ⟨_, _, rfl, rfl, rfl⟩ ⟨rfl, rfl⟩

theorem text_ct (p : Nat) (sv : Value) (x len : Nat) (H : Heap) (hW : Wr H p sv x len) (hb : len ≤ 10000000) : Ct Try.prog 16 #[ptr p] H fun v H' => v = str (digs x ((len + 7) / 8)) ∧ Kp [] H H' := by
  obtain ⟨sa, sc, rfl⟩ := hW.own.len
  have hal := acc_lt hW.lt
  have hp7 : 2 ^ (len % 8) ≤ 2 ^ 7 := Nat.pow_le_pow_right (by omega) (by omega)
  have hdl := digs_len x (len / 8)
  have e8 : (UInt8.ofNat (x / 2 ^ (8 * (len / 8)) % 256)).toNat = x / 2 ^ (8 * (len / 8)) := by rw [u8_of]; exact Nat.mod_eq_of_lt (by omega)
  have eb : bv [UInt8.ofNat (x / 2 ^ (8 * (len / 8)) % 256)] = [.int .u8 ((x / 2 ^ (8 * (len / 8)) : Nat) : Int)] := by show [Value.int .u8 (((UInt8.ofNat (x / 2 ^ (8 * (len / 8)) % 256)).toNat : Nat) : Int)] = _; rw [e8]
  refine Ct.into 27 Try.func16 rfl [(0, ptr p)] rfl ⟨rfl, trivial⟩ ?_
  refine E.seq ?_
  refine E.region ?_
  refine X.asg rfl rfl rfl rfl rfl ?_
  refine X.done [(0, _), (2, _)] ⟨rfl, rfl, trivial⟩ ?_
  refine N.then ?_
  refine E.seq ?_
  refine E.seq ?_
  refine E.region ?_
  refine X.mv rfl rfl rfl rfl rfl ?_
  refine X.call rfl rfl rfl rfl rfl Try.cl43 (wthere_ct p _ x len H hW) ?_
  rintro _ H1 ⟨rfl, eH1⟩
  obtain rfl := eH1.symm
  refine X.notT rfl rfl rfl rfl rfl ?_
  refine X.done [(0, _), (2, _), (6, _)] ⟨rfl, rfl, rfl, trivial⟩ ?_
  refine N.then ?_
  refine E.condF rfl ?_
  refine E.skip ?_
  refine N.then ?_
  refine E.seq ?_
  refine E.region ?_
  refine X.mv rfl rfl rfl rfl rfl ?_
  refine X.nilP rfl rfl rfl rfl rfl ?_
  refine X.fld rfl rfl rfl rfl rfl Try.off64_1 ?_
  refine X.ld rfl rfl rfl rfl Try.ag45 (hW.cell) (rfl) ?_
  refine X.b2s rfl rfl rfl rfl Try.underlying45 Try.underlying5 Try.underlying9 (hW.own.rd) ?_
  refine X.asg rfl rfl rfl rfl rfl ?_
  refine X.done [(0, _), (2, _), (3, _)] ⟨rfl, rfl, rfl, trivial⟩ ?_
  refine N.then ?_
  refine E.seq ?_
  refine E.seq ?_
  refine E.region ?_
  refine X.mv rfl rfl rfl rfl rfl ?_
  refine X.nilP rfl rfl rfl rfl rfl ?_
  refine X.fld rfl rfl rfl rfl rfl Try.off64_3 ?_
  refine X.ld rfl rfl rfl rfl Try.ag3 (hW.cell) (rfl) ?_
  refine X.gtr rfl rfl rfl rfl rfl rfl ?_
  refine X.done [(0, _), (2, _), (3, _), (16, _)] ⟨rfl, rfl, rfl, rfl, trivial⟩ ?_
  refine N.then ?_
  refine E.condD rfl (fun hc => ?_) (fun hc => ?_)
  · refine E.region ?_
    refine X.mv rfl rfl rfl rfl rfl ?_
    refine X.mv rfl rfl rfl rfl rfl ?_
    refine X.nilP rfl rfl rfl rfl rfl ?_
    refine X.fld rfl rfl rfl rfl rfl Try.off64_2 ?_
    refine X.ld rfl rfl rfl rfl Try.ag62 (hW.cell) (rfl) ?_
    refine X.convE (zz := ((x / 2 ^ (8 * (len / 8)) : Nat) : Int)) rfl rfl rfl rfl rfl Try.underlying5 Try.us62 (IntWalk.u8_in _ (by omega)) ?_
    refine X.lit (e := 5) (cs := [.int .u8 ((x / 2 ^ (8 * (len / 8)) : Nat) : Int)]) rfl rfl rfl rfl rfl (fun _ => by kernel_rfl) ?_
    intro b23 H23 hn23 hb23 hk23
    refine X.b2s rfl rfl rfl rfl Try.underlying45 Try.underlying5 Try.underlying9 (by rw [eb]; exact ⟨rfl, _, _, rfl, .inr ⟨b23, 0, _, _, _, rfl, hb23, fun j u hj => by rw [Nat.zero_add]; exact hj⟩⟩) ?_
    refine X.cat rfl rfl rfl rfl rfl rfl (by rw [hdl]; show len / 8 + 1 ≤ _; omega) ?_
    refine X.asg rfl rfl rfl rfl rfl ?_
    refine X.done [(2, _), (3, _)] ⟨rfl, rfl, trivial⟩ ?_
    refine N.then ?_
    refine E.seq ?_
    refine E.region ?_
    refine X.mv rfl rfl rfl rfl rfl ?_
    refine X.asg rfl rfl rfl rfl rfl ?_
    refine X.done [(2, _)] ⟨rfl, trivial⟩ ?_
    refine N.then ?_
    refine E.ret ?_
    first | exact N.retH [_] ⟨_, _, rfl, rfl, rfl⟩ ⟨by rw [show (len + 7) / 8 = len / 8 + 1 by omega]; rfl, hk23⟩ | exact N.retH [_] ⟨_, _, rfl, rfl, rfl⟩ ⟨by rw [show (len + 7) / 8 = len / 8 by omega]; rfl, Kp.refl _ _⟩
  · refine E.skip ?_
    refine N.then ?_
    refine E.seq ?_
    refine E.region ?_
    refine X.mv rfl rfl rfl rfl rfl ?_
    refine X.asg rfl rfl rfl rfl rfl ?_
    refine X.done [(2, _)] ⟨rfl, trivial⟩ ?_
    refine N.then ?_
    refine E.ret ?_
    first | exact N.retH [_] ⟨_, _, rfl, rfl, rfl⟩ ⟨by rw [show (len + 7) / 8 = len / 8 + 1 by omega]; rfl, hk23⟩ | exact N.retH [_] ⟨_, _, rfl, rfl, rfl⟩ ⟨by rw [show (len + 7) / 8 = len / 8 by omega]; rfl, Kp.refl _ _⟩

theorem putN_ct (pv : Value) (H : Heap) (hno : Ct Try.prog 43 #[pv] H fun v H' => v = .bool false ∧ H' = H) (v n : Int) : Ct Try.prog 13 #[pv, i64 v, i64 n] H fun u H' => u = i64 25 ∧ H' = H := by
  refine Ct.into 80 Try.func13 rfl [(0, pv), (1, i64 v), (2, i64 n)] rfl ⟨rfl, rfl, rfl, trivial⟩ ?_
  refine E.seq ?_
  refine E.region ?_
  refine X.asg rfl rfl rfl rfl rfl ?_
  refine X.done [(0, _), (1, _), (2, _), (6, _)] ⟨rfl, rfl, rfl, rfl, trivial⟩ ?_
  refine N.then ?_
  refine E.seq ?_
  refine E.seq ?_
  refine E.region ?_
  refine X.mv rfl rfl rfl rfl rfl ?_
  refine X.call rfl rfl rfl rfl rfl Try.cl43 (hno) ?_
  rintro _ H1 ⟨rfl, eH1⟩
  obtain rfl := eH1.symm
  refine X.notF rfl rfl rfl rfl rfl ?_
  refine X.done [(0, _), (1, _), (2, _), (6, _), (9, _)] ⟨rfl, rfl, rfl, rfl, rfl, trivial⟩ ?_
  refine N.then ?_
  refine E.condT rfl ?_
  refine E.seq ?_
  refine E.region ?_
  refine X.asg rfl rfl rfl rfl rfl ?_
  refine X.done [(0, _), (1, _), (2, _), (6, _)] ⟨rfl, rfl, rfl, rfl, trivial⟩ ?_
  refine N.then ?_
  refine E.ret ?_
  refine N.thenR ?_
  exact N.retH [_] ⟨_, _, rfl, rfl, rfl⟩ ⟨rfl, rfl⟩

theorem put_badn_ct (p : Nat) (sv : Value) (x len : Nat) (H : Heap) (hW : Wr H p sv x len) (v n : Int) (hn : n < 0 ∨ 32 < n) : Ct Try.prog 13 #[ptr p, i64 v, i64 n] H fun u H' => u = i64 1 ∧ H' = H := by
  refine Ct.into 80 Try.func13 rfl [(0, ptr p), (1, i64 v), (2, i64 n)] rfl ⟨rfl, rfl, rfl, trivial⟩ ?_
  refine E.seq ?_
  refine E.region ?_
  refine X.asg rfl rfl rfl rfl rfl ?_
  refine X.done [(0, _), (1, _), (2, _), (6, _)] ⟨rfl, rfl, rfl, rfl, trivial⟩ ?_
  refine N.then ?_
  refine E.seq ?_
  refine E.seq ?_
  refine E.region ?_
  refine X.mv rfl rfl rfl rfl rfl ?_
  refine X.call rfl rfl rfl rfl rfl Try.cl43 (wthere_ct p _ x len H hW) ?_
  rintro _ H1 ⟨rfl, eH1⟩
  obtain rfl := eH1.symm
  refine X.notT rfl rfl rfl rfl rfl ?_
  refine X.done [(0, _), (1, _), (2, _), (6, _), (9, _)] ⟨rfl, rfl, rfl, rfl, rfl, trivial⟩ ?_
  refine N.then ?_
  refine E.condF rfl ?_
  refine E.skip ?_
  refine N.then ?_
  refine E.seq ?_
  refine E.seq ?_
  refine E.region ?_
  refine X.mv rfl rfl rfl rfl rfl ?_
  refine X.call rfl rfl rfl rfl rfl Try.cl41 (manyF_ct n H hn) ?_
  rintro _ H2 ⟨rfl, eH2⟩
  obtain rfl := eH2.symm
  refine X.notF rfl rfl rfl rfl rfl ?_
  refine X.mv rfl rfl rfl rfl rfl ?_
  refine X.skip rfl rfl rfl ?_
  refine X.skip rfl rfl rfl ?_
  refine X.pickT rfl rfl rfl rfl rfl rfl ?_
  refine X.mv rfl rfl rfl rfl rfl ?_
  refine X.skip rfl rfl rfl ?_
  refine X.skip rfl rfl rfl ?_
  refine X.skip rfl rfl rfl ?_
  refine X.skip rfl rfl rfl ?_
  refine X.skip rfl rfl rfl ?_
  refine X.pickT rfl rfl rfl rfl rfl rfl ?_
  refine X.done [(0, _), (1, _), (2, _), (6, _), (23, _)] ⟨rfl, rfl, rfl, rfl, rfl, trivial⟩ ?_
  refine N.then ?_
  refine E.condT rfl ?_
  refine E.seq ?_
  refine E.region ?_
  refine X.asg rfl rfl rfl rfl rfl ?_
  refine X.done [(0, _), (1, _), (2, _), (6, _)] ⟨rfl, rfl, rfl, rfl, trivial⟩ ?_
  refine N.then ?_
  refine E.ret ?_
  refine N.thenR ?_
  exact N.retH [_] ⟨_, _, rfl, rfl, rfl⟩ ⟨rfl, rfl⟩

theorem put_badv_ct (p : Nat) (sv : Value) (x len : Nat) (H : Heap) (hW : Wr H p sv x len) (v n : Int) (hn : 0 ≤ n ∧ n ≤ 32) (hv : v < 0) : Ct Try.prog 13 #[ptr p, i64 v, i64 n] H fun u H' => u = i64 1 ∧ H' = H := by
  refine Ct.into 80 Try.func13 rfl [(0, ptr p), (1, i64 v), (2, i64 n)] rfl ⟨rfl, rfl, rfl, trivial⟩ ?_
  refine E.seq ?_
  refine E.region ?_
  refine X.asg rfl rfl rfl rfl rfl ?_
  refine X.done [(0, _), (1, _), (2, _), (6, _)] ⟨rfl, rfl, rfl, rfl, trivial⟩ ?_
  refine N.then ?_
  refine E.seq ?_
  refine E.seq ?_
  refine E.region ?_
  refine X.mv rfl rfl rfl rfl rfl ?_
  refine X.call rfl rfl rfl rfl rfl Try.cl43 (wthere_ct p _ x len H hW) ?_
  rintro _ H1 ⟨rfl, eH1⟩
  obtain rfl := eH1.symm
  refine X.notT rfl rfl rfl rfl rfl ?_
  refine X.done [(0, _), (1, _), (2, _), (6, _), (9, _)] ⟨rfl, rfl, rfl, rfl, rfl, trivial⟩ ?_
  refine N.then ?_
  refine E.condF rfl ?_
  refine E.skip ?_
  refine N.then ?_
  refine E.seq ?_
  refine E.seq ?_
  refine E.region ?_
  refine X.mv rfl rfl rfl rfl rfl ?_
  refine X.call rfl rfl rfl rfl rfl Try.cl41 (many_ct n H hn) ?_
  rintro _ H2 ⟨rfl, eH2⟩
  obtain rfl := eH2.symm
  refine X.notT rfl rfl rfl rfl rfl ?_
  refine X.mv rfl rfl rfl rfl rfl ?_
  refine X.mv rfl rfl rfl rfl rfl ?_
  refine X.lssT rfl rfl rfl rfl rfl rfl (by omega) ?_
  refine X.pickF rfl rfl rfl rfl rfl rfl ?_
  refine X.mv rfl rfl rfl rfl rfl ?_
  refine X.skip rfl rfl rfl ?_
  refine X.skip rfl rfl rfl ?_
  refine X.skip rfl rfl rfl ?_
  refine X.skip rfl rfl rfl ?_
  refine X.skip rfl rfl rfl ?_
  refine X.pickT rfl rfl rfl rfl rfl rfl ?_
  refine X.done [(0, _), (1, _), (2, _), (6, _), (23, _)] ⟨rfl, rfl, rfl, rfl, rfl, trivial⟩ ?_
  refine N.then ?_
  refine E.condT rfl ?_
  refine E.seq ?_
  refine E.region ?_
  refine X.asg rfl rfl rfl rfl rfl ?_
  refine X.done [(0, _), (1, _), (2, _), (6, _)] ⟨rfl, rfl, rfl, rfl, trivial⟩ ?_
  refine N.then ?_
  refine E.ret ?_
  refine N.thenR ?_
  exact N.retH [_] ⟨_, _, rfl, rfl, rfl⟩ ⟨rfl, rfl⟩

theorem put_badw_ct (p : Nat) (sv : Value) (x len : Nat) (H : Heap) (hW : Wr H p sv x len) (v n : Nat) (hn : n ≤ 32) (hv : 2 ^ n ≤ v) : Ct Try.prog 13 #[ptr p, i64 v, i64 n] H fun u H' => u = i64 1 ∧ H' = H := by
  have hdv : 1 ≤ v / 2 ^ n := (Nat.le_div_iff_mul_le (Nat.two_pow_pos _)).2 (by omega)
  refine Ct.into 80 Try.func13 rfl [(0, ptr p), (1, i64 v), (2, i64 n)] rfl ⟨rfl, rfl, rfl, trivial⟩ ?_
  refine E.seq ?_
  refine E.region ?_
  refine X.asg rfl rfl rfl rfl rfl ?_
  refine X.done [(0, _), (1, _), (2, _), (6, _)] ⟨rfl, rfl, rfl, rfl, trivial⟩ ?_
  refine N.then ?_
  refine E.seq ?_
  refine E.seq ?_
  refine E.region ?_
  refine X.mv rfl rfl rfl rfl rfl ?_
  refine X.call rfl rfl rfl rfl rfl Try.cl43 (wthere_ct p _ x len H hW) ?_
  rintro _ H1 ⟨rfl, eH1⟩
  obtain rfl := eH1.symm
  refine X.notT rfl rfl rfl rfl rfl ?_
  refine X.done [(0, _), (1, _), (2, _), (6, _), (9, _)] ⟨rfl, rfl, rfl, rfl, rfl, trivial⟩ ?_
  refine N.then ?_
  refine E.condF rfl ?_
  refine E.skip ?_
  refine N.then ?_
  refine E.seq ?_
  refine E.seq ?_
  refine E.region ?_
  refine X.mv rfl rfl rfl rfl rfl ?_
  refine X.call rfl rfl rfl rfl rfl Try.cl41 (many_ct n H (by omega)) ?_
  rintro _ H2 ⟨rfl, eH2⟩
  obtain rfl := eH2.symm
  refine X.notT rfl rfl rfl rfl rfl ?_
  refine X.mv rfl rfl rfl rfl rfl ?_
  refine X.mv rfl rfl rfl rfl rfl ?_
  refine X.lssF rfl rfl rfl rfl rfl rfl (by omega) ?_
  refine X.pickF rfl rfl rfl rfl rfl rfl ?_
  refine X.mv rfl rfl rfl rfl rfl ?_
  refine X.mv rfl rfl rfl rfl rfl ?_
  refine X.mv rfl rfl rfl rfl rfl ?_
  refine X.convE (zz := (n : Int)) rfl rfl rfl rfl rfl Try.underlying24 Try.us3 (IntWalk.u64_in _ (by omega)) ?_
  refine X.shrE (zz := ((v / 2 ^ n : Nat) : Int)) rfl rfl rfl rfl rfl rfl (by omega) (shrN (rfl) (rfl) (by show _ ≤ 64; omega)) ?_
  refine X.neqT rfl rfl rfl rfl rfl rfl (fun h => by have := Int.ofNat.inj h; omega) ?_
  refine X.pickF rfl rfl rfl rfl rfl rfl ?_
  refine X.done [(0, _), (1, _), (2, _), (6, _), (23, _)] ⟨rfl, rfl, rfl, rfl, rfl, trivial⟩ ?_
  refine N.then ?_
  refine E.condT rfl ?_
  refine E.seq ?_
  refine E.region ?_
  refine X.asg rfl rfl rfl rfl rfl ?_
  refine X.done [(0, _), (1, _), (2, _), (6, _)] ⟨rfl, rfl, rfl, rfl, trivial⟩ ?_
  refine N.then ?_
  refine E.ret ?_
  refine N.thenR ?_
  exact N.retH [_] ⟨_, _, rfl, rfl, rfl⟩ ⟨rfl, rfl⟩

theorem put_ct (p : Nat) (sv : Value) (x len : Nat) (H : Heap) (hW : Wr H p sv x len) (v n : Nat) (hn : n ≤ 32) (hv : v < 2 ^ n) (hlb : len ≤ 10000000) : Ct Try.prog 13 #[ptr p, i64 v, i64 n] H fun u H' => u = i64 0 ∧ ∃ sv', Wr H' p sv' (put x len v) (len + n) ∧ Chg p sv H H' sv' := by
  obtain ⟨sa, sc, rfl⟩ := hW.own.len
  have hvd : v / 2 ^ n = 0 := Nat.div_eq_of_lt hv
  have hpn : 2 ^ n ≤ 2 ^ 32 := Nat.pow_le_pow_right (by omega) hn
  have hal := acc_lt hW.lt
  have hp7 : 2 ^ (len % 8) ≤ 2 ^ 7 := Nat.pow_le_pow_right (by omega) (by omega)
  have hX := put_lt hW.lt hv
  have hpa := put_acc x len v
  have hB : v * 2 ^ (len % 8) ≤ 2 ^ 32 * 2 ^ 7 := Nat.mul_le_mul (by omega) hp7
  have eC : ((v * 2 ^ (len % 8) : Nat) : Int) = (v : Int) * 2 ^ (len % 8) := by simp
  have bC : 0 ≤ (v : Int) * 2 ^ (len % 8) ∧ (v : Int) * 2 ^ (len % 8) ≤ 549755813888 := by rw [← eC]; exact ⟨Int.natCast_nonneg _, Int.ofNat_le.2 hB⟩
  refine Ct.into 80 Try.func13 rfl [(0, ptr p), (1, i64 v), (2, i64 n)] rfl ⟨rfl, rfl, rfl, trivial⟩ ?_
  refine E.seq ?_
  refine E.region ?_
  refine X.asg rfl rfl rfl rfl rfl ?_
  refine X.done [(0, _), (1, _), (2, _), (6, _)] ⟨rfl, rfl, rfl, rfl, trivial⟩ ?_
  refine N.then ?_
  refine E.seq ?_
  refine E.seq ?_
  refine E.region ?_
  refine X.mv rfl rfl rfl rfl rfl ?_
  refine X.call rfl rfl rfl rfl rfl Try.cl43 (wthere_ct p _ x len H hW) ?_
  rintro _ H1 ⟨rfl, eH1⟩
  obtain rfl := eH1.symm
  refine X.notT rfl rfl rfl rfl rfl ?_
  refine X.done [(0, _), (1, _), (2, _), (6, _), (9, _)] ⟨rfl, rfl, rfl, rfl, rfl, trivial⟩ ?_
  refine N.then ?_
  refine E.condF rfl ?_
  refine E.skip ?_
  refine N.then ?_
  refine E.seq ?_
  refine E.seq ?_
  refine E.region ?_
  refine X.mv rfl rfl rfl rfl rfl ?_
  refine X.call rfl rfl rfl rfl rfl Try.cl41 (many_ct n H (by omega)) ?_
  rintro _ H2 ⟨rfl, eH2⟩
  obtain rfl := eH2.symm
  refine X.notT rfl rfl rfl rfl rfl ?_
  refine X.mv rfl rfl rfl rfl rfl ?_
  refine X.mv rfl rfl rfl rfl rfl ?_
  refine X.lssF rfl rfl rfl rfl rfl rfl (by omega) ?_
  refine X.pickF rfl rfl rfl rfl rfl rfl ?_
  refine X.mv rfl rfl rfl rfl rfl ?_
  refine X.mv rfl rfl rfl rfl rfl ?_
  refine X.mv rfl rfl rfl rfl rfl ?_
  refine X.convE (zz := (n : Int)) rfl rfl rfl rfl rfl Try.underlying24 Try.us3 (IntWalk.u64_in _ (by omega)) ?_
  refine X.shrE (zz := ((v / 2 ^ n : Nat) : Int)) rfl rfl rfl rfl rfl rfl (by omega) (shrN (rfl) (rfl) (by show _ ≤ 64; omega)) ?_
  refine X.neqF rfl rfl rfl rfl rfl rfl (fun h => h (by rw [hvd]; rfl)) ?_
  refine X.pickF rfl rfl rfl rfl rfl rfl ?_
  refine X.done [(0, _), (1, _), (2, _), (6, _), (23, _)] ⟨rfl, rfl, rfl, rfl, rfl, trivial⟩ ?_
  refine N.then ?_
  refine E.condF rfl ?_
  refine E.skip ?_
  refine N.then ?_
  refine E.seq ?_
  refine E.regionD (fun H' => Wr H' p (.slice sa (len / 8) sc) x len) [(0, .pu), (1, .pu), (2, .pu), (3, .st), (4, .pu), (5, .pu), (6, .pu), (7, .pu), (8, .pu), (9, .st), (10, .pu), (11, .pu), (12, .pu), (13, .pu), (14, .pu), (15, .mv)] Try.mixed (by kernel_rfl) (hW) ?_
  refine X.mv rfl rfl rfl rfl rfl ?_
  refine X.nilP rfl rfl rfl rfl rfl ?_
  refine X.fld rfl rfl rfl rfl rfl Try.off64_2 ?_
  refine X.ld rfl rfl rfl rfl Try.ag62 (fun H' hF => hF.cell) (rfl) ?_
  refine X.mv rfl rfl rfl rfl rfl ?_
  refine X.convE (zz := (v : Int)) rfl rfl rfl rfl rfl Try.underlying62 Try.us3 (IntWalk.u64_in _ (by omega)) ?_
  refine X.mv rfl rfl rfl rfl rfl ?_
  refine X.nilP rfl rfl rfl rfl rfl ?_
  refine X.fld rfl rfl rfl rfl rfl Try.off64_3 ?_
  refine X.ld rfl rfl rfl rfl Try.ag3 (fun H' hF => hF.cell) (rfl) ?_
  refine X.convE (zz := ((len % 8 : Nat) : Int)) rfl rfl rfl rfl rfl Try.underlying24 Try.us3 (IntWalk.u64_in _ (by omega)) ?_
  refine X.shlE (zz := ((v * 2 ^ (len % 8) : Nat) : Int)) rfl rfl rfl rfl rfl rfl (by omega) (by rw [eC]; exact shlU rfl (by omega) (by omega) (by omega)) ?_
  refine X.borE (zz := ((put x len v / 2 ^ (8 * (len / 8)) : Nat) : Int)) rfl rfl rfl rfl rfl rfl (by rw [or64 rfl rfl (by omega) (by omega), or_shift hal, hpa]) ?_
  refine X.nilP rfl rfl rfl rfl rfl ?_
  refine X.fld rfl rfl rfl rfl rfl Try.off64_2 ?_
  refine X.st rfl rfl rfl rfl rfl rfl rfl Try.sz62 hW.cell (by simp) ?_
  intro H3 hb3 hk3
  refine X.done [(0, _), (2, _), (6, _)] ⟨rfl, rfl, rfl, trivial⟩ ?_
  refine N.then ?_
  refine E.seq ?_
  refine E.seq ?_
  refine E.region ?_
  refine X.mv rfl rfl rfl rfl rfl ?_
  refine X.nilP rfl rfl rfl rfl rfl ?_
  refine X.fld rfl rfl rfl rfl rfl Try.off64_3 ?_
  refine X.ld rfl rfl rfl rfl Try.ag3 (hb3) (rfl) ?_
  refine X.mv rfl rfl rfl rfl rfl ?_
  refine X.addE (zz := ((len % 8 + n : Nat) : Int)) rfl rfl rfl rfl rfl rfl (by rw [IntWalk.i64_in _ (by omega)] <;> omega) ?_
  refine X.nilP rfl rfl rfl rfl rfl ?_
  refine X.fld rfl rfl rfl rfl rfl Try.off64_3 ?_
  refine X.st rfl rfl rfl rfl rfl rfl rfl Try.sz3 hb3 (by simp) ?_
  intro H4 hb4 hk4
  have hg4 : Chg p (.slice sa (len / 8) sc) H H4 (.slice sa (len / 8) sc) := (Chg.one hk3).trans (Chg.one hk4)
  have ho4 := hW.own.keep (hk3.trans hk4 (by simp)) (fun b hb h => hW.sep (by simp at h; exact h ▸ hb))
  refine X.done [(0, _), (6, _)] ⟨rfl, rfl, trivial⟩ ?_
  refine N.then ?_
  refine E.block ?_
  -- MISSING in G: [6]
  refine E.loop (fun (m : Nat) => [(0, ptr p)]) (fun (m : Nat) H' => 8 * (len / 8 + m) ≤ len + n ∧ ∃ sv', H'[p]? = some (.cells (wcells sv' (put x len v / 2 ^ (8 * (len / 8 + m))) (len + n - 8 * (len / 8 + m))).toArray 64 (0, 0)) ∧ Own H' 5 1 sv' (len / 8 + m) (bv (digs (put x len v) (len / 8 + m))) ∧ p ∉ blk sv' ∧ Chg p (.slice sa (len / 8) sc) H H' sv') (fun (m : Nat) => len + n - 8 * (len / 8 + m)) 0 ⟨rfl, trivial⟩ ⟨by omega, _, by rw [hb4]; show some (Obj.cells [Value.bool true, _, Value.int .u64 _, i64 ((len % 8 + n : Nat) : Int)].toArray 64 (0, 0)) = _; rw [show len % 8 + n = len + n - 8 * (len / 8 + 0) by omega]; rfl, by rw [Nat.add_zero, put_digs]; exact ho4, hW.sep, hg4⟩ ?_
  rintro m H5 ⟨hm, sv', hcl, ho, hsep, hg⟩
  obtain ⟨a2, c2, rfl⟩ := ho.len
  have hac : put x len v / 2 ^ (8 * (len / 8 + m)) ≤ put x len v / 2 ^ (8 * (len / 8)) := Nat.div_le_div_left (Nat.pow_le_pow_right (by omega) (by omega)) (Nat.two_pow_pos _)
  have hdv8 := acc_div (put x len v) (len / 8 + m)
  refine E.seq ?_
  refine E.seq ?_
  refine E.region ?_
  refine X.mv rfl rfl rfl rfl rfl ?_
  refine X.nilP rfl rfl rfl rfl rfl ?_
  refine X.fld rfl rfl rfl rfl rfl Try.off64_3 ?_
  refine X.ld rfl rfl rfl rfl Try.ag3 (hcl) (rfl) ?_
  refine X.geq rfl rfl rfl rfl rfl rfl ?_
  refine X.done [(0, _), (47, _), (48, _), (49, _), (50, _), (51, _)] ⟨rfl, rfl, rfl, rfl, rfl, rfl, trivial⟩ ?_
  refine N.then ?_
  refine E.condD rfl (fun hc => ?_) (fun hc => ?_)
  · refine E.skip ?_
    refine N.then ?_
    refine E.seq ?_
    refine E.block ?_
    refine E.seq ?_
    have h8 : 8 ≤ len + n - 8 * (len / 8 + m) := by omega
    refine E.regionD (fun H' => H'[p]? = some (.cells (wcells (.slice a2 (len / 8 + m) c2) (put x len v / 2 ^ (8 * (len / 8 + m))) (len + n - 8 * (len / 8 + m))).toArray 64 (0, 0))) [(0, .pu), (1, .pu), (2, .pu), (3, .pu), (4, .st), (5, .pu), (6, .pu), (7, .pu), (8, .st), (9, .pu), (10, .mk), (11, .mk), (12, .pu), (13, .pu), (14, .mv)] Try.mixed (by kernel_rfl) (hcl) ?_
    refine X.mv rfl rfl rfl rfl rfl ?_
    refine X.mv rfl rfl rfl rfl rfl ?_
    refine X.nilP rfl rfl rfl rfl rfl ?_
    refine X.fld rfl rfl rfl rfl rfl Try.off64_1 ?_
    refine X.ld rfl rfl rfl rfl Try.ag45 (fun H' hF => hF) (rfl) ?_
    refine X.mv rfl rfl rfl rfl rfl ?_
    refine X.nilP rfl rfl rfl rfl rfl ?_
    refine X.fld rfl rfl rfl rfl rfl Try.off64_2 ?_
    refine X.ld rfl rfl rfl rfl Try.ag62 (fun H' hF => hF) (rfl) ?_
    refine X.convE (zz := ((put x len v / 2 ^ (8 * (len / 8 + m)) % 256 : Nat) : Int)) rfl rfl rfl rfl rfl Try.underlying5 Try.us62 (by rw [IntKind.wrap_u8]; rfl) ?_
    refine X.lit (e := 5) (cs := [.int .u8 ((put x len v / 2 ^ (8 * (len / 8 + m)) % 256 : Nat) : Int)]) rfl rfl rfl rfl rfl (fun _ => by kernel_rfl) ?_
    intro b9 H9 hn9 hb9 hk9
    refine ⟨hk9.keep hcl (by simp), ?_⟩
    refine X.app T5 rfl rfl rfl rfl rfl rfl (ho.keep hk9 (by simp)) (.inl ⟨rfl, _, _, rfl, .inr ⟨b9, 0, _, _, _, rfl, hb9, fun j u hj => by rw [Nat.zero_add]; exact hj⟩⟩) (.inl ⟨5, Try.underlying45, _, _, rfl⟩) (by simp [Value.oneCell']) (by first | (simp only [maxLen]; omega) | omega) (by first | (simp only [maxLen]; omega) | omega) ?_
    intro v1 H10 ho1 hk8 hb1 hn1
    obtain ⟨a1, c1, rfl⟩ := ho1.len
    have eb : [Value.int .u8 ((put x len v / 2 ^ (8 * (len / 8 + m)) % 256 : Nat) : Int)] = bv [UInt8.ofNat (put x len v / 2 ^ (8 * (len / 8 + m)) % 256)] := by show _ = [Value.int .u8 (((UInt8.ofNat (put x len v / 2 ^ (8 * (len / 8 + m)) % 256)).toNat : Nat) : Int)]; rw [u8_of]
    rw [eb, ← bv_append] at ho1
    have ho1 : Own H10 5 1 (.slice a1 (len / 8 + m + 1) c1) (len / 8 + (m + 1)) (bv (digs (put x len v) (len / 8 + (m + 1)))) := ho1
    have hb1 : ∀ b ∈ blk (.slice a1 (len / 8 + m + 1) c1), b ∈ blk (.slice a2 (len / 8 + m) c2) ∨ H5.size ≤ b := fun b hb => hb1.elim (fun h => .inl (h ▸ hb)) (fun h => .inr (Nat.le_trans hk9.size (h b hb)))
    refine ⟨hk8.keep (hk9.keep hcl (by simp)) hsep, ?_⟩
    refine X.nilP rfl rfl rfl rfl rfl ?_
    refine X.fld rfl rfl rfl rfl rfl Try.off64_1 ?_
    refine X.st rfl rfl rfl rfl rfl rfl rfl Try.sz45 (hk8.keep (hk9.keep hcl (by simp)) hsep) (by simp) ?_
    intro H6 hb6 hk6
    have hs1 : p ∉ blk (.slice a1 (len / 8 + m + 1) c1) := fun h => (hb1 p h).elim hsep (fun h => by have := lt_of hcl; omega)
    have hg6 : Chg p (.slice a2 (len / 8 + m) c2) H5 H6 (.slice a1 (len / 8 + m + 1) c1) := ⟨((hk9.mono (T := p :: blk (.slice a2 (len / 8 + m) c2)) (by simp)).trans (hk8.mono (T := p :: blk (.slice a2 (len / 8 + m) c2)) (fun b hb => .inl (by simp [hb]))) (fun b hb => .inl hb)).trans hk6 (by simp), hb1⟩
    have ho6 := ho1.keep hk6 (fun b hbb h => hs1 (by simp at h; exact h ▸ hbb))
    refine X.done [(0, _), (47, _), (48, _), (49, _), (50, _), (51, _), (59, _), (60, _), (61, _), (62, _), (63, _), (64, _), (65, _), (66, _), (67, _), (68, _), (69, _), (70, _), (71, _), (72, _)] ⟨rfl, rfl, rfl, rfl, rfl, rfl, rfl, rfl, rfl, rfl, rfl, rfl, rfl, rfl, rfl, rfl, rfl, rfl, rfl, rfl, trivial⟩ ?_
    refine N.then ?_
    refine E.region ?_
    refine X.mv rfl rfl rfl rfl rfl ?_
    refine X.nilP rfl rfl rfl rfl rfl ?_
    refine X.fld rfl rfl rfl rfl rfl Try.off64_2 ?_
    refine X.ld rfl rfl rfl rfl Try.ag62 (hb6) (rfl) ?_
    refine X.shrE (zz := ((put x len v / 2 ^ (8 * (len / 8 + m)) / 2 ^ 8 : Nat) : Int)) rfl rfl rfl rfl rfl rfl (by omega) (shrN (rfl) (rfl) (by show _ ≤ 64; omega)) ?_
    refine X.nilP rfl rfl rfl rfl rfl ?_
    refine X.fld rfl rfl rfl rfl rfl Try.off64_2 ?_
    refine X.st rfl rfl rfl rfl rfl rfl rfl Try.sz62 hb6 (by simp) ?_
    intro H7 hb7 hk7
    refine X.done [(0, _), (47, _), (48, _), (49, _), (50, _), (51, _), (59, _), (60, _), (61, _), (62, _), (63, _), (64, _), (65, _), (66, _), (67, _), (68, _), (69, _), (70, _), (71, _), (72, _), (73, _), (74, _), (75, _), (76, _), (77, _), (78, _), (79, _)] ⟨rfl, rfl, rfl, rfl, rfl, rfl, rfl, rfl, rfl, rfl, rfl, rfl, rfl, rfl, rfl, rfl, rfl, rfl, rfl, rfl, rfl, rfl, rfl, rfl, rfl, rfl, rfl, trivial⟩ ?_
    refine N.blk ?_
    refine N.then ?_
    refine E.region ?_
    refine X.mv rfl rfl rfl rfl rfl ?_
    refine X.nilP rfl rfl rfl rfl rfl ?_
    refine X.fld rfl rfl rfl rfl rfl Try.off64_3 ?_
    refine X.ld rfl rfl rfl rfl Try.ag3 (hb7) (rfl) ?_
    refine X.sbE (zz := ((len + n - 8 * (len / 8 + (m + 1)) : Nat) : Int)) rfl rfl rfl rfl rfl rfl (by rw [IntWalk.i64_in _ (by omega)] <;> omega) ?_
    refine X.nilP rfl rfl rfl rfl rfl ?_
    refine X.fld rfl rfl rfl rfl rfl Try.off64_3 ?_
    refine X.st rfl rfl rfl rfl rfl rfl rfl Try.sz3 hb7 (by simp) ?_
    intro H8 hb8 hk8b
    refine X.done [(0, _), (47, _), (48, _), (49, _), (50, _), (51, _), (59, _), (60, _), (61, _), (62, _), (63, _), (64, _), (65, _), (66, _), (67, _), (68, _), (69, _), (70, _), (71, _), (72, _), (73, _), (74, _), (75, _), (76, _), (77, _), (78, _), (79, _), (52, _), (53, _), (54, _), (55, _), (56, _), (57, _), (58, _)] ⟨rfl, rfl, rfl, rfl, rfl, rfl, rfl, rfl, rfl, rfl, rfl, rfl, rfl, rfl, rfl, rfl, rfl, rfl, rfl, rfl, rfl, rfl, rfl, rfl, rfl, rfl, rfl, rfl, rfl, rfl, rfl, rfl, rfl, rfl, trivial⟩ ?_
    exact N.next (G := fun (m : Nat) => _) (m + 1) ⟨rfl, trivial⟩ ⟨by omega, _, by rw [← Nat.add_assoc, ← hdv8]; exact hb8, ho6.keep (hk7.trans hk8b (by simp)) (fun b hbb h => hs1 (by simp at h; exact h ▸ hbb)), hs1, (hg.trans hg6).trans ((Chg.one hk7).trans (Chg.one hk8b))⟩ (by show len + n - 8 * (len / 8 + (m + 1)) < len + n - 8 * (len / 8 + m); omega)
  · refine E.exit ?_
    refine N.thenX ?_
    refine N.loopX ?_
    refine N.blkX ?_
    refine N.then ?_
    refine E.seq ?_
    refine E.region ?_
    refine X.asg rfl rfl rfl rfl rfl ?_
    refine X.done [(6, _)] ⟨rfl, trivial⟩ ?_
    refine N.then ?_
    refine E.ret ?_
    exact N.retH [_] ⟨_, _, rfl, rfl, rfl⟩ ⟨rfl, _, ⟨by rw [show (len + n) / 8 = len / 8 + m by omega, show (len + n) % 8 = len + n - 8 * (len / 8 + m) by omega]; exact hcl, by rw [show (len + n) / 8 = len / 8 + m by omega]; exact ho, hsep, hX⟩, hg⟩

end Go.Proofs.Ytpengkmmgpoofaa