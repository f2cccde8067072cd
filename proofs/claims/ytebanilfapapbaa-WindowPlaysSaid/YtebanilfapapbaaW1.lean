/- The walks of the window's functions. -/
import Derived.Test.YtebanilfapapbaaFacts
import Derived.Test.YtebanilfapapbaaM
namespace Go.Proofs.Ytebanilfapapbaa
open Go.SX Go.Win
attribute [local irreducible] X E N Ct
set_option linter.unusedVariables false

/-- A window that is there: l is what lies in it. -/
structure Win (H : Heap) (p : Nat) (sv : Value) (l : Bs) : Prop where
  cell : H[p]? = some (.cells [Value.bool true, sv].toArray 45 (0, 0))
  own : Own H 5 1 sv l.length (bv l)
  sep : p ∉ blk sv
theorem Win.keep {H H' : Heap} {p : Nat} {sv : Value} {l : Bs} {S : List Nat} (h : Win H p sv l) (hk : Kp S H H') (hS : ∀ b ∈ p :: blk sv, b ∉ S) : Win H' p sv l :=
  ⟨hk.keep h.cell (hS p (by simp)), h.own.keep hk (fun b hb => hS b (by simp [hb])), h.sep⟩
theorem Win.lt {H : Heap} {p : Nat} {sv : Value} {l : Bs} (h : Win H p sv l) : ∀ b ∈ p :: blk sv, b < H.size := by
  intro b hb
  rcases List.mem_cons.1 hb with rfl | hb
  · exact lt_of h.cell
  · exact h.own.lt b hb
/-- What turns in a window: its own blocks, and new ones. -/
def Chg (p : Nat) (sv : Value) (H H' : Heap) (sv' : Value) : Prop := Kp (p :: blk sv) H H' ∧ ∀ b ∈ blk sv', b ∈ blk sv ∨ H.size ≤ b
theorem Chg.refl (p : Nat) (sv : Value) (H : Heap) : Chg p sv H H sv := ⟨Kp.refl _ _, fun b hb => .inl hb⟩
theorem Chg.trans {p : Nat} {s0 s1 s2 : Value} {A B C : Heap} (h : Chg p s0 A B s1) (k : Chg p s1 B C s2) : Chg p s0 A C s2 := by
  refine ⟨h.1.trans k.1 (fun b hb => ?_), fun b hb => ?_⟩
  · rcases List.mem_cons.1 hb with rfl | hb
    · exact .inl (by simp)
    · rcases h.2 b hb with h1 | h1
      · exact .inl (by simp [h1])
      · exact .inr h1
  · rcases k.2 b hb with h1 | h1
    · exact h.2 b h1
    · exact .inr (Nat.le_trans h.1.size h1)
theorem T9 : AppT Try.prog 43 9 5 1 1 (.int .u8 0) := ⟨Try.underlying43, Try.zi5_43, rfl, by decide⟩
theorem T43 : AppT Try.prog 43 43 5 1 1 (.int .u8 0) := ⟨Try.underlying43, Try.zi5_43, rfl, by decide⟩
theorem srcS (H : Heap) (s : Bs) : SrcH H 1 (.string ⟨s.toArray⟩) s.length (bv s) := .inr ⟨rfl, s, rfl, rfl, rfl⟩
abbrev ptr (p : Nat) : Value := .pointer (some ⟨p, 0, none⟩)
abbrev str (s : Bs) : Value := .string ⟨s.toArray⟩
/-- A slice's header is laid into the window. -/
theorem Win.stored {A B C : Heap} {p : Nat} {s0 s1 : Value} {l l1 : Bs} (hW : Win A p s0 l) (ho : Own B 5 1 s1 l1.length (bv l1)) (hk : Kp (blk s0) A B) (hb : ∀ b ∈ blk s1, b ∈ blk s0 ∨ A.size ≤ b)
    (hc : C[p]? = some (.cells [Value.bool true, s1].toArray 45 (0, 0))) (hk2 : Kp [p] B C) : Win C p s1 l1 ∧ Chg p s0 A C s1 := by
  have hs : p ∉ blk s1 := fun h => (hb p h).elim hW.sep (fun h => by have := lt_of hW.cell; omega)
  refine ⟨⟨hc, ho.keep hk2 (fun b hbb h => hs (by simp at h; exact h ▸ hbb)), hs⟩, (hk.mono (T := p :: blk s0) (fun b h => .inl (by simp [h]))).trans hk2 (by simp), hb⟩

theorem there_ct (p : Nat) (sv : Value) (l : Bs) (H : Heap) (hW : Win H p sv l) : Ct Try.prog 20 #[ptr p] H fun v H' => v = .bool true ∧ H' = H := by
  refine Ct.into 11 Try.func20 rfl [(0, ptr p)] rfl ⟨rfl, trivial⟩ ?_
  refine E.seq ?_
  refine E.region ?_
  refine X.asg rfl rfl rfl rfl rfl ?_
  refine X.done [(0, _), (2, _)] ⟨rfl, rfl, trivial⟩ ?_
  refine N.then ?_
  refine E.seq ?_
  refine E.region ?_
  refine X.mv rfl rfl rfl rfl rfl ?_
  refine X.neqP1 rfl rfl rfl rfl rfl rfl Try.underlying23 ?_
  refine X.mv rfl rfl rfl rfl rfl ?_
  refine X.mv rfl rfl rfl rfl rfl ?_
  refine X.nilP rfl rfl rfl rfl rfl ?_
  refine X.fld rfl rfl rfl rfl rfl Try.off45_0 ?_
  refine X.ld rfl rfl rfl rfl Try.ag4 (hW.cell) (rfl) ?_
  refine X.pickT rfl rfl rfl rfl rfl rfl ?_
  refine X.asg rfl rfl rfl rfl rfl ?_
  refine X.done [(2, _)] ⟨rfl, trivial⟩ ?_
  refine N.then ?_
  refine E.ret ?_
  exact N.retH [_] ⟨_, _, rfl, rfl, rfl⟩ ⟨rfl, rfl⟩

theorem there0_ct (p : Nat) (sv : Value) (H : Heap) (hW : H[p]? = some (.cells [Value.bool false, sv].toArray 45 (0, 0))) : Ct Try.prog 20 #[ptr p] H fun v H' => v = .bool false ∧ H' = H := by
  refine Ct.into 11 Try.func20 rfl [(0, ptr p)] rfl ⟨rfl, trivial⟩ ?_
  refine E.seq ?_
  refine E.region ?_
  refine X.asg rfl rfl rfl rfl rfl ?_
  refine X.done [(0, _), (2, _)] ⟨rfl, rfl, trivial⟩ ?_
  refine N.then ?_
  refine E.seq ?_
  refine E.region ?_
  refine X.mv rfl rfl rfl rfl rfl ?_
  refine X.neqP1 rfl rfl rfl rfl rfl rfl Try.underlying23 ?_
  refine X.mv rfl rfl rfl rfl rfl ?_
  refine X.mv rfl rfl rfl rfl rfl ?_
  refine X.nilP rfl rfl rfl rfl rfl ?_
  refine X.fld rfl rfl rfl rfl rfl Try.off45_0 ?_
  refine X.ld rfl rfl rfl rfl Try.ag4 (hW) (rfl) ?_
  refine X.pickT rfl rfl rfl rfl rfl rfl ?_
  refine X.asg rfl rfl rfl rfl rfl ?_
  refine X.done [(2, _)] ⟨rfl, trivial⟩ ?_
  refine N.then ?_
  refine E.ret ?_
  exact N.retH [_] ⟨_, _, rfl, rfl, rfl⟩ ⟨rfl, rfl⟩

theorem thereN_ct (H : Heap) : Ct Try.prog 20 #[.pointer none] H fun v H' => v = .bool false ∧ H' = H := by
  refine Ct.into 11 Try.func20 rfl [(0, .pointer none)] rfl ⟨rfl, trivial⟩ ?_
  refine E.seq ?_
  refine E.region ?_
  refine X.asg rfl rfl rfl rfl rfl ?_
  refine X.done [(0, _), (2, _)] ⟨rfl, rfl, trivial⟩ ?_
  refine N.then ?_
  refine E.seq ?_
  refine E.region ?_
  refine X.mv rfl rfl rfl rfl rfl ?_
  refine X.neqP0 rfl rfl rfl rfl rfl rfl Try.underlying23 ?_
  refine X.mv rfl rfl rfl rfl rfl ?_
  refine X.skip rfl rfl rfl ?_
  refine X.skip rfl rfl rfl ?_
  refine X.skip rfl rfl rfl ?_
  refine X.skip rfl rfl rfl ?_
  refine X.pickF rfl rfl rfl rfl rfl rfl ?_
  refine X.asg rfl rfl rfl rfl rfl ?_
  refine X.done [(2, _)] ⟨rfl, trivial⟩ ?_
  refine N.then ?_
  refine E.ret ?_
  exact N.retH [_] ⟨_, _, rfl, rfl, rfl⟩ ⟨rfl, rfl⟩

theorem len_ct (p : Nat) (sv : Value) (l : Bs) (H : Heap) (hW : Win H p sv l) : Ct Try.prog 12 #[ptr p] H fun v H' => v = .int .i64 (min l.length 32768 : Nat) ∧ H' = H := by
  obtain ⟨sa, sc, rfl⟩ := hW.own.len
  refine Ct.into 12 Try.func12 rfl [(0, ptr p)] rfl ⟨rfl, trivial⟩ ?_
  refine E.seq ?_
  refine E.region ?_
  refine X.asg rfl rfl rfl rfl rfl ?_
  refine X.done [(0, _), (2, _)] ⟨rfl, rfl, trivial⟩ ?_
  refine N.then ?_
  refine E.seq ?_
  refine E.seq ?_
  refine E.region ?_
  refine X.mv rfl rfl rfl rfl rfl ?_
  refine X.call rfl rfl rfl rfl rfl Try.cl20 (there_ct p _ l H hW) ?_
  rintro _ H1 ⟨rfl, eH1⟩
  obtain rfl := eH1.symm
  refine X.notT rfl rfl rfl rfl rfl ?_
  refine X.done [(0, _), (2, _), (5, _)] ⟨rfl, rfl, rfl, trivial⟩ ?_
  refine N.then ?_
  refine E.condF rfl ?_
  refine E.skip ?_
  refine N.then ?_
  refine E.seq ?_
  refine E.region ?_
  refine X.mv rfl rfl rfl rfl rfl ?_
  refine X.nilP rfl rfl rfl rfl rfl ?_
  refine X.fld rfl rfl rfl rfl rfl Try.off45_1 ?_
  refine X.ld rfl rfl rfl rfl Try.ag43 (hW.cell) (rfl) ?_
  refine X.lenS rfl rfl rfl rfl rfl Try.underlying43 ?_
  refine X.mnE (zz := (min l.length 32768 : Nat)) rfl rfl rfl rfl rfl rfl (by split <;> omega) ?_
  refine X.asg rfl rfl rfl rfl rfl ?_
  refine X.done [(2, _)] ⟨rfl, trivial⟩ ?_
  refine N.then ?_
  refine E.ret ?_
  exact N.retH [_] ⟨_, _, rfl, rfl, rfl⟩ ⟨rfl, rfl⟩

theorem lenN_ct (pv : Value) (H : Heap) (hno : Ct Try.prog 20 #[pv] H fun v H' => v = .bool false ∧ H' = H) : Ct Try.prog 12 #[pv] H fun v H' => v = .int .i64 0 ∧ H' = H := by
  refine Ct.into 12 Try.func12 rfl [(0, pv)] rfl ⟨rfl, trivial⟩ ?_
  refine E.seq ?_
  refine E.region ?_
  refine X.asg rfl rfl rfl rfl rfl ?_
  refine X.done [(0, _), (2, _)] ⟨rfl, rfl, trivial⟩ ?_
  refine N.then ?_
  refine E.seq ?_
  refine E.seq ?_
  refine E.region ?_
  refine X.mv rfl rfl rfl rfl rfl ?_
  refine X.call rfl rfl rfl rfl rfl Try.cl20 (hno) ?_
  rintro _ H1 ⟨rfl, eH1⟩
  obtain rfl := eH1.symm
  refine X.notF rfl rfl rfl rfl rfl ?_
  refine X.done [(0, _), (2, _), (5, _)] ⟨rfl, rfl, rfl, trivial⟩ ?_
  refine N.then ?_
  refine E.condT rfl ?_
  refine E.seq ?_
  refine E.region ?_
  refine X.asg rfl rfl rfl rfl rfl ?_
  refine X.done [(0, _), (2, _)] ⟨rfl, rfl, trivial⟩ ?_
  refine N.then ?_
  refine E.ret ?_
  refine N.thenR ?_
  exact N.retH [_] ⟨_, _, rfl, rfl, rfl⟩ ⟨rfl, rfl⟩

theorem trim_small_ct (p : Nat) (sv : Value) (l : Bs) (H : Heap) (hW : Win H p sv l) (hl : l.length ≤ 131072) : Ct Try.prog 21 #[ptr p] H fun v H' => v = .tuple #[] ∧ H' = H := by
  obtain ⟨sa, sc, rfl⟩ := hW.own.len
  refine Ct.into 34 Try.func21 rfl [(0, ptr p)] rfl ⟨rfl, trivial⟩ ?_
  refine E.seq ?_
  refine E.region ?_
  refine X.mv rfl rfl rfl rfl rfl ?_
  refine X.nilP rfl rfl rfl rfl rfl ?_
  refine X.fld rfl rfl rfl rfl rfl Try.off45_1 ?_
  refine X.ld rfl rfl rfl rfl Try.ag43 (hW.cell) (rfl) ?_
  refine X.lenS rfl rfl rfl rfl rfl Try.underlying43 ?_
  refine X.gtrF rfl rfl rfl rfl rfl rfl (by omega) ?_
  refine X.done [(0, _), (8, _)] ⟨rfl, rfl, trivial⟩ ?_
  refine N.then ?_
  refine E.condF rfl ?_
  refine E.skip ?_
  exact N.endH [] rfl ⟨rfl, rfl⟩

theorem trim_big_ct (p : Nat) (sv : Value) (l : Bs) (H : Heap) (hW : Win H p sv l) (hl : 131072 < l.length) : Ct Try.prog 21 #[ptr p] H fun v H' => v = .tuple #[] ∧ ∃ sv', Win H' p sv' (lst 32768 l) ∧ Chg p sv H H' sv' := by
  obtain ⟨sa, sc, rfl⟩ := hW.own.len
  have hcap := hW.own.cap
  have hcx := hcap.2
  simp only [maxLen] at hcx
  refine Ct.into 34 Try.func21 rfl [(0, ptr p)] rfl ⟨rfl, trivial⟩ ?_
  refine E.seq ?_
  refine E.region ?_
  refine X.mv rfl rfl rfl rfl rfl ?_
  refine X.nilP rfl rfl rfl rfl rfl ?_
  refine X.fld rfl rfl rfl rfl rfl Try.off45_1 ?_
  refine X.ld rfl rfl rfl rfl Try.ag43 (hW.cell) (rfl) ?_
  refine X.lenS rfl rfl rfl rfl rfl Try.underlying43 ?_
  refine X.gtrT rfl rfl rfl rfl rfl rfl (by omega) ?_
  refine X.done [(0, _), (8, _)] ⟨rfl, rfl, trivial⟩ ?_
  refine N.then ?_
  refine E.condT rfl ?_
  refine E.seq ?_
  refine E.regionD (fun H' => H'[p]? = some (.cells [Value.bool true, .slice sa l.length sc].toArray 45 (0, 0))) [(0, .pu), (1, .pu), (2, .pu), (3, .st), (4, .pu), (5, .pu), (6, .pu), (7, .st), (8, .pu), (9, .pu), (10, .pu), (11, .st), (12, .pu), (13, .pu), (14, .pu), (15, .mk), (16, .pu)] Try.mixed (by kernel_rfl) (hW.cell) ?_
  refine X.mv rfl rfl rfl rfl rfl ?_
  refine X.nilP rfl rfl rfl rfl rfl ?_
  refine X.fld rfl rfl rfl rfl rfl Try.off45_1 ?_
  refine X.ld rfl rfl rfl rfl Try.ag43 (fun H' hF => hF) (rfl) ?_
  refine X.mv rfl rfl rfl rfl rfl ?_
  refine X.nilP rfl rfl rfl rfl rfl ?_
  refine X.fld rfl rfl rfl rfl rfl Try.off45_1 ?_
  refine X.ld rfl rfl rfl rfl Try.ag43 (fun H' hF => hF) (rfl) ?_
  refine X.mv rfl rfl rfl rfl rfl ?_
  refine X.nilP rfl rfl rfl rfl rfl ?_
  refine X.fld rfl rfl rfl rfl rfl Try.off45_1 ?_
  refine X.ld rfl rfl rfl rfl Try.ag43 (fun H' hF => hF) (rfl) ?_
  refine X.lenS rfl rfl rfl rfl rfl Try.underlying43 ?_
  refine X.sbE (zz := ((l.length - 32768 : Nat) : Int)) rfl rfl rfl rfl rfl rfl (by rw [IntWalk.i64_in _ (by omega)]; omega) ?_
  refine X.sl1 rfl rfl rfl rfl rfl rfl Try.underlying43 Try.sz5 (by omega) ?_
  refine X.cpy Try.underlying43 Try.sz5 rfl rfl rfl rfl rfl rfl (hW.own) (hW.own.rd.drop hcap.1 (by omega)) (fun u hu => bv_one l u (List.mem_of_mem_drop hu)) ?_
  intro H1 ho1 hk1
  have e1 : min (l.length - (((l.length - 32768 : Nat) : Int)).toNat) l.length = 32768 := by omega
  rw [Int.toNat_natCast] at ho1
  have e1 : min (l.length - (l.length - 32768)) l.length = 32768 := by omega
  rw [Int.toNat_natCast, e1]
  rw [e1, Nat.mul_one, bv_drop, bv_take, bv_drop, ← bv_append, List.take_of_length_le (by simp; omega)] at ho1
  have ho2 := ho1.take (q := 32768) (by omega)
  rw [Nat.mul_one, bv_take, List.take_left' (by simp; omega)] at ho2
  have e3 : (l.drop (l.length - 32768)).length = 32768 := by simp; omega
  refine ⟨hk1.keep hW.cell hW.sep, ?_⟩
  refine X.asg rfl rfl rfl rfl rfl ?_
  refine X.done [(0, _), (2, _)] ⟨rfl, rfl, trivial⟩ ?_
  refine N.then ?_
  refine E.region ?_
  refine X.mv rfl rfl rfl rfl rfl ?_
  refine X.mv rfl rfl rfl rfl rfl ?_
  refine X.nilP rfl rfl rfl rfl rfl ?_
  refine X.fld rfl rfl rfl rfl rfl Try.off45_1 ?_
  refine X.ld rfl rfl rfl rfl Try.ag43 (hk1.keep hW.cell hW.sep) (rfl) ?_
  refine X.mv rfl rfl rfl rfl rfl ?_
  refine X.sl2 rfl rfl rfl rfl rfl rfl Try.underlying43 Try.is5 (by omega) ?_
  refine X.nilP rfl rfl rfl rfl rfl ?_
  refine X.fld rfl rfl rfl rfl rfl Try.off45_1 ?_
  refine X.st rfl rfl rfl rfl rfl rfl rfl Try.sz43 (hk1.keep hW.cell hW.sep) (by simp) ?_
  intro H2 hb2 hk2
  refine X.done [] trivial ?_
  exact N.endH [] rfl ⟨rfl, .slice sa 32768 sc, hW.stored (s1 := .slice sa 32768 sc) (l1 := lst 32768 l) (by unfold lst; rw [e3]; exact ho2) hk1 (fun b hb => .inl (by cases sa <;> exact hb)) hb2 hk2⟩


theorem trim_ct (p : Nat) (sv : Value) (l : Bs) (H : Heap) (hW : Win H p sv l) : Ct Try.prog 21 #[ptr p] H fun v H' => v = .tuple #[] ∧ ∃ sv', Win H' p sv' (trimL l) ∧ Chg p sv H H' sv' := by
  by_cases h : 131072 < l.length
  · rw [trimL, if_pos h]; exact trim_big_ct p sv l H hW h
  · rw [trimL, if_neg h]
    exact (trim_small_ct p sv l H hW (by omega)).mono (fun v H' ⟨h1, h2⟩ => by subst h2; exact ⟨h1, sv, hW, Chg.refl _ _ _⟩)

theorem put_ct (p : Nat) (sv : Value) (l : Bs) (H : Heap) (hW : Win H p sv l) (s : Bs) (hl : l.length ≤ 131072) (hs : s.length ≤ 1000000) : Ct Try.prog 14 #[ptr p, str s] H fun v H' => v = .tuple #[] ∧ ∃ sv', Win H' p sv' (trimL (l ++ s)) ∧ Chg p sv H H' sv' := by
  refine Ct.into 17 Try.func14 rfl [(0, ptr p), (1, str s)] rfl ⟨rfl, rfl, trivial⟩ ?_
  refine E.seq ?_
  refine E.region ?_
  refine X.mv rfl rfl rfl rfl rfl ?_
  refine X.call rfl rfl rfl rfl rfl Try.cl20 (there_ct p _ l H hW) ?_
  rintro _ H1 ⟨rfl, eH1⟩
  obtain rfl := eH1.symm
  refine X.done [(0, _), (1, _), (5, _)] ⟨rfl, rfl, rfl, trivial⟩ ?_
  refine N.then ?_
  refine E.condT rfl ?_
  refine E.seq ?_
  refine E.region ?_
  refine X.mv rfl rfl rfl rfl rfl ?_
  refine X.mv rfl rfl rfl rfl rfl ?_
  refine X.nilP rfl rfl rfl rfl rfl ?_
  refine X.fld rfl rfl rfl rfl rfl Try.off45_1 ?_
  refine X.ld rfl rfl rfl rfl Try.ag43 (hW.cell) (rfl) ?_
  refine X.mv rfl rfl rfl rfl rfl ?_
  refine X.app T9 rfl rfl rfl rfl rfl rfl (hW.own) (srcS _ _) (.inr ⟨Try.underlying9, _, rfl⟩) (bv_one s) (by first | (simp only [maxLen]; omega) | omega) (by first | (simp only [maxLen]; omega) | omega) ?_
  intro v1 H1 ho1 hk1 hb1 hn1
  obtain ⟨a1, c1, rfl⟩ := ho1.len
  rw [← bv_append] at ho1
  have hb1 : ∀ b ∈ blk (.slice a1 (l.length + s.length) c1), b ∈ blk sv ∨ H.size ≤ b := fun b hb => hb1.elim (fun h => .inl (h ▸ hb)) (fun h => .inr (h b hb))
  refine X.nilP rfl rfl rfl rfl rfl ?_
  refine X.fld rfl rfl rfl rfl rfl Try.off45_1 ?_
  refine X.st rfl rfl rfl rfl rfl rfl rfl Try.sz43 (hk1.keep hW.cell hW.sep) (by simp) ?_
  intro H2 hb2 hk2
  obtain ⟨hW2, hg2⟩ := hW.stored (l1 := l ++ s) (by rw [List.length_append]; exact ho1) hk1 hb1 hb2 hk2
  refine X.done [(0, _)] ⟨rfl, trivial⟩ ?_
  refine N.then ?_
  refine E.region ?_
  refine X.mv rfl rfl rfl rfl rfl ?_
  refine X.call rfl rfl rfl rfl rfl Try.cl21 (trim_ct p _ (l ++ s) H2 hW2) ?_
  rintro _ H3 ⟨rfl, sv3, hW3, hg3⟩
  refine X.done [] trivial ?_
  exact N.endH [] rfl ⟨rfl, sv3, hW3, hg2.trans hg3⟩

theorem putN_ct (pv : Value) (H : Heap) (hno : Ct Try.prog 20 #[pv] H fun v H' => v = .bool false ∧ H' = H) (sv : Value) : Ct Try.prog 14 #[pv, sv] H fun v H' => v = .tuple #[] ∧ H' = H := by
  refine Ct.into 17 Try.func14 rfl [(0, pv), (1, sv)] rfl ⟨rfl, rfl, trivial⟩ ?_
  refine E.seq ?_
  refine E.region ?_
  refine X.mv rfl rfl rfl rfl rfl ?_
  refine X.call rfl rfl rfl rfl rfl Try.cl20 (hno) ?_
  rintro _ H1 ⟨rfl, eH1⟩
  obtain rfl := eH1.symm
  refine X.done [(0, _), (1, _), (5, _)] ⟨rfl, rfl, rfl, trivial⟩ ?_
  refine N.then ?_
  refine E.condF rfl ?_
  refine E.skip ?_
  exact N.endH [] rfl ⟨rfl, rfl⟩

theorem new_ct (s : Bs) (H : Heap) (hs : s.length ≤ 1000000) : Ct Try.prog 8 #[str s] H fun v H' => ∃ p sv', v = ptr p ∧ Win H' p sv' (trimL s) ∧ Kp [] H H' ∧ ∀ b ∈ p :: blk sv', H.size ≤ b := by
  refine Ct.into 10 Try.func8 rfl [(0, str s)] rfl ⟨rfl, trivial⟩ ?_
  refine E.seq ?_
  refine E.region ?_
  refine X.asg rfl rfl rfl rfl rfl ?_
  refine X.done [(0, _), (2, _)] ⟨rfl, rfl, trivial⟩ ?_
  refine N.then ?_
  refine E.seq ?_
  refine E.region ?_
  refine X.build (v := .agg ([Value.bool true, .slice none 0 0] : List Value).toArray) rfl rfl rfl rfl rfl (fun _ => by kernel_rfl) ?_
  refine X.box rfl rfl rfl rfl rfl rfl ?_
  intro b5 H5 hn5 hb5 hk5
  refine X.asg rfl rfl rfl rfl rfl ?_
  refine X.done [(0, _), (2, _), (3, _)] ⟨rfl, rfl, rfl, trivial⟩ ?_
  refine N.then ?_
  refine E.seq ?_
  refine E.region ?_
  refine X.mv rfl rfl rfl rfl rfl ?_
  refine X.mv rfl rfl rfl rfl rfl ?_
  refine X.call rfl rfl rfl rfl rfl Try.cl14 (put_ct b5 (.slice none 0 0) [] H5 ⟨hb5, Own.nil _ _ _, by simp [blk]⟩ s (by simp) hs) ?_
  rintro _ H6 ⟨rfl, sv6, hW6, hg6⟩
  refine X.done [(2, _), (3, _)] ⟨rfl, rfl, trivial⟩ ?_
  refine N.then ?_
  refine E.seq ?_
  refine E.region ?_
  refine X.mv rfl rfl rfl rfl rfl ?_
  refine X.asg rfl rfl rfl rfl rfl ?_
  refine X.done [(2, _)] ⟨rfl, trivial⟩ ?_
  refine N.then ?_
  refine E.ret ?_
  exact N.retH [_] ⟨_, _, rfl, rfl, rfl⟩ ⟨b5, sv6, rfl, hW6, hk5.trans hg6.1 (by simp [blk]; exact hn5), fun b hb => by
    rcases List.mem_cons.1 hb with rfl | hb
    · exact hn5
    · rcases hg6.2 b hb with h | h
      · simp [blk] at h
      · exact Nat.le_trans hk5.size h⟩

theorem last_ct (p : Nat) (sv : Value) (l : Bs) (H : Heap) (hW : Win H p sv l) (n : Int) : Ct Try.prog 11 #[ptr p, .int .i64 n] H fun v H' => v = str (lastS n l) ∧ H' = H := by
  obtain ⟨sa, sc, rfl⟩ := hW.own.len
  have hcap := hW.own.cap
  have hcx := hcap.2
  simp only [maxLen] at hcx
  refine Ct.into 28 Try.func11 rfl [(0, ptr p), (1, .int .i64 n)] rfl ⟨rfl, rfl, trivial⟩ ?_
  refine E.seq ?_
  refine E.region ?_
  refine X.asg rfl rfl rfl rfl rfl ?_
  refine X.done [(0, _), (1, _), (4, _)] ⟨rfl, rfl, rfl, trivial⟩ ?_
  refine N.then ?_
  refine E.seq ?_
  refine E.seq ?_
  refine E.region ?_
  refine X.mv rfl rfl rfl rfl rfl ?_
  refine X.call rfl rfl rfl rfl rfl Try.cl20 (there_ct p _ l H hW) ?_
  rintro _ H1 ⟨rfl, eH1⟩
  obtain rfl := eH1.symm
  refine X.notT rfl rfl rfl rfl rfl ?_
  refine X.mv rfl rfl rfl rfl rfl ?_
  refine X.mv rfl rfl rfl rfl rfl ?_
  refine X.lss rfl rfl rfl rfl rfl rfl ?_
  refine X.pickF rfl rfl rfl rfl rfl rfl ?_
  refine X.done [(0, _), (1, _), (4, _), (11, _)] ⟨rfl, rfl, rfl, rfl, trivial⟩ ?_
  refine N.then ?_
  refine E.condD rfl (fun hc => ?_) (fun hc => ?_)
  · refine E.seq ?_
    refine E.region ?_
    refine X.asg rfl rfl rfl rfl rfl ?_
    refine X.done [(0, _), (1, _), (4, _)] ⟨rfl, rfl, rfl, trivial⟩ ?_
    refine N.then ?_
    refine E.ret ?_
    refine N.thenR ?_
    exact N.retH [_] ⟨_, _, rfl, rfl, rfl⟩ ⟨by rw [lastS, if_pos (by omega)]; rfl, rfl⟩
  · refine E.skip ?_
    refine N.then ?_
    refine E.seq ?_
    refine E.regionD (fun H' => Win H' p (.slice sa l.length sc) l) [(0, .pu), (1, .pu), (2, .pu), (3, .st), (4, .pu), (5, .pu), (6, .pu), (7, .st), (8, .pu), (9, .pu), (10, .pu), (11, .mk), (12, .pu), (13, .pu), (14, .pu), (15, .st), (16, .pu)] Try.mixed (by kernel_rfl) (hW) ?_
    refine X.mv rfl rfl rfl rfl rfl ?_
    refine X.nilP rfl rfl rfl rfl rfl ?_
    refine X.fld rfl rfl rfl rfl rfl Try.off45_1 ?_
    refine X.ld rfl rfl rfl rfl Try.ag43 (fun H' hF => hF.cell) (rfl) ?_
    refine X.mv rfl rfl rfl rfl rfl ?_
    refine X.nilP rfl rfl rfl rfl rfl ?_
    refine X.fld rfl rfl rfl rfl rfl Try.off45_1 ?_
    refine X.ld rfl rfl rfl rfl Try.ag43 (fun H' hF => hF.cell) (rfl) ?_
    refine X.lenS rfl rfl rfl rfl rfl Try.underlying43 ?_
    refine X.mv rfl rfl rfl rfl rfl ?_
    refine X.mv rfl rfl rfl rfl rfl ?_
    refine X.call rfl rfl rfl rfl rfl Try.cl12 (len_ct p _ l H hW) ?_
    rintro _ H2 ⟨rfl, eH2⟩
    obtain rfl := eH2.symm
    refine ⟨hW, ?_⟩
    refine X.mnE (zz := ((min n.toNat (min l.length 32768) : Nat) : Int)) rfl rfl rfl rfl rfl rfl (by split <;> omega) ?_
    refine X.sbE (zz := ((l.length - min n.toNat (min l.length 32768) : Nat) : Int)) rfl rfl rfl rfl rfl rfl (by rw [IntWalk.i64_in _ (by omega)]; omega) ?_
    refine X.sl1 rfl rfl rfl rfl rfl rfl Try.underlying43 Try.sz5 (by omega) ?_
    refine X.b2s rfl rfl rfl rfl Try.underlying43 Try.underlying5 Try.underlying9 (fun H' hF => by rw [← bv_drop]; exact hF.own.rd.drop hcap.1 (by omega)) ?_
    refine X.asg rfl rfl rfl rfl rfl ?_
    refine X.done [(4, _)] ⟨rfl, trivial⟩ ?_
    refine N.then ?_
    refine E.ret ?_
    exact N.retH [_] ⟨_, _, rfl, rfl, rfl⟩ ⟨by
      rw [lastS, if_neg (by omega)]
      show str _ = str _
      congr 1
      rw [Nat.mul_one, Int.toNat_natCast, lst]
      congr 1
      omega, rfl⟩

theorem lastN_ct (pv : Value) (H : Heap) (hno : Ct Try.prog 20 #[pv] H fun v H' => v = .bool false ∧ H' = H) (n : Int) : Ct Try.prog 11 #[pv, .int .i64 n] H fun v H' => v = str [] ∧ H' = H := by
  refine Ct.into 28 Try.func11 rfl [(0, pv), (1, .int .i64 n)] rfl ⟨rfl, rfl, trivial⟩ ?_
  refine E.seq ?_
  refine E.region ?_
  refine X.asg rfl rfl rfl rfl rfl ?_
  refine X.done [(0, _), (1, _), (4, _)] ⟨rfl, rfl, rfl, trivial⟩ ?_
  refine N.then ?_
  refine E.seq ?_
  refine E.seq ?_
  refine E.region ?_
  refine X.mv rfl rfl rfl rfl rfl ?_
  refine X.call rfl rfl rfl rfl rfl Try.cl20 (hno) ?_
  rintro _ H1 ⟨rfl, eH1⟩
  obtain rfl := eH1.symm
  refine X.notF rfl rfl rfl rfl rfl ?_
  refine X.mv rfl rfl rfl rfl rfl ?_
  refine X.skip rfl rfl rfl ?_
  refine X.skip rfl rfl rfl ?_
  refine X.pickT rfl rfl rfl rfl rfl rfl ?_
  refine X.done [(0, _), (1, _), (4, _), (11, _)] ⟨rfl, rfl, rfl, rfl, trivial⟩ ?_
  refine N.then ?_
  refine E.condT rfl ?_
  refine E.seq ?_
  refine E.region ?_
  refine X.asg rfl rfl rfl rfl rfl ?_
  refine X.done [(0, _), (1, _), (4, _)] ⟨rfl, rfl, rfl, trivial⟩ ?_
  refine N.then ?_
  refine E.ret ?_
  refine N.thenR ?_
  exact N.retH [_] ⟨_, _, rfl, rfl, rfl⟩ ⟨rfl, rfl⟩

theorem clear_ct (p : Nat) (sv : Value) (l : Bs) (H : Heap) (hW : Win H p sv l) : Ct Try.prog 18 #[ptr p] H fun v H' => v = .tuple #[] ∧ ∃ sv', Win H' p sv' [] ∧ Chg p sv H H' sv' := by
  obtain ⟨sa, sc, rfl⟩ := hW.own.len
  refine Ct.into 16 Try.func18 rfl [(0, ptr p)] rfl ⟨rfl, trivial⟩ ?_
  refine E.seq ?_
  refine E.region ?_
  refine X.mv rfl rfl rfl rfl rfl ?_
  refine X.call rfl rfl rfl rfl rfl Try.cl20 (there_ct p _ l H hW) ?_
  rintro _ H1 ⟨rfl, eH1⟩
  obtain rfl := eH1.symm
  refine X.done [(0, _), (3, _)] ⟨rfl, rfl, trivial⟩ ?_
  refine N.then ?_
  refine E.condT rfl ?_
  refine E.seq ?_
  refine E.region ?_
  refine X.mv rfl rfl rfl rfl rfl ?_
  refine X.nilP rfl rfl rfl rfl rfl ?_
  refine X.fld rfl rfl rfl rfl rfl Try.off45_1 ?_
  refine X.ld rfl rfl rfl rfl Try.ag43 (hW.cell) (rfl) ?_
  refine X.clr (zv := .int .u8 0) Try.underlying43 (by kernel_rfl) rfl rfl rfl rfl rfl rfl rfl (hW.own) ?_
  intro H1 ho1 hk1
  have ho2 := ho1.take (q := 0) (by omega)
  refine X.done [(0, _)] ⟨rfl, trivial⟩ ?_
  refine N.then ?_
  refine E.region ?_
  refine X.mv rfl rfl rfl rfl rfl ?_
  refine X.mv rfl rfl rfl rfl rfl ?_
  refine X.nilP rfl rfl rfl rfl rfl ?_
  refine X.fld rfl rfl rfl rfl rfl Try.off45_1 ?_
  refine X.ld rfl rfl rfl rfl Try.ag43 (hk1.keep hW.cell hW.sep) (rfl) ?_
  refine X.sl2 rfl rfl rfl rfl rfl rfl Try.underlying43 Try.is5 (by omega) ?_
  refine X.nilP rfl rfl rfl rfl rfl ?_
  refine X.fld rfl rfl rfl rfl rfl Try.off45_1 ?_
  refine X.st rfl rfl rfl rfl rfl rfl rfl Try.sz43 (hk1.keep hW.cell hW.sep) (by simp) ?_
  intro H2 hb2 hk2
  refine X.done [] trivial ?_
  exact N.endH [] rfl ⟨rfl, _, hW.stored (l1 := []) ho2 hk1 (fun b hb => .inl (by cases sa <;> exact hb)) hb2 hk2⟩

theorem clearN_ct (pv : Value) (H : Heap) (hno : Ct Try.prog 20 #[pv] H fun v H' => v = .bool false ∧ H' = H) : Ct Try.prog 18 #[pv] H fun v H' => v = .tuple #[] ∧ H' = H := by
  refine Ct.into 16 Try.func18 rfl [(0, pv)] rfl ⟨rfl, trivial⟩ ?_
  refine E.seq ?_
  refine E.region ?_
  refine X.mv rfl rfl rfl rfl rfl ?_
  refine X.call rfl rfl rfl rfl rfl Try.cl20 (hno) ?_
  rintro _ H1 ⟨rfl, eH1⟩
  obtain rfl := eH1.symm
  refine X.done [(0, _), (3, _)] ⟨rfl, rfl, trivial⟩ ?_
  refine N.then ?_
  refine E.condF rfl ?_
  refine E.skip ?_
  exact N.endH [] rfl ⟨rfl, rfl⟩

theorem twin_ct (p : Nat) (sv : Value) (l : Bs) (H : Heap) (hW : Win H p sv l) : Ct Try.prog 19 #[ptr p] H fun v H' => ∃ p' sv', v = ptr p' ∧ Win H' p' sv' (trimL (lastS 32768 l)) ∧ Kp [] H H' ∧ ∀ b ∈ p' :: blk sv', H.size ≤ b := by
  refine Ct.into 9 Try.func19 rfl [(0, ptr p)] rfl ⟨rfl, trivial⟩ ?_
  refine E.seq ?_
  refine E.region ?_
  refine X.asg rfl rfl rfl rfl rfl ?_
  refine X.done [(0, _), (2, _)] ⟨rfl, rfl, trivial⟩ ?_
  refine N.then ?_
  refine E.seq ?_
  refine E.seq ?_
  refine E.region ?_
  refine X.mv rfl rfl rfl rfl rfl ?_
  refine X.call rfl rfl rfl rfl rfl Try.cl20 (there_ct p _ l H hW) ?_
  rintro _ H1 ⟨rfl, eH1⟩
  obtain rfl := eH1.symm
  refine X.notT rfl rfl rfl rfl rfl ?_
  refine X.done [(0, _), (2, _), (5, _)] ⟨rfl, rfl, rfl, trivial⟩ ?_
  refine N.then ?_
  refine E.condF rfl ?_
  refine E.skip ?_
  refine N.then ?_
  refine E.seq ?_
  refine E.region ?_
  refine X.mv rfl rfl rfl rfl rfl ?_
  refine X.call rfl rfl rfl rfl rfl Try.cl11 (last_ct p _ l H hW 32768) ?_
  rintro _ H2 ⟨rfl, eH2⟩
  obtain rfl := eH2.symm
  refine X.call rfl rfl rfl rfl rfl Try.cl8 (new_ct (lastS 32768 l) H (by rw [lastS, if_neg (by omega), lst_len]; omega)) ?_
  rintro _ H3 ⟨p3, sv3, rfl, hW3, hk3, hf3⟩
  refine X.asg rfl rfl rfl rfl rfl ?_
  refine X.done [(2, _)] ⟨rfl, trivial⟩ ?_
  refine N.then ?_
  refine E.ret ?_
  exact N.retH [_] ⟨_, _, rfl, rfl, rfl⟩ ⟨p3, sv3, rfl, hW3, hk3, hf3⟩

theorem twinN_ct (pv : Value) (H : Heap) (hno : Ct Try.prog 20 #[pv] H fun v H' => v = .bool false ∧ H' = H) : Ct Try.prog 19 #[pv] H fun v H' => v = .pointer none ∧ H' = H := by
  refine Ct.into 9 Try.func19 rfl [(0, pv)] rfl ⟨rfl, trivial⟩ ?_
  refine E.seq ?_
  refine E.region ?_
  refine X.asg rfl rfl rfl rfl rfl ?_
  refine X.done [(0, _), (2, _)] ⟨rfl, rfl, trivial⟩ ?_
  refine N.then ?_
  refine E.seq ?_
  refine E.seq ?_
  refine E.region ?_
  refine X.mv rfl rfl rfl rfl rfl ?_
  refine X.call rfl rfl rfl rfl rfl Try.cl20 (hno) ?_
  rintro _ H1 ⟨rfl, eH1⟩
  obtain rfl := eH1.symm
  refine X.notF rfl rfl rfl rfl rfl ?_
  refine X.done [(0, _), (2, _), (5, _)] ⟨rfl, rfl, rfl, trivial⟩ ?_
  refine N.then ?_
  refine E.condT rfl ?_
  refine E.seq ?_
  refine E.region ?_
  refine X.asg rfl rfl rfl rfl rfl ?_
  refine X.done [(0, _), (2, _)] ⟨rfl, rfl, trivial⟩ ?_
  refine N.then ?_
  refine E.ret ?_
  refine N.thenR ?_
  exact N.retH [_] ⟨_, _, rfl, rfl, rfl⟩ ⟨rfl, rfl⟩

end Go.Proofs.Ytebanilfapapbaa