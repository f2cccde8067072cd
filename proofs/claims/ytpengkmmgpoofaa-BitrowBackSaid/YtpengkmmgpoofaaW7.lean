/- The law of what is written. -/
import Derived.Test.YtpengkmmgpoofaaW6
namespace Go.Proofs.Ytpengkmmgpoofaa
open Go.SX Go.Bit
attribute [local irreducible] X E N Ct digs
set_option linter.unusedVariables false

structure OpA where
  k : Int
  v : Int
  n : Int
  s : Bs
abbrev opa (x : OpA) : List Value := [i64 x.k, i64 x.v, i64 x.n, str x.s]
theorem opa_len (x : OpA) : (opa x).length = 4 := rfl
structure SW (H0 H : Heap) (p : Nat) (sv : Value) (r : Nat) (wv : Value) (x len : Nat) : Prop where
  wm : WM H0 H p sv x len
  rw : RefW H r wv x len
  apart : ∀ b ∈ r :: blk wv, b ∉ p :: blk sv
  newr : ∀ b ∈ r :: blk wv, H0.size ≤ b
theorem SW.refB {H0 A B : Heap} {p : Nat} {sv : Value} {r : Nat} {wv sv' : Value} {x len : Nat} (h : SW H0 A p sv r wv x len) (hg : Chg p sv A B sv') : RefW B r wv x len := h.rw.keep hg.1 h.apart
theorem SW.both {H0 A B C : Heap} {p : Nat} {sv : Value} {r : Nat} {wv sv' wv' : Value} {x len x2 len2 : Nat} (h : SW H0 A p sv r wv x len) (h1 : Wr B p sv' x2 len2) (g1 : Chg p sv A B sv') (h2 : RefW C r wv' x2 len2) (g2 : Chg r wv B C wv') : SW H0 C p sv' r wv' x2 len2 := by
  have hA := h.rw.blks
  have hB := h1.blks
  have ap : ∀ b ∈ r :: blk wv, b ∉ p :: blk sv' := fun b hb hp => by
    rcases List.mem_cons.1 hp with rfl | hp
    · exact h.apart _ hb (by simp)
    · rcases g1.2 b hp with h3 | h3
      · exact h.apart b hb (by simp [h3])
      · have := hA b hb; omega
  have m1 := h.wm.step h1 g1
  refine ⟨⟨h1.keep g2.1 (fun b hb hr => ap b hr hb), m1.kp.trans g2.1 (fun b hb => .inr (h.newr b hb)), m1.new⟩, h2, fun b hb hp => ?_, fun b hb => ?_⟩
  · rcases List.mem_cons.1 hb with rfl | hb
    · exact ap _ (by simp) hp
    · rcases g2.2 b hb with h3 | h3
      · exact ap b (by simp [h3]) hp
      · have := hB b hp; omega
  · rcases List.mem_cons.1 hb with rfl | hb
    · exact h.newr _ (by simp)
    · rcases g2.2 b hb with h3 | h3
      · exact h.newr b (by simp [h3])
      · exact Nat.le_trans m1.kp.size h3
theorem SW.keepN {H0 A B : Heap} {p : Nat} {sv : Value} {r : Nat} {wv : Value} {x len : Nat} (h : SW H0 A p sv r wv x len) (hk : Kp [] A B) : SW H0 B p sv r wv x len :=
  ⟨h.wm.keep hk (by simp) (by simp), h.rw.keep hk (by simp), h.apart, h.newr⟩

theorem writes_ct (a : Option Addr) (c : Nat) (xs : List OpA) (H : Heap) (hS : Rd H 4 (.slice a xs.length c) xs.length (xs.flatMap opa)) (hcx : xs.length ≤ c ∧ c ≤ maxLen) : Ct Try.prog 6 #[.slice a xs.length c] H fun v H' => v = .bool true ∧ Kp [] H H' := by
  have hcm := hcx.2
  simp only [maxLen] at hcm
  refine Ct.into 92 Try.func6 rfl [(0, .slice a xs.length c)] rfl ⟨rfl, trivial⟩ ?_
  refine E.seq ?_
  refine E.region ?_
  refine X.asg rfl rfl rfl rfl rfl ?_
  refine X.done [(0, _), (2, _)] ⟨rfl, rfl, trivial⟩ ?_
  refine N.then ?_
  refine E.seq ?_
  refine E.region ?_
  refine X.call rfl rfl rfl rfl rfl Try.cl12 (open_ct H) ?_
  rintro _ H1 ⟨p, rfl, hp1, hW1, hk1⟩
  refine X.asg rfl rfl rfl rfl rfl ?_
  refine X.done [(0, _), (2, _), (3, _)] ⟨rfl, rfl, rfl, trivial⟩ ?_
  refine N.then ?_
  refine E.seq ?_
  refine E.seq ?_
  refine E.region ?_
  refine X.mv rfl rfl rfl rfl rfl ?_
  refine X.eqlP1 rfl rfl rfl rfl rfl rfl Try.underlying27 ?_
  refine X.done [(0, _), (2, _), (3, _), (9, _)] ⟨rfl, rfl, rfl, rfl, trivial⟩ ?_
  refine N.then ?_
  refine E.condF rfl ?_
  refine E.skip ?_
  refine N.then ?_
  refine E.seq ?_
  refine E.region ?_
  refine X.build (v := .agg ([Value.slice none 0 0] : List Value).toArray) rfl rfl rfl rfl rfl (fun _ => by kernel_rfl) ?_
  refine X.box rfl rfl rfl rfl rfl rfl ?_
  intro r H2 hn2 hb2 hk2
  have S2 : SW H H2 p (.slice none 0 0) r (.slice none 0 0) 0 0 := by
    refine ⟨⟨hW1.keep hk2 (by simp), hk1.trans hk2 (by simp), by simp [blk]; exact hp1⟩, ⟨hb2, Own.nil _ _ _, by simp [blk]⟩, ?_, ?_⟩
    · simp [blk]; exact (ne_of_ge hW1.cell hn2).symm
    · simp [blk]; exact Nat.le_trans hk1.size hn2
  refine X.asg rfl rfl rfl rfl rfl ?_
  refine X.done [(0, _), (2, _), (3, _), (4, _)] ⟨rfl, rfl, rfl, rfl, trivial⟩ ?_
  refine N.then ?_
  refine E.seq ?_
  refine E.seq ?_
  refine E.region ?_
  refine X.asg rfl rfl rfl rfl rfl ?_
  refine X.done [(0, _), (2, _), (3, _), (4, _), (5, _)] ⟨rfl, rfl, rfl, rfl, rfl, trivial⟩ ?_
  refine N.then ?_
  refine E.block ?_
  refine E.loop (fun (i : Nat) => [(0, .slice a xs.length c), (2, .bool false), (3, ptr p), (4, ptr r), (5, i64 i)]) (fun (i : Nat) H' => i ≤ xs.length ∧ i ≤ 80 ∧ ∃ sv wv x L, SW H H' p sv r wv x L ∧ L ≤ 1700 * i) (fun (i : Nat) => xs.length - i) 0 ⟨rfl, rfl, rfl, rfl, rfl, trivial⟩ ⟨Nat.zero_le _, by omega, _, _, _, _, S2, by omega⟩ ?_
  rintro i H3 ⟨hi, hi80, sv, wv, x, L, S3, hL⟩
  have hL8 : L ≤ 1700 * (i + 1) := by omega
  have hL9 : L + 1632 ≤ 1700 * (i + 1) := by omega
  have hL7 : L + 32 ≤ L + 1632 := by omega
  have hLm : 1700 * (i + 1) ≤ 200000 ∨ 80 ≤ i := by omega
  refine E.seq ?_
  refine E.seq ?_
  refine E.region ?_
  refine X.mv rfl rfl rfl rfl rfl ?_
  refine X.mv rfl rfl rfl rfl rfl ?_
  refine X.lenS rfl rfl rfl rfl rfl Try.underlying26 ?_
  refine X.lssC rfl rfl rfl rfl rfl rfl (fun hc => ?_) (fun hc => ?_)
  · refine X.mv rfl rfl rfl rfl rfl ?_
    refine X.mv rfl rfl rfl rfl rfl ?_
    refine X.lss rfl rfl rfl rfl rfl rfl ?_
    refine X.pickT rfl rfl rfl rfl rfl rfl ?_
    refine X.done [(0, _), (2, _), (3, _), (4, _), (5, _), (12, _), (13, _), (14, _), (15, _), (16, _), (17, _), (18, _), (19, _)] ⟨rfl, rfl, rfl, rfl, rfl, rfl, rfl, rfl, rfl, rfl, rfl, rfl, rfl, trivial⟩ ?_
    refine N.then ?_
    refine E.condD rfl (fun hc => ?_) (fun hc => ?_)
    · refine E.skip ?_
      refine N.then ?_
      refine E.seq ?_
      refine E.block ?_
      refine E.seq ?_
      obtain ⟨y, hy⟩ : ∃ y, xs[i]? = some y := ⟨_, List.getElem?_eq_getElem (by omega)⟩
      obtain ⟨bb, oo, cc, cs, ct, fz, hv, hbb, hel⟩ := (hS.keep S3.wm.kp (by simp)).get opa_len hy (by decide)
      obtain ⟨rfl, _, rfl⟩ := Value.slice.inj hv
      refine E.region ?_
      refine X.mv rfl rfl rfl rfl rfl ?_
      refine X.mv rfl rfl rfl rfl rfl ?_
      refine X.ixA rfl rfl rfl rfl rfl rfl Try.underlying26 Try.sz31 (by omega) ?_
      refine X.ldA rfl rfl rfl rfl Try.ag31 Try.sz31 (hbb) (vs := opa y) rfl (fun j v hj => hel j v hj) ?_
      refine X.alloc (z := .agg ([.int .i64 0, .int .i64 0, .int .i64 0, .string ⟨#[]⟩] : List Value).toArray) (cs := [.int .i64 0, .int .i64 0, .int .i64 0, .string ⟨#[]⟩]) rfl rfl rfl rfl (by kernel_rfl) rfl ?_
      intro b6 H7 hn6 hb7 hk7
      refine X.stA rfl rfl rfl rfl rfl rfl (by simp [opa, Value.oneCell']) Try.sz31 hb7 (by simp) ?_
      intro H8 h8 hk8
      have h8 : H8[b6]? = some (.cells (opa y).toArray 31 (0, 0)) := h8
      have hn8 : b6 ∉ p :: blk sv ∧ b6 ∉ r :: blk wv := ⟨fun h => by have := S3.wm.wr.blks _ h; omega, fun h => by have := S3.rw.blks _ h; omega⟩
      have S7 := S3.keepN hk7
      have S8 : SW H H8 p sv r wv x L := ⟨S7.wm.keep hk8 (fun b hb h => hn8.1 (by simp at h; exact h ▸ hb)) (by simp; exact Nat.le_trans S3.wm.kp.size hn6), S7.rw.keep hk8 (fun b hb h => hn8.2 (by simp at h; exact h ▸ hb)), S7.apart, S7.newr⟩
      refine X.done [(0, _), (2, _), (3, _), (4, _), (5, _), (12, _), (13, _), (14, _), (15, _), (16, _), (17, _), (18, _), (19, _), (22, _), (23, _), (24, _), (25, _), (6, _)] ⟨rfl, rfl, rfl, rfl, rfl, rfl, rfl, rfl, rfl, rfl, rfl, rfl, rfl, rfl, rfl, rfl, rfl, rfl, trivial⟩ ?_
      refine N.then ?_
      refine E.seq ?_
      refine E.seq ?_
      refine E.region ?_
      refine X.fld rfl rfl rfl rfl rfl Try.off31_3 ?_
      refine X.ld rfl rfl rfl rfl Try.ag9 (h8) (rfl) ?_
      refine X.lenL rfl rfl rfl rfl rfl Try.underlying9 ?_
      refine X.gtr rfl rfl rfl rfl rfl rfl ?_
      refine X.done [(0, _), (2, _), (3, _), (4, _), (5, _), (12, _), (13, _), (14, _), (15, _), (16, _), (17, _), (18, _), (19, _), (22, _), (23, _), (24, _), (25, _), (6, _), (26, _), (27, _), (28, _), (29, _)] ⟨rfl, rfl, rfl, rfl, rfl, rfl, rfl, rfl, rfl, rfl, rfl, rfl, rfl, rfl, rfl, rfl, rfl, rfl, rfl, rfl, rfl, rfl, trivial⟩ ?_
      refine N.then ?_
      refine E.condD rfl (fun hc => ?_) (fun hc => ?_)
      · refine E.exit ?_
        refine N.thenX ?_
        refine N.blkX ?_
        refine N.then ?_
        refine E.region ?_
        refine X.mv rfl rfl rfl rfl rfl ?_
        refine X.add rfl rfl rfl rfl rfl rfl (by omega) ?_
        refine X.asg rfl rfl rfl rfl rfl ?_
        refine X.done [(0, _), (2, _), (3, _), (4, _), (5, _), (12, _), (13, _), (14, _), (15, _), (16, _), (17, _), (18, _), (19, _), (22, _), (23, _), (24, _), (25, _), (6, _), (26, _), (27, _), (28, _), (29, _), (20, _), (21, _)] ⟨rfl, rfl, rfl, rfl, rfl, rfl, rfl, rfl, rfl, rfl, rfl, rfl, rfl, rfl, rfl, rfl, rfl, rfl, rfl, rfl, rfl, rfl, rfl, rfl, trivial⟩ ?_
        first | exact N.next (G := fun (i : Nat) => _) (i + 1) ⟨rfl, rfl, rfl, rfl, rfl, trivial⟩ ⟨by omega, by omega, _, _, _, _, SG, hLG⟩ (by show xs.length - (i + 1) < xs.length - i; omega) | exact N.next (G := fun (i : Nat) => _) (i + 1) ⟨rfl, rfl, rfl, rfl, rfl, trivial⟩ ⟨by omega, by omega, _, _, _, _, S8, hL8⟩ (by show xs.length - (i + 1) < xs.length - i; omega)
      · refine E.skip ?_
        refine N.then ?_
        refine E.seq ?_
        refine E.seq ?_
        refine E.region ?_
        refine X.fld rfl rfl rfl rfl rfl Try.off31_0 ?_
        refine X.ld rfl rfl rfl rfl Try.ag3 (h8) (rfl) ?_
        refine X.done [(0, _), (2, _), (3, _), (4, _), (5, _), (12, _), (13, _), (14, _), (15, _), (16, _), (17, _), (18, _), (19, _), (22, _), (23, _), (24, _), (25, _), (6, _), (26, _), (27, _), (28, _), (29, _), (30, _), (31, _)] ⟨rfl, rfl, rfl, rfl, rfl, rfl, rfl, rfl, rfl, rfl, rfl, rfl, rfl, rfl, rfl, rfl, rfl, rfl, rfl, rfl, rfl, rfl, rfl, rfl, trivial⟩ ?_
        refine N.then ?_
        refine E.block ?_
        refine E.seq ?_
        refine E.region ?_
        refine X.eql rfl rfl rfl rfl rfl rfl ?_
        refine X.asg rfl rfl rfl rfl rfl ?_
        refine X.done [(0, _), (2, _), (3, _), (4, _), (5, _), (12, _), (13, _), (14, _), (15, _), (16, _), (17, _), (18, _), (19, _), (22, _), (23, _), (24, _), (25, _), (6, _), (26, _), (27, _), (28, _), (29, _), (30, _), (31, _), (41, _), (40, _)] ⟨rfl, rfl, rfl, rfl, rfl, rfl, rfl, rfl, rfl, rfl, rfl, rfl, rfl, rfl, rfl, rfl, rfl, rfl, rfl, rfl, rfl, rfl, rfl, rfl, rfl, rfl, trivial⟩ ?_
        refine N.then ?_
        refine E.condD rfl (fun hc => ?_) (fun hc => ?_)
        · refine E.seq ?_
          refine E.regionD (fun H' => H'[b6]? = some (.cells (opa y).toArray 31 (0, 0))) [(0, .pu), (1, .pu), (2, .st), (3, .pu), (4, .st), (6, .pu), (7, .pu), (8, .st), (9, .pu), (10, .st), (5, .mk), (11, .mk), (12, .pu)] Try.mixed (by kernel_rfl) (h8) ?_
          refine X.mv rfl rfl rfl rfl rfl ?_
          refine X.fld rfl rfl rfl rfl rfl Try.off31_1 ?_
          refine X.ld rfl rfl rfl rfl Try.ag3 (fun H' hF => hF) (rfl) ?_
          refine X.fld rfl rfl rfl rfl rfl Try.off31_2 ?_
          refine X.ld rfl rfl rfl rfl Try.ag3 (fun H' hF => hF) (rfl) ?_
          refine X.mv rfl rfl rfl rfl rfl ?_
          refine X.fld rfl rfl rfl rfl rfl Try.off31_1 ?_
          refine X.ld rfl rfl rfl rfl Try.ag3 (fun H' hF => hF) (rfl) ?_
          refine X.fld rfl rfl rfl rfl rfl Try.off31_2 ?_
          refine X.ld rfl rfl rfl rfl Try.ag3 (fun H' hF => hF) (rfl) ?_
          refine X.call rfl rfl rfl rfl rfl Try.cl13 (put_all p sv x L H8 S8.wm.wr (by omega) y.v y.n) ?_
          rintro _ H10 ⟨rfl, sv10, hW10, hg10⟩
          refine ⟨hg10.1.keep h8 hn8.1, ?_⟩
          refine X.call rfl rfl rfl rfl rfl Try.cl23 (rput_all r wv x L H10 (S8.refB hg10) S8.wm.wr.lt (by omega) y.v y.n) ?_
          rintro _ H11 ⟨rfl, wv11, hW11, hg11⟩
          refine ⟨hg11.1.keep (hg10.1.keep h8 hn8.1) hn8.2, ?_⟩
          have SF := S8.both hW10 hg10 hW11 hg11
          have hLF := putV_lt x L y.v y.n
          refine X.neqF rfl rfl rfl rfl rfl rfl (fun h => h rfl) ?_
          refine X.done [(0, _), (2, _), (3, _), (4, _), (5, _), (12, _), (13, _), (14, _), (15, _), (16, _), (17, _), (18, _), (19, _), (22, _), (23, _), (24, _), (25, _), (6, _), (26, _), (27, _), (28, _), (29, _), (30, _), (31, _), (41, _), (40, _), (42, _), (43, _), (44, _), (45, _), (46, _), (48, _), (49, _), (50, _), (51, _), (52, _), (47, _), (53, _), (54, _)] ⟨rfl, rfl, rfl, rfl, rfl, rfl, rfl, rfl, rfl, rfl, rfl, rfl, rfl, rfl, rfl, rfl, rfl, rfl, rfl, rfl, rfl, rfl, rfl, rfl, rfl, rfl, rfl, rfl, rfl, rfl, rfl, rfl, rfl, rfl, rfl, rfl, rfl, rfl, rfl, trivial⟩ ?_
          refine N.then ?_
          refine E.condF rfl ?_
          refine E.skip ?_
          refine N.blk ?_
          refine N.then ?_
          refine E.seq ?_
          obtain ⟨aF, cF, rfl⟩ := SF.rw.own.len
          have hLG := Nat.le_trans hLF (by first | exact hL9 | exact Nat.le_trans hL7 hL9)
          refine E.regionD (fun H' => H'[r]? = some (.cells [_].toArray 47 (0, 0))) [(0, .pu), (2, .pu), (3, .pu), (4, .pu), (5, .st), (6, .pu), (1, .mk), (7, .pu), (8, .pu), (9, .pu), (11, .pu), (10, .mk), (12, .mk), (13, .pu), (14, .pu)] Try.mixed (by kernel_rfl) (SF.rw.cell) ?_
          refine X.mv rfl rfl rfl rfl rfl ?_
          refine X.mv rfl rfl rfl rfl rfl ?_
          refine X.nilP rfl rfl rfl rfl rfl ?_
          refine X.fld rfl rfl rfl rfl rfl Try.off47_0 ?_
          refine X.ld rfl rfl rfl rfl Try.ag45 (fun H' hF => hF) (rfl) ?_
          refine X.lenS rfl rfl rfl rfl rfl Try.underlying45 ?_
          refine X.call rfl rfl rfl rfl rfl Try.cl20 (wlen_ct _ _ _ _ _ SF.wm.wr (by omega)) ?_
          rintro _ H20 ⟨rfl, eH20⟩
          obtain rfl := eH20.symm
          refine ⟨SF.rw.cell, ?_⟩
          refine X.neqF rfl rfl rfl rfl rfl rfl (fun h => h rfl) ?_
          refine X.mv rfl rfl rfl rfl rfl ?_
          refine X.mv rfl rfl rfl rfl rfl ?_
          refine X.mv rfl rfl rfl rfl rfl ?_
          refine X.call rfl rfl rfl rfl rfl Try.cl16 (text_ct _ _ _ _ _ SF.wm.wr (by omega)) ?_
          rintro _ H21 ⟨rfl, hk21⟩
          refine ⟨hk21.keep SF.rw.cell (by simp), ?_⟩
          have SG := SF.keepN hk21
          refine X.call rfl rfl rfl rfl rfl Try.cl29 (rtext_ct r _ _ _ _ SG.rw SG.wm.wr.lt (by omega)) ?_
          rintro _ H22 ⟨rfl, hk22⟩
          refine ⟨hk22.keep SG.rw.cell (by simp), ?_⟩
          replace SG := SG.keepN hk22
          refine X.neqSF rfl rfl rfl rfl rfl rfl (rfl) ?_
          refine X.pickF rfl rfl rfl rfl rfl rfl ?_
          refine X.done [(0, _), (2, _), (3, _), (4, _), (5, _), (12, _), (13, _), (14, _), (15, _), (16, _), (17, _), (18, _), (19, _), (22, _), (23, _), (24, _), (25, _), (6, _), (26, _), (27, _), (28, _), (29, _), (30, _), (31, _), (41, _), (40, _), (42, _), (43, _), (44, _), (45, _), (46, _), (48, _), (49, _), (50, _), (51, _), (52, _), (47, _), (53, _), (54, _), (76, _), (78, _), (79, _), (80, _), (81, _), (82, _), (77, _), (83, _), (84, _), (85, _), (87, _), (86, _), (88, _), (89, _), (90, _)] ⟨rfl, rfl, rfl, rfl, rfl, rfl, rfl, rfl, rfl, rfl, rfl, rfl, rfl, rfl, rfl, rfl, rfl, rfl, rfl, rfl, rfl, rfl, rfl, rfl, rfl, rfl, rfl, rfl, rfl, rfl, rfl, rfl, rfl, rfl, rfl, rfl, rfl, rfl, rfl, rfl, rfl, rfl, rfl, rfl, rfl, rfl, rfl, rfl, rfl, rfl, rfl, rfl, rfl, rfl, trivial⟩ ?_
          refine N.then ?_
          refine E.condF rfl ?_
          refine E.skip ?_
          refine N.blk ?_
          refine N.then ?_
          refine E.region ?_
          refine X.mv rfl rfl rfl rfl rfl ?_
          refine X.add rfl rfl rfl rfl rfl rfl (by omega) ?_
          refine X.asg rfl rfl rfl rfl rfl ?_
          refine X.done [(0, _), (2, _), (3, _), (4, _), (5, _), (12, _), (13, _), (14, _), (15, _), (16, _), (17, _), (18, _), (19, _), (22, _), (23, _), (24, _), (25, _), (6, _), (26, _), (27, _), (28, _), (29, _), (30, _), (31, _), (41, _), (40, _), (42, _), (43, _), (44, _), (45, _), (46, _), (48, _), (49, _), (50, _), (51, _), (52, _), (47, _), (53, _), (54, _), (76, _), (78, _), (79, _), (80, _), (81, _), (82, _), (77, _), (83, _), (84, _), (85, _), (87, _), (86, _), (88, _), (89, _), (90, _), (20, _), (21, _)] ⟨rfl, rfl, rfl, rfl, rfl, rfl, rfl, rfl, rfl, rfl, rfl, rfl, rfl, rfl, rfl, rfl, rfl, rfl, rfl, rfl, rfl, rfl, rfl, rfl, rfl, rfl, rfl, rfl, rfl, rfl, rfl, rfl, rfl, rfl, rfl, rfl, rfl, rfl, rfl, rfl, rfl, rfl, rfl, rfl, rfl, rfl, rfl, rfl, rfl, rfl, rfl, rfl, rfl, rfl, rfl, rfl, trivial⟩ ?_
          first | exact N.next (G := fun (i : Nat) => _) (i + 1) ⟨rfl, rfl, rfl, rfl, rfl, trivial⟩ ⟨by omega, by omega, _, _, _, _, SG, hLG⟩ (by show xs.length - (i + 1) < xs.length - i; omega) | exact N.next (G := fun (i : Nat) => _) (i + 1) ⟨rfl, rfl, rfl, rfl, rfl, trivial⟩ ⟨by omega, by omega, _, _, _, _, S8, hL8⟩ (by show xs.length - (i + 1) < xs.length - i; omega)
        · refine E.seq ?_
          refine E.region ?_
          refine X.eql rfl rfl rfl rfl rfl rfl ?_
          refine X.asg rfl rfl rfl rfl rfl ?_
          refine X.done [(0, _), (2, _), (3, _), (4, _), (5, _), (12, _), (13, _), (14, _), (15, _), (16, _), (17, _), (18, _), (19, _), (22, _), (23, _), (24, _), (25, _), (6, _), (26, _), (27, _), (28, _), (29, _), (30, _), (31, _), (41, _), (40, _), (56, _), (55, _)] ⟨rfl, rfl, rfl, rfl, rfl, rfl, rfl, rfl, rfl, rfl, rfl, rfl, rfl, rfl, rfl, rfl, rfl, rfl, rfl, rfl, rfl, rfl, rfl, rfl, rfl, rfl, rfl, rfl, trivial⟩ ?_
          refine N.then ?_
          refine E.condD rfl (fun hc => ?_) (fun hc => ?_)
          · refine E.seq ?_
            refine E.regionD (fun H' => H'[b6]? = some (.cells (opa y).toArray 31 (0, 0))) [(0, .pu), (1, .pu), (2, .st), (3, .pu), (4, .st), (6, .pu), (7, .pu), (8, .st), (9, .pu), (10, .st), (5, .mk), (11, .mk), (12, .pu)] Try.mixed (by kernel_rfl) (h8) ?_
            refine X.mv rfl rfl rfl rfl rfl ?_
            refine X.fld rfl rfl rfl rfl rfl Try.off31_1 ?_
            refine X.ld rfl rfl rfl rfl Try.ag3 (fun H' hF => hF) (rfl) ?_
            refine X.fld rfl rfl rfl rfl rfl Try.off31_2 ?_
            refine X.ld rfl rfl rfl rfl Try.ag3 (fun H' hF => hF) (rfl) ?_
            refine X.mv rfl rfl rfl rfl rfl ?_
            refine X.fld rfl rfl rfl rfl rfl Try.off31_1 ?_
            refine X.ld rfl rfl rfl rfl Try.ag3 (fun H' hF => hF) (rfl) ?_
            refine X.fld rfl rfl rfl rfl rfl Try.off31_2 ?_
            refine X.ld rfl rfl rfl rfl Try.ag3 (fun H' hF => hF) (rfl) ?_
            refine X.call rfl rfl rfl rfl rfl Try.cl14 (code_all p sv x L H8 S8.wm.wr (by omega) y.v y.n) ?_
            rintro _ H10 ⟨rfl, sv10, hW10, hg10⟩
            refine ⟨hg10.1.keep h8 hn8.1, ?_⟩
            refine X.call rfl rfl rfl rfl rfl Try.cl24 (rcode_all r wv x L H10 (S8.refB hg10) S8.wm.wr.lt (by omega) y.v y.n) ?_
            rintro _ H11 ⟨rfl, wv11, hW11, hg11⟩
            refine ⟨hg11.1.keep (hg10.1.keep h8 hn8.1) hn8.2, ?_⟩
            have SF := S8.both hW10 hg10 hW11 hg11
            have hLF := codeV_lt x L y.v y.n
            refine X.neqF rfl rfl rfl rfl rfl rfl (fun h => h rfl) ?_
            refine X.done [(0, _), (2, _), (3, _), (4, _), (5, _), (12, _), (13, _), (14, _), (15, _), (16, _), (17, _), (18, _), (19, _), (22, _), (23, _), (24, _), (25, _), (6, _), (26, _), (27, _), (28, _), (29, _), (30, _), (31, _), (41, _), (40, _), (56, _), (55, _), (57, _), (58, _), (59, _), (60, _), (61, _), (63, _), (64, _), (65, _), (66, _), (67, _), (62, _), (68, _), (69, _)] ⟨rfl, rfl, rfl, rfl, rfl, rfl, rfl, rfl, rfl, rfl, rfl, rfl, rfl, rfl, rfl, rfl, rfl, rfl, rfl, rfl, rfl, rfl, rfl, rfl, rfl, rfl, rfl, rfl, rfl, rfl, rfl, rfl, rfl, rfl, rfl, rfl, rfl, rfl, rfl, rfl, rfl, trivial⟩ ?_
            refine N.then ?_
            refine E.condF rfl ?_
            refine E.skip ?_
            refine N.blk ?_
            refine N.then ?_
            refine E.seq ?_
            obtain ⟨aF, cF, rfl⟩ := SF.rw.own.len
            have hLG := Nat.le_trans hLF (by first | exact hL9 | exact Nat.le_trans hL7 hL9)
            refine E.regionD (fun H' => H'[r]? = some (.cells [_].toArray 47 (0, 0))) [(0, .pu), (2, .pu), (3, .pu), (4, .pu), (5, .st), (6, .pu), (1, .mk), (7, .pu), (8, .pu), (9, .pu), (11, .pu), (10, .mk), (12, .mk), (13, .pu), (14, .pu)] Try.mixed (by kernel_rfl) (SF.rw.cell) ?_
            refine X.mv rfl rfl rfl rfl rfl ?_
            refine X.mv rfl rfl rfl rfl rfl ?_
            refine X.nilP rfl rfl rfl rfl rfl ?_
            refine X.fld rfl rfl rfl rfl rfl Try.off47_0 ?_
            refine X.ld rfl rfl rfl rfl Try.ag45 (fun H' hF => hF) (rfl) ?_
            refine X.lenS rfl rfl rfl rfl rfl Try.underlying45 ?_
            refine X.call rfl rfl rfl rfl rfl Try.cl20 (wlen_ct _ _ _ _ _ SF.wm.wr (by omega)) ?_
            rintro _ H20 ⟨rfl, eH20⟩
            obtain rfl := eH20.symm
            refine ⟨SF.rw.cell, ?_⟩
            refine X.neqF rfl rfl rfl rfl rfl rfl (fun h => h rfl) ?_
            refine X.mv rfl rfl rfl rfl rfl ?_
            refine X.mv rfl rfl rfl rfl rfl ?_
            refine X.mv rfl rfl rfl rfl rfl ?_
            refine X.call rfl rfl rfl rfl rfl Try.cl16 (text_ct _ _ _ _ _ SF.wm.wr (by omega)) ?_
            rintro _ H21 ⟨rfl, hk21⟩
            refine ⟨hk21.keep SF.rw.cell (by simp), ?_⟩
            have SG := SF.keepN hk21
            refine X.call rfl rfl rfl rfl rfl Try.cl29 (rtext_ct r _ _ _ _ SG.rw SG.wm.wr.lt (by omega)) ?_
            rintro _ H22 ⟨rfl, hk22⟩
            refine ⟨hk22.keep SG.rw.cell (by simp), ?_⟩
            replace SG := SG.keepN hk22
            refine X.neqSF rfl rfl rfl rfl rfl rfl (rfl) ?_
            refine X.pickF rfl rfl rfl rfl rfl rfl ?_
            refine X.done [(0, _), (2, _), (3, _), (4, _), (5, _), (12, _), (13, _), (14, _), (15, _), (16, _), (17, _), (18, _), (19, _), (22, _), (23, _), (24, _), (25, _), (6, _), (26, _), (27, _), (28, _), (29, _), (30, _), (31, _), (41, _), (40, _), (56, _), (55, _), (57, _), (58, _), (59, _), (60, _), (61, _), (63, _), (64, _), (65, _), (66, _), (67, _), (62, _), (68, _), (69, _), (76, _), (78, _), (79, _), (80, _), (81, _), (82, _), (77, _), (83, _), (84, _), (85, _), (87, _), (86, _), (88, _), (89, _), (90, _)] ⟨rfl, rfl, rfl, rfl, rfl, rfl, rfl, rfl, rfl, rfl, rfl, rfl, rfl, rfl, rfl, rfl, rfl, rfl, rfl, rfl, rfl, rfl, rfl, rfl, rfl, rfl, rfl, rfl, rfl, rfl, rfl, rfl, rfl, rfl, rfl, rfl, rfl, rfl, rfl, rfl, rfl, rfl, rfl, rfl, rfl, rfl, rfl, rfl, rfl, rfl, rfl, rfl, rfl, rfl, rfl, rfl, trivial⟩ ?_
            refine N.then ?_
            refine E.condF rfl ?_
            refine E.skip ?_
            refine N.blk ?_
            refine N.then ?_
            refine E.region ?_
            refine X.mv rfl rfl rfl rfl rfl ?_
            refine X.add rfl rfl rfl rfl rfl rfl (by omega) ?_
            refine X.asg rfl rfl rfl rfl rfl ?_
            refine X.done [(0, _), (2, _), (3, _), (4, _), (5, _), (12, _), (13, _), (14, _), (15, _), (16, _), (17, _), (18, _), (19, _), (22, _), (23, _), (24, _), (25, _), (6, _), (26, _), (27, _), (28, _), (29, _), (30, _), (31, _), (41, _), (40, _), (56, _), (55, _), (57, _), (58, _), (59, _), (60, _), (61, _), (63, _), (64, _), (65, _), (66, _), (67, _), (62, _), (68, _), (69, _), (76, _), (78, _), (79, _), (80, _), (81, _), (82, _), (77, _), (83, _), (84, _), (85, _), (87, _), (86, _), (88, _), (89, _), (90, _), (20, _), (21, _)] ⟨rfl, rfl, rfl, rfl, rfl, rfl, rfl, rfl, rfl, rfl, rfl, rfl, rfl, rfl, rfl, rfl, rfl, rfl, rfl, rfl, rfl, rfl, rfl, rfl, rfl, rfl, rfl, rfl, rfl, rfl, rfl, rfl, rfl, rfl, rfl, rfl, rfl, rfl, rfl, rfl, rfl, rfl, rfl, rfl, rfl, rfl, rfl, rfl, rfl, rfl, rfl, rfl, rfl, rfl, rfl, rfl, rfl, rfl, trivial⟩ ?_
            first | exact N.next (G := fun (i : Nat) => _) (i + 1) ⟨rfl, rfl, rfl, rfl, rfl, trivial⟩ ⟨by omega, by omega, _, _, _, _, SG, hLG⟩ (by show xs.length - (i + 1) < xs.length - i; omega) | exact N.next (G := fun (i : Nat) => _) (i + 1) ⟨rfl, rfl, rfl, rfl, rfl, trivial⟩ ⟨by omega, by omega, _, _, _, _, S8, hL8⟩ (by show xs.length - (i + 1) < xs.length - i; omega)
          · refine E.seq ?_
            refine E.region ?_
            refine X.eql rfl rfl rfl rfl rfl rfl ?_
            refine X.asg rfl rfl rfl rfl rfl ?_
            refine X.done [(0, _), (2, _), (3, _), (4, _), (5, _), (12, _), (13, _), (14, _), (15, _), (16, _), (17, _), (18, _), (19, _), (22, _), (23, _), (24, _), (25, _), (6, _), (26, _), (27, _), (28, _), (29, _), (30, _), (31, _), (41, _), (40, _), (56, _), (55, _), (71, _), (70, _)] ⟨rfl, rfl, rfl, rfl, rfl, rfl, rfl, rfl, rfl, rfl, rfl, rfl, rfl, rfl, rfl, rfl, rfl, rfl, rfl, rfl, rfl, rfl, rfl, rfl, rfl, rfl, rfl, rfl, rfl, rfl, trivial⟩ ?_
            refine N.then ?_
            refine E.condD rfl (fun hc => ?_) (fun hc => ?_)
            · refine E.seq ?_
              refine E.region ?_
              refine X.mv rfl rfl rfl rfl rfl ?_
              refine X.call rfl rfl rfl rfl rfl Try.cl25 (align_ct p sv x L H8 S8.wm.wr (by omega)) ?_
              rintro _ H10 ⟨rfl, sv10, hW10, hg10⟩
              refine X.done [(0, _), (2, _), (3, _), (4, _), (5, _), (12, _), (13, _), (14, _), (15, _), (16, _), (17, _), (18, _), (19, _), (22, _), (23, _), (24, _), (25, _), (6, _), (26, _), (27, _), (28, _), (29, _), (30, _), (31, _), (41, _), (40, _), (56, _), (55, _), (71, _), (70, _), (72, _)] ⟨rfl, rfl, rfl, rfl, rfl, rfl, rfl, rfl, rfl, rfl, rfl, rfl, rfl, rfl, rfl, rfl, rfl, rfl, rfl, rfl, rfl, rfl, rfl, rfl, rfl, rfl, rfl, rfl, rfl, rfl, rfl, trivial⟩ ?_
              refine N.then ?_
              refine E.region ?_
              refine X.mv rfl rfl rfl rfl rfl ?_
              refine X.call rfl rfl rfl rfl rfl Try.cl26 (rwalign_ct r wv x L H10 (S8.refB hg10) S8.wm.wr.lt (by omega)) ?_
              rintro _ H11 ⟨rfl, wv11, hW11, hg11⟩
              have SF := S8.both hW10 hg10 hW11 hg11
              have hLF : 8 * ((L + 7) / 8) ≤ L + 32 := by omega
              refine X.done [(0, _), (2, _), (3, _), (4, _), (5, _), (12, _), (13, _), (14, _), (15, _), (16, _), (17, _), (18, _), (19, _), (22, _), (23, _), (24, _), (25, _), (6, _), (26, _), (27, _), (28, _), (29, _), (30, _), (31, _), (41, _), (40, _), (56, _), (55, _), (71, _), (70, _), (72, _), (74, _)] ⟨rfl, rfl, rfl, rfl, rfl, rfl, rfl, rfl, rfl, rfl, rfl, rfl, rfl, rfl, rfl, rfl, rfl, rfl, rfl, rfl, rfl, rfl, rfl, rfl, rfl, rfl, rfl, rfl, rfl, rfl, rfl, rfl, trivial⟩ ?_
              refine N.blk ?_
              refine N.then ?_
              refine E.seq ?_
              obtain ⟨aF, cF, rfl⟩ := SF.rw.own.len
              have hLG := Nat.le_trans hLF (by first | exact hL9 | exact Nat.le_trans hL7 hL9)
              refine E.regionD (fun H' => H'[r]? = some (.cells [_].toArray 47 (0, 0))) [(0, .pu), (2, .pu), (3, .pu), (4, .pu), (5, .st), (6, .pu), (1, .mk), (7, .pu), (8, .pu), (9, .pu), (11, .pu), (10, .mk), (12, .mk), (13, .pu), (14, .pu)] Try.mixed (by kernel_rfl) (SF.rw.cell) ?_
              refine X.mv rfl rfl rfl rfl rfl ?_
              refine X.mv rfl rfl rfl rfl rfl ?_
              refine X.nilP rfl rfl rfl rfl rfl ?_
              refine X.fld rfl rfl rfl rfl rfl Try.off47_0 ?_
              refine X.ld rfl rfl rfl rfl Try.ag45 (fun H' hF => hF) (rfl) ?_
              refine X.lenS rfl rfl rfl rfl rfl Try.underlying45 ?_
              refine X.call rfl rfl rfl rfl rfl Try.cl20 (wlen_ct _ _ _ _ _ SF.wm.wr (by omega)) ?_
              rintro _ H20 ⟨rfl, eH20⟩
              obtain rfl := eH20.symm
              refine ⟨SF.rw.cell, ?_⟩
              refine X.neqF rfl rfl rfl rfl rfl rfl (fun h => h rfl) ?_
              refine X.mv rfl rfl rfl rfl rfl ?_
              refine X.mv rfl rfl rfl rfl rfl ?_
              refine X.mv rfl rfl rfl rfl rfl ?_
              refine X.call rfl rfl rfl rfl rfl Try.cl16 (text_ct _ _ _ _ _ SF.wm.wr (by omega)) ?_
              rintro _ H21 ⟨rfl, hk21⟩
              refine ⟨hk21.keep SF.rw.cell (by simp), ?_⟩
              have SG := SF.keepN hk21
              refine X.call rfl rfl rfl rfl rfl Try.cl29 (rtext_ct r _ _ _ _ SG.rw SG.wm.wr.lt (by omega)) ?_
              rintro _ H22 ⟨rfl, hk22⟩
              refine ⟨hk22.keep SG.rw.cell (by simp), ?_⟩
              replace SG := SG.keepN hk22
              refine X.neqSF rfl rfl rfl rfl rfl rfl (rfl) ?_
              refine X.pickF rfl rfl rfl rfl rfl rfl ?_
              refine X.done [(0, _), (2, _), (3, _), (4, _), (5, _), (12, _), (13, _), (14, _), (15, _), (16, _), (17, _), (18, _), (19, _), (22, _), (23, _), (24, _), (25, _), (6, _), (26, _), (27, _), (28, _), (29, _), (30, _), (31, _), (41, _), (40, _), (56, _), (55, _), (71, _), (70, _), (72, _), (74, _), (76, _), (78, _), (79, _), (80, _), (81, _), (82, _), (77, _), (83, _), (84, _), (85, _), (87, _), (86, _), (88, _), (89, _), (90, _)] ⟨rfl, rfl, rfl, rfl, rfl, rfl, rfl, rfl, rfl, rfl, rfl, rfl, rfl, rfl, rfl, rfl, rfl, rfl, rfl, rfl, rfl, rfl, rfl, rfl, rfl, rfl, rfl, rfl, rfl, rfl, rfl, rfl, rfl, rfl, rfl, rfl, rfl, rfl, rfl, rfl, rfl, rfl, rfl, rfl, rfl, rfl, rfl, trivial⟩ ?_
              refine N.then ?_
              refine E.condF rfl ?_
              refine E.skip ?_
              refine N.blk ?_
              refine N.then ?_
              refine E.region ?_
              refine X.mv rfl rfl rfl rfl rfl ?_
              refine X.add rfl rfl rfl rfl rfl rfl (by omega) ?_
              refine X.asg rfl rfl rfl rfl rfl ?_
              refine X.done [(0, _), (2, _), (3, _), (4, _), (5, _), (12, _), (13, _), (14, _), (15, _), (16, _), (17, _), (18, _), (19, _), (22, _), (23, _), (24, _), (25, _), (6, _), (26, _), (27, _), (28, _), (29, _), (30, _), (31, _), (41, _), (40, _), (56, _), (55, _), (71, _), (70, _), (72, _), (74, _), (76, _), (78, _), (79, _), (80, _), (81, _), (82, _), (77, _), (83, _), (84, _), (85, _), (87, _), (86, _), (88, _), (89, _), (90, _), (20, _), (21, _)] ⟨rfl, rfl, rfl, rfl, rfl, rfl, rfl, rfl, rfl, rfl, rfl, rfl, rfl, rfl, rfl, rfl, rfl, rfl, rfl, rfl, rfl, rfl, rfl, rfl, rfl, rfl, rfl, rfl, rfl, rfl, rfl, rfl, rfl, rfl, rfl, rfl, rfl, rfl, rfl, rfl, rfl, rfl, rfl, rfl, rfl, rfl, rfl, rfl, rfl, trivial⟩ ?_
              first | exact N.next (G := fun (i : Nat) => _) (i + 1) ⟨rfl, rfl, rfl, rfl, rfl, trivial⟩ ⟨by omega, by omega, _, _, _, _, SG, hLG⟩ (by show xs.length - (i + 1) < xs.length - i; omega) | exact N.next (G := fun (i : Nat) => _) (i + 1) ⟨rfl, rfl, rfl, rfl, rfl, trivial⟩ ⟨by omega, by omega, _, _, _, _, S8, hL8⟩ (by show xs.length - (i + 1) < xs.length - i; omega)
            · refine E.seq ?_
              refine E.region ?_
              refine X.mv rfl rfl rfl rfl rfl ?_
              refine X.fld rfl rfl rfl rfl rfl Try.off31_3 ?_
              refine X.ld rfl rfl rfl rfl Try.ag9 (h8) (rfl) ?_
              refine X.call rfl rfl rfl rfl rfl Try.cl27 (bytes_ct p sv x L H8 S8.wm.wr y.s (by omega) (by omega)) ?_
              rintro _ H10 ⟨rfl, sv10, hW10, hg10⟩
              have h10 := hg10.1.keep h8 hn8.1
              refine X.done [(0, _), (2, _), (3, _), (4, _), (5, _), (12, _), (13, _), (14, _), (15, _), (16, _), (17, _), (18, _), (19, _), (22, _), (23, _), (24, _), (25, _), (6, _), (26, _), (27, _), (28, _), (29, _), (30, _), (31, _), (41, _), (40, _), (56, _), (55, _), (71, _), (70, _), (32, _), (33, _), (34, _)] ⟨rfl, rfl, rfl, rfl, rfl, rfl, rfl, rfl, rfl, rfl, rfl, rfl, rfl, rfl, rfl, rfl, rfl, rfl, rfl, rfl, rfl, rfl, rfl, rfl, rfl, rfl, rfl, rfl, rfl, rfl, rfl, rfl, rfl, trivial⟩ ?_
              refine N.then ?_
              refine E.region ?_
              refine X.mv rfl rfl rfl rfl rfl ?_
              refine X.fld rfl rfl rfl rfl rfl Try.off31_3 ?_
              refine X.ld rfl rfl rfl rfl Try.ag9 (h10) (rfl) ?_
              refine X.call rfl rfl rfl rfl rfl Try.cl28 (rwbytes_ct r wv x L H10 (S8.refB hg10) S8.wm.wr.lt (by omega) y.s (by omega)) ?_
              rintro _ H11 ⟨rfl, wv11, hW11, hg11⟩
              have SF := S8.both hW10 hg10 hW11 hg11
              have hLF : 8 * ((L + 7) / 8) + 8 * y.s.length ≤ L + 1632 := by omega
              refine X.done [(0, _), (2, _), (3, _), (4, _), (5, _), (12, _), (13, _), (14, _), (15, _), (16, _), (17, _), (18, _), (19, _), (22, _), (23, _), (24, _), (25, _), (6, _), (26, _), (27, _), (28, _), (29, _), (30, _), (31, _), (41, _), (40, _), (56, _), (55, _), (71, _), (70, _), (32, _), (33, _), (34, _), (36, _), (37, _), (38, _)] ⟨rfl, rfl, rfl, rfl, rfl, rfl, rfl, rfl, rfl, rfl, rfl, rfl, rfl, rfl, rfl, rfl, rfl, rfl, rfl, rfl, rfl, rfl, rfl, rfl, rfl, rfl, rfl, rfl, rfl, rfl, rfl, rfl, rfl, rfl, rfl, rfl, trivial⟩ ?_
              refine N.blk ?_
              refine N.then ?_
              refine E.seq ?_
              obtain ⟨aF, cF, rfl⟩ := SF.rw.own.len
              have hLG := Nat.le_trans hLF (by first | exact hL9 | exact Nat.le_trans hL7 hL9)
              refine E.regionD (fun H' => H'[r]? = some (.cells [_].toArray 47 (0, 0))) [(0, .pu), (2, .pu), (3, .pu), (4, .pu), (5, .st), (6, .pu), (1, .mk), (7, .pu), (8, .pu), (9, .pu), (11, .pu), (10, .mk), (12, .mk), (13, .pu), (14, .pu)] Try.mixed (by kernel_rfl) (SF.rw.cell) ?_
              refine X.mv rfl rfl rfl rfl rfl ?_
              refine X.mv rfl rfl rfl rfl rfl ?_
              refine X.nilP rfl rfl rfl rfl rfl ?_
              refine X.fld rfl rfl rfl rfl rfl Try.off47_0 ?_
              refine X.ld rfl rfl rfl rfl Try.ag45 (fun H' hF => hF) (rfl) ?_
              refine X.lenS rfl rfl rfl rfl rfl Try.underlying45 ?_
              refine X.call rfl rfl rfl rfl rfl Try.cl20 (wlen_ct _ _ _ _ _ SF.wm.wr (by omega)) ?_
              rintro _ H20 ⟨rfl, eH20⟩
              obtain rfl := eH20.symm
              refine ⟨SF.rw.cell, ?_⟩
              refine X.neqF rfl rfl rfl rfl rfl rfl (fun h => h rfl) ?_
              refine X.mv rfl rfl rfl rfl rfl ?_
              refine X.mv rfl rfl rfl rfl rfl ?_
              refine X.mv rfl rfl rfl rfl rfl ?_
              refine X.call rfl rfl rfl rfl rfl Try.cl16 (text_ct _ _ _ _ _ SF.wm.wr (by omega)) ?_
              rintro _ H21 ⟨rfl, hk21⟩
              refine ⟨hk21.keep SF.rw.cell (by simp), ?_⟩
              have SG := SF.keepN hk21
              refine X.call rfl rfl rfl rfl rfl Try.cl29 (rtext_ct r _ _ _ _ SG.rw SG.wm.wr.lt (by omega)) ?_
              rintro _ H22 ⟨rfl, hk22⟩
              refine ⟨hk22.keep SG.rw.cell (by simp), ?_⟩
              replace SG := SG.keepN hk22
              refine X.neqSF rfl rfl rfl rfl rfl rfl (rfl) ?_
              refine X.pickF rfl rfl rfl rfl rfl rfl ?_
              refine X.done [(0, _), (2, _), (3, _), (4, _), (5, _), (12, _), (13, _), (14, _), (15, _), (16, _), (17, _), (18, _), (19, _), (22, _), (23, _), (24, _), (25, _), (6, _), (26, _), (27, _), (28, _), (29, _), (30, _), (31, _), (41, _), (40, _), (56, _), (55, _), (71, _), (70, _), (32, _), (33, _), (34, _), (36, _), (37, _), (38, _), (76, _), (78, _), (79, _), (80, _), (81, _), (82, _), (77, _), (83, _), (84, _), (85, _), (87, _), (86, _), (88, _), (89, _), (90, _)] ⟨rfl, rfl, rfl, rfl, rfl, rfl, rfl, rfl, rfl, rfl, rfl, rfl, rfl, rfl, rfl, rfl, rfl, rfl, rfl, rfl, rfl, rfl, rfl, rfl, rfl, rfl, rfl, rfl, rfl, rfl, rfl, rfl, rfl, rfl, rfl, rfl, rfl, rfl, rfl, rfl, rfl, rfl, rfl, rfl, rfl, rfl, rfl, rfl, rfl, rfl, rfl, trivial⟩ ?_
              refine N.then ?_
              refine E.condF rfl ?_
              refine E.skip ?_
              refine N.blk ?_
              refine N.then ?_
              refine E.region ?_
              refine X.mv rfl rfl rfl rfl rfl ?_
              refine X.add rfl rfl rfl rfl rfl rfl (by omega) ?_
              refine X.asg rfl rfl rfl rfl rfl ?_
              refine X.done [(0, _), (2, _), (3, _), (4, _), (5, _), (12, _), (13, _), (14, _), (15, _), (16, _), (17, _), (18, _), (19, _), (22, _), (23, _), (24, _), (25, _), (6, _), (26, _), (27, _), (28, _), (29, _), (30, _), (31, _), (41, _), (40, _), (56, _), (55, _), (71, _), (70, _), (32, _), (33, _), (34, _), (36, _), (37, _), (38, _), (76, _), (78, _), (79, _), (80, _), (81, _), (82, _), (77, _), (83, _), (84, _), (85, _), (87, _), (86, _), (88, _), (89, _), (90, _), (20, _), (21, _)] ⟨rfl, rfl, rfl, rfl, rfl, rfl, rfl, rfl, rfl, rfl, rfl, rfl, rfl, rfl, rfl, rfl, rfl, rfl, rfl, rfl, rfl, rfl, rfl, rfl, rfl, rfl, rfl, rfl, rfl, rfl, rfl, rfl, rfl, rfl, rfl, rfl, rfl, rfl, rfl, rfl, rfl, rfl, rfl, rfl, rfl, rfl, rfl, rfl, rfl, rfl, rfl, rfl, rfl, trivial⟩ ?_
              first | exact N.next (G := fun (i : Nat) => _) (i + 1) ⟨rfl, rfl, rfl, rfl, rfl, trivial⟩ ⟨by omega, by omega, _, _, _, _, SG, hLG⟩ (by show xs.length - (i + 1) < xs.length - i; omega) | exact N.next (G := fun (i : Nat) => _) (i + 1) ⟨rfl, rfl, rfl, rfl, rfl, trivial⟩ ⟨by omega, by omega, _, _, _, _, S8, hL8⟩ (by show xs.length - (i + 1) < xs.length - i; omega)
    · refine E.exit ?_
      refine N.thenX ?_
      refine N.loopX ?_
      refine N.blkX ?_
      refine N.then ?_
      refine E.seq ?_
      refine E.region ?_
      refine X.call rfl rfl rfl rfl rfl Try.cl11 (known_ct H3) ?_
      rintro _ HK ⟨rfl, hkK⟩
      refine X.asg rfl rfl rfl rfl rfl ?_
      refine X.done [(2, _)] ⟨rfl, trivial⟩ ?_
      refine N.then ?_
      refine E.ret ?_
      exact N.retH [_] ⟨_, _, rfl, rfl, rfl⟩ ⟨rfl, S3.wm.kp.trans hkK (by simp)⟩
  · refine X.mv rfl rfl rfl rfl rfl ?_
    refine X.skip rfl rfl rfl ?_
    refine X.skip rfl rfl rfl ?_
    refine X.pickF rfl rfl rfl rfl rfl rfl ?_
    refine X.done [(0, _), (2, _), (3, _), (4, _), (5, _), (12, _), (13, _), (14, _), (15, _), (16, _), (17, _), (18, _), (19, _)] ⟨rfl, rfl, rfl, rfl, rfl, rfl, rfl, rfl, rfl, rfl, rfl, rfl, rfl, trivial⟩ ?_
    refine N.then ?_
    refine E.condF rfl ?_
    refine E.exit ?_
    refine N.thenX ?_
    refine N.loopX ?_
    refine N.blkX ?_
    refine N.then ?_
    refine E.seq ?_
    refine E.region ?_
    refine X.call rfl rfl rfl rfl rfl Try.cl11 (known_ct H3) ?_
    rintro _ HK ⟨rfl, hkK⟩
    refine X.asg rfl rfl rfl rfl rfl ?_
    refine X.done [(2, _)] ⟨rfl, trivial⟩ ?_
    refine N.then ?_
    refine E.ret ?_
    exact N.retH [_] ⟨_, _, rfl, rfl, rfl⟩ ⟨rfl, S3.wm.kp.trans hkK (by simp)⟩

end Go.Proofs.Ytpengkmmgpoofaa