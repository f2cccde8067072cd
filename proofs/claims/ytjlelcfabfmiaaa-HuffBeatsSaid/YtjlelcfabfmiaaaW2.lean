/- The walks: two rows of coins as one, packets. -/
import Derived.Test.YtjlelcfabfmiaaaW1
import Derived.Test.YtjlelcfabfmiaaaM
namespace Go.Proofs.Ytjlelcfabfmiaaa
open Go.SX Go.Hf
attribute [local irreducible] X E N Ct
set_option linter.unusedVariables false

/-- A coin as it lies: its worth, its symbols' slice, these symbols. -/
structure CE where
  w : Int
  v : Value
  s : List Nat
abbrev cel (x : CE) : List Value := [i64 x.w, x.v]
theorem cel_len (x : CE) : (cel x).length = 2 := rfl
def spec (x : CE) : Coin := (x.w, x.s)
def leE (x y : CE) : Bool := decide (x.w ≤ y.w)
/-- A coin's symbols can be read. -/
def SymOK (H : Heap) (x : CE) : Prop := Rd H 1 x.v x.s.length (nv x.s)
theorem SymOK.keep {H H' : Heap} {x : CE} (h : SymOK H x) (hk : Kp [] H H') : SymOK H' x := Rd.keep h hk (by simp)
theorem zi40 : (Try.prog.info? 40).map (fun i => (i.zero, i.size, i.bytes)) = some (some (.agg #[.int .i64 0, .slice none 0 0]), 2, 32) := by kernel_rfl
theorem TC : AppT Try.prog 38 38 40 2 32 (.agg #[.int .i64 0, .slice none 0 0]) := ⟨Try.underlying38, zi40, rfl, by decide⟩
theorem TI : AppT Try.prog 22 22 3 1 8 (.int .i64 0) := ⟨Try.underlying22, Try.zi3_22, rfl, by decide⟩
theorem rd_one {H : Heap} {b c : Nat} {e : TypeId} {x : CE} (hb : H[b]? = some (.cells (cel x).toArray e (0, 0))) : Rd H 2 (.slice (some ⟨b, 0, none⟩) 1 c) 1 (cel x) :=
  ⟨rfl, _, _, rfl, .inr ⟨b, 0, _, _, _, rfl, hb, fun j u hj => by rw [Nat.zero_add]; exact hj⟩⟩
theorem fm_drop1 {x : CE} {xs : List CE} : ((x :: xs).flatMap cel).drop (1 * 2) = xs.flatMap cel := rfl
theorem sl_one (m : Nat) : m + 1 - 1 = m := by omega
/-- A row of coins that can be read. -/
structure CR (H : Heap) (a : Option Addr) (c : Nat) (xs : List CE) : Prop where
  rd : Rd H 2 (.slice a xs.length c) xs.length (xs.flatMap cel)
  cap : xs.length ≤ c
theorem CR.keep {H H' : Heap} {a : Option Addr} {c : Nat} {xs : List CE} {S : List Nat} (h : CR H a c xs) (hk : Kp S H H') (hS : ∀ b ∈ blk (.slice a xs.length c), b ∉ S) : CR H' a c xs := ⟨h.rd.keep hk hS, h.cap⟩
theorem CR.tail {H : Heap} {a : Option Addr} {c : Nat} {x : CE} {xs : List CE} (h : CR H a c (x :: xs)) : CR H (if c = 1 then a else a.map (·.add (1 * 2))) (c - 1) xs := by
  have h1 := h.rd.drop h.cap (p := 1) (by simp)
  have hc := h.cap
  simp only [List.length_cons] at hc
  rw [fm_drop1] at h1
  exact ⟨by simpa using h1, by omega⟩
theorem one_cel (x : CE) (h : x.v.oneCell' = true) : ∀ u ∈ cel x, u.oneCell' = true := by
  intro u hu
  simp only [cel, List.mem_cons, List.not_mem_nil, or_false] at hu
  rcases hu with rfl | rfl
  · rfl
  · exact h
theorem SymOK.one {H : Heap} {x : CE} (h : SymOK H x) : x.v.oneCell' = true := by
  obtain ⟨_, a, c, e, _⟩ := h
  rw [e]; rfl

structure MS where
  xs : List CE
  a : Option Addr
  c : Nat
  ys : List CE
  a2 : Option Addr
  c2 : Nat
  zs : List CE
  v : Value
theorem sl_eq {a : Option Addr} {c m : Nat} : (some (Value.slice (if c = (1 : Int).toNat then a else a.map (·.add ((1 : Int).toNat * 2))) (m + 1 - (1 : Int).toNat) (c - (1 : Int).toNat)) : Option Value) = some (.slice (if c = 1 then a else a.map (·.add (1 * 2))) m (c - 1)) := rfl

theorem merged_ct (xs0 ys0 : List CE) (a : Option Addr) (c : Nat) (a2 : Option Addr) (c2 : Nat) (H : Heap) (hX0 : CR H a c xs0) (hY0 : CR H a2 c2 ys0) (hsx : ∀ x ∈ xs0, SymOK H x) (hsy : ∀ x ∈ ys0, SymOK H x) (hlen : xs0.length + ys0.length ≤ 100000) : Ct Try.prog 18 #[.slice a xs0.length c, .slice a2 ys0.length c2] H fun v H' => Own H' 40 2 v (mg leE xs0 ys0).length ((mg leE xs0 ys0).flatMap cel) ∧ (∀ b ∈ blk v, H.size ≤ b) ∧ Kp [] H H' := by
  refine Ct.into 50 Try.func18 rfl [(0, .slice a xs0.length c), (1, .slice a2 ys0.length c2)] rfl ⟨rfl, rfl, trivial⟩ ?_
  refine E.seq ?_
  refine E.region ?_
  refine X.asg rfl rfl rfl rfl rfl ?_
  refine X.done [(0, _), (1, _), (4, _)] ⟨rfl, rfl, rfl, trivial⟩ ?_
  refine N.then ?_
  refine E.seq ?_
  refine E.region ?_
  refine X.asg rfl rfl rfl rfl rfl ?_
  refine X.done [(0, _), (1, _), (4, _), (5, _)] ⟨rfl, rfl, rfl, rfl, trivial⟩ ?_
  refine N.then ?_
  refine E.seq ?_
  refine E.block ?_
  refine E.loop (fun (q : MS) => [(0, .slice q.a q.xs.length q.c), (1, .slice q.a2 q.ys.length q.c2), (4, .slice none 0 0), (5, q.v)]) (fun (q : MS) H' => CR H q.a q.c q.xs ∧ CR H q.a2 q.c2 q.ys ∧ (∀ x ∈ q.xs, SymOK H x) ∧ (∀ x ∈ q.ys, SymOK H x) ∧ q.zs.length + q.xs.length + q.ys.length ≤ 100000 ∧ Own H' 40 2 q.v q.zs.length (q.zs.flatMap cel) ∧ q.zs ++ mg leE q.xs q.ys = mg leE xs0 ys0 ∧ (∀ b ∈ blk q.v, H.size ≤ b) ∧ Kp [] H H') (fun (q : MS) => q.xs.length + q.ys.length) ⟨xs0, a, c, ys0, a2, c2, [], .slice none 0 0⟩ ⟨rfl, rfl, rfl, rfl, trivial⟩ ⟨hX0, hY0, hsx, hsy, by simpa using hlen, Own.nil _ _ _, rfl, by simp [blk], Kp.refl _ _⟩ ?_
  rintro ⟨xs, a, c, ys, a2, c2, zs, v⟩ H3 hJ
  dsimp only at hJ ⊢
  obtain ⟨hX, hY, hsx, hsy, hlen, hO, heq, hvb, hkk⟩ := hJ
  refine E.seq ?_
  refine E.seq ?_
  refine E.region ?_
  refine X.mv rfl rfl rfl rfl rfl ?_
  rcases xs with _ | ⟨x, xs⟩
  · refine X.lenS rfl rfl rfl rfl rfl Try.underlying38 ?_
    rcases ys with _ | ⟨y, ys⟩
    · refine X.gtrF rfl rfl rfl rfl rfl rfl (by first | (simp only [List.length_cons]; omega) | (simp only [List.length_nil]; omega) | (simp only [List.length_nil]; decide)) ?_
      refine X.mv rfl rfl rfl rfl rfl ?_
      refine X.mv rfl rfl rfl rfl rfl ?_
      refine X.lenS rfl rfl rfl rfl rfl Try.underlying38 ?_
      refine X.gtrF rfl rfl rfl rfl rfl rfl (by first | (simp only [List.length_cons]; omega) | (simp only [List.length_nil]; omega) | (simp only [List.length_nil]; decide)) ?_
      refine X.pickF rfl rfl rfl rfl rfl rfl ?_
      refine X.done [(0, _), (1, _), (4, _), (5, _), (6, _), (7, _), (8, _), (9, _), (10, _), (11, _), (12, _), (13, _)] ⟨rfl, rfl, rfl, rfl, rfl, rfl, rfl, rfl, rfl, rfl, rfl, rfl, trivial⟩ ?_
      refine N.then ?_
      refine E.condF rfl ?_
      refine E.exit ?_
      refine N.thenX ?_
      refine N.loopX ?_
      refine N.blkX ?_
      refine N.then ?_
      refine E.seq ?_
      refine E.region ?_
      refine X.mv rfl rfl rfl rfl rfl ?_
      refine X.asg rfl rfl rfl rfl rfl ?_
      refine X.done [(4, _)] ⟨rfl, trivial⟩ ?_
      refine N.then ?_
      refine E.ret ?_
      rw [mg_nil_left, List.append_nil] at heq
      exact N.retH [_] ⟨_, _, rfl, rfl, rfl⟩ ⟨by rw [← heq]; exact hO, hvb, hkk⟩
    · obtain ⟨bb2, oo2, cc2, cs2, ct2, fz2, hv2, hbb2, hel2⟩ := hY.rd.get cel_len (i := 0) rfl (by decide)
      obtain ⟨rfl, _, rfl⟩ := Value.slice.inj hv2
      replace hbb2 := hkk.keep hbb2 (by simp)
      refine X.gtrF rfl rfl rfl rfl rfl rfl (by first | (simp only [List.length_cons]; omega) | (simp only [List.length_nil]; omega) | (simp only [List.length_nil]; decide)) ?_
      refine X.mv rfl rfl rfl rfl rfl ?_
      refine X.mv rfl rfl rfl rfl rfl ?_
      refine X.lenS rfl rfl rfl rfl rfl Try.underlying38 ?_
      refine X.gtrT rfl rfl rfl rfl rfl rfl (by first | (simp only [List.length_cons]; omega) | (simp only [List.length_nil]; omega) | (simp only [List.length_nil]; decide)) ?_
      refine X.pickF rfl rfl rfl rfl rfl rfl ?_
      refine X.done [(0, _), (1, _), (4, _), (5, _), (6, _), (7, _), (8, _), (9, _), (10, _), (11, _), (12, _), (13, _)] ⟨rfl, rfl, rfl, rfl, rfl, rfl, rfl, rfl, rfl, rfl, rfl, rfl, trivial⟩ ?_
      refine N.then ?_
      refine E.condT rfl ?_
      refine E.skip ?_
      refine N.then ?_
      refine E.block ?_
      refine E.seq ?_
      refine E.regionD (fun H' => H' = H3) [(0, .pu), (1, .pu), (2, .pu), (3, .pu), (4, .pu), (5, .pu), (6, .pu), (7, .pu), (8, .pu), (9, .pu), (10, .pu), (11, .st), (12, .pu), (13, .pu), (14, .pu), (15, .st), (16, .pu), (17, .pu), (18, .pu)] Try.mixed (by kernel_rfl) (rfl) ?_
      refine X.mv rfl rfl rfl rfl rfl ?_
      refine X.lenS rfl rfl rfl rfl rfl Try.underlying38 ?_
      refine X.eqlF rfl rfl rfl rfl rfl rfl (by first | (simp only [List.length_cons]; omega) | (simp only [List.length_nil]; omega) | (simp only [List.length_nil]; decide)) ?_
      refine X.mv rfl rfl rfl rfl rfl ?_
      refine X.mv rfl rfl rfl rfl rfl ?_
      refine X.lenS rfl rfl rfl rfl rfl Try.underlying38 ?_
      refine X.gtrF rfl rfl rfl rfl rfl rfl (by first | (simp only [List.length_cons]; omega) | (simp only [List.length_nil]; omega) | (simp only [List.length_nil]; decide)) ?_
      refine X.mv rfl rfl rfl rfl rfl ?_
      refine X.skip rfl rfl rfl ?_
      refine X.skip rfl rfl rfl ?_
      refine X.skip rfl rfl rfl ?_
      refine X.skip rfl rfl rfl ?_
      refine X.skip rfl rfl rfl ?_
      refine X.skip rfl rfl rfl ?_
      refine X.skip rfl rfl rfl ?_
      refine X.skip rfl rfl rfl ?_
      refine X.skip rfl rfl rfl ?_
      refine X.pickF rfl rfl rfl rfl rfl rfl ?_
      refine X.pickF rfl rfl rfl rfl rfl rfl ?_
      refine X.done [(0, _), (1, _), (4, _), (5, _), (6, _), (7, _), (8, _), (9, _), (10, _), (11, _), (12, _), (13, _), (14, _), (15, _), (16, _), (17, _), (18, _), (19, _), (20, _), (21, _), (22, _), (23, _), (24, _), (25, _), (26, _), (27, _), (28, _), (29, _), (30, _), (31, _), (32, _)] ⟨rfl, rfl, rfl, rfl, rfl, rfl, rfl, rfl, rfl, rfl, rfl, rfl, rfl, rfl, rfl, rfl, rfl, rfl, rfl, rfl, rfl, rfl, rfl, rfl, rfl, rfl, rfl, rfl, rfl, rfl, rfl, trivial⟩ ?_
      refine N.then ?_
      refine E.condF rfl ?_
      refine E.seq ?_
      refine E.region ?_
      refine X.mv rfl rfl rfl rfl rfl ?_
      refine X.mv rfl rfl rfl rfl rfl ?_
      refine X.ixA rfl rfl rfl rfl rfl rfl Try.underlying38 Try.sz40 (by simp only [List.length_cons]; omega) ?_
      refine X.ldA rfl rfl rfl rfl Try.ag40 Try.sz40 (hbb2) (vs := cel y) rfl (fun j u hj => hel2 j u hj) ?_
      refine X.lit (e := 40) (cs := cel y) rfl rfl rfl rfl rfl (fun _ => by kernel_rfl) ?_
      intro b6 H6 hn6 hb6 hk6
      have hkk6 := hkk.trans hk6 (by simp)
      refine X.app TC rfl rfl rfl rfl rfl rfl (hO.keep hk6 (by simp)) (by exact .inl (rd_one hb6)) (.inl ⟨40, Try.underlying38, _, _, rfl⟩) (one_cel _ ((hsy y (by simp)).keep hkk6).one) (by first | (simp only [maxLen]; omega) | omega) (by first | (simp only [maxLen]; omega) | omega) ?_
      intro v7 H7 hO7 hk7 hb7 hn7
      have hkk7 := hkk6.trans hk7 (fun b hb => .inr (hvb b hb))
      have hvb7 : ∀ b ∈ blk v7, H.size ≤ b := fun b hb => hb7.elim (fun h => hvb b (h ▸ hb)) (fun h => Nat.le_trans hkk6.size (h b hb))
      have hO8 : Own H7 40 2 v7 (zs ++ [y]).length ((zs ++ [y]).flatMap cel) := by rw [List.length_append, List.flatMap_append]; simpa using hO7
      refine X.asg rfl rfl rfl rfl rfl ?_
      refine X.done [(0, _), (1, _), (4, _), (5, _), (6, _), (7, _), (8, _), (9, _), (10, _), (11, _), (12, _), (13, _), (14, _), (15, _), (16, _), (17, _), (18, _), (19, _), (20, _), (21, _), (22, _), (23, _), (24, _), (25, _), (26, _), (27, _), (28, _), (29, _), (30, _), (31, _), (32, _), (41, _), (42, _), (43, _), (44, _), (45, _), (46, _)] ⟨rfl, rfl, rfl, rfl, rfl, rfl, rfl, rfl, rfl, rfl, rfl, rfl, rfl, rfl, rfl, rfl, rfl, rfl, rfl, rfl, rfl, rfl, rfl, rfl, rfl, rfl, rfl, rfl, rfl, rfl, rfl, rfl, rfl, rfl, rfl, rfl, rfl, trivial⟩ ?_
      refine N.then ?_
      refine E.region ?_
      refine X.mv rfl rfl rfl rfl rfl ?_
      refine X.sl1 rfl rfl rfl rfl rfl rfl Try.underlying38 Try.sz40 (by simp only [List.length_cons]; omega) ?_
      refine X.asg rfl rfl rfl rfl rfl ?_
      refine X.done [(0, _), (1, _), (4, _), (5, _), (6, _), (7, _), (8, _), (9, _), (10, _), (11, _), (12, _), (13, _), (14, _), (15, _), (16, _), (17, _), (18, _), (19, _), (20, _), (21, _), (22, _), (23, _), (24, _), (25, _), (26, _), (27, _), (28, _), (29, _), (30, _), (31, _), (32, _), (41, _), (42, _), (43, _), (44, _), (45, _), (46, _), (47, _), (48, _)] ⟨rfl, rfl, rfl, rfl, rfl, rfl, rfl, rfl, rfl, rfl, rfl, rfl, rfl, rfl, rfl, rfl, rfl, rfl, rfl, rfl, rfl, rfl, rfl, rfl, rfl, rfl, rfl, rfl, rfl, rfl, rfl, rfl, rfl, rfl, rfl, rfl, rfl, rfl, rfl, trivial⟩ ?_
      refine N.blk ?_
      exact N.next (G := fun (q : MS) => _) ⟨[], _, _, ys, _, _, zs ++ [y], v7⟩ ⟨rfl, rfl, rfl, rfl, trivial⟩ ⟨hX, hY.tail, hsx, fun z hz => hsy z (by simp [hz]), by simp only [List.length_append, List.length_cons, List.length_nil] at hlen ⊢; omega, hO8, by rw [← heq, List.append_assoc]; congr 1; (rw [mg_nil_left, mg_nil_left]; rfl), hvb7, hkk7⟩ (by simp only [List.length_cons]; omega)
  · obtain ⟨bb, oo, cc, cs, ct, fz, hv, hbb, hel⟩ := hX.rd.get cel_len (i := 0) rfl (by decide)
    obtain ⟨rfl, _, rfl⟩ := Value.slice.inj hv
    replace hbb := hkk.keep hbb (by simp)
    refine X.lenS rfl rfl rfl rfl rfl Try.underlying38 ?_
    rcases ys with _ | ⟨y, ys⟩
    · refine X.gtrT rfl rfl rfl rfl rfl rfl (by first | (simp only [List.length_cons]; omega) | (simp only [List.length_nil]; omega) | (simp only [List.length_nil]; decide)) ?_
      refine X.mv rfl rfl rfl rfl rfl ?_
      refine X.skip rfl rfl rfl ?_
      refine X.skip rfl rfl rfl ?_
      refine X.skip rfl rfl rfl ?_
      refine X.pickT rfl rfl rfl rfl rfl rfl ?_
      refine X.done [(0, _), (1, _), (4, _), (5, _), (6, _), (7, _), (8, _), (9, _), (10, _), (11, _), (12, _), (13, _)] ⟨rfl, rfl, rfl, rfl, rfl, rfl, rfl, rfl, rfl, rfl, rfl, rfl, trivial⟩ ?_
      refine N.then ?_
      refine E.condT rfl ?_
      refine E.skip ?_
      refine N.then ?_
      refine E.block ?_
      refine E.seq ?_
      refine E.regionD (fun H' => H' = H3) [(0, .pu), (1, .pu), (2, .pu), (3, .pu), (4, .pu), (5, .pu), (6, .pu), (7, .pu), (8, .pu), (9, .pu), (10, .pu), (11, .st), (12, .pu), (13, .pu), (14, .pu), (15, .st), (16, .pu), (17, .pu), (18, .pu)] Try.mixed (by kernel_rfl) (rfl) ?_
      refine X.mv rfl rfl rfl rfl rfl ?_
      refine X.lenS rfl rfl rfl rfl rfl Try.underlying38 ?_
      refine X.eqlT rfl rfl rfl rfl rfl rfl (by first | (simp only [List.length_cons]; omega) | (simp only [List.length_nil]; omega) | (simp only [List.length_nil]; decide)) ?_
      refine X.mv rfl rfl rfl rfl rfl ?_
      refine X.skip rfl rfl rfl ?_
      refine X.skip rfl rfl rfl ?_
      refine X.skip rfl rfl rfl ?_
      refine X.skip rfl rfl rfl ?_
      refine X.skip rfl rfl rfl ?_
      refine X.skip rfl rfl rfl ?_
      refine X.skip rfl rfl rfl ?_
      refine X.skip rfl rfl rfl ?_
      refine X.skip rfl rfl rfl ?_
      refine X.skip rfl rfl rfl ?_
      refine X.skip rfl rfl rfl ?_
      refine X.skip rfl rfl rfl ?_
      refine X.skip rfl rfl rfl ?_
      refine X.skip rfl rfl rfl ?_
      refine X.pickT rfl rfl rfl rfl rfl rfl ?_
      refine X.done [(0, _), (1, _), (4, _), (5, _), (6, _), (7, _), (8, _), (9, _), (10, _), (11, _), (12, _), (13, _), (14, _), (15, _), (16, _), (17, _), (18, _), (19, _), (20, _), (21, _), (22, _), (23, _), (24, _), (25, _), (26, _), (27, _), (28, _), (29, _), (30, _), (31, _), (32, _)] ⟨rfl, rfl, rfl, rfl, rfl, rfl, rfl, rfl, rfl, rfl, rfl, rfl, rfl, rfl, rfl, rfl, rfl, rfl, rfl, rfl, rfl, rfl, rfl, rfl, rfl, rfl, rfl, rfl, rfl, rfl, rfl, trivial⟩ ?_
      refine N.then ?_
      refine E.condT rfl ?_
      refine E.seq ?_
      refine E.region ?_
      refine X.mv rfl rfl rfl rfl rfl ?_
      refine X.mv rfl rfl rfl rfl rfl ?_
      refine X.ixA rfl rfl rfl rfl rfl rfl Try.underlying38 Try.sz40 (by simp only [List.length_cons]; omega) ?_
      refine X.ldA rfl rfl rfl rfl Try.ag40 Try.sz40 (hbb) (vs := cel x) rfl (fun j u hj => hel j u hj) ?_
      refine X.lit (e := 40) (cs := cel x) rfl rfl rfl rfl rfl (fun _ => by kernel_rfl) ?_
      intro b6 H6 hn6 hb6 hk6
      have hkk6 := hkk.trans hk6 (by simp)
      refine X.app TC rfl rfl rfl rfl rfl rfl (hO.keep hk6 (by simp)) (by exact .inl (rd_one hb6)) (.inl ⟨40, Try.underlying38, _, _, rfl⟩) (one_cel _ ((hsx x (by simp)).keep hkk6).one) (by first | (simp only [maxLen]; omega) | omega) (by first | (simp only [maxLen]; omega) | omega) ?_
      intro v7 H7 hO7 hk7 hb7 hn7
      have hkk7 := hkk6.trans hk7 (fun b hb => .inr (hvb b hb))
      have hvb7 : ∀ b ∈ blk v7, H.size ≤ b := fun b hb => hb7.elim (fun h => hvb b (h ▸ hb)) (fun h => Nat.le_trans hkk6.size (h b hb))
      have hO8 : Own H7 40 2 v7 (zs ++ [x]).length ((zs ++ [x]).flatMap cel) := by rw [List.length_append, List.flatMap_append]; simpa using hO7
      refine X.asg rfl rfl rfl rfl rfl ?_
      refine X.done [(0, _), (1, _), (4, _), (5, _), (6, _), (7, _), (8, _), (9, _), (10, _), (11, _), (12, _), (13, _), (14, _), (15, _), (16, _), (17, _), (18, _), (19, _), (20, _), (21, _), (22, _), (23, _), (24, _), (25, _), (26, _), (27, _), (28, _), (29, _), (30, _), (31, _), (32, _), (33, _), (34, _), (35, _), (36, _), (37, _), (38, _)] ⟨rfl, rfl, rfl, rfl, rfl, rfl, rfl, rfl, rfl, rfl, rfl, rfl, rfl, rfl, rfl, rfl, rfl, rfl, rfl, rfl, rfl, rfl, rfl, rfl, rfl, rfl, rfl, rfl, rfl, rfl, rfl, rfl, rfl, rfl, rfl, rfl, rfl, trivial⟩ ?_
      refine N.then ?_
      refine E.region ?_
      refine X.mv rfl rfl rfl rfl rfl ?_
      refine X.sl1 rfl rfl rfl rfl rfl rfl Try.underlying38 Try.sz40 (by simp only [List.length_cons]; omega) ?_
      refine X.asg rfl rfl rfl rfl rfl ?_
      refine X.done [(0, _), (1, _), (4, _), (5, _), (6, _), (7, _), (8, _), (9, _), (10, _), (11, _), (12, _), (13, _), (14, _), (15, _), (16, _), (17, _), (18, _), (19, _), (20, _), (21, _), (22, _), (23, _), (24, _), (25, _), (26, _), (27, _), (28, _), (29, _), (30, _), (31, _), (32, _), (33, _), (34, _), (35, _), (36, _), (37, _), (38, _), (39, _), (40, _)] ⟨rfl, rfl, rfl, rfl, rfl, rfl, rfl, rfl, rfl, rfl, rfl, rfl, rfl, rfl, rfl, rfl, rfl, rfl, rfl, rfl, rfl, rfl, rfl, rfl, rfl, rfl, rfl, rfl, rfl, rfl, rfl, rfl, rfl, rfl, rfl, rfl, rfl, rfl, rfl, trivial⟩ ?_
      refine N.blk ?_
      exact N.next (G := fun (q : MS) => _) ⟨xs, _, _, [], _, _, zs ++ [x], v7⟩ ⟨rfl, rfl, rfl, rfl, trivial⟩ ⟨hX.tail, hY, fun z hz => hsx z (by simp [hz]), hsy, by simp only [List.length_append, List.length_cons, List.length_nil] at hlen ⊢; omega, hO8, by rw [← heq, List.append_assoc]; congr 1; (rw [mg_nil_right, mg_nil_right]; rfl), hvb7, hkk7⟩ (by simp only [List.length_cons]; omega)
    · obtain ⟨bb2, oo2, cc2, cs2, ct2, fz2, hv2, hbb2, hel2⟩ := hY.rd.get cel_len (i := 0) rfl (by decide)
      obtain ⟨rfl, _, rfl⟩ := Value.slice.inj hv2
      replace hbb2 := hkk.keep hbb2 (by simp)
      refine X.gtrT rfl rfl rfl rfl rfl rfl (by first | (simp only [List.length_cons]; omega) | (simp only [List.length_nil]; omega) | (simp only [List.length_nil]; decide)) ?_
      refine X.mv rfl rfl rfl rfl rfl ?_
      refine X.skip rfl rfl rfl ?_
      refine X.skip rfl rfl rfl ?_
      refine X.skip rfl rfl rfl ?_
      refine X.pickT rfl rfl rfl rfl rfl rfl ?_
      refine X.done [(0, _), (1, _), (4, _), (5, _), (6, _), (7, _), (8, _), (9, _), (10, _), (11, _), (12, _), (13, _)] ⟨rfl, rfl, rfl, rfl, rfl, rfl, rfl, rfl, rfl, rfl, rfl, rfl, trivial⟩ ?_
      refine N.then ?_
      refine E.condT rfl ?_
      refine E.skip ?_
      refine N.then ?_
      refine E.block ?_
      refine E.seq ?_
      refine E.regionD (fun H' => H' = H3) [(0, .pu), (1, .pu), (2, .pu), (3, .pu), (4, .pu), (5, .pu), (6, .pu), (7, .pu), (8, .pu), (9, .pu), (10, .pu), (11, .st), (12, .pu), (13, .pu), (14, .pu), (15, .st), (16, .pu), (17, .pu), (18, .pu)] Try.mixed (by kernel_rfl) (rfl) ?_
      refine X.mv rfl rfl rfl rfl rfl ?_
      refine X.lenS rfl rfl rfl rfl rfl Try.underlying38 ?_
      refine X.eqlF rfl rfl rfl rfl rfl rfl (by first | (simp only [List.length_cons]; omega) | (simp only [List.length_nil]; omega) | (simp only [List.length_nil]; decide)) ?_
      refine X.mv rfl rfl rfl rfl rfl ?_
      refine X.mv rfl rfl rfl rfl rfl ?_
      refine X.lenS rfl rfl rfl rfl rfl Try.underlying38 ?_
      refine X.gtrT rfl rfl rfl rfl rfl rfl (by first | (simp only [List.length_cons]; omega) | (simp only [List.length_nil]; omega) | (simp only [List.length_nil]; decide)) ?_
      refine X.mv rfl rfl rfl rfl rfl ?_
      refine X.mv rfl rfl rfl rfl rfl ?_
      refine X.ixA rfl rfl rfl rfl rfl rfl Try.underlying38 Try.sz40 (by simp only [List.length_cons]; omega) ?_
      refine X.fld rfl rfl rfl rfl rfl Try.off40_0 ?_
      refine X.ld rfl rfl rfl rfl Try.ag3 (fun H' hF => by subst hF; exact hbb) (hel 0 _ rfl) ?_
      refine X.mv rfl rfl rfl rfl rfl ?_
      refine X.ixA rfl rfl rfl rfl rfl rfl Try.underlying38 Try.sz40 (by simp only [List.length_cons]; omega) ?_
      refine X.fld rfl rfl rfl rfl rfl Try.off40_0 ?_
      refine X.ld rfl rfl rfl rfl Try.ag3 (fun H' hF => by subst hF; exact hbb2) (hel2 0 _ rfl) ?_
      refine X.leq rfl rfl rfl rfl rfl rfl ?_
      refine X.pickT rfl rfl rfl rfl rfl rfl ?_
      refine X.pickF rfl rfl rfl rfl rfl rfl ?_
      refine X.done [(0, _), (1, _), (4, _), (5, _), (6, _), (7, _), (8, _), (9, _), (10, _), (11, _), (12, _), (13, _), (14, _), (15, _), (16, _), (17, _), (18, _), (19, _), (20, _), (21, _), (22, _), (23, _), (24, _), (25, _), (26, _), (27, _), (28, _), (29, _), (30, _), (31, _), (32, _)] ⟨rfl, rfl, rfl, rfl, rfl, rfl, rfl, rfl, rfl, rfl, rfl, rfl, rfl, rfl, rfl, rfl, rfl, rfl, rfl, rfl, rfl, rfl, rfl, rfl, rfl, rfl, rfl, rfl, rfl, rfl, rfl, trivial⟩ ?_
      refine N.then ?_
      refine E.condD rfl (fun hc => ?_) (fun hc => ?_)
      · refine E.seq ?_
        refine E.region ?_
        refine X.mv rfl rfl rfl rfl rfl ?_
        refine X.mv rfl rfl rfl rfl rfl ?_
        refine X.ixA rfl rfl rfl rfl rfl rfl Try.underlying38 Try.sz40 (by simp only [List.length_cons]; omega) ?_
        refine X.ldA rfl rfl rfl rfl Try.ag40 Try.sz40 (hbb) (vs := cel x) rfl (fun j u hj => hel j u hj) ?_
        refine X.lit (e := 40) (cs := cel x) rfl rfl rfl rfl rfl (fun _ => by kernel_rfl) ?_
        intro b6 H6 hn6 hb6 hk6
        have hkk6 := hkk.trans hk6 (by simp)
        refine X.app TC rfl rfl rfl rfl rfl rfl (hO.keep hk6 (by simp)) (by exact .inl (rd_one hb6)) (.inl ⟨40, Try.underlying38, _, _, rfl⟩) (one_cel _ ((hsx x (by simp)).keep hkk6).one) (by first | (simp only [maxLen]; omega) | omega) (by first | (simp only [maxLen]; omega) | omega) ?_
        intro v7 H7 hO7 hk7 hb7 hn7
        have hkk7 := hkk6.trans hk7 (fun b hb => .inr (hvb b hb))
        have hvb7 : ∀ b ∈ blk v7, H.size ≤ b := fun b hb => hb7.elim (fun h => hvb b (h ▸ hb)) (fun h => Nat.le_trans hkk6.size (h b hb))
        have hO8 : Own H7 40 2 v7 (zs ++ [x]).length ((zs ++ [x]).flatMap cel) := by rw [List.length_append, List.flatMap_append]; simpa using hO7
        refine X.asg rfl rfl rfl rfl rfl ?_
        refine X.done [(0, _), (1, _), (4, _), (5, _), (6, _), (7, _), (8, _), (9, _), (10, _), (11, _), (12, _), (13, _), (14, _), (15, _), (16, _), (17, _), (18, _), (19, _), (20, _), (21, _), (22, _), (23, _), (24, _), (25, _), (26, _), (27, _), (28, _), (29, _), (30, _), (31, _), (32, _), (33, _), (34, _), (35, _), (36, _), (37, _), (38, _)] ⟨rfl, rfl, rfl, rfl, rfl, rfl, rfl, rfl, rfl, rfl, rfl, rfl, rfl, rfl, rfl, rfl, rfl, rfl, rfl, rfl, rfl, rfl, rfl, rfl, rfl, rfl, rfl, rfl, rfl, rfl, rfl, rfl, rfl, rfl, rfl, rfl, rfl, trivial⟩ ?_
        refine N.then ?_
        refine E.region ?_
        refine X.mv rfl rfl rfl rfl rfl ?_
        refine X.sl1 rfl rfl rfl rfl rfl rfl Try.underlying38 Try.sz40 (by simp only [List.length_cons]; omega) ?_
        refine X.asg rfl rfl rfl rfl rfl ?_
        refine X.done [(0, _), (1, _), (4, _), (5, _), (6, _), (7, _), (8, _), (9, _), (10, _), (11, _), (12, _), (13, _), (14, _), (15, _), (16, _), (17, _), (18, _), (19, _), (20, _), (21, _), (22, _), (23, _), (24, _), (25, _), (26, _), (27, _), (28, _), (29, _), (30, _), (31, _), (32, _), (33, _), (34, _), (35, _), (36, _), (37, _), (38, _), (39, _), (40, _)] ⟨rfl, rfl, rfl, rfl, rfl, rfl, rfl, rfl, rfl, rfl, rfl, rfl, rfl, rfl, rfl, rfl, rfl, rfl, rfl, rfl, rfl, rfl, rfl, rfl, rfl, rfl, rfl, rfl, rfl, rfl, rfl, rfl, rfl, rfl, rfl, rfl, rfl, rfl, rfl, trivial⟩ ?_
        refine N.blk ?_
        first | (exact N.next (G := fun (q : MS) => _) ⟨xs, _, _, y :: ys, _, _, zs ++ [x], v7⟩ ⟨rfl, rfl, rfl, rfl, trivial⟩ ⟨hX.tail, hY, fun z hz => hsx z (by simp [hz]), hsy, by simp only [List.length_append, List.length_cons, List.length_nil] at hlen ⊢; omega, hO8, by rw [← heq, List.append_assoc]; congr 1; (rw [mg_cons, if_pos (show leE x y = true from decide_eq_true (by assumption))]; rfl), hvb7, hkk7⟩ (by simp only [List.length_cons]; omega)) | (exact N.next (G := fun (q : MS) => _) ⟨x :: xs, _, _, ys, _, _, zs ++ [y], v7⟩ ⟨rfl, rfl, rfl, rfl, trivial⟩ ⟨hX, hY.tail, hsx, fun z hz => hsy z (by simp [hz]), by simp only [List.length_append, List.length_cons, List.length_nil] at hlen ⊢; omega, hO8, by rw [← heq, List.append_assoc]; congr 1; (rw [mg_cons, if_neg (show ¬ leE x y = true from fun h => absurd (of_decide_eq_true h) (by assumption))]; rfl), hvb7, hkk7⟩ (by simp only [List.length_cons]; omega))
      · refine E.seq ?_
        refine E.region ?_
        refine X.mv rfl rfl rfl rfl rfl ?_
        refine X.mv rfl rfl rfl rfl rfl ?_
        refine X.ixA rfl rfl rfl rfl rfl rfl Try.underlying38 Try.sz40 (by simp only [List.length_cons]; omega) ?_
        refine X.ldA rfl rfl rfl rfl Try.ag40 Try.sz40 (hbb2) (vs := cel y) rfl (fun j u hj => hel2 j u hj) ?_
        refine X.lit (e := 40) (cs := cel y) rfl rfl rfl rfl rfl (fun _ => by kernel_rfl) ?_
        intro b6 H6 hn6 hb6 hk6
        have hkk6 := hkk.trans hk6 (by simp)
        refine X.app TC rfl rfl rfl rfl rfl rfl (hO.keep hk6 (by simp)) (by exact .inl (rd_one hb6)) (.inl ⟨40, Try.underlying38, _, _, rfl⟩) (one_cel _ ((hsy y (by simp)).keep hkk6).one) (by first | (simp only [maxLen]; omega) | omega) (by first | (simp only [maxLen]; omega) | omega) ?_
        intro v7 H7 hO7 hk7 hb7 hn7
        have hkk7 := hkk6.trans hk7 (fun b hb => .inr (hvb b hb))
        have hvb7 : ∀ b ∈ blk v7, H.size ≤ b := fun b hb => hb7.elim (fun h => hvb b (h ▸ hb)) (fun h => Nat.le_trans hkk6.size (h b hb))
        have hO8 : Own H7 40 2 v7 (zs ++ [y]).length ((zs ++ [y]).flatMap cel) := by rw [List.length_append, List.flatMap_append]; simpa using hO7
        refine X.asg rfl rfl rfl rfl rfl ?_
        refine X.done [(0, _), (1, _), (4, _), (5, _), (6, _), (7, _), (8, _), (9, _), (10, _), (11, _), (12, _), (13, _), (14, _), (15, _), (16, _), (17, _), (18, _), (19, _), (20, _), (21, _), (22, _), (23, _), (24, _), (25, _), (26, _), (27, _), (28, _), (29, _), (30, _), (31, _), (32, _), (41, _), (42, _), (43, _), (44, _), (45, _), (46, _)] ⟨rfl, rfl, rfl, rfl, rfl, rfl, rfl, rfl, rfl, rfl, rfl, rfl, rfl, rfl, rfl, rfl, rfl, rfl, rfl, rfl, rfl, rfl, rfl, rfl, rfl, rfl, rfl, rfl, rfl, rfl, rfl, rfl, rfl, rfl, rfl, rfl, rfl, trivial⟩ ?_
        refine N.then ?_
        refine E.region ?_
        refine X.mv rfl rfl rfl rfl rfl ?_
        refine X.sl1 rfl rfl rfl rfl rfl rfl Try.underlying38 Try.sz40 (by simp only [List.length_cons]; omega) ?_
        refine X.asg rfl rfl rfl rfl rfl ?_
        refine X.done [(0, _), (1, _), (4, _), (5, _), (6, _), (7, _), (8, _), (9, _), (10, _), (11, _), (12, _), (13, _), (14, _), (15, _), (16, _), (17, _), (18, _), (19, _), (20, _), (21, _), (22, _), (23, _), (24, _), (25, _), (26, _), (27, _), (28, _), (29, _), (30, _), (31, _), (32, _), (41, _), (42, _), (43, _), (44, _), (45, _), (46, _), (47, _), (48, _)] ⟨rfl, rfl, rfl, rfl, rfl, rfl, rfl, rfl, rfl, rfl, rfl, rfl, rfl, rfl, rfl, rfl, rfl, rfl, rfl, rfl, rfl, rfl, rfl, rfl, rfl, rfl, rfl, rfl, rfl, rfl, rfl, rfl, rfl, rfl, rfl, rfl, rfl, rfl, rfl, trivial⟩ ?_
        refine N.blk ?_
        first | (exact N.next (G := fun (q : MS) => _) ⟨xs, _, _, y :: ys, _, _, zs ++ [x], v7⟩ ⟨rfl, rfl, rfl, rfl, trivial⟩ ⟨hX.tail, hY, fun z hz => hsx z (by simp [hz]), hsy, by simp only [List.length_append, List.length_cons, List.length_nil] at hlen ⊢; omega, hO8, by rw [← heq, List.append_assoc]; congr 1; (rw [mg_cons, if_pos (show leE x y = true from decide_eq_true (by assumption))]; rfl), hvb7, hkk7⟩ (by simp only [List.length_cons]; omega)) | (exact N.next (G := fun (q : MS) => _) ⟨x :: xs, _, _, ys, _, _, zs ++ [y], v7⟩ ⟨rfl, rfl, rfl, rfl, trivial⟩ ⟨hX, hY.tail, hsx, fun z hz => hsy z (by simp [hz]), by simp only [List.length_append, List.length_cons, List.length_nil] at hlen ⊢; omega, hO8, by rw [← heq, List.append_assoc]; congr 1; (rw [mg_cons, if_neg (show ¬ leE x y = true from fun h => absurd (of_decide_eq_true h) (by assumption))]; rfl), hvb7, hkk7⟩ (by simp only [List.length_cons]; omega))

end Go.Proofs.Ytjlelcfabfmiaaa