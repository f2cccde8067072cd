/- The walks: whether a tree matches the empty text. -/
import Derived.Test.YtcandjdomeompaaDoorTE
namespace Go.Proofs.YtcandjdomeompaaDoor
open Go.SX Go.Chr
attribute [local irreducible] X E N Ct
set_option linter.unusedVariables false
set_option linter.unusedSimpArgs false
abbrev bvs (d : List Bool) : List Value := d.map Value.bool
theorem bvs_one (d : List Bool) : ∀ u ∈ bvs d, u.oneCell' = true := by
  intro u hu; obtain ⟨x, _, rfl⟩ := List.mem_map.1 hu; rfl
theorem T60 : AppT Tryd.prog 60 60 4 1 1 (.bool false) := ⟨Tryd.underlying60, Tryd.zi4_60, rfl, by decide⟩
theorem rdb {H : Heap} {b c : Nat} {x : Bool} {e : TypeId} (hb : H[b]? = some (.cells ([.bool x] : List Value).toArray e (0, 0))) : Rd H 1 (.slice (some ⟨b, 0, none⟩) 1 c) 1 (bvs [x]) :=
  ⟨rfl, _, _, rfl, .inr ⟨b, 0, _, _, _, rfl, hb, fun j u hj => by rw [Nat.zero_add]; exact hj⟩⟩
theorem nulA_all : ∀ ts : List T, nulA ts = (ts.map nul).all id
  | [] => rfl
  | t :: r => by rw [nulA, nulA_all r]; rfl
theorem nulO_any : ∀ ts : List T, nulO ts = (ts.map nul).any id
  | [] => rfl
  | t :: r => by rw [nulO, nulO_any r]; rfl
def stk (l : List Nd) : List Bool := ((fo l).map nul).reverse
theorem stk_len (l : List Nd) : (stk l).length = (fo l).length := by unfold stk; simp
theorem rev_take {α : Type} (A : List α) (k : Nat) : A.reverse.take (A.length - k) = (A.drop k).reverse := by
  rw [List.take_reverse]
  by_cases h : k ≤ A.length
  · rw [show A.length - (A.length - k) = k by omega]
  · rw [List.drop_eq_nil_of_le (show A.length ≤ k by omega), List.drop_eq_nil_of_le (by omega)]
theorem blk_len (va : Option Addr) (n m c : Nat) : blk (.slice va n c) = blk (.slice va m c) := by cases va <;> rfl
theorem rev_drop {α : Type} (A : List α) (k : Nat) (h : k ≤ A.length) : A.reverse.drop (A.length - k) = (A.take k).reverse := by rw [List.drop_reverse]; congr 2; omega
theorem stk_take {r : List Nd} {k : Nat} : (stk r).take ((fo r).length - k) = (((fo r).drop k).map nul).reverse := by
  unfold stk
  have := rev_take ((fo r).map nul) k
  rw [List.length_map] at this
  rw [this, List.map_drop]
theorem stk_drop {r : List Nd} {k : Nat} (h : k ≤ (fo r).length) : (stk r).drop ((fo r).length - k) = (((fo r).take k).map nul).reverse := by
  unfold stk
  have := rev_drop ((fo r).map nul) k (by simpa using h)
  rw [List.length_map] at this
  rw [this, List.map_take]
theorem stk_cons (x : Nd) (r : List Nd) : stk (x :: r) = (((fo r).drop x.kids.toNat).map nul).reverse ++ [nul (.nd x ((fo r).take x.kids.toNat))] := by
  unfold stk; rw [fo]; simp
theorem all_snoc {e : List Bool} {i : Nat} {b : Bool} (h : e[i]? = some b) : (e.take (i + 1)).all id = ((e.take i).all id && b) := by rw [List.take_add_one, h]; simp
theorem any_snoc {e : List Bool} {i : Nat} {b : Bool} (h : e[i]? = some b) : (e.take (i + 1)).any id = ((e.take i).any id || b) := by rw [List.take_add_one, h]; simp
theorem drop_cons {l : List Nd} {i : Nat} {x : Nd} (h : l[i]? = some x) : l.drop i = x :: l.drop (i + 1) := by
  obtain ⟨h1, e1⟩ := List.getElem?_eq_some_iff.1 h
  rw [List.drop_eq_getElem_cons h1, e1]
section
variable {x : Nd} {ks : List T}
theorem nul_t (h : x.kind = 2 ∨ x.kind = 5 ∨ x.kind = 7) : nul (.nd x ks) = true := by rw [nul, if_pos h]
theorem nul_a (h : x.kind = 3 ∨ x.kind = 6) : nul (.nd x ks) = nulA ks := by rw [nul, if_neg (by omega), if_pos h]
theorem nul_o (h : x.kind = 4) : nul (.nd x ks) = nulO ks := by rw [nul, if_neg (by omega), if_neg (by omega), if_pos h]
theorem nul_r (h : x.kind = 8) : nul (.nd x ks) = (nulA ks || decide (x.low = 0)) := by rw [nul, if_neg (by omega), if_neg (by omega), if_neg (by omega), if_pos h]
theorem nul_f (h : ¬ (x.kind = 2 ∨ x.kind = 5 ∨ x.kind = 7) ∧ ¬ (x.kind = 3 ∨ x.kind = 6) ∧ x.kind ≠ 4 ∧ x.kind ≠ 8) : nul (.nd x ks) = false := by rw [nul, if_neg h.1, if_neg h.2.1, if_neg h.2.2.1, if_neg h.2.2.2]
end
structure SQ where
  k : Nat
  v : Value
structure BQ where
  i : Nat
  al : Bool
  so : Bool
/-- Whether a list is a tree that matches the empty text. -/
def emptyV (l : List Nd) : Bool := decide (chkV l = 0) && (match fo l with | [t] => nul t | _ => false)
theorem emptyV_t {l : List Nd} {t : T} (h : chkV l = 0) (ht : l = flat t) (hw : wf t) : emptyV l = nul t := by
  unfold emptyV; rw [decide_eq_true h, ht, fo_whole hw]; rfl
theorem emptyV_n {l : List Nd} (h : chkV l ≠ 0) : emptyV l = false := by unfold emptyV; rw [decide_eq_false h]; rfl
def RE (l : List Nd) (v : Value) (t : T) : Prop := ∀ (pre post : List Nd) (p : Nat) (H : Heap), l = pre ++ flat t ++ post → pre.length = p → NR H v l → Ct Tryd.prog 17 #[v, i64 (p : Nat)] H fun r H' => r = .bool (nul t) ∧ Kp [] H H'
theorem nulA_take {ks : List T} {i : Nat} {t : T} (h : ks[i]? = some t) : nulA (ks.take (i + 1)) = (nulA (ks.take i) && nul t) := by
  rw [nulA_all, nulA_all, List.map_take, List.map_take]; exact all_snoc (by rw [List.getElem?_map, h]; rfl)
theorem nulO_take {ks : List T} {i : Nat} {t : T} (h : ks[i]? = some t) : nulO (ks.take (i + 1)) = (nulO (ks.take i) || nul t) := by
  rw [nulO_any, nulO_any, List.map_take, List.map_take]; exact any_snoc (by rw [List.getElem?_map, h]; rfl)
theorem nulA_no {ks : List T} {i : Nat} {t : T} (h : ks[i]? = some t) (hn : nul t = false) : nulA ks = false := by
  rw [nulA_all]
  refine Bool.eq_false_iff.2 (fun ha => ?_)
  have := List.all_eq_true.1 ha (nul t) (List.mem_map.2 ⟨t, List.mem_of_getElem? h, rfl⟩)
  rw [hn] at this; cases this
theorem nulO_yes {ks : List T} {i : Nat} {t : T} (h : ks[i]? = some t) (hn : nul t = true) : nulO ks = true := by
  rw [nulO_any]
  exact List.any_eq_true.2 ⟨nul t, List.mem_map.2 ⟨t, List.mem_of_getElem? h, rfl⟩, hn⟩

set_option maxHeartbeats 1600000 in
theorem empty_ct (l : List Nd) (t : T) (a : Option Addr) (c : Nat) (H : Heap) (hN : NR H (.slice a l.length c) l) (hlen : l.length ≤ 1000) (hfo : fo l = [t]) (hw : wfs (fo l)) : Ct Tryd.prog 25 #[(.slice a l.length c)] H fun r H' => r = .bool (nul t) ∧ Kp [] H H' := by
  refine Ct.into 75 Tryd.func25 rfl [(0, (.slice a l.length c))] rfl ⟨rfl, trivial⟩ ?_
  refine E.seq ?_
  refine E.region ?_
  refine X.asg rfl rfl rfl rfl rfl ?_
  refine X.done [(0, _), (2, _)] ⟨rfl, rfl, trivial⟩ ?_
  refine N.then ?_
  refine E.seq ?_
  refine E.region ?_
  refine X.asg rfl rfl rfl rfl rfl ?_
  refine X.done [(0, _), (2, _), (3, _)] ⟨rfl, rfl, rfl, trivial⟩ ?_
  refine N.then ?_
  refine E.seq ?_
  refine E.seq ?_
  refine E.region ?_
  refine X.mv rfl rfl rfl rfl rfl ?_
  refine X.lenS rfl rfl rfl rfl rfl Tryd.underlying22 ?_
  refine X.sbE (zz := ((l.length : Int) - 1)) rfl rfl rfl rfl rfl rfl (by rw [IntWalk.i64_in _ (by omega)] <;> omega) ?_
  refine X.asg rfl rfl rfl rfl rfl ?_
  refine X.done [(0, _), (2, _), (3, _), (4, _)] ⟨rfl, rfl, rfl, rfl, trivial⟩ ?_
  refine N.then ?_
  refine E.block ?_
  refine E.loop (fun (q : SQ) => [(0, (.slice a l.length c)), (2, .bool false), (3, q.v), (4, i64 ((q.k : Int) - 1))]) (fun (q : SQ) H' => q.k ≤ l.length ∧ Own H' 4 1 q.v (stk (l.drop q.k)).length (bvs (stk (l.drop q.k))) ∧ (∀ b ∈ blk q.v, H.size ≤ b) ∧ Kp [] H H') (fun (q : SQ) => q.k) ⟨l.length, .slice none 0 0⟩ ⟨rfl, rfl, rfl, rfl, trivial⟩ ⟨Nat.le_refl _, by rw [List.drop_length]; exact Own.nil _ _ _, by simp [blk], Kp.refl _ _⟩ ?_
  rintro ⟨k, v⟩ H3 hJ
  dsimp only at hJ ⊢
  obtain ⟨hk, hO, hvb, hkk⟩ := hJ
  refine E.seq ?_
  refine E.seq ?_
  refine E.region ?_
  refine X.mv rfl rfl rfl rfl rfl ?_
  refine X.geq rfl rfl rfl rfl rfl rfl ?_
  refine X.done [(0, _), (2, _), (3, _), (4, _), (16, _)] ⟨rfl, rfl, rfl, rfl, rfl, trivial⟩ ?_
  refine N.then ?_
  refine E.condD rfl (fun hc => ?_) (fun hc => ?_)
  · refine E.skip ?_
    refine N.then ?_
    refine E.seq ?_
    refine E.block ?_
    refine E.seq ?_
    obtain ⟨i, rfl⟩ : ∃ i, k = i + 1 := ⟨k - 1, by omega⟩
    rw [show (((i + 1 : Nat) : Int) - 1) = (i : Int) by omega]
    have hN3 := hN.keepN hkk
    have hi2 : i < l.length := by omega
    obtain ⟨x, hx⟩ := get_nd hi2
    obtain ⟨bb, oo, cs, ct, fz, hae, hbb, hcc⟩ := hN3.at hx
    obtain ⟨va, vc, rfl⟩ := hO.len
    have hvl := hO.lt
    have hdc := drop_cons hx
    obtain ⟨hw1, hk1, hk2⟩ := fo_tail (x := x) (r := l.drop (i + 1)) (by rw [← hdc]; exact fo_drop hw i)
    have hsl := stk_len (l.drop (i + 1))
    have hfl := fo_len (l.drop (i + 1))
    rw [List.length_drop] at hfl
    have hoc := hO.cap
    refine E.region ?_
    refine X.mv rfl rfl rfl rfl rfl ?_
    refine X.mv rfl rfl rfl rfl rfl ?_
    refine X.ixAe rfl rfl rfl rfl rfl rfl Tryd.underlying22 Tryd.sz38 (hae) (by omega) ?_
    refine X.ldA rfl rfl rfl rfl Tryd.ag38 Tryd.sz38 (hbb) (ncel_len x) hcc ?_
    refine X.alloc (z := .agg ([.int .i64 0, .int .i64 0, .int .u64 0, .int .u64 0, .int .u64 0, .int .u64 0, .int .i64 0, .int .i64 0] : List Value).toArray) (cs := [.int .i64 0, .int .i64 0, .int .u64 0, .int .u64 0, .int .u64 0, .int .u64 0, .int .i64 0, .int .i64 0]) rfl rfl rfl rfl (by kernel_rfl) rfl ?_
    intro b5 H4 hn4 hb5 hk4
    replace hO := hO.keep hk4 (by simp)
    have hh5 : H.size ≤ b5 := Nat.le_trans hkk.size hn4
    have hne5 : b5 ∉ blk (.slice va (stk (l.drop (i + 1))).length vc) := fun h => by have := hvl b5 h; omega
    replace hkk := hkk.trans hk4 (by simp)
    refine X.stA rfl rfl rfl rfl rfl rfl (ncel_one _) Tryd.sz38 hb5 (by show 0 + 8 ≤ 8; omega) ?_
    intro H6 hb5n hk6
    rw [splice_all (by rfl)] at hb5n
    replace hb5 := hb5n
    have hO6 := hO.keep hk6 (fun b hb h => hne5 (by simp at h; exact h ▸ hb))
    have hkk6 := hkk.trans hk6 (by simp; exact hh5)
    refine X.done [(0, _), (2, _), (3, _), (4, _), (5, _)] ⟨rfl, rfl, rfl, rfl, rfl, trivial⟩ ?_
    refine N.then ?_
    refine E.seq ?_
    refine E.region ?_
    refine X.mv rfl rfl rfl rfl rfl ?_
    refine X.lenS rfl rfl rfl rfl rfl Tryd.underlying60 ?_
    refine X.fld rfl rfl rfl rfl rfl Tryd.off38_1 ?_
    refine X.ld rfl rfl rfl rfl Tryd.ag3 (hb5) (rfl) ?_
    refine X.sbE (zz := ((stk (l.drop (i + 1))).length : Nat) - x.kids) rfl rfl rfl rfl rfl rfl (IntWalk.i64_in _ (by omega)) ?_
    refine X.asg rfl rfl rfl rfl rfl ?_
    refine X.done [(0, _), (2, _), (3, _), (4, _), (5, _), (6, _)] ⟨rfl, rfl, rfl, rfl, rfl, rfl, trivial⟩ ?_
    refine N.then ?_
    refine E.seq ?_
    obtain ⟨n, hn⟩ : ∃ n, n = (fo (l.drop (i + 1))).length - x.kids.toNat := ⟨_, rfl⟩
    rw [show (((stk (l.drop (i + 1))).length : Nat) : Int) - x.kids = ((n : Nat) : Int) by omega]
    have hdr : ((stk (l.drop (i + 1))).drop n) = (((fo (l.drop (i + 1))).take x.kids.toNat).map nul).reverse := by rw [hn]; exact stk_drop hk2
    have htk : ((stk (l.drop (i + 1))).take n) = (((fo (l.drop (i + 1))).drop x.kids.toNat).map nul).reverse := by rw [hn]; exact stk_take
    refine E.region ?_
    refine X.asg rfl rfl rfl rfl rfl ?_
    refine X.asg rfl rfl rfl rfl rfl ?_
    refine X.done [(0, _), (2, _), (3, _), (4, _), (5, _), (6, _), (7, _), (8, _)] ⟨rfl, rfl, rfl, rfl, rfl, rfl, rfl, rfl, trivial⟩ ?_
    refine N.then ?_
    refine E.seq ?_
    refine E.seq ?_
    refine E.region ?_
    refine X.mv rfl rfl rfl rfl rfl ?_
    refine X.mv rfl rfl rfl rfl rfl ?_
    refine X.sl1 rfl rfl rfl rfl rfl rfl Tryd.underlying60 Tryd.sz4 (by omega) ?_
    refine X.lenS rfl rfl rfl rfl rfl Tryd.underlying60 ?_
    refine X.mv rfl rfl rfl rfl rfl ?_
    refine X.done [(0, _), (2, _), (3, _), (4, _), (5, _), (6, _), (7, _), (8, _), (30, _), (31, _), (32, _)] ⟨rfl, rfl, rfl, rfl, rfl, rfl, rfl, rfl, rfl, rfl, rfl, trivial⟩ ?_
    refine N.then ?_
    refine E.block ?_
    refine E.loop (fun (q : BQ) => [(0, (.slice a l.length c)), (2, .bool false), (3, .slice va (stk (l.drop (i + 1))).length vc), (4, i64 (i : Nat)), (5, ptr b5), (6, i64 (n : Nat)), (7, .bool q.al), (8, .bool q.so), (30, .slice (if vc = n then va else va.map (·.add (n * 1))) ((stk (l.drop (i + 1))).length - n) (vc - n)), (31, i64 (((stk (l.drop (i + 1))).length - n : Nat) : Int)), (32, i64 q.i)]) (fun (q : BQ) H' => q.i ≤ (stk (l.drop (i + 1))).length - n ∧ H' = H6 ∧ q.al = (((stk (l.drop (i + 1))).drop n).take q.i).all id ∧ q.so = (((stk (l.drop (i + 1))).drop n).take q.i).any id) (fun (q : BQ) => (stk (l.drop (i + 1))).length - n - q.i) ⟨0, true, false⟩ ⟨rfl, rfl, rfl, rfl, rfl, rfl, rfl, rfl, rfl, rfl, rfl, trivial⟩ ⟨Nat.zero_le _, rfl, rfl, rfl⟩ ?_
    rintro ⟨j, al, so⟩ H7 hJ
    dsimp only at hJ ⊢
    obtain ⟨hj, eH, hal, hso⟩ := hJ
    subst eH
    refine E.seq ?_
    refine E.region ?_
    refine X.lss rfl rfl rfl rfl rfl rfl ?_
    refine X.done [(0, _), (2, _), (3, _), (4, _), (5, _), (6, _), (7, _), (8, _), (30, _), (31, _), (32, _), (33, _)] ⟨rfl, rfl, rfl, rfl, rfl, rfl, rfl, rfl, rfl, rfl, rfl, rfl, trivial⟩ ?_
    refine N.then ?_
    refine E.seq ?_
    refine E.condD rfl (fun hc => ?_) (fun hc => ?_)
    · refine E.skip ?_
      refine N.then ?_
      refine E.seq ?_
      refine E.block ?_
      refine E.seq ?_
      have hj2 : j < (stk (l.drop (i + 1))).length - n := by omega
      obtain ⟨b, hb⟩ : ∃ b, ((stk (l.drop (i + 1))).drop n)[j]? = some b := ⟨_, List.getElem?_eq_getElem (by rw [List.length_drop]; omega)⟩
      have hrd := hO6.rd.drop hO6.cap.1 (p := n) (by omega)
      rw [show (bvs (stk (l.drop (i + 1)))).drop (n * 1) = bvs ((stk (l.drop (i + 1))).drop n) by rw [Nat.mul_one]; exact (List.map_drop ..).symm] at hrd
      obtain ⟨rb, ro, hR, _⟩ := Row1.of_rd hrd
      obtain ⟨hra, rcs, rct, rfz, hrb, hrc⟩ := hR.get j (.bool b) (by rw [List.getElem?_map, hb]; rfl)
      refine E.region ?_
      refine X.ixAe rfl rfl rfl rfl rfl rfl Tryd.underlying60 Tryd.sz4 (hra) (by omega) ?_
      refine X.ld rfl rfl rfl rfl Tryd.ag4 (hrb) (by rw [Int.toNat_natCast, Nat.mul_one]; exact hrc) ?_
      refine X.asg rfl rfl rfl rfl rfl ?_
      refine X.done [(0, _), (2, _), (3, _), (4, _), (5, _), (6, _), (7, _), (8, _), (30, _), (31, _), (32, _), (10, _)] ⟨rfl, rfl, rfl, rfl, rfl, rfl, rfl, rfl, rfl, rfl, rfl, rfl, trivial⟩ ?_
      refine N.then ?_
      refine E.region ?_
      refine X.mv rfl rfl rfl rfl rfl ?_
      cases al
      · refine X.mv rfl rfl rfl rfl rfl ?_
        refine X.skip rfl rfl rfl ?_
        refine X.pickF rfl rfl rfl rfl rfl rfl ?_
        refine X.mv rfl rfl rfl rfl rfl ?_
        cases so
        · refine X.mv rfl rfl rfl rfl rfl ?_
          refine X.mv rfl rfl rfl rfl rfl ?_
          refine X.pickF rfl rfl rfl rfl rfl rfl ?_
          refine X.asg rfl rfl rfl rfl rfl ?_
          refine X.asg rfl rfl rfl rfl rfl ?_
          refine X.done [(0, _), (2, _), (3, _), (4, _), (5, _), (6, _), (7, _), (8, _), (30, _), (31, _), (32, _)] ⟨rfl, rfl, rfl, rfl, rfl, rfl, rfl, rfl, rfl, rfl, rfl, trivial⟩ ?_
          refine N.blk ?_
          refine N.then ?_
          refine E.region ?_
          refine X.addE (zz := ((j + 1 : Nat) : Int)) rfl rfl rfl rfl rfl rfl (by rw [IntWalk.i64_in _ (by omega)] <;> omega) ?_
          refine X.mv rfl rfl rfl rfl rfl ?_
          refine X.done [(0, _), (2, _), (3, _), (4, _), (5, _), (6, _), (7, _), (8, _), (30, _), (31, _), (32, _)] ⟨rfl, rfl, rfl, rfl, rfl, rfl, rfl, rfl, rfl, rfl, rfl, trivial⟩ ?_
          exact N.next (G := fun (q : BQ) => _) ⟨j + 1, _, _⟩ ⟨rfl, rfl, rfl, rfl, rfl, rfl, rfl, rfl, rfl, rfl, rfl, trivial⟩ ⟨by show j + 1 ≤ _; omega, rfl, by rw [all_snoc hb, ← hal] <;> (cases b <;> rfl), by rw [any_snoc hb, ← hso] <;> (cases b <;> rfl)⟩ (by show _ - (j + 1) < _ - j; omega)
        · refine X.mv rfl rfl rfl rfl rfl ?_
          refine X.skip rfl rfl rfl ?_
          refine X.pickT rfl rfl rfl rfl rfl rfl ?_
          refine X.asg rfl rfl rfl rfl rfl ?_
          refine X.asg rfl rfl rfl rfl rfl ?_
          refine X.done [(0, _), (2, _), (3, _), (4, _), (5, _), (6, _), (7, _), (8, _), (30, _), (31, _), (32, _)] ⟨rfl, rfl, rfl, rfl, rfl, rfl, rfl, rfl, rfl, rfl, rfl, trivial⟩ ?_
          refine N.blk ?_
          refine N.then ?_
          refine E.region ?_
          refine X.addE (zz := ((j + 1 : Nat) : Int)) rfl rfl rfl rfl rfl rfl (by rw [IntWalk.i64_in _ (by omega)] <;> omega) ?_
          refine X.mv rfl rfl rfl rfl rfl ?_
          refine X.done [(0, _), (2, _), (3, _), (4, _), (5, _), (6, _), (7, _), (8, _), (30, _), (31, _), (32, _)] ⟨rfl, rfl, rfl, rfl, rfl, rfl, rfl, rfl, rfl, rfl, rfl, trivial⟩ ?_
          exact N.next (G := fun (q : BQ) => _) ⟨j + 1, _, _⟩ ⟨rfl, rfl, rfl, rfl, rfl, rfl, rfl, rfl, rfl, rfl, rfl, trivial⟩ ⟨by show j + 1 ≤ _; omega, rfl, by rw [all_snoc hb, ← hal] <;> (cases b <;> rfl), by rw [any_snoc hb, ← hso] <;> (cases b <;> rfl)⟩ (by show _ - (j + 1) < _ - j; omega)
      · refine X.mv rfl rfl rfl rfl rfl ?_
        refine X.mv rfl rfl rfl rfl rfl ?_
        refine X.pickT rfl rfl rfl rfl rfl rfl ?_
        refine X.mv rfl rfl rfl rfl rfl ?_
        cases so
        · refine X.mv rfl rfl rfl rfl rfl ?_
          refine X.mv rfl rfl rfl rfl rfl ?_
          refine X.pickF rfl rfl rfl rfl rfl rfl ?_
          refine X.asg rfl rfl rfl rfl rfl ?_
          refine X.asg rfl rfl rfl rfl rfl ?_
          refine X.done [(0, _), (2, _), (3, _), (4, _), (5, _), (6, _), (7, _), (8, _), (30, _), (31, _), (32, _)] ⟨rfl, rfl, rfl, rfl, rfl, rfl, rfl, rfl, rfl, rfl, rfl, trivial⟩ ?_
          refine N.blk ?_
          refine N.then ?_
          refine E.region ?_
          refine X.addE (zz := ((j + 1 : Nat) : Int)) rfl rfl rfl rfl rfl rfl (by rw [IntWalk.i64_in _ (by omega)] <;> omega) ?_
          refine X.mv rfl rfl rfl rfl rfl ?_
          refine X.done [(0, _), (2, _), (3, _), (4, _), (5, _), (6, _), (7, _), (8, _), (30, _), (31, _), (32, _)] ⟨rfl, rfl, rfl, rfl, rfl, rfl, rfl, rfl, rfl, rfl, rfl, trivial⟩ ?_
          exact N.next (G := fun (q : BQ) => _) ⟨j + 1, _, _⟩ ⟨rfl, rfl, rfl, rfl, rfl, rfl, rfl, rfl, rfl, rfl, rfl, trivial⟩ ⟨by show j + 1 ≤ _; omega, rfl, by rw [all_snoc hb, ← hal] <;> (cases b <;> rfl), by rw [any_snoc hb, ← hso] <;> (cases b <;> rfl)⟩ (by show _ - (j + 1) < _ - j; omega)
        · refine X.mv rfl rfl rfl rfl rfl ?_
          refine X.skip rfl rfl rfl ?_
          refine X.pickT rfl rfl rfl rfl rfl rfl ?_
          refine X.asg rfl rfl rfl rfl rfl ?_
          refine X.asg rfl rfl rfl rfl rfl ?_
          refine X.done [(0, _), (2, _), (3, _), (4, _), (5, _), (6, _), (7, _), (8, _), (30, _), (31, _), (32, _)] ⟨rfl, rfl, rfl, rfl, rfl, rfl, rfl, rfl, rfl, rfl, rfl, trivial⟩ ?_
          refine N.blk ?_
          refine N.then ?_
          refine E.region ?_
          refine X.addE (zz := ((j + 1 : Nat) : Int)) rfl rfl rfl rfl rfl rfl (by rw [IntWalk.i64_in _ (by omega)] <;> omega) ?_
          refine X.mv rfl rfl rfl rfl rfl ?_
          refine X.done [(0, _), (2, _), (3, _), (4, _), (5, _), (6, _), (7, _), (8, _), (30, _), (31, _), (32, _)] ⟨rfl, rfl, rfl, rfl, rfl, rfl, rfl, rfl, rfl, rfl, rfl, trivial⟩ ?_
          exact N.next (G := fun (q : BQ) => _) ⟨j + 1, _, _⟩ ⟨rfl, rfl, rfl, rfl, rfl, rfl, rfl, rfl, rfl, rfl, rfl, trivial⟩ ⟨by show j + 1 ≤ _; omega, rfl, by rw [all_snoc hb, ← hal] <;> (cases b <;> rfl), by rw [any_snoc hb, ← hso] <;> (cases b <;> rfl)⟩ (by show _ - (j + 1) < _ - j; omega)
    · refine E.exit ?_
      refine N.thenX ?_
      refine N.loopX ?_
      refine N.blkX ?_
      refine N.then ?_
      refine E.seq ?_
      obtain rfl : j = (stk (l.drop (i + 1))).length - n := by omega
      rw [List.take_of_length_le (by rw [List.length_drop]; omega), hdr, List.all_reverse, ← nulA_all] at hal
      rw [List.take_of_length_le (by rw [List.length_drop]; omega), hdr, List.any_reverse, ← nulO_any] at hso
      obtain ⟨ks, hks⟩ : ∃ ks, (fo (l.drop (i + 1))).take x.kids.toNat = ks := ⟨_, rfl⟩
      rw [hks] at hal hso
      refine E.region ?_
      refine X.asg rfl rfl rfl rfl rfl ?_
      refine X.done [(0, _), (2, _), (3, _), (4, _), (5, _), (6, _), (7, _), (8, _), (11, _)] ⟨rfl, rfl, rfl, rfl, rfl, rfl, rfl, rfl, rfl, trivial⟩ ?_
      refine N.then ?_
      refine E.seq ?_
      refine E.seq ?_
      refine E.region ?_
      refine X.fld rfl rfl rfl rfl rfl Tryd.off38_0 ?_
      refine X.ld rfl rfl rfl rfl Tryd.ag3 (hb5) (rfl) ?_
      refine X.done [(0, _), (2, _), (3, _), (4, _), (5, _), (6, _), (7, _), (8, _), (11, _), (46, _)] ⟨rfl, rfl, rfl, rfl, rfl, rfl, rfl, rfl, rfl, rfl, trivial⟩ ?_
      refine N.then ?_
      refine E.block ?_
      refine E.seq ?_
      refine E.seq ?_
      refine E.region ?_
      refine X.eql rfl rfl rfl rfl rfl rfl ?_
      rcases Decidable.em (x.kind = 2) with hz2 | hz2
      rw [decide_eq_true hz2]
      rotate_left
      rw [decide_eq_false hz2]
      rotate_left
      · refine X.asg rfl rfl rfl rfl rfl ?_
        refine X.done [(0, _), (2, _), (3, _), (4, _), (5, _), (6, _), (7, _), (8, _), (11, _), (46, _), (47, _)] ⟨rfl, rfl, rfl, rfl, rfl, rfl, rfl, rfl, rfl, rfl, rfl, trivial⟩ ?_
        refine N.then ?_
        refine E.condT rfl ?_
        refine E.skip ?_
        refine N.then ?_
        refine E.condT rfl ?_
        refine E.region ?_
        refine X.asg rfl rfl rfl rfl rfl ?_
        refine X.done [(0, _), (2, _), (3, _), (4, _), (6, _), (11, _)] ⟨rfl, rfl, rfl, rfl, rfl, rfl, trivial⟩ ?_
        refine N.blk ?_
        refine N.then ?_
        refine E.region ?_
        refine X.mv rfl rfl rfl rfl rfl ?_
        refine X.mv rfl rfl rfl rfl rfl ?_
        refine X.sl2 rfl rfl rfl rfl rfl rfl Tryd.underlying60 Tryd.is4 (by omega) ?_
        refine X.mv rfl rfl rfl rfl rfl ?_
        first
          | (have hnu : true = nul (.nd x ks) := (nul_t (by omega)).symm
             refine X.lit (e := 4) (cs := [.bool (nul (.nd x ks))]) rfl rfl rfl rfl rfl (fun _ => by rw [← hnu]; kernel_rfl) ?_)
          | (have hnu : al = nul (.nd x ks) := by rw [nul_a (by omega)]; exact hal
             refine X.lit (e := 4) (cs := [.bool (nul (.nd x ks))]) rfl rfl rfl rfl rfl (fun _ => by rw [← hnu]; kernel_rfl) ?_)
          | (have hnu : so = nul (.nd x ks) := by rw [nul_o (by omega)]; exact hso
             refine X.lit (e := 4) (cs := [.bool (nul (.nd x ks))]) rfl rfl rfl rfl rfl (fun _ => by rw [← hnu]; kernel_rfl) ?_)
          | (have hnu : true = nul (.nd x ks) := by rw [nul_r (by omega), ← hal]; rfl
             refine X.lit (e := 4) (cs := [.bool (nul (.nd x ks))]) rfl rfl rfl rfl rfl (fun _ => by rw [← hnu]; kernel_rfl) ?_)
          | (have hnu : decide (x.low = 0) = nul (.nd x ks) := by rw [nul_r (by omega), ← hal]; rfl
             refine X.lit (e := 4) (cs := [.bool (nul (.nd x ks))]) rfl rfl rfl rfl rfl (fun _ => by rw [← hnu]; kernel_rfl) ?_)
          | (have hnu : false = nul (.nd x ks) := (nul_f (by omega)).symm
             refine X.lit (e := 4) (cs := [.bool (nul (.nd x ks))]) rfl rfl rfl rfl rfl (fun _ => by rw [← hnu]; kernel_rfl) ?_)
        intro b6 H8 hn8 hb6 hk8
        have hO8 := (hO6.take (q := n) (by omega)).keep hk8 (by simp)
        have hkk8 := hkk6.trans hk8 (by simp)
        refine X.app T60 rfl rfl rfl rfl rfl rfl (hO8) (by exact .inl (rdb hb6)) (.inl ⟨4, Tryd.underlying60, _, _, rfl⟩) (bvs_one _) (by first | (simp only [maxLen]; omega) | omega) (by first | (simp only [maxLen]; omega) | omega) ?_
        intro v9 H9 hO9 hk9 hb9 hn9
        have hkk9 := hkk8.trans hk9 (fun b hb => .inr (hvb b (by rw [blk_len va _ n vc]; exact hb)))
        have hvb9 : ∀ b ∈ blk v9, H.size ≤ b := fun b hb => hb9.elim (fun h => hvb b (by rw [h] at hb; rw [blk_len va _ n vc]; exact hb)) (fun h => Nat.le_trans hkk8.size (h b hb))
        have hst : stk (l.drop i) = (stk (l.drop (i + 1))).take n ++ [nul (.nd x ks)] := by rw [hdc, stk_cons, htk, hks]
        replace hO9 : Own H9 4 1 v9 (stk (l.drop i)).length (bvs (stk (l.drop i))) := by
          rw [hst, List.length_append, List.length_take, show min n (stk (l.drop (i + 1))).length = n by omega]
          have e : bvs ((stk (l.drop (i + 1))).take n ++ [nul (.nd x ks)]) = (bvs (stk (l.drop (i + 1)))).take (n * 1) ++ bvs [nul (.nd x ks)] := by rw [Nat.mul_one]; show List.map _ _ = _; rw [List.map_append, List.map_take]
          rw [e]; exact hO9
        refine X.asg rfl rfl rfl rfl rfl ?_
        refine X.done [(0, _), (2, _), (3, _), (4, _)] ⟨rfl, rfl, rfl, rfl, trivial⟩ ?_
        refine N.blk ?_
        refine N.then ?_
        refine E.region ?_
        refine X.mv rfl rfl rfl rfl rfl ?_
        refine X.sbE (zz := ((i : Int) - 1)) rfl rfl rfl rfl rfl rfl (by rw [IntWalk.i64_in _ (by omega)] <;> omega) ?_
        refine X.asg rfl rfl rfl rfl rfl ?_
        refine X.done [(0, _), (2, _), (3, _), (4, _)] ⟨rfl, rfl, rfl, rfl, trivial⟩ ?_
        exact N.next (G := fun (q : SQ) => _) ⟨i, v9⟩ ⟨rfl, rfl, rfl, rfl, trivial⟩ ⟨by show i ≤ l.length; omega, hO9, hvb9, hkk9⟩ (by show i < i + 1; omega)
      · refine X.asg rfl rfl rfl rfl rfl ?_
        refine X.done [(0, _), (2, _), (3, _), (4, _), (5, _), (6, _), (7, _), (8, _), (11, _), (46, _), (47, _)] ⟨rfl, rfl, rfl, rfl, rfl, rfl, rfl, rfl, rfl, rfl, rfl, trivial⟩ ?_
        refine N.then ?_
        refine E.condF rfl ?_
        refine E.seq ?_
        refine E.region ?_
        refine X.eql rfl rfl rfl rfl rfl rfl ?_
        rcases Decidable.em (x.kind = 5) with hz5 | hz5
        rw [decide_eq_true hz5]
        rotate_left
        rw [decide_eq_false hz5]
        rotate_left
        · refine X.asg rfl rfl rfl rfl rfl ?_
          refine X.done [(0, _), (2, _), (3, _), (4, _), (5, _), (6, _), (7, _), (8, _), (11, _), (46, _), (47, _)] ⟨rfl, rfl, rfl, rfl, rfl, rfl, rfl, rfl, rfl, rfl, rfl, trivial⟩ ?_
          refine N.then ?_
          refine E.condT rfl ?_
          refine E.skip ?_
          refine N.then ?_
          refine E.condT rfl ?_
          refine E.region ?_
          refine X.asg rfl rfl rfl rfl rfl ?_
          refine X.done [(0, _), (2, _), (3, _), (4, _), (6, _), (11, _)] ⟨rfl, rfl, rfl, rfl, rfl, rfl, trivial⟩ ?_
          refine N.blk ?_
          refine N.then ?_
          refine E.region ?_
          refine X.mv rfl rfl rfl rfl rfl ?_
          refine X.mv rfl rfl rfl rfl rfl ?_
          refine X.sl2 rfl rfl rfl rfl rfl rfl Tryd.underlying60 Tryd.is4 (by omega) ?_
          refine X.mv rfl rfl rfl rfl rfl ?_
          first
            | (have hnu : true = nul (.nd x ks) := (nul_t (by omega)).symm
               refine X.lit (e := 4) (cs := [.bool (nul (.nd x ks))]) rfl rfl rfl rfl rfl (fun _ => by rw [← hnu]; kernel_rfl) ?_)
            | (have hnu : al = nul (.nd x ks) := by rw [nul_a (by omega)]; exact hal
               refine X.lit (e := 4) (cs := [.bool (nul (.nd x ks))]) rfl rfl rfl rfl rfl (fun _ => by rw [← hnu]; kernel_rfl) ?_)
            | (have hnu : so = nul (.nd x ks) := by rw [nul_o (by omega)]; exact hso
               refine X.lit (e := 4) (cs := [.bool (nul (.nd x ks))]) rfl rfl rfl rfl rfl (fun _ => by rw [← hnu]; kernel_rfl) ?_)
            | (have hnu : true = nul (.nd x ks) := by rw [nul_r (by omega), ← hal]; rfl
               refine X.lit (e := 4) (cs := [.bool (nul (.nd x ks))]) rfl rfl rfl rfl rfl (fun _ => by rw [← hnu]; kernel_rfl) ?_)
            | (have hnu : decide (x.low = 0) = nul (.nd x ks) := by rw [nul_r (by omega), ← hal]; rfl
               refine X.lit (e := 4) (cs := [.bool (nul (.nd x ks))]) rfl rfl rfl rfl rfl (fun _ => by rw [← hnu]; kernel_rfl) ?_)
            | (have hnu : false = nul (.nd x ks) := (nul_f (by omega)).symm
               refine X.lit (e := 4) (cs := [.bool (nul (.nd x ks))]) rfl rfl rfl rfl rfl (fun _ => by rw [← hnu]; kernel_rfl) ?_)
          intro b6 H8 hn8 hb6 hk8
          have hO8 := (hO6.take (q := n) (by omega)).keep hk8 (by simp)
          have hkk8 := hkk6.trans hk8 (by simp)
          refine X.app T60 rfl rfl rfl rfl rfl rfl (hO8) (by exact .inl (rdb hb6)) (.inl ⟨4, Tryd.underlying60, _, _, rfl⟩) (bvs_one _) (by first | (simp only [maxLen]; omega) | omega) (by first | (simp only [maxLen]; omega) | omega) ?_
          intro v9 H9 hO9 hk9 hb9 hn9
          have hkk9 := hkk8.trans hk9 (fun b hb => .inr (hvb b (by rw [blk_len va _ n vc]; exact hb)))
          have hvb9 : ∀ b ∈ blk v9, H.size ≤ b := fun b hb => hb9.elim (fun h => hvb b (by rw [h] at hb; rw [blk_len va _ n vc]; exact hb)) (fun h => Nat.le_trans hkk8.size (h b hb))
          have hst : stk (l.drop i) = (stk (l.drop (i + 1))).take n ++ [nul (.nd x ks)] := by rw [hdc, stk_cons, htk, hks]
          replace hO9 : Own H9 4 1 v9 (stk (l.drop i)).length (bvs (stk (l.drop i))) := by
            rw [hst, List.length_append, List.length_take, show min n (stk (l.drop (i + 1))).length = n by omega]
            have e : bvs ((stk (l.drop (i + 1))).take n ++ [nul (.nd x ks)]) = (bvs (stk (l.drop (i + 1)))).take (n * 1) ++ bvs [nul (.nd x ks)] := by rw [Nat.mul_one]; show List.map _ _ = _; rw [List.map_append, List.map_take]
            rw [e]; exact hO9
          refine X.asg rfl rfl rfl rfl rfl ?_
          refine X.done [(0, _), (2, _), (3, _), (4, _)] ⟨rfl, rfl, rfl, rfl, trivial⟩ ?_
          refine N.blk ?_
          refine N.then ?_
          refine E.region ?_
          refine X.mv rfl rfl rfl rfl rfl ?_
          refine X.sbE (zz := ((i : Int) - 1)) rfl rfl rfl rfl rfl rfl (by rw [IntWalk.i64_in _ (by omega)] <;> omega) ?_
          refine X.asg rfl rfl rfl rfl rfl ?_
          refine X.done [(0, _), (2, _), (3, _), (4, _)] ⟨rfl, rfl, rfl, rfl, trivial⟩ ?_
          exact N.next (G := fun (q : SQ) => _) ⟨i, v9⟩ ⟨rfl, rfl, rfl, rfl, trivial⟩ ⟨by show i ≤ l.length; omega, hO9, hvb9, hkk9⟩ (by show i < i + 1; omega)
        · refine X.asg rfl rfl rfl rfl rfl ?_
          refine X.done [(0, _), (2, _), (3, _), (4, _), (5, _), (6, _), (7, _), (8, _), (11, _), (46, _), (47, _)] ⟨rfl, rfl, rfl, rfl, rfl, rfl, rfl, rfl, rfl, rfl, rfl, trivial⟩ ?_
          refine N.then ?_
          refine E.condF rfl ?_
          refine E.region ?_
          refine X.eql rfl rfl rfl rfl rfl rfl ?_
          rcases Decidable.em (x.kind = 7) with hz7 | hz7
          rw [decide_eq_true hz7]
          rotate_left
          rw [decide_eq_false hz7]
          rotate_left
          · refine X.asg rfl rfl rfl rfl rfl ?_
            refine X.done [(0, _), (2, _), (3, _), (4, _), (5, _), (6, _), (7, _), (8, _), (11, _), (46, _), (47, _)] ⟨rfl, rfl, rfl, rfl, rfl, rfl, rfl, rfl, rfl, rfl, rfl, trivial⟩ ?_
            refine N.then ?_
            refine E.condT rfl ?_
            refine E.region ?_
            refine X.asg rfl rfl rfl rfl rfl ?_
            refine X.done [(0, _), (2, _), (3, _), (4, _), (6, _), (11, _)] ⟨rfl, rfl, rfl, rfl, rfl, rfl, trivial⟩ ?_
            refine N.blk ?_
            refine N.then ?_
            refine E.region ?_
            refine X.mv rfl rfl rfl rfl rfl ?_
            refine X.mv rfl rfl rfl rfl rfl ?_
            refine X.sl2 rfl rfl rfl rfl rfl rfl Tryd.underlying60 Tryd.is4 (by omega) ?_
            refine X.mv rfl rfl rfl rfl rfl ?_
            first
              | (have hnu : true = nul (.nd x ks) := (nul_t (by omega)).symm
                 refine X.lit (e := 4) (cs := [.bool (nul (.nd x ks))]) rfl rfl rfl rfl rfl (fun _ => by rw [← hnu]; kernel_rfl) ?_)
              | (have hnu : al = nul (.nd x ks) := by rw [nul_a (by omega)]; exact hal
                 refine X.lit (e := 4) (cs := [.bool (nul (.nd x ks))]) rfl rfl rfl rfl rfl (fun _ => by rw [← hnu]; kernel_rfl) ?_)
              | (have hnu : so = nul (.nd x ks) := by rw [nul_o (by omega)]; exact hso
                 refine X.lit (e := 4) (cs := [.bool (nul (.nd x ks))]) rfl rfl rfl rfl rfl (fun _ => by rw [← hnu]; kernel_rfl) ?_)
              | (have hnu : true = nul (.nd x ks) := by rw [nul_r (by omega), ← hal]; rfl
                 refine X.lit (e := 4) (cs := [.bool (nul (.nd x ks))]) rfl rfl rfl rfl rfl (fun _ => by rw [← hnu]; kernel_rfl) ?_)
              | (have hnu : decide (x.low = 0) = nul (.nd x ks) := by rw [nul_r (by omega), ← hal]; rfl
                 refine X.lit (e := 4) (cs := [.bool (nul (.nd x ks))]) rfl rfl rfl rfl rfl (fun _ => by rw [← hnu]; kernel_rfl) ?_)
              | (have hnu : false = nul (.nd x ks) := (nul_f (by omega)).symm
                 refine X.lit (e := 4) (cs := [.bool (nul (.nd x ks))]) rfl rfl rfl rfl rfl (fun _ => by rw [← hnu]; kernel_rfl) ?_)
            intro b6 H8 hn8 hb6 hk8
            have hO8 := (hO6.take (q := n) (by omega)).keep hk8 (by simp)
            have hkk8 := hkk6.trans hk8 (by simp)
            refine X.app T60 rfl rfl rfl rfl rfl rfl (hO8) (by exact .inl (rdb hb6)) (.inl ⟨4, Tryd.underlying60, _, _, rfl⟩) (bvs_one _) (by first | (simp only [maxLen]; omega) | omega) (by first | (simp only [maxLen]; omega) | omega) ?_
            intro v9 H9 hO9 hk9 hb9 hn9
            have hkk9 := hkk8.trans hk9 (fun b hb => .inr (hvb b (by rw [blk_len va _ n vc]; exact hb)))
            have hvb9 : ∀ b ∈ blk v9, H.size ≤ b := fun b hb => hb9.elim (fun h => hvb b (by rw [h] at hb; rw [blk_len va _ n vc]; exact hb)) (fun h => Nat.le_trans hkk8.size (h b hb))
            have hst : stk (l.drop i) = (stk (l.drop (i + 1))).take n ++ [nul (.nd x ks)] := by rw [hdc, stk_cons, htk, hks]
            replace hO9 : Own H9 4 1 v9 (stk (l.drop i)).length (bvs (stk (l.drop i))) := by
              rw [hst, List.length_append, List.length_take, show min n (stk (l.drop (i + 1))).length = n by omega]
              have e : bvs ((stk (l.drop (i + 1))).take n ++ [nul (.nd x ks)]) = (bvs (stk (l.drop (i + 1)))).take (n * 1) ++ bvs [nul (.nd x ks)] := by rw [Nat.mul_one]; show List.map _ _ = _; rw [List.map_append, List.map_take]
              rw [e]; exact hO9
            refine X.asg rfl rfl rfl rfl rfl ?_
            refine X.done [(0, _), (2, _), (3, _), (4, _)] ⟨rfl, rfl, rfl, rfl, trivial⟩ ?_
            refine N.blk ?_
            refine N.then ?_
            refine E.region ?_
            refine X.mv rfl rfl rfl rfl rfl ?_
            refine X.sbE (zz := ((i : Int) - 1)) rfl rfl rfl rfl rfl rfl (by rw [IntWalk.i64_in _ (by omega)] <;> omega) ?_
            refine X.asg rfl rfl rfl rfl rfl ?_
            refine X.done [(0, _), (2, _), (3, _), (4, _)] ⟨rfl, rfl, rfl, rfl, trivial⟩ ?_
            exact N.next (G := fun (q : SQ) => _) ⟨i, v9⟩ ⟨rfl, rfl, rfl, rfl, trivial⟩ ⟨by show i ≤ l.length; omega, hO9, hvb9, hkk9⟩ (by show i < i + 1; omega)
          · refine X.asg rfl rfl rfl rfl rfl ?_
            refine X.done [(0, _), (2, _), (3, _), (4, _), (5, _), (6, _), (7, _), (8, _), (11, _), (46, _), (47, _)] ⟨rfl, rfl, rfl, rfl, rfl, rfl, rfl, rfl, rfl, rfl, rfl, trivial⟩ ?_
            refine N.then ?_
            refine E.condF rfl ?_
            refine E.seq ?_
            refine E.seq ?_
            refine E.region ?_
            refine X.eql rfl rfl rfl rfl rfl rfl ?_
            rcases Decidable.em (x.kind = 3) with hz3 | hz3
            rw [decide_eq_true hz3]
            rotate_left
            rw [decide_eq_false hz3]
            rotate_left
            · refine X.asg rfl rfl rfl rfl rfl ?_
              refine X.done [(0, _), (2, _), (3, _), (4, _), (5, _), (6, _), (7, _), (8, _), (11, _), (46, _), (51, _)] ⟨rfl, rfl, rfl, rfl, rfl, rfl, rfl, rfl, rfl, rfl, rfl, trivial⟩ ?_
              refine N.then ?_
              refine E.condT rfl ?_
              refine E.skip ?_
              refine N.then ?_
              refine E.condT rfl ?_
              refine E.region ?_
              refine X.mv rfl rfl rfl rfl rfl ?_
              refine X.asg rfl rfl rfl rfl rfl ?_
              refine X.done [(0, _), (2, _), (3, _), (4, _), (6, _), (11, _)] ⟨rfl, rfl, rfl, rfl, rfl, rfl, trivial⟩ ?_
              refine N.blk ?_
              refine N.then ?_
              refine E.region ?_
              refine X.mv rfl rfl rfl rfl rfl ?_
              refine X.mv rfl rfl rfl rfl rfl ?_
              refine X.sl2 rfl rfl rfl rfl rfl rfl Tryd.underlying60 Tryd.is4 (by omega) ?_
              refine X.mv rfl rfl rfl rfl rfl ?_
              first
                | (have hnu : true = nul (.nd x ks) := (nul_t (by omega)).symm
                   refine X.lit (e := 4) (cs := [.bool (nul (.nd x ks))]) rfl rfl rfl rfl rfl (fun _ => by rw [← hnu]; kernel_rfl) ?_)
                | (have hnu : al = nul (.nd x ks) := by rw [nul_a (by omega)]; exact hal
                   refine X.lit (e := 4) (cs := [.bool (nul (.nd x ks))]) rfl rfl rfl rfl rfl (fun _ => by rw [← hnu]; kernel_rfl) ?_)
                | (have hnu : so = nul (.nd x ks) := by rw [nul_o (by omega)]; exact hso
                   refine X.lit (e := 4) (cs := [.bool (nul (.nd x ks))]) rfl rfl rfl rfl rfl (fun _ => by rw [← hnu]; kernel_rfl) ?_)
                | (have hnu : true = nul (.nd x ks) := by rw [nul_r (by omega), ← hal]; rfl
                   refine X.lit (e := 4) (cs := [.bool (nul (.nd x ks))]) rfl rfl rfl rfl rfl (fun _ => by rw [← hnu]; kernel_rfl) ?_)
                | (have hnu : decide (x.low = 0) = nul (.nd x ks) := by rw [nul_r (by omega), ← hal]; rfl
                   refine X.lit (e := 4) (cs := [.bool (nul (.nd x ks))]) rfl rfl rfl rfl rfl (fun _ => by rw [← hnu]; kernel_rfl) ?_)
                | (have hnu : false = nul (.nd x ks) := (nul_f (by omega)).symm
                   refine X.lit (e := 4) (cs := [.bool (nul (.nd x ks))]) rfl rfl rfl rfl rfl (fun _ => by rw [← hnu]; kernel_rfl) ?_)
              intro b6 H8 hn8 hb6 hk8
              have hO8 := (hO6.take (q := n) (by omega)).keep hk8 (by simp)
              have hkk8 := hkk6.trans hk8 (by simp)
              refine X.app T60 rfl rfl rfl rfl rfl rfl (hO8) (by exact .inl (rdb hb6)) (.inl ⟨4, Tryd.underlying60, _, _, rfl⟩) (bvs_one _) (by first | (simp only [maxLen]; omega) | omega) (by first | (simp only [maxLen]; omega) | omega) ?_
              intro v9 H9 hO9 hk9 hb9 hn9
              have hkk9 := hkk8.trans hk9 (fun b hb => .inr (hvb b (by rw [blk_len va _ n vc]; exact hb)))
              have hvb9 : ∀ b ∈ blk v9, H.size ≤ b := fun b hb => hb9.elim (fun h => hvb b (by rw [h] at hb; rw [blk_len va _ n vc]; exact hb)) (fun h => Nat.le_trans hkk8.size (h b hb))
              have hst : stk (l.drop i) = (stk (l.drop (i + 1))).take n ++ [nul (.nd x ks)] := by rw [hdc, stk_cons, htk, hks]
              replace hO9 : Own H9 4 1 v9 (stk (l.drop i)).length (bvs (stk (l.drop i))) := by
                rw [hst, List.length_append, List.length_take, show min n (stk (l.drop (i + 1))).length = n by omega]
                have e : bvs ((stk (l.drop (i + 1))).take n ++ [nul (.nd x ks)]) = (bvs (stk (l.drop (i + 1)))).take (n * 1) ++ bvs [nul (.nd x ks)] := by rw [Nat.mul_one]; show List.map _ _ = _; rw [List.map_append, List.map_take]
                rw [e]; exact hO9
              refine X.asg rfl rfl rfl rfl rfl ?_
              refine X.done [(0, _), (2, _), (3, _), (4, _)] ⟨rfl, rfl, rfl, rfl, trivial⟩ ?_
              refine N.blk ?_
              refine N.then ?_
              refine E.region ?_
              refine X.mv rfl rfl rfl rfl rfl ?_
              refine X.sbE (zz := ((i : Int) - 1)) rfl rfl rfl rfl rfl rfl (by rw [IntWalk.i64_in _ (by omega)] <;> omega) ?_
              refine X.asg rfl rfl rfl rfl rfl ?_
              refine X.done [(0, _), (2, _), (3, _), (4, _)] ⟨rfl, rfl, rfl, rfl, trivial⟩ ?_
              exact N.next (G := fun (q : SQ) => _) ⟨i, v9⟩ ⟨rfl, rfl, rfl, rfl, trivial⟩ ⟨by show i ≤ l.length; omega, hO9, hvb9, hkk9⟩ (by show i < i + 1; omega)
            · refine X.asg rfl rfl rfl rfl rfl ?_
              refine X.done [(0, _), (2, _), (3, _), (4, _), (5, _), (6, _), (7, _), (8, _), (11, _), (46, _), (51, _)] ⟨rfl, rfl, rfl, rfl, rfl, rfl, rfl, rfl, rfl, rfl, rfl, trivial⟩ ?_
              refine N.then ?_
              refine E.condF rfl ?_
              refine E.region ?_
              refine X.eql rfl rfl rfl rfl rfl rfl ?_
              rcases Decidable.em (x.kind = 6) with hz6 | hz6
              rw [decide_eq_true hz6]
              rotate_left
              rw [decide_eq_false hz6]
              rotate_left
              · refine X.asg rfl rfl rfl rfl rfl ?_
                refine X.done [(0, _), (2, _), (3, _), (4, _), (5, _), (6, _), (7, _), (8, _), (11, _), (46, _), (51, _)] ⟨rfl, rfl, rfl, rfl, rfl, rfl, rfl, rfl, rfl, rfl, rfl, trivial⟩ ?_
                refine N.then ?_
                refine E.condT rfl ?_
                refine E.region ?_
                refine X.mv rfl rfl rfl rfl rfl ?_
                refine X.asg rfl rfl rfl rfl rfl ?_
                refine X.done [(0, _), (2, _), (3, _), (4, _), (6, _), (11, _)] ⟨rfl, rfl, rfl, rfl, rfl, rfl, trivial⟩ ?_
                refine N.blk ?_
                refine N.then ?_
                refine E.region ?_
                refine X.mv rfl rfl rfl rfl rfl ?_
                refine X.mv rfl rfl rfl rfl rfl ?_
                refine X.sl2 rfl rfl rfl rfl rfl rfl Tryd.underlying60 Tryd.is4 (by omega) ?_
                refine X.mv rfl rfl rfl rfl rfl ?_
                first
                  | (have hnu : true = nul (.nd x ks) := (nul_t (by omega)).symm
                     refine X.lit (e := 4) (cs := [.bool (nul (.nd x ks))]) rfl rfl rfl rfl rfl (fun _ => by rw [← hnu]; kernel_rfl) ?_)
                  | (have hnu : al = nul (.nd x ks) := by rw [nul_a (by omega)]; exact hal
                     refine X.lit (e := 4) (cs := [.bool (nul (.nd x ks))]) rfl rfl rfl rfl rfl (fun _ => by rw [← hnu]; kernel_rfl) ?_)
                  | (have hnu : so = nul (.nd x ks) := by rw [nul_o (by omega)]; exact hso
                     refine X.lit (e := 4) (cs := [.bool (nul (.nd x ks))]) rfl rfl rfl rfl rfl (fun _ => by rw [← hnu]; kernel_rfl) ?_)
                  | (have hnu : true = nul (.nd x ks) := by rw [nul_r (by omega), ← hal]; rfl
                     refine X.lit (e := 4) (cs := [.bool (nul (.nd x ks))]) rfl rfl rfl rfl rfl (fun _ => by rw [← hnu]; kernel_rfl) ?_)
                  | (have hnu : decide (x.low = 0) = nul (.nd x ks) := by rw [nul_r (by omega), ← hal]; rfl
                     refine X.lit (e := 4) (cs := [.bool (nul (.nd x ks))]) rfl rfl rfl rfl rfl (fun _ => by rw [← hnu]; kernel_rfl) ?_)
                  | (have hnu : false = nul (.nd x ks) := (nul_f (by omega)).symm
                     refine X.lit (e := 4) (cs := [.bool (nul (.nd x ks))]) rfl rfl rfl rfl rfl (fun _ => by rw [← hnu]; kernel_rfl) ?_)
                intro b6 H8 hn8 hb6 hk8
                have hO8 := (hO6.take (q := n) (by omega)).keep hk8 (by simp)
                have hkk8 := hkk6.trans hk8 (by simp)
                refine X.app T60 rfl rfl rfl rfl rfl rfl (hO8) (by exact .inl (rdb hb6)) (.inl ⟨4, Tryd.underlying60, _, _, rfl⟩) (bvs_one _) (by first | (simp only [maxLen]; omega) | omega) (by first | (simp only [maxLen]; omega) | omega) ?_
                intro v9 H9 hO9 hk9 hb9 hn9
                have hkk9 := hkk8.trans hk9 (fun b hb => .inr (hvb b (by rw [blk_len va _ n vc]; exact hb)))
                have hvb9 : ∀ b ∈ blk v9, H.size ≤ b := fun b hb => hb9.elim (fun h => hvb b (by rw [h] at hb; rw [blk_len va _ n vc]; exact hb)) (fun h => Nat.le_trans hkk8.size (h b hb))
                have hst : stk (l.drop i) = (stk (l.drop (i + 1))).take n ++ [nul (.nd x ks)] := by rw [hdc, stk_cons, htk, hks]
                replace hO9 : Own H9 4 1 v9 (stk (l.drop i)).length (bvs (stk (l.drop i))) := by
                  rw [hst, List.length_append, List.length_take, show min n (stk (l.drop (i + 1))).length = n by omega]
                  have e : bvs ((stk (l.drop (i + 1))).take n ++ [nul (.nd x ks)]) = (bvs (stk (l.drop (i + 1)))).take (n * 1) ++ bvs [nul (.nd x ks)] := by rw [Nat.mul_one]; show List.map _ _ = _; rw [List.map_append, List.map_take]
                  rw [e]; exact hO9
                refine X.asg rfl rfl rfl rfl rfl ?_
                refine X.done [(0, _), (2, _), (3, _), (4, _)] ⟨rfl, rfl, rfl, rfl, trivial⟩ ?_
                refine N.blk ?_
                refine N.then ?_
                refine E.region ?_
                refine X.mv rfl rfl rfl rfl rfl ?_
                refine X.sbE (zz := ((i : Int) - 1)) rfl rfl rfl rfl rfl rfl (by rw [IntWalk.i64_in _ (by omega)] <;> omega) ?_
                refine X.asg rfl rfl rfl rfl rfl ?_
                refine X.done [(0, _), (2, _), (3, _), (4, _)] ⟨rfl, rfl, rfl, rfl, trivial⟩ ?_
                exact N.next (G := fun (q : SQ) => _) ⟨i, v9⟩ ⟨rfl, rfl, rfl, rfl, trivial⟩ ⟨by show i ≤ l.length; omega, hO9, hvb9, hkk9⟩ (by show i < i + 1; omega)
              · refine X.asg rfl rfl rfl rfl rfl ?_
                refine X.done [(0, _), (2, _), (3, _), (4, _), (5, _), (6, _), (7, _), (8, _), (11, _), (46, _), (51, _)] ⟨rfl, rfl, rfl, rfl, rfl, rfl, rfl, rfl, rfl, rfl, rfl, trivial⟩ ?_
                refine N.then ?_
                refine E.condF rfl ?_
                refine E.seq ?_
                refine E.region ?_
                refine X.eql rfl rfl rfl rfl rfl rfl ?_
                rcases Decidable.em (x.kind = 4) with hz4 | hz4
                rw [decide_eq_true hz4]
                rotate_left
                rw [decide_eq_false hz4]
                rotate_left
                · refine X.asg rfl rfl rfl rfl rfl ?_
                  refine X.done [(0, _), (2, _), (3, _), (4, _), (5, _), (6, _), (7, _), (8, _), (11, _), (46, _), (55, _)] ⟨rfl, rfl, rfl, rfl, rfl, rfl, rfl, rfl, rfl, rfl, rfl, trivial⟩ ?_
                  refine N.then ?_
                  refine E.condT rfl ?_
                  refine E.region ?_
                  refine X.mv rfl rfl rfl rfl rfl ?_
                  refine X.asg rfl rfl rfl rfl rfl ?_
                  refine X.done [(0, _), (2, _), (3, _), (4, _), (6, _), (11, _)] ⟨rfl, rfl, rfl, rfl, rfl, rfl, trivial⟩ ?_
                  refine N.blk ?_
                  refine N.then ?_
                  refine E.region ?_
                  refine X.mv rfl rfl rfl rfl rfl ?_
                  refine X.mv rfl rfl rfl rfl rfl ?_
                  refine X.sl2 rfl rfl rfl rfl rfl rfl Tryd.underlying60 Tryd.is4 (by omega) ?_
                  refine X.mv rfl rfl rfl rfl rfl ?_
                  first
                    | (have hnu : true = nul (.nd x ks) := (nul_t (by omega)).symm
                       refine X.lit (e := 4) (cs := [.bool (nul (.nd x ks))]) rfl rfl rfl rfl rfl (fun _ => by rw [← hnu]; kernel_rfl) ?_)
                    | (have hnu : al = nul (.nd x ks) := by rw [nul_a (by omega)]; exact hal
                       refine X.lit (e := 4) (cs := [.bool (nul (.nd x ks))]) rfl rfl rfl rfl rfl (fun _ => by rw [← hnu]; kernel_rfl) ?_)
                    | (have hnu : so = nul (.nd x ks) := by rw [nul_o (by omega)]; exact hso
                       refine X.lit (e := 4) (cs := [.bool (nul (.nd x ks))]) rfl rfl rfl rfl rfl (fun _ => by rw [← hnu]; kernel_rfl) ?_)
                    | (have hnu : true = nul (.nd x ks) := by rw [nul_r (by omega), ← hal]; rfl
                       refine X.lit (e := 4) (cs := [.bool (nul (.nd x ks))]) rfl rfl rfl rfl rfl (fun _ => by rw [← hnu]; kernel_rfl) ?_)
                    | (have hnu : decide (x.low = 0) = nul (.nd x ks) := by rw [nul_r (by omega), ← hal]; rfl
                       refine X.lit (e := 4) (cs := [.bool (nul (.nd x ks))]) rfl rfl rfl rfl rfl (fun _ => by rw [← hnu]; kernel_rfl) ?_)
                    | (have hnu : false = nul (.nd x ks) := (nul_f (by omega)).symm
                       refine X.lit (e := 4) (cs := [.bool (nul (.nd x ks))]) rfl rfl rfl rfl rfl (fun _ => by rw [← hnu]; kernel_rfl) ?_)
                  intro b6 H8 hn8 hb6 hk8
                  have hO8 := (hO6.take (q := n) (by omega)).keep hk8 (by simp)
                  have hkk8 := hkk6.trans hk8 (by simp)
                  refine X.app T60 rfl rfl rfl rfl rfl rfl (hO8) (by exact .inl (rdb hb6)) (.inl ⟨4, Tryd.underlying60, _, _, rfl⟩) (bvs_one _) (by first | (simp only [maxLen]; omega) | omega) (by first | (simp only [maxLen]; omega) | omega) ?_
                  intro v9 H9 hO9 hk9 hb9 hn9
                  have hkk9 := hkk8.trans hk9 (fun b hb => .inr (hvb b (by rw [blk_len va _ n vc]; exact hb)))
                  have hvb9 : ∀ b ∈ blk v9, H.size ≤ b := fun b hb => hb9.elim (fun h => hvb b (by rw [h] at hb; rw [blk_len va _ n vc]; exact hb)) (fun h => Nat.le_trans hkk8.size (h b hb))
                  have hst : stk (l.drop i) = (stk (l.drop (i + 1))).take n ++ [nul (.nd x ks)] := by rw [hdc, stk_cons, htk, hks]
                  replace hO9 : Own H9 4 1 v9 (stk (l.drop i)).length (bvs (stk (l.drop i))) := by
                    rw [hst, List.length_append, List.length_take, show min n (stk (l.drop (i + 1))).length = n by omega]
                    have e : bvs ((stk (l.drop (i + 1))).take n ++ [nul (.nd x ks)]) = (bvs (stk (l.drop (i + 1)))).take (n * 1) ++ bvs [nul (.nd x ks)] := by rw [Nat.mul_one]; show List.map _ _ = _; rw [List.map_append, List.map_take]
                    rw [e]; exact hO9
                  refine X.asg rfl rfl rfl rfl rfl ?_
                  refine X.done [(0, _), (2, _), (3, _), (4, _)] ⟨rfl, rfl, rfl, rfl, trivial⟩ ?_
                  refine N.blk ?_
                  refine N.then ?_
                  refine E.region ?_
                  refine X.mv rfl rfl rfl rfl rfl ?_
                  refine X.sbE (zz := ((i : Int) - 1)) rfl rfl rfl rfl rfl rfl (by rw [IntWalk.i64_in _ (by omega)] <;> omega) ?_
                  refine X.asg rfl rfl rfl rfl rfl ?_
                  refine X.done [(0, _), (2, _), (3, _), (4, _)] ⟨rfl, rfl, rfl, rfl, trivial⟩ ?_
                  exact N.next (G := fun (q : SQ) => _) ⟨i, v9⟩ ⟨rfl, rfl, rfl, rfl, trivial⟩ ⟨by show i ≤ l.length; omega, hO9, hvb9, hkk9⟩ (by show i < i + 1; omega)
                · refine X.asg rfl rfl rfl rfl rfl ?_
                  refine X.done [(0, _), (2, _), (3, _), (4, _), (5, _), (6, _), (7, _), (8, _), (11, _), (46, _), (55, _)] ⟨rfl, rfl, rfl, rfl, rfl, rfl, rfl, rfl, rfl, rfl, rfl, trivial⟩ ?_
                  refine N.then ?_
                  refine E.condF rfl ?_
                  refine E.seq ?_
                  refine E.region ?_
                  refine X.eql rfl rfl rfl rfl rfl rfl ?_
                  rcases Decidable.em (x.kind = 8) with hz8 | hz8
                  rw [decide_eq_true hz8]
                  rotate_left
                  rw [decide_eq_false hz8]
                  rotate_left
                  · refine X.asg rfl rfl rfl rfl rfl ?_
                    refine X.done [(0, _), (2, _), (3, _), (4, _), (5, _), (6, _), (7, _), (11, _), (58, _)] ⟨rfl, rfl, rfl, rfl, rfl, rfl, rfl, rfl, rfl, trivial⟩ ?_
                    refine N.then ?_
                    refine E.condT rfl ?_
                    refine E.region ?_
                    refine X.mv rfl rfl rfl rfl rfl ?_
                    cases al
                    · refine X.mv rfl rfl rfl rfl rfl ?_
                      refine X.fld rfl rfl rfl rfl rfl Tryd.off38_3 ?_
                      refine X.ld rfl rfl rfl rfl Tryd.ag3 (hb5) (rfl) ?_
                      refine X.eql rfl rfl rfl rfl rfl rfl ?_
                      refine X.pickF rfl rfl rfl rfl rfl rfl ?_
                      refine X.asg rfl rfl rfl rfl rfl ?_
                      refine X.done [(0, _), (2, _), (3, _), (4, _), (6, _), (11, _)] ⟨rfl, rfl, rfl, rfl, rfl, rfl, trivial⟩ ?_
                      refine N.blk ?_
                      refine N.then ?_
                      refine E.region ?_
                      refine X.mv rfl rfl rfl rfl rfl ?_
                      refine X.mv rfl rfl rfl rfl rfl ?_
                      refine X.sl2 rfl rfl rfl rfl rfl rfl Tryd.underlying60 Tryd.is4 (by omega) ?_
                      refine X.mv rfl rfl rfl rfl rfl ?_
                      first
                        | (have hnu : true = nul (.nd x ks) := (nul_t (by omega)).symm
                           refine X.lit (e := 4) (cs := [.bool (nul (.nd x ks))]) rfl rfl rfl rfl rfl (fun _ => by rw [← hnu]; kernel_rfl) ?_)
                        | (have hnu : al = nul (.nd x ks) := by rw [nul_a (by omega)]; exact hal
                           refine X.lit (e := 4) (cs := [.bool (nul (.nd x ks))]) rfl rfl rfl rfl rfl (fun _ => by rw [← hnu]; kernel_rfl) ?_)
                        | (have hnu : so = nul (.nd x ks) := by rw [nul_o (by omega)]; exact hso
                           refine X.lit (e := 4) (cs := [.bool (nul (.nd x ks))]) rfl rfl rfl rfl rfl (fun _ => by rw [← hnu]; kernel_rfl) ?_)
                        | (have hnu : true = nul (.nd x ks) := by rw [nul_r (by omega), ← hal]; rfl
                           refine X.lit (e := 4) (cs := [.bool (nul (.nd x ks))]) rfl rfl rfl rfl rfl (fun _ => by rw [← hnu]; kernel_rfl) ?_)
                        | (have hnu : decide (x.low = 0) = nul (.nd x ks) := by rw [nul_r (by omega), ← hal]; rfl
                           refine X.lit (e := 4) (cs := [.bool (nul (.nd x ks))]) rfl rfl rfl rfl rfl (fun _ => by rw [← hnu]; kernel_rfl) ?_)
                        | (have hnu : false = nul (.nd x ks) := (nul_f (by omega)).symm
                           refine X.lit (e := 4) (cs := [.bool (nul (.nd x ks))]) rfl rfl rfl rfl rfl (fun _ => by rw [← hnu]; kernel_rfl) ?_)
                      intro b6 H8 hn8 hb6 hk8
                      have hO8 := (hO6.take (q := n) (by omega)).keep hk8 (by simp)
                      have hkk8 := hkk6.trans hk8 (by simp)
                      refine X.app T60 rfl rfl rfl rfl rfl rfl (hO8) (by exact .inl (rdb hb6)) (.inl ⟨4, Tryd.underlying60, _, _, rfl⟩) (bvs_one _) (by first | (simp only [maxLen]; omega) | omega) (by first | (simp only [maxLen]; omega) | omega) ?_
                      intro v9 H9 hO9 hk9 hb9 hn9
                      have hkk9 := hkk8.trans hk9 (fun b hb => .inr (hvb b (by rw [blk_len va _ n vc]; exact hb)))
                      have hvb9 : ∀ b ∈ blk v9, H.size ≤ b := fun b hb => hb9.elim (fun h => hvb b (by rw [h] at hb; rw [blk_len va _ n vc]; exact hb)) (fun h => Nat.le_trans hkk8.size (h b hb))
                      have hst : stk (l.drop i) = (stk (l.drop (i + 1))).take n ++ [nul (.nd x ks)] := by rw [hdc, stk_cons, htk, hks]
                      replace hO9 : Own H9 4 1 v9 (stk (l.drop i)).length (bvs (stk (l.drop i))) := by
                        rw [hst, List.length_append, List.length_take, show min n (stk (l.drop (i + 1))).length = n by omega]
                        have e : bvs ((stk (l.drop (i + 1))).take n ++ [nul (.nd x ks)]) = (bvs (stk (l.drop (i + 1)))).take (n * 1) ++ bvs [nul (.nd x ks)] := by rw [Nat.mul_one]; show List.map _ _ = _; rw [List.map_append, List.map_take]
                        rw [e]; exact hO9
                      refine X.asg rfl rfl rfl rfl rfl ?_
                      refine X.done [(0, _), (2, _), (3, _), (4, _)] ⟨rfl, rfl, rfl, rfl, trivial⟩ ?_
                      refine N.blk ?_
                      refine N.then ?_
                      refine E.region ?_
                      refine X.mv rfl rfl rfl rfl rfl ?_
                      refine X.sbE (zz := ((i : Int) - 1)) rfl rfl rfl rfl rfl rfl (by rw [IntWalk.i64_in _ (by omega)] <;> omega) ?_
                      refine X.asg rfl rfl rfl rfl rfl ?_
                      refine X.done [(0, _), (2, _), (3, _), (4, _)] ⟨rfl, rfl, rfl, rfl, trivial⟩ ?_
                      exact N.next (G := fun (q : SQ) => _) ⟨i, v9⟩ ⟨rfl, rfl, rfl, rfl, trivial⟩ ⟨by show i ≤ l.length; omega, hO9, hvb9, hkk9⟩ (by show i < i + 1; omega)
                    · refine X.mv rfl rfl rfl rfl rfl ?_
                      refine X.skip rfl rfl rfl ?_
                      refine X.skip rfl rfl rfl ?_
                      refine X.skip rfl rfl rfl ?_
                      refine X.pickT rfl rfl rfl rfl rfl rfl ?_
                      refine X.asg rfl rfl rfl rfl rfl ?_
                      refine X.done [(0, _), (2, _), (3, _), (4, _), (6, _), (11, _)] ⟨rfl, rfl, rfl, rfl, rfl, rfl, trivial⟩ ?_
                      refine N.blk ?_
                      refine N.then ?_
                      refine E.region ?_
                      refine X.mv rfl rfl rfl rfl rfl ?_
                      refine X.mv rfl rfl rfl rfl rfl ?_
                      refine X.sl2 rfl rfl rfl rfl rfl rfl Tryd.underlying60 Tryd.is4 (by omega) ?_
                      refine X.mv rfl rfl rfl rfl rfl ?_
                      first
                        | (have hnu : true = nul (.nd x ks) := (nul_t (by omega)).symm
                           refine X.lit (e := 4) (cs := [.bool (nul (.nd x ks))]) rfl rfl rfl rfl rfl (fun _ => by rw [← hnu]; kernel_rfl) ?_)
                        | (have hnu : al = nul (.nd x ks) := by rw [nul_a (by omega)]; exact hal
                           refine X.lit (e := 4) (cs := [.bool (nul (.nd x ks))]) rfl rfl rfl rfl rfl (fun _ => by rw [← hnu]; kernel_rfl) ?_)
                        | (have hnu : so = nul (.nd x ks) := by rw [nul_o (by omega)]; exact hso
                           refine X.lit (e := 4) (cs := [.bool (nul (.nd x ks))]) rfl rfl rfl rfl rfl (fun _ => by rw [← hnu]; kernel_rfl) ?_)
                        | (have hnu : true = nul (.nd x ks) := by rw [nul_r (by omega), ← hal]; rfl
                           refine X.lit (e := 4) (cs := [.bool (nul (.nd x ks))]) rfl rfl rfl rfl rfl (fun _ => by rw [← hnu]; kernel_rfl) ?_)
                        | (have hnu : decide (x.low = 0) = nul (.nd x ks) := by rw [nul_r (by omega), ← hal]; rfl
                           refine X.lit (e := 4) (cs := [.bool (nul (.nd x ks))]) rfl rfl rfl rfl rfl (fun _ => by rw [← hnu]; kernel_rfl) ?_)
                        | (have hnu : false = nul (.nd x ks) := (nul_f (by omega)).symm
                           refine X.lit (e := 4) (cs := [.bool (nul (.nd x ks))]) rfl rfl rfl rfl rfl (fun _ => by rw [← hnu]; kernel_rfl) ?_)
                      intro b6 H8 hn8 hb6 hk8
                      have hO8 := (hO6.take (q := n) (by omega)).keep hk8 (by simp)
                      have hkk8 := hkk6.trans hk8 (by simp)
                      refine X.app T60 rfl rfl rfl rfl rfl rfl (hO8) (by exact .inl (rdb hb6)) (.inl ⟨4, Tryd.underlying60, _, _, rfl⟩) (bvs_one _) (by first | (simp only [maxLen]; omega) | omega) (by first | (simp only [maxLen]; omega) | omega) ?_
                      intro v9 H9 hO9 hk9 hb9 hn9
                      have hkk9 := hkk8.trans hk9 (fun b hb => .inr (hvb b (by rw [blk_len va _ n vc]; exact hb)))
                      have hvb9 : ∀ b ∈ blk v9, H.size ≤ b := fun b hb => hb9.elim (fun h => hvb b (by rw [h] at hb; rw [blk_len va _ n vc]; exact hb)) (fun h => Nat.le_trans hkk8.size (h b hb))
                      have hst : stk (l.drop i) = (stk (l.drop (i + 1))).take n ++ [nul (.nd x ks)] := by rw [hdc, stk_cons, htk, hks]
                      replace hO9 : Own H9 4 1 v9 (stk (l.drop i)).length (bvs (stk (l.drop i))) := by
                        rw [hst, List.length_append, List.length_take, show min n (stk (l.drop (i + 1))).length = n by omega]
                        have e : bvs ((stk (l.drop (i + 1))).take n ++ [nul (.nd x ks)]) = (bvs (stk (l.drop (i + 1)))).take (n * 1) ++ bvs [nul (.nd x ks)] := by rw [Nat.mul_one]; show List.map _ _ = _; rw [List.map_append, List.map_take]
                        rw [e]; exact hO9
                      refine X.asg rfl rfl rfl rfl rfl ?_
                      refine X.done [(0, _), (2, _), (3, _), (4, _)] ⟨rfl, rfl, rfl, rfl, trivial⟩ ?_
                      refine N.blk ?_
                      refine N.then ?_
                      refine E.region ?_
                      refine X.mv rfl rfl rfl rfl rfl ?_
                      refine X.sbE (zz := ((i : Int) - 1)) rfl rfl rfl rfl rfl rfl (by rw [IntWalk.i64_in _ (by omega)] <;> omega) ?_
                      refine X.asg rfl rfl rfl rfl rfl ?_
                      refine X.done [(0, _), (2, _), (3, _), (4, _)] ⟨rfl, rfl, rfl, rfl, trivial⟩ ?_
                      exact N.next (G := fun (q : SQ) => _) ⟨i, v9⟩ ⟨rfl, rfl, rfl, rfl, trivial⟩ ⟨by show i ≤ l.length; omega, hO9, hvb9, hkk9⟩ (by show i < i + 1; omega)
                  · refine X.asg rfl rfl rfl rfl rfl ?_
                    refine X.done [(0, _), (2, _), (3, _), (4, _), (5, _), (6, _), (7, _), (11, _), (58, _)] ⟨rfl, rfl, rfl, rfl, rfl, rfl, rfl, rfl, rfl, trivial⟩ ?_
                    refine N.then ?_
                    refine E.condF rfl ?_
                    refine E.skip ?_
                    refine N.blk ?_
                    refine N.then ?_
                    refine E.region ?_
                    refine X.mv rfl rfl rfl rfl rfl ?_
                    refine X.mv rfl rfl rfl rfl rfl ?_
                    refine X.sl2 rfl rfl rfl rfl rfl rfl Tryd.underlying60 Tryd.is4 (by omega) ?_
                    refine X.mv rfl rfl rfl rfl rfl ?_
                    first
                      | (have hnu : true = nul (.nd x ks) := (nul_t (by omega)).symm
                         refine X.lit (e := 4) (cs := [.bool (nul (.nd x ks))]) rfl rfl rfl rfl rfl (fun _ => by rw [← hnu]; kernel_rfl) ?_)
                      | (have hnu : al = nul (.nd x ks) := by rw [nul_a (by omega)]; exact hal
                         refine X.lit (e := 4) (cs := [.bool (nul (.nd x ks))]) rfl rfl rfl rfl rfl (fun _ => by rw [← hnu]; kernel_rfl) ?_)
                      | (have hnu : so = nul (.nd x ks) := by rw [nul_o (by omega)]; exact hso
                         refine X.lit (e := 4) (cs := [.bool (nul (.nd x ks))]) rfl rfl rfl rfl rfl (fun _ => by rw [← hnu]; kernel_rfl) ?_)
                      | (have hnu : true = nul (.nd x ks) := by rw [nul_r (by omega), ← hal]; rfl
                         refine X.lit (e := 4) (cs := [.bool (nul (.nd x ks))]) rfl rfl rfl rfl rfl (fun _ => by rw [← hnu]; kernel_rfl) ?_)
                      | (have hnu : decide (x.low = 0) = nul (.nd x ks) := by rw [nul_r (by omega), ← hal]; rfl
                         refine X.lit (e := 4) (cs := [.bool (nul (.nd x ks))]) rfl rfl rfl rfl rfl (fun _ => by rw [← hnu]; kernel_rfl) ?_)
                      | (have hnu : false = nul (.nd x ks) := (nul_f (by omega)).symm
                         refine X.lit (e := 4) (cs := [.bool (nul (.nd x ks))]) rfl rfl rfl rfl rfl (fun _ => by rw [← hnu]; kernel_rfl) ?_)
                    intro b6 H8 hn8 hb6 hk8
                    have hO8 := (hO6.take (q := n) (by omega)).keep hk8 (by simp)
                    have hkk8 := hkk6.trans hk8 (by simp)
                    refine X.app T60 rfl rfl rfl rfl rfl rfl (hO8) (by exact .inl (rdb hb6)) (.inl ⟨4, Tryd.underlying60, _, _, rfl⟩) (bvs_one _) (by first | (simp only [maxLen]; omega) | omega) (by first | (simp only [maxLen]; omega) | omega) ?_
                    intro v9 H9 hO9 hk9 hb9 hn9
                    have hkk9 := hkk8.trans hk9 (fun b hb => .inr (hvb b (by rw [blk_len va _ n vc]; exact hb)))
                    have hvb9 : ∀ b ∈ blk v9, H.size ≤ b := fun b hb => hb9.elim (fun h => hvb b (by rw [h] at hb; rw [blk_len va _ n vc]; exact hb)) (fun h => Nat.le_trans hkk8.size (h b hb))
                    have hst : stk (l.drop i) = (stk (l.drop (i + 1))).take n ++ [nul (.nd x ks)] := by rw [hdc, stk_cons, htk, hks]
                    replace hO9 : Own H9 4 1 v9 (stk (l.drop i)).length (bvs (stk (l.drop i))) := by
                      rw [hst, List.length_append, List.length_take, show min n (stk (l.drop (i + 1))).length = n by omega]
                      have e : bvs ((stk (l.drop (i + 1))).take n ++ [nul (.nd x ks)]) = (bvs (stk (l.drop (i + 1)))).take (n * 1) ++ bvs [nul (.nd x ks)] := by rw [Nat.mul_one]; show List.map _ _ = _; rw [List.map_append, List.map_take]
                      rw [e]; exact hO9
                    refine X.asg rfl rfl rfl rfl rfl ?_
                    refine X.done [(0, _), (2, _), (3, _), (4, _)] ⟨rfl, rfl, rfl, rfl, trivial⟩ ?_
                    refine N.blk ?_
                    refine N.then ?_
                    refine E.region ?_
                    refine X.mv rfl rfl rfl rfl rfl ?_
                    refine X.sbE (zz := ((i : Int) - 1)) rfl rfl rfl rfl rfl rfl (by rw [IntWalk.i64_in _ (by omega)] <;> omega) ?_
                    refine X.asg rfl rfl rfl rfl rfl ?_
                    refine X.done [(0, _), (2, _), (3, _), (4, _)] ⟨rfl, rfl, rfl, rfl, trivial⟩ ?_
                    exact N.next (G := fun (q : SQ) => _) ⟨i, v9⟩ ⟨rfl, rfl, rfl, rfl, trivial⟩ ⟨by show i ≤ l.length; omega, hO9, hvb9, hkk9⟩ (by show i < i + 1; omega)
  · refine E.exit ?_
    refine N.thenX ?_
    refine N.loopX ?_
    refine N.blkX ?_
    refine N.then ?_
    refine E.seq ?_
    obtain rfl : k = 0 := by omega
    rw [List.drop_zero, show stk l = [nul t] by unfold stk; rw [hfo]; rfl] at hO
    obtain ⟨va, vc, rfl⟩ := hO.len
    obtain ⟨rb, ro, hR, _⟩ := Row1.of_rd hO.rd
    obtain ⟨hra, rcs, rct, rfz, hrb, hrc⟩ := hR.get 0 (.bool (nul t)) rfl
    refine E.region ?_
    refine X.mv rfl rfl rfl rfl rfl ?_
    refine X.ixAe rfl rfl rfl rfl rfl rfl Tryd.underlying60 Tryd.sz4 (hra) (by show (0 : Int) ≤ 0 ∧ (0 : Int) < ((1 : Nat) : Int); omega) ?_
    refine X.ld rfl rfl rfl rfl Tryd.ag4 (hrb) (by exact hrc) ?_
    refine X.asg rfl rfl rfl rfl rfl ?_
    refine X.done [(2, _)] ⟨rfl, trivial⟩ ?_
    refine N.then ?_
    refine E.ret ?_
    exact N.retH [_] ⟨_, _, rfl, rfl, rfl⟩ ⟨rfl, hkk⟩

theorem empty15_ct (l : List Nd) (a : Option Addr) (c : Nat) (H : Heap) (hN : NR H (.slice a l.length c) l) (hlen : l.length ≤ 1000) : Ct Tryd.prog 16 #[(.slice a l.length c)] H fun r H' => r = .bool (emptyV l) ∧ Kp [] H H' := by
  refine Ct.into 10 Tryd.func16 rfl [(0, (.slice a l.length c))] rfl ⟨rfl, trivial⟩ ?_
  refine E.seq ?_
  refine E.region ?_
  refine X.asg rfl rfl rfl rfl rfl ?_
  refine X.done [(0, _), (2, _)] ⟨rfl, rfl, trivial⟩ ?_
  refine N.then ?_
  refine E.seq ?_
  refine E.region ?_
  refine X.mv rfl rfl rfl rfl rfl ?_
  refine X.call rfl rfl rfl rfl rfl Tryd.cl8 (check_ct l a c H hN hlen) ?_
  rintro _ H1 ⟨rfl, hk1⟩
  have hN1 := hN.keepN hk1
  refine X.eqlC rfl rfl rfl rfl rfl rfl (fun hc => ?_) (fun hc => ?_)
  · refine X.mv rfl rfl rfl rfl rfl ?_
    obtain ⟨t, hlt, hRt, hl4⟩ := chk_tree (show chkV l = 0 by omega)
    refine X.mv rfl rfl rfl rfl rfl ?_
    refine X.call rfl rfl rfl rfl rfl Tryd.cl25 (empty_ct l t a c H1 hN1 hlen (by rw [hlt]; exact fo_whole hRt.wf) (by rw [hlt, fo_whole hRt.wf]; exact ⟨hRt.wf, trivial⟩)) ?_
    rintro _ H2 ⟨rfl, hk2⟩
    refine X.pickT rfl rfl rfl rfl rfl rfl ?_
    refine X.asg rfl rfl rfl rfl rfl ?_
    refine X.done [(2, _)] ⟨rfl, trivial⟩ ?_
    refine N.then ?_
    refine E.ret ?_
    first
      | (exact N.retH [_] ⟨_, _, rfl, rfl, rfl⟩ ⟨by rw [emptyV_t (by omega) hlt hRt.wf]; rfl, hk1.trans hk2 (by simp)⟩)
      | (exact N.retH [_] ⟨_, _, rfl, rfl, rfl⟩ ⟨by rw [emptyV_n (by omega)]; rfl, hk1⟩)
  · refine X.mv rfl rfl rfl rfl rfl ?_
    refine X.skip rfl rfl rfl ?_
    refine X.skip rfl rfl rfl ?_
    refine X.pickF rfl rfl rfl rfl rfl rfl ?_
    refine X.asg rfl rfl rfl rfl rfl ?_
    refine X.done [(2, _)] ⟨rfl, trivial⟩ ?_
    refine N.then ?_
    refine E.ret ?_
    first
      | (exact N.retH [_] ⟨_, _, rfl, rfl, rfl⟩ ⟨by rw [emptyV_t (by omega) hlt hRt.wf]; rfl, hk1.trans hk2 (by simp)⟩)
      | (exact N.retH [_] ⟨_, _, rfl, rfl, rfl⟩ ⟨by rw [emptyV_n (by omega)]; rfl, hk1⟩)

end Go.Proofs.YtcandjdomeompaaDoor