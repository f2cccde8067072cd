/- The walks: blames made, chains, what the document says. -/
import Derived.Test.YtaofjmaekpjkhaaDoorW4
namespace Go.Proofs.YtaofjmaekpjkhaaDoor
open Go.SX Go.Blm
attribute [local irreducible] X E N Ct
set_option linter.unusedVariables false

abbrev opl (x : LK) : List Value := [i64 x.1, i64 x.2]
theorem opl_len (x : LK) : (opl x).length = 2 := rfl
theorem zi40 : (Tryd.prog.info? 40).map (fun i => (i.zero, i.size, i.bytes)) = some (some (.agg #[.int .i64 0, .int .i64 0]), 2, 16) := by kernel_rfl
theorem TL : AppT Tryd.prog 41 41 40 2 16 (.agg #[.int .i64 0, .int .i64 0]) := ⟨Tryd.underlying41, zi40, rfl, by decide⟩
theorem Ch.keepT {H H' : Heap} {e : Addr} {s : Nat} {cs : Array Value} {ct : TypeId} {fz : Nat × Nat} (hk : Kp [s] H H') (hs : H[s]? = some (.cells cs ct fz)) (hct : ct ≠ 55) : ∀ {l : List LK} {v : Value}, Ch H e l v → Ch H' e l v
  | [], v, h => h
  | x :: r, v, ⟨b, u, h1, h2, h3⟩ => ⟨b, u, h1, hk.keep h2 (by
      simp only [List.mem_cons, List.not_mem_nil, or_false]
      rintro rfl
      rw [h2] at hs
      injection hs with hs
      injection hs with _ h4
      exact hct h4.symm), Ch.keepT hk hs hct h3⟩
theorem Bl.keepT {H H' : Heap} {A : Nat → Addr} {l : List LK} {v : Value} {s : Nat} {cs : Array Value} {ct : TypeId} {fz : Nat × Nat} (h : Bl H A l v) (hk : Kp [s] H H') (hs : H[s]? = some (.cells cs ct fz)) (hct : ct ≠ 55) : Bl H' A l v := by
  rcases h with h | h
  · exact .inl h
  · exact .inr ⟨h.1, Ch.keepT hk hs hct h.2⟩
theorem Bl.one {H : Heap} {A : Nat → Addr} {l : List LK} {v : Value} (h : Bl H A l v) : ∀ w ∈ [v], w.oneCell' = true := by
  intro w hw
  obtain rfl : w = v := by simpa using hw
  rcases h with ⟨_, rfl⟩ | ⟨_, h⟩
  · rfl
  · obtain ⟨u, x, rfl⟩ := h.iface; rfl
theorem und_nil {c k : Int} (h : cnt c = 0) (l : List LK) : und c k l = l := if_pos h
theorem und_not {c k : Int} (h : ¬ cnt c = 0) (l : List LK) : und c k l = (cnt c, k) :: l := if_neg h
theorem chain_nil : chain [] = [] := rfl
theorem drop_pred {l : List LK} {j : Nat} {x : LK} (h1 : 1 ≤ j) (hx : l[j - 1]? = some x) : l.drop (j - 1) = x :: l.drop j := by
  obtain ⟨h, e⟩ := List.getElem?_eq_some_iff.1 hx
  rw [List.drop_eq_getElem_cons h, e, show j - 1 + 1 = j by omega]
theorem chain_take {l : List LK} {i : Nat} {x : LK} (hx : l[i]? = some x) : chain (l.take (i + 1)) = chain (l.take i) ++ (if x.1 ≠ 0 then [(cnt x.1, x.2)] else []) := by
  rw [List.take_add_one, hx]; exact chain_snoc x _
theorem say_take {l : List LK} {i : Nat} {x : LK} (hx : l[i]? = some x) (h0 : i ≠ 0) : sayV (l.take (i + 1)) = sayV (l.take i) ++ [58, 32] ++ one x := by
  rw [List.take_add_one, hx]
  have hi := (List.getElem?_eq_some_iff.1 hx).1
  refine say_snoc x _ (fun h => ?_)
  have := congrArg List.length h
  rw [List.length_take, List.length_nil] at this; omega
theorem say_take0 {l : List LK} {x : LK} (hx : l[0]? = some x) : sayV (l.take 1) = one x := by
  cases l with
  | nil => simp at hx
  | cons y r => simp at hx; subst hx; rfl
theorem say_nz {l : List LK} {x : LK} {i : Nat} (h0 : i ≠ 0) (hx : l[i]? = some x) : some (str ((sayV (l.take i) ++ [58, 32] ++ nm x.1 ++ [32, 97, 116, 32]) ++ numV x.2)) = some (str (sayV (l.take (i + 1)))) := by
  rw [say_take hx h0]; simp [one]
theorem rd_one {H : Heap} {b c : Nat} {e : TypeId} {x : LK} (hb : H[b]? = some (.cells (opl x).toArray e (0, 0))) : Rd H 2 (.slice (some ⟨b, 0, none⟩) 1 c) 1 (opl x) :=
  ⟨rfl, _, _, rfl, .inr ⟨b, 0, _, _, _, rfl, hb, fun j u hj => by rw [Nat.zero_add]; exact hj⟩⟩
theorem say_z {l : List LK} {x : LK} {i : Nat} (h0 : i = 0) (hx : l[i]? = some x) : some (str ((sayV (l.take i) ++ nm x.1 ++ [32, 97, 116, 32]) ++ numV x.2)) = some (str (sayV (l.take (i + 1)))) := by
  subst h0; rw [say_take0 hx]; rfl

theorem under_nil (c k : Int) (A : Nat → Addr) (H : Heap) (hG : Gl H A) : Ct Tryd.prog 25 #[i64 c, i64 k, agg1 .nilIface] H fun w H' => ∃ v', w = agg1 v' ∧ Bl H' A (und c k []) v' ∧ Kp [] H H' := by
  refine Ct.into 33 Tryd.func25 rfl [(0, i64 c), (1, i64 k), (2, agg1 .nilIface)] rfl ⟨rfl, rfl, rfl, trivial⟩ ?_
  refine E.seq ?_
  refine E.region ?_
  refine X.box rfl rfl rfl rfl rfl rfl ?_
  intro b5 H1 hn1 hb5 hk1
  refine X.alloc (z := .agg ([.nilIface] : List Value).toArray) (cs := [.nilIface]) rfl rfl rfl rfl (by kernel_rfl) rfl ?_
  intro b6 H2 hn2 hb6 hk2
  have hkk := hk1.trans hk2 (by simp)
  have hl5 := lt_of hb5
  have h56 : b5 ≠ b6 := by omega
  replace hb5 := hk2.keep hb5 (by simp)
  have hs6 : H.size ≤ b6 := Nat.le_trans hk1.size hn2
  refine X.done [(0, _), (1, _), (5, _), (6, _)] ⟨rfl, rfl, rfl, rfl, trivial⟩ ?_
  refine N.then ?_
  refine E.seq ?_
  refine E.region ?_
  refine X.mv rfl rfl rfl rfl rfl ?_
  refine X.call rfl rfl rfl rfl rfl Tryd.cl36 (counts_ct c H2) ?_
  rintro _ H2x ⟨rfl, eH2x⟩
  obtain rfl := eH2x.symm
  refine X.asg rfl rfl rfl rfl rfl ?_
  refine X.done [(0, _), (1, _), (5, _), (6, _)] ⟨rfl, rfl, rfl, rfl, trivial⟩ ?_
  refine N.then ?_
  refine E.seq ?_
  refine E.block ?_
  refine E.seq ?_
  refine E.region ?_
  refine X.mv rfl rfl rfl rfl rfl ?_
  refine X.eqlC rfl rfl rfl rfl rfl rfl (fun hc => ?_) (fun hc => ?_)
  · refine X.asg rfl rfl rfl rfl rfl ?_
    refine X.done [(0, _), (1, _), (5, _), (6, _), (9, _)] ⟨rfl, rfl, rfl, rfl, rfl, trivial⟩ ?_
    refine N.then ?_
    refine E.condT rfl ?_
    refine E.seq ?_
    refine E.region ?_
    refine X.ldA rfl rfl rfl rfl Tryd.ag26 Tryd.sz26 (hb5) rfl zoff ?_
    refine X.stA rfl rfl rfl rfl rfl rfl (by simp [Value.oneCell']) Tryd.sz26 hb6 (Nat.le_refl _) ?_
    intro H9 hb9 hk9
    replace hkk := hkk.trans hk9 (by simp; exact hs6)
    refine X.done [(0, _), (1, _), (5, _), (6, _)] ⟨rfl, rfl, rfl, rfl, trivial⟩ ?_
    refine N.then ?_
    refine E.ret ?_
    refine N.blkR ?_
    refine N.thenR ?_
    exact N.retH [_] ⟨_, _, _, 0, rfl, rfl, loadsA Tryd.ag26 Tryd.sz26 hb9 rfl zoff, rfl⟩ ⟨_, rfl, by rw [und_nil (by assumption)]; exact .inl ⟨rfl, rfl⟩, hkk⟩
  · refine X.asg rfl rfl rfl rfl rfl ?_
    refine X.done [(0, _), (1, _), (5, _), (6, _), (9, _)] ⟨rfl, rfl, rfl, rfl, rfl, trivial⟩ ?_
    refine N.then ?_
    refine E.condF rfl ?_
    refine E.seq ?_
    refine E.region ?_
    refine X.fld rfl rfl rfl rfl rfl Tryd.off26_0 ?_
    refine X.ld rfl rfl rfl rfl Tryd.ag24 (hb5) (rfl) ?_
    refine X.eqlI0 rfl rfl rfl rfl rfl (by kernel_rfl) ?_
    refine X.asg rfl rfl rfl rfl rfl ?_
    refine X.done [(0, _), (1, _), (5, _), (6, _), (13, _)] ⟨rfl, rfl, rfl, rfl, rfl, trivial⟩ ?_
    refine N.then ?_
    refine E.condT rfl ?_
    refine E.seq ?_
    refine E.region ?_
    refine X.mv rfl rfl rfl rfl rfl ?_
    refine X.mv rfl rfl rfl rfl rfl ?_
    refine X.mv rfl rfl rfl rfl rfl ?_
    refine X.call rfl rfl rfl rfl rfl Tryd.cl37 (family_ct (cnt c) A H2 (hG.keep hkk)) ?_
    rintro _ H2y ⟨rfl, eH2y⟩
    obtain rfl := eH2y.symm
    refine X.build (v := .agg ([i64 (cnt c), i64 k, famV (A (fi (cnt c)))] : List Value).toArray) rfl rfl rfl rfl rfl (fun _ => by kernel_rfl) ?_
    refine X.box rfl rfl rfl rfl rfl rfl ?_
    intro bx H3 hn3 hbx hk3
    replace hkk := hkk.trans hk3 (by simp)
    have hl6 := lt_of hb6
    have h6x : bx ≠ b6 := by omega
    replace hb6 := hk3.keep hb6 (by simp)
    refine X.mkI rfl rfl rfl rfl rfl Tryd.underlying51 ?_
    refine X.build (v := .agg ([lnk bx] : List Value).toArray) rfl rfl rfl rfl rfl (fun _ => by kernel_rfl) ?_
    refine X.stA rfl rfl rfl rfl rfl rfl (by simp [Value.oneCell']) Tryd.sz26 hb6 (Nat.le_refl _) ?_
    intro H9 hb9 hk9
    replace hkk := hkk.trans hk9 (by simp; exact hs6)
    replace hbx := hk9.keep hbx (by simp; exact h6x)
    refine X.done [(0, _), (1, _), (5, _), (6, _)] ⟨rfl, rfl, rfl, rfl, trivial⟩ ?_
    refine N.then ?_
    refine E.ret ?_
    refine N.blkR ?_
    refine N.thenR ?_
    exact N.retH [_] ⟨_, _, _, 0, rfl, rfl, loadsA Tryd.ag26 Tryd.sz26 hb9 rfl zoff, rfl⟩ ⟨_, rfl, by rw [und_not (by assumption)]; exact .inr ⟨by simp, bx, _, rfl, hbx, rfl⟩, hkk⟩

theorem under_some (c k : Int) (A : Nat → Addr) (l : List LK) (u : TypeId) (x : Value) (H : Heap) (hl : l ≠ []) (hch : Ch H (A (fi (lastL l).1)) l (.iface u x)) : Ct Tryd.prog 25 #[i64 c, i64 k, agg1 (.iface u x)] H fun w H' => ∃ v', w = agg1 v' ∧ Bl H' A (und c k l) v' ∧ Kp [] H H' := by
  refine Ct.into 33 Tryd.func25 rfl [(0, i64 c), (1, i64 k), (2, agg1 (.iface u x))] rfl ⟨rfl, rfl, rfl, trivial⟩ ?_
  refine E.seq ?_
  refine E.region ?_
  refine X.box rfl rfl rfl rfl rfl rfl ?_
  intro b5 H1 hn1 hb5 hk1
  refine X.alloc (z := .agg ([.nilIface] : List Value).toArray) (cs := [.nilIface]) rfl rfl rfl rfl (by kernel_rfl) rfl ?_
  intro b6 H2 hn2 hb6 hk2
  have hkk := hk1.trans hk2 (by simp)
  have hl5 := lt_of hb5
  have h56 : b5 ≠ b6 := by omega
  replace hb5 := hk2.keep hb5 (by simp)
  have hs6 : H.size ≤ b6 := Nat.le_trans hk1.size hn2
  refine X.done [(0, _), (1, _), (5, _), (6, _)] ⟨rfl, rfl, rfl, rfl, trivial⟩ ?_
  refine N.then ?_
  refine E.seq ?_
  refine E.region ?_
  refine X.mv rfl rfl rfl rfl rfl ?_
  refine X.call rfl rfl rfl rfl rfl Tryd.cl36 (counts_ct c H2) ?_
  rintro _ H2x ⟨rfl, eH2x⟩
  obtain rfl := eH2x.symm
  refine X.asg rfl rfl rfl rfl rfl ?_
  refine X.done [(0, _), (1, _), (5, _), (6, _)] ⟨rfl, rfl, rfl, rfl, trivial⟩ ?_
  refine N.then ?_
  refine E.seq ?_
  refine E.block ?_
  refine E.seq ?_
  refine E.region ?_
  refine X.mv rfl rfl rfl rfl rfl ?_
  refine X.eqlC rfl rfl rfl rfl rfl rfl (fun hc => ?_) (fun hc => ?_)
  · refine X.asg rfl rfl rfl rfl rfl ?_
    refine X.done [(0, _), (1, _), (5, _), (6, _), (9, _)] ⟨rfl, rfl, rfl, rfl, rfl, trivial⟩ ?_
    refine N.then ?_
    refine E.condT rfl ?_
    refine E.seq ?_
    refine E.region ?_
    refine X.ldA rfl rfl rfl rfl Tryd.ag26 Tryd.sz26 (hb5) rfl zoff ?_
    refine X.stA rfl rfl rfl rfl rfl rfl (by simp [Value.oneCell']) Tryd.sz26 hb6 (Nat.le_refl _) ?_
    intro H9 hb9 hk9
    replace hkk := hkk.trans hk9 (by simp; exact hs6)
    refine X.done [(0, _), (1, _), (5, _), (6, _)] ⟨rfl, rfl, rfl, rfl, trivial⟩ ?_
    refine N.then ?_
    refine E.ret ?_
    refine N.blkR ?_
    refine N.thenR ?_
    exact N.retH [_] ⟨_, _, _, 0, rfl, rfl, loadsA Tryd.ag26 Tryd.sz26 hb9 rfl zoff, rfl⟩ ⟨_, rfl, by rw [und_nil (by assumption)]; exact .inr ⟨hl, Ch.keep hkk hch⟩, hkk⟩
  · refine X.asg rfl rfl rfl rfl rfl ?_
    refine X.done [(0, _), (1, _), (5, _), (6, _), (9, _)] ⟨rfl, rfl, rfl, rfl, rfl, trivial⟩ ?_
    refine N.then ?_
    refine E.condF rfl ?_
    refine E.seq ?_
    refine E.region ?_
    refine X.fld rfl rfl rfl rfl rfl Tryd.off26_0 ?_
    refine X.ld rfl rfl rfl rfl Tryd.ag24 (hb5) (rfl) ?_
    refine X.eqlI1 rfl rfl rfl rfl rfl rfl (by kernel_rfl) ?_
    refine X.asg rfl rfl rfl rfl rfl ?_
    refine X.done [(0, _), (1, _), (5, _), (6, _), (13, _)] ⟨rfl, rfl, rfl, rfl, rfl, trivial⟩ ?_
    refine N.then ?_
    refine E.condF rfl ?_
    refine E.skip ?_
    refine N.blk ?_
    refine N.then ?_
    refine E.seq ?_
    refine E.region ?_
    refine X.mv rfl rfl rfl rfl rfl ?_
    refine X.mv rfl rfl rfl rfl rfl ?_
    refine X.fld rfl rfl rfl rfl rfl Tryd.off26_0 ?_
    refine X.ld rfl rfl rfl rfl Tryd.ag24 (hb5) (rfl) ?_
    refine X.build (v := .agg ([i64 (cnt c), i64 k, .iface u x] : List Value).toArray) rfl rfl rfl rfl rfl (fun _ => by kernel_rfl) ?_
    refine X.box rfl rfl rfl rfl rfl rfl ?_
    intro bx H3 hn3 hbx hk3
    replace hkk := hkk.trans hk3 (by simp)
    have hl6 := lt_of hb6
    have h6x : bx ≠ b6 := by omega
    replace hb6 := hk3.keep hb6 (by simp)
    refine X.mkI rfl rfl rfl rfl rfl Tryd.underlying51 ?_
    refine X.build (v := .agg ([lnk bx] : List Value).toArray) rfl rfl rfl rfl rfl (fun _ => by kernel_rfl) ?_
    refine X.stA rfl rfl rfl rfl rfl rfl (by simp [Value.oneCell']) Tryd.sz26 hb6 (Nat.le_refl _) ?_
    intro H9 hb9 hk9
    replace hkk := hkk.trans hk9 (by simp; exact hs6)
    replace hbx := hk9.keep hbx (by simp; exact h6x)
    refine X.done [(6, _)] ⟨rfl, trivial⟩ ?_
    refine N.then ?_
    refine E.ret ?_
    exact N.retH [_] ⟨_, _, _, 0, rfl, rfl, loadsA Tryd.ag26 Tryd.sz26 hb9 rfl zoff, rfl⟩ ⟨_, rfl, by rw [und_not (by assumption)]; exact .inr ⟨by simp, bx, _, rfl, hbx, by rw [lastL_cons _ _ hl]; exact Ch.keep hkk hch⟩, hkk⟩

theorem under_ct (c k : Int) (A : Nat → Addr) (l : List LK) (v : Value) (H : Heap) (hG : Gl H A) (hB : Bl H A l v) : Ct Tryd.prog 25 #[i64 c, i64 k, agg1 v] H fun w H' => ∃ v', w = agg1 v' ∧ Bl H' A (und c k l) v' ∧ Kp [] H H' := by
  rcases hB with ⟨rfl, rfl⟩ | ⟨h0, hc⟩
  · exact under_nil c k A H hG
  · obtain ⟨u, x, rfl⟩ := hc.iface
    exact under_some c k A l u x H h0 hc

theorem new_ct (c k : Int) (A : Nat → Addr) (H : Heap) (hG : Gl H A) : Ct Tryd.prog 7 #[i64 c, i64 k] H fun w H' => ∃ v', w = agg1 v' ∧ Bl H' A (und c k []) v' ∧ Kp [] H H' := by
  refine Ct.into 9 Tryd.func7 rfl [(0, i64 c), (1, i64 k)] rfl ⟨rfl, rfl, trivial⟩ ?_
  refine E.seq ?_
  refine E.region ?_
  refine X.alloc (z := .agg ([.nilIface] : List Value).toArray) (cs := [.nilIface]) rfl rfl rfl rfl (by kernel_rfl) rfl ?_
  intro b6 H1 hn1 hb6 hkk
  have hs6 : H.size ≤ b6 := hn1
  refine X.done [(0, _), (1, _), (4, _)] ⟨rfl, rfl, rfl, trivial⟩ ?_
  refine N.then ?_
  refine E.seq ?_
  refine E.region ?_
  refine X.mv rfl rfl rfl rfl rfl ?_
  refine X.mv rfl rfl rfl rfl rfl ?_
  refine X.build (v := .agg ([.nilIface] : List Value).toArray) rfl rfl rfl rfl rfl (fun _ => by kernel_rfl) ?_
  refine X.call rfl rfl rfl rfl rfl Tryd.cl25 (under_ct c k A [] .nilIface H1 (hG.keep hkk) (.inl ⟨rfl, rfl⟩)) ?_
  rintro _ H2 ⟨v2, rfl, hB2, hk2⟩
  replace hb6 := hk2.keep hb6 (by simp)
  have hkb := hk2
  replace hkk := hkk.trans hk2 (by simp)
  refine X.stA rfl rfl rfl rfl rfl rfl (hB2.one) Tryd.sz26 hb6 (Nat.le_refl _) ?_
  intro H9 hb9 hk9
  have hB9 := hB2.keepT hk9 hb6 (by decide)
  refine X.done [(4, _)] ⟨rfl, trivial⟩ ?_
  refine N.then ?_
  refine E.ret ?_
  exact N.retH [_] ⟨_, _, _, 0, rfl, rfl, loadsA Tryd.ag26 Tryd.sz26 hb9 rfl zoff, rfl⟩ ⟨_, rfl, hB9, hkk.trans hk9 (by simp; exact hs6)⟩

theorem wrapped_ct (l : List LK) (a : Option Addr) (cc : Nat) (H : Heap) (hS : Rd H 2 (.slice a l.length cc) l.length (l.flatMap opl)) (hl : l.length ≤ 100) (A : Nat → Addr) (hG : Gl H A) : Ct Tryd.prog 23 #[.slice a l.length cc] H fun w H' => ∃ v', w = agg1 v' ∧ Bl H' A (chain l) v' ∧ Kp [] H H' := by
  refine Ct.into 25 Tryd.func23 rfl [(0, .slice a l.length cc)] rfl ⟨rfl, trivial⟩ ?_
  refine E.seq ?_
  refine E.region ?_
  refine X.alloc (z := .agg ([.nilIface] : List Value).toArray) (cs := [.nilIface]) rfl rfl rfl rfl (by kernel_rfl) rfl ?_
  intro b2 H1 hn1 hb2 hk1
  refine X.done [(0, _), (2, _)] ⟨rfl, rfl, trivial⟩ ?_
  refine N.then ?_
  refine E.seq ?_
  refine E.region ?_
  refine X.alloc (z := .agg ([.nilIface] : List Value).toArray) (cs := [.nilIface]) rfl rfl rfl rfl (by kernel_rfl) rfl ?_
  intro b3 H2 hn2 hb3 hk2
  have hkk := hk1.trans hk2 (by simp)
  have hl2 := lt_of hb2
  have h23 : b2 ≠ b3 := by omega
  replace hb2 := hk2.keep hb2 (by simp)
  have hs2 : H.size ≤ b2 := hn1
  have hs3 : H.size ≤ b3 := Nat.le_trans hk1.size hn2
  refine X.done [(0, _), (2, _), (3, _)] ⟨rfl, rfl, rfl, trivial⟩ ?_
  refine N.then ?_
  refine E.seq ?_
  refine E.seq ?_
  refine E.region ?_
  refine X.mv rfl rfl rfl rfl rfl ?_
  refine X.lenS rfl rfl rfl rfl rfl Tryd.underlying41 ?_
  refine X.sbE (zz := ((l.length : Nat) : Int) - 1) rfl rfl rfl rfl rfl rfl (IntWalk.i64_in _ (by omega)) ?_
  refine X.asg rfl rfl rfl rfl rfl ?_
  refine X.done [(0, _), (2, _), (3, _), (4, _)] ⟨rfl, rfl, rfl, rfl, trivial⟩ ?_
  refine N.then ?_
  refine E.block ?_
  refine E.loop (fun (q : Nat × Value) => [(0, .slice a l.length cc), (2, ptr b2), (3, ptr b3), (4, i64 ((q.1 : Int) - 1))]) (fun (q : Nat × Value) H' => q.1 ≤ l.length ∧ H'[b2]? = some (.cells ([.nilIface] : List Value).toArray 26 (0, 0)) ∧ H'[b3]? = some (.cells ([q.2] : List Value).toArray 26 (0, 0)) ∧ Bl H' A (chain (l.drop q.1)) q.2 ∧ Kp [] H H') (fun (q : Nat × Value) => q.1) (l.length, .nilIface) ⟨rfl, rfl, rfl, rfl, trivial⟩ ⟨Nat.le_refl _, hb2, hb3, by rw [List.drop_length]; exact .inl ⟨rfl, rfl⟩, hkk⟩ ?_
  clear hkk hb2 hb3
  rintro ⟨j, v⟩ H3 hJ
  dsimp only at hJ ⊢
  obtain ⟨hj, hb2, hb3, hB, hkk⟩ := hJ
  refine E.seq ?_
  refine E.seq ?_
  refine E.region ?_
  refine X.mv rfl rfl rfl rfl rfl ?_
  refine X.geq rfl rfl rfl rfl rfl rfl ?_
  refine X.done [(0, _), (2, _), (3, _), (4, _), (8, _), (9, _)] ⟨rfl, rfl, rfl, rfl, rfl, rfl, trivial⟩ ?_
  refine N.then ?_
  refine E.condD rfl (fun hc => ?_) (fun hc => ?_)
  · refine E.skip ?_
    refine N.then ?_
    refine E.seq ?_
    refine E.block ?_
    have hj1 : 1 ≤ j := by omega
    obtain ⟨x, hx⟩ : ∃ x, l[j - 1]? = some x := ⟨_, List.getElem?_eq_getElem (by omega)⟩
    obtain ⟨bb, oo, cc2, cs, ct, fz, hv, hbb0, hel⟩ := hS.get opl_len hx (by decide)
    have hbH := lt_of hbb0
    have hbb := hkk.keep hbb0 (by simp)
    obtain ⟨rfl, _, rfl⟩ := Value.slice.inj hv
    have hk0 := hel 0 _ rfl
    have hk1e := hel 1 _ rfl
    have hjc : (j : Int) - 1 = ((j - 1 : Nat) : Int) := by omega
    rw [hjc]
    refine E.regionD (fun H' => H'[bb]? = some (.cells cs.toArray ct fz) ∧ H'[b3]? = some (.cells ([v] : List Value).toArray 26 (0, 0))) [(0, .pu), (1, .pu), (2, .pu), (3, .pu), (4, .st), (5, .pu), (6, .pu), (7, .pu), (8, .pu), (9, .st), (10, .st), (11, .mv), (12, .mv)] Tryd.mixed (by kernel_rfl) (⟨hbb, hb3⟩) ?_
    refine X.mv rfl rfl rfl rfl rfl ?_
    refine X.mv rfl rfl rfl rfl rfl ?_
    refine X.ixA rfl rfl rfl rfl rfl rfl Tryd.underlying41 Tryd.sz40 (by omega) ?_
    refine X.fld rfl rfl rfl rfl rfl Tryd.off40_0 ?_
    refine X.ld rfl rfl rfl rfl Tryd.ag22 (fun H' hF => hF.1) (hk0) ?_
    refine X.mv rfl rfl rfl rfl rfl ?_
    refine X.mv rfl rfl rfl rfl rfl ?_
    refine X.ixA rfl rfl rfl rfl rfl rfl Tryd.underlying41 Tryd.sz40 (by omega) ?_
    refine X.fld rfl rfl rfl rfl rfl Tryd.off40_1 ?_
    refine X.ld rfl rfl rfl rfl Tryd.ag3 (fun H' hF => hF.1) (hk1e) ?_
    refine X.ldA rfl rfl rfl rfl Tryd.ag26 Tryd.sz26 (fun H' hF => hF.2) rfl zoff ?_
    refine X.call rfl rfl rfl rfl rfl Tryd.cl25 (under_ct x.1 x.2 A _ v H3 (hG.keep hkk) hB) ?_
    rintro _ H4 ⟨v4, rfl, hB4, hk4⟩
    replace hb3 := hk4.keep hb3 (by simp)
    replace hb2 := hk4.keep hb2 (by simp)
    replace hkk := hkk.trans hk4 (by simp)
    refine X.stA rfl rfl rfl rfl rfl rfl (hB4.one) Tryd.sz26 hb3 (Nat.le_refl _) ?_
    intro H9 hb9 hk9
    have hB9 := hB4.keepT hk9 hb3 (by decide)
    replace hb2 := hk9.keep hb2 (by simp; exact h23)
    replace hkk := hkk.trans hk9 (by simp; exact hs3)
    refine X.done [(0, _), (2, _), (3, _), (4, _), (8, _), (9, _), (12, _), (13, _), (14, _), (15, _), (16, _), (17, _), (18, _), (19, _), (20, _), (21, _), (22, _), (23, _)] ⟨rfl, rfl, rfl, rfl, rfl, rfl, rfl, rfl, rfl, rfl, rfl, rfl, rfl, rfl, rfl, rfl, rfl, rfl, trivial⟩ ?_
    refine N.blk ?_
    refine N.then ?_
    refine E.region ?_
    refine X.mv rfl rfl rfl rfl rfl ?_
    refine X.sbE (zz := ((j - 1 : Nat) : Int) - 1) rfl rfl rfl rfl rfl rfl (by first | (rw [IntWalk.i64_in _ (by omega)]; omega) | (rw [IntWalk.i64_in _ (by omega)])) ?_
    refine X.asg rfl rfl rfl rfl rfl ?_
    refine X.done [(0, _), (2, _), (3, _), (4, _), (8, _), (9, _), (12, _), (13, _), (14, _), (15, _), (16, _), (17, _), (18, _), (19, _), (20, _), (21, _), (22, _), (23, _), (10, _), (11, _)] ⟨rfl, rfl, rfl, rfl, rfl, rfl, rfl, rfl, rfl, rfl, rfl, rfl, rfl, rfl, rfl, rfl, rfl, rfl, rfl, rfl, trivial⟩ ?_
    exact N.next (G := fun (q : Nat × Value) => _) (j - 1, v4) ⟨rfl, rfl, rfl, rfl, trivial⟩ ⟨by show j - 1 ≤ l.length; omega, hb2, hb9, by rw [drop_pred hj1 hx, ← und_chain]; exact hB9, hkk⟩ (by show j - 1 < j; omega)
  · refine E.exit ?_
    refine N.thenX ?_
    refine N.loopX ?_
    refine N.blkX ?_
    refine N.then ?_
    refine E.seq ?_
    refine E.region ?_
    refine X.ldA rfl rfl rfl rfl Tryd.ag26 Tryd.sz26 (hb3) rfl zoff ?_
    refine X.stA rfl rfl rfl rfl rfl rfl (hB.one) Tryd.sz26 hb2 (Nat.le_refl _) ?_
    intro H9 hb9 hk9
    have hB9 := hB.keepT hk9 hb2 (by decide)
    replace hkk := hkk.trans hk9 (by simp; exact hs2)
    refine X.done [(2, _)] ⟨rfl, trivial⟩ ?_
    refine N.then ?_
    refine E.ret ?_
    have hj0 : j = 0 := by omega
    subst hj0
    exact N.retH [_] ⟨_, _, _, 0, rfl, rfl, loadsA Tryd.ag26 Tryd.sz26 hb9 rfl zoff, rfl⟩ ⟨_, rfl, hB9, hkk⟩

theorem chain_ct (l : List LK) (a : Option Addr) (cc : Nat) (H : Heap) (hS : Rd H 2 (.slice a l.length cc) l.length (l.flatMap opl)) (hl : l.length ≤ 100) : Ct Tryd.prog 24 #[.slice a l.length cc] H fun w H' => ∃ a2 c2, w = .slice a2 (chain l).length c2 ∧ Rd H' 2 w (chain l).length ((chain l).flatMap opl) ∧ Kp [] H H' := by
  refine Ct.into 33 Tryd.func24 rfl [(0, .slice a l.length cc)] rfl ⟨rfl, trivial⟩ ?_
  refine E.seq ?_
  refine E.region ?_
  refine X.asg rfl rfl rfl rfl rfl ?_
  refine X.done [(0, _), (2, _)] ⟨rfl, rfl, trivial⟩ ?_
  refine N.then ?_
  refine E.seq ?_
  refine E.region ?_
  refine X.asg rfl rfl rfl rfl rfl ?_
  refine X.done [(0, _), (2, _), (3, _)] ⟨rfl, rfl, rfl, trivial⟩ ?_
  refine N.then ?_
  refine E.seq ?_
  refine E.seq ?_
  refine E.region ?_
  refine X.asg rfl rfl rfl rfl rfl ?_
  refine X.done [(0, _), (2, _), (3, _), (4, _)] ⟨rfl, rfl, rfl, rfl, trivial⟩ ?_
  refine N.then ?_
  refine E.block ?_
  -- MISSING in G: [2]
  refine E.loop (fun (q : Nat × Value) => [(0, .slice a l.length cc), (3, q.2), (4, i64 (q.1 : Int))]) (fun (q : Nat × Value) H' => q.1 ≤ l.length ∧ Own H' 40 2 q.2 (chain (l.take q.1)).length ((chain (l.take q.1)).flatMap opl) ∧ (∀ b ∈ blk q.2, H.size ≤ b) ∧ Kp [] H H') (fun (q : Nat × Value) => l.length - q.1) (0, .slice none 0 0) ⟨rfl, rfl, rfl, trivial⟩ ⟨Nat.zero_le _, Own.nil _ _ _, by simp [blk], Kp.refl _ _⟩ ?_
  rintro ⟨i, v⟩ H3 hJ
  dsimp only at hJ ⊢
  obtain ⟨hi, hown, hvb, hkk⟩ := hJ
  refine E.seq ?_
  refine E.seq ?_
  refine E.region ?_
  refine X.mv rfl rfl rfl rfl rfl ?_
  refine X.mv rfl rfl rfl rfl rfl ?_
  refine X.lenS rfl rfl rfl rfl rfl Tryd.underlying41 ?_
  refine X.lss rfl rfl rfl rfl rfl rfl ?_
  refine X.done [(0, _), (3, _), (4, _), (5, _), (6, _), (7, _), (8, _)] ⟨rfl, rfl, rfl, rfl, rfl, rfl, rfl, trivial⟩ ?_
  refine N.then ?_
  refine E.condD rfl (fun hc => ?_) (fun hc => ?_)
  · refine E.skip ?_
    refine N.then ?_
    refine E.seq ?_
    refine E.block ?_
    refine E.seq ?_
    have hi2 : i < l.length := Int.ofNat_lt.1 (by assumption)
    obtain ⟨x, hx⟩ : ∃ x, l[i]? = some x := ⟨_, List.getElem?_eq_getElem hi2⟩
    obtain ⟨bb, oo, cc2, cs, ct, fz, hv, hbb0, hel⟩ := hS.get opl_len hx (by decide)
    have hbH := lt_of hbb0
    have hbb := hkk.keep hbb0 (by simp)
    obtain ⟨rfl, _, rfl⟩ := Value.slice.inj hv
    have hk0 := hel 0 _ rfl
    have hk1e := hel 1 _ rfl
    have hclen : (chain (l.take i)).length ≤ 100 := Nat.le_trans (chain_len _) (by rw [List.length_take]; omega)
    refine E.region ?_
    refine X.mv rfl rfl rfl rfl rfl ?_
    refine X.mv rfl rfl rfl rfl rfl ?_
    refine X.ixA rfl rfl rfl rfl rfl rfl Tryd.underlying41 Tryd.sz40 (by omega) ?_
    refine X.fld rfl rfl rfl rfl rfl Tryd.off40_0 ?_
    refine X.ld rfl rfl rfl rfl Tryd.ag22 (hbb) (hk0) ?_
    refine X.neq rfl rfl rfl rfl rfl rfl ?_
    refine X.done [(0, _), (3, _), (4, _), (5, _), (6, _), (7, _), (8, _), (11, _), (12, _), (13, _), (14, _), (15, _), (16, _)] ⟨rfl, rfl, rfl, rfl, rfl, rfl, rfl, rfl, rfl, rfl, rfl, rfl, rfl, trivial⟩ ?_
    refine N.then ?_
    refine E.condD rfl (fun hc => ?_) (fun hc => ?_)
    · refine E.regionD (fun H' => H'[bb]? = some (.cells cs.toArray ct fz)) [(0, .pu), (1, .pu), (2, .pu), (3, .pu), (4, .pu), (5, .st), (7, .pu), (8, .pu), (9, .pu), (10, .pu), (11, .st), (6, .mk), (12, .pu), (13, .mk), (14, .mk), (15, .pu)] Tryd.mixed (by kernel_rfl) (hbb) ?_
      refine X.mv rfl rfl rfl rfl rfl ?_
      refine X.mv rfl rfl rfl rfl rfl ?_
      refine X.mv rfl rfl rfl rfl rfl ?_
      refine X.ixA rfl rfl rfl rfl rfl rfl Tryd.underlying41 Tryd.sz40 (by omega) ?_
      refine X.fld rfl rfl rfl rfl rfl Tryd.off40_0 ?_
      refine X.ld rfl rfl rfl rfl Tryd.ag22 (fun H' hF => hF) (hk0) ?_
      refine X.mv rfl rfl rfl rfl rfl ?_
      refine X.mv rfl rfl rfl rfl rfl ?_
      refine X.ixA rfl rfl rfl rfl rfl rfl Tryd.underlying41 Tryd.sz40 (by omega) ?_
      refine X.fld rfl rfl rfl rfl rfl Tryd.off40_1 ?_
      refine X.ld rfl rfl rfl rfl Tryd.ag3 (fun H' hF => hF) (hk1e) ?_
      refine X.call rfl rfl rfl rfl rfl Tryd.cl16 (rcounts_ct x.1 H3) ?_
      rintro _ H4 ⟨rfl, eH4⟩
      obtain rfl := eH4.symm
      refine ⟨hbb, ?_⟩
      refine X.build (v := .agg (opl (cnt x.1, x.2) : List Value).toArray) rfl rfl rfl rfl rfl (fun _ => by kernel_rfl) ?_
      refine X.lit (e := 40) (cs := opl (cnt x.1, x.2)) rfl rfl rfl rfl rfl (fun _ => by kernel_rfl) ?_
      intro b6 H6 hn6 hb6 hk6
      have hkk6 := hkk.trans hk6 (by simp)
      have hbl := lt_of hbb
      replace hbb := hk6.keep hbb (by simp)
      refine ⟨hbb, ?_⟩
      refine X.app TL rfl rfl rfl rfl rfl rfl (hown.keep hk6 (by simp)) (by exact .inl (rd_one hb6)) (.inl ⟨40, Tryd.underlying41, _, _, rfl⟩) (by simp [opl, Value.oneCell']) (by first | (simp only [maxLen]; omega) | omega) (by first | (simp only [maxLen]; omega) | omega) ?_
      intro v7 H7 ho7 hk7 hb7 hn7
      have hkk7 := hkk6.trans hk7 (fun b hb => .inr (hvb b hb))
      have hvb7 : ∀ b ∈ blk v7, H.size ≤ b := fun b hb => hb7.elim (fun h => hvb b (h ▸ hb)) (fun h => Nat.le_trans hkk6.size (h b hb))
      refine ⟨hk7.keep hbb (fun hm => absurd (hvb _ hm) (by omega)), ?_⟩
      refine X.asg rfl rfl rfl rfl rfl ?_
      refine X.done [(0, _), (3, _), (4, _), (5, _), (6, _), (7, _), (8, _), (11, _), (12, _), (13, _), (14, _), (15, _), (16, _), (17, _), (18, _), (19, _), (20, _), (21, _), (22, _), (24, _), (25, _), (26, _), (27, _), (28, _), (23, _), (29, _), (30, _), (31, _)] ⟨rfl, rfl, rfl, rfl, rfl, rfl, rfl, rfl, rfl, rfl, rfl, rfl, rfl, rfl, rfl, rfl, rfl, rfl, rfl, rfl, rfl, rfl, rfl, rfl, rfl, rfl, rfl, rfl, trivial⟩ ?_
      refine N.blk ?_
      refine N.then ?_
      refine E.region ?_
      refine X.mv rfl rfl rfl rfl rfl ?_
      refine X.add rfl rfl rfl rfl rfl rfl (by omega) ?_
      refine X.asg rfl rfl rfl rfl rfl ?_
      refine X.done [(0, _), (3, _), (4, _), (5, _), (6, _), (7, _), (8, _), (11, _), (12, _), (13, _), (14, _), (15, _), (16, _), (17, _), (18, _), (19, _), (20, _), (21, _), (22, _), (24, _), (25, _), (26, _), (27, _), (28, _), (23, _), (29, _), (30, _), (31, _), (9, _), (10, _)] ⟨rfl, rfl, rfl, rfl, rfl, rfl, rfl, rfl, rfl, rfl, rfl, rfl, rfl, rfl, rfl, rfl, rfl, rfl, rfl, rfl, rfl, rfl, rfl, rfl, rfl, rfl, rfl, rfl, rfl, rfl, trivial⟩ ?_
      first | exact N.next (G := fun (q : Nat × Value) => _) (i + 1, v7) ⟨rfl, rfl, rfl, trivial⟩ ⟨by show i + 1 ≤ l.length; omega, (by rw [chain_take hx, if_pos (by assumption), List.length_append, List.flatMap_append]; simpa using ho7), hvb7, hkk7⟩ (by show l.length - (i + 1) < l.length - i; omega) | exact N.next (G := fun (q : Nat × Value) => _) (i + 1, v) ⟨rfl, rfl, rfl, trivial⟩ ⟨by show i + 1 ≤ l.length; omega, (by rw [chain_take hx, if_neg (by assumption), List.append_nil]; exact hown), hvb, hkk⟩ (by show l.length - (i + 1) < l.length - i; omega)
    · refine E.skip ?_
      refine N.blk ?_
      refine N.then ?_
      refine E.region ?_
      refine X.mv rfl rfl rfl rfl rfl ?_
      refine X.add rfl rfl rfl rfl rfl rfl (by omega) ?_
      refine X.asg rfl rfl rfl rfl rfl ?_
      refine X.done [(0, _), (3, _), (4, _), (5, _), (6, _), (7, _), (8, _), (11, _), (12, _), (13, _), (14, _), (15, _), (16, _), (9, _), (10, _)] ⟨rfl, rfl, rfl, rfl, rfl, rfl, rfl, rfl, rfl, rfl, rfl, rfl, rfl, rfl, rfl, trivial⟩ ?_
      first | exact N.next (G := fun (q : Nat × Value) => _) (i + 1, v7) ⟨rfl, rfl, rfl, trivial⟩ ⟨by show i + 1 ≤ l.length; omega, (by rw [chain_take hx, if_pos (by assumption), List.length_append, List.flatMap_append]; simpa using ho7), hvb7, hkk7⟩ (by show l.length - (i + 1) < l.length - i; omega) | exact N.next (G := fun (q : Nat × Value) => _) (i + 1, v) ⟨rfl, rfl, rfl, trivial⟩ ⟨by show i + 1 ≤ l.length; omega, (by rw [chain_take hx, if_neg (by assumption), List.append_nil]; exact hown), hvb, hkk⟩ (by show l.length - (i + 1) < l.length - i; omega)
  · refine E.exit ?_
    refine N.thenX ?_
    refine N.loopX ?_
    refine N.blkX ?_
    refine N.then ?_
    refine E.seq ?_
    refine E.region ?_
    refine X.mv rfl rfl rfl rfl rfl ?_
    refine X.asg rfl rfl rfl rfl rfl ?_
    refine X.done [(2, _)] ⟨rfl, trivial⟩ ?_
    refine N.then ?_
    refine E.ret ?_
    have hil : i = l.length := Nat.le_antisymm hi (Int.ofNat_le.1 (Int.not_lt.1 (by assumption)))
    subst hil
    rw [List.take_length] at hown
    obtain ⟨a2, c2, hv2⟩ := hown.len
    exact N.retH [_] ⟨_, _, rfl, rfl, rfl⟩ ⟨a2, c2, hv2, hown.rd, hkk⟩

theorem rsay_ct (l : List LK) (a : Option Addr) (cc : Nat) (H : Heap) (hS : Rd H 2 (.slice a l.length cc) l.length (l.flatMap opl)) (hl : l.length ≤ 100) (hok : ∀ z ∈ l, ok64 z.2) : Ct Tryd.prog 22 #[.slice a l.length cc] H fun w H' => w = str (sayV l) ∧ Kp [] H H' := by
  refine Ct.into 32 Tryd.func22 rfl [(0, .slice a l.length cc)] rfl ⟨rfl, trivial⟩ ?_
  refine E.seq ?_
  refine E.region ?_
  refine X.asg rfl rfl rfl rfl rfl ?_
  refine X.done [(0, _), (2, _)] ⟨rfl, rfl, trivial⟩ ?_
  refine N.then ?_
  refine E.seq ?_
  refine E.region ?_
  refine X.asg rfl rfl rfl rfl rfl ?_
  refine X.done [(0, _), (2, _), (3, _)] ⟨rfl, rfl, rfl, trivial⟩ ?_
  refine N.then ?_
  refine E.seq ?_
  refine E.seq ?_
  refine E.region ?_
  refine X.asg rfl rfl rfl rfl rfl ?_
  refine X.done [(0, _), (2, _), (3, _), (4, _)] ⟨rfl, rfl, rfl, rfl, trivial⟩ ?_
  refine N.then ?_
  refine E.block ?_
  -- MISSING in G: [2]
  refine E.loop (fun (i : Nat) => [(0, .slice a l.length cc), (3, str (sayV (l.take i))), (4, i64 (i : Int))]) (fun (i : Nat) H' => i ≤ l.length ∧ Kp [] H H') (fun (i : Nat) => l.length - i) 0 ⟨rfl, rfl, rfl, trivial⟩ ⟨Nat.zero_le _, Kp.refl _ _⟩ ?_
  rintro i H3 ⟨hi, hkk⟩
  refine E.seq ?_
  refine E.seq ?_
  refine E.region ?_
  refine X.mv rfl rfl rfl rfl rfl ?_
  refine X.mv rfl rfl rfl rfl rfl ?_
  refine X.lenS rfl rfl rfl rfl rfl Tryd.underlying41 ?_
  refine X.lss rfl rfl rfl rfl rfl rfl ?_
  refine X.done [(0, _), (3, _), (4, _), (5, _), (6, _), (7, _), (8, _)] ⟨rfl, rfl, rfl, rfl, rfl, rfl, rfl, trivial⟩ ?_
  refine N.then ?_
  refine E.condD rfl (fun hc => ?_) (fun hc => ?_)
  · refine E.skip ?_
    refine N.then ?_
    refine E.seq ?_
    refine E.block ?_
    refine E.seq ?_
    refine E.seq ?_
    have hi2 : i < l.length := Int.ofNat_lt.1 (by assumption)
    obtain ⟨x, hx⟩ : ∃ x, l[i]? = some x := ⟨_, List.getElem?_eq_getElem hi2⟩
    obtain ⟨bb, oo, cc2, cs, ct, fz, hv, hbb0, hel⟩ := hS.get opl_len hx (by decide)
    have hbH := lt_of hbb0
    have hbb := hkk.keep hbb0 (by simp)
    obtain ⟨rfl, _, rfl⟩ := Value.slice.inj hv
    have hk0 := hel 0 _ rfl
    have hk1e := hel 1 _ rfl
    have hox := hok x (List.mem_of_getElem? hx)
    have hsl := say_len (l.take i) (fun z hz => hok z (List.mem_of_mem_take hz))
    rw [List.length_take] at hsl
    have hn1 := nm_len x.1
    have hn2 := num_len hox
    refine E.region ?_
    refine X.mv rfl rfl rfl rfl rfl ?_
    refine X.gtr rfl rfl rfl rfl rfl rfl ?_
    refine X.done [(0, _), (3, _), (4, _), (5, _), (6, _), (7, _), (8, _), (11, _), (12, _)] ⟨rfl, rfl, rfl, rfl, rfl, rfl, rfl, rfl, rfl, trivial⟩ ?_
    refine N.then ?_
    refine E.condD rfl (fun hc => ?_) (fun hc => ?_)
    · refine E.region ?_
      refine X.mv rfl rfl rfl rfl rfl ?_
      refine X.cat rfl rfl rfl rfl rfl rfl (by show _ + 2 ≤ _; omega) ?_
      refine X.asg rfl rfl rfl rfl rfl ?_
      refine X.done [(0, _), (3, _), (4, _), (5, _), (6, _), (7, _), (8, _), (11, _), (12, _), (13, _), (14, _)] ⟨rfl, rfl, rfl, rfl, rfl, rfl, rfl, rfl, rfl, rfl, rfl, trivial⟩ ?_
      refine N.then ?_
      refine E.regionD (fun H' => H'[bb]? = some (.cells cs.toArray ct fz)) [(0, .pu), (1, .pu), (2, .pu), (3, .pu), (4, .pu), (5, .st), (9, .pu), (10, .pu), (11, .pu), (12, .pu), (13, .st), (6, .mk), (7, .pu), (8, .pu), (14, .mk), (15, .pu), (16, .pu)] Tryd.mixed (by kernel_rfl) (hbb) ?_
      refine X.mv rfl rfl rfl rfl rfl ?_
      refine X.mv rfl rfl rfl rfl rfl ?_
      refine X.mv rfl rfl rfl rfl rfl ?_
      refine X.ixA rfl rfl rfl rfl rfl rfl Tryd.underlying41 Tryd.sz40 (by omega) ?_
      refine X.fld rfl rfl rfl rfl rfl Tryd.off40_0 ?_
      refine X.ld rfl rfl rfl rfl Tryd.ag22 (fun H' hF => hF) (hk0) ?_
      refine X.mv rfl rfl rfl rfl rfl ?_
      refine X.mv rfl rfl rfl rfl rfl ?_
      refine X.ixA rfl rfl rfl rfl rfl rfl Tryd.underlying41 Tryd.sz40 (by omega) ?_
      refine X.fld rfl rfl rfl rfl rfl Tryd.off40_1 ?_
      refine X.ld rfl rfl rfl rfl Tryd.ag3 (fun H' hF => hF) (hk1e) ?_
      refine X.call rfl rfl rfl rfl rfl Tryd.cl11 (rname_ct x.1 H3) ?_
      rintro _ H4 ⟨rfl, hk4⟩
      replace hkk := hkk.trans hk4 (by simp)
      replace hbb := hk4.keep hbb (by simp)
      refine ⟨hbb, ?_⟩
      refine X.cat rfl rfl rfl rfl rfl rfl (by first | (rw [List.length_append]; show _ + 2 + _ ≤ _; omega) | omega) ?_
      refine X.cat rfl rfl rfl rfl rfl rfl (by first | (rw [List.length_append, List.length_append]; show _ + 2 + _ + 4 ≤ _; omega) | (rw [List.length_append]; show _ + _ + 4 ≤ _; omega)) ?_
      refine X.call rfl rfl rfl rfl rfl Tryd.cl35 (rnumber_ct x.2 H4 hox) ?_
      rintro _ H5 ⟨rfl, hk5⟩
      replace hkk := hkk.trans hk5 (by simp)
      replace hbb := hk5.keep hbb (by simp)
      refine ⟨hbb, ?_⟩
      refine X.cat rfl rfl rfl rfl rfl rfl (by first | (rw [List.length_append, List.length_append, List.length_append]; show _ + 2 + _ + 4 + _ ≤ _; omega) | (rw [List.length_append, List.length_append]; show _ + _ + 4 + _ ≤ _; omega)) ?_
      refine X.asg rfl rfl rfl rfl rfl ?_
      refine X.done [(0, _), (3, _), (4, _), (5, _), (6, _), (7, _), (8, _), (11, _), (12, _), (13, _), (14, _), (15, _), (16, _), (17, _), (18, _), (19, _), (20, _), (24, _), (25, _), (26, _), (27, _), (28, _), (21, _), (22, _), (23, _), (29, _), (30, _)] ⟨rfl, rfl, rfl, rfl, rfl, rfl, rfl, rfl, rfl, rfl, rfl, rfl, rfl, rfl, rfl, rfl, rfl, rfl, rfl, rfl, rfl, rfl, rfl, rfl, rfl, rfl, rfl, trivial⟩ ?_
      refine N.blk ?_
      refine N.then ?_
      refine E.region ?_
      refine X.mv rfl rfl rfl rfl rfl ?_
      refine X.add rfl rfl rfl rfl rfl rfl (by omega) ?_
      refine X.asg rfl rfl rfl rfl rfl ?_
      refine X.done [(0, _), (3, _), (4, _), (5, _), (6, _), (7, _), (8, _), (11, _), (12, _), (13, _), (14, _), (15, _), (16, _), (17, _), (18, _), (19, _), (20, _), (24, _), (25, _), (26, _), (27, _), (28, _), (21, _), (22, _), (23, _), (29, _), (30, _), (9, _), (10, _)] ⟨rfl, rfl, rfl, rfl, rfl, rfl, rfl, rfl, rfl, rfl, rfl, rfl, rfl, rfl, rfl, rfl, rfl, rfl, rfl, rfl, rfl, rfl, rfl, rfl, rfl, rfl, rfl, rfl, rfl, trivial⟩ ?_
      first | exact N.next (i + 1) ⟨rfl, (say_nz (by omega) hx), rfl, trivial⟩ ⟨by omega, hkk⟩ (by omega) | exact N.next (i + 1) ⟨rfl, (say_z (by omega) hx), rfl, trivial⟩ ⟨by omega, hkk⟩ (by omega)
    · refine E.skip ?_
      refine N.then ?_
      refine E.regionD (fun H' => H'[bb]? = some (.cells cs.toArray ct fz)) [(0, .pu), (1, .pu), (2, .pu), (3, .pu), (4, .pu), (5, .st), (9, .pu), (10, .pu), (11, .pu), (12, .pu), (13, .st), (6, .mk), (7, .pu), (8, .pu), (14, .mk), (15, .pu), (16, .pu)] Tryd.mixed (by kernel_rfl) (hbb) ?_
      refine X.mv rfl rfl rfl rfl rfl ?_
      refine X.mv rfl rfl rfl rfl rfl ?_
      refine X.mv rfl rfl rfl rfl rfl ?_
      refine X.ixA rfl rfl rfl rfl rfl rfl Tryd.underlying41 Tryd.sz40 (by omega) ?_
      refine X.fld rfl rfl rfl rfl rfl Tryd.off40_0 ?_
      refine X.ld rfl rfl rfl rfl Tryd.ag22 (fun H' hF => hF) (hk0) ?_
      refine X.mv rfl rfl rfl rfl rfl ?_
      refine X.mv rfl rfl rfl rfl rfl ?_
      refine X.ixA rfl rfl rfl rfl rfl rfl Tryd.underlying41 Tryd.sz40 (by omega) ?_
      refine X.fld rfl rfl rfl rfl rfl Tryd.off40_1 ?_
      refine X.ld rfl rfl rfl rfl Tryd.ag3 (fun H' hF => hF) (hk1e) ?_
      refine X.call rfl rfl rfl rfl rfl Tryd.cl11 (rname_ct x.1 H3) ?_
      rintro _ H4 ⟨rfl, hk4⟩
      replace hkk := hkk.trans hk4 (by simp)
      replace hbb := hk4.keep hbb (by simp)
      refine ⟨hbb, ?_⟩
      refine X.cat rfl rfl rfl rfl rfl rfl (by first | (rw [List.length_append]; show _ + 2 + _ ≤ _; omega) | omega) ?_
      refine X.cat rfl rfl rfl rfl rfl rfl (by first | (rw [List.length_append, List.length_append]; show _ + 2 + _ + 4 ≤ _; omega) | (rw [List.length_append]; show _ + _ + 4 ≤ _; omega)) ?_
      refine X.call rfl rfl rfl rfl rfl Tryd.cl35 (rnumber_ct x.2 H4 hox) ?_
      rintro _ H5 ⟨rfl, hk5⟩
      replace hkk := hkk.trans hk5 (by simp)
      replace hbb := hk5.keep hbb (by simp)
      refine ⟨hbb, ?_⟩
      refine X.cat rfl rfl rfl rfl rfl rfl (by first | (rw [List.length_append, List.length_append, List.length_append]; show _ + 2 + _ + 4 + _ ≤ _; omega) | (rw [List.length_append, List.length_append]; show _ + _ + 4 + _ ≤ _; omega)) ?_
      refine X.asg rfl rfl rfl rfl rfl ?_
      refine X.done [(0, _), (3, _), (4, _), (5, _), (6, _), (7, _), (8, _), (11, _), (12, _), (15, _), (16, _), (17, _), (18, _), (19, _), (20, _), (24, _), (25, _), (26, _), (27, _), (28, _), (21, _), (22, _), (23, _), (29, _), (30, _)] ⟨rfl, rfl, rfl, rfl, rfl, rfl, rfl, rfl, rfl, rfl, rfl, rfl, rfl, rfl, rfl, rfl, rfl, rfl, rfl, rfl, rfl, rfl, rfl, rfl, rfl, trivial⟩ ?_
      refine N.blk ?_
      refine N.then ?_
      refine E.region ?_
      refine X.mv rfl rfl rfl rfl rfl ?_
      refine X.add rfl rfl rfl rfl rfl rfl (by omega) ?_
      refine X.asg rfl rfl rfl rfl rfl ?_
      refine X.done [(0, _), (3, _), (4, _), (5, _), (6, _), (7, _), (8, _), (11, _), (12, _), (15, _), (16, _), (17, _), (18, _), (19, _), (20, _), (24, _), (25, _), (26, _), (27, _), (28, _), (21, _), (22, _), (23, _), (29, _), (30, _), (9, _), (10, _)] ⟨rfl, rfl, rfl, rfl, rfl, rfl, rfl, rfl, rfl, rfl, rfl, rfl, rfl, rfl, rfl, rfl, rfl, rfl, rfl, rfl, rfl, rfl, rfl, rfl, rfl, rfl, rfl, trivial⟩ ?_
      first | exact N.next (i + 1) ⟨rfl, (say_nz (by omega) hx), rfl, trivial⟩ ⟨by omega, hkk⟩ (by omega) | exact N.next (i + 1) ⟨rfl, (say_z (by omega) hx), rfl, trivial⟩ ⟨by omega, hkk⟩ (by omega)
  · refine E.exit ?_
    refine N.thenX ?_
    refine N.loopX ?_
    refine N.blkX ?_
    refine N.then ?_
    refine E.seq ?_
    refine E.region ?_
    refine X.mv rfl rfl rfl rfl rfl ?_
    refine X.asg rfl rfl rfl rfl rfl ?_
    refine X.done [(2, _)] ⟨rfl, trivial⟩ ?_
    refine N.then ?_
    refine E.ret ?_
    have hil : i = l.length := Nat.le_antisymm hi (Int.ofNat_le.1 (Int.not_lt.1 (by assumption)))
    exact N.retH [_] ⟨_, _, rfl, rfl, rfl⟩ ⟨by rw [hil, List.take_length]; rfl, hkk⟩

end Go.Proofs.YtaofjmaekpjkhaaDoor