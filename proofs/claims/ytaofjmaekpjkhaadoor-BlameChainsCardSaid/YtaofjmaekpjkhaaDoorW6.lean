/- The laws of blames: fixed calls, codes, none. -/
import Derived.Test.YtaofjmaekpjkhaaDoorW5
namespace Go.Proofs.YtaofjmaekpjkhaaDoor
open Go.SX Go.Blm
attribute [local irreducible] X E N Ct
set_option linter.unusedVariables false

abbrev L2 : List LK := [(4, 9), (2, 4)]
theorem k_und : und 4 9 (und 2 4 []) = L2 := by decide
theorem k_num9 : numV 9 = [57] := by
  rw [numV, if_neg (by decide)]; show dg 9 = _; rw [dg_lt (by decide)]; rfl
theorem k_num4 : numV 4 = [52] := by
  rw [numV, if_neg (by decide)]; show dg 4 = _; rw [dg_lt (by decide)]; rfl
theorem k_say : sayV L2 = [102, 111, 114, 109, 32, 97, 116, 32, 57, 58, 32, 115, 104, 111, 114, 116, 32, 97, 116, 32, 52] := by
  show one (4, 9) ++ [58, 32] ++ one (2, 4) = _
  simp only [one, k_num9, k_num4]; decide
theorem k_fam : famN L2 = 1 := by decide
theorem k_name : nm 27 = [109, 97, 116, 99, 104] := by decide
theorem k_ok : ∀ z ∈ L2, ok64 z.2 := by
  intro z hz
  simp only [List.mem_cons, List.not_mem_nil, or_false] at hz
  rcases hz with rfl | rfl <;> exact ⟨by decide, by decide⟩
theorem has_one (c k : Int) : has c [(c, k)] = true := by simp [has]
theorem fam_one (c k : Int) : famN [(c, k)] = (fi c : Int) := by simp [famN, lastL]
theorem ok_one {c k : Int} (h : ok64 k) : ∀ z ∈ [((c, k) : LK)], ok64 z.2 := by
  intro z hz
  obtain rfl : z = (c, k) := by simpa using hz
  exact h
theorem ok_nil : ∀ z ∈ ([] : List LK), ok64 z.2 := by simp
theorem rd_one' {H : Heap} {b c : Nat} {e : TypeId} {x : LK} (hb : H[b]? = some (.cells (opl x).toArray e (0, 0))) : Rd H 2 (.slice (some ⟨b, 0, none⟩) [x].length c) [x].length ([x].flatMap opl) := by
  have h := rd_one (c := c) hb
  simpa using h

theorem known_ct (A : Nat → Addr) (H : Heap) (hG : Gl H A) : Ct Tryd.prog 14 #[] H fun v H' => v = .bool true ∧ Kp [] H H' := by
  have hkk : Kp [] H H := Kp.refl _ _
  refine Ct.into 56 Tryd.func14 rfl [] rfl trivial ?_
  refine E.seq ?_
  refine E.region ?_
  refine X.asg rfl rfl rfl rfl rfl ?_
  refine X.done [(0, _)] ⟨rfl, trivial⟩ ?_
  refine N.then ?_
  refine E.seq ?_
  refine E.region ?_
  refine X.call rfl rfl rfl rfl rfl Tryd.cl7 (new_ct 2 4 A H hG) ?_
  rintro _ Hx ⟨v0, rfl, hB0, hkx⟩
  replace hkk := hkk.trans hkx (by simp)
  clear hkx
  refine X.call rfl rfl rfl rfl rfl Tryd.cl25 (under_ct 4 9 A _ v0 _ (hG.keep hkk) hB0) ?_
  rintro _ Hx ⟨v1, rfl, hB, hkx⟩
  replace hkk := hkk.trans hkx (by simp)
  clear hkx
  rw [k_und] at hB
  refine X.alloc (z := .agg ([.nilIface] : List Value).toArray) (cs := [.nilIface]) rfl rfl rfl rfl (by kernel_rfl) rfl ?_
  intro b1 Hx hnb1 hb1 hkx
  replace hB := hB.keep hkx
  have hsb1 : H.size ≤ b1 := Nat.le_trans hkk.size hnb1
  replace hkk := hkk.trans hkx (by simp)
  clear hkx
  refine X.stA rfl rfl rfl rfl rfl rfl (hB.one) Tryd.sz26 hb1 (Nat.le_refl _) ?_
  intro Hx hxb hkx
  replace hB := hB.keepT hkx hb1 (by decide)
  replace hb1 := hxb
  replace hkk := hkk.trans hkx (by simp; exact hsb1)
  clear hkx hxb
  refine X.done [(0, _), (1, _)] ⟨rfl, rfl, trivial⟩ ?_
  refine N.then ?_
  refine E.seq ?_
  refine E.region ?_
  refine X.ldA rfl rfl rfl rfl Tryd.ag26 Tryd.sz26 (hb1) rfl zoff ?_
  refine X.call rfl rfl rfl rfl rfl Tryd.cl15 (root_ct L2 v1 _ _ (hG.keep hkk).et hB.bv) ?_
  rintro _ Hx ⟨rfl, hkx⟩
  replace hb1 := hkx.keep hb1 (by simp)
  replace hB := hB.keep hkx
  replace hkk := hkk.trans hkx (by simp)
  clear hkx
  refine X.mv rfl rfl rfl rfl rfl ?_
  refine X.extract rfl rfl rfl rfl rfl rfl ?_
  refine X.extract rfl rfl rfl rfl rfl rfl ?_
  refine X.asg rfl rfl rfl rfl rfl ?_
  refine X.asg rfl rfl rfl rfl rfl ?_
  refine X.done [(0, _), (1, _), (2, _), (3, _)] ⟨rfl, rfl, rfl, rfl, trivial⟩ ?_
  refine N.then ?_
  refine E.seq ?_
  refine E.region ?_
  refine X.alloc (z := .agg ([.nilIface] : List Value).toArray) (cs := [.nilIface]) rfl rfl rfl rfl (by kernel_rfl) rfl ?_
  intro b4 Hx hnb4 hb4 hkx
  replace hB := hB.keep hkx
  have hlhb1 := lt_of hb1
  have hneb1b4 : b1 ≠ b4 := by omega
  replace hb1 := hkx.keep hb1 (by simp)
  have hsb4 : H.size ≤ b4 := Nat.le_trans hkk.size hnb4
  replace hkk := hkk.trans hkx (by simp)
  clear hkx
  refine X.done [(0, _), (1, _), (2, _), (3, _), (4, _)] ⟨rfl, rfl, rfl, rfl, rfl, trivial⟩ ?_
  refine N.then ?_
  refine E.seq ?_
  refine E.region ?_
  refine X.ldA rfl rfl rfl rfl Tryd.ag26 Tryd.sz26 (hb1) rfl zoff ?_
  refine X.call rfl rfl rfl rfl rfl Tryd.cl17 (code_ct L2 v1 _ _ (hG.keep hkk).et hB.bv) ?_
  rintro _ Hx ⟨rfl, hkx⟩
  replace hb1 := hkx.keep hb1 (by simp)
  replace hB := hB.keep hkx
  replace hb4 := hkx.keep hb4 (by simp)
  replace hkk := hkk.trans hkx (by simp)
  clear hkx
  refine X.eqlT rfl rfl rfl rfl rfl rfl (rfl) ?_
  refine X.mv rfl rfl rfl rfl rfl ?_
  refine X.ldA rfl rfl rfl rfl Tryd.ag26 Tryd.sz26 (hb1) rfl zoff ?_
  refine X.call rfl rfl rfl rfl rfl Tryd.cl18 (at_ct L2 v1 _ _ (hG.keep hkk).et hB.bv) ?_
  rintro _ Hx ⟨rfl, hkx⟩
  replace hb1 := hkx.keep hb1 (by simp)
  replace hB := hB.keep hkx
  replace hb4 := hkx.keep hb4 (by simp)
  replace hkk := hkk.trans hkx (by simp)
  clear hkx
  refine X.eqlT rfl rfl rfl rfl rfl rfl (rfl) ?_
  refine X.pickT rfl rfl rfl rfl rfl rfl ?_
  refine X.mv rfl rfl rfl rfl rfl ?_
  refine X.mv rfl rfl rfl rfl rfl ?_
  refine X.eqlT rfl rfl rfl rfl rfl rfl (rfl) ?_
  refine X.pickT rfl rfl rfl rfl rfl rfl ?_
  refine X.mv rfl rfl rfl rfl rfl ?_
  refine X.mv rfl rfl rfl rfl rfl ?_
  refine X.eqlT rfl rfl rfl rfl rfl rfl (rfl) ?_
  refine X.pickT rfl rfl rfl rfl rfl rfl ?_
  refine X.mv rfl rfl rfl rfl rfl ?_
  refine X.ldA rfl rfl rfl rfl Tryd.ag26 Tryd.sz26 (hb1) rfl zoff ?_
  refine X.call rfl rfl rfl rfl rfl Tryd.cl12 (deep_ct L2 v1 _ _ (by decide) (hG.keep hkk).et hB.bv) ?_
  rintro _ Hx ⟨rfl, hkx⟩
  replace hb1 := hkx.keep hb1 (by simp)
  replace hB := hB.keep hkx
  replace hb4 := hkx.keep hb4 (by simp)
  replace hkk := hkk.trans hkx (by simp)
  clear hkx
  refine X.eqlT rfl rfl rfl rfl rfl rfl (rfl) ?_
  refine X.pickT rfl rfl rfl rfl rfl rfl ?_
  refine X.mv rfl rfl rfl rfl rfl ?_
  refine X.ldA rfl rfl rfl rfl Tryd.ag26 Tryd.sz26 (hb1) rfl zoff ?_
  refine X.call rfl rfl rfl rfl rfl Tryd.cl20 (famtell_ct L2 v1 A _ (hG.keep hkk) hB) ?_
  rintro _ Hx ⟨rfl, hkx⟩
  replace hb1 := hkx.keep hb1 (by simp)
  replace hB := hB.keep hkx
  replace hb4 := hkx.keep hb4 (by simp)
  replace hkk := hkk.trans hkx (by simp)
  clear hkx
  rw [k_fam]
  refine X.eqlT rfl rfl rfl rfl rfl rfl (rfl) ?_
  refine X.pickT rfl rfl rfl rfl rfl rfl ?_
  refine X.mv rfl rfl rfl rfl rfl ?_
  refine X.ldA rfl rfl rfl rfl Tryd.ag26 Tryd.sz26 (hb1) rfl zoff ?_
  refine X.call rfl rfl rfl rfl rfl Tryd.cl13 (say_ct L2 v1 _ _ (hG.keep hkk).et hB.bv (by decide) k_ok) ?_
  rintro _ Hx ⟨rfl, hkx⟩
  replace hb1 := hkx.keep hb1 (by simp)
  replace hB := hB.keep hkx
  replace hb4 := hkx.keep hb4 (by simp)
  replace hkk := hkk.trans hkx (by simp)
  clear hkx
  rw [k_say]
  refine X.eqlST rfl rfl rfl rfl rfl rfl (rfl) ?_
  refine X.pickT rfl rfl rfl rfl rfl rfl ?_
  refine X.mv rfl rfl rfl rfl rfl ?_
  refine X.ldA rfl rfl rfl rfl Tryd.ag26 Tryd.sz26 (hb4) rfl zoff ?_
  refine X.call rfl rfl rfl rfl rfl Tryd.cl12 (deep_ct [] .nilIface (A 1) _ (by decide) (hG.keep hkk).et (.inl ⟨rfl, rfl⟩)) ?_
  rintro _ Hx ⟨rfl, hkx⟩
  replace hb1 := hkx.keep hb1 (by simp)
  replace hB := hB.keep hkx
  replace hb4 := hkx.keep hb4 (by simp)
  replace hkk := hkk.trans hkx (by simp)
  clear hkx
  refine X.eqlT rfl rfl rfl rfl rfl rfl (rfl) ?_
  refine X.pickT rfl rfl rfl rfl rfl rfl ?_
  refine X.mv rfl rfl rfl rfl rfl ?_
  refine X.call rfl rfl rfl rfl rfl Tryd.cl10 (name_ct 27 _) ?_
  rintro _ Hx ⟨rfl, eHx⟩
  obtain rfl := eHx.symm
  rw [k_name]
  refine X.eqlST rfl rfl rfl rfl rfl rfl (rfl) ?_
  refine X.pickT rfl rfl rfl rfl rfl rfl ?_
  refine X.mv rfl rfl rfl rfl rfl ?_
  refine X.call rfl rfl rfl rfl rfl Tryd.cl8 (known_c_ct 28 _) ?_
  rintro _ Hx ⟨rfl, eHx⟩
  obtain rfl := eHx.symm
  rw [show kn 28 = false from rfl]
  refine X.notF rfl rfl rfl rfl rfl ?_
  refine X.pickT rfl rfl rfl rfl rfl rfl ?_
  refine X.asg rfl rfl rfl rfl rfl ?_
  refine X.done [(0, _)] ⟨rfl, trivial⟩ ?_
  refine N.then ?_
  refine E.ret ?_
  exact N.retH [_] ⟨_, _, rfl, rfl, rfl⟩ ⟨rfl, hkk⟩

theorem codes_zero (k : Int) (A : Nat → Addr) (H : Heap) (hG : Gl H A) : Ct Tryd.prog 3 #[i64 0, i64 k] H fun v H' => v = .bool true ∧ Kp [] H H' := by
  have hkk : Kp [] H H := Kp.refl _ _
  refine Ct.into 94 Tryd.func3 rfl [(0, i64 0), (1, i64 k)] rfl ⟨rfl, rfl, trivial⟩ ?_
  refine E.seq ?_
  refine E.region ?_
  refine X.asg rfl rfl rfl rfl rfl ?_
  refine X.done [(0, _), (1, _), (4, _)] ⟨rfl, rfl, rfl, trivial⟩ ?_
  refine N.then ?_
  refine E.seq ?_
  refine E.region ?_
  refine X.mv rfl rfl rfl rfl rfl ?_
  refine X.mv rfl rfl rfl rfl rfl ?_
  refine X.call rfl rfl rfl rfl rfl Tryd.cl7 (new_ct 0 k A H hG) ?_
  rintro _ Hx ⟨v0, rfl, hB, hkx⟩
  replace hkk := hkk.trans hkx (by simp)
  clear hkx
  refine X.alloc (z := .agg ([.nilIface] : List Value).toArray) (cs := [.nilIface]) rfl rfl rfl rfl (by kernel_rfl) rfl ?_
  intro b5 Hx hnb5 hb5 hkx
  replace hB := hB.keep hkx
  have hsb5 : H.size ≤ b5 := Nat.le_trans hkk.size hnb5
  replace hkk := hkk.trans hkx (by simp)
  clear hkx
  refine X.stA rfl rfl rfl rfl rfl rfl (hB.one) Tryd.sz26 hb5 (Nat.le_refl _) ?_
  intro Hx hxb hkx
  replace hB := hB.keepT hkx hb5 (by decide)
  replace hb5 := hxb
  replace hkk := hkk.trans hkx (by simp; exact hsb5)
  clear hkx hxb
  refine X.done [(0, _), (1, _), (4, _), (5, _)] ⟨rfl, rfl, rfl, rfl, trivial⟩ ?_
  refine N.then ?_
  refine E.seq ?_
  refine E.seq ?_
  refine E.region ?_
  refine X.mv rfl rfl rfl rfl rfl ?_
  refine X.call rfl rfl rfl rfl rfl Tryd.cl8 (known_c_ct 0 _) ?_
  rintro _ Hx ⟨rfl, eHx⟩
  obtain rfl := eHx.symm
  refine X.mv rfl rfl rfl rfl rfl ?_
  refine X.call rfl rfl rfl rfl rfl Tryd.cl9 (rknown_c_ct 0 _) ?_
  rintro _ Hx ⟨rfl, eHx⟩
  obtain rfl := eHx.symm
  refine X.neqBF rfl rfl rfl rfl rfl rfl Tryd.underlying4 (rfl) ?_
  refine X.mv rfl rfl rfl rfl rfl ?_
  refine X.mv rfl rfl rfl rfl rfl ?_
  refine X.call rfl rfl rfl rfl rfl Tryd.cl10 (name_ct 0 _) ?_
  rintro _ Hx ⟨rfl, eHx⟩
  obtain rfl := eHx.symm
  refine X.mv rfl rfl rfl rfl rfl ?_
  refine X.call rfl rfl rfl rfl rfl Tryd.cl11 (rname_ct 0 _) ?_
  rintro _ Hx ⟨rfl, hkx⟩
  replace hb5 := hkx.keep hb5 (by simp)
  replace hB := hB.keep hkx
  replace hkk := hkk.trans hkx (by simp)
  clear hkx
  refine X.neqSF rfl rfl rfl rfl rfl rfl (rfl) ?_
  refine X.pickF rfl rfl rfl rfl rfl rfl ?_
  refine X.done [(0, _), (1, _), (4, _), (5, _), (23, _)] ⟨rfl, rfl, rfl, rfl, rfl, trivial⟩ ?_
  refine N.then ?_
  refine E.condF rfl ?_
  refine E.skip ?_
  refine N.then ?_
  refine E.seq ?_
  refine E.seq ?_
  refine E.region ?_
  refine X.mv rfl rfl rfl rfl rfl ?_
  refine X.eqlT rfl rfl rfl rfl rfl rfl (rfl) ?_
  refine X.done [(0, _), (1, _), (4, _), (5, _), (25, _)] ⟨rfl, rfl, rfl, rfl, rfl, trivial⟩ ?_
  refine N.then ?_
  refine E.condT rfl ?_
  refine E.seq ?_
  refine E.region ?_
  refine X.ldA rfl rfl rfl rfl Tryd.ag26 Tryd.sz26 (hb5) rfl zoff ?_
  refine X.call rfl rfl rfl rfl rfl Tryd.cl12 (deep_ct [] v0 _ _ (by decide) (hG.keep hkk).et hB.bv) ?_
  rintro _ Hx ⟨rfl, hkx⟩
  replace hb5 := hkx.keep hb5 (by simp)
  replace hB := hB.keep hkx
  replace hkk := hkk.trans hkx (by simp)
  clear hkx
  refine X.eqlT rfl rfl rfl rfl rfl rfl (rfl) ?_
  refine X.mv rfl rfl rfl rfl rfl ?_
  refine X.ldA rfl rfl rfl rfl Tryd.ag26 Tryd.sz26 (hb5) rfl zoff ?_
  refine X.call rfl rfl rfl rfl rfl Tryd.cl13 (say_ct [] v0 _ _ (hG.keep hkk).et hB.bv (by decide) ok_nil) ?_
  rintro _ Hx ⟨rfl, hkx⟩
  replace hb5 := hkx.keep hb5 (by simp)
  replace hB := hB.keep hkx
  replace hkk := hkk.trans hkx (by simp)
  clear hkx
  refine X.eqlST rfl rfl rfl rfl rfl rfl (rfl) ?_
  refine X.pickT rfl rfl rfl rfl rfl rfl ?_
  refine X.mv rfl rfl rfl rfl rfl ?_
  refine X.call rfl rfl rfl rfl rfl Tryd.cl14 (known_ct A _ (hG.keep hkk)) ?_
  rintro _ Hx ⟨rfl, hkx⟩
  replace hb5 := hkx.keep hb5 (by simp)
  replace hB := hB.keep hkx
  replace hkk := hkk.trans hkx (by simp)
  clear hkx
  refine X.pickT rfl rfl rfl rfl rfl rfl ?_
  refine X.asg rfl rfl rfl rfl rfl ?_
  refine X.done [(0, _), (1, _), (4, _), (5, _)] ⟨rfl, rfl, rfl, rfl, trivial⟩ ?_
  refine N.then ?_
  refine E.ret ?_
  refine N.thenR ?_
  exact N.retH [_] ⟨_, _, rfl, rfl, rfl⟩ ⟨rfl, hkk⟩

theorem codes_not (c k : Int) (A : Nat → Addr) (H : Heap) (hG : Gl H A) (hc : c ≠ 0) (hk : ok64 k) : Ct Tryd.prog 3 #[i64 c, i64 k] H fun v H' => v = .bool true ∧ Kp [] H H' := by
  have hkk : Kp [] H H := Kp.refl _ _
  have hu : und c k [] = [(cnt c, k)] := und_not (fun h => hc ((cnt_zero c).1 h)) []
  refine Ct.into 94 Tryd.func3 rfl [(0, i64 c), (1, i64 k)] rfl ⟨rfl, rfl, trivial⟩ ?_
  refine E.seq ?_
  refine E.region ?_
  refine X.asg rfl rfl rfl rfl rfl ?_
  refine X.done [(0, _), (1, _), (4, _)] ⟨rfl, rfl, rfl, trivial⟩ ?_
  refine N.then ?_
  refine E.seq ?_
  refine E.region ?_
  refine X.mv rfl rfl rfl rfl rfl ?_
  refine X.mv rfl rfl rfl rfl rfl ?_
  refine X.call rfl rfl rfl rfl rfl Tryd.cl7 (new_ct c k A H hG) ?_
  rintro _ Hx ⟨v0, rfl, hB, hkx⟩
  replace hkk := hkk.trans hkx (by simp)
  clear hkx
  rw [hu] at hB
  refine X.alloc (z := .agg ([.nilIface] : List Value).toArray) (cs := [.nilIface]) rfl rfl rfl rfl (by kernel_rfl) rfl ?_
  intro b5 Hx hnb5 hb5 hkx
  replace hB := hB.keep hkx
  have hsb5 : H.size ≤ b5 := Nat.le_trans hkk.size hnb5
  replace hkk := hkk.trans hkx (by simp)
  clear hkx
  refine X.stA rfl rfl rfl rfl rfl rfl (hB.one) Tryd.sz26 hb5 (Nat.le_refl _) ?_
  intro Hx hxb hkx
  replace hB := hB.keepT hkx hb5 (by decide)
  replace hb5 := hxb
  replace hkk := hkk.trans hkx (by simp; exact hsb5)
  clear hkx hxb
  refine X.done [(0, _), (1, _), (4, _), (5, _)] ⟨rfl, rfl, rfl, rfl, trivial⟩ ?_
  refine N.then ?_
  refine E.seq ?_
  refine E.seq ?_
  refine E.region ?_
  refine X.mv rfl rfl rfl rfl rfl ?_
  refine X.call rfl rfl rfl rfl rfl Tryd.cl8 (known_c_ct c _) ?_
  rintro _ Hx ⟨rfl, eHx⟩
  obtain rfl := eHx.symm
  refine X.mv rfl rfl rfl rfl rfl ?_
  refine X.call rfl rfl rfl rfl rfl Tryd.cl9 (rknown_c_ct c _) ?_
  rintro _ Hx ⟨rfl, eHx⟩
  obtain rfl := eHx.symm
  refine X.neqBF rfl rfl rfl rfl rfl rfl Tryd.underlying4 (rfl) ?_
  refine X.mv rfl rfl rfl rfl rfl ?_
  refine X.mv rfl rfl rfl rfl rfl ?_
  refine X.call rfl rfl rfl rfl rfl Tryd.cl10 (name_ct c _) ?_
  rintro _ Hx ⟨rfl, eHx⟩
  obtain rfl := eHx.symm
  refine X.mv rfl rfl rfl rfl rfl ?_
  refine X.call rfl rfl rfl rfl rfl Tryd.cl11 (rname_ct c _) ?_
  rintro _ Hx ⟨rfl, hkx⟩
  replace hb5 := hkx.keep hb5 (by simp)
  replace hB := hB.keep hkx
  replace hkk := hkk.trans hkx (by simp)
  clear hkx
  refine X.neqSF rfl rfl rfl rfl rfl rfl (rfl) ?_
  refine X.pickF rfl rfl rfl rfl rfl rfl ?_
  refine X.done [(0, _), (1, _), (4, _), (5, _), (23, _)] ⟨rfl, rfl, rfl, rfl, rfl, trivial⟩ ?_
  refine N.then ?_
  refine E.condF rfl ?_
  refine E.skip ?_
  refine N.then ?_
  refine E.seq ?_
  refine E.seq ?_
  refine E.region ?_
  refine X.mv rfl rfl rfl rfl rfl ?_
  refine X.eqlF rfl rfl rfl rfl rfl rfl (hc) ?_
  refine X.done [(0, _), (1, _), (4, _), (5, _), (25, _)] ⟨rfl, rfl, rfl, rfl, rfl, trivial⟩ ?_
  refine N.then ?_
  refine E.condF rfl ?_
  refine E.skip ?_
  refine N.then ?_
  refine E.seq ?_
  refine E.region ?_
  refine X.ldA rfl rfl rfl rfl Tryd.ag26 Tryd.sz26 (hb5) rfl zoff ?_
  refine X.call rfl rfl rfl rfl rfl Tryd.cl15 (root_ct [(cnt c, k)] v0 _ _ (hG.keep hkk).et hB.bv) ?_
  rintro _ Hx ⟨rfl, hkx⟩
  replace hb5 := hkx.keep hb5 (by simp)
  replace hB := hB.keep hkx
  replace hkk := hkk.trans hkx (by simp)
  clear hkx
  refine X.mv rfl rfl rfl rfl rfl ?_
  refine X.extract rfl rfl rfl rfl rfl rfl ?_
  refine X.extract rfl rfl rfl rfl rfl rfl ?_
  refine X.asg rfl rfl rfl rfl rfl ?_
  refine X.asg rfl rfl rfl rfl rfl ?_
  refine X.done [(0, _), (1, _), (4, _), (5, _), (6, _), (7, _)] ⟨rfl, rfl, rfl, rfl, rfl, rfl, trivial⟩ ?_
  refine N.then ?_
  refine E.seq ?_
  refine E.region ?_
  refine X.mv rfl rfl rfl rfl rfl ?_
  refine X.call rfl rfl rfl rfl rfl Tryd.cl16 (rcounts_ct c _) ?_
  rintro _ Hx ⟨rfl, eHx⟩
  obtain rfl := eHx.symm
  refine X.asg rfl rfl rfl rfl rfl ?_
  refine X.done [(1, _), (4, _), (5, _), (6, _), (7, _), (8, _)] ⟨rfl, rfl, rfl, rfl, rfl, rfl, trivial⟩ ?_
  refine N.then ?_
  refine E.seq ?_
  refine E.region ?_
  refine X.ldA rfl rfl rfl rfl Tryd.ag26 Tryd.sz26 (hb5) rfl zoff ?_
  refine X.call rfl rfl rfl rfl rfl Tryd.cl17 (code_ct [(cnt c, k)] v0 _ _ (hG.keep hkk).et hB.bv) ?_
  rintro _ Hx ⟨rfl, hkx⟩
  replace hb5 := hkx.keep hb5 (by simp)
  replace hB := hB.keep hkx
  replace hkk := hkk.trans hkx (by simp)
  clear hkx
  refine X.mv rfl rfl rfl rfl rfl ?_
  refine X.eqlT rfl rfl rfl rfl rfl rfl (rfl) ?_
  refine X.mv rfl rfl rfl rfl rfl ?_
  refine X.ldA rfl rfl rfl rfl Tryd.ag26 Tryd.sz26 (hb5) rfl zoff ?_
  refine X.call rfl rfl rfl rfl rfl Tryd.cl18 (at_ct [(cnt c, k)] v0 _ _ (hG.keep hkk).et hB.bv) ?_
  rintro _ Hx ⟨rfl, hkx⟩
  replace hb5 := hkx.keep hb5 (by simp)
  replace hB := hB.keep hkx
  replace hkk := hkk.trans hkx (by simp)
  clear hkx
  refine X.mv rfl rfl rfl rfl rfl ?_
  refine X.eqlT rfl rfl rfl rfl rfl rfl (rfl) ?_
  refine X.pickT rfl rfl rfl rfl rfl rfl ?_
  refine X.mv rfl rfl rfl rfl rfl ?_
  refine X.mv rfl rfl rfl rfl rfl ?_
  refine X.mv rfl rfl rfl rfl rfl ?_
  refine X.eqlT rfl rfl rfl rfl rfl rfl (rfl) ?_
  refine X.pickT rfl rfl rfl rfl rfl rfl ?_
  refine X.mv rfl rfl rfl rfl rfl ?_
  refine X.mv rfl rfl rfl rfl rfl ?_
  refine X.mv rfl rfl rfl rfl rfl ?_
  refine X.eqlT rfl rfl rfl rfl rfl rfl (rfl) ?_
  refine X.pickT rfl rfl rfl rfl rfl rfl ?_
  refine X.mv rfl rfl rfl rfl rfl ?_
  refine X.ldA rfl rfl rfl rfl Tryd.ag26 Tryd.sz26 (hb5) rfl zoff ?_
  refine X.call rfl rfl rfl rfl rfl Tryd.cl12 (deep_ct [(cnt c, k)] v0 _ _ (show 1 ≤ 900 by decide) (hG.keep hkk).et hB.bv) ?_
  rintro _ Hx ⟨rfl, hkx⟩
  replace hb5 := hkx.keep hb5 (by simp)
  replace hB := hB.keep hkx
  replace hkk := hkk.trans hkx (by simp)
  clear hkx
  refine X.eqlT rfl rfl rfl rfl rfl rfl (rfl) ?_
  refine X.pickT rfl rfl rfl rfl rfl rfl ?_
  refine X.mv rfl rfl rfl rfl rfl ?_
  refine X.ldA rfl rfl rfl rfl Tryd.ag26 Tryd.sz26 (hb5) rfl zoff ?_
  refine X.mv rfl rfl rfl rfl rfl ?_
  refine X.call rfl rfl rfl rfl rfl Tryd.cl19 (has_ct [(cnt c, k)] v0 _ (cnt c) _ (hG.keep hkk).et hB.bv) ?_
  rintro _ Hx ⟨rfl, hkx⟩
  replace hb5 := hkx.keep hb5 (by simp)
  replace hB := hB.keep hkx
  replace hkk := hkk.trans hkx (by simp)
  clear hkx
  rw [has_one]
  refine X.pickT rfl rfl rfl rfl rfl rfl ?_
  refine X.mv rfl rfl rfl rfl rfl ?_
  refine X.ldA rfl rfl rfl rfl Tryd.ag26 Tryd.sz26 (hb5) rfl zoff ?_
  refine X.call rfl rfl rfl rfl rfl Tryd.cl20 (famtell_ct [(cnt c, k)] v0 A _ (hG.keep hkk) hB) ?_
  rintro _ Hx ⟨rfl, hkx⟩
  replace hb5 := hkx.keep hb5 (by simp)
  replace hB := hB.keep hkx
  replace hkk := hkk.trans hkx (by simp)
  clear hkx
  rw [fam_one]
  refine X.mv rfl rfl rfl rfl rfl ?_
  refine X.call rfl rfl rfl rfl rfl Tryd.cl21 (rfamily_ct (cnt c) _) ?_
  rintro _ Hx ⟨rfl, hkx⟩
  replace hb5 := hkx.keep hb5 (by simp)
  replace hB := hB.keep hkx
  replace hkk := hkk.trans hkx (by simp)
  clear hkx
  refine X.eqlT rfl rfl rfl rfl rfl rfl (rfl) ?_
  refine X.pickT rfl rfl rfl rfl rfl rfl ?_
  refine X.mv rfl rfl rfl rfl rfl ?_
  refine X.ldA rfl rfl rfl rfl Tryd.ag26 Tryd.sz26 (hb5) rfl zoff ?_
  refine X.call rfl rfl rfl rfl rfl Tryd.cl13 (say_ct [(cnt c, k)] v0 _ _ (hG.keep hkk).et hB.bv (show 1 ≤ 100 by decide) (ok_one hk)) ?_
  rintro _ Hx ⟨rfl, hkx⟩
  replace hb5 := hkx.keep hb5 (by simp)
  replace hB := hB.keep hkx
  replace hkk := hkk.trans hkx (by simp)
  clear hkx
  refine X.mv rfl rfl rfl rfl rfl ?_
  refine X.mv rfl rfl rfl rfl rfl ?_
  refine X.build (v := .agg (opl (cnt c, k) : List Value).toArray) rfl rfl rfl rfl rfl (fun _ => by kernel_rfl) ?_
  refine X.lit (e := 40) (cs := opl (cnt c, k)) rfl rfl rfl rfl rfl (fun _ => by kernel_rfl) ?_
  intro b6 Hx hnb6 hb6 hkx
  replace hB := hB.keep hkx
  have hlhb5 := lt_of hb5
  have hneb5b6 : b5 ≠ b6 := by omega
  replace hb5 := hkx.keep hb5 (by simp)
  have hsb6 : H.size ≤ b6 := Nat.le_trans hkk.size hnb6
  replace hkk := hkk.trans hkx (by simp)
  clear hkx
  refine X.call rfl rfl rfl rfl rfl Tryd.cl22 (rsay_ct [(cnt c, k)] (some ⟨b6, 0, none⟩) 1 _ (rd_one' hb6) (show 1 ≤ 100 by decide) (ok_one hk)) ?_
  rintro _ Hx ⟨rfl, hkx⟩
  replace hb5 := hkx.keep hb5 (by simp)
  replace hB := hB.keep hkx
  replace hkk := hkk.trans hkx (by simp)
  clear hkx
  refine X.eqlST rfl rfl rfl rfl rfl rfl (rfl) ?_
  refine X.pickT rfl rfl rfl rfl rfl rfl ?_
  refine X.mv rfl rfl rfl rfl rfl ?_
  refine X.call rfl rfl rfl rfl rfl Tryd.cl14 (known_ct A _ (hG.keep hkk)) ?_
  rintro _ Hx ⟨rfl, hkx⟩
  replace hb5 := hkx.keep hb5 (by simp)
  replace hB := hB.keep hkx
  replace hkk := hkk.trans hkx (by simp)
  clear hkx
  refine X.pickT rfl rfl rfl rfl rfl rfl ?_
  refine X.asg rfl rfl rfl rfl rfl ?_
  refine X.done [(4, _)] ⟨rfl, trivial⟩ ?_
  refine N.then ?_
  refine E.ret ?_
  exact N.retH [_] ⟨_, _, rfl, rfl, rfl⟩ ⟨rfl, hkk⟩

theorem codes_ct (c k : Int) (A : Nat → Addr) (H : Heap) (hG : Gl H A) (hk : ok64 k) : Ct Tryd.prog 3 #[i64 c, i64 k] H fun v H' => v = .bool true ∧ Kp [] H H' := by
  by_cases hc : c = 0
  · subst hc; exact codes_zero k A H hG
  · exact codes_not c k A H hG hc hk

theorem none_ct (x : LK) (k : Int) (A : Nat → Addr) (H : Heap) (hG : Gl H A) (hx : ok64 x.2) : Ct Tryd.prog 6 #[.agg (opl x).toArray, i64 k] H fun v H' => v = .bool true ∧ Kp [] H H' := by
  have hkk : Kp [] H H := Kp.refl _ _
  have hul : (und x.1 x.2 []).length ≤ 100 := by unfold und; split <;> simp
  have huo : ∀ z ∈ und x.1 x.2 [], ok64 z.2 := by
    unfold und
    split
    · exact ok_nil
    · exact ok_one hx
  refine Ct.into 92 Tryd.func6 rfl [(0, .agg (opl x).toArray), (1, i64 k)] rfl ⟨rfl, rfl, trivial⟩ ?_
  refine E.seq ?_
  refine E.region ?_
  refine X.box rfl rfl rfl rfl rfl rfl ?_
  intro b2 Hx hnb2 hb2 hkx
  have hsb2 : H.size ≤ b2 := Nat.le_trans hkk.size hnb2
  replace hkk := hkk.trans hkx (by simp)
  clear hkx
  refine X.asg rfl rfl rfl rfl rfl ?_
  refine X.done [(1, _), (2, _), (4, _)] ⟨rfl, rfl, rfl, trivial⟩ ?_
  refine N.then ?_
  refine E.seq ?_
  refine E.region ?_
  refine X.alloc (z := .agg ([.nilIface] : List Value).toArray) (cs := [.nilIface]) rfl rfl rfl rfl (by kernel_rfl) rfl ?_
  intro b5 Hx hnb5 hb5 hkx
  have hlhb2 := lt_of hb2
  have hneb2b5 : b2 ≠ b5 := by omega
  replace hb2 := hkx.keep hb2 (by simp)
  have hsb5 : H.size ≤ b5 := Nat.le_trans hkk.size hnb5
  replace hkk := hkk.trans hkx (by simp)
  clear hkx
  refine X.done [(1, _), (2, _), (4, _), (5, _)] ⟨rfl, rfl, rfl, rfl, trivial⟩ ?_
  refine N.then ?_
  refine E.seq ?_
  refine E.region ?_
  refine X.ldA rfl rfl rfl rfl Tryd.ag26 Tryd.sz26 (hb5) rfl zoff ?_
  refine X.call rfl rfl rfl rfl rfl Tryd.cl15 (root_ct [] .nilIface (A 1) _ (hG.keep hkk).et (.inl ⟨rfl, rfl⟩)) ?_
  rintro _ Hx ⟨rfl, hkx⟩
  replace hb2 := hkx.keep hb2 (by simp)
  replace hb5 := hkx.keep hb5 (by simp)
  replace hkk := hkk.trans hkx (by simp)
  clear hkx
  refine X.mv rfl rfl rfl rfl rfl ?_
  refine X.extract rfl rfl rfl rfl rfl rfl ?_
  refine X.extract rfl rfl rfl rfl rfl rfl ?_
  refine X.asg rfl rfl rfl rfl rfl ?_
  refine X.asg rfl rfl rfl rfl rfl ?_
  refine X.done [(1, _), (2, _), (4, _), (5, _), (6, _), (7, _)] ⟨rfl, rfl, rfl, rfl, rfl, rfl, trivial⟩ ?_
  refine N.then ?_
  refine E.seq ?_
  refine E.region ?_
  refine X.fld rfl rfl rfl rfl rfl Tryd.off40_0 ?_
  refine X.ld rfl rfl rfl rfl Tryd.ag22 (hb2) (rfl) ?_
  refine X.fld rfl rfl rfl rfl rfl Tryd.off40_1 ?_
  refine X.ld rfl rfl rfl rfl Tryd.ag3 (hb2) (rfl) ?_
  refine X.call rfl rfl rfl rfl rfl Tryd.cl7 (new_ct x.1 x.2 A _ (hG.keep hkk)) ?_
  rintro _ Hx ⟨v8, rfl, hB8, hkx⟩
  replace hb2 := hkx.keep hb2 (by simp)
  replace hb5 := hkx.keep hb5 (by simp)
  replace hkk := hkk.trans hkx (by simp)
  clear hkx
  refine X.alloc (z := .agg ([.nilIface] : List Value).toArray) (cs := [.nilIface]) rfl rfl rfl rfl (by kernel_rfl) rfl ?_
  intro b8 Hx hnb8 hb8 hkx
  have hlhb2 := lt_of hb2
  have hneb2b8 : b2 ≠ b8 := by omega
  replace hb2 := hkx.keep hb2 (by simp)
  have hlhb5 := lt_of hb5
  have hneb5b8 : b5 ≠ b8 := by omega
  replace hb5 := hkx.keep hb5 (by simp)
  replace hB8 := hB8.keep hkx
  have hsb8 : H.size ≤ b8 := Nat.le_trans hkk.size hnb8
  replace hkk := hkk.trans hkx (by simp)
  clear hkx
  refine X.stA rfl rfl rfl rfl rfl rfl (hB8.one) Tryd.sz26 hb8 (Nat.le_refl _) ?_
  intro Hx hxb hkx
  replace hb2 := hkx.keep hb2 (by simp; exact hneb2b8)
  replace hb5 := hkx.keep hb5 (by simp; exact hneb5b8)
  replace hB8 := hB8.keepT hkx hb8 (by decide)
  replace hb8 := hxb
  replace hkk := hkk.trans hkx (by simp; exact hsb8)
  clear hkx hxb
  refine X.done [(1, _), (2, _), (4, _), (5, _), (6, _), (7, _), (8, _)] ⟨rfl, rfl, rfl, rfl, rfl, rfl, rfl, trivial⟩ ?_
  refine N.then ?_
  refine E.seq ?_
  refine E.region ?_
  refine X.mv rfl rfl rfl rfl rfl ?_
  refine X.ldA rfl rfl rfl rfl Tryd.ag26 Tryd.sz26 (hb8) rfl zoff ?_
  refine X.call rfl rfl rfl rfl rfl Tryd.cl25 (under_ct 0 k A _ v8 _ (hG.keep hkk) hB8) ?_
  rintro _ Hx ⟨v9, rfl, hB9, hkx⟩
  replace hb2 := hkx.keep hb2 (by simp)
  replace hb5 := hkx.keep hb5 (by simp)
  replace hb8 := hkx.keep hb8 (by simp)
  replace hB8 := hB8.keep hkx
  replace hkk := hkk.trans hkx (by simp)
  clear hkx
  rw [und_nil (show cnt 0 = 0 from rfl)] at hB9
  refine X.alloc (z := .agg ([.nilIface] : List Value).toArray) (cs := [.nilIface]) rfl rfl rfl rfl (by kernel_rfl) rfl ?_
  intro b9 Hx hnb9 hb9 hkx
  have hlhb2 := lt_of hb2
  have hneb2b9 : b2 ≠ b9 := by omega
  replace hb2 := hkx.keep hb2 (by simp)
  have hlhb5 := lt_of hb5
  have hneb5b9 : b5 ≠ b9 := by omega
  replace hb5 := hkx.keep hb5 (by simp)
  have hlhb8 := lt_of hb8
  have hneb8b9 : b8 ≠ b9 := by omega
  replace hb8 := hkx.keep hb8 (by simp)
  replace hB8 := hB8.keep hkx
  replace hB9 := hB9.keep hkx
  have hsb9 : H.size ≤ b9 := Nat.le_trans hkk.size hnb9
  replace hkk := hkk.trans hkx (by simp)
  clear hkx
  refine X.stA rfl rfl rfl rfl rfl rfl (hB9.one) Tryd.sz26 hb9 (Nat.le_refl _) ?_
  intro Hx hxb hkx
  replace hb2 := hkx.keep hb2 (by simp; exact hneb2b9)
  replace hb5 := hkx.keep hb5 (by simp; exact hneb5b9)
  replace hb8 := hkx.keep hb8 (by simp; exact hneb8b9)
  replace hB8 := hB8.keepT hkx hb9 (by decide)
  replace hB9 := hB9.keepT hkx hb9 (by decide)
  replace hb9 := hxb
  replace hkk := hkk.trans hkx (by simp; exact hsb9)
  clear hkx hxb
  refine X.done [(2, _), (4, _), (5, _), (6, _), (7, _), (8, _), (9, _)] ⟨rfl, rfl, rfl, rfl, rfl, rfl, rfl, trivial⟩ ?_
  refine N.then ?_
  refine E.seq ?_
  refine E.region ?_
  refine X.fld rfl rfl rfl rfl rfl Tryd.off40_0 ?_
  refine X.ld rfl rfl rfl rfl Tryd.ag22 (hb2) (rfl) ?_
  refine X.fld rfl rfl rfl rfl rfl Tryd.off40_1 ?_
  refine X.ld rfl rfl rfl rfl Tryd.ag3 (hb2) (rfl) ?_
  refine X.ldA rfl rfl rfl rfl Tryd.ag26 Tryd.sz26 (hb5) rfl zoff ?_
  refine X.call rfl rfl rfl rfl rfl Tryd.cl25 (under_ct x.1 x.2 A [] .nilIface _ (hG.keep hkk) (.inl ⟨rfl, rfl⟩)) ?_
  rintro _ Hx ⟨v10, rfl, hB10, hkx⟩
  replace hb2 := hkx.keep hb2 (by simp)
  replace hb5 := hkx.keep hb5 (by simp)
  replace hb8 := hkx.keep hb8 (by simp)
  replace hB8 := hB8.keep hkx
  replace hb9 := hkx.keep hb9 (by simp)
  replace hB9 := hB9.keep hkx
  replace hkk := hkk.trans hkx (by simp)
  clear hkx
  refine X.alloc (z := .agg ([.nilIface] : List Value).toArray) (cs := [.nilIface]) rfl rfl rfl rfl (by kernel_rfl) rfl ?_
  intro b10 Hx hnb10 hb10 hkx
  have hlhb2 := lt_of hb2
  have hneb2b10 : b2 ≠ b10 := by omega
  replace hb2 := hkx.keep hb2 (by simp)
  have hlhb5 := lt_of hb5
  have hneb5b10 : b5 ≠ b10 := by omega
  replace hb5 := hkx.keep hb5 (by simp)
  have hlhb8 := lt_of hb8
  have hneb8b10 : b8 ≠ b10 := by omega
  replace hb8 := hkx.keep hb8 (by simp)
  replace hB8 := hB8.keep hkx
  have hlhb9 := lt_of hb9
  have hneb9b10 : b9 ≠ b10 := by omega
  replace hb9 := hkx.keep hb9 (by simp)
  replace hB9 := hB9.keep hkx
  replace hB10 := hB10.keep hkx
  have hsb10 : H.size ≤ b10 := Nat.le_trans hkk.size hnb10
  replace hkk := hkk.trans hkx (by simp)
  clear hkx
  refine X.stA rfl rfl rfl rfl rfl rfl (hB10.one) Tryd.sz26 hb10 (Nat.le_refl _) ?_
  intro Hx hxb hkx
  replace hb2 := hkx.keep hb2 (by simp; exact hneb2b10)
  replace hb5 := hkx.keep hb5 (by simp; exact hneb5b10)
  replace hb8 := hkx.keep hb8 (by simp; exact hneb8b10)
  replace hB8 := hB8.keepT hkx hb10 (by decide)
  replace hb9 := hkx.keep hb9 (by simp; exact hneb9b10)
  replace hB9 := hB9.keepT hkx hb10 (by decide)
  replace hB10 := hB10.keepT hkx hb10 (by decide)
  replace hb10 := hxb
  replace hkk := hkk.trans hkx (by simp; exact hsb10)
  clear hkx hxb
  refine X.done [(2, _), (4, _), (5, _), (6, _), (7, _), (8, _), (9, _), (10, _)] ⟨rfl, rfl, rfl, rfl, rfl, rfl, rfl, rfl, trivial⟩ ?_
  refine N.then ?_
  refine E.seq ?_
  refine E.regionD (fun H' => H'[b5]? = some (.cells ([.nilIface] : List Value).toArray 26 (0, 0)) ∧ H'[b2]? = some (.cells (opl x).toArray 40 (0, 0)) ∧ H'[b8]? = some (.cells ([v8] : List Value).toArray 26 (0, 0)) ∧ H'[b9]? = some (.cells ([v9] : List Value).toArray 26 (0, 0)) ∧ H'[b10]? = some (.cells ([v10] : List Value).toArray 26 (0, 0))) [(0, .st), (1, .mk), (2, .pu), (3, .pu), (4, .st), (5, .mk), (6, .pu), (7, .pu), (8, .pu), (9, .pu), (10, .pu), (11, .pu), (12, .pu), (13, .pu), (14, .pu), (15, .pu), (16, .pu), (17, .st), (18, .mk), (19, .pu), (20, .pu), (21, .pu), (22, .st), (23, .mk), (24, .pu), (25, .pu), (26, .pu), (27, .st), (28, .mk), (29, .pu), (30, .pu), (31, .pu), (32, .st), (33, .pu), (34, .st), (35, .mk), (36, .pu), (37, .pu), (38, .pu), (39, .st), (41, .st), (40, .mk), (42, .mk), (43, .pu), (44, .pu), (45, .pu), (46, .st), (48, .st), (47, .mk), (49, .mk), (50, .pu), (51, .pu), (52, .pu), (53, .st), (55, .st), (54, .mk), (56, .mk), (57, .pu), (58, .pu), (59, .pu), (60, .mk), (61, .pu), (62, .pu)] Tryd.mixed (by kernel_rfl) (⟨hb5, hb2, hb8, hb9, hb10⟩) ?_
  refine X.ldA rfl rfl rfl rfl Tryd.ag26 Tryd.sz26 (fun H' hF => hF.1) rfl zoff ?_
  refine X.call rfl rfl rfl rfl rfl Tryd.cl17 (code_ct [] .nilIface (A 1) _ (hG.keep hkk).et (.inl ⟨rfl, rfl⟩)) ?_
  rintro _ Hx ⟨rfl, hkx⟩
  replace hb2 := hkx.keep hb2 (by simp)
  replace hb5 := hkx.keep hb5 (by simp)
  replace hb8 := hkx.keep hb8 (by simp)
  replace hB8 := hB8.keep hkx
  replace hb9 := hkx.keep hb9 (by simp)
  replace hB9 := hB9.keep hkx
  replace hb10 := hkx.keep hb10 (by simp)
  replace hB10 := hB10.keep hkx
  replace hkk := hkk.trans hkx (by simp)
  clear hkx
  refine ⟨⟨hb5, hb2, hb8, hb9, hb10⟩, ?_⟩
  refine X.eqlT rfl rfl rfl rfl rfl rfl (rfl) ?_
  refine X.mv rfl rfl rfl rfl rfl ?_
  refine X.ldA rfl rfl rfl rfl Tryd.ag26 Tryd.sz26 (fun H' hF => hF.1) rfl zoff ?_
  refine X.call rfl rfl rfl rfl rfl Tryd.cl18 (at_ct [] .nilIface (A 1) _ (hG.keep hkk).et (.inl ⟨rfl, rfl⟩)) ?_
  rintro _ Hx ⟨rfl, hkx⟩
  replace hb2 := hkx.keep hb2 (by simp)
  replace hb5 := hkx.keep hb5 (by simp)
  replace hb8 := hkx.keep hb8 (by simp)
  replace hB8 := hB8.keep hkx
  replace hb9 := hkx.keep hb9 (by simp)
  replace hB9 := hB9.keep hkx
  replace hb10 := hkx.keep hb10 (by simp)
  replace hB10 := hB10.keep hkx
  replace hkk := hkk.trans hkx (by simp)
  clear hkx
  refine ⟨⟨hb5, hb2, hb8, hb9, hb10⟩, ?_⟩
  refine X.eqlT rfl rfl rfl rfl rfl rfl (rfl) ?_
  refine X.pickT rfl rfl rfl rfl rfl rfl ?_
  refine X.mv rfl rfl rfl rfl rfl ?_
  refine X.mv rfl rfl rfl rfl rfl ?_
  refine X.eqlT rfl rfl rfl rfl rfl rfl (rfl) ?_
  refine X.pickT rfl rfl rfl rfl rfl rfl ?_
  refine X.mv rfl rfl rfl rfl rfl ?_
  refine X.mv rfl rfl rfl rfl rfl ?_
  refine X.eqlT rfl rfl rfl rfl rfl rfl (rfl) ?_
  refine X.pickT rfl rfl rfl rfl rfl rfl ?_
  refine X.mv rfl rfl rfl rfl rfl ?_
  refine X.ldA rfl rfl rfl rfl Tryd.ag26 Tryd.sz26 (fun H' hF => hF.1) rfl zoff ?_
  refine X.call rfl rfl rfl rfl rfl Tryd.cl12 (deep_ct [] .nilIface (A 1) _ (by decide) (hG.keep hkk).et (.inl ⟨rfl, rfl⟩)) ?_
  rintro _ Hx ⟨rfl, hkx⟩
  replace hb2 := hkx.keep hb2 (by simp)
  replace hb5 := hkx.keep hb5 (by simp)
  replace hb8 := hkx.keep hb8 (by simp)
  replace hB8 := hB8.keep hkx
  replace hb9 := hkx.keep hb9 (by simp)
  replace hB9 := hB9.keep hkx
  replace hb10 := hkx.keep hb10 (by simp)
  replace hB10 := hB10.keep hkx
  replace hkk := hkk.trans hkx (by simp)
  clear hkx
  refine ⟨⟨hb5, hb2, hb8, hb9, hb10⟩, ?_⟩
  refine X.eqlT rfl rfl rfl rfl rfl rfl (rfl) ?_
  refine X.pickT rfl rfl rfl rfl rfl rfl ?_
  refine X.mv rfl rfl rfl rfl rfl ?_
  refine X.ldA rfl rfl rfl rfl Tryd.ag26 Tryd.sz26 (fun H' hF => hF.1) rfl zoff ?_
  refine X.call rfl rfl rfl rfl rfl Tryd.cl20 (famtell_ct [] .nilIface A _ (hG.keep hkk) (.inl ⟨rfl, rfl⟩)) ?_
  rintro _ Hx ⟨rfl, hkx⟩
  replace hb2 := hkx.keep hb2 (by simp)
  replace hb5 := hkx.keep hb5 (by simp)
  replace hb8 := hkx.keep hb8 (by simp)
  replace hB8 := hB8.keep hkx
  replace hb9 := hkx.keep hb9 (by simp)
  replace hB9 := hB9.keep hkx
  replace hb10 := hkx.keep hb10 (by simp)
  replace hB10 := hB10.keep hkx
  replace hkk := hkk.trans hkx (by simp)
  clear hkx
  refine ⟨⟨hb5, hb2, hb8, hb9, hb10⟩, ?_⟩
  refine X.eqlT rfl rfl rfl rfl rfl rfl (rfl) ?_
  refine X.pickT rfl rfl rfl rfl rfl rfl ?_
  refine X.mv rfl rfl rfl rfl rfl ?_
  refine X.ldA rfl rfl rfl rfl Tryd.ag26 Tryd.sz26 (fun H' hF => hF.1) rfl zoff ?_
  refine X.call rfl rfl rfl rfl rfl Tryd.cl13 (say_ct [] .nilIface (A 1) _ (hG.keep hkk).et (.inl ⟨rfl, rfl⟩) (by decide) ok_nil) ?_
  rintro _ Hx ⟨rfl, hkx⟩
  replace hb2 := hkx.keep hb2 (by simp)
  replace hb5 := hkx.keep hb5 (by simp)
  replace hb8 := hkx.keep hb8 (by simp)
  replace hB8 := hB8.keep hkx
  replace hb9 := hkx.keep hb9 (by simp)
  replace hB9 := hB9.keep hkx
  replace hb10 := hkx.keep hb10 (by simp)
  replace hB10 := hB10.keep hkx
  replace hkk := hkk.trans hkx (by simp)
  clear hkx
  refine ⟨⟨hb5, hb2, hb8, hb9, hb10⟩, ?_⟩
  refine X.eqlST rfl rfl rfl rfl rfl rfl (rfl) ?_
  refine X.pickT rfl rfl rfl rfl rfl rfl ?_
  refine X.mv rfl rfl rfl rfl rfl ?_
  refine X.ldA rfl rfl rfl rfl Tryd.ag26 Tryd.sz26 (fun H' hF => hF.1) rfl zoff ?_
  refine X.fld rfl rfl rfl rfl rfl Tryd.off40_0 ?_
  refine X.ld rfl rfl rfl rfl Tryd.ag22 (fun H' hF => hF.2.1) (rfl) ?_
  refine X.call rfl rfl rfl rfl rfl Tryd.cl19 (has_ct [] .nilIface (A 1) x.1 _ (hG.keep hkk).et (.inl ⟨rfl, rfl⟩)) ?_
  rintro _ Hx ⟨rfl, hkx⟩
  replace hb2 := hkx.keep hb2 (by simp)
  replace hb5 := hkx.keep hb5 (by simp)
  replace hb8 := hkx.keep hb8 (by simp)
  replace hB8 := hB8.keep hkx
  replace hb9 := hkx.keep hb9 (by simp)
  replace hB9 := hB9.keep hkx
  replace hb10 := hkx.keep hb10 (by simp)
  replace hB10 := hB10.keep hkx
  replace hkk := hkk.trans hkx (by simp)
  clear hkx
  rw [has_nil]
  refine ⟨⟨hb5, hb2, hb8, hb9, hb10⟩, ?_⟩
  refine X.notF rfl rfl rfl rfl rfl ?_
  refine X.pickT rfl rfl rfl rfl rfl rfl ?_
  refine X.mv rfl rfl rfl rfl rfl ?_
  refine X.ldA rfl rfl rfl rfl Tryd.ag26 Tryd.sz26 (fun H' hF => hF.2.2.2.1) rfl zoff ?_
  refine X.ldA rfl rfl rfl rfl Tryd.ag26 Tryd.sz26 (fun H' hF => hF.2.2.1) rfl zoff ?_
  refine X.call rfl rfl rfl rfl rfl Tryd.cl13 (say_ct _ v9 _ _ (hG.keep hkk).et hB9.bv hul huo) ?_
  rintro _ Hx ⟨rfl, hkx⟩
  replace hb2 := hkx.keep hb2 (by simp)
  replace hb5 := hkx.keep hb5 (by simp)
  replace hb8 := hkx.keep hb8 (by simp)
  replace hB8 := hB8.keep hkx
  replace hb9 := hkx.keep hb9 (by simp)
  replace hB9 := hB9.keep hkx
  replace hb10 := hkx.keep hb10 (by simp)
  replace hB10 := hB10.keep hkx
  replace hkk := hkk.trans hkx (by simp)
  clear hkx
  refine ⟨⟨hb5, hb2, hb8, hb9, hb10⟩, ?_⟩
  refine X.call rfl rfl rfl rfl rfl Tryd.cl13 (say_ct _ v8 _ _ (hG.keep hkk).et hB8.bv hul huo) ?_
  rintro _ Hx ⟨rfl, hkx⟩
  replace hb2 := hkx.keep hb2 (by simp)
  replace hb5 := hkx.keep hb5 (by simp)
  replace hb8 := hkx.keep hb8 (by simp)
  replace hB8 := hB8.keep hkx
  replace hb9 := hkx.keep hb9 (by simp)
  replace hB9 := hB9.keep hkx
  replace hb10 := hkx.keep hb10 (by simp)
  replace hB10 := hB10.keep hkx
  replace hkk := hkk.trans hkx (by simp)
  clear hkx
  refine ⟨⟨hb5, hb2, hb8, hb9, hb10⟩, ?_⟩
  refine X.eqlST rfl rfl rfl rfl rfl rfl (rfl) ?_
  refine X.pickT rfl rfl rfl rfl rfl rfl ?_
  refine X.mv rfl rfl rfl rfl rfl ?_
  refine X.ldA rfl rfl rfl rfl Tryd.ag26 Tryd.sz26 (fun H' hF => hF.2.2.2.1) rfl zoff ?_
  refine X.ldA rfl rfl rfl rfl Tryd.ag26 Tryd.sz26 (fun H' hF => hF.2.2.1) rfl zoff ?_
  refine X.call rfl rfl rfl rfl rfl Tryd.cl12 (deep_ct _ v9 _ _ (by omega) (hG.keep hkk).et hB9.bv) ?_
  rintro _ Hx ⟨rfl, hkx⟩
  replace hb2 := hkx.keep hb2 (by simp)
  replace hb5 := hkx.keep hb5 (by simp)
  replace hb8 := hkx.keep hb8 (by simp)
  replace hB8 := hB8.keep hkx
  replace hb9 := hkx.keep hb9 (by simp)
  replace hB9 := hB9.keep hkx
  replace hb10 := hkx.keep hb10 (by simp)
  replace hB10 := hB10.keep hkx
  replace hkk := hkk.trans hkx (by simp)
  clear hkx
  refine ⟨⟨hb5, hb2, hb8, hb9, hb10⟩, ?_⟩
  refine X.call rfl rfl rfl rfl rfl Tryd.cl12 (deep_ct _ v8 _ _ (by omega) (hG.keep hkk).et hB8.bv) ?_
  rintro _ Hx ⟨rfl, hkx⟩
  replace hb2 := hkx.keep hb2 (by simp)
  replace hb5 := hkx.keep hb5 (by simp)
  replace hb8 := hkx.keep hb8 (by simp)
  replace hB8 := hB8.keep hkx
  replace hb9 := hkx.keep hb9 (by simp)
  replace hB9 := hB9.keep hkx
  replace hb10 := hkx.keep hb10 (by simp)
  replace hB10 := hB10.keep hkx
  replace hkk := hkk.trans hkx (by simp)
  clear hkx
  refine ⟨⟨hb5, hb2, hb8, hb9, hb10⟩, ?_⟩
  refine X.eqlT rfl rfl rfl rfl rfl rfl (rfl) ?_
  refine X.pickT rfl rfl rfl rfl rfl rfl ?_
  refine X.mv rfl rfl rfl rfl rfl ?_
  refine X.ldA rfl rfl rfl rfl Tryd.ag26 Tryd.sz26 (fun H' hF => hF.2.2.2.2) rfl zoff ?_
  refine X.ldA rfl rfl rfl rfl Tryd.ag26 Tryd.sz26 (fun H' hF => hF.2.2.1) rfl zoff ?_
  refine X.call rfl rfl rfl rfl rfl Tryd.cl13 (say_ct _ v10 _ _ (hG.keep hkk).et hB10.bv hul huo) ?_
  rintro _ Hx ⟨rfl, hkx⟩
  replace hb2 := hkx.keep hb2 (by simp)
  replace hb5 := hkx.keep hb5 (by simp)
  replace hb8 := hkx.keep hb8 (by simp)
  replace hB8 := hB8.keep hkx
  replace hb9 := hkx.keep hb9 (by simp)
  replace hB9 := hB9.keep hkx
  replace hb10 := hkx.keep hb10 (by simp)
  replace hB10 := hB10.keep hkx
  replace hkk := hkk.trans hkx (by simp)
  clear hkx
  refine ⟨⟨hb5, hb2, hb8, hb9, hb10⟩, ?_⟩
  refine X.call rfl rfl rfl rfl rfl Tryd.cl13 (say_ct _ v8 _ _ (hG.keep hkk).et hB8.bv hul huo) ?_
  rintro _ Hx ⟨rfl, hkx⟩
  replace hb2 := hkx.keep hb2 (by simp)
  replace hb5 := hkx.keep hb5 (by simp)
  replace hb8 := hkx.keep hb8 (by simp)
  replace hB8 := hB8.keep hkx
  replace hb9 := hkx.keep hb9 (by simp)
  replace hB9 := hB9.keep hkx
  replace hb10 := hkx.keep hb10 (by simp)
  replace hB10 := hB10.keep hkx
  replace hkk := hkk.trans hkx (by simp)
  clear hkx
  refine ⟨⟨hb5, hb2, hb8, hb9, hb10⟩, ?_⟩
  refine X.eqlST rfl rfl rfl rfl rfl rfl (rfl) ?_
  refine X.pickT rfl rfl rfl rfl rfl rfl ?_
  refine X.mv rfl rfl rfl rfl rfl ?_
  refine X.call rfl rfl rfl rfl rfl Tryd.cl14 (known_ct A _ (hG.keep hkk)) ?_
  rintro _ Hx ⟨rfl, hkx⟩
  replace hb2 := hkx.keep hb2 (by simp)
  replace hb5 := hkx.keep hb5 (by simp)
  replace hb8 := hkx.keep hb8 (by simp)
  replace hB8 := hB8.keep hkx
  replace hb9 := hkx.keep hb9 (by simp)
  replace hB9 := hB9.keep hkx
  replace hb10 := hkx.keep hb10 (by simp)
  replace hB10 := hB10.keep hkx
  replace hkk := hkk.trans hkx (by simp)
  clear hkx
  refine ⟨⟨hb5, hb2, hb8, hb9, hb10⟩, ?_⟩
  refine X.pickT rfl rfl rfl rfl rfl rfl ?_
  refine X.asg rfl rfl rfl rfl rfl ?_
  refine X.done [(4, _)] ⟨rfl, trivial⟩ ?_
  refine N.then ?_
  refine E.ret ?_
  exact N.retH [_] ⟨_, _, rfl, rfl, rfl⟩ ⟨rfl, hkk⟩

end Go.Proofs.YtaofjmaekpjkhaaDoor