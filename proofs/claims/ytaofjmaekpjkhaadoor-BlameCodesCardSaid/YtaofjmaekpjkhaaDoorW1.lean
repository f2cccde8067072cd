/- The walks: codes, names, numbers. -/
import Derived.Test.YtaofjmaekpjkhaaDoorU
import Derived.Test.YtaofjmaekpjkhaaDoorM
namespace Go.Proofs.YtaofjmaekpjkhaaDoor
open Go.SX Go.Blm
attribute [local irreducible] X E N Ct
set_option linter.unusedVariables false
abbrev i64 (x : Int) : Value := .int .i64 x
abbrev ptr (p : Nat) : Value := .pointer (some ⟨p, 0, none⟩)
abbrev str (s : Bs) : Value := .string ⟨s.toArray⟩
section
variable {P : Program} {n : Nat} {l : List Oper} {F : Heap → Prop} {K : Act → Heap → Prop} {r : List (Nat × Kd)} {env : Env} {H : Heap} {i : Nat} {k : Kd}
variable {d : Option Tmp} {ty : TypeId} {pos : String} {aft : Array Edge} {g : Option (Nat × Bool)} {x y z : Operand} {t t' : TypeId}
theorem X.slAr {b o m sz : Nat} {p : Int} {k1 : IntKind} {e : TypeId} (ho : nth l i = some ⟨d, .slice t x (some y) none none, ty, pos, aft, g⟩) (hw : wantE l env ⟨d, .slice t x (some y) none none, ty, pos, aft, g⟩ = some true) (hd : dOK n d = true) (hk : noMk k = true)
    (hx : opv env x = some (.pointer (some ⟨b, o, none⟩))) (hy : opv env y = some (.int k1 p)) (hu : P.underlying t = some (.array m e)) (hsz : (P.info? e).map (·.size) = some sz) (hb : 0 ≤ p ∧ p < m)
    (h : X P n l F K r (setd d (.slice (some ⟨b, o + p.toNat * sz, none⟩) (m - p.toNat) (m - p.toNat)) env) H) : X P n l F K ((i, k) :: r) env H := by
  refine X.pure _ ho hw hd hk (fun ρ w hρ => ?_) h
  obtain ⟨inf, hi, hs⟩ := Option.map_eq_some_iff.1 hsz
  obtain ⟨p', rfl⟩ := Int.eq_ofNat_of_zero_le hb.1
  have h1 : ¬ m < p' := by omega
  have h2 : m ≠ p' := by omega
  simp [execOp, hρ _ _ hx, hρ _ _ hy, Instr.sliceAt, Instr.sureAddr, run_underlying hu, Instr.sliceBounds, Instr.sliceBound, asIntOf, h1, h2, sizeOf, typeInfo, hi, hs, addr_add]
end
theorem zoff {cs : List Value} : ∀ j v, cs[j]? = some v → cs[0 + j]? = some v := fun j v h => by rw [Nat.zero_add]; exact h
theorem rd_lit {H : Heap} {b c : Nat} {e : TypeId} {s : Bs} {cs : List Value} {n : Nat} (hb : H[b]? = some (.cells cs.toArray e (0, 0))) (h : bv s = cs) (hl : s.length = n) : Rd H 1 (.slice (some ⟨b, 0, none⟩) n c) n (bv s) := by
  subst h hl
  exact ⟨by simp [bv], _, _, rfl, .inr ⟨b, 0, _, _, _, rfl, hb, fun j u hj => by rw [Nat.zero_add]; exact hj⟩⟩
theorem bv1 {c : Nat} (h : c < 256) : bv [u8 c] = [.int .u8 (c : Int)] := by
  show [Value.int .u8 (((u8 c).toNat : Nat) : Int)] = _; rw [u8_nat h]
theorem nm_yes {k : Nat} (h : k < 28) : nm (k : Int) = nmL.getD k [] := by
  rw [nm, if_pos (kn_iff.2 (by omega))]; rfl
theorem nm_no {c : Int} (h : kn c = false) : nm c = [63] := by rw [nm, h]; rfl
theorem nmL_get {k : Nat} (h : k < 28) : (nmL.map (fun s => Value.string ⟨s.toArray⟩))[k]? = some (str (nmL.getD k [])) := by
  have hl : k < nmL.length := h
  rw [List.getElem?_map, List.getElem?_eq_getElem hl, List.getD, List.getElem?_eq_getElem hl]; rfl

theorem known_c_ct (c : Int) (H : Heap) : Ct Tryd.prog 8 #[i64 c] H fun v H' => v = .bool (kn c) ∧ H' = H := by
  refine Ct.into 9 Tryd.func8 rfl [(0, i64 c)] rfl ⟨rfl, trivial⟩ ?_
  refine E.seq ?_
  refine E.region ?_
  refine X.asg rfl rfl rfl rfl rfl ?_
  refine X.done [(0, _), (2, _)] ⟨rfl, rfl, trivial⟩ ?_
  refine N.then ?_
  refine E.seq ?_
  refine E.region ?_
  refine X.mv rfl rfl rfl rfl rfl ?_
  refine X.geqC rfl rfl rfl rfl rfl rfl (fun hc => ?_) (fun hc => ?_)
  · refine X.mv rfl rfl rfl rfl rfl ?_
    refine X.mv rfl rfl rfl rfl rfl ?_
    refine X.leq rfl rfl rfl rfl rfl rfl ?_
    refine X.pickT rfl rfl rfl rfl rfl rfl ?_
    refine X.asg rfl rfl rfl rfl rfl ?_
    refine X.done [(2, _)] ⟨rfl, trivial⟩ ?_
    refine N.then ?_
    refine E.ret ?_
    exact N.retH [_] ⟨_, _, rfl, rfl, rfl⟩ ⟨by first | (rw [kn, decide_eq_true (show 0 ≤ c by assumption)]; rfl) | (rw [kn, decide_eq_false (show ¬ 0 ≤ c by assumption)]; rfl), rfl⟩
  · refine X.mv rfl rfl rfl rfl rfl ?_
    refine X.skip rfl rfl rfl ?_
    refine X.skip rfl rfl rfl ?_
    refine X.pickF rfl rfl rfl rfl rfl rfl ?_
    refine X.asg rfl rfl rfl rfl rfl ?_
    refine X.done [(2, _)] ⟨rfl, trivial⟩ ?_
    refine N.then ?_
    refine E.ret ?_
    exact N.retH [_] ⟨_, _, rfl, rfl, rfl⟩ ⟨by first | (rw [kn, decide_eq_true (show 0 ≤ c by assumption)]; rfl) | (rw [kn, decide_eq_false (show ¬ 0 ≤ c by assumption)]; rfl), rfl⟩

theorem rknown_c_ct (c : Int) (H : Heap) : Ct Tryd.prog 9 #[i64 c] H fun v H' => v = .bool (kn c) ∧ H' = H := by
  refine Ct.into 9 Tryd.func9 rfl [(0, i64 c)] rfl ⟨rfl, trivial⟩ ?_
  refine E.seq ?_
  refine E.region ?_
  refine X.asg rfl rfl rfl rfl rfl ?_
  refine X.done [(0, _), (2, _)] ⟨rfl, rfl, trivial⟩ ?_
  refine N.then ?_
  refine E.seq ?_
  refine E.region ?_
  refine X.mv rfl rfl rfl rfl rfl ?_
  refine X.geqC rfl rfl rfl rfl rfl rfl (fun hc => ?_) (fun hc => ?_)
  · refine X.mv rfl rfl rfl rfl rfl ?_
    refine X.mv rfl rfl rfl rfl rfl ?_
    refine X.leq rfl rfl rfl rfl rfl rfl ?_
    refine X.pickT rfl rfl rfl rfl rfl rfl ?_
    refine X.asg rfl rfl rfl rfl rfl ?_
    refine X.done [(2, _)] ⟨rfl, trivial⟩ ?_
    refine N.then ?_
    refine E.ret ?_
    exact N.retH [_] ⟨_, _, rfl, rfl, rfl⟩ ⟨by first | (rw [kn, decide_eq_true (show 0 ≤ c by assumption)]; rfl) | (rw [kn, decide_eq_false (show ¬ 0 ≤ c by assumption)]; rfl), rfl⟩
  · refine X.mv rfl rfl rfl rfl rfl ?_
    refine X.skip rfl rfl rfl ?_
    refine X.skip rfl rfl rfl ?_
    refine X.pickF rfl rfl rfl rfl rfl rfl ?_
    refine X.asg rfl rfl rfl rfl rfl ?_
    refine X.done [(2, _)] ⟨rfl, trivial⟩ ?_
    refine N.then ?_
    refine E.ret ?_
    exact N.retH [_] ⟨_, _, rfl, rfl, rfl⟩ ⟨by first | (rw [kn, decide_eq_true (show 0 ≤ c by assumption)]; rfl) | (rw [kn, decide_eq_false (show ¬ 0 ≤ c by assumption)]; rfl), rfl⟩

theorem counts_yes (c : Int) (H : Heap) (hk : kn c = true) : Ct Tryd.prog 36 #[i64 c] H fun v H' => v = i64 (cnt c) ∧ H' = H := by
  refine Ct.into 7 Tryd.func36 rfl [(0, i64 c)] rfl ⟨rfl, trivial⟩ ?_
  refine E.seq ?_
  refine E.region ?_
  refine X.asg rfl rfl rfl rfl rfl ?_
  refine X.done [(0, _), (2, _)] ⟨rfl, rfl, trivial⟩ ?_
  refine N.then ?_
  refine E.seq ?_
  refine E.seq ?_
  refine E.region ?_
  refine X.mv rfl rfl rfl rfl rfl ?_
  refine X.call rfl rfl rfl rfl rfl Tryd.cl8 (known_c_ct c H) ?_
  rintro _ H1 ⟨rfl, eH1⟩
  obtain rfl := eH1.symm
  rw [hk]
  refine X.notT rfl rfl rfl rfl rfl ?_
  refine X.done [(0, _), (2, _), (5, _)] ⟨rfl, rfl, rfl, trivial⟩ ?_
  refine N.then ?_
  refine E.condF rfl ?_
  refine E.skip ?_
  refine N.then ?_
  refine E.seq ?_
  refine E.region ?_
  refine X.mv rfl rfl rfl rfl rfl ?_
  refine X.asg rfl rfl rfl rfl rfl ?_
  refine X.done [(2, _)] ⟨rfl, trivial⟩ ?_
  refine N.then ?_
  refine E.ret ?_
  exact N.retH [_] ⟨_, _, rfl, rfl, rfl⟩ ⟨by rw [cnt_kn hk]; rfl, rfl⟩

theorem counts_no (c : Int) (H : Heap) (hk : kn c = false) : Ct Tryd.prog 36 #[i64 c] H fun v H' => v = i64 (cnt c) ∧ H' = H := by
  refine Ct.into 7 Tryd.func36 rfl [(0, i64 c)] rfl ⟨rfl, trivial⟩ ?_
  refine E.seq ?_
  refine E.region ?_
  refine X.asg rfl rfl rfl rfl rfl ?_
  refine X.done [(0, _), (2, _)] ⟨rfl, rfl, trivial⟩ ?_
  refine N.then ?_
  refine E.seq ?_
  refine E.seq ?_
  refine E.region ?_
  refine X.mv rfl rfl rfl rfl rfl ?_
  refine X.call rfl rfl rfl rfl rfl Tryd.cl8 (known_c_ct c H) ?_
  rintro _ H1 ⟨rfl, eH1⟩
  obtain rfl := eH1.symm
  rw [hk]
  refine X.notF rfl rfl rfl rfl rfl ?_
  refine X.done [(0, _), (2, _), (5, _)] ⟨rfl, rfl, rfl, trivial⟩ ?_
  refine N.then ?_
  refine E.condT rfl ?_
  refine E.seq ?_
  refine E.region ?_
  refine X.asg rfl rfl rfl rfl rfl ?_
  refine X.done [(0, _), (2, _)] ⟨rfl, rfl, trivial⟩ ?_
  refine N.then ?_
  refine E.ret ?_
  refine N.thenR ?_
  exact N.retH [_] ⟨_, _, rfl, rfl, rfl⟩ ⟨by rw [cnt_no hk]; rfl, rfl⟩

theorem counts_ct (c : Int) (H : Heap) : Ct Tryd.prog 36 #[i64 c] H fun v H' => v = i64 (cnt c) ∧ H' = H := by
  cases hk : kn c with
  | true => exact counts_yes c H hk
  | false => exact counts_no c H hk

theorem rcounts_yes (c : Int) (H : Heap) (hk : kn c = true) : Ct Tryd.prog 16 #[i64 c] H fun v H' => v = i64 (cnt c) ∧ H' = H := by
  refine Ct.into 6 Tryd.func16 rfl [(0, i64 c)] rfl ⟨rfl, trivial⟩ ?_
  refine E.seq ?_
  refine E.region ?_
  refine X.asg rfl rfl rfl rfl rfl ?_
  refine X.done [(0, _), (2, _)] ⟨rfl, rfl, trivial⟩ ?_
  refine N.then ?_
  refine E.seq ?_
  refine E.seq ?_
  refine E.region ?_
  refine X.mv rfl rfl rfl rfl rfl ?_
  refine X.call rfl rfl rfl rfl rfl Tryd.cl9 (rknown_c_ct c H) ?_
  rintro _ H1 ⟨rfl, eH1⟩
  obtain rfl := eH1.symm
  rw [hk]
  refine X.done [(0, _), (2, _), (4, _)] ⟨rfl, rfl, rfl, trivial⟩ ?_
  refine N.then ?_
  refine E.condT rfl ?_
  refine E.seq ?_
  refine E.region ?_
  refine X.mv rfl rfl rfl rfl rfl ?_
  refine X.asg rfl rfl rfl rfl rfl ?_
  refine X.done [(2, _)] ⟨rfl, trivial⟩ ?_
  refine N.then ?_
  refine E.ret ?_
  refine N.thenR ?_
  exact N.retH [_] ⟨_, _, rfl, rfl, rfl⟩ ⟨by rw [cnt_kn hk]; rfl, rfl⟩

theorem rcounts_no (c : Int) (H : Heap) (hk : kn c = false) : Ct Tryd.prog 16 #[i64 c] H fun v H' => v = i64 (cnt c) ∧ H' = H := by
  refine Ct.into 6 Tryd.func16 rfl [(0, i64 c)] rfl ⟨rfl, trivial⟩ ?_
  refine E.seq ?_
  refine E.region ?_
  refine X.asg rfl rfl rfl rfl rfl ?_
  refine X.done [(0, _), (2, _)] ⟨rfl, rfl, trivial⟩ ?_
  refine N.then ?_
  refine E.seq ?_
  refine E.seq ?_
  refine E.region ?_
  refine X.mv rfl rfl rfl rfl rfl ?_
  refine X.call rfl rfl rfl rfl rfl Tryd.cl9 (rknown_c_ct c H) ?_
  rintro _ H1 ⟨rfl, eH1⟩
  obtain rfl := eH1.symm
  rw [hk]
  refine X.done [(0, _), (2, _), (4, _)] ⟨rfl, rfl, rfl, trivial⟩ ?_
  refine N.then ?_
  refine E.condF rfl ?_
  refine E.skip ?_
  refine N.then ?_
  refine E.seq ?_
  refine E.region ?_
  refine X.asg rfl rfl rfl rfl rfl ?_
  refine X.done [(2, _)] ⟨rfl, trivial⟩ ?_
  refine N.then ?_
  refine E.ret ?_
  exact N.retH [_] ⟨_, _, rfl, rfl, rfl⟩ ⟨by rw [cnt_no hk]; rfl, rfl⟩

theorem rcounts_ct (c : Int) (H : Heap) : Ct Tryd.prog 16 #[i64 c] H fun v H' => v = i64 (cnt c) ∧ H' = H := by
  cases hk : kn c with
  | true => exact rcounts_yes c H hk
  | false => exact rcounts_no c H hk

theorem name_no (c : Int) (H : Heap) (hk : kn c = false) : Ct Tryd.prog 10 #[i64 c] H fun v H' => v = str (nm c) ∧ H' = H := by
  refine Ct.into 24 Tryd.func10 rfl [(0, i64 c)] rfl ⟨rfl, trivial⟩ ?_
  refine E.seq ?_
  refine E.region ?_
  refine X.asg rfl rfl rfl rfl rfl ?_
  refine X.done [(0, _), (2, _)] ⟨rfl, rfl, trivial⟩ ?_
  refine N.then ?_
  refine E.seq ?_
  refine E.seq ?_
  refine E.region ?_
  refine X.mv rfl rfl rfl rfl rfl ?_
  refine X.call rfl rfl rfl rfl rfl Tryd.cl8 (known_c_ct c H) ?_
  rintro _ H1 ⟨rfl, eH1⟩
  obtain rfl := eH1.symm
  rw [hk]
  refine X.notF rfl rfl rfl rfl rfl ?_
  refine X.done [(0, _), (2, _), (7, _)] ⟨rfl, rfl, rfl, trivial⟩ ?_
  refine N.then ?_
  refine E.condT rfl ?_
  refine E.seq ?_
  refine E.region ?_
  refine X.asg rfl rfl rfl rfl rfl ?_
  refine X.done [(0, _), (2, _)] ⟨rfl, rfl, trivial⟩ ?_
  refine N.then ?_
  refine E.ret ?_
  refine N.thenR ?_
  exact N.retH [_] ⟨_, _, rfl, rfl, rfl⟩ ⟨by rw [nm_no hk]; rfl, rfl⟩

theorem name_yes (k : Nat) (H : Heap) (hk28 : k < 28) : Ct Tryd.prog 10 #[i64 (k : Int)] H fun v H' => v = str (nm (k : Int)) ∧ H' = H := by
  have hk : kn (k : Int) = true := kn_iff.2 (by omega)
  refine Ct.into 24 Tryd.func10 rfl [(0, i64 (k : Int))] rfl ⟨rfl, trivial⟩ ?_
  refine E.seq ?_
  refine E.region ?_
  refine X.asg rfl rfl rfl rfl rfl ?_
  refine X.done [(0, _), (2, _)] ⟨rfl, rfl, trivial⟩ ?_
  refine N.then ?_
  refine E.seq ?_
  refine E.seq ?_
  refine E.region ?_
  refine X.mv rfl rfl rfl rfl rfl ?_
  refine X.call rfl rfl rfl rfl rfl Tryd.cl8 (known_c_ct _ H) ?_
  rintro _ H1 ⟨rfl, eH1⟩
  obtain rfl := eH1.symm
  rw [hk]
  refine X.notT rfl rfl rfl rfl rfl ?_
  refine X.done [(0, _), (2, _), (7, _)] ⟨rfl, rfl, rfl, trivial⟩ ?_
  refine N.then ?_
  refine E.condF rfl ?_
  refine E.skip ?_
  refine N.then ?_
  refine E.seq ?_
  refine E.region ?_
  refine X.asg rfl rfl rfl rfl rfl ?_
  refine X.done [(0, _), (2, _), (3, _)] ⟨rfl, rfl, rfl, trivial⟩ ?_
  refine N.then ?_
  refine E.seq ?_
  refine E.seq ?_
  refine E.region ?_
  refine X.mv rfl rfl rfl rfl rfl ?_
  refine X.done [(0, _), (2, _), (3, _), (8, _)] ⟨rfl, rfl, rfl, rfl, trivial⟩ ?_
  refine N.then ?_
  refine E.block ?_
  -- MISSING in G: [2]
  refine E.loop (fun (i : Nat) => [(0, i64 ((k - sp i : Nat) : Int)), (3, i64 (frm i)), (8, i64 i)]) (fun (i : Nat) H' => i ≤ 155 ∧ sp i ≤ k ∧ H' = H) (fun (i : Nat) => 155 - i) 0 ⟨by rw [sp_zero]; rfl, by rw [frm_zero]; rfl, rfl, trivial⟩ ⟨Nat.zero_le _, by rw [sp_zero]; exact Nat.zero_le _, rfl⟩ ?_
  rintro i H3 ⟨hi, hs, eH⟩
  obtain rfl := eH.symm
  refine E.seq ?_
  refine E.region ?_
  refine X.lss rfl rfl rfl rfl rfl rfl ?_
  refine X.done [(0, _), (3, _), (8, _), (9, _)] ⟨rfl, rfl, rfl, rfl, trivial⟩ ?_
  refine N.then ?_
  refine E.seq ?_
  refine E.condD rfl (fun hc => ?_) (fun hc => ?_)
  · refine E.skip ?_
    refine N.then ?_
    refine E.seq ?_
    refine E.block ?_
    refine E.seq ?_
    have hi155 : i < 155 := Int.ofNat_lt.1 (show (i : Int) < ((155 : Nat) : Int) by assumption)
    obtain ⟨ch, hch, hsc⟩ := scan_ok i hi155
    refine E.region ?_
    refine X.mv rfl rfl rfl rfl rfl ?_
    refine X.asg rfl rfl rfl rfl rfl ?_
    refine X.done [(0, _), (3, _), (8, _), (9, _), (10, _), (4, _)] ⟨rfl, rfl, rfl, rfl, rfl, rfl, trivial⟩ ?_
    refine N.then ?_
    refine E.seq ?_
    refine E.seq ?_
    refine E.region ?_
    refine X.mv rfl rfl rfl rfl rfl ?_
    refine X.ixS rfl rfl rfl rfl rfl rfl Tryd.underlying9 (by omega) (by exact hch) ?_
    refine X.neq rfl rfl rfl rfl rfl rfl ?_
    refine X.done [(0, _), (3, _), (8, _), (9, _), (10, _), (4, _), (11, _), (12, _), (13, _)] ⟨rfl, rfl, rfl, rfl, rfl, rfl, rfl, rfl, rfl, trivial⟩ ?_
    refine N.then ?_
    refine E.condD rfl (fun hc => ?_) (fun hc => ?_)
    · refine E.exit ?_
      refine N.thenX ?_
      refine N.blkX ?_
      refine N.then ?_
      refine E.region ?_
      refine X.add rfl rfl rfl rfl rfl rfl (by omega) ?_
      refine X.mv rfl rfl rfl rfl rfl ?_
      refine X.done [(0, _), (3, _), (8, _), (9, _), (10, _), (4, _), (11, _), (12, _), (13, _), (23, _)] ⟨rfl, rfl, rfl, rfl, rfl, rfl, rfl, rfl, rfl, rfl, trivial⟩ ?_
      first | (rw [if_neg (fun e => absurd (congrArg (fun z : UInt8 => (z.toNat : Int)) e) (by assumption))] at hsc; obtain ⟨e1, e2⟩ := hsc; exact N.next (i + 1) ⟨by rw [e1]; rfl, by rw [e2]; rfl, rfl, trivial⟩ ⟨by omega, by rw [e1]; exact hs, rfl⟩ (by omega)) | (rw [if_pos hch32] at hsc; obtain ⟨e1, e2, e3, e4⟩ := hsc; exact N.next (i + 1) ⟨by rw [e1]; rfl, by rw [e2]; rfl, rfl, trivial⟩ ⟨by omega, by rw [e1]; omega, rfl⟩ (by omega))
    · refine E.skip ?_
      refine N.then ?_
      refine E.seq ?_
      refine E.seq ?_
      have hch32 : ch = 32 := by have h32 : (ch.toNat : Int) = 32 := Classical.byContradiction (by assumption); exact UInt8.toNat_inj.1 (Int.ofNat.inj h32)
      refine E.region ?_
      refine X.mv rfl rfl rfl rfl rfl ?_
      refine X.eql rfl rfl rfl rfl rfl rfl ?_
      refine X.done [(0, _), (3, _), (8, _), (9, _), (10, _), (4, _), (11, _), (12, _), (13, _), (14, _), (15, _)] ⟨rfl, rfl, rfl, rfl, rfl, rfl, rfl, rfl, rfl, rfl, rfl, trivial⟩ ?_
      refine N.then ?_
      refine E.condD rfl (fun hc => ?_) (fun hc => ?_)
      · refine E.seq ?_
        rw [if_pos hch32] at hsc
        obtain ⟨e1, e2, e3, e4⟩ := hsc
        have hki : k = sp i := by omega
        refine E.region ?_
        refine X.mv rfl rfl rfl rfl rfl ?_
        refine X.mv rfl rfl rfl rfl rfl ?_
        refine X.slS rfl rfl rfl rfl rfl rfl rfl Tryd.underlying9 (⟨by omega, by omega, by show (i : Int) ≤ ((155 : Nat) : Int); omega⟩) ?_
        refine X.asg rfl rfl rfl rfl rfl ?_
        refine X.done [(0, _), (3, _), (8, _), (9, _), (10, _), (4, _), (11, _), (12, _), (13, _), (14, _), (15, _), (16, _), (17, _), (18, _), (2, _)] ⟨rfl, rfl, rfl, rfl, rfl, rfl, rfl, rfl, rfl, rfl, rfl, rfl, rfl, rfl, rfl, trivial⟩ ?_
        refine N.then ?_
        refine E.ret ?_
        refine N.thenR ?_
        refine N.blkR ?_
        refine N.thenR ?_
        refine N.loopR ?_
        refine N.blkR ?_
        refine N.thenR ?_
        exact N.retH [_] ⟨_, _, rfl, rfl, rfl⟩ ⟨by rw [nm_yes hk28, hki, ← e3]; rfl, rfl⟩
      · refine E.skip ?_
        refine N.then ?_
        refine E.seq ?_
        refine E.region ?_
        refine X.mv rfl rfl rfl rfl rfl ?_
        refine X.sbE (zz := ((k - (sp i + 1) : Nat) : Int)) rfl rfl rfl rfl rfl rfl (by rw [IntWalk.i64_in _ (by omega)] <;> omega) ?_
        refine X.asg rfl rfl rfl rfl rfl ?_
        refine X.done [(0, _), (3, _), (8, _), (9, _), (10, _), (4, _), (11, _), (12, _), (13, _), (14, _), (15, _), (19, _), (20, _)] ⟨rfl, rfl, rfl, rfl, rfl, rfl, rfl, rfl, rfl, rfl, rfl, rfl, rfl, trivial⟩ ?_
        refine N.then ?_
        refine E.region ?_
        refine X.mv rfl rfl rfl rfl rfl ?_
        refine X.add rfl rfl rfl rfl rfl rfl (by omega) ?_
        refine X.asg rfl rfl rfl rfl rfl ?_
        refine X.done [(0, _), (3, _), (8, _), (9, _), (10, _), (4, _), (11, _), (12, _), (13, _), (14, _), (15, _), (19, _), (20, _), (21, _), (22, _)] ⟨rfl, rfl, rfl, rfl, rfl, rfl, rfl, rfl, rfl, rfl, rfl, rfl, rfl, rfl, rfl, trivial⟩ ?_
        refine N.blk ?_
        refine N.then ?_
        refine E.region ?_
        refine X.add rfl rfl rfl rfl rfl rfl (by omega) ?_
        refine X.mv rfl rfl rfl rfl rfl ?_
        refine X.done [(0, _), (3, _), (8, _), (9, _), (10, _), (4, _), (11, _), (12, _), (13, _), (14, _), (15, _), (19, _), (20, _), (21, _), (22, _), (23, _)] ⟨rfl, rfl, rfl, rfl, rfl, rfl, rfl, rfl, rfl, rfl, rfl, rfl, rfl, rfl, rfl, rfl, trivial⟩ ?_
        first | (rw [if_neg (fun e => absurd (congrArg (fun z : UInt8 => (z.toNat : Int)) e) (by assumption))] at hsc; obtain ⟨e1, e2⟩ := hsc; exact N.next (i + 1) ⟨by rw [e1]; rfl, by rw [e2]; rfl, rfl, trivial⟩ ⟨by omega, by rw [e1]; exact hs, rfl⟩ (by omega)) | (rw [if_pos hch32] at hsc; obtain ⟨e1, e2, e3, e4⟩ := hsc; exact N.next (i + 1) ⟨by rw [e1]; rfl, by rw [e2]; rfl, rfl, trivial⟩ ⟨by omega, by rw [e1]; omega, rfl⟩ (by omega))
  · refine E.exit ?_
    refine N.thenX ?_
    refine N.loopX ?_
    refine N.blkX ?_
    refine N.then ?_
    refine E.seq ?_
    refine E.region ?_
    refine X.asg rfl rfl rfl rfl rfl ?_
    refine X.done [(2, _)] ⟨rfl, trivial⟩ ?_
    refine N.then ?_
    refine E.ret ?_
    exfalso
    have hi155 : i = 155 := Nat.le_antisymm hi (Int.ofNat_le.1 (Int.not_lt.1 (show ¬ (i : Int) < ((155 : Nat) : Int) by assumption)))
    rw [hi155, sp_end] at hs
    omega

theorem rname_no (c : Int) (H : Heap) (hk : kn c = false) : Ct Tryd.prog 11 #[i64 c] H fun v H' => v = str (nm c) ∧ Kp [] H H' := by
  refine Ct.into 12 Tryd.func11 rfl [(0, i64 c)] rfl ⟨rfl, trivial⟩ ?_
  refine E.seq ?_
  refine E.region ?_
  refine X.asg rfl rfl rfl rfl rfl ?_
  refine X.done [(0, _), (2, _)] ⟨rfl, rfl, trivial⟩ ?_
  refine N.then ?_
  refine E.seq ?_
  refine E.region ?_
  refine X.lit (e := 9) (cs := nmL.map (fun s => Value.string ⟨s.toArray⟩)) rfl rfl rfl rfl rfl (fun _ => by kernel_rfl) ?_
  intro b1 H1 hn1 hb1 hk1
  refine X.asg rfl rfl rfl rfl rfl ?_
  refine X.done [(0, _), (2, _), (3, _)] ⟨rfl, rfl, rfl, trivial⟩ ?_
  refine N.then ?_
  refine E.seq ?_
  refine E.seq ?_
  refine E.region ?_
  refine X.mv rfl rfl rfl rfl rfl ?_
  refine X.call rfl rfl rfl rfl rfl Tryd.cl9 (rknown_c_ct c H1) ?_
  rintro _ H2 ⟨rfl, eH2⟩
  obtain rfl := eH2.symm
  rw [hk]
  refine X.notF rfl rfl rfl rfl rfl ?_
  refine X.done [(0, _), (2, _), (3, _), (7, _)] ⟨rfl, rfl, rfl, rfl, trivial⟩ ?_
  refine N.then ?_
  refine E.condT rfl ?_
  refine E.seq ?_
  refine E.region ?_
  refine X.asg rfl rfl rfl rfl rfl ?_
  refine X.done [(0, _), (2, _), (3, _)] ⟨rfl, rfl, rfl, trivial⟩ ?_
  refine N.then ?_
  refine E.ret ?_
  refine N.thenR ?_
  exact N.retH [_] ⟨_, _, rfl, rfl, rfl⟩ ⟨by rw [nm_no hk]; rfl, hk1⟩

theorem rname_yes (k : Nat) (H : Heap) (hk28 : k < 28) : Ct Tryd.prog 11 #[i64 (k : Int)] H fun v H' => v = str (nm (k : Int)) ∧ Kp [] H H' := by
  have hk : kn (k : Int) = true := kn_iff.2 (by omega)
  refine Ct.into 12 Tryd.func11 rfl [(0, i64 (k : Int))] rfl ⟨rfl, trivial⟩ ?_
  refine E.seq ?_
  refine E.region ?_
  refine X.asg rfl rfl rfl rfl rfl ?_
  refine X.done [(0, _), (2, _)] ⟨rfl, rfl, trivial⟩ ?_
  refine N.then ?_
  refine E.seq ?_
  refine E.region ?_
  refine X.lit (e := 9) (cs := nmL.map (fun s => Value.string ⟨s.toArray⟩)) rfl rfl rfl rfl rfl (fun _ => by kernel_rfl) ?_
  intro b1 H1 hn1 hb1 hk1
  refine X.asg rfl rfl rfl rfl rfl ?_
  refine X.done [(0, _), (2, _), (3, _)] ⟨rfl, rfl, rfl, trivial⟩ ?_
  refine N.then ?_
  refine E.seq ?_
  refine E.seq ?_
  refine E.region ?_
  refine X.mv rfl rfl rfl rfl rfl ?_
  refine X.call rfl rfl rfl rfl rfl Tryd.cl9 (rknown_c_ct _ H1) ?_
  rintro _ H2 ⟨rfl, eH2⟩
  obtain rfl := eH2.symm
  rw [hk]
  refine X.notT rfl rfl rfl rfl rfl ?_
  refine X.done [(0, _), (2, _), (3, _), (7, _)] ⟨rfl, rfl, rfl, rfl, trivial⟩ ?_
  refine N.then ?_
  refine E.condF rfl ?_
  refine E.skip ?_
  refine N.then ?_
  refine E.seq ?_
  refine E.region ?_
  refine X.mv rfl rfl rfl rfl rfl ?_
  refine X.mv rfl rfl rfl rfl rfl ?_
  refine X.ixA rfl rfl rfl rfl rfl rfl Tryd.underlying49 Tryd.sz9 (⟨by omega, by show (k : Int) < ((28 : Nat) : Int); omega⟩) ?_
  refine X.ld rfl rfl rfl rfl Tryd.ag9 (hb1) (by rw [Nat.zero_add, Nat.mul_one]; exact nmL_get hk28) ?_
  refine X.asg rfl rfl rfl rfl rfl ?_
  refine X.done [(2, _)] ⟨rfl, trivial⟩ ?_
  refine N.then ?_
  refine E.ret ?_
  exact N.retH [_] ⟨_, _, rfl, rfl, rfl⟩ ⟨by rw [nm_yes hk28]; rfl, hk1⟩

theorem name_ct (c : Int) (H : Heap) : Ct Tryd.prog 10 #[i64 c] H fun v H' => v = str (nm c) ∧ H' = H := by
  cases hk : kn c with
  | false => exact name_no c H hk
  | true =>
    have h := kn_iff.1 hk
    obtain ⟨k, rfl⟩ := Int.eq_ofNat_of_zero_le h.1
    exact name_yes k H (by omega)
theorem rname_ct (c : Int) (H : Heap) : Ct Tryd.prog 11 #[i64 c] H fun v H' => v = str (nm c) ∧ Kp [] H H' := by
  cases hk : kn c with
  | false => exact rname_no c H hk
  | true =>
    have h := kn_iff.1 hk
    obtain ⟨k, rfl⟩ := Int.eq_ofNat_of_zero_le h.1
    exact rname_yes k H (by omega)

end Go.Proofs.YtaofjmaekpjkhaaDoor