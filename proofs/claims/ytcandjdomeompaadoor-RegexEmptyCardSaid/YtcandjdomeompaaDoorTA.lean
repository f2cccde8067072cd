/- The walks: where a tree ends, right nodes, right trees. -/
import Derived.Test.YtcandjdomeompaaDoorRG
namespace Go.Proofs.YtcandjdomeompaaDoor
open Go.SX Go.Chr
attribute [local irreducible] X E N Ct
set_option linter.unusedVariables false
set_option linter.unusedSimpArgs false
theorem fields38 : Tryd.prog.fieldsOf 38 = #[⟨ "Kind", 3, 0, false, "", "", 0⟩, ⟨ "Kids", 3, 1, false, "", "", 8⟩, ⟨ "Set", 36, 2, false, "", "", 16⟩, ⟨ "Low", 3, 6, false, "", "", 48⟩, ⟨ "High", 3, 7, false, "", "", 56⟩] := by
  unfold Program.fieldsOf; rw [Tryd.underlying38]
theorem fl38 : (Tryd.prog.fieldsOf 38).toList = [⟨ "Kind", 3, 0, false, "", "", 0⟩, ⟨ "Kids", 3, 1, false, "", "", 8⟩, ⟨ "Set", 36, 2, false, "", "", 16⟩, ⟨ "Low", 3, 6, false, "", "", 48⟩, ⟨ "High", 3, 7, false, "", "", 56⟩] := by rw [fields38]
theorem eq_node (x y : Nd) (w : World) : (Op.equalIn 10000 38 (ndv x) (ndv y)).run Tryd.prog w = .ok (decide (x = y)) w := by
  have ht : Tryd.prog.underlying 38 = some (.struct (Tryd.prog.fieldsOf 38)) := by rw [fields38]; exact Tryd.underlying38
  rw [show (10000 : Nat) = 9999 + 1 from rfl, run_equalIn_struct w 9999 38 _ _ ht (by kernel_rfl), fl38]
  have p0 : ∀ z : Nd, (part 3 (ncel z).toArray 0).run Tryd.prog w = .ok (i64 z.kind) w := fun z => run_part1 Tryd.ag3 rfl w
  have p1 : ∀ z : Nd, (part 3 (ncel z).toArray 1).run Tryd.prog w = .ok (i64 z.kids) w := fun z => run_part1 Tryd.ag3 rfl w
  have p3 : ∀ z : Nd, (part 3 (ncel z).toArray 6).run Tryd.prog w = .ok (i64 z.low) w := fun z => run_part1 Tryd.ag3 rfl w
  have p4 : ∀ z : Nd, (part 3 (ncel z).toArray 7).run Tryd.prog w = .ok (i64 z.high) w := fun z => run_part1 Tryd.ag3 rfl w
  obtain ⟨inf, hi, hz⟩ := Option.map_eq_some_iff.1 Tryd.sz36
  have p2 : ∀ z : Nd, (part 36 (ncel z).toArray 2).run Tryd.prog w = .ok (.agg #[.int .u64 (wd z.set.1 0 : Nat), .int .u64 (wd z.set.1 1 : Nat), .int .u64 (wd z.set.1 2 : Nat), .int .u64 (wd z.set.1 3 : Nat)]) w := fun z => by
    simp [part, run_isAgg Tryd.ag36, sizeOf, typeInfo, hi, hz, ncel]
  have e3 : ∀ a b : Int, (Op.equalIn 9999 3 (i64 a) (i64 b)).run Tryd.prog w = .ok (a == b) w := fun a b => run_equalIn_int w 9998 3 _ _ a b Tryd.underlying3
  have e4 : ∀ a0 a1 a2 a3 b0 b1 b2 b3 : Int, (Op.equalIn 9999 36 (.agg #[.int .u64 a0, .int .u64 a1, .int .u64 a2, .int .u64 a3]) (.agg #[.int .u64 b0, .int .u64 b1, .int .u64 b2, .int .u64 b3])).run Tryd.prog w = .ok (decide (a0 = b0 ∧ a1 = b1 ∧ a2 = b2 ∧ a3 = b3)) w := fun a0 a1 a2 a3 b0 b1 b2 b3 => run_eq4 Tryd.underlying36 Tryd.underlying34 Tryd.ag34 Tryd.sz34 9997 a0 a1 a2 a3 b0 b1 b2 b3 w
  have no : ∀ a b : Int, a ≠ b → (a == b) = false := fun a b h => by simpa using h
  have hs : ∀ z t : Nd, z.set = t.set ↔ ((wd z.set.1 0 : Nat) : Int) = (wd t.set.1 0 : Nat) ∧ ((wd z.set.1 1 : Nat) : Int) = (wd t.set.1 1 : Nat) ∧ ((wd z.set.1 2 : Nat) : Int) = (wd t.set.1 2 : Nat) ∧ ((wd z.set.1 3 : Nat) : Int) = (wd t.set.1 3 : Nat) := fun z t => by
    refine ⟨fun h => by rw [h]; exact ⟨rfl, rfl, rfl, rfl⟩, fun ⟨h0, h1, h2, h3⟩ => Subtype.ext ?_⟩
    rw [eq_mk4 z.set.2.len, eq_mk4 t.set.2.len]
    refine mk4_congr (fun j hj => ?_)
    match j, hj with
    | 0, _ => exact Int.ofNat.inj h0
    | 1, _ => exact Int.ofNat.inj h1
    | 2, _ => exact Int.ofNat.inj h2
    | 3, _ => exact Int.ofNat.inj h3
  simp only [Op.eqFields, Sem.run_bind, Sem.run_ite, Sem.run_pure, p0, p1, p2, p3, p4, e3, e4, Result.andThen_ok, ne_eq, String.reduceEq, not_false_eq_true, if_true]
  by_cases h0 : x.kind = y.kind
  · by_cases h1 : x.kids = y.kids
    · by_cases h2 : x.set = y.set
      · by_cases h3 : x.low = y.low
        · by_cases h4 : x.high = y.high
          · have e : x = y := by cases x; cases y; simp_all
            simp [e]
          · have e : ¬ x = y := fun q => h4 (by rw [q])
            simp [h0, h1, h2, h3, no _ _ h4, e]
        · have e : ¬ x = y := fun q => h3 (by rw [q])
          simp [h0, h1, h2, no _ _ h3, e]
      · have e : ¬ x = y := fun q => h2 (by rw [q])
        have e5 := fun q => h2 ((hs x y).2 q)
        rw [decide_eq_false e5]
        simp [h0, h1, e]
    · have e : ¬ x = y := fun q => h1 (by rw [q])
      simp [h0, no _ _ h1, e]
  · have e : ¬ x = y := fun q => h0 (by rw [q])
    simp [no _ _ h0, e]
section
variable {n : Nat} {l : List Oper} {F : Heap → Prop} {K : Act → Heap → Prop} {r : List (Nat × Kd)} {env : Env} {H : Heap} {i : Nat} {k : Kd}
variable {d : Option Tmp} {ty : TypeId} {pos : String} {aft : Array Edge} {g : Option (Nat × Bool)} {x y z : Operand} {t' : TypeId}
theorem X.eqlN {a b : Nd} (ho : nth l i = some ⟨d, .binOp .eql 38 x y t', ty, pos, aft, g⟩) (hw : wantE l env ⟨d, .binOp .eql 38 x y t', ty, pos, aft, g⟩ = some true) (hd : dOK n d = true) (hk : noMk k = true)
    (hx : opv env x = some (ndv a)) (hy : opv env y = some (ndv b)) (h : X Tryd.prog n l F K r (setd d (.bool (decide (a = b))) env) H) : X Tryd.prog n l F K ((i, k) :: r) env H := by
  refine X.pure _ ho hw hd hk (fun ρ w hρ => ?_) h
  have hg := run_eqGuard_agg (P := Tryd.prog) w .eql 38 x y (ncel a).toArray (ncel b).toArray (by kernel_rfl)
  have hr := run_eql_struct (P := Tryd.prog) w 38 (ncel a).toArray (ncel b).toArray
  have hr2 : (binOp .eql 38 (ndv a) (ndv b)).run Tryd.prog w = .ok (.bool (decide (a = b))) w := by
    rw [hr]; exact congrArg (Result.andThen · _) (eq_node a b w)
  simp only [execOp, hρ _ _ hx, hρ _ _ hy, Sem.run_bind, hg, Result.andThen_ok, hr2, Sem.run_pure]
theorem X.neqN {a b : Nd} (ho : nth l i = some ⟨d, .binOp .neq 38 x y t', ty, pos, aft, g⟩) (hw : wantE l env ⟨d, .binOp .neq 38 x y t', ty, pos, aft, g⟩ = some true) (hd : dOK n d = true) (hk : noMk k = true)
    (hx : opv env x = some (ndv a)) (hy : opv env y = some (ndv b)) (h : X Tryd.prog n l F K r (setd d (.bool (decide (a ≠ b))) env) H) : X Tryd.prog n l F K ((i, k) :: r) env H := by
  refine X.pure _ ho hw hd hk (fun ρ w hρ => ?_) h
  have hg := run_eqGuard_agg (P := Tryd.prog) w .neq 38 x y (ncel a).toArray (ncel b).toArray (by kernel_rfl)
  have hr := run_neq_struct (P := Tryd.prog) w 38 (ncel a).toArray (ncel b).toArray
  have hr2 : (binOp .neq 38 (ndv a) (ndv b)).run Tryd.prog w = .ok (.bool (decide (a ≠ b))) w := by
    rw [hr, show (Op.equalIn 10000 38 (.agg (ncel a).toArray) (.agg (ncel b).toArray)).run Tryd.prog w = .ok (decide (a = b)) w from eq_node a b w]
    simp [Result.andThen]
  simp only [execOp, hρ _ _ hx, hρ _ _ hy, Sem.run_bind, hg, Result.andThen_ok, hr2, Sem.run_pure]
theorem X.neqW {a b : S4} (ho : nth l i = some ⟨d, .binOp .neq 36 x y t', ty, pos, aft, g⟩) (hw : wantE l env ⟨d, .binOp .neq 36 x y t', ty, pos, aft, g⟩ = some true) (hd : dOK n d = true) (hk : noMk k = true)
    (hx : opv env x = some (agg4 a.1)) (hy : opv env y = some (agg4 b.1)) (h : X Tryd.prog n l F K r (setd d (.bool (decide (a ≠ b))) env) H) : X Tryd.prog n l F K ((i, k) :: r) env H := by
  refine X.pure _ ho hw hd hk (fun ρ w hρ => ?_) h
  obtain ⟨xs, hxs⟩ := a
  obtain ⟨ys, hys⟩ := b
  obtain ⟨a0, a1, a2, a3, rfl⟩ := four hxs
  obtain ⟨b0, b1, b2, b3, rfl⟩ := four hys
  have h4 := run_eq4 Tryd.underlying36 Tryd.underlying34 Tryd.ag34 Tryd.sz34 9998 a0 a1 a2 a3 b0 b1 b2 b3 w
  have hg := run_eqGuard_agg (P := Tryd.prog) w .neq 36 x y (uv [a0, a1, a2, a3]).toArray (uv [b0, b1, b2, b3]).toArray (by kernel_rfl)
  have hr := run_neq_struct (P := Tryd.prog) w 36 (uv [a0, a1, a2, a3]).toArray (uv [b0, b1, b2, b3]).toArray
  have hr2 : (binOp .neq 36 (agg4 [a0, a1, a2, a3]) (agg4 [b0, b1, b2, b3])).run Tryd.prog w = .ok (.bool (decide ((⟨[a0, a1, a2, a3], hxs⟩ : S4) ≠ ⟨[b0, b1, b2, b3], hys⟩))) w := by
    rw [hr]
    refine (congrArg (Result.andThen · _) h4).trans ?_
    show Result.ok (Value.bool (!decide _)) w = _
    congr 2
    rw [Bool.eq_iff_iff]
    simp only [Bool.not_eq_true', decide_eq_false_iff_not, decide_eq_true_eq, ne_eq, Subtype.mk.injEq, List.cons.injEq, and_true]
    omega
  simp only [execOp, hρ _ _ hx, hρ _ _ hy, Sem.run_bind, hg, Result.andThen_ok, hr2, Sem.run_pure]
theorem X.eqlW' {a b : S4} (ho : nth l i = some ⟨d, .binOp .eql 36 x y t', ty, pos, aft, g⟩) (hw : wantE l env ⟨d, .binOp .eql 36 x y t', ty, pos, aft, g⟩ = some true) (hd : dOK n d = true) (hk : noMk k = true)
    (hx : opv env x = some (agg4 a.1)) (hy : opv env y = some (agg4 b.1)) (h : X Tryd.prog n l F K r (setd d (.bool (decide (a = b))) env) H) : X Tryd.prog n l F K ((i, k) :: r) env H := by
  have e : decide (a = b) = decide (a.1 = b.1) := dec_eq ⟨fun h => by rw [h], fun h => Subtype.ext h⟩
  rw [e] at h
  exact X.eqlW ho hw hd hk hx hy Tryd.underlying36 Tryd.underlying34 Tryd.ag34 Tryd.sz34 (by kernel_rfl) a.2.len b.2.len h
end
/-! ### where a tree ends -/
def endA (L : Nat) : Int → Nat → List Nd → Int
  | _, _, [] => -1
  | want, i, x :: r => if x.kids < 0 ∨ (L : Int) < x.kids then -1 else if want + (x.kids - 1) = 0 then ((i + 1 : Nat) : Int) else endA L (want + (x.kids - 1)) (i + 1) r
def endV (l : List Nd) (i : Int) : Int := if i < 0 then -1 else endA l.length 1 i.toNat (l.drop i.toNat)
theorem endA_step {l : List Nd} {L i : Nat} {want : Int} {x : Nd} (h : l[i]? = some x) : endA L want i (l.drop i) = if x.kids < 0 ∨ (L : Int) < x.kids then -1 else if want + (x.kids - 1) = 0 then ((i + 1 : Nat) : Int) else endA L (want + (x.kids - 1)) (i + 1) (l.drop (i + 1)) := by
  obtain ⟨h1, e1⟩ := List.getElem?_eq_some_iff.1 h
  rw [List.drop_eq_getElem_cons h1, e1]; rfl
theorem endA_end {l : List Nd} {L i : Nat} {want : Int} (h : l.length ≤ i) : endA L want i (l.drop i) = -1 := by rw [List.drop_eq_nil_of_le h]; rfl
theorem get_nd {l : List Nd} {i : Nat} (h : i < l.length) : ∃ x, l[i]? = some x := ⟨_, List.getElem?_eq_getElem h⟩
/-- What a right node is. -/
def rtP (x : Nd) : Prop :=
  (x.kind = 1 ∧ x.kids = 0 ∧ x.set ≠ s0 ∧ x.low = 0 ∧ x.high = 0) ∨ (x.kind = 2 ∧ x.kids = 0 ∧ x.set = s0 ∧ x.low = 0 ∧ x.high = 0) ∨
  ((x.kind = 3 ∨ x.kind = 4) ∧ 2 ≤ x.kids ∧ x.set = s0 ∧ x.low = 0 ∧ x.high = 0) ∨ ((x.kind = 5 ∨ x.kind = 6 ∨ x.kind = 7) ∧ x.kids = 1 ∧ x.set = s0 ∧ x.low = 0 ∧ x.high = 0) ∨
  (x.kind = 8 ∧ x.kids = 1 ∧ x.set = s0 ∧ 0 ≤ x.low ∧ x.low ≤ 30 ∧ (x.high = -1 ∨ x.low ≤ x.high ∧ x.high ≤ 30))
instance (x : Nd) : Decidable (rtP x) := by unfold rtP; infer_instance
theorem nd_eq {x y : Nd} : x = y ↔ x.kind = y.kind ∧ x.kids = y.kids ∧ x.set = y.set ∧ x.low = y.low ∧ x.high = y.high := by
  cases x; cases y; simp
theorem rt_of {x : Nd} {b : Bool} (h : b = true ↔ rtP x) : b = decide (rtP x) := Bool.eq_iff_iff.2 (h.trans decide_eq_true_iff.symm)
def chkV (l : List Nd) : Int := if l.length = 0 ∨ 400 < l.length ∨ endV l 0 ≠ (l.length : Nat) then 4 else if l.all (fun x => decide (rtP x)) then 0 else 4
theorem chk_bad {l : List Nd} (h : l.length = 0 ∨ 400 < l.length ∨ endV l 0 ≠ (l.length : Nat)) : chkV l = 4 := by unfold chkV; rw [if_pos h]
theorem chk_no {l : List Nd} {x : Nd} (hx : x ∈ l) (h : ¬ rtP x) : chkV l = 4 := by
  unfold chkV; split
  · rfl
  · rw [if_neg]; intro ha
    exact h (of_decide_eq_true (List.all_eq_true.1 ha x hx))
theorem chk_ok {l : List Nd} (h : ¬ (l.length = 0 ∨ 400 < l.length ∨ endV l 0 ≠ (l.length : Nat))) (ha : ∀ x ∈ l, rtP x) : chkV l = 0 := by
  unfold chkV; rw [if_neg h, if_pos (List.all_eq_true.2 fun x hx => decide_eq_true (ha x hx))]
theorem take_all {l : List Nd} {i : Nat} {x : Nd} {P : Nd → Prop} (h : ∀ y ∈ l.take i, P y) (hx : l[i]? = some x) (hP : P x) : ∀ y ∈ l.take (i + 1), P y := by
  rw [List.take_add_one, hx]
  intro y hy
  rcases List.mem_append.1 hy with hy | hy
  · exact h y hy
  · obtain rfl : y = x := by simpa using hy
    exact hP
def kdF (l : List Nd) : Nat → Int → List Int
  | 0, _ => []
  | n + 1, at_ => at_ :: kdF l n (endV l at_)
structure EQ where
  i : Nat
  w : Int
structure KQ where
  k : Nat
  a : Int
  v : Value
theorem kdF_len (l : List Nd) : ∀ n a, (kdF l n a).length = n
  | 0, _ => rfl
  | n + 1, a => by rw [kdF, List.length_cons, kdF_len l n]

theorem end_ct (l : List Nd) (a : Option Addr) (c : Nat) (i : Int) (H : Heap) (hN : NR H (.slice a l.length c) l) (hl : l.length ≤ 1000) : Ct Tryd.prog 12 #[.slice a l.length c, i64 i] H fun v H' => v = i64 (endV l i) ∧ H' = H := by
  refine Ct.into 36 Tryd.func12 rfl [(0, .slice a l.length c), (1, i64 i)] rfl ⟨rfl, rfl, trivial⟩ ?_
  refine E.seq ?_
  refine E.region ?_
  refine X.asg rfl rfl rfl rfl rfl ?_
  refine X.done [(0, _), (1, _), (4, _)] ⟨rfl, rfl, rfl, trivial⟩ ?_
  refine N.then ?_
  refine E.seq ?_
  refine E.seq ?_
  refine E.region ?_
  refine X.mv rfl rfl rfl rfl rfl ?_
  refine X.lss rfl rfl rfl rfl rfl rfl ?_
  refine X.done [(0, _), (1, _), (4, _), (8, _)] ⟨rfl, rfl, rfl, rfl, trivial⟩ ?_
  refine N.then ?_
  refine E.condD rfl (fun hc => ?_) (fun hc => ?_)
  · refine E.seq ?_
    refine E.region ?_
    refine X.asg rfl rfl rfl rfl rfl ?_
    refine X.done [(0, _), (1, _), (4, _)] ⟨rfl, rfl, rfl, trivial⟩ ?_
    refine N.then ?_
    refine E.ret ?_
    refine N.thenR ?_
    exact N.retH [_] ⟨_, _, rfl, rfl, rfl⟩ ⟨by unfold endV; rw [if_pos (by omega)]; rfl, rfl⟩
  · refine E.skip ?_
    refine N.then ?_
    refine E.seq ?_
    refine E.seq ?_
    obtain ⟨k0, rfl⟩ := Int.eq_ofNat_of_zero_le (show 0 ≤ i by omega)
    have hk0 : endA l.length 1 k0 (l.drop k0) = endV l (k0 : Nat) := by unfold endV; rw [if_neg (by omega), Int.toNat_natCast]
    refine E.region ?_
    refine X.asg rfl rfl rfl rfl rfl ?_
    refine X.done [(0, _), (1, _), (4, _), (5, _)] ⟨rfl, rfl, rfl, rfl, trivial⟩ ?_
    refine N.then ?_
    refine E.block ?_
    refine E.loop (fun (q : EQ) => [(0, .slice a l.length c), (4, i64 0), (5, i64 q.w), (1, i64 q.i)]) (fun (q : EQ) H' => H' = H ∧ 1 ≤ q.w ∧ q.w ≤ 1 + 1000 * q.i ∧ endA l.length q.w q.i (l.drop q.i) = endV l ((k0 : Nat) : Int) ∧ k0 ≤ q.i ∧ (q.i = k0 ∨ q.i ≤ l.length)) (fun (q : EQ) => l.length - q.i) ⟨k0, 1⟩ ⟨rfl, rfl, rfl, rfl, trivial⟩ ⟨rfl, by show (1 : Int) ≤ 1; omega, by show (1 : Int) ≤ 1 + 1000 * k0; omega, hk0, Nat.le_refl _, .inl rfl⟩ ?_
    rintro ⟨j, w⟩ H3 hJ
    dsimp only at hJ ⊢
    obtain ⟨eH, hw0, hw1, hJ, hj0, hj1⟩ := hJ
    obtain rfl := eH.symm
    refine E.seq ?_
    refine E.seq ?_
    refine E.region ?_
    refine X.mv rfl rfl rfl rfl rfl ?_
    refine X.mv rfl rfl rfl rfl rfl ?_
    refine X.lenS rfl rfl rfl rfl rfl Tryd.underlying22 ?_
    refine X.lss rfl rfl rfl rfl rfl rfl ?_
    refine X.done [(0, _), (4, _), (5, _), (1, _), (9, _), (10, _), (11, _), (12, _)] ⟨rfl, rfl, rfl, rfl, rfl, rfl, rfl, rfl, trivial⟩ ?_
    refine N.then ?_
    refine E.condD rfl (fun hc => ?_) (fun hc => ?_)
    · refine E.skip ?_
      refine N.then ?_
      refine E.seq ?_
      refine E.block ?_
      refine E.seq ?_
      have hi2 : j < l.length := Int.ofNat_lt.1 (by assumption)
      obtain ⟨x, hx⟩ := get_nd hi2
      obtain ⟨bb, oo, cs, ct, fz, hae, hbb, hcc⟩ := hN.at hx
      refine E.region ?_
      refine X.mv rfl rfl rfl rfl rfl ?_
      refine X.mv rfl rfl rfl rfl rfl ?_
      refine X.ixAe rfl rfl rfl rfl rfl rfl Tryd.underlying22 Tryd.sz38 (hae) (by omega) ?_
      refine X.fld rfl rfl rfl rfl rfl Tryd.off38_1 ?_
      refine X.ld rfl rfl rfl rfl Tryd.ag3 (hbb) (by exact hcc 1 _ rfl) ?_
      refine X.asg rfl rfl rfl rfl rfl ?_
      refine X.done [(0, _), (4, _), (5, _), (1, _), (9, _), (10, _), (11, _), (12, _), (15, _), (16, _), (17, _), (18, _), (19, _), (6, _)] ⟨rfl, rfl, rfl, rfl, rfl, rfl, rfl, rfl, rfl, rfl, rfl, rfl, rfl, rfl, trivial⟩ ?_
      refine N.then ?_
      refine E.seq ?_
      refine E.seq ?_
      refine E.region ?_
      refine X.mv rfl rfl rfl rfl rfl ?_
      refine X.lssC rfl rfl rfl rfl rfl rfl (fun hc => ?_) (fun hc => ?_)
      · refine X.mv rfl rfl rfl rfl rfl ?_
        refine X.skip rfl rfl rfl ?_
        refine X.skip rfl rfl rfl ?_
        refine X.skip rfl rfl rfl ?_
        refine X.skip rfl rfl rfl ?_
        refine X.pickT rfl rfl rfl rfl rfl rfl ?_
        refine X.done [(0, _), (4, _), (5, _), (1, _), (9, _), (10, _), (11, _), (12, _), (15, _), (16, _), (17, _), (18, _), (19, _), (6, _), (20, _), (21, _), (22, _), (23, _), (24, _), (25, _), (26, _), (27, _)] ⟨rfl, rfl, rfl, rfl, rfl, rfl, rfl, rfl, rfl, rfl, rfl, rfl, rfl, rfl, rfl, rfl, rfl, rfl, rfl, rfl, rfl, rfl, trivial⟩ ?_
        refine N.then ?_
        refine E.condT rfl ?_
        refine E.seq ?_
        refine E.region ?_
        refine X.asg rfl rfl rfl rfl rfl ?_
        refine X.done [(0, _), (4, _), (5, _), (1, _), (9, _), (10, _), (11, _), (12, _), (15, _), (16, _), (17, _), (18, _), (19, _), (6, _), (20, _), (21, _), (22, _), (23, _), (24, _), (25, _), (26, _), (27, _)] ⟨rfl, rfl, rfl, rfl, rfl, rfl, rfl, rfl, rfl, rfl, rfl, rfl, rfl, rfl, rfl, rfl, rfl, rfl, rfl, rfl, rfl, rfl, trivial⟩ ?_
        refine N.then ?_
        refine E.ret ?_
        refine N.thenR ?_
        refine N.blkR ?_
        refine N.thenR ?_
        refine N.loopR ?_
        refine N.blkR ?_
        refine N.thenR ?_
        exact N.retH [_] ⟨_, _, rfl, rfl, rfl⟩ ⟨by rw [← hJ, endA_step hx, if_pos (by omega)]; rfl, rfl⟩
      · refine X.mv rfl rfl rfl rfl rfl ?_
        refine X.mv rfl rfl rfl rfl rfl ?_
        refine X.mv rfl rfl rfl rfl rfl ?_
        refine X.lenS rfl rfl rfl rfl rfl Tryd.underlying22 ?_
        refine X.gtr rfl rfl rfl rfl rfl rfl ?_
        refine X.pickF rfl rfl rfl rfl rfl rfl ?_
        refine X.done [(0, _), (4, _), (5, _), (1, _), (9, _), (10, _), (11, _), (12, _), (15, _), (16, _), (17, _), (18, _), (19, _), (6, _), (20, _), (21, _), (22, _), (23, _), (24, _), (25, _), (26, _), (27, _)] ⟨rfl, rfl, rfl, rfl, rfl, rfl, rfl, rfl, rfl, rfl, rfl, rfl, rfl, rfl, rfl, rfl, rfl, rfl, rfl, rfl, rfl, rfl, trivial⟩ ?_
        refine N.then ?_
        refine E.condD rfl (fun hc => ?_) (fun hc => ?_)
        · refine E.seq ?_
          refine E.region ?_
          refine X.asg rfl rfl rfl rfl rfl ?_
          refine X.done [(0, _), (4, _), (5, _), (1, _), (9, _), (10, _), (11, _), (12, _), (15, _), (16, _), (17, _), (18, _), (19, _), (6, _), (20, _), (21, _), (22, _), (23, _), (24, _), (25, _), (26, _), (27, _)] ⟨rfl, rfl, rfl, rfl, rfl, rfl, rfl, rfl, rfl, rfl, rfl, rfl, rfl, rfl, rfl, rfl, rfl, rfl, rfl, rfl, rfl, rfl, trivial⟩ ?_
          refine N.then ?_
          refine E.ret ?_
          refine N.thenR ?_
          refine N.blkR ?_
          refine N.thenR ?_
          refine N.loopR ?_
          refine N.blkR ?_
          refine N.thenR ?_
          exact N.retH [_] ⟨_, _, rfl, rfl, rfl⟩ ⟨by rw [← hJ, endA_step hx, if_pos (by omega)]; rfl, rfl⟩
        · refine E.skip ?_
          refine N.then ?_
          refine E.seq ?_
          refine E.region ?_
          refine X.mv rfl rfl rfl rfl rfl ?_
          refine X.mv rfl rfl rfl rfl rfl ?_
          refine X.sbE (zz := (x.kids - 1)) rfl rfl rfl rfl rfl rfl (by rw [IntWalk.i64_in _ (by omega)] <;> omega) ?_
          refine X.addE (zz := (w + (x.kids - 1))) rfl rfl rfl rfl rfl rfl (by rw [IntWalk.i64_in _ (by omega)] <;> omega) ?_
          refine X.asg rfl rfl rfl rfl rfl ?_
          refine X.done [(0, _), (4, _), (5, _), (1, _), (9, _), (10, _), (11, _), (12, _), (15, _), (16, _), (17, _), (18, _), (19, _), (6, _), (20, _), (21, _), (22, _), (23, _), (24, _), (25, _), (26, _), (27, _), (28, _), (29, _), (30, _), (31, _)] ⟨rfl, rfl, rfl, rfl, rfl, rfl, rfl, rfl, rfl, rfl, rfl, rfl, rfl, rfl, rfl, rfl, rfl, rfl, rfl, rfl, rfl, rfl, rfl, rfl, rfl, rfl, trivial⟩ ?_
          refine N.then ?_
          refine E.seq ?_
          refine E.region ?_
          refine X.mv rfl rfl rfl rfl rfl ?_
          refine X.eql rfl rfl rfl rfl rfl rfl ?_
          refine X.done [(0, _), (4, _), (5, _), (1, _), (9, _), (10, _), (11, _), (12, _), (15, _), (16, _), (17, _), (18, _), (19, _), (6, _), (20, _), (21, _), (22, _), (23, _), (24, _), (25, _), (26, _), (27, _), (28, _), (29, _), (30, _), (31, _), (32, _), (33, _)] ⟨rfl, rfl, rfl, rfl, rfl, rfl, rfl, rfl, rfl, rfl, rfl, rfl, rfl, rfl, rfl, rfl, rfl, rfl, rfl, rfl, rfl, rfl, rfl, rfl, rfl, rfl, rfl, rfl, trivial⟩ ?_
          refine N.then ?_
          refine E.condD rfl (fun hc => ?_) (fun hc => ?_)
          · refine E.seq ?_
            refine E.region ?_
            refine X.mv rfl rfl rfl rfl rfl ?_
            refine X.addE (zz := ((j + 1 : Nat) : Int)) rfl rfl rfl rfl rfl rfl (by rw [IntWalk.i64_in _ (by omega)] <;> omega) ?_
            refine X.asg rfl rfl rfl rfl rfl ?_
            refine X.done [(0, _), (4, _), (5, _), (1, _), (9, _), (10, _), (11, _), (12, _), (15, _), (16, _), (17, _), (18, _), (19, _), (6, _), (20, _), (21, _), (22, _), (23, _), (24, _), (25, _), (26, _), (27, _), (28, _), (29, _), (30, _), (31, _), (32, _), (33, _), (34, _), (35, _)] ⟨rfl, rfl, rfl, rfl, rfl, rfl, rfl, rfl, rfl, rfl, rfl, rfl, rfl, rfl, rfl, rfl, rfl, rfl, rfl, rfl, rfl, rfl, rfl, rfl, rfl, rfl, rfl, rfl, rfl, rfl, trivial⟩ ?_
            refine N.then ?_
            refine E.ret ?_
            refine N.blkR ?_
            refine N.thenR ?_
            refine N.loopR ?_
            refine N.blkR ?_
            refine N.thenR ?_
            exact N.retH [_] ⟨_, _, rfl, rfl, rfl⟩ ⟨by rw [← hJ, endA_step hx, if_neg (by omega), if_pos (by omega)]; rfl, rfl⟩
          · refine E.skip ?_
            refine N.blk ?_
            refine N.then ?_
            refine E.region ?_
            refine X.mv rfl rfl rfl rfl rfl ?_
            refine X.addE (zz := ((j + 1 : Nat) : Int)) rfl rfl rfl rfl rfl rfl (by rw [IntWalk.i64_in _ (by omega)] <;> omega) ?_
            refine X.asg rfl rfl rfl rfl rfl ?_
            refine X.done [(0, _), (4, _), (5, _), (1, _), (9, _), (10, _), (11, _), (12, _), (15, _), (16, _), (17, _), (18, _), (19, _), (6, _), (20, _), (21, _), (22, _), (23, _), (24, _), (25, _), (26, _), (27, _), (28, _), (29, _), (30, _), (31, _), (32, _), (33, _), (13, _), (14, _)] ⟨rfl, rfl, rfl, rfl, rfl, rfl, rfl, rfl, rfl, rfl, rfl, rfl, rfl, rfl, rfl, rfl, rfl, rfl, rfl, rfl, rfl, rfl, rfl, rfl, rfl, rfl, rfl, rfl, rfl, rfl, trivial⟩ ?_
            exact N.next (G := fun (q : EQ) => _) ⟨j + 1, w + (x.kids - 1)⟩ ⟨rfl, rfl, rfl, rfl, trivial⟩ ⟨rfl, by show 1 ≤ w + (x.kids - 1); omega, by show w + (x.kids - 1) ≤ 1 + 1000 * ((j + 1 : Nat) : Int); omega, by rw [← hJ, endA_step hx, if_neg (by omega), if_neg (by omega)], by show k0 ≤ j + 1; omega, .inr hi2⟩ (by show l.length - (j + 1) < l.length - j; omega)
    · refine E.exit ?_
      refine N.thenX ?_
      refine N.loopX ?_
      refine N.blkX ?_
      refine N.then ?_
      refine E.seq ?_
      refine E.region ?_
      refine X.asg rfl rfl rfl rfl rfl ?_
      refine X.done [(4, _)] ⟨rfl, trivial⟩ ?_
      refine N.then ?_
      refine E.ret ?_
      exact N.retH [_] ⟨_, _, rfl, rfl, rfl⟩ ⟨by rw [← hJ, endA_end (by omega)]; rfl, rfl⟩

theorem rend_ct (l : List Nd) (a : Option Addr) (c : Nat) (i : Int) (H : Heap) (hN : NR H (.slice a l.length c) l) (hl : l.length ≤ 1000) : Ct Tryd.prog 13 #[.slice a l.length c, i64 i] H fun v H' => v = i64 (endV l i) ∧ H' = H := by
  refine Ct.into 44 Tryd.func13 rfl [(0, .slice a l.length c), (1, i64 i)] rfl ⟨rfl, rfl, trivial⟩ ?_
  refine E.seq ?_
  refine E.region ?_
  refine X.asg rfl rfl rfl rfl rfl ?_
  refine X.done [(0, _), (1, _), (4, _)] ⟨rfl, rfl, rfl, trivial⟩ ?_
  refine N.then ?_
  refine E.seq ?_
  refine E.seq ?_
  refine E.region ?_
  refine X.mv rfl rfl rfl rfl rfl ?_
  refine X.lss rfl rfl rfl rfl rfl rfl ?_
  refine X.done [(0, _), (1, _), (4, _), (8, _)] ⟨rfl, rfl, rfl, rfl, trivial⟩ ?_
  refine N.then ?_
  refine E.condD rfl (fun hc => ?_) (fun hc => ?_)
  · refine E.seq ?_
    refine E.region ?_
    refine X.asg rfl rfl rfl rfl rfl ?_
    refine X.done [(0, _), (1, _), (4, _)] ⟨rfl, rfl, rfl, trivial⟩ ?_
    refine N.then ?_
    refine E.ret ?_
    refine N.thenR ?_
    exact N.retH [_] ⟨_, _, rfl, rfl, rfl⟩ ⟨by unfold endV; rw [if_pos (by omega)]; rfl, rfl⟩
  · refine E.skip ?_
    refine N.then ?_
    refine E.seq ?_
    obtain ⟨k0, rfl⟩ := Int.eq_ofNat_of_zero_le (show 0 ≤ i by omega)
    have hk0 : endA l.length 1 k0 (l.drop k0) = endV l (k0 : Nat) := by unfold endV; rw [if_neg (by omega), Int.toNat_natCast]
    refine E.region ?_
    refine X.asg rfl rfl rfl rfl rfl ?_
    refine X.done [(0, _), (1, _), (4, _), (5, _)] ⟨rfl, rfl, rfl, rfl, trivial⟩ ?_
    refine N.then ?_
    refine E.seq ?_
    refine E.seq ?_
    refine E.region ?_
    refine X.mv rfl rfl rfl rfl rfl ?_
    refine X.asg rfl rfl rfl rfl rfl ?_
    refine X.done [(0, _), (4, _), (5, _), (6, _)] ⟨rfl, rfl, rfl, rfl, trivial⟩ ?_
    refine N.then ?_
    refine E.block ?_
    refine E.loop (fun (q : EQ) => [(0, .slice a l.length c), (4, i64 0), (5, i64 q.w), (6, i64 q.i)]) (fun (q : EQ) H' => H' = H ∧ 1 ≤ q.w ∧ q.w ≤ 1 + 1000 * q.i ∧ endA l.length q.w q.i (l.drop q.i) = endV l ((k0 : Nat) : Int) ∧ k0 ≤ q.i ∧ (q.i = k0 ∨ q.i ≤ l.length)) (fun (q : EQ) => l.length - q.i) ⟨k0, 1⟩ ⟨rfl, rfl, rfl, rfl, trivial⟩ ⟨rfl, by show (1 : Int) ≤ 1; omega, by show (1 : Int) ≤ 1 + 1000 * k0; omega, hk0, Nat.le_refl _, .inl rfl⟩ ?_
    rintro ⟨j, w⟩ H3 hJ
    dsimp only at hJ ⊢
    obtain ⟨eH, hw0, hw1, hJ, hj0, hj1⟩ := hJ
    obtain rfl := eH.symm
    refine E.seq ?_
    refine E.seq ?_
    refine E.region ?_
    refine X.mv rfl rfl rfl rfl rfl ?_
    refine X.mv rfl rfl rfl rfl rfl ?_
    refine X.lenS rfl rfl rfl rfl rfl Tryd.underlying22 ?_
    refine X.lss rfl rfl rfl rfl rfl rfl ?_
    refine X.done [(0, _), (4, _), (5, _), (6, _), (10, _), (11, _), (12, _), (13, _)] ⟨rfl, rfl, rfl, rfl, rfl, rfl, rfl, rfl, trivial⟩ ?_
    refine N.then ?_
    refine E.condD rfl (fun hc => ?_) (fun hc => ?_)
    · refine E.skip ?_
      refine N.then ?_
      refine E.seq ?_
      refine E.block ?_
      refine E.seq ?_
      refine E.seq ?_
      have hi2 : j < l.length := Int.ofNat_lt.1 (by assumption)
      obtain ⟨x, hx⟩ := get_nd hi2
      obtain ⟨bb, oo, cs, ct, fz, hae, hbb, hcc⟩ := hN.at hx
      refine E.region ?_
      refine X.mv rfl rfl rfl rfl rfl ?_
      refine X.mv rfl rfl rfl rfl rfl ?_
      refine X.ixAe rfl rfl rfl rfl rfl rfl Tryd.underlying22 Tryd.sz38 (hae) (by omega) ?_
      refine X.fld rfl rfl rfl rfl rfl Tryd.off38_1 ?_
      refine X.ld rfl rfl rfl rfl Tryd.ag3 (hbb) (by exact hcc 1 _ rfl) ?_
      refine X.lssC rfl rfl rfl rfl rfl rfl (fun hc => ?_) (fun hc => ?_)
      · refine X.mv rfl rfl rfl rfl rfl ?_
        refine X.skip rfl rfl rfl ?_
        refine X.skip rfl rfl rfl ?_
        refine X.skip rfl rfl rfl ?_
        refine X.skip rfl rfl rfl ?_
        refine X.skip rfl rfl rfl ?_
        refine X.skip rfl rfl rfl ?_
        refine X.skip rfl rfl rfl ?_
        refine X.skip rfl rfl rfl ?_
        refine X.pickT rfl rfl rfl rfl rfl rfl ?_
        refine X.done [(0, _), (4, _), (5, _), (6, _), (10, _), (11, _), (12, _), (13, _), (16, _), (17, _), (18, _), (19, _), (20, _), (21, _), (22, _), (23, _), (24, _), (25, _), (26, _), (27, _), (28, _), (29, _), (30, _), (31, _)] ⟨rfl, rfl, rfl, rfl, rfl, rfl, rfl, rfl, rfl, rfl, rfl, rfl, rfl, rfl, rfl, rfl, rfl, rfl, rfl, rfl, rfl, rfl, rfl, rfl, trivial⟩ ?_
        refine N.then ?_
        refine E.condT rfl ?_
        refine E.seq ?_
        refine E.region ?_
        refine X.asg rfl rfl rfl rfl rfl ?_
        refine X.done [(0, _), (4, _), (5, _), (6, _), (10, _), (11, _), (12, _), (13, _), (16, _), (17, _), (18, _), (19, _), (20, _), (21, _), (22, _), (23, _), (24, _), (25, _), (26, _), (27, _), (28, _), (29, _), (30, _), (31, _)] ⟨rfl, rfl, rfl, rfl, rfl, rfl, rfl, rfl, rfl, rfl, rfl, rfl, rfl, rfl, rfl, rfl, rfl, rfl, rfl, rfl, rfl, rfl, rfl, rfl, trivial⟩ ?_
        refine N.then ?_
        refine E.ret ?_
        refine N.thenR ?_
        refine N.blkR ?_
        refine N.thenR ?_
        refine N.loopR ?_
        refine N.blkR ?_
        refine N.thenR ?_
        exact N.retH [_] ⟨_, _, rfl, rfl, rfl⟩ ⟨by rw [← hJ, endA_step hx, if_pos (by omega)]; rfl, rfl⟩
      · refine X.mv rfl rfl rfl rfl rfl ?_
        refine X.mv rfl rfl rfl rfl rfl ?_
        refine X.mv rfl rfl rfl rfl rfl ?_
        refine X.ixAe rfl rfl rfl rfl rfl rfl Tryd.underlying22 Tryd.sz38 (hae) (by omega) ?_
        refine X.fld rfl rfl rfl rfl rfl Tryd.off38_1 ?_
        refine X.ld rfl rfl rfl rfl Tryd.ag3 (hbb) (by exact hcc 1 _ rfl) ?_
        refine X.mv rfl rfl rfl rfl rfl ?_
        refine X.lenS rfl rfl rfl rfl rfl Tryd.underlying22 ?_
        refine X.gtr rfl rfl rfl rfl rfl rfl ?_
        refine X.pickF rfl rfl rfl rfl rfl rfl ?_
        refine X.done [(0, _), (4, _), (5, _), (6, _), (10, _), (11, _), (12, _), (13, _), (16, _), (17, _), (18, _), (19, _), (20, _), (21, _), (22, _), (23, _), (24, _), (25, _), (26, _), (27, _), (28, _), (29, _), (30, _), (31, _)] ⟨rfl, rfl, rfl, rfl, rfl, rfl, rfl, rfl, rfl, rfl, rfl, rfl, rfl, rfl, rfl, rfl, rfl, rfl, rfl, rfl, rfl, rfl, rfl, rfl, trivial⟩ ?_
        refine N.then ?_
        refine E.condD rfl (fun hc => ?_) (fun hc => ?_)
        · refine E.seq ?_
          refine E.region ?_
          refine X.asg rfl rfl rfl rfl rfl ?_
          refine X.done [(0, _), (4, _), (5, _), (6, _), (10, _), (11, _), (12, _), (13, _), (16, _), (17, _), (18, _), (19, _), (20, _), (21, _), (22, _), (23, _), (24, _), (25, _), (26, _), (27, _), (28, _), (29, _), (30, _), (31, _)] ⟨rfl, rfl, rfl, rfl, rfl, rfl, rfl, rfl, rfl, rfl, rfl, rfl, rfl, rfl, rfl, rfl, rfl, rfl, rfl, rfl, rfl, rfl, rfl, rfl, trivial⟩ ?_
          refine N.then ?_
          refine E.ret ?_
          refine N.thenR ?_
          refine N.blkR ?_
          refine N.thenR ?_
          refine N.loopR ?_
          refine N.blkR ?_
          refine N.thenR ?_
          exact N.retH [_] ⟨_, _, rfl, rfl, rfl⟩ ⟨by rw [← hJ, endA_step hx, if_pos (by omega)]; rfl, rfl⟩
        · refine E.skip ?_
          refine N.then ?_
          refine E.seq ?_
          refine E.region ?_
          refine X.mv rfl rfl rfl rfl rfl ?_
          refine X.sbE (zz := (w - 1)) rfl rfl rfl rfl rfl rfl (by rw [IntWalk.i64_in _ (by omega)] <;> omega) ?_
          refine X.mv rfl rfl rfl rfl rfl ?_
          refine X.mv rfl rfl rfl rfl rfl ?_
          refine X.ixAe rfl rfl rfl rfl rfl rfl Tryd.underlying22 Tryd.sz38 (hae) (by omega) ?_
          refine X.fld rfl rfl rfl rfl rfl Tryd.off38_1 ?_
          refine X.ld rfl rfl rfl rfl Tryd.ag3 (hbb) (by exact hcc 1 _ rfl) ?_
          refine X.addE (zz := w + (x.kids - 1)) rfl rfl rfl rfl rfl rfl (by rw [show w - 1 + x.kids = w + (x.kids - 1) by omega, IntWalk.i64_in _ (by omega)]) ?_
          refine X.asg rfl rfl rfl rfl rfl ?_
          refine X.done [(0, _), (4, _), (5, _), (6, _), (10, _), (11, _), (12, _), (13, _), (16, _), (17, _), (18, _), (19, _), (20, _), (21, _), (22, _), (23, _), (24, _), (25, _), (26, _), (27, _), (28, _), (29, _), (30, _), (31, _), (32, _), (33, _), (34, _), (35, _), (36, _), (37, _), (38, _), (39, _)] ⟨rfl, rfl, rfl, rfl, rfl, rfl, rfl, rfl, rfl, rfl, rfl, rfl, rfl, rfl, rfl, rfl, rfl, rfl, rfl, rfl, rfl, rfl, rfl, rfl, rfl, rfl, rfl, rfl, rfl, rfl, rfl, rfl, trivial⟩ ?_
          refine N.then ?_
          refine E.seq ?_
          refine E.region ?_
          refine X.mv rfl rfl rfl rfl rfl ?_
          refine X.eql rfl rfl rfl rfl rfl rfl ?_
          refine X.done [(0, _), (4, _), (5, _), (6, _), (10, _), (11, _), (12, _), (13, _), (16, _), (17, _), (18, _), (19, _), (20, _), (21, _), (22, _), (23, _), (24, _), (25, _), (26, _), (27, _), (28, _), (29, _), (30, _), (31, _), (32, _), (33, _), (34, _), (35, _), (36, _), (37, _), (38, _), (39, _), (40, _), (41, _)] ⟨rfl, rfl, rfl, rfl, rfl, rfl, rfl, rfl, rfl, rfl, rfl, rfl, rfl, rfl, rfl, rfl, rfl, rfl, rfl, rfl, rfl, rfl, rfl, rfl, rfl, rfl, rfl, rfl, rfl, rfl, rfl, rfl, rfl, rfl, trivial⟩ ?_
          refine N.then ?_
          refine E.condD rfl (fun hc => ?_) (fun hc => ?_)
          · refine E.seq ?_
            refine E.region ?_
            refine X.mv rfl rfl rfl rfl rfl ?_
            refine X.addE (zz := ((j + 1 : Nat) : Int)) rfl rfl rfl rfl rfl rfl (by rw [IntWalk.i64_in _ (by omega)] <;> omega) ?_
            refine X.asg rfl rfl rfl rfl rfl ?_
            refine X.done [(0, _), (4, _), (5, _), (6, _), (10, _), (11, _), (12, _), (13, _), (16, _), (17, _), (18, _), (19, _), (20, _), (21, _), (22, _), (23, _), (24, _), (25, _), (26, _), (27, _), (28, _), (29, _), (30, _), (31, _), (32, _), (33, _), (34, _), (35, _), (36, _), (37, _), (38, _), (39, _), (40, _), (41, _), (42, _), (43, _)] ⟨rfl, rfl, rfl, rfl, rfl, rfl, rfl, rfl, rfl, rfl, rfl, rfl, rfl, rfl, rfl, rfl, rfl, rfl, rfl, rfl, rfl, rfl, rfl, rfl, rfl, rfl, rfl, rfl, rfl, rfl, rfl, rfl, rfl, rfl, rfl, rfl, trivial⟩ ?_
            refine N.then ?_
            refine E.ret ?_
            refine N.blkR ?_
            refine N.thenR ?_
            refine N.loopR ?_
            refine N.blkR ?_
            refine N.thenR ?_
            exact N.retH [_] ⟨_, _, rfl, rfl, rfl⟩ ⟨by rw [← hJ, endA_step hx, if_neg (by omega), if_pos (by omega)]; rfl, rfl⟩
          · refine E.skip ?_
            refine N.blk ?_
            refine N.then ?_
            refine E.region ?_
            refine X.mv rfl rfl rfl rfl rfl ?_
            refine X.addE (zz := ((j + 1 : Nat) : Int)) rfl rfl rfl rfl rfl rfl (by rw [IntWalk.i64_in _ (by omega)] <;> omega) ?_
            refine X.asg rfl rfl rfl rfl rfl ?_
            refine X.done [(0, _), (4, _), (5, _), (6, _), (10, _), (11, _), (12, _), (13, _), (16, _), (17, _), (18, _), (19, _), (20, _), (21, _), (22, _), (23, _), (24, _), (25, _), (26, _), (27, _), (28, _), (29, _), (30, _), (31, _), (32, _), (33, _), (34, _), (35, _), (36, _), (37, _), (38, _), (39, _), (40, _), (41, _), (14, _), (15, _)] ⟨rfl, rfl, rfl, rfl, rfl, rfl, rfl, rfl, rfl, rfl, rfl, rfl, rfl, rfl, rfl, rfl, rfl, rfl, rfl, rfl, rfl, rfl, rfl, rfl, rfl, rfl, rfl, rfl, rfl, rfl, rfl, rfl, rfl, rfl, rfl, rfl, trivial⟩ ?_
            exact N.next (G := fun (q : EQ) => _) ⟨j + 1, w + (x.kids - 1)⟩ ⟨rfl, rfl, rfl, rfl, trivial⟩ ⟨rfl, by show 1 ≤ w + (x.kids - 1); omega, by show w + (x.kids - 1) ≤ 1 + 1000 * ((j + 1 : Nat) : Int); omega, by rw [← hJ, endA_step hx, if_neg (by omega), if_neg (by omega)], by show k0 ≤ j + 1; omega, .inr hi2⟩ (by show l.length - (j + 1) < l.length - j; omega)
    · refine E.exit ?_
      refine N.thenX ?_
      refine N.loopX ?_
      refine N.blkX ?_
      refine N.then ?_
      refine E.seq ?_
      refine E.region ?_
      refine X.asg rfl rfl rfl rfl rfl ?_
      refine X.done [(4, _)] ⟨rfl, trivial⟩ ?_
      refine N.then ?_
      refine E.ret ?_
      exact N.retH [_] ⟨_, _, rfl, rfl, rfl⟩ ⟨by rw [← hJ, endA_end (by omega)]; rfl, rfl⟩

theorem fits_ct (x : Nd) (H : Heap) : Ct Tryd.prog 18 #[ndv x] H fun v H' => v = .bool (decide (rtP x)) ∧ Kp [] H H' := by
  refine Ct.into 77 Tryd.func18 rfl [(0, ndv x)] rfl ⟨rfl, trivial⟩ ?_
  refine E.seq ?_
  refine E.region ?_
  refine X.box rfl rfl rfl rfl rfl rfl ?_
  intro b1 H1 hn1 hb1 hk1
  have hs1 := lt_of hb1
  refine X.asg rfl rfl rfl rfl rfl ?_
  refine X.done [(1, _), (2, _)] ⟨rfl, rfl, trivial⟩ ?_
  refine N.then ?_
  refine E.seq ?_
  refine E.region ?_
  refine X.ldA rfl rfl rfl rfl Tryd.ag38 Tryd.sz38 (hb1) (ncel_len _) zoff ?_
  refine X.alloc (z := .agg ([.int .i64 0, .int .i64 0, .int .u64 0, .int .u64 0, .int .u64 0, .int .u64 0, .int .i64 0, .int .i64 0] : List Value).toArray) (cs := [.int .i64 0, .int .i64 0, .int .u64 0, .int .u64 0, .int .u64 0, .int .u64 0, .int .i64 0, .int .i64 0]) rfl rfl rfl rfl (by kernel_rfl) rfl ?_
  intro b3 H2 hn2 hb3 hk2
  replace hb1 := hk2.keep hb1 (by simp)
  have hkk := hk1.trans hk2 (by simp)
  have hne : b3 ≠ b1 := by omega
  have hh3 : H.size ≤ b3 := by have := hk1.size; omega
  refine X.stA rfl rfl rfl rfl rfl rfl (ncel_one _) Tryd.sz38 hb3 (by show 0 + 8 ≤ 8; omega) ?_
  intro H3 hb3n hk3
  rw [splice_all (by rfl)] at hb3n
  replace hb3 := hb3n
  replace hb1 := hk3.keep hb1 (by simp; omega)
  replace hkk := hkk.trans hk3 (by simp; exact hh3)
  refine X.done [(1, _), (2, _), (3, _)] ⟨rfl, rfl, rfl, trivial⟩ ?_
  refine N.then ?_
  refine E.seq ?_
  refine E.region ?_
  refine X.fld rfl rfl rfl rfl rfl Tryd.off38_1 ?_
  refine X.st rfl rfl rfl rfl rfl rfl rfl Tryd.sz3 hb3 (by show 1 < 8; omega) ?_
  intro H4 hb3n hk4
  replace hb3 : H4[b3]? = some (.cells (ncel ⟨x.kind, 0, x.set, x.low, x.high⟩).toArray 38 (0, 0)) := hb3n
  replace hb1 := hk4.keep hb1 (by simp; omega)
  replace hkk := hkk.trans hk4 (by simp; exact hh3)
  refine X.done [(1, _), (2, _), (3, _)] ⟨rfl, rfl, rfl, trivial⟩ ?_
  refine N.then ?_
  refine E.seq ?_
  refine E.seq ?_
  refine E.region ?_
  refine X.fld rfl rfl rfl rfl rfl Tryd.off38_0 ?_
  refine X.ld rfl rfl rfl rfl Tryd.ag3 (hb1) (rfl) ?_
  refine X.done [(1, _), (2, _), (3, _), (7, _)] ⟨rfl, rfl, rfl, rfl, trivial⟩ ?_
  refine N.then ?_
  refine E.block ?_
  refine E.seq ?_
  refine E.region ?_
  refine X.eql rfl rfl rfl rfl rfl rfl ?_
  refine X.asg rfl rfl rfl rfl rfl ?_
  refine X.done [(1, _), (2, _), (3, _), (7, _), (8, _)] ⟨rfl, rfl, rfl, rfl, rfl, trivial⟩ ?_
  refine N.then ?_
  refine E.condD rfl (fun hc => ?_) (fun hc => ?_)
  · refine E.seq ?_
    refine E.region ?_
    refine X.build rfl rfl rfl rfl rfl build_z4 ?_
    refine X.fld rfl rfl rfl rfl rfl Tryd.off38_2 ?_
    refine X.stA rfl rfl rfl rfl rfl rfl (uv_one _) (sz24w ws_z4) hb3 (by show 2 + 4 ≤ 8; omega) ?_
    intro H5 hb3n hk5
    replace hb3 : H5[b3]? = some (.cells (ncel ⟨x.kind, 0, s0, x.low, x.high⟩).toArray 38 (0, 0)) := hb3n
    replace hb1 := hk5.keep hb1 (by simp; omega)
    replace hkk := hkk.trans hk5 (by simp; exact hh3)
    refine X.done [(1, _), (2, _), (3, _)] ⟨rfl, rfl, rfl, trivial⟩ ?_
    refine N.then ?_
    refine E.seq ?_
    refine E.region ?_
    refine X.fld rfl rfl rfl rfl rfl Tryd.off38_1 ?_
    refine X.ld rfl rfl rfl rfl Tryd.ag3 (hb1) (rfl) ?_
    refine X.eqlC rfl rfl rfl rfl rfl rfl (fun hc => ?_) (fun hc => ?_)
    · refine X.mv rfl rfl rfl rfl rfl ?_
      refine X.fld rfl rfl rfl rfl rfl Tryd.off38_2 ?_
      refine X.ldA rfl rfl rfl rfl Tryd.ag36 Tryd.sz36 (hb1) (uv4 x.set.2) (ncel_set x) ?_
      refine X.fld rfl rfl rfl rfl rfl Tryd.off38_2 ?_
      refine X.ldA rfl rfl rfl rfl Tryd.ag36 Tryd.sz36 (hb3) (uv4 s0.2) (ncel_set ⟨x.kind, 0, s0, x.low, x.high⟩) ?_
      refine X.neqW (a := x.set) (b := s0) rfl rfl rfl rfl rfl rfl ?_
      rcases Decidable.em (x.set ≠ s0) with hz | hz
      rw [decide_eq_true hz]
      rotate_left
      rw [decide_eq_false hz]
      rotate_left
      · refine X.pickT rfl rfl rfl rfl rfl rfl ?_
        refine X.mv rfl rfl rfl rfl rfl ?_
        refine X.ldA rfl rfl rfl rfl Tryd.ag38 Tryd.sz38 (hb3) (ncel_len _) zoff ?_
        refine X.build rfl rfl rfl rfl rfl (build_knd 1) ?_
        refine X.eqlN rfl rfl rfl rfl rfl rfl ?_
        refine X.pickT rfl rfl rfl rfl rfl rfl ?_
        refine X.asg rfl rfl rfl rfl rfl ?_
        refine X.done [(2, _)] ⟨rfl, trivial⟩ ?_
        refine N.then ?_
        refine E.ret ?_
        refine N.blkR ?_
        refine N.thenR ?_
        exact N.retH [_] ⟨_, _, rfl, rfl, rfl⟩ ⟨congrArg Value.bool (rt_of (by (try simp only [cntV, decide_eq_true_eq, Bool.false_eq_true, false_iff, true_iff, nd_eq, knd]); first | grind [rtP] | (unfold rtP; simp_all; omega))), hkk⟩
      · refine X.pickT rfl rfl rfl rfl rfl rfl ?_
        refine X.mv rfl rfl rfl rfl rfl ?_
        refine X.skip rfl rfl rfl ?_
        refine X.skip rfl rfl rfl ?_
        refine X.skip rfl rfl rfl ?_
        refine X.pickF rfl rfl rfl rfl rfl rfl ?_
        refine X.asg rfl rfl rfl rfl rfl ?_
        refine X.done [(2, _)] ⟨rfl, trivial⟩ ?_
        refine N.then ?_
        refine E.ret ?_
        refine N.blkR ?_
        refine N.thenR ?_
        exact N.retH [_] ⟨_, _, rfl, rfl, rfl⟩ ⟨congrArg Value.bool (rt_of (by (try simp only [cntV, decide_eq_true_eq, Bool.false_eq_true, false_iff, true_iff, nd_eq, knd]); first | grind [rtP] | (unfold rtP; simp_all; omega))), hkk⟩
    · refine X.mv rfl rfl rfl rfl rfl ?_
      refine X.skip rfl rfl rfl ?_
      refine X.skip rfl rfl rfl ?_
      refine X.skip rfl rfl rfl ?_
      refine X.skip rfl rfl rfl ?_
      refine X.skip rfl rfl rfl ?_
      refine X.pickF rfl rfl rfl rfl rfl rfl ?_
      refine X.mv rfl rfl rfl rfl rfl ?_
      refine X.skip rfl rfl rfl ?_
      refine X.skip rfl rfl rfl ?_
      refine X.skip rfl rfl rfl ?_
      refine X.pickF rfl rfl rfl rfl rfl rfl ?_
      refine X.asg rfl rfl rfl rfl rfl ?_
      refine X.done [(2, _)] ⟨rfl, trivial⟩ ?_
      refine N.then ?_
      refine E.ret ?_
      refine N.blkR ?_
      refine N.thenR ?_
      exact N.retH [_] ⟨_, _, rfl, rfl, rfl⟩ ⟨congrArg Value.bool (rt_of (by (try simp only [cntV, decide_eq_true_eq, Bool.false_eq_true, false_iff, true_iff, nd_eq, knd]); first | grind [rtP] | (unfold rtP; simp_all; omega))), hkk⟩
  · refine E.seq ?_
    refine E.region ?_
    refine X.eql rfl rfl rfl rfl rfl rfl ?_
    refine X.asg rfl rfl rfl rfl rfl ?_
    refine X.done [(1, _), (2, _), (3, _), (7, _), (27, _)] ⟨rfl, rfl, rfl, rfl, rfl, trivial⟩ ?_
    refine N.then ?_
    refine E.condD rfl (fun hc => ?_) (fun hc => ?_)
    · refine E.seq ?_
      refine E.region ?_
      refine X.ldA rfl rfl rfl rfl Tryd.ag38 Tryd.sz38 (hb1) (ncel_len _) zoff ?_
      refine X.build rfl rfl rfl rfl rfl (build_knd 2) ?_
      refine X.eqlN rfl rfl rfl rfl rfl rfl ?_
      refine X.asg rfl rfl rfl rfl rfl ?_
      refine X.done [(2, _)] ⟨rfl, trivial⟩ ?_
      refine N.then ?_
      refine E.ret ?_
      refine N.blkR ?_
      refine N.thenR ?_
      exact N.retH [_] ⟨_, _, rfl, rfl, rfl⟩ ⟨congrArg Value.bool (rt_of (by (try simp only [cntV, decide_eq_true_eq, Bool.false_eq_true, false_iff, true_iff, nd_eq, knd]); first | grind [rtP] | (unfold rtP; simp_all; omega))), hkk⟩
    · refine E.seq ?_
      refine E.seq ?_
      refine E.region ?_
      refine X.eql rfl rfl rfl rfl rfl rfl ?_
      rcases Decidable.em (x.kind = 3) with hz3 | hz3
      rw [decide_eq_true hz3]
      rotate_left
      rw [decide_eq_false hz3]
      rotate_left
      · refine X.asg rfl rfl rfl rfl rfl ?_
        refine X.done [(1, _), (2, _), (3, _), (7, _), (32, _)] ⟨rfl, rfl, rfl, rfl, rfl, trivial⟩ ?_
        refine N.then ?_
        refine E.condT rfl ?_
        refine E.skip ?_
        refine N.then ?_
        refine E.condT rfl ?_
        refine E.seq ?_
        refine E.region ?_
        refine X.fld rfl rfl rfl rfl rfl Tryd.off38_1 ?_
        refine X.ld rfl rfl rfl rfl Tryd.ag3 (hb1) (rfl) ?_
        refine X.geqC rfl rfl rfl rfl rfl rfl (fun hc => ?_) (fun hc => ?_)
        · refine X.mv rfl rfl rfl rfl rfl ?_
          refine X.ldA rfl rfl rfl rfl Tryd.ag38 Tryd.sz38 (hb3) (ncel_len _) zoff ?_
          refine X.fld rfl rfl rfl rfl rfl Tryd.off38_0 ?_
          refine X.ld rfl rfl rfl rfl Tryd.ag3 (hb1) (rfl) ?_
          refine X.build rfl rfl rfl rfl rfl (build_knd _) ?_
          refine X.eqlN rfl rfl rfl rfl rfl rfl ?_
          refine X.pickT rfl rfl rfl rfl rfl rfl ?_
          refine X.asg rfl rfl rfl rfl rfl ?_
          refine X.done [(2, _)] ⟨rfl, trivial⟩ ?_
          refine N.then ?_
          refine E.ret ?_
          refine N.blkR ?_
          refine N.thenR ?_
          exact N.retH [_] ⟨_, _, rfl, rfl, rfl⟩ ⟨congrArg Value.bool (rt_of (by (try simp only [cntV, decide_eq_true_eq, Bool.false_eq_true, false_iff, true_iff, nd_eq, knd]); first | grind [rtP] | (unfold rtP; simp_all; omega))), hkk⟩
        · refine X.mv rfl rfl rfl rfl rfl ?_
          refine X.skip rfl rfl rfl ?_
          refine X.skip rfl rfl rfl ?_
          refine X.skip rfl rfl rfl ?_
          refine X.skip rfl rfl rfl ?_
          refine X.skip rfl rfl rfl ?_
          refine X.pickF rfl rfl rfl rfl rfl rfl ?_
          refine X.asg rfl rfl rfl rfl rfl ?_
          refine X.done [(2, _)] ⟨rfl, trivial⟩ ?_
          refine N.then ?_
          refine E.ret ?_
          refine N.blkR ?_
          refine N.thenR ?_
          exact N.retH [_] ⟨_, _, rfl, rfl, rfl⟩ ⟨congrArg Value.bool (rt_of (by (try simp only [cntV, decide_eq_true_eq, Bool.false_eq_true, false_iff, true_iff, nd_eq, knd]); first | grind [rtP] | (unfold rtP; simp_all; omega))), hkk⟩
      · refine X.asg rfl rfl rfl rfl rfl ?_
        refine X.done [(1, _), (2, _), (3, _), (7, _), (32, _)] ⟨rfl, rfl, rfl, rfl, rfl, trivial⟩ ?_
        refine N.then ?_
        refine E.condF rfl ?_
        refine E.region ?_
        refine X.eql rfl rfl rfl rfl rfl rfl ?_
        rcases Decidable.em (x.kind = 4) with hz4 | hz4
        rw [decide_eq_true hz4]
        rotate_left
        rw [decide_eq_false hz4]
        rotate_left
        · refine X.asg rfl rfl rfl rfl rfl ?_
          refine X.done [(1, _), (2, _), (3, _), (7, _), (32, _)] ⟨rfl, rfl, rfl, rfl, rfl, trivial⟩ ?_
          refine N.then ?_
          refine E.condT rfl ?_
          refine E.seq ?_
          refine E.region ?_
          refine X.fld rfl rfl rfl rfl rfl Tryd.off38_1 ?_
          refine X.ld rfl rfl rfl rfl Tryd.ag3 (hb1) (rfl) ?_
          refine X.geqC rfl rfl rfl rfl rfl rfl (fun hc => ?_) (fun hc => ?_)
          · refine X.mv rfl rfl rfl rfl rfl ?_
            refine X.ldA rfl rfl rfl rfl Tryd.ag38 Tryd.sz38 (hb3) (ncel_len _) zoff ?_
            refine X.fld rfl rfl rfl rfl rfl Tryd.off38_0 ?_
            refine X.ld rfl rfl rfl rfl Tryd.ag3 (hb1) (rfl) ?_
            refine X.build rfl rfl rfl rfl rfl (build_knd _) ?_
            refine X.eqlN rfl rfl rfl rfl rfl rfl ?_
            refine X.pickT rfl rfl rfl rfl rfl rfl ?_
            refine X.asg rfl rfl rfl rfl rfl ?_
            refine X.done [(2, _)] ⟨rfl, trivial⟩ ?_
            refine N.then ?_
            refine E.ret ?_
            refine N.blkR ?_
            refine N.thenR ?_
            exact N.retH [_] ⟨_, _, rfl, rfl, rfl⟩ ⟨congrArg Value.bool (rt_of (by (try simp only [cntV, decide_eq_true_eq, Bool.false_eq_true, false_iff, true_iff, nd_eq, knd]); first | grind [rtP] | (unfold rtP; simp_all; omega))), hkk⟩
          · refine X.mv rfl rfl rfl rfl rfl ?_
            refine X.skip rfl rfl rfl ?_
            refine X.skip rfl rfl rfl ?_
            refine X.skip rfl rfl rfl ?_
            refine X.skip rfl rfl rfl ?_
            refine X.skip rfl rfl rfl ?_
            refine X.pickF rfl rfl rfl rfl rfl rfl ?_
            refine X.asg rfl rfl rfl rfl rfl ?_
            refine X.done [(2, _)] ⟨rfl, trivial⟩ ?_
            refine N.then ?_
            refine E.ret ?_
            refine N.blkR ?_
            refine N.thenR ?_
            exact N.retH [_] ⟨_, _, rfl, rfl, rfl⟩ ⟨congrArg Value.bool (rt_of (by (try simp only [cntV, decide_eq_true_eq, Bool.false_eq_true, false_iff, true_iff, nd_eq, knd]); first | grind [rtP] | (unfold rtP; simp_all; omega))), hkk⟩
        · refine X.asg rfl rfl rfl rfl rfl ?_
          refine X.done [(1, _), (2, _), (3, _), (7, _), (32, _)] ⟨rfl, rfl, rfl, rfl, rfl, trivial⟩ ?_
          refine N.then ?_
          refine E.condF rfl ?_
          refine E.seq ?_
          refine E.seq ?_
          refine E.region ?_
          refine X.eql rfl rfl rfl rfl rfl rfl ?_
          rcases Decidable.em (x.kind = 5) with hz5 | hz5
          rw [decide_eq_true hz5]
          rotate_left
          rw [decide_eq_false hz5]
          rotate_left
          · refine X.asg rfl rfl rfl rfl rfl ?_
            refine X.done [(1, _), (2, _), (3, _), (7, _), (45, _)] ⟨rfl, rfl, rfl, rfl, rfl, trivial⟩ ?_
            refine N.then ?_
            refine E.condT rfl ?_
            refine E.skip ?_
            refine N.then ?_
            refine E.condT rfl ?_
            refine E.seq ?_
            refine E.region ?_
            refine X.fld rfl rfl rfl rfl rfl Tryd.off38_1 ?_
            refine X.ld rfl rfl rfl rfl Tryd.ag3 (hb1) (rfl) ?_
            refine X.eqlC rfl rfl rfl rfl rfl rfl (fun hc => ?_) (fun hc => ?_)
            · refine X.mv rfl rfl rfl rfl rfl ?_
              refine X.ldA rfl rfl rfl rfl Tryd.ag38 Tryd.sz38 (hb3) (ncel_len _) zoff ?_
              refine X.fld rfl rfl rfl rfl rfl Tryd.off38_0 ?_
              refine X.ld rfl rfl rfl rfl Tryd.ag3 (hb1) (rfl) ?_
              refine X.build rfl rfl rfl rfl rfl (build_knd _) ?_
              refine X.eqlN rfl rfl rfl rfl rfl rfl ?_
              refine X.pickT rfl rfl rfl rfl rfl rfl ?_
              refine X.asg rfl rfl rfl rfl rfl ?_
              refine X.done [(2, _)] ⟨rfl, trivial⟩ ?_
              refine N.then ?_
              refine E.ret ?_
              refine N.blkR ?_
              refine N.thenR ?_
              exact N.retH [_] ⟨_, _, rfl, rfl, rfl⟩ ⟨congrArg Value.bool (rt_of (by (try simp only [cntV, decide_eq_true_eq, Bool.false_eq_true, false_iff, true_iff, nd_eq, knd]); first | grind [rtP] | (unfold rtP; simp_all; omega))), hkk⟩
            · refine X.mv rfl rfl rfl rfl rfl ?_
              refine X.skip rfl rfl rfl ?_
              refine X.skip rfl rfl rfl ?_
              refine X.skip rfl rfl rfl ?_
              refine X.skip rfl rfl rfl ?_
              refine X.skip rfl rfl rfl ?_
              refine X.pickF rfl rfl rfl rfl rfl rfl ?_
              refine X.asg rfl rfl rfl rfl rfl ?_
              refine X.done [(2, _)] ⟨rfl, trivial⟩ ?_
              refine N.then ?_
              refine E.ret ?_
              refine N.blkR ?_
              refine N.thenR ?_
              exact N.retH [_] ⟨_, _, rfl, rfl, rfl⟩ ⟨congrArg Value.bool (rt_of (by (try simp only [cntV, decide_eq_true_eq, Bool.false_eq_true, false_iff, true_iff, nd_eq, knd]); first | grind [rtP] | (unfold rtP; simp_all; omega))), hkk⟩
          · refine X.asg rfl rfl rfl rfl rfl ?_
            refine X.done [(1, _), (2, _), (3, _), (7, _), (45, _)] ⟨rfl, rfl, rfl, rfl, rfl, trivial⟩ ?_
            refine N.then ?_
            refine E.condF rfl ?_
            refine E.seq ?_
            refine E.region ?_
            refine X.eql rfl rfl rfl rfl rfl rfl ?_
            rcases Decidable.em (x.kind = 6) with hz6 | hz6
            rw [decide_eq_true hz6]
            rotate_left
            rw [decide_eq_false hz6]
            rotate_left
            · refine X.asg rfl rfl rfl rfl rfl ?_
              refine X.done [(1, _), (2, _), (3, _), (7, _), (45, _)] ⟨rfl, rfl, rfl, rfl, rfl, trivial⟩ ?_
              refine N.then ?_
              refine E.condT rfl ?_
              refine E.skip ?_
              refine N.then ?_
              refine E.condT rfl ?_
              refine E.seq ?_
              refine E.region ?_
              refine X.fld rfl rfl rfl rfl rfl Tryd.off38_1 ?_
              refine X.ld rfl rfl rfl rfl Tryd.ag3 (hb1) (rfl) ?_
              refine X.eqlC rfl rfl rfl rfl rfl rfl (fun hc => ?_) (fun hc => ?_)
              · refine X.mv rfl rfl rfl rfl rfl ?_
                refine X.ldA rfl rfl rfl rfl Tryd.ag38 Tryd.sz38 (hb3) (ncel_len _) zoff ?_
                refine X.fld rfl rfl rfl rfl rfl Tryd.off38_0 ?_
                refine X.ld rfl rfl rfl rfl Tryd.ag3 (hb1) (rfl) ?_
                refine X.build rfl rfl rfl rfl rfl (build_knd _) ?_
                refine X.eqlN rfl rfl rfl rfl rfl rfl ?_
                refine X.pickT rfl rfl rfl rfl rfl rfl ?_
                refine X.asg rfl rfl rfl rfl rfl ?_
                refine X.done [(2, _)] ⟨rfl, trivial⟩ ?_
                refine N.then ?_
                refine E.ret ?_
                refine N.blkR ?_
                refine N.thenR ?_
                exact N.retH [_] ⟨_, _, rfl, rfl, rfl⟩ ⟨congrArg Value.bool (rt_of (by (try simp only [cntV, decide_eq_true_eq, Bool.false_eq_true, false_iff, true_iff, nd_eq, knd]); first | grind [rtP] | (unfold rtP; simp_all; omega))), hkk⟩
              · refine X.mv rfl rfl rfl rfl rfl ?_
                refine X.skip rfl rfl rfl ?_
                refine X.skip rfl rfl rfl ?_
                refine X.skip rfl rfl rfl ?_
                refine X.skip rfl rfl rfl ?_
                refine X.skip rfl rfl rfl ?_
                refine X.pickF rfl rfl rfl rfl rfl rfl ?_
                refine X.asg rfl rfl rfl rfl rfl ?_
                refine X.done [(2, _)] ⟨rfl, trivial⟩ ?_
                refine N.then ?_
                refine E.ret ?_
                refine N.blkR ?_
                refine N.thenR ?_
                exact N.retH [_] ⟨_, _, rfl, rfl, rfl⟩ ⟨congrArg Value.bool (rt_of (by (try simp only [cntV, decide_eq_true_eq, Bool.false_eq_true, false_iff, true_iff, nd_eq, knd]); first | grind [rtP] | (unfold rtP; simp_all; omega))), hkk⟩
            · refine X.asg rfl rfl rfl rfl rfl ?_
              refine X.done [(1, _), (2, _), (3, _), (7, _), (45, _)] ⟨rfl, rfl, rfl, rfl, rfl, trivial⟩ ?_
              refine N.then ?_
              refine E.condF rfl ?_
              refine E.region ?_
              refine X.eql rfl rfl rfl rfl rfl rfl ?_
              rcases Decidable.em (x.kind = 7) with hz7 | hz7
              rw [decide_eq_true hz7]
              rotate_left
              rw [decide_eq_false hz7]
              rotate_left
              · refine X.asg rfl rfl rfl rfl rfl ?_
                refine X.done [(1, _), (2, _), (3, _), (7, _), (45, _)] ⟨rfl, rfl, rfl, rfl, rfl, trivial⟩ ?_
                refine N.then ?_
                refine E.condT rfl ?_
                refine E.seq ?_
                refine E.region ?_
                refine X.fld rfl rfl rfl rfl rfl Tryd.off38_1 ?_
                refine X.ld rfl rfl rfl rfl Tryd.ag3 (hb1) (rfl) ?_
                refine X.eqlC rfl rfl rfl rfl rfl rfl (fun hc => ?_) (fun hc => ?_)
                · refine X.mv rfl rfl rfl rfl rfl ?_
                  refine X.ldA rfl rfl rfl rfl Tryd.ag38 Tryd.sz38 (hb3) (ncel_len _) zoff ?_
                  refine X.fld rfl rfl rfl rfl rfl Tryd.off38_0 ?_
                  refine X.ld rfl rfl rfl rfl Tryd.ag3 (hb1) (rfl) ?_
                  refine X.build rfl rfl rfl rfl rfl (build_knd _) ?_
                  refine X.eqlN rfl rfl rfl rfl rfl rfl ?_
                  refine X.pickT rfl rfl rfl rfl rfl rfl ?_
                  refine X.asg rfl rfl rfl rfl rfl ?_
                  refine X.done [(2, _)] ⟨rfl, trivial⟩ ?_
                  refine N.then ?_
                  refine E.ret ?_
                  refine N.blkR ?_
                  refine N.thenR ?_
                  exact N.retH [_] ⟨_, _, rfl, rfl, rfl⟩ ⟨congrArg Value.bool (rt_of (by (try simp only [cntV, decide_eq_true_eq, Bool.false_eq_true, false_iff, true_iff, nd_eq, knd]); first | grind [rtP] | (unfold rtP; simp_all; omega))), hkk⟩
                · refine X.mv rfl rfl rfl rfl rfl ?_
                  refine X.skip rfl rfl rfl ?_
                  refine X.skip rfl rfl rfl ?_
                  refine X.skip rfl rfl rfl ?_
                  refine X.skip rfl rfl rfl ?_
                  refine X.skip rfl rfl rfl ?_
                  refine X.pickF rfl rfl rfl rfl rfl rfl ?_
                  refine X.asg rfl rfl rfl rfl rfl ?_
                  refine X.done [(2, _)] ⟨rfl, trivial⟩ ?_
                  refine N.then ?_
                  refine E.ret ?_
                  refine N.blkR ?_
                  refine N.thenR ?_
                  exact N.retH [_] ⟨_, _, rfl, rfl, rfl⟩ ⟨congrArg Value.bool (rt_of (by (try simp only [cntV, decide_eq_true_eq, Bool.false_eq_true, false_iff, true_iff, nd_eq, knd]); first | grind [rtP] | (unfold rtP; simp_all; omega))), hkk⟩
              · refine X.asg rfl rfl rfl rfl rfl ?_
                refine X.done [(1, _), (2, _), (3, _), (7, _), (45, _)] ⟨rfl, rfl, rfl, rfl, rfl, trivial⟩ ?_
                refine N.then ?_
                refine E.condF rfl ?_
                refine E.seq ?_
                refine E.region ?_
                refine X.eql rfl rfl rfl rfl rfl rfl ?_
                refine X.asg rfl rfl rfl rfl rfl ?_
                refine X.done [(1, _), (2, _), (59, _)] ⟨rfl, rfl, rfl, trivial⟩ ?_
                refine N.then ?_
                refine E.condD rfl (fun hc => ?_) (fun hc => ?_)
                · refine E.seq ?_
                  refine E.region ?_
                  refine X.fld rfl rfl rfl rfl rfl Tryd.off38_1 ?_
                  refine X.ld rfl rfl rfl rfl Tryd.ag3 (hb1) (rfl) ?_
                  refine X.eqlC rfl rfl rfl rfl rfl rfl (fun hc => ?_) (fun hc => ?_)
                  · refine X.mv rfl rfl rfl rfl rfl ?_
                    refine X.fld rfl rfl rfl rfl rfl Tryd.off38_2 ?_
                    refine X.ldA rfl rfl rfl rfl Tryd.ag36 Tryd.sz36 (hb1) (uv4 x.set.2) (ncel_set x) ?_
                    refine X.build rfl rfl rfl rfl rfl build_z4 ?_
                    refine X.eqlW' (a := x.set) (b := s0) rfl rfl rfl rfl rfl rfl ?_
                    rcases Decidable.em (x.set = s0) with hz | hz
                    rw [decide_eq_true hz]
                    rotate_left
                    rw [decide_eq_false hz]
                    rotate_left
                    · refine X.pickT rfl rfl rfl rfl rfl rfl ?_
                      refine X.mv rfl rfl rfl rfl rfl ?_
                      refine X.fld rfl rfl rfl rfl rfl Tryd.off38_3 ?_
                      refine X.ld rfl rfl rfl rfl Tryd.ag3 (hb1) (rfl) ?_
                      refine X.fld rfl rfl rfl rfl rfl Tryd.off38_4 ?_
                      refine X.ld rfl rfl rfl rfl Tryd.ag3 (hb1) (rfl) ?_
                      refine X.call rfl rfl rfl rfl rfl Tryd.cl27 (counts_ct _ _ _) ?_
                      rintro _ Hx ⟨rfl, e⟩
                      obtain rfl := e.symm
                      refine X.pickT rfl rfl rfl rfl rfl rfl ?_
                      refine X.asg rfl rfl rfl rfl rfl ?_
                      refine X.done [(2, _)] ⟨rfl, trivial⟩ ?_
                      refine N.then ?_
                      refine E.ret ?_
                      refine N.blkR ?_
                      refine N.thenR ?_
                      exact N.retH [_] ⟨_, _, rfl, rfl, rfl⟩ ⟨congrArg Value.bool (rt_of (by (try simp only [cntV, decide_eq_true_eq, Bool.false_eq_true, false_iff, true_iff, nd_eq, knd]); first | grind [rtP] | (unfold rtP; simp_all; omega))), hkk⟩
                    · refine X.pickT rfl rfl rfl rfl rfl rfl ?_
                      refine X.mv rfl rfl rfl rfl rfl ?_
                      refine X.skip rfl rfl rfl ?_
                      refine X.skip rfl rfl rfl ?_
                      refine X.skip rfl rfl rfl ?_
                      refine X.skip rfl rfl rfl ?_
                      refine X.skip rfl rfl rfl ?_
                      refine X.pickF rfl rfl rfl rfl rfl rfl ?_
                      refine X.asg rfl rfl rfl rfl rfl ?_
                      refine X.done [(2, _)] ⟨rfl, trivial⟩ ?_
                      refine N.then ?_
                      refine E.ret ?_
                      refine N.blkR ?_
                      refine N.thenR ?_
                      exact N.retH [_] ⟨_, _, rfl, rfl, rfl⟩ ⟨congrArg Value.bool (rt_of (by (try simp only [cntV, decide_eq_true_eq, Bool.false_eq_true, false_iff, true_iff, nd_eq, knd]); first | grind [rtP] | (unfold rtP; simp_all; omega))), hkk⟩
                  · refine X.mv rfl rfl rfl rfl rfl ?_
                    refine X.skip rfl rfl rfl ?_
                    refine X.skip rfl rfl rfl ?_
                    refine X.skip rfl rfl rfl ?_
                    refine X.skip rfl rfl rfl ?_
                    refine X.pickF rfl rfl rfl rfl rfl rfl ?_
                    refine X.mv rfl rfl rfl rfl rfl ?_
                    refine X.skip rfl rfl rfl ?_
                    refine X.skip rfl rfl rfl ?_
                    refine X.skip rfl rfl rfl ?_
                    refine X.skip rfl rfl rfl ?_
                    refine X.skip rfl rfl rfl ?_
                    refine X.pickF rfl rfl rfl rfl rfl rfl ?_
                    refine X.asg rfl rfl rfl rfl rfl ?_
                    refine X.done [(2, _)] ⟨rfl, trivial⟩ ?_
                    refine N.then ?_
                    refine E.ret ?_
                    refine N.blkR ?_
                    refine N.thenR ?_
                    exact N.retH [_] ⟨_, _, rfl, rfl, rfl⟩ ⟨congrArg Value.bool (rt_of (by (try simp only [cntV, decide_eq_true_eq, Bool.false_eq_true, false_iff, true_iff, nd_eq, knd]); first | grind [rtP] | (unfold rtP; simp_all; omega))), hkk⟩
                · refine E.skip ?_
                  refine N.blk ?_
                  refine N.then ?_
                  refine E.seq ?_
                  refine E.region ?_
                  refine X.asg rfl rfl rfl rfl rfl ?_
                  refine X.done [(2, _)] ⟨rfl, trivial⟩ ?_
                  refine N.then ?_
                  refine E.ret ?_
                  exact N.retH [_] ⟨_, _, rfl, rfl, rfl⟩ ⟨congrArg Value.bool (rt_of (by (try simp only [cntV, decide_eq_true_eq, Bool.false_eq_true, false_iff, true_iff, nd_eq, knd]); first | grind [rtP] | (unfold rtP; simp_all; omega))), hkk⟩

end Go.Proofs.YtcandjdomeompaaDoor