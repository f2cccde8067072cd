/- Two sets are the same if their words are. -/
import Derived.Test.YtcandjdomeompaaDoorZ4
import Derived.Laws.StructEq
namespace Go.Proofs.YtcandjdomeompaaDoor
open Go.SX Go.Chr
set_option linter.unusedVariables false
theorem run_part1 {P : Program} {e : TypeId} {cs : Array Value} {o : Nat} {v : Value} (ha : isAggB P e = some false) (h : cs[o]? = some v) (w : World) : (part e cs o).run P w = .ok v w := by
  simp [part, run_isAgg ha, h]
theorem run_eq4 {P : Program} {t e : TypeId} (ht : P.underlying t = some (.array 4 e)) (he : P.underlying e = some (.int .u64)) (ha : isAggB P e = some false) (hs : (P.info? e).map (·.size) = some 1) (d : Nat) (a0 a1 a2 a3 b0 b1 b2 b3 : Int) (w : World) :
    (Op.equalIn (d + 1 + 1) t (.agg #[.int .u64 a0, .int .u64 a1, .int .u64 a2, .int .u64 a3]) (.agg #[.int .u64 b0, .int .u64 b1, .int .u64 b2, .int .u64 b3])).run P w = .ok (decide (a0 = b0 ∧ a1 = b1 ∧ a2 = b2 ∧ a3 = b3)) w := by
  obtain ⟨inf, hi, hz⟩ := Option.map_eq_some_iff.1 hs
  have hsz : (sizeOf e).run P w = .ok 1 w := by simp [sizeOf, typeInfo, hi, hz]
  have h0 : ∀ x0 x1 x2 x3 : Value, (part e #[x0, x1, x2, x3] (0 * 1)).run P w = .ok x0 w := fun x0 x1 x2 x3 => run_part1 ha rfl w
  have h1 : ∀ x0 x1 x2 x3 : Value, (part e #[x0, x1, x2, x3] ((0 + 1) * 1)).run P w = .ok x1 w := fun x0 x1 x2 x3 => run_part1 ha rfl w
  have h2 : ∀ x0 x1 x2 x3 : Value, (part e #[x0, x1, x2, x3] ((0 + 1 + 1) * 1)).run P w = .ok x2 w := fun x0 x1 x2 x3 => run_part1 ha rfl w
  have h3 : ∀ x0 x1 x2 x3 : Value, (part e #[x0, x1, x2, x3] ((0 + 1 + 1 + 1) * 1)).run P w = .ok x3 w := fun x0 x1 x2 x3 => run_part1 ha rfl w
  have hE : ∀ a b : Int, (Op.equalIn (d + 1) e (.int .u64 a) (.int .u64 b)).run P w = .ok (a == b) w := fun a b => run_equalIn_int w d e _ _ a b he
  rw [Op.equalIn]
  simp only [Sem.run_bind, run_underlying ht, Result.andThen_ok, hsz]
  simp only [Std.Legacy.Range.forIn_eq_forIn_range', Std.Legacy.Range.size, show (4 - 0 + 1 - 1) / 1 = 4 from rfl, List.range', List.forIn_cons, List.forIn_nil, Sem.run_bind, h0, hE, Result.andThen_ok]
  have no : ∀ a b : Int, a ≠ b → (a == b) = false := fun a b h => by simpa using h
  by_cases e0 : a0 = b0
  · subst e0
    simp only [beq_self_eq_true, Bool.not_true, Bool.false_eq_true, if_false, Sem.run_pure, Result.andThen_ok, Sem.run_bind, h1, hE]
    by_cases e1 : a1 = b1
    · subst e1
      simp only [beq_self_eq_true, Bool.not_true, Bool.false_eq_true, if_false, Sem.run_pure, Result.andThen_ok, Sem.run_bind, h2, hE]
      by_cases e2 : a2 = b2
      · subst e2
        simp only [beq_self_eq_true, Bool.not_true, Bool.false_eq_true, if_false, Sem.run_pure, Result.andThen_ok, Sem.run_bind, h3, hE]
        by_cases e3 : a3 = b3
        · subst e3
          simp
        · simp [no _ _ e3, e3]
      · simp [no _ _ e2, e2]
    · simp [no _ _ e1, e1]
  · simp [no _ _ e0, e0]
section
variable {P : Program} {n : Nat} {l : List Oper} {F : Heap → Prop} {K : Act → Heap → Prop} {r : List (Nat × Kd)} {env : Env} {H : Heap} {i : Nat} {k : Kd}
variable {d : Option Tmp} {ty : TypeId} {pos : String} {aft : Array Edge} {g : Option (Nat × Bool)} {x y z : Operand} {t t' : TypeId}
theorem X.eqlW {xs ys : List Nat} {e : TypeId} (ho : nth l i = some ⟨d, .binOp .eql t x y t', ty, pos, aft, g⟩) (hw : wantE l env ⟨d, .binOp .eql t x y t', ty, pos, aft, g⟩ = some true) (hd : dOK n d = true) (hk : noMk k = true)
    (hx : opv env x = some (agg4 xs)) (hy : opv env y = some (agg4 ys)) (ht : P.underlying t = some (.array 4 e)) (he : P.underlying e = some (.int .u64)) (ha : isAggB P e = some false) (hs : (P.info? e).map (·.size) = some 1)
    (hm : P.eqGuardType P.depth t = false) (hxs : xs.length = 4) (hys : ys.length = 4) (h : X P n l F K r (setd d (.bool (decide (xs = ys))) env) H) : X P n l F K ((i, k) :: r) env H := by
  refine X.pure _ ho hw hd hk (fun ρ w hρ => ?_) h
  match xs, ys, hxs, hys with
  | [a0, a1, a2, a3], [b0, b1, b2, b3], _, _ =>
    have h4 := run_eq4 ht he ha hs 9998 a0 a1 a2 a3 b0 b1 b2 b3 w
    have e4 : decide ((a0 : Int) = b0 ∧ (a1 : Int) = b1 ∧ (a2 : Int) = b2 ∧ (a3 : Int) = b3) = decide ([a0, a1, a2, a3] = [b0, b1, b2, b3]) := by
      apply dec_eq
      simp only [List.cons.injEq, and_true]; omega
    rw [e4] at h4
    have hg := run_eqGuard_agg w .eql t x y (uv [a0, a1, a2, a3]).toArray (uv [b0, b1, b2, b3]).toArray hm
    have hr := run_eql_struct (P := P) w t (uv [a0, a1, a2, a3]).toArray (uv [b0, b1, b2, b3]).toArray
    have hr2 : (binOp .eql t (agg4 [a0, a1, a2, a3]) (agg4 [b0, b1, b2, b3])).run P w = .ok (.bool (decide ([a0, a1, a2, a3] = [b0, b1, b2, b3]))) w := by
      rw [hr]; exact congrArg (Result.andThen · _) h4
    simp only [execOp, hρ _ _ hx, hρ _ _ hy, Sem.run_bind, hg, Result.andThen_ok, hr2, Sem.run_pure]
theorem X.eqlWT {xs ys : List Nat} {e : TypeId} (ho : nth l i = some ⟨d, .binOp .eql t x y t', ty, pos, aft, g⟩) (hw : wantE l env ⟨d, .binOp .eql t x y t', ty, pos, aft, g⟩ = some true) (hd : dOK n d = true) (hk : noMk k = true)
    (hx : opv env x = some (agg4 xs)) (hy : opv env y = some (agg4 ys)) (ht : P.underlying t = some (.array 4 e)) (he : P.underlying e = some (.int .u64)) (ha : isAggB P e = some false) (hs : (P.info? e).map (·.size) = some 1)
    (hm : P.eqGuardType P.depth t = false) (hxs : xs.length = 4) (hys : ys.length = 4) (he2 : xs = ys) (h : X P n l F K r (setd d (.bool true) env) H) : X P n l F K ((i, k) :: r) env H :=
  X.eqlW ho hw hd hk hx hy ht he ha hs hm hxs hys (by rw [decide_eq_true he2]; exact h)
end
end Go.Proofs.YtcandjdomeompaaDoor
