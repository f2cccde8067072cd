/- The operations' laws: numbers, tests, moves. -/
import Derived.Test.YtcandjdomeompaaDoorC
namespace Go.SX
open Go

theorem run_equal_bool (P : Program) {t : TypeId} (hu : P.underlying t = some .bool) (p q : Bool) (w : World) : (Op.equal t (.bool p) (.bool q)).run P w = .ok (p == q) w := by
  unfold Op.equal Op.maxDepth
  rw [show (10000 : Nat) = 9999 + 1 from rfl, Op.equalIn]
  simp [run_underlying hu]
theorem run_equal_ptr (P : Program) {t e : TypeId} (hu : P.underlying t = some (.pointer e)) (a : Option Addr) (w : World) : (Op.equal t (.pointer a) (.pointer none)).run P w = .ok a.isNone w := by
  unfold Op.equal Op.maxDepth
  rw [show (10000 : Nat) = 9999 + 1 from rfl, Op.equalIn]
  cases a <;> simp [run_underlying hu]
theorem run_eqGuard_bool (P : Program) (op : BinOp) (t : TypeId) (x y : Operand) (p q : Bool) (w : World) : (eqGuard op t x y (.bool p) (.bool q)).run P w = .ok () w := by
  cases op <;> simp [eqGuard]

section
variable {P : Program} {n : Nat} {l : List Oper} {F : Heap → Prop} {K : Act → Heap → Prop} {r : List (Nat × Kd)} {env : Env} {H : Heap} {i : Nat} {k : Kd}
variable {d : Option Tmp} {ty : TypeId} {pos : String} {aft : Array Edge} {g : Option (Nat × Bool)} {x y c a b : Operand} {t t' : TypeId}


theorem X.mv {v : Value} (ho : nth l i = some ⟨d, .move x, ty, pos, aft, g⟩) (hw : wantE l env ⟨d, .move x, ty, pos, aft, g⟩ = some true) (hd : dOK n d = true) (hk : noMk k = true)
    (hx : opv env x = some v) (h : X P n l F K r (setd d (v) env) H) : X P n l F K ((i, k) :: r) env H :=
  X.pure _ ho hw hd hk (fun ρ w hρ => by simp [execOp, hρ _ _ hx]) h

theorem X.asg {v : Value} (ho : nth l i = some ⟨d, .assign x, ty, pos, aft, g⟩) (hw : wantE l env ⟨d, .assign x, ty, pos, aft, g⟩ = some true) (hd : dOK n d = true) (hk : noMk k = true)
    (hx : opv env x = some v) (h : X P n l F K r (setd d (v) env) H) : X P n l F K ((i, k) :: r) env H :=
  X.pure _ ho hw hd hk (fun ρ w hρ => by simp [execOp, hρ _ _ hx]) h

theorem X.pickT {v : Value} (ho : nth l i = some ⟨d, .pick c a b, ty, pos, aft, g⟩) (hw : wantE l env ⟨d, .pick c a b, ty, pos, aft, g⟩ = some true) (hd : dOK n d = true) (hk : noMk k = true)
    (hc : opv env c = some (.bool true)) (ha : opv env a = some v) (h : X P n l F K r (setd d (v) env) H) : X P n l F K ((i, k) :: r) env H :=
  X.pure _ ho hw hd hk (fun ρ w hρ => by simp [execOp, hρ _ _ hc, hρ _ _ ha, asBool]) h

theorem X.pickF {v : Value} (ho : nth l i = some ⟨d, .pick c a b, ty, pos, aft, g⟩) (hw : wantE l env ⟨d, .pick c a b, ty, pos, aft, g⟩ = some true) (hd : dOK n d = true) (hk : noMk k = true)
    (hc : opv env c = some (.bool false)) (hb : opv env b = some v) (h : X P n l F K r (setd d (v) env) H) : X P n l F K ((i, k) :: r) env H :=
  X.pure _ ho hw hd hk (fun ρ w hρ => by simp [execOp, hρ _ _ hc, hρ _ _ hb, asBool]) h

theorem X.notB {p : Bool} (ho : nth l i = some ⟨d, .unOp .not t x, ty, pos, aft, g⟩) (hw : wantE l env ⟨d, .unOp .not t x, ty, pos, aft, g⟩ = some true) (hd : dOK n d = true) (hk : noMk k = true)
    (hx : opv env x = some (.bool p)) (h : X P n l F K r (setd d (.bool (!p)) env) H) : X P n l F K ((i, k) :: r) env H :=
  X.pure _ ho hw hd hk (fun ρ w hρ => by simp [execOp, hρ _ _ hx, Op.unary]) h

theorem X.notT  (ho : nth l i = some ⟨d, .unOp .not t x, ty, pos, aft, g⟩) (hw : wantE l env ⟨d, .unOp .not t x, ty, pos, aft, g⟩ = some true) (hd : dOK n d = true) (hk : noMk k = true)
    (hx : opv env x = some (.bool true)) (h : X P n l F K r (setd d (.bool false) env) H) : X P n l F K ((i, k) :: r) env H :=
  X.pure _ ho hw hd hk (fun ρ w hρ => by simp [execOp, hρ _ _ hx, Op.unary]) h

theorem X.notF  (ho : nth l i = some ⟨d, .unOp .not t x, ty, pos, aft, g⟩) (hw : wantE l env ⟨d, .unOp .not t x, ty, pos, aft, g⟩ = some true) (hd : dOK n d = true) (hk : noMk k = true)
    (hx : opv env x = some (.bool false)) (h : X P n l F K r (setd d (.bool true) env) H) : X P n l F K ((i, k) :: r) env H :=
  X.pure _ ho hw hd hk (fun ρ w hρ => by simp [execOp, hρ _ _ hx, Op.unary]) h

theorem X.notD {p : Prop} [Decidable p] (ho : nth l i = some ⟨d, .unOp .not t x, ty, pos, aft, g⟩) (hw : wantE l env ⟨d, .unOp .not t x, ty, pos, aft, g⟩ = some true) (hd : dOK n d = true) (hk : noMk k = true)
    (hx : opv env x = some (.bool (decide p))) (h : X P n l F K r (setd d (.bool (decide (¬ p))) env) H) : X P n l F K ((i, k) :: r) env H :=
  X.pure _ ho hw hd hk (fun ρ w hρ => by simp [execOp, hρ _ _ hx, Op.unary]) h

theorem X.nilP {ad : Addr} (ho : nth l i = some ⟨d, .nilCheck x, ty, pos, aft, g⟩) (hw : wantE l env ⟨d, .nilCheck x, ty, pos, aft, g⟩ = some true) (hd : dOK n d = true) (hk : noMk k = true)
    (hx : opv env x = some (.pointer (some ad))) (h : X P n l F K r (setd d (.pointer (some ad)) env) H) : X P n l F K ((i, k) :: r) env H :=
  X.pure _ ho hw hd hk (fun ρ w hρ => by simp [execOp, hρ _ _ hx]) h

theorem X.nilFn {f : FuncId} {fs cs : Array Value} (ho : nth l i = some ⟨d, .nilCheck x, ty, pos, aft, g⟩) (hw : wantE l env ⟨d, .nilCheck x, ty, pos, aft, g⟩ = some true) (hd : dOK n d = true) (hk : noMk k = true)
    (hx : opv env x = some (.func (.func f) fs cs)) (h : X P n l F K r (setd d (.func (.func f) fs cs) env) H) : X P n l F K ((i, k) :: r) env H :=
  X.pure _ ho hw hd hk (fun ρ w hρ => by simp [execOp, hρ _ _ hx]) h

theorem X.add {p q : Int} (ho : nth l i = some ⟨d, .binOp .add t x y t', ty, pos, aft, g⟩) (hw : wantE l env ⟨d, .binOp .add t x y t', ty, pos, aft, g⟩ = some true) (hd : dOK n d = true) (hk : noMk k = true)
    (hx : opv env x = some (.int .i64 p)) (hy : opv env y = some (.int .i64 q)) (hr : -9223372036854775808 ≤ p + q ∧ p + q ≤ 9223372036854775807) (h : X P n l F K r (setd d (.int .i64 (p + q)) env) H) : X P n l F K ((i, k) :: r) env H :=
  X.pure _ ho hw hd hk (fun ρ w hρ => by simp [execOp, hρ _ _ hx, hρ _ _ hy, eqGuard, binOp, Op.intArith, IntWalk.i64_in _ hr]) h

theorem X.addW {q' : IntKind} {p q : Int} (ho : nth l i = some ⟨d, .binOp .add t x y t', ty, pos, aft, g⟩) (hw : wantE l env ⟨d, .binOp .add t x y t', ty, pos, aft, g⟩ = some true) (hd : dOK n d = true) (hk : noMk k = true)
    (hx : opv env x = some (.int q' p)) (hy : opv env y = some (.int q' q)) (h : X P n l F K r (setd d (.int q' (q'.wrap (p + q))) env) H) : X P n l F K ((i, k) :: r) env H :=
  X.pure _ ho hw hd hk (fun ρ w hρ => by simp [execOp, hρ _ _ hx, hρ _ _ hy, eqGuard, binOp, Op.intArith]) h

theorem X.sb {p q : Int} (ho : nth l i = some ⟨d, .binOp .sub t x y t', ty, pos, aft, g⟩) (hw : wantE l env ⟨d, .binOp .sub t x y t', ty, pos, aft, g⟩ = some true) (hd : dOK n d = true) (hk : noMk k = true)
    (hx : opv env x = some (.int .i64 p)) (hy : opv env y = some (.int .i64 q)) (hr : -9223372036854775808 ≤ p - q ∧ p - q ≤ 9223372036854775807) (h : X P n l F K r (setd d (.int .i64 (p - q)) env) H) : X P n l F K ((i, k) :: r) env H :=
  X.pure _ ho hw hd hk (fun ρ w hρ => by simp [execOp, hρ _ _ hx, hρ _ _ hy, eqGuard, binOp, Op.intArith, IntWalk.i64_in _ hr]) h

theorem X.sbW {q' : IntKind} {p q : Int} (ho : nth l i = some ⟨d, .binOp .sub t x y t', ty, pos, aft, g⟩) (hw : wantE l env ⟨d, .binOp .sub t x y t', ty, pos, aft, g⟩ = some true) (hd : dOK n d = true) (hk : noMk k = true)
    (hx : opv env x = some (.int q' p)) (hy : opv env y = some (.int q' q)) (h : X P n l F K r (setd d (.int q' (q'.wrap (p - q))) env) H) : X P n l F K ((i, k) :: r) env H :=
  X.pure _ ho hw hd hk (fun ρ w hρ => by simp [execOp, hρ _ _ hx, hρ _ _ hy, eqGuard, binOp, Op.intArith]) h

theorem X.mul {p q : Int} (ho : nth l i = some ⟨d, .binOp .mul t x y t', ty, pos, aft, g⟩) (hw : wantE l env ⟨d, .binOp .mul t x y t', ty, pos, aft, g⟩ = some true) (hd : dOK n d = true) (hk : noMk k = true)
    (hx : opv env x = some (.int .i64 p)) (hy : opv env y = some (.int .i64 q)) (hr : -9223372036854775808 ≤ p * q ∧ p * q ≤ 9223372036854775807) (h : X P n l F K r (setd d (.int .i64 (p * q)) env) H) : X P n l F K ((i, k) :: r) env H :=
  X.pure _ ho hw hd hk (fun ρ w hρ => by simp [execOp, hρ _ _ hx, hρ _ _ hy, eqGuard, binOp, Op.intArith, IntWalk.i64_in _ hr]) h

theorem X.mulW {q' : IntKind} {p q : Int} (ho : nth l i = some ⟨d, .binOp .mul t x y t', ty, pos, aft, g⟩) (hw : wantE l env ⟨d, .binOp .mul t x y t', ty, pos, aft, g⟩ = some true) (hd : dOK n d = true) (hk : noMk k = true)
    (hx : opv env x = some (.int q' p)) (hy : opv env y = some (.int q' q)) (h : X P n l F K r (setd d (.int q' (q'.wrap (p * q))) env) H) : X P n l F K ((i, k) :: r) env H :=
  X.pure _ ho hw hd hk (fun ρ w hρ => by simp [execOp, hρ _ _ hx, hρ _ _ hy, eqGuard, binOp, Op.intArith]) h

theorem X.quo {p q : Int} (ho : nth l i = some ⟨d, .binOp .quo t x y t', ty, pos, aft, g⟩) (hw : wantE l env ⟨d, .binOp .quo t x y t', ty, pos, aft, g⟩ = some true) (hd : dOK n d = true) (hk : noMk k = true)
    (hx : opv env x = some (.int .i64 p)) (hy : opv env y = some (.int .i64 q)) (hr : 0 ≤ p ∧ p ≤ 9223372036854775807 ∧ 1 ≤ q) (h : X P n l F K r (setd d (.int .i64 (p / q)) env) H) : X P n l F K ((i, k) :: r) env H :=
  X.pure _ ho hw hd hk (fun ρ w hρ => by have h0 : q ≠ 0 := (by omega); simp [execOp, hρ _ _ hx, hρ _ _ hy, eqGuard, binOp, Op.intDiv, h0, IntWalk.i64_quo p q hr]) h

theorem X.rem {q' : IntKind} {p q : Int} (ho : nth l i = some ⟨d, .binOp .rem t x y t', ty, pos, aft, g⟩) (hw : wantE l env ⟨d, .binOp .rem t x y t', ty, pos, aft, g⟩ = some true) (hd : dOK n d = true) (hk : noMk k = true)
    (hx : opv env x = some (.int q' p)) (hy : opv env y = some (.int q' q)) (hr : 0 ≤ p ∧ 1 ≤ q) (h : X P n l F K r (setd d (.int q' (p % q)) env) H) : X P n l F K ((i, k) :: r) env H :=
  X.pure _ ho hw hd hk (fun ρ w hρ => by have h0 : q ≠ 0 := (by omega); simp [execOp, hρ _ _ hx, hρ _ _ hy, eqGuard, binOp, Op.intDiv, h0, IntWalk.rem_in p q hr.1]) h

theorem X.quoK {q' : IntKind} {p q : Int} (ho : nth l i = some ⟨d, .binOp .quo t x y t', ty, pos, aft, g⟩) (hw : wantE l env ⟨d, .binOp .quo t x y t', ty, pos, aft, g⟩ = some true) (hd : dOK n d = true) (hk : noMk k = true)
    (hx : opv env x = some (.int q' p)) (hy : opv env y = some (.int q' q)) (h0 : q ≠ 0) (h : X P n l F K r (setd d (.int q' (q'.wrap (p.tdiv q))) env) H) : X P n l F K ((i, k) :: r) env H :=
  X.pure _ ho hw hd hk (fun ρ w hρ => by simp [execOp, hρ _ _ hx, hρ _ _ hy, eqGuard, binOp, Op.intDiv, h0]) h

theorem X.remK {q' : IntKind} {p q : Int} (ho : nth l i = some ⟨d, .binOp .rem t x y t', ty, pos, aft, g⟩) (hw : wantE l env ⟨d, .binOp .rem t x y t', ty, pos, aft, g⟩ = some true) (hd : dOK n d = true) (hk : noMk k = true)
    (hx : opv env x = some (.int q' p)) (hy : opv env y = some (.int q' q)) (h0 : q ≠ 0) (h : X P n l F K r (setd d (.int q' (p.tmod q)) env) H) : X P n l F K ((i, k) :: r) env H :=
  X.pure _ ho hw hd hk (fun ρ w hρ => by simp [execOp, hρ _ _ hx, hρ _ _ hy, eqGuard, binOp, Op.intDiv, h0]) h

theorem X.neg {p : Int} (ho : nth l i = some ⟨d, .unOp .neg t x, ty, pos, aft, g⟩) (hw : wantE l env ⟨d, .unOp .neg t x, ty, pos, aft, g⟩ = some true) (hd : dOK n d = true) (hk : noMk k = true)
    (hx : opv env x = some (.int .i64 p)) (hr : -9223372036854775808 ≤ -p ∧ -p ≤ 9223372036854775807) (h : X P n l F K r (setd d (.int .i64 (-p)) env) H) : X P n l F K ((i, k) :: r) env H :=
  X.pure _ ho hw hd hk (fun ρ w hρ => by simp [execOp, hρ _ _ hx, Op.unary, Op.intArith, IntWalk.i64_in _ hr]) h

theorem X.negW {q' : IntKind} {p : Int} (ho : nth l i = some ⟨d, .unOp .neg t x, ty, pos, aft, g⟩) (hw : wantE l env ⟨d, .unOp .neg t x, ty, pos, aft, g⟩ = some true) (hd : dOK n d = true) (hk : noMk k = true)
    (hx : opv env x = some (.int q' p)) (h : X P n l F K r (setd d (.int q' (q'.wrap (0 - p))) env) H) : X P n l F K ((i, k) :: r) env H :=
  X.pure _ ho hw hd hk (fun ρ w hρ => by simp [execOp, hρ _ _ hx, Op.unary, Op.intArith]) h

theorem X.shl {q' q2 : IntKind} {p q : Int} (ho : nth l i = some ⟨d, .binOp .shl t x y t', ty, pos, aft, g⟩) (hw : wantE l env ⟨d, .binOp .shl t x y t', ty, pos, aft, g⟩ = some true) (hd : dOK n d = true) (hk : noMk k = true)
    (hx : opv env x = some (.int q' p)) (hy : opv env y = some (.int q2 q)) (h0 : 0 ≤ q) (h : X P n l F K r (setd d (.int q' (q'.wrap (p * 2 ^ (min q.toNat q'.bits)))) env) H) : X P n l F K ((i, k) :: r) env H :=
  X.pure _ ho hw hd hk (fun ρ w hρ => by have h1 : ¬ q < 0 := (by omega); simp [execOp, hρ _ _ hx, hρ _ _ hy, eqGuard, binOp, Op.shift, h1]) h

theorem X.shr {q' q2 : IntKind} {p q : Int} (ho : nth l i = some ⟨d, .binOp .shr t x y t', ty, pos, aft, g⟩) (hw : wantE l env ⟨d, .binOp .shr t x y t', ty, pos, aft, g⟩ = some true) (hd : dOK n d = true) (hk : noMk k = true)
    (hx : opv env x = some (.int q' p)) (hy : opv env y = some (.int q2 q)) (h0 : 0 ≤ q) (h : X P n l F K r (setd d (.int q' (p.fdiv (2 ^ (min q.toNat q'.bits)))) env) H) : X P n l F K ((i, k) :: r) env H :=
  X.pure _ ho hw hd hk (fun ρ w hρ => by have h1 : ¬ q < 0 := (by omega); simp [execOp, hρ _ _ hx, hρ _ _ hy, eqGuard, binOp, Op.shift, h1]) h

theorem X.band {q' : IntKind} {p q : Int} (ho : nth l i = some ⟨d, .binOp .and t x y t', ty, pos, aft, g⟩) (hw : wantE l env ⟨d, .binOp .and t x y t', ty, pos, aft, g⟩ = some true) (hd : dOK n d = true) (hk : noMk k = true)
    (hx : opv env x = some (.int q' p)) (hy : opv env y = some (.int q' q)) (h : X P n l F K r (setd d (.int q' (q'.wrap (BitVec.ofInt q'.bits p &&& BitVec.ofInt q'.bits q).toNat)) env) H) : X P n l F K ((i, k) :: r) env H :=
  X.pure _ ho hw hd hk (fun ρ w hρ => by simp [execOp, hρ _ _ hx, hρ _ _ hy, eqGuard, binOp, Op.intBits]) h

theorem X.bor {q' : IntKind} {p q : Int} (ho : nth l i = some ⟨d, .binOp .or t x y t', ty, pos, aft, g⟩) (hw : wantE l env ⟨d, .binOp .or t x y t', ty, pos, aft, g⟩ = some true) (hd : dOK n d = true) (hk : noMk k = true)
    (hx : opv env x = some (.int q' p)) (hy : opv env y = some (.int q' q)) (h : X P n l F K r (setd d (.int q' (q'.wrap (BitVec.ofInt q'.bits p ||| BitVec.ofInt q'.bits q).toNat)) env) H) : X P n l F K ((i, k) :: r) env H :=
  X.pure _ ho hw hd hk (fun ρ w hρ => by simp [execOp, hρ _ _ hx, hρ _ _ hy, eqGuard, binOp, Op.intBits]) h

theorem X.bxor {q' : IntKind} {p q : Int} (ho : nth l i = some ⟨d, .binOp .xor t x y t', ty, pos, aft, g⟩) (hw : wantE l env ⟨d, .binOp .xor t x y t', ty, pos, aft, g⟩ = some true) (hd : dOK n d = true) (hk : noMk k = true)
    (hx : opv env x = some (.int q' p)) (hy : opv env y = some (.int q' q)) (h : X P n l F K r (setd d (.int q' (q'.wrap (BitVec.ofInt q'.bits p ^^^ BitVec.ofInt q'.bits q).toNat)) env) H) : X P n l F K ((i, k) :: r) env H :=
  X.pure _ ho hw hd hk (fun ρ w hρ => by simp [execOp, hρ _ _ hx, hρ _ _ hy, eqGuard, binOp, Op.intBits]) h

theorem X.bnot {p : Int} (ho : nth l i = some ⟨d, .unOp .xor t x, ty, pos, aft, g⟩) (hw : wantE l env ⟨d, .unOp .xor t x, ty, pos, aft, g⟩ = some true) (hd : dOK n d = true) (hk : noMk k = true)
    (hx : opv env x = some (.int .u64 p)) (h : X P n l F K r (setd d (.int .u64 (IntKind.u64.wrap (BitVec.ofInt 64 18446744073709551615 ^^^ BitVec.ofInt 64 p).toNat)) env) H) : X P n l F K ((i, k) :: r) env H :=
  X.pure _ ho hw hd hk (fun ρ w hρ => by simp only [execOp, hρ _ _ hx, Op.unary]; rfl) h

theorem X.conv {q1 q2 : IntKind} {p : Int} (ho : nth l i = some ⟨d, .convert t t' x, ty, pos, aft, g⟩) (hw : wantE l env ⟨d, .convert t t' x, ty, pos, aft, g⟩ = some true) (hd : dOK n d = true) (hk : noMk k = true)
    (hx : opv env x = some (.int q1 p)) (hu : P.underlying t' = some (.int q2)) (hs : (P.underlying t).isSome = true) (h : X P n l F K r (setd d (.int q2 (q2.wrap p)) env) H) : X P n l F K ((i, k) :: r) env H :=
  X.pure _ ho hw hd hk (fun ρ w hρ => by obtain ⟨s, hs'⟩ := Option.isSome_iff_exists.1 hs; simp [execOp, hρ _ _ hx, convert, run_underlying hu, run_underlying hs', Conv.intToInt]) h

theorem X.lss {q' : IntKind} {p q : Int} (ho : nth l i = some ⟨d, .binOp .lss t x y t', ty, pos, aft, g⟩) (hw : wantE l env ⟨d, .binOp .lss t x y t', ty, pos, aft, g⟩ = some true) (hd : dOK n d = true) (hk : noMk k = true)
    (hx : opv env x = some (.int q' p)) (hy : opv env y = some (.int q' q)) (h : X P n l F K r (setd d (.bool (decide (p < q))) env) H) : X P n l F K ((i, k) :: r) env H :=
  X.pure _ ho hw hd hk (fun ρ w hρ => by simp [execOp, hρ _ _ hx, hρ _ _ hy, eqGuard, binOp, Op.intCmp]) h

theorem X.lssT {q' : IntKind} {p q : Int} (ho : nth l i = some ⟨d, .binOp .lss t x y t', ty, pos, aft, g⟩) (hw : wantE l env ⟨d, .binOp .lss t x y t', ty, pos, aft, g⟩ = some true) (hd : dOK n d = true) (hk : noMk k = true)
    (hx : opv env x = some (.int q' p)) (hy : opv env y = some (.int q' q)) (hc : p < q) (h : X P n l F K r (setd d (.bool true) env) H) : X P n l F K ((i, k) :: r) env H :=
  X.pure _ ho hw hd hk (fun ρ w hρ => by simp [execOp, hρ _ _ hx, hρ _ _ hy, eqGuard, binOp, Op.intCmp]; first | done | exact hc | omega | simpa using hc) h

theorem X.lssF {q' : IntKind} {p q : Int} (ho : nth l i = some ⟨d, .binOp .lss t x y t', ty, pos, aft, g⟩) (hw : wantE l env ⟨d, .binOp .lss t x y t', ty, pos, aft, g⟩ = some true) (hd : dOK n d = true) (hk : noMk k = true)
    (hx : opv env x = some (.int q' p)) (hy : opv env y = some (.int q' q)) (hc : ¬ (p < q)) (h : X P n l F K r (setd d (.bool false) env) H) : X P n l F K ((i, k) :: r) env H :=
  X.pure _ ho hw hd hk (fun ρ w hρ => by simp [execOp, hρ _ _ hx, hρ _ _ hy, eqGuard, binOp, Op.intCmp]; first | done | exact hc | omega | simpa using hc) h

theorem X.leq {q' : IntKind} {p q : Int} (ho : nth l i = some ⟨d, .binOp .leq t x y t', ty, pos, aft, g⟩) (hw : wantE l env ⟨d, .binOp .leq t x y t', ty, pos, aft, g⟩ = some true) (hd : dOK n d = true) (hk : noMk k = true)
    (hx : opv env x = some (.int q' p)) (hy : opv env y = some (.int q' q)) (h : X P n l F K r (setd d (.bool (decide (p ≤ q))) env) H) : X P n l F K ((i, k) :: r) env H :=
  X.pure _ ho hw hd hk (fun ρ w hρ => by simp [execOp, hρ _ _ hx, hρ _ _ hy, eqGuard, binOp, Op.intCmp]) h

theorem X.leqT {q' : IntKind} {p q : Int} (ho : nth l i = some ⟨d, .binOp .leq t x y t', ty, pos, aft, g⟩) (hw : wantE l env ⟨d, .binOp .leq t x y t', ty, pos, aft, g⟩ = some true) (hd : dOK n d = true) (hk : noMk k = true)
    (hx : opv env x = some (.int q' p)) (hy : opv env y = some (.int q' q)) (hc : p ≤ q) (h : X P n l F K r (setd d (.bool true) env) H) : X P n l F K ((i, k) :: r) env H :=
  X.pure _ ho hw hd hk (fun ρ w hρ => by simp [execOp, hρ _ _ hx, hρ _ _ hy, eqGuard, binOp, Op.intCmp]; first | done | exact hc | omega | simpa using hc) h

theorem X.leqF {q' : IntKind} {p q : Int} (ho : nth l i = some ⟨d, .binOp .leq t x y t', ty, pos, aft, g⟩) (hw : wantE l env ⟨d, .binOp .leq t x y t', ty, pos, aft, g⟩ = some true) (hd : dOK n d = true) (hk : noMk k = true)
    (hx : opv env x = some (.int q' p)) (hy : opv env y = some (.int q' q)) (hc : ¬ (p ≤ q)) (h : X P n l F K r (setd d (.bool false) env) H) : X P n l F K ((i, k) :: r) env H :=
  X.pure _ ho hw hd hk (fun ρ w hρ => by simp [execOp, hρ _ _ hx, hρ _ _ hy, eqGuard, binOp, Op.intCmp]; first | done | exact hc | omega | simpa using hc) h

theorem X.gtr {q' : IntKind} {p q : Int} (ho : nth l i = some ⟨d, .binOp .gtr t x y t', ty, pos, aft, g⟩) (hw : wantE l env ⟨d, .binOp .gtr t x y t', ty, pos, aft, g⟩ = some true) (hd : dOK n d = true) (hk : noMk k = true)
    (hx : opv env x = some (.int q' p)) (hy : opv env y = some (.int q' q)) (h : X P n l F K r (setd d (.bool (decide (q < p))) env) H) : X P n l F K ((i, k) :: r) env H :=
  X.pure _ ho hw hd hk (fun ρ w hρ => by simp [execOp, hρ _ _ hx, hρ _ _ hy, eqGuard, binOp, Op.intCmp]) h

theorem X.gtrT {q' : IntKind} {p q : Int} (ho : nth l i = some ⟨d, .binOp .gtr t x y t', ty, pos, aft, g⟩) (hw : wantE l env ⟨d, .binOp .gtr t x y t', ty, pos, aft, g⟩ = some true) (hd : dOK n d = true) (hk : noMk k = true)
    (hx : opv env x = some (.int q' p)) (hy : opv env y = some (.int q' q)) (hc : q < p) (h : X P n l F K r (setd d (.bool true) env) H) : X P n l F K ((i, k) :: r) env H :=
  X.pure _ ho hw hd hk (fun ρ w hρ => by simp [execOp, hρ _ _ hx, hρ _ _ hy, eqGuard, binOp, Op.intCmp]; first | done | exact hc | omega | simpa using hc) h

theorem X.gtrF {q' : IntKind} {p q : Int} (ho : nth l i = some ⟨d, .binOp .gtr t x y t', ty, pos, aft, g⟩) (hw : wantE l env ⟨d, .binOp .gtr t x y t', ty, pos, aft, g⟩ = some true) (hd : dOK n d = true) (hk : noMk k = true)
    (hx : opv env x = some (.int q' p)) (hy : opv env y = some (.int q' q)) (hc : ¬ (q < p)) (h : X P n l F K r (setd d (.bool false) env) H) : X P n l F K ((i, k) :: r) env H :=
  X.pure _ ho hw hd hk (fun ρ w hρ => by simp [execOp, hρ _ _ hx, hρ _ _ hy, eqGuard, binOp, Op.intCmp]; first | done | exact hc | omega | simpa using hc) h

theorem X.geq {q' : IntKind} {p q : Int} (ho : nth l i = some ⟨d, .binOp .geq t x y t', ty, pos, aft, g⟩) (hw : wantE l env ⟨d, .binOp .geq t x y t', ty, pos, aft, g⟩ = some true) (hd : dOK n d = true) (hk : noMk k = true)
    (hx : opv env x = some (.int q' p)) (hy : opv env y = some (.int q' q)) (h : X P n l F K r (setd d (.bool (decide (q ≤ p))) env) H) : X P n l F K ((i, k) :: r) env H :=
  X.pure _ ho hw hd hk (fun ρ w hρ => by simp [execOp, hρ _ _ hx, hρ _ _ hy, eqGuard, binOp, Op.intCmp]) h

theorem X.geqT {q' : IntKind} {p q : Int} (ho : nth l i = some ⟨d, .binOp .geq t x y t', ty, pos, aft, g⟩) (hw : wantE l env ⟨d, .binOp .geq t x y t', ty, pos, aft, g⟩ = some true) (hd : dOK n d = true) (hk : noMk k = true)
    (hx : opv env x = some (.int q' p)) (hy : opv env y = some (.int q' q)) (hc : q ≤ p) (h : X P n l F K r (setd d (.bool true) env) H) : X P n l F K ((i, k) :: r) env H :=
  X.pure _ ho hw hd hk (fun ρ w hρ => by simp [execOp, hρ _ _ hx, hρ _ _ hy, eqGuard, binOp, Op.intCmp]; first | done | exact hc | omega | simpa using hc) h

theorem X.geqF {q' : IntKind} {p q : Int} (ho : nth l i = some ⟨d, .binOp .geq t x y t', ty, pos, aft, g⟩) (hw : wantE l env ⟨d, .binOp .geq t x y t', ty, pos, aft, g⟩ = some true) (hd : dOK n d = true) (hk : noMk k = true)
    (hx : opv env x = some (.int q' p)) (hy : opv env y = some (.int q' q)) (hc : ¬ (q ≤ p)) (h : X P n l F K r (setd d (.bool false) env) H) : X P n l F K ((i, k) :: r) env H :=
  X.pure _ ho hw hd hk (fun ρ w hρ => by simp [execOp, hρ _ _ hx, hρ _ _ hy, eqGuard, binOp, Op.intCmp]; first | done | exact hc | omega | simpa using hc) h

theorem X.eql {q' : IntKind} {p q : Int} (ho : nth l i = some ⟨d, .binOp .eql t x y t', ty, pos, aft, g⟩) (hw : wantE l env ⟨d, .binOp .eql t x y t', ty, pos, aft, g⟩ = some true) (hd : dOK n d = true) (hk : noMk k = true)
    (hx : opv env x = some (.int q' p)) (hy : opv env y = some (.int q' q)) (h : X P n l F K r (setd d (.bool (decide (p = q))) env) H) : X P n l F K ((i, k) :: r) env H :=
  X.pure _ ho hw hd hk (fun ρ w hρ => by simp [execOp, hρ _ _ hx, hρ _ _ hy, eqGuard, binOp, Op.intCmp]; (rw [Bool.eq_iff_iff]; simp)) h

theorem X.eqlT {q' : IntKind} {p q : Int} (ho : nth l i = some ⟨d, .binOp .eql t x y t', ty, pos, aft, g⟩) (hw : wantE l env ⟨d, .binOp .eql t x y t', ty, pos, aft, g⟩ = some true) (hd : dOK n d = true) (hk : noMk k = true)
    (hx : opv env x = some (.int q' p)) (hy : opv env y = some (.int q' q)) (hc : p = q) (h : X P n l F K r (setd d (.bool true) env) H) : X P n l F K ((i, k) :: r) env H :=
  X.pure _ ho hw hd hk (fun ρ w hρ => by simp [execOp, hρ _ _ hx, hρ _ _ hy, eqGuard, binOp, Op.intCmp]; first | done | exact hc | omega | simpa using hc) h

theorem X.eqlF {q' : IntKind} {p q : Int} (ho : nth l i = some ⟨d, .binOp .eql t x y t', ty, pos, aft, g⟩) (hw : wantE l env ⟨d, .binOp .eql t x y t', ty, pos, aft, g⟩ = some true) (hd : dOK n d = true) (hk : noMk k = true)
    (hx : opv env x = some (.int q' p)) (hy : opv env y = some (.int q' q)) (hc : ¬ (p = q)) (h : X P n l F K r (setd d (.bool false) env) H) : X P n l F K ((i, k) :: r) env H :=
  X.pure _ ho hw hd hk (fun ρ w hρ => by simp [execOp, hρ _ _ hx, hρ _ _ hy, eqGuard, binOp, Op.intCmp]; first | done | exact hc | omega | simpa using hc) h

theorem X.neq {q' : IntKind} {p q : Int} (ho : nth l i = some ⟨d, .binOp .neq t x y t', ty, pos, aft, g⟩) (hw : wantE l env ⟨d, .binOp .neq t x y t', ty, pos, aft, g⟩ = some true) (hd : dOK n d = true) (hk : noMk k = true)
    (hx : opv env x = some (.int q' p)) (hy : opv env y = some (.int q' q)) (h : X P n l F K r (setd d (.bool (decide (p ≠ q))) env) H) : X P n l F K ((i, k) :: r) env H :=
  X.pure _ ho hw hd hk (fun ρ w hρ => by simp [execOp, hρ _ _ hx, hρ _ _ hy, eqGuard, binOp, Op.intCmp]; (rw [Bool.eq_iff_iff]; simp)) h

theorem X.neqT {q' : IntKind} {p q : Int} (ho : nth l i = some ⟨d, .binOp .neq t x y t', ty, pos, aft, g⟩) (hw : wantE l env ⟨d, .binOp .neq t x y t', ty, pos, aft, g⟩ = some true) (hd : dOK n d = true) (hk : noMk k = true)
    (hx : opv env x = some (.int q' p)) (hy : opv env y = some (.int q' q)) (hc : p ≠ q) (h : X P n l F K r (setd d (.bool true) env) H) : X P n l F K ((i, k) :: r) env H :=
  X.pure _ ho hw hd hk (fun ρ w hρ => by simp [execOp, hρ _ _ hx, hρ _ _ hy, eqGuard, binOp, Op.intCmp]; first | done | exact hc | omega | simpa using hc) h

theorem X.neqF {q' : IntKind} {p q : Int} (ho : nth l i = some ⟨d, .binOp .neq t x y t', ty, pos, aft, g⟩) (hw : wantE l env ⟨d, .binOp .neq t x y t', ty, pos, aft, g⟩ = some true) (hd : dOK n d = true) (hk : noMk k = true)
    (hx : opv env x = some (.int q' p)) (hy : opv env y = some (.int q' q)) (hc : ¬ (p ≠ q)) (h : X P n l F K r (setd d (.bool false) env) H) : X P n l F K ((i, k) :: r) env H :=
  X.pure _ ho hw hd hk (fun ρ w hρ => by simp [execOp, hρ _ _ hx, hρ _ _ hy, eqGuard, binOp, Op.intCmp]; first | done | exact hc | omega | simpa using hc) h

theorem X.eqlB {p q : Bool} (ho : nth l i = some ⟨d, .binOp .eql t x y t', ty, pos, aft, g⟩) (hw : wantE l env ⟨d, .binOp .eql t x y t', ty, pos, aft, g⟩ = some true) (hd : dOK n d = true) (hk : noMk k = true)
    (hx : opv env x = some (.bool p)) (hy : opv env y = some (.bool q)) (hu : P.underlying t = some .bool) (h : X P n l F K r (setd d (.bool (decide (p = q))) env) H) : X P n l F K ((i, k) :: r) env H :=
  X.pure _ ho hw hd hk (fun ρ w hρ => by simp [execOp, hρ _ _ hx, hρ _ _ hy, run_eqGuard_bool, binOp, run_equal_bool P hu]; try (cases p <;> cases q <;> rfl)) h

theorem X.neqB {p q : Bool} (ho : nth l i = some ⟨d, .binOp .neq t x y t', ty, pos, aft, g⟩) (hw : wantE l env ⟨d, .binOp .neq t x y t', ty, pos, aft, g⟩ = some true) (hd : dOK n d = true) (hk : noMk k = true)
    (hx : opv env x = some (.bool p)) (hy : opv env y = some (.bool q)) (hu : P.underlying t = some .bool) (h : X P n l F K r (setd d (.bool (decide (p ≠ q))) env) H) : X P n l F K ((i, k) :: r) env H :=
  X.pure _ ho hw hd hk (fun ρ w hρ => by simp [execOp, hρ _ _ hx, hρ _ _ hy, run_eqGuard_bool, binOp, run_equal_bool P hu]; try (cases p <;> cases q <;> rfl)) h

theorem X.eqlP0 {e : TypeId} (ho : nth l i = some ⟨d, .binOp .eql t x y t', ty, pos, aft, g⟩) (hw : wantE l env ⟨d, .binOp .eql t x y t', ty, pos, aft, g⟩ = some true) (hd : dOK n d = true) (hk : noMk k = true)
    (hx : opv env x = some (.pointer none)) (hy : opv env y = some (.pointer none)) (hu : P.underlying t = some (.pointer e)) (h : X P n l F K r (setd d (.bool true) env) H) : X P n l F K ((i, k) :: r) env H :=
  X.pure _ ho hw hd hk (fun ρ w hρ => by simp [execOp, hρ _ _ hx, hρ _ _ hy, eqGuard, binOp, run_equal_ptr P hu]) h

theorem X.neqP0 {e : TypeId} (ho : nth l i = some ⟨d, .binOp .neq t x y t', ty, pos, aft, g⟩) (hw : wantE l env ⟨d, .binOp .neq t x y t', ty, pos, aft, g⟩ = some true) (hd : dOK n d = true) (hk : noMk k = true)
    (hx : opv env x = some (.pointer none)) (hy : opv env y = some (.pointer none)) (hu : P.underlying t = some (.pointer e)) (h : X P n l F K r (setd d (.bool false) env) H) : X P n l F K ((i, k) :: r) env H :=
  X.pure _ ho hw hd hk (fun ρ w hρ => by simp [execOp, hρ _ _ hx, hρ _ _ hy, eqGuard, binOp, run_equal_ptr P hu]) h

theorem X.eqlP1 {e : TypeId} {ad : Addr} (ho : nth l i = some ⟨d, .binOp .eql t x y t', ty, pos, aft, g⟩) (hw : wantE l env ⟨d, .binOp .eql t x y t', ty, pos, aft, g⟩ = some true) (hd : dOK n d = true) (hk : noMk k = true)
    (hx : opv env x = some (.pointer (some ad))) (hy : opv env y = some (.pointer none)) (hu : P.underlying t = some (.pointer e)) (h : X P n l F K r (setd d (.bool false) env) H) : X P n l F K ((i, k) :: r) env H :=
  X.pure _ ho hw hd hk (fun ρ w hρ => by simp [execOp, hρ _ _ hx, hρ _ _ hy, eqGuard, binOp, run_equal_ptr P hu]) h

theorem X.neqP1 {e : TypeId} {ad : Addr} (ho : nth l i = some ⟨d, .binOp .neq t x y t', ty, pos, aft, g⟩) (hw : wantE l env ⟨d, .binOp .neq t x y t', ty, pos, aft, g⟩ = some true) (hd : dOK n d = true) (hk : noMk k = true)
    (hx : opv env x = some (.pointer (some ad))) (hy : opv env y = some (.pointer none)) (hu : P.underlying t = some (.pointer e)) (h : X P n l F K r (setd d (.bool true) env) H) : X P n l F K ((i, k) :: r) env H :=
  X.pure _ ho hw hd hk (fun ρ w hρ => by simp [execOp, hρ _ _ hx, hρ _ _ hy, eqGuard, binOp, run_equal_ptr P hu]) h

theorem X.lenS {ad : Option Addr} {m q : Nat} {e : TypeId} (ho : nth l i = some ⟨d, .call ⟨.builtin .len, #[x], #[t]⟩, ty, pos, aft, g⟩) (hw : wantE l env ⟨d, .call ⟨.builtin .len, #[x], #[t]⟩, ty, pos, aft, g⟩ = some true) (hd : dOK n d = true) (hk : noMk k = true)
    (hx : opv env x = some (.slice ad m q)) (hu : P.underlying t = some (.slice e)) (h : X P n l F K r (setd d (.int .i64 m) env) H) : X P n l F K ((i, k) :: r) env H :=
  X.pure _ ho hw hd hk (fun ρ w hρ => by simp [execOp, resolve, invoke, builtin, hρ _ _ hx, Builtin.len_, run_underlying hu, goInt]) h

theorem X.lenT {s : ByteArray} (ho : nth l i = some ⟨d, .call ⟨.builtin .len, #[x], #[t]⟩, ty, pos, aft, g⟩) (hw : wantE l env ⟨d, .call ⟨.builtin .len, #[x], #[t]⟩, ty, pos, aft, g⟩ = some true) (hd : dOK n d = true) (hk : noMk k = true)
    (hx : opv env x = some (.string s)) (hu : P.underlying t = some .string) (h : X P n l F K r (setd d (.int .i64 s.size) env) H) : X P n l F K ((i, k) :: r) env H :=
  X.pure _ ho hw hd hk (fun ρ w hρ => by simp [execOp, resolve, invoke, builtin, hρ _ _ hx, Builtin.len_, run_underlying hu, goInt]) h

theorem X.lenA {v : Value} {m : Nat} {e : TypeId} (ho : nth l i = some ⟨d, .call ⟨.builtin .len, #[x], #[t]⟩, ty, pos, aft, g⟩) (hw : wantE l env ⟨d, .call ⟨.builtin .len, #[x], #[t]⟩, ty, pos, aft, g⟩ = some true) (hd : dOK n d = true) (hk : noMk k = true)
    (hx : opv env x = some v) (hu : P.underlying t = some (.array m e)) (h : X P n l F K r (setd d (.int .i64 m) env) H) : X P n l F K ((i, k) :: r) env H :=
  X.pure _ ho hw hd hk (fun ρ w hρ => by simp [execOp, resolve, invoke, builtin, hρ _ _ hx, Builtin.len_, run_underlying hu, goInt]) h

theorem X.mn {q' : IntKind} {p q : Int} (ho : nth l i = some ⟨d, .call ⟨.builtin .min, #[x, y], #[t, t']⟩, ty, pos, aft, g⟩) (hw : wantE l env ⟨d, .call ⟨.builtin .min, #[x, y], #[t, t']⟩, ty, pos, aft, g⟩ = some true) (hd : dOK n d = true) (hk : noMk k = true)
    (hx : opv env x = some (.int q' p)) (hy : opv env y = some (.int q' q)) (h : X P n l F K r (setd d (.int q' (if q < p then q else p)) env) H) : X P n l F K ((i, k) :: r) env H :=
  X.pure _ ho hw hd hk (fun ρ w hρ => by simp [execOp, resolve, invoke, builtin, hρ _ _ hx, hρ _ _ hy, Builtin.min_, Builtin.min2]) h

theorem X.mx {q' : IntKind} {p q : Int} (ho : nth l i = some ⟨d, .call ⟨.builtin .max, #[x, y], #[t, t']⟩, ty, pos, aft, g⟩) (hw : wantE l env ⟨d, .call ⟨.builtin .max, #[x, y], #[t, t']⟩, ty, pos, aft, g⟩ = some true) (hd : dOK n d = true) (hk : noMk k = true)
    (hx : opv env x = some (.int q' p)) (hy : opv env y = some (.int q' q)) (h : X P n l F K r (setd d (.int q' (if p < q then q else p)) env) H) : X P n l F K ((i, k) :: r) env H :=
  X.pure _ ho hw hd hk (fun ρ w hρ => by simp [execOp, resolve, invoke, builtin, hρ _ _ hx, hρ _ _ hy, Builtin.max_, Builtin.max2]) h

theorem X.extract {vs : Array Value} {m : Nat} {v : Value} (ho : nth l i = some ⟨d, .extract x m, ty, pos, aft, g⟩) (hw : wantE l env ⟨d, .extract x m, ty, pos, aft, g⟩ = some true) (hd : dOK n d = true) (hk : noMk k = true)
    (hx : opv env x = some (.tuple vs)) (hv : vs[m]? = some v) (h : X P n l F K r (setd d (v) env) H) : X P n l F K ((i, k) :: r) env H :=
  X.pure _ ho hw hd hk (fun ρ w hρ => by simp [execOp, hρ _ _ hx, Instr.extract, hv]) h

end
end Go.SX
