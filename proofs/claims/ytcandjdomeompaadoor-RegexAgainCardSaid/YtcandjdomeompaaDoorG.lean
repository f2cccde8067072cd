/- Laws with the value said by the prover; splits; ends. -/
import Derived.Test.YtcandjdomeompaaDoorF
namespace Go.SX
open Go

section
variable {P : Program} {n : Nat} {l : List Oper} {F : Heap → Prop} {K : Act → Heap → Prop} {r : List (Nat × Kd)} {env : Env} {H : Heap} {i : Nat} {k : Kd}
variable {d : Option Tmp} {ty : TypeId} {pos : String} {aft : Array Edge} {g : Option (Nat × Bool)} {x y c a b : Operand} {t t' : TypeId}


theorem X.addE {q' : IntKind} {p q : Int} {zz : Int} (ho : nth l i = some ⟨d, .binOp .add t x y t', ty, pos, aft, g⟩) (hw : wantE l env ⟨d, .binOp .add t x y t', ty, pos, aft, g⟩ = some true) (hd : dOK n d = true) (hk : noMk k = true)
    (hx : opv env x = some (.int q' p)) (hy : opv env y = some (.int q' q)) (hz : q'.wrap (p + q) = zz) (h : X P n l F K r (setd d (.int q' zz) env) H) : X P n l F K ((i, k) :: r) env H := by
  subst hz; exact X.addW ho hw hd hk hx hy h

theorem X.sbE {q' : IntKind} {p q : Int} {zz : Int} (ho : nth l i = some ⟨d, .binOp .sub t x y t', ty, pos, aft, g⟩) (hw : wantE l env ⟨d, .binOp .sub t x y t', ty, pos, aft, g⟩ = some true) (hd : dOK n d = true) (hk : noMk k = true)
    (hx : opv env x = some (.int q' p)) (hy : opv env y = some (.int q' q)) (hz : q'.wrap (p - q) = zz) (h : X P n l F K r (setd d (.int q' zz) env) H) : X P n l F K ((i, k) :: r) env H := by
  subst hz; exact X.sbW ho hw hd hk hx hy h

theorem X.mulE {q' : IntKind} {p q : Int} {zz : Int} (ho : nth l i = some ⟨d, .binOp .mul t x y t', ty, pos, aft, g⟩) (hw : wantE l env ⟨d, .binOp .mul t x y t', ty, pos, aft, g⟩ = some true) (hd : dOK n d = true) (hk : noMk k = true)
    (hx : opv env x = some (.int q' p)) (hy : opv env y = some (.int q' q)) (hz : q'.wrap (p * q) = zz) (h : X P n l F K r (setd d (.int q' zz) env) H) : X P n l F K ((i, k) :: r) env H := by
  subst hz; exact X.mulW ho hw hd hk hx hy h

theorem X.shlE {q' q2 : IntKind} {p q : Int} {zz : Int} (ho : nth l i = some ⟨d, .binOp .shl t x y t', ty, pos, aft, g⟩) (hw : wantE l env ⟨d, .binOp .shl t x y t', ty, pos, aft, g⟩ = some true) (hd : dOK n d = true) (hk : noMk k = true)
    (hx : opv env x = some (.int q' p)) (hy : opv env y = some (.int q2 q)) (h0 : 0 ≤ q) (hz : q'.wrap (p * 2 ^ (min q.toNat q'.bits)) = zz) (h : X P n l F K r (setd d (.int q' zz) env) H) : X P n l F K ((i, k) :: r) env H := by
  subst hz; exact X.shl ho hw hd hk hx hy h0 h

theorem X.shrE {q' q2 : IntKind} {p q : Int} {zz : Int} (ho : nth l i = some ⟨d, .binOp .shr t x y t', ty, pos, aft, g⟩) (hw : wantE l env ⟨d, .binOp .shr t x y t', ty, pos, aft, g⟩ = some true) (hd : dOK n d = true) (hk : noMk k = true)
    (hx : opv env x = some (.int q' p)) (hy : opv env y = some (.int q2 q)) (h0 : 0 ≤ q) (hz : p.fdiv (2 ^ (min q.toNat q'.bits)) = zz) (h : X P n l F K r (setd d (.int q' zz) env) H) : X P n l F K ((i, k) :: r) env H := by
  subst hz; exact X.shr ho hw hd hk hx hy h0 h

theorem X.bandE {q' : IntKind} {p q : Int} {zz : Int} (ho : nth l i = some ⟨d, .binOp .and t x y t', ty, pos, aft, g⟩) (hw : wantE l env ⟨d, .binOp .and t x y t', ty, pos, aft, g⟩ = some true) (hd : dOK n d = true) (hk : noMk k = true)
    (hx : opv env x = some (.int q' p)) (hy : opv env y = some (.int q' q)) (hz : q'.wrap (BitVec.ofInt q'.bits p &&& BitVec.ofInt q'.bits q).toNat = zz) (h : X P n l F K r (setd d (.int q' zz) env) H) : X P n l F K ((i, k) :: r) env H := by
  subst hz; exact X.band ho hw hd hk hx hy h

theorem X.borE {q' : IntKind} {p q : Int} {zz : Int} (ho : nth l i = some ⟨d, .binOp .or t x y t', ty, pos, aft, g⟩) (hw : wantE l env ⟨d, .binOp .or t x y t', ty, pos, aft, g⟩ = some true) (hd : dOK n d = true) (hk : noMk k = true)
    (hx : opv env x = some (.int q' p)) (hy : opv env y = some (.int q' q)) (hz : q'.wrap (BitVec.ofInt q'.bits p ||| BitVec.ofInt q'.bits q).toNat = zz) (h : X P n l F K r (setd d (.int q' zz) env) H) : X P n l F K ((i, k) :: r) env H := by
  subst hz; exact X.bor ho hw hd hk hx hy h

theorem X.bxorE {q' : IntKind} {p q : Int} {zz : Int} (ho : nth l i = some ⟨d, .binOp .xor t x y t', ty, pos, aft, g⟩) (hw : wantE l env ⟨d, .binOp .xor t x y t', ty, pos, aft, g⟩ = some true) (hd : dOK n d = true) (hk : noMk k = true)
    (hx : opv env x = some (.int q' p)) (hy : opv env y = some (.int q' q)) (hz : q'.wrap (BitVec.ofInt q'.bits p ^^^ BitVec.ofInt q'.bits q).toNat = zz) (h : X P n l F K r (setd d (.int q' zz) env) H) : X P n l F K ((i, k) :: r) env H := by
  subst hz; exact X.bxor ho hw hd hk hx hy h

theorem X.bnotE {p : Int} {zz : Int} (ho : nth l i = some ⟨d, .unOp .xor t x, ty, pos, aft, g⟩) (hw : wantE l env ⟨d, .unOp .xor t x, ty, pos, aft, g⟩ = some true) (hd : dOK n d = true) (hk : noMk k = true)
    (hx : opv env x = some (.int .u64 p)) (hz : IntKind.u64.wrap (BitVec.ofInt 64 18446744073709551615 ^^^ BitVec.ofInt 64 p).toNat = zz) (h : X P n l F K r (setd d (.int .u64 zz) env) H) : X P n l F K ((i, k) :: r) env H := by
  subst hz; exact X.bnot ho hw hd hk hx h

theorem X.convE {q1 q2 : IntKind} {p : Int} {zz : Int} (ho : nth l i = some ⟨d, .convert t t' x, ty, pos, aft, g⟩) (hw : wantE l env ⟨d, .convert t t' x, ty, pos, aft, g⟩ = some true) (hd : dOK n d = true) (hk : noMk k = true)
    (hx : opv env x = some (.int q1 p)) (hu : P.underlying t' = some (.int q2)) (hs : (P.underlying t).isSome = true) (hz : q2.wrap p = zz) (h : X P n l F K r (setd d (.int q2 zz) env) H) : X P n l F K ((i, k) :: r) env H := by
  subst hz; exact X.conv ho hw hd hk hx hu hs h

theorem X.quoE {q' : IntKind} {p q : Int} {zz : Int} (ho : nth l i = some ⟨d, .binOp .quo t x y t', ty, pos, aft, g⟩) (hw : wantE l env ⟨d, .binOp .quo t x y t', ty, pos, aft, g⟩ = some true) (hd : dOK n d = true) (hk : noMk k = true)
    (hx : opv env x = some (.int q' p)) (hy : opv env y = some (.int q' q)) (h0 : q ≠ 0) (hz : q'.wrap (p.tdiv q) = zz) (h : X P n l F K r (setd d (.int q' zz) env) H) : X P n l F K ((i, k) :: r) env H := by
  subst hz; exact X.quoK ho hw hd hk hx hy h0 h

theorem X.remE {q' : IntKind} {p q : Int} {zz : Int} (ho : nth l i = some ⟨d, .binOp .rem t x y t', ty, pos, aft, g⟩) (hw : wantE l env ⟨d, .binOp .rem t x y t', ty, pos, aft, g⟩ = some true) (hd : dOK n d = true) (hk : noMk k = true)
    (hx : opv env x = some (.int q' p)) (hy : opv env y = some (.int q' q)) (h0 : q ≠ 0) (hz : p.tmod q = zz) (h : X P n l F K r (setd d (.int q' zz) env) H) : X P n l F K ((i, k) :: r) env H := by
  subst hz; exact X.remK ho hw hd hk hx hy h0 h

theorem X.negE {q' : IntKind} {p : Int} {zz : Int} (ho : nth l i = some ⟨d, .unOp .neg t x, ty, pos, aft, g⟩) (hw : wantE l env ⟨d, .unOp .neg t x, ty, pos, aft, g⟩ = some true) (hd : dOK n d = true) (hk : noMk k = true)
    (hx : opv env x = some (.int q' p)) (hz : q'.wrap (0 - p) = zz) (h : X P n l F K r (setd d (.int q' zz) env) H) : X P n l F K ((i, k) :: r) env H := by
  subst hz; exact X.negW ho hw hd hk hx h

theorem X.mnE {q' : IntKind} {p q : Int} {zz : Int} (ho : nth l i = some ⟨d, .call ⟨.builtin .min, #[x, y], #[t, t']⟩, ty, pos, aft, g⟩) (hw : wantE l env ⟨d, .call ⟨.builtin .min, #[x, y], #[t, t']⟩, ty, pos, aft, g⟩ = some true) (hd : dOK n d = true) (hk : noMk k = true)
    (hx : opv env x = some (.int q' p)) (hy : opv env y = some (.int q' q)) (hz : (if q < p then q else p) = zz) (h : X P n l F K r (setd d (.int q' zz) env) H) : X P n l F K ((i, k) :: r) env H := by
  subst hz; exact X.mn ho hw hd hk hx hy h

theorem X.mxE {q' : IntKind} {p q : Int} {zz : Int} (ho : nth l i = some ⟨d, .call ⟨.builtin .max, #[x, y], #[t, t']⟩, ty, pos, aft, g⟩) (hw : wantE l env ⟨d, .call ⟨.builtin .max, #[x, y], #[t, t']⟩, ty, pos, aft, g⟩ = some true) (hd : dOK n d = true) (hk : noMk k = true)
    (hx : opv env x = some (.int q' p)) (hy : opv env y = some (.int q' q)) (hz : (if p < q then q else p) = zz) (h : X P n l F K r (setd d (.int q' zz) env) H) : X P n l F K ((i, k) :: r) env H := by
  subst hz; exact X.mx ho hw hd hk hx hy h

theorem X.lssC {q' : IntKind} {p q : Int} (ho : nth l i = some ⟨d, .binOp .lss t x y t', ty, pos, aft, g⟩) (hw : wantE l env ⟨d, .binOp .lss t x y t', ty, pos, aft, g⟩ = some true) (hd : dOK n d = true) (hk : noMk k = true)
    (hx : opv env x = some (.int q' p)) (hy : opv env y = some (.int q' q)) (ht : p < q → X P n l F K r (setd d (.bool true) env) H) (hf : ¬ (p < q) → X P n l F K r (setd d (.bool false) env) H) : X P n l F K ((i, k) :: r) env H := by
  by_cases hc : p < q
  · exact X.lssT ho hw hd hk hx hy hc (ht hc)
  · exact X.lssF ho hw hd hk hx hy hc (hf hc)

theorem X.leqC {q' : IntKind} {p q : Int} (ho : nth l i = some ⟨d, .binOp .leq t x y t', ty, pos, aft, g⟩) (hw : wantE l env ⟨d, .binOp .leq t x y t', ty, pos, aft, g⟩ = some true) (hd : dOK n d = true) (hk : noMk k = true)
    (hx : opv env x = some (.int q' p)) (hy : opv env y = some (.int q' q)) (ht : p ≤ q → X P n l F K r (setd d (.bool true) env) H) (hf : ¬ (p ≤ q) → X P n l F K r (setd d (.bool false) env) H) : X P n l F K ((i, k) :: r) env H := by
  by_cases hc : p ≤ q
  · exact X.leqT ho hw hd hk hx hy hc (ht hc)
  · exact X.leqF ho hw hd hk hx hy hc (hf hc)

theorem X.gtrC {q' : IntKind} {p q : Int} (ho : nth l i = some ⟨d, .binOp .gtr t x y t', ty, pos, aft, g⟩) (hw : wantE l env ⟨d, .binOp .gtr t x y t', ty, pos, aft, g⟩ = some true) (hd : dOK n d = true) (hk : noMk k = true)
    (hx : opv env x = some (.int q' p)) (hy : opv env y = some (.int q' q)) (ht : q < p → X P n l F K r (setd d (.bool true) env) H) (hf : ¬ (q < p) → X P n l F K r (setd d (.bool false) env) H) : X P n l F K ((i, k) :: r) env H := by
  by_cases hc : q < p
  · exact X.gtrT ho hw hd hk hx hy hc (ht hc)
  · exact X.gtrF ho hw hd hk hx hy hc (hf hc)

theorem X.geqC {q' : IntKind} {p q : Int} (ho : nth l i = some ⟨d, .binOp .geq t x y t', ty, pos, aft, g⟩) (hw : wantE l env ⟨d, .binOp .geq t x y t', ty, pos, aft, g⟩ = some true) (hd : dOK n d = true) (hk : noMk k = true)
    (hx : opv env x = some (.int q' p)) (hy : opv env y = some (.int q' q)) (ht : q ≤ p → X P n l F K r (setd d (.bool true) env) H) (hf : ¬ (q ≤ p) → X P n l F K r (setd d (.bool false) env) H) : X P n l F K ((i, k) :: r) env H := by
  by_cases hc : q ≤ p
  · exact X.geqT ho hw hd hk hx hy hc (ht hc)
  · exact X.geqF ho hw hd hk hx hy hc (hf hc)

theorem X.eqlC {q' : IntKind} {p q : Int} (ho : nth l i = some ⟨d, .binOp .eql t x y t', ty, pos, aft, g⟩) (hw : wantE l env ⟨d, .binOp .eql t x y t', ty, pos, aft, g⟩ = some true) (hd : dOK n d = true) (hk : noMk k = true)
    (hx : opv env x = some (.int q' p)) (hy : opv env y = some (.int q' q)) (ht : p = q → X P n l F K r (setd d (.bool true) env) H) (hf : ¬ (p = q) → X P n l F K r (setd d (.bool false) env) H) : X P n l F K ((i, k) :: r) env H := by
  by_cases hc : p = q
  · exact X.eqlT ho hw hd hk hx hy hc (ht hc)
  · exact X.eqlF ho hw hd hk hx hy hc (hf hc)

theorem X.neqC {q' : IntKind} {p q : Int} (ho : nth l i = some ⟨d, .binOp .neq t x y t', ty, pos, aft, g⟩) (hw : wantE l env ⟨d, .binOp .neq t x y t', ty, pos, aft, g⟩ = some true) (hd : dOK n d = true) (hk : noMk k = true)
    (hx : opv env x = some (.int q' p)) (hy : opv env y = some (.int q' q)) (ht : p ≠ q → X P n l F K r (setd d (.bool true) env) H) (hf : ¬ (p ≠ q) → X P n l F K r (setd d (.bool false) env) H) : X P n l F K ((i, k) :: r) env H := by
  by_cases hc : p ≠ q
  · exact X.neqT ho hw hd hk hx hy hc (ht hc)
  · exact X.neqF ho hw hd hk hx hy hc (hf hc)

theorem X.eqlBT {p q : Bool} (ho : nth l i = some ⟨d, .binOp .eql t x y t', ty, pos, aft, g⟩) (hw : wantE l env ⟨d, .binOp .eql t x y t', ty, pos, aft, g⟩ = some true) (hd : dOK n d = true) (hk : noMk k = true)
    (hx : opv env x = some (.bool p)) (hy : opv env y = some (.bool q)) (hu : P.underlying t = some .bool) (hc : p = q) (h : X P n l F K r (setd d (.bool true) env) H) : X P n l F K ((i, k) :: r) env H := by
  subst hc
  exact X.eqlB ho hw hd hk hx hy hu (by simpa using h)

theorem X.neqBF {p q : Bool} (ho : nth l i = some ⟨d, .binOp .neq t x y t', ty, pos, aft, g⟩) (hw : wantE l env ⟨d, .binOp .neq t x y t', ty, pos, aft, g⟩ = some true) (hd : dOK n d = true) (hk : noMk k = true)
    (hx : opv env x = some (.bool p)) (hy : opv env y = some (.bool q)) (hu : P.underlying t = some .bool) (hc : p = q) (h : X P n l F K r (setd d (.bool false) env) H) : X P n l F K ((i, k) :: r) env H := by
  subst hc
  exact X.neqB ho hw hd hk hx hy hu (by simpa using h)

theorem X.eqlBF {p q : Bool} (ho : nth l i = some ⟨d, .binOp .eql t x y t', ty, pos, aft, g⟩) (hw : wantE l env ⟨d, .binOp .eql t x y t', ty, pos, aft, g⟩ = some true) (hd : dOK n d = true) (hk : noMk k = true)
    (hx : opv env x = some (.bool p)) (hy : opv env y = some (.bool q)) (hu : P.underlying t = some .bool) (hc : p ≠ q) (h : X P n l F K r (setd d (.bool false) env) H) : X P n l F K ((i, k) :: r) env H :=
  X.eqlB ho hw hd hk hx hy hu (by simpa [hc] using h)

theorem X.neqBT {p q : Bool} (ho : nth l i = some ⟨d, .binOp .neq t x y t', ty, pos, aft, g⟩) (hw : wantE l env ⟨d, .binOp .neq t x y t', ty, pos, aft, g⟩ = some true) (hd : dOK n d = true) (hk : noMk k = true)
    (hx : opv env x = some (.bool p)) (hy : opv env y = some (.bool q)) (hu : P.underlying t = some .bool) (hc : p ≠ q) (h : X P n l F K r (setd d (.bool true) env) H) : X P n l F K ((i, k) :: r) env H :=
  X.neqB ho hw hd hk hx hy hu (by simpa [hc] using h)

theorem X.eqlST {s u : List UInt8} (ho : nth l i = some ⟨d, .binOp .eql t x y t', ty, pos, aft, g⟩) (hw : wantE l env ⟨d, .binOp .eql t x y t', ty, pos, aft, g⟩ = some true) (hd : dOK n d = true) (hk : noMk k = true)
    (hx : opv env x = some (.string ⟨s.toArray⟩)) (hy : opv env y = some (.string ⟨u.toArray⟩)) (hc : s = u) (h : X P n l F K r (setd d (.bool true) env) H) : X P n l F K ((i, k) :: r) env H :=
  X.eqlS ho hw hd hk hx hy (by simpa [hc] using h)

theorem X.eqlSF {s u : List UInt8} (ho : nth l i = some ⟨d, .binOp .eql t x y t', ty, pos, aft, g⟩) (hw : wantE l env ⟨d, .binOp .eql t x y t', ty, pos, aft, g⟩ = some true) (hd : dOK n d = true) (hk : noMk k = true)
    (hx : opv env x = some (.string ⟨s.toArray⟩)) (hy : opv env y = some (.string ⟨u.toArray⟩)) (hc : s ≠ u) (h : X P n l F K r (setd d (.bool false) env) H) : X P n l F K ((i, k) :: r) env H :=
  X.eqlS ho hw hd hk hx hy (by simpa [hc] using h)

theorem X.neqST {s u : List UInt8} (ho : nth l i = some ⟨d, .binOp .neq t x y t', ty, pos, aft, g⟩) (hw : wantE l env ⟨d, .binOp .neq t x y t', ty, pos, aft, g⟩ = some true) (hd : dOK n d = true) (hk : noMk k = true)
    (hx : opv env x = some (.string ⟨s.toArray⟩)) (hy : opv env y = some (.string ⟨u.toArray⟩)) (hc : s ≠ u) (h : X P n l F K r (setd d (.bool true) env) H) : X P n l F K ((i, k) :: r) env H :=
  X.neqS ho hw hd hk hx hy (by simpa [hc] using h)

theorem X.neqSF {s u : List UInt8} (ho : nth l i = some ⟨d, .binOp .neq t x y t', ty, pos, aft, g⟩) (hw : wantE l env ⟨d, .binOp .neq t x y t', ty, pos, aft, g⟩ = some true) (hd : dOK n d = true) (hk : noMk k = true)
    (hx : opv env x = some (.string ⟨s.toArray⟩)) (hy : opv env y = some (.string ⟨u.toArray⟩)) (hc : s = u) (h : X P n l F K r (setd d (.bool false) env) H) : X P n l F K ((i, k) :: r) env H :=
  X.neqS ho hw hd hk hx hy (by simpa [hc] using h)

/-- A value that is a Bool, parted. -/
theorem X.part {p : Bool} {dd : Nat} {v : Value} (hv : v = .bool p) (h : ∀ b, p = b → X P n l F K r (setd (some dd) (.bool b) env) H) : X P n l F K r (setd (some dd) v env) H := by
  subst hv; exact h p rfl

theorem X.restate {env' : Env} (h : X P n l F K r env' H) (he : env = env') : X P n l F K r env H := by subst he; exact h

variable {Q : Exit → Act → Heap → Prop} {e : Exit}
theorem X.done (env' : Env) (hs : sub env env') (h : N n .normal Q env' H) : X P n l F (fun a H => Q .normal a H) [] env H := X.fin env' hs h

def LoadsAs (P : Program) (H : Heap) (t : TypeId) (b o : Nat) (v : Value) : Prop := ∀ w : World, w.heap = H → (loadVar t ⟨b, o, none⟩).run P w = .ok v w

theorem loads1 {H : Heap} {t : TypeId} {b o : Nat} {cs : List Value} {ct : TypeId} {fz : Nat × Nat} {v : Value} (ha : isAggB P t = some false) (hb : H[b]? = some (.cells cs.toArray ct fz)) (hc : cs[o]? = some v) : LoadsAs P H t b o v := by
  intro w hw
  have hcell := cell_of hw hb o
  rw [hc] at hcell
  simp [loadVar, run_isAgg ha, run_load, hcell]
theorem loadsA {H : Heap} {t : TypeId} {b o m : Nat} {cs vs : List Value} {ct : TypeId} {fz : Nat × Nat} (ha : isAggB P t = some true) (hsz : (P.info? t).map (·.size) = some m) (hb : H[b]? = some (.cells cs.toArray ct fz))
    (hl : vs.length = m) (hc : ∀ j v, vs[j]? = some v → cs[o + j]? = some v) : LoadsAs P H t b o (.agg vs.toArray) := by
  intro w hw
  obtain ⟨inf, hi, hs⟩ := Option.map_eq_some_iff.1 hsz
  subst hl
  have hld := run_loadCells_list (P := P) w ⟨b, o, none⟩ vs (fun j v hj => by rw [addr_add, cell_of hw hb]; exact hc j v hj)
  simp [loadVar, run_isAgg ha, sizeOf, typeInfo, hi, hs, hld]

def resH (P : Program) (H : Heap) (env : Env) : List ResultVar → List Value → Prop
  | [], vs => vs = []
  | .tmp t :: r, vs => ∃ v vs', vs = v :: vs' ∧ lk env t = some v ∧ resH P H env r vs'
  | .cell x t :: r, vs => ∃ v vs' b o, vs = v :: vs' ∧ lk env x = some (.pointer (some ⟨b, o, none⟩)) ∧ LoadsAs P H t b o v ∧ resH P H env r vs'

theorem run_resultsH {fn : Func} {a : Act} {vs : List Value} (hf : Fr n env a) (hr : resH P H env fn.results.toList vs) (w : World) (hw : w.heap = H) : (results fn a.tmps).run P w = .ok (tup vs) w := by
  have key : ∀ (rs : List ResultVar) (vs : List Value), resH P H env rs vs → (List.mapM (resOne a.tmps) rs).run P w = .ok vs w := by
    intro rs
    induction rs with
    | nil => intro vs h; simp only [resH] at h; subst h; simp
    | cons x rs ih =>
      intro vs h
      cases x with
      | tmp t =>
        simp only [resH] at h
        obtain ⟨v, us, rfl, hv, hr⟩ := h
        have := hf.get t v hv
        simp [List.mapM_cons, resOne, this, ih us hr]
      | cell x t =>
        simp only [resH] at h
        obtain ⟨v, us, b, o, rfl, hv, hl, hr⟩ := h
        have := hf.get x _ hv
        simp [List.mapM_cons, resOne, this, asAddr, hl w hw, ih us hr]
  have h2 := key fn.results.toList vs hr
  have h3 : (fn.results.mapM (resOne a.tmps)).run P w = .ok vs.toArray w := by
    rw [← Array.toArray_toList (xs := fn.results), List.mapM_toArray]
    simp [h2]
  rw [results_eq]
  simp only [Sem.run_bind, h3, Result.andThen_ok, Sem.run_pure]
  congr 1
  match vs with
  | [] => rfl
  | [v] => rfl
  | _ :: _ :: _ => simp [tup]

theorem N.retH {fn : Func} {R : Value → Heap → Prop} (vs : List Value) (hr : resH P H env fn.results.toList vs) (h : R (tup vs) H) : N n .ret (Post P fn R) env H :=
  fun _ hf => ⟨hf.defers, tup vs, fun w hw => run_resultsH hf hr w hw, h⟩
theorem N.endH {fn : Func} {R : Value → Heap → Prop} (vs : List Value) (hr : resH P H env fn.results.toList vs) (h : R (tup vs) H) : N n .normal (Post P fn R) env H :=
  fun _ hf => ⟨hf.defers, tup vs, fun w hw => run_resultsH hf hr w hw, h⟩

def envIn (args : Array Value) : Env → Prop
  | [] => True
  | (k, v) :: r => args[k]? = some v ∧ envIn args r

theorem envIn.get {args : Array Value} : ∀ {env : Env}, envIn args env → ∀ t v, lk env t = some v → args[t]? = some v
  | [], _, t, v, h => by simp [lk] at h
  | (k, u) :: r, hs, t, v, h => by
    simp only [lk] at h
    cases hb : Nat.beq k t with
    | true =>
      have : k = t := Nat.eq_of_beq_eq_true hb
      subst this
      rw [hb] at h; simp at h; subst h
      exact hs.1
    | false => rw [hb] at h; exact envIn.get hs.2 t v h

/-- Into a function. -/
theorem Ct.into {f : FuncId} {fn : Func} {c : Code} {args : Array Value} {R : Value → Heap → Prop} (n : Nat) (hf : P.funcs[f]? = some fn) (hb : fn.body = some c) (env : Env) (hn : args.size + (fn.ntmps - args.size) = n)
    (henv : envIn args env) (h : E P n c (Post P fn R) env H) : Ct P f args H R := Ct.of_E hf hb env hn henv.get h

end

end Go.SX
