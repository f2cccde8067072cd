/- Interface values in the walks; errors.As and errors.Is as contracts over heaps. -/
import Derived.Test.YtaofjmaekpjkhaaDoorT
import Derived.Stop.IfaceNil
namespace Go.Proofs.YtaofjmaekpjkhaaDoor
open Go.SX
set_option linter.unusedVariables false
section
variable {P : Program} {n : Nat} {l : List Oper} {F : Heap → Prop} {K : Act → Heap → Prop} {r : List (Nat × Kd)} {env : Env} {H : Heap} {i : Nat} {k : Kd}
variable {d : Option Tmp} {ty : TypeId} {pos : String} {aft : Array Edge} {g : Option (Nat × Bool)} {x y z : Operand} {t t' : TypeId}
theorem X.eqlI0 (ho : nth l i = some ⟨d, .binOp .eql t x (.const .nilIface) t', ty, pos, aft, g⟩) (hw : wantE l env ⟨d, .binOp .eql t x (.const .nilIface) t', ty, pos, aft, g⟩ = some true) (hd : dOK n d = true) (hk : noMk k = true)
    (hx : opv env x = some .nilIface) (ht : P.isIface t = true) (h : X P n l F K r (setd d (.bool true) env) H) : X P n l F K ((i, k) :: r) env H :=
  X.pure _ ho hw hd hk (fun ρ w hρ => by
    have hg : (eqGuard .eql t x (.const .nilIface) .nilIface .nilIface).run P w = .ok () w := by simp [eqGuard]
    have hy : ρ (.const .nilIface) = .nilIface := hρ _ _ rfl
    simp only [execOp, hρ _ _ hx, hy, Sem.run_bind, hg, Result.andThen_ok, run_eql_nil_nil_at w t ht, Sem.run_pure]) h
theorem X.eqlI1 {u : TypeId} {v : Value} (ho : nth l i = some ⟨d, .binOp .eql t x y t', ty, pos, aft, g⟩) (hw : wantE l env ⟨d, .binOp .eql t x y t', ty, pos, aft, g⟩ = some true) (hd : dOK n d = true) (hk : noMk k = true)
    (hx : opv env x = some (.iface u v)) (hy : opv env y = some .nilIface) (ht : P.isIface t = true) (h : X P n l F K r (setd d (.bool false) env) H) : X P n l F K ((i, k) :: r) env H :=
  X.pure _ ho hw hd hk (fun ρ w hρ => by
    have hg : (eqGuard .eql t x y (.iface u v) .nilIface).run P w = .ok () w := by simp [eqGuard]
    simp only [execOp, hρ _ _ hx, hρ _ _ hy, Sem.run_bind, hg, Result.andThen_ok, run_eql_iface_nil w t ht, Sem.run_pure]) h
theorem X.mkI {v : Value} (ho : nth l i = some ⟨d, .makeInterface t x, ty, pos, aft, g⟩) (hw : wantE l env ⟨d, .makeInterface t x, ty, pos, aft, g⟩ = some true) (hd : dOK n d = true) (hk : noMk k = true)
    (hx : opv env x = some v) {e : TypeId} (ht : P.underlying t = some (.pointer e)) (h : X P n l F K r (setd d (.iface t v) env) H) : X P n l F K ((i, k) :: r) env H :=
  X.pure _ ho hw hd hk (fun ρ w hρ => by
    simp [execOp, hρ _ _ hx, Instr.makeInterface, run_underlying ht]) h
end
theorem kp_setCell (w : World) (b o : Nat) (v : Value) : Kp [b] w.heap (w.setCell ⟨b, o, none⟩ v).heap :=
  ⟨by simp [World.setCell], fun c hc hS => by
    have : c ≠ b := by simpa using hS
    simp [World.setCell, Array.getElem?_modify, Ne.symm this]⟩
theorem setCell_at {w : World} {b : Nat} {old v : Value} {ct : TypeId} {fz : Nat × Nat} (h : w.heap[b]? = some (.cells #[old] ct fz)) : (w.setCell ⟨b, 0, none⟩ v).heap[b]? = some (.cells #[v] ct fz) := by
  simp [World.setCell, Array.getElem?_modify, h]
/-- The types' handle that errors.As asks for. -/
def Et (H : Heap) : Prop := ∃ ct fz, H[5]? = some (.cells #[.iface 82 (.agg #[.pointer (some ⟨6, 24, none⟩)])] ct fz)
theorem Et.keep {H H' : Heap} (h : Et H) (hk : Kp [] H H') : Et H' := by
  obtain ⟨ct, fz, h⟩ := h; exact ⟨ct, fz, hk.keep h (by simp)⟩
theorem as_hit_ct (e : Addr) (b : Nat) (old : Value) (ct : TypeId) (H : Heap) (hE : Et H) (hb : H[b]? = some (.cells #[old] ct (0, 0))) :
    Ct Tryd.prog 38 #[.iface 51 (.pointer (some e)), .iface 63 (.pointer (some ⟨b, 0, none⟩))] H fun v H' => v = .bool true ∧ H'[b]? = some (.cells #[.pointer (some e)] ct (0, 0)) ∧ Kp [b] H H' := by
  intro w hw
  subst hw
  obtain ⟨ct5, fz5, h5⟩ := hE
  refine (as_hit e ⟨b, 0, none⟩ old w (by simp [World.cell?, h5]) (by simp [World.cell?, hb]) (by simp [World.frozen?, hb])).mono ?_
  rintro ev w' ⟨rfl, rfl⟩
  refine ⟨_, rfl, ⟨rfl, rfl, rfl⟩, rfl, ?_, ?_⟩
  · apply setCell_at (old := old)
    have hlt := lt_of hb
    simp only [World.alloc]
    rw [Array.getElem?_push_lt (by simp; omega), ← Array.getElem?_eq_getElem, Array.getElem?_push_lt (by simp; omega), ← Array.getElem?_eq_getElem, Array.getElem?_push_lt (by simp; omega), ← Array.getElem?_eq_getElem, Array.getElem?_push_lt (by omega), ← Array.getElem?_eq_getElem]
    exact hb
  · refine Kp.trans ?_ (kp_setCell _ b 0 _) (fun c hc => .inl hc)
    exact ((((kp_push _ _).trans (kp_push _ _) (by simp)).trans (kp_push _ _) (by simp)).trans (kp_push _ _) (by simp)).mono (by simp)
theorem as_miss_ct (e : Addr) (b : Nat) (old : Value) (ct : TypeId) (H : Heap) (hE : Et H) (hb : H[b]? = some (.cells #[old] ct (0, 0))) :
    Ct Tryd.prog 38 #[.iface 97 (.pointer (some e)), .iface 63 (.pointer (some ⟨b, 0, none⟩))] H fun v H' => v = .bool false ∧ Kp [] H H' := by
  intro w hw
  subst hw
  obtain ⟨ct5, fz5, h5⟩ := hE
  refine (as_miss e ⟨b, 0, none⟩ old w (by simp [World.cell?, h5]) (by simp [World.cell?, hb]) (by simp [World.frozen?, hb])).mono ?_
  rintro ev w' ⟨rfl, rfl⟩
  exact ⟨_, rfl, ⟨rfl, rfl, rfl⟩, rfl, ((kp_push _ _).trans (kp_push _ _) (by simp)).trans (kp_push _ _) (by simp)⟩
/-- A chain of links that ends at a family. -/
def Ch (H : Heap) (e : Addr) : List (Int × Int) → Value → Prop
  | [], v => v = .iface 97 (.pointer (some e))
  | x :: r, v => ∃ b u, v = .iface 51 (.pointer (some ⟨b, 0, none⟩)) ∧ H[b]? = some (.cells ([.int .i64 x.1, .int .i64 x.2, u] : List Value).toArray 55 (0, 0)) ∧ Ch H e r u
theorem Ch.keep {H H' : Heap} {e : Addr} (hk : Kp [] H H') : ∀ {l : List (Int × Int)} {v : Value}, Ch H e l v → Ch H' e l v
  | [], v, h => h
  | x :: r, v, ⟨b, u, h1, h2, h3⟩ => ⟨b, u, h1, hk.keep h2 (by simp), Ch.keep hk h3⟩
theorem Ch.chn {W : World} {e : Addr} (he : ∃ c t, W.heap[e.block]? = some (.cells c t (0, 0))) : ∀ {l : List (Int × Int)} {v : Value}, Ch W.heap e l v → Chn W v l.length e
  | [], v, h => by
    obtain ⟨c, t, h1⟩ := he
    subst h; exact .leaf e c t h1
  | x :: r, v, ⟨b, u, h1, h2, h3⟩ => by
    subst h1
    refine .wrap b u r.length e ?_ (Ch.chn he h3)
    simp [World.cell?, h2]
theorem Ch.iface {H : Heap} {e : Addr} : ∀ {l : List (Int × Int)} {v : Value}, Ch H e l v → ∃ u x, v = .iface u x
  | [], v, h => ⟨_, _, h⟩
  | x :: r, v, ⟨b, u, h1, _⟩ => ⟨_, _, h1⟩
theorem is_ct (e b : Addr) (l : List (Int × Int)) (v : Value) (H : Heap) (he : ∃ c t, H[e.block]? = some (.cells c t (0, 0))) (hb : ∃ c t, H[b.block]? = some (.cells c t (0, 0))) (hc : Ch H e l v) :
    Ct Tryd.prog 32 #[v, .iface 97 (.pointer (some b))] H fun u H' => u = .bool (decide (e = b)) ∧ H' = H := by
  intro w hw
  subst hw
  obtain ⟨cb, tb, hb⟩ := hb
  obtain ⟨u, x, rfl⟩ := hc.iface
  refine (is_top b cb tb hb u x _ e (Ch.chn he hc)).mono ?_
  rintro ev w' ⟨rfl, rfl⟩
  exact ⟨_, rfl, Iw.refl _, rfl, rfl⟩
end Go.Proofs.YtaofjmaekpjkhaaDoor
