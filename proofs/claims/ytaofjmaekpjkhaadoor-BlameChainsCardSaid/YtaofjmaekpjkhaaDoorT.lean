/- errors.Is at a chain of links that ends in a family (the kit's worked proof at a chain, turned to this program). -/
import Derived.Test.YtaofjmaekpjkhaaDoorS
import Derived.Elder7
namespace Go.Proofs.YtaofjmaekpjkhaaDoor
open Go.RowKit Go.Extern.Stop Go.Stop Go.Extern

theorem Tryd.isTypeOf (v : Value) (w : World) : (Extern.ReflectliteType.typeOf #[.iface 97 v]).run Tryd.prog w = .ok (.iface 82 (.agg #[.pointer (some ⟨6, 97, none⟩)])) w := by kernel_rfl
theorem Tryd.call72 (w : World) : (callFunc 72 #[.agg #[.pointer (some ⟨6, 97, none⟩)]]).run Tryd.prog w = .ok (.value (.bool true)) w := by kernel_rfl
theorem Tryd.isMethodComparable (v : Value) (w : World) : (Go.method 229 82 v "Comparable").run Tryd.prog w = .ok (72, v) w := by kernel_rfl
theorem Tryd.isComp : (Tryd.prog.info? 97).map (·.comparable) = some true := by kernel_rfl
theorem Tryd.isSize : (Tryd.prog.info? 117).map (·.size) = some 1 := by kernel_rfl
theorem Tryd.noIsE (v : Value) (xT : TypeId) (w : World) : (Instr.typeAssert (.iface 97 v) xT 84 true).run Tryd.prog w = .ok (.tuple #[.nilIface, .bool false]) w := run_typeAssert_lacksB Tryd.underlying84 (by kernel_rfl) (by kernel_rfl) v xT w
theorem Tryd.noIsW (v : Value) (xT : TypeId) (w : World) : (Instr.typeAssert (.iface 51 v) xT 84 true).run Tryd.prog w = .ok (.tuple #[.nilIface, .bool false]) w := run_typeAssert_lacksB Tryd.underlying84 (by kernel_rfl) (by kernel_rfl) v xT w
theorem Tryd.hasUnwrapW (v : Value) (xT : TypeId) (w : World) : (Instr.typeAssert (.iface 51 v) xT 87 true).run Tryd.prog w = .ok (.tuple #[.iface 51 v, .bool true]) w := run_typeAssert_hasB Tryd.underlying87 (by kernel_rfl) v xT w
theorem Tryd.methodUnwrap (v : Value) (w : World) : (Go.method 229 51 v "Unwrap").run Tryd.prog w = .ok (66, v) w := by kernel_rfl

/-- A chain in the world: the value, its links, the end. -/
inductive Chn (W : World) : Value → Nat → Addr → Prop
  | leaf (a : Addr) (ca : Array Value) (ta : TypeId) : W.heap[a.block]? = some (.cells ca ta (0, 0)) → Chn W (.iface 97 (.pointer (some a))) 0 a
  | wrap (pb : Nat) (E : Value) (n : Nat) (a : Addr) : W.cell? ⟨pb, 2, none⟩ = some E → Chn W E n a → Chn W (.iface 51 (.pointer (some ⟨pb, 0, none⟩))) (n + 1) a
theorem Chn.unique {W : World} {E : Value} {n n' : Nat} {a a' : Addr} (h : Chn W E n a) (h' : Chn W E n' a') : n = n' := by
  induction h generalizing n' a' with
  | leaf a ca ta _ => cases h'; rfl
  | wrap pb E1 n1 a1 hc h1 ih =>
    cases h' with
    | wrap _ E2 n2 a2 hc2 h2 => rw [hc] at hc2; cases hc2; rw [ih h2]
open Classical in
noncomputable def chainLen (W : World) (E : Value) : Nat := if h : ∃ n a, Chn W E n a then h.choose else 0
theorem chainLen_eq {W : World} {E : Value} {n : Nat} {a : Addr} (h : Chn W E n a) : chainLen W E = n := by
  unfold chainLen
  have hx : ∃ n a, Chn W E n a := ⟨n, a, h⟩
  rw [dif_pos hx]
  obtain ⟨a', ha'⟩ := hx.choose_spec
  exact Chn.unique ha' h

set_option maxRecDepth 1000000 in
theorem is_chain {W : World} (b : Addr) (cb : Array Value) (tb : TypeId) (hb : W.heap[b.block]? = some (.cells cb tb (0, 0))) (E : Value) (n : Nat) (a : Addr) (hch : Chn W E n a) :
    Calls Tryd.prog 41 #[E, .iface 97 (.pointer (some b)), .bool true] W fun e w' => e = .returned (.bool (decide (a = b))) ∧ w' = W := by
  obtain ⟨i, hi, hcmp⟩ := Option.map_eq_some_iff.1 Tryd.isComp
  obtain ⟨j, hj, hjs⟩ := Option.map_eq_some_iff.1 Tryd.isSize
  have nE := Tryd.noIsE
  have uE := Tryd.noUnwrap97
  have vE := Tryd.noUnwraps97
  have nW := Tryd.noIsW
  have uW := Tryd.hasUnwrapW
  have mU := Tryd.methodUnwrap
  go_enter Tryd.func41, Tryd.ntmps41
  go_wp2
  go_loopw [0] (fun E' wl => wl = W ∧ ∃ n', Chn W E' n' a) (fun E' _ => chainLen W E')
  case atStart => exact ⟨rfl, n, hch⟩
  case round =>
    obtain ⟨rfl, n', hc'⟩ := hrel
    cases hc' with
    | leaf a ca ta ha =>
      by_cases hab : a = b
      · subst hab
        have heq := run_eql_iface_ptr_same (P := Tryd.prog) wr a Tryd.underlying24 Tryd.underlying97 hi hcmp hj
        go_wp2
        go_ret
        exact ⟨by simp, rfl⟩
      · have heq := run_eql_iface_ptr_other (P := Tryd.prog) wr Tryd.underlying24 Tryd.underlying97 hi hcmp hj (by rw [hjs]; decide) hab ha hb
        go_wp2
        go_ret
        exact ⟨by rw [decide_eq_false hab]; rfl, rfl⟩
    | wrap pb E1 n1 a1 hcell h1 =>
      have hty := run_eql_iface_types (P := Tryd.prog) 51 97 (.pointer (some ⟨pb, 0, none⟩)) (.pointer (some b)) Tryd.underlying24 (by decide) wr
      have hlen := chainLen_eq h1
      have hlen0 := chainLen_eq (Chn.wrap pb E1 n1 a hcell h1)
      have hne : ∃ u v, E1 = .iface u v := by cases h1 <;> exact ⟨_, _, rfl⟩
      obtain ⟨u1, v1, rfl⟩ := hne
      have HC : Hid (Chn wr (.iface u1 v1) n1 a) := h1
      clear h1
      go_wp2
      go_roundw
      case rel => exact ⟨trivial, n1, HC.out⟩
      case measure =>
        show chainLen wr (.iface u1 v1) < _
        rw [hlen, hlen0]; simp
theorem is_top {W : World} (b : Addr) (cb : Array Value) (tb : TypeId) (hb : W.heap[b.block]? = some (.cells cb tb (0, 0))) (u : TypeId) (x : Value) (n : Nat) (a : Addr) (hch : Chn W (.iface u x) n a) :
    Calls Tryd.prog 32 #[.iface u x, .iface 97 (.pointer (some b))] W fun e w' => e = .returned (.bool (decide (a = b))) ∧ w' = W := by
  have h10 := @run_callFunc_extern Tryd.prog 40 _ ReflectliteType.typeOf Tryd.func40 (by kernel_rfl) (by kernel_rfl) (by kernel_rfl) (by kernel_rfl)
  have h72 := Tryd.call72
  have tO := Tryd.isTypeOf
  have mC := Tryd.isMethodComparable
  go_enter Tryd.func32, Tryd.ntmps32
  go_wp2_with (go_at_call 41; refine (is_chain b cb tb hb _ n a hch).mono ?_; rintro e w' ⟨rfl, rfl⟩)
  go_ret
  exact ⟨rfl, rfl⟩
end Go.Proofs.YtaofjmaekpjkhaaDoor
