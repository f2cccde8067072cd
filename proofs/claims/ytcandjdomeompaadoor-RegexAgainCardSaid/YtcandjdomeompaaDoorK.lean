/- Rows of one-cell elements, read at each place; shifts by a number known. -/
import Derived.Test.YtcandjdomeompaaDoorJ
namespace Go.SX
open Go

abbrev iv (l : List Int) : List Value := l.map fun x => .int .i64 x
abbrev nv (l : List Nat) : List Value := l.map fun (x : Nat) => .int .i64 (x : Int)

/-- A row's elements, wherever the row lies. -/
structure Row1 (H : Heap) (a : Option Addr) (b o : Nat) (vs : List Value) : Prop where
  get : ∀ (i : Nat) (v : Value), vs[i]? = some v → a = some ⟨b, o, none⟩ ∧ ∃ (cs : List Value) (ct : TypeId) (fz : Nat × Nat), H[b]? = some (.cells cs.toArray ct fz) ∧ cs[o + i]? = some v
theorem Row1.of_rd {H : Heap} {a : Option Addr} {n c : Nat} {vs : List Value} (h : Rd H 1 (.slice a n c) n vs) : ∃ b o, Row1 H a b o vs ∧ (vs = [] ∨ a = some ⟨b, o, none⟩) := by
  obtain ⟨hl, a', c', he, hr⟩ := h
  cases he
  rcases hr with rfl | ⟨b, o, cs, ct, fz, rfl, hb, h3⟩
  · exact ⟨0, 0, ⟨fun i v h => by simp at h⟩, .inl rfl⟩
  · exact ⟨b, o, ⟨fun i v h => ⟨rfl, cs, ct, fz, hb, h3 i v h⟩⟩, .inr rfl⟩
theorem Row1.keep {H H' : Heap} {a : Option Addr} {b o : Nat} {vs : List Value} {S : List Nat} (h : Row1 H a b o vs) (hk : Kp S H H') (hS : b ∉ S) : Row1 H' a b o vs :=
  ⟨fun i v hi => by
    obtain ⟨h1, cs, ct, fz, h2, h3⟩ := h.get i v hi
    exact ⟨h1, cs, ct, fz, hk.keep h2 hS, h3⟩⟩
/-- .. where what turns is new. -/
theorem Row1.keepN {H H' : Heap} {a : Option Addr} {b o : Nat} {vs : List Value} (h : Row1 H a b o vs) (hk : Kp [] H H') : Row1 H' a b o vs := h.keep hk (by simp)
theorem Row1.cells {H : Heap} {b : Nat} {vs sp : List Value} {ct : TypeId} {fz : Nat × Nat} (hb : H[b]? = some (.cells (vs ++ sp).toArray ct fz)) : Row1 H (some ⟨b, 0, none⟩) b 0 vs :=
  ⟨fun i v h => ⟨rfl, _, ct, fz, hb, by rw [Nat.zero_add, List.getElem?_append_left (List.getElem?_eq_some_iff.1 h).1]; exact h⟩⟩
theorem Row1.cells0 {H : Heap} {b : Nat} {vs : List Value} {ct : TypeId} {fz : Nat × Nat} (hb : H[b]? = some (.cells vs.toArray ct fz)) : Row1 H (some ⟨b, 0, none⟩) b 0 vs :=
  Row1.cells (sp := []) (by simpa using hb)
theorem Row1.lt {H : Heap} {a : Option Addr} {b o : Nat} {vs : List Value} (h : Row1 H a b o vs) (h0 : vs ≠ []) : b < H.size := by
  cases vs with
  | nil => exact absurd rfl h0
  | cons v vs => obtain ⟨_, _, _, _, h2, _⟩ := h.get 0 v rfl; exact lt_of h2

theorem shlN {p : Int} {q : Int} {k : Nat} (hq : q = k) (hk : k ≤ 63) (h1 : -9223372036854775808 ≤ p * 2 ^ k) (h2 : p * 2 ^ k ≤ 9223372036854775807) : IntKind.i64.wrap (p * 2 ^ (min q.toNat IntKind.i64.bits)) = p * 2 ^ k := by
  subst hq
  have e : min (k : Int).toNat IntKind.i64.bits = k := by simp [IntKind.bits]; omega
  rw [e]; exact IntWalk.i64_in _ ⟨h1, h2⟩
theorem shlU {p : Int} {q : Int} {k : Nat} (hq : q = k) (hk : k ≤ 64) (h1 : 0 ≤ p * 2 ^ k) (h2 : p * 2 ^ k ≤ 18446744073709551615) : IntKind.u64.wrap (p * 2 ^ (min q.toNat IntKind.u64.bits)) = p * 2 ^ k := by
  subst hq
  have e : min (k : Int).toNat IntKind.u64.bits = k := by simp [IntKind.bits]; omega
  rw [e]; exact IntWalk.u64_in _ ⟨h1, h2⟩
theorem shrN {p q : Int} {kd : IntKind} {m k : Nat} (hp : p = m) (hq : q = k) (hk : k ≤ kd.bits) : p.fdiv (2 ^ (min q.toNat kd.bits)) = ((m / 2 ^ k : Nat) : Int) := by
  subst hp hq
  have e : min (k : Int).toNat kd.bits = k := by rw [Int.toNat_natCast]; omega
  rw [e, Int.fdiv_eq_ediv_of_nonneg _ (Int.le_of_lt (Int.pow_pos (by decide)))]
  simp

section
variable {P : Program} {n : Nat} {l : List Oper} {F : Heap → Prop} {K : Act → Heap → Prop} {r : List (Nat × Kd)} {env : Env} {H : Heap} {i : Nat} {k : Kd}
variable {d : Option Tmp} {ty : TypeId} {pos : String} {aft : Array Edge} {g : Option (Nat × Bool)} {x y z : Operand} {t t' : TypeId}

/-- The address of a slice's element, the slice's address said aside. -/
theorem X.ixAe {a : Option Addr} {b o m c sz : Nat} {q : Int} {kq : IntKind} {e : TypeId} (ho : nth l i = some ⟨d, .indexAddr t x y, ty, pos, aft, g⟩) (hw : wantE l env ⟨d, .indexAddr t x y, ty, pos, aft, g⟩ = some true) (hd : dOK n d = true) (hk : noMk k = true)
    (hx : opv env x = some (.slice a m c)) (hy : opv env y = some (.int kq q)) (hu : P.underlying t = some (.slice e)) (hsz : (P.info? e).map (·.size) = some sz) (ha : a = some ⟨b, o, none⟩) (hq : 0 ≤ q ∧ q < m)
    (h : X P n l F K r (setd d (.pointer (some ⟨b, o + q.toNat * sz, none⟩)) env) H) : X P n l F K ((i, k) :: r) env H := by
  subst ha; exact X.ixA ho hw hd hk hx hy hu hsz hq h

end
end Go.SX
