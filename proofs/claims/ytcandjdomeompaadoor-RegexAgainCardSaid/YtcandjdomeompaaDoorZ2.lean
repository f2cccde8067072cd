/- The walks of the sets' functions: the lowest bit, how many, the bytes. -/
import Derived.Test.YtcandjdomeompaaDoorZ1
import Derived.Test.YtcandjdomeompaaDoorZN
namespace Go.Proofs.YtcandjdomeompaaDoor
open Go.SX Go.Chr
attribute [local irreducible] X E N Ct
set_option linter.unusedVariables false
set_option linter.unusedSimpArgs false

/-- The table of the library lies where it was laid. -/
def Tab (H : Heap) : Prop := ∃ ct fz, H[0]? = some (.cells (tab.map fun (w : Nat) => Value.int .u8 (w : Int)).toArray ct fz)
theorem Tab.keep {H H' : Heap} (h : Tab H) (hk : Kp [] H H') : Tab H' := by
  obtain ⟨ct, fz, h⟩ := h; exact ⟨ct, fz, hk.keep h (by simp)⟩
theorem neg64 (x : Nat) (h0 : 0 < x) (h : x < 2 ^ 64) : IntKind.u64.wrap (0 - (x : Int)) = ((2 ^ 64 - x : Nat) : Int) := by
  rw [IntKind.wrap_u64]; omega
theorem mul64 (x y : Nat) : IntKind.u64.wrap ((x : Int) * (y : Int)) = ((x * y % 2 ^ 64 : Nat) : Int) := by
  rw [IntKind.wrap_u64, ← Int.natCast_mul]; omega
theorem tab_get (t : Nat) (h : t < 64) : (tab.map fun (w : Nat) => Value.int .u8 (w : Int))[2 ^ t * 285870213051353865 % 2 ^ 64 / 2 ^ 58]? = some (.int .u8 (t : Int)) := by
  rw [List.getElem?_map, tab_ok t h]; rfl

theorem tz_raw (x nx p y q t : Nat) (H : Heap) (hT : Tab H) (hx : x < 2 ^ 64) (hx0 : 0 < x) (hnx : IntKind.u64.wrap (0 - (x : Int)) = (nx : Int)) (hnl : nx < 2 ^ 64) (hand : x &&& nx = p) (hy : IntKind.u64.wrap ((p : Int) * ((285870213051353865 : Nat) : Int)) = (y : Int)) (hq : y / 2 ^ 58 = q) (hq64 : q < 64) (ht : t < 64) (htab : (tab.map fun (w : Nat) => Value.int .u8 (w : Int))[q]? = some (.int .u8 (t : Int))) : Ct Tryd.prog 51 #[.int .u64 (x : Nat)] H fun v H' => v = i64 t ∧ H' = H := by
  obtain ⟨ct, fz, hT⟩ := hT
  have hqi : (q : Int) < 64 := Int.ofNat_lt.2 hq64
  have hqi0 : (0 : Int) ≤ (q : Int) := Int.natCast_nonneg _
  refine Ct.into 14 Tryd.func51 rfl [(0, .int .u64 (x : Int))] rfl ⟨rfl, trivial⟩ ?_
  refine E.seq ?_
  refine E.region ?_
  refine X.asg rfl rfl rfl rfl rfl ?_
  refine X.done [(0, _), (2, _)] ⟨rfl, rfl, trivial⟩ ?_
  refine N.then ?_
  refine E.seq ?_
  refine E.seq ?_
  refine E.region ?_
  refine X.mv rfl rfl rfl rfl rfl ?_
  refine X.eqlF rfl rfl rfl rfl rfl rfl (fun h => absurd (Int.ofNat.inj h) (Nat.pos_iff_ne_zero.1 hx0)) ?_
  refine X.done [(0, _), (2, _), (4, _)] ⟨rfl, rfl, rfl, trivial⟩ ?_
  refine N.then ?_
  refine E.condF rfl ?_
  refine E.skip ?_
  refine N.then ?_
  refine E.seq ?_
  refine E.region ?_
  refine X.mv rfl rfl rfl rfl rfl ?_
  refine X.mv rfl rfl rfl rfl rfl ?_
  refine X.negE (zz := (nx : Int)) rfl rfl rfl rfl rfl hnx ?_
  refine X.bandE (zz := (p : Int)) rfl rfl rfl rfl rfl rfl (by rw [and64 rfl rfl hx hnl, hand]) ?_
  refine X.mulE (zz := (y : Int)) rfl rfl rfl rfl rfl rfl hy ?_
  refine X.shrE (zz := (q : Int)) rfl rfl rfl rfl rfl rfl (by omega) (by rw [← hq]; exact shrN (k := 58) rfl rfl (by decide)) ?_
  refine X.ixP rfl rfl rfl rfl rfl rfl Tryd.underlying75 Tryd.sz5 (⟨hqi0, hqi⟩) ?_
  refine X.ld rfl rfl rfl rfl Tryd.ag5 (hT) (by rw [Nat.zero_add, Nat.mul_one]; exact htab) ?_
  refine X.convE (zz := (t : Int)) rfl rfl rfl rfl rfl Tryd.underlying3 Tryd.us5 (IntWalk.i64_in _ (by omega)) ?_
  refine X.asg rfl rfl rfl rfl rfl ?_
  refine X.done [(2, _)] ⟨rfl, trivial⟩ ?_
  refine N.then ?_
  refine E.ret ?_
  exact N.retH [_] ⟨_, _, rfl, rfl, rfl⟩ ⟨rfl, rfl⟩

theorem tz_ct {x : Nat} (t m : Nat) (H : Heap) (hT : Tab H) (e : x = 2 ^ t * (2 * m + 1)) (hx : x < 2 ^ 64) : Ct Tryd.prog 51 #[.int .u64 x] H fun v H' => v = i64 t ∧ H' = H := by
  subst e
  obtain ⟨ht, hand⟩ := low_and hx
  have hx0 : 0 < 2 ^ t * (2 * m + 1) := Nat.mul_pos (Nat.two_pow_pos t) (by omega)
  refine tz_raw (2 ^ t * (2 * m + 1)) (2 ^ 64 - 2 ^ t * (2 * m + 1)) (2 ^ t) (2 ^ t * 285870213051353865 % 2 ^ 64) (2 ^ t * 285870213051353865 % 2 ^ 64 / 2 ^ 58) t H hT hx hx0 (neg64 _ hx0 hx) (Nat.sub_lt (by decide) hx0) hand (mul64 (2 ^ t) 285870213051353865) rfl ?_ ht (tab_get t ht)
  apply (Nat.div_lt_iff_lt_mul (by decide)).2
  exact Nat.lt_of_lt_of_le (Nat.mod_lt _ (by decide)) (by decide)

end Go.Proofs.YtcandjdomeompaaDoor
