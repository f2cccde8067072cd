/- The operations' laws: strings, slices, append, copy, clear, make, literals, function values. -/
import Derived.Test.YtaofjmaekpjkhaaDoorE
import Derived.Laws.MakeOwn
namespace Go.SX
open Go

/-- A slice value that owns the cells 'vs' at the head of a row (n elements of sz cells). -/
def Own (H : Heap) (e : TypeId) (sz : Nat) (v : Value) (n : Nat) (vs : List Value) : Prop :=
  vs.length = n * sz ∧ ((v = .slice none 0 0 ∧ n = 0) ∨
    ∃ b cap sp, v = .slice (some ⟨b, 0, none⟩) n cap ∧ H[b]? = some (.cells (vs ++ sp).toArray e (0, 0)) ∧ (vs ++ sp).length = cap * sz ∧ n ≤ cap ∧ cap ≤ maxLen)

def blk : Value → List Nat
  | .slice (some a) _ _ => [a.block]
  | _ => []

theorem Own.nil (H : Heap) (e : TypeId) (sz : Nat) : Own H e sz (.slice none 0 0) 0 [] := ⟨by simp, .inl ⟨rfl, rfl⟩⟩
theorem Own.len {H : Heap} {e : TypeId} {sz : Nat} {v : Value} {n : Nat} {vs : List Value} (h : Own H e sz v n vs) : ∃ a c, v = .slice a n c := by
  rcases h.2 with ⟨h1, h2⟩ | ⟨b, cap, sp, h1, _⟩
  · exact ⟨none, 0, by rw [h1, h2]⟩
  · exact ⟨_, _, h1⟩
theorem Own.lt {H : Heap} {e : TypeId} {sz : Nat} {v : Value} {n : Nat} {vs : List Value} (h : Own H e sz v n vs) : ∀ b ∈ blk v, b < H.size := by
  rcases h.2 with ⟨h1, h2⟩ | ⟨b, cap, sp, h1, h2, _⟩
  · subst h1; simp [blk]
  · subst h1; simp [blk]; exact lt_of h2
theorem Own.keep {H H' : Heap} {e : TypeId} {sz : Nat} {v : Value} {n : Nat} {vs : List Value} {S : List Nat} (h : Own H e sz v n vs) (hk : Kp S H H') (hS : ∀ b ∈ blk v, b ∉ S) : Own H' e sz v n vs := by
  refine ⟨h.1, ?_⟩
  rcases h.2 with h1 | ⟨b, cap, sp, h1, h2, h3⟩
  · exact .inl h1
  · subst h1; exact .inr ⟨b, cap, sp, rfl, hk.keep h2 (hS b (by simp [blk])), h3⟩

theorem Own.toRow {w : World} {e : TypeId} {sz : Nat} {v : Value} {n : Nat} {vs : List Value} (h : Own w.heap e sz v n vs) : w.ownsRow 0 e sz v n vs := by
  refine ⟨h.1, ?_⟩
  rcases h.2 with h1 | ⟨b, cap, sp, h1, h2, h3, h4, h5⟩
  · exact .inl h1
  · refine .inr ⟨b, cap, _, h1, Nat.zero_le _, h2, h4, h5, by simpa using h3, ?_⟩
    simp [← h.1]

/-- What is read of a slice: its elements' cells. -/
def Rd (H : Heap) (sz : Nat) (v : Value) (n : Nat) (vs : List Value) : Prop :=
  vs.length = n * sz ∧ ∃ a c, v = .slice a n c ∧ (vs = [] ∨ ∃ b o cs ct fz, a = some ⟨b, o, none⟩ ∧ H[b]? = some (.cells (cs : List Value).toArray ct fz) ∧ ∀ j u, vs[j]? = some u → cs[o + j]? = some u)

theorem Own.rd {H : Heap} {e : TypeId} {sz : Nat} {v : Value} {n : Nat} {vs : List Value} (h : Own H e sz v n vs) : Rd H sz v n vs := by
  refine ⟨h.1, ?_⟩
  rcases h.2 with ⟨h1, h2⟩ | ⟨b, cap, sp, h1, h2, h3, h4, h5⟩
  · subst h2; exact ⟨none, 0, h1, .inl (List.eq_nil_of_length_eq_zero (by simpa using h.1))⟩
  · refine ⟨_, _, h1, .inr ⟨b, 0, _, e, _, rfl, h2, fun j u hj => ?_⟩⟩
    have := (List.getElem?_eq_some_iff.1 hj).1
    rw [Nat.zero_add, List.getElem?_append_left this]; exact hj

theorem Rd.keep {H H' : Heap} {sz : Nat} {v : Value} {n : Nat} {vs : List Value} {S : List Nat} (h : Rd H sz v n vs) (hk : Kp S H H') (hS : ∀ b ∈ blk v, b ∉ S) : Rd H' sz v n vs := by
  obtain ⟨h1, a, c, rfl, h2⟩ := h
  refine ⟨h1, a, c, rfl, ?_⟩
  rcases h2 with h2 | ⟨b, o, cs, ct, fz, rfl, hb, h3⟩
  · exact .inl h2
  · exact .inr ⟨b, o, cs, ct, fz, rfl, hk.keep hb (hS b (by simp [blk])), h3⟩

/-- What an append's second argument yields. -/
def SrcH (H : Heap) (sz : Nat) (v : Value) (m : Nat) (news : List Value) : Prop :=
  (Rd H sz v m news) ∨ (sz = 1 ∧ ∃ s : List UInt8, v = .string ⟨s.toArray⟩ ∧ m = s.length ∧ news = s.map fun c => Value.int .u8 c.toNat)

theorem SrcH.src {P : Program} {w : World} {sz : Nat} {v : Value} {m : Nat} {news : List Value} {tx : TypeId} (h : SrcH w.heap sz v m news)
    (hk : (∃ e', P.underlying tx = some (.slice e') ∧ ∃ a c, v = .slice a m c) ∨ P.underlying tx = some .string ∧ ∃ s, v = .string s) (h1 : ∀ u ∈ news, u.oneCell' = true) : Src P sz tx v m news w := by
  rcases h with ⟨hl, a, c, rfl, hr⟩ | ⟨rfl, s, rfl, rfl, rfl⟩
  · rcases hk with ⟨e', hk, _⟩ | ⟨_, s, hs⟩
    · rcases hr with hr | ⟨b, o, cs, ct, fz, rfl, hb, hc⟩
      · subst hr
        have hz : m * sz = 0 := by simpa using hl.symm
        cases a with
        | none => exact ⟨.inl ⟨e', hk⟩, fun _ => rfl, run_firstCells_none w sz m m c, run_firstCells_none w.drew sz m m c, by simpa using hl, h1⟩
        | some a =>
          exact ⟨.inl ⟨e', hk⟩, fun _ => rfl, run_firstCells_some w sz m a m c [] (by simpa using hl) (by simp), run_firstCells_some w.drew sz m a m c [] (by simpa using hl) (by simp), by simpa using hl, h1⟩
      · exact Src.ofSlice w hk _ m c news hl (fun j u hj => by rw [addr_add, cell_of rfl hb]; exact hc j u hj) h1
    · cases hs
  · rcases hk with ⟨e', _, a, c, hs⟩ | ⟨hk, _⟩
    · cases hs
    · have := Src.ofString (P := P) w hk ⟨s.toArray⟩
      simpa [byteCells, ByteArray.size] using this

section
variable {P : Program} {n : Nat} {l : List Oper} {F : Heap → Prop} {K : Act → Heap → Prop} {r : List (Nat × Kd)} {env : Env} {H : Heap} {i : Nat} {k : Kd}
variable {d : Option Tmp} {ty : TypeId} {pos : String} {aft : Array Edge} {g : Option (Nat × Bool)} {x y z : Operand} {t t' : TypeId}

/-! ### strings -/
theorem X.lenL {s : List UInt8} (ho : nth l i = some ⟨d, .call ⟨.builtin .len, #[x], #[t]⟩, ty, pos, aft, g⟩) (hw : wantE l env ⟨d, .call ⟨.builtin .len, #[x], #[t]⟩, ty, pos, aft, g⟩ = some true) (hd : dOK n d = true) (hk : noMk k = true)
    (hx : opv env x = some (.string ⟨s.toArray⟩)) (hu : P.underlying t = some .string) (h : X P n l F K r (setd d (.int .i64 s.length) env) H) : X P n l F K ((i, k) :: r) env H :=
  X.lenT ho hw hd hk hx hu (by simpa [ByteArray.size] using h)

theorem X.eqlS {s u : List UInt8} (ho : nth l i = some ⟨d, .binOp .eql t x y t', ty, pos, aft, g⟩) (hw : wantE l env ⟨d, .binOp .eql t x y t', ty, pos, aft, g⟩ = some true) (hd : dOK n d = true) (hk : noMk k = true)
    (hx : opv env x = some (.string ⟨s.toArray⟩)) (hy : opv env y = some (.string ⟨u.toArray⟩)) (h : X P n l F K r (setd d (.bool (decide (s = u))) env) H) : X P n l F K ((i, k) :: r) env H :=
  X.pure _ ho hw hd hk (fun ρ w hρ => by simp [execOp, hρ _ _ hx, hρ _ _ hy, eqGuard, binOp, Op.stringOp]; rw [Bool.eq_iff_iff]; simp) h
theorem X.neqS {s u : List UInt8} (ho : nth l i = some ⟨d, .binOp .neq t x y t', ty, pos, aft, g⟩) (hw : wantE l env ⟨d, .binOp .neq t x y t', ty, pos, aft, g⟩ = some true) (hd : dOK n d = true) (hk : noMk k = true)
    (hx : opv env x = some (.string ⟨s.toArray⟩)) (hy : opv env y = some (.string ⟨u.toArray⟩)) (h : X P n l F K r (setd d (.bool (decide (s ≠ u))) env) H) : X P n l F K ((i, k) :: r) env H :=
  X.pure _ ho hw hd hk (fun ρ w hρ => by simp [execOp, hρ _ _ hx, hρ _ _ hy, eqGuard, binOp, Op.stringOp]; rw [Bool.eq_iff_iff]; simp) h
theorem X.cat {s u : List UInt8} (ho : nth l i = some ⟨d, .binOp .add t x y t', ty, pos, aft, g⟩) (hw : wantE l env ⟨d, .binOp .add t x y t', ty, pos, aft, g⟩ = some true) (hd : dOK n d = true) (hk : noMk k = true)
    (hx : opv env x = some (.string ⟨s.toArray⟩)) (hy : opv env y = some (.string ⟨u.toArray⟩)) (hr : s.length + u.length ≤ 9223372036854775807) (h : X P n l F K r (setd d (.string ⟨(s ++ u).toArray⟩) env) H) : X P n l F K ((i, k) :: r) env H := by
  refine X.pure _ ho hw hd hk (fun ρ w hρ => ?_) h
  have h1 : ¬ ((9223372036854775807 : Int) < (s.length : Int) + (u.length : Int)) := by omega
  have h2 : (⟨s.toArray⟩ : ByteArray) ++ ⟨u.toArray⟩ = ⟨(s ++ u).toArray⟩ := by
    apply ByteArray.ext; simp
  simp [execOp, hρ _ _ hx, hρ _ _ hy, eqGuard, binOp, Op.stringOp, ByteArray.size, h1, h2]

theorem size_mk (s : List UInt8) : (⟨s.toArray⟩ : ByteArray).size = s.length := rfl
/-- 's[lo:hi]' of a string. -/
theorem extract_mk (s : List UInt8) (a b : Nat) : (⟨s.toArray⟩ : ByteArray).extract a b = ⟨((s.take b).drop a).toArray⟩ := by
  apply ByteArray.ext
  simp [ByteArray.data_extract, List.drop_take]
theorem X.slS {s : List UInt8} {p q : Int} {k1 k2 : IntKind} (ho : nth l i = some ⟨d, .slice t x (some y) (some z) none, ty, pos, aft, g⟩) (hw : wantE l env ⟨d, .slice t x (some y) (some z) none, ty, pos, aft, g⟩ = some true) (hd : dOK n d = true) (hk : noMk k = true)
    (hx : opv env x = some (.string ⟨s.toArray⟩)) (hy : opv env y = some (.int k1 p)) (hz : opv env z = some (.int k2 q)) (hu : P.underlying t = some .string) (hb : 0 ≤ p ∧ p ≤ q ∧ q ≤ s.length)
    (h : X P n l F K r (setd d (.string ⟨((s.take q.toNat).drop p.toNat).toArray⟩) env) H) : X P n l F K ((i, k) :: r) env H := by
  refine X.pure _ ho hw hd hk (fun ρ w hρ => ?_) h
  have hq0 : 0 ≤ q := by omega
  obtain ⟨p', rfl⟩ := Int.eq_ofNat_of_zero_le hb.1
  obtain ⟨q', rfl⟩ := Int.eq_ofNat_of_zero_le hq0
  have h0 : q' ≤ s.length := by omega
  have h1 : p' ≤ q' := by omega
  simp [execOp, hρ _ _ hx, hρ _ _ hy, hρ _ _ hz, Instr.sliceAt, run_underlying hu, Instr.slice, Instr.sliceBounds, Instr.sliceBound, asIntOf, size_mk, h0, h1, extract_mk]
theorem X.slS1 {s : List UInt8} {p : Int} {k1 : IntKind} (ho : nth l i = some ⟨d, .slice t x (some y) none none, ty, pos, aft, g⟩) (hw : wantE l env ⟨d, .slice t x (some y) none none, ty, pos, aft, g⟩ = some true) (hd : dOK n d = true) (hk : noMk k = true)
    (hx : opv env x = some (.string ⟨s.toArray⟩)) (hy : opv env y = some (.int k1 p)) (hu : P.underlying t = some .string) (hb : 0 ≤ p ∧ p ≤ s.length)
    (h : X P n l F K r (setd d (.string ⟨(s.drop p.toNat).toArray⟩) env) H) : X P n l F K ((i, k) :: r) env H := by
  refine X.pure _ ho hw hd hk (fun ρ w hρ => ?_) h
  simp [execOp, hρ _ _ hx, hρ _ _ hy, Instr.sliceAt, run_underlying hu, Instr.slice, Instr.sliceBounds, Instr.sliceBound, asIntOf, size_mk, hb, extract_mk]
theorem X.slS2 {s : List UInt8} {q : Int} {k2 : IntKind} (ho : nth l i = some ⟨d, .slice t x none (some z) none, ty, pos, aft, g⟩) (hw : wantE l env ⟨d, .slice t x none (some z) none, ty, pos, aft, g⟩ = some true) (hd : dOK n d = true) (hk : noMk k = true)
    (hx : opv env x = some (.string ⟨s.toArray⟩)) (hz : opv env z = some (.int k2 q)) (hu : P.underlying t = some .string) (hb : 0 ≤ q ∧ q ≤ s.length)
    (h : X P n l F K r (setd d (.string ⟨(s.take q.toNat).toArray⟩) env) H) : X P n l F K ((i, k) :: r) env H := by
  refine X.pure _ ho hw hd hk (fun ρ w hρ => ?_) h
  simp [execOp, hρ _ _ hx, hρ _ _ hz, Instr.sliceAt, run_underlying hu, Instr.slice, Instr.sliceBounds, Instr.sliceBound, asIntOf, size_mk, hb, extract_mk]

/-! ### slices of slices: 'v[lo:]', 'v[:hi]', 'v[lo:hi]' -/
theorem X.sl1 {a : Option Addr} {m c sz : Nat} {p : Int} {k1 : IntKind} {e : TypeId} (ho : nth l i = some ⟨d, .slice t x (some y) none none, ty, pos, aft, g⟩) (hw : wantE l env ⟨d, .slice t x (some y) none none, ty, pos, aft, g⟩ = some true) (hd : dOK n d = true) (hk : noMk k = true)
    (hx : opv env x = some (.slice a m c)) (hy : opv env y = some (.int k1 p)) (hu : P.underlying t = some (.slice e)) (hsz : (P.info? e).map (·.size) = some sz) (hb : 0 ≤ p ∧ p ≤ m)
    (h : X P n l F K r (setd d (.slice (if c = p.toNat then a else a.map (·.add (p.toNat * sz))) (m - p.toNat) (c - p.toNat)) env) H) : X P n l F K ((i, k) :: r) env H := by
  refine X.pure _ ho hw hd hk (fun ρ w hρ => ?_) h
  obtain ⟨inf, hi, hs⟩ := Option.map_eq_some_iff.1 hsz
  simp [execOp, hρ _ _ hx, hρ _ _ hy, Instr.sliceAt, run_underlying hu, Instr.slice, Instr.sliceBounds, Instr.sliceBound, asIntOf, hb, sizeOf, typeInfo, hi, hs]
theorem X.sl2 {a : Option Addr} {m c : Nat} {q : Int} {k2 : IntKind} {e : TypeId} (ho : nth l i = some ⟨d, .slice t x none (some z) none, ty, pos, aft, g⟩) (hw : wantE l env ⟨d, .slice t x none (some z) none, ty, pos, aft, g⟩ = some true) (hd : dOK n d = true) (hk : noMk k = true)
    (hx : opv env x = some (.slice a m c)) (hz : opv env z = some (.int k2 q)) (hu : P.underlying t = some (.slice e)) (hsz : (P.info? e).isSome = true) (hb : 0 ≤ q ∧ q ≤ c)
    (h : X P n l F K r (setd d (.slice a q.toNat c) env) H) : X P n l F K ((i, k) :: r) env H := by
  refine X.pure _ ho hw hd hk (fun ρ w hρ => ?_) h
  obtain ⟨inf, hi⟩ := Option.isSome_iff_exists.1 hsz
  simp [execOp, hρ _ _ hx, hρ _ _ hz, Instr.sliceAt, run_underlying hu, Instr.slice, Instr.sliceBounds, Instr.sliceBound, asIntOf, hb, sizeOf, typeInfo, hi]
  intro _
  cases a with
  | none => rfl
  | some a => simp [Addr.add]
theorem X.sl3 {a : Option Addr} {m c sz : Nat} {p q : Int} {k1 k2 : IntKind} {e : TypeId} (ho : nth l i = some ⟨d, .slice t x (some y) (some z) none, ty, pos, aft, g⟩) (hw : wantE l env ⟨d, .slice t x (some y) (some z) none, ty, pos, aft, g⟩ = some true) (hd : dOK n d = true) (hk : noMk k = true)
    (hx : opv env x = some (.slice a m c)) (hy : opv env y = some (.int k1 p)) (hz : opv env z = some (.int k2 q)) (hu : P.underlying t = some (.slice e)) (hsz : (P.info? e).map (·.size) = some sz) (hb : 0 ≤ p ∧ p ≤ q ∧ q ≤ c)
    (h : X P n l F K r (setd d (.slice (if c = p.toNat then a else a.map (·.add (p.toNat * sz))) (q.toNat - p.toNat) (c - p.toNat)) env) H) : X P n l F K ((i, k) :: r) env H := by
  refine X.pure _ ho hw hd hk (fun ρ w hρ => ?_) h
  obtain ⟨inf, hi, hs⟩ := Option.map_eq_some_iff.1 hsz
  have hq0 : 0 ≤ q := by omega
  obtain ⟨p', rfl⟩ := Int.eq_ofNat_of_zero_le hb.1
  obtain ⟨q', rfl⟩ := Int.eq_ofNat_of_zero_le hq0
  have h0 : q' ≤ c := by omega
  have h1 : p' ≤ q' := by omega
  simp [execOp, hρ _ _ hx, hρ _ _ hy, hρ _ _ hz, Instr.sliceAt, run_underlying hu, Instr.slice, Instr.sliceBounds, Instr.sliceBound, asIntOf, h0, h1, sizeOf, typeInfo, hi, hs]

/-! ### bytes to a string -/
def bv (s : List UInt8) : List Value := s.map fun c => .int .u8 c.toNat

theorem run_b2s {w : World} {v : Value} {s : List UInt8} {m : Nat} {e : TypeId} (h : Rd w.heap 1 v m (bv s)) (hs : P.underlying t = some (.slice e)) (he : P.underlying e = some (.int .u8)) (hdd : P.underlying t' = some .string) :
    (convert t t' v).run P w = .ok (.string ⟨s.toArray⟩) w := by
  obtain ⟨hl, a, c, rfl, hr⟩ := h
  have hlen : s.length = m := by simpa [bv] using hl
  subst hlen
  rcases hr with hr | ⟨b, o, cs, ct, fz, rfl, hb, hc⟩
  · have : s = [] := by simpa [bv] using hr
    subst this
    cases a with
    | none => simp [convert, run_underlying hs, run_underlying hdd, run_underlying he, Conv.bytesToString]; rfl
    | some a => exact run_convert_bytes_back w t t' e a c [] hs he hdd (by simp)
  · refine run_convert_bytes_back w t t' e _ c s hs he hdd (fun j hj => ?_)
    rw [addr_add, cell_of rfl hb]
    exact hc j _ (by simp [bv, hj])

theorem X.b2s {v : Value} {s : List UInt8} {m : Nat} {e : TypeId} (ho : nth l i = some ⟨d, .convert t t' x, ty, pos, aft, g⟩) (hw : wantE l env ⟨d, .convert t t' x, ty, pos, aft, g⟩ = some true) (hd : dOK n d = true)
    (hx : opv env x = some v) (hs : P.underlying t = some (.slice e)) (he : P.underlying e = some (.int .u8)) (hdd : P.underlying t' = some .string) (hr : At k F H (fun H => Rd H 1 v m (bv s)))
    (h : X P n l F K r (setd d (.string ⟨s.toArray⟩) env) H) : X P n l F K ((i, k) :: r) env H :=
  X.read (R := fun H => Rd H 1 v m (bv s)) _ ho hw hd (fun ρ w hρ hR => by simp [execOp, hρ _ _ hx, run_b2s hR hs he hdd]) hr h

/-! ### append -/
structure AppT (P : Program) (t tx e : TypeId) (sz bytes : Nat) (z : Value) : Prop where
  ht : P.underlying t = some (.slice e)
  hi : (P.info? e).map (fun i => (i.zero, i.size, i.bytes)) = some (some z, sz, bytes)
  hz : z.cells.size = sz
  pos : 0 < sz

theorem X.app {tx e : TypeId} {sz bytes : Nat} {z : Value} (T : AppT P t tx e sz bytes z) {v xv : Value} {m q : Nat} {vs news : List Value}
    (ho : nth l i = some ⟨d, .call ⟨.builtin .append, #[x, y], #[t, tx]⟩, ty, pos, aft, g⟩) (hw : wantE l env ⟨d, .call ⟨.builtin .append, #[x, y], #[t, tx]⟩, ty, pos, aft, g⟩ = some true) (hd : dOK n d = true) (hk : isM k = true)
    (hx : opv env x = some v) (hy : opv env y = some xv) (hown : Own H e sz v m vs) (hsrc : SrcH H sz xv q news)
    (hkd : (∃ e', P.underlying tx = some (.slice e') ∧ ∃ a c, xv = .slice a q c) ∨ P.underlying tx = some .string ∧ ∃ s, xv = .string s) (h1 : ∀ u ∈ news, u.oneCell' = true)
    (hlen : m + q ≤ maxLen) (hbytes : (m + q) * bytes ≤ 140737488355328)
    (h : ∀ v' H', Own H' e sz v' (m + q) (vs ++ news) → Kp (blk v) H H' → (blk v' = blk v ∨ ∀ b ∈ blk v', H.size ≤ b) → (v' = .slice none 0 0 ↔ v = .slice none 0 0 ∧ q = 0) → NxH k F H' (X P n l F K r (setd d v' env) H')) :
    X P n l F K ((i, k) :: r) env H := by
  refine X.move' (Φ := fun v' H' => Own H' e sz v' (m + q) (vs ++ news) ∧ Kp (blk v) H H' ∧ (blk v' = blk v ∨ ∀ b ∈ blk v', H.size ≤ b) ∧ (v' = .slice none 0 0 ↔ v = .slice none 0 0 ∧ q = 0)) ho hw hd hk
    (fun ρ w hρ hH => ?_) (fun v' H' ⟨h2, h3, h4, h5⟩ => h v' H' h2 h3 h4 h5)
  subst hH
  obtain ⟨inf, hi, hz0, hs, hby⟩ := info_parts T.hi
  have ht := T.ht
  have hzs := T.hz
  have hpos := T.pos
  have S : Src P inf.size tx xv q news w := by rw [hs]; exact SrcH.src hsrc hkd h1
  have hnl : news.length = q * sz := by rw [← hs]; exact S.newsLen
  have hsmall : ((m + q : Nat) : Int) ≤ 9223372036854775807 := by simp only [maxLen] at hlen; omega
  have hex : ∀ (v' : Value) (w' : World), (Builtin.append_ #[t, tx] ty #[v, xv]).run P w = .ok v' w' → (execOp ρ ⟨d, .call ⟨.builtin .append, #[x, y], #[t, tx]⟩, ty, pos, aft, g⟩).run P w = .ok (.value v') w' := fun v' w' hr => by
    simp [execOp, resolve, invoke, builtin, hρ _ _ hx, hρ _ _ hy, hr]
  have grow : ∀ (base : Option Addr) (cap : Nat), v = .slice base m cap → cap < m + q → (Builtin.firstCells inf.size m (.slice base m cap)).run P w.drew = .ok vs.toArray w.drew →
      ∃ v' w', ((execOp ρ ⟨d, .call ⟨.builtin .append, #[x, y], #[t, tx]⟩, ty, pos, aft, g⟩).run P w = .ok (.value v') w' ∨ ((execOp ρ ⟨d, .call ⟨.builtin .append, #[x, y], #[t, tx]⟩, ty, pos, aft, g⟩).run P w = .ok .skip w' ∧ v' = undef)) ∧
        Iw w w' ∧ Own w'.heap e sz v' (m + q) (vs ++ news) ∧ Kp (blk v) w.heap w'.heap ∧ (blk v' = blk v ∨ ∀ b ∈ blk v', w.heap.size ≤ b) ∧ (v' = .slice none 0 0 ↔ v = .slice none 0 0 ∧ q = 0) := by
    intro base cap hv hg hold
    have hr := run_append_grow_src (P := P) w t tx ty e inf z ht hi hz0 base m cap vs hold xv q news S hg hsmall (by rw [hby]; exact growslice_fits hg hbytes)
    rw [← hv] at hr
    have hge := grownCap_ge w (m + q) cap e
    have hcm := grownCap_le_maxLen w (m + q) cap e hlen
    refine ⟨_, _, .inl (hex _ _ hr), ⟨rfl, rfl, rfl⟩, ⟨by rw [List.length_append, hown.1, hnl, Nat.add_mul], .inr ⟨w.heap.size, _, (Builtin.zeroCells z.cells (grownCap w (m + q) cap e - (m + q))).toList, rfl, ?_, ?_, hge, hcm⟩⟩, ?_, .inr (by simp [blk]), ?_⟩
    · show (w.heap.push _)[w.heap.size]? = _
      rw [heap_push_new]
      congr 2
      apply Array.ext'
      simp
    · simp only [List.length_append, Array.length_toList, size_zeroCells, hzs, hown.1, hnl, ← Nat.add_mul]
      congr 1
      omega
    · exact (kp_push w.heap _).mono (by simp)
    · constructor
      · intro h; cases h
      · rintro ⟨hv0, hq0⟩
        rw [hv] at hv0
        simp only [Value.slice.injEq] at hv0
        omega
  rcases hown.2 with ⟨hv, hm⟩ | ⟨b, cap, sp, hv, hb, hcap, hmc, hcx⟩
  · subst hm
    have hvs : vs = [] := List.eq_nil_of_length_eq_zero (by simpa using hown.1)
    subst hvs
    by_cases hq : q = 0
    · subst hq
      have hn0 : news = [] := List.eq_nil_of_length_eq_zero (by simpa using hnl)
      subst hn0
      subst hv
      refine ⟨.slice none 0 0, w, .inl (hex _ _ ?_), Iw.refl w, by simpa using Own.nil w.heap e sz, Kp.refl _ _, .inl rfl, by simp⟩
      rcases S.kind with ⟨e', hk'⟩ | hk' <;> simp [Builtin.append_, run_underlying ht, run_underlying hk', sizeOf, typeInfo, hi, S.len, S.cells]
    · exact grow none 0 hv (by omega) (run_firstCells_none w.drew inf.size 0 0 0)
  · by_cases hroom : m + q ≤ cap
    · subst hv
      have hspl : q * sz ≤ sp.length := by
        have h1 : (m + q) * sz ≤ cap * sz := Nat.mul_le_mul_right _ hroom
        rw [List.length_append, hown.1] at hcap
        rw [Nat.add_mul] at h1
        omega
      have hvl := hown.1
      have hr := run_append_room_src (P := P) w t tx ty e inf ht hi b 0 m cap xv q news S hroom
        (fun j hj => by rw [cell_of rfl hb, hs]; simp; omega)
        (fun j hj => by simp [World.frozen?, hb])
      have hst := run_storeCells_at P b (m * sz) e news 0 (vs ++ sp).toArray w hb (by simp; rw [hnl, hvl]; omega) h1
      have hst2 := run_storeCells_cells (P := P) b (m * sz) news 0 w (fun j hj => by rw [cell_of rfl hb]; simp; omega) (fun j hj => by simp [World.frozen?, hb]) h1
      have hww : w.setCells b (m * sz) news = w.setRow b ((vs ++ sp).take (m * sz) ++ news ++ (vs ++ sp).drop (m * sz + news.length)).toArray := by
        rw [hst2] at hst
        simpa using hst
      rw [Nat.zero_add, hs, hww] at hr
      refine ⟨_, _, .inl (hex _ _ hr), ⟨rfl, rfl, rfl⟩, ⟨by rw [List.length_append, hown.1, hnl, Nat.add_mul], .inr ⟨b, cap, sp.drop news.length, rfl, ?_, ?_, hroom, hcx⟩⟩, kp_setRow w b _, .inl rfl, by simp⟩
      · rw [setRow_heap w b _ _ e _ hb]
        congr 3
        have e1 : (vs ++ sp).take (m * sz) = vs := by rw [← hvl]; exact List.take_left
        have e2 : (vs ++ sp).drop (m * sz + news.length) = sp.drop news.length := by rw [← hvl, List.drop_append]; simp
        rw [e1, e2]
      · rw [← hcap]
        simp
        rw [hnl]; omega
    · refine grow (some ⟨b, 0, none⟩) cap hv (by omega) ?_
      refine run_firstCells_some w.drew inf.size m _ m cap vs (by rw [hs]; exact hown.1) (fun j u hj => ?_)
      rw [addr_add, cell_of (w := w.drew) rfl hb, Nat.zero_add]
      rw [List.getElem?_append_left (List.getElem?_eq_some_iff.1 hj).1]; exact hj

/-! ### make, literals -/
theorem X.mk {e : TypeId} {bytes c : Nat} {zv : Value} {kl kc : IntKind} {p : Int} (ht : P.underlying t = some (.slice e)) (hi : (P.info? e).map (fun i => (i.zero, i.size, i.bytes)) = some (some zv, 1, bytes)) (h1c : zv.cells = #[zv])
    (ho : nth l i = some ⟨d, .makeSlice t x y, ty, pos, aft, g⟩) (hw : wantE l env ⟨d, .makeSlice t x y, ty, pos, aft, g⟩ = some true) (hd : dOK n d = true) (hk : isM k = true)
    (hx : opv env x = some (.int kl p)) (hy : opv env y = some (.int kc c)) (hp : 0 ≤ p ∧ p ≤ c) (hb : bytes * c ≤ 281474976710656) (hc : c ≤ maxLen)
    (h : ∀ b H', H.size ≤ b → H'[b]? = some (.cells (List.replicate c zv).toArray e (0, 0)) → Kp [] H H' → NxH k F H' (X P n l F K r (setd d (.slice (some ⟨b, 0, none⟩) p.toNat c) env) H')) : X P n l F K ((i, k) :: r) env H := by
  refine X.move' (Φ := fun v' H' => v' = .slice (some ⟨H.size, 0, none⟩) p.toNat c ∧ H'[H.size]? = some (.cells (List.replicate c zv).toArray e (0, 0)) ∧ Kp [] H H') ho hw hd hk (fun ρ w hρ hH => ?_) (fun v' H' ⟨hv, h2, h3⟩ => by subst hv; exact h _ H' (Nat.le_refl _) h2 h3)
  subst hH
  obtain ⟨inf, hi, hz0, hs, hby⟩ := info_parts hi
  have hm : ((inf.bytes : Int)) * (c : Int) ≤ 281474976710656 := by
    have h : ((bytes * c : Nat) : Int) ≤ 281474976710656 := by omega
    rw [hby]; rwa [Int.natCast_mul] at h
  have hr := run_make (P := P) w t e inf zv ht hi hz0 kl kc p c hp.1 hp.2 hm (by simp only [maxLen] at hc; omega)
  have e1 : madeCells zv.cells ((c : Int).toNat * inf.size) = (List.replicate c zv).toArray := by
    apply Array.ext'
    simp only [madeCells, hs, h1c, Int.toNat_natCast, Nat.mul_one]
    apply List.ext_getElem
    · simp
    · intro j h1 h2; simp [Nat.mod_one]
  rw [e1, Int.toNat_natCast] at hr
  rw [← hρ _ _ hx, ← hρ _ _ hy] at hr
  exact ⟨_, w.alloc (.cells (List.replicate c zv).toArray e), .inl (by simp only [execOp, Sem.run_bind, hr, Result.andThen_ok, Sem.run_pure]), ⟨rfl, rfl, rfl⟩, rfl, heap_push_new _ _, kp_push _ _⟩

def opps (env : Env) : List (Nat × Operand) → Option (List (Nat × Value))
  | [] => some []
  | (j, x) :: r =>
    match opv env x with
    | none => none
    | some v => match opps env r with
      | none => none
      | some vs => some ((j, v) :: vs)

theorem opps_eq {ρ : Operand → Value} (hρ : ∀ x u, opv env x = some u → ρ x = u) : ∀ (xs : List (Nat × Operand)) (us : List (Nat × Value)), opps env xs = some us → xs.map (fun (j, x) => (j, ρ x)) = us
  | [], us, hu => by simpa [opps] using hu
  | (j, x) :: xs, us, hu => by
    simp only [opps] at hu
    cases hx' : opv env x with
    | none => simp [hx'] at hu
    | some v =>
      simp only [hx'] at hu
      cases hr : opps env xs with
      | none => simp [hr] at hu
      | some us' =>
        simp only [hr, Option.some.injEq] at hu
        subst hu
        simp [hρ x v hx', opps_eq hρ xs us' hr]

theorem X.build {parts : Array (Nat × Operand)} {ps : List (Nat × Value)} {v : Value} (ho : nth l i = some ⟨d, .build t parts, ty, pos, aft, g⟩) (hw : wantE l env ⟨d, .build t parts, ty, pos, aft, g⟩ = some true) (hd : dOK n d = true) (hk : noMk k = true)
    (hps : opps env parts.toList = some ps) (hrun : ∀ w, (Instr.build t ps.toArray).run P w = .ok v w)
    (h : X P n l F K r (setd d v env) H) : X P n l F K ((i, k) :: r) env H := by
  refine X.pure _ ho hw hd hk (fun ρ w hρ => ?_) h
  have : (parts.map fun (j, x) => (j, ρ x)) = ps.toArray := by
    apply Array.ext'
    simpa using opps_eq hρ parts.toList ps hps
  simp only [execOp, this]
  simp [hrun]

theorem X.lit {m : Nat} {parts : Array (Nat × Operand)} {ps : List (Nat × Value)} {e : TypeId} {cs : List Value} (ho : nth l i = some ⟨d, .buildSlice t m parts, ty, pos, aft, g⟩) (hw : wantE l env ⟨d, .buildSlice t m parts, ty, pos, aft, g⟩ = some true) (hd : dOK n d = true) (hk : isM k = true)
    (hps : opps env parts.toList = some ps) (hrun : ∀ w : World, (Instr.buildSlice t m ps.toArray).run P w = .ok (.slice (some ⟨w.heap.size, 0, none⟩) m m) (w.alloc (.cells cs.toArray e)))
    (h : ∀ b H', H.size ≤ b → H'[b]? = some (.cells cs.toArray e (0, 0)) → Kp [] H H' → NxH k F H' (X P n l F K r (setd d (.slice (some ⟨b, 0, none⟩) m m) env) H')) : X P n l F K ((i, k) :: r) env H := by
  refine X.move' (Φ := fun v' H' => v' = .slice (some ⟨H.size, 0, none⟩) m m ∧ H'[H.size]? = some (.cells cs.toArray e (0, 0)) ∧ Kp [] H H') ho hw hd hk (fun ρ w hρ hH => ?_) (fun v' H' ⟨hv, h2, h3⟩ => by subst hv; exact h _ H' (Nat.le_refl _) h2 h3)
  subst hH
  have : (parts.map fun (j, x) => (j, ρ x)) = ps.toArray := by
    apply Array.ext'
    simpa using opps_eq hρ parts.toList ps hps
  exact ⟨_, w.alloc (.cells cs.toArray e), .inl (by simp only [execOp, this, Sem.run_bind, hrun, Result.andThen_ok, Sem.run_pure]), ⟨rfl, rfl, rfl⟩, rfl, heap_push_new _ _, kp_push _ _⟩

/-! ### function values -/
theorem X.fn {f : FuncId} {first captured : Array Operand} {us vs : List Value} (ho : nth l i = some ⟨d, .makeFunc (.func f) first captured, ty, pos, aft, g⟩) (hw : wantE l env ⟨d, .makeFunc (.func f) first captured, ty, pos, aft, g⟩ = some true) (hd : dOK n d = true) (hk : noMk k = true)
    (h1 : opvs env first.toList = some us) (h2 : opvs env captured.toList = some vs)
    (h : X P n l F K r (setd d (.func (.func f) us.toArray vs.toArray) env) H) : X P n l F K ((i, k) :: r) env H := by
  refine X.pure _ ho hw hd hk (fun ρ w hρ => ?_) h
  have key : ∀ (xs : List Operand) (us : List Value), opvs env xs = some us → xs.map ρ = us := by
    intro xs
    induction xs with
    | nil => intro us hu; simpa [opvs] using hu
    | cons x xs ih =>
      intro us hu
      simp only [opvs] at hu
      cases hx' : opv env x with
      | none => simp [hx'] at hu
      | some v =>
        simp only [hx'] at hu
        cases hr : opvs env xs with
        | none => simp [hr] at hu
        | some us' =>
          simp only [hr, Option.some.injEq] at hu
          subst hu
          simp [hρ x v hx', ih us' hr]
  have e1 : first.map ρ = us.toArray := by apply Array.ext'; simpa using key _ _ h1
  have e2 : captured.map ρ = vs.toArray := by apply Array.ext'; simpa using key _ _ h2
  simp [execOp, Instr.makeFunc, e1, e2]

/-- A call of a function value. -/
theorem X.callv {f : FuncId} {x : Operand} {args : Array Operand} {ats : Array TypeId} {us cs vs : List Value} {R : Value → Heap → Prop}
    (ho : nth l i = some ⟨d, .call ⟨.value x, args, ats⟩, ty, pos, aft, g⟩) (hw : wantE l env ⟨d, .call ⟨.value x, args, ats⟩, ty, pos, aft, g⟩ = some true) (hd : dOK n d = true) (hk : isM k = true)
    (hx : opv env x = some (.func (.func f) us.toArray cs.toArray)) (hv : opvs env args.toList = some vs) (hf : callable P f = true)
    (hc : Ct P f (us ++ vs ++ cs).toArray H R) (h : ∀ v H', R v H' → NxH k F H' (X P n l F K r (setd d v env) H')) : X P n l F K ((i, k) :: r) env H := by
  refine X.enter ho hw hd hk (fun ρ w hρ _ => ?_) hc h
  have key : ∀ (xs : List Operand) (us : List Value), opvs env xs = some us → xs.map ρ = us := by
    intro xs
    induction xs with
    | nil => intro us hu; simpa [opvs] using hu
    | cons x xs ih =>
      intro us hu
      simp only [opvs] at hu
      cases hx' : opv env x with
      | none => simp [hx'] at hu
      | some v =>
        simp only [hx'] at hu
        cases hr : opvs env xs with
        | none => simp [hr] at hu
        | some us' =>
          simp only [hr, Option.some.injEq] at hu
          subst hu
          simp [hρ x v hx', ih us' hr]
  have e1 : args.map ρ = vs.toArray := by apply Array.ext'; simpa using key _ _ hv
  simp [execOp, resolve, e1, hρ _ _ hx, Deferred.ofValue, invoke, run_callFunc hf, List.append_assoc]

end
end Go.SX
