/- The operations' laws: memory. -/
import Derived.Test.YtcandjdomeompaaDoorD
import Derived.Deep.AppendSrc
import Derived.Laws.CopyOwn
import Derived.Laws.IdiomStrings
namespace Go.SX
open Go

/-- All blocks but those of S are as they were. -/
structure Kp (S : List Nat) (H H' : Heap) : Prop where
  size : H.size ≤ H'.size
  get : ∀ b, b < H.size → b ∉ S → H'[b]? = H[b]?

theorem lt_of {H : Heap} {b : Nat} {o : Obj} (h : H[b]? = some o) : b < H.size := (Array.getElem?_eq_some_iff.1 h).1
theorem Kp.refl (S : List Nat) (H : Heap) : Kp S H H := ⟨Nat.le_refl _, fun _ _ _ => rfl⟩
theorem Kp.keep {S : List Nat} {H H' : Heap} (h : Kp S H H') {b : Nat} {o : Obj} (hb : H[b]? = some o) (hS : b ∉ S) : H'[b]? = some o := (h.get b (lt_of hb) hS).trans hb
theorem Kp.trans {S T : List Nat} {A B C : Heap} (h : Kp S A B) (k : Kp T B C) (hT : ∀ b ∈ T, b ∈ S ∨ A.size ≤ b) : Kp S A C :=
  ⟨Nat.le_trans h.size k.size, fun b hb hS => (k.get b (Nat.lt_of_lt_of_le hb h.size) (fun hbT => (hT b hbT).elim hS (by omega))).trans (h.get b hb hS)⟩
theorem Kp.mono {S T : List Nat} {A B : Heap} (h : Kp S A B) (hT : ∀ b ∈ S, b ∈ T ∨ A.size ≤ b) : Kp T A B :=
  ⟨h.size, fun b hb hS => h.get b hb (fun hbS => (hT b hbS).elim hS (by omega))⟩
theorem ne_of_ge {H : Heap} {p b : Nat} {o : Obj} (h : H[p]? = some o) (hb : H.size ≤ b) : p ≠ b := by have := lt_of h; omega
theorem ne_of_ge' {H : Heap} {p b : Nat} {o : Obj} (h : H[p]? = some o) (hb : H.size ≤ b) : b ≠ p := by have := lt_of h; omega

theorem cell_of {w : World} {H : Heap} (hw : w.heap = H) {b : Nat} {cs : List Value} {ct : TypeId} {fz : Nat × Nat} (hb : H[b]? = some (.cells cs.toArray ct fz)) (o : Nat) : w.cell? ⟨b, o, none⟩ = cs[o]? := by
  subst hw; simp [World.cell?, hb]

def fOff (P : Program) (t : TypeId) (f : Nat) : Option Nat :=
  match P.underlying t with
  | some (.struct fs) =>
    match fs[f]? with
    | some fl => match P.info? fl.type with
      | some i => if i.size = 0 then none else some fl.offset
      | none => none
    | none => none
  | _ => none

def isAggB (P : Program) (t : TypeId) : Option Bool :=
  match P.underlying t with
  | some (.struct _) => some true
  | some (.array _ _) => some true
  | some _ => some false
  | none => none

theorem run_isAgg {P : Program} {t : TypeId} {b : Bool} (h : isAggB P t = some b) (w : World) : (isAgg t).run P w = .ok b w := by
  unfold isAggB at h
  cases hu : P.underlying t with
  | none => simp [hu] at h
  | some d =>
    simp only [hu] at h
    cases d <;> simp at h <;> subst h <;> simp [isAgg, run_underlying hu]

theorem addr_add (b o k : Nat) : (⟨b, o, none⟩ : Addr).add k = ⟨b, o + k, none⟩ := by
  unfold Addr.add
  split
  · rename_i h; subst h; rfl
  · rfl

theorem heap_push_new (H : Heap) (o : Obj) : (H.push o)[H.size]? = some o := by simp
theorem kp_push (H : Heap) (o : Obj) : Kp [] H (H.push o) := ⟨by simp, fun b hb _ => by simp [Array.getElem?_push, Nat.ne_of_lt hb]⟩

theorem kp_setRow (w : World) (g : Nat) (cs : Array Value) : Kp [g] w.heap (w.setRow g cs).heap :=
  ⟨by simp [World.setRow], fun b _ hS => setRow_other w g b cs (by simpa using hS)⟩

section
variable {P : Program} {n : Nat} {l : List Oper} {F : Heap → Prop} {K : Act → Heap → Prop} {r : List (Nat × Kd)} {env : Env} {H : Heap} {i : Nat} {k : Kd}
variable {d : Option Tmp} {ty : TypeId} {pos : String} {aft : Array Edge} {g : Option (Nat × Bool)} {x y : Operand} {t t' : TypeId}

theorem X.fld {f b o q : Nat} (ho : nth l i = some ⟨d, .fieldAddr t x f, ty, pos, aft, g⟩) (hw : wantE l env ⟨d, .fieldAddr t x f, ty, pos, aft, g⟩ = some true) (hd : dOK n d = true) (hk : noMk k = true)
    (hx : opv env x = some (.pointer (some ⟨b, o, none⟩))) (hf : fOff P t f = some q)
    (h : X P n l F K r (setd d (.pointer (some ⟨b, o + q, none⟩)) env) H) : X P n l F K ((i, k) :: r) env H := by
  refine X.pure _ ho hw hd hk (fun ρ w hρ => ?_) h
  unfold fOff at hf
  cases hu : P.underlying t with
  | none => simp [hu] at hf
  | some dd =>
    cases dd <;> simp only [hu] at hf <;> try cases hf
    rename_i fs
    cases hfl : fs[f]? with
    | none => simp [hfl] at hf
    | some fl =>
      simp only [hfl] at hf
      cases hi : P.info? fl.type with
      | none => simp [hi] at hf
      | some inf =>
        simp only [hi] at hf
        by_cases hz : inf.size = 0
        · simp [hz] at hf
        · simp only [hz, if_false, Option.some.injEq] at hf
          subst hf
          simp [execOp, hρ _ _ hx, Instr.fieldAt, run_underlying hu, hfl, Instr.sureAddr, fieldPlace, sizeOf, typeInfo, hi, hz, addr_add]

theorem X.ld {b o : Nat} {cs : List Value} {ct : TypeId} {fz : Nat × Nat} {v : Value} (ho : nth l i = some ⟨d, .load t x, ty, pos, aft, g⟩) (hw : wantE l env ⟨d, .load t x, ty, pos, aft, g⟩ = some true) (hd : dOK n d = true)
    (hx : opv env x = some (.pointer (some ⟨b, o, none⟩))) (ha : isAggB P t = some false) (hb : At k F H (fun H => H[b]? = some (.cells cs.toArray ct fz))) (hc : cs[o]? = some v)
    (h : X P n l F K r (setd d v env) H) : X P n l F K ((i, k) :: r) env H := by
  refine X.read (R := fun H => H[b]? = some (.cells cs.toArray ct fz)) v ho hw hd (fun ρ w hρ hR => ?_) hb h
  have hcell := cell_of rfl hR o
  rw [hc] at hcell
  simp [execOp, hρ _ _ hx, Instr.loadAt, Instr.sureAddr, loadVar, run_isAgg ha, run_load, hcell]

/-- A load of a struct or an array. -/
theorem X.ldA {b o m : Nat} {cs vs : List Value} {ct : TypeId} {fz : Nat × Nat} (ho : nth l i = some ⟨d, .load t x, ty, pos, aft, g⟩) (hw : wantE l env ⟨d, .load t x, ty, pos, aft, g⟩ = some true) (hd : dOK n d = true)
    (hx : opv env x = some (.pointer (some ⟨b, o, none⟩))) (ha : isAggB P t = some true) (hsz : (P.info? t).map (·.size) = some m) (hb : At k F H (fun H => H[b]? = some (.cells cs.toArray ct fz)))
    (hl : vs.length = m) (hc : ∀ j v, vs[j]? = some v → cs[o + j]? = some v)
    (h : X P n l F K r (setd d (.agg vs.toArray) env) H) : X P n l F K ((i, k) :: r) env H := by
  refine X.read (R := fun H => H[b]? = some (.cells cs.toArray ct fz)) _ ho hw hd (fun ρ w hρ hR => ?_) hb h
  obtain ⟨inf, hi, hs⟩ := Option.map_eq_some_iff.1 hsz
  subst hl
  have hld := run_loadCells_list (P := P) w ⟨b, o, none⟩ vs (fun j v hj => by rw [addr_add, cell_of rfl hR]; exact hc j v hj)
  simp [execOp, hρ _ _ hx, Instr.loadAt, Instr.sureAddr, loadVar, run_isAgg ha, sizeOf, typeInfo, hi, hs, hld]

/-- A store of one cell. -/
theorem X.st {b o : Nat} {cs : List Value} {ct : TypeId} {v : Value} (ho : nth l i = some ⟨d, .store t x y, ty, pos, aft, g⟩) (hw : wantE l env ⟨d, .store t x y, ty, pos, aft, g⟩ = some true) (hd : dOK n d = true) (hk : isM k = true)
    (hx : opv env x = some (.pointer (some ⟨b, o, none⟩))) (hy : opv env y = some v) (h1 : v.oneCell' = true) (hsz : (P.info? t).map (·.size) = some 1)
    (hb : H[b]? = some (.cells cs.toArray ct (0, 0))) (hlt : o < cs.length)
    (h : ∀ H', H'[b]? = some (.cells (cs.set o v).toArray ct (0, 0)) → Kp [b] H H' → NxH k F H' (X P n l F K r (setd d undef env) H')) : X P n l F K ((i, k) :: r) env H := by
  refine X.move' (Φ := fun v' H' => v' = undef ∧ H'[b]? = some (.cells (cs.set o v).toArray ct (0, 0)) ∧ Kp [b] H H') ho hw hd hk (fun ρ w hρ hH => ?_) (fun v' H' ⟨hv, h2, h3⟩ => by subst hv; exact h H' h2 h3)
  obtain ⟨inf, hi, hs⟩ := Option.map_eq_some_iff.1 hsz
  subst hH
  have hcl : v.cells = #[v] := by cases v <;> simp [Value.oneCell'] at h1 <;> rfl
  have hst := run_storeCells_at P b o ct [v] 0 cs.toArray w hb (by simp; omega) (by simpa using h1)
  simp only [Nat.add_zero] at hst
  refine ⟨undef, w.setRow b (cs.take o ++ [v] ++ cs.drop (o + 1)).toArray, .inr ⟨?_, rfl⟩, ⟨rfl, rfl, rfl⟩, rfl, ?_, kp_setRow w b _⟩
  · simp [execOp, hρ _ _ hx, hρ _ _ hy, Instr.storeAt, Instr.sureAddr, storeVar, sizeOf, typeInfo, hi, hs, hcl]
    simp at hst
    rw [hst]
    rfl
  · rw [setRow_heap w b _ _ ct _ hb]
    congr 3
    simp [List.set_eq_take_append_cons_drop, hlt]

/-- A store of a struct or an array. -/
theorem X.stA {b o : Nat} {cs vs : List Value} {ct : TypeId} (ho : nth l i = some ⟨d, .store t x y, ty, pos, aft, g⟩) (hw : wantE l env ⟨d, .store t x y, ty, pos, aft, g⟩ = some true) (hd : dOK n d = true) (hk : isM k = true)
    (hx : opv env x = some (.pointer (some ⟨b, o, none⟩))) (hy : opv env y = some (.agg vs.toArray)) (h1 : ∀ v ∈ vs, v.oneCell' = true) (hsz : (P.info? t).map (·.size) = some vs.length)
    (hb : H[b]? = some (.cells cs.toArray ct (0, 0))) (hlt : o + vs.length ≤ cs.length)
    (h : ∀ H', H'[b]? = some (.cells (splice cs o vs).toArray ct (0, 0)) → Kp [b] H H' → NxH k F H' (X P n l F K r (setd d undef env) H')) : X P n l F K ((i, k) :: r) env H := by
  refine X.move' (Φ := fun v' H' => v' = undef ∧ H'[b]? = some (.cells (splice cs o vs).toArray ct (0, 0)) ∧ Kp [b] H H') ho hw hd hk (fun ρ w hρ hH => ?_) (fun v' H' ⟨hv, h2, h3⟩ => by subst hv; exact h H' h2 h3)
  obtain ⟨inf, hi, hs⟩ := Option.map_eq_some_iff.1 hsz
  subst hH
  have hst := run_storeCells_at P b o ct vs 0 cs.toArray w hb (by simpa using hlt) h1
  refine ⟨undef, w.setRow b (splice cs o vs).toArray, .inr ⟨?_, rfl⟩, ⟨rfl, rfl, rfl⟩, rfl, ?_, kp_setRow w b _⟩
  · simp [execOp, hρ _ _ hx, hρ _ _ hy, Instr.storeAt, Instr.sureAddr, storeVar, sizeOf, typeInfo, hi, hs, Value.cells, splice]
    simp at hst
    rw [hst]
    rfl
  · exact setRow_heap w b _ _ ct _ hb

/-- A new variable with a value. -/
theorem X.box {v : Value} {cs : List Value} (ho : nth l i = some ⟨d, .box t x, ty, pos, aft, g⟩) (hw : wantE l env ⟨d, .box t x, ty, pos, aft, g⟩ = some true) (hd : dOK n d = true) (hk : isM k = true)
    (hx : opv env x = some v) (hcs : v.cells = cs.toArray)
    (h : ∀ b H', H.size ≤ b → H'[b]? = some (.cells cs.toArray t (0, 0)) → Kp [] H H' → NxH k F H' (X P n l F K r (setd d (.pointer (some ⟨b, 0, none⟩)) env) H')) : X P n l F K ((i, k) :: r) env H := by
  refine X.move' (Φ := fun v' H' => v' = .pointer (some ⟨H.size, 0, none⟩) ∧ H'[H.size]? = some (.cells cs.toArray t (0, 0)) ∧ Kp [] H H') ho hw hd hk (fun ρ w hρ hH => ?_) (fun v' H' ⟨hv, h2, h3⟩ => by subst hv; exact h _ H' (Nat.le_refl _) h2 h3)
  subst hH
  refine ⟨_, w.alloc (.cells v.cells t), .inl (by simp [execOp, hρ _ _ hx, Instr.box, newVar, newRow]), ⟨rfl, rfl, rfl⟩, rfl, ?_, kp_push _ _⟩
  rw [← hcs]; exact heap_push_new _ _

/-- A new variable, zero. -/
theorem X.alloc {z : Value} {cs : List Value} (ho : nth l i = some ⟨d, .alloc t, ty, pos, aft, g⟩) (hw : wantE l env ⟨d, .alloc t, ty, pos, aft, g⟩ = some true) (hd : dOK n d = true) (hk : isM k = true)
    (hz : (P.info? t).bind (·.zero) = some z) (hcs : z.cells = cs.toArray)
    (h : ∀ b H', H.size ≤ b → H'[b]? = some (.cells cs.toArray t (0, 0)) → Kp [] H H' → NxH k F H' (X P n l F K r (setd d (.pointer (some ⟨b, 0, none⟩)) env) H')) : X P n l F K ((i, k) :: r) env H := by
  refine X.move' (Φ := fun v' H' => v' = .pointer (some ⟨H.size, 0, none⟩) ∧ H'[H.size]? = some (.cells cs.toArray t (0, 0)) ∧ Kp [] H H') ho hw hd hk (fun ρ w hρ hH => ?_) (fun v' H' ⟨hv, h2, h3⟩ => by subst hv; exact h _ H' (Nat.le_refl _) h2 h3)
  subst hH
  obtain ⟨inf, hi, hzz⟩ := Option.bind_eq_some_iff.1 hz
  refine ⟨_, w.alloc (.cells z.cells t), .inl (by simp [execOp, Instr.alloc, zeroValue, typeInfo, hi, hzz, newVar, newRow]), ⟨rfl, rfl, rfl⟩, rfl, ?_, kp_push _ _⟩
  rw [← hcs]; exact heap_push_new _ _

/-- The address of a slice's element. -/
theorem X.ixA {b o m c sz : Nat} {q : Int} {kq : IntKind} {e : TypeId} (ho : nth l i = some ⟨d, .indexAddr t x y, ty, pos, aft, g⟩) (hw : wantE l env ⟨d, .indexAddr t x y, ty, pos, aft, g⟩ = some true) (hd : dOK n d = true) (hk : noMk k = true)
    (hx : opv env x = some (.slice (some ⟨b, o, none⟩) m c)) (hy : opv env y = some (.int kq q)) (hu : P.underlying t = some (.slice e)) (hsz : (P.info? e).map (·.size) = some sz) (hq : 0 ≤ q ∧ q < m)
    (h : X P n l F K r (setd d (.pointer (some ⟨b, o + q.toNat * sz, none⟩)) env) H) : X P n l F K ((i, k) :: r) env H := by
  refine X.pure _ ho hw hd hk (fun ρ w hρ => ?_) h
  obtain ⟨inf, hi, hs⟩ := Option.map_eq_some_iff.1 hsz
  simp [execOp, hρ _ _ hx, hρ _ _ hy, Instr.indexAt, asIntOf, run_underlying hu, hq, sizeOf, typeInfo, hi, hs, addr_add]

/-- .. of an array's, behind a pointer. -/
theorem X.ixP {b o m sz : Nat} {q : Int} {kq : IntKind} {e : TypeId} (ho : nth l i = some ⟨d, .indexAddr t x y, ty, pos, aft, g⟩) (hw : wantE l env ⟨d, .indexAddr t x y, ty, pos, aft, g⟩ = some true) (hd : dOK n d = true) (hk : noMk k = true)
    (hx : opv env x = some (.pointer (some ⟨b, o, none⟩))) (hy : opv env y = some (.int kq q)) (hu : P.underlying t = some (.array m e)) (hsz : (P.info? e).map (·.size) = some sz) (hq : 0 ≤ q ∧ q < m)
    (h : X P n l F K r (setd d (.pointer (some ⟨b, o + q.toNat * sz, none⟩)) env) H) : X P n l F K ((i, k) :: r) env H := by
  refine X.pure _ ho hw hd hk (fun ρ w hρ => ?_) h
  obtain ⟨inf, hi, hs⟩ := Option.map_eq_some_iff.1 hsz
  simp [execOp, hρ _ _ hx, hρ _ _ hy, Instr.indexAt, Instr.sureAddr, asIntOf, run_underlying hu, hq, sizeOf, typeInfo, hi, hs, addr_add]

/-- An element of an array's value. -/
theorem X.ixV {m sz : Nat} {q : Int} {kq : IntKind} {e : TypeId} {cs : List Value} {v : Value} (ho : nth l i = some ⟨d, .index t x y, ty, pos, aft, g⟩) (hw : wantE l env ⟨d, .index t x y, ty, pos, aft, g⟩ = some true) (hd : dOK n d = true) (hk : noMk k = true)
    (hx : opv env x = some (.agg cs.toArray)) (hy : opv env y = some (.int kq q)) (hu : P.underlying t = some (.array m e)) (ha : isAggB P e = some false) (hsz : (P.info? e).map (·.size) = some sz) (hq : 0 ≤ q ∧ q < m)
    (hc : cs[q.toNat * sz]? = some v)
    (h : X P n l F K r (setd d v env) H) : X P n l F K ((i, k) :: r) env H := by
  refine X.pure _ ho hw hd hk (fun ρ w hρ => ?_) h
  obtain ⟨inf, hi, hs⟩ := Option.map_eq_some_iff.1 hsz
  simp [execOp, hρ _ _ hx, hρ _ _ hy, Instr.index, asIntOf, run_underlying hu, hq, sizeOf, typeInfo, hi, hs, part, run_isAgg ha, hc]

/-- A byte of a string. -/
theorem X.ixS {q : Int} {kq : IntKind} {s : List UInt8} {c : UInt8} (ho : nth l i = some ⟨d, .index t x y, ty, pos, aft, g⟩) (hw : wantE l env ⟨d, .index t x y, ty, pos, aft, g⟩ = some true) (hd : dOK n d = true) (hk : noMk k = true)
    (hx : opv env x = some (.string ⟨s.toArray⟩)) (hy : opv env y = some (.int kq q)) (hu : P.underlying t = some .string) (hq : 0 ≤ q) (hc : s[q.toNat]? = some c)
    (h : X P n l F K r (setd d (.int .u8 c.toNat) env) H) : X P n l F K ((i, k) :: r) env H := by
  refine X.pure _ ho hw hd hk (fun ρ w hρ => ?_) h
  have hb : (⟨s.toArray⟩ : ByteArray)[q.toNat]? = some c := by
    have hlt : q.toNat < s.length := (List.getElem?_eq_some_iff.1 hc).1
    have hv := (List.getElem?_eq_some_iff.1 hc).2
    rw [getElem?_pos _ _ (by simpa [ByteArray.size] using hlt)]
    simpa [ByteArray.getElem_eq_getElem_data] using hv
  simp [execOp, hρ _ _ hx, hρ _ _ hy, Instr.index, asIntOf, run_underlying hu, hq, hb]

/-- A field of a struct's value. -/
theorem X.fv {f : Nat} {cs : List Value} {v : Value} {fs : Array Field} {fl : Field} (ho : nth l i = some ⟨d, .field t x f, ty, pos, aft, g⟩) (hw : wantE l env ⟨d, .field t x f, ty, pos, aft, g⟩ = some true) (hd : dOK n d = true) (hk : noMk k = true)
    (hx : opv env x = some (.agg cs.toArray)) (hu : P.underlying t = some (.struct fs)) (hf : fs[f]? = some fl) (ha : isAggB P fl.type = some false) (hc : cs[fl.offset]? = some v)
    (h : X P n l F K r (setd d v env) H) : X P n l F K ((i, k) :: r) env H := by
  refine X.pure _ ho hw hd hk (fun ρ w hρ => ?_) h
  simp [execOp, hρ _ _ hx, Instr.field, run_underlying hu, hf, asAgg, part, run_isAgg ha, hc]

theorem X.fvA {f m : Nat} {cs vs : List Value} {fs : Array Field} {fl : Field} (ho : nth l i = some ⟨d, .field t x f, ty, pos, aft, g⟩) (hw : wantE l env ⟨d, .field t x f, ty, pos, aft, g⟩ = some true) (hd : dOK n d = true) (hk : noMk k = true)
    (hx : opv env x = some (.agg cs.toArray)) (hu : P.underlying t = some (.struct fs)) (hf : fs[f]? = some fl) (ha : isAggB P fl.type = some true) (hsz : (P.info? fl.type).map (·.size) = some m) (hc : (cs.drop fl.offset).take m = vs)
    (h : X P n l F K r (setd d (.agg vs.toArray) env) H) : X P n l F K ((i, k) :: r) env H := by
  refine X.pure _ ho hw hd hk (fun ρ w hρ => ?_) h
  obtain ⟨inf, hi, hs⟩ := Option.map_eq_some_iff.1 hsz
  subst hc
  simp [execOp, hρ _ _ hx, Instr.field, run_underlying hu, hf, asAgg, part, run_isAgg ha, sizeOf, typeInfo, hi, hs]

end
end Go.SX
