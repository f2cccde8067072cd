/- Openings: what a row's argument holds, as lists. -/
import Derived.Test.YtcandjdomeompaaDoorI
import Derived.ChangeMaps5
import Derived.Deep.Slices
namespace Go.SX
open Go Go.RowKit Go.ChangeShapes Go.ChangeMaps

theorem chunks {α : Type} {sz : Nat} (f : α → List Value) (Q : α → Prop) : ∀ (n : Nat) (vs : List Value), vs.length = n * sz → (∀ i, i < n → ∃ x, (vs.drop (i * sz)).take sz = f x ∧ Q x) →
    ∃ xs : List α, vs = xs.flatMap f ∧ xs.length = n ∧ ∀ x ∈ xs, Q x
  | 0, vs, hl, _ => ⟨[], by simpa using hl, rfl, by simp⟩
  | n + 1, vs, hl, h => by
    obtain ⟨x, hx, hq⟩ := h 0 (by omega)
    simp only [Nat.zero_mul, List.drop_zero] at hx
    obtain ⟨xs, h1, h2, h3⟩ := chunks (sz := sz) f Q n (vs.drop sz) (by rw [List.length_drop, hl, Nat.succ_mul]; omega) (fun i hi => by
      obtain ⟨y, hy, hqy⟩ := h (i + 1) (by omega)
      refine ⟨y, ?_, hqy⟩
      rw [List.drop_drop, show sz + i * sz = (i + 1) * sz by rw [Nat.succ_mul]; omega]; exact hy)
    refine ⟨x :: xs, ?_, by simp [h2], fun y hy => ?_⟩
    · rw [List.flatMap_cons, ← hx, ← h1, List.take_append_drop]
    · rcases List.mem_cons.1 hy with rfl | hy
      · exact hq
      · exact h3 y hy

theorem flat_len {α : Type} {sz : Nat} (f : α → List Value) (hf : ∀ x, (f x).length = sz) : ∀ xs : List α, (xs.flatMap f).length = xs.length * sz
  | [] => by simp
  | x :: xs => by rw [List.flatMap_cons, List.length_append, hf, flat_len f hf xs, List.length_cons, Nat.succ_mul]; omega
theorem flat_get {α : Type} {sz : Nat} (f : α → List Value) (hf : ∀ x, (f x).length = sz) : ∀ (xs : List α) (i : Nat) (x : α) (j : Nat) (u : Value), xs[i]? = some x → (f x)[j]? = some u → (xs.flatMap f)[i * sz + j]? = some u
  | [], i, x, j, u, h, _ => by simp at h
  | y :: xs, 0, x, j, u, h, hu => by
    simp at h; subst h
    have := (List.getElem?_eq_some_iff.1 hu).1
    rw [List.flatMap_cons, Nat.zero_mul, Nat.zero_add, List.getElem?_append_left this]; exact hu
  | y :: xs, i + 1, x, j, u, h, hu => by
    rw [List.flatMap_cons, List.getElem?_append_right (by rw [hf, Nat.succ_mul]; omega), hf, show (i + 1) * sz + j - sz = i * sz + j by rw [Nat.succ_mul]; omega]
    exact flat_get f hf xs i x j u (by simpa using h) hu

/-- Element i of what is read. -/
theorem Rd.get {α : Type} {H : Heap} {sz n : Nat} {v : Value} {f : α → List Value} {xs : List α} (h : Rd H sz v n (xs.flatMap f)) (hf : ∀ x, (f x).length = sz) {i : Nat} {x : α} (hi : xs[i]? = some x) (h0 : 0 < sz) :
    ∃ b o c cs ct fz, v = .slice (some ⟨b, o, none⟩) n c ∧ H[b]? = some (.cells (cs : List Value).toArray ct fz) ∧ ∀ j u, (f x)[j]? = some u → cs[o + i * sz + j]? = some u := by
  obtain ⟨hl, a, c, rfl, hr⟩ := h
  rcases hr with hr | ⟨b, o, cs, ct, fz, rfl, hb, h3⟩
  · have h1 := flat_get f hf xs i x 0 ((f x)[0]'(by rw [hf]; exact h0)) hi (by simp [hf, h0])
    rw [hr] at h1; simp at h1
  · exact ⟨b, o, c, cs, ct, fz, rfl, hb, fun j u hu => by rw [Nat.add_assoc]; exact h3 _ _ (flat_get f hf xs i x j u hi hu)⟩

section
variable {HT : Type} {enc : TypeId × Value → HT} {P : Program} {w : World} {base : Nat} {sp : Nat → Bool} {held : Bool}

theorem cells_nonspot {a : Addr} {m : Nat} {cs : List Value} (h : w.cells? base a m = some cs) (hm : 0 < m) : a.spot = none ∧ ∃ xs ct fz, w.heap[a.block]? = some (.cells xs ct fz) := by
  obtain ⟨_, hl, hc⟩ := World.cells?_some h
  have h0 := hc 0 hm
  have : (a.add 0) = a := by simp [Addr.add]
  rw [this, List.getElem?_eq_getElem (by omega)] at h0
  unfold World.cell? at h0
  split at h0
  · rename_i c t f he
    split at h0
    · cases h0
    · rename_i hs
      exact ⟨by cases hsp : a.spot with
        | none => rfl
        | some _ => simp [hsp] at hs, _, _, _, he⟩
  · cases h0

/-- A slice's elements, as one list of cells; each is read by the type. -/
theorem open_rd {t e : TypeId} {sz fuel : Nat} {cs : List Value} {x : DataW HT × List MemPlace} (ht : P.underlying t = some (.slice e)) (hsz : P.cellsOf e = sz) (h0 : 0 < sz) (h : DataW.trod enc P w base sp held fuel t cs = some x) :
    ∃ a n c vs, cs = [.slice a n c] ∧ n ≤ c ∧ c ≤ maxLen ∧ Rd w.heap sz (.slice a n c) n vs ∧ ∀ i, i < n → ∃ m y, DataW.trod enc P w base sp held m e ((vs.drop (i * sz)).take sz) = some y := by
  subst hsz
  rcases Deep.open_slice ht h with ⟨rfl, rfl⟩ | ⟨a, n, c, m, k, D, Pl, rfl, hb, hn, hc, hm, rfl, hx⟩
  · exact ⟨none, 0, 0, [], rfl, Nat.le_refl _, by simp, ⟨by simp, _, _, rfl, .inl rfl⟩, fun i hi => by omega⟩
  · have hnm : n ≤ m := by rw [hm]; split <;> omega
    by_cases hz : n = 0
    · subst hz
      exact ⟨some a, 0, c, [], rfl, hn, hc, ⟨by simp, _, _, rfl, .inl rfl⟩, fun i hi => by omega⟩
    · obtain ⟨cs0, h1, _⟩ := hx 0 (by omega)
      rw [Nat.zero_mul] at h1
      have ha0 : a.add 0 = a := by simp [Addr.add]
      rw [ha0] at h1
      obtain ⟨hsp, xs, ct, fz, hh⟩ := cells_nonspot h1 h0
      obtain ⟨b, o, s⟩ := a
      simp only at hsp hh
      subst hsp
      have key : ∀ i, i < n → ∀ j, j < P.cellsOf e → ∃ cs' k', World.cells? w base ((⟨b, o, none⟩ : Addr).add (i * P.cellsOf e)) (P.cellsOf e) = some cs' ∧ cs'.length = P.cellsOf e ∧ xs.toList[o + (i * P.cellsOf e + j)]? = cs'[j]? ∧ ∃ y, DataW.trod enc P w base sp held k' e cs' = some y := by
        intro i hi j hj
        obtain ⟨cs', h2, h3⟩ := hx i (by omega)
        obtain ⟨_, hl, hcc⟩ := World.cells?_some h2
        have h4 := hcc j hj
        rw [addr_add, addr_add] at h4
        refine ⟨cs', k, h2, hl, ?_, _, h3⟩
        rw [← h4]
        simp [World.cell?, hh, Nat.add_assoc]
      have hlen : o + n * P.cellsOf e ≤ xs.toList.length := by
        obtain ⟨cs', k', _, hl, h5, _⟩ := key (n - 1) (by omega) (P.cellsOf e - 1) (by omega)
        have h6 : cs'[P.cellsOf e - 1]? = some (cs'[P.cellsOf e - 1]'(by omega)) := List.getElem?_eq_getElem (by omega)
        rw [h6] at h5
        have := (List.getElem?_eq_some_iff.1 h5).1
        have e1 : (n - 1) * P.cellsOf e + P.cellsOf e = n * P.cellsOf e := by rw [← Nat.succ_mul]; congr 1; omega
        omega
      refine ⟨_, n, c, (xs.toList.drop o).take (n * P.cellsOf e), rfl, hn, hc, ⟨by rw [List.length_take, List.length_drop]; omega, _, _, rfl, .inr ⟨b, o, xs.toList, ct, fz, rfl, by simpa using hh, fun j u hj => ?_⟩⟩, fun i hi => ?_⟩
      · have hlt := (List.getElem?_eq_some_iff.1 hj).1
        rw [List.getElem?_take_of_lt (by simp at hlt; omega), List.getElem?_drop] at hj
        exact hj
      · obtain ⟨cs', k', _, hl, _, y, hy⟩ := key i hi 0 h0
        refine ⟨k', y, ?_⟩
        rw [← hy]
        congr 1
        have hile : i * P.cellsOf e + P.cellsOf e ≤ n * P.cellsOf e := by rw [← Nat.succ_mul]; exact Nat.mul_le_mul_right _ hi
        apply List.ext_getElem?
        intro j
        by_cases hj : j < P.cellsOf e
        · obtain ⟨cs2, k2, hc2, hl2, h6, _⟩ := key i hi j hj
          obtain ⟨cs3, k3, hc3, hl3, h7, _⟩ := key i hi 0 h0
          rw [List.getElem?_take_of_lt hj, List.getElem?_drop, List.getElem?_take_of_lt (by omega), List.getElem?_drop, h6]
          have : cs2 = cs' := by
            have h8 : World.cells? w base ((⟨b, o, none⟩ : Addr).add (i * P.cellsOf e)) (P.cellsOf e) = some cs' := by assumption
            rw [hc2] at h8; exact Option.some.inj h8
          rw [this]
        · rw [List.getElem?_eq_none (by rw [List.length_take]; omega), List.getElem?_eq_none (by omega)]

theorem okWide_plain {P : Program} {w : World} {r : Reach} {b0 : Nat} {t : TypeId} {v : Value} {e : TypeId} (ht : P.underlying t = some (.slice e)) (h : Value.okWide P w r b0 t v) : v.cells = #[v] := by
  unfold Value.okWide at h
  rw [ht] at h
  unfold Cell.okWide at h
  rw [ht] at h
  cases v <;> first | rfl | (simp only [Cell.ok, ht] at h)

/-- .. of a row's argument. -/
theorem open_rows {α : Type} {r : Reach} {b0 : Nat} {t e : TypeId} {v : Value} {d : DataW HT} {ps : List MemPlace} {sz : Nat} (f : α → List Value) (Q : α → Prop) (ht : P.underlying t = some (.slice e)) (hsz : P.cellsOf e = sz) (h0 : 0 < sz)
    (hval : Value.okWide P w r b0 t v) (hd : DataW.Trod enc P w base sp held t v d ps)
    (hel : ∀ m cs y, cs.length = sz → DataW.trod enc P w base sp held m e cs = some y → ∃ x, cs = f x ∧ Q x) :
    ∃ a c xs, v = .slice a (xs : List α).length c ∧ xs.length ≤ c ∧ c ≤ maxLen ∧ Rd w.heap sz v xs.length (xs.flatMap f) ∧ ∀ x ∈ xs, Q x := by
  obtain ⟨fuel, hf⟩ := hd
  obtain ⟨a, n, c, vs, h1, h2, h3, h4, h5⟩ := open_rd ht hsz h0 hf
  have hv : v = .slice a n c := by
    rw [okWide_plain ht hval] at h1
    simpa using h1
  subst hv
  have hvl := h4.1
  obtain ⟨xs, e1, e2, e3⟩ := chunks (sz := sz) f Q n vs hvl (fun i hi => by
    obtain ⟨m, y, hy⟩ := h5 i hi
    refine hel m _ y ?_ hy
    have : i * sz + sz ≤ n * sz := by rw [← Nat.succ_mul]; exact Nat.mul_le_mul_right _ hi
    rw [List.length_take, List.length_drop]; omega)
  subst e2
  exact ⟨a, c, xs, rfl, h2, h3, e1 ▸ h4, e3⟩

/-- A slice of integers. -/
theorem open_intsR {r : Reach} {b0 : Nat} {t e : TypeId} {k : IntKind} {v : Value} {d : DataW HT} {ps : List MemPlace} (ht : P.underlying t = some (.slice e)) (he : P.underlying e = some (.int k)) (hsz : P.cellsOf e = 1)
    (hval : Value.okWide P w r b0 t v) (hd : DataW.Trod enc P w base sp held t v d ps) :
    ∃ a c xs, v = .slice a (xs : List Int).length c ∧ xs.length ≤ c ∧ c ≤ maxLen ∧ Rd w.heap 1 v xs.length (xs.map fun x => .int k x) ∧ ∀ x ∈ xs, (Lit.int k x).wf = true := by
  obtain ⟨a, c, xs, h1, h2, h3, h4, h5⟩ := open_rows (fun x : Int => [Value.int k x]) (fun x => (Lit.int k x).wf = true) ht hsz (by decide) hval hd (fun m cs y _ hy => by
    obtain ⟨n, h1, _, h2⟩ := DataW.trod_int he hy
    exact ⟨n, h1, h2⟩)
  refine ⟨a, c, xs, h1, h2, h3, ?_, h5⟩
  rwa [show (xs.flatMap fun x : Int => [Value.int k x]) = xs.map fun x => .int k x from List.map_eq_flatMap.symm] at h4

theorem trod_fields {t : TypeId} {fs : Array Field} {fuel : Nat} {cs : List Value} {x : DataW HT × List MemPlace} (ht : P.underlying t = some (.struct fs)) (h : DataW.trod enc P w base sp held fuel t cs = some x) :
    ∃ m, ∀ (i : Nat) (f : Field), fs[i]? = some f → ∃ y, DataW.trod enc P w base sp held m f.type ((cs.drop f.offset).take (P.cellsOf f.type)) = some y := by
  obtain ⟨xs, n, _, _, _, hl, hf⟩ := DataW.trod_struct ht h
  refine ⟨n, fun i f hi => ?_⟩
  have := (Array.getElem?_eq_some_iff.1 hi).1
  have h1 := hf i f hi
  rw [List.getElem?_eq_getElem (by omega)] at h1
  exact ⟨_, h1⟩
theorem one_get {cs : List Value} {o : Nat} {v : Value} (h : (cs.drop o).take 1 = [v]) : cs[o]? = some v := by
  have h1 : ((cs.drop o).take 1)[0]? = some v := by rw [h]; rfl
  rw [List.getElem?_take_of_lt (by omega), List.getElem?_drop] at h1; simpa using h1
theorem field_int {t : TypeId} {k : IntKind} {o fuel : Nat} {cs : List Value} {x : DataW HT × List MemPlace} (ht : P.underlying t = some (.int k)) (hc : P.cellsOf t = 1) (h : DataW.trod enc P w base sp held fuel t ((cs.drop o).take (P.cellsOf t)) = some x) :
    ∃ n, cs[o]? = some (.int k n) ∧ (Lit.int k n).wf = true := by
  obtain ⟨n, h1, _, h2⟩ := DataW.trod_int ht h
  rw [hc] at h1
  exact ⟨n, one_get h1, h2⟩
theorem field_str {t : TypeId} {o fuel : Nat} {cs : List Value} {x : DataW HT × List MemPlace} (ht : P.underlying t = some .string) (hc : P.cellsOf t = 1) (h : DataW.trod enc P w base sp held fuel t ((cs.drop o).take (P.cellsOf t)) = some x) :
    ∃ s : List UInt8, cs[o]? = some (.string ⟨s.toArray⟩) ∧ s.length ≤ maxLen := by
  obtain ⟨s, h1, _, h2⟩ := DataW.trod_string ht h
  rw [hc] at h1
  refine ⟨s.data.toList, ?_, by rw [Array.length_toList]; exact h2⟩
  rw [one_get h1]
theorem field_bool {t : TypeId} {o fuel : Nat} {cs : List Value} {x : DataW HT × List MemPlace} (ht : P.underlying t = some .bool) (hc : P.cellsOf t = 1) (h : DataW.trod enc P w base sp held fuel t ((cs.drop o).take (P.cellsOf t)) = some x) :
    ∃ b : Bool, cs[o]? = some (.bool b) := by
  obtain ⟨b, h1, _⟩ := DataW.trod_bool ht h
  rw [hc] at h1
  exact ⟨b, one_get h1⟩

end
end Go.SX
