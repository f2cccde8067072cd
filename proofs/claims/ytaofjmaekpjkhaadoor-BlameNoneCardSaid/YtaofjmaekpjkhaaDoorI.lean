/- The operations' laws: copy, clear, cuts of what is owned and read. -/
import Derived.Test.YtaofjmaekpjkhaaDoorH
import Derived.Lib.SliceRun
namespace Go.SX
open Go

theorem bv_append (a b : List UInt8) : bv (a ++ b) = bv a ++ bv b := by simp [bv]
theorem bv_take (a : List UInt8) (n : Nat) : (bv a).take n = bv (a.take n) := by simp [bv, List.map_take]
theorem bv_drop (a : List UInt8) (n : Nat) : (bv a).drop n = bv (a.drop n) := by simp [bv, List.map_drop]
theorem length_bv (a : List UInt8) : (bv a).length = a.length := by simp [bv]
theorem bv_one (a : List UInt8) : ∀ u ∈ bv a, u.oneCell' = true := by
  intro u hu; obtain ⟨c, _, rfl⟩ := List.mem_map.1 hu; rfl
theorem bv_get {a : List UInt8} {j : Nat} {c : UInt8} (h : a[j]? = some c) : (bv a)[j]? = some (.int .u8 c.toNat) := by simp [bv, h]

theorem Own.take {H : Heap} {e : TypeId} {sz : Nat} {a : Option Addr} {n c : Nat} {vs : List Value} (h : Own H e sz (.slice a n c) n vs) {q : Nat} (hq : q ≤ n) : Own H e sz (.slice a q c) q (vs.take (q * sz)) := by
  have hle : q * sz ≤ n * sz := Nat.mul_le_mul_right _ hq
  refine ⟨by rw [List.length_take, h.1]; omega, ?_⟩
  rcases h.2 with ⟨h1, h2⟩ | ⟨b, cap, sp, h1, h2, h3, h4, h5⟩
  · cases h1
    exact .inl ⟨by congr 1; omega, by omega⟩
  · cases h1
    refine .inr ⟨b, _, vs.drop (q * sz) ++ sp, rfl, ?_, ?_, by omega, h5⟩
    · rw [← List.append_assoc, List.take_append_drop]; exact h2
    · rw [← List.append_assoc, List.take_append_drop]; exact h3
theorem Own.cap {H : Heap} {e : TypeId} {sz : Nat} {a : Option Addr} {n c : Nat} {vs : List Value} (h : Own H e sz (.slice a n c) n vs) : n ≤ c ∧ c ≤ maxLen := by
  rcases h.2 with ⟨h1, h2⟩ | ⟨b, cap, sp, h1, h2, h3, h4, h5⟩
  · cases h1; exact ⟨Nat.le_refl _, by simp⟩
  · cases h1; exact ⟨h4, h5⟩
theorem Rd.drop {H : Heap} {sz : Nat} {a : Option Addr} {n c : Nat} {vs : List Value} (h : Rd H sz (.slice a n c) n vs) (hc : n ≤ c) {p : Nat} (hp : p ≤ n) :
    Rd H sz (.slice (if c = p then a else a.map (·.add (p * sz))) (n - p) (c - p)) (n - p) (vs.drop (p * sz)) := by
  obtain ⟨hl, a', c', he, hr⟩ := h
  cases he
  refine ⟨by rw [List.length_drop, hl, Nat.sub_mul], _, _, rfl, ?_⟩
  rcases hr with rfl | ⟨b, o, cs, ct, fz, rfl, hb, h3⟩
  · exact .inl (by simp)
  · by_cases hcp : c = p
    · left
      apply List.drop_eq_nil_of_le
      rw [hl]; exact Nat.mul_le_mul_right _ (by omega)
    · right
      refine ⟨b, o + p * sz, cs, ct, fz, by rw [if_neg hcp]; simp [addr_add], hb, fun j u hj => ?_⟩
      rw [List.getElem?_drop] at hj
      have := h3 _ _ hj
      rwa [← Nat.add_assoc] at this
theorem Rd.take {H : Heap} {sz : Nat} {a : Option Addr} {n c : Nat} {vs : List Value} (h : Rd H sz (.slice a n c) n vs) {q : Nat} (hq : q ≤ n) :
    Rd H sz (.slice a q c) q (vs.take (q * sz)) := by
  obtain ⟨hl, a', c', he, hr⟩ := h
  cases he
  have hle : q * sz ≤ n * sz := Nat.mul_le_mul_right _ hq
  refine ⟨by rw [List.length_take, hl]; omega, _, _, rfl, ?_⟩
  rcases hr with rfl | ⟨b, o, cs, ct, fz, rfl, hb, h3⟩
  · exact .inl (by simp)
  · refine .inr ⟨b, o, cs, ct, fz, rfl, hb, fun j u hj => ?_⟩
    have hlt := (List.getElem?_eq_some_iff.1 hj).1
    rw [List.getElem?_take_of_lt (by simp at hlt; omega)] at hj
    exact h3 j u hj

theorem Rd.dropB {H : Heap} {a : Option Addr} {n c : Nat} {s : List UInt8} (h : Rd H 1 (.slice a n c) n (bv s)) (hc : n ≤ c) {p : Nat} (hp : p ≤ n) :
    Rd H 1 (.slice (if c = p then a else a.map (·.add (p * 1))) (n - p) (c - p)) (n - p) (bv (s.drop p)) := by
  have := h.drop hc hp
  rwa [show List.drop (p * 1) (bv s) = bv (s.drop p) by rw [Nat.mul_one, bv_drop]] at this
theorem Rd.takeB {H : Heap} {a : Option Addr} {n c : Nat} {s : List UInt8} (h : Rd H 1 (.slice a n c) n (bv s)) {q : Nat} (hq : q ≤ n) :
    Rd H 1 (.slice a q c) q (bv (s.take q)) := by
  have := h.take hq
  rwa [show List.take (q * 1) (bv s) = bv (s.take q) by rw [Nat.mul_one, bv_take]] at this

section
variable {P : Program} {n : Nat} {l : List Oper} {F : Heap → Prop} {K : Act → Heap → Prop} {r : List (Nat × Kd)} {env : Env} {H : Heap} {i : Nat} {k : Kd}
variable {d : Option Tmp} {ty : TypeId} {pos : String} {aft : Array Edge} {g : Option (Nat × Bool)} {x y z : Operand} {t t' : TypeId}

theorem setRow_head (w : World) (b : Nat) (cs : List Value) (ct : TypeId) (hb : w.heap[b]? = some (.cells cs.toArray ct (0, 0))) (news : List Value) (hl : news.length ≤ cs.length) (h1 : ∀ v ∈ news, v.oneCell' = true) :
    w.setCells b 0 news = w.setRow b (news ++ cs.drop news.length).toArray := by
  have h2 := run_storeCells_cells (P := default) b 0 news 0 w (fun j hj => by rw [cell_of rfl hb]; simp; omega) (fun j hj => by simp [World.frozen?, hb]) h1
  have h3 := run_storeCells_at default b 0 ct news 0 cs.toArray w hb (by simpa using hl) h1
  rw [h2] at h3
  simpa using h3

/-- 'clear(v)' of a slice that is owned. -/
theorem X.clr {e : TypeId} {zv v : Value} {m : Nat} {vs : List Value} (ht : P.underlying t = some (.slice e)) (hi : (P.info? e).bind (·.zero) = some zv) (hz : zv.cells = #[zv]) (h1 : zv.oneCell' = true)
    (ho : nth l i = some ⟨d, .call ⟨.builtin .clear, #[x], #[t]⟩, ty, pos, aft, g⟩) (hw : wantE l env ⟨d, .call ⟨.builtin .clear, #[x], #[t]⟩, ty, pos, aft, g⟩ = some true) (hd : dOK n d = true) (hk : isM k = true)
    (hx : opv env x = some v) (hown : Own H e 1 v m vs)
    (h : ∀ H', Own H' e 1 v m (List.replicate m zv) → Kp (blk v) H H' → NxH k F H' (X P n l F K r (setd d (.tuple #[]) env) H')) : X P n l F K ((i, k) :: r) env H := by
  refine X.move' (Φ := fun v' H' => v' = .tuple #[] ∧ Own H' e 1 v m (List.replicate m zv) ∧ Kp (blk v) H H') ho hw hd hk (fun ρ w hρ hH => ?_) (fun v' H' ⟨hv, h2, h3⟩ => by subst hv; exact h H' h2 h3)
  subst hH
  have hex : ∀ (v' : Value) (w' : World), (Builtin.clear_ #[t] ty #[v]).run P w = .ok v' w' → (execOp ρ ⟨d, .call ⟨.builtin .clear, #[x], #[t]⟩, ty, pos, aft, g⟩).run P w = .ok (.value v') w' := fun v' w' hr => by
    simp [execOp, resolve, invoke, builtin, hρ _ _ hx, hr]
  rcases hown.2 with ⟨hv, hm⟩ | ⟨b, cap, sp, hv, hb, hcap, hmc, hcx⟩
  · subst hm hv
    exact ⟨_, w, .inl (hex _ _ (by simp [Builtin.clear_, run_underlying ht])), Iw.refl w, rfl, Own.nil _ _ _, Kp.refl _ _⟩
  · subst hv
    have hvl := hown.1
    by_cases hm : m = 0
    · subst hm
      have : vs = [] := List.eq_nil_of_length_eq_zero (by simpa using hvl)
      subst this
      exact ⟨_, w, .inl (hex _ _ (by simp [Builtin.clear_, run_underlying ht])), Iw.refl w, rfl, hown, Kp.refl _ _⟩
    · obtain ⟨inf, hi, hzz⟩ := Option.bind_eq_some_iff.1 hi
      have hr := Go.Lib.run_clear_slice (P := P) w t e ty zv ht (fun w => by simp [zeroValue, typeInfo, hi, hzz]) hz h1 b 0 m cap (by omega)
        (fun j hj => by rw [cell_of rfl hb]; simp; omega) (fun j hj => by simp [World.frozen?, hb])
      rw [setRow_head w b _ e hb _ (by simp; omega) (fun u hu => by rw [List.eq_of_mem_replicate hu]; exact h1)] at hr
      refine ⟨_, _, .inl (hex _ _ hr), ⟨rfl, rfl, rfl⟩, rfl, ⟨by simp, .inr ⟨b, cap, sp, rfl, ?_, by simpa [hvl] using hcap, hmc, hcx⟩⟩, kp_setRow w b _⟩
      rw [setRow_heap w b _ _ e _ hb]
      congr 3
      simp only [List.length_replicate]
      congr 1
      have : m = vs.length := by simpa using hvl.symm
      rw [this, List.drop_left]

/-- 'copy(v, xv)', v owned. -/
theorem X.cpy {e tx : TypeId} {v xv : Value} {m q : Nat} {vs news : List Value} (ht : P.underlying t = some (.slice e)) (hsz : (P.info? e).map (·.size) = some 1)
    (ho : nth l i = some ⟨d, .call ⟨.builtin .copy, #[x, y], #[t, tx]⟩, ty, pos, aft, g⟩) (hw : wantE l env ⟨d, .call ⟨.builtin .copy, #[x, y], #[t, tx]⟩, ty, pos, aft, g⟩ = some true) (hd : dOK n d = true) (hk : isM k = true)
    (hx : opv env x = some v) (hy : opv env y = some xv) (hown : Own H e 1 v m vs) (hsrc : Rd H 1 xv q news) (h1 : ∀ u ∈ news, u.oneCell' = true)
    (h : ∀ H', Own H' e 1 v m (news.take (min q m) ++ vs.drop (min q m)) → Kp (blk v) H H' → NxH k F H' (X P n l F K r (setd d (.int .i64 (min q m : Nat)) env) H')) : X P n l F K ((i, k) :: r) env H := by
  refine X.move' (Φ := fun v' H' => v' = .int .i64 (min q m : Nat) ∧ Own H' e 1 v m (news.take (min q m) ++ vs.drop (min q m)) ∧ Kp (blk v) H H') ho hw hd hk (fun ρ w hρ hH => ?_) (fun v' H' ⟨hv, h2, h3⟩ => by subst hv; exact h H' h2 h3)
  subst hH
  have hex : ∀ (v' : Value) (w' : World), (Builtin.copy_ #[t, tx] ty #[v, xv]).run P w = .ok v' w' → (execOp ρ ⟨d, .call ⟨.builtin .copy, #[x, y], #[t, tx]⟩, ty, pos, aft, g⟩).run P w = .ok (.value v') w' := fun v' w' hr => by
    simp [execOp, resolve, invoke, builtin, hρ _ _ hx, hρ _ _ hy, hr]
  obtain ⟨hnl, a, c, rfl, hr⟩ := hsrc
  simp only [Nat.mul_one] at hnl
  obtain ⟨a', c', hva⟩ := hown.len
  have hvl : vs.length = m := by simpa using hown.1
  by_cases h0 : min q m = 0
  · subst hva
    have := run_copy_none (P := P) w t tx ty e a' a m c' q c ht hsz h0
    exact ⟨_, w, .inl (hex _ _ this), Iw.refl w, by simp [goInt, h0], by rw [h0]; simpa using hown, Kp.refl _ _⟩
  · rcases hr with rfl | ⟨b2, o2, cs2, ct2, fz2, rfl, hb2, h3⟩
    · simp at hnl; omega
    rcases hown.2 with ⟨hv, hm⟩ | ⟨b, cap, sp, hv, hb, hcap, hmc, hcx⟩
    · omega
    · subst hv
      have hlen : (news.take (min q m)).length = Nat.min q m := by rw [List.length_take, hnl]; show _ = min q m; omega
      have hlen' : (news.take (min q m)).length = min q m := by rw [List.length_take, hnl]; omega
      have hrun := run_copy_row (P := P) w t tx ty e b 0 m cap ⟨b2, o2, none⟩ q c (vs ++ sp).toArray e (news.take (min q m)) ht hsz hb hlen
        (fun j u hj => by
          have hlt := (List.getElem?_eq_some_iff.1 hj).1
          rw [List.getElem?_take_of_lt (by omega)] at hj
          rw [addr_add, cell_of rfl hb2]; exact h3 j u hj)
        (by simp; omega) (fun u hu => h1 u (List.mem_of_mem_take hu))
      refine ⟨_, _, .inl (hex _ _ hrun), ⟨rfl, rfl, rfl⟩, by simp only [goInt, hlen'], ⟨by simp; omega, .inr ⟨b, cap, sp, rfl, ?_, by simp at hcap ⊢; omega, hmc, hcx⟩⟩, kp_setRow w b _⟩
      rw [setRow_heap w b _ _ e _ hb]
      congr 3
      simp only [List.take_zero, List.nil_append, Nat.zero_add, hlen', List.append_assoc, List.append_cancel_left_eq]
      rw [List.drop_append_of_le_length (by omega)]

end
end Go.SX
