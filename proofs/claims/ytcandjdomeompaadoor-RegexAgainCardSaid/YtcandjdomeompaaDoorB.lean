/- Regions that draw their order: one taking order serves every order. -/
import Derived.Test.YtcandjdomeompaaDoorA
namespace Go.SX
open Go

section
variable {P : Program} {l : List Oper} {F : World → Prop} {kd : Nat → Kd} {Q : Act → World → Prop}

def noQ : Exit → Act → World → Prop := fun _ _ _ => False

def cls (k : Kd) (F : World → Prop) (w : World) : Prop :=
  match k with
  | .pu => True
  | _ => F w

def opR (P : Program) (l : List Oper) (F : World → Prop) (kd : Nat → Kd) (i : Nat) (K : Act → World → Prop) (a : Act) (w : World) : Prop :=
  match l[i]? with
  | none => K a w
  | some o =>
    if Region.wanted o (yielded l.toArray a.tmps) = true then
      match kd i with
      | .pu => ∃ v, (∀ w', (execOp a.eval o).run P w' = .ok (.value v) w') ∧ K (a.put o.dst v) w
      | .st => F w ∧ ∃ v, (∀ w', F w' → (execOp a.eval o).run P w' = .ok (.value v) w') ∧ K (a.put o.dst v) w
      | .mk => o.wp P a w (fun a' w' => F w' ∧ K a' w') noQ
      | .mv => o.wp P a w K noQ
    else K (a.put o.dst undef) w

def wpR (P : Program) (l : List Oper) (F : World → Prop) (kd : Nat → Kd) (Q : Act → World → Prop) : Nat → Array Bool → Act → World → Prop
  | 0, listed, a, w => Region.ready .any l.toArray listed = [] ∧ Q a w
  | fuel + 1, listed, a, w =>
    (Region.ready .any l.toArray listed = [] → Q a w) ∧
    ∀ i ∈ Region.ready .any l.toArray listed, opR P l F kd i (wpR P l F kd Q fuel (listed.setIfInBounds i true)) a w

theorem opR_mono {i : Nat} {a : Act} {w : World} {K K' : Act → World → Prop} (h : ∀ a w, K a w → K' a w) (hh : opR P l F kd i K a w) : opR P l F kd i K' a w := by
  unfold opR at *
  cases ho : l[i]? with
  | none => simp only [ho] at hh; exact h _ _ hh
  | some o =>
    simp only [ho] at hh ⊢
    by_cases hw : Region.wanted o (yielded l.toArray a.tmps) = true
    · rw [if_pos hw] at hh ⊢
      cases hk : kd i <;> simp only [hk] at hh ⊢
      · obtain ⟨v, h1, h2⟩ := hh; exact ⟨v, h1, h _ _ h2⟩
      · obtain ⟨h0, v, h1, h2⟩ := hh; exact ⟨h0, v, h1, h _ _ h2⟩
      · exact Oper.wp_mono (fun a' w' h' => ⟨h'.1, h _ _ h'.2⟩) hh
      · exact Oper.wp_mono h hh
    · rw [if_neg hw] at hh ⊢; exact h _ _ hh

theorem wpOp_of_opR {Q' : Exit → Act → World → Prop} {i : Nat} {a : Act} {w : World} {K K' : Act → World → Prop} (h : ∀ a w, K a w → K' a w) (hh : opR P l F kd i K a w) : wpOp P l.toArray Q' i K' a w := by
  unfold opR at hh
  unfold wpOp
  simp only [List.getElem?_toArray]
  cases ho : l[i]? with
  | none => simp only [ho] at hh; exact h _ _ hh
  | some o =>
    simp only [ho] at hh ⊢
    by_cases hw : Region.wanted o (yielded l.toArray a.tmps) = true
    · rw [if_pos hw] at hh ⊢
      refine .inl ?_
      have val : ∀ v, (execOp a.eval o).run P w = .ok (.value v) w → K (a.put o.dst v) w → o.wp P a w K' Q' := fun v hr hK => by
        unfold Oper.wp; rw [hr]; exact h _ _ hK
      cases hk : kd i <;> simp only [hk] at hh
      · obtain ⟨v, h1, h2⟩ := hh; exact val v (h1 w) h2
      · obtain ⟨h0, v, h1, h2⟩ := hh; exact val v (h1 w h0) h2
      · exact Oper.wp_mono (fun a' w' h' => h _ _ h'.2) (wp_noQ hh)
      · exact Oper.wp_mono h (wp_noQ hh)
    · rw [if_neg hw] at hh ⊢; exact h _ _ hh

theorem wpAny_of_wpR {Q' : Exit → Act → World → Prop} (hQ : ∀ a w, Q a w → Q' .normal a w) : ∀ (fuel : Nat) (listed : Array Bool) (a : Act) (w : World), wpR P l F kd Q fuel listed a w → wpAny P .any l.toArray Q' fuel listed a w
  | 0, _, _, _, h => ⟨h.1, hQ _ _ h.2⟩
  | fuel + 1, _, _, _, h => ⟨fun h0 => hQ _ _ (h.1 h0), fun i hi => wpOp_of_opR (fun a' w' h' => wpAny_of_wpR hQ fuel _ a' w' h') (h.2 i hi)⟩

def YI (P : Program) (l : List Oper) (C : World → Prop) (o : Oper) (v : Value) (a : Act) : Prop :=
  (Region.wanted o (yielded l.toArray a.tmps) = true ∧ ∀ w, C w → (execOp a.eval o).run P w = .ok (.value v) w) ∨
  (Region.wanted o (yielded l.toArray a.tmps) = false ∧ v = undef)

theorem YI.of_same {C : World → Prop} {o : Oper} {v : Value} {a a' : Act} (hy : YI P l C o v a) (he : execOp a'.eval o = execOp a.eval o)
    (hw : Region.wanted o (yielded l.toArray a'.tmps) = Region.wanted o (yielded l.toArray a.tmps)) : YI P l C o v a' := by
  unfold YI at *
  rw [he, hw]
  exact hy

theorem YI.opR {i : Nat} {o : Oper} {v : Value} {a : Act} {w : World} {K : Act → World → Prop} (hi : l[i]? = some o) (hk : kd i = .pu ∨ kd i = .st) (hF : kd i = .st → F w)
    (hy : YI P l (cls (kd i) F) o v a) (h : K (a.put o.dst v) w) : opR P l F kd i K a w := by
  unfold Go.SX.opR
  simp only [hi]
  rcases hy with ⟨hw, hv⟩ | ⟨hw, rfl⟩
  · rw [if_pos hw]
    rcases hk with hk | hk
    · rw [hk] at hv ⊢; exact ⟨v, fun w' => hv w' trivial, h⟩
    · rw [hk] at hv; simp only [hk]; exact ⟨hF hk, v, fun w' hw' => hv w' hw', h⟩
  · rw [if_neg (by rw [hw]; simp)]; exact h

theorem opR_put {C : World → Prop} {i j : Nat} {oi oj : Oper} {v : Value} (hj : l[j]? = some oj) (hap : oi.apart l.toArray oj = true)
    (hsi : ∀ cs b, oi.op ≠ .select cs b) (hsj : ∀ cs b, oj.op ≠ .select cs b) (hmv : kd i = .st → kd j ≠ .mv)
    {K : Act → World → Prop} {a : Act} {w : World} (hy : YI P l C oi v a) (hF : kd i = .st → F w) (h : opR P l F kd j K (a.put oi.dst v) w) :
    opR P l F kd j (fun a' w' => YI P l C oi v a' ∧ (kd i = .st → F w') ∧ K (a'.put oi.dst v) w') a w := by
  obtain ⟨h1, h2, h3⟩ := Oper.apart_spec hap
  have keep : ∀ (a : Act), YI P l C oi v a → ∀ u, YI P l C oi v (a.put oj.dst u) := fun a hy u =>
    hy.of_same (execOp_put oi hsi a oj.dst u h3) (wanted_put oi a oj.dst u h3)
  have keepD : ∀ d, YI P l C oi v { a with defers := d :: a.defers } := fun d => hy.of_same rfl rfl
  have he : execOp (a.put oi.dst v).eval oj = execOp a.eval oj := execOp_put oj hsj a oi.dst v h1
  -- an operation that is carried out
  have mover : ∀ (G : World → Prop), (∀ w', G w' → kd i = .st → F w') → oj.wp P (a.put oi.dst v) w (fun a' w' => G w' ∧ K a' w') noQ →
      oj.wp P a w (fun a' w' => G w' ∧ YI P l C oi v a' ∧ (kd i = .st → F w') ∧ K (a'.put oi.dst v) w') noQ := by
    intro G hG hh
    unfold Oper.wp at *
    rw [he] at hh
    generalize (execOp a.eval oj).run P w = r at *
    cases r with
    | ok n w' =>
      cases n <;> simp only [Oper.upon] at hh ⊢
      case value u => exact ⟨hh.1, keep a hy u, hG _ hh.1, by rw [← Act.put_comm a v u h2]; exact hh.2⟩
      case skip => exact ⟨hh.1, keep a hy _, hG _ hh.1, by rw [← Act.put_comm a v undef h2]; exact hh.2⟩
      case defer d =>
        refine ⟨hh.1, keep _ (keepD d) _, hG _ hh.1, ?_⟩
        rw [← Act.put_comm _ v undef h2, ← Act.put_defers]
        exact hh.2
      case enter f args =>
        refine Calls.mono hh fun e w'' he => ?_
        cases e with
        | returned u => exact ⟨he.1, keep a hy u, hG _ he.1, by rw [← Act.put_comm a v u h2]; exact he.2⟩
        | panicked c => exact he
        | outgrown => exact he
      case row row args => exact Rows.mono hh fun u w'' he => ⟨he.1, keep a hy u, hG _ he.1, by rw [← Act.put_comm a v u h2]; exact he.2⟩
    | halt x w' =>
      cases x <;> simp only [Oper.upon] at hh ⊢ <;> exact hh
  unfold opR at *
  simp only [hj] at *
  rw [wanted_put oj a oi.dst v h1] at h
  by_cases hw : Region.wanted oj (yielded l.toArray a.tmps) = true
  · rw [if_pos hw] at h ⊢
    cases hk : kd j <;> simp only [hk] at h ⊢
    · obtain ⟨u, hu, hn⟩ := h
      rw [he] at hu
      exact ⟨u, hu, keep a hy u, hF, by rw [← Act.put_comm a v u h2]; exact hn⟩
    · obtain ⟨h0, u, hu, hn⟩ := h
      rw [he] at hu
      exact ⟨h0, u, hu, keep a hy u, hF, by rw [← Act.put_comm a v u h2]; exact hn⟩
    · exact mover F (fun w' hw' _ => hw') h
    · have := mover (fun _ => True) (fun w' _ hst => absurd hk (hmv hst)) (Oper.wp_mono (fun _ _ hK => ⟨trivial, hK⟩) h)
      exact Oper.wp_mono (fun _ _ hK => hK.2) this
  · rw [if_neg hw] at h ⊢
    exact ⟨keep a hy _, hF, by rw [← Act.put_comm a v undef h2]; exact h⟩

theorem wpR_first {i : Nat} {oi : Oper} {v : Value} (hi : l[i]? = some oi) (hsel : ∀ (j : Nat) (o : Oper) cs b, l.toArray[j]? = some o → o.op ≠ .select cs b)
    (hk : kd i = .pu ∨ kd i = .st)
    (hmv : kd i = .st → ∀ j oj, l[j]? = some oj → kd j = .mv → ∃ e ∈ oj.after, Region.binds .any e = true ∧ e.on = i) :
    ∀ (fuel : Nat) (listed : Array Bool) (a : Act) (w : World),
      (∀ j oj, l.toArray[j]? = some oj → j ≠ i → listed.getD j true = false → (∀ e ∈ oj.after, Region.binds .any e = true → e.on ≠ i) → oi.apart l.toArray oj = true) →
      i ∈ Region.ready .any l.toArray listed → YI P l (cls (kd i) F) oi v a → (kd i = .st → F w) →
      wpR P l F kd Q fuel (listed.setIfInBounds i true) (a.put oi.dst v) w → wpR P l F kd Q (fuel + 1) listed a w := by
  intro fuel
  induction fuel with
  | zero =>
    intro listed a w _ hr hy hF H
    refine ⟨fun h => (by rw [h] at hr; cases hr), fun j hj => ?_⟩
    by_cases hji : j = i
    · subst hji; exact hy.opR hi hk hF H
    · have := ready_mono hj hji
      rw [H.1] at this
      cases this
  | succ fuel ih =>
    intro listed a w hfree hr hy hF H
    refine ⟨fun h => (by rw [h] at hr; cases hr), fun j hj => ?_⟩
    by_cases hji : j = i
    · subst hji; exact hy.opR hi hk hF H
    · have h1 := H.2 j (ready_mono hj hji)
      obtain ⟨hjun, oj, hoj, hall⟩ := mem_ready.1 hj
      have hnot : ∀ e ∈ oj.after, Region.binds .any e = true → e.on ≠ i := fun e he hb heq => by
        have h1 := hall e he hb
        have h0 := (mem_ready.1 hr).1
        rw [heq] at h1
        rcases Nat.lt_or_ge i listed.size with h' | h'
        · simp [h'] at h0 h1; rw [h0] at h1; cases h1
        · simp [Array.getElem?_eq_none h'] at h1
      have hoj' : l[j]? = some oj := by simpa using hoj
      have hi' : l.toArray[i]? = some oi := by simpa using hi
      have hmv' : kd i = .st → kd j ≠ .mv := fun hst hm => by
        obtain ⟨e, he, hb, hon⟩ := hmv hst j oj hoj' hm
        exact hnot e he hb hon
      have h2 := opR_put hoj' (hfree j oj hoj hji hjun hnot) (fun cs b => hsel i oi cs b hi') (fun cs b => hsel j oj cs b hoj) hmv' hy hF h1
      have hfree' : ∀ k ok, l.toArray[k]? = some ok → k ≠ i → (listed.setIfInBounds j true).getD k true = false →
          (∀ e ∈ ok.after, Region.binds .any e = true → e.on ≠ i) → oi.apart l.toArray ok = true := fun k ok hk hki hun hno => by
        refine hfree k ok hk hki ?_ hno
        by_cases hjk : j = k
        · subst hjk; exact hjun
        · rw [getD_set_ne true hjk] at hun; exact hun
      refine opR_mono (fun a' w' h3 => ih (listed.setIfInBounds j true) a' w' hfree' (ready_mono hr (Ne.symm hji)) h3.1 h3.2.1 ?_) h2
      rw [Array.setIfInBounds_comm _ _ hji]
      exact h3.2.2

/-! ### the checker -/
def kdOf : List (Nat × Kd) → Nat → Kd
  | [], _ => .mv
  | (j, k) :: r, i => if j = i then k else kdOf r i

def ordOK (l : List Oper) (kd : Nat → Kd) : List (Nat × Kd) → Array Bool → Bool → Bool
  | [], listed, _ => (Region.ready .any l.toArray listed).isEmpty
  | (i, k) :: r, listed, b =>
    decide (kd i = k) &&
    match k with
    | .pu => (Region.ready .any l.toArray listed).contains i && Region.free .any l.toArray listed i && ordOK l kd r (listed.setIfInBounds i true) b
    | .st => b && (Region.ready .any l.toArray listed).contains i && Region.free .any l.toArray listed i && ordOK l kd r (listed.setIfInBounds i true) b
    | .mk => decide (Region.ready .any l.toArray listed = [i]) && ordOK l kd r (listed.setIfInBounds i true) b
    | .mv => decide (Region.ready .any l.toArray listed = [i]) && ordOK l kd r (listed.setIfInBounds i true) false

def mvOK (l : List Oper) (kd : Nat → Kd) : Bool :=
  (List.range l.length).all fun i => decide (kd i ≠ .st) || (List.range l.length).all fun j => decide (kd j ≠ .mv) ||
    match l[j]? with
    | some oj => oj.after.any fun e => Region.binds .any e && e.on == i
    | none => true

def regOK (l : List Oper) (ord : List (Nat × Kd)) : Bool :=
  Region.noSelect l.toArray && mvOK l (kdOf ord) && ordOK l (kdOf ord) ord (Array.replicate l.length false) true && decide (ord.length = l.length)

theorem mvOK_spec (h : mvOK l kd = true) {i : Nat} (hi : i < l.length) (hst : kd i = .st) (j : Nat) (oj : Oper) (hj : l[j]? = some oj) (hm : kd j = .mv) :
    ∃ e ∈ oj.after, Region.binds .any e = true ∧ e.on = i := by
  have h1 := List.all_eq_true.1 h i (List.mem_range.2 hi)
  simp only [hst, ne_eq, not_true_eq_false, decide_false, Bool.false_or] at h1
  have hjl : j < l.length := (List.getElem?_eq_some_iff.1 hj).1
  have h2 := List.all_eq_true.1 h1 j (List.mem_range.2 hjl)
  simp only [hm, not_true_eq_false, decide_false, Bool.false_or, hj] at h2
  obtain ⟨e, he, hb⟩ := Array.any_eq_true'.1 h2
  simp only [Bool.and_eq_true, beq_iff_eq] at hb
  exact ⟨e, he, hb.1, hb.2⟩

theorem wpR_of_ord (hsel : Region.noSelect l.toArray = true) (hmv : mvOK l kd = true) : ∀ (r : List (Nat × Kd)) (listed : Array Bool) (b : Bool) (a : Act) (w : World),
    ordOK l kd r listed b = true → (b = true → F w) → wpOrd P l F Q r a w → wpR P l F kd Q r.length listed a w
  | [], listed, b, a, w, hB, _, h => ⟨by simpa [ordOK] using hB, h⟩
  | (i, k) :: r, listed, b, a, w, hB, hF, h => by
    simp only [ordOK, Bool.and_eq_true, decide_eq_true_eq] at hB
    obtain ⟨hkd, hB⟩ := hB
    simp only [wpOrd, nth_eq] at h
    cases ho : l[i]? with
    | none => simp [ho] at h
    | some o =>
      simp only [ho] at h
      have hil : i < l.length := (List.getElem?_eq_some_iff.1 ho).1
      have ho' : l.toArray[i]? = some o := by simpa using ho
      by_cases hw : Region.wanted o (yielded l.toArray a.tmps) = true
      · rw [if_pos hw] at h
        cases k <;> simp only [Bool.and_eq_true, decide_eq_true_eq] at hB h
        · obtain ⟨⟨hr, hf⟩, hB'⟩ := hB
          obtain ⟨v, hv, hn⟩ := h
          exact wpR_first ho (Region.noSelect_spec hsel) (.inl hkd) (fun hst => by rw [hkd] at hst; cases hst) r.length listed a w (Region.free_spec ho' hf) (by simpa using hr)
            (.inl ⟨hw, fun w' _ => hv w'⟩) (fun hst => by rw [hkd] at hst; cases hst) (wpR_of_ord hsel hmv r _ b _ w hB' hF hn)
        · obtain ⟨⟨⟨hb, hr⟩, hf⟩, hB'⟩ := hB
          obtain ⟨v, hv, hn⟩ := h
          exact wpR_first ho (Region.noSelect_spec hsel) (.inr hkd) (fun hst => mvOK_spec hmv hil hst) r.length listed a w (Region.free_spec ho' hf) (by simpa using hr)
            (.inl ⟨hw, fun w' hc => hv w' (by rw [hkd] at hc; exact hc)⟩) (fun _ => hF hb) (wpR_of_ord hsel hmv r _ b _ w hB' hF hn)
        · obtain ⟨hr, hB'⟩ := hB
          refine ⟨fun h0 => (by rw [hr] at h0; cases h0), fun j hj => ?_⟩
          rw [hr] at hj
          obtain rfl : j = i := by simpa using hj
          unfold opR
          simp only [ho, if_pos hw, hkd]
          exact Oper.wp_mono (fun a' w' h' => ⟨h'.1, wpR_of_ord hsel hmv r _ b _ w' hB' (fun _ => h'.1) h'.2⟩) h
        · obtain ⟨hr, hB'⟩ := hB
          refine ⟨fun h0 => (by rw [hr] at h0; cases h0), fun j hj => ?_⟩
          rw [hr] at hj
          obtain rfl : j = i := by simpa using hj
          unfold opR
          simp only [ho, if_pos hw, hkd]
          exact Oper.wp_mono (fun a' w' h' => wpR_of_ord hsel hmv r _ false _ w' hB' (fun h => by cases h) h') h
      · rw [if_neg hw] at h
        have hwf : Region.wanted o (yielded l.toArray a.tmps) = false := by simpa using hw
        have mover : Region.ready .any l.toArray listed = [i] → wpR P l F kd Q r.length (listed.setIfInBounds i true) (a.put o.dst undef) w → wpR P l F kd Q (r.length + 1) listed a w := by
          intro hr hR
          refine ⟨fun h0 => (by rw [hr] at h0; cases h0), fun j hj => ?_⟩
          rw [hr] at hj
          obtain rfl : j = i := by simpa using hj
          unfold opR
          simp only [ho, if_neg hw]
          exact hR
        cases k <;> simp only [Bool.and_eq_true, decide_eq_true_eq] at hB
        · obtain ⟨⟨hr, hf⟩, hB'⟩ := hB
          exact wpR_first ho (Region.noSelect_spec hsel) (.inl hkd) (fun hst => by rw [hkd] at hst; cases hst) r.length listed a w (Region.free_spec ho' hf) (by simpa using hr)
            (.inr ⟨hwf, rfl⟩) (fun hst => by rw [hkd] at hst; cases hst) (wpR_of_ord hsel hmv r _ b _ w hB' hF h)
        · obtain ⟨⟨⟨hb, hr⟩, hf⟩, hB'⟩ := hB
          exact wpR_first ho (Region.noSelect_spec hsel) (.inr hkd) (fun hst => mvOK_spec hmv hil hst) r.length listed a w (Region.free_spec ho' hf) (by simpa using hr)
            (.inr ⟨hwf, rfl⟩) (fun _ => hF hb) (wpR_of_ord hsel hmv r _ b _ w hB' hF h)
        · exact mover hB.1 (wpR_of_ord hsel hmv r _ b _ w hB.2 hF h)
        · exact mover hB.1 (wpR_of_ord hsel hmv r _ false _ w hB.2 (fun h => by cases h) h)
end

theorem region_ord {P : Program} {id : Nat} {l : List Oper} {F : World → Prop} {Q : Exit → Act → World → Prop} {a : Act} {w : World} (ord : List (Nat × Kd))
    (hm : P.follows .mixedOrders = true) (hB : regOK l ord = true) (hF : F { w with drawn := w.drawn + 1 })
    (h : wpOrd P l F (fun a w => Q .normal a w) ord a { w with drawn := w.drawn + 1 }) : (Code.region id l.toArray true).wp P Q a w := by
  simp only [regOK, Bool.and_eq_true, decide_eq_true_eq] at hB
  obtain ⟨⟨⟨hsel, hmv⟩, hord⟩, hlen⟩ := hB
  refine wp_region_any hm (wpAny_of_wpR (F := F) (kd := kdOf ord) (Q := fun a w => Q .normal a w) (fun _ _ h => h) _ _ _ _ ?_)
  have := wpR_of_ord (Q := fun a w => Q .normal a w) hsel hmv ord _ true a _ hord (fun _ => hF) h
  rw [hlen] at this
  simpa using this

end Go.SX
