/- Regions that draw their order, where two operations that are carried out stand free of one another: each order is walked (a tree of orders). -/
import Derived.Test.YtaofjmaekpjkhaaDoorL
namespace Go.SX
open Go
set_option linter.unusedVariables false

inductive OT where
  | lin (r : List (Nat × Kd))
  | fork (pre : List (Nat × Kd)) (i : Nat) (k : Kd) (t1 : OT) (j : Nat) (k' : Kd) (t2 : OT)
def OT.len : OT → Nat
  | .lin r => r.length
  | .fork pre _ _ t1 _ _ _ => pre.length + (t1.len + 1)
def OT.first : OT → List (Nat × Kd)
  | .lin r => r
  | .fork pre i k t1 _ _ _ => pre ++ (i, k) :: t1.first

section
variable {P : Program} {l : List Oper} {F : World → Prop} {kd : Nat → Kd}
def preOK (l : List Oper) (kd : Nat → Kd) (b : Bool) : List (Nat × Kd) → Array Bool → Bool
  | [], _ => true
  | (i, k) :: r, listed => decide (kd i = k) && (decide (k = .pu) || (b && decide (k = .st))) && (Region.ready .any l.toArray listed).contains i && Region.free .any l.toArray listed i && preOK l kd b r (listed.setIfInBounds i true)
def takenBy : List (Nat × Kd) → Array Bool → Array Bool
  | [], listed => listed
  | (i, _) :: r, listed => takenBy r (listed.setIfInBounds i true)
def noGuard (l : List Oper) (i : Nat) : Bool := match l[i]? with
  | some o => o.guard.isNone
  | none => true
theorem noGuard_spec {l : List Oper} {i : Nat} (h : noGuard l i = true) : ∀ o, l[i]? = some o → o.guard = none := by
  intro o ho
  simp only [noGuard, ho, Option.isNone_iff_eq_none] at h; exact h
def treeOK (l : List Oper) (kd : Nat → Kd) : OT → Array Bool → Bool → Bool
  | .lin r, L, b => ordOK l kd r L b
  | .fork pre i k t1 j k' t2, L, b => preOK l kd b pre L && decide (Region.ready .any l.toArray (takenBy pre L) = [i, j]) && decide (kd i = k) && decide (kd j = k') && isM k && isM k' &&
      noGuard l i && noGuard l j && decide (t1.len = t2.len) && treeOK l kd t1 ((takenBy pre L).setIfInBounds i true) (decide (k = .mk)) && treeOK l kd t2 ((takenBy pre L).setIfInBounds j true) (decide (k' = .mk))
def wpT (P : Program) (l : List Oper) (F : World → Prop) (Q : Act → World → Prop) : OT → Act → World → Prop
  | .lin r, a, w => wpOrd P l F Q r a w
  | .fork pre i k t1 j k' t2, a, w => wpOrd P l F (fun a' w' => wpOrd P l F (wpT P l F Q t1) [(i, k)] a' w' ∧ wpOrd P l F (wpT P l F Q t2) [(j, k')] a' w') pre a w
theorem wpT_mono {Q Q' : Act → World → Prop} (h : ∀ a w, Q a w → Q' a w) : ∀ (t : OT) (a : Act) (w : World), wpT P l F Q t a w → wpT P l F Q' t a w
  | .lin r, a, w, hh => wpOrd_mono h r a w hh
  | .fork pre i k t1 j k' t2, a, w, hh => wpOrd_mono (fun a' w' h' => ⟨wpOrd_mono (wpT_mono h t1) _ _ _ h'.1, wpOrd_mono (wpT_mono h t2) _ _ _ h'.2⟩) pre a w hh

theorem wpR_of_pre {Q Q0 : Act → World → Prop} {fuel : Nat} {b : Bool} (hsel : Region.noSelect l.toArray = true) (hmv : mvOK l kd = true) : ∀ (r : List (Nat × Kd)) (listed : Array Bool) (a : Act) (w : World),
    preOK l kd b r listed = true → (b = true → F w) → (∀ a' w', Q0 a' w' → wpR P l F kd Q fuel (takenBy r listed) a' w') → wpOrd P l F Q0 r a w → wpR P l F kd Q (r.length + fuel) listed a w
  | [], listed, a, w, _, hF, hb, h => by
    rw [List.length_nil, Nat.zero_add]; exact hb a w h
  | (i, k) :: r, listed, a, w, hB, hF, hb, h => by
    simp only [preOK, Bool.and_eq_true, decide_eq_true_eq, Bool.or_eq_true] at hB
    obtain ⟨⟨⟨⟨hkd, hk2⟩, hr⟩, hf⟩, hB'⟩ := hB
    rw [List.length_cons, show r.length + 1 + fuel = (r.length + fuel) + 1 by omega]
    simp only [wpOrd, nth_eq] at h
    cases ho : l[i]? with
    | none => simp [ho] at h
    | some o =>
      simp only [ho] at h
      have hil : i < l.length := (List.getElem?_eq_some_iff.1 ho).1
      have ho' : l.toArray[i]? = some o := by simpa using ho
      by_cases hw : Region.wanted o (yielded l.toArray a.tmps) = true
      · rw [if_pos hw] at h
        rcases hk2 with rfl | ⟨hbt, rfl⟩
        · obtain ⟨v, hv, hn⟩ := h
          exact wpR_first ho (Region.noSelect_spec hsel) (.inl hkd) (fun hst => by rw [hkd] at hst; cases hst) _ listed a w (Region.free_spec ho' hf) (by simpa using hr)
            (.inl ⟨hw, fun w' _ => hv w'⟩) (fun hst => by rw [hkd] at hst; cases hst) (wpR_of_pre hsel hmv r _ _ w hB' hF hb hn)
        · obtain ⟨v, hv, hn⟩ := h
          exact wpR_first ho (Region.noSelect_spec hsel) (.inr hkd) (fun hst => mvOK_spec hmv hil hst) _ listed a w (Region.free_spec ho' hf) (by simpa using hr)
            (.inl ⟨hw, fun w' hc => hv w' (by rw [hkd] at hc; exact hc)⟩) (fun _ => hF hbt) (wpR_of_pre hsel hmv r _ _ w hB' hF hb hn)
      · rw [if_neg hw] at h
        have hwf : Region.wanted o (yielded l.toArray a.tmps) = false := by simpa using hw
        rcases hk2 with rfl | ⟨hbt, rfl⟩
        · exact wpR_first ho (Region.noSelect_spec hsel) (.inl hkd) (fun hst => by rw [hkd] at hst; cases hst) _ listed a w (Region.free_spec ho' hf) (by simpa using hr)
            (.inr ⟨hwf, rfl⟩) (fun hst => by rw [hkd] at hst; cases hst) (wpR_of_pre hsel hmv r _ _ w hB' hF hb h)
        · exact wpR_first ho (Region.noSelect_spec hsel) (.inr hkd) (fun hst => mvOK_spec hmv hil hst) _ listed a w (Region.free_spec ho' hf) (by simpa using hr)
            (.inr ⟨hwf, rfl⟩) (fun _ => hF hbt) (wpR_of_pre hsel hmv r _ _ w hB' hF hb h)

/-- The first operation of a branch, carried out; then the branch's tree. -/
theorem opR_tail {Q Q1 : Act → World → Prop} {i : Nat} {k : Kd} {fuel : Nat} {listed : Array Bool} {a : Act} {w : World} (hkd : kd i = k) (hk : isM k = true)
    (hB : ∀ a' w', (decide (k = .mk) = true → F w') → Q1 a' w' → wpR P l F kd Q fuel (listed.setIfInBounds i true) a' w') (h : wpOrd P l F Q1 [(i, k)] a w) (hwant : ∀ o, l[i]? = some o → o.guard = none) : opR P l F kd i (wpR P l F kd Q fuel (listed.setIfInBounds i true)) a w := by
  simp only [wpOrd, nth_eq] at h
  unfold opR
  cases ho : l[i]? with
  | none => simp [ho] at h
  | some o =>
    simp only [ho] at h ⊢
    have hw : Region.wanted o (yielded l.toArray a.tmps) = true := by simp [Region.wanted, hwant o ho]
    rw [if_pos hw] at h ⊢
    rw [hkd]
    cases k <;> simp only [isM] at hk h ⊢
    · cases hk
    · cases hk
    · exact Oper.wp_mono (fun a' w' h' => ⟨h'.1, hB a' w' (fun _ => h'.1) h'.2⟩) h
    · exact Oper.wp_mono (fun a' w' h' => hB a' w' (fun e => by cases e) h') h

theorem wpR_of_tree {Q : Act → World → Prop} (hsel : Region.noSelect l.toArray = true) (hmv : mvOK l kd = true) : ∀ (t : OT) (L : Array Bool) (b : Bool) (a : Act) (w : World),
    treeOK l kd t L b = true → (b = true → F w) → wpT P l F Q t a w → wpR P l F kd Q t.len L a w
  | .lin r, L, b, a, w, hB, hF, h => wpR_of_ord hsel hmv r L b a w hB hF h
  | .fork pre i k t1 j k' t2, L, b, a, w, hB, hF, h => by
    simp only [treeOK, Bool.and_eq_true, decide_eq_true_eq] at hB
    obtain ⟨⟨⟨⟨⟨⟨⟨⟨⟨⟨hpre, hrd⟩, hki⟩, hkj⟩, hmi⟩, hmj⟩, hg1⟩, hg2⟩, hll⟩, ho1⟩, ho2⟩ := hB
    refine wpR_of_pre hsel hmv pre L a w hpre hF (fun a' w' h' => ?_) h
    refine ⟨fun h0 => (by rw [hrd] at h0; cases h0), fun q hq => ?_⟩
    rw [hrd] at hq
    simp only [List.mem_cons, List.not_mem_nil, or_false] at hq
    rcases hq with rfl | rfl
    · exact opR_tail hki hmi (fun a2 w2 hF2 h2 => wpR_of_tree hsel hmv t1 _ _ a2 w2 ho1 hF2 h2) h'.1 (noGuard_spec hg1)
    · rw [hll]; exact opR_tail hkj hmj (fun a2 w2 hF2 h2 => wpR_of_tree hsel hmv t2 _ _ a2 w2 ho2 hF2 h2) h'.2 (noGuard_spec hg2)
end

def forkOK (l : List Oper) (t : OT) : Bool :=
  Region.noSelect l.toArray && mvOK l (kdOf t.first) && treeOK l (kdOf t.first) t (Array.replicate l.length false) true && decide (t.len = l.length)
theorem region_tree {P : Program} {id : Nat} {l : List Oper} {F : World → Prop} {Q : Exit → Act → World → Prop} {a : Act} {w : World} (t : OT)
    (hm : P.follows .mixedOrders = true) (hB : forkOK l t = true) (hF : F { w with drawn := w.drawn + 1 })
    (h : wpT P l F (fun a w => Q .normal a w) t a { w with drawn := w.drawn + 1 }) : (Code.region id l.toArray true).wp P Q a w := by
  simp only [forkOK, Bool.and_eq_true, decide_eq_true_eq] at hB
  obtain ⟨⟨⟨hsel, hmv⟩, hpre⟩, hlen⟩ := hB
  refine wp_region_any hm (wpAny_of_wpR (F := F) (kd := kdOf t.first) (Q := fun a w => Q .normal a w) (fun _ _ h => h) _ _ _ _ ?_)
  have := wpR_of_tree (Q := fun a w => Q .normal a w) hsel hmv t _ true a _ hpre (fun _ => hF) h
  rw [hlen] at this
  simpa using this

def Kt (P : Program) (l : List Oper) (F : Heap → Prop) (K : Act → Heap → Prop) (t : OT) (a : Act) (H : Heap) : Prop :=
  ∀ w : World, w.heap = H → wpT P l (fun w => F w.heap) (fun a' w' => Iw w w' ∧ K a' w'.heap) t a w
def Kf (P : Program) (l : List Oper) (F : Heap → Prop) (K : Act → Heap → Prop) (i : Nat) (k : Kd) (t1 : OT) (j : Nat) (k' : Kd) (t2 : OT) (a : Act) (H : Heap) : Prop :=
  ∀ w : World, w.heap = H → wpOrd P l (fun w => F w.heap) (wpT P l (fun w => F w.heap) (fun a' w' => Iw w w' ∧ K a' w'.heap) t1) [(i, k)] a w ∧ wpOrd P l (fun w => F w.heap) (wpT P l (fun w => F w.heap) (fun a' w' => Iw w w' ∧ K a' w'.heap) t2) [(j, k')] a w

section
variable {P : Program} {n : Nat} {Q : Exit → Act → Heap → Prop} {env : Env} {H : Heap} {l : List Oper} {F : Heap → Prop} {K : Act → Heap → Prop}
/-- A branch that goes on in a line. -/
theorem X.lin {r : List (Nat × Kd)} (env' : Env) (hs : sub env env') (h : X P n l F K r env' H) : X P n l F (Kt P l F K (.lin r)) [] env H :=
  X.fin env' hs (fun a ha w hw => h a w ha hw)
/-- A tree that parts, behind what goes ahead. -/
theorem X.tree {pre : List (Nat × Kd)} {i j : Nat} {k k' : Kd} {t1 t2 : OT} (env' : Env) (hs : sub env env') (h : X P n l F (Kf P l F K i k t1 j k' t2) pre env' H) : X P n l F (Kt P l F K (.fork pre i k t1 j k' t2)) [] env H :=
  X.fin env' hs (fun a ha w hw => by
    have := h a w ha hw
    refine wpOrd_mono (fun a' w' h' => ?_) _ _ _ this
    obtain ⟨g1, g2⟩ := h'.2 w' rfl
    exact ⟨wpOrd_mono (wpT_mono (fun a2 w2 hh => ⟨h'.1.trans hh.1, hh.2⟩) t1) _ _ _ g1, wpOrd_mono (wpT_mono (fun a2 w2 hh => ⟨h'.1.trans hh.1, hh.2⟩) t2) _ _ _ g2⟩)
/-- Both branches. -/
theorem X.fork {i j : Nat} {k k' : Kd} {t1 t2 : OT} (env' : Env) (hs : sub env env') (h1 : X P n l F (Kt P l F K t1) [(i, k)] env' H) (h2 : X P n l F (Kt P l F K t2) [(j, k')] env' H) : X P n l F (Kf P l F K i k t1 j k' t2) [] env H :=
  X.fin env' hs (fun a ha w hw =>
    ⟨wpOrd_mono (fun a' w' h' => wpT_mono (fun a2 w2 hh => ⟨h'.1.trans hh.1, hh.2⟩) t1 _ _ (h'.2 w' rfl)) _ _ _ (h1 a w ha hw),
     wpOrd_mono (fun a' w' h' => wpT_mono (fun a2 w2 hh => ⟨h'.1.trans hh.1, hh.2⟩) t2 _ _ (h'.2 w' rfl)) _ _ _ (h2 a w ha hw)⟩)
theorem E.regionT {id : Nat} (F : Heap → Prop) (t : OT) (hm : P.follows .mixedOrders = true) (hB : forkOK l t = true) (hF : F H)
    (h : X P n l F (Kt P l F (fun a H => Q .normal a H) t) [] env H) : E P n (.region id l.toArray true) Q env H := by
  intro a w hf hH
  refine region_tree (Q := up w Q) (F := fun w => F w.heap) t hm hB (by show F w.heap; rw [hH]; exact hF) ?_
  have h1 := h a { w with drawn := w.drawn + 1 } hf hH
  simp only [wpOrd] at h1
  have hio := (Iw.mk rfl rfl rfl : Iw w { w with drawn := w.drawn + 1 }).trans h1.1
  exact wpT_mono (fun a2 w2 hh => ⟨hio.trans hh.1, hh.2⟩) _ _ _ (h1.2 _ rfl)
end
end Go.SX
