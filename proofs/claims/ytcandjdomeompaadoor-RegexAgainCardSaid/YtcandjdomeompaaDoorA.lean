/- Symbolic execution: frames as association lists, regions in one taking order. The core. -/
import Derived.WalkKit
import Derived.OrdersHeld
import Derived.KernelRfl
namespace Go.SX
open Go

abbrev Env := List (Nat × Value)

def lk : Env → Nat → Option Value
  | [], _ => none
  | (k, v) :: r, t => bif Nat.beq k t then some v else lk r t

structure Fr (n : Nat) (env : Env) (a : Act) : Prop where
  size : a.tmps.size = n
  defers : a.defers = []
  get : ∀ t v, lk env t = some v → a.tmps[t]? = some v

def opv (env : Env) : Operand → Option Value
  | .tmp t => lk env t
  | .const v => some v
  | .global g => some (.pointer (some ⟨g, 0, none⟩))
  | .func f => some (.func (.func f) #[] #[])

theorem Fr.eval {n : Nat} {env : Env} {a : Act} (h : Fr n env a) {x : Operand} {v : Value} (hx : opv env x = some v) : a.eval x = v := by
  cases x with
  | tmp t => have := h.get t v hx; simp [Act.eval, this]
  | const u => simpa [opv, Act.eval] using hx
  | global g => simpa [opv, Act.eval] using hx
  | func f => simpa [opv, Act.eval] using hx

@[reducible] def setd : Option Tmp → Value → Env → Env
  | some d, v, env => (d, v) :: env
  | none, _, env => env

def dOK (n : Nat) : Option Tmp → Bool
  | some d => Nat.blt d n
  | none => true

theorem Fr.put {n : Nat} {env : Env} {a : Act} (h : Fr n env a) {d : Option Tmp} (hd : dOK n d = true) (v : Value) : Fr n (setd d v env) (a.put d v) := by
  cases d with
  | none => exact h
  | some d =>
    have hlt : d < n := by simpa [dOK, Nat.blt_eq] using hd
    refine ⟨by simp [Act.put, h.size], by simp [Act.put, h.defers], fun t u ht => ?_⟩
    simp only [lk] at ht
    by_cases e : d = t
    · subst e
      simp at ht
      subst ht
      simp [Act.put, h.size, hlt]
    · have : Nat.beq d t = false := by
        cases hb : Nat.beq d t with
        | false => rfl
        | true => exact absurd (Nat.eq_of_beq_eq_true hb) e
      rw [this] at ht
      simp only [cond_false] at ht
      have := h.get t u ht
      simp [Act.put, Array.getElem?_setIfInBounds_ne e, this]

def sub (env : Env) : Env → Prop
  | [] => True
  | (k, v) :: r => lk env k = some v ∧ sub env r

theorem sub.get {env : Env} : ∀ {env' : Env}, sub env env' → ∀ t v, lk env' t = some v → lk env t = some v
  | [], _, t, v, h => by simp [lk] at h
  | (k, u) :: r, hs, t, v, h => by
    simp only [lk] at h
    cases hb : Nat.beq k t with
    | true =>
      have : k = t := by simpa using hb
      subst this
      rw [hb] at h; simp at h; subst h
      exact hs.1
    | false => rw [hb] at h; exact sub.get hs.2 t v h

theorem Fr.sub {n : Nat} {env env' : Env} {a : Act} (h : Fr n env a) (hs : sub env env') : Fr n env' a :=
  ⟨h.size, h.defers, fun t v ht => h.get t v (hs.get t v ht)⟩

def nth : List Oper → Nat → Option Oper
  | [], _ => none
  | o :: _, 0 => some o
  | _ :: r, i + 1 => nth r i

theorem nth_eq : ∀ (l : List Oper) (i : Nat), nth l i = l[i]?
  | [], i => by simp [nth]
  | o :: r, 0 => by simp [nth]
  | o :: r, i + 1 => by simp [nth, nth_eq r i]

def boolOf : Value → Option Bool
  | .bool b => some b
  | _ => none

def wantE (l : List Oper) (env : Env) (o : Oper) : Option Bool :=
  match o.guard with
  | none => some true
  | some (j, b) =>
    match nth l j with
    | none => none
    | some oj =>
      match oj.dst with
      | none => none
      | some d =>
        match lk env d with
        | some (.bool c) => some (bif b then c else !c)
        | some (.tuple _) => some false
        | _ => none

theorem wanted_of {n : Nat} {l : List Oper} {env : Env} {a : Act} (h : Fr n env a) {o : Oper} {r : Bool} (hw : wantE l env o = some r) :
    Region.wanted o (yielded l.toArray a.tmps) = r := by
  unfold wantE at hw
  unfold Region.wanted
  cases hg : o.guard with
  | none => simpa [hg] using hw
  | some p =>
    obtain ⟨j, b⟩ := p
    simp only [hg] at hw ⊢
    cases hj : nth l j with
    | none => simp [hj] at hw
    | some oj =>
      simp only [hj] at hw
      rw [nth_eq] at hj
      cases hd : oj.dst with
      | none => simp [hd] at hw
      | some d =>
        simp only [hd] at hw
        cases hv : lk env d with
        | none => simp [hv] at hw
        | some v =>
          have hv' := h.get d v hv
          have hy : yielded l.toArray a.tmps j = boolOf v := by
            unfold yielded
            simp only [List.getElem?_toArray, hj, Option.bind_some, hd, hv']
            cases v <;> rfl
          rw [hy]
          clear hy hv' 
          simp only [hv] at hw
          clear hv
          cases v with
          | bool c =>
            simp only [Option.some.injEq] at hw
            subst hw
            cases b <;> cases c <;> rfl
          | tuple vs =>
            simp only [Option.some.injEq] at hw
            subst hw
            cases b <;> rfl
          | _ => simp at hw

inductive Kd where
  | pu   -- yields one value in whatever world
  | st   -- yields one value wherever F holds
  | mk   -- carried out; F is shown anew behind it
  | mv   -- carried out
  deriving DecidableEq

def Nx (k : Kd) (F : World → Prop) (w : World) (p : Prop) : Prop :=
  match k with
  | .mk => F w ∧ p
  | _ => p

/-- The operations of a region along one order. -/
def wpOrd (P : Program) (l : List Oper) (F : World → Prop) (Q : Act → World → Prop) : List (Nat × Kd) → Act → World → Prop
  | [], a, w => Q a w
  | (i, k) :: r, a, w =>
    match nth l i with
    | none => False
    | some o =>
      if Region.wanted o (yielded l.toArray a.tmps) = true then
        match k with
        | .pu => ∃ v, (∀ w', (execOp a.eval o).run P w' = .ok (.value v) w') ∧ wpOrd P l F Q r (a.put o.dst v) w
        | .st => ∃ v, (∀ w', F w' → (execOp a.eval o).run P w' = .ok (.value v) w') ∧ wpOrd P l F Q r (a.put o.dst v) w
        | .mk => o.wp P a w (fun a' w' => F w' ∧ wpOrd P l F Q r a' w') (fun _ _ _ => False)
        | .mv => o.wp P a w (fun a' w' => wpOrd P l F Q r a' w') (fun _ _ _ => False)
      else wpOrd P l F Q r (a.put o.dst undef) w

theorem wp_noQ {P : Program} {o : Oper} {a : Act} {w : World} {K : Act → World → Prop} {Q : Exit → Act → World → Prop} (h : o.wp P a w K (fun _ _ _ => False)) : o.wp P a w K Q := by
  unfold Oper.wp at *
  generalize (execOp a.eval o).run P w = r at *
  cases r with
  | ok n w' =>
    cases n <;> simp only [Oper.upon] at h ⊢ <;> first
      | exact h
      | (refine Calls.mono h fun e w'' he => ?_
         cases e with
         | returned v => exact he
         | panicked c => exact he.elim
         | outgrown => obtain ⟨_, _, hf⟩ := he; exact hf.elim)
  | halt x w' =>
    cases x <;> simp only [Oper.upon] at h

/-! ### a region that does not draw -/
def seqFrom : Nat → List Oper → List (Nat × Kd)
  | _, [] => []
  | i, _ :: r => (i, .mv) :: seqFrom (i + 1) r

theorem wpOps_of_seq {P : Program} {l : List Oper} {F : World → Prop} {Q : Exit → Act → World → Prop} : ∀ (r : List Oper) (k : Nat), (∀ j, r[j]? = l[k + j]?) → ∀ (a : Act) (w : World),
    wpOrd P l F (fun a w => Q .normal a w) (seqFrom k r) a w → wpOps P l.toArray Q (List.range' k r.length) a w
  | [], k, _, a, w, h => by simpa [wpOps, seqFrom, wpOrd] using h
  | o :: r, k, hl, a, w, h => by
    have h0 : l[k]? = some o := by simpa using (hl 0).symm
    have hr : ∀ j, r[j]? = l[k + 1 + j]? := fun j => by have := hl (j + 1); simpa [Nat.add_assoc, Nat.add_comm 1 j] using this
    simp only [seqFrom, wpOrd, nth_eq, h0] at h
    simp only [List.length_cons, List.range'_succ, wpOps, List.getElem?_toArray, h0]
    by_cases hw : Region.wanted o (yielded l.toArray a.tmps) = true
    · simp only [hw, if_true] at h ⊢
      refine .inl (wp_noQ ?_)
      exact Oper.wp_mono (fun a' w' h' => wpOps_of_seq r (k + 1) hr a' w' h') h
    · simp only [hw] at h ⊢
      exact wpOps_of_seq r (k + 1) hr _ _ h

theorem region_seq {P : Program} {id : Nat} {l : List Oper} {F : World → Prop} {Q : Exit → Act → World → Prop} {a : Act} {w : World}
    (h : wpOrd P l F (fun a w => Q .normal a w) (seqFrom 0 l) a w) : (Code.region id l.toArray false).wp P Q a w :=
  wp_region (by
    rw [List.range_eq_range', List.size_toArray]
    exact wpOps_of_seq l 0 (by simp) a w h)

end Go.SX
