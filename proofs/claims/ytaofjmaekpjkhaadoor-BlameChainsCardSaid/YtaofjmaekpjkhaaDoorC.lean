/- Judgements over heaps: regions, code, contracts. -/
import Derived.Test.YtaofjmaekpjkhaaDoorB
import Derived.Deep.LoopGhost
namespace Go.SX
open Go

abbrev Heap := Array Obj

structure Iw (w w' : World) : Prop where
  os : w'.os = w.os
  tape : w'.tape = w.tape
  output : w'.output = w.output

theorem Iw.refl (w : World) : Iw w w := ⟨rfl, rfl, rfl⟩
theorem Iw.trans {a b c : World} (h : Iw a b) (k : Iw b c) : Iw a c := ⟨k.os.trans h.os, k.tape.trans h.tape, k.output.trans h.output⟩

/-- A contract over heaps. -/
def Ct (P : Program) (f : FuncId) (args : Array Value) (H : Heap) (R : Value → Heap → Prop) : Prop :=
  ∀ w : World, w.heap = H → Calls P f args w (fun e w' => ∃ v, e = .returned v ∧ Iw w w' ∧ R v w'.heap)

theorem Ct.mono {P : Program} {f : FuncId} {args : Array Value} {H : Heap} {R R' : Value → Heap → Prop} (h : Ct P f args H R) (hr : ∀ v H', R v H' → R' v H') : Ct P f args H R' :=
  fun w hw => (h w hw).mono fun _ _ ⟨v, he, hio, hR⟩ => ⟨v, he, hio, hr _ _ hR⟩

def opvs (env : Env) : List Operand → Option (List Value)
  | [] => some []
  | x :: r =>
    match opv env x with
    | none => none
    | some v => match opvs env r with
      | none => none
      | some vs => some (v :: vs)

theorem Fr.evals {n : Nat} {env : Env} {a : Act} (h : Fr n env a) : ∀ {xs : List Operand} {vs : List Value}, opvs env xs = some vs → xs.map a.eval = vs
  | [], vs, hv => by simpa [opvs] using hv
  | x :: r, vs, hv => by
    simp only [opvs] at hv
    cases hx : opv env x with
    | none => simp [hx] at hv
    | some v =>
      simp only [hx] at hv
      cases hr : opvs env r with
      | none => simp [hr] at hv
      | some us =>
        simp only [hr, Option.some.injEq] at hv
        subst hv
        simp [h.eval hx, h.evals hr]

/-! ### regions -/
def X (P : Program) (n : Nat) (l : List Oper) (F : Heap → Prop) (K : Act → Heap → Prop) (idx : List (Nat × Kd)) (env : Env) (H : Heap) : Prop :=
  ∀ a w, Fr n env a → w.heap = H → wpOrd P l (fun w => F w.heap) (fun a' w' => Iw w w' ∧ K a' w'.heap) idx a w

theorem wpOrd_mono {P : Program} {l : List Oper} {F : World → Prop} {Q Q' : Act → World → Prop} (h : ∀ a w, Q a w → Q' a w) : ∀ (idx : List (Nat × Kd)) (a : Act) (w : World), wpOrd P l F Q idx a w → wpOrd P l F Q' idx a w
  | [], a, w, hh => h a w hh
  | (i, k) :: r, a, w, hh => by
    simp only [wpOrd] at hh ⊢
    cases ho : nth l i with
    | none => simp [ho] at hh
    | some o =>
      simp only [ho] at hh ⊢
      by_cases hw : Region.wanted o (yielded l.toArray a.tmps) = true
      · rw [if_pos hw] at hh ⊢
        cases k <;> simp only at hh ⊢
        · obtain ⟨v, h1, h2⟩ := hh; exact ⟨v, h1, wpOrd_mono h r _ _ h2⟩
        · obtain ⟨v, h1, h2⟩ := hh; exact ⟨v, h1, wpOrd_mono h r _ _ h2⟩
        · exact Oper.wp_mono (fun a' w' h' => ⟨h'.1, wpOrd_mono h r _ _ h'.2⟩) hh
        · exact Oper.wp_mono (fun a' w' h' => wpOrd_mono h r _ _ h') hh
      · rw [if_neg hw] at hh ⊢; exact wpOrd_mono h r _ _ hh

@[reducible] def At (k : Kd) (F : Heap → Prop) (H : Heap) (R : Heap → Prop) : Prop :=
  match k with
  | .pu => ∀ H', R H'
  | .st => ∀ H', F H' → R H'
  | .mk => R H ∧ F H
  | .mv => R H

@[reducible] def NxH (k : Kd) (F : Heap → Prop) (H : Heap) (p : Prop) : Prop :=
  match k with
  | .mk => F H ∧ p
  | _ => p

def noMk : Kd → Bool
  | .mk => false
  | _ => true
def isM : Kd → Bool
  | .mk => true
  | .mv => true
  | _ => false

section
variable {P : Program} {n : Nat} {l : List Oper} {F : Heap → Prop} {K : Act → Heap → Prop} {r : List (Nat × Kd)} {env : Env} {H : Heap} {i : Nat} {k : Kd} {o : Oper}

theorem X.fin (env' : Env) (hs : sub env env') (h : ∀ a, Fr n env' a → K a H) : X P n l F K [] env H := by
  intro a w hf hH
  simp only [wpOrd]
  exact ⟨Iw.refl w, by rw [hH]; exact h a (hf.sub hs)⟩

theorem X.skip (ho : nth l i = some o) (hw : wantE l env o = some false) (hd : dOK n o.dst = true) (h : X P n l F K r (setd o.dst undef env) H) : X P n l F K ((i, k) :: r) env H := by
  intro a w hf hH
  simp only [wpOrd, ho, wanted_of hf hw, Bool.false_eq_true, if_false]
  exact h _ w (hf.put hd _) hH

/-- An operation that yields a value and leaves the world. -/
theorem X.read {R : Heap → Prop} (v : Value) (ho : nth l i = some o) (hw : wantE l env o = some true) (hd : dOK n o.dst = true)
    (hrun : ∀ (ρ : Operand → Value) (w : World), (∀ x u, opv env x = some u → ρ x = u) → R w.heap → (execOp ρ o).run P w = .ok (.value v) w)
    (hR : At k F H R) (h : X P n l F K r (setd o.dst v env) H) : X P n l F K ((i, k) :: r) env H := by
  intro a w hf hH
  have he : ∀ x u, opv env x = some u → a.eval x = u := fun x u hx => hf.eval hx
  have hn := h _ w (hf.put hd v) hH
  simp only [wpOrd, ho, wanted_of hf hw, if_true]
  cases k <;> simp only [At] at hR ⊢
  · exact ⟨v, fun w' => hrun _ w' he (hR _), hn⟩
  · exact ⟨v, fun w' hF => hrun _ w' he (hR _ hF), hn⟩
  · have := hrun _ w he (by rw [hH]; exact hR.1)
    unfold Oper.wp; rw [this]
    exact ⟨by rw [hH]; exact hR.2, hn⟩
  · have := hrun _ w he (by rw [hH]; exact hR)
    unfold Oper.wp; rw [this]
    exact hn

theorem At.triv (hk : noMk k = true) : At k F H (fun _ => True) := by
  cases k <;> simp [At, noMk] at *

/-- .. whatever the world. -/
theorem X.pure (v : Value) (ho : nth l i = some o) (hw : wantE l env o = some true) (hd : dOK n o.dst = true) (hk : noMk k = true)
    (hrun : ∀ (ρ : Operand → Value) (w : World), (∀ x u, opv env x = some u → ρ x = u) → (execOp ρ o).run P w = .ok (.value v) w)
    (h : X P n l F K r (setd o.dst v env) H) : X P n l F K ((i, k) :: r) env H :=
  X.read (R := fun _ => True) v ho hw hd (fun ρ w hx _ => hrun ρ w hx) (At.triv hk) h

/-- An operation that is carried out. -/
theorem X.move' {Φ : Value → Heap → Prop} (ho : nth l i = some o) (hw : wantE l env o = some true) (hd : dOK n o.dst = true) (hk : isM k = true)
    (hrun : ∀ (ρ : Operand → Value) (w : World), (∀ x u, opv env x = some u → ρ x = u) → w.heap = H →
      ∃ v w', ((execOp ρ o).run P w = .ok (.value v) w' ∨ ((execOp ρ o).run P w = .ok .skip w' ∧ v = undef)) ∧ Iw w w' ∧ Φ v w'.heap)
    (h : ∀ v H', Φ v H' → NxH k F H' (X P n l F K r (setd o.dst v env) H')) : X P n l F K ((i, k) :: r) env H := by
  intro a w hf hH
  have he : ∀ x u, opv env x = some u → a.eval x = u := fun x u hx => hf.eval hx
  obtain ⟨v, w', hr, hio, hΦ⟩ := hrun _ w he hH
  have hn := h v _ hΦ
  have fin : X P n l F K r (setd o.dst v env) w'.heap → wpOrd P l (fun w => F w.heap) (fun a' w'' => Iw w w'' ∧ K a' w''.heap) r (a.put o.dst v) w' := fun hx =>
    wpOrd_mono (fun _ _ h' => ⟨hio.trans h'.1, h'.2⟩) _ _ _ (hx _ w' (hf.put hd v) rfl)
  simp only [wpOrd, ho, wanted_of hf hw, if_true]
  have go : ∀ K' : Act → World → Prop, K' (a.put o.dst v) w' → o.wp P a w K' (fun _ _ _ => False) := fun K' hK => by
    unfold Oper.wp
    rcases hr with hr | ⟨hr, rfl⟩ <;> rw [hr] <;> exact hK
  cases k <;> simp only [NxH, isM] at hk hn ⊢ <;> try cases hk
  · exact go _ ⟨hn.1, fin hn.2⟩
  · exact go _ (fin hn)

def callable (P : Program) (f : FuncId) : Bool :=
  match P.funcs[f]? with
  | some fn => !(fn.name == "runtime.NumGoroutine") && fn.body.isSome
  | none => false

theorem run_callFunc {f : FuncId} (hf : callable P f = true) (args : Array Value) (w : World) : (callFunc f args).run P w = .ok (.enter f args) w := by
  unfold callable at hf
  cases hp : P.funcs[f]? with
  | none => simp [hp] at hf
  | some fn =>
    simp only [hp, Bool.and_eq_true, Bool.not_eq_true'] at hf
    have hne : ¬ fn.name = "runtime.NumGoroutine" := by simpa using hf.1
    simp [callFunc, hp, hne, Option.isNone_iff_eq_none, Option.isSome_iff_ne_none.1 hf.2]

theorem X.enter {R : Value → Heap → Prop} {f : FuncId} {args : Array Value} (ho : nth l i = some o) (hw : wantE l env o = some true) (hd : dOK n o.dst = true) (hk : isM k = true)
    (hrun : ∀ (ρ : Operand → Value) (w : World), (∀ x u, opv env x = some u → ρ x = u) → w.heap = H → (execOp ρ o).run P w = .ok (.enter f args) w)
    (hc : Ct P f args H R) (h : ∀ v H', R v H' → NxH k F H' (X P n l F K r (setd o.dst v env) H')) : X P n l F K ((i, k) :: r) env H := by
  intro a w hf' hH
  have he : ∀ x u, opv env x = some u → a.eval x = u := fun x u hx => hf'.eval hx
  have hr := hrun _ w he hH
  simp only [wpOrd, ho, wanted_of hf' hw, if_true]
  have fin : ∀ v w', Iw w w' → X P n l F K r (setd o.dst v env) w'.heap → wpOrd P l (fun w => F w.heap) (fun a' w'' => Iw w w'' ∧ K a' w''.heap) r (a.put o.dst v) w' := fun v w' hio hx =>
    wpOrd_mono (fun _ _ h' => ⟨hio.trans h'.1, h'.2⟩) _ _ _ (hx _ w' (hf'.put hd v) rfl)
  have go : ∀ K' : Act → World → Prop, (∀ v w', Iw w w' → R v w'.heap → K' (a.put o.dst v) w') → o.wp P a w K' (fun _ _ _ => False) := fun K' hK => by
    unfold Oper.wp
    rw [hr]
    refine (hc w hH).mono ?_
    rintro e w' ⟨v, rfl, hio, hR⟩
    exact hK v w' hio hR
  cases k <;> simp only [NxH, isM] at hk h ⊢ <;> try cases hk
  · exact go _ fun v w' hio hR => ⟨(h v _ hR).1, fin v w' hio (h v _ hR).2⟩
  · exact go _ fun v w' hio hR => fin v w' hio (h v _ hR)

/-- A call of a named function. -/
theorem X.call {d : Option Tmp} {f : FuncId} {args : Array Operand} {ats : Array TypeId} {ty : TypeId} {pos : String} {aft : Array Edge} {g : Option (Nat × Bool)} {vs : List Value} {R : Value → Heap → Prop}
    (ho : nth l i = some ⟨d, .call ⟨.value (.func f), args, ats⟩, ty, pos, aft, g⟩) (hw : wantE l env ⟨d, .call ⟨.value (.func f), args, ats⟩, ty, pos, aft, g⟩ = some true) (hd : dOK n d = true) (hk : isM k = true)
    (hv : opvs env args.toList = some vs) (hf : callable P f = true)
    (hc : Ct P f vs.toArray H R) (h : ∀ v H', R v H' → NxH k F H' (X P n l F K r (setd d v env) H')) : X P n l F K ((i, k) :: r) env H := by
  refine X.enter ho hw hd hk (fun ρ w hx _ => ?_) hc h
  have hargs : args.map ρ = vs.toArray := by
    have h1 : ∀ (xs : List Operand) (us : List Value), opvs env xs = some us → xs.map ρ = us := by
      intro xs
      induction xs with
      | nil => intro us hu; simpa [opvs] using hu
      | cons x xs ih =>
        intro us hu
        simp only [opvs] at hu
        cases hx' : opv env x with
        | none => simp [hx'] at hu
        | some v =>
          simp only [hx'] at hu
          cases hr : opvs env xs with
          | none => simp [hr] at hu
          | some us' =>
            simp only [hr, Option.some.injEq] at hu
            subst hu
            simp [hx x v hx', ih us' hr]
    have := h1 args.toList vs hv
    apply Array.ext'
    simpa using this
  have hfv : ρ (.func f) = .func (.func f) #[] #[] := hx (.func f) _ rfl
  simp [execOp, resolve, hargs, hfv, Deferred.ofValue, invoke, run_callFunc hf]

/-! ### code -/
def up (w0 : World) (Q : Exit → Act → Heap → Prop) : Exit → Act → World → Prop
  | .outgrown, _, _ => False
  | .panic _, _, _ => False
  | e, a, w => Iw w0 w ∧ Q e a w.heap

theorem up_mono {w0 w1 : World} {Q Q' : Exit → Act → Heap → Prop} (hio : Iw w0 w1) (h : ∀ e a H, Q e a H → Q' e a H) : ∀ e a w, up w1 Q e a w → up w0 Q' e a w := by
  intro e a w hh
  cases e <;> first | exact ⟨hio.trans hh.1, h _ _ _ hh.2⟩ | exact hh

def E (P : Program) (n : Nat) (c : Code) (Q : Exit → Act → Heap → Prop) (env : Env) (H : Heap) : Prop :=
  ∀ a w, Fr n env a → w.heap = H → c.wp P (up w Q) a w

def N (n : Nat) (e : Exit) (Q : Exit → Act → Heap → Prop) (env : Env) (H : Heap) : Prop := ∀ a, Fr n env a → Q e a H

/-- What follows in a sequence. -/
def Then (P : Program) (y : Code) (Q : Exit → Act → Heap → Prop) : Exit → Act → Heap → Prop
  | .normal, a, H => ∀ w, w.heap = H → y.wp P (up w Q) a w
  | e, a, H => Q e a H

def Blk (id : Nat) (Q : Exit → Act → Heap → Prop) : Exit → Act → Heap → Prop
  | .exit id', a, H => if id' = id then Q .normal a H else Q (.exit id') a H
  | e, a, H => Q e a H

variable {Q : Exit → Act → Heap → Prop} {e : Exit}

theorem E.mono {c : Code} {Q' : Exit → Act → Heap → Prop} (h : E P n c Q env H) (hq : ∀ e a H, Q e a H → Q' e a H) : E P n c Q' env H :=
  fun a w hf hH => wp_mono (h a w hf hH) (up_mono (Iw.refl w) hq)

theorem E.sub {c : Code} (env' : Env) (hs : SX.sub env env') (h : E P n c Q env' H) : E P n c Q env H := fun a w hf hH => h a w (hf.sub hs) hH
theorem N.sub (env' : Env) (hs : SX.sub env env') (h : N n e Q env' H) : N n e Q env H := fun a hf => h a (hf.sub hs)

theorem E.seq {x y : Code} (h : E P n x (Then P y Q) env H) : E P n (.seq x y) Q env H := by
  intro a w hf hH
  refine wp_seq (wp_mono (h a w hf hH) ?_)
  intro e a' w' hh
  cases e <;> simp only [up, Then, Exit.then] at hh ⊢ <;> first
    | exact hh
    | exact wp_mono (hh.2 w' rfl) (up_mono hh.1 fun _ _ _ h => h)

theorem E.skip (h : N n .normal Q env H) : E P n .skip Q env H := fun a w hf hH => wp_skip ⟨Iw.refl w, by rw [hH]; exact h a hf⟩
theorem E.ret (h : N n .ret Q env H) : E P n .ret Q env H := fun a w hf hH => wp_ret ⟨Iw.refl w, by rw [hH]; exact h a hf⟩
theorem E.exit {id : Nat} (h : N n (.exit id) Q env H) : E P n (.exit id) Q env H := fun a w hf hH => wp_exit ⟨Iw.refl w, by rw [hH]; exact h a hf⟩

theorem E.block {id : Nat} {c : Code} (h : E P n c (Blk id Q) env H) : E P n (.block id c) Q env H := by
  intro a w hf hH
  refine wp_block (wp_mono (h a w hf hH) ?_)
  intro e a' w' hh
  cases e <;> simp only [up, Blk, Exit.inBlock] at hh ⊢ <;> try exact hh
  rename_i id'
  split at hh <;> rename_i hid
  · simp only [hid, if_true]; exact hh
  · simp only [hid, if_false]; exact hh

theorem E.condT {c : Operand} {x y : Code} (hc : opv env c = some (.bool true)) (h : E P n x Q env H) : E P n (.cond c x y) Q env H :=
  fun a w hf hH => wp_cond_true (hf.eval hc) (h a w hf hH)
theorem E.condF {c : Operand} {x y : Code} (hc : opv env c = some (.bool false)) (h : E P n y Q env H) : E P n (.cond c x y) Q env H :=
  fun a w hf hH => wp_cond_false (hf.eval hc) (h a w hf hH)
theorem E.cond {c : Operand} {x y : Code} {b : Bool} (hc : opv env c = some (.bool b)) (ht : b = true → E P n x Q env H) (hf : b = false → E P n y Q env H) : E P n (.cond c x y) Q env H := by
  cases b
  · exact E.condF hc (hf rfl)
  · exact E.condT hc (ht rfl)
theorem E.condD {p : Prop} {_ : Decidable p} {c : Operand} {x y : Code} (hc : opv env c = some (.bool (decide p))) (ht : p → E P n x Q env H) (hf : ¬ p → E P n y Q env H) : E P n (.cond c x y) Q env H :=
  E.cond hc (fun h => ht (of_decide_eq_true h)) (fun h => hf (of_decide_eq_false h))

theorem E.region {id : Nat} {l : List Oper} (h : X P n l (fun _ => True) (fun a H => Q .normal a H) (seqFrom 0 l) env H) : E P n (.region id l.toArray false) Q env H := by
  intro a w hf hH
  exact region_seq (Q := up w Q) (h a w hf hH)

theorem E.regionD {id : Nat} {l : List Oper} (F : Heap → Prop) (ord : List (Nat × Kd)) (hm : P.follows .mixedOrders = true) (hB : regOK l ord = true) (hF : F H)
    (h : X P n l F (fun a H => Q .normal a H) ord env H) : E P n (.region id l.toArray true) Q env H := by
  intro a w hf hH
  refine region_ord (Q := up w Q) (F := fun w => F w.heap) ord hm hB (by show F w.heap; rw [hH]; exact hF) ?_
  refine wpOrd_mono (fun a' w' h' => ?_) _ _ _ (h a { w with drawn := w.drawn + 1 } hf hH)
  exact ⟨(Iw.mk rfl rfl rfl : Iw w { w with drawn := w.drawn + 1 }).trans h'.1, h'.2⟩

/-- A loop; the state at each round's head is told by a ghost. -/
def LoopQ (n : Nat) {γ : Type} (G : γ → Env) (J : γ → Heap → Prop) (μ : γ → Nat) (g : γ) (Q : Exit → Act → Heap → Prop) : Exit → Act → Heap → Prop
  | .normal, a, H => ∃ g', Fr n (G g') a ∧ J g' H ∧ μ g' < μ g
  | e, a, H => Q e a H

theorem E.loop {γ : Type} {c : Code} (G : γ → Env) (J : γ → Heap → Prop) (μ : γ → Nat) (g : γ) (hs : SX.sub env (G g)) (hJ : J g H)
    (round : ∀ g H, J g H → E P n c (LoopQ n G J μ g Q) (G g) H) : E P n (.loop c) Q env H := by
  intro a w hf hH
  refine wp_loop_ghost (fun k a' w' => ∃ g', μ g' = k ∧ Iw w w' ∧ Fr n (G g') a' ∧ J g' w'.heap) (μ g) ⟨g, rfl, Iw.refl w, hf.sub hs, by rw [hH]; exact hJ⟩ ?_
  rintro k a' w' ⟨g', rfl, hio, hf', hJ'⟩
  refine wp_mono (round g' _ hJ' a' w' hf' rfl) ?_
  intro e a'' w'' hh
  cases e <;> simp only [up, LoopQ, Exit.then] at hh ⊢ <;> first
    | exact hh
    | exact ⟨hio.trans hh.1, hh.2⟩
    | (obtain ⟨hio', g'', hf'', hJ'', hlt⟩ := hh
       exact ⟨μ g'', hlt, g'', rfl, hio.trans hio', hf'', hJ''⟩)

theorem N.next {γ : Type} {G : γ → Env} {J : γ → Heap → Prop} {μ : γ → Nat} {g : γ} (g' : γ) (hs : SX.sub env (G g')) (hJ : J g' H) (hμ : μ g' < μ g) : N n .normal (LoopQ n G J μ g Q) env H :=
  fun _ hf => ⟨g', hf.sub hs, hJ, hμ⟩

theorem N.then {y : Code} (h : E P n y Q env H) : N n .normal (Then P y Q) env H := fun a hf w hw => h a w hf hw
theorem N.thenX {y : Code} {id : Nat} (h : N n (.exit id) Q env H) : N n (.exit id) (Then P y Q) env H := h
theorem N.thenR {y : Code} (h : N n .ret Q env H) : N n .ret (Then P y Q) env H := h
theorem N.blk {id : Nat} (h : N n .normal Q env H) : N n .normal (Blk id Q) env H := h
theorem N.blkR {id : Nat} (h : N n .ret Q env H) : N n .ret (Blk id Q) env H := h
theorem N.blkX {id : Nat} (h : N n .normal Q env H) : N n (.exit id) (Blk id Q) env H := fun a hf => by simp only [Blk, if_true]; exact h a hf
theorem N.blkO {id id' : Nat} (hne : Nat.beq id' id = false) (h : N n (.exit id') Q env H) : N n (.exit id') (Blk id Q) env H := fun a hf => by
  have : id' ≠ id := fun e => by subst e; simp at hne
  simp only [Blk, this, if_false]; exact h a hf
theorem N.loopX {γ : Type} {G : γ → Env} {J : γ → Heap → Prop} {μ : γ → Nat} {g : γ} {id : Nat} (h : N n (.exit id) Q env H) : N n (.exit id) (LoopQ n G J μ g Q) env H := h
theorem N.loopR {γ : Type} {G : γ → Env} {J : γ → Heap → Prop} {μ : γ → Nat} {g : γ} (h : N n .ret Q env H) : N n .ret (LoopQ n G J μ g Q) env H := h

/-- What a function's end must be. -/
def Post (P : Program) (fn : Func) (R : Value → Heap → Prop) : Exit → Act → Heap → Prop
  | .normal, a, H | .ret, a, H => a.defers = [] ∧ ∃ v, (∀ w, w.heap = H → (results fn a.tmps).run P w = .ok v w) ∧ R v H
  | _, _, _ => False

theorem Ct.of_E {f : FuncId} {fn : Func} {c : Code} {args : Array Value} {R : Value → Heap → Prop} (hf : P.funcs[f]? = some fn) (hb : fn.body = some c) (env : Env) (hn : args.size + (fn.ntmps - args.size) = n)
    (henv : ∀ t v, lk env t = some v → args[t]? = some v) (h : E P n c (Post P fn R) env H) : Ct P f args H R := by
  intro w hH
  refine calls_of_wp hf hb ?_
  have hfr : Fr n env { tmps := args ++ Array.replicate (fn.ntmps - args.size) undef, defers := [] } := by
    refine ⟨by simp [hn], rfl, fun t v ht => ?_⟩
    have h1 := henv t v ht
    have hlt : t < args.size := (Array.getElem?_eq_some_iff.1 h1).1
    rw [Array.getElem?_append_left hlt]; exact h1
  refine wp_mono (h _ w hfr hH) ?_
  intro e a' w' hh
  cases e <;> simp only [up, Post, bodyPost] at hh ⊢ <;> first
    | exact hh.elim
    | exact hh.2.elim
    | (obtain ⟨hio, hd, v, hr, hR⟩ := hh
       exact ⟨hd, v, hr w' rfl, v, rfl, hio, hR⟩)

def resE : List ResultVar → Env → Option (List Value)
  | [], _ => some []
  | .tmp t :: r, env =>
    match lk env t, resE r env with
    | some v, some vs => some (v :: vs)
    | _, _ => none
  | .cell _ _ :: _, _ => none

def tup : List Value → Value
  | [v] => v
  | vs => .tuple vs.toArray

def resOne (tmps : Array Value) : ResultVar → Sem Value
  | .tmp t => pure (tmps.getD t undef)
  | .cell x t => do loadVar t (← asAddr (tmps.getD x undef))

theorem results_eq (fn : Func) (tmps : Array Value) : results fn tmps = (do
    let vs ← fn.results.mapM (resOne tmps)
    pure (if h : vs.size = 1 then vs[0] else .tuple vs)) := by
  unfold results
  congr 1

theorem run_results {fn : Func} {a : Act} {vs : List Value} (hf : Fr n env a) (hr : resE fn.results.toList env = some vs) (w : World) : (results fn a.tmps).run P w = .ok (tup vs) w := by
  obtain ⟨f, hfe⟩ : ∃ f : ResultVar → Sem Value, f = resOne a.tmps := ⟨_, rfl⟩
  have hf1 : ∀ t v, lk env t = some v → f (.tmp t) = pure v := fun t v hv => by
    have := hf.get t v hv
    rw [hfe]
    simp [resOne, this]
  have key : ∀ (rs : List ResultVar) (vs : List Value), resE rs env = some vs → (List.mapM f rs).run P w = .ok vs w := by
    intro rs
    induction rs with
    | nil => intro vs h; simp [resE] at h; subst h; simp
    | cons x rs ih =>
      intro vs h
      cases x with
      | cell x t => simp [resE] at h
      | tmp t =>
        simp only [resE] at h
        cases hv : lk env t with
        | none => simp [hv] at h
        | some v =>
          cases hr : resE rs env with
          | none => simp [hv, hr] at h
          | some us =>
            simp only [hv, hr, Option.some.injEq] at h
            subst h
            simp [List.mapM_cons, hf1 t v hv, ih us hr]
  have h2 := key fn.results.toList vs hr
  have h3 : (fn.results.mapM f).run P w = .ok vs.toArray w := by
    rw [← Array.toArray_toList (xs := fn.results), List.mapM_toArray]
    simp [h2]
  rw [results_eq, ← hfe]
  simp only [Sem.run_bind, h3, Result.andThen_ok, Sem.run_pure]
  congr 1
  match vs with
  | [] => rfl
  | [v] => rfl
  | _ :: _ :: _ => simp [tup]

theorem N.ret' {fn : Func} {R : Value → Heap → Prop} {vs : List Value} (he : e = .ret ∨ e = .normal) (hr : resE fn.results.toList env = some vs) (h : R (tup vs) H) : N n e (Post P fn R) env H := by
  intro a hf
  have : a.defers = [] ∧ ∃ v, (∀ w, w.heap = H → (results fn a.tmps).run P w = .ok v w) ∧ R v H := ⟨hf.defers, tup vs, fun w _ => run_results hf hr w, h⟩
  rcases he with rfl | rfl <;> exact this

end
end Go.SX
