/- Plain laws: two rows as one, packets of coins. -/
import Derived.Test.YtjlelcfabfmiaaaFacts
namespace Go.Hf
set_option linter.unusedVariables false
section
variable {α : Type}
/-- Two rows as one: the first one's head goes ahead where le says so. -/
def mgF (le : α → α → Bool) : Nat → List α → List α → List α
  | 0, _, _ => []
  | _ + 1, [], b => b
  | _ + 1, x :: a, [] => x :: a
  | f + 1, x :: a, y :: b => if le x y = true then x :: mgF le f a (y :: b) else y :: mgF le f (x :: a) b
theorem mgF_more (le : α → α → Bool) : ∀ (f : Nat) (a b : List α), a.length + b.length ≤ f → mgF le f a b = mgF le (f + 1) a b
  | 0, a, b, h => by
    have ha : a = [] := List.eq_nil_of_length_eq_zero (by omega)
    have hb : b = [] := List.eq_nil_of_length_eq_zero (by omega)
    subst ha hb; rfl
  | f + 1, [], b, h => rfl
  | f + 1, x :: a, [], h => rfl
  | f + 1, x :: a, y :: b, h => by
    simp only [List.length_cons] at h
    rw [mgF, mgF, mgF_more le f a (y :: b) (by simp only [List.length_cons]; omega), mgF_more le f (x :: a) b (by simp only [List.length_cons]; omega)]
def mg (le : α → α → Bool) (a b : List α) : List α := mgF le (a.length + b.length) a b
theorem mg_nil_left (le : α → α → Bool) (b : List α) : mg le [] b = b := by
  unfold mg
  cases b with
  | nil => rfl
  | cons y b => rfl
theorem mg_nil_right (le : α → α → Bool) (a : List α) : mg le a [] = a := by
  unfold mg
  cases a with
  | nil => rfl
  | cons x a => rfl
theorem mg_cons (le : α → α → Bool) (x y : α) (a b : List α) : mg le (x :: a) (y :: b) = if le x y = true then x :: mg le a (y :: b) else y :: mg le (x :: a) b := by
  have e : mg le (x :: a) (y :: b) = mgF le (a.length + b.length + 1 + 1) (x :: a) (y :: b) := by
    unfold mg; simp only [List.length_cons]; congr 1; omega
  have e1 : mg le a (y :: b) = mgF le (a.length + b.length + 1) a (y :: b) := by
    unfold mg; simp only [List.length_cons]; rfl
  have e2 : mg le (x :: a) b = mgF le (a.length + b.length + 1) (x :: a) b := by
    unfold mg; simp only [List.length_cons]; congr 1; omega
  rw [e, mgF, ← e1, ← e2]
theorem mg_len (le : α → α → Bool) : ∀ (a b : List α), (mg le a b).length = a.length + b.length := by
  intro a b
  generalize hn : a.length + b.length = n
  induction n generalizing a b with
  | zero =>
    have ha : a = [] := List.eq_nil_of_length_eq_zero (by omega)
    have hb : b = [] := List.eq_nil_of_length_eq_zero (by omega)
    subst ha hb; rfl
  | succ n ih =>
    cases a with
    | nil => rw [mg_nil_left]; simpa using hn
    | cons x a =>
      cases b with
      | nil => rw [mg_nil_right]; simpa using hn
      | cons y b =>
        simp only [List.length_cons] at hn
        rw [mg_cons]
        split
        · rw [List.length_cons, ih a (y :: b) (by simp only [List.length_cons]; omega)]
        · rw [List.length_cons, ih (x :: a) b (by simp only [List.length_cons]; omega)]
theorem mg_mem (le : α → α → Bool) (z : α) : ∀ (a b : List α), z ∈ mg le a b → z ∈ a ∨ z ∈ b := by
  intro a b
  generalize hn : a.length + b.length = n
  induction n generalizing a b with
  | zero =>
    have ha : a = [] := List.eq_nil_of_length_eq_zero (by omega)
    have hb : b = [] := List.eq_nil_of_length_eq_zero (by omega)
    subst ha hb; exact fun h => .inl h
  | succ n ih =>
    cases a with
    | nil => rw [mg_nil_left]; exact fun h => .inr h
    | cons x a =>
      cases b with
      | nil => rw [mg_nil_right]; exact fun h => .inl h
      | cons y b =>
        simp only [List.length_cons] at hn
        rw [mg_cons]
        split
        · intro h
          rcases List.mem_cons.1 h with rfl | h
          · exact .inl (by simp)
          · rcases ih a (y :: b) (by simp only [List.length_cons]; omega) h with h | h
            · exact .inl (by simp [h])
            · exact .inr h
        · intro h
          rcases List.mem_cons.1 h with rfl | h
          · exact .inr (by simp)
          · rcases ih (x :: a) b (by simp only [List.length_cons]; omega) h with h | h
            · exact .inl h
            · exact .inr (by simp [h])
end
theorem mg_map {α β : Type} (le : α → α → Bool) (le' : β → β → Bool) (f : α → β) (hf : ∀ x y, le' (f x) (f y) = le x y) : ∀ (a b : List α), (mg le a b).map f = mg le' (a.map f) (b.map f) := by
  intro a b
  generalize hn : a.length + b.length = n
  induction n generalizing a b with
  | zero =>
    have ha : a = [] := List.eq_nil_of_length_eq_zero (by omega)
    have hb : b = [] := List.eq_nil_of_length_eq_zero (by omega)
    subst ha hb; rfl
  | succ n ih =>
    cases a with
    | nil => rw [mg_nil_left, List.map_nil, mg_nil_left]
    | cons x a =>
      cases b with
      | nil => rw [mg_nil_right, List.map_nil, mg_nil_right]
      | cons y b =>
        simp only [List.length_cons] at hn
        rw [mg_cons, List.map_cons, List.map_cons, mg_cons, hf]
        split
        · rw [List.map_cons, ih a (y :: b) (by simp only [List.length_cons]; omega), List.map_cons]
        · rw [List.map_cons, ih (x :: a) b (by simp only [List.length_cons]; omega), List.map_cons]
abbrev Coin := Int × List Nat
def leC (x y : Coin) : Bool := decide (x.1 ≤ y.1)
/-- Coins two by two. -/
def pk : List Coin → List Coin
  | x :: y :: r => (x.1 + y.1, x.2 ++ y.2) :: pk r
  | _ => []
theorem pk_short {l : List Coin} (h : l.length < 2) : pk l = [] := by
  match l, h with
  | [], _ => rfl
  | [_], _ => rfl
theorem pk_len : ∀ l : List Coin, (pk l).length = l.length / 2
  | [] => rfl
  | [x] => by simp [pk]
  | x :: y :: r => by
    have := pk_len r
    simp only [pk, List.length_cons, this]; omega
theorem pk_drop {l : List Coin} {i : Nat} {x y : Coin} (hx : l[i]? = some x) (hy : l[i + 1]? = some y) : pk (l.drop i) = (x.1 + y.1, x.2 ++ y.2) :: pk (l.drop (i + 2)) := by
  obtain ⟨h1, e1⟩ := List.getElem?_eq_some_iff.1 hx
  obtain ⟨h2, e2⟩ := List.getElem?_eq_some_iff.1 hy
  rw [List.drop_eq_getElem_cons h1, List.drop_eq_getElem_cons h2, e1, e2]; rfl
end Go.Hf
