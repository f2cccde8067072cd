/- Plain laws: a row put in order by halves. -/
import Derived.Test.YtjlelcfabfmiaaaM
namespace Go.Hf
set_option linter.unusedVariables false
section
variable {α : Type}
def msF (le : α → α → Bool) : Nat → List α → List α
  | 0, l => l
  | f + 1, l => if l.length < 2 then l else mg le (msF le f (l.take (l.length / 2))) (msF le f (l.drop (l.length / 2)))
theorem msF_more (le : α → α → Bool) : ∀ (f : Nat) (l : List α), l.length ≤ f → msF le f l = msF le (f + 1) l
  | 0, l, h => by
    have : l = [] := List.eq_nil_of_length_eq_zero (by omega)
    subst this; rfl
  | f + 1, l, h => by
    rw [msF, msF]
    split
    · rfl
    · rw [msF_more le f _ (by rw [List.length_take]; omega), msF_more le f _ (by rw [List.length_drop]; omega)]
theorem msF_add (le : α → α → Bool) (l : List α) : ∀ k, msF le (l.length + k) l = msF le l.length l
  | 0 => rfl
  | k + 1 => by rw [← Nat.add_assoc, ← msF_more le _ l (by omega), msF_add le l k]
def ms (le : α → α → Bool) (l : List α) : List α := msF le l.length l
theorem msF_enough (le : α → α → Bool) {f : Nat} {l : List α} (h : l.length ≤ f) : msF le f l = ms le l := by
  obtain ⟨k, rfl⟩ := Nat.le.dest h
  exact msF_add le l k
theorem ms_short (le : α → α → Bool) {l : List α} (h : l.length < 2) : ms le l = l := by
  rw [← msF_enough le (f := l.length + 1) (by omega), msF, if_pos h]
theorem ms_split (le : α → α → Bool) {l : List α} (h : ¬ l.length < 2) : ms le l = mg le (ms le (l.take (l.length / 2))) (ms le (l.drop (l.length / 2))) := by
  rw [← msF_enough le (f := l.length + 1) (by omega), msF, if_neg h, msF_enough le (by rw [List.length_take]; omega), msF_enough le (by rw [List.length_drop]; omega)]
theorem mg_perm (le : α → α → Bool) : ∀ (a b : List α), (mg le a b).Perm (a ++ b) := by
  intro a b
  generalize hn : a.length + b.length = n
  induction n generalizing a b with
  | zero =>
    have ha : a = [] := List.eq_nil_of_length_eq_zero (by omega)
    have hb : b = [] := List.eq_nil_of_length_eq_zero (by omega)
    subst ha hb; exact List.Perm.refl _
  | succ n ih =>
    cases a with
    | nil => rw [mg_nil_left]; exact List.Perm.refl _
    | cons x a =>
      cases b with
      | nil => rw [mg_nil_right, List.append_nil]
      | cons y b =>
        simp only [List.length_cons] at hn
        rw [mg_cons]
        split
        · exact (ih a (y :: b) (by simp only [List.length_cons]; omega)).cons x
        · exact ((ih (x :: a) b (by simp only [List.length_cons]; omega)).cons y).trans List.perm_middle.symm
theorem ms_perm (le : α → α → Bool) : ∀ (l : List α), (ms le l).Perm l := by
  intro l
  generalize hn : l.length = n
  induction n using Nat.strongRecOn generalizing l with
  | ind n ih =>
    by_cases h : l.length < 2
    · rw [ms_short le h]
    · rw [ms_split le h]
      refine (mg_perm le _ _).trans ?_
      have h1 := ih (l.take (l.length / 2)).length (by rw [List.length_take]; omega) (l.take (l.length / 2)) rfl
      have h2 := ih (l.drop (l.length / 2)).length (by rw [List.length_drop]; omega) (l.drop (l.length / 2)) rfl
      exact (h1.append h2).trans (by rw [List.take_append_drop])
theorem ms_len (le : α → α → Bool) (l : List α) : (ms le l).length = l.length := (ms_perm le l).length_eq
theorem ms_mem (le : α → α → Bool) {l : List α} {x : α} : x ∈ ms le l ↔ x ∈ l := (ms_perm le l).mem_iff
theorem mg_sorted (le : α → α → Bool) (tot : ∀ x y, le x y = true ∨ le y x = true) (tr : ∀ x y z, le x y = true → le y z = true → le x z = true) :
    ∀ (a b : List α), a.Pairwise (fun x y => le x y = true) → b.Pairwise (fun x y => le x y = true) → (mg le a b).Pairwise (fun x y => le x y = true) := by
  intro a b
  generalize hn : a.length + b.length = n
  induction n generalizing a b with
  | zero =>
    have ha : a = [] := List.eq_nil_of_length_eq_zero (by omega)
    have hb : b = [] := List.eq_nil_of_length_eq_zero (by omega)
    subst ha hb; exact fun _ h => h
  | succ n ih =>
    cases a with
    | nil => rw [mg_nil_left]; exact fun _ h => h
    | cons x a =>
      cases b with
      | nil => rw [mg_nil_right]; exact fun h _ => h
      | cons y b =>
        simp only [List.length_cons] at hn
        intro ha hb
        have ha' := List.pairwise_cons.1 ha
        have hb' := List.pairwise_cons.1 hb
        rw [mg_cons]
        split
        · rename_i hle
          refine List.pairwise_cons.2 ⟨fun z hz => ?_, ih a (y :: b) (by simp only [List.length_cons]; omega) ha'.2 hb⟩
          rcases mg_mem le z _ _ hz with hz | hz
          · exact ha'.1 z hz
          · rcases List.mem_cons.1 hz with rfl | hz
            · exact hle
            · exact tr _ _ _ hle (hb'.1 z hz)
        · rename_i hle
          have hyx : le y x = true := (tot y x).resolve_right hle
          refine List.pairwise_cons.2 ⟨fun z hz => ?_, ih (x :: a) b (by simp only [List.length_cons]; omega) ha hb'.2⟩
          rcases mg_mem le z _ _ hz with hz | hz
          · rcases List.mem_cons.1 hz with rfl | hz
            · exact hyx
            · exact tr _ _ _ hyx (ha'.1 z hz)
          · exact hb'.1 z hz
theorem ms_sorted (le : α → α → Bool) (tot : ∀ x y, le x y = true ∨ le y x = true) (tr : ∀ x y z, le x y = true → le y z = true → le x z = true) :
    ∀ (l : List α), (ms le l).Pairwise (fun x y => le x y = true) := by
  intro l
  generalize hn : l.length = n
  induction n using Nat.strongRecOn generalizing l with
  | ind n ih =>
    by_cases h : l.length < 2
    · rw [ms_short le h]
      match l, h with
      | [], _ => exact List.Pairwise.nil
      | [x], _ => exact List.pairwise_singleton _ _
    · rw [ms_split le h]
      exact mg_sorted le tot tr _ _ (ih (l.take (l.length / 2)).length (by rw [List.length_take]; omega) _ rfl) (ih (l.drop (l.length / 2)).length (by rw [List.length_drop]; omega) _ rfl)
theorem mg_app (le : α → α → Bool) : ∀ (a b : List α), (∀ x ∈ a, ∀ y ∈ b, le x y = true) → mg le a b = a ++ b := by
  intro a b
  induction a with
  | nil => intro _; rw [mg_nil_left]; rfl
  | cons x a ih =>
    intro h
    cases b with
    | nil => rw [mg_nil_right, List.append_nil]
    | cons y b =>
      rw [mg_cons, if_pos (h x (by simp) y (by simp)), ih (fun u hu v hv => h u (by simp [hu]) v hv)]; rfl
theorem ms_id (le : α → α → Bool) : ∀ (l : List α), l.Pairwise (fun x y => le x y = true) → ms le l = l := by
  intro l
  generalize hn : l.length = n
  induction n using Nat.strongRecOn generalizing l with
  | ind n ih =>
    intro hp
    by_cases h : l.length < 2
    · exact ms_short le h
    · have hp' := hp
      rw [← List.take_append_drop (l.length / 2) l, List.pairwise_append] at hp'
      rw [ms_split le h, ih (l.take (l.length / 2)).length (by rw [List.length_take]; omega) _ rfl hp'.1, ih (l.drop (l.length / 2)).length (by rw [List.length_drop]; omega) _ rfl hp'.2.1, mg_app le _ _ hp'.2.2, List.take_append_drop]
end
end Go.Hf
