/- Plain laws: how far rows are read; how many nodes there are. -/
import Derived.Test.YtcandjdomeompaaDoorRN
namespace Go.Proofs.YtcandjdomeompaaDoor
open Go.SX Go.Chr
set_option linter.unusedVariables false
theorem rwF_len {σ : Type} (mo : σ → Bool × σ) (pa : σ → List Nd × σ) : ∀ (f : Nat) (l : List (List Nd)) (g : σ), l.length ≤ (rwF mo pa f l g).1.length
  | 0, l, g => Nat.le_refl _
  | f + 1, l, g => by
    rw [rwF]; split
    · have := rwF_len mo pa f (l ++ [(pa (mo g).2).1]) (pa (mo g).2).2
      simp at this; omega
    · exact Nat.le_refl _
theorem inS_ok {s : Bs} {st : St} (h : inS s st = true) : (nx s st).2 = true := by
  unfold inS at h
  simp only [Bool.and_eq_true] at h
  exact h.1.1
theorem fin_len (k : Int) (l : List (List Nd)) : (fin k l).length ≤ 1 + l.flatten.length ∧ (l.length = 1 → (fin k l).length = l.flatten.length) := by
  match l with
  | [] => simp [fin, jn]
  | [x] => simp [fin]
  | x :: y :: r => simp [fin, jn]; omega
section
variable {s : Bs} {n : Nat} {A : St → List Nd × St}
theorem cat_rw (hA : AOK s n A) : ∀ (f : Nat) (l : List (List Nd)) (st : St), st.at_ ≤ s.length → Mq s st ≤ n →
    Sp s st (rwF (fun st => (inS s st, st)) (rep A s) f l st).2 ∧
    (rwF (fun st => (inS s st, st)) (rep A s) f l st).1.flatten.length + (rwF (fun st => (inS s st, st)) (rep A s) f l st).1.length ≤ l.flatten.length + l.length + 2 * ((rwF (fun st => (inS s st, st)) (rep A s) f l st).2.at_ - st.at_) + 1
  | 0, l, st, h, hn => ⟨Sp.refl h, by simp [rwF]⟩
  | f + 1, l, st, h, hn => by
    rw [rwF]
    by_cases hi : inS s st = true
    · rw [if_pos hi]
      rcases rep_ok hA (inS_ok hi) hn with ⟨h1, h2⟩ | ⟨h1, h2, h3⟩
      · obtain ⟨h4, h5⟩ := cat_rw hA f (l ++ [(rep A s st).1]) (rep A s st).2 h1.len (Nat.le_trans (Nat.le_of_lt h1.lt) hn)
        refine ⟨h1.sp.trans h4, ?_⟩
        have h6 := h1.le
        have h7 := h4.le
        simp only [List.flatten_append, List.flatten_cons, List.flatten_nil, List.append_nil, List.length_append, List.length_cons, List.length_nil] at h5
        have h8 : (rep A s st).1.length = 0 ∨ st.at_ < (rep A s st).2.at_ := by omega
        rcases h8 with h8 | h8
        · by_cases h9 : st.at_ < (rep A s st).2.at_
          · dsimp only at h5 ⊢; omega
          · -- nothing was read: an error
            have he : (rep A s st).2.e ≠ 0 := fun he => by
              have h10 := h1.lt
              unfold Mq at h10
              rw [if_neg (by rw [he]; simp), show (rep A s st).2.at_ = st.at_ by omega] at h10
              split at h10 <;> omega
            have hno : inS s (rep A s st).2 = false := by unfold inS; rw [nx_no (.inl he)]; rfl
            have e : ∀ f, rwF (fun st => (inS s st, st)) (rep A s) f (l ++ [(rep A s st).1]) (rep A s st).2 = (l ++ [(rep A s st).1], (rep A s st).2) := fun f => by
              cases f with
              | zero => rfl
              | succ f => rw [rwF, if_neg (by rw [hno]; simp)]
            dsimp only
            rw [e f]
            simp only [List.flatten_append, List.flatten_cons, List.flatten_nil, List.append_nil, List.length_append, List.length_cons, List.length_nil]
            omega
        · dsimp only at h5 ⊢; omega
      · have hno : inS s (rep A s st).2 = false := by unfold inS; rw [nx_no (.inl h3)]; rfl
        have e : ∀ f, rwF (fun st => (inS s st, st)) (rep A s) f (l ++ [(rep A s st).1]) (rep A s st).2 = (l ++ [(rep A s st).1], (rep A s st).2) := fun f => by
          cases f with
          | zero => rfl
          | succ f => rw [rwF, if_neg (by rw [hno]; simp)]
        dsimp only
        rw [e f]
        refine ⟨h1.sp, ?_⟩
        simp only [List.flatten_append, List.flatten_cons, List.flatten_nil, List.append_nil, List.length_append, List.length_cons, List.length_nil]
        omega
    · rw [if_neg hi]
      exact ⟨Sp.refl h, by simp⟩
theorem cat_ok (hA : AOK s n A) {st : St} (h : st.at_ ≤ s.length) (hn : Mq s st ≤ n) : Sp s st (cat A s st).2 ∧ (cat A s st).1.length ≤ 2 * ((cat A s st).2.at_ - st.at_) + 1 := by
  obtain ⟨h1, h2⟩ := cat_rw hA (s.length + 2) [] st h hn
  refine ⟨h1, ?_⟩
  have h3 := fin_len 3 (rwF (fun st => (inS s st, st)) (rep A s) (s.length + 2) [] st).1
  show (fin 3 (rwF (fun st => (inS s st, st)) (rep A s) (s.length + 2) [] st).1).length ≤ 2 * ((rwF (fun st => (inS s st, st)) (rep A s) (s.length + 2) [] st).2.at_ - st.at_) + 1
  simp only [List.flatten_nil, List.length_nil] at h2
  generalize rwF (fun st => (inS s st, st)) (rep A s) (s.length + 2) [] st = r at *
  obtain ⟨l, st'⟩ := r
  match l, h2, h3 with
  | [], h2, h3 => simp at h3 ⊢; omega
  | [x], h2, h3 => simp at h2 h3 ⊢; omega
  | x :: y :: l, h2, h3 => simp only [List.length_cons] at h2 h3 ⊢; omega
theorem alt_rw (hA : AOK s n A) : ∀ (f : Nat) (l : List (List Nd)) (st : St), st.at_ ≤ s.length → Mq s st ≤ n →
    Sp s st (rwF (moA s) (paA A s) f l (false, st)).2.2 ∧
    (rwF (moA s) (paA A s) f l (false, st)).1.flatten.length + (rwF (moA s) (paA A s) f l (false, st)).1.length ≤ l.flatten.length + l.length + 2 * ((rwF (moA s) (paA A s) f l (false, st)).2.2.at_ - st.at_)
  | 0, l, st, h, hn => ⟨Sp.refl h, by simp [rwF]⟩
  | f + 1, l, st, h, hn => by
    have em : moA s (false, st) = ((tk s 124 st).1, (false, (tk s 124 st).2)) := rfl
    rw [rwF, em]
    dsimp only
    by_cases ht : (tk s 124 st).1 = true
    · rw [if_pos ht]
      have h1 := sq_tk ht
      have h0 : (tk s 124 st).2.at_ = st.at_ + 1 := by rw [(tk_yes ht).2]; rfl
      have ep : paA A s (false, (tk s 124 st).2) = ((cat A s (tk s 124 st).2).1, (false, (cat A s (tk s 124 st).2).2)) := rfl
      rw [ep]
      dsimp only
      obtain ⟨h2, h3⟩ := cat_ok hA h1.len (Nat.le_trans (Nat.le_of_lt h1.lt) hn)
      obtain ⟨h4, h5⟩ := alt_rw hA f (l ++ [(cat A s (tk s 124 st).2).1]) (cat A s (tk s 124 st).2).2 h2.len (Nat.le_trans h2.M (Nat.le_trans (Nat.le_of_lt h1.lt) hn))
      refine ⟨h1.sp.trans (h2.trans h4), ?_⟩
      have h6 := h2.le
      have h7 := h4.le
      simp only [List.flatten_append, List.flatten_cons, List.flatten_nil, List.append_nil, List.length_append, List.length_cons, List.length_nil] at h5
      omega
    · rw [if_neg ht]
      exact ⟨sp_tk h, by dsimp only; omega⟩
theorem alt_first (f : Nat) (st : St) : rwF (moA s) (paA A s) (f + 1) [] (true, st) = rwF (moA s) (paA A s) f [(cat A s st).1] (false, (cat A s st).2) := by
  rw [rwF]; rfl
theorem alt_ok (hA : AOK s n A) {st : St} (h : st.at_ ≤ s.length) (hn : Mq s st ≤ n) : Sp s st (alt A s st).2 ∧ (alt A s st).1.length ≤ 2 * ((alt A s st).2.at_ - st.at_) + 1 ∧
    (rwF (moA s) (paA A s) (s.length + 3) [] (true, st)).1.flatten.length + (rwF (moA s) (paA A s) (s.length + 3) [] (true, st)).1.length ≤ 2 * s.length + 2 := by
  obtain ⟨c1, c2⟩ := cat_ok hA h hn
  obtain ⟨h1, h2⟩ := alt_rw hA (s.length + 2) [(cat A s st).1] (cat A s st).2 c1.len (Nat.le_trans c1.M hn)
  have e := alt_first (s := s) (A := A) (s.length + 2) st
  have h3 := fin_len 4 (rwF (moA s) (paA A s) (s.length + 3) [] (true, st)).1
  have hr : alt A s st = (fin 4 (rwF (moA s) (paA A s) (s.length + 3) [] (true, st)).1, (rwF (moA s) (paA A s) (s.length + 3) [] (true, st)).2.2) := rfl
  have h8 := rwF_len (moA s) (paA A s) (s.length + 2) [(cat A s st).1] (false, (cat A s st).2)
  rw [hr, e]
  rw [e] at h3
  dsimp only at h1 h2 h3 h8 ⊢
  generalize rwF (moA s) (paA A s) (s.length + 2) [(cat A s st).1] (false, (cat A s st).2) = r at *
  obtain ⟨l, b, st'⟩ := r
  dsimp only at *
  have h4 := c1.le
  have h5 := h1.le
  have h6 := h1.len
  simp only [List.flatten_cons, List.flatten_nil, List.append_nil, List.length_cons, List.length_nil] at h2 h8
  refine ⟨c1.trans h1, ?_, by omega⟩
  rcases Nat.lt_or_ge l.length 2 with h7 | h7
  · rw [h3.2 (by omega)]; omega
  · have := h3.1; omega
theorem cat_bd (hA : AOK s n A) {st : St} (h : st.at_ ≤ s.length) (hn : Mq s st ≤ n) : (rwF (fun st => (inS s st, st)) (rep A s) (s.length + 2) [] st).1.flatten.length + (rwF (fun st => (inS s st, st)) (rep A s) (s.length + 2) [] st).1.length ≤ 2 * s.length + 1 := by
  obtain ⟨h1, h2⟩ := cat_rw hA (s.length + 2) [] st h hn
  have h3 := h1.len
  simp only [List.flatten_nil, List.length_nil] at h2
  omega
end
theorem altN_ok (s : Bs) : ∀ n, AOK s n (altN s n)
  | 0 => ⟨fun st _ h => absurd h (by omega), fun st _ h => absurd h (by omega)⟩
  | n + 1 => ⟨fun st h hn => (alt_ok (altN_ok s n) h (by omega)).1, fun st h hn => (alt_ok (altN_ok s n) h (by omega)).2.1⟩
end Go.Proofs.YtcandjdomeompaaDoor
