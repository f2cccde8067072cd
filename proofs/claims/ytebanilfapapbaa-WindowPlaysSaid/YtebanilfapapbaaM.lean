/- Plain laws of a window: the last bytes of a text, what is copied from ahead. -/
import Derived.IntWalk
namespace Go.Win

abbrev Bs := List UInt8

/-- The last k. -/
def lst (k : Nat) (l : Bs) : Bs := l.drop (l.length - k)

theorem lst_len (k : Nat) (l : Bs) : (lst k l).length = min k l.length := by simp [lst]; omega
theorem lst_all {k : Nat} {l : Bs} (h : l.length ≤ k) : lst k l = l := by simp [lst, Nat.sub_eq_zero_of_le h]
theorem lst_suf {k : Nat} {a x : Bs} (h : k ≤ x.length) : lst k (a ++ x) = lst k x := by
  simp only [lst, List.length_append]
  rw [show a.length + x.length - k = a.length + (x.length - k) by omega, List.drop_append]
  simp
theorem lst_split (k : Nat) (l : Bs) : l.take (l.length - k) ++ lst k l = l := List.take_append_drop _ _
theorem lst_lst (j k : Nat) (l : Bs) : lst j (lst k l) = lst (min j k) l := by
  simp only [lst, List.drop_drop, List.length_drop]
  congr 1; omega
theorem lst_min (k : Nat) (l : Bs) : lst (min k l.length) l = lst k l := by simp only [lst]; congr 1; omega
theorem lst_app (k : Nat) (a b : Bs) : lst k (lst k a ++ b) = lst k (a ++ b) := by
  by_cases h : k ≤ (lst k a ++ b).length
  · conv => rhs; rw [← lst_split k a, List.append_assoc]
    rw [lst_suf h]
  · rw [List.length_append, lst_len] at h
    rw [lst_all (l := a) (by omega)]

def trimL (l : Bs) : Bs := if 131072 < l.length then lst 32768 l else l
theorem trimL_len (l : Bs) : (trimL l).length ≤ 131072 := by
  unfold trimL; split
  · rw [lst_len]; omega
  · omega
theorem lst_trim {k : Nat} (h : k ≤ 32768) (l : Bs) : lst k (trimL l) = lst k l := by
  unfold trimL; split
  · rw [lst_lst]; congr 1; omega
  · rfl
theorem trim_min (l : Bs) : min (trimL l).length 32768 = min l.length 32768 := by
  unfold trimL; split
  · rw [lst_len]; omega
  · rfl
theorem trim_small {l : Bs} (h : l.length ≤ 131072) : trimL l = l := by unfold trimL; rw [if_neg (by omega)]

/-- n bytes more, each as the one that stands d ahead of it. -/
def ext (d : Nat) : Nat → Bs → Bs
  | 0, l => l
  | n + 1, l => ext d n (l ++ (l.drop (l.length - d)).take 1)

theorem ext_add (d : Nat) : ∀ (a b : Nat) (l : Bs), ext d (a + b) l = ext d b (ext d a l)
  | 0, b, l => by simp [ext]
  | a + 1, b, l => by rw [Nat.succ_add]; exact ext_add d a b _
theorem one_len {d : Nat} {l : Bs} (h1 : 1 ≤ d) (h2 : d ≤ l.length) : ((l.drop (l.length - d)).take 1).length = 1 := by simp; omega
theorem ext_len {d : Nat} : ∀ (n : Nat) (l : Bs), 1 ≤ d → d ≤ l.length → (ext d n l).length = l.length + n
  | 0, l, _, _ => rfl
  | n + 1, l, h1, h2 => by
    have h3 := one_len h1 h2
    show (ext d n _).length = _
    rw [ext_len n _ h1 (by rw [List.length_append]; omega), List.length_append, h3]; omega
theorem ext_app {d : Nat} : ∀ (n : Nat) (a l : Bs), 1 ≤ d → d ≤ l.length → ext d n (a ++ l) = a ++ ext d n l
  | 0, a, l, _, _ => rfl
  | n + 1, a, l, h1, h2 => by
    show ext d n _ = a ++ ext d n _
    rw [List.length_append, show a.length + l.length - d = a.length + (l.length - d) by omega, List.drop_append]
    simp only [Nat.add_sub_cancel_left, List.drop_eq_nil_of_le (Nat.le_add_right a.length _), List.nil_append, List.append_assoc]
    exact ext_app n a _ h1 (by rw [List.length_append]; omega)
theorem ext_pre (d : Nat) : ∀ (n : Nat) (l : Bs), ∃ t, ext d n l = l ++ t
  | 0, l => ⟨[], by simp [ext]⟩
  | n + 1, l => by
    obtain ⟨t, ht⟩ := ext_pre d n (l ++ (l.drop (l.length - d)).take 1)
    exact ⟨_, by rw [ext, ht, List.append_assoc]⟩
theorem ext_drop (d n : Nat) (l : Bs) : l ++ (ext d n l).drop l.length = ext d n l := by
  obtain ⟨t, ht⟩ := ext_pre d n l
  rw [ht]; simp
theorem ext_chunk {d : Nat} (l : Bs) (h1 : 1 ≤ d) (h2 : d ≤ l.length) : ∀ k, k ≤ d → ext d k l = l ++ (l.drop (l.length - d)).take k
  | 0, _ => by simp [ext]
  | k + 1, hk => by
    rw [ext_add d k 1 l, ext_chunk l h1 h2 k (by omega)]
    simp only [ext]
    rw [List.append_assoc]
    congr 1
    have hlen : ((l.drop (l.length - d)).take k).length = k := by simp; omega
    rw [List.length_append, hlen, List.drop_append_of_le_length (by omega)]
    have hX : l.drop (l.length + k - d) = (l.drop (l.length - d)).drop k := by rw [List.drop_drop]; congr 1; omega
    rw [hX, List.take_append_of_le_length (by simp; omega), List.take_add]
theorem ext_step {d : Nat} (l : Bs) (n : Nat) (h1 : 1 ≤ d) (h2 : d ≤ l.length) : ext d n l = ext d (n - min n d) (l ++ (l.drop (l.length - d)).take (min n d)) := by
  rw [← ext_chunk l h1 h2 _ (by omega), ← ext_add]; congr 1; omega
theorem ext_get {d : Nat} (h1 : 1 ≤ d) : ∀ (n : Nat) (l : Bs), d ≤ l.length → ∀ j, l.length ≤ j → j < l.length + n → (ext d n l)[j]? = (ext d n l)[j - d]?
  | 0, l, _, j, _, _ => by omega
  | n + 1, l, h2, j, h3, h4 => by
    have h5 := one_len h1 h2
    simp only [ext]
    by_cases hj : l.length + 1 ≤ j
    · exact ext_get h1 n _ (by rw [List.length_append]; omega) j (by rw [List.length_append]; omega) (by rw [List.length_append]; omega)
    · have hj' : j = l.length := by omega
      subst hj'
      obtain ⟨t, ht⟩ := ext_pre d n (l ++ (l.drop (l.length - d)).take 1)
      rw [ht, List.append_assoc, List.getElem?_append_right (Nat.le_refl _), List.getElem?_append_left (by omega)]
      rw [Nat.sub_self, List.getElem?_append_left (by omega), List.getElem?_take_of_lt (by omega), List.getElem?_drop]; simp

/-- The last n, as far as they are held. -/
def lastS (n : Int) (l : Bs) : Bs := if n < 0 then [] else lst (min n.toNat 32768) l
def copyBad (d n : Int) : Bool := decide (n < 0) || decide (65536 < n) || decide (d < 1)

/-- What a copy answers. -/
def copyT (d n : Int) (l : Bs) : Bs := (ext d.toNat n.toNat l).drop l.length

theorem copyT_eq {d n : Int} (h1 : 1 ≤ d) (a v : Bs) (h2 : d ≤ v.length) : copyT d n (a ++ v) = copyT d n v := by
  unfold copyT
  rw [ext_app _ _ _ (by omega) (by omega), List.length_append, List.drop_append]
  simp
theorem copyT_lst {d n : Int} (h1 : 1 ≤ d) (l : Bs) (h2 : d ≤ (min l.length 32768 : Nat)) : copyT d n l = copyT d n (lst 32768 l) := by
  conv => lhs; rw [← lst_split 32768 l]
  exact copyT_eq h1 _ _ (by rw [lst_len]; omega)
theorem copyT_len {d n : Int} (h1 : 1 ≤ d) (hn : 0 ≤ n) (l : Bs) (h2 : d ≤ l.length) : ((copyT d n l).length : Int) = n := by
  unfold copyT; rw [List.length_drop, ext_len _ _ (by omega) (by omega)]; omega
theorem copyT_app {d n : Int} (l : Bs) : l ++ copyT d n l = ext d.toNat n.toNat l := ext_drop _ _ _

/-- s, n times. -/
def rep (s : Bs) : Nat → Bs
  | 0 => []
  | n + 1 => rep s n ++ s
theorem rep_len (s : Bs) (n : Nat) : (rep s n).length = n * s.length := by induction n with
  | zero => simp [rep]
  | succ n ih => simp [rep, ih, Nat.succ_mul]

end Go.Win
