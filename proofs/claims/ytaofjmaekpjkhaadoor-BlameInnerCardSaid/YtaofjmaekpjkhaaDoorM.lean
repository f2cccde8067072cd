/- Plain laws: names of codes, numbers in digits, what a chain says. -/
import Derived.Test.YtaofjmaekpjkhaaDoorFacts
namespace Go.Blm
set_option linter.unusedVariables false
abbrev Bs := List UInt8
abbrev LK := Int × Int
def kn (c : Int) : Bool := decide (0 ≤ c) && decide (c ≤ 27)
theorem kn_iff {c : Int} : kn c = true ↔ 0 ≤ c ∧ c ≤ 27 := by simp [kn]
theorem kn_no {c : Int} (h : ¬ (0 ≤ c ∧ c ≤ 27)) : kn c = false := by
  cases e : kn c with
  | false => rfl
  | true => exact absurd (kn_iff.1 e) h
def cnt (c : Int) : Int := if kn c then c else 1
theorem cnt_kn {c : Int} (h : kn c = true) : cnt c = c := by rw [cnt, if_pos h]
theorem cnt_no {c : Int} (h : kn c = false) : cnt c = 1 := by rw [cnt, h]; rfl
theorem cnt_zero (c : Int) : cnt c = 0 ↔ c = 0 := by
  unfold cnt
  by_cases h : kn c = true
  · rw [if_pos h]
  · rw [if_neg h]
    constructor
    · intro h1; omega
    · intro h1; subst h1; exact absurd rfl h
def nmL : List Bs := [[111, 107], [97, 114, 103, 117, 109, 101, 110, 116], [115, 104, 111, 114, 116], [98, 105, 103], [102, 111, 114, 109], [115, 117, 109], [115, 105, 122, 101], [111, 118, 101, 114], [117, 110, 100, 101, 114], [99, 111, 100, 101], [100, 105, 115, 116, 97, 110, 99, 101], [98, 108, 111, 99, 107], [109, 97, 103, 105, 99], [102, 108, 97, 103, 115], [109, 111, 114, 101], [99, 104, 97, 114], [111, 112, 101, 110], [101, 109, 112, 116, 121], [114, 97, 110, 103, 101], [116, 119, 105, 99, 101], [110, 97, 109, 101], [110, 111, 110, 101], [102, 117, 108, 108], [112, 97, 103, 101], [111, 114, 100, 101, 114], [110, 105, 108], [100, 105, 102, 102, 101, 114], [109, 97, 116, 99, 104]]
def NAMES : Bs := [111, 107, 32, 97, 114, 103, 117, 109, 101, 110, 116, 32, 115, 104, 111, 114, 116, 32, 98, 105, 103, 32, 102, 111, 114, 109, 32, 115, 117, 109, 32, 115, 105, 122, 101, 32, 111, 118, 101, 114, 32, 117, 110, 100, 101, 114, 32, 99, 111, 100, 101, 32, 100, 105, 115, 116, 97, 110, 99, 101, 32, 98, 108, 111, 99, 107, 32, 109, 97, 103, 105, 99, 32, 102, 108, 97, 103, 115, 32, 109, 111, 114, 101, 32, 99, 104, 97, 114, 32, 111, 112, 101, 110, 32, 101, 109, 112, 116, 121, 32, 114, 97, 110, 103, 101, 32, 116, 119, 105, 99, 101, 32, 110, 97, 109, 101, 32, 110, 111, 110, 101, 32, 102, 117, 108, 108, 32, 112, 97, 103, 101, 32, 111, 114, 100, 101, 114, 32, 110, 105, 108, 32, 100, 105, 102, 102, 101, 114, 32, 109, 97, 116, 99, 104, 32]
theorem names_len : NAMES.length = 155 := by decide +kernel
def nm (c : Int) : Bs := if kn c then nmL.getD c.toNat [] else [63]
theorem nm_len (c : Int) : (nm c).length ≤ 8 := by
  unfold nm
  by_cases h : kn c = true
  · rw [if_pos h]
    have h2 := kn_iff.1 h
    have : ∀ k : Nat, k < 28 → (nmL.getD k []).length ≤ 8 := by decide
    exact this _ (by omega)
  · rw [if_neg h]; decide
/-- How many blanks stand ahead of a place; the place behind the last one. -/
def sp (i : Nat) : Nat := ((NAMES.take i).filter (· == 32)).length
def frm (i : Nat) : Nat := i - (((NAMES.take i).reverse).takeWhile (· != 32)).length
theorem sp_end : sp 155 = 28 := by decide +kernel
theorem scan_ok : ∀ i, i < 155 → ∃ c, NAMES[i]? = some c ∧ (if c = 32 then sp (i + 1) = sp i + 1 ∧ frm (i + 1) = i + 1 ∧ (NAMES.take i).drop (frm i) = nmL.getD (sp i) [] ∧ frm i ≤ i else sp (i + 1) = sp i ∧ frm (i + 1) = frm i) := by
  have h : ∀ i, i < 155 → ((NAMES.getD i 0 = 32 ∧ sp (i + 1) = sp i + 1 ∧ frm (i + 1) = i + 1 ∧ (NAMES.take i).drop (frm i) = nmL.getD (sp i) [] ∧ frm i ≤ i) ∨ (NAMES.getD i 0 ≠ 32 ∧ sp (i + 1) = sp i ∧ frm (i + 1) = frm i)) := by decide +kernel
  intro i hi
  have hl : i < NAMES.length := by rw [names_len]; exact hi
  refine ⟨NAMES[i]'hl, List.getElem?_eq_getElem hl, ?_⟩
  have e : NAMES.getD i 0 = NAMES[i]'hl := by rw [List.getD, List.getElem?_eq_getElem hl]; rfl
  have := h i hi
  rw [e] at this
  rcases this with ⟨h1, h2⟩ | ⟨h1, h2⟩
  · rw [if_pos h1]; exact h2
  · rw [if_neg h1]; exact h2
theorem frm_zero : frm 0 = 0 := by decide +kernel
theorem sp_zero : sp 0 = 0 := by decide +kernel

/-! ### numbers -/
def u8 (c : Nat) : UInt8 := UInt8.ofNat c
theorem u8_nat {c : Nat} (h : c < 256) : (u8 c).toNat = c := by simp [u8]; omega
def dg (m : Nat) : Bs := if m < 10 then [u8 (48 + m)] else dg (m / 10) ++ [u8 (48 + m % 10)]
theorem dg_lt {m : Nat} (h : m < 10) : dg m = [u8 (48 + m)] := by rw [dg, if_pos h]
theorem dg_ge {m : Nat} (h : ¬ m < 10) : dg m = dg (m / 10) ++ [u8 (48 + m % 10)] := by rw [dg, if_neg h]
theorem dg_len (k : Nat) : ∀ m, m < 10 ^ (k + 1) → (dg m).length ≤ k + 1 := by
  induction k with
  | zero => intro m h; rw [dg_lt (by simpa using h)]; simp
  | succ k ih =>
    intro m h
    by_cases h1 : m < 10
    · rw [dg_lt h1]; simp
    · rw [dg_ge h1, List.length_append]
      have := ih (m / 10) (by rw [Nat.pow_succ] at h; omega)
      simp; omega
def numV (n : Int) : Bs := if n < 0 then 45 :: dg n.natAbs else dg n.natAbs
theorem num_len {n : Int} (h : -9223372036854775808 ≤ n ∧ n ≤ 9223372036854775807) : (numV n).length ≤ 20 := by
  have := dg_len 18 n.natAbs (by omega)
  unfold numV
  split
  · simp; omega
  · omega
def one (x : LK) : Bs := nm x.1 ++ [32, 97, 116, 32] ++ numV x.2
def ok64 (n : Int) : Prop := -9223372036854775808 ≤ n ∧ n ≤ 9223372036854775807
theorem one_len {x : LK} (h : ok64 x.2) : (one x).length ≤ 32 := by
  have h1 := nm_len x.1
  have h2 := num_len h
  simp [one]; omega
def sayV : List LK → Bs
  | [] => []
  | [x] => one x
  | x :: y :: r => one x ++ [58, 32] ++ sayV (y :: r)
theorem say_snoc (x : LK) : ∀ l : List LK, l ≠ [] → sayV (l ++ [x]) = sayV l ++ [58, 32] ++ one x
  | [], h => absurd rfl h
  | [y], _ => rfl
  | y :: z :: r, _ => by
    have ih := say_snoc x (z :: r) (by simp)
    simp only [List.cons_append] at ih ⊢
    rw [sayV, ih, sayV]
    simp
theorem say_len : ∀ l : List LK, (∀ x ∈ l, ok64 x.2) → (sayV l).length ≤ 34 * l.length
  | [], _ => by simp [sayV]
  | [x], h => by have := one_len (h x (by simp)); simp [sayV]; omega
  | x :: y :: r, h => by
    have ih := say_len (y :: r) (fun z hz => h z (by simp [hz]))
    have := one_len (h x (by simp))
    simp only [sayV, List.length_append, List.length_cons, List.length_nil] at ih ⊢
    omega

/-! ### families -/
def fi (c : Int) : Nat := if c ∈ [2, 4, 5, 6, 12, 13, 14] then 1 else if c ∈ [7, 8, 9, 10, 11] then 2 else if c ∈ [15, 16, 17, 18, 19, 20, 27] then 3 else if c ∈ [3, 22] then 4 else 5
theorem fi_le (c : Int) : 1 ≤ fi c ∧ fi c ≤ 5 := by
  unfold fi
  repeat' split
  all_goals omega
theorem fi_1 {c : Int} (h : c = 2 ∨ c = 4 ∨ c = 5 ∨ c = 6 ∨ c = 12 ∨ c = 13 ∨ c = 14) : fi c = 1 := by rcases h with rfl | rfl | rfl | rfl | rfl | rfl | rfl <;> rfl
theorem fi_2 {c : Int} (h : c = 7 ∨ c = 8 ∨ c = 9 ∨ c = 10 ∨ c = 11) : fi c = 2 := by rcases h with rfl | rfl | rfl | rfl | rfl <;> rfl
theorem fi_3 {c : Int} (h : c = 15 ∨ c = 16 ∨ c = 17 ∨ c = 18 ∨ c = 19 ∨ c = 20 ∨ c = 27) : fi c = 3 := by rcases h with rfl | rfl | rfl | rfl | rfl | rfl | rfl <;> rfl
theorem fi_4 {c : Int} (h : c = 3 ∨ c = 22) : fi c = 4 := by rcases h with rfl | rfl <;> rfl
theorem fi_5 {c : Int} (h : ¬ (c = 2 ∨ c = 4 ∨ c = 5 ∨ c = 6 ∨ c = 12 ∨ c = 13 ∨ c = 14)) (h2 : ¬ (c = 7 ∨ c = 8 ∨ c = 9 ∨ c = 10 ∨ c = 11)) (h3 : ¬ (c = 15 ∨ c = 16 ∨ c = 17 ∨ c = 18 ∨ c = 19 ∨ c = 20 ∨ c = 27)) (h4 : ¬ (c = 3 ∨ c = 22)) : fi c = 5 := by
  unfold fi; rw [if_neg (by simpa using h), if_neg (by simpa using h2), if_neg (by simpa using h3), if_neg (by simpa using h4)]

/-! ### chains -/
def und (c k : Int) (l : List LK) : List LK := if cnt c = 0 then l else (cnt c, k) :: l
/-- Links as they count, the outermost first. -/
def chain (l : List LK) : List LK := (l.filter (fun x => decide (x.1 ≠ 0))).map fun x => (cnt x.1, x.2)
theorem und_chain (x : LK) (l : List LK) : und x.1 x.2 (chain l) = chain (x :: l) := by
  unfold und chain
  by_cases h : x.1 = 0
  · rw [if_pos ((cnt_zero _).2 h), List.filter_cons, if_neg (by simp [h])]
  · rw [if_neg (fun e => h ((cnt_zero _).1 e)), List.filter_cons, if_pos (by simp [h])]; rfl
theorem chain_snoc (x : LK) (l : List LK) : chain (l ++ [x]) = chain l ++ (if x.1 ≠ 0 then [(cnt x.1, x.2)] else []) := by
  unfold chain
  rw [List.filter_append, List.map_append]
  by_cases h : x.1 = 0
  · simp [h]
  · simp [h]
theorem chain_len (l : List LK) : (chain l).length ≤ l.length := by
  unfold chain; rw [List.length_map]; exact List.length_filter_le _ _
theorem chain_ok {l : List LK} (h : ∀ x ∈ l, ok64 x.2) : ∀ x ∈ chain l, ok64 x.2 := by
  intro x hx
  unfold chain at hx
  obtain ⟨y, hy, rfl⟩ := List.mem_map.1 hx
  exact h y (List.mem_filter.1 hy).1
def has (c : Int) (l : List LK) : Bool := l.any fun x => decide (x.1 = c)
def lastL (l : List LK) : LK := l.getLastD (0, 0)
theorem lastL_cons (x : LK) (l : List LK) (h : l ≠ []) : lastL (x :: l) = lastL l := by
  cases l with
  | nil => exact absurd rfl h
  | cons y r => rfl
theorem lastL_one (x : LK) : lastL [x] = x := rfl
end Go.Blm
