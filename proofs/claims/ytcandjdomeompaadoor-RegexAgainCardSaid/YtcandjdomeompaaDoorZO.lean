/- Plain laws: sets of bytes by their bits, their lists, how a set is written. -/
import Derived.Test.YtcandjdomeompaaDoorZ1
import Derived.Test.YtcandjdomeompaaDoorZN
namespace Go.Proofs.YtcandjdomeompaaDoor
open Go.SX Go.Chr
set_option linter.unusedVariables false

def mk4 (f : Nat → Nat) : List Nat := [f 0, f 1, f 2, f 3]
theorem wd_mk4 (f : Nat → Nat) {j : Nat} (h : j < 4) : wd (mk4 f) j = f j := by
  match j, h with
  | 0, _ => rfl
  | 1, _ => rfl
  | 2, _ => rfl
  | 3, _ => rfl
theorem eq_mk4 {l : List Nat} (h : l.length = 4) : l = mk4 (wd l) := by
  match l, h with
  | [a, b, c, d], _ => rfl
theorem mk4_congr {f g : Nat → Nat} (h : ∀ j, j < 4 → f j = g j) : mk4 f = mk4 g := by
  simp [mk4, h 0 (by omega), h 1 (by omega), h 2 (by omega), h 3 (by omega)]
theorem ws_mk4 {f : Nat → Nat} (h : ∀ j, j < 4 → f j < 2 ^ 64) : Ws (mk4 f) :=
  ⟨rfl, by
    intro w hw
    simp only [mk4, List.mem_cons, List.not_mem_nil, or_false] at hw
    rcases hw with rfl | rfl | rfl | rfl
    · exact h 0 (by omega)
    · exact h 1 (by omega)
    · exact h 2 (by omega)
    · exact h 3 (by omega)⟩
theorem mk4_set (f : Nat → Nat) {i : Nat} (v : Nat) (h : i < 4) : (mk4 f).set i v = mk4 (fun j => if j = i then v else f j) := by
  match i, h with
  | 0, _ => rfl
  | 1, _ => rfl
  | 2, _ => rfl
  | 3, _ => rfl
theorem uv_set (l : List Nat) (i v : Nat) : (uv l).set i (.int .u64 (v : Int)) = uv (l.set i v) := by
  simp [List.map_set]
theorem agg4_inj {a b : List Nat} : (uv a = uv b) ↔ a = b := by
  constructor
  · intro h
    have := List.map_inj_right (f := fun (w : Nat) => Value.int .u64 (w : Int)) (by intro x y e; injection e with _ e; omega) |>.1 h
    exact this
  · rintro rfl; rfl

/-- Is the byte c in the set? -/
def bt (ws : List Nat) (c : Nat) : Bool := (wd ws (c / 64)).testBit (c % 64)
theorem dec_eq {p q : Prop} {_ : Decidable p} {_ : Decidable q} (h : p ↔ q) : decide p = decide q := by
  by_cases hp : p
  · rw [decide_eq_true hp, decide_eq_true (h.1 hp)]
  · rw [decide_eq_false hp, decide_eq_false (fun hq => hp (h.2 hq))]
theorem dec_bt (ws : List Nat) (c : Nat) : decide (bit ws c = 1) = bt ws c := by
  rw [bt, Nat.testBit_eq_decide_div_mod_eq]; exact dec_eq Iff.rfl
theorem Ws.ext {a b : List Nat} (ha : Ws a) (hb : Ws b) (h : ∀ c, c < 256 → bt a c = bt b c) : a = b := by
  rw [eq_mk4 ha.len, eq_mk4 hb.len]
  apply mk4_congr
  intro j hj
  apply Nat.eq_of_testBit_eq
  intro i
  by_cases hi : i < 64
  · have := h (64 * j + i) (by omega)
    simp only [bt, show (64 * j + i) / 64 = j by omega, show (64 * j + i) % 64 = i by omega] at this
    exact this
  · have e : 2 ^ 64 ≤ 2 ^ i := Nat.pow_le_pow_right (by omega) (by omega)
    rw [Nat.testBit_lt_two_pow (Nat.lt_of_lt_of_le (ha.get hj).2 e), Nat.testBit_lt_two_pow (Nat.lt_of_lt_of_le (hb.get hj).2 e)]

/-- A set with one byte more. -/
def setb (ws : List Nat) (c : Nat) : List Nat := mk4 fun j => if j = c / 64 then wd ws (c / 64) ||| 2 ^ (c % 64) else wd ws j
theorem set_setb {ws : List Nat} (h : ws.length = 4) {c : Nat} (hc : c < 256) : ws.set (c / 64) (wd ws (c / 64) ||| 2 ^ (c % 64)) = setb ws c := by
  conv => lhs; rw [eq_mk4 h]
  rw [mk4_set _ _ (by omega)]
  simp only [← eq_mk4 h]; rfl
theorem bitw_lt (c : Nat) : 2 ^ (c % 64) < 2 ^ 64 := Nat.pow_lt_pow_right (by omega) (Nat.mod_lt _ (by omega))
theorem Ws.setb {ws : List Nat} (h : Ws ws) {c : Nat} (hc : c < 256) : Ws (setb ws c) := by
  apply ws_mk4
  intro j hj
  split
  · exact Nat.or_lt_two_pow (h.get (by omega)).2 (bitw_lt c)
  · exact (h.get hj).2
theorem bt_setb (ws : List Nat) {c d : Nat} (hc : c < 256) (hd : d < 256) : bt (setb ws c) d = (decide (d = c) || bt ws d) := by
  unfold bt setb
  rw [wd_mk4 _ (by omega)]
  by_cases h : d / 64 = c / 64
  · rw [if_pos h, Nat.testBit_or, Nat.testBit_two_pow, h, Bool.or_comm]
    congr 1
    apply dec_eq
    omega
  · rw [if_neg h]
    have : decide (d = c) = false := by apply decide_eq_false; omega
    rw [this, Bool.false_or]

def z4 : List Nat := mk4 fun _ => 0
theorem ws_z4 : Ws z4 := ws_mk4 (fun _ _ => by decide)
theorem bt_z4 (c : Nat) (hc : c < 256) : bt z4 c = false := by
  unfold bt z4; rw [wd_mk4 _ (by omega), Nat.zero_testBit]
/-- The set of a list of bytes. -/
def ofL (l : List Nat) : List Nat := l.foldl setb z4
theorem ofL_snoc (l : List Nat) (c : Nat) : ofL (l ++ [c]) = setb (ofL l) c := by simp [ofL]
theorem fold_ok (l : List Nat) (w : List Nat) (hw : Ws w) (hl : ∀ c ∈ l, c < 256) : Ws (l.foldl setb w) ∧ ∀ d, d < 256 → bt (l.foldl setb w) d = (decide (d ∈ l) || bt w d) := by
  induction l generalizing w with
  | nil => exact ⟨hw, fun d _ => by simp⟩
  | cons c l ih =>
    have hc : c < 256 := hl c (by simp)
    obtain ⟨h1, h2⟩ := ih (setb w c) (hw.setb hc) (fun x hx => hl x (by simp [hx]))
    refine ⟨h1, fun d hd => ?_⟩
    rw [List.foldl_cons, h2 d hd, bt_setb w hc hd]
    by_cases e : d = c <;> simp [e]
theorem ws_ofL {l : List Nat} (hl : ∀ c ∈ l, c < 256) : Ws (ofL l) := (fold_ok l z4 ws_z4 hl).1
theorem bt_ofL {l : List Nat} (hl : ∀ c ∈ l, c < 256) {d : Nat} (hd : d < 256) : bt (ofL l) d = decide (d ∈ l) := by
  rw [ofL, (fold_ok l z4 ws_z4 hl).2 d hd, bt_z4 d hd, Bool.or_false]

/-! ### the three -/
def notW (ws : List Nat) : List Nat := mk4 fun j => 2 ^ 64 - 1 - wd ws j
def orW (a b : List Nat) : List Nat := mk4 fun j => wd a j ||| wd b j
def andW (a b : List Nat) : List Nat := mk4 fun j => wd a j &&& wd b j
theorem Ws.not {ws : List Nat} (h : Ws ws) : Ws (notW ws) := ws_mk4 (fun j hj => by omega)
theorem Ws.or {a b : List Nat} (ha : Ws a) (hb : Ws b) : Ws (orW a b) := ws_mk4 (fun j hj => Nat.or_lt_two_pow (ha.get hj).2 (hb.get hj).2)
theorem Ws.and {a b : List Nat} (ha : Ws a) (hb : Ws b) : Ws (andW a b) := ws_mk4 (fun j hj => Nat.and_lt_two_pow _ (hb.get hj).2)
theorem bt_not {ws : List Nat} (h : Ws ws) {c : Nat} (hc : c < 256) : bt (notW ws) c = !bt ws c := by
  unfold bt notW
  rw [wd_mk4 _ (by omega), show 2 ^ 64 - 1 - wd ws (c / 64) = 2 ^ 64 - (wd ws (c / 64) + 1) by omega, Nat.testBit_two_pow_sub_succ (h.get (by omega)).2]
  simp [Nat.mod_lt]
theorem bt_or (a b : List Nat) {c : Nat} (hc : c < 256) : bt (orW a b) c = (bt a c || bt b c) := by
  unfold bt orW; rw [wd_mk4 _ (by omega), Nat.testBit_or]
theorem bt_and (a b : List Nat) {c : Nat} (hc : c < 256) : bt (andW a b) c = (bt a c && bt b c) := by
  unfold bt andW; rw [wd_mk4 _ (by omega), Nat.testBit_and]

/-! ### the lists -/
def flt (p : Nat → Bool) (n : Nat) : List Nat := (List.range n).filter p
theorem flt_succ (p : Nat → Bool) (n : Nat) : flt p (n + 1) = if p n then flt p n ++ [n] else flt p n := by
  simp only [flt, List.range_succ, List.filter_append, List.filter_cons, List.filter_nil]
  split <;> simp
theorem flt_lt {p : Nat → Bool} {n c : Nat} (h : c ∈ flt p n) : c < n := by
  simp only [flt, List.mem_filter, List.mem_range] at h; exact h.1
theorem mem_flt {p : Nat → Bool} {n c : Nat} : c ∈ flt p n ↔ c < n ∧ p c = true := by
  simp [flt, List.mem_filter]
theorem flt_len (p : Nat → Bool) (n : Nat) : (flt p n).length ≤ n := by
  have := List.length_filter_le p (List.range n); simpa [flt] using this
theorem flt_not (p : Nat → Bool) (n : Nat) : (flt p n).length + (flt (fun c => !p c) n).length = n := by
  induction n with
  | zero => rfl
  | succ n ih =>
    rw [flt_succ, flt_succ]
    cases p n <;> simp <;> omega
theorem flt_congr {p q : Nat → Bool} {n : Nat} (h : ∀ c, c < n → p c = q c) : flt p n = flt q n :=
  List.filter_congr (fun c hc => h c (List.mem_range.1 hc))
theorem flt_stop {p : Nat → Bool} {n m : Nat} (hnm : n ≤ m) (h : ∀ c, n ≤ c → c < m → p c = false) : flt p m = flt p n := by
  induction m with
  | zero => rw [show n = 0 by omega]
  | succ m ih =>
    by_cases e : n = m + 1
    · rw [e]
    · rw [flt_succ, h m (by omega) (by omega)]
      simp only [Bool.false_eq_true, if_false]
      exact ih (by omega) (fun c h1 h2 => h c h1 (by omega))
def els (ws : List Nat) : List Nat := flt (bt ws) 256
theorem els_lt {ws : List Nat} : ∀ c ∈ els ws, c < 256 := fun c h => flt_lt h
theorem ofL_els {ws : List Nat} (h : Ws ws) : ofL (els ws) = ws := by
  apply Ws.ext (ws_ofL els_lt) h
  intro c hc
  rw [bt_ofL els_lt hc]
  by_cases e : bt ws c = true
  · rw [e]; exact decide_eq_true (mem_flt.2 ⟨hc, e⟩)
  · have e' : bt ws c = false := by simpa using e
    rw [e']; exact decide_eq_false (fun hm => e (mem_flt.1 hm).2)
theorem ofL_flt {ws : List Nat} (h : Ws ws) {p : Nat → Bool} (hp : ∀ c, c < 256 → bt ws c = p c) : ofL (flt p 256) = ws := by
  rw [← flt_congr hp]; exact ofL_els h
theorem els_ofL {p : Nat → Bool} : els (ofL (flt p 256)) = flt p 256 := by
  apply flt_congr
  intro c hc
  rw [bt_ofL (fun _ h => flt_lt h) hc]
  by_cases e : p c = true
  · rw [e]; exact decide_eq_true (mem_flt.2 ⟨hc, e⟩)
  · have e' : p c = false := by simpa using e
    rw [e']; exact decide_eq_false (fun hm => e (mem_flt.1 hm).2)
theorem or_list {a b : List Nat} (ha : Ws a) (hb : Ws b) : ofL (els a ++ els b) = orW a b := by
  have hl : ∀ c ∈ els a ++ els b, c < 256 := by
    intro c hc
    rcases List.mem_append.1 hc with h | h
    · exact els_lt c h
    · exact els_lt c h
  apply Ws.ext (ws_ofL hl) (ha.or hb)
  intro c hc
  rw [bt_ofL hl hc, bt_or a b hc, Bool.eq_iff_iff]
  simp [els, mem_flt, hc]
theorem els_not {ws : List Nat} (h : Ws ws) : els (notW ws) = flt (fun c => !bt ws c) 256 := flt_congr (fun c hc => bt_not h hc)
theorem not_not {ws : List Nat} (h : Ws ws) : notW (notW ws) = ws := by
  apply Ws.ext h.not.not h
  intro c hc
  rw [bt_not h.not hc, bt_not h hc, Bool.not_not]
theorem not_or {a b : List Nat} (ha : Ws a) (hb : Ws b) : notW (orW a b) = andW (notW a) (notW b) := by
  apply Ws.ext (ha.or hb).not (ha.not.and hb.not)
  intro c hc
  rw [bt_not (ha.or hb) hc, bt_or a b hc, bt_and _ _ hc, bt_not ha hc, bt_not hb hc, Bool.not_or]

/-! ### the words -/
theorem pop_pos (x n : Nat) : pop x n = ((List.range n).filter fun j => decide (x / 2 ^ j % 2 = 1)).length := by
  induction n generalizing x with
  | zero => rfl
  | succ n ih =>
    rw [pop, ih, List.range_succ_eq_map, List.filter_cons, List.filter_map, Nat.pow_zero, Nat.div_one]
    have e : ((fun j => decide (x / 2 ^ j % 2 = 1)) ∘ Nat.succ) = fun j => decide (x / 2 / 2 ^ j % 2 = 1) := by
      funext j
      simp only [Function.comp, Nat.succ_eq_add_one, Nat.pow_succ, Nat.mul_comm (2 ^ j) 2, Nat.div_div_eq_div_mul]
    rw [e]
    by_cases h : x % 2 = 1
    · rw [if_pos (by simp [h])]; simp; omega
    · rw [if_neg (by simp [h])]; simp; omega
theorem els_word (ws : List Nat) (i : Nat) : flt (bt ws) (64 * (i + 1)) = flt (bt ws) (64 * i) ++ (pos (wd ws i)).map (64 * i + ·) := by
  rw [show 64 * (i + 1) = 64 * i + 64 by omega]
  unfold flt pos
  rw [List.range_add, List.filter_append, List.filter_map]
  congr 2
  apply List.filter_congr
  intro j hj
  have hj := List.mem_range.1 hj
  simp only [Function.comp, bt, show (64 * i + j) / 64 = i by omega, show (64 * i + j) % 64 = j by omega, Nat.testBit_eq_decide_div_mod_eq]
theorem els_pop (ws : List Nat) (i : Nat) : (flt (bt ws) (64 * (i + 1))).length = (flt (bt ws) (64 * i)).length + pop (wd ws i) 64 := by
  rw [els_word, List.length_append, List.length_map, pop_pos]; rfl
theorem pop_step (t m : Nat) (h : t < 64) : pos (2 ^ t * (2 * m + 1)) = t :: pos (2 ^ t * (2 * m)) := pos_step t m h

/-! ### ranges -/
def rg (a b : Nat) (c : Nat) : Bool := decide (a ≤ c) && decide (c ≤ b)
theorem rg_len (a b n : Nat) : (flt (rg a b) n).length = min n (b + 1) - min n a := by
  induction n with
  | zero => simp [flt]
  | succ n ih =>
    rw [flt_succ]
    unfold rg at ih ⊢
    by_cases h1 : a ≤ n <;> by_cases h2 : n ≤ b <;> simp only [h1, h2, decide_true, decide_false, Bool.true_and, Bool.false_and, Bool.false_eq_true, if_true, if_false, List.length_append, List.length_cons, List.length_nil, ih] <;> omega

/-! ### how a set is written -/
def marks : Bs := [92, 91, 93, 40, 41, 123, 125, 42, 43, 63, 124, 46, 45, 94, 47, 34]
def hexs : Bs := [48, 49, 50, 51, 52, 53, 54, 55, 56, 57, 97, 98, 99, 100, 101, 102]
def u8 (c : Nat) : UInt8 := UInt8.ofNat c
theorem u8_nat {c : Nat} (h : c < 256) : (u8 c).toNat = c := by simp [u8]; omega
theorem u8_toNat (c : UInt8) : u8 c.toNat = c := by simp [u8]
def msk (c : Nat) : Bool := decide (u8 c ∈ marks)
def wr (c : Nat) : Bs := if c = 10 then [92, 110] else if c = 9 then [92, 116] else if c = 32 then [92, 115] else if msk c then [92, u8 c]
  else if 32 < c ∧ c < 127 then [u8 c] else [92, 120, hexs.getD (c / 16) 0, hexs.getD (c % 16) 0]
theorem wr_len (c : Nat) : (wr c).length ≤ 4 := by
  unfold wr
  repeat' split
  all_goals simp
def bts (l : List Nat) : Bs := l.map u8
/-- How many go on one by one. -/
def rl : Nat → Bs → Nat
  | _, [] => 0
  | x, y :: ys => if y.toNat = x then 1 + rl (x + 1) ys else 0
theorem rl_le (x : Nat) (s : Bs) : rl x s ≤ s.length := by
  induction s generalizing x with
  | nil => simp [rl]
  | cons y ys ih => simp only [rl]; split
                    · have := ih (x + 1); simp; omega
                    · simp
def shF : Nat → Bs → Bs
  | 0, _ => []
  | _ + 1, [] => []
  | n + 1, x :: xs => if 3 ≤ 1 + rl (x.toNat + 1) xs then wr x.toNat ++ 45 :: wr ((x :: xs).getD (rl (x.toNat + 1) xs) 0).toNat ++ shF n (xs.drop (rl (x.toNat + 1) xs)) else wr x.toNat ++ shF n xs
theorem shF_more (n : Nat) : ∀ s : Bs, s.length ≤ n → shF n s = shF (n + 1) s := by
  induction n with
  | zero => intro s h; have e : s = [] := List.eq_nil_of_length_eq_zero (by omega)
            subst e; rfl
  | succ n ih =>
    intro s h
    cases s with
    | nil => rfl
    | cons x xs =>
      simp only [List.length_cons] at h
      rw [shF, shF, ih xs (by omega), ih (xs.drop _) (by rw [List.length_drop]; omega)]
theorem shF_all (n m : Nat) (s : Bs) (h : s.length ≤ n) (hm : n ≤ m) : shF n s = shF m s := by
  obtain ⟨d, rfl⟩ : ∃ d, m = n + d := ⟨m - n, by omega⟩
  clear hm
  induction d with
  | zero => rfl
  | succ d ih => rw [ih, ← Nat.add_assoc]; exact shF_more _ s (by omega)
def sh (s : Bs) : Bs := shF s.length s
theorem sh_nil : sh [] = [] := rfl
theorem sh_cons (x : UInt8) (xs : Bs) : sh (x :: xs) = if 3 ≤ 1 + rl (x.toNat + 1) xs then wr x.toNat ++ 45 :: wr ((x :: xs).getD (rl (x.toNat + 1) xs) 0).toNat ++ sh (xs.drop (rl (x.toNat + 1) xs)) else wr x.toNat ++ sh xs := by
  show shF (xs.length + 1) (x :: xs) = _
  rw [shF]
  have e1 : shF xs.length (xs.drop (rl (x.toNat + 1) xs)) = sh (xs.drop (rl (x.toNat + 1) xs)) := (shF_all _ _ _ (Nat.le_refl _) (by simp)).symm
  rw [e1]; rfl
def shw (l : List Nat) (m : List Nat) : Bs := if l.length = 1 then wr (l.headD 0) else if 128 < l.length then 91 :: 94 :: (sh (bts m) ++ [93]) else 91 :: (sh (bts l) ++ [93])
end Go.Proofs.YtcandjdomeompaaDoor
