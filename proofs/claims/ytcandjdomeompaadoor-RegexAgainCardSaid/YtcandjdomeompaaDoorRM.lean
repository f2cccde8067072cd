/- Plain model: nodes, how an expression is read. -/
import Derived.Test.YtcandjdomeompaaDoorZ8
namespace Go.Proofs.YtcandjdomeompaaDoor
open Go.SX Go.Chr
set_option linter.unusedVariables false
abbrev S4 := {ws : List Nat // Ws ws}
def s0 : S4 := ⟨z4, ws_z4⟩
def sOr (a b : S4) : S4 := ⟨orW a.1 b.1, a.2.or b.2⟩
def sNot (a : S4) : S4 := ⟨notW a.1, a.2.not⟩
def sRg (a b : Nat) : S4 := ⟨ofL (flt (rg a b) 256), ws_rg a b 256 (Nat.le_refl _)⟩
structure Nd where
  kind : Int
  kids : Int
  set : S4
  low : Int
  high : Int
  deriving DecidableEq
def ncel (x : Nd) : List Value := [i64 x.kind, i64 x.kids, .int .u64 (wd x.set.1 0 : Nat), .int .u64 (wd x.set.1 1 : Nat), .int .u64 (wd x.set.1 2 : Nat), .int .u64 (wd x.set.1 3 : Nat), i64 x.low, i64 x.high]
abbrev ndv (x : Nd) : Value := .agg (ncel x).toArray
theorem ncel_len (x : Nd) : (ncel x).length = 8 := rfl
theorem ncel_one (x : Nd) : ∀ v ∈ ncel x, v.oneCell' = true := by
  intro v hv
  simp only [ncel, List.mem_cons, List.not_mem_nil, or_false] at hv
  rcases hv with rfl | rfl | rfl | rfl | rfl | rfl | rfl | rfl <;> rfl
theorem uv_four {ws : List Nat} (h : Ws ws) : uv ws = [.int .u64 (wd ws 0 : Nat), .int .u64 (wd ws 1 : Nat), .int .u64 (wd ws 2 : Nat), .int .u64 (wd ws 3 : Nat)] := by
  conv => lhs; rw [eq_mk4 h.len]
  rfl
theorem ncel_set (x : Nd) : ∀ (j : Nat) (v : Value), (uv x.set.1)[j]? = some v → (ncel x)[2 + j]? = some v := by
  intro j v h
  rw [uv_four x.set.2] at h
  match j, h with
  | 0, h => exact h
  | 1, h => exact h
  | 2, h => exact h
  | 3, h => exact h
  | j + 4, h => simp at h
/-- A row of nodes that can be read. -/
def NR (H : Heap) (v : Value) (xs : List Nd) : Prop := Rd H 8 v xs.length (xs.flatMap ncel)
theorem NR.keep {H H' : Heap} {v : Value} {xs : List Nd} {S : List Nat} (h : NR H v xs) (hk : Kp S H H') (hS : ∀ b ∈ blk v, b ∉ S) : NR H' v xs := Rd.keep h hk hS
theorem NR.keepN {H H' : Heap} {v : Value} {xs : List Nd} (h : NR H v xs) (hk : Kp [] H H') : NR H' v xs := Rd.keep h hk (by simp)
theorem NR.sl {H : Heap} {v : Value} {xs : List Nd} (h : NR H v xs) : ∃ a c, v = .slice a xs.length c := by
  obtain ⟨_, a, c, e, _⟩ := h; exact ⟨a, c, e⟩
theorem NR.nil (H : Heap) : NR H (.slice none 0 0) [] := ⟨rfl, none, 0, rfl, .inl rfl⟩
theorem NR.at {H : Heap} {a : Option Addr} {n c : Nat} {xs : List Nd} (h : NR H (.slice a n c) xs) {i : Nat} {x : Nd} (hi : xs[i]? = some x) :
    ∃ b o cs ct fz, a = some ⟨b, o, none⟩ ∧ H[b]? = some (.cells (cs : List Value).toArray ct fz) ∧ ∀ j u, (ncel x)[j]? = some u → cs[o + i * 8 + j]? = some u := by
  obtain ⟨b, o, c', cs, ct, fz, hv, hb, hc⟩ := Rd.get h ncel_len hi (by decide)
  exact ⟨b, o, cs, ct, fz, (Value.slice.inj hv).1, hb, hc⟩
/-! ### the reader -/
structure St where
  at_ : Nat
  e : Int
  bad : Int
def pcl (s : Bs) (st : St) : List Value := [str s, i64 (st.at_ : Nat), i64 st.e, i64 st.bad]
def nx (s : Bs) (st : St) : Nat × Bool := if st.e ≠ 0 ∨ s.length ≤ st.at_ then (0, false) else ((s.getD st.at_ 0).toNat, true)
def fl (e a : Int) (st : St) : St := if st.e = 0 then ⟨st.at_, e, a⟩ else st
def adv (st : St) : St := ⟨st.at_ + 1, st.e, st.bad⟩
def tk (s : Bs) (c : Nat) (st : St) : Bool × St := if nx s st = (c, true) then (true, adv st) else (false, st)
def dgN (c : Nat) : Int := if 48 ≤ c ∧ c ≤ 57 then (c : Int) - 48 else if 97 ≤ c ∧ c ≤ 102 then (c : Int) - 87 else -1
def dgO (c : Nat) (base : Int) : Bool := decide (0 ≤ dgN c ∧ dgN c < base)
def numF (s : Bs) : Nat → Nat → Int → St → Int × St
  | 0, _, n, st => (n, st)
  | f + 1, i, n, st => if dgO (nx s st).1 10 then numF s f (i + 1) (10 * n + dgN (nx s st).1) (adv st) else (n, if i = 0 then fl 15 (st.at_ : Nat) st else st)
def num (s : Bs) (st : St) : Int × St := numF s 2 0 0 st
def cntV (low high : Int) : Bool := decide (0 ≤ low ∧ low ≤ 30 ∧ (high = -1 ∨ low ≤ high ∧ high ≤ 30))
def hiP (s : Bs) (low : Int) (st : St) : Int × St :=
  if (tk s 44 st).1 then (if (nx s (tk s 44 st).2).1 = 125 then (-1, (tk s 44 st).2) else num s (tk s 44 st).2) else (low, (tk s 44 st).2)
def clP (s : Bs) (c : Nat) (e a : Int) (st : St) : St := if (tk s c st).1 then (tk s c st).2 else fl e a (tk s c st).2
def tms (s : Bs) (st : St) : Nd × St :=
  let r1 := num s (adv st)
  let r2 := hiP s r1.1 r1.2
  let st6 := clP s 125 15 (r2.2.at_ : Nat) r2.2
  (⟨8, 0, s0, r1.1, r2.1⟩, if cntV r1.1 r2.1 then st6 else fl 18 (st.at_ : Nat) st6)
def kds (c : Nat) : S4 × Bool := if c = 100 then (sRg 48 57, true) else if c = 119 then (sOr (sRg 95 95) (sOr (sRg 48 57) (sOr (sRg 97 122) (sRg 65 90))), true) else (s0, false)
def nmd (c : Nat) : Nat × Bool := if c = 110 then (10, true) else if c = 116 then (9, true) else if c = 115 then (32, true) else (c, msk c)
def specials : Bs := [92, 91, 93, 40, 41, 123, 125, 42, 43, 63, 124, 46]
def spc (c : Nat) : Bool := decide (u8 c ∈ specials)
def hxO (s : Bs) (a : Nat) : Bool := dgO (s.getD a 0).toNat 16
def hxV (s : Bs) (a : Nat) : Nat := (dgN (s.getD a 0).toNat).toNat * 16 + (dgN (s.getD (a + 1) 0).toNat).toNat
def esc (s : Bs) (st : St) : (S4 × Bool) × St :=
  let c := (nx s (adv st)).1
  if (nx s (adv st)).2 = false then ((s0, false), fl 15 ((st.at_ + 1 : Nat) : Int) (adv st))
  else if (kds c).2 then (kds c, adv (adv st))
  else if (nmd c).2 then ((sRg (nmd c).1 (nmd c).1, false), adv (adv st))
  else if c = 120 ∧ st.at_ + 3 < s.length ∧ hxO s (st.at_ + 2) = true ∧ hxO s (st.at_ + 3) = true then ((sRg (hxV s (st.at_ + 2)) (hxV s (st.at_ + 2)), false), ⟨st.at_ + 4, st.e, st.bad⟩)
  else ((s0, false), fl 15 ((st.at_ + 1 : Nat) : Int) (adv (adv st)))
def chp (s : Bs) (st : St) : (S4 × Bool) × St :=
  if (nx s st).2 = true ∧ (nx s st).1 = 92 then esc s st
  else if (nx s st).2 = false ∨ (nx s st).1 = 45 then ((s0, false), fl 15 (st.at_ : Nat) st)
  else ((sRg (nx s st).1 (nx s st).1, false), adv st)
def hd (a : S4) : Nat := (els a.1).headD 0
/-- A range's last byte, behind its first one. -/
def itR (s : Bs) (from_ : Int) (a : S4) (kind : Bool) (at_ : Int) (st2 : St) : S4 × St :=
  if (nx s st2).2 = false then (a, fl 16 from_ st2)
  else if (nx s st2).1 = 93 then (a, fl 15 (st2.at_ : Nat) st2)
  else if (chp s st2).2.e ≠ 0 then (a, (chp s st2).2)
  else if kind = true ∨ (chp s st2).1.2 = true ∨ hd (chp s st2).1.1 < hd a then (a, fl 18 at_ (chp s st2).2)
  else (sRg (hd a) (hd (chp s st2).1.1), (chp s st2).2)
def itm (s : Bs) (from_ : Int) (st : St) : S4 × St :=
  let r := chp s st
  if (tk s 45 r.2).1 then itR s from_ r.1.1 r.1.2 (r.2.at_ : Nat) (tk s 45 r.2).2 else (r.1.1, r.2)
def clsF (s : Bs) (from_ : Int) : Nat → S4 → St → S4 × St
  | 0, a, st => (a, st)
  | f + 1, a, st =>
    if st.e ≠ 0 then (a, st)
    else if (tk s 93 st).1 then (a, (tk s 93 st).2)
    else if s.length ≤ st.at_ then (a, fl 16 from_ st)
    else clsF s from_ f (sOr a (itm s from_ st).1) (itm s from_ st).2
def cls (s : Bs) (from_ : Int) (st : St) : S4 × St :=
  let r := clsF s from_ (s.length + 2) s0 (tk s 94 st).2
  let a := if (tk s 94 st).1 then sNot r.1 else r.1
  (a, if a = s0 then fl 17 from_ r.2 else r.2)
def setN (a : S4) : List Nd := [⟨1, 0, a, 0, 0⟩]
def jn (x : Nd) (ks : List (List Nd)) : List Nd := ⟨x.kind, (ks.length : Nat), x.set, x.low, x.high⟩ :: ks.flatten
def knd (k : Int) : Nd := ⟨k, 0, s0, 0, 0⟩
def fin (kind : Int) : List (List Nd) → List Nd
  | [] => jn (knd 2) []
  | [x] => x
  | x :: y :: l => jn (knd kind) (x :: y :: l)
def rwF {σ : Type} (mo : σ → Bool × σ) (pa : σ → List Nd × σ) : Nat → List (List Nd) → σ → List (List Nd) × σ
  | 0, l, g => (l, g)
  | f + 1, l, g => if (mo g).1 then rwF mo pa f (l ++ [(pa (mo g).2).1]) (pa (mo g).2).2 else (l, (mo g).2)
def atm (A : St → List Nd × St) (s : Bs) (st : St) : List Nd × St :=
  let c := (nx s st).1
  if c = 92 then (setN (esc s st).1.1, (esc s st).2)
  else if c = 40 then ((A (adv st)).1, clP s 41 16 (st.at_ : Nat) (A (adv st)).2)
  else if c = 91 then (setN (cls s (st.at_ : Nat) (adv st)).1, (cls s (st.at_ : Nat) (adv st)).2)
  else if c = 46 then (setN (sNot (sRg 10 10)), adv st)
  else if spc c then ([], fl 15 (st.at_ : Nat) st)
  else (setN (sRg c c), adv st)
def repF (s : Bs) : Nat → List Nd → St → List Nd × St
  | 0, l, st => (l, st)
  | f + 1, l, st =>
    let c := (nx s st).1
    if c = 42 then repF s f (jn (knd 5) [l]) (adv st)
    else if c = 43 then repF s f (jn (knd 6) [l]) (adv st)
    else if c = 63 then repF s f (jn (knd 7) [l]) (adv st)
    else if c = 123 then repF s f (jn (tms s st).1 [l]) (tms s st).2
    else (l, st)
def rep (A : St → List Nd × St) (s : Bs) (st : St) : List Nd × St := repF s (s.length + 2) (atm A s st).1 (atm A s st).2
def inS (s : Bs) (st : St) : Bool := (nx s st).2 && decide ((nx s st).1 ≠ 124) && decide ((nx s st).1 ≠ 41)
def cat (A : St → List Nd × St) (s : Bs) (st : St) : List Nd × St :=
  let r := rwF (fun st => (inS s st, st)) (rep A s) (s.length + 2) [] st
  (fin 3 r.1, r.2)
def moA (s : Bs) (q : Bool × St) : Bool × (Bool × St) := if q.1 then (true, (false, q.2)) else ((tk s 124 q.2).1, (false, (tk s 124 q.2).2))
def paA (A : St → List Nd × St) (s : Bs) (q : Bool × St) : List Nd × (Bool × St) := ((cat A s q.2).1, (q.1, (cat A s q.2).2))
def alt (A : St → List Nd × St) (s : Bs) (st : St) : List Nd × St :=
  let r := rwF (moA s) (paA A s) (s.length + 3) [] (true, st)
  (fin 4 r.1, r.2.2)
def altN (s : Bs) : Nat → St → List Nd × St
  | 0, st => ([], st)
  | n + 1, st => alt (altN s n) s st
def prs (s : Bs) : List Nd × Int × Int :=
  if 512 < s.length then ([], 3, 512)
  else
    let r := altN s (s.length + 2) ⟨0, 0, 0⟩
    let st := if (nx s r.2).2 then fl 15 (r.2.at_ : Nat) r.2 else r.2
    if st.e ≠ 0 then ([], st.e, st.bad) else if 400 < r.1.length then ([], 3, 0) else (r.1, 0, 0)
theorem pr1 : (prs [97, 124, 98, 42]).1.map (·.kind) = [4, 1, 5, 1] ∧ (prs [97, 124, 98, 42]).2 = (0, 0) := by decide +kernel
theorem pr2 : prs [120, 40, 97] = ([], 16, 1) := by decide +kernel
theorem pr3 : prs [91, 98, 45, 97, 93] = ([], 18, 2) := by decide +kernel
theorem pr4 : prs [42] = ([], 15, 0) := by decide +kernel
end Go.Proofs.YtcandjdomeompaaDoor
