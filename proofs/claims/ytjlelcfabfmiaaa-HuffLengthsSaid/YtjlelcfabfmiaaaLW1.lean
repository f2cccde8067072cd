/- The walks of the lengths' functions. -/
import Derived.Test.YtjlelcfabfmiaaaFacts
import Derived.Test.YtjlelcfabfmiaaaLM
namespace Go.Proofs.Ytjlelcfabfmiaaa.Ln
open Go.SX Go.Lens
attribute [local irreducible] X E N Ct
set_option linter.unusedVariables false
set_option linter.unusedSimpArgs false
abbrev i64 (x : Int) : Value := .int .i64 x
abbrev ptr (p : Nat) : Value := .pointer (some ⟨p, 0, none⟩)

def Fine (x : Int) : Prop := 0 ≤ x ∧ x ≤ 15
/-- What is wrong of lengths. -/
def wrongV (ls : List Int) : Int := if 320 < ls.length then 3 else if ls.all (fun x => decide (0 ≤ x) && decide (x ≤ 15)) then 0 else 1
theorem wrong_long {ls : List Int} (h : 320 < ls.length) : wrongV ls = 3 := by unfold wrongV; rw [if_pos h]
theorem wrong_bad {ls : List Int} (h : ls.length ≤ 320) {i : Nat} {x : Int} (hi : ls[i]? = some x) (hx : x < 0 ∨ 15 < x) : wrongV ls = 1 := by
  unfold wrongV; rw [if_neg (by omega), if_neg]
  intro hall
  have := List.all_eq_true.1 hall x (List.mem_of_getElem? hi)
  simp at this; omega
theorem wrong_ok {ns : Ns} (h : ns.length ≤ 320) (ho : Ok ns) : wrongV (ns.map fun (x : Nat) => (x : Int)) = 0 := by
  unfold wrongV; rw [if_neg (by rw [List.length_map]; omega), if_pos]
  apply List.all_eq_true.2
  intro x hx
  obtain ⟨y, hy, rfl⟩ := List.mem_map.1 hx
  have := ho y hy
  simp; omega
theorem wrong_cases (ls : List Int) : wrongV ls ≠ 0 ∨ ∃ ns : Ns, ls = ns.map (fun (x : Nat) => (x : Int)) ∧ Ok ns ∧ ns.length ≤ 320 := by
  by_cases h : wrongV ls = 0
  · right
    unfold wrongV at h
    split at h
    · cases h
    · rename_i hl
      split at h
      · rename_i hall
        have hall := List.all_eq_true.1 hall
        refine ⟨ls.map Int.toNat, ?_, ?_, by rw [List.length_map]; omega⟩
        · rw [List.map_map]
          conv => lhs; rw [← List.map_id ls]
          apply List.map_congr_left
          intro x hx
          have := hall x hx
          simp at this
          simp; omega
        · intro y hy
          obtain ⟨x, hx, rfl⟩ := List.mem_map.1 hy
          have := hall x hx
          simp at this; omega
      · cases h
  · exact .inl h
theorem nv_iv (ns : Ns) : iv (ns.map fun (x : Nat) => (x : Int)) = nv ns := by simp [iv, nv, List.map_map]
theorem cast_inj : ∀ {a b : Ns}, a.map (fun (x : Nat) => (x : Int)) = b.map (fun (x : Nat) => (x : Int)) → a = b := by
  intro a b h
  have := congrArg (List.map Int.toNat) h
  rw [List.map_map, List.map_map] at this
  have e : (Int.toNat ∘ fun (x : Nat) => (x : Int)) = id := by funext x; simp
  rwa [e, List.map_id, List.map_id] at this
theorem iv_get {ls : List Int} {i : Nat} {x : Int} (h : ls[i]? = some x) : (iv ls)[i]? = some (i64 x) := by simp [iv, h]
theorem nv_get {ls : Ns} {i : Nat} {x : Nat} (h : ls[i]? = some x) : (nv ls)[i]? = some (i64 x) := by simp [nv, h]
theorem nv_len (ls : Ns) : (nv ls).length = ls.length := by simp
theorem nv_one (ls : Ns) : ∀ v ∈ nv ls, v.oneCell' = true := by intro v hv; obtain ⟨x, _, rfl⟩ := List.mem_map.1 hv; rfl

/-- How many have each length. -/
def cn (ns : Ns) : Ns := (List.range 16).map fun j => ns.count j
theorem cn_len (ns : Ns) : (cn ns).length = 16 := by simp [cn]
theorem cn_get (ns : Ns) {j : Nat} (h : j < 16) : (cn ns)[j]? = some (ns.count j) := by simp [cn, h]
theorem cn_step (ns : Ns) (x : Nat) : (nv (cn ns)).set x (i64 ((ns.count x : Int) + 1)) = nv (cn (ns ++ [x])) := by
  apply List.ext_getElem?
  intro j
  by_cases hj : j < 16
  · rw [List.getElem?_set, nv_get (cn_get _ hj), nv_get (cn_get _ hj), List.count_append, List.count_singleton]
    by_cases hx : x = j
    · subst hx; simp [hj, cn]
    · have : (x == j) = false := by simpa using hx
      rw [if_neg hx, this]; simp
  · rw [List.getElem?_eq_none (by simp [cn]; omega), List.getElem?_eq_none (by simp [cn]; omega)]
theorem cn_nil : nv (cn []) = List.replicate 16 (i64 0) := by rfl

theorem counts_ct (ls : List Int) (a : Option Addr) (b o c : Nat) (H : Heap) (A : Row1 H a b o (iv ls)) : Ct Try.prog 26 #[.slice a ls.length c] H fun v H' => ∃ cs : Ns, cs.length = 16 ∧ v = .tuple #[.agg (nv cs).toArray, i64 (wrongV ls)] ∧ (wrongV ls = 0 → ∃ ms : Ns, ls = ms.map (fun (x : Nat) => (x : Int)) ∧ cs = cn ms) ∧ Kp [] H H' := by
  refine Ct.into 31 Try.func26 rfl [(0, .slice a ls.length c)] rfl ⟨rfl, trivial⟩ ?_
  refine E.seq ?_
  refine E.region ?_
  refine X.alloc (z := .agg ([.int .i64 0, .int .i64 0, .int .i64 0, .int .i64 0, .int .i64 0, .int .i64 0, .int .i64 0, .int .i64 0, .int .i64 0, .int .i64 0, .int .i64 0, .int .i64 0, .int .i64 0, .int .i64 0, .int .i64 0, .int .i64 0] : List Value).toArray) (cs := [.int .i64 0, .int .i64 0, .int .i64 0, .int .i64 0, .int .i64 0, .int .i64 0, .int .i64 0, .int .i64 0, .int .i64 0, .int .i64 0, .int .i64 0, .int .i64 0, .int .i64 0, .int .i64 0, .int .i64 0, .int .i64 0]) rfl rfl rfl rfl (by kernel_rfl) rfl ?_
  intro b2 H2 hn2 hb2 hk2
  refine X.asg rfl rfl rfl rfl rfl ?_
  refine X.done [(0, _), (2, _), (3, _)] ⟨rfl, rfl, rfl, trivial⟩ ?_
  refine N.then ?_
  refine E.seq ?_
  refine E.region ?_
  refine X.alloc (z := .agg ([.int .i64 0, .int .i64 0, .int .i64 0, .int .i64 0, .int .i64 0, .int .i64 0, .int .i64 0, .int .i64 0, .int .i64 0, .int .i64 0, .int .i64 0, .int .i64 0, .int .i64 0, .int .i64 0, .int .i64 0, .int .i64 0] : List Value).toArray) (cs := [.int .i64 0, .int .i64 0, .int .i64 0, .int .i64 0, .int .i64 0, .int .i64 0, .int .i64 0, .int .i64 0, .int .i64 0, .int .i64 0, .int .i64 0, .int .i64 0, .int .i64 0, .int .i64 0, .int .i64 0, .int .i64 0]) rfl rfl rfl rfl (by kernel_rfl) rfl ?_
  intro b4 H4 hn4 hb4 hk4
  have hb24 : b2 ≠ b4 := ne_of_ge hb2 hn4
  have hb2 := hk4.keep hb2 (by simp)
  have hk := hk2.trans hk4 (by simp)
  refine X.done [(0, _), (2, _), (3, _), (4, _)] ⟨rfl, rfl, rfl, rfl, trivial⟩ ?_
  refine N.then ?_
  refine E.seq ?_
  refine E.seq ?_
  refine E.region ?_
  refine X.mv rfl rfl rfl rfl rfl ?_
  refine X.lenS rfl rfl rfl rfl rfl Try.underlying22 ?_
  refine X.gtr rfl rfl rfl rfl rfl rfl ?_
  refine X.done [(0, _), (2, _), (3, _), (4, _), (9, _)] ⟨rfl, rfl, rfl, rfl, rfl, trivial⟩ ?_
  refine N.then ?_
  refine E.condD rfl (fun hc => ?_) (fun hc => ?_)
  · refine E.seq ?_
    refine E.region ?_
    refine X.ldA rfl rfl rfl rfl Try.ag48 Try.sz48 (hb4) (vs := nv (cn [])) rfl (fun j v hj => by rw [Nat.zero_add]; exact hj) ?_
    refine X.stA rfl rfl rfl rfl rfl rfl (by simp [cn, Value.oneCell']) Try.sz48 hb2 (by simp [cn]) ?_
    intro H5 hb5 hk5
    refine X.asg rfl rfl rfl rfl rfl ?_
    refine X.done [(0, _), (2, _), (3, _), (4, _)] ⟨rfl, rfl, rfl, rfl, trivial⟩ ?_
    refine N.then ?_
    refine E.ret ?_
    refine N.thenR ?_
    exact N.retH [_, _] ⟨_, _, _, _, rfl, rfl, loadsA (vs := nv (cn [])) Try.ag48 Try.sz48 hb5 (by simp [cn]) (fun j v hj => by rw [Nat.zero_add]; exact hj), _, _, rfl, rfl, rfl⟩ ⟨cn [], cn_len _, by rw [wrong_long (by omega)]; rfl, fun h => (by rw [wrong_long (by omega)] at h; cases h), hk.trans hk5 (by simp; exact hn2)⟩
  · refine E.skip ?_
    refine N.then ?_
    refine E.seq ?_
    refine E.seq ?_
    refine E.region ?_
    refine X.mv rfl rfl rfl rfl rfl ?_
    refine X.lenS rfl rfl rfl rfl rfl Try.underlying22 ?_
    refine X.mv rfl rfl rfl rfl rfl ?_
    refine X.done [(2, _), (3, _), (4, _), (11, _), (12, _), (13, _)] ⟨rfl, rfl, rfl, rfl, rfl, rfl, trivial⟩ ?_
    refine N.then ?_
    refine E.block ?_
    -- MISSING in G: [3]
    refine E.loop (fun (i : Nat) => [(2, ptr b2), (4, ptr b4), (11, .slice a ls.length c), (12, i64 ls.length), (13, i64 i)]) (fun (i : Nat) H' => i ≤ ls.length ∧ ∃ ms : Ns, ls.take i = ms.map (fun (x : Nat) => (x : Int)) ∧ Ok ms ∧ H'[b4]? = some (.cells (nv (cn ms)).toArray 48 (0, 0)) ∧ (∃ z : List Value, z.length = 16 ∧ H'[b2]? = some (.cells z.toArray 48 (0, 0))) ∧ Kp [] H H') (fun (i : Nat) => ls.length - i) 0 ⟨rfl, rfl, rfl, rfl, rfl, trivial⟩ ⟨Nat.zero_le _, [], rfl, by simp [Ok], by rw [cn_nil]; exact hb4, ⟨_, by rfl, hb2⟩, hk⟩ ?_
    rintro i H1 ⟨hi, ms, hms, hok, hb4, ⟨z2, hz2, hb2⟩, hk⟩
    have hml : ms.length = i := by have := congrArg List.length hms; simp at this; omega
    have hmc := fun j => count_len ms j
    refine E.seq ?_
    refine E.region ?_
    refine X.lss rfl rfl rfl rfl rfl rfl ?_
    refine X.done [(2, _), (4, _), (11, _), (12, _), (13, _), (14, _)] ⟨rfl, rfl, rfl, rfl, rfl, rfl, trivial⟩ ?_
    refine N.then ?_
    refine E.seq ?_
    refine E.condD rfl (fun hc => ?_) (fun hc => ?_)
    · refine E.skip ?_
      refine N.then ?_
      refine E.seq ?_
      refine E.block ?_
      refine E.seq ?_
      obtain ⟨x, hx⟩ : ∃ x, ls[i]? = some x := ⟨_, List.getElem?_eq_getElem (by omega)⟩
      obtain ⟨ha, cs, ct, fz, hbb, hel⟩ := (A.keepN hk).get i _ (iv_get hx)
      refine E.region ?_
      refine X.ixAe rfl rfl rfl rfl rfl rfl Try.underlying22 Try.sz3 (ha) (by omega) ?_
      refine X.ld rfl rfl rfl rfl Try.ag3 (hbb) (by rw [Nat.mul_one]; exact hel) ?_
      refine X.asg rfl rfl rfl rfl rfl ?_
      refine X.done [(2, _), (4, _), (11, _), (12, _), (13, _), (14, _), (15, _), (16, _), (6, _)] ⟨rfl, rfl, rfl, rfl, rfl, rfl, rfl, rfl, rfl, trivial⟩ ?_
      refine N.then ?_
      refine E.seq ?_
      refine E.seq ?_
      refine E.region ?_
      refine X.mv rfl rfl rfl rfl rfl ?_
      refine X.lssC rfl rfl rfl rfl rfl rfl (fun hc => ?_) (fun hc => ?_)
      · refine X.mv rfl rfl rfl rfl rfl ?_
        refine X.skip rfl rfl rfl ?_
        refine X.skip rfl rfl rfl ?_
        refine X.pickT rfl rfl rfl rfl rfl rfl ?_
        refine X.done [(2, _), (4, _), (11, _), (12, _), (13, _), (14, _), (15, _), (16, _), (6, _), (17, _), (18, _), (19, _), (20, _), (21, _), (22, _)] ⟨rfl, rfl, rfl, rfl, rfl, rfl, rfl, rfl, rfl, rfl, rfl, rfl, rfl, rfl, rfl, trivial⟩ ?_
        refine N.then ?_
        refine E.condT rfl ?_
        refine E.seq ?_
        refine E.region ?_
        refine X.ldA rfl rfl rfl rfl Try.ag48 Try.sz48 (hb4) (vs := nv (cn ms)) (by simp [cn]) (fun j v hj => by rw [Nat.zero_add]; exact hj) ?_
        refine X.stA rfl rfl rfl rfl rfl rfl (nv_one _) Try.sz48 hb2 (by simp [cn, hz2]) ?_
        intro H5 hb5 hk5
        refine X.asg rfl rfl rfl rfl rfl ?_
        refine X.done [(2, _), (4, _), (11, _), (12, _), (13, _), (14, _), (15, _), (16, _), (6, _), (17, _), (18, _), (19, _), (20, _), (21, _), (22, _), (23, _), (3, _)] ⟨rfl, rfl, rfl, rfl, rfl, rfl, rfl, rfl, rfl, rfl, rfl, rfl, rfl, rfl, rfl, rfl, rfl, trivial⟩ ?_
        refine N.then ?_
        refine E.ret ?_
        refine N.thenR ?_
        refine N.blkR ?_
        refine N.thenR ?_
        refine N.loopR ?_
        refine N.blkR ?_
        refine N.thenR ?_
        have hsp : splice z2 0 (nv (cn ms)) = nv (cn ms) := by simp [splice, hz2, cn]
        rw [hsp] at hb5
        exact N.retH [_, _] ⟨_, _, _, _, rfl, rfl, loadsA (vs := nv (cn ms)) Try.ag48 Try.sz48 hb5 (by simp [cn]) (fun j v hj => by rw [Nat.zero_add]; exact hj), _, _, rfl, rfl, rfl⟩ ⟨cn ms, cn_len _, by rw [wrong_bad (by omega) hx (by omega)]; rfl, fun h => (by rw [wrong_bad (by omega) hx (by omega)] at h; cases h), hk.trans hk5 (by simp; exact hn2)⟩
      · refine X.mv rfl rfl rfl rfl rfl ?_
        refine X.mv rfl rfl rfl rfl rfl ?_
        refine X.gtr rfl rfl rfl rfl rfl rfl ?_
        refine X.pickF rfl rfl rfl rfl rfl rfl ?_
        refine X.done [(2, _), (4, _), (11, _), (12, _), (13, _), (14, _), (15, _), (16, _), (6, _), (17, _), (18, _), (19, _), (20, _), (21, _), (22, _)] ⟨rfl, rfl, rfl, rfl, rfl, rfl, rfl, rfl, rfl, rfl, rfl, rfl, rfl, rfl, rfl, trivial⟩ ?_
        refine N.then ?_
        refine E.condD rfl (fun hc => ?_) (fun hc => ?_)
        · refine E.seq ?_
          refine E.region ?_
          refine X.ldA rfl rfl rfl rfl Try.ag48 Try.sz48 (hb4) (vs := nv (cn ms)) (by simp [cn]) (fun j v hj => by rw [Nat.zero_add]; exact hj) ?_
          refine X.stA rfl rfl rfl rfl rfl rfl (nv_one _) Try.sz48 hb2 (by simp [cn, hz2]) ?_
          intro H5 hb5 hk5
          refine X.asg rfl rfl rfl rfl rfl ?_
          refine X.done [(2, _), (4, _), (11, _), (12, _), (13, _), (14, _), (15, _), (16, _), (6, _), (17, _), (18, _), (19, _), (20, _), (21, _), (22, _), (23, _), (3, _)] ⟨rfl, rfl, rfl, rfl, rfl, rfl, rfl, rfl, rfl, rfl, rfl, rfl, rfl, rfl, rfl, rfl, rfl, trivial⟩ ?_
          refine N.then ?_
          refine E.ret ?_
          refine N.thenR ?_
          refine N.blkR ?_
          refine N.thenR ?_
          refine N.loopR ?_
          refine N.blkR ?_
          refine N.thenR ?_
          have hsp : splice z2 0 (nv (cn ms)) = nv (cn ms) := by simp [splice, hz2, cn]
          rw [hsp] at hb5
          exact N.retH [_, _] ⟨_, _, _, _, rfl, rfl, loadsA (vs := nv (cn ms)) Try.ag48 Try.sz48 hb5 (by simp [cn]) (fun j v hj => by rw [Nat.zero_add]; exact hj), _, _, rfl, rfl, rfl⟩ ⟨cn ms, cn_len _, by rw [wrong_bad (by omega) hx (by omega)]; rfl, fun h => (by rw [wrong_bad (by omega) hx (by omega)] at h; cases h), hk.trans hk5 (by simp; exact hn2)⟩
        · refine E.skip ?_
          refine N.then ?_
          obtain ⟨xn, rfl⟩ := Int.eq_ofNat_of_zero_le (show 0 ≤ x by omega)
          have hxn : xn < 16 := by omega
          have hmx := hmc xn
          refine E.region ?_
          refine X.mv rfl rfl rfl rfl rfl ?_
          refine X.ixP rfl rfl rfl rfl rfl rfl Try.underlying48 Try.sz3 (by omega) ?_
          refine X.ld rfl rfl rfl rfl Try.ag3 (hb4) (by have hg := nv_get (cn_get ms hxn); rw [Nat.zero_add, Nat.mul_one]; exact hg) ?_
          refine X.add rfl rfl rfl rfl rfl rfl (by omega) ?_
          refine X.ixP rfl rfl rfl rfl rfl rfl Try.underlying48 Try.sz3 (by omega) ?_
          refine X.st rfl rfl rfl rfl rfl rfl rfl Try.sz3 hb4 (by simp [cn]; omega) ?_
          intro H6 hb6 hk6
          have e6 : 0 + ((xn : Nat) : Int).toNat * 1 = xn := by omega
          rw [e6, cn_step] at hb6
          refine X.done [(2, _), (4, _), (11, _), (12, _), (13, _), (14, _), (15, _), (16, _), (6, _), (17, _), (18, _), (19, _), (20, _), (21, _), (22, _), (24, _), (25, _), (26, _), (27, _), (28, _)] ⟨rfl, rfl, rfl, rfl, rfl, rfl, rfl, rfl, rfl, rfl, rfl, rfl, rfl, rfl, rfl, rfl, rfl, rfl, rfl, rfl, trivial⟩ ?_
          refine N.blk ?_
          refine N.then ?_
          refine E.region ?_
          refine X.add rfl rfl rfl rfl rfl rfl (by omega) ?_
          refine X.mv rfl rfl rfl rfl rfl ?_
          refine X.done [(2, _), (4, _), (11, _), (12, _), (13, _), (14, _), (15, _), (16, _), (6, _), (17, _), (18, _), (19, _), (20, _), (21, _), (22, _), (24, _), (25, _), (26, _), (27, _), (28, _), (29, _)] ⟨rfl, rfl, rfl, rfl, rfl, rfl, rfl, rfl, rfl, rfl, rfl, rfl, rfl, rfl, rfl, rfl, rfl, rfl, rfl, rfl, rfl, trivial⟩ ?_
          have hxe : ls.take (i + 1) = (ms ++ [xn]).map (fun (x : Nat) => (x : Int)) := by rw [take_snoc hx, hms, List.map_append]; rfl
          exact N.next (G := fun (i : Nat) => _) (i + 1) ⟨rfl, rfl, rfl, rfl, rfl, trivial⟩ ⟨by omega, ms ++ [xn], hxe, by intro y hy; rcases List.mem_append.1 hy with h | h; exact hok y h; (simp at h; omega), hb6, ⟨z2, hz2, hk6.keep hb2 (by simp; exact hb24)⟩, hk.trans hk6 (by simp; exact Nat.le_trans hk2.size hn4)⟩ (by show _ - (i + 1) < _ - i; omega)
    · refine E.exit ?_
      refine N.thenX ?_
      refine N.loopX ?_
      refine N.blkX ?_
      refine N.then ?_
      refine E.seq ?_
      refine E.region ?_
      refine X.ldA rfl rfl rfl rfl Try.ag48 Try.sz48 (hb4) (vs := nv (cn ms)) (by simp [cn]) (fun j v hj => by rw [Nat.zero_add]; exact hj) ?_
      refine X.stA rfl rfl rfl rfl rfl rfl (nv_one _) Try.sz48 hb2 (by simp [cn, hz2]) ?_
      intro H5 hb5 hk5
      refine X.asg rfl rfl rfl rfl rfl ?_
      refine X.done [(2, _), (3, _)] ⟨rfl, rfl, trivial⟩ ?_
      refine N.then ?_
      refine E.ret ?_
      have hlsm : ls = ms.map (fun (x : Nat) => (x : Int)) := by rw [← hms, List.take_of_length_le (by omega)]
      have hsp : splice z2 0 (nv (cn ms)) = nv (cn ms) := by simp [splice, hz2, cn]
      rw [hsp] at hb5
      exact N.retH [_, _] ⟨_, _, _, _, rfl, rfl, loadsA (vs := nv (cn ms)) Try.ag48 Try.sz48 hb5 (by simp [cn]) (fun j v hj => by rw [Nat.zero_add]; exact hj), _, _, rfl, rfl, rfl⟩ ⟨cn ms, cn_len _, by rw [hlsm, wrong_ok (by omega) hok]; rfl, fun _ => ⟨ms, hlsm, rfl⟩, hk.trans hk5 (by simp; exact hn2)⟩

theorem total_ct (ns : Ns) (H : Heap) (hl : ns.length ≤ 320) : Ct Try.prog 27 #[.agg (nv (cn ns)).toArray] H fun v H' => v = i64 (K ns 15) ∧ Kp [] H H' := by
  refine Ct.into 21 Try.func27 rfl [(0, .agg (nv (cn ns)).toArray)] rfl ⟨rfl, trivial⟩ ?_
  refine E.seq ?_
  refine E.region ?_
  refine X.box rfl rfl rfl rfl rfl rfl ?_
  intro b1 H1 hn1 hb1 hk1
  refine X.asg rfl rfl rfl rfl rfl ?_
  refine X.done [(1, _), (2, _)] ⟨rfl, rfl, trivial⟩ ?_
  refine N.then ?_
  refine E.seq ?_
  refine E.region ?_
  refine X.asg rfl rfl rfl rfl rfl ?_
  refine X.done [(1, _), (2, _), (3, _)] ⟨rfl, rfl, rfl, trivial⟩ ?_
  refine N.then ?_
  refine E.seq ?_
  refine E.seq ?_
  refine E.region ?_
  refine X.mv rfl rfl rfl rfl rfl ?_
  refine X.done [(1, _), (2, _), (3, _), (5, _)] ⟨rfl, rfl, rfl, rfl, trivial⟩ ?_
  refine N.then ?_
  refine E.block ?_
  -- MISSING in G: [2]
  refine E.loop (fun (i : Nat) => [(1, ptr b1), (3, i64 (K ns i)), (5, i64 i)]) (fun (i : Nat) H' => i ≤ 15 ∧ H' = H1) (fun (i : Nat) => 15 - i) 0 ⟨rfl, rfl, rfl, trivial⟩ ⟨by omega, rfl⟩ ?_
  rintro i H2 ⟨hi, eH2⟩
  obtain rfl := eH2.symm
  have hKi := K_le ns i
  have hKi1 := K_le ns (i + 1)
  have hm : i * (ns.length * 16384) ≤ 15 * (320 * 16384) := Nat.mul_le_mul hi (Nat.mul_le_mul_right _ hl)
  have hm1 : (i + 1) * (ns.length * 16384) ≤ 16 * (320 * 16384) := Nat.mul_le_mul (by omega) (Nat.mul_le_mul_right _ hl)
  have eK : K ns (i + 1) = K ns i + ns.count (i + 1) * 2 ^ (14 - i) := rfl
  have eC : ((ns.count (i + 1) * 2 ^ (14 - i) : Nat) : Int) = (ns.count (i + 1) : Int) * 2 ^ (14 - i) := by simp
  have hB : ns.count (i + 1) * 2 ^ (14 - i) ≤ 90000000 := by omega
  have eB : 0 ≤ (ns.count (i + 1) : Int) * 2 ^ (14 - i) ∧ (ns.count (i + 1) : Int) * 2 ^ (14 - i) ≤ 90000000 := by rw [← eC]; exact ⟨Int.natCast_nonneg _, Int.ofNat_le.2 hB⟩
  refine E.seq ?_
  refine E.region ?_
  refine X.lss rfl rfl rfl rfl rfl rfl ?_
  refine X.done [(1, _), (3, _), (5, _), (6, _)] ⟨rfl, rfl, rfl, rfl, trivial⟩ ?_
  refine N.then ?_
  refine E.seq ?_
  refine E.condD rfl (fun hc => ?_) (fun hc => ?_)
  · refine E.skip ?_
    refine N.then ?_
    refine E.seq ?_
    refine E.block ?_
    refine E.seq ?_
    refine E.region ?_
    refine X.mv rfl rfl rfl rfl rfl ?_
    refine X.asg rfl rfl rfl rfl rfl ?_
    refine X.done [(1, _), (3, _), (5, _), (6, _), (7, _), (4, _)] ⟨rfl, rfl, rfl, rfl, rfl, rfl, trivial⟩ ?_
    refine N.then ?_
    refine E.region ?_
    refine X.mv rfl rfl rfl rfl rfl ?_
    refine X.mv rfl rfl rfl rfl rfl ?_
    refine X.add rfl rfl rfl rfl rfl rfl (by omega) ?_
    refine X.ixP rfl rfl rfl rfl rfl rfl Try.underlying48 Try.sz3 (by omega) ?_
    refine X.ld rfl rfl rfl rfl Try.ag3 (hb1) (by have hg := nv_get (cn_get ns (by omega : i + 1 < 16)); rw [Nat.zero_add, Nat.mul_one]; exact hg) ?_
    refine X.mv rfl rfl rfl rfl rfl ?_
    refine X.sbE (zz := ((15 - i : Nat) : Int)) rfl rfl rfl rfl rfl rfl (by rw [IntWalk.i64_in _ (by omega)]; omega) ?_
    refine X.sbE (zz := ((14 - i : Nat) : Int)) rfl rfl rfl rfl rfl rfl (by rw [IntWalk.i64_in _ (by omega)]; omega) ?_
    refine X.convE (zz := ((14 - i : Nat) : Int)) rfl rfl rfl rfl rfl Try.underlying45 Try.us3 (IntWalk.u64_in _ (by omega)) ?_
    refine X.shlE (zz := ((ns.count (i + 1) * 2 ^ (14 - i) : Nat) : Int)) rfl rfl rfl rfl rfl rfl (by omega) (by rw [eC]; exact shlN rfl (by omega) (by omega) (by omega)) ?_
    refine X.addE (zz := ((K ns i + ns.count (i + 1) * 2 ^ (14 - i) : Nat) : Int)) rfl rfl rfl rfl rfl rfl (by rw [IntWalk.i64_in _ (by omega)]; omega) ?_
    refine X.asg rfl rfl rfl rfl rfl ?_
    refine X.done [(1, _), (3, _), (5, _), (6, _), (7, _), (4, _), (8, _), (9, _), (10, _), (11, _), (12, _), (13, _), (14, _), (15, _), (16, _), (17, _), (18, _)] ⟨rfl, rfl, rfl, rfl, rfl, rfl, rfl, rfl, rfl, rfl, rfl, rfl, rfl, rfl, rfl, rfl, rfl, trivial⟩ ?_
    refine N.blk ?_
    refine N.then ?_
    refine E.region ?_
    refine X.add rfl rfl rfl rfl rfl rfl (by omega) ?_
    refine X.mv rfl rfl rfl rfl rfl ?_
    refine X.done [(1, _), (3, _), (5, _), (6, _), (7, _), (4, _), (8, _), (9, _), (10, _), (11, _), (12, _), (13, _), (14, _), (15, _), (16, _), (17, _), (18, _), (19, _)] ⟨rfl, rfl, rfl, rfl, rfl, rfl, rfl, rfl, rfl, rfl, rfl, rfl, rfl, rfl, rfl, rfl, rfl, rfl, trivial⟩ ?_
    exact N.next (G := fun (i : Nat) => _) (i + 1) ⟨rfl, by rw [eK]; rfl, rfl, trivial⟩ ⟨by omega, rfl⟩ (by show 15 - (i + 1) < 15 - i; omega)
  · refine E.exit ?_
    refine N.thenX ?_
    refine N.loopX ?_
    refine N.blkX ?_
    refine N.then ?_
    refine E.seq ?_
    refine E.region ?_
    refine X.mv rfl rfl rfl rfl rfl ?_
    refine X.asg rfl rfl rfl rfl rfl ?_
    refine X.done [(2, _)] ⟨rfl, trivial⟩ ?_
    refine N.then ?_
    refine E.ret ?_
    exact N.retH [_] ⟨_, _, rfl, rfl, rfl⟩ ⟨by rw [show i = 15 by omega]; rfl, hk1⟩

end Go.Proofs.Ytjlelcfabfmiaaa.Ln