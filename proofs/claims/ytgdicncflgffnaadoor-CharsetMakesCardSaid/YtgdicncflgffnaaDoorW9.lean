/- The laws of sets of bytes. -/
import Derived.Test.YtgdicncflgffnaaDoorW8
namespace Go.Proofs.YtgdicncflgffnaaDoor
open Go.SX Go.Chr
attribute [local irreducible] X E N Ct
set_option linter.unusedVariables false

def nlW : List Nat := notW (ofL (nb [10]))
theorem ws_nl : Ws nlW := (ws_of [10]).not
theorem k1 : shw (els (ofL (nb [97]))) (els (notW (ofL (nb [97])))) = [97] := by decide +kernel
theorem k2 : shw (els (ofL (flt (rg 97 101) 256))) (els (notW (ofL (flt (rg 97 101) 256)))) = [91, 97, 45, 101, 93] := by decide +kernel
theorem k3 : shw (els nlW) (els (notW nlW)) = [91, 94, 92, 110, 93] := by decide +kernel
theorem k4 : (els nlW).length = 255 := by decide +kernel
theorem k5 : bts (els (ofL (nb [99, 97, 98]))) = [97, 98, 99] := by decide +kernel
theorem k6 : bt nlW 120 = true := by decide +kernel
theorem k7 : bt nlW 10 = false := by decide +kernel
theorem k8 : shw (els z4) (els (notW z4)) = [91, 93] := by decide +kernel
theorem rg_bt {a b c : Nat} (h : c < 256) : bt (ofL (flt (rg a b) 256)) c = rg a b c := by
  rw [bt_ofL (fun _ h => flt_lt h) h]
  by_cases e : rg a b c = true
  · rw [e]; exact decide_eq_true (mem_flt.2 ⟨h, e⟩)
  · have e' : rg a b c = false := by simpa using e
    rw [e']; exact decide_eq_false (fun hm => e (mem_flt.1 hm).2)
theorem rg_count {a b : Nat} (ha : a < 256) (hb : b < 256) : (els (ofL (flt (rg a b) 256))).length = b + 1 - a := by
  rw [els_ofL, rg_len]; omega
theorem count_sum {ws : List Nat} (h : Ws ws) : (els ws).length + (els (notW ws)).length = 256 := by
  rw [els_not h]; exact flt_not _ _
theorem uv_app (a b : List Nat) : uv (a ++ b) = uv a ++ uv b := List.map_append ..
theorem lo_off {ws vs : List Nat} (h : Ws ws) : ∀ j v, (uv ws)[j]? = some v → (uv (ws ++ vs))[0 + (0 : Int).toNat * 4 + j]? = some v := by
  intro j v hj
  have := (List.getElem?_eq_some_iff.1 hj).1
  rw [show 0 + (0 : Int).toNat * 4 + j = j by simp, uv_app, List.getElem?_append_left this]; exact hj
theorem hi_off {ws vs : List Nat} (h : Ws ws) : ∀ j v, (uv vs)[j]? = some v → (uv (ws ++ vs))[0 + (1 : Int).toNat * 4 + j]? = some v := by
  intro j v hj
  have e : 0 + (1 : Int).toNat * 4 + j = (uv ws).length + j := by rw [uv4 h]; rfl
  rw [e, uv_app, List.getElem?_append_right (by omega), Nat.add_sub_cancel_left]; exact hj

theorem known_ct (H : Heap) (hT : Tab H) : Ct Tryd.prog 14 #[] H fun v H' => v = .bool true ∧ Kp [] H H' := by
  have hkk : Kp [] H H := Kp.refl _ _
  refine Ct.into 41 Tryd.func14 rfl [] rfl trivial ?_
  refine E.seq ?_
  refine E.region ?_
  refine X.asg rfl rfl rfl rfl rfl ?_
  refine X.done [(0, _)] ⟨rfl, trivial⟩ ?_
  refine N.then ?_
  refine E.seq ?_
  refine E.region ?_
  refine X.call rfl rfl rfl rfl rfl Tryd.cl16 (of_ct [10] H (by decide)) ?_
  rintro _ H1 ⟨rfl, hk1⟩
  replace hkk := hkk.trans hk1 (by simp)
  refine X.call rfl rfl rfl rfl rfl Tryd.cl19 (not_ct _ H1 (ws_of [10])) ?_
  rintro _ H2 ⟨rfl, hk2⟩
  replace hkk := hkk.trans hk2 (by simp)
  rw [show notW (ofL (nb [10])) = nlW from rfl]
  refine X.alloc (z := .agg ([.int .u64 0, .int .u64 0, .int .u64 0, .int .u64 0] : List Value).toArray) (cs := [.int .u64 0, .int .u64 0, .int .u64 0, .int .u64 0]) rfl rfl rfl rfl (by kernel_rfl) rfl ?_
  intro bn H3 hn3 hbn hk3
  have hnn : H.size ≤ bn := Nat.le_trans hkk.size hn3
  replace hkk := hkk.trans hk3 (by simp)
  refine X.stA rfl rfl rfl rfl rfl rfl (uv_one _) Tryd.sz24 hbn (by rw [uv4 ws_nl]; decide) ?_
  intro H4 hb4 hk4
  rw [splice_all (by rw [uv4 ws_nl]; rfl)] at hb4
  replace hbn := hb4
  replace hkk := hkk.trans hk4 (by simp; exact hnn)
  refine X.done [(0, _), (1, _)] ⟨rfl, rfl, trivial⟩ ?_
  refine N.then ?_
  refine E.seq ?_
  refine E.region ?_
  refine X.call rfl rfl rfl rfl rfl Tryd.cl16 (of_ct [97] _ (by decide)) ?_
  rintro _ Hx ⟨rfl, hkx⟩
  replace hbn := hkx.keep hbn (by simp)
  replace hkk := hkk.trans hkx (by simp)
  clear hkx
  refine X.call rfl rfl rfl rfl rfl Tryd.cl12 (show_ct _ _ (ws_of [97]) (hT.keep hkk)) ?_
  rintro _ Hx ⟨rfl, hkx⟩
  replace hbn := hkx.keep hbn (by simp)
  replace hkk := hkk.trans hkx (by simp)
  clear hkx
  rw [k1]
  refine X.eqlST rfl rfl rfl rfl rfl rfl (rfl) ?_
  refine X.mv rfl rfl rfl rfl rfl ?_
  refine X.call rfl rfl rfl rfl rfl Tryd.cl15 (range_ct 97 101 _ (by decide) (by decide)) ?_
  rintro _ Hx ⟨rfl, hkx⟩
  replace hbn := hkx.keep hbn (by simp)
  replace hkk := hkk.trans hkx (by simp)
  clear hkx
  refine X.call rfl rfl rfl rfl rfl Tryd.cl12 (show_ct _ _ (ws_rg 97 101 256 (by decide)) (hT.keep hkk)) ?_
  rintro _ Hx ⟨rfl, hkx⟩
  replace hbn := hkx.keep hbn (by simp)
  replace hkk := hkk.trans hkx (by simp)
  clear hkx
  rw [k2]
  refine X.eqlST rfl rfl rfl rfl rfl rfl (rfl) ?_
  refine X.pickT rfl rfl rfl rfl rfl rfl ?_
  refine X.mv rfl rfl rfl rfl rfl ?_
  refine X.ldA rfl rfl rfl rfl Tryd.ag24 Tryd.sz24 (hbn) (uv4 ws_nl) zoff ?_
  refine X.call rfl rfl rfl rfl rfl Tryd.cl12 (show_ct _ _ ws_nl (hT.keep hkk)) ?_
  rintro _ Hx ⟨rfl, hkx⟩
  replace hbn := hkx.keep hbn (by simp)
  replace hkk := hkk.trans hkx (by simp)
  clear hkx
  rw [k3]
  refine X.eqlST rfl rfl rfl rfl rfl rfl (rfl) ?_
  refine X.pickT rfl rfl rfl rfl rfl rfl ?_
  refine X.mv rfl rfl rfl rfl rfl ?_
  refine X.ldA rfl rfl rfl rfl Tryd.ag24 Tryd.sz24 (hbn) (uv4 ws_nl) zoff ?_
  refine X.call rfl rfl rfl rfl rfl Tryd.cl11 (count_ct _ _ ws_nl) ?_
  rintro _ Hx ⟨rfl, hkx⟩
  replace hbn := hkx.keep hbn (by simp)
  replace hkk := hkk.trans hkx (by simp)
  clear hkx
  rw [k4]
  refine X.eqlT rfl rfl rfl rfl rfl rfl (rfl) ?_
  refine X.pickT rfl rfl rfl rfl rfl rfl ?_
  refine X.mv rfl rfl rfl rfl rfl ?_
  refine X.call rfl rfl rfl rfl rfl Tryd.cl16 (of_ct [99, 97, 98] _ (by decide)) ?_
  rintro _ Hx ⟨rfl, hkx⟩
  replace hbn := hkx.keep hbn (by simp)
  replace hkk := hkk.trans hkx (by simp)
  clear hkx
  refine X.call rfl rfl rfl rfl rfl Tryd.cl7 (bytes_ct _ _ (ws_of [99, 97, 98]) (hT.keep hkk)) ?_
  rintro _ Hx ⟨rfl, hkx⟩
  replace hbn := hkx.keep hbn (by simp)
  replace hkk := hkk.trans hkx (by simp)
  clear hkx
  rw [k5]
  refine X.eqlST rfl rfl rfl rfl rfl rfl (rfl) ?_
  refine X.pickT rfl rfl rfl rfl rfl rfl ?_
  refine X.mv rfl rfl rfl rfl rfl ?_
  refine X.ldA rfl rfl rfl rfl Tryd.ag24 Tryd.sz24 (hbn) (uv4 ws_nl) zoff ?_
  refine X.call rfl rfl rfl rfl rfl Tryd.cl8 (has_bt nlW 120 _ ws_nl (by decide)) ?_
  rintro _ Hx ⟨rfl, hkx⟩
  replace hbn := hkx.keep hbn (by simp)
  replace hkk := hkk.trans hkx (by simp)
  clear hkx
  rw [k6]
  refine X.pickT rfl rfl rfl rfl rfl rfl ?_
  refine X.mv rfl rfl rfl rfl rfl ?_
  refine X.ldA rfl rfl rfl rfl Tryd.ag24 Tryd.sz24 (hbn) (uv4 ws_nl) zoff ?_
  refine X.call rfl rfl rfl rfl rfl Tryd.cl8 (has_bt nlW 10 _ ws_nl (by decide)) ?_
  rintro _ Hx ⟨rfl, hkx⟩
  replace hbn := hkx.keep hbn (by simp)
  replace hkk := hkk.trans hkx (by simp)
  clear hkx
  rw [k7]
  refine X.notF rfl rfl rfl rfl rfl ?_
  refine X.pickT rfl rfl rfl rfl rfl rfl ?_
  refine X.mv rfl rfl rfl rfl rfl ?_
  refine X.build (v := .agg (uv z4 : List Value).toArray) rfl rfl rfl rfl rfl (fun _ => by kernel_rfl) ?_
  refine X.call rfl rfl rfl rfl rfl Tryd.cl12 (show_ct z4 _ ws_z4 (hT.keep hkk)) ?_
  rintro _ Hx ⟨rfl, hkx⟩
  replace hbn := hkx.keep hbn (by simp)
  replace hkk := hkk.trans hkx (by simp)
  clear hkx
  rw [k8]
  refine X.eqlST rfl rfl rfl rfl rfl rfl (rfl) ?_
  refine X.pickT rfl rfl rfl rfl rfl rfl ?_
  refine X.asg rfl rfl rfl rfl rfl ?_
  refine X.done [(0, _)] ⟨rfl, trivial⟩ ?_
  refine N.then ?_
  refine E.ret ?_
  exact N.retH [_] ⟨_, _, rfl, rfl, rfl⟩ ⟨rfl, hkk⟩

theorem tells_ct (ws : List Nat) (c : Nat) (H : Heap) (hT : Tab H) (hw : Ws ws) (hc8 : c ≤ 255) : Ct Tryd.prog 3 #[agg4 ws, .int .u8 c] H fun v H' => v = .bool true ∧ Kp [] H H' := by
  refine Ct.into 38 Tryd.func3 rfl [(0, agg4 ws), (1, .int .u8 c)] rfl ⟨rfl, rfl, trivial⟩ ?_
  refine E.seq ?_
  refine E.region ?_
  refine X.box rfl rfl rfl rfl rfl rfl ?_
  intro ba H1 hn1 hba hkk
  refine X.asg rfl rfl rfl rfl rfl ?_
  refine X.done [(1, _), (2, _), (4, _)] ⟨rfl, rfl, rfl, trivial⟩ ?_
  refine N.then ?_
  refine E.seq ?_
  refine E.region ?_
  refine X.ldA rfl rfl rfl rfl Tryd.ag24 Tryd.sz24 (hba) (uv4 hw) zoff ?_
  refine X.call rfl rfl rfl rfl rfl Tryd.cl7 (bytes_ct ws _ hw (hT.keep hkk)) ?_
  rintro _ Hx ⟨rfl, hkx⟩
  replace hba := hkx.keep hba (by simp)
  replace hkk := hkk.trans hkx (by simp)
  clear hkx
  refine X.asg rfl rfl rfl rfl rfl ?_
  refine X.done [(1, _), (2, _), (4, _), (5, _)] ⟨rfl, rfl, rfl, rfl, trivial⟩ ?_
  refine N.then ?_
  refine E.seq ?_
  refine E.regionD (fun H' => H'[ba]? = some (.cells (uv ws).toArray 24 (0, 0))) [(0, .st), (1, .pu), (3, .st), (4, .pu), (2, .mk), (5, .mk), (6, .pu), (7, .pu), (8, .pu), (9, .st), (10, .mk), (11, .pu), (12, .pu), (13, .pu), (14, .st), (16, .pu), (17, .pu), (15, .mk), (18, .pu), (19, .pu), (20, .pu), (21, .st), (23, .st), (22, .mk), (24, .mk), (25, .pu), (26, .pu), (27, .pu), (28, .mk), (29, .pu), (30, .pu)] Tryd.mixed (by kernel_rfl) (hba) ?_
  refine X.ldA rfl rfl rfl rfl Tryd.ag24 Tryd.sz24 (fun H' hF => hF) (uv4 hw) zoff ?_
  refine X.mv rfl rfl rfl rfl rfl ?_
  refine X.ldA rfl rfl rfl rfl Tryd.ag24 Tryd.sz24 (fun H' hF => hF) (uv4 hw) zoff ?_
  refine X.mv rfl rfl rfl rfl rfl ?_
  refine X.call rfl rfl rfl rfl rfl Tryd.cl8 (has_bt ws c _ hw hc8) ?_
  rintro _ Hx ⟨rfl, hkx⟩
  replace hba := hkx.keep hba (by simp)
  replace hkk := hkk.trans hkx (by simp)
  clear hkx
  refine ⟨hba, ?_⟩
  refine X.call rfl rfl rfl rfl rfl Tryd.cl9 (rhas_bt ws c _ hw hc8) ?_
  rintro _ Hx ⟨rfl, hkx⟩
  replace hba := hkx.keep hba (by simp)
  replace hkk := hkk.trans hkx (by simp)
  clear hkx
  refine ⟨hba, ?_⟩
  refine X.eqlBT rfl rfl rfl rfl rfl rfl Tryd.underlying4 (rfl) ?_
  refine X.mv rfl rfl rfl rfl rfl ?_
  refine X.mv rfl rfl rfl rfl rfl ?_
  refine X.ldA rfl rfl rfl rfl Tryd.ag24 Tryd.sz24 (fun H' hF => hF) (uv4 hw) zoff ?_
  refine X.call rfl rfl rfl rfl rfl Tryd.cl10 (rbytes_ct ws _ hw) ?_
  rintro _ Hx ⟨rfl, hkx⟩
  replace hba := hkx.keep hba (by simp)
  replace hkk := hkk.trans hkx (by simp)
  clear hkx
  refine ⟨hba, ?_⟩
  refine X.eqlST rfl rfl rfl rfl rfl rfl (rfl) ?_
  refine X.pickT rfl rfl rfl rfl rfl rfl ?_
  refine X.mv rfl rfl rfl rfl rfl ?_
  refine X.ldA rfl rfl rfl rfl Tryd.ag24 Tryd.sz24 (fun H' hF => hF) (uv4 hw) zoff ?_
  refine X.mv rfl rfl rfl rfl rfl ?_
  refine X.lenL rfl rfl rfl rfl rfl Tryd.underlying9 ?_
  refine X.call rfl rfl rfl rfl rfl Tryd.cl11 (count_ct ws _ hw) ?_
  rintro _ Hx ⟨rfl, hkx⟩
  replace hba := hkx.keep hba (by simp)
  replace hkk := hkk.trans hkx (by simp)
  clear hkx
  refine ⟨hba, ?_⟩
  refine X.eqlT rfl rfl rfl rfl rfl rfl (by rw [bts_len]) ?_
  refine X.pickT rfl rfl rfl rfl rfl rfl ?_
  refine X.mv rfl rfl rfl rfl rfl ?_
  refine X.ldA rfl rfl rfl rfl Tryd.ag24 Tryd.sz24 (fun H' hF => hF) (uv4 hw) zoff ?_
  refine X.ldA rfl rfl rfl rfl Tryd.ag24 Tryd.sz24 (fun H' hF => hF) (uv4 hw) zoff ?_
  refine X.call rfl rfl rfl rfl rfl Tryd.cl12 (show_ct ws _ hw (hT.keep hkk)) ?_
  rintro _ Hx ⟨rfl, hkx⟩
  replace hba := hkx.keep hba (by simp)
  replace hkk := hkk.trans hkx (by simp)
  clear hkx
  refine ⟨hba, ?_⟩
  refine X.call rfl rfl rfl rfl rfl Tryd.cl13 (rshow_ct ws _ hw) ?_
  rintro _ Hx ⟨rfl, hkx⟩
  replace hba := hkx.keep hba (by simp)
  replace hkk := hkk.trans hkx (by simp)
  clear hkx
  refine ⟨hba, ?_⟩
  refine X.eqlST rfl rfl rfl rfl rfl rfl (rfl) ?_
  refine X.pickT rfl rfl rfl rfl rfl rfl ?_
  refine X.mv rfl rfl rfl rfl rfl ?_
  refine X.call rfl rfl rfl rfl rfl Tryd.cl14 (known_ct _ (hT.keep hkk)) ?_
  rintro _ Hx ⟨rfl, hkx⟩
  replace hba := hkx.keep hba (by simp)
  replace hkk := hkk.trans hkx (by simp)
  clear hkx
  refine ⟨hba, ?_⟩
  refine X.pickT rfl rfl rfl rfl rfl rfl ?_
  refine X.asg rfl rfl rfl rfl rfl ?_
  refine X.done [(4, _)] ⟨rfl, trivial⟩ ?_
  refine N.then ?_
  refine E.ret ?_
  exact N.retH [_] ⟨_, _, rfl, rfl, rfl⟩ ⟨rfl, hkk⟩

theorem ranges_ct (a b c : Nat) (H : Heap) (hT : Tab H) (ha : a ≤ 255) (hb : b ≤ 255) (hc8 : c ≤ 255) : Ct Tryd.prog 4 #[.int .u8 a, .int .u8 b, .int .u8 c] H fun v H' => v = .bool true ∧ Kp [] H H' := by
  have hkk : Kp [] H H := Kp.refl _ _
  have hr : Ws (ofL (flt (rg a b) 256)) := ws_rg a b 256 (by decide)
  have hcn := rg_count (a := a) (b := b) (by omega) (by omega)
  refine Ct.into 38 Tryd.func4 rfl [(0, .int .u8 a), (1, .int .u8 b), (2, .int .u8 c)] rfl ⟨rfl, rfl, rfl, trivial⟩ ?_
  refine E.seq ?_
  refine E.region ?_
  refine X.asg rfl rfl rfl rfl rfl ?_
  refine X.done [(0, _), (1, _), (2, _), (6, _)] ⟨rfl, rfl, rfl, rfl, trivial⟩ ?_
  refine N.then ?_
  refine E.seq ?_
  refine E.region ?_
  refine X.mv rfl rfl rfl rfl rfl ?_
  refine X.mv rfl rfl rfl rfl rfl ?_
  refine X.call rfl rfl rfl rfl rfl Tryd.cl15 (range_ct a b H (by omega) (by omega)) ?_
  rintro _ H1 ⟨rfl, hk1⟩
  replace hkk := hkk.trans hk1 (by simp)
  refine X.alloc (z := .agg ([.int .u64 0, .int .u64 0, .int .u64 0, .int .u64 0] : List Value).toArray) (cs := [.int .u64 0, .int .u64 0, .int .u64 0, .int .u64 0]) rfl rfl rfl rfl (by kernel_rfl) rfl ?_
  intro br H3 hn3 hbr hk3
  have hnn : H.size ≤ br := Nat.le_trans hkk.size hn3
  replace hkk := hkk.trans hk3 (by simp)
  refine X.stA rfl rfl rfl rfl rfl rfl (uv_one _) (sz24w hr) hbr (by rw [uv4 hr]; decide) ?_
  intro H4 hb4 hk4
  rw [splice_all (by rw [uv4 hr]; rfl)] at hb4
  replace hbr := hb4
  replace hkk := hkk.trans hk4 (by simp; exact hnn)
  refine X.done [(0, _), (1, _), (2, _), (6, _), (7, _)] ⟨rfl, rfl, rfl, rfl, rfl, trivial⟩ ?_
  refine N.then ?_
  refine E.seq ?_
  refine E.region ?_
  refine X.ldA rfl rfl rfl rfl Tryd.ag24 Tryd.sz24 (hbr) (uv4 hr) zoff ?_
  refine X.mv rfl rfl rfl rfl rfl ?_
  refine X.call rfl rfl rfl rfl rfl Tryd.cl8 (has_bt _ c _ hr hc8) ?_
  rintro _ Hx ⟨rfl, hkx⟩
  replace hbr := hkx.keep hbr (by simp)
  replace hkk := hkk.trans hkx (by simp)
  clear hkx
  rw [rg_bt (by omega), rg]
  refine X.mv rfl rfl rfl rfl rfl ?_
  refine X.mv rfl rfl rfl rfl rfl ?_
  refine X.geqC rfl rfl rfl rfl rfl rfl (fun hc => ?_) (fun hc => ?_)
  · refine X.mv rfl rfl rfl rfl rfl ?_
    refine X.mv rfl rfl rfl rfl rfl ?_
    refine X.mv rfl rfl rfl rfl rfl ?_
    refine X.leq rfl rfl rfl rfl rfl rfl ?_
    refine X.pickT rfl rfl rfl rfl rfl rfl ?_
    refine X.eqlBT rfl rfl rfl rfl rfl rfl Tryd.underlying4 (by first | (rw [decide_eq_true (show a ≤ c by omega), Bool.true_and]; exact dec_eq (by omega)) | (rw [decide_eq_false (show ¬ a ≤ c by omega), Bool.false_and])) ?_
    refine X.mv rfl rfl rfl rfl rfl ?_
    refine X.ldA rfl rfl rfl rfl Tryd.ag24 Tryd.sz24 (hbr) (uv4 hr) zoff ?_
    refine X.call rfl rfl rfl rfl rfl Tryd.cl11 (count_ct _ _ hr) ?_
    rintro _ Hx ⟨rfl, hkx⟩
    replace hbr := hkx.keep hbr (by simp)
    replace hkk := hkk.trans hkx (by simp)
    clear hkx
    rw [hcn]
    refine X.mv rfl rfl rfl rfl rfl ?_
    refine X.convE (zz := (b : Int)) rfl rfl rfl rfl rfl Tryd.underlying3 Tryd.us5 (IntWalk.i64_in _ (by omega)) ?_
    refine X.mv rfl rfl rfl rfl rfl ?_
    refine X.convE (zz := (a : Int)) rfl rfl rfl rfl rfl Tryd.underlying3 Tryd.us5 (IntWalk.i64_in _ (by omega)) ?_
    refine X.sb rfl rfl rfl rfl rfl rfl (by omega) ?_
    refine X.addE (zz := ((b : Int) - a + 1)) rfl rfl rfl rfl rfl rfl (by rw [IntWalk.i64_in _ (by omega)] <;> omega) ?_
    refine X.mxE (zz := ((b + 1 - a : Nat) : Int)) rfl rfl rfl rfl rfl rfl (by split <;> omega) ?_
    refine X.eqlT rfl rfl rfl rfl rfl rfl (rfl) ?_
    refine X.pickT rfl rfl rfl rfl rfl rfl ?_
    refine X.mv rfl rfl rfl rfl rfl ?_
    refine X.call rfl rfl rfl rfl rfl Tryd.cl14 (known_ct _ (hT.keep hkk)) ?_
    rintro _ Hx ⟨rfl, hkx⟩
    replace hbr := hkx.keep hbr (by simp)
    replace hkk := hkk.trans hkx (by simp)
    clear hkx
    refine X.pickT rfl rfl rfl rfl rfl rfl ?_
    refine X.asg rfl rfl rfl rfl rfl ?_
    refine X.done [(6, _)] ⟨rfl, trivial⟩ ?_
    refine N.then ?_
    refine E.ret ?_
    exact N.retH [_] ⟨_, _, rfl, rfl, rfl⟩ ⟨rfl, hkk⟩
  · refine X.mv rfl rfl rfl rfl rfl ?_
    refine X.skip rfl rfl rfl ?_
    refine X.skip rfl rfl rfl ?_
    refine X.skip rfl rfl rfl ?_
    refine X.pickF rfl rfl rfl rfl rfl rfl ?_
    refine X.eqlBT rfl rfl rfl rfl rfl rfl Tryd.underlying4 (by first | (rw [decide_eq_true (show a ≤ c by omega), Bool.true_and]; exact dec_eq (by omega)) | (rw [decide_eq_false (show ¬ a ≤ c by omega), Bool.false_and])) ?_
    refine X.mv rfl rfl rfl rfl rfl ?_
    refine X.ldA rfl rfl rfl rfl Tryd.ag24 Tryd.sz24 (hbr) (uv4 hr) zoff ?_
    refine X.call rfl rfl rfl rfl rfl Tryd.cl11 (count_ct _ _ hr) ?_
    rintro _ Hx ⟨rfl, hkx⟩
    replace hbr := hkx.keep hbr (by simp)
    replace hkk := hkk.trans hkx (by simp)
    clear hkx
    rw [hcn]
    refine X.mv rfl rfl rfl rfl rfl ?_
    refine X.convE (zz := (b : Int)) rfl rfl rfl rfl rfl Tryd.underlying3 Tryd.us5 (IntWalk.i64_in _ (by omega)) ?_
    refine X.mv rfl rfl rfl rfl rfl ?_
    refine X.convE (zz := (a : Int)) rfl rfl rfl rfl rfl Tryd.underlying3 Tryd.us5 (IntWalk.i64_in _ (by omega)) ?_
    refine X.sb rfl rfl rfl rfl rfl rfl (by omega) ?_
    refine X.addE (zz := ((b : Int) - a + 1)) rfl rfl rfl rfl rfl rfl (by rw [IntWalk.i64_in _ (by omega)] <;> omega) ?_
    refine X.mxE (zz := ((b + 1 - a : Nat) : Int)) rfl rfl rfl rfl rfl rfl (by split <;> omega) ?_
    refine X.eqlT rfl rfl rfl rfl rfl rfl (rfl) ?_
    refine X.pickT rfl rfl rfl rfl rfl rfl ?_
    refine X.mv rfl rfl rfl rfl rfl ?_
    refine X.call rfl rfl rfl rfl rfl Tryd.cl14 (known_ct _ (hT.keep hkk)) ?_
    rintro _ Hx ⟨rfl, hkx⟩
    replace hbr := hkx.keep hbr (by simp)
    replace hkk := hkk.trans hkx (by simp)
    clear hkx
    refine X.pickT rfl rfl rfl rfl rfl rfl ?_
    refine X.asg rfl rfl rfl rfl rfl ?_
    refine X.done [(6, _)] ⟨rfl, trivial⟩ ?_
    refine N.then ?_
    refine E.ret ?_
    exact N.retH [_] ⟨_, _, rfl, rfl, rfl⟩ ⟨rfl, hkk⟩

theorem laws_ct (ws vs : List Nat) (c : Nat) (H : Heap) (hT : Tab H) (hw : Ws ws) (hv : Ws vs) (hc8 : c ≤ 255) : Ct Tryd.prog 6 #[agg4 ws, agg4 vs, .int .u8 c] H fun v H' => v = .bool true ∧ Kp [] H H' := by
  have hcs := count_sum hw
  have hc9 : c < 256 := by omega
  refine Ct.into 85 Tryd.func6 rfl [(0, agg4 ws), (1, agg4 vs), (2, .int .u8 c)] rfl ⟨rfl, rfl, rfl, trivial⟩ ?_
  refine E.seq ?_
  refine E.region ?_
  refine X.box rfl rfl rfl rfl rfl rfl ?_
  intro ba H1 hn1 hba hkk
  refine X.box rfl rfl rfl rfl rfl rfl ?_
  intro bb H2 hn2 hbb hk2
  replace hba := hk2.keep hba (by simp)
  replace hkk := hkk.trans hk2 (by simp)
  refine X.asg rfl rfl rfl rfl rfl ?_
  refine X.done [(2, _), (3, _), (4, _), (6, _)] ⟨rfl, rfl, rfl, rfl, trivial⟩ ?_
  refine N.then ?_
  refine E.seq ?_
  refine E.region ?_
  refine X.ldA rfl rfl rfl rfl Tryd.ag24 Tryd.sz24 (hba) (uv4 hw) zoff ?_
  refine X.call rfl rfl rfl rfl rfl Tryd.cl19 (not_ct ws _ hw) ?_
  rintro _ Hx ⟨rfl, hkx⟩
  replace hba := hkx.keep hba (by simp)
  replace hbb := hkx.keep hbb (by simp)
  replace hkk := hkk.trans hkx (by simp)
  clear hkx
  refine X.alloc (z := .agg ([.int .u64 0, .int .u64 0, .int .u64 0, .int .u64 0] : List Value).toArray) (cs := [.int .u64 0, .int .u64 0, .int .u64 0, .int .u64 0]) rfl rfl rfl rfl (by kernel_rfl) rfl ?_
  intro bn H3 hn3 hbn hk3
  have hnn : H.size ≤ bn := Nat.le_trans hkk.size hn3
  have hla := lt_of hba
  have hlb := lt_of hbb
  have hna : ba ≠ bn := by omega
  have hnb : bb ≠ bn := by omega
  replace hba := hk3.keep hba (by simp)
  replace hbb := hk3.keep hbb (by simp)
  replace hkk := hkk.trans hk3 (by simp)
  refine X.stA rfl rfl rfl rfl rfl rfl (uv_one _) Tryd.sz24 hbn (by rw [uv4 hw.not]; decide) ?_
  intro H4 hb4 hk4
  rw [splice_all (by rw [uv4 hw.not]; rfl)] at hb4
  replace hbn := hb4
  replace hba := hk4.keep hba (by simp; exact hna)
  replace hbb := hk4.keep hbb (by simp; exact hnb)
  replace hkk := hkk.trans hk4 (by simp; exact hnn)
  refine X.done [(2, _), (3, _), (4, _), (6, _), (7, _)] ⟨rfl, rfl, rfl, rfl, rfl, trivial⟩ ?_
  refine N.then ?_
  refine E.seq ?_
  refine E.regionD (fun H' => H'[ba]? = some (.cells (uv ws).toArray 24 (0, 0)) ∧ H'[bb]? = some (.cells (uv vs).toArray 24 (0, 0)) ∧ H'[bn]? = some (.cells (uv (notW ws)).toArray 24 (0, 0))) [(0, .st), (2, .st), (1, .mk), (3, .pu), (4, .pu), (5, .st), (6, .st), (9, .st), (10, .st), (7, .mk), (8, .mk), (11, .mk), (12, .mk), (13, .pu), (14, .pu), (15, .pu), (16, .st), (17, .pu), (19, .st), (20, .pu), (18, .mk), (21, .mk), (22, .pu), (23, .pu), (24, .pu), (25, .pu), (26, .st), (27, .st), (29, .pu), (31, .st), (32, .pu), (28, .mk), (30, .mk), (33, .mk), (34, .pu), (35, .st), (36, .pu), (37, .mk), (38, .pu), (39, .pu), (40, .pu), (41, .pu), (42, .st), (43, .st), (45, .pu), (47, .st), (48, .pu), (44, .mk), (46, .mk), (49, .mk), (50, .pu), (51, .st), (52, .pu), (53, .mk), (54, .pu), (55, .pu), (56, .pu), (57, .pu), (58, .st), (60, .st), (59, .mk), (61, .mk), (62, .pu), (63, .pu), (64, .pu), (65, .pu), (66, .st), (69, .st), (67, .mk), (68, .mk), (70, .pu), (71, .pu), (72, .pu), (73, .mk), (74, .pu), (75, .pu)] Tryd.mixed (by kernel_rfl) (⟨hba, hbb, hbn⟩) ?_
  refine X.ldA rfl rfl rfl rfl Tryd.ag24 Tryd.sz24 (fun H' hF => hF.2.2) (uv4 hw.not) zoff ?_
  refine X.ldA rfl rfl rfl rfl Tryd.ag24 Tryd.sz24 (fun H' hF => hF.1) (uv4 hw) zoff ?_
  refine X.call rfl rfl rfl rfl rfl Tryd.cl19 (not_ct _ _ hw.not) ?_
  rintro _ Hx ⟨rfl, hkx⟩
  replace hba := hkx.keep hba (by simp)
  replace hbb := hkx.keep hbb (by simp)
  replace hbn := hkx.keep hbn (by simp)
  replace hkk := hkk.trans hkx (by simp)
  clear hkx
  refine ⟨⟨hba, hbb, hbn⟩, ?_⟩
  refine X.eqlWT rfl rfl rfl rfl rfl rfl Tryd.underlying24 Tryd.underlying22 Tryd.ag22 Tryd.sz22 (by kernel_rfl) (hw.not.not.len) (hw.len) (not_not hw) ?_
  refine X.mv rfl rfl rfl rfl rfl ?_
  refine X.ldA rfl rfl rfl rfl Tryd.ag24 Tryd.sz24 (fun H' hF => hF.1) (uv4 hw) zoff ?_
  refine X.ldA rfl rfl rfl rfl Tryd.ag24 Tryd.sz24 (fun H' hF => hF.2.1) (uv4 hv) zoff ?_
  refine X.ldA rfl rfl rfl rfl Tryd.ag24 Tryd.sz24 (fun H' hF => hF.2.2) (uv4 hw.not) zoff ?_
  refine X.ldA rfl rfl rfl rfl Tryd.ag24 Tryd.sz24 (fun H' hF => hF.2.1) (uv4 hv) zoff ?_
  refine X.call rfl rfl rfl rfl rfl Tryd.cl21 (or_ct ws vs _ hw hv) ?_
  rintro _ Hx ⟨rfl, hkx⟩
  replace hba := hkx.keep hba (by simp)
  replace hbb := hkx.keep hbb (by simp)
  replace hbn := hkx.keep hbn (by simp)
  replace hkk := hkk.trans hkx (by simp)
  clear hkx
  refine ⟨⟨hba, hbb, hbn⟩, ?_⟩
  refine X.call rfl rfl rfl rfl rfl Tryd.cl19 (not_ct _ _ (hw.or hv)) ?_
  rintro _ Hx ⟨rfl, hkx⟩
  replace hba := hkx.keep hba (by simp)
  replace hbb := hkx.keep hbb (by simp)
  replace hbn := hkx.keep hbn (by simp)
  replace hkk := hkk.trans hkx (by simp)
  clear hkx
  refine ⟨⟨hba, hbb, hbn⟩, ?_⟩
  refine X.call rfl rfl rfl rfl rfl Tryd.cl19 (not_ct vs _ hv) ?_
  rintro _ Hx ⟨rfl, hkx⟩
  replace hba := hkx.keep hba (by simp)
  replace hbb := hkx.keep hbb (by simp)
  replace hbn := hkx.keep hbn (by simp)
  replace hkk := hkk.trans hkx (by simp)
  clear hkx
  refine ⟨⟨hba, hbb, hbn⟩, ?_⟩
  refine X.call rfl rfl rfl rfl rfl Tryd.cl23 (and_ct _ _ _ hw.not hv.not) ?_
  rintro _ Hx ⟨rfl, hkx⟩
  replace hba := hkx.keep hba (by simp)
  replace hbb := hkx.keep hbb (by simp)
  replace hbn := hkx.keep hbn (by simp)
  replace hkk := hkk.trans hkx (by simp)
  clear hkx
  refine ⟨⟨hba, hbb, hbn⟩, ?_⟩
  refine X.eqlWT rfl rfl rfl rfl rfl rfl Tryd.underlying24 Tryd.underlying22 Tryd.ag22 Tryd.sz22 (by kernel_rfl) ((hw.or hv).not.len) ((hw.not.and hv.not).len) (not_or hw hv) ?_
  refine X.pickT rfl rfl rfl rfl rfl rfl ?_
  refine X.mv rfl rfl rfl rfl rfl ?_
  refine X.ldA rfl rfl rfl rfl Tryd.ag24 Tryd.sz24 (fun H' hF => hF.2.2) (uv4 hw.not) zoff ?_
  refine X.mv rfl rfl rfl rfl rfl ?_
  refine X.ldA rfl rfl rfl rfl Tryd.ag24 Tryd.sz24 (fun H' hF => hF.1) (uv4 hw) zoff ?_
  refine X.mv rfl rfl rfl rfl rfl ?_
  refine X.call rfl rfl rfl rfl rfl Tryd.cl8 (has_bt _ c _ hw.not hc8) ?_
  rintro _ Hx ⟨rfl, hkx⟩
  replace hba := hkx.keep hba (by simp)
  replace hbb := hkx.keep hbb (by simp)
  replace hbn := hkx.keep hbn (by simp)
  replace hkk := hkk.trans hkx (by simp)
  clear hkx
  rw [bt_not hw hc9]
  refine ⟨⟨hba, hbb, hbn⟩, ?_⟩
  refine X.call rfl rfl rfl rfl rfl Tryd.cl8 (has_bt ws c _ hw hc8) ?_
  rintro _ Hx ⟨rfl, hkx⟩
  replace hba := hkx.keep hba (by simp)
  replace hbb := hkx.keep hbb (by simp)
  replace hbn := hkx.keep hbn (by simp)
  replace hkk := hkk.trans hkx (by simp)
  clear hkx
  refine ⟨⟨hba, hbb, hbn⟩, ?_⟩
  refine X.notB rfl rfl rfl rfl rfl ?_
  refine X.eqlBT rfl rfl rfl rfl rfl rfl Tryd.underlying4 (rfl) ?_
  refine X.pickT rfl rfl rfl rfl rfl rfl ?_
  refine X.mv rfl rfl rfl rfl rfl ?_
  refine X.ldA rfl rfl rfl rfl Tryd.ag24 Tryd.sz24 (fun H' hF => hF.1) (uv4 hw) zoff ?_
  refine X.ldA rfl rfl rfl rfl Tryd.ag24 Tryd.sz24 (fun H' hF => hF.2.1) (uv4 hv) zoff ?_
  refine X.mv rfl rfl rfl rfl rfl ?_
  refine X.ldA rfl rfl rfl rfl Tryd.ag24 Tryd.sz24 (fun H' hF => hF.1) (uv4 hw) zoff ?_
  refine X.mv rfl rfl rfl rfl rfl ?_
  refine X.call rfl rfl rfl rfl rfl Tryd.cl21 (or_ct ws vs _ hw hv) ?_
  rintro _ Hx ⟨rfl, hkx⟩
  replace hba := hkx.keep hba (by simp)
  replace hbb := hkx.keep hbb (by simp)
  replace hbn := hkx.keep hbn (by simp)
  replace hkk := hkk.trans hkx (by simp)
  clear hkx
  refine ⟨⟨hba, hbb, hbn⟩, ?_⟩
  refine X.call rfl rfl rfl rfl rfl Tryd.cl8 (has_bt _ c _ (hw.or hv) hc8) ?_
  rintro _ Hx ⟨rfl, hkx⟩
  replace hba := hkx.keep hba (by simp)
  replace hbb := hkx.keep hbb (by simp)
  replace hbn := hkx.keep hbn (by simp)
  replace hkk := hkk.trans hkx (by simp)
  clear hkx
  rw [bt_or ws vs hc9]
  refine ⟨⟨hba, hbb, hbn⟩, ?_⟩
  refine X.call rfl rfl rfl rfl rfl Tryd.cl8 (has_bt ws c _ hw hc8) ?_
  rintro _ Hx ⟨rfl, hkx⟩
  replace hba := hkx.keep hba (by simp)
  replace hbb := hkx.keep hbb (by simp)
  replace hbn := hkx.keep hbn (by simp)
  replace hkk := hkk.trans hkx (by simp)
  clear hkx
  refine ⟨⟨hba, hbb, hbn⟩, ?_⟩
  cases hx : bt ws c
  · refine X.mv rfl rfl rfl rfl rfl ?_
    refine X.ldA rfl rfl rfl rfl Tryd.ag24 Tryd.sz24 (fun H' hF => hF.2.1) (uv4 hv) zoff ?_
    refine X.mv rfl rfl rfl rfl rfl ?_
    refine X.call rfl rfl rfl rfl rfl Tryd.cl8 (has_bt vs c _ hv hc8) ?_
    rintro _ Hx ⟨rfl, hkx⟩
    replace hba := hkx.keep hba (by simp)
    replace hbb := hkx.keep hbb (by simp)
    replace hbn := hkx.keep hbn (by simp)
    replace hkk := hkk.trans hkx (by simp)
    clear hkx
    refine ⟨⟨hba, hbb, hbn⟩, ?_⟩
    refine X.pickF rfl rfl rfl rfl rfl rfl ?_
    refine X.eqlBT rfl rfl rfl rfl rfl rfl Tryd.underlying4 (by first | rfl | (rw [hx]; rfl) | simp [hx]) ?_
    refine X.pickT rfl rfl rfl rfl rfl rfl ?_
    refine X.mv rfl rfl rfl rfl rfl ?_
    refine X.ldA rfl rfl rfl rfl Tryd.ag24 Tryd.sz24 (fun H' hF => hF.1) (uv4 hw) zoff ?_
    refine X.ldA rfl rfl rfl rfl Tryd.ag24 Tryd.sz24 (fun H' hF => hF.2.1) (uv4 hv) zoff ?_
    refine X.mv rfl rfl rfl rfl rfl ?_
    refine X.ldA rfl rfl rfl rfl Tryd.ag24 Tryd.sz24 (fun H' hF => hF.1) (uv4 hw) zoff ?_
    refine X.mv rfl rfl rfl rfl rfl ?_
    refine X.call rfl rfl rfl rfl rfl Tryd.cl23 (and_ct ws vs _ hw hv) ?_
    rintro _ Hx ⟨rfl, hkx⟩
    replace hba := hkx.keep hba (by simp)
    replace hbb := hkx.keep hbb (by simp)
    replace hbn := hkx.keep hbn (by simp)
    replace hkk := hkk.trans hkx (by simp)
    clear hkx
    refine ⟨⟨hba, hbb, hbn⟩, ?_⟩
    refine X.call rfl rfl rfl rfl rfl Tryd.cl8 (has_bt _ c _ (hw.and hv) hc8) ?_
    rintro _ Hx ⟨rfl, hkx⟩
    replace hba := hkx.keep hba (by simp)
    replace hbb := hkx.keep hbb (by simp)
    replace hbn := hkx.keep hbn (by simp)
    replace hkk := hkk.trans hkx (by simp)
    clear hkx
    rw [bt_and ws vs hc9]
    refine ⟨⟨hba, hbb, hbn⟩, ?_⟩
    refine X.call rfl rfl rfl rfl rfl Tryd.cl8 (has_bt ws c _ hw hc8) ?_
    rintro _ Hx ⟨rfl, hkx⟩
    replace hba := hkx.keep hba (by simp)
    replace hbb := hkx.keep hbb (by simp)
    replace hbn := hkx.keep hbn (by simp)
    replace hkk := hkk.trans hkx (by simp)
    clear hkx
    rw [hx]
    refine ⟨⟨hba, hbb, hbn⟩, ?_⟩
    refine X.mv rfl rfl rfl rfl rfl ?_
    refine X.skip rfl rfl rfl ?_
    refine X.skip rfl rfl rfl ?_
    refine X.skip rfl rfl rfl ?_
    refine X.pickF rfl rfl rfl rfl rfl rfl ?_
    refine X.eqlBT rfl rfl rfl rfl rfl rfl Tryd.underlying4 (by first | rfl | (rw [hx]; rfl) | simp [hx]) ?_
    refine X.pickT rfl rfl rfl rfl rfl rfl ?_
    refine X.mv rfl rfl rfl rfl rfl ?_
    refine X.ldA rfl rfl rfl rfl Tryd.ag24 Tryd.sz24 (fun H' hF => hF.1) (uv4 hw) zoff ?_
    refine X.ldA rfl rfl rfl rfl Tryd.ag24 Tryd.sz24 (fun H' hF => hF.2.2) (uv4 hw.not) zoff ?_
    refine X.call rfl rfl rfl rfl rfl Tryd.cl11 (count_ct ws _ hw) ?_
    rintro _ Hx ⟨rfl, hkx⟩
    replace hba := hkx.keep hba (by simp)
    replace hbb := hkx.keep hbb (by simp)
    replace hbn := hkx.keep hbn (by simp)
    replace hkk := hkk.trans hkx (by simp)
    clear hkx
    refine ⟨⟨hba, hbb, hbn⟩, ?_⟩
    refine X.call rfl rfl rfl rfl rfl Tryd.cl11 (count_ct _ _ hw.not) ?_
    rintro _ Hx ⟨rfl, hkx⟩
    replace hba := hkx.keep hba (by simp)
    replace hbb := hkx.keep hbb (by simp)
    replace hbn := hkx.keep hbn (by simp)
    replace hkk := hkk.trans hkx (by simp)
    clear hkx
    refine ⟨⟨hba, hbb, hbn⟩, ?_⟩
    refine X.addE (zz := (256 : Int)) rfl rfl rfl rfl rfl rfl (by rw [IntWalk.i64_in _ (by omega)] <;> omega) ?_
    refine X.eqlT rfl rfl rfl rfl rfl rfl (rfl) ?_
    refine X.pickT rfl rfl rfl rfl rfl rfl ?_
    refine X.mv rfl rfl rfl rfl rfl ?_
    refine X.ldA rfl rfl rfl rfl Tryd.ag24 Tryd.sz24 (fun H' hF => hF.1) (uv4 hw) zoff ?_
    refine X.ldA rfl rfl rfl rfl Tryd.ag24 Tryd.sz24 (fun H' hF => hF.1) (uv4 hw) zoff ?_
    refine X.call rfl rfl rfl rfl rfl Tryd.cl7 (bytes_ct ws _ hw (hT.keep hkk)) ?_
    rintro _ Hx ⟨rfl, hkx⟩
    replace hba := hkx.keep hba (by simp)
    replace hbb := hkx.keep hbb (by simp)
    replace hbn := hkx.keep hbn (by simp)
    replace hkk := hkk.trans hkx (by simp)
    clear hkx
    refine ⟨⟨hba, hbb, hbn⟩, ?_⟩
    refine X.call rfl rfl rfl rfl rfl Tryd.cl16 (of_ct _ _ (by have := els_len ws; rw [bts_len]; omega)) ?_
    rintro _ Hx ⟨rfl, hkx⟩
    replace hba := hkx.keep hba (by simp)
    replace hbb := hkx.keep hbb (by simp)
    replace hbn := hkx.keep hbn (by simp)
    replace hkk := hkk.trans hkx (by simp)
    clear hkx
    refine ⟨⟨hba, hbb, hbn⟩, ?_⟩
    refine X.eqlWT rfl rfl rfl rfl rfl rfl Tryd.underlying24 Tryd.underlying22 Tryd.ag22 Tryd.sz22 (by kernel_rfl) ((ws_of _).len) (hw.len) (by rw [nb_bts els_lt, ofL_els hw]) ?_
    refine X.pickT rfl rfl rfl rfl rfl rfl ?_
    refine X.mv rfl rfl rfl rfl rfl ?_
    refine X.call rfl rfl rfl rfl rfl Tryd.cl14 (known_ct _ (hT.keep hkk)) ?_
    rintro _ Hx ⟨rfl, hkx⟩
    replace hba := hkx.keep hba (by simp)
    replace hbb := hkx.keep hbb (by simp)
    replace hbn := hkx.keep hbn (by simp)
    replace hkk := hkk.trans hkx (by simp)
    clear hkx
    refine ⟨⟨hba, hbb, hbn⟩, ?_⟩
    refine X.pickT rfl rfl rfl rfl rfl rfl ?_
    refine X.asg rfl rfl rfl rfl rfl ?_
    refine X.done [(6, _)] ⟨rfl, trivial⟩ ?_
    refine N.then ?_
    refine E.ret ?_
    exact N.retH [_] ⟨_, _, rfl, rfl, rfl⟩ ⟨rfl, hkk⟩
  · refine X.mv rfl rfl rfl rfl rfl ?_
    refine X.skip rfl rfl rfl ?_
    refine X.skip rfl rfl rfl ?_
    refine X.skip rfl rfl rfl ?_
    refine X.pickT rfl rfl rfl rfl rfl rfl ?_
    refine X.eqlBT rfl rfl rfl rfl rfl rfl Tryd.underlying4 (by first | rfl | (rw [hx]; rfl) | simp [hx]) ?_
    refine X.pickT rfl rfl rfl rfl rfl rfl ?_
    refine X.mv rfl rfl rfl rfl rfl ?_
    refine X.ldA rfl rfl rfl rfl Tryd.ag24 Tryd.sz24 (fun H' hF => hF.1) (uv4 hw) zoff ?_
    refine X.ldA rfl rfl rfl rfl Tryd.ag24 Tryd.sz24 (fun H' hF => hF.2.1) (uv4 hv) zoff ?_
    refine X.mv rfl rfl rfl rfl rfl ?_
    refine X.ldA rfl rfl rfl rfl Tryd.ag24 Tryd.sz24 (fun H' hF => hF.1) (uv4 hw) zoff ?_
    refine X.mv rfl rfl rfl rfl rfl ?_
    refine X.call rfl rfl rfl rfl rfl Tryd.cl23 (and_ct ws vs _ hw hv) ?_
    rintro _ Hx ⟨rfl, hkx⟩
    replace hba := hkx.keep hba (by simp)
    replace hbb := hkx.keep hbb (by simp)
    replace hbn := hkx.keep hbn (by simp)
    replace hkk := hkk.trans hkx (by simp)
    clear hkx
    refine ⟨⟨hba, hbb, hbn⟩, ?_⟩
    refine X.call rfl rfl rfl rfl rfl Tryd.cl8 (has_bt _ c _ (hw.and hv) hc8) ?_
    rintro _ Hx ⟨rfl, hkx⟩
    replace hba := hkx.keep hba (by simp)
    replace hbb := hkx.keep hbb (by simp)
    replace hbn := hkx.keep hbn (by simp)
    replace hkk := hkk.trans hkx (by simp)
    clear hkx
    rw [bt_and ws vs hc9]
    refine ⟨⟨hba, hbb, hbn⟩, ?_⟩
    refine X.call rfl rfl rfl rfl rfl Tryd.cl8 (has_bt ws c _ hw hc8) ?_
    rintro _ Hx ⟨rfl, hkx⟩
    replace hba := hkx.keep hba (by simp)
    replace hbb := hkx.keep hbb (by simp)
    replace hbn := hkx.keep hbn (by simp)
    replace hkk := hkk.trans hkx (by simp)
    clear hkx
    rw [hx]
    refine ⟨⟨hba, hbb, hbn⟩, ?_⟩
    refine X.mv rfl rfl rfl rfl rfl ?_
    refine X.ldA rfl rfl rfl rfl Tryd.ag24 Tryd.sz24 (fun H' hF => hF.2.1) (uv4 hv) zoff ?_
    refine X.mv rfl rfl rfl rfl rfl ?_
    refine X.call rfl rfl rfl rfl rfl Tryd.cl8 (has_bt vs c _ hv hc8) ?_
    rintro _ Hx ⟨rfl, hkx⟩
    replace hba := hkx.keep hba (by simp)
    replace hbb := hkx.keep hbb (by simp)
    replace hbn := hkx.keep hbn (by simp)
    replace hkk := hkk.trans hkx (by simp)
    clear hkx
    refine ⟨⟨hba, hbb, hbn⟩, ?_⟩
    refine X.pickT rfl rfl rfl rfl rfl rfl ?_
    refine X.eqlBT rfl rfl rfl rfl rfl rfl Tryd.underlying4 (by first | rfl | (rw [hx]; rfl) | simp [hx]) ?_
    refine X.pickT rfl rfl rfl rfl rfl rfl ?_
    refine X.mv rfl rfl rfl rfl rfl ?_
    refine X.ldA rfl rfl rfl rfl Tryd.ag24 Tryd.sz24 (fun H' hF => hF.1) (uv4 hw) zoff ?_
    refine X.ldA rfl rfl rfl rfl Tryd.ag24 Tryd.sz24 (fun H' hF => hF.2.2) (uv4 hw.not) zoff ?_
    refine X.call rfl rfl rfl rfl rfl Tryd.cl11 (count_ct ws _ hw) ?_
    rintro _ Hx ⟨rfl, hkx⟩
    replace hba := hkx.keep hba (by simp)
    replace hbb := hkx.keep hbb (by simp)
    replace hbn := hkx.keep hbn (by simp)
    replace hkk := hkk.trans hkx (by simp)
    clear hkx
    refine ⟨⟨hba, hbb, hbn⟩, ?_⟩
    refine X.call rfl rfl rfl rfl rfl Tryd.cl11 (count_ct _ _ hw.not) ?_
    rintro _ Hx ⟨rfl, hkx⟩
    replace hba := hkx.keep hba (by simp)
    replace hbb := hkx.keep hbb (by simp)
    replace hbn := hkx.keep hbn (by simp)
    replace hkk := hkk.trans hkx (by simp)
    clear hkx
    refine ⟨⟨hba, hbb, hbn⟩, ?_⟩
    refine X.addE (zz := (256 : Int)) rfl rfl rfl rfl rfl rfl (by rw [IntWalk.i64_in _ (by omega)] <;> omega) ?_
    refine X.eqlT rfl rfl rfl rfl rfl rfl (rfl) ?_
    refine X.pickT rfl rfl rfl rfl rfl rfl ?_
    refine X.mv rfl rfl rfl rfl rfl ?_
    refine X.ldA rfl rfl rfl rfl Tryd.ag24 Tryd.sz24 (fun H' hF => hF.1) (uv4 hw) zoff ?_
    refine X.ldA rfl rfl rfl rfl Tryd.ag24 Tryd.sz24 (fun H' hF => hF.1) (uv4 hw) zoff ?_
    refine X.call rfl rfl rfl rfl rfl Tryd.cl7 (bytes_ct ws _ hw (hT.keep hkk)) ?_
    rintro _ Hx ⟨rfl, hkx⟩
    replace hba := hkx.keep hba (by simp)
    replace hbb := hkx.keep hbb (by simp)
    replace hbn := hkx.keep hbn (by simp)
    replace hkk := hkk.trans hkx (by simp)
    clear hkx
    refine ⟨⟨hba, hbb, hbn⟩, ?_⟩
    refine X.call rfl rfl rfl rfl rfl Tryd.cl16 (of_ct _ _ (by have := els_len ws; rw [bts_len]; omega)) ?_
    rintro _ Hx ⟨rfl, hkx⟩
    replace hba := hkx.keep hba (by simp)
    replace hbb := hkx.keep hbb (by simp)
    replace hbn := hkx.keep hbn (by simp)
    replace hkk := hkk.trans hkx (by simp)
    clear hkx
    refine ⟨⟨hba, hbb, hbn⟩, ?_⟩
    refine X.eqlWT rfl rfl rfl rfl rfl rfl Tryd.underlying24 Tryd.underlying22 Tryd.ag22 Tryd.sz22 (by kernel_rfl) ((ws_of _).len) (hw.len) (by rw [nb_bts els_lt, ofL_els hw]) ?_
    refine X.pickT rfl rfl rfl rfl rfl rfl ?_
    refine X.mv rfl rfl rfl rfl rfl ?_
    refine X.call rfl rfl rfl rfl rfl Tryd.cl14 (known_ct _ (hT.keep hkk)) ?_
    rintro _ Hx ⟨rfl, hkx⟩
    replace hba := hkx.keep hba (by simp)
    replace hbb := hkx.keep hbb (by simp)
    replace hbn := hkx.keep hbn (by simp)
    replace hkk := hkk.trans hkx (by simp)
    clear hkx
    refine ⟨⟨hba, hbb, hbn⟩, ?_⟩
    refine X.pickT rfl rfl rfl rfl rfl rfl ?_
    refine X.asg rfl rfl rfl rfl rfl ?_
    refine X.done [(6, _)] ⟨rfl, trivial⟩ ?_
    refine N.then ?_
    refine E.ret ?_
    exact N.retH [_] ⟨_, _, rfl, rfl, rfl⟩ ⟨rfl, hkk⟩

theorem makes_ct (s : Bs) (a b : Nat) (ws vs : List Nat) (H : Heap) (hT : Tab H) (ha : a ≤ 255) (hb : b ≤ 255) (hw : Ws ws) (hv : Ws vs) : Ct Tryd.prog 5 #[str s, .agg ([.int .u8 (a : Int), .int .u8 (b : Int)] : List Value).toArray, .agg (uv (ws ++ vs)).toArray] H fun v H' => v = .bool true ∧ Kp [] H H' := by
  have hkk : Kp [] H H := Kp.refl _ _
  refine Ct.into 63 Tryd.func5 rfl [(0, str s), (1, .agg ([.int .u8 (a : Int), .int .u8 (b : Int)] : List Value).toArray), (2, .agg (uv (ws ++ vs)).toArray)] rfl ⟨rfl, rfl, rfl, trivial⟩ ?_
  refine E.seq ?_
  refine E.region ?_
  refine X.box rfl rfl rfl rfl rfl rfl ?_
  intro be H1 hnbe hbe hkbe
  have hnnbe : H.size ≤ be := Nat.le_trans hkk.size hnbe
  replace hkk := hkk.trans hkbe (by simp)
  refine X.box rfl rfl rfl rfl rfl rfl ?_
  intro bl H2 hnbl hbl hkbl
  have hnebebl : be ≠ bl := by have := lt_of hbe; omega
  replace hbe := hkbl.keep hbe (by simp)
  have hnnbl : H.size ≤ bl := Nat.le_trans hkk.size hnbl
  replace hkk := hkk.trans hkbl (by simp)
  refine X.asg rfl rfl rfl rfl rfl ?_
  refine X.done [(0, _), (4, _), (5, _), (6, _)] ⟨rfl, rfl, rfl, rfl, trivial⟩ ?_
  refine N.then ?_
  refine E.seq ?_
  refine E.region ?_
  refine X.ixP rfl rfl rfl rfl rfl rfl Tryd.underlying32 Tryd.sz24 (by decide) ?_
  refine X.ldA (vs := uv ws) rfl rfl rfl rfl Tryd.ag24 Tryd.sz24 hbl (uv4 hw) (lo_off hw) ?_
  refine X.alloc (z := .agg ([.int .u64 0, .int .u64 0, .int .u64 0, .int .u64 0] : List Value).toArray) (cs := [.int .u64 0, .int .u64 0, .int .u64 0, .int .u64 0]) rfl rfl rfl rfl (by kernel_rfl) rfl ?_
  intro ba H3 hnba hba hkba
  have hnebeba : be ≠ ba := by have := lt_of hbe; omega
  replace hbe := hkba.keep hbe (by simp)
  have hneblba : bl ≠ ba := by have := lt_of hbl; omega
  replace hbl := hkba.keep hbl (by simp)
  have hnnba : H.size ≤ ba := Nat.le_trans hkk.size hnba
  replace hkk := hkk.trans hkba (by simp)
  refine X.stA rfl rfl rfl rfl rfl rfl (uv_one _) (sz24w hw) hba (by rw [uv4 hw]; decide) ?_
  intro Hs hs4 hks
  rw [splice_all (by rw [uv4 hw]; rfl)] at hs4
  replace hba := hs4
  replace hbe := hks.keep hbe (by simp; exact hnebeba)
  replace hbl := hks.keep hbl (by simp; exact hneblba)
  replace hkk := hkk.trans hks (by simp; exact hnnba)
  refine X.done [(0, _), (4, _), (5, _), (6, _), (7, _)] ⟨rfl, rfl, rfl, rfl, rfl, trivial⟩ ?_
  refine N.then ?_
  refine E.seq ?_
  refine E.region ?_
  refine X.ixP rfl rfl rfl rfl rfl rfl Tryd.underlying32 Tryd.sz24 (by decide) ?_
  refine X.ldA (vs := uv vs) rfl rfl rfl rfl Tryd.ag24 Tryd.sz24 hbl (uv4 hv) (hi_off hw) ?_
  refine X.alloc (z := .agg ([.int .u64 0, .int .u64 0, .int .u64 0, .int .u64 0] : List Value).toArray) (cs := [.int .u64 0, .int .u64 0, .int .u64 0, .int .u64 0]) rfl rfl rfl rfl (by kernel_rfl) rfl ?_
  intro bb H4 hnbb hbb hkbb
  have hnebebb : be ≠ bb := by have := lt_of hbe; omega
  replace hbe := hkbb.keep hbe (by simp)
  have hneblbb : bl ≠ bb := by have := lt_of hbl; omega
  replace hbl := hkbb.keep hbl (by simp)
  have hnebabb : ba ≠ bb := by have := lt_of hba; omega
  replace hba := hkbb.keep hba (by simp)
  have hnnbb : H.size ≤ bb := Nat.le_trans hkk.size hnbb
  replace hkk := hkk.trans hkbb (by simp)
  refine X.stA rfl rfl rfl rfl rfl rfl (uv_one _) (sz24w hv) hbb (by rw [uv4 hv]; decide) ?_
  intro Hs hs4 hks
  rw [splice_all (by rw [uv4 hv]; rfl)] at hs4
  replace hbb := hs4
  replace hbe := hks.keep hbe (by simp; exact hnebebb)
  replace hbl := hks.keep hbl (by simp; exact hneblbb)
  replace hba := hks.keep hba (by simp; exact hnebabb)
  replace hkk := hkk.trans hks (by simp; exact hnnbb)
  refine X.done [(0, _), (4, _), (6, _), (7, _), (8, _)] ⟨rfl, rfl, rfl, rfl, rfl, trivial⟩ ?_
  refine N.then ?_
  refine E.seq ?_
  refine E.seq ?_
  refine E.region ?_
  refine X.mv rfl rfl rfl rfl rfl ?_
  refine X.lenL rfl rfl rfl rfl rfl Tryd.underlying9 ?_
  refine X.gtr rfl rfl rfl rfl rfl rfl ?_
  refine X.done [(0, _), (4, _), (6, _), (7, _), (8, _), (15, _)] ⟨rfl, rfl, rfl, rfl, rfl, rfl, trivial⟩ ?_
  refine N.then ?_
  refine E.condD rfl (fun hc => ?_) (fun hc => ?_)
  · refine E.seq ?_
    refine E.region ?_
    refine X.call rfl rfl rfl rfl rfl Tryd.cl14 (known_ct _ (hT.keep hkk)) ?_
    rintro _ Hx ⟨rfl, hkx⟩
    replace hbe := hkx.keep hbe (by simp)
    replace hbl := hkx.keep hbl (by simp)
    replace hba := hkx.keep hba (by simp)
    replace hbb := hkx.keep hbb (by simp)
    replace hkk := hkk.trans hkx (by simp)
    clear hkx
    refine X.asg rfl rfl rfl rfl rfl ?_
    refine X.done [(0, _), (4, _), (6, _), (7, _), (8, _)] ⟨rfl, rfl, rfl, rfl, rfl, trivial⟩ ?_
    refine N.then ?_
    refine E.ret ?_
    refine N.thenR ?_
    exact N.retH [_] ⟨_, _, rfl, rfl, rfl⟩ ⟨rfl, hkk⟩
  · refine E.skip ?_
    refine N.then ?_
    refine E.seq ?_
    refine E.regionD (fun H' => H'[be]? = some (.cells ([.int .u8 (a : Int), .int .u8 (b : Int)] : List Value).toArray 31 (0, 0)) ∧ H'[ba]? = some (.cells (uv ws).toArray 24 (0, 0)) ∧ H'[bb]? = some (.cells (uv vs).toArray 24 (0, 0))) [(0, .pu), (2, .pu), (1, .mk), (3, .mk), (4, .pu), (5, .pu), (6, .pu), (7, .st), (8, .pu), (9, .st), (11, .pu), (12, .st), (13, .pu), (14, .st), (10, .mk), (15, .mk), (16, .pu), (17, .pu), (18, .pu), (19, .st), (21, .st), (20, .mk), (22, .mk), (23, .pu), (24, .pu), (25, .pu), (26, .st), (27, .st), (29, .st), (30, .st), (28, .mk), (31, .mk), (32, .pu), (33, .pu), (34, .pu), (35, .st), (36, .st), (38, .st), (39, .st), (37, .mk), (40, .mk), (41, .pu), (42, .pu), (43, .pu), (44, .mk), (45, .pu), (46, .pu)] Tryd.mixed (by kernel_rfl) (⟨hbe, hba, hbb⟩) ?_
    refine X.mv rfl rfl rfl rfl rfl ?_
    refine X.mv rfl rfl rfl rfl rfl ?_
    refine X.call rfl rfl rfl rfl rfl Tryd.cl16 (of_ct s _ (by omega)) ?_
    rintro _ Hx ⟨rfl, hkx⟩
    replace hbe := hkx.keep hbe (by simp)
    replace hbl := hkx.keep hbl (by simp)
    replace hba := hkx.keep hba (by simp)
    replace hbb := hkx.keep hbb (by simp)
    replace hkk := hkk.trans hkx (by simp)
    clear hkx
    refine ⟨⟨hbe, hba, hbb⟩, ?_⟩
    refine X.call rfl rfl rfl rfl rfl Tryd.cl17 (rof_ct s _ (by omega)) ?_
    rintro _ Hx ⟨rfl, hkx⟩
    replace hbe := hkx.keep hbe (by simp)
    replace hbl := hkx.keep hbl (by simp)
    replace hba := hkx.keep hba (by simp)
    replace hbb := hkx.keep hbb (by simp)
    replace hkk := hkk.trans hkx (by simp)
    clear hkx
    refine ⟨⟨hbe, hba, hbb⟩, ?_⟩
    refine X.eqlWT rfl rfl rfl rfl rfl rfl Tryd.underlying24 Tryd.underlying22 Tryd.ag22 Tryd.sz22 (by kernel_rfl) ((ws_of s).len) ((ws_of s).len) (rfl) ?_
    refine X.mv rfl rfl rfl rfl rfl ?_
    refine X.ixP rfl rfl rfl rfl rfl rfl Tryd.underlying31 Tryd.sz5 (by decide) ?_
    refine X.ld rfl rfl rfl rfl Tryd.ag5 (fun H' hF => hF.1) (rfl) ?_
    refine X.ixP rfl rfl rfl rfl rfl rfl Tryd.underlying31 Tryd.sz5 (by decide) ?_
    refine X.ld rfl rfl rfl rfl Tryd.ag5 (fun H' hF => hF.1) (rfl) ?_
    refine X.ixP rfl rfl rfl rfl rfl rfl Tryd.underlying31 Tryd.sz5 (by decide) ?_
    refine X.ld rfl rfl rfl rfl Tryd.ag5 (fun H' hF => hF.1) (rfl) ?_
    refine X.ixP rfl rfl rfl rfl rfl rfl Tryd.underlying31 Tryd.sz5 (by decide) ?_
    refine X.ld rfl rfl rfl rfl Tryd.ag5 (fun H' hF => hF.1) (rfl) ?_
    refine X.call rfl rfl rfl rfl rfl Tryd.cl15 (range_ct a b _ (by omega) (by omega)) ?_
    rintro _ Hx ⟨rfl, hkx⟩
    replace hbe := hkx.keep hbe (by simp)
    replace hbl := hkx.keep hbl (by simp)
    replace hba := hkx.keep hba (by simp)
    replace hbb := hkx.keep hbb (by simp)
    replace hkk := hkk.trans hkx (by simp)
    clear hkx
    refine ⟨⟨hbe, hba, hbb⟩, ?_⟩
    refine X.call rfl rfl rfl rfl rfl Tryd.cl18 (rrange_ct a b _ (by omega) (by omega)) ?_
    rintro _ Hx ⟨rfl, hkx⟩
    replace hbe := hkx.keep hbe (by simp)
    replace hbl := hkx.keep hbl (by simp)
    replace hba := hkx.keep hba (by simp)
    replace hbb := hkx.keep hbb (by simp)
    replace hkk := hkk.trans hkx (by simp)
    clear hkx
    refine ⟨⟨hbe, hba, hbb⟩, ?_⟩
    refine X.eqlWT rfl rfl rfl rfl rfl rfl Tryd.underlying24 Tryd.underlying22 Tryd.ag22 Tryd.sz22 (by kernel_rfl) ((ws_rg a b 256 (by decide)).len) ((ws_rg a b 256 (by decide)).len) (rfl) ?_
    refine X.pickT rfl rfl rfl rfl rfl rfl ?_
    refine X.mv rfl rfl rfl rfl rfl ?_
    refine X.ldA rfl rfl rfl rfl Tryd.ag24 Tryd.sz24 (fun H' hF => hF.2.1) (uv4 hw) zoff ?_
    refine X.ldA rfl rfl rfl rfl Tryd.ag24 Tryd.sz24 (fun H' hF => hF.2.1) (uv4 hw) zoff ?_
    refine X.call rfl rfl rfl rfl rfl Tryd.cl19 (not_ct ws _ hw) ?_
    rintro _ Hx ⟨rfl, hkx⟩
    replace hbe := hkx.keep hbe (by simp)
    replace hbl := hkx.keep hbl (by simp)
    replace hba := hkx.keep hba (by simp)
    replace hbb := hkx.keep hbb (by simp)
    replace hkk := hkk.trans hkx (by simp)
    clear hkx
    refine ⟨⟨hbe, hba, hbb⟩, ?_⟩
    refine X.call rfl rfl rfl rfl rfl Tryd.cl20 (rnot_ct ws _ hw) ?_
    rintro _ Hx ⟨rfl, hkx⟩
    replace hbe := hkx.keep hbe (by simp)
    replace hbl := hkx.keep hbl (by simp)
    replace hba := hkx.keep hba (by simp)
    replace hbb := hkx.keep hbb (by simp)
    replace hkk := hkk.trans hkx (by simp)
    clear hkx
    refine ⟨⟨hbe, hba, hbb⟩, ?_⟩
    refine X.eqlWT rfl rfl rfl rfl rfl rfl Tryd.underlying24 Tryd.underlying22 Tryd.ag22 Tryd.sz22 (by kernel_rfl) (hw.not.len) (hw.not.len) (rfl) ?_
    refine X.pickT rfl rfl rfl rfl rfl rfl ?_
    refine X.mv rfl rfl rfl rfl rfl ?_
    refine X.ldA rfl rfl rfl rfl Tryd.ag24 Tryd.sz24 (fun H' hF => hF.2.1) (uv4 hw) zoff ?_
    refine X.ldA rfl rfl rfl rfl Tryd.ag24 Tryd.sz24 (fun H' hF => hF.2.2) (uv4 hv) zoff ?_
    refine X.ldA rfl rfl rfl rfl Tryd.ag24 Tryd.sz24 (fun H' hF => hF.2.1) (uv4 hw) zoff ?_
    refine X.ldA rfl rfl rfl rfl Tryd.ag24 Tryd.sz24 (fun H' hF => hF.2.2) (uv4 hv) zoff ?_
    refine X.call rfl rfl rfl rfl rfl Tryd.cl21 (or_ct ws vs _ hw hv) ?_
    rintro _ Hx ⟨rfl, hkx⟩
    replace hbe := hkx.keep hbe (by simp)
    replace hbl := hkx.keep hbl (by simp)
    replace hba := hkx.keep hba (by simp)
    replace hbb := hkx.keep hbb (by simp)
    replace hkk := hkk.trans hkx (by simp)
    clear hkx
    refine ⟨⟨hbe, hba, hbb⟩, ?_⟩
    refine X.call rfl rfl rfl rfl rfl Tryd.cl22 (ror_ct ws vs _ hw hv) ?_
    rintro _ Hx ⟨rfl, hkx⟩
    replace hbe := hkx.keep hbe (by simp)
    replace hbl := hkx.keep hbl (by simp)
    replace hba := hkx.keep hba (by simp)
    replace hbb := hkx.keep hbb (by simp)
    replace hkk := hkk.trans hkx (by simp)
    clear hkx
    refine ⟨⟨hbe, hba, hbb⟩, ?_⟩
    refine X.eqlWT rfl rfl rfl rfl rfl rfl Tryd.underlying24 Tryd.underlying22 Tryd.ag22 Tryd.sz22 (by kernel_rfl) ((hw.or hv).len) ((hw.or hv).len) (rfl) ?_
    refine X.pickT rfl rfl rfl rfl rfl rfl ?_
    refine X.mv rfl rfl rfl rfl rfl ?_
    refine X.ldA rfl rfl rfl rfl Tryd.ag24 Tryd.sz24 (fun H' hF => hF.2.1) (uv4 hw) zoff ?_
    refine X.ldA rfl rfl rfl rfl Tryd.ag24 Tryd.sz24 (fun H' hF => hF.2.2) (uv4 hv) zoff ?_
    refine X.ldA rfl rfl rfl rfl Tryd.ag24 Tryd.sz24 (fun H' hF => hF.2.1) (uv4 hw) zoff ?_
    refine X.ldA rfl rfl rfl rfl Tryd.ag24 Tryd.sz24 (fun H' hF => hF.2.2) (uv4 hv) zoff ?_
    refine X.call rfl rfl rfl rfl rfl Tryd.cl23 (and_ct ws vs _ hw hv) ?_
    rintro _ Hx ⟨rfl, hkx⟩
    replace hbe := hkx.keep hbe (by simp)
    replace hbl := hkx.keep hbl (by simp)
    replace hba := hkx.keep hba (by simp)
    replace hbb := hkx.keep hbb (by simp)
    replace hkk := hkk.trans hkx (by simp)
    clear hkx
    refine ⟨⟨hbe, hba, hbb⟩, ?_⟩
    refine X.call rfl rfl rfl rfl rfl Tryd.cl24 (rand_ct ws vs _ hw hv) ?_
    rintro _ Hx ⟨rfl, hkx⟩
    replace hbe := hkx.keep hbe (by simp)
    replace hbl := hkx.keep hbl (by simp)
    replace hba := hkx.keep hba (by simp)
    replace hbb := hkx.keep hbb (by simp)
    replace hkk := hkk.trans hkx (by simp)
    clear hkx
    refine ⟨⟨hbe, hba, hbb⟩, ?_⟩
    refine X.eqlWT rfl rfl rfl rfl rfl rfl Tryd.underlying24 Tryd.underlying22 Tryd.ag22 Tryd.sz22 (by kernel_rfl) ((hw.and hv).len) ((hw.and hv).len) (rfl) ?_
    refine X.pickT rfl rfl rfl rfl rfl rfl ?_
    refine X.mv rfl rfl rfl rfl rfl ?_
    refine X.call rfl rfl rfl rfl rfl Tryd.cl14 (known_ct _ (hT.keep hkk)) ?_
    rintro _ Hx ⟨rfl, hkx⟩
    replace hbe := hkx.keep hbe (by simp)
    replace hbl := hkx.keep hbl (by simp)
    replace hba := hkx.keep hba (by simp)
    replace hbb := hkx.keep hbb (by simp)
    replace hkk := hkk.trans hkx (by simp)
    clear hkx
    refine ⟨⟨hbe, hba, hbb⟩, ?_⟩
    refine X.pickT rfl rfl rfl rfl rfl rfl ?_
    refine X.asg rfl rfl rfl rfl rfl ?_
    refine X.done [(6, _)] ⟨rfl, trivial⟩ ?_
    refine N.then ?_
    refine E.ret ?_
    exact N.retH [_] ⟨_, _, rfl, rfl, rfl⟩ ⟨rfl, hkk⟩

end Go.Proofs.YtgdicncflgffnaaDoor