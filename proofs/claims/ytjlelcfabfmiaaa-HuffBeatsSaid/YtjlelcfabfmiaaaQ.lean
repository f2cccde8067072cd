/- 'copy' into a slice that lies anywhere in a row. -/
import Derived.Test.YtjlelcfabfmiaaaW3
namespace Go.Proofs.Ytjlelcfabfmiaaa
open Go.SX
set_option linter.unusedVariables false
section
variable {P : Program} {n : Nat} {l : List Oper} {F : Heap → Prop} {K : Act → Heap → Prop} {r : List (Nat × Kd)} {env : Env} {H : Heap} {i : Nat} {k : Kd}
variable {d : Option Tmp} {ty : TypeId} {pos : String} {aft : Array Edge} {g : Option (Nat × Bool)} {x y z : Operand} {t t' : TypeId}
theorem X.cpyO {e tx : TypeId} {b o m c : Nat} {xv : Value} {cs news : List Value} (ht : P.underlying t = some (.slice e)) (hsz : (P.info? e).map (·.size) = some 1)
    (ho : nth l i = some ⟨d, .call ⟨.builtin .copy, #[x, y], #[t, tx]⟩, ty, pos, aft, g⟩) (hw : wantE l env ⟨d, .call ⟨.builtin .copy, #[x, y], #[t, tx]⟩, ty, pos, aft, g⟩ = some true) (hd : dOK n d = true) (hk : isM k = true)
    (hx : opv env x = some (.slice (some ⟨b, o, none⟩) m c)) (hy : opv env y = some xv) (hrow : H[b]? = some (.cells cs.toArray e (0, 0))) (hfit : o + m ≤ cs.length) (hm : 0 < m) (hsrc : Rd H 1 xv m news) (h1 : ∀ u ∈ news, u.oneCell' = true)
    (h : ∀ H', H'[b]? = some (.cells (cs.take o ++ news ++ cs.drop (o + m)).toArray e (0, 0)) → Kp [b] H H' → NxH k F H' (X P n l F K r (setd d (.int .i64 (m : Nat)) env) H')) : X P n l F K ((i, k) :: r) env H := by
  refine X.move' (Φ := fun v' H' => v' = .int .i64 (m : Nat) ∧ H'[b]? = some (.cells (cs.take o ++ news ++ cs.drop (o + m)).toArray e (0, 0)) ∧ Kp [b] H H') ho hw hd hk (fun ρ w hρ hH => ?_) (fun v' H' ⟨hv, h2, h3⟩ => by subst hv; exact h H' h2 h3)
  subst hH
  have hex : ∀ (v' : Value) (w' : World), (Builtin.copy_ #[t, tx] ty #[.slice (some ⟨b, o, none⟩) m c, xv]).run P w = .ok v' w' → (execOp ρ ⟨d, .call ⟨.builtin .copy, #[x, y], #[t, tx]⟩, ty, pos, aft, g⟩).run P w = .ok (.value v') w' := fun v' w' hr => by
    simp [execOp, resolve, invoke, builtin, hρ _ _ hx, hρ _ _ hy, hr]
  obtain ⟨hnl, a, c', rfl, hr⟩ := hsrc
  simp only [Nat.mul_one] at hnl
  rcases hr with rfl | ⟨b2, o2, cs2, ct2, fz2, rfl, hb2, h3⟩
  · simp at hnl; omega
  · have hlen : news.length = Nat.min m m := by rw [hnl]; show m = min m m; omega
    have hrun := run_copy_row (P := P) w t tx ty e b o m c ⟨b2, o2, none⟩ m c' cs.toArray e news ht hsz hrow hlen
      (fun j u hj => by rw [addr_add, cell_of rfl hb2]; exact h3 j u hj) (by simpa [hnl] using hfit) h1
    refine ⟨_, _, .inl (hex _ _ hrun), ⟨rfl, rfl, rfl⟩, by simp only [goInt, hnl], ?_, kp_setRow w b _⟩
    rw [setRow_heap w b _ _ e _ hrow]
    simp [hnl]
end
end Go.Proofs.Ytjlelcfabfmiaaa
