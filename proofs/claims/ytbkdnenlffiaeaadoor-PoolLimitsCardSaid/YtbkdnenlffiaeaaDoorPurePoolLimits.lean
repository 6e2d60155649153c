/-
The plain statement of PoolLimits.
-/
import Derived.Test.YtbkdnenlffiaeaaDoorPoolR
import Derived.Test.YtbkdnenlffiaeaaDoorPx17
namespace Go.Proofs.YtbkdnenlffiaeaaDoor.Pure
open Go.RowKit Go.Proofs.YtbkdnenlffiaeaaDoor Go.Proofs.YtbkdnenlffiaeaaDoor.P Go.Proofs.YtbkdnenlffiaeaaDoorW.PrintWords Go.Proofs.YtbkdnenlffiaeaaDoorW.PrintLast
theorem limits_j1 (x1 x5 : Int) (h0 : 0 ≤ x5) (h6 : x5 < 6000) : Ev (fun k => warplaw24_PoolLimits.j1 k x1 x5) true := by
  have hlen : sumL [List.replicate x5.toNat 0] = x5.toNat := by simp [sumL]
  have hall : allS 0 [List.replicate x5.toNat 0] = x5 := by
    have := allS_eq [List.replicate x5.toNat 0] 0 (fun x hx => by rw [List.mem_singleton] at hx; subst hx; simp; omega) (by simp)
    rw [hlen] at this
    refine Eq.trans this ?_
    omega
  by_cases c : x5 > 4096 ∨ x1 < 1 ∨ x1 > 64
  · have hp : pool_Play.f [List.replicate x5.toNat 0] x1 [] = some ([], 0) := by
      unfold pool_Play.f playF
      rw [hall, if_pos (by omega)]
    refine Ev.step (f := fun k => warplaw24_PoolLimits.j2 k x5 [] 0 true) (fun k => ?_) (Ev.step (f := fun _ => some true) (fun k => ?_) (Ev.now _))
    · rw [warplaw24_PoolLimits.j1, if_pos h0, if_pos (by omega), hp]
      show (if x5 > 4096 then _ else _) = _
      by_cases c1 : x5 > 4096
      · rw [if_pos c1]
      · rw [if_neg c1]
        by_cases c2 : x1 < 1
        · rw [if_pos c2]
        · rw [if_neg c2, decide_eq_true (by omega)]
    · rw [warplaw24_PoolLimits.j2, if_pos rfl, if_pos (show (((([] : List S54).length : Nat)) : Int) = 0 from rfl), if_pos rfl]
      exact awake24_some k
  · obtain ⟨n, rfl⟩ : ∃ n : Nat, x1 = (n : Int) := ⟨x1.toNat, by omega⟩
    obtain ⟨l', S', busy', T', hp, hO, hl, _⟩ := play_whole [List.replicate x5.toNat 0] n [] (by omega) (by omega) (by omega) (fun x hx => by rw [List.mem_singleton] at hx; subst hx; simp; omega) (by simp) (Nat.zero_le _) (fun _ _ _ _ _ => True) trivial (fun _ _ _ _ _ _ _ _ _ _ _ _ _ _ => trivial) (fun _ _ _ _ _ _ _ _ _ _ _ _ _ => trivial)
    rw [hlen] at hp hO
    have hlen2 : l'.length = x5.toNat := by
      obtain ⟨_, o2, o3, o4, _⟩ := hO
      have := o3 hl
      rw [this] at o4
      simp [sumL] at o4
      rw [hl] at o2
      omega
    refine Ev.step (f := fun k => warplaw24_PoolLimits.j2 k x5 l' (2 * (x5.toNat : Int)) false) (fun k => ?_) (Ev.step (f := fun _ => some true) (fun k => ?_) (Ev.now _))
    · rw [warplaw24_PoolLimits.j1, if_pos h0, if_pos (by omega), hp]
      show (if x5 > 4096 then _ else _) = _
      rw [if_neg (by omega), if_neg (by omega), decide_eq_false (by omega)]
    · rw [warplaw24_PoolLimits.j2, if_neg (by simp), if_pos (by omega), if_pos (by rw [wr64 (by omega) (by omega)]; omega)]
      exact awake24_some k
theorem PoolLimits : warplaw24_PoolLimits.Pure := by
  intro a0 a1 h0 _
  refine Ev.rounds ?_
  have hw : 0 ≤ a0 ∧ a0 ≤ 65535 := by
    simp [Lit.wf, IntKind.min, IntKind.max, IntKind.bits, IntKind.signed] at h0
    omega
  have e : Int.tmod (wrap64 a0) 6000 = a0 % 6000 := by
    rw [wr64 (by omega) (by omega), Int.tmod_eq_emod_of_nonneg hw.1]
  have m1 := Int.emod_nonneg a0 (b := 6000) (by omega)
  have m2 := Int.emod_lt_of_pos a0 (b := 6000) (by omega)
  generalize hx : a0 % 6000 = x at *
  by_cases c : x > 30
  · by_cases c2 : x ≤ 4096
    · refine Ev.congr (fun k => by unfold warplaw24_PoolLimits.f; rw [e, if_pos c, decide_eq_true c2]) ?_
      refine Ev.step (fun k => by rw [warplaw24_PoolLimits.j0, if_pos rfl]) ?_
      exact limits_j1 a1 30 (by omega) (by omega)
    · refine Ev.congr (fun k => by unfold warplaw24_PoolLimits.f; rw [e, if_pos c, decide_eq_false c2]) ?_
      refine Ev.step (fun k => by rw [warplaw24_PoolLimits.j0, if_neg (by simp)]) ?_
      exact limits_j1 a1 x (by omega) (by omega)
  · refine Ev.congr (fun k => by unfold warplaw24_PoolLimits.f; rw [e, if_neg c]) ?_
    refine Ev.step (fun k => by rw [warplaw24_PoolLimits.j0, if_neg (by simp)]) ?_
    exact limits_j1 a1 x (by omega) (by omega)
end Go.Proofs.YtbkdnenlffiaeaaDoor.Pure
