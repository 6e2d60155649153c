/-
The plain statement of PickRuns.
-/
import Derived.Test.YtbkdnenlffiaeaaDoorPickC
import Derived.Test.YtbkdnenlffiaeaaDoorPx7
namespace Go.Proofs.YtbkdnenlffiaeaaDoor.Pure
open Go.RowKit Go.Proofs.YtbkdnenlffiaeaaDoor.P Go.Proofs.YtbkdnenlffiaeaaDoor.Bits Go.Proofs.YtbkdnenlffiaeaaDoorW.PrintWords Go.Proofs.YtbkdnenlffiaeaaDoorW.PrintLast
theorem runs_l0 (L : List Int) (hL : L.length ≤ 60) (E : List (List Bool)) (hE : E.length ≤ 80) : ∀ (d i : Nat) (at_ last : Int), i + d = E.length → Ev (fun k => warplaw2_PickRuns.l0 k E (i : Int) L at_ last L at_ last) true
  | 0, i, at_, last, h => by
    refine Ev.step (fun k => ?_) awake_some
    rw [warplaw2_PickRuns.l0, if_neg (by omega)]
  | d + 1, i, at_, last, h => by
    refine Ev.step (fun k => by rw [warplaw2_PickRuns.l0, if_pos (by omega), if_pos (by omega)]) ?_
    generalize rd_L3 E (i : Int) = en
    by_cases c : (en.length : Int) > 70
    · exact Ev.congr (fun k => if_pos c) awake_some
    · refine Ev.congr (g := fun k => _) (f := fun k => _) (fun k => if_neg c) ?_
      refine Ev.bind (f := fun k bt220 => _) (next_ev L at_ last en (by omega) (by omega)) ?_
      refine Ev.bind (f := fun k bt228 => _) (pick_ev L at_ last en (by omega) (by omega)) ?_
      simp only [nextS, if_true]
      refine Ev.bind (f := fun k t235 => _) (same_ev _ _ _ (by omega)) ?_
      simp only [if_true]
      have ih := runs_l0 L hL E hE d (i + 1) (atS L at_ (idx en)) (lastS L at_ last (idx en)) (by omega)
      have hj : Ev (fun k => warplaw2_PickRuns.j2 k E (i : Int) false L (atS L at_ (idx en)) (lastS L at_ last (idx en)) (whoS L at_ last (idx en)) L (atS L at_ (idx en)) (lastS L at_ last (idx en))) true := by
        refine Ev.step (fun k => ?_) ih
        rw [warplaw2_PickRuns.j2, if_neg (by simp), wr64 (by omega) (by omega)]
        rfl
      refine Ev.congr (fun k => ?_) hj
      by_cases h0 : idx en = []
      · have hw : whoS L at_ last (idx en) = -1 := by unfold whoS; rw [if_pos h0]
        exact if_neg (by rw [hw]; omega)
      · obtain ⟨h1, h2⟩ := idx_mem en _ (placeS_lt L at_ last (idx en) h0)
        have hw : whoS L at_ last (idx en) = (((idx en).getD (placeS L at_ last (idx en)) 0 : Nat) : Int) := by unfold whoS; rw [if_neg h0]
        refine (if_pos (by omega)).trans ((if_neg (by omega)).trans ((if_pos (by omega)).trans ((if_pos (by omega)).trans ?_)))
        have : rdOf false en (whoS L at_ last (idx en)) = true := by rw [hw]; simpa [rdOf] using h2
        rw [this]
        rfl
theorem PickRuns : warplaw2_PickRuns.Pure := by
  intro L E _ _
  refine Ev.rounds ?_
  have hT : Ev (fun k => warplaw2_PickRuns.j0 k L E true) true := Ev.step (fun k => by rw [warplaw2_PickRuns.j0, if_pos rfl]) awake_some
  by_cases c1 : (L.length : Int) > 60
  · exact Ev.congr (fun k => by unfold warplaw2_PickRuns.f; rw [if_pos c1]) hT
  · by_cases c2 : (E.length : Int) > 80
    · exact Ev.congr (fun k => by unfold warplaw2_PickRuns.f; rw [if_neg c1, decide_eq_true c2]) hT
    · refine Ev.congr (f := fun k => warplaw2_PickRuns.j0 k L E false) (fun k => by unfold warplaw2_PickRuns.f; rw [if_neg c1, decide_eq_false c2]) ?_
      refine Ev.step (fun k => by rw [warplaw2_PickRuns.j0, if_neg (by simp), start_f L (by omega)]) ?_
      simp only [Option.bind_some, warpref1_Start.f]
      exact runs_l0 L (by omega) E (by omega) E.length 0 0 (-1) (by omega)
end Go.Proofs.YtbkdnenlffiaeaaDoor.Pure
