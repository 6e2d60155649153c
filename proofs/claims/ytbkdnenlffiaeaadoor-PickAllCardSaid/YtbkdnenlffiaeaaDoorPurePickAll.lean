/-
The plain statement of PickAll.
-/
import Derived.Test.YtbkdnenlffiaeaaDoorPickC
import Derived.Test.YtbkdnenlffiaeaaDoorPx6
namespace Go.Proofs.YtbkdnenlffiaeaaDoor.Pure
open Go.RowKit Go.Proofs.YtbkdnenlffiaeaaDoor.P Go.Proofs.YtbkdnenlffiaeaaDoorW.PrintWords Go.Proofs.YtbkdnenlffiaeaaDoorW.PrintLast
theorem PickAll : warplaw2_PickAll.Pure := by
  intro L at_ last en _ _ _ _
  refine Ev.rounds ?_
  have hT : Ev (fun k => warplaw2_PickAll.j0 k en true L at_ last) true := Ev.step (fun k => by rw [warplaw2_PickAll.j0, if_pos rfl]) awake_some
  by_cases c1 : (L.length : Int) > 100
  · exact Ev.congr (fun k => by unfold warplaw2_PickAll.f; rw [if_pos c1]) hT
  · by_cases c2 : (en.length : Int) > 100
    · exact Ev.congr (fun k => by unfold warplaw2_PickAll.f; rw [if_neg c1, decide_eq_true c2]) hT
    · refine Ev.congr (f := fun k => warplaw2_PickAll.j0 k en false L at_ last) (fun k => by unfold warplaw2_PickAll.f; rw [if_neg c1, decide_eq_false c2]) ?_
      refine Ev.step (fun k => by rw [warplaw2_PickAll.j0, if_neg (by simp)]) ?_
      refine Ev.bind (f := fun k bt176 => _) (next_ev L at_ last en (by omega) (by omega)) ?_
      refine Ev.bind (f := fun k bt183 => _) (pick_ev L at_ last en (by omega) (by omega)) ?_
      rw [start_f L (by omega)]
      simp only [Option.bind_some, nextS, warpref1_Start.f, if_true]
      refine Ev.bind (f := fun k t196 => _) (same_ev _ _ _ (by omega)) ?_
      simp only [if_true]
      refine Ev.bind (f := fun k t202 => _) (same_ev _ _ _ (by omega)) ?_
      simp only [if_true]
      exact awake_some
end Go.Proofs.YtbkdnenlffiaeaaDoor.Pure
