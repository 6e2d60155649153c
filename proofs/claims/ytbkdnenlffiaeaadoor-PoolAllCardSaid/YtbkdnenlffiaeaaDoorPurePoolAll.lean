/-
The plain statement of PoolAll, where no row is longer than memory allows.
-/
import Derived.Test.YtbkdnenlffiaeaaDoorPoolS
import Derived.Test.YtbkdnenlffiaeaaDoorPx13
namespace Go.Proofs.YtbkdnenlffiaeaaDoor.Pure
open Go.RowKit Go.Proofs.YtbkdnenlffiaeaaDoor Go.Proofs.YtbkdnenlffiaeaaDoor.P Go.Proofs.YtbkdnenlffiaeaaDoorW.PrintWords Go.Proofs.YtbkdnenlffiaeaaDoorW.PrintLast
set_option linter.unusedVariables false
theorem great_l0 (x0 : List (List Int)) : ∀ (d i : Nat) (s : Int), i + d = min x0.length 100 → i ≤ x0.length → ∃ b, Ev (fun k => warplaw24_great.l0 k x0 s (i : Int)) b ∧ (60 < x0.length → b = true)
  | 0, i, s, hi, hle => by
    refine ⟨decide (s > 150 ∨ (x0.length : Int) > 60), ?_, fun h => decide_eq_true (.inr (by omega))⟩
    refine Ev.step (f := fun _ => some (decide (s > 150 ∨ (x0.length : Int) > 60))) (fun k => ?_) (Ev.now _)
    have e : (if s > 150 then some true else some (decide ((x0.length : Int) > 60))) = some (decide (s > 150 ∨ (x0.length : Int) > 60)) := by
      by_cases c : s > 150
      · rw [if_pos c, decide_eq_true (.inl c)]
      · rw [if_neg c]
        congr 1
        apply decide_eq_decide.2
        omega
    rw [warplaw24_great.l0]
    by_cases c : (i : Int) < (x0.length : Int)
    · rw [if_pos c, if_neg (by omega)]
      exact e
    · rw [if_neg c]
      exact e
  | d + 1, i, s, hi, hle => by
    obtain ⟨b, hb, h60⟩ := great_l0 x0 d (i + 1) (wrap64 (s + ((rd_L4 x0 (i : Int)).length : Int))) (by omega) (by omega)
    refine ⟨b, Ev.step (fun k => ?_) hb, h60⟩
    rw [warplaw24_great.l0, if_pos (by omega), if_pos (by omega), if_pos (by omega), wr64 (i := (i : Int) + 1) (by omega) (by omega)]
    rfl
theorem PoolAll (l0 : List (List Int)) (a1 : Int) (l2 : List Int) (hB : ∀ x ∈ l0, x.length ≤ 17592186044416) : ∃ k, warplaw24_PoolAll.f k l0 a1 l2 = some true := by
  refine Ev.rounds ?_
  obtain ⟨b, hb, h60⟩ := great_l0 l0 (min l0.length 100) 0 0 (by omega) (Nat.zero_le _)
  have hT : Ev (fun k => warplaw24_PoolAll.j0 k l0 a1 l2 true) true := Ev.step (f := fun _ => some true) (fun k => by rw [warplaw24_PoolAll.j0, if_pos rfl]; exact awake24_some k) (Ev.now _)
  refine Ev.bind (f := fun k t390 => if t390 = true then (warplaw24_PoolAll.j0 k l0 a1 l2 true) else (warplaw24_PoolAll.j0 k l0 a1 l2 (decide ((l2.length : Int) > 400)))) hb ?_
  by_cases c : b = true
  · exact Ev.congr (fun k => if_pos c) hT
  · refine Ev.congr (fun k => if_neg c) ?_
    by_cases c2 : (l2.length : Int) > 400
    · rw [decide_eq_true c2]; exact hT
    · rw [decide_eq_false c2]
      have hl : l0.length ≤ 60 := Nat.le_of_not_lt fun h => c (h60 h)
      obtain ⟨r1, r2, hp, hr1, hpool⟩ := ref_pool l0 a1 l2 (by omega) (by omega) hB
      refine Ev.step (f := fun k => (warpref1_Pool.f k l0 a1 l2).bind fun bt396 => ((warpref1_SameEvents.f k r1 bt396.1).bind fun t401 => (if t401 = true then (if r2 = bt396.2 then ((warplaw24_awake.f).bind fun t402 => (some t402)) else (some false)) else (some false)))) (fun k => by rw [warplaw24_PoolAll.j0, if_neg (by simp), hp]; rfl) ?_
      refine Ev.bind (f := fun k bt396 => _) hpool ?_
      refine Ev.bind_now (same_events r1 (by omega)) (f := fun k t401 => (if t401 = true then (if r2 = r2 then ((warplaw24_awake.f).bind fun t402 => (some t402)) else (some false)) else (some false))) fun k => ?_
      rw [if_pos rfl, if_pos rfl]
      exact awake24_some k
end Go.Proofs.YtbkdnenlffiaeaaDoor.Pure
