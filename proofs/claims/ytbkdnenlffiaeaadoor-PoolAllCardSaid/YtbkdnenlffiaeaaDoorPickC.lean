/-
The laws' own words: two pickers are one; the law is awake. Condition: lists are short.
-/
import Derived.Test.YtbkdnenlffiaeaaDoorPickB
namespace Go.Proofs.YtbkdnenlffiaeaaDoor.P
open Go.RowKit Go.Proofs.YtbkdnenlffiaeaaDoor.Bits Go.Proofs.YtbkdnenlffiaeaaDoorW.PrintWords Go.Proofs.YtbkdnenlffiaeaaDoorW.PrintLast Go.Proofs.YtbkdnenlffiaeaaDoorW.PrintMore
set_option linter.unusedSimpArgs false
set_option linter.unusedVariables false
theorem ints_l0 (l : List Int) (hl : l.length ≤ 1000000) : ∀ d i : Nat, i + d = l.length → Ev (fun k => warpref1_Ints.l0 k l l (i : Int)) true
  | 0, i, h => by
    refine Ev.step (f := fun _ => some true) (fun k => ?_) (Ev.now _)
    simp only [warpref1_Ints.l0]
    rw [if_neg (by omega)]
  | d + 1, i, h => by
    refine Ev.step (f := fun k => warpref1_Ints.l0 k l l ((i + 1 : Nat) : Int)) (fun k => ?_) (ints_l0 l hl d (i + 1) (by omega))
    rw [warpref1_Ints.l0, if_pos (by omega), if_pos (by omega), if_pos (by omega), if_pos rfl, wr64 (by omega) (by omega)]
    rfl
theorem ints_same (l : List Int) (hl : l.length ≤ 1000000) : Ev (fun k => warpref1_Ints.f k l l) true := by
  refine Ev.congr (fun k => ?_) (ints_l0 l hl l.length 0 (by omega))
  unfold warpref1_Ints.f
  rw [if_pos rfl]
  rfl
theorem same_ev (l : List Int) (a b : Int) (hl : l.length ≤ 1000000) : Ev (fun k => warplaw2_same.f k l a b l a b) true := by
  refine Ev.congr (fun k => ?_) (Ev.bind_now (f := fun _ t172 => some t172) (ints_same l hl) fun _ => rfl)
  unfold warplaw2_same.f
  rw [if_pos rfl, if_pos rfl]
theorem start_f (l : List Int) (hl : l.length ≤ 1000000) : pick_Start.f l = some (l, 0, -1) := by
  unfold pick_Start.f
  rw [if_pos (by simp only [List.length_nil]; omega), List.nil_append]
theorem idx3 : idx [true, true, true] = [0, 1, 2] := by decide
theorem next3 (last : Int) : nextS [] 0 last [true, true, true] = (((([0, 1, 2] : List Nat).getD (cntLe last [0, 1, 2] % 3) 0 : Nat) : Int), ([] : List Int), (0 : Int), ((([0, 1, 2] : List Nat).getD (cntLe last [0, 1, 2] % 3) 0 : Nat) : Int)) := by
  rw [nextS, idx3]
  simp [whoS, placeS, atS, lastS]
theorem n3a : nextS [] 0 (-1) [true, true, true] = (0, [], 0, 0) := by rw [next3]; simp [cntLe]
theorem n3b : nextS [] 0 0 [true, true, true] = (1, [], 0, 1) := by rw [next3]; simp [cntLe]
theorem n3c : nextS [] 0 1 [true, true, true] = (2, [], 0, 2) := by rw [next3]; simp [cntLe]
theorem next3_ev (a : Int) (r : Int × List Int × Int × Int) (h : nextS [] 0 a [true, true, true] = r) : Ev (fun k => pick_Next.f k [] 0 a [true, true, true]) r := by
  rw [← h]
  exact next_ev [] 0 a _ (Nat.zero_le _) (by rw [show [true, true, true].length = 3 from rfl]; omega)
theorem start0 : pick_Start.f [] = some ([], 0, -1) := start_f [] (Nat.zero_le _)
theorem awake_ev : Ev (fun k => warplaw2_awake.f k) true := by
  have e1 := next3_ev (-1) _ n3a
  have e2 := next3_ev 0 _ n3b
  have e3 := next3_ev 1 _ n3c
  refine Ev.congr (f := fun k => (pick_Next.f k [] 0 (-1) [true, true, true]).bind fun bt136 => ((pick_Next.f k bt136.2.1 bt136.2.2.1 bt136.2.2.2 [true, true, true]).bind fun bt143 => ((pick_Next.f k bt143.2.1 bt143.2.2.1 bt143.2.2.2 [true, true, true]).bind fun bt150 => (if bt136.1 = 0 then (if bt143.1 = 1 then (some (bt150.1 == 2)) else (some false)) else (some false))))) (fun k => by unfold warplaw2_awake.f; rw [start0, Option.bind_some, Option.bind_some]) ?_
  refine Ev.bind (f := fun k bt136 => _) e1 ?_
  dsimp only
  refine Ev.bind (f := fun k bt143 => _) e2 ?_
  dsimp only
  refine Ev.bind (f := fun k bt150 => _) e3 ?_
  dsimp only
  rw [if_pos rfl, if_pos rfl]
  exact Ev.now _
theorem awake_some : Ev (fun k => (warplaw2_awake.f k).bind fun t => some t) true := Ev.bind_now (f := fun _ t => some t) awake_ev fun _ => rfl
theorem idx_mem (en : List Bool) (n : Nat) (h : n < (idx en).length) : (idx en).getD n 0 < en.length ∧ en.getD ((idx en).getD n 0) false = true := by
  have hm : (idx en).getD n 0 ∈ idx en := by
    rw [List.getD_eq_getElem?_getD, List.getElem?_eq_getElem h]
    exact List.getElem_mem h
  exact idx_lt hm
end Go.Proofs.YtbkdnenlffiaeaaDoor.P
