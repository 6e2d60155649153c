/-
The words of layer 24's laws: the waves that Make makes, the document's example, two lists of events that are one. Condition: lists are short.
-/
import Derived.Test.YtbkdnenlffiaeaaDoorPoolP
import Derived.Test.YtbkdnenlffiaeaaDoorPx10
import Derived.Test.YtbkdnenlffiaeaaDoorPx12
import Derived.Test.YtbkdnenlffiaeaaDoorPx14
namespace Go.Proofs.YtbkdnenlffiaeaaDoor.P
open Go.RowKit Go.Proofs.YtbkdnenlffiaeaaDoor.Bits Go.Proofs.YtbkdnenlffiaeaaDoorW.PrintWords Go.Proofs.YtbkdnenlffiaeaaDoorW.PrintLast Go.Proofs.YtbkdnenlffiaeaaDoorW.PrintMore
set_option linter.unusedSimpArgs false
set_option linter.unusedVariables false
theorem play7 : pool_Play.f [[7]] 1 [] = some ([(⟨0, ⟨0, 7, 0⟩, 0, 1, 2, 2⟩ : S54)], 2) := by kernel_rfl
theorem awake24 : warplaw24_awake.f = some true := by
  unfold warplaw24_awake.f
  rw [play7]
  rfl
theorem awake24_some (k : Nat) : ((warplaw24_awake.f).bind fun t => (some t)) = some true := by rw [awake24]; rfl
theorem rd54_get (l : List S54) (i : Nat) (h : i < l.length) : rd_T54 l (i : Int) = l[i] := by
  simp [rd_T54, rdOf, List.getD_eq_getElem?_getD, h]
theorem same_l0 (l : List S54) (hl : l.length ≤ 1000000) : ∀ d i : Nat, i + d = l.length → Ev (fun k => warpref1_SameEvents.l0 k l l (i : Int)) true
  | 0, i, h => by
    refine Ev.step (f := fun _ => some true) (fun k => ?_) (Ev.now _)
    rw [warpref1_SameEvents.l0, if_neg (by omega)]
  | d + 1, i, h => by
    refine Ev.step (f := fun k => warpref1_SameEvents.l0 k l l ((i + 1 : Nat) : Int)) (fun k => ?_) (same_l0 l hl d (i + 1) (by omega))
    rw [warpref1_SameEvents.l0, if_pos (by omega), if_pos (by omega), if_pos (by omega), if_neg (by simp), wr64 (by omega) (by omega)]
    rfl
theorem same_events (l : List S54) (hl : l.length ≤ 1000000) : Ev (fun k => warpref1_SameEvents.f k l l) true := by
  refine Ev.congr (fun k => ?_) (same_l0 l hl l.length 0 (by omega))
  unfold warpref1_SameEvents.f
  rw [if_pos rfl]
  rfl
/-! ### Make -/
def intsTo (n : Nat) : List Int := (List.range n).map fun i : Nat => (i : Int)
theorem intsTo_succ (n : Nat) : intsTo (n + 1) = intsTo n ++ [(n : Int)] := by simp [intsTo, List.range_succ]
theorem make_l1 (ns : List Int) (W : List (List Int)) (i : Nat) (hi : i < ns.length) (hW : W.length ≤ 100) (M c : Nat) (hM : M ≤ 1000) (hc : c ≤ 5) (hcc : Int.tmod (wrap64 (rd ns (i : Int))) 6 ≤ (c : Int)) (hc2 : (c : Int) ≤ max (Int.tmod (wrap64 (rd ns (i : Int))) 6) 0) (r : List (List Int)) (h : ∀ x, x.length ≤ 5 → W.flatten ++ x = intsTo (M + c) → Ev (fun k => warplaw24_Make.l0 k ns (W ++ [x]) ((M + c : Nat) : Int) (wrap64 ((i : Int) + 1))) r) :
    ∀ (d j : Nat) (x : List Int), j + d = c → x.length = j → W.flatten ++ x = intsTo (M + j) → Ev (fun k => warplaw24_Make.l1 k ns W ((M + j : Nat) : Int) (i : Int) x (j : Int)) r
  | 0, j, x, hj, hx, hf => by
    obtain rfl : j = c := by omega
    refine Ev.step (fun k => ?_) (h x (by omega) hf)
    rw [warplaw24_Make.l1, if_pos (by omega), if_pos (by omega), if_neg (by omega), if_pos (by omega)]
  | d + 1, j, x, hj, hx, hf => by
    refine Ev.step (fun k => ?_) (make_l1 ns W i hi hW M c hM hc hcc hc2 r h d (j + 1) (x ++ [((M + j : Nat) : Int)]) (by omega) (by simp [hx]) (by rw [← List.append_assoc, hf, ← Nat.add_assoc, intsTo_succ]))
    rw [warplaw24_Make.l1, if_pos (by omega), if_pos (by omega), if_pos (by omega), if_pos (by omega), wr64 (by omega) (by omega), wr64 (by omega) (by omega)]
    rfl
theorem make_l0 (ns : List Int) : ∀ (d i : Nat) (W : List (List Int)) (M : Nat), i + d = min ns.length 12 → M ≤ 5 * i → W.length = i → W.flatten = intsTo M → (∀ x ∈ W, x.length ≤ 5) →
    ∃ (r : List (List Int)) (N : Nat), Ev (fun k => warplaw24_Make.l0 k ns W (M : Int) (i : Int)) r ∧ N ≤ 60 ∧ r.length ≤ 12 ∧ r.flatten = intsTo N ∧ ∀ x ∈ r, x.length ≤ 5
  | 0, i, W, M, hi, hM, hW, hf, hx => by
    refine ⟨W, M, ?_, by omega, by omega, hf, hx⟩
    refine Ev.step (f := fun k => warplaw24_Make.j1 k ns W (M : Int) (i : Int) false) (fun k => ?_) (Ev.step (f := fun _ => some W) (fun k => ?_) (Ev.now _))
    · rw [warplaw24_Make.l0]
      by_cases c : (i : Int) < (ns.length : Int)
      · rw [if_pos c, decide_eq_false (by omega)]
      · rw [if_neg c]
    · rw [warplaw24_Make.j1, if_neg (by simp)]
  | d + 1, i, W, M, hi, hM, hW, hf, hx => by
    have h1 := Int.tmod_lt_of_pos (wrap64 (rd ns (i : Int))) (b := 6) (by omega)
    obtain ⟨c, hc⟩ : ∃ c : Nat, (c : Int) = max (Int.tmod (wrap64 (rd ns (i : Int))) 6) 0 := ⟨(max (Int.tmod (wrap64 (rd ns (i : Int))) 6) 0).toNat, by omega⟩
    obtain ⟨x, hxl, hxf⟩ : ∃ x : List Int, x.length = c ∧ W.flatten ++ x = intsTo (M + c) := by
      refine ⟨(List.range c).map fun j : Nat => ((M + j : Nat) : Int), by simp, ?_⟩
      rw [hf]
      simp [intsTo, List.range_add]
    obtain ⟨r, N, hr, a1, a2, a3, a4⟩ := make_l0 ns d (i + 1) (W ++ [x]) (M + c) (by omega) (by omega) (by simp [hW]) (by simpa using hxf) (fun y hy => by
      rcases List.mem_append.1 hy with hy | hy
      · exact hx y hy
      · rw [List.mem_singleton] at hy; subst hy; omega)
    refine ⟨r, N, ?_, a1, a2, a3, a4⟩
    refine Ev.step (f := fun k => warplaw24_Make.j1 k ns W (M : Int) (i : Int) true) (fun k => ?_) (Ev.step (f := fun k => warplaw24_Make.l1 k ns W ((M + 0 : Nat) : Int) (i : Int) [] ((0 : Nat) : Int)) (fun k => ?_) ?_)
    · rw [warplaw24_Make.l0, if_pos (by omega), decide_eq_true (by omega)]
    · rw [warplaw24_Make.j1, if_pos rfl]
      rfl
    · refine make_l1 ns W i (by omega) (by omega) M c (by omega) (by omega) (by omega) (by omega) r (fun y hy hyf => ?_) c 0 [] (by omega) rfl (by simpa using hf)
      have e : y = x := List.append_cancel_left (hyf.trans hxf.symm)
      subst e
      rw [wr64 (by omega) (by omega)]
      exact hr
theorem make_ev (ns : List Int) : ∃ (r : List (List Int)) (N : Nat), Ev (fun k => warplaw24_Make.f k ns) r ∧ N ≤ 60 ∧ r.length ≤ 12 ∧ r.flatten = intsTo N ∧ ∀ x ∈ r, x.length ≤ 5 := by
  obtain ⟨r, N, h, a⟩ := make_l0 ns (min ns.length 12) 0 [] 0 (by omega) (by omega) rfl rfl (fun x h => by cases h)
  exact ⟨r, N, h, a⟩
theorem sumL_flat (W : List (List Int)) : sumL W = W.flatten.length := by rw [List.length_flatten]; rfl
theorem sumL_made (r : List (List Int)) (N : Nat) (h : r.flatten = intsTo N) : sumL r = N := by rw [sumL_flat, h]; simp [intsTo]
end Go.Proofs.YtbkdnenlffiaeaaDoor.P
