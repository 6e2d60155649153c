/-
Two rows that are one are found to be one: the plain laws of the law's helpers. Condition: the rows are not too long.
-/
import Derived.Test.YtmgfkdnoclmbgaaDoorTabN
import Derived.Test.YtmgfkdnoclmbgaaDoorPx4
import Derived.Test.YtmgfkdnoclmbgaaDoorStubC
namespace Go.Proofs.YtmgfkdnoclmbgaaDoor
open Go.RowKit Go.Proofs.YtmgfkdnoclmbgaaDoorW.PrintWords Go.Proofs.YtmgfkdnoclmbgaaDoorW.PrintLast Go.Proofs.YtmgfkdnoclmbgaaDoorW.PrintMore Go.Proofs.YtmgfkdnoclmbgaaDoor.P
set_option linter.unusedVariables false
theorem ints_l0 (x : List Int) (hx : x.length ≤ 1000000) : ∀ d i : Nat, i + d = x.length → Ev (fun g => warpref1_Ints.l0 g x x (i : Int)) true
  | 0, i, h => Ev.step (f := fun _ => some true) (fun g => by rw [warpref1_Ints.l0, if_neg (by omega)]) (Ev.now _)
  | d + 1, i, h => Ev.step (fun g => by rw [warpref1_Ints.l0, if_pos (by omega), if_pos (by omega), if_pos (by omega), if_pos rfl, wr64 (by omega) (by omega)]; rfl) (ints_l0 x hx d (i + 1) (by omega))
theorem ints_ev (x : List Int) (hx : x.length ≤ 1000000) : Ev (fun g => warpref1_Ints.f g x x) true :=
  Ev.congr (fun g => by rw [warpref1_Ints.f, if_pos rfl]; rfl) (ints_l0 x hx x.length 0 (by omega))
theorem lists_l0 (x : List (List Int)) (hx : x.length ≤ 1000000) (hi : ∀ i, i < x.length → (x.getD i []).length ≤ 1000000) : ∀ d i : Nat, i + d = x.length → Ev (fun g => warplaw8_lists.l0 g x x (i : Int)) true
  | 0, i, h => Ev.step (f := fun _ => some true) (fun g => by rw [warplaw8_lists.l0, if_neg (by omega)]) (Ev.now _)
  | d + 1, i, h => by
    have e : rd_L4 x (i : Int) = x.getD i [] := by simp [rd_L4]
    refine Ev.step (f := fun g => (warpref1_Ints.f g (x.getD i []) (x.getD i [])).bind fun t126 => if t126 = true then warplaw8_lists.l0 g x x (wrap64 ((i : Int) + 1)) else some false) (fun g => by rw [warplaw8_lists.l0, if_pos (by omega), if_pos (by omega), if_pos (by omega), e]) ?_
    refine Ev.bind (ints_ev _ (hi i (by omega))) ?_
    exact Ev.congr (fun g => by rw [if_pos rfl, wr64 (by omega) (by omega)]; rfl) (lists_l0 x hx hi d (i + 1) (by omega))
theorem lists_ev (x : List (List Int)) (hx : x.length ≤ 1000000) (hi : ∀ i, i < x.length → (x.getD i []).length ≤ 1000000) : Ev (fun g => warplaw8_lists.f g x x) true :=
  Ev.congr (fun g => by rw [warplaw8_lists.f, if_pos rfl]; rfl) (lists_l0 x hx hi x.length 0 (by omega))
theorem same_l0 (x : List S26) (hx : x.length ≤ 1000000) : ∀ d i : Nat, i + d = x.length → Ev (fun g => warplaw8_same.l0 g x x (i : Int)) true
  | 0, i, h => Ev.step (f := fun _ => some true) (fun g => by rw [warplaw8_same.l0, if_neg (by omega)]) (Ev.now _)
  | d + 1, i, h => Ev.step (fun g => by rw [warplaw8_same.l0, if_pos (by omega), if_pos (by omega), if_pos (by omega), if_neg (by simp), wr64 (by omega) (by omega)]; rfl) (same_l0 x hx d (i + 1) (by omega))
theorem same_ev (x : List S26) (hx : x.length ≤ 1000000) : Ev (fun g => warplaw8_same.f g x x) true :=
  Ev.congr (fun g => by rw [warplaw8_same.f, if_pos rfl]; rfl) (same_l0 x hx x.length 0 (by omega))
/-- both plays answer one thing -/
theorem both (l0 : List (List S26)) (room stripes : Int) (P : List Int) (hn : l0.length ≤ 100) (hN : sumK l0 ≤ 4096) (hg : ∀ x ∈ l0, ∀ k ∈ x, Gk k) (hP : P.length ≤ 1000000) :
    ∃ x k n h, table_Play.f l0 room stripes P = some (x, k, n, h) ∧ warpref1_Table.f l0 room stripes P = some (x, k, n, h) ∧ x.length ≤ 1000000 ∧ (∀ i, i < x.length → (x.getD i []).length ≤ 1000000) ∧ k.length ≤ 1000000 ∧ (l0.length ≤ 64 → x.length = l0.length ∧ (∀ i, i < l0.length → (x.getD i []).length = (l0.getD i []).length) ∧ n = 3 * (sumK l0 : Int) ∧ h = 0) := by
  by_cases h64 : l0.length ≤ 64
  · obtain ⟨x, k, e, h1, h2, h3, _⟩ := play_told l0 room stripes P h64 hN hg hP
    refine ⟨x, k, _, _, e, e, by omega, fun i hi => ?_, by omega, fun _ => ⟨h1, h2, rfl, rfl⟩⟩
    rw [h2 i (by omega)]
    have := sumR_le l0.length i (fun i => (l0.getD i []).length) (by omega)
    rw [← sumK_R] at this
    exact Nat.le_trans this (by omega)
  · have e : tabF l0 room stripes P = some ([], [], 0, 0) := by
      unfold tabF
      rw [if_pos ⟨by omega, hP, hg⟩, if_pos (.inl (by omega))]
    exact ⟨_, _, _, _, e, e, by simp, fun i hi => by simp at hi, by simp, fun h => absurd h h64⟩
end Go.Proofs.YtmgfkdnoclmbgaaDoor
