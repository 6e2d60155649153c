/-
The law's function PartOrder: the pairs in another order, either way round, twice.
-/
import Derived.Test.YtffhaeefldbahaaPartU
namespace Go.Proofs.Ytffhaeefldbahaa
open Go.RowKit
attribute [local go_sem ↓] Go.wp_at_zero Go.wp_at_succ
def turnAt (l : Pairs) (t i : Nat) : Int × Int := l.getD ((l.length - 1 - i + t) % l.length) (0, 0)
def turnTo (l : Pairs) (t k : Nat) : Pairs := (List.range k).flatMap fun i => [((turnAt l t i).2, (turnAt l t i).1), turnAt l t i]
theorem turnTo_length (l : Pairs) (t : Nat) : ∀ k, (turnTo l t k).length = 2 * k
  | 0 => rfl
  | k + 1 => by
    have := turnTo_length l t k
    unfold turnTo at *
    rw [List.range_succ, List.flatMap_append, List.length_append, this]
    simp
    omega
theorem turnTo_snoc (l : Pairs) (t k : Nat) : turnTo l t (k + 1) = turnTo l t k ++ [((turnAt l t k).2, (turnAt l t k).1), turnAt l t k] := by
  unfold turnTo
  rw [List.range_succ, List.flatMap_append]
  simp
theorem cellsP_append (a b : Pairs) : cellsP (a ++ b) = cellsP a ++ cellsP b := by simp [cellsP]
theorem turn_mem (l : Pairs) (t k : Nat) (h : 0 < l.length) (p : Int × Int) (hp : p ∈ turnTo l t k) : p ∈ l ∨ (p.2, p.1) ∈ l := by
  unfold turnTo at hp
  obtain ⟨i, _, hp⟩ := List.mem_flatMap.1 hp
  have hm : turnAt l t i ∈ l := by
    unfold turnAt
    have hlt := Nat.mod_lt (l.length - 1 - i + t) h
    rw [List.getD_eq_getElem?_getD, List.getElem?_eq_getElem hlt]
    exact List.getElem_mem hlt
  rcases List.mem_cons.1 hp with rfl | hp
  · exact .inr hm
  · rcases List.mem_cons.1 hp with rfl | hp
    · exact .inl hm
    · simp at hp
theorem turn_all (l : Pairs) (t : Nat) (p : Int × Int) (hp : p ∈ l) : p ∈ turnTo l t l.length := by
  obtain ⟨j, hj, rfl⟩ := List.getElem_of_mem hp
  have hn : 0 < l.length := by omega
  -- the place i with (len - 1 - i + t) % len = j
  obtain ⟨i, hi, e⟩ : ∃ i, i < l.length ∧ (l.length - 1 - i + t) % l.length = j := by
    have h1 := Nat.mod_lt t hn
    have h2 := Nat.div_add_mod t l.length
    by_cases hc : t % l.length ≤ j
    · refine ⟨l.length - 1 - (j - t % l.length), by omega, ?_⟩
      rw [show l.length - 1 - (l.length - 1 - (j - t % l.length)) + t = j + l.length * (t / l.length) by omega, Nat.add_mul_mod_self_left, Nat.mod_eq_of_lt hj]
    · refine ⟨l.length - 1 - (j + l.length - t % l.length), by omega, ?_⟩
      rw [show l.length - 1 - (l.length - 1 - (j + l.length - t % l.length)) + t = j + l.length * (t / l.length + 1) by rw [Nat.mul_add]; omega, Nat.add_mul_mod_self_left, Nat.mod_eq_of_lt hj]
  unfold turnTo
  refine List.mem_flatMap.2 ⟨i, List.mem_range.2 hi, ?_⟩
  have : turnAt l t i = l[j] := by
    unfold turnAt
    rw [e, List.getD_eq_getElem?_getD, List.getElem?_eq_getElem hj]
    rfl
  rw [this]
  simp
theorem turn_same (n : Int) (l : Pairs) (t : Nat) : ofL n l = ofL n (turnTo l t l.length) := by
  rcases Nat.eq_zero_or_pos l.length with h | h
  · obtain rfl : l = [] := List.eq_nil_of_length_eq_zero h
    rfl
  · exact ofL_same n _ _ (fun p hp => .inl (turn_all l t p hp)) (fun p hp => turn_mem l t _ h p hp)
end Go.Proofs.Ytffhaeefldbahaa
