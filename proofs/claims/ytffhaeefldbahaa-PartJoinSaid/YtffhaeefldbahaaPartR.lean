/-
What uniting two elements of a partition does: of one class nothing, of two one class is less. No condition but that the elements are there.
-/
import Derived.Test.YtffhaeefldbahaaPartN
namespace Go.Proofs.Ytffhaeefldbahaa
open Go.RowKit
theorem thereB_of {n : Nat} {x y : Int} (h0 : 0 ≤ x) (h1 : 0 ≤ y) (h2 : x < n) (h3 : y < n) : thereB n x y = true := (thereB_iff _ _ _).2 ⟨h0, h1, h2, h3⟩
theorem sameB_in {l : List Int} {x y : Int} (h : thereB l.length x y = true) : sameB l x y = decide (l.getD x.toNat 0 = l.getD y.toNat 0) := by rw [sameB, h, Bool.true_and]
theorem sameB_out {l : List Int} {x y : Int} (h : ¬ (0 ≤ x ∧ 0 ≤ y ∧ x < l.length ∧ y < l.length)) : sameB l x y = false := by
  have : thereB l.length x y = false := by
    rw [Bool.eq_false_iff]
    intro hh
    exact h ((thereB_iff _ _ _).1 hh)
  rw [sameB, this, Bool.false_and]
theorem unite_moves {l : List Int} (hg : allGood l) {x y : Int} (h : thereB l.length x y = true) (hne : l.getD x.toNat 0 ≠ l.getD y.toNat 0) : uniteL l x y ≠ l ∧ cls (uniteL l x y) (uniteL l x y).length + 1 = cls l l.length := by
  have ⟨h0, h1, h2, h3⟩ := (thereB_iff _ _ _).1 h
  have gx := hg x.toNat (by omega)
  have gy := hg y.toNat (by omega)
  unfold goodAt at gx gy
  obtain ⟨a, ha⟩ : ∃ a, a = l.getD x.toNat 0 := ⟨_, rfl⟩
  obtain ⟨b, hb⟩ : ∃ b, b = l.getD y.toNat 0 := ⟨_, rfl⟩
  rw [← ha] at gx hne
  rw [← hb] at gy hne
  have hu : uniteL l x y = l.map (swap (max a b) (min a b)) := uniteL_yes h (by rw [← ha, ← hb]) (by rw [← ha, ← hb])
  rw [hu, List.length_map]
  have hhi : l.getD (max a b).toNat 0 = max a b := by
    rcases Int.le_total a b with h | h
    · rw [Int.max_eq_right h]; exact gy.2.2
    · rw [Int.max_eq_left h]; exact gx.2.2
  have hlo : l.getD (min a b).toNat 0 = min a b := by
    rcases Int.le_total a b with h | h
    · rw [Int.min_eq_left h]; exact gx.2.2
    · rw [Int.min_eq_right h]; exact gy.2.2
  obtain ⟨hi, hhi'⟩ : ∃ hi, hi = max a b := ⟨_, rfl⟩
  obtain ⟨lo, hlo'⟩ : ∃ lo, lo = min a b := ⟨_, rfl⟩
  rw [← hhi'] at hhi
  rw [← hlo'] at hlo
  rw [← hhi', ← hlo']
  have hh : hi.toNat < l.length := by omega
  have hlh : lo < hi := by omega
  have l0 : 0 ≤ lo := by omega
  constructor
  · intro e
    have z := map_getD (swap hi lo) l hi.toNat hh
    rw [e, hhi, swap_yes rfl] at z
    omega
  · have key : ∀ k, k ≤ l.length → cls (l.map (swap hi lo)) k + (if hi.toNat < k then 1 else 0) = cls l k := by
      intro k
      induction k with
      | zero => intro _; rfl
      | succ k ih =>
        intro hk
        have ih := ih (by omega)
        have gk := hg k (by omega)
        unfold goodAt at gk
        obtain ⟨z, hz⟩ : ∃ z, z = l.getD k 0 := ⟨_, rfl⟩
        have hm := map_getD (swap hi lo) l k (by omega)
        rw [cls, cls, hm, ← hz]
        rw [← hz] at gk
        by_cases hzh : z = hi
        · rw [swap_yes hzh]
          have c1 : ¬ lo = (k : Int) := by
            intro e
            rw [show lo.toNat = k by omega, ← hz] at hlo
            omega
          rw [if_neg c1]
          by_cases hk2 : z = (k : Int)
          · rw [if_pos hk2]
            rw [if_neg (by omega)] at ih
            rw [if_pos (by omega)]
            omega
          · rw [if_neg hk2]
            split at ih
            · rw [if_pos (by omega)]; omega
            · rw [if_neg (by omega)]; omega
        · rw [swap_no hzh]
          have c2 : hi.toNat ≠ k := by
            intro e
            rw [e, ← hz] at hhi
            exact hzh hhi
          generalize (if z = (k : Int) then 1 else 0) = t
          split at ih
          · rw [if_pos (by omega)]; omega
          · rw [if_neg (by omega)]; omega
    have := key l.length (Nat.le_refl _)
    rw [if_pos hh] at this
    exact this
end Go.Proofs.Ytffhaeefldbahaa
