/-
The fold of unitings is the least partition that joins the pairs: so it hangs on which pairs there are alone. No condition.
-/
import Derived.Test.YtffhaeefldbahaaPartN
namespace Go.Proofs.Ytffhaeefldbahaa
open Go.RowKit
def Joins (m : List Int) (p : Int × Int) : Prop := thereB m.length p.1 p.2 = true → m.getD p.1.toNat 0 = m.getD p.2.toNat 0
theorem least_unite {q m : List Int} (hq : allGood q) (h : leB q m = true) (p : Int × Int) (hj : Joins m p) : leB (uniteL q p.1 p.2) m = true := by
  rw [leB_iff] at h ⊢
  by_cases ht : thereB q.length p.1 p.2 = true
  · have ⟨h0, h1, h2, h3⟩ := (thereB_iff _ _ _).1 ht
    have hj := hj (by rw [← h.1]; exact ht)
    have rx := good_range hq p.1.toNat (by omega)
    have ry := good_range hq p.2.toNat (by omega)
    have mx := h.2 p.1.toNat (by omega)
    have my := h.2 p.2.toNat (by omega)
    obtain ⟨a, ha⟩ : ∃ a, a = q.getD p.1.toNat 0 := ⟨_, rfl⟩
    obtain ⟨b, hb⟩ : ∃ b, b = q.getD p.2.toNat 0 := ⟨_, rfl⟩
    rw [← ha] at mx rx
    rw [← hb] at my ry
    refine ⟨by rw [uniteL_length]; exact h.1, fun i hi => ?_⟩
    rw [uniteL_length] at hi
    have hab : m.getD (max a b).toNat 0 = m.getD (min a b).toNat 0 := by
      rcases Int.le_total a b with hh | hh
      · rw [Int.max_eq_right hh, Int.min_eq_left hh, ← mx, ← my, hj]
      · rw [Int.max_eq_left hh, Int.min_eq_right hh, ← mx, ← my, hj]
    rw [uniteL_yes ht (by rw [← ha, ← hb]) (by rw [← ha, ← hb]), map_getD _ _ _ hi, h.2 i hi]
    unfold swap
    split
    · rename_i e
      rw [e, hab]
    · rfl
  · rw [uniteL_no ht]
    exact h
theorem least_fold (m : List Int) : ∀ (ps : Pairs) (q : List Int), allGood q → leB q m = true → (∀ p ∈ ps, Joins m p) → leB (ps.foldl (fun q p => uniteL q p.1 p.2) q) m = true
  | [], _, _, h, _ => h
  | p :: ps, q, hq, h, hj => by
    rw [List.foldl_cons]
    exact least_fold m ps _ (good_unite hq _ _) (least_unite hq h p (hj p (by simp))) (fun r hr => hj r (by simp [hr]))
theorem ofL_least (n : Int) (ps : Pairs) (m : List Int) (hm : m.length = nn n) (hj : ∀ p ∈ ps, Joins m p) : leB (ofL n ps) m = true :=
  least_fold m ps _ (good_iota _) (leB_iota hm) hj
theorem ofL_joins (n : Int) (ps : Pairs) (p : Int × Int) (h : p ∈ ps ∨ (p.2, p.1) ∈ ps) : Joins (ofL n ps) p := by
  intro ht
  rw [ofL_length] at ht
  rcases h with h | h
  · exact fold_had ps _ p h (by rw [iota_length]; exact ht)
  · have ⟨h0, h1, h2, h3⟩ := (thereB_iff _ _ _).1 ht
    exact (fold_had ps _ (p.2, p.1) h (by rw [iota_length]; exact (thereB_iff _ _ _).2 ⟨h1, h0, h3, h2⟩)).symm
/-- Finer by fewer pairs. -/
theorem ofL_le (n : Int) (ps qs : Pairs) (h : ∀ p ∈ ps, p ∈ qs ∨ (p.2, p.1) ∈ qs) : leB (ofL n ps) (ofL n qs) = true :=
  ofL_least n ps _ (ofL_length _ _) (fun p hp => ofL_joins n qs p (h p hp))
theorem ofL_same (n : Int) (ps qs : Pairs) (h1 : ∀ p ∈ ps, p ∈ qs ∨ (p.2, p.1) ∈ qs) (h2 : ∀ p ∈ qs, p ∈ ps ∨ (p.2, p.1) ∈ ps) : ofL n ps = ofL n qs :=
  leB_anti (good_ofL _ _) (good_ofL _ _) (ofL_le n ps qs h1) (ofL_le n qs ps h2)
end Go.Proofs.Ytffhaeefldbahaa
