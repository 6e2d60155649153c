/-
More pairs leave no more classes; a fold of unitings may be a partition. No condition.
-/
import Derived.Test.YtffhaeefldbahaaPartU
import Derived.Test.YtffhaeefldbahaaPartR
namespace Go.Proofs.Ytffhaeefldbahaa
open Go.RowKit
theorem cls_unite {l : List Int} (hg : allGood l) (x y : Int) : cls (uniteL l x y) (uniteL l x y).length ≤ cls l l.length := by
  by_cases h : thereB l.length x y = true
  · by_cases he : l.getD x.toNat 0 = l.getD y.toNat 0
    · rw [uniteL_stay fun _ => he]
      exact Nat.le_refl _
    · have := (unite_moves hg h he).2
      omega
  · rw [uniteL_no h]
    exact Nat.le_refl _
theorem cls_fold : ∀ (ps : Pairs) (q : List Int), allGood q → cls (ps.foldl (fun q p => uniteL q p.1 p.2) q) (ps.foldl (fun q p => uniteL q p.1 p.2) q).length ≤ cls q q.length
  | [], _, _ => Nat.le_refl _
  | p :: ps, q, h => by
    rw [List.foldl_cons]
    exact Nat.le_trans (cls_fold ps _ (good_unite h _ _)) (cls_unite h _ _)
theorem cls_more (n : Int) (ps qs : Pairs) : cls (ofL n (ps ++ qs)) (ofL n (ps ++ qs)).length ≤ cls (ofL n ps) (ofL n ps).length := by
  unfold ofL
  rw [List.foldl_append]
  exact cls_fold qs _ (good_fold ps _ (good_iota _))
theorem le_more (n : Int) (ps qs : Pairs) : leB (ofL n ps) (ofL n (ps ++ qs)) = true := ofL_le n ps _ (fun _ hp => .inl (List.mem_append_left _ hp))
theorem may_ofL (n : Int) (ps : Pairs) : mayB (ofL n ps) = true := by
  unfold mayB
  rw [decide_eq_true_iff]
  exact ⟨good_ofL n ps, by rw [ofL_length]; exact nn_le n⟩
end Go.Proofs.Ytffhaeefldbahaa
