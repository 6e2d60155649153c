/-
The plain law of TableAll: no condition beside those named in each theorem.
-/
import Derived.Test.YtmgfkdnoclmbgaaDoorPureB
import Derived.Test.YtmgfkdnoclmbgaaDoorPx5
namespace Go.Proofs.YtmgfkdnoclmbgaaDoor.Pure
open Go.RowKit Go.Proofs.YtmgfkdnoclmbgaaDoorW.PrintWords Go.Proofs.YtmgfkdnoclmbgaaDoorW.PrintLast Go.Proofs.YtmgfkdnoclmbgaaDoorW.PrintMore Go.Proofs.YtmgfkdnoclmbgaaDoor.P Go.Proofs.YtmgfkdnoclmbgaaDoor
set_option linter.unusedVariables false
/-- names, of those that are looked at, are short -/
def Short (l : List S26) (p : Nat) : Prop := ∀ q, q < p → q < l.length → (l.getD q z26).f0.size ≤ 100
theorem all_l1 (x0 : List (List S26)) (a1 a2 : Int) (l3 : List Int) (n : Int) (i : Nat) (hi : i < x0.length) (hnext : Short (x0.getD i []) 100 → Ev (fun g => warplaw8_TableAll.l0 g x0 a1 a2 l3 n (wrap64 ((i : Int) + 1))) true) :
    ∀ d p : Nat, p + d = min (x0.getD i []).length 100 → Short (x0.getD i []) p → Ev (fun g => warplaw8_TableAll.l1 g x0 a1 a2 l3 n (i : Int) (p : Int)) true
  | 0, p, hp, hs => by
    have e : rd_L3 x0 (i : Int) = x0.getD i [] := by simp [rd_L3]
    have fin : Ev (fun g => warplaw8_TableAll.j3 g x0 a1 a2 l3 n (i : Int) (p : Int) false) true := by
      refine Ev.step (fun g => by rw [warplaw8_TableAll.j3, if_neg (by decide)]) (hnext fun q h1 h2 => hs q (by omega) h2)
    by_cases c : p < (x0.getD i []).length
    · refine Ev.step (fun g => ?_) fin
      rw [warplaw8_TableAll.l1, if_pos (by omega), if_pos (by omega), e, if_pos (by omega), decide_eq_false (by omega)]
    · refine Ev.step (fun g => ?_) fin
      rw [warplaw8_TableAll.l1, if_pos (by omega), if_pos (by omega), e, if_neg (by omega)]
  | d + 1, p, hp, hs => by
    have e : rd_L3 x0 (i : Int) = x0.getD i [] := by simp [rd_L3]
    have hlt : p < (x0.getD i []).length := by omega
    have e2 : rd_T26 (x0.getD i []) (p : Int) = (x0.getD i []).getD p z26 := by simp [rd_T26]
    have mid : Ev (fun g => warplaw8_TableAll.j3 g x0 a1 a2 l3 n (i : Int) (p : Int) true) true := by
      by_cases c : (((x0.getD i []).getD p z26).f0.size : Int) > 100
      · refine Ev.step (f := fun g => (warplaw8_awake.f g).bind fun t133 => some t133) (fun g => ?_) (Ev.bind awake8 (Ev.now _))
        rw [warplaw8_TableAll.j3, if_pos rfl, if_pos (by omega), if_pos (by omega), if_pos (by omega), e, if_pos (by omega), e2, if_pos c]
      · have ih := all_l1 x0 a1 a2 l3 n i hi hnext d (p + 1) (by omega) (fun q h1 h2 => by
          by_cases c2 : q = p
          · subst c2; omega
          · exact hs q (by omega) h2)
        refine Ev.step (fun g => ?_) ih
        rw [warplaw8_TableAll.j3, if_pos rfl, if_pos (by omega), if_pos (by omega), if_pos (by omega), e, if_pos (by omega), e2, if_neg c, wr64 (by omega) (by omega)]
        rfl
    refine Ev.step (fun g => ?_) mid
    rw [warplaw8_TableAll.l1, if_pos (by omega), if_pos (by omega), e, if_pos (by omega), decide_eq_true (by omega)]
theorem all_main (x0 : List (List S26)) (a1 a2 : Int) (l3 : List Int) (h66 : x0.length ≤ 66) (hN : sumK x0 ≤ 80) (hg : ∀ x ∈ x0, ∀ k ∈ x, Gk k) (hP : l3.length ≤ 500) : Ev (fun g => warplaw8_TableAll.j4 g x0 a1 a2 l3 false) true := by
  obtain ⟨x, k, n, h, e1, e2, h1, h2, h3, _⟩ := both x0 a1 a2 l3 (by omega) (by omega) hg (by omega)
  refine Ev.step (f := fun g => (warplaw8_lists.f g x x).bind fun t152 => if t152 = true then (warplaw8_same.f g k k).bind fun t153 => if t153 = true then (if n = n then (if h = h then (warplaw8_awake.f g).bind fun t154 => some t154 else some false) else some false) else some false else some false) (fun g => ?_) ?_
  · rw [warplaw8_TableAll.j4, if_neg (by decide), e1, e2]
    rfl
  · refine Ev.bind (lists_ev x h1 h2) ?_
    refine Ev.congr (fun g => by rw [if_pos rfl]) ?_
    refine Ev.bind (same_ev k h3) ?_
    refine Ev.congr (fun g => by rw [if_pos rfl, if_pos rfl, if_pos rfl]) ?_
    exact Ev.bind awake8 (Ev.now _)
theorem all_l0 (x0 : List (List S26)) (a1 a2 : Int) (l3 : List Int) (hB : ∀ x ∈ x0, x.length ≤ 17592186044416) (hwf : ∀ x ∈ x0, ∀ k ∈ x, (Lit.int .i64 k.f1).wf = true ∧ (Lit.int .i64 k.f2).wf = true) :
    ∀ d i : Nat, i + d = min x0.length 70 → (∀ j, j < i → Short (x0.getD j []) 100) → Ev (fun g => warplaw8_TableAll.l0 g x0 a1 a2 l3 ((sumR i fun j => (x0.getD j []).length : Nat) : Int) (i : Int)) true
  | 0, i, hi, hs => by
    have aw : Ev (fun g => warplaw8_TableAll.j4 g x0 a1 a2 l3 true) true := Ev.step (f := fun g => (warplaw8_awake.f g).bind fun t134 => some t134) (fun g => by rw [warplaw8_TableAll.j4, if_pos rfl]) (Ev.bind awake8 (Ev.now _))
    have fin : Ev (fun g => warplaw8_TableAll.j1 g x0 a1 a2 l3 ((sumR i fun j => (x0.getD j []).length : Nat) : Int) (i : Int) false) true := by
      by_cases c1 : ((sumR i fun j => (x0.getD j []).length : Nat) : Int) > 80
      · exact Ev.step (fun g => by rw [warplaw8_TableAll.j1, if_neg (by decide), if_pos c1]) aw
      · by_cases c2 : (x0.length : Int) > 66
        · exact Ev.step (fun g => by rw [warplaw8_TableAll.j1, if_neg (by decide), if_neg c1, if_pos c2]) aw
        · by_cases c3 : (l3.length : Int) > 500
          · exact Ev.step (fun g => by rw [warplaw8_TableAll.j1, if_neg (by decide), if_neg c1, if_neg c2, decide_eq_true c3]) aw
          · have hil : i = x0.length := by omega
            have hN : sumK x0 ≤ 80 := by
              rw [sumK_R, ← hil]
              omega
            refine Ev.step (fun g => by rw [warplaw8_TableAll.j1, if_neg (by decide), if_neg c1, if_neg c2, decide_eq_false c3]) (all_main x0 a1 a2 l3 (by omega) hN (fun x hx k hk => ?_) (by omega))
            obtain ⟨j, hj, rfl⟩ := List.mem_iff_getElem.1 hx
            obtain ⟨q, hq, rfl⟩ := List.mem_iff_getElem.1 hk
            have e1 : x0.getD j [] = x0[j] := by rw [List.getD_eq_getElem?_getD, List.getElem?_eq_getElem hj]; rfl
            have hle := sumR_le x0.length j (fun i => (x0.getD i []).length) hj
            rw [← sumK_R] at hle
            have hle2 : (x0.getD j []).length ≤ 80 := Nat.le_trans hle hN
            have h2 := hs j (by omega) q (by rw [e1] at hle2; omega) (by rw [e1]; exact hq)
            rw [e1, List.getD_eq_getElem?_getD, List.getElem?_eq_getElem hq] at h2
            have h3 := hwf _ hx _ hk
            exact ⟨Nat.le_trans h2 (by decide), h3.1, h3.2⟩
    by_cases c : i < x0.length
    · refine Ev.step (fun g => ?_) fin
      rw [warplaw8_TableAll.l0, if_pos (by omega), decide_eq_false (by omega)]
    · refine Ev.step (fun g => ?_) fin
      rw [warplaw8_TableAll.l0, if_neg (by omega)]
  | d + 1, i, hi, hs => by
    have hlt : i < x0.length := by omega
    have e : rd_L3 x0 (i : Int) = x0.getD i [] := by simp [rd_L3]
    have hsum : ∀ m, m ≤ 70 → m ≤ x0.length → (sumR m fun j => (x0.getD j []).length) ≤ m * 17592186044416 := fun m => by
      induction m with
      | zero => intro _ _; exact Nat.le_refl _
      | succ m ih =>
        intro h1 h2
        rw [sumR]
        have := ih (by omega) (by omega)
        have hm : (x0.getD m []).length ≤ 17592186044416 := by
          rw [List.getD_eq_getElem?_getD, List.getElem?_eq_getElem (show m < x0.length by omega)]
          exact hB _ (List.getElem_mem _)
        omega
    have hs1 := hsum (i + 1) (by omega) (by omega)
    have ih := all_l0 x0 a1 a2 l3 hB hwf d (i + 1) (by omega)
    have ew : wrap64 (((sumR i fun j => (x0.getD j []).length : Nat) : Int) + ((x0.getD i []).length : Int)) = ((sumR (i + 1) fun j => (x0.getD j []).length : Nat) : Int) := by
      rw [sumR] at hs1 ⊢
      rw [wr64 (by omega) (by omega)]
      omega
    have ei : wrap64 ((i : Int) + 1) = ((i + 1 : Nat) : Int) := by rw [wr64 (by omega) (by omega)]; omega
    have h1 := all_l1 x0 a1 a2 l3 ((sumR (i + 1) fun j => (x0.getD j []).length : Nat) : Int) i hlt (fun hh => by
      rw [ei]
      refine ih (fun j hj => ?_)
      by_cases c : j = i
      · subst c; exact hh
      · exact hs j (by omega)) (min (x0.getD i []).length 100) 0 (by omega) (fun q h => by omega)
    have mid : Ev (fun g => warplaw8_TableAll.j1 g x0 a1 a2 l3 ((sumR i fun j => (x0.getD j []).length : Nat) : Int) (i : Int) true) true := by
      refine Ev.step (fun g => ?_) h1
      rw [warplaw8_TableAll.j1, if_pos rfl, if_pos (by omega), if_pos (by omega), e, ew]
      rfl
    refine Ev.step (fun g => ?_) mid
    rw [warplaw8_TableAll.l0, if_pos (by omega), decide_eq_true (by omega)]
theorem TableAll (l0 : List (List S26)) (a1 : Int) (a2 : Int) (l3 : List Int) (hB : ∀ x ∈ l0, x.length ≤ 17592186044416) (hwf : ∀ x ∈ l0, ∀ k ∈ x, (Lit.int .i64 k.f1).wf = true ∧ (Lit.int .i64 k.f2).wf = true) : ∃ k, warplaw8_TableAll.f k l0 a1 a2 l3 = some true :=
  (Ev.congr (fun g => rfl) (all_l0 l0 a1 a2 l3 hB hwf (min l0.length 70) 0 (by omega) (fun j h => by omega))).rounds
end Go.Proofs.YtmgfkdnoclmbgaaDoor.Pure
