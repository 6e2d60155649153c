/-
The plain law of TableMade: no condition beside those named in each theorem.
-/
import Derived.Test.YtmgfkdnoclmbgaaDoorPureB
import Derived.Test.YtmgfkdnoclmbgaaDoorTabS
import Derived.Test.YtmgfkdnoclmbgaaDoorPx7
namespace Go.Proofs.YtmgfkdnoclmbgaaDoor.Pure
open Go.RowKit Go.Proofs.YtmgfkdnoclmbgaaDoorW.PrintWords Go.Proofs.YtmgfkdnoclmbgaaDoorW.PrintLast Go.Proofs.YtmgfkdnoclmbgaaDoorW.PrintMore Go.Proofs.YtmgfkdnoclmbgaaDoor.P Go.Proofs.YtmgfkdnoclmbgaaDoor
set_option linter.unusedVariables false
theorem made_l0 (s : List (List S26)) (x : List (List Int)) (k : List S26) (hs : s.length ≤ 10) (hN : sumK s ≤ 4096) (h0 : x.length = s.length) (h1 : x.length ≤ 1000000) (h2 : ∀ i, i < x.length → (x.getD i []).length ≤ 1000000) (h3 : k.length ≤ 1000000) (hl : ∀ i, i < s.length → (x.getD i []).length = (s.getD i []).length) :
    ∀ d i : Nat, i + d = s.length → Ev (fun g => warplaw8_TableMade.l0 g s x k (3 * (sumK s : Int)) 0 ((sumR i fun j => (s.getD j []).length : Nat) : Int) (i : Int) x k (3 * (sumK s : Int)) 0) true
  | 0, i, hi => by
    have hil : i = s.length := by omega
    have e : (sumR i fun j => (s.getD j []).length) = sumK s := by rw [sumK_R, hil]
    rw [e]
    refine Ev.step (f := fun g => (warplaw8_lists.f g x x).bind fun t195 => if t195 = true then (warplaw8_same.f g k k).bind fun t196 => if t196 = true then (if (3 * (sumK s : Int)) = (wrap64 (3 * (sumK s : Int))) then (if (0 : Int) = 0 then (warplaw8_awake.f g).bind fun t197 => some t197 else some false) else some false) else some false else some false) (fun g => by rw [warplaw8_TableMade.l0, if_neg (by omega)]) ?_
    refine Ev.bind (lists_ev x h1 h2) ?_
    refine Ev.congr (fun g => by rw [if_pos rfl]) ?_
    refine Ev.bind (same_ev k h3) ?_
    refine Ev.congr (fun g => by rw [if_pos rfl, if_pos (by rw [wr64 (by omega) (by omega)]), if_pos rfl]) ?_
    exact Ev.bind awake8 (Ev.now _)
  | d + 1, i, hi => by
    have e3 : rd_L3 s (i : Int) = s.getD i [] := by simp [rd_L3]
    have e4 : rd_L4 x (i : Int) = x.getD i [] := by simp [rd_L4]
    have ih := made_l0 s x k hs hN h0 h1 h2 h3 hl d (i + 1) (by omega)
    have hm : (sumR (i + 1) fun j => (s.getD j []).length) ≤ sumK s := by
      rw [sumK_R]
      have : ∀ a b, a ≤ b → (sumR a fun j => (s.getD j []).length) ≤ sumR b fun j => (s.getD j []).length := fun a b hab => by
        induction b with
        | zero => have : a = 0 := by omega
                  subst this; exact Nat.le_refl _
        | succ b ihb =>
          by_cases c : a = b + 1
          · rw [c]; exact Nat.le_refl _
          · have := ihb (by omega)
            rw [sumR]
            omega
      exact this _ _ (by omega)
    have ew : wrap64 (((sumR i fun j => (s.getD j []).length : Nat) : Int) + ((s.getD i []).length : Int)) = ((sumR (i + 1) fun j => (s.getD j []).length : Nat) : Int) := by
      rw [sumR] at hm ⊢
      rw [wr64 (by omega) (by omega)]
      omega
    have ei : wrap64 ((i : Int) + 1) = ((i + 1 : Nat) : Int) := by rw [wr64 (by omega) (by omega)]; omega
    refine Ev.step (fun g => ?_) ih
    rw [warplaw8_TableMade.l0, if_pos (by omega), if_neg (by omega), if_pos (by omega), if_pos (by omega), e3, e4, if_pos (by rw [hl i (by omega)]), ew, ei]
theorem TableMade : warplaw8_TableMade.Pure := by
  intro l0 a1 a2 l3 g0 g1 g2 g3
  refine Ev.rounds ?_
  by_cases c : (l3.length : Int) > 500
  · exact Ev.congr (f := fun g => (warplaw8_awake.f g).bind fun t171 => some t171) (fun k => by rw [warplaw8_TableMade.f, if_pos c]) (Ev.bind awake8 (Ev.now _))
  · refine Ev.congr (f := fun k => _) (fun k => by rw [warplaw8_TableMade.f, if_neg c]) ?_
    have hs := keysS_sum l0
    have hn := keysS_len l0
    have hg := keysS_g l0 g0
    obtain ⟨x, k, n, h, e1, e2, h1, h2, h3, h4⟩ := both (keysS l0) (Int.tmod (wrap64 a1) 40) (Int.tmod (wrap64 a2) 70) l3 (by omega) (by omega) hg (by omega)
    obtain ⟨h5, h6, rfl, rfl⟩ := h4 (by omega)
    have fin := made_l0 (keysS l0) x k hn.1 (by omega) h5 h1 h2 h3 h6 (keysS l0).length 0 (by omega)
    refine Ev.bind (f := fun k t172 => _) (keys_ev l0 g0) ?_
    refine Ev.congr (fun g => ?_) fin
    rw [e1, e2]
    rfl
end Go.Proofs.YtmgfkdnoclmbgaaDoor.Pure
