/-
The plain law of TableAgain: no condition beside those named in each theorem.
-/
import Derived.Test.YtmgfkdnoclmbgaaDoorTabR
import Derived.Test.YtmgfkdnoclmbgaaDoorPx9
namespace Go.Proofs.YtmgfkdnoclmbgaaDoor.Pure
open Go.RowKit Go.Proofs.YtmgfkdnoclmbgaaDoorW.PrintWords Go.Proofs.YtmgfkdnoclmbgaaDoorW.PrintLast Go.Proofs.YtmgfkdnoclmbgaaDoorW.PrintMore Go.Proofs.YtmgfkdnoclmbgaaDoor.P Go.Proofs.YtmgfkdnoclmbgaaDoor
set_option linter.unusedVariables false
theorem rd26 (m : List S26) (i : Nat) (h : i < m.length) : rd_T26 m (i : Int) = m[i] := by
  simp [rd_T26, List.getD_eq_getElem?_getD, h]
theorem again_l1 (k m : List S26) (hm : m.length ≤ 1000) (hk : k.length ≤ 1000) (c : Nat) (hc : c < k.length) (hin : k[c] ∈ m) (h : Ev (fun g => warplaw8_TableAgain.l0 g k m (wrap64 ((c : Int) + 1))) true) :
    ∀ d j : Nat, j + d = m.length → ∀ b : Bool, (b = true ∨ k[c] ∈ m.drop j) → Ev (fun g => warplaw8_TableAgain.l1 g k m (c : Int) b (j : Int)) true
  | 0, j, hj, b, hb => by
    have hb2 : b = true := by
      rcases hb with hb | hb
      · exact hb
      · rw [List.drop_of_length_le (by omega)] at hb; cases hb
    subst hb2
    exact Ev.step (fun g => by rw [warplaw8_TableAgain.l1, if_neg (by omega), if_pos rfl]) h
  | d + 1, j, hj, b, hb => by
    have hlt : j < m.length := by omega
    have ew : wrap64 ((j : Int) + 1) = ((j + 1 : Nat) : Int) := by rw [wr64 (by omega) (by omega)]; omega
    cases b with
    | true =>
      have ih := again_l1 k m hm hk c hc hin h d (j + 1) (by omega) true (.inl rfl)
      exact Ev.step (fun g => by rw [warplaw8_TableAgain.l1, if_pos (by omega), if_pos rfl, ew]) ih
    | false =>
      have ih := again_l1 k m hm hk c hc hin h d (j + 1) (by omega) (decide (k[c] = m[j])) (by
        rcases hb with hb | hb
        · cases hb
        · rw [List.drop_eq_getElem_cons hlt, List.mem_cons] at hb
          rcases hb with hb | hb
          · exact .inl (decide_eq_true hb)
          · exact .inr hb)
      exact Ev.step (fun g => by rw [warplaw8_TableAgain.l1, if_pos (by omega), if_neg (by decide), if_pos (by omega), if_pos (by omega), if_pos (by omega), rd26 k c hc, rd26 m j hlt, key_eq, ew]) ih
theorem again_l0 (k m : List S26) (hm : m.length ≤ 1000) (hk : k.length ≤ 1000) (hin : ∀ x ∈ k, x ∈ m) : ∀ d c : Nat, c + d = k.length → Ev (fun g => warplaw8_TableAgain.l0 g k m (c : Int)) true
  | 0, c, hc => Ev.step (f := fun g => (warplaw8_awake.f g).bind fun t243 => some t243) (fun g => by rw [warplaw8_TableAgain.l0, if_neg (by omega)]) (Ev.bind awake8 (Ev.now _))
  | d + 1, c, hc => by
    have hlt : c < k.length := by omega
    have ih := again_l0 k m hm hk hin d (c + 1) (by omega)
    have hx : k[c] ∈ m := hin _ (List.getElem_mem _)
    have e := again_l1 k m hm hk c hlt hx (by rw [show wrap64 ((c : Int) + 1) = ((c + 1 : Nat) : Int) by rw [wr64 (by omega) (by omega)]; omega]; exact ih) m.length 0 (by omega) false (.inr hx)
    exact Ev.step (fun g => by rw [warplaw8_TableAgain.l0, if_pos (by omega)]; rfl) e
theorem TableAgain : warplaw8_TableAgain.Pure := by
  intro l0 a1 a2 l3 l4 g0 g1 g2 g3 g4
  refine Ev.rounds ?_
  have big : Ev (fun k => warplaw8_TableAgain.j0 k l0 a1 a2 l3 l4 true) true :=
    Ev.step (f := fun g => (warplaw8_awake.f g).bind fun t221 => some t221) (fun g => by rw [warplaw8_TableAgain.j0, if_pos rfl]) (Ev.bind awake8 (Ev.now _))
  by_cases c : (l3.length : Int) > 300
  · exact Ev.congr (fun k => by rw [warplaw8_TableAgain.f, if_pos c]) big
  · refine Ev.congr (f := fun k => warplaw8_TableAgain.j0 k l0 a1 a2 l3 l4 (decide ((l4.length : Int) > 300))) (fun k => by rw [warplaw8_TableAgain.f, if_neg c]) ?_
    by_cases c2 : (l4.length : Int) > 300
    · rw [decide_eq_true c2]; exact big
    · rw [decide_eq_false c2]
      have hs := keysS_sum l0
      have hn := (keysS_len l0).1
      have hg := keysS_g l0 g0
      obtain ⟨x, k, e1, x1, x2, x3, x4⟩ := play_told (keysS l0) 200 (wrap64 a1) l3 (by omega) (by omega) hg (by omega)
      obtain ⟨y, m, e2, y1, y2, y3, y4⟩ := play_told (keysS l0) 200 (wrap64 a2) l4 (by omega) (by omega) hg (by omega)
      have s1 := told_same x4 y4 y2 (by omega)
      have s2 := told_same y4 x4 x2 (by omega)
      have hl : k.length = m.length := Nat.le_antisymm (len_subset k m x4.nodup s1) (len_subset m k y4.nodup s2)
      have fin := again_l0 k m (by omega) (by omega) s1 k.length 0 (by omega)
      have fin2 : Ev (fun g => warplaw8_TableAgain.j1 g k m ((x.length : Int) != (y.length : Int))) true := by
        rw [x1, y1, bne_self_eq_false]
        exact Ev.step (fun g => by rw [warplaw8_TableAgain.j1, if_neg (by decide)]; rfl) fin
      refine Ev.step (f := fun k => _) (fun k => by rw [warplaw8_TableAgain.j0, if_neg (by decide)]) ?_
      refine Ev.bind (f := fun k t222 => _) (keys_ev l0 g0) ?_
      refine Ev.congr (fun g => ?_) fin2
      rw [e1]
      refine (Option.bind_some ..).trans ?_
      rw [e2]
      refine (Option.bind_some ..).trans ?_
      dsimp only
      rw [if_pos (by rw [hl]), if_pos rfl, if_pos (by rw [wr64 (by omega) (by omega)]; rfl)]
end Go.Proofs.YtmgfkdnoclmbgaaDoor.Pure
