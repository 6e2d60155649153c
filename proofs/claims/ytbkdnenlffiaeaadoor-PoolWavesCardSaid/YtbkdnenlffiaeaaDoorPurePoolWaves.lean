/-
The plain statement of PoolWaves.
-/
import Derived.Test.YtbkdnenlffiaeaaDoorPoolR
import Derived.Test.YtbkdnenlffiaeaaDoorPx16
namespace Go.Proofs.YtbkdnenlffiaeaaDoor.Pure
open Go.RowKit Go.Proofs.YtbkdnenlffiaeaaDoor Go.Proofs.YtbkdnenlffiaeaaDoor.P Go.Proofs.YtbkdnenlffiaeaaDoorW.PrintWords Go.Proofs.YtbkdnenlffiaeaaDoorW.PrintLast
set_option linter.unusedVariables false
theorem waves_l2 (w : List (List Int)) (l : List S54) (hl : l.length ≤ 4096) (i : Nat) (hi : i < l.length)
    (hA : ∀ j (hj : j < l.length), l[j].f2 < l[i].f2 → l[j].f5 < l[i].f3) (hB : ∀ j (hj : j < l.length), j ≠ i → l[j].f0 = l[i].f0 → l[j].f3 ≤ l[i].f5 → ¬ l[i].f3 ≤ l[j].f5)
    (h : Ev (fun k => warplaw24_PoolWaves.l0 k w l ((i + 1 : Nat) : Int)) true) : ∀ d j : Nat, j + d = l.length → Ev (fun k => warplaw24_PoolWaves.l2 k w l (i : Int) (j : Int)) true
  | 0, j, hj => by
    refine Ev.step (fun k => ?_) h
    rw [warplaw24_PoolWaves.l2, if_neg (by omega), wr64 (by omega) (by omega)]
    rfl
  | d + 1, j, hj => by
    have hlt : j < l.length := by omega
    have a := hA j hlt
    have b := hB j hlt
    refine Ev.step (f := fun k => warplaw24_PoolWaves.j4 k w l (i : Int) (j : Int) false) (fun k => ?_) (Ev.step (fun k => ?_) (waves_l2 w l hl i hi hA hB h d (j + 1) (by omega)))
    · rw [warplaw24_PoolWaves.l2, if_pos (by omega), if_pos (by omega), if_pos (by omega), if_pos (by omega), rd54_get l i hi, rd54_get l j hlt]
      have inner : (if (j : Int) = (i : Int) then (warplaw24_PoolWaves.j4 k w l (i : Int) (j : Int) false) else (if (l[j].f0) = (l[i].f0) then (if (l[j].f3) ≤ (l[i].f5) then (warplaw24_PoolWaves.j4 k w l (i : Int) (j : Int) (decide ((l[i].f3) ≤ (l[j].f5)))) else (warplaw24_PoolWaves.j4 k w l (i : Int) (j : Int) false)) else (warplaw24_PoolWaves.j4 k w l (i : Int) (j : Int) false))) = warplaw24_PoolWaves.j4 k w l (i : Int) (j : Int) false := by
        by_cases c1 : (j : Int) = (i : Int)
        · rw [if_pos c1]
        · rw [if_neg c1]
          by_cases c2 : l[j].f0 = l[i].f0
          · rw [if_pos c2]
            by_cases c3 : l[j].f3 ≤ l[i].f5
            · rw [if_pos c3, decide_eq_false (b (by omega) c2 c3)]
            · rw [if_neg c3]
          · rw [if_neg c2]
      by_cases c : l[j].f2 < l[i].f2
      · rw [if_pos c, if_neg (by have := a c; omega)]
        exact inner
      · rw [if_neg c]
        exact inner
    · rw [warplaw24_PoolWaves.j4, if_neg (by simp), wr64 (by omega) (by omega)]
      rfl
theorem waves_l1 (w : List (List Int)) (l : List S54) (i : Nat) (hi : i < l.length) (n : Nat) (hn : n < w.length) (hw : w.length ≤ 100) (he : l[i].f2 = (n : Int)) (row : List Int) (hrow : rd_L4 w (n : Int) = row) (hr : row.length ≤ 1000)
    (h : Ev (fun k => warplaw24_PoolWaves.l2 k w l (i : Int) 0) true) : ∀ (d j : Nat) (b : Bool), j + d = row.length → (b = true ∨ ∃ t, j ≤ t ∧ row[t]? = some l[i].f1.f1) → Ev (fun k => warplaw24_PoolWaves.l1 k w l (i : Int) b (j : Int)) true
  | 0, j, b, hj, hb => by
    have hbt : b = true := by
      rcases hb with hb | ⟨t, ht, he⟩
      · exact hb
      · rw [List.getElem?_eq_none (by omega)] at he; cases he
    refine Ev.step (fun k => ?_) h
    rw [warplaw24_PoolWaves.l1, if_pos (by omega), if_pos (by omega), rd54_get l i hi, he, if_pos (by omega), if_pos (by omega), hrow, if_neg (by omega), if_pos hbt]
  | d + 1, j, b, hj, hb => by
    by_cases hbt : b = true
    · subst hbt
      refine Ev.step (fun k => ?_) (waves_l1 w l i hi n hn hw he row hrow hr h d (j + 1) true (by omega) (.inl rfl))
      rw [warplaw24_PoolWaves.l1, if_pos (by omega), if_pos (by omega), rd54_get l i hi, he, if_pos (by omega), if_pos (by omega), hrow, if_pos (by omega), if_pos rfl, wr64 (by omega) (by omega)]
      rfl
    · have hrd : rd row (j : Int) = row[j] := by simp [rd, List.getD_eq_getElem?_getD, show j < row.length by omega]
      refine Ev.step (fun k => ?_) (waves_l1 w l i hi n hn hw he row hrow hr h d (j + 1) (row[j] == l[i].f1.f1) (by omega) ?_)
      · rw [warplaw24_PoolWaves.l1, if_pos (by omega), if_pos (by omega), rd54_get l i hi, he, if_pos (by omega), if_pos (by omega), hrow, if_pos (by omega), if_neg hbt, if_pos (by omega), wr64 (by omega) (by omega), hrd]
        rfl
      · rcases hb with hb | ⟨t, ht, het⟩
        · exact absurd hb hbt
        · by_cases c : t = j
          · subst c
            rw [List.getElem?_eq_getElem (by omega)] at het
            left
            rw [Option.some.inj het]
            simp
          · exact .inr ⟨t, by omega, het⟩
theorem waves_l0 (w : List (List Int)) (hw : w.length ≤ 100) (h5 : ∀ x ∈ w, x.length ≤ 5) (l : List S54) (hl : l.length ≤ 4096) (n : Nat) (S : WS) (busy : Nat) (T : List Task) (steps : Int) (hW : Waved w n S busy T l steps) : ∀ d i : Nat, i + d = l.length → Ev (fun k => warplaw24_PoolWaves.l0 k w l (i : Int)) true
  | 0, i, hi => by
    refine Ev.step (f := fun _ => some true) (fun k => ?_) (Ev.now _)
    rw [warplaw24_PoolWaves.l0, if_neg (by omega)]
    exact awake24_some k
  | d + 1, i, hi => by
    have ih := waves_l0 w hw h5 l hl n S busy T steps hW d (i + 1) (by omega)
    have hlt : i < l.length := by omega
    obtain ⟨_, _, hE, hP⟩ := hW
    have hP2 := List.pairwise_iff_getElem.1 hP
    obtain ⟨e1, e2, e3, e4, e5, e6, e7, e8, e9⟩ := hE l[i] (List.getElem_mem hlt)
    obtain ⟨m, hm⟩ := Int.eq_ofNat_of_zero_le e4
    have hmw : m < w.length := by omega
    rw [hm, Int.toNat_natCast] at e7
    have hrow : rd_L4 w (m : Int) = w.getD m [] := rfl
    have hin : w.getD m [] ∈ w := by
      rw [List.getD_eq_getElem?_getD, List.getElem?_eq_getElem hmw]
      exact List.getElem_mem hmw
    have h2 := waves_l2 w l hl i hlt (fun j hj hc => by
        rcases Nat.lt_trichotomy j i with c | c | c
        · exact (hP2 j i hj hlt c).2 (.inr hc)
        · subst c; omega
        · have := (hP2 i j hlt hj c).1; omega)
      (fun j hj hne hf hc => by
        rcases Nat.lt_or_ge j i with c | c
        · have := (hP2 j i hj hlt c).2 (.inl hf); omega
        · have := (hP2 i j hlt hj (by omega)).2 (.inl hf.symm); omega) ih l.length 0 (by omega)
    obtain ⟨t, ht, het⟩ := List.getElem_of_mem e7
    refine Ev.step (f := fun k => warplaw24_PoolWaves.j1 k w l (i : Int) false) (fun k => ?_) (Ev.step (fun k => ?_) (waves_l1 w l i hlt m hmw hw hm (w.getD m []) hrow (by have := h5 _ hin; omega) h2 (w.getD m []).length 0 false (by omega) (.inr ⟨t, by omega, by rw [List.getElem?_eq_getElem ht, het]⟩)))
    · rw [warplaw24_PoolWaves.l0, if_pos (by omega), if_pos (by omega), rd54_get l i hlt, if_neg (by omega), if_neg (by omega), if_neg (by omega), decide_eq_false (by omega)]
    · rw [warplaw24_PoolWaves.j1, if_neg (by simp)]
      rfl
theorem PoolWaves : warplaw24_PoolWaves.Pure := by
  intro ns a1 L _ ha _
  refine Ev.rounds ?_
  have hw : 0 ≤ a1 ∧ a1 ≤ 255 := by
    simp [Lit.wf, IntKind.min, IntKind.max, IntKind.bits, IntKind.signed] at ha
    omega
  by_cases c : (L.length : Int) > 400
  · exact Ev.congr (f := fun k => some true) (fun k => by unfold warplaw24_PoolWaves.f; rw [if_pos c]; exact awake24_some k) (Ev.now _)
  · refine Ev.congr (g := fun k => _) (f := fun k => _) (fun k => if_neg c) ?_
    obtain ⟨r, N, hr, hN, hr12, hf, h5⟩ := make_ev ns
    have hs : sumL r = N := sumL_made r N hf
    refine Ev.bind (f := fun k t486 => _) hr ?_
    obtain ⟨n, hn, hn1, hn2⟩ : ∃ n : Nat, wrap64 (1 + Int.tmod (wrap64 a1) 64) = (n : Int) ∧ 1 ≤ n ∧ n ≤ 64 := by
      have m1 := Int.tmod_nonneg 64 (a := a1) hw.1
      have m2 := Int.tmod_lt_of_pos a1 (b := 64) (by omega)
      refine ⟨(1 + Int.tmod a1 64).toNat, ?_, by omega, by omega⟩
      rw [wr64 (i := a1) (by omega) (by omega), wr64 (by omega) (by omega)]
      omega
    rw [hn]
    obtain ⟨l', S', busy', T', hp, hO, hl, hI⟩ := play_whole r n L hn1 hn2 (by omega) (fun x hx => by have := h5 x hx; omega) (by omega) (by omega) (fun S busy T l steps => 0 ≤ steps ∧ Waved r n S busy T l steps)
      ⟨Int.le_refl _, Waved.start r (by omega) n⟩ (fun W wave r R left busy T l steps i hO hi hb h => ⟨by omega, Waved.take hO h.1 hi hb h.2⟩)
      (fun W wave R left busy T l steps i hO hi hb h => ⟨by omega, Waved.done (by omega) hO hi hb h.2⟩)
    rw [hp]
    have hlen : l'.length ≤ 4096 := by obtain ⟨_, _, _, o4, _⟩ := hO; omega
    exact waves_l0 r (by omega) h5 l' hlen n _ _ _ _ hI.2 l'.length 0 (by omega)
end Go.Proofs.YtbkdnenlffiaeaaDoor.Pure
