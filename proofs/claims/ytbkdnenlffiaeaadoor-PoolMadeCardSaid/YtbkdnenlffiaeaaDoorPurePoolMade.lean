/-
The plain statement of PoolMade.
-/
import Derived.Test.YtbkdnenlffiaeaaDoorPoolS
import Derived.Test.YtbkdnenlffiaeaaDoorPx15
namespace Go.Proofs.YtbkdnenlffiaeaaDoor.Pure
open Go.RowKit Go.Proofs.YtbkdnenlffiaeaaDoor Go.Proofs.YtbkdnenlffiaeaaDoor.P Go.Proofs.YtbkdnenlffiaeaaDoorW.PrintWords Go.Proofs.YtbkdnenlffiaeaaDoorW.PrintLast
set_option linter.unusedVariables false
theorem rd_set (D : List Int) (i j : Nat) (v : Int) (hi : i < D.length) : rd (D.set i v) (j : Int) = if j = i then v else rd D (j : Int) := by
  unfold rd
  simp only [Int.toNat_natCast, List.getD_eq_getElem?_getD, List.getElem?_set]
  by_cases c : i = j
  · rw [if_pos c, if_pos (by omega), if_pos c.symm]; rfl
  · rw [if_neg c, if_neg (Ne.symm c)]
theorem count_intsTo (N t : Nat) (h : t < N) : (intsTo N).count (t : Int) = 1 := by
  induction N with
  | zero => omega
  | succ N ih =>
    rw [intsTo_succ, List.count_append]
    by_cases c : t = N
    · subst c
      have : (intsTo t).count (t : Int) = 0 := by
        rw [List.count_eq_zero]
        intro hm
        obtain ⟨i, hi, he⟩ := List.mem_map.1 hm
        have := List.mem_range.1 hi
        omega
      rw [this]
      simp
    · rw [ih (by omega)]
      have : ([(N : Int)]).count (t : Int) = 0 := by
        rw [List.count_eq_zero]
        intro hm
        rw [List.mem_singleton] at hm
        omega
      rw [this]
theorem made_l2 (l : List S54) (hl : l.length ≤ 4096) (N : Nat) (hN : N ≤ 60) (D : List Int) (hD : D.length = N) (h1 : ∀ t, t < N → rd D (t : Int) = 1) : ∀ d i : Nat, i + d = N → Ev (fun k => warplaw24_PoolMade.l2 k l (2 * (N : Int)) (N : Int) D (i : Int) l (2 * (N : Int))) true
  | 0, i, hi => by
    refine Ev.step (f := fun k => (warpref1_SameEvents.f k l l).bind fun t435 => (if t435 = true then (if 2 * (N : Int) = 2 * (N : Int) then (if 2 * (N : Int) = (wrap64 (2 * (N : Int))) then ((warplaw24_awake.f).bind fun t436 => (some t436)) else (some false)) else (some false)) else (some false))) (fun k => by rw [warplaw24_PoolMade.l2, if_neg (by omega)]) ?_
    refine Ev.bind_now (same_events l (by omega)) (f := fun k t435 => (if t435 = true then (if 2 * (N : Int) = 2 * (N : Int) then (if 2 * (N : Int) = (wrap64 (2 * (N : Int))) then ((warplaw24_awake.f).bind fun t436 => (some t436)) else (some false)) else (some false)) else (some false))) fun k => ?_
    rw [if_pos rfl, if_pos rfl, if_pos (by rw [wr64 (by omega) (by omega)])]
    exact awake24_some k
  | d + 1, i, hi => by
    refine Ev.step (fun k => ?_) (made_l2 l hl N hN D hD h1 d (i + 1) (by omega))
    rw [warplaw24_PoolMade.l2, if_pos (by omega), if_pos (by omega), if_pos (by omega), if_pos (h1 i (by omega)), wr64 (by omega) (by omega)]
    rfl
theorem made_l1 (l : List S54) (hl : l.length ≤ 4096) (n N : Nat) (hN : N ≤ 60) (hX : ∀ e ∈ l, 0 ≤ e.f1.f1 ∧ e.f1.f1 < (N : Int) ∧ 0 ≤ e.f0 ∧ e.f0 < (n : Int))
    (h : ∀ D : List Int, D.length = N → (∀ t, t < N → rd D (t : Int) = (((l.map fun e => e.f1.f1).count (t : Int) : Nat) : Int)) → Ev (fun k => warplaw24_PoolMade.l2 k l (2 * (N : Int)) (N : Int) D 0 l (2 * (N : Int))) true) :
    ∀ (d i : Nat) (D : List Int), i + d = l.length → D.length = N → (∀ t, t < N → rd D (t : Int) = ((((l.take i).map fun e => e.f1.f1).count (t : Int) : Nat) : Int)) → Ev (fun k => warplaw24_PoolMade.l1 k (n : Int) l (2 * (N : Int)) (N : Int) D (i : Int) l (2 * (N : Int))) true
  | 0, i, D, hi, hD, hc => by
    obtain rfl : i = l.length := by omega
    rw [List.take_length] at hc
    refine Ev.step (fun k => ?_) (h D hD hc)
    rw [warplaw24_PoolMade.l1, if_neg (by omega)]
  | d + 1, i, D, hi, hD, hc => by
    have hlt : i < l.length := by omega
    obtain ⟨e1, e2, e3, e4⟩ := hX l[i] (List.getElem_mem hlt)
    obtain ⟨t, ht⟩ := Int.eq_ofNat_of_zero_le e1
    have htN : t < N := by omega
    have hcnt : ((l.take i).map fun e => e.f1.f1).count (t : Int) ≤ 4096 := by
      have := List.count_le_length (a := (t : Int)) (l := (l.take i).map fun e => e.f1.f1)
      rw [List.length_map, List.length_take] at this
      omega
    have htk : (l.take (i + 1)).map (fun e => e.f1.f1) = (l.take i).map (fun e => e.f1.f1) ++ [(t : Int)] := by
      rw [List.take_succ_eq_append_getElem hlt, List.map_append, List.map_singleton, ht]
    refine Ev.step (f := fun k => warplaw24_PoolMade.j2 k (n : Int) l (2 * (N : Int)) (N : Int) D (i : Int) false l (2 * (N : Int))) (fun k => ?_) (Ev.step (fun k => ?_) (made_l1 l hl n N hN hX h d (i + 1) (D.set t (wrap64 (rd D (t : Int) + 1))) (by omega) (by rw [List.length_set]; exact hD) (fun q hq => ?_)))
    · rw [warplaw24_PoolMade.l1, if_pos (by omega), if_pos (by omega), rd54_get l i hlt, if_neg (by omega), if_neg (by omega), if_neg (by omega), decide_eq_false (by omega)]
    · rw [warplaw24_PoolMade.j2, if_neg (by simp), if_pos (by omega), if_pos (by omega), rd54_get l i hlt, ht, if_pos (by omega), if_pos (by omega), Int.toNat_natCast, wr64 (i := (i : Int) + 1) (by omega) (by omega)]
      rfl
    · rw [rd_set D t q _ (by omega), htk, List.count_append, List.count_singleton]
      by_cases c : q = t
      · subst c
        rw [if_pos rfl, hc q hq, wr64 (by omega) (by omega)]
        simp
      · rw [if_neg c, hc q hq, if_neg (by simp; omega)]
        omega
theorem made_l0 (x0 : List (List Int)) (hx : x0.length ≤ 100) (l : List S54) (n N : Nat) (hN : sumL x0 = N) (hN2 : N ≤ 60)
    (h : Ev (fun k => warplaw24_PoolMade.l1 k (n : Int) l (2 * (N : Int)) (N : Int) (List.replicate N 0) 0 l (2 * (N : Int))) true) :
    ∀ d i : Nat, i + d = x0.length → Ev (fun k => warplaw24_PoolMade.l0 k x0 (n : Int) l (2 * (N : Int)) (sumL (x0.take i) : Int) (i : Int) l (2 * (N : Int))) true
  | 0, i, hi => by
    obtain rfl : i = x0.length := by omega
    rw [List.take_length, hN]
    refine Ev.step (fun k => ?_) h
    rw [warplaw24_PoolMade.l0, if_neg (by omega), if_pos (by omega), Int.toNat_natCast, if_pos (by omega)]
  | d + 1, i, hi => by
    have hlt : i < x0.length := by omega
    have e : sumL (x0.take (i + 1)) = sumL (x0.take i) + x0[i].length := by
      rw [List.take_succ_eq_append_getElem hlt]
      unfold sumL
      rw [List.map_append, List.sum_append]
      simp only [List.map_cons, List.map_nil, List.sum_cons, List.sum_nil, Nat.add_zero]
    have hle : sumL (x0.take (i + 1)) ≤ N := by
      have e2 : sumL (x0.take (i + 1)) + sumL (x0.drop (i + 1)) = sumL x0 := by
        unfold sumL
        rw [← List.sum_append, ← List.map_append, List.take_append_drop]
      omega
    have hrd : rd_L4 x0 (i : Int) = x0[i] := by
      unfold rd_L4
      rw [Int.toNat_natCast, List.getD_eq_getElem?_getD, List.getElem?_eq_getElem hlt, Option.getD_some]
    refine Ev.step (fun k => ?_) (made_l0 x0 hx l n N hN hN2 h d (i + 1) (by omega))
    rw [warplaw24_PoolMade.l0, if_pos (by omega), if_pos (by omega), hrd, wr64 (by omega) (by omega), wr64 (by omega) (by omega), e]
    rfl
theorem PoolMade : warplaw24_PoolMade.Pure := by
  intro ns a1 L _ ha _
  refine Ev.rounds ?_
  have hw : 0 ≤ a1 ∧ a1 ≤ 255 := by
    simp [Lit.wf, IntKind.min, IntKind.max, IntKind.bits, IntKind.signed] at ha
    omega
  by_cases c : (L.length : Int) > 400
  · exact Ev.congr (f := fun k => some true) (fun k => by unfold warplaw24_PoolMade.f; rw [if_pos c]; exact awake24_some k) (Ev.now _)
  · refine Ev.congr (g := fun k => _) (f := fun k => _) (fun k => if_neg c) ?_
    obtain ⟨r, N, hr, hN, hr12, hf, h5⟩ := make_ev ns
    have hs : sumL r = N := sumL_made r N hf
    refine Ev.bind (f := fun k t486 => _) hr ?_
    obtain ⟨n, hn, hn1, hn2⟩ : ∃ n : Nat, wrap64 (1 + Int.tmod (wrap64 a1) 64) = (n : Int) ∧ 1 ≤ n ∧ n ≤ 64 := by
      have m1 := Int.tmod_nonneg 64 (a := a1) hw.1
      have m2 := Int.tmod_lt_of_pos a1 (b := 64) (by omega)
      refine ⟨(1 + Int.tmod a1 64).toNat, ?_, by omega, by omega⟩
      rw [wr64 (i := a1) (by omega) (by omega), wr64 (by omega) (by omega)]
      omega
    rw [hn]
    obtain ⟨l', S', busy', T', hp, hO, hl, hI⟩ := play_whole r n L hn1 hn2 (by omega) (fun x hx => by have := h5 x hx; omega) (by omega) (by omega) (fun S busy T l steps => 0 ≤ steps ∧ Waved r n S busy T l steps ∧ ∀ t, Once t (r.flatten.count t) n S busy T l)
      ⟨Int.le_refl _, Waved.start r (by omega) n, fun t => Once.start t r n⟩ (fun W wave r R left busy T l steps i hO hi hb h => ⟨by omega, Waved.take hO h.1 hi hb h.2.1, fun t => Once.take (steps := steps) hO hi hb (h.2.2 t)⟩)
      (fun W wave R left busy T l steps i hO hi hb h => ⟨by omega, Waved.done (by omega) hO hi hb h.2.1, fun t => Once.done (steps := steps) hO hi hb (h.2.2 t)⟩)
    obtain ⟨r1, r2, hp2, hr1, hpool⟩ := ref_pool r (n : Int) L (by omega) (by omega) (fun x hx => by have := h5 x hx; omega)
    rw [hp] at hp2
    simp only [Option.some.injEq, Prod.mk.injEq] at hp2
    obtain ⟨rfl, rfl⟩ := hp2
    rw [hp]
    show Ev (fun k => (warpref1_Pool.f k r (n : Int) L).bind fun bt418 => (warplaw24_PoolMade.l0 k r (n : Int) l' (2 * (sumL r : Int)) 0 0 bt418.1 bt418.2)) true
    refine Ev.bind (f := fun k bt418 => _) hpool ?_
    have hX : ∀ e ∈ l', 0 ≤ e.f1.f1 ∧ e.f1.f1 < (N : Int) ∧ 0 ≤ e.f0 ∧ e.f0 < (n : Int) := fun e he => by
      obtain ⟨b1, b2, b3, b4, b5, b6, b7, b8, b9⟩ := hI.2.1.2.2.1 e he
      have hm : e.f1.f1 ∈ r.flatten := by
        have hlt : e.f2.toNat < r.length := by omega
        rw [List.getD_eq_getElem?_getD, List.getElem?_eq_getElem hlt, Option.getD_some] at b7
        exact List.mem_flatten.2 ⟨_, List.getElem_mem hlt, b7⟩
      rw [hf] at hm
      obtain ⟨i, hi, he2⟩ := List.mem_map.1 hm
      have := List.mem_range.1 hi
      exact ⟨by omega, by omega, b8, b9⟩
    have hcount : ∀ t, t < N → (l'.map fun e => e.f1.f1).count (t : Int) = 1 := fun t ht => by
      have h1 := hI.2.2 (t : Int)
      obtain ⟨o1, o2, o3, o4, o5⟩ := hO
      have hS := o3 hl
      rw [hl] at o2
      have hR : S'.2.2.1 = [] := List.length_eq_zero_iff.1 (by omega)
      have hc : cntB n busy' = 0 := by omega
      unfold Once at h1
      rw [cnt_same n _ (fun _ => false) (fun j hj => by rw [cnt_none n _ hc j hj]; rfl), hS, hR, hf, count_intsTo N t ht, show cnt n (fun _ => false) = 0 by simp [cnt]] at h1
      simpa using h1
    rw [hs]
    refine made_l0 r (by omega) l' n N hs hN ?_ r.length 0 (by omega)
    refine made_l1 l' hr1 n N hN hX (fun D hD hDt => ?_) l'.length 0 _ (by omega) (by simp) (fun t ht => ?_)
    · exact made_l2 l' hr1 N hN D hD (fun t ht => by rw [hDt t ht, hcount t ht]; rfl) N 0 (by omega)
    · simp [rd, List.getD_eq_getElem?_getD, ht]
end Go.Proofs.YtbkdnenlffiaeaaDoor.Pure
