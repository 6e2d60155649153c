/-
The plain statement of PickTurns: in three rounds each who is enabled comes three times.
-/
import Derived.Test.YtbkdnenlffiaeaaDoorPickC
import Derived.Test.YtbkdnenlffiaeaaDoorPx8
namespace Go.Proofs.YtbkdnenlffiaeaaDoor.Pure
open Go.RowKit Go.Proofs.YtbkdnenlffiaeaaDoor.P Go.Proofs.YtbkdnenlffiaeaaDoor.Bits Go.Proofs.YtbkdnenlffiaeaaDoorW.PrintWords Go.Proofs.YtbkdnenlffiaeaaDoorW.PrintLast
/-- of the numbers below u, how many are q modulo n -/
def times (n q : Nat) : Nat → Nat
  | 0 => 0
  | u + 1 => times n q u + if u % n = q then 1 else 0
theorem times_small (n q : Nat) : ∀ m, m ≤ n → times n q m = if q < m then 1 else 0
  | 0, _ => by simp [times]
  | m + 1, h => by
    rw [times, times_small n q m (by omega), Nat.mod_eq_of_lt (by omega)]
    by_cases h1 : q < m
    · rw [if_pos h1, if_neg (by omega), if_pos (by omega)]
    · by_cases h2 : m = q
      · rw [if_neg h1, if_pos h2, if_pos (by omega)]
      · rw [if_neg h1, if_neg h2, if_neg (by omega)]
theorem times_round (n q : Nat) (h : q < n) : ∀ u, times n q (u + n) = times n q u + 1
  | 0 => by rw [Nat.zero_add, times_small n q n (Nat.le_refl _), if_pos h]; rfl
  | u + 1 => by
    rw [show u + 1 + n = (u + n) + 1 by omega, times, times_round n q h u, times, Nat.add_mod_right]
    omega
theorem times_le (n q : Nat) : ∀ u, times n q u ≤ u
  | 0 => Nat.le_refl _
  | u + 1 => by
    rw [times]
    have := times_le n q u
    split <;> omega
theorem sorted_lt (l : List Nat) (hs : l.Pairwise (· < ·)) (i j : Nat) (hij : i < j) (hj : j < l.length) : l.getD i 0 < l.getD j 0 := by
  have := List.pairwise_iff_getElem.1 hs i j (by omega) hj hij
  simpa [List.getD_eq_getElem?_getD, List.getElem?_eq_getElem hj, List.getElem?_eq_getElem (show i < l.length by omega)] using this
theorem sorted_inj (l : List Nat) (hs : l.Pairwise (· < ·)) (i j : Nat) (hi : i < l.length) (hj : j < l.length) (h : l.getD i 0 = l.getD j 0) : i = j := by
  rcases Nat.lt_trichotomy i j with c | c | c
  · have := sorted_lt l hs i j c hj; omega
  · exact c
  · have := sorted_lt l hs j i c hi; omega
theorem cntLe_own (l : List Nat) (hs : l.Pairwise (· < ·)) (p : Nat) (hp : p < l.length) : cntLe ((l.getD p 0 : Nat) : Int) l = p + 1 := by
  have h1 := (cntLe_first ((l.getD p 0 : Nat) : Int) l hs p hp).1 (Int.le_refl _)
  have h2 := cntLe_le ((l.getD p 0 : Nat) : Int) l
  by_cases c : p + 1 < l.length
  · have h3 := cntLe_first ((l.getD p 0 : Nat) : Int) l hs (p + 1) c
    have h4 := sorted_lt l hs p (p + 1) (by omega) c
    have h5 : ¬ p + 1 < cntLe ((l.getD p 0 : Nat) : Int) l := fun h => by have := h3.2 h; omega
    omega
  · omega
theorem turns_l2 (en : List Bool) (hl : en.length ≤ 70) (X : List Int) (hX : X.length = en.length) (h1 : ∀ q, q < (idx en).length → X.getD ((idx en).getD q 0) 0 = 3) (h2 : ∀ j, j < en.length → en.getD j false = false → X.getD j 0 = 0) : ∀ d i : Nat, i + d = en.length → Ev (fun k => warplaw2_PickTurns.l2 k en X (i : Int)) true
  | 0, i, h => by
    refine Ev.step (fun k => ?_) awake_some
    rw [warplaw2_PickTurns.l2, if_neg (by omega)]
  | d + 1, i, h => by
    have ih := turns_l2 en hl X hX h1 h2 d (i + 1) (by omega)
    have hj : Ev (fun k => warplaw2_PickTurns.j5 k en X (i : Int) false) true := by
      refine Ev.step (fun k => ?_) ih
      rw [warplaw2_PickTurns.j5, if_neg (by simp), wr64 (by omega) (by omega)]
      rfl
    refine Ev.step (fun k => ?_) hj
    rw [warplaw2_PickTurns.l2, if_pos (by omega), if_pos (by omega)]
    by_cases e : en.getD i false = true
    · have hm : i ∈ idx en := by
        unfold idx
        exact List.mem_filter.2 ⟨List.mem_range.2 (by omega), e⟩
      obtain ⟨q, hq, he⟩ := List.mem_iff_getElem.1 hm
      have h3 := h1 q hq
      have h4 : (idx en).getD q 0 = i := by rw [List.getD_eq_getElem?_getD, List.getElem?_eq_getElem hq]; exact he
      rw [h4] at h3
      rw [if_pos (by simpa [rdOf] using e), if_pos (by omega), if_pos (by rw [rd_nat]; exact h3)]
    · replace e : en.getD i false = false := by simpa using e
      have h3 := h2 i (by omega) e
      have e2 : rdOf false en (i : Int) = false := by simpa [rdOf] using e
      rw [if_neg (by rw [e2]; simp), if_pos (by omega), rd_nat, h3]
      rfl
theorem turns_l1 (en : List Bool) (hl : en.length ≤ 70) (h0 : 0 < (idx en).length) (p0 : Nat) (hp0 : p0 < (idx en).length) :
    ∀ (d t : Nat) (X : List Int) (last : Int), t + d = 3 * (idx en).length → X.length = en.length → cntLe last (idx en) % (idx en).length = (p0 + t) % (idx en).length →
    (∀ q, q < (idx en).length → X.getD ((idx en).getD q 0) 0 + (times (idx en).length q p0 : Int) = (times (idx en).length q (p0 + t) : Int)) → (∀ j, j < en.length → en.getD j false = false → X.getD j 0 = 0) →
    Ev (fun k => warplaw2_PickTurns.l1 k en ((idx en).length : Int) X (t : Int) [] 0 last) true
  | 0, t, X, last, ht, hX, hlast, hq, hd => by
    have hi := idx_le en
    refine Ev.step (fun k => ?_) (turns_l2 en hl X hX (fun q h => ?_) hd en.length 0 (by omega))
    · rw [warplaw2_PickTurns.l1, if_neg (by rw [wr64 (by omega) (by omega)]; omega)]
      rfl
    · have h1 := hq q h
      have e : p0 + t = p0 + (idx en).length + (idx en).length + (idx en).length := by omega
      rw [e, times_round _ _ h, times_round _ _ h, times_round _ _ h] at h1
      omega
  | d + 1, t, X, last, ht, hX, hlast, hq, hd => by
    have hi := idx_le en
    have hs := idx_sorted en
    have hn0 : idx en ≠ [] := fun e => by rw [e] at h0; simp at h0
    have hpl : placeS [] 0 last (idx en) = (p0 + t) % (idx en).length := by
      unfold placeS
      rw [if_neg (by simp), hlast]
    have hplt : (p0 + t) % (idx en).length < (idx en).length := Nat.mod_lt _ h0
    have hwho : whoS [] 0 last (idx en) = (((idx en).getD ((p0 + t) % (idx en).length) 0 : Nat) : Int) := by unfold whoS; rw [if_neg hn0, hpl]
    have hlst : lastS [] 0 last (idx en) = (((idx en).getD ((p0 + t) % (idx en).length) 0 : Nat) : Int) := by unfold lastS; rw [if_neg hn0, hwho]
    have hat : atS [] 0 (idx en) = 0 := by unfold atS; rw [if_neg hn0, if_neg (by simp)]
    have hnext := next_ev [] 0 last en (Nat.zero_le _) (by omega)
    rw [nextS, hwho, hlst, hat] at hnext
    obtain ⟨hm1, hm2⟩ := idx_mem en _ hplt
    have hc := cntLe_own (idx en) hs _ hplt
    generalize hw : (idx en).getD ((p0 + t) % (idx en).length) 0 = who at *
    have hx0 := hq _ hplt
    rw [hw] at hx0
    have hb := times_le (idx en).length ((p0 + t) % (idx en).length) (p0 + t)
    have hb0 := times_le (idx en).length ((p0 + t) % (idx en).length) p0
    have hset : ∀ j, (X.set who (X.getD who 0 + 1)).getD j 0 = if j = who then X.getD who 0 + 1 else X.getD j 0 := by
      intro j
      simp only [List.getD_eq_getElem?_getD, List.getElem?_set]
      by_cases c : who = j
      · rw [if_pos c, if_pos (by omega), if_pos c.symm]; rfl
      · rw [if_neg c, if_neg (Ne.symm c)]
    have ih := turns_l1 en hl h0 p0 hp0 d (t + 1) (X.set who (X.getD who 0 + 1)) (who : Int) (by omega) (by rw [List.length_set]; exact hX)
      (by rw [hc, Nat.mod_add_mod]; rfl)
      (fun q h => by
        rw [hset, show p0 + (t + 1) = (p0 + t) + 1 by omega, times]
        have h1 := hq q h
        by_cases c : q = (p0 + t) % (idx en).length
        · subst c
          rw [hw] at h1 ⊢
          rw [if_pos rfl, if_pos rfl]
          omega
        · have h2 : (idx en).getD q 0 ≠ who := fun e => c (sorted_inj (idx en) hs q _ h hplt (e.trans hw.symm))
          rw [if_neg h2, if_neg (fun e => c e.symm)]
          omega)
      (fun j h1 h2 => by
        rw [hset, if_neg (fun e => by rw [e, hm2] at h2; simp at h2)]
        exact hd j h1 h2)
    have hj : Ev (fun k => warplaw2_PickTurns.j3 k en ((idx en).length : Int) X (t : Int) (who : Int) false [] 0 (who : Int)) true := by
      refine Ev.step (fun k => ?_) ih
      rw [warplaw2_PickTurns.j3, if_neg (by simp), if_pos (by omega), if_pos (by omega), rd_nat, wr64 (by omega) (by omega), wr64 (by omega) (by omega), Int.toNat_natCast]
      rfl
    refine Ev.step (fun k => by rw [warplaw2_PickTurns.l1, if_pos (by rw [wr64 (by omega) (by omega)]; omega)]) ?_
    refine Ev.bind (f := fun k bt261 => _) hnext ?_
    refine Ev.congr (fun k => ?_) hj
    dsimp only
    rw [if_neg (by omega), if_neg (by omega), if_pos (by omega), if_pos (by omega)]
    have : rdOf false en (who : Int) = true := by simpa [rdOf] using hm2
    rw [this]
    rfl
theorem idx_off (n : Nat) : idx (List.replicate n false) = [] := by
  unfold idx
  rw [List.filter_eq_nil_iff]
  intro i hi
  simp [List.getD_eq_getElem?_getD, List.getElem?_replicate]
  split <;> simp
theorem turns_true (en : List Bool) (a1 x5 : Int) (h0 : 0 ≤ a1) (h1 : a1 ≤ 255) : Ev (fun k => warplaw2_PickTurns.j1 k en a1 x5 true) true := by
  refine Ev.step (fun k => by rw [warplaw2_PickTurns.j1, if_pos rfl, start_f [] (Nat.zero_le _), Option.bind_some, wr64 (by omega) (by omega)]) ?_
  have hm := Int.tmod_lt_of_pos a1 (b := 70) (by omega)
  have hm0 := Int.tmod_nonneg (70 : Int) h0
  refine Ev.congr (g := fun k => _) (f := fun k => _) (fun k => if_pos hm0) ?_
  refine Ev.congr (g := fun k => _) (f := fun k => _) (fun k => if_pos (by omega)) ?_
  have hn := next_ev [] 0 (-1) (List.replicate (a1.tmod 70).toNat false) (Nat.zero_le _) (by rw [List.length_replicate]; omega)
  have hw : nextS [] 0 (-1) (List.replicate (a1.tmod 70).toNat false) = (-1, [], 0, -1) := by
    rw [nextS, idx_off]
    rfl
  rw [hw] at hn
  refine Ev.bind (f := fun k bt249 => _) hn ?_
  exact Ev.congr (fun k => if_pos rfl) awake_some
theorem turns_l0 (en : List Bool) (hl : en.length ≤ 9223372036854775807) (a1 : Int) (r : Bool) (h : Ev (fun k => if (en.length : Int) > 70 then (warplaw2_PickTurns.j1 k en a1 ((idx en).length : Int) true) else (warplaw2_PickTurns.j1 k en a1 ((idx en).length : Int) (((idx en).length : Int) == 0))) r) :
    ∀ d i : Nat, i + d = en.length → Ev (fun k => warplaw2_PickTurns.l0 k en a1 ((idxTo en i).length : Int) (i : Int)) r
  | 0, i, hi => by
    obtain rfl : i = en.length := by omega
    refine Ev.step (fun k => ?_) h
    rw [warplaw2_PickTurns.l0, if_neg (by omega)]
    rfl
  | d + 1, i, hi => by
    have hle := idxTo_le en i
    have ih := turns_l0 en hl a1 r h d (i + 1) (by omega)
    rw [idxTo_succ] at ih
    refine Ev.step (fun k => ?_) ih
    rw [warplaw2_PickTurns.l0, if_pos (by omega), if_pos (by omega)]
    by_cases e : en.getD i false = true
    · rw [if_pos (by simpa [rdOf] using e), wr64 (by omega) (by omega), wr64 (by omega) (by omega), if_pos e]
      simp
    · rw [if_neg (by simpa [rdOf] using e), wr64 (by omega) (by omega), if_neg e]
      simp
theorem PickTurns : warplaw2_PickTurns.Pure := by
  intro en a1 g0 g1
  refine Ev.rounds ?_
  have hA : 0 ≤ a1 ∧ a1 ≤ 255 := by
    have h1 := g1
    simp [Lit.wf, IntKind.min, IntKind.max, IntKind.bits, IntKind.signed] at h1
    omega
  obtain ⟨h0, h1⟩ := hA
  have hlen : en.length ≤ 9223372036854775807 := Nat.le_trans g0.1 (by decide)
  refine Ev.congr (f := fun k => warplaw2_PickTurns.l0 k en a1 ((idxTo en 0).length : Int) ((0 : Nat) : Int)) (fun k => rfl) ?_
  refine turns_l0 en hlen a1 true ?_ en.length 0 (by omega)
  by_cases c : (en.length : Int) > 70
  · exact Ev.congr (fun k => if_pos c) (turns_true en a1 _ h0 h1)
  · refine Ev.congr (g := fun k => _) (f := fun k => _) (fun k => if_neg c) ?_
    by_cases c0 : (idx en).length = 0
    · rw [show (((idx en).length : Int) == 0) = true by rw [c0]; rfl]
      exact turns_true en a1 _ h0 h1
    · rw [show (((idx en).length : Int) == 0) = false by simp; intro e; exact c0 (by rw [e]; rfl)]
      have hp : 0 < (idx en).length := by omega
      refine Ev.step (fun k => by rw [warplaw2_PickTurns.j1, if_neg (by simp), if_pos (by omega), if_pos (by omega), Int.toNat_natCast, wr64 (by omega) (by omega)]) ?_
      refine turns_l1 en (by omega) hp (cntLe a1 (idx en) % (idx en).length) (Nat.mod_lt _ hp) (3 * (idx en).length) 0 (List.replicate en.length 0) a1 (by omega) (by simp) ?_ ?_ ?_
      · rw [Nat.add_zero, Nat.mod_mod]
      · intro q hq
        rw [Nat.add_zero]
        have : (List.replicate en.length (0 : Int)).getD ((idx en).getD q 0) 0 = 0 := by simp [List.getD_eq_getElem?_getD, List.getElem?_replicate]; split <;> rfl
        omega
      · intro j _ _
        simp [List.getD_eq_getElem?_getD, List.getElem?_replicate]
        split <;> rfl
end Go.Proofs.YtbkdnenlffiaeaaDoor.Pure
