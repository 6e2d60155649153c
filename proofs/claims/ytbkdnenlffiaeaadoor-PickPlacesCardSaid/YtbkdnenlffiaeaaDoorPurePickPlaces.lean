/-
The plain statement of PickPlaces: a pick chooses by its number.
-/
import Derived.Test.YtbkdnenlffiaeaaDoorPickC
import Derived.Test.YtbkdnenlffiaeaaDoorPx9
namespace Go.Proofs.YtbkdnenlffiaeaaDoor.Pure
open Go.RowKit Go.Proofs.YtbkdnenlffiaeaaDoor.P Go.Proofs.YtbkdnenlffiaeaaDoor.Bits Go.Proofs.YtbkdnenlffiaeaaDoorW.PrintWords Go.Proofs.YtbkdnenlffiaeaaDoorW.PrintLast
theorem numb_emod (x : Int) (n : Nat) (h : 0 < n) : numb x n = (x % (n : Int)).toNat := by
  have h2 := Int.lt_tmod_of_pos x (b := (n : Int)) (by omega)
  have h3 := Int.mul_tdiv_add_tmod x (n : Int)
  unfold numb
  rw [Int.tmod_eq_emod_of_nonneg (by omega), Int.add_emod_right]
  congr 1
  have h4 := Int.mul_add_emod_self_left (n : Int) (x.tdiv (n : Int)) (x.tmod (n : Int))
  rw [h3] at h4
  exact h4.symm
theorem numb_add (x : Int) (n : Nat) (h : 0 < n) : numb (x + n) n = numb x n := by rw [numb_emod _ n h, numb_emod _ n h, Int.add_emod_right]
theorem numb_succ (x : Int) (n : Nat) (h : 0 < n) : numb (x + 1) n = (numb x n + 1) % n := by
  have h1 := Int.emod_nonneg x (b := (n : Int)) (by omega)
  rw [numb_emod _ n h, numb_emod _ n h, ← Int.emod_add_emod]
  have e : x % (n : Int) + 1 = (((x % (n : Int)).toNat + 1 : Nat) : Int) := by omega
  rw [e, ← Int.natCast_emod, Int.toNat_natCast]
theorem sorted_lt (l : List Nat) (hs : l.Pairwise (· < ·)) (i j : Nat) (hij : i < j) (hj : j < l.length) : l.getD i 0 < l.getD j 0 := by
  have := List.pairwise_iff_getElem.1 hs i j (by omega) hj hij
  simpa [List.getD_eq_getElem?_getD, List.getElem?_eq_getElem hj, List.getElem?_eq_getElem (show i < l.length by omega)] using this
theorem cntLe_own (l : List Nat) (hs : l.Pairwise (· < ·)) (p : Nat) (hp : p < l.length) : cntLe ((l.getD p 0 : Nat) : Int) l = p + 1 := by
  have h1 := (cntLe_first ((l.getD p 0 : Nat) : Int) l hs p hp).1 (Int.le_refl _)
  have h2 := cntLe_le ((l.getD p 0 : Nat) : Int) l
  by_cases c : p + 1 < l.length
  · have h3 := cntLe_first ((l.getD p 0 : Nat) : Int) l hs (p + 1) c
    have h4 := sorted_lt l hs p (p + 1) (by omega) c
    have h5 : ¬ p + 1 < cntLe ((l.getD p 0 : Nat) : Int) l := fun h => by have := h3.2 h; omega
    omega
  · omega
/-- who is next by the pick x -/
theorem next_one (x : Int) (en : List Bool) (he : en.length ≤ 1000000) (h0 : idx en ≠ []) : Ev (fun k => pick_Next.f k [x] 0 (-1) en) ((((idx en).getD (numb x (idx en).length) 0 : Nat) : Int), [x], 1, (((idx en).getD (numb x (idx en).length) 0 : Nat) : Int)) := by
  have h := next_ev [x] 0 (-1) en (by simp) he
  have hp : placeS [x] 0 (-1) (idx en) = numb x (idx en).length := by unfold placeS; rw [if_pos (by simp)]; rfl
  have hw : whoS [x] 0 (-1) (idx en) = (((idx en).getD (numb x (idx en).length) 0 : Nat) : Int) := by unfold whoS; rw [if_neg h0, hp]
  have hl : lastS [x] 0 (-1) (idx en) = (((idx en).getD (numb x (idx en).length) 0 : Nat) : Int) := by unfold lastS; rw [if_neg h0, hw]
  have ha : atS [x] 0 (idx en) = 1 := by unfold atS; rw [if_neg h0, if_pos (by simp)]; rfl
  rw [nextS, hw, hl, ha] at h
  exact h
theorem start_ev (x : Int) : Ev (fun _ : Nat => pick_Start.f [x]) ([x], 0, -1) := by
  rw [start_f [x] (by rw [List.length_singleton]; omega)]
  exact Ev.now _
theorem rd_l (l : List Nat) (p : Nat) : rd (ints l) (p : Int) = ((l.getD p 0 : Nat) : Int) := rd_ints l p
theorem places_l0 (x : Int) (en : List Bool) (he : en.length ≤ 1000000) (r : Bool) (h : Ev (fun k => warplaw2_PickPlaces.l0 k x en (ints (idxTo en en.length)) (en.length : Int)) r) :
    ∀ d i : Nat, i + d = en.length → Ev (fun k => warplaw2_PickPlaces.l0 k x en (ints (idxTo en i)) (i : Int)) r
  | 0, i, hi => by
    obtain rfl : i = en.length := by omega
    exact h
  | d + 1, i, hi => by
    have hle := idxTo_le en i
    have ih := places_l0 x en he r h d (i + 1) (by omega)
    rw [idxTo_succ] at ih
    refine Ev.step (fun k => ?_) ih
    rw [warplaw2_PickPlaces.l0, if_pos (by omega), if_pos (by omega)]
    by_cases e : en.getD i false = true
    · rw [if_pos (by simpa [rdOf] using e), if_pos (by rw [List.length_map]; omega), wr64 (by omega) (by omega), if_pos e]
      simp
    · rw [if_neg (by simpa [rdOf] using e), wr64 (by omega) (by omega), if_neg e]
      simp
theorem places_end (x : Int) (en : List Bool) (he : en.length ≤ 70) (hx0 : -1099511627776 ≤ x) (hx1 : x ≤ 1099511627776) : Ev (fun k => warplaw2_PickPlaces.l0 k x en (ints (idx en)) (en.length : Int)) true := by
  have hi := idx_le en
  have hs := idx_sorted en
  refine Ev.step (fun k => by rw [warplaw2_PickPlaces.l0, if_neg (by omega), List.length_map]) ?_
  by_cases h0 : idx en = []
  · exact Ev.congr (fun k => if_pos (by rw [h0]; rfl)) awake_some
  · have hp : 0 < (idx en).length := List.length_pos_iff.2 h0
    have h1 := next_one x en (by omega) h0
    have h2 := next_one (x + (idx en).length) en (by omega) h0
    have h3 := next_one (x + 1) en (by omega) h0
    rw [numb_add x _ hp] at h2
    rw [numb_succ x _ hp] at h3
    have hn := numb_lt x _ hp
    have hnm := Nat.mod_lt (numb x (idx en).length + 1) hp
    have h4 := next_ev [x] 1 (((idx en).getD (numb x (idx en).length) 0 : Nat) : Int) en (by simp) (by omega)
    have hpl : placeS [x] 1 (((idx en).getD (numb x (idx en).length) 0 : Nat) : Int) (idx en) = (numb x (idx en).length + 1) % (idx en).length := by unfold placeS; rw [if_neg (by simp), cntLe_own _ hs _ hn]
    have hw : whoS [x] 1 (((idx en).getD (numb x (idx en).length) 0 : Nat) : Int) (idx en) = (((idx en).getD ((numb x (idx en).length + 1) % (idx en).length) 0 : Nat) : Int) := by unfold whoS; rw [if_neg h0, hpl]
    unfold nextS at h4
    refine Ev.congr (g := fun k => _) (f := fun k => _) (fun k => if_neg (by omega)) ?_
    have s1 := start_ev x
    have s2 := start_ev (x + (idx en).length)
    have s3 := start_ev (x + 1)
    rw [wr64 (i := x + ((idx en).length : Int)) (by omega) (by omega), wr64 (i := x + 1) (by omega) (by omega)]
    refine Ev.bind (f := fun k bt286 => _) s1 ?_
    dsimp only
    refine Ev.bind (f := fun k bt291 => _) h1 ?_
    dsimp only
    refine Ev.bind (f := fun k bt301 => _) s2 ?_
    dsimp only
    refine Ev.bind (f := fun k bt306 => _) h2 ?_
    dsimp only
    refine Ev.bind (f := fun k bt316 => _) s3 ?_
    dsimp only
    refine Ev.bind (f := fun k bt321 => _) h3 ?_
    dsimp only
    refine Ev.bind (f := fun k bt328 => _) h4 ?_
    dsimp only
    rw [numb_eq x _ hp (by omega), wr64 (by omega) (by omega), hw]
    have e1 : ((numb x (idx en).length : Int) + 1).tmod ((idx en).length : Int) = (((numb x (idx en).length + 1) % (idx en).length : Nat) : Int) := by rw [← tmod_nat]; rfl
    rw [e1, rd_l, rd_l]
    refine Ev.congr (fun k => ?_) awake_some
    rw [if_pos (by omega), if_pos (by omega), if_pos rfl, if_pos rfl, if_pos (by omega), if_pos (by omega), if_pos rfl, if_pos rfl]
theorem PickPlaces : warplaw2_PickPlaces.Pure := by
  intro x en _ _
  refine Ev.rounds ?_
  have hT : Ev (fun k => warplaw2_PickPlaces.j0 k x en true) true := Ev.step (fun k => by rw [warplaw2_PickPlaces.j0, if_pos rfl]) awake_some
  by_cases c1 : (en.length : Int) > 70
  · exact Ev.congr (fun k => by unfold warplaw2_PickPlaces.f; rw [if_pos c1]) hT
  · by_cases c2 : x > 1099511627776
    · exact Ev.congr (fun k => by unfold warplaw2_PickPlaces.f; rw [if_neg c1, if_pos c2]) hT
    · by_cases c3 : x < -1099511627776
      · exact Ev.congr (fun k => by unfold warplaw2_PickPlaces.f; rw [if_neg c1, if_neg c2, decide_eq_true c3]) hT
      · refine Ev.congr (f := fun k => warplaw2_PickPlaces.j0 k x en false) (fun k => by unfold warplaw2_PickPlaces.f; rw [if_neg c1, if_neg c2, decide_eq_false c3]) ?_
        refine Ev.step (fun k => by rw [warplaw2_PickPlaces.j0, if_neg (by simp)]) ?_
        exact places_l0 x en (by omega) true (places_end x en (by omega) (by omega) (by omega)) en.length 0 (by omega)
end Go.Proofs.YtbkdnenlffiaeaaDoor.Pure
