/-
Who is next: what the printed Next of the program and Pick of the reference come to: one plain function. Condition: lists are short.
-/
import Derived.Test.YtmaiicpaalbcfaaDoorPickA
import Derived.Test.YtmaiicpaalbcfaaDoorPx15
import Derived.Test.YtmaiicpaalbcfaaDoorPx16
namespace Go.Proofs.YtmaiicpaalbcfaaDoor.P
open Go.RowKit Go.Proofs.YtmaiicpaalbcfaaDoor.Bits Go.Proofs.YtmaiicpaalbcfaaDoorW.PrintWords Go.Proofs.YtmaiicpaalbcfaaDoorW.PrintLast Go.Proofs.YtmaiicpaalbcfaaDoorW.PrintMore
set_option linter.unusedSimpArgs false
set_option linter.unusedVariables false
/-- a pick's number, among so many -/
def numb (x : Int) (n : Nat) : Nat := ((x.tmod n + n).tmod n).toNat
theorem numb_lt (x : Int) (n : Nat) (h : 0 < n) : numb x n < n := by
  unfold numb
  have h1 := Int.tmod_lt_of_pos (x.tmod n + n) (b := (n : Int)) (by omega)
  omega
theorem numb_eq (x : Int) (n : Nat) (h : 0 < n) (hn : n ≤ 1000000) : (wrap64 (x.tmod n + n)).tmod n = (numb x n : Int) := by
  have h1 := Int.tmod_lt_of_pos x (b := (n : Int)) (by omega)
  have h2 := Int.lt_tmod_of_pos x (b := (n : Int)) (by omega)
  rw [wr64 (by omega) (by omega)]
  unfold numb
  have h3 := Int.tmod_nonneg (n : Int) (a := x.tmod n + n) (by omega)
  omega
/-- which of those who are enabled, where it stands -/
def placeS (L : List Int) (at_ last : Int) (l : List Nat) : Nat :=
  if 0 ≤ at_ ∧ at_ < (L.length : Int) then numb (rd L at_) l.length else cntLe last l % l.length
def whoS (L : List Int) (at_ last : Int) (l : List Nat) : Int := if l = [] then -1 else ((l.getD (placeS L at_ last l) 0 : Nat) : Int)
def atS (L : List Int) (at_ : Int) (l : List Nat) : Int := if l = [] then at_ else if 0 ≤ at_ ∧ at_ < (L.length : Int) then at_ + 1 else at_
def lastS (L : List Int) (at_ last : Int) (l : List Nat) : Int := if l = [] then last else whoS L at_ last l
def nextS (L : List Int) (at_ last : Int) (en : List Bool) : Int × List Int × Int × Int := (whoS L at_ last (idx en), L, atS L at_ (idx en), lastS L at_ last (idx en))
theorem placeS_lt (L : List Int) (at_ last : Int) (l : List Nat) (h : l ≠ []) : placeS L at_ last l < l.length := by
  have hp : 0 < l.length := List.length_pos_iff.2 h
  unfold placeS
  split
  · exact numb_lt _ _ hp
  · exact Nat.mod_lt _ hp
theorem idx_le (en : List Bool) : (idx en).length ≤ en.length := by
  have := List.length_filter_le (fun i => en.getD i false) (List.range en.length)
  simpa [idx] using this
theorem tmod_nat (a b : Nat) : Int.tmod (a : Int) (b : Int) = ((a % b : Nat) : Int) := (Int.ofNat_tmod a b).symm
theorem Ev.bind_now {α β : Type} {g : Nat → Option α} {f : Nat → α → Option β} {a : α} {r : β} (h : Ev g a) (k : ∀ n, f n a = some r) : Ev (fun n => (g n).bind (f n)) r := Ev.bind h (Ev.congr k (Ev.now r))
/-! ### the program's -/
theorem next_j0 (W : List Nat) (hl : W.length ≤ 1000000) (hW : ∀ w ∈ W, w < 18446744073709551616) (n : Nat) (hn : n < (flat 0 W).length) (L : List Int) (at_ last : Int) : Ev (fun k => pick_Next.j0 k (ints W) (n : Int) L at_ last) ((((flat 0 W).getD n 0 : Nat) : Int), L, at_, (((flat 0 W).getD n 0 : Nat) : Int)) := by
  refine Ev.step (fun k => ?_) (Ev.bind_now (at_ev W hl hW n hn) (f := fun _ t122 => some (t122, L, at_, t122)) fun _ => rfl)
  rw [pick_Next.j0]
theorem next_ev (L : List Int) (at_ last : Int) (en : List Bool) (hL : L.length ≤ 1000000) (he : en.length ≤ 1000000) : Ev (fun k => pick_Next.f k L at_ last en) (nextS L at_ last en) := by
  obtain ⟨W, hI, hW⟩ := of_ev en he
  have hw := hI.2.1
  have hl : W.length ≤ 1000000 := by rw [hI.1]; omega
  have hf := flat_idx hI
  have hi := idx_le en
  unfold nextS
  have hc := count_ev W hl hw
  have hb := below_ev W hl hw last
  have hat := at_ev W hl hw
  have hj := next_j0 W hl hw
  rw [hf] at hc hb hat hj
  refine Ev.bind (f := fun k t116 => _) hW ?_
  refine Ev.bind (f := fun k t119 => _) hc ?_
  by_cases h0 : idx en = []
  · simp only [whoS, atS, lastS, h0, if_true]
    exact Ev.congr (fun k => if_pos rfl) (Ev.now _)
  · have hp : 0 < (idx en).length := List.length_pos_iff.2 h0
    have h1 := placeS_lt L at_ last (idx en) h0
    simp only [whoS, atS, lastS, h0, if_false]
    generalize idx en = l at *
    refine Ev.congr (g := fun k => _) (f := fun k => _) (fun k => if_neg (by omega)) ?_
    refine Ev.bind (f := fun k t120 => _) hb ?_
    by_cases h2 : at_ ≥ 0
    · refine Ev.congr (g := fun k => _) (f := fun k => _) (fun k => if_pos h2) ?_
      by_cases h3 : at_ < (L.length : Int)
      · have hpl : placeS L at_ last l = numb (rd L at_) l.length := by unfold placeS; rw [if_pos ⟨h2, h3⟩]
        rw [if_pos (show 0 ≤ at_ ∧ at_ < (L.length : Int) from ⟨h2, h3⟩)]
        refine Ev.congr (fun k => ?_) (hj (placeS L at_ last l) h1 L (at_ + 1) last)
        rw [if_pos h3, if_pos h2, numb_eq _ _ hp (by omega), wr64 (by omega) (by omega), hpl]
      · have hpl : placeS L at_ last l = cntLe last l % l.length := by unfold placeS; rw [if_neg (by omega)]
        rw [if_neg (show ¬ (0 ≤ at_ ∧ at_ < (L.length : Int)) by omega)]
        refine Ev.congr (fun k => ?_) (hj (placeS L at_ last l) h1 L at_ last)
        rw [if_neg h3, tmod_nat, hpl]
    · have hpl : placeS L at_ last l = cntLe last l % l.length := by unfold placeS; rw [if_neg (by omega)]
      refine Ev.congr (g := fun k => _) (f := fun k => _) (fun k => if_neg h2) ?_
      rw [tmod_nat, ← hpl]
      rw [if_neg (by omega)]
      exact Ev.bind_now (f := fun _ t123 => some (t123, L, at_, t123)) (hat _ h1) fun _ => rfl
/-! ### the reference's -/
def idxTo (en : List Bool) (i : Nat) : List Nat := (List.range i).filter fun i => en.getD i false
theorem idxTo_succ (en : List Bool) (i : Nat) : idxTo en (i + 1) = idxTo en i ++ (if en.getD i false = true then [i] else []) := by
  unfold idxTo
  rw [List.range_succ, List.filter_append]
  congr 1
  by_cases h : en.getD i false = true
  · rw [if_pos h, List.filter_cons_of_pos (by simpa using h)]; rfl
  · rw [if_neg h, List.filter_cons_of_neg (by simpa using h)]; rfl
theorem idxTo_le (en : List Bool) (i : Nat) : (idxTo en i).length ≤ i := by
  have := List.length_filter_le (fun i => en.getD i false) (List.range i)
  simpa [idxTo] using this
theorem pick_l0 (en : List Bool) (he : en.length ≤ 1000000) (L : List Int) (at_ last : Int) (r : Int × List Int × Int × Int)
    (h : Ev (fun k => if ((ints (idx en)).length : Int) = 0 then (some ((-1), L, at_, last)) else (if at_ ≥ 0 then (warpref1_Pick.j1 k (ints (idx en)) ((ints (idx en)).length : Int) (decide (at_ < (L.length : Int))) L at_ last) else (warpref1_Pick.j1 k (ints (idx en)) ((ints (idx en)).length : Int) false L at_ last))) r) :
    ∀ d i : Nat, i + d = en.length → Ev (fun k => warpref1_Pick.l0 k en (ints (idxTo en i)) (i : Int) L at_ last) r
  | 0, i, hi => by
    obtain rfl : i = en.length := by omega
    refine Ev.step (fun k => ?_) h
    rw [warpref1_Pick.l0, if_neg (by omega)]
    rfl
  | d + 1, i, hi => by
    have hle := idxTo_le en i
    have ih := pick_l0 en he L at_ last r h d (i + 1) (by omega)
    rw [idxTo_succ] at ih
    refine Ev.step (fun k => ?_) ih
    rw [warpref1_Pick.l0, if_pos (by omega), if_pos (by omega)]
    by_cases e : en.getD i false = true
    · rw [if_pos (by simpa [rdOf] using e), if_pos (by rw [List.length_map]; omega), wr64 (by omega) (by omega), if_pos e]
      simp
    · rw [if_neg (by simpa [rdOf] using e), wr64 (by omega) (by omega), if_neg e]
      simp
theorem cntLe_first (m : Int) : ∀ l : List Nat, l.Pairwise (· < ·) → ∀ i, i < l.length → (((l.getD i 0 : Nat) : Int) ≤ m ↔ i < cntLe m l)
  | [], _, i, h => by simp at h
  | a :: l, hs, i, h => by
    rw [List.pairwise_cons] at hs
    rw [cntLe_cons]
    cases i with
    | zero =>
      simp only [List.getD_cons_zero]
      by_cases c : (a : Int) ≤ m
      · rw [if_pos c]
        exact ⟨fun _ => by omega, fun _ => c⟩
      · rw [if_neg c]
        have : cntLe m l = 0 := by
          unfold cntLe
          rw [List.length_eq_zero_iff, List.filter_eq_nil_iff]
          intro b hb
          have := hs.1 b hb
          simp only [decide_eq_true_eq]
          omega
        omega
    | succ i =>
      rw [List.getD_cons_succ]
      have ih := cntLe_first m l hs.2 i (by simpa using h)
      by_cases c : (a : Int) ≤ m
      · rw [if_pos c, ih]; omega
      · rw [if_neg c, ih]
        have : cntLe m l = 0 := by
          unfold cntLe
          rw [List.length_eq_zero_iff, List.filter_eq_nil_iff]
          intro b hb
          have := hs.1 b hb
          simp only [decide_eq_true_eq]
          omega
        omega
theorem pick_l1 (l : List Nat) (hl : l.length ≤ 1000000) (hs : l.Pairwise (· < ·)) (h0 : 0 < l.length) (L : List Int) (at_ last : Int) : ∀ d i : Nat, i + d = cntLe last l →
    Ev (fun k => warpref1_Pick.l1 k (ints l) (l.length : Int) (i : Int) L at_ last) (((l.getD (cntLe last l % l.length) 0 : Nat) : Int), L, at_, ((l.getD (cntLe last l % l.length) 0 : Nat) : Int))
  | 0, i, h => by
    have hc := cntLe_le last l
    obtain rfl : i = cntLe last l := by omega
    by_cases e : cntLe last l = l.length
    · refine Ev.step (f := fun k => warpref1_Pick.j3 k (ints l) (l.length : Int) (cntLe last l : Int) L at_ last) (fun k => ?_) (Ev.step (f := fun _ => _) (fun k => ?_) (Ev.now _))
      · rw [warpref1_Pick.l1, if_neg (by omega)]
      · rw [warpref1_Pick.j3, if_pos (by omega), if_pos (by rw [List.length_map]; omega), e, Nat.mod_self]
        have := rd_ints l 0
        rw [show ((0 : Nat) : Int) = 0 from rfl] at this
        rw [this]
    · refine Ev.step (f := fun k => warpref1_Pick.j3 k (ints l) (l.length : Int) (cntLe last l : Int) L at_ last) (fun k => ?_) (Ev.step (f := fun _ => _) (fun k => ?_) (Ev.now _))
      · have hr := mt (cntLe_first last l hs (cntLe last l) (by omega)).1 (by omega)
        rw [warpref1_Pick.l1, if_pos (by omega), if_pos (by omega), if_pos (by rw [List.length_map]; omega), if_neg (by rw [rd_ints]; exact hr)]
      · rw [warpref1_Pick.j3, if_neg (by omega), if_pos (by omega), if_pos (by rw [List.length_map]; omega), rd_ints, Nat.mod_eq_of_lt (by omega)]
  | d + 1, i, h => by
    have hc := cntLe_le last l
    refine Ev.step (fun k => ?_) (pick_l1 l hl hs h0 L at_ last d (i + 1) (by omega))
    have hr := (cntLe_first last l hs i (by omega)).2 (by omega)
    rw [warpref1_Pick.l1, if_pos (by omega), if_pos (by omega), if_pos (by rw [List.length_map]; omega), if_pos (by rw [rd_ints]; exact hr), wr64 (by omega) (by omega)]
    rfl
theorem pick_ev (L : List Int) (at_ last : Int) (en : List Bool) (hL : L.length ≤ 1000000) (he : en.length ≤ 1000000) : Ev (fun k => warpref1_Pick.f k L at_ last en) (nextS L at_ last en) := by
  have hs := idx_sorted en
  have hi := idx_le en
  refine Ev.congr (f := fun k => warpref1_Pick.l0 k en (ints (idxTo en 0)) ((0 : Nat) : Int) L at_ last) (fun k => rfl) ?_
  refine pick_l0 en he L at_ last _ ?_ en.length 0 (by omega)
  unfold nextS
  by_cases h0 : idx en = []
  · simp only [whoS, atS, lastS, h0, if_true]
    exact Ev.congr (fun k => if_pos rfl) (Ev.now _)
  · have hp : 0 < (idx en).length := List.length_pos_iff.2 h0
    have h1 := placeS_lt L at_ last (idx en) h0
    simp only [whoS, atS, lastS, h0, if_false]
    generalize idx en = l at *
    refine Ev.congr (f := fun k => warpref1_Pick.j1 k (ints l) (l.length : Int) (decide (0 ≤ at_ ∧ at_ < (L.length : Int))) L at_ last) (fun k => ?_) ?_
    · rw [List.length_map, if_neg (by omega)]
      by_cases h2 : at_ ≥ 0
      · rw [if_pos h2]
        have : (0 ≤ at_ ∧ at_ < (L.length : Int)) = (at_ < (L.length : Int)) := by simp; omega
        simp only [this]
      · rw [if_neg h2, decide_eq_false (by omega)]
    · by_cases h2 : 0 ≤ at_ ∧ at_ < (L.length : Int)
      · have hpl : placeS L at_ last l = numb (rd L at_) l.length := by unfold placeS; rw [if_pos h2]
        refine Ev.step (f := fun _ => _) (fun k => ?_) (Ev.now _)
        rw [decide_eq_true h2, warpref1_Pick.j1, if_pos rfl, if_pos h2.1, if_pos h2.2, if_neg (by omega), numb_eq _ _ hp (by omega), if_pos (by omega), if_pos (by rw [List.length_map]; omega), wr64 (by omega) (by omega), rd_ints, ← hpl, if_pos h2]
      · have hpl : placeS L at_ last l = cntLe last l % l.length := by unfold placeS; rw [if_neg h2]
        rw [decide_eq_false h2, if_neg h2, hpl]
        refine Ev.step (fun k => ?_) (pick_l1 l (by omega) hs hp L at_ last (cntLe last l) 0 (by omega))
        rw [warpref1_Pick.j1, if_neg (by simp)]
        rfl
theorem idx_mem (en : List Bool) (n : Nat) (h : n < (idx en).length) : (idx en).getD n 0 < en.length ∧ en.getD ((idx en).getD n 0) false = true := by
  have hm : (idx en).getD n 0 ∈ idx en := by
    rw [List.getD_eq_getElem?_getD, List.getElem?_eq_getElem h]
    exact List.getElem_mem h
  exact idx_lt hm
end Go.Proofs.YtmaiicpaalbcfaaDoor.P
