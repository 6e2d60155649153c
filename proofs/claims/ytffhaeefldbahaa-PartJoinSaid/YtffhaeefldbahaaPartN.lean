/-
What the fold of unitings is: a partition; finer is an order of partitions. No condition.
-/
import Derived.Test.YtffhaeefldbahaaPartM
namespace Go.Proofs.Ytffhaeefldbahaa
open Go.RowKit
theorem iota_getD (n i : Nat) (h : i < n) : (iota n).getD i 0 = (i : Int) := by simp [iota, List.getD_eq_getElem?_getD, h]
theorem good_iota (n : Nat) : allGood (iota n) := fun i hi => by
  rw [iota_length] at hi
  refine ⟨?_, ?_, ?_⟩ <;> rw [iota_getD n i hi]
  · omega
  · omega
  · rw [show ((i : Int)).toNat = i by omega, iota_getD n i hi]
theorem good_unite {l : List Int} (h : allGood l) (x y : Int) : allGood (uniteL l x y) := by
  by_cases ht : thereB l.length x y = true
  · have ⟨h0, h1, h2, h3⟩ := (thereB_iff _ _ _).1 ht
    have gx := h x.toNat (by omega)
    have gy := h y.toNat (by omega)
    obtain ⟨a, ha⟩ : ∃ a, a = l.getD x.toNat 0 := ⟨_, rfl⟩
    obtain ⟨b, hb⟩ : ∃ b, b = l.getD y.toNat 0 := ⟨_, rfl⟩
    unfold goodAt at gx gy
    rw [← ha] at gx
    rw [← hb] at gy
    intro i hi
    rw [uniteL_length] at hi
    have gi := h i hi
    unfold uniteL
    rw [if_pos ht, ← ha, ← hb]
    unfold goodAt at *
    obtain ⟨c, hc⟩ : ∃ c, c = l.getD i 0 := ⟨_, rfl⟩
    rw [← hc] at gi
    rw [map_getD _ _ _ hi, ← hc]
    have hlo : l.getD (min a b).toNat 0 = min a b := by
      rcases Int.le_total a b with h | h
      · rw [Int.min_eq_left h]; exact gx.2.2
      · rw [Int.min_eq_right h]; exact gy.2.2
    by_cases hch : c = max a b
    · have hr : (min a b).toNat < l.length := by omega
      rw [swap_yes hch]
      refine ⟨by omega, by omega, ?_⟩
      rw [map_getD _ _ _ hr, hlo]
      unfold swap
      split <;> omega
    · rw [swap_no hch]
      refine ⟨gi.1, gi.2.1, ?_⟩
      rw [map_getD _ _ _ (by omega), gi.2.2, swap_no hch]
  · rw [uniteL_no ht]
    exact h
theorem good_fold : ∀ (ps : Pairs) (q : List Int), allGood q → allGood (ps.foldl (fun q p => uniteL q p.1 p.2) q)
  | [], _, h => h
  | p :: ps, q, h => by
    rw [List.foldl_cons]
    exact good_fold ps _ (good_unite h p.1 p.2)
theorem good_ofL (n : Int) (ps : Pairs) : allGood (ofL n ps) := good_fold ps _ (good_iota _)
theorem good_range {l : List Int} (h : allGood l) : ∀ i, i < l.length → 0 ≤ l.getD i 0 ∧ l.getD i 0 < l.length := fun i hi => by
  have := h i hi
  exact ⟨this.1, by have := this.2.1; omega⟩
theorem leB_iff (l m : List Int) : leB l m = true ↔ (l.length = m.length ∧ ∀ i, i < l.length → m.getD i 0 = m.getD (l.getD i 0).toNat 0) := by simp [leB]
theorem leB_self {l : List Int} (h : allGood l) : leB l l = true := (leB_iff _ _).2 ⟨rfl, fun i hi => ((h i hi).2.2).symm⟩
theorem leB_trans {a b c : List Int} (ha : allGood a) (h1 : leB a b = true) (h2 : leB b c = true) : leB a c = true := by
  rw [leB_iff] at *
  refine ⟨h1.1.trans h2.1, fun i hi => ?_⟩
  have r := good_range ha i hi
  rw [h2.2 i (by omega), h1.2 i hi, ← h2.2 _ (by omega)]
theorem leB_anti {a b : List Int} (ha : allGood a) (hb : allGood b) (h1 : leB a b = true) (h2 : leB b a = true) : a = b := by
  rw [leB_iff] at *
  refine getD_ext h1.1 fun i hi => ?_
  have ra := good_range ha i hi
  have rb := good_range hb i (by omega)
  have g1 := (hb (a.getD i 0).toNat (by omega)).2.1
  have g2 := (ha (b.getD i 0).toNat (by omega)).2.1
  rw [← h1.2 i hi] at g1
  rw [← h2.2 i (by omega)] at g2
  omega
theorem leB_both {a b : List Int} (ha : allGood a) (hb : allGood b) : ((leB a b && leB b a) == decide (a = b)) = true := by
  by_cases h : a = b
  · subst h
    simp [leB_self ha]
  · have : (leB a b && leB b a) = false := by
      rw [Bool.eq_false_iff]
      intro hh
      rw [Bool.and_eq_true] at hh
      exact h (leB_anti ha hb hh.1 hh.2)
    rw [this]
    simp [h]
theorem leB_iota {n : Nat} {a : List Int} (h : a.length = n) : leB (iota n) a = true := by
  rw [leB_iff, iota_length]
  refine ⟨h.symm, fun i hi => ?_⟩
  rw [iota_getD n i hi, show ((i : Int)).toNat = i by omega]
/-! ### Of a list's pairs -/
theorem rowP_of_own {w : World} {base : Nat} {v : Value} {ps : Pairs} (hl : ps.length ≤ 65536) (h : w.ownsRow base 26 2 v ps.length (cellsP ps)) : ∃ A c, v = .slice A ps.length c ∧ RowP w A ps := by
  rcases Nat.eq_zero_or_pos ps.length with h0 | h0
  · obtain rfl : ps = [] := List.eq_nil_of_length_eq_zero h0
    rcases h.2 with ⟨rfl, _⟩ | ⟨g, cap, cur, rfl, _⟩
    · exact ⟨none, 0, rfl, Row.nil _ _⟩
    · exact ⟨_, cap, rfl, Row.nil _ _⟩
  · rcases h.2 with ⟨_, h1⟩ | ⟨g, cap, cur, rfl, _, _, h1, h2, _⟩
    · omega
    · refine ⟨_, cap, rfl, cellsP_length ps, by omega, fun _ => ⟨_, rfl, fun j hj => h.cells (g := g) rfl j _ ?_⟩⟩
      simp [List.getD_eq_getElem?_getD, List.getElem?_eq_getElem (show j < (cellsP ps).length by rw [cellsP_length]; omega)]
def PairsR (ps : Pairs) (w : World) (e : Ending) (w' : World) : Prop := ∃ A c, e = .returned (.slice A ps.length c) ∧ RowP w' A ps ∧ Below w.heap.size w w'
theorem pairsL_length (l : List Int) (n : Int) : (pairsL l n).length ≤ l.length := by
  rw [pairsL, pairsTo_length]
  unfold half
  split <;> omega
theorem pairs_row (A : Option Addr) (c : Nat) (l : List Int) (n : Int) (w : World) (hr : RowB w A l) (hl : l.length ≤ 100) (hn : n < 9223372036854775808) : Calls Try.prog 10 #[.slice A l.length c, .int .i64 n] w (PairsR (pairsL l n) w) :=
  (pairs_any A c l n w hr hl hn).mono fun e w' h => by
    obtain ⟨v, rfl, hown, hb⟩ := h
    obtain ⟨B, d, rfl, hv⟩ := rowP_of_own (by have := pairsL_length l n; omega) hown
    exact ⟨B, d, rfl, hv, hb⟩
theorem in64 (x : Int) (h0 : -9223372036854775808 ≤ x) (h1 : x < 9223372036854775808) : (Lit.int .i64 x).wf = true := by
  have a1 : IntKind.min .i64 = -9223372036854775808 := by decide
  have a2 : IntKind.max .i64 = 9223372036854775807 := by decide
  simp only [Lit.wf, a1, a2, Bool.and_eq_true, decide_eq_true_eq]
  omega
theorem pairsL_in {w : World} {A : Option Addr} {l : List Int} {n : Int} (hr : RowB w A l) (hn : n < 9223372036854775808) : ∀ p ∈ pairsL l n, In64 p := by
  intro p hp
  unfold pairsL pairsTo at hp
  obtain ⟨i, hi, rfl⟩ := List.mem_map.1 hp
  have hi := List.mem_range.1 hi
  have hh := (half_iff l n i (by omega)).1 hi
  have hx := hr.2 (2 * i) (by omega)
  have hy := hr.2 (2 * i + 1) (by omega)
  obtain ⟨x, ex⟩ : ∃ x, x = l.getD (2 * i) 0 := ⟨_, rfl⟩
  obtain ⟨y, ey⟩ : ∃ y, y = l.getD (2 * i + 1) 0 := ⟨_, rfl⟩
  rw [← ex] at hx
  rw [← ey] at hy
  simp only [← ex, ← ey]
  have tx := Int.tmod_nonneg n hx.1
  have ty := Int.tmod_nonneg n hy.1
  have ux := Int.tmod_lt_of_pos x hh.2
  have uy := Int.tmod_lt_of_pos y hh.2
  exact ⟨in64 _ (by omega) (by omega), in64 _ (by omega) (by omega)⟩
end Go.Proofs.Ytffhaeefldbahaa
