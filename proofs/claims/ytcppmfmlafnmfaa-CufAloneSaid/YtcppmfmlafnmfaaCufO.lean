/-
A find along a chain: it ends at the chain's end, in so many steps, and no cell is behind its place. Plain law, no condition but the chain's length.
-/
import Derived.Test.YtcppmfmlafnmfaaCufN
namespace Go.Proofs.Ytcppmfmlafnmfaa
open Go.RowKit
def chU (k i : Nat) : Int := ((min (i + 1) (k - 1) : Nat) : Int)
def chP (_ i : Nat) : Int := ((i / 3 : Nat) : Int)
/-- a row that is filled as far as 'j' -/
def fillF (f : Nat → Nat → Int) (k j : Nat) : List Int := (List.range j).map (f k) ++ List.replicate (k - j) 0
theorem fillF_length (f : Nat → Nat → Int) {k j : Nat} (h : j ≤ k) : (fillF f k j).length = k := by simp [fillF]; omega
theorem fillF_zero (f : Nat → Nat → Int) (k : Nat) : fillF f k 0 = List.replicate k 0 := by simp [fillF]
theorem fillF_step (f : Nat → Nat → Int) {k j : Nat} (h : j < k) : (fillF f k j).set j (f k j) = fillF f k (j + 1) := by
  unfold fillF
  rw [List.set_append_right _ _ (by simp), List.length_map, List.length_range, Nat.sub_self, List.range_succ, List.map_append, List.append_assoc]
  congr 1
  rw [show k - j = (k - (j + 1)) + 1 by omega, List.replicate_succ]
  rfl
def chain (f : Nat → Nat → Int) (k : Nat) : List Int := (List.range k).map (f k)
theorem fillF_all (f : Nat → Nat → Int) (k : Nat) : fillF f k k = chain f k := by simp [fillF, chain]
theorem chain_length (f : Nat → Nat → Int) (k : Nat) : (chain f k).length = k := by simp [chain]
theorem chain_getD (f : Nat → Nat → Int) {k i : Nat} (h : i < k) : (chain f k).getD i 0 = f k i := by simp [chain, List.getD_eq_getElem?_getD, h]
theorem chain_lt {k x y : Nat} (hx : x < k) (hy : y < k) : LT (chain chP k) x y ↔ x < y := by
  rw [lt_iff, chain_getD _ hx, chain_getD _ hy]
  unfold chP
  omega
theorem chain_ok {k : Nat} (h0 : 0 < k) (h1 : k ≤ 65536) : Ok (chain chU k) (chain chP k) := by
  refine ⟨by rw [chain_length, chain_length], by rw [chain_length]; exact h1, fun j hj => ?_⟩
  rw [chain_length] at hj ⊢
  rw [chain_getD _ hj]
  refine ⟨min (j + 1) (k - 1), rfl, by omega, ?_⟩
  by_cases e : j = k - 1
  · exact .inl (by omega)
  · exact .inr ((chain_lt hj (by omega)).2 (by omega))
structure CI (k : Nat) (cells : List Int) : Prop where
  ok : Ok cells (chain chP k)
  up : ∀ i, i < k → chU k i ≤ cells.getD i 0
theorem CI.len {k : Nat} {cells : List Int} (h : CI k cells) : cells.length = k := by rw [h.ok.1, chain_length]
theorem CI.fix {k : Nat} {cells : List Int} (h : CI k cells) {c : Nat} (hc : c < k) (hf : cells.getD c 0 = c) : c = k - 1 := by
  have := h.up c hc
  rw [hf] at this
  unfold chU at this
  omega
theorem CI.root {k : Nat} {cells : List Int} (h : CI k cells) {c : Nat} (hc : c < k) : rootN cells c = k - 1 := by
  have hl := h.len
  have hc' : c < cells.length := by omega
  have hr := root_lt (up := cells) hc'
  have hs := (h.ok.step hr).1
  rw [root_fix h.ok hc'] at hs
  exact h.fix (by omega) hs
theorem chain_ci {k : Nat} (h0 : 0 < k) (h1 : k ≤ 65536) : CI k (chain chU k) := ⟨chain_ok h0 h1, fun i hi => by rw [chain_getD _ hi]; exact Int.le_refl _⟩
def rem (k : Nat) (t : T) : Nat := 3 * (k - 1 - t.u.toNat) + (if t.s = 1 then 2 else if t.s = 2 then 1 else 0)
structure Ch (k : Nat) (cells : List Int) (t : T) : Prop where
  ci : CI k cells
  keeps : Keeps k (chain chP k) t
  kind : t.k = 1
  fin : t.is = true → t.res = (k : Int) - 1
theorem ch_step {k : Nat} {cells : List Int} {t : T} (h : Ch k cells t) (hi : t.is = false) :
    Ch k (stepL cells (chain chP k) t).1 (stepL cells (chain chP k) t).2 ∧ ((stepL cells (chain chP k) t).2.is = false → rem k (stepL cells (chain chP k) t).2 + 1 ≤ rem k t) := by
  have hl := h.ci.len
  have hk := step_keeps h.ci.ok (t := t) (by rw [hl]; exact h.keeps)
  rw [hl] at hk
  obtain ⟨k', x, y, s, u, v, w, r, is, res⟩ := t
  have hkind := h.kind
  have hup := h.ci.up
  obtain ⟨⟨k0, k1, u0, v0, s0, s1, k2, k7, k8, w0, r0⟩, ⟨oa, ob, oc, od, oe⟩⟩ := h.keeps
  simp only at k0 k1 u0 v0 s0 s1 k2 k7 k8 w0 r0 oa ob oc od oe hi hkind
  subst hi hkind
  obtain ⟨i, rfl, hi⟩ := in_nat u0
  have au := h.ci.ok.at (x := (i : Int)) (by rw [hl]; exact u0)
  rcases (show s = 1 ∨ s = 2 ∨ s = 3 by by_cases e : 4 ≤ s; exact absurd rfl (k2 e); omega) with rfl | rfl | rfl
  · refine ⟨⟨⟨hk.1, ?_⟩, hk.2.2, ?_, ?_⟩, ?_⟩
    · simpa [stepL] using hup
    · simp only [stepL, if_neg Bool.false_ne_true, if_true]
      split <;> simp [firstT, finish]
    · simp only [stepL, if_neg Bool.false_ne_true, if_true]
      split
      · rename_i e
        intro _
        have := h.ci.fix hi (by rw [← at_nat]; exact e)
        simp only [firstT, finish, if_true]
        omega
      · intro hh; cases hh
    · simp only [stepL, if_neg Bool.false_ne_true, if_true]
      split
      · intro hh; simp [firstT, finish] at hh
      · intro _
        simp [rem]
  · have w1 := w0 (by omega)
    obtain ⟨j, rfl, hj⟩ := in_nat w1
    refine ⟨⟨⟨hk.1, ?_⟩, hk.2.2, ?_, ?_⟩, ?_⟩
    · simpa [stepL] using hup
    · simp only [stepL, if_neg Bool.false_ne_true, if_true, show ((2 : Int) = 1) = False by simp, if_false]
      split <;> simp [firstT, finish]
    · simp only [stepL, if_neg Bool.false_ne_true, if_true, show ((2 : Int) = 1) = False by simp, if_false]
      split
      · rename_i e
        intro _
        have := h.ci.fix hj (by rw [← at_nat]; exact e)
        simp only [firstT, finish, if_true]
        omega
      · intro hh; cases hh
    · simp only [stepL, if_neg Bool.false_ne_true, if_true, show ((2 : Int) = 1) = False by simp, if_false]
      split
      · intro hh; simp [firstT, finish] at hh
      · intro _
        simp [rem]
  · have w1 := w0 (by omega)
    have r1 := r0 (by omega)
    obtain ⟨j, rfl, hj⟩ := in_nat w1
    obtain ⟨m, rfl, hm⟩ := in_nat r1
    have h1 : i < j := (chain_lt hi hj).1 (by simpa using oa rfl (.inr rfl))
    have h2 : j < m := (chain_lt hj hm).1 (by simpa using ob rfl rfl)
    refine ⟨⟨⟨hk.1, ?_⟩, hk.2.2, ?_, ?_⟩, ?_⟩
    · intro z hz
      have hz' := hup z hz
      simp only [stepL, if_neg Bool.false_ne_true, if_true, show ((3 : Int) = 1) = False by simp, show ((3 : Int) = 2) = False by simp, if_false, swapL]
      split
      · rw [Int.toNat_natCast, getD_set _ _ _ _ (by omega)]
        split
        · rename_i e
          subst e
          unfold chU
          omega
        · exact hz'
      · exact hz'
    · simp [stepL]
    · simp [stepL]
    · intro _
      simp [stepL, rem]
      omega
theorem ch_begin {k at' : Nat} (h0 : 0 < k) (h1 : k ≤ 65536) (ha : at' < k) : Ch k (chain chU k) ⟨1, at', 0, 1, at', 0, 0, 0, false, 0⟩ := by
  refine ⟨chain_ci h0 h1, ⟨⟨?_, ?_, ⟨?_, ?_⟩, ⟨?_, ?_⟩, ?_, ?_, ?_, ?_, ?_, ?_, ?_⟩, ⟨?_, ?_, ?_, ?_, ?_⟩⟩, rfl, ?_⟩ <;> simp only <;> intros <;> first | omega | contradiction
theorem rem_begin {k at' : Nat} (h0 : 0 < k) : rem k ⟨1, at', 0, 1, at', 0, 0, 0, false, 0⟩ ≤ 3 * k := by
  simp [rem]
  omega
end Go.Proofs.Ytcppmfmlafnmfaa
