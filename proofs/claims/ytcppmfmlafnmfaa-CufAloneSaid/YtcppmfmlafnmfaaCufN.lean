/-
One step keeps cells what they may be, and a task fit and in order. Plain law; condition: the task is fit, its elements stand in order.
-/
import Derived.Test.YtcppmfmlafnmfaaCufB
import Derived.Test.YtcppmfmlafnmfaaCufT
namespace Go.Proofs.Ytcppmfmlafnmfaa
open Go.RowKit
/-- what a task's elements are, one above the other -/
structure Ord (p : List Int) (t : T) : Prop where
  a : t.is = false → (t.s = 2 ∨ t.s = 3) → LT p t.u.toNat t.w.toNat
  b : t.is = false → t.s = 3 → LT p t.w.toNat t.r.toNat
  c : t.is = false → (t.s = 5 ∨ t.s = 6) → LT p t.v.toNat t.w.toNat
  d : t.is = false → t.s = 6 → LT p t.w.toNat t.r.toNat
  e : t.is = false → (t.s = 7 ∨ t.s = 8) → t.u ≠ t.v
theorem at_nat (up : List Int) (j : Nat) : at_ up (j : Int) = up.getD j 0 := by simp [at_]
theorem Ok.at {up p : List Int} (h : Ok up p) {x : Int} (hx : In up.length x) : In up.length (at_ up x) ∧ (at_ up x ≠ x → LT p x.toNat (at_ up x).toNat) := by
  obtain ⟨j, rfl⟩ := Int.eq_ofNat_of_zero_le hx.1
  have hj : j < up.length := by have := hx.2; omega
  have hs := h.step hj
  rw [at_nat, hs.1]
  have := stepUp_lt hj
  refine ⟨⟨by omega, by omega⟩, fun hne => ?_⟩
  simp only [Int.toNat_natCast]
  rcases hs.2 with e | e
  · omega
  · exact e
theorem getD_set (l : List Int) (i j : Nat) (x : Int) (hj : j < l.length) : (l.set i x).getD j 0 = if i = j then x else l.getD j 0 := by
  rw [List.getD_eq_getElem?_getD, List.getD_eq_getElem?_getD, List.getElem?_set]
  split
  · rename_i h
    subst h
    rw [if_pos hj]
    rfl
  · rfl
theorem Ok.set {up p : List Int} (h : Ok up p) {x y : Nat} (hy : y < up.length) (hl : LT p x y) : Ok (up.set x (y : Int)) p := by
  refine ⟨by rw [List.length_set]; exact h.1, by rw [List.length_set]; exact h.2.1, fun j hj => ?_⟩
  rw [List.length_set] at hj ⊢
  rw [getD_set _ _ _ _ hj]
  split
  · rename_i e
    subst e
    exact ⟨y, rfl, hy, .inr hl⟩
  · exact h.2.2 j hj
theorem in_nat {n : Nat} {x : Int} (h : In n x) : ∃ j : Nat, x = (j : Int) ∧ j < n := by
  obtain ⟨j, rfl⟩ := Int.eq_ofNat_of_zero_le h.1
  exact ⟨j, rfl, by have := h.2; omega⟩
theorem Ok.swap {up p : List Int} (h : Ok up p) {x was now : Int} (hx : In up.length x) (hn : In up.length now) (hl : LT p x.toNat now.toNat) : Ok (swapL up x was now) p := by
  obtain ⟨i, rfl, _⟩ := in_nat hx
  obtain ⟨j, rfl, hj⟩ := in_nat hn
  unfold swapL
  split
  · exact h.set hj hl
  · exact h
theorem swapL_len (up : List Int) (a b c : Int) : (swapL up a b c).length = up.length := by unfold swapL; split <;> simp
structure Keeps (n : Int) (p : List Int) (t : T) : Prop where
  fit : Fit n t
  ord : Ord p t
theorem keep_first {n : Int} {p : List Int} {t : T} (k0 : 1 ≤ t.k) (k1 : t.k ≤ 3) (hu : In n t.u) (hv : In n t.v) (hs : t.s = 1 ∨ t.s = 2) (hw : t.s = 2 → In n t.w) : Keeps n p (firstT t) := by
  unfold firstT
  split
  · rename_i hk
    refine ⟨⟨k0, k1, hu, hv, ?_, ?_, ?_, ?_, ?_, ?_, ?_⟩, ⟨?_, ?_, ?_, ?_, ?_⟩⟩ <;> simp only [finish] <;> intros <;> first | omega | (exact hw (by omega)) | contradiction
  · rename_i hk
    refine ⟨⟨k0, k1, hu, hv, ?_, ?_, ?_, ?_, ?_, ?_, ?_⟩, ⟨?_, ?_, ?_, ?_, ?_⟩⟩ <;> simp only <;> intros <;> omega
theorem keep_second {n : Int} {p : List Int} {t : T} (k0 : 1 ≤ t.k) (k1 : t.k ≤ 3) (kk : t.k ≠ 1) (hu : In n t.u) (hv : In n t.v) (hs : t.s = 4 ∨ t.s = 5) (hw : t.s = 5 → In n t.w) : Keeps n p (secondT t) := by
  unfold secondT
  split
  · refine ⟨⟨k0, k1, hu, hv, ?_, ?_, ?_, ?_, ?_, ?_, ?_⟩, ⟨?_, ?_, ?_, ?_, ?_⟩⟩ <;> simp only [finish] <;> intros <;> first | omega | (exact hw (by omega)) | contradiction
  · rename_i hne
    by_cases h2 : t.k = 2
    · rw [if_pos h2]
      refine ⟨⟨k0, k1, hu, hv, ?_, ?_, ?_, ?_, ?_, ?_, ?_⟩, ⟨?_, ?_, ?_, ?_, ?_⟩⟩ <;> simp only <;> intros <;> first | omega | exact hne
    · rw [if_neg h2]
      refine ⟨⟨k0, k1, hu, hv, ?_, ?_, ?_, ?_, ?_, ?_, ?_⟩, ⟨?_, ?_, ?_, ?_, ?_⟩⟩ <;> simp only <;> intros <;> first | omega | exact hne
theorem step_keeps {up p : List Int} {t : T} (h : Ok up p) (hk : Keeps up.length p t) : Ok (stepL up p t).1 p ∧ (stepL up p t).1.length = up.length ∧ Keeps up.length p (stepL up p t).2 := by
  obtain ⟨k, x, y, s, u, v, w, r, is, res⟩ := t
  obtain ⟨⟨k0, k1, u0, v0, s0, s1, k2, k7, k8, w0, r0⟩, ⟨oa, ob, oc, od, oe⟩⟩ := hk
  simp only at k0 k1 u0 v0 s0 s1 k2 k7 k8 w0 r0 oa ob oc od oe
  rcases is with _ | _
  · have au := h.at u0
    have av := h.at v0
    rcases (show s = 1 ∨ s = 2 ∨ s = 3 ∨ s = 4 ∨ s = 5 ∨ s = 6 ∨ s = 7 ∨ s = 8 by omega) with rfl | rfl | rfl | rfl | rfl | rfl | rfl | rfl
    · refine ⟨by simpa [stepL] using h, by simp [stepL], ?_⟩
      simp only [stepL, if_neg Bool.false_ne_true, if_true]
      split
      · exact keep_first k0 k1 u0 v0 (.inl rfl) (by intro h; simp at h)
      · rename_i hne
        refine ⟨⟨k0, k1, u0, v0, ?_, ?_, ?_, ?_, ?_, ?_, ?_⟩, ⟨?_, ?_, ?_, ?_, ?_⟩⟩ <;> simp only <;> intros <;> first | omega | exact au.1 | exact au.2 hne
    · have w1 := w0 (by omega)
      have aw := h.at w1
      refine ⟨by simpa [stepL] using h, by simp [stepL], ?_⟩
      simp only [stepL, if_neg Bool.false_ne_true, if_true]
      simp only [show ((2 : Int) = 1) = False by simp, if_false]
      split
      · exact keep_first k0 k1 w1 v0 (.inr rfl) (fun _ => w1)
      · rename_i hne
        refine ⟨⟨k0, k1, u0, v0, ?_, ?_, ?_, ?_, ?_, ?_, ?_⟩, ⟨?_, ?_, ?_, ?_, ?_⟩⟩ <;> simp only <;> intros <;> first | omega | exact w1 | exact aw.1 | exact oa rfl (.inl rfl) | exact aw.2 hne
    · have w1 := w0 (by omega)
      have r1 := r0 (by omega)
      have hl := lt_trans (oa rfl (.inr rfl)) (ob rfl rfl)
      refine ⟨by simpa [stepL] using h.swap u0 r1 hl, by simp [stepL, swapL_len], ?_⟩
      simp only [stepL, if_neg Bool.false_ne_true, show ((3 : Int) = 1) = False by simp, show ((3 : Int) = 2) = False by simp, if_false, if_true]
      refine ⟨⟨k0, k1, w1, v0, ?_, ?_, ?_, ?_, ?_, ?_, ?_⟩, ⟨?_, ?_, ?_, ?_, ?_⟩⟩ <;> simp only <;> intros <;> first | omega
    · refine ⟨by simpa [stepL] using h, by simp [stepL], ?_⟩
      simp only [stepL, if_neg Bool.false_ne_true, show ((4 : Int) = 1) = False by simp, show ((4 : Int) = 2) = False by simp, show ((4 : Int) = 3) = False by simp, if_false, if_true]
      split
      · exact keep_second k0 k1 (k2 (by omega)) u0 v0 (.inl rfl) (by intro h; simp at h)
      · rename_i hne
        refine ⟨⟨k0, k1, u0, v0, ?_, ?_, ?_, ?_, ?_, ?_, ?_⟩, ⟨?_, ?_, ?_, ?_, ?_⟩⟩ <;> simp only <;> intros <;> first | omega | exact av.1 | exact av.2 hne | exact k2 (by omega)
    · have w1 := w0 (by omega)
      have aw := h.at w1
      refine ⟨by simpa [stepL] using h, by simp [stepL], ?_⟩
      simp only [stepL, if_neg Bool.false_ne_true, show ((5 : Int) = 1) = False by simp, show ((5 : Int) = 2) = False by simp, show ((5 : Int) = 3) = False by simp, show ((5 : Int) = 4) = False by simp, if_false, if_true]
      split
      · exact keep_second k0 k1 (k2 (by omega)) u0 w1 (.inr rfl) (fun _ => w1)
      · rename_i hne
        refine ⟨⟨k0, k1, u0, v0, ?_, ?_, ?_, ?_, ?_, ?_, ?_⟩, ⟨?_, ?_, ?_, ?_, ?_⟩⟩ <;> simp only <;> intros <;> first | omega | exact w1 | exact aw.1 | exact oc rfl (.inl rfl) | exact aw.2 hne | exact k2 (by omega)
    · have w1 := w0 (by omega)
      have r1 := r0 (by omega)
      have hl := lt_trans (oc rfl (.inr rfl)) (od rfl rfl)
      refine ⟨by simpa [stepL] using h.swap v0 r1 hl, by simp [stepL, swapL_len], ?_⟩
      simp only [stepL, if_neg Bool.false_ne_true, show ((6 : Int) = 1) = False by simp, show ((6 : Int) = 2) = False by simp, show ((6 : Int) = 3) = False by simp, show ((6 : Int) = 4) = False by simp, show ((6 : Int) = 5) = False by simp, if_false, if_true]
      refine ⟨⟨k0, k1, u0, w1, ?_, ?_, ?_, ?_, ?_, ?_, ?_⟩, ⟨?_, ?_, ?_, ?_, ?_⟩⟩ <;> simp only <;> intros <;> first | omega | exact k2 (by omega)
    · refine ⟨by simpa [stepL] using h, by simp [stepL], ?_⟩
      simp only [stepL, if_neg Bool.false_ne_true, show ((7 : Int) = 1) = False by simp, show ((7 : Int) = 2) = False by simp, show ((7 : Int) = 3) = False by simp, show ((7 : Int) = 4) = False by simp, show ((7 : Int) = 5) = False by simp, show ((7 : Int) = 6) = False by simp, if_false, if_true]
      split
      · refine ⟨⟨k0, k1, u0, v0, ?_, ?_, ?_, ?_, ?_, ?_, ?_⟩, ⟨?_, ?_, ?_, ?_, ?_⟩⟩ <;> simp only [finish] <;> intros <;> first | omega | contradiction | exact k2 (by omega) | exact k7 rfl
      · refine ⟨⟨k0, k1, u0, v0, ?_, ?_, ?_, ?_, ?_, ?_, ?_⟩, ⟨?_, ?_, ?_, ?_, ?_⟩⟩ <;> simp only <;> intros <;> first | omega | exact au.1
    · obtain ⟨i, rfl, hi⟩ := in_nat u0
      obtain ⟨j, rfl, hj⟩ := in_nat v0
      have hne := oe rfl (.inr rfl)
      have hij : i ≠ j := fun e => hne (by rw [e])
      simp only [stepL, if_neg Bool.false_ne_true, show ((8 : Int) = 1) = False by simp, show ((8 : Int) = 2) = False by simp, show ((8 : Int) = 3) = False by simp, show ((8 : Int) = 4) = False by simp, show ((8 : Int) = 5) = False by simp, show ((8 : Int) = 6) = False by simp, show ((8 : Int) = 7) = False by simp, if_false]
      have K1 : Keeps up.length p (finish ⟨k, x, y, 8, (i : Int), (j : Int), w, r, false, res⟩ 1) := by
        refine ⟨⟨k0, k1, u0, v0, ?_, ?_, ?_, ?_, ?_, ?_, ?_⟩, ⟨?_, ?_, ?_, ?_, ?_⟩⟩ <;> simp only [finish] <;> intros <;> first | omega | contradiction | exact k2 (by omega) | exact k8 rfl
      have K2 : Keeps up.length p ⟨k, x, y, 1, (i : Int), (j : Int), w, r, false, res⟩ := by
        refine ⟨⟨k0, k1, u0, v0, ?_, ?_, ?_, ?_, ?_, ?_, ?_⟩, ⟨?_, ?_, ?_, ?_, ?_⟩⟩ <;> simp only <;> intros <;> first | omega
      split
      · rename_i hb
        split
        · exact ⟨by simpa using h.set hj hb, by simp, K1⟩
        · exact ⟨h, rfl, K2⟩
      · rename_i hb
        split
        · exact ⟨by simpa using h.set hi ((lt_total p hij).resolve_left hb), by simp, K1⟩
        · exact ⟨h, rfl, K2⟩
  · refine ⟨by simpa [stepL] using h, by simp [stepL], ?_⟩
    simp only [stepL, if_true]
    exact ⟨⟨k0, k1, u0, v0, s0, s1, k2, k7, k8, w0, r0⟩, ⟨oa, ob, oc, od, oe⟩⟩
end Go.Proofs.Ytcppmfmlafnmfaa
