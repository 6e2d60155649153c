/-
Roots under one step of a task, whole: where every root goes, what a task's elements have in common, and how many roots there are. Plain law.
-/
import Derived.Test.YtcppmfmlafnmfaaCufU
namespace Go.Proofs.Ytcppmfmlafnmfaa
open Go.RowKit
def isRoot (up : List Int) (j : Nat) : Nat := if up.getD j 0 = (j : Int) then 1 else 0
def nRoots (up : List Int) : Nat → Nat
  | 0 => 0
  | k + 1 => nRoots up k + isRoot up k
theorem nRoots_same {up up' : List Int} : ∀ k, (∀ j, j < k → isRoot up' j = isRoot up j) → nRoots up' k = nRoots up k
  | 0, _ => rfl
  | k + 1, h => by
    rw [nRoots, nRoots, nRoots_same k (fun j hj => h j (by omega)), h k (by omega)]
theorem nRoots_less {up up' : List Int} {a : Nat} : ∀ k, a < k → isRoot up a = 1 → isRoot up' a = 0 → (∀ j, j < k → j ≠ a → isRoot up' j = isRoot up j) → nRoots up' k + 1 = nRoots up k
  | 0, h, _, _, _ => absurd h (by omega)
  | k + 1, ha, h1, h2, h => by
    rw [nRoots, nRoots]
    by_cases e : a = k
    · subst e
      rw [nRoots_same a (fun j hj => h j (by omega) (by omega)), h1, h2]
    · have := nRoots_less k (by omega) h1 h2 (fun j hj hne => h j (by omega) hne)
      have := h k (by omega) (Ne.symm e)
      omega
theorem isRoot_set {up : List Int} {a b j : Nat} (hj : j < up.length) : isRoot (up.set a (b : Int)) j = if a = j then (if b = j then 1 else 0) else isRoot up j := by
  unfold isRoot
  rw [getD_set _ _ _ _ hj]
  by_cases e : a = j
  · rw [if_pos e, if_pos e]
    by_cases f : b = j
    · rw [if_pos (by omega), if_pos f]
    · rw [if_neg (by omega), if_neg f]
  · rw [if_neg e, if_neg e]
structure Moves (n : Nat) (up up' : List Int) (t t' : T) : Prop where
  goes : Goes n up up'
  ri : RI up' t'
  back : ∀ j, j < n → rootN up' j = rootN up' (rootN up j)
  won : t.s = 8 → t.is = false → t'.is = true → nRoots up' n + 1 = nRoots up n
  none : ¬ (t.s = 8 ∧ t.is = false ∧ t'.is = true) → nRoots up' n = nRoots up n
theorem moves_stay {up p : List Int} {t t' : T} (h : Ok up p) (hr : RI up t') (hn : ¬ (t.s = 8 ∧ t.is = false ∧ t'.is = true)) : Moves up.length up up t t' :=
  ⟨Goes.refl _ _, hr, fun _ hj => (root_root h hj).symm, fun h1 h2 h3 => absurd ⟨h1, h2, h3⟩ hn, fun _ => rfl⟩
theorem ri_none {up : List Int} {t : T} (h : t.is = true ∨ t.s = 1 ∨ t.s = 4 ∨ t.s = 7 ∨ t.s = 8) : RI up t := by
  refine ⟨fun h1 h2 => ?_, fun h1 h2 => ?_, fun h1 h2 => ?_, fun h1 h2 => ?_⟩ <;> rcases h with h | h <;> first | (rw [h] at h1; cases h1) | omega
theorem ri_first {up : List Int} {t : T} : RI up (firstT t) := by
  unfold firstT
  split
  · exact ri_none (.inl rfl)
  · exact ri_none (.inr (.inr (.inl rfl)))
theorem ri_second {up : List Int} {t : T} : RI up (secondT t) := by
  unfold secondT
  split
  · exact ri_none (.inl rfl)
  · by_cases h : t.k = 2
    · exact ri_none (.inr (.inr (.inr (.inl (by simp only; rw [if_pos h])))))
    · exact ri_none (.inr (.inr (.inr (.inr (by simp only; rw [if_neg h])))))
/-- a split -/
theorem moves_split {up p : List Int} {t t' : T} (h : Ok up p) {u w r : Int} (hu : In up.length u) (hw : In up.length w) (hr : In up.length r) (h1 : LT p u.toNat w.toNat) (h2 : LT p w.toNat r.toNat) (hroot : rootN up r.toNat = rootN up w.toNat) (ht : t'.s = 1 ∨ t'.s = 4) (hn : ¬ (t.s = 8 ∧ t.is = false ∧ t'.is = true)) :
    Moves up.length up (swapL up u w r) t t' := by
  obtain ⟨u, rfl, hu'⟩ := in_nat hu
  obtain ⟨w, rfl, _⟩ := in_nat hw
  obtain ⟨r, rfl, hr'⟩ := in_nat hr
  simp only [Int.toNat_natCast] at h1 h2 hroot
  have hri : ∀ up, RI up t' := fun up => ri_none (by omega)
  unfold swapL
  rw [at_nat]
  split
  · rename_i he
    have hs := root_split h hu' hr' he h1 h2 hroot
    rw [Int.toNat_natCast]
    have huw : u ≠ w := fun e => by rw [e] at h1; exact lt_irrefl p _ h1
    have hur : r ≠ u := fun e => by rw [e] at h2; exact lt_asymm h1 h2
    refine ⟨⟨id, hs⟩, hri _, fun j hj => ?_, fun a b c => absurd ⟨a, b, c⟩ hn, fun _ => nRoots_same _ (fun z hz => ?_)⟩
    · rw [hs _ hj, hs _ (root_lt hj), root_root h hj]
    · rw [isRoot_set hz]
      split
      · rename_i e
        subst e
        rw [if_neg hur]
        unfold isRoot
        rw [if_neg (by omega)]
      · rfl
  · exact moves_stay h (hri _) hn
/-- a link -/
theorem moves_link {up p : List Int} {t t' : T} (h : Ok up p) {a b : Nat} (ha : a < up.length) (hb : b < up.length) (he : up.getD a 0 = (a : Int)) (h1 : LT p a b) (ht : t'.is = true) (hn : t.s = 8 ∧ t.is = false) :
    Moves up.length up (up.set a (b : Int)) t t' := by
  have hs := root_link h ha hb he h1
  have hab : b ≠ a := fun e => by rw [e] at h1; exact lt_irrefl p _ h1
  refine ⟨⟨fun z => if z = a then rootN up b else z, hs⟩, ri_none (.inl ht), fun j hj => ?_, fun _ _ _ => ?_, fun hh => absurd ⟨hn.1, hn.2, ht⟩ hh⟩
  · rw [hs _ hj, hs _ (root_lt hj), root_root h hj]
  · refine nRoots_less up.length ha ?_ ?_ (fun j hj hne => ?_)
    · unfold isRoot
      rw [if_pos he]
    · rw [isRoot_set ha, if_pos rfl, if_neg hab]
    · rw [isRoot_set hj, if_neg (Ne.symm hne)]
theorem step_moves {up p : List Int} {t : T} (h : Ok up p) (hk : Keeps up.length p t) (hr : RI up t) : Moves up.length up (stepL up p t).1 t (stepL up p t).2 := by
  obtain ⟨k, x, y, s, u, v, w, r, is, res⟩ := t
  obtain ⟨⟨k0, k1, u0, v0, s0, s1, k2, k7, k8, w0, r0⟩, ⟨oa, ob, oc, od, oe⟩⟩ := hk
  obtain ⟨ra, rb, rc, rd⟩ := hr
  simp only at k0 k1 u0 v0 s0 s1 k2 k7 k8 w0 r0 oa ob oc od oe ra rb rc rd
  rcases is with _ | _
  · rcases (show s = 1 ∨ s = 2 ∨ s = 3 ∨ s = 4 ∨ s = 5 ∨ s = 6 ∨ s = 7 ∨ s = 8 by omega) with rfl | rfl | rfl | rfl | rfl | rfl | rfl | rfl
    · have hup : rootN up (at_ up u).toNat = rootN up (u).toNat := by
        obtain ⟨i, rfl, hi⟩ := in_nat u0
        rw [at_nat, step_getD h hi, Int.toNat_natCast, Int.toNat_natCast]
        exact root_up h hi
      simp only [stepL, if_neg Bool.false_ne_true, if_true]
      split
      · exact moves_stay h ri_first (fun hh => by simp at hh)
      · exact moves_stay h ⟨fun _ _ => hup, fun _ hh => by simp at hh, fun _ hh => by simp at hh, fun _ hh => by simp at hh⟩ (fun hh => by simp at hh)
    · have w1 := w0 (by omega)
      have hup : rootN up (at_ up w).toNat = rootN up (w).toNat := by
        obtain ⟨i, rfl, hi⟩ := in_nat w1
        rw [at_nat, step_getD h hi, Int.toNat_natCast, Int.toNat_natCast]
        exact root_up h hi
      simp only [stepL, if_neg Bool.false_ne_true, if_true, show ((2 : Int) = 1) = False by simp, if_false]
      split
      · exact moves_stay h ri_first (fun hh => by simp at hh)
      · exact moves_stay h ⟨fun _ _ => ra rfl (.inl rfl), fun _ _ => hup, fun _ hh => by simp at hh, fun _ hh => by simp at hh⟩ (fun hh => by simp at hh)
    · simp only [stepL, if_neg Bool.false_ne_true, if_true, show ((3 : Int) = 1) = False by simp, show ((3 : Int) = 2) = False by simp, if_false]
      exact moves_split h u0 (w0 (by omega)) (r0 (by omega)) (oa rfl (.inr rfl)) (ob rfl rfl) (rb rfl rfl) (.inl rfl) (fun hh => by simp at hh)
    · have hup : rootN up (at_ up v).toNat = rootN up (v).toNat := by
        obtain ⟨i, rfl, hi⟩ := in_nat v0
        rw [at_nat, step_getD h hi, Int.toNat_natCast, Int.toNat_natCast]
        exact root_up h hi
      simp only [stepL, if_neg Bool.false_ne_true, if_true, show ((4 : Int) = 1) = False by simp, show ((4 : Int) = 2) = False by simp, show ((4 : Int) = 3) = False by simp, if_false]
      split
      · exact moves_stay h ri_second (fun hh => by simp at hh)
      · exact moves_stay h ⟨fun _ hh => by simp at hh, fun _ hh => by simp at hh, fun _ _ => hup, fun _ hh => by simp at hh⟩ (fun hh => by simp at hh)
    · have w1 := w0 (by omega)
      have hup : rootN up (at_ up w).toNat = rootN up (w).toNat := by
        obtain ⟨i, rfl, hi⟩ := in_nat w1
        rw [at_nat, step_getD h hi, Int.toNat_natCast, Int.toNat_natCast]
        exact root_up h hi
      simp only [stepL, if_neg Bool.false_ne_true, if_true, show ((5 : Int) = 1) = False by simp, show ((5 : Int) = 2) = False by simp, show ((5 : Int) = 3) = False by simp, show ((5 : Int) = 4) = False by simp, if_false]
      split
      · exact moves_stay h ri_second (fun hh => by simp at hh)
      · exact moves_stay h ⟨fun _ hh => by simp at hh, fun _ hh => by simp at hh, fun _ _ => rc rfl (.inl rfl), fun _ _ => hup⟩ (fun hh => by simp at hh)
    · simp only [stepL, if_neg Bool.false_ne_true, if_true, show ((6 : Int) = 1) = False by simp, show ((6 : Int) = 2) = False by simp, show ((6 : Int) = 3) = False by simp, show ((6 : Int) = 4) = False by simp, show ((6 : Int) = 5) = False by simp, if_false]
      exact moves_split h v0 (w0 (by omega)) (r0 (by omega)) (oc rfl (.inr rfl)) (od rfl rfl) (rd rfl rfl) (.inr rfl) (fun hh => by simp at hh)
    · simp only [stepL, if_neg Bool.false_ne_true, if_true, show ((7 : Int) = 1) = False by simp, show ((7 : Int) = 2) = False by simp, show ((7 : Int) = 3) = False by simp, show ((7 : Int) = 4) = False by simp, show ((7 : Int) = 5) = False by simp, show ((7 : Int) = 6) = False by simp, if_false]
      split
      · exact moves_stay h (ri_none (.inl rfl)) (fun hh => by simp at hh)
      · exact moves_stay h (ri_none (.inr (.inl rfl))) (fun hh => by simp at hh)
    · obtain ⟨i, rfl, hi⟩ := in_nat u0
      obtain ⟨j, rfl, hj⟩ := in_nat v0
      have hne := oe rfl (.inr rfl)
      have hij : i ≠ j := fun e => hne (by rw [e])
      simp only [stepL, if_neg Bool.false_ne_true, show ((8 : Int) = 1) = False by simp, show ((8 : Int) = 2) = False by simp, show ((8 : Int) = 3) = False by simp, show ((8 : Int) = 4) = False by simp, show ((8 : Int) = 5) = False by simp, show ((8 : Int) = 6) = False by simp, show ((8 : Int) = 7) = False by simp, if_false]
      split
      · rename_i hb
        rw [at_nat]
        split
        · rename_i he
          exact moves_link h hi hj he hb rfl ⟨rfl, rfl⟩
        · exact moves_stay h (ri_none (.inr (.inl rfl))) (fun hh => by simp at hh)
      · rename_i hb
        rw [at_nat]
        split
        · rename_i he
          exact moves_link h hj hi he ((lt_total p hij).resolve_left hb) rfl ⟨rfl, rfl⟩
        · exact moves_stay h (ri_none (.inr (.inl rfl))) (fun hh => by simp at hh)
  · simp only [stepL, if_true]
    exact moves_stay h ⟨ra, rb, rc, rd⟩ (fun hh => by simp at hh)
end Go.Proofs.Ytcppmfmlafnmfaa
