/-
The proofs that YtmaiicpaalbcfaaDoorLawPlayOne needs, out of the texts of this seat; conditions: those named in each theorem.
-/
import Derived.Test.YtmaiicpaalbcfaaDoorZPlayOne5
import Derived.Laws.BitsAllLaws
import Derived.SizedLaws
import Derived.ChangeSlices
import Derived.Test.YtmaiicpaalbcfaaDoorRows
import Derived.WalkKit
import Derived.ProofKit
import Derived.OpenShut
import Derived.ShutString
import Derived.ChangeOld
import Derived.Below
import Derived.ChangeSame
import Derived.ChangeVars
import Derived.JoinedOf
import Derived.RowKitTokens
import Derived.LaidLaws
import Derived.LaidHandle
import Derived.Stop.Joined
section
namespace Go.Proofs.YtmaiicpaalbcfaaDoor
open Go.RowKit
def isRoot (up : List Int) (j : Nat) : Nat := if up.getD j 0 = (j : Int) then 1 else 0
def nRoots (up : List Int) : Nat → Nat
  | 0 => 0
  | k + 1 => nRoots up k + isRoot up k
theorem nRoots_same {up up' : List Int} : ∀ k, (∀ j, j < k → isRoot up' j = isRoot up j) → nRoots up' k = nRoots up k
  | 0, _ => rfl
  | k + 1, h => by
    rw [nRoots, nRoots, nRoots_same k (fun j hj => h j (by omega)), h k (by omega)]
theorem nRoots_less {up up' : List Int} {a : Nat} : ∀ k, a < k → isRoot up a = 1 → isRoot up' a = 0 → (∀ j, j < k → j ≠ a → isRoot up' j = isRoot up j) → nRoots up' k + 1 = nRoots up k
  | 0, h, _, _, _ => absurd h (by omega)
  | k + 1, ha, h1, h2, h => by
    rw [nRoots, nRoots]
    by_cases e : a = k
    · subst e
      rw [nRoots_same a (fun j hj => h j (by omega) (by omega)), h1, h2]
    · have := nRoots_less k (by omega) h1 h2 (fun j hj hne => h j (by omega) hne)
      have := h k (by omega) (Ne.symm e)
      omega
theorem isRoot_set {up : List Int} {a b j : Nat} (hj : j < up.length) : isRoot (up.set a (b : Int)) j = if a = j then (if b = j then 1 else 0) else isRoot up j := by
  unfold isRoot
  rw [getD_set _ _ _ _ hj]
  by_cases e : a = j
  · rw [if_pos e, if_pos e]
    by_cases f : b = j
    · rw [if_pos (by omega), if_pos f]
    · rw [if_neg (by omega), if_neg f]
  · rw [if_neg e, if_neg e]
structure Moves (n : Nat) (up up' : List Int) (t t' : T) : Prop where
  goes : Goes n up up'
  ri : RI up' t'
  back : ∀ j, j < n → rootN up' j = rootN up' (rootN up j)
  won : t.s = 8 → t.is = false → t'.is = true → nRoots up' n + 1 = nRoots up n
  none : ¬ (t.s = 8 ∧ t.is = false ∧ t'.is = true) → nRoots up' n = nRoots up n
theorem moves_stay {up p : List Int} {t t' : T} (h : Ok up p) (hr : RI up t') (hn : ¬ (t.s = 8 ∧ t.is = false ∧ t'.is = true)) : Moves up.length up up t t' :=
  ⟨Goes.refl _ _, hr, fun _ hj => (root_root h hj).symm, fun h1 h2 h3 => absurd ⟨h1, h2, h3⟩ hn, fun _ => rfl⟩
theorem ri_none {up : List Int} {t : T} (h : t.is = true ∨ t.s = 1 ∨ t.s = 4 ∨ t.s = 7 ∨ t.s = 8) : RI up t := by
  refine ⟨fun h1 h2 => ?_, fun h1 h2 => ?_, fun h1 h2 => ?_, fun h1 h2 => ?_⟩ <;> rcases h with h | h <;> first | (rw [h] at h1; cases h1) | omega
theorem ri_first {up : List Int} {t : T} : RI up (firstT t) := by
  unfold firstT
  split
  · exact ri_none (.inl rfl)
  · exact ri_none (.inr (.inr (.inl rfl)))
theorem ri_second {up : List Int} {t : T} : RI up (secondT t) := by
  unfold secondT
  split
  · exact ri_none (.inl rfl)
  · by_cases h : t.k = 2
    · exact ri_none (.inr (.inr (.inr (.inl (by simp only; rw [if_pos h])))))
    · exact ri_none (.inr (.inr (.inr (.inr (by simp only; rw [if_neg h])))))
theorem moves_split {up p : List Int} {t t' : T} (h : Ok up p) {u w r : Int} (hu : In up.length u) (hw : In up.length w) (hr : In up.length r) (h1 : LT p u.toNat w.toNat) (h2 : LT p w.toNat r.toNat) (hroot : rootN up r.toNat = rootN up w.toNat) (ht : t'.s = 1 ∨ t'.s = 4) (hn : ¬ (t.s = 8 ∧ t.is = false ∧ t'.is = true)) :
    Moves up.length up (swapL up u w r) t t' := by
  obtain ⟨u, rfl, hu'⟩ := in_nat hu
  obtain ⟨w, rfl, _⟩ := in_nat hw
  obtain ⟨r, rfl, hr'⟩ := in_nat hr
  simp only [Int.toNat_natCast] at h1 h2 hroot
  have hri : ∀ up, RI up t' := fun up => ri_none (by omega)
  unfold swapL
  rw [at_nat]
  split
  · rename_i he
    have hs := root_split h hu' hr' he h1 h2 hroot
    rw [Int.toNat_natCast]
    have huw : u ≠ w := fun e => by rw [e] at h1; exact lt_irrefl p _ h1
    have hur : r ≠ u := fun e => by rw [e] at h2; exact lt_asymm h1 h2
    refine ⟨⟨id, hs⟩, hri _, fun j hj => ?_, fun a b c => absurd ⟨a, b, c⟩ hn, fun _ => nRoots_same _ (fun z hz => ?_)⟩
    · rw [hs _ hj, hs _ (root_lt hj), root_root h hj]
    · rw [isRoot_set hz]
      split
      · rename_i e
        subst e
        rw [if_neg hur]
        unfold isRoot
        rw [if_neg (by omega)]
      · rfl
  · exact moves_stay h (hri _) hn
theorem moves_link {up p : List Int} {t t' : T} (h : Ok up p) {a b : Nat} (ha : a < up.length) (hb : b < up.length) (he : up.getD a 0 = (a : Int)) (h1 : LT p a b) (ht : t'.is = true) (hn : t.s = 8 ∧ t.is = false) :
    Moves up.length up (up.set a (b : Int)) t t' := by
  have hs := root_link h ha hb he h1
  have hab : b ≠ a := fun e => by rw [e] at h1; exact lt_irrefl p _ h1
  refine ⟨⟨fun z => if z = a then rootN up b else z, hs⟩, ri_none (.inl ht), fun j hj => ?_, fun _ _ _ => ?_, fun hh => absurd ⟨hn.1, hn.2, ht⟩ hh⟩
  · rw [hs _ hj, hs _ (root_lt hj), root_root h hj]
  · refine nRoots_less up.length ha ?_ ?_ (fun j hj hne => ?_)
    · unfold isRoot
      rw [if_pos he]
    · rw [isRoot_set ha, if_pos rfl, if_neg hab]
    · rw [isRoot_set hj, if_neg (Ne.symm hne)]
theorem step_moves {up p : List Int} {t : T} (h : Ok up p) (hk : Keeps up.length p t) (hr : RI up t) : Moves up.length up (stepL up p t).1 t (stepL up p t).2 := by
  obtain ⟨k, x, y, s, u, v, w, r, is, res⟩ := t
  obtain ⟨⟨k0, k1, u0, v0, s0, s1, k2, k7, k8, w0, r0⟩, ⟨oa, ob, oc, od, oe⟩⟩ := hk
  obtain ⟨ra, rb, rc, rd⟩ := hr
  simp only at k0 k1 u0 v0 s0 s1 k2 k7 k8 w0 r0 oa ob oc od oe ra rb rc rd
  rcases is with _ | _
  · rcases (show s = 1 ∨ s = 2 ∨ s = 3 ∨ s = 4 ∨ s = 5 ∨ s = 6 ∨ s = 7 ∨ s = 8 by omega) with rfl | rfl | rfl | rfl | rfl | rfl | rfl | rfl
    · have hup : rootN up (at_ up u).toNat = rootN up (u).toNat := by
        obtain ⟨i, rfl, hi⟩ := in_nat u0
        rw [at_nat, step_getD h hi, Int.toNat_natCast, Int.toNat_natCast]
        exact root_up h hi
      simp only [stepL, if_neg Bool.false_ne_true, if_true]
      split
      · exact moves_stay h ri_first (fun hh => by simp at hh)
      · exact moves_stay h ⟨fun _ _ => hup, fun _ hh => by simp at hh, fun _ hh => by simp at hh, fun _ hh => by simp at hh⟩ (fun hh => by simp at hh)
    · have w1 := w0 (by omega)
      have hup : rootN up (at_ up w).toNat = rootN up (w).toNat := by
        obtain ⟨i, rfl, hi⟩ := in_nat w1
        rw [at_nat, step_getD h hi, Int.toNat_natCast, Int.toNat_natCast]
        exact root_up h hi
      simp only [stepL, if_neg Bool.false_ne_true, if_true, show ((2 : Int) = 1) = False by simp, if_false]
      split
      · exact moves_stay h ri_first (fun hh => by simp at hh)
      · exact moves_stay h ⟨fun _ _ => ra rfl (.inl rfl), fun _ _ => hup, fun _ hh => by simp at hh, fun _ hh => by simp at hh⟩ (fun hh => by simp at hh)
    · simp only [stepL, if_neg Bool.false_ne_true, if_true, show ((3 : Int) = 1) = False by simp, show ((3 : Int) = 2) = False by simp, if_false]
      exact moves_split h u0 (w0 (by omega)) (r0 (by omega)) (oa rfl (.inr rfl)) (ob rfl rfl) (rb rfl rfl) (.inl rfl) (fun hh => by simp at hh)
    · have hup : rootN up (at_ up v).toNat = rootN up (v).toNat := by
        obtain ⟨i, rfl, hi⟩ := in_nat (v0 (k2 (by omega)))
        rw [at_nat, step_getD h hi, Int.toNat_natCast, Int.toNat_natCast]
        exact root_up h hi
      simp only [stepL, if_neg Bool.false_ne_true, if_true, show ((4 : Int) = 1) = False by simp, show ((4 : Int) = 2) = False by simp, show ((4 : Int) = 3) = False by simp, if_false]
      split
      · exact moves_stay h ri_second (fun hh => by simp at hh)
      · exact moves_stay h ⟨fun _ hh => by simp at hh, fun _ hh => by simp at hh, fun _ _ => hup, fun _ hh => by simp at hh⟩ (fun hh => by simp at hh)
    · have w1 := w0 (by omega)
      have hup : rootN up (at_ up w).toNat = rootN up (w).toNat := by
        obtain ⟨i, rfl, hi⟩ := in_nat w1
        rw [at_nat, step_getD h hi, Int.toNat_natCast, Int.toNat_natCast]
        exact root_up h hi
      simp only [stepL, if_neg Bool.false_ne_true, if_true, show ((5 : Int) = 1) = False by simp, show ((5 : Int) = 2) = False by simp, show ((5 : Int) = 3) = False by simp, show ((5 : Int) = 4) = False by simp, if_false]
      split
      · exact moves_stay h ri_second (fun hh => by simp at hh)
      · exact moves_stay h ⟨fun _ hh => by simp at hh, fun _ hh => by simp at hh, fun _ _ => rc rfl (.inl rfl), fun _ _ => hup⟩ (fun hh => by simp at hh)
    · simp only [stepL, if_neg Bool.false_ne_true, if_true, show ((6 : Int) = 1) = False by simp, show ((6 : Int) = 2) = False by simp, show ((6 : Int) = 3) = False by simp, show ((6 : Int) = 4) = False by simp, show ((6 : Int) = 5) = False by simp, if_false]
      exact moves_split h (v0 (k2 (by omega))) (w0 (by omega)) (r0 (by omega)) (oc rfl (.inr rfl)) (od rfl rfl) (rd rfl rfl) (.inr rfl) (fun hh => by simp at hh)
    · simp only [stepL, if_neg Bool.false_ne_true, if_true, show ((7 : Int) = 1) = False by simp, show ((7 : Int) = 2) = False by simp, show ((7 : Int) = 3) = False by simp, show ((7 : Int) = 4) = False by simp, show ((7 : Int) = 5) = False by simp, show ((7 : Int) = 6) = False by simp, if_false]
      split
      · exact moves_stay h (ri_none (.inl rfl)) (fun hh => by simp at hh)
      · exact moves_stay h (ri_none (.inr (.inl rfl))) (fun hh => by simp at hh)
    · obtain ⟨i, rfl, hi⟩ := in_nat u0
      obtain ⟨j, rfl, hj⟩ := in_nat (v0 (k2 (by omega)))
      have hne := oe rfl (.inr rfl)
      have hij : i ≠ j := fun e => hne (by rw [e])
      simp only [stepL, if_neg Bool.false_ne_true, show ((8 : Int) = 1) = False by simp, show ((8 : Int) = 2) = False by simp, show ((8 : Int) = 3) = False by simp, show ((8 : Int) = 4) = False by simp, show ((8 : Int) = 5) = False by simp, show ((8 : Int) = 6) = False by simp, show ((8 : Int) = 7) = False by simp, if_false]
      split
      · rename_i hb
        rw [at_nat]
        split
        · rename_i he
          exact moves_link h hi hj he hb rfl ⟨rfl, rfl⟩
        · exact moves_stay h (ri_none (.inr (.inl rfl))) (fun hh => by simp at hh)
      · rename_i hb
        rw [at_nat]
        split
        · rename_i he
          exact moves_link h hj hi he ((lt_total p hij).resolve_left hb) rfl ⟨rfl, rfl⟩
        · exact moves_stay h (ri_none (.inr (.inl rfl))) (fun hh => by simp at hh)
  · simp only [stepL, if_true]
    exact moves_stay h ⟨ra, rb, rc, rd⟩ (fun hh => by simp at hh)
end Go.Proofs.YtmaiicpaalbcfaaDoor
end
section
namespace Go.Proofs.YtmaiicpaalbcfaaDoor
open Go.RowKit
set_option linter.unusedVariables false
def qs (up : List Int) (t : T) : Nat :=
  if t.s = 1 then (if at_ up t.u = t.u then (if t.k ≠ 1 ∧ at_ up t.v = t.v then 6 else 3) else 2)
  else if t.s = 2 then 1 else if t.s = 3 then 0
  else if t.s = 4 then (if at_ up t.v = t.v then 5 else 2)
  else if t.s = 5 then 1 else if t.s = 6 then 0 else 4
def phi (up p : List Int) (t : T) : Nat := 7 * (above p up.length t.u.toNat + above p up.length t.v.toNat) + qs up t
theorem qs_le (up : List Int) (t : T) : qs up t ≤ 6 := by
  unfold qs
  repeat' split
  all_goals omega
theorem phi_first {up p : List Int} {t : T} {a : Nat} (hs : t.s = 1 ∨ t.s = 2) (ha : t.k ≠ 1 → 7 * (above p up.length t.u.toNat + above p up.length t.v.toNat) + (if at_ up t.v = t.v then 5 else 2) < a) : (firstT t).is = true ∨ phi up p (firstT t) < a := by
  unfold firstT
  split
  · exact .inl rfl
  · rename_i hk1
    have ha := ha hk1
    refine .inr ?_
    unfold phi qs
    simp only [show ((4 : Int) = 1) = False by simp, show ((4 : Int) = 2) = False by simp, show ((4 : Int) = 3) = False by simp, if_false, if_true]
    exact ha
theorem phi_second {up p : List Int} {t : T} {a : Nat} (ha : 7 * (above p up.length t.u.toNat + above p up.length t.v.toNat) + 4 < a) : (secondT t).is = true ∨ phi up p (secondT t) < a := by
  unfold secondT
  split
  · exact .inl rfl
  · refine .inr ?_
    unfold phi qs
    by_cases h : t.k = 2
    · simp only [if_pos h, show ((7 : Int) = 1) = False by simp, show ((7 : Int) = 2) = False by simp, show ((7 : Int) = 3) = False by simp, show ((7 : Int) = 4) = False by simp, show ((7 : Int) = 5) = False by simp, show ((7 : Int) = 6) = False by simp, if_false]
      exact ha
    · simp only [if_neg h, show ((8 : Int) = 1) = False by simp, show ((8 : Int) = 2) = False by simp, show ((8 : Int) = 3) = False by simp, show ((8 : Int) = 4) = False by simp, show ((8 : Int) = 5) = False by simp, show ((8 : Int) = 6) = False by simp, if_false]
      exact ha
theorem above_in {p : List Int} {n : Nat} {x y : Int} (hy : In n y) (h : LT p x.toNat y.toNat) : above p n y.toNat + 1 ≤ above p n x.toNat :=
  above_lt (by have := hy.1; have := hy.2; omega) h
theorem phi_step {up p : List Int} {t : T} (h : Ok up p) (hk : Keeps up.length p t) (hi : t.is = false) : (stepL up p t).2.is = true ∨ phi (stepL up p t).1 p (stepL up p t).2 < phi up p t := by
  obtain ⟨k, x, y, s, u, v, w, r, is, res⟩ := t
  obtain ⟨⟨k0, k1, u0, v0, s0, s1, k2, k7, k8, w0, r0⟩, ⟨oa, ob, oc, od, oe⟩⟩ := hk
  simp only at k0 k1 u0 v0 s0 s1 k2 k7 k8 w0 r0 oa ob oc od oe hi
  subst hi
  rcases (show s = 1 ∨ s = 2 ∨ s = 3 ∨ s = 4 ∨ s = 5 ∨ s = 6 ∨ s = 7 ∨ s = 8 by omega) with rfl | rfl | rfl | rfl | rfl | rfl | rfl | rfl
  · simp only [stepL, if_neg Bool.false_ne_true, if_true]
    by_cases c : at_ up u = u
    · rw [if_pos c]
      refine phi_first (.inl rfl) (fun hk1 => ?_)
      unfold phi qs
      simp only at hk1
      simp only [if_true, if_pos c]
      by_cases cv : at_ up v = v
      · rw [if_pos cv, if_pos ⟨hk1, cv⟩]; omega
      · rw [if_neg cv, if_neg (fun h => cv h.2)]; omega
    · rw [if_neg c]
      refine .inr ?_
      unfold phi qs
      simp only [if_true, if_neg c, show ((2 : Int) = 1) = False by simp, if_false]
      omega
  · have w1 := w0 (by omega)
    have hl := above_in w1 (oa rfl (.inl rfl))
    simp only [stepL, if_neg Bool.false_ne_true, if_true, show ((2 : Int) = 1) = False by simp, if_false]
    by_cases c : at_ up w = w
    · rw [if_pos c]
      refine phi_first (.inr rfl) (fun hk1 => ?_)
      unfold phi qs
      simp only [if_true, show ((2 : Int) = 1) = False by simp, if_false]
      split <;> omega
    · rw [if_neg c]
      refine .inr ?_
      unfold phi qs
      simp only [if_true, show ((2 : Int) = 1) = False by simp, show ((3 : Int) = 1) = False by simp, show ((3 : Int) = 2) = False by simp, if_false]
      omega
  · have hl := above_in (w0 (by omega)) (oa rfl (.inr rfl))
    simp only [stepL, if_neg Bool.false_ne_true, if_true, show ((3 : Int) = 1) = False by simp, show ((3 : Int) = 2) = False by simp, if_false]
    refine .inr ?_
    have hq := qs_le (swapL up u w r) ⟨k, x, y, 1, w, v, w, r, false, res⟩
    unfold phi
    rw [swapL_len]
    have e : qs up ⟨k, x, y, 3, u, v, w, r, false, res⟩ = 0 := by simp [qs]
    rw [e]
    simp only at hq ⊢
    omega
  · simp only [stepL, if_neg Bool.false_ne_true, if_true, show ((4 : Int) = 1) = False by simp, show ((4 : Int) = 2) = False by simp, show ((4 : Int) = 3) = False by simp, if_false]
    by_cases c : at_ up v = v
    · rw [if_pos c]
      refine phi_second ?_
      unfold phi qs
      simp only [if_true, if_pos c, show ((4 : Int) = 1) = False by simp, show ((4 : Int) = 2) = False by simp, show ((4 : Int) = 3) = False by simp, if_false]
      omega
    · rw [if_neg c]
      refine .inr ?_
      unfold phi qs
      simp only [if_true, if_neg c, show ((4 : Int) = 1) = False by simp, show ((4 : Int) = 2) = False by simp, show ((4 : Int) = 3) = False by simp, show ((5 : Int) = 1) = False by simp, show ((5 : Int) = 2) = False by simp, show ((5 : Int) = 3) = False by simp, show ((5 : Int) = 4) = False by simp, if_false]
      omega
  · have w1 := w0 (by omega)
    have hl := above_in w1 (oc rfl (.inl rfl))
    simp only [stepL, if_neg Bool.false_ne_true, if_true, show ((5 : Int) = 1) = False by simp, show ((5 : Int) = 2) = False by simp, show ((5 : Int) = 3) = False by simp, show ((5 : Int) = 4) = False by simp, if_false]
    by_cases c : at_ up w = w
    · rw [if_pos c]
      refine phi_second ?_
      unfold phi qs
      simp only [if_true, show ((5 : Int) = 1) = False by simp, show ((5 : Int) = 2) = False by simp, show ((5 : Int) = 3) = False by simp, show ((5 : Int) = 4) = False by simp, if_false]
      omega
    · rw [if_neg c]
      refine .inr ?_
      unfold phi qs
      simp only [if_true, show ((5 : Int) = 1) = False by simp, show ((5 : Int) = 2) = False by simp, show ((5 : Int) = 3) = False by simp, show ((5 : Int) = 4) = False by simp, show ((6 : Int) = 1) = False by simp, show ((6 : Int) = 2) = False by simp, show ((6 : Int) = 3) = False by simp, show ((6 : Int) = 4) = False by simp, show ((6 : Int) = 5) = False by simp, if_false]
      omega
  · have hl := above_in (w0 (by omega)) (oc rfl (.inr rfl))
    simp only [stepL, if_neg Bool.false_ne_true, if_true, show ((6 : Int) = 1) = False by simp, show ((6 : Int) = 2) = False by simp, show ((6 : Int) = 3) = False by simp, show ((6 : Int) = 4) = False by simp, show ((6 : Int) = 5) = False by simp, if_false]
    refine .inr ?_
    have hq := qs_le (swapL up v w r) ⟨k, x, y, 4, u, w, w, r, false, res⟩
    unfold phi
    rw [swapL_len]
    have e : qs up ⟨k, x, y, 6, u, v, w, r, false, res⟩ = 0 := by simp [qs]
    rw [e]
    simp only at hq ⊢
    omega
  · simp only [stepL, if_neg Bool.false_ne_true, if_true, show ((7 : Int) = 1) = False by simp, show ((7 : Int) = 2) = False by simp, show ((7 : Int) = 3) = False by simp, show ((7 : Int) = 4) = False by simp, show ((7 : Int) = 5) = False by simp, show ((7 : Int) = 6) = False by simp, if_false]
    by_cases c : at_ up u = u
    · rw [if_pos c]
      exact .inl rfl
    · rw [if_neg c]
      refine .inr ?_
      unfold phi qs
      simp only [if_true, if_neg c, show ((7 : Int) = 1) = False by simp, show ((7 : Int) = 2) = False by simp, show ((7 : Int) = 3) = False by simp, show ((7 : Int) = 4) = False by simp, show ((7 : Int) = 5) = False by simp, show ((7 : Int) = 6) = False by simp, if_false]
      omega
  · have e8 : qs up ⟨k, x, y, 8, u, v, w, r, false, res⟩ = 4 := by simp [qs]
    simp only [stepL, if_neg Bool.false_ne_true, show ((8 : Int) = 1) = False by simp, show ((8 : Int) = 2) = False by simp, show ((8 : Int) = 3) = False by simp, show ((8 : Int) = 4) = False by simp, show ((8 : Int) = 5) = False by simp, show ((8 : Int) = 6) = False by simp, show ((8 : Int) = 7) = False by simp, if_false]
    by_cases hb : belowB p u v = true
    · rw [if_pos hb]
      by_cases c : at_ up u = u
      · rw [if_pos c]
        exact .inl rfl
      · rw [if_neg c]
        refine .inr ?_
        unfold phi
        rw [e8]
        unfold qs
        simp only [if_true, if_neg c]
        omega
    · rw [if_neg hb]
      by_cases c : at_ up v = v
      · rw [if_pos c]
        exact .inl rfl
      · rw [if_neg c]
        refine .inr ?_
        unfold phi
        rw [e8]
        unfold qs
        simp only [if_true]
        rw [if_neg (show ¬ (k ≠ 1 ∧ at_ up v = v) from fun h => c h.2)]
        split <;> omega
theorem roots_less {up p : List Int} {t : T} (h : Ok up p) (hk : Keeps up.length p t) (hi : t.is = false) : ∀ z, In up.length z → at_ (stepL up p t).1 z = z → at_ up z = z := by
  have key : ∀ a b : Int, In up.length a → a ≠ b → ∀ z, In up.length z → at_ (up.set a.toNat b) z = z → at_ up z = z := by
    intro a b ha hab z hz e
    obtain ⟨i, rfl, hi⟩ := in_nat ha
    obtain ⟨j, rfl, hj⟩ := in_nat hz
    rw [at_nat, Int.toNat_natCast, getD_set _ _ _ _ hj] at e
    rw [at_nat]
    split at e
    · rename_i c
      subst c
      exact absurd e.symm hab
    · exact e
  have swp : ∀ a w b : Int, In up.length a → a ≠ b → ∀ z, In up.length z → at_ (swapL up a w b) z = z → at_ up z = z := by
    intro a w b ha hab z hz e
    unfold swapL at e
    split at e
    · exact key a b ha hab z hz e
    · exact e
  obtain ⟨k, x, y, s, u, v, w, r, is, res⟩ := t
  obtain ⟨⟨k0, k1, u0, v0, s0, s1, k2, k7, k8, w0, r0⟩, ⟨oa, ob, oc, od, oe⟩⟩ := hk
  simp only at k0 k1 u0 v0 s0 s1 k2 k7 k8 w0 r0 oa ob oc od oe hi
  subst hi
  rcases (show s = 1 ∨ s = 2 ∨ s = 3 ∨ s = 4 ∨ s = 5 ∨ s = 6 ∨ s = 7 ∨ s = 8 by omega) with rfl | rfl | rfl | rfl | rfl | rfl | rfl | rfl
  · simp only [stepL, if_neg Bool.false_ne_true, if_true]
    exact fun z _ e => e
  · simp only [stepL, if_neg Bool.false_ne_true, if_true, show ((2 : Int) = 1) = False by simp, if_false]
    exact fun z _ e => e
  · simp only [stepL, if_neg Bool.false_ne_true, if_true, show ((3 : Int) = 1) = False by simp, show ((3 : Int) = 2) = False by simp, if_false]
    exact swp u w r u0 (fun e => by subst e; exact lt_irrefl p _ (lt_trans (oa rfl (.inr rfl)) (ob rfl rfl)))
  · simp only [stepL, if_neg Bool.false_ne_true, if_true, show ((4 : Int) = 1) = False by simp, show ((4 : Int) = 2) = False by simp, show ((4 : Int) = 3) = False by simp, if_false]
    exact fun z _ e => e
  · simp only [stepL, if_neg Bool.false_ne_true, if_true, show ((5 : Int) = 1) = False by simp, show ((5 : Int) = 2) = False by simp, show ((5 : Int) = 3) = False by simp, show ((5 : Int) = 4) = False by simp, if_false]
    exact fun z _ e => e
  · simp only [stepL, if_neg Bool.false_ne_true, if_true, show ((6 : Int) = 1) = False by simp, show ((6 : Int) = 2) = False by simp, show ((6 : Int) = 3) = False by simp, show ((6 : Int) = 4) = False by simp, show ((6 : Int) = 5) = False by simp, if_false]
    exact swp v w r (v0 (k2 (by omega))) (fun e => by subst e; exact lt_irrefl p _ (lt_trans (oc rfl (.inr rfl)) (od rfl rfl)))
  · simp only [stepL, if_neg Bool.false_ne_true, if_true, show ((7 : Int) = 1) = False by simp, show ((7 : Int) = 2) = False by simp, show ((7 : Int) = 3) = False by simp, show ((7 : Int) = 4) = False by simp, show ((7 : Int) = 5) = False by simp, show ((7 : Int) = 6) = False by simp, if_false]
    exact fun z _ e => e
  · have hne := oe rfl (.inr rfl)
    simp only [stepL, if_neg Bool.false_ne_true, show ((8 : Int) = 1) = False by simp, show ((8 : Int) = 2) = False by simp, show ((8 : Int) = 3) = False by simp, show ((8 : Int) = 4) = False by simp, show ((8 : Int) = 5) = False by simp, show ((8 : Int) = 6) = False by simp, show ((8 : Int) = 7) = False by simp, if_false]
    by_cases hb : belowB p u v = true
    · rw [if_pos hb]
      split
      · exact key u v u0 hne
      · exact fun z _ e => e
    · rw [if_neg hb]
      split
      · exact key v u (v0 (k2 (by omega))) (Ne.symm hne)
      · exact fun z _ e => e
theorem phi_other {up up' p : List Int} {t : T} (hr : ∀ z, In up.length z → at_ up' z = z → at_ up z = z) (hl : up'.length = up.length) (hf : Fit up.length t) : phi up' p t ≤ phi up p t := by
  unfold phi
  rw [hl]
  have hu : at_ up' t.u = t.u → at_ up t.u = t.u := hr _ hf.u0
  have hv : t.k ≠ 1 → at_ up' t.v = t.v → at_ up t.v = t.v := fun hk => hr _ (hf.v0 hk)
  have : qs up' t ≤ qs up t := by
    unfold qs
    split
    · by_cases a : at_ up' t.u = t.u
      · rw [if_pos a, if_pos (hu a)]
        by_cases b : t.k ≠ 1 ∧ at_ up' t.v = t.v
        · rw [if_pos b, if_pos ⟨b.1, hv b.1 b.2⟩]; exact Nat.le_refl _
        · rw [if_neg b]; split <;> omega
      · rw [if_neg a]; repeat' split
        all_goals omega
    · split
      · exact Nat.le_refl _
      · split
        · exact Nat.le_refl _
        · split
          · rename_i h4
            by_cases b : at_ up' t.v = t.v
            · rw [if_pos b, if_pos (hv (hf.k2 (by omega)) b)]; exact Nat.le_refl _
            · rw [if_neg b]; split <;> omega
          · exact Nat.le_refl _
  omega
theorem above_le (p : List Int) (n x : Nat) : above p n x ≤ n := Nat.le_trans List.countP_le_length (by rw [List.length_range]; exact Nat.le_refl _)
theorem phi_le {up p : List Int} {t : T} (hf : Fit up.length t) : phi up p t + 1 ≤ 14 * up.length := by
  have hu := above_n (p := p) (n := up.length) (x := t.u.toNat) (by have := hf.u0.1; have := hf.u0.2; omega)
  have hv := above_le p up.length t.v.toNat
  have := qs_le up t
  unfold phi
  omega
theorem begin_keeps {n : Nat} {p : List Int} {k x y : Int} (h : beginB k x y n = true) : Keeps n p (beginT k x y n) := by
  rw [begin_yes h]
  simp only [beginB, Bool.and_eq_true, Bool.or_eq_true, decide_eq_true_eq, thereB] at h
  obtain ⟨h1, h2, ⟨h3, h4⟩, h5⟩ := h
  have hy2 : k ≠ 1 → In n y := fun hk => by
    rcases h5 with e | ⟨a, b⟩
    · exact absurd e hk
    · exact ⟨a, b⟩
  exact ⟨⟨h1, h2, ⟨h3, h4⟩, hy2, by show (1 : Int) ≤ 1; omega, by show (1 : Int) ≤ 8; omega, fun h => by simp at h, fun h => by simp at h, fun h => by simp at h, fun h => by simp at h, fun h => by simp at h⟩, ⟨fun _ h => by simp at h, fun _ h => by simp at h, fun _ h => by simp at h, fun _ h => by simp at h, fun _ h => by simp at h⟩⟩
end Go.Proofs.YtmaiicpaalbcfaaDoor
end
section
namespace Go.Proofs.YtmaiicpaalbcfaaDoor
open Go.RowKit Go.Proofs.YtmaiicpaalbcfaaDoorW.PrintWords Go.Proofs.YtmaiicpaalbcfaaDoorW.PrintLast Go.Proofs.YtmaiicpaalbcfaaDoorW.PrintMore Go.Proofs.YtmaiicpaalbcfaaDoor.P Go.Proofs.YtmaiicpaalbcfaaDoor.Bits
set_option linter.unusedVariables false
def sumR : Nat → (Nat → Nat) → Nat
  | 0, _ => 0
  | n + 1, f => sumR n f + f n
theorem sumR_same (n : Nat) (f g : Nat → Nat) (h : ∀ j, j < n → f j = g j) : sumR n f = sumR n g := by
  induction n with
  | zero => rfl
  | succ n ih => rw [sumR, sumR, ih fun j hj => h j (by omega), h n (by omega)]
theorem sumR_mono (n : Nat) (f g : Nat → Nat) (h : ∀ j, j < n → f j ≤ g j) : sumR n f ≤ sumR n g := by
  induction n with
  | zero => exact Nat.le_refl _
  | succ n ih => rw [sumR, sumR]; have := ih fun j hj => h j (by omega); have := h n (by omega); omega
theorem sumR_drop (n i : Nat) (f g : Nat → Nat) (hi : i < n) (h : ∀ j, j < n → f j ≤ g j) (hd : f i < g i) : sumR n f < sumR n g := by
  induction n with
  | zero => omega
  | succ n ih =>
    rw [sumR, sumR]
    by_cases e : i = n
    · subst e
      have := sumR_mono i f g fun j hj => h j (by omega)
      omega
    · have := ih (by omega) (fun j hj => h j (by omega))
      have := h n (by omega)
      omega
theorem sumR_le (n i : Nat) (f : Nat → Nat) (hi : i < n) : f i ≤ sumR n f := by
  induction n with
  | zero => omega
  | succ n ih =>
    rw [sumR]
    by_cases e : i = n
    · subst e; omega
    · have := ih (by omega); omega
theorem sumR_mul (n c : Nat) (f : Nat → Nat) : sumR n (fun i => c * f i) = c * sumR n f := by
  induction n with
  | zero => rfl
  | succ n ih => rw [sumR, sumR, ih, Nat.mul_add]
theorem who_mem (P : List Int) (at_ last : Int) (en : List Bool) (h : idx en ≠ []) : ∃ i : Nat, whoS P at_ last (idx en) = (i : Int) ∧ i < en.length ∧ en.getD i false = true := by
  have h1 := placeS_lt P at_ last (idx en) h
  have h2 := idx_mem en _ h1
  refine ⟨(idx en).getD (placeS P at_ last (idx en)) 0, ?_, h2.1, h2.2⟩
  unfold whoS
  rw [if_neg h]
theorem idx_ne (en : List Bool) (i : Nat) (hi : i < en.length) (h : en.getD i false = true) : idx en ≠ [] := by
  intro e
  have : i ∈ idx en := List.mem_filter.2 ⟨List.mem_range.2 hi, by simpa using h⟩
  rw [e] at this
  cases this
theorem getD_set_any {α : Type} (T : List α) (i j : Nat) (p z : α) (hi : i < T.length) : (T.set i p).getD j z = if j = i then p else T.getD j z := by
  simp only [List.getD_eq_getElem?_getD, List.getElem?_set]
  by_cases c : i = j
  · rw [if_pos c, if_pos (by omega), if_pos c.symm]; rfl
  · rw [if_neg c, if_neg (Ne.symm c)]
structure St5 where
  ws : List W5
  up : List Int
  going : Int
  at_ : Int
  last : Int
  steps : Int
  ev : List S42
def next5 (n : Nat) (prio P : List Int) (s : St5) (i : Nat) (l : List S40) (t : T) (b : Int) : St5 where
  ws := s.ws.set i ⟨l, (stepL s.up prio t).2, !(stepL s.up prio t).2.is, b, placeW t (stepL s.up prio t).2 (s.steps + 1) (s.ws.getD i z5).pl⟩
  up := (stepL s.up prio t).1
  going := if (stepL s.up prio t).2.is = true ∧ l = [] then Go.bits .andNot .u64 s.going (shl .u64 1 (i : Int)) else s.going
  at_ := atS P s.at_ (idx (enG n s.going))
  last := lastS P s.at_ s.last (idx (enG n s.going))
  steps := s.steps + 1
  ev := if (stepL s.up prio t).2.is = true then s.ev ++ [eventS i (stepL s.up prio t).2 b (s.steps + 1) (s.ws.getD i z5).pl] else s.ev
def playS (n : Nat) (prio P : List Int) (g : Nat) (s : St5) : Option (List S42 × List Int × Int) := playL n prio P g s.ws s.up s.going s.at_ s.last s.steps s.ev
theorem playS_end {n : Nat} {prio P : List Int} {g : Nat} {s : St5} (h : s.going = 0) : playS n prio P (g + 1) s = some (s.ev, s.up, s.steps) := by
  unfold playS
  rw [playL, if_pos h]
theorem playS_next {n : Nat} {prio P : List Int} {g : Nat} {s : St5} {i : Nat} {l : List S40} {t : T} {b : Int} (hg : s.going ≠ 0) (hw : whoS P s.at_ s.last (idx (enG n s.going)) = (i : Int)) (hi : i < n) (h0 : 0 ≤ s.steps) (h1 : s.steps < 1000000000) (h2 : s.ev.length < 1000000)
    (hgo : goesOn prio.length (s.steps + 1) (s.ws.getD i z5) = some (l, t, b)) (hs : Steps s.up prio t) : playS n prio P (g + 1) s = playS n prio P g (next5 n prio P s i l t b) := by
  unfold playS next5
  rw [playL, if_neg hg, hw, if_pos ⟨by omega, by omega, h0, h1, h2⟩, Int.toNat_natCast, hgo]
  dsimp only
  rw [if_pos hs]
  generalize (stepL s.up prio t).1 = up2
  obtain ⟨t2, ht2⟩ : ∃ x, (stepL s.up prio t).2 = x := ⟨_, rfl⟩
  rw [ht2]
  cases his : t2.is with
  | false => simp
  | true =>
    by_cases hl : l = []
    · simp [hl]
    · simp [hl]
def onB (w : W5) : Bool := w.busy || !w.l.isEmpty
def Goi (n : Nat) (going : Int) (f : Nat → Bool) : Prop := ∃ x : Nat, going = (x : Int) ∧ x < 18446744073709551616 ∧ ∀ i, x.testBit i = (decide (i < n) && f i)
theorem Goi.zero {n : Nat} {going : Int} {f : Nat → Bool} (h : Goi n going f) : going = 0 ↔ ∀ i, i < n → f i = false := by
  obtain ⟨x, rfl, hx, hb⟩ := h
  constructor
  · intro h0 i hi
    have hx0 : x = 0 := by omega
    have h1 := hb i
    rw [hx0, Nat.zero_testBit, decide_eq_true hi, Bool.true_and] at h1
    exact h1.symm
  · intro h0
    have : x = 0 := Nat.eq_of_testBit_eq (fun i => by
      rw [Nat.zero_testBit, hb i]
      by_cases c : i < n
      · rw [h0 i c, Bool.and_false]
      · rw [decide_eq_false c, Bool.false_and])
    omega
theorem Goi.bit {n : Nat} {going : Int} {f : Nat → Bool} (h : Goi n going f) (h64 : n ≤ 64) {i : Nat} (hi : i < n) : bitOn going i = f i := by
  obtain ⟨x, rfl, hx, hb⟩ := h
  have h1 := hb i
  rw [decide_eq_true hi, Bool.true_and] at h1
  rw [← h1]
  unfold bitOn shr
  rw [show min ((i : Int)).toNat IntKind.u64.bits = i by show min ((i : Int)).toNat 64 = i; omega]
  have e : ((x : Int) / 2 ^ i) = ((x / 2 ^ i : Nat) : Int) := by rw [Int.natCast_ediv]; norm_cast
  rw [e, show (1 : Int) = ((1 : Nat) : Int) from rfl, and64 (Nat.lt_of_le_of_lt (Nat.div_le_self _ _) hx) (by decide), Nat.and_one_is_mod, Nat.testBit_eq_decide_div_mod_eq]
  have hm : x / 2 ^ i % 2 = 0 ∨ x / 2 ^ i % 2 = 1 := by omega
  rcases hm with c | c <;> rw [c] <;> decide
theorem Goi.off {n : Nat} {going : Int} {f g : Nat → Bool} (h : Goi n going f) (h64 : n ≤ 64) {i : Nat} (hi : i < n) (hg : ∀ j, j < n → g j = (decide (j ≠ i) && f j)) : Goi n (Go.bits .andNot .u64 going (shl .u64 1 (i : Int))) g := by
  obtain ⟨x, rfl, hx, hb⟩ := h
  have h2 : 2 ^ i < 18446744073709551616 := Nat.lt_of_lt_of_le (Nat.pow_lt_pow_right (by decide) (show i < 64 by omega)) (by decide)
  rw [shl_one i (by omega), u64_andNot_nat x (2 ^ i) hx h2]
  refine ⟨_, rfl, Nat.lt_of_le_of_lt Nat.and_le_left hx, fun j => ?_⟩
  rw [Nat.testBit_and, hb j, show 18446744073709551615 - 2 ^ i = 2 ^ 64 - (2 ^ i + 1) by omega, Nat.testBit_two_pow_sub_succ (by exact h2)]
  by_cases c : j < n
  · rw [decide_eq_true c, hg j c, decide_eq_true (show j < 64 by omega)]
    by_cases e : j = i
    · subst e
      simp
    · have : Nat.testBit (2 ^ i) j = false := by rw [Nat.testBit_two_pow]; simp; omega
      rw [this]
      simp [e]
  · simp [c]
theorem Goi.congr {n : Nat} {going : Int} {f g : Nat → Bool} (h : Goi n going f) (hg : ∀ j, j < n → g j = f j) : Goi n going g := by
  obtain ⟨x, e, hx, hb⟩ := h
  refine ⟨x, e, hx, fun j => ?_⟩
  rw [hb j]
  by_cases c : j < n
  · rw [hg j c]
  · simp [c]
theorem enG_length' (n : Nat) (going : Int) : (enG n going).length = n := by simp [enG]
theorem enG_get' (n : Nat) (going : Int) (i : Nat) (hi : i < n) : (enG n going).getD i false = bitOn going i := by
  simp [enG, List.getD_eq_getElem?_getD, hi]
def left5 (prio up : List Int) (w : W5) : Nat := 14 * prio.length * w.l.length + (if w.busy = true then phi up prio w.t + 1 else 0)
def mu5 (n : Nat) (prio : List Int) (s : St5) : Nat := sumR n fun i => left5 prio s.up (s.ws.getD i z5)
structure Base (n : Nat) (prio : List Int) (s : St5) : Prop where
  n64 : n ≤ 64
  len : s.ws.length = n
  ok : Ok s.up prio
  go : Goi n s.going (fun i => onB (s.ws.getD i z5))
  task : ∀ i, i < n → (s.ws.getD i z5).busy = true → Keeps prio.length prio (s.ws.getD i z5).t ∧ (s.ws.getD i z5).t.is = false
  left : ∀ i, i < n → ∀ o ∈ (s.ws.getD i z5).l, validB prio.length o = true
  steps0 : 0 ≤ s.steps
  cap : s.steps + (mu5 n prio s : Int) < 1000000
  evs : (s.ev.length : Int) ≤ s.steps
structure Goes5 (n : Nat) (prio P : List Int) (s : St5) (i : Nat) (l : List S40) (t : T) (b : Int) : Prop where
  hi : i < n
  who : whoS P s.at_ s.last (idx (enG n s.going)) = (i : Int)
  src : ((s.ws.getD i z5).busy = true ∧ l = (s.ws.getD i z5).l ∧ t = (s.ws.getD i z5).t ∧ b = (s.ws.getD i z5).b) ∨
    ((s.ws.getD i z5).busy = false ∧ ∃ o, (s.ws.getD i z5).l = o :: l ∧ validB prio.length o = true ∧ t = beginT o.f0 o.f1 o.f2 prio.length ∧ b = s.steps + 1)
  keeps : Keeps prio.length prio t
  live : t.is = false
theorem onB_off {w : W5} (h : onB w = false) : w.busy = false ∧ w.l = [] := by
  unfold onB at h
  rw [Bool.or_eq_false_iff] at h
  exact ⟨h.1, by simpa using h.2⟩
theorem Base.done {n : Nat} {prio : List Int} {s : St5} (h : Base n prio s) (hg : s.going = 0) : ∀ i, i < n → (s.ws.getD i z5).busy = false ∧ (s.ws.getD i z5).l = [] :=
  fun i hi => onB_off ((h.go.zero).1 hg i hi)
theorem left5_other {prio up up' : List Int} {w : W5} (h : w.busy = true → phi up' prio w.t ≤ phi up prio w.t) : left5 prio up' w ≤ left5 prio up w := by
  unfold left5
  by_cases c : w.busy = true
  · rw [if_pos c, if_pos c]; have := h c; omega
  · rw [if_neg c, if_neg c]; exact Nat.le_refl _
theorem Base.step {n : Nat} {prio : List Int} {s : St5} (h : Base n prio s) (hg : s.going ≠ 0) (P : List Int) :
    ∃ i l t b, Goes5 n prio P s i l t b ∧ (∀ g, playS n prio P (g + 1) s = playS n prio P g (next5 n prio P s i l t b)) ∧ Base n prio (next5 n prio P s i l t b) ∧ mu5 n prio (next5 n prio P s i l t b) < mu5 n prio s := by
  have hex : ∃ i, i < n ∧ onB (s.ws.getD i z5) = true := by
    refine Decidable.byContradiction fun c => hg ((h.go.zero).2 fun i hi => ?_)
    cases e : onB (s.ws.getD i z5) with
    | false => rfl
    | true => exact absurd ⟨i, hi, e⟩ c
  obtain ⟨i0, hi0, ho0⟩ := hex
  have hne : idx (enG n s.going) ≠ [] := idx_ne _ i0 (by rw [enG_length']; exact hi0) (by rw [enG_get' n s.going i0 hi0, h.go.bit h.n64 hi0]; exact ho0)
  obtain ⟨i, hw, hi, hon⟩ := who_mem P s.at_ s.last _ hne
  rw [enG_length'] at hi
  rw [enG_get' n s.going i hi, h.go.bit h.n64 hi] at hon
  have hl : s.up.length = prio.length := h.ok.1
  -- what it goes on with
  have hgo : ∃ l t b, goesOn prio.length (s.steps + 1) (s.ws.getD i z5) = some (l, t, b) ∧ Goes5 n prio P s i l t b ∧ (∀ o ∈ l, o ∈ (s.ws.getD i z5).l) ∧
      14 * prio.length * l.length + phi s.up prio t + 1 ≤ left5 prio s.up (s.ws.getD i z5) := by
    unfold goesOn
    by_cases hb : (s.ws.getD i z5).busy = true
    · have ht := h.task i hi hb
      refine ⟨_, _, _, by rw [if_pos hb], ⟨hi, hw, .inl ⟨hb, rfl, rfl, rfl⟩, ht.1, ht.2⟩, fun o ho => ho, ?_⟩
      unfold left5
      rw [if_pos hb]
      omega
    · have hb2 : (s.ws.getD i z5).busy = false := by simpa using hb
      have hleft := h.left i hi
      cases hwl : (s.ws.getD i z5).l with
      | nil => unfold onB at hon; rw [hb2, hwl] at hon; cases hon
      | cons o r =>
        have hv := hleft o (by rw [hwl]; exact List.mem_cons_self ..)
        have hk : Keeps prio.length prio (beginT o.f0 o.f1 o.f2 prio.length) := begin_keeps hv
        have hlive : (beginT o.f0 o.f1 o.f2 prio.length).is = false := by rw [begin_yes hv]
        refine ⟨r, beginT o.f0 o.f1 o.f2 prio.length, s.steps + 1, by rw [if_neg hb]; dsimp only; rw [if_pos hv], ⟨hi, hw, .inr ⟨hb2, o, hwl, hv, rfl, rfl⟩, hk, hlive⟩, fun o' ho => List.mem_cons_of_mem _ ho, ?_⟩
        have hp := phi_le (up := s.up) (p := prio) (t := beginT o.f0 o.f1 o.f2 prio.length) (by rw [hl]; exact hk.fit)
        rw [hl] at hp
        unfold left5
        rw [if_neg hb, hwl, List.length_cons, Nat.mul_succ]
        omega
  obtain ⟨l, t, b, hgo, hG, hsub, hmu⟩ := hgo
  have hk' : Keeps s.up.length prio t := by rw [hl]; exact hG.keeps
  have hsk := step_keeps h.ok hk'
  have hsteps : Steps s.up prio t := ⟨hl, h.ok.2.1, by have := hk'.fit.u0.1; have := hk'.fit.u0.2; omega, hk'.fit⟩
  have hroots := roots_less h.ok hk' hG.live
  have hlen' : (stepL s.up prio t).1.length = s.up.length := hsk.2.1
  have hphi := phi_step h.ok hk' hG.live
  have hcap := h.cap
  have hget : ∀ j, (next5 n prio P s i l t b).ws.getD j z5 = if j = i then ⟨l, (stepL s.up prio t).2, !(stepL s.up prio t).2.is, b, placeW t (stepL s.up prio t).2 (s.steps + 1) (s.ws.getD i z5).pl⟩ else s.ws.getD j z5 := fun j => getD_set_any _ _ _ _ _ (by rw [h.len]; exact hi)
  have hdrop : mu5 n prio (next5 n prio P s i l t b) < mu5 n prio s := by
    refine sumR_drop n i _ _ hi (fun j hj => ?_) ?_
    · rw [hget j]
      by_cases c : j = i
      · rw [if_pos c, c]
        refine Nat.le_trans ?_ hmu
        unfold left5
        dsimp only [next5]
        rcases hphi with e | e
        · rw [e]; simp; omega
        · split <;> omega
      · rw [if_neg c]
        exact left5_other fun hb => phi_other hroots hlen' (by rw [hl]; exact (h.task j hj hb).1.fit)
    · rw [hget i, if_pos rfl]
      refine Nat.lt_of_lt_of_le ?_ hmu
      unfold left5
      dsimp only [next5]
      rcases hphi with e | e
      · rw [e]; simp; omega
      · split <;> omega
  refine ⟨i, l, t, b, hG, fun g => playS_next hg hw hi h.steps0 (by omega) (by have := h.evs; omega) hgo hsteps, ⟨h.n64, by rw [← h.len]; exact List.length_set, hsk.1, ?_, fun j hj hb => ?_, fun j hj o ho => ?_, by have := h.steps0; show 0 ≤ s.steps + 1; omega, ?_, ?_⟩, hdrop⟩
  · -- the flags
    show Goi n (if (stepL s.up prio t).2.is = true ∧ l = [] then Go.bits .andNot .u64 s.going (shl .u64 1 (i : Int)) else s.going) _
    by_cases c : (stepL s.up prio t).2.is = true ∧ l = []
    · rw [if_pos c]
      refine h.go.off h.n64 hi (fun j hj => ?_)
      rw [hget j]
      by_cases e : j = i
      · rw [if_pos e]; simp [onB, c.1, c.2, e]
      · rw [if_neg e]; simp [e]
    · rw [if_neg c]
      refine h.go.congr (fun j hj => ?_)
      rw [hget j]
      by_cases e : j = i
      · rw [if_pos e, e, hon]
        unfold onB
        cases his : (stepL s.up prio t).2.is with
        | false => simp
        | true =>
          have : l ≠ [] := fun hh => c ⟨his, hh⟩
          cases l with
          | nil => exact absurd rfl this
          | cons a b => simp
      · rw [if_neg e]
  · rw [hget j] at hb ⊢
    by_cases e : j = i
    · rw [if_pos e] at hb ⊢
      dsimp only at hb ⊢
      exact ⟨by rw [← hl]; exact hsk.2.2, by simpa using hb⟩
    · rw [if_neg e] at hb ⊢
      exact h.task j hj hb
  · rw [hget j] at ho
    by_cases e : j = i
    · rw [if_pos e] at ho
      exact h.left i hi o (hsub o ho)
    · rw [if_neg e] at ho
      exact h.left j hj o ho
  · show s.steps + 1 + (mu5 n prio (next5 n prio P s i l t b) : Int) < 1000000
    omega
  · have := h.evs
    show ((if (stepL s.up prio t).2.is = true then s.ev ++ [_] else s.ev).length : Int) ≤ s.steps + 1
    split
    · rw [List.length_append]; simp; omega
    · omega
theorem run5 {n : Nat} {prio P : List Int} (I : St5 → Prop) (hI : ∀ s i l t b, Base n prio s → I s → Goes5 n prio P s i l t b → I (next5 n prio P s i l t b)) :
    ∀ g s, Base n prio s → I s → mu5 n prio s < g → ∃ s', playS n prio P g s = some (s'.ev, s'.up, s'.steps) ∧ Base n prio s' ∧ I s' ∧ s'.going = 0 ∧ s'.steps ≤ s.steps + (mu5 n prio s : Int)
  | 0, s, _, _, hm => absurd hm (by omega)
  | g + 1, s, h, hi, hm => by
    by_cases hg : s.going = 0
    · exact ⟨s, playS_end hg, h, hi, hg, by omega⟩
    · obtain ⟨i, l, t, b, hG, hp, hB, hd⟩ := h.step hg P
      obtain ⟨s', h1, h2, h3, h4, h5⟩ := run5 I hI g _ hB (hI s i l t b h hi hG) (by omega)
      refine ⟨s', by rw [hp]; exact h1, h2, h3, h4, ?_⟩
      have : (next5 n prio P s i l t b).steps = s.steps + 1 := rfl
      omega
def total (S : List (List S40)) : Nat := sumR S.length fun i => (S.getD i []).length
def validL (n : Int) (S : List (List S40)) : List (List S40) := S.map fun l => l.filter (validB n)
def ws5 (n : Int) (S : List (List S40)) : List W5 := (validL n S).map fun l => ⟨l, t0, false, 0, 0⟩
def start5 (prio : List Int) (S : List (List S40)) : St5 := ⟨ws5 prio.length S, upS prio.length, goingTo (validL prio.length S) S.length, 0, -1, 0, []⟩
theorem validL_get (n : Int) (S : List (List S40)) (i : Nat) : (validL n S).getD i [] = (S.getD i []).filter (validB n) := by
  simp only [validL, List.getD_eq_getElem?_getD, List.getElem?_map]
  cases S[i]? <;> rfl
theorem ws5_get (n : Int) (S : List (List S40)) (i : Nat) : (ws5 n S).getD i z5 = ⟨(S.getD i []).filter (validB n), t0, false, 0, 0⟩ := by
  simp only [ws5, validL, List.getD_eq_getElem?_getD, List.getElem?_map]
  cases S[i]? <;> rfl
theorem up_ok (prio : List Int) (h : prio.length ≤ 65536) : Ok (upS prio.length) prio := by
  refine ⟨by simp [upS], by simpa [upS] using h, fun j hj => ?_⟩
  have hj' : j < prio.length := by simpa [upS] using hj
  exact ⟨j, by simp [upS, List.getD_eq_getElem?_getD, hj'], hj, .inl rfl⟩
theorem going_ok (L : List (List S40)) : ∀ i, i ≤ 64 → Goi i (goingTo L i) (fun j => !(L.getD j []).isEmpty)
  | 0, _ => ⟨0, rfl, by decide, fun j => by simp⟩
  | i + 1, hi => by
    obtain ⟨x, hx, hlt, hb⟩ := going_ok L i (by omega)
    rw [goingTo, hx]
    by_cases c : L.getD i [] = []
    · rw [if_pos c]
      refine ⟨x, rfl, hlt, fun j => ?_⟩
      rw [hb j]
      by_cases e : j = i
      · subst e; dsimp only; rw [c]; simp
      · by_cases e2 : j < i
        · rw [decide_eq_true e2, decide_eq_true (show j < i + 1 by omega)]
        · rw [decide_eq_false e2, decide_eq_false (show ¬ j < i + 1 by omega), Bool.false_and]; try rfl
    · rw [if_neg c, shl_one i (by omega)]
      have h2 : 2 ^ i < 18446744073709551616 := Nat.lt_of_lt_of_le (Nat.pow_lt_pow_right (by decide) (show i < 64 by omega)) (by decide)
      rw [bits_or_u64_nat x (2 ^ i) hlt h2]
      refine ⟨_, rfl, Nat.or_lt_two_pow (n := 64) hlt h2, fun j => ?_⟩
      rw [Nat.testBit_or, hb j, Nat.testBit_two_pow]
      by_cases e : j = i
      · subst e
        have hce : (L.getD j []).isEmpty = false := by
          cases h : L.getD j [] with
          | nil => exact absurd h c
          | cons a b => rfl
        simp only [hce]
        simp
      · have e3 : ¬ i = j := fun h => e h.symm
        by_cases e2 : j < i
        · rw [decide_eq_true e2, decide_eq_true (show j < i + 1 by omega), decide_eq_false e3, Bool.or_false]
        · rw [decide_eq_false e2, decide_eq_false (show ¬ j < i + 1 by omega), decide_eq_false e3]; rfl
theorem start_base (prio : List Int) (S : List (List S40)) (hs : S.length ≤ 64) (hn : prio.length ≤ 65536) (hcap : 14 * prio.length * total S < 1000000) : Base S.length prio (start5 prio S) ∧ mu5 S.length prio (start5 prio S) ≤ 14 * prio.length * total S := by
  have hmu : mu5 S.length prio (start5 prio S) ≤ 14 * prio.length * total S := by
    unfold mu5 total
    rw [← sumR_mul]
    refine sumR_mono _ _ _ fun j hj => ?_
    show left5 prio _ ((ws5 prio.length S).getD j z5) ≤ _
    rw [ws5_get]
    unfold left5
    dsimp only
    rw [if_neg (by decide), Nat.add_zero]
    exact Nat.mul_le_mul_left _ (List.length_filter_le _ _)
  refine ⟨⟨hs, by simp [start5, ws5, validL], up_ok prio hn, ?_, fun i hi hb => ?_, fun i hi o ho => ?_, Int.le_refl _, ?_, Int.le_refl _⟩, hmu⟩
  · refine (going_ok (validL prio.length S) S.length hs).congr fun j hj => ?_
    show onB ((ws5 prio.length S).getD j z5) = _
    rw [ws5_get, validL_get]
    simp [onB]
  · have hb : ((ws5 prio.length S).getD i z5).busy = true := hb
    rw [ws5_get] at hb
    cases hb
  · have ho : o ∈ ((ws5 prio.length S).getD i z5).l := ho
    rw [ws5_get] at ho
    exact (List.mem_filter.1 ho).2
  · show (0 : Int) + _ < 1000000
    omega
theorem allW_nat : ∀ (S : List (List S40)) (a : Nat), a + (S.map List.length).sum ≤ 1000000 → allW (a : Int) S = ((a + (S.map List.length).sum : Nat) : Int)
  | [], a, _ => by simp [allW]
  | x :: S, a, h => by
    rw [List.map_cons, List.sum_cons] at h ⊢
    rw [allW, wr64 (by omega) (by omega), show (a : Int) + (x.length : Int) = ((a + x.length : Nat) : Int) by omega, allW_nat S (a + x.length) (by omega)]
    congr 1
    omega
theorem sumR_cons (n : Nat) (f : Nat → Nat) : sumR (n + 1) f = f 0 + sumR n (fun i => f (i + 1)) := by
  induction n with
  | zero => rw [sumR, sumR, sumR]; omega
  | succ n ih => rw [sumR, ih, sumR]; omega
theorem total_sum : ∀ S : List (List S40), total S = (S.map List.length).sum
  | [] => rfl
  | x :: S => by
    unfold total
    rw [List.length_cons, sumR_cons, List.map_cons, List.sum_cons, ← total_sum S]
    rfl
theorem total_all (S : List (List S40)) (h : total S ≤ 1000000) : allW 0 S = (total S : Int) := by
  have := allW_nat S 0 (by rw [← total_sum]; omega)
  rw [total_sum]
  rw [show ((0 : Nat) : Int) = 0 from rfl] at this
  rw [this, Nat.zero_add]
theorem okS_true {prio : List Int} {S : List (List S40)} (hn : prio.length ≤ 4096) (hs : S.length ≤ 64) (ht : total S ≤ 4096) : okS prio.length S = true := by
  unfold okS
  exact decide_eq_true ⟨by omega, by omega, by rw [total_all S (by omega)]; omega⟩
theorem sumR_mem (S : List (List S40)) : ∀ x ∈ S, x.length ≤ total S := by
  intro x hx
  obtain ⟨i, hi, rfl⟩ := List.getElem_of_mem hx
  have := sumR_le S.length i (fun i => (S.getD i []).length) hi
  simp only [List.getD_eq_getElem?_getD, List.getElem?_eq_getElem hi, Option.getD_some] at this
  exact this
theorem playF_run {prio P : List Int} {S : List (List S40)} (hn : prio.length ≤ 4096) (hs : S.length ≤ 64) (ht : total S ≤ 4096) (hP : P.length ≤ 1000000) : playF prio S P = playS S.length prio P (100 * (total S + 1) * (prio.length + 1) + 1) (start5 prio S) := by
  unfold playF
  rw [if_pos ⟨by omega, by omega, hP, fun x hx => by have := sumR_mem S x hx; omega⟩, if_pos (okS_true hn hs ht), total_all S (by omega), Int.toNat_natCast]
  rfl
theorem play_whole {prio P : List Int} {S : List (List S40)} (hn : prio.length ≤ 4096) (hs : S.length ≤ 64) (ht : total S ≤ 4096) (hcap : 14 * prio.length * total S < 1000000) (hP : P.length ≤ 1000000)
    (I : St5 → Prop) (h0 : I (start5 prio S)) (hI : ∀ s i l t b, Base S.length prio s → I s → Goes5 S.length prio P s i l t b → I (next5 S.length prio P s i l t b)) :
    ∃ s', playF prio S P = some (s'.ev, s'.up, s'.steps) ∧ Base S.length prio s' ∧ I s' ∧ s'.going = 0 ∧ s'.steps ≤ ((14 * prio.length * total S : Nat) : Int) := by
  obtain ⟨hb, hm⟩ := start_base prio S hs (by omega) hcap
  have hle : 14 * prio.length * total S ≤ 100 * (total S + 1) * (prio.length + 1) := by
    have e1 : 14 * prio.length * total S = 14 * (total S * prio.length) := by rw [Nat.mul_assoc, Nat.mul_comm prio.length]
    have e2 : total S * prio.length ≤ (total S + 1) * (prio.length + 1) := Nat.mul_le_mul (by omega) (by omega)
    rw [e1, Nat.mul_assoc]
    omega
  obtain ⟨s', h1, h2, h3, h4, h5⟩ := run5 I hI (100 * (total S + 1) * (prio.length + 1) + 1) (start5 prio S) hb h0 (by omega)
  refine ⟨s', by rw [playF_run hn hs ht hP]; exact h1, h2, h3, h4, ?_⟩
  have : (start5 prio S).steps = 0 := rfl
  omega
end Go.Proofs.YtmaiicpaalbcfaaDoor
end
section
namespace Go.Proofs.YtmaiicpaalbcfaaDoor
open Go.RowKit Go.Proofs.YtmaiicpaalbcfaaDoorW.PrintWords Go.Proofs.YtmaiicpaalbcfaaDoorW.PrintLast Go.Proofs.YtmaiicpaalbcfaaDoor.P
set_option linter.unusedVariables false
set_option linter.unusedSimpArgs false
theorem tmod_natE {i n : Int} (h0 : 0 ≤ i) : Int.tmod i n = i % n := Int.tmod_eq_emod_of_nonneg h0
theorem prio_l0 (ns : List Int) (n : Nat) (hn : n ≤ 65536) : ∀ (d i : Nat) (l : List Int), i + d = n → l.length = n → ∃ p, p.length = n ∧ Ev (fun k => warplaw4_Prio.l0 k ns (n : Int) l (i : Int)) p
  | 0, i, l, h, hl => by
    refine ⟨l, hl, Ev.step (f := fun _ => some l) (fun k => ?_) (Ev.now _)⟩
    rw [warplaw4_Prio.l0, if_neg (by omega)]
  | d + 1, i, l, h, hl => by
    by_cases e : ns.length = 0
    · refine ⟨l, hl, Ev.step (f := fun _ => some l) (fun k => ?_) (Ev.now _)⟩
      rw [warplaw4_Prio.l0, if_pos (by omega), if_neg (by omega)]
    · obtain ⟨p, hp, hev⟩ := prio_l0 ns n hn d (i + 1) (l.set i (Int.tmod (wrap64 (rd ns (Int.tmod (i : Int) (ns.length : Int)))) 5)) (by omega) (by rw [List.length_set]; exact hl)
      refine ⟨p, hp, Ev.step (fun k => ?_) hev⟩
      have h1 : Int.tmod (i : Int) (ns.length : Int) = (i : Int) % (ns.length : Int) := tmod_natE (by omega)
      have h2 := Int.emod_nonneg (i : Int) (show (ns.length : Int) ≠ 0 by omega)
      have h3 := Int.emod_lt_of_pos (i : Int) (show (0 : Int) < ns.length by omega)
      rw [warplaw4_Prio.l0, if_pos (by omega), if_pos (by omega), if_neg (by omega), if_pos (by omega), if_pos (by omega), if_pos (by omega), if_pos (by omega), wr64 (i := (i : Int) + 1) (by omega) (by omega)]
      rfl
theorem prio_ev (ns : List Int) (n : Nat) (hn : n ≤ 65536) : ∃ p, p.length = n ∧ Ev (fun k => warplaw4_Prio.f k ns (n : Int)) p := by
  obtain ⟨p, hp, hev⟩ := prio_l0 ns n hn n 0 (List.replicate n 0) (by omega) (by simp)
  refine ⟨p, hp, Ev.congr (fun k => ?_) hev⟩
  unfold warplaw4_Prio.f
  rw [if_pos (by omega), if_pos (by omega)]
  rfl
def Byte (x : Int) : Prop := 0 ≤ x ∧ x < 256
def Bytes (l : List Int) : Prop := ∀ i, Byte (rd l i)
def OpOk (n : Nat) (p : Int × Int × Int) : Prop := 1 ≤ p.1 ∧ p.1 ≤ 3 ∧ (0 ≤ p.2.1 ∧ p.2.1 < n) ∧ (0 ≤ p.2.2 ∧ p.2.2 < n)
theorem op_f {a b c : Int} {n : Nat} (ha : Byte a) (hb : Byte b) (hc : Byte c) (h0 : 0 < n) (h1 : n ≤ 65536) : warplaw4_op.f a b c (n : Int) = some (1 + a % 3, b % n, c % n) := by
  obtain ⟨a0, a1⟩ := ha
  obtain ⟨b0, b1⟩ := hb
  obtain ⟨c0, c1⟩ := hc
  unfold warplaw4_op.f
  rw [if_neg (by omega), wr64 (i := a) (by omega) (by omega), wr64 (i := b) (by omega) (by omega), wr64 (i := c) (by omega) (by omega), tmod_natE a0, tmod_natE b0, tmod_natE c0, wr64 (by omega) (by omega)]
theorem op_ok {a b c : Int} {n : Nat} (h0 : 0 < n) : OpOk n (1 + a % 3, b % n, c % n) := by
  have hn : (0 : Int) < n := by omega
  exact ⟨by simp only; omega, by simp only; omega, ⟨Int.emod_nonneg _ (by omega), Int.emod_lt_of_pos _ hn⟩, ⟨Int.emod_nonneg _ (by omega), Int.emod_lt_of_pos _ hn⟩⟩
def OpsOk (n : Nat) (l : List S40) : Prop := ∀ q ∈ l, OpOk n (q.f0, q.f1, q.f2)
theorem ops_l0 (ns : List Int) (n : Nat) (hb : Bytes ns) (h0 : 0 < n) (h1 : n ≤ 65536) (hl : ns.length ≤ 1000000) : ∀ (d i : Nat) (l : List S40), ns.length ≤ i + d → 3 * l.length = i → 3 * l.length ≤ ns.length → OpsOk n l →
    ∃ r, OpsOk n r ∧ 3 * r.length ≤ ns.length ∧ Ev (fun k => warplaw4_Ops.l0 k ns (n : Int) l (i : Int)) r
  | 0, i, l, h, h2, h3, ho => by
    refine ⟨l, ho, by omega, Ev.step (f := fun _ => some l) (fun k => ?_) (Ev.now _)⟩
    rw [warplaw4_Ops.l0, if_neg (by rw [wr64 (by omega) (by omega)]; omega)]
  | d + 1, i, l, h, h2, h3, ho => by
    by_cases e : i + 2 < ns.length
    · obtain ⟨r, hr, hrl, hev⟩ := ops_l0 ns n hb h0 h1 hl d (i + 3) (l ++ [⟨1 + rd ns (i : Int) % 3, rd ns ((i : Int) + 1) % n, rd ns ((i : Int) + 2) % n⟩]) (by omega) (by simp; omega) (by simp; omega) (fun q hq => by
        rcases List.mem_append.1 hq with hq | hq
        · exact ho q hq
        · rw [List.mem_singleton.1 hq]; exact op_ok h0)
      refine ⟨r, hr, hrl, Ev.step (fun k => ?_) hev⟩
      rw [warplaw4_Ops.l0, wr64 (i := (i : Int) + 2) (by omega) (by omega), wr64 (i := (i : Int) + 1) (by omega) (by omega), wr64 (i := (i : Int) + 3) (by omega) (by omega), if_pos (by omega), if_pos (by omega), if_pos (by omega), if_pos (by omega), if_pos (by omega), if_pos (by omega), if_pos (by omega), op_f (hb _) (hb _) (hb _) h0 h1]
      simp only [Option.bind_some]
      rw [if_pos (by omega)]
      rfl
    · refine ⟨l, ho, by omega, Ev.step (f := fun _ => some l) (fun k => ?_) (Ev.now _)⟩
      rw [warplaw4_Ops.l0, if_neg (by rw [wr64 (by omega) (by omega)]; omega)]
theorem ops_ev (ns : List Int) (n : Nat) (hb : Bytes ns) (h0 : 0 < n) (h1 : n ≤ 65536) (hl : ns.length ≤ 1000000) : ∃ r, OpsOk n r ∧ 3 * r.length ≤ ns.length ∧ Ev (fun k => warplaw4_Ops.f k ns (n : Int)) r :=
  ops_l0 ns n hb h0 h1 hl ns.length 0 [] (by omega) (by simp) (by simp) (fun q hq => by simp at hq)
theorem opsOk_valid {n : Nat} {l : List S40} (h : OpsOk n l) : l.filter (validB n) = l := by
  rw [List.filter_eq_self]
  intro q hq
  obtain ⟨h1, h2, h3, h4⟩ := h q hq
  simp only at h1 h2 h3 h4
  simp [validB, beginB, thereB, h1, h2, h3, h4]
theorem bytes_of {l : List Int} (h : ∀ x ∈ l, 0 ≤ x ∧ x < 256) : Bytes l := fun i => by
  unfold rd
  rw [List.getD_eq_getElem?_getD]
  cases e : l[i.toNat]? with
  | none => exact ⟨by decide, by decide⟩
  | some x => exact h x (List.mem_of_getElem? e)
theorem u8_rng {n : Int} (h : (Lit.int .u8 n).wf = true) : 0 ≤ n ∧ n < 256 := by
  have h2 : IntKind.u8.min ≤ n ∧ n ≤ IntKind.u8.max := by simpa [Lit.wf] using h
  have e1 : IntKind.u8.min = 0 := rfl
  have e2 : IntKind.u8.max = 255 := rfl
  omega
end Go.Proofs.YtmaiicpaalbcfaaDoor
end
section
namespace Go.Proofs.YtmaiicpaalbcfaaDoor
open Go.RowKit Go.Proofs.YtmaiicpaalbcfaaDoorW.PrintWords Go.Proofs.YtmaiicpaalbcfaaDoorW.PrintLast Go.Proofs.YtmaiicpaalbcfaaDoor.P Go.Proofs.YtmaiicpaalbcfaaDoor.Bits
set_option linter.unusedVariables false
theorem sumR_less (n i d : Nat) (f g : Nat → Nat) (hi : i < n) (h : ∀ j, j < n → j ≠ i → f j = g j) (hd : f i = g i + d) : sumR n f = sumR n g + d := by
  induction n with
  | zero => omega
  | succ n ih =>
    rw [sumR, sumR]
    by_cases e : i = n
    · subst e
      rw [sumR_same i f g fun j hj => h j (by omega) (by omega), hd]
      omega
    · rw [ih (by omega) (fun j hj hne => h j (by omega) hne), h n (by omega) (by omega)]
      omega
theorem first_op (t : T) : (firstT t).k = t.k ∧ (firstT t).x = t.x ∧ (firstT t).y = t.y := by
  unfold firstT
  split <;> exact ⟨rfl, rfl, rfl⟩
theorem second_op (t : T) : (secondT t).k = t.k ∧ (secondT t).x = t.x ∧ (secondT t).y = t.y := by
  unfold secondT
  split <;> exact ⟨rfl, rfl, rfl⟩
theorem step_op (up p : List Int) (t : T) : (stepL up p t).2.k = t.k ∧ (stepL up p t).2.x = t.x ∧ (stepL up p t).2.y = t.y := by
  unfold stepL
  by_cases h0 : t.is = true
  · rw [if_pos h0]; exact ⟨rfl, rfl, rfl⟩
  rw [if_neg h0]
  by_cases h1 : t.s = 1
  · rw [if_pos h1]
    dsimp only
    by_cases c : at_ up t.u = t.u
    · rw [if_pos c]; exact first_op _
    · rw [if_neg c]; exact ⟨rfl, rfl, rfl⟩
  rw [if_neg h1]
  by_cases h2 : t.s = 2
  · rw [if_pos h2]
    dsimp only
    by_cases c : at_ up t.w = t.w
    · rw [if_pos c]; exact first_op _
    · rw [if_neg c]; exact ⟨rfl, rfl, rfl⟩
  rw [if_neg h2]
  by_cases h3 : t.s = 3
  · rw [if_pos h3]
    exact ⟨rfl, rfl, rfl⟩
  rw [if_neg h3]
  by_cases h4 : t.s = 4
  · rw [if_pos h4]
    dsimp only
    by_cases c : at_ up t.v = t.v
    · rw [if_pos c]; exact second_op _
    · rw [if_neg c]; exact ⟨rfl, rfl, rfl⟩
  rw [if_neg h4]
  by_cases h5 : t.s = 5
  · rw [if_pos h5]
    dsimp only
    by_cases c : at_ up t.w = t.w
    · rw [if_pos c]; exact second_op _
    · rw [if_neg c]; exact ⟨rfl, rfl, rfl⟩
  rw [if_neg h5]
  by_cases h6 : t.s = 6
  · rw [if_pos h6]
    exact ⟨rfl, rfl, rfl⟩
  rw [if_neg h6]
  by_cases h7 : t.s = 7
  · rw [if_pos h7]
    dsimp only
    by_cases c : at_ up t.u = t.u
    · rw [if_pos c]; exact ⟨rfl, rfl, rfl⟩
    · rw [if_neg c]; exact ⟨rfl, rfl, rfl⟩
  rw [if_neg h7]
  by_cases hb : belowB p t.u t.v = true
  · rw [if_pos hb]
    by_cases c : at_ up t.u = t.u
    · rw [if_pos c]; exact ⟨rfl, rfl, rfl⟩
    · rw [if_neg c]; exact ⟨rfl, rfl, rfl⟩
  · rw [if_neg hb]
    by_cases c : at_ up t.v = t.v
    · rw [if_pos c]; exact ⟨rfl, rfl, rfl⟩
    · rw [if_neg c]; exact ⟨rfl, rfl, rfl⟩
section
variable {n : Nat} {prio P : List Int} {s : St5} {i : Nat} {l : List S40} {t : T} {b : Int}
theorem next_get (h : Base n prio s) (hG : Goes5 n prio P s i l t b) (j : Nat) : (next5 n prio P s i l t b).ws.getD j z5 = if j = i then ⟨l, (stepL s.up prio t).2, !(stepL s.up prio t).2.is, b, placeW t (stepL s.up prio t).2 (s.steps + 1) (s.ws.getD i z5).pl⟩ else s.ws.getD j z5 :=
  getD_set_any _ _ _ _ _ (by rw [h.len]; exact hG.hi)
def cnt (w : W5) : Nat := w.l.length + (if w.busy = true then 1 else 0)
def Cnt (n tot : Nat) (s : St5) : Prop := s.ev.length + sumR n (fun i => cnt (s.ws.getD i z5)) = tot
theorem Cnt.step {tot : Nat} (h : Base n prio s) (hc : Cnt n tot s) (hG : Goes5 n prio P s i l t b) : Cnt n tot (next5 n prio P s i l t b) := by
  have hget := next_get h hG
  have hwas : cnt (s.ws.getD i z5) = l.length + 1 := by
    unfold cnt
    rcases hG.src with ⟨h1, h2, _⟩ | ⟨h1, o, h2, _⟩
    · rw [if_pos h1, h2]
    · rw [h1, h2]; simp
  unfold Cnt at *
  cases his : (stepL s.up prio t).2.is with
  | true =>
    have e : (next5 n prio P s i l t b).ev.length = s.ev.length + 1 := by simp [next5, his]
    have := sumR_less n i 1 (fun j => cnt (s.ws.getD j z5)) (fun j => cnt ((next5 n prio P s i l t b).ws.getD j z5)) hG.hi (fun j hj hne => by rw [hget j, if_neg hne]) (by rw [hget i, if_pos rfl, hwas]; unfold cnt; simp [his])
    omega
  | false =>
    have e : (next5 n prio P s i l t b).ev.length = s.ev.length := by simp [next5, his]
    have := sumR_same n (fun j => cnt (s.ws.getD j z5)) (fun j => cnt ((next5 n prio P s i l t b).ws.getD j z5)) (fun j hj => by
      rw [hget j]
      by_cases c : j = i
      · rw [if_pos c, c, hwas]; unfold cnt; simp [his]
      · rw [if_neg c])
    omega
theorem Cnt.start {S : List (List S40)} (hv : validL prio.length S = S) : Cnt S.length (total S) (start5 prio S) := by
  unfold Cnt total
  rw [show (start5 prio S).ev.length = 0 from rfl, Nat.zero_add]
  refine sumR_same _ _ _ fun j hj => ?_
  show cnt ((ws5 prio.length S).getD j z5) = _
  rw [ws5_get]
  have : (S.getD j []).filter (validB prio.length) = S.getD j [] := by rw [← validL_get, hv]
  rw [this]
  rfl
theorem Cnt.done {tot : Nat} (h : Base n prio s) (hc : Cnt n tot s) (hg : s.going = 0) : s.ev.length = tot := by
  have hd := h.done hg
  have e : sumR n (fun i => cnt (s.ws.getD i z5)) = sumR n (fun _ => 0) := sumR_same _ _ _ fun j hj => by unfold cnt; rw [(hd j hj).1, (hd j hj).2]; rfl
  have e0 : sumR n (fun _ => 0) = 0 := by
    clear e hd hc h hg
    induction n with
    | zero => rfl
    | succ n ih => rw [sumR, ih]
  unfold Cnt at hc
  omega
end
end Go.Proofs.YtmaiicpaalbcfaaDoor
end
section
namespace Go.Proofs.YtmaiicpaalbcfaaDoor
open Go.RowKit
set_option linter.unusedVariables false
structure Eff (up : List Int) (t : T) (up' : List Int) (t' : T) : Prop where
  same : ¬ (t.s = 8 ∧ t'.is = true) → ∀ x, x < up.length → rootN up' x = rootN up x
  link : t.s = 8 → t'.is = true → t'.res = 1 ∧ ∃ a b : Nat, a < up.length ∧ b < up.length ∧ ((t.u = (a : Int) ∧ t.v = (b : Int)) ∨ (t.u = (b : Int) ∧ t.v = (a : Int))) ∧ rootN up a = a ∧ rootN up b ≠ a ∧ ∀ x, x < up.length → rootN up' x = if rootN up x = a then rootN up b else rootN up x
  uu : t'.is = false → rootN up t'.u.toNat = rootN up t.u.toNat
  vv : t'.is = false → rootN up t'.v.toNat = rootN up t.v.toNat
  fin : t'.is = true → t.s ≠ 8 → (t.k = 1 ∧ In up.length t'.res ∧ rootN up t'.res.toNat = rootN up t.u.toNat) ∨ (t.k ≠ 1 ∧ t'.res = (if t.k = 2 then 1 else 0) ∧ rootN up t.u.toNat = rootN up t.v.toNat) ∨ (t.s = 7 ∧ t'.res = 0 ∧ at_ up t.u = t.u)
  to7 : t'.is = false → t'.s = 7 → t.s < 7 ∧ up' = up ∧ t'.u = t.u ∧ (at_ up t.u = t.u → rootN up t.u.toNat ≠ rootN up t.v.toNat)
theorem root_in {up : List Int} {x : Int} (hx : In up.length x) (h : at_ up x = x) : rootN up x.toNat = x.toNat := by
  obtain ⟨i, rfl, hi⟩ := in_nat hx
  rw [at_nat] at h
  rw [Int.toNat_natCast]
  refine root_of_fix ?_
  unfold stepUp
  rw [if_neg (fun hh => hh.1 h)]
theorem eff_stay {up : List Int} {t t' : T} (h1 : t'.is = false) (hu : rootN up t'.u.toNat = rootN up t.u.toNat) (hv : rootN up t'.v.toNat = rootN up t.v.toNat) (h7 : t'.s ≠ 7) : Eff up t up t' :=
  ⟨fun _ _ _ => rfl, fun _ h => (by rw [h1] at h; cases h), fun _ => hu, fun _ => hv, fun h => (by rw [h1] at h; cases h), fun _ h => absurd h h7⟩
theorem eff_fin {up : List Int} {t t' : T} (h8 : t.s ≠ 8) (h1 : t'.is = true) (hf : (t.k = 1 ∧ In up.length t'.res ∧ rootN up t'.res.toNat = rootN up t.u.toNat) ∨ (t.k ≠ 1 ∧ t'.res = (if t.k = 2 then 1 else 0) ∧ rootN up t.u.toNat = rootN up t.v.toNat) ∨ (t.s = 7 ∧ t'.res = 0 ∧ at_ up t.u = t.u)) : Eff up t up t' :=
  ⟨fun _ _ _ => rfl, fun h => absurd h h8, fun h => (by rw [h1] at h; cases h), fun h => (by rw [h1] at h; cases h), fun _ _ => hf, fun h => (by rw [h1] at h; cases h)⟩
theorem eff_first {up : List Int} {t t1 : T} (hs : t.s < 7) (h1 : t1.is = false) (hk : t1.k = t.k) (hin : In up.length t1.u) (hu : rootN up t1.u.toNat = rootN up t.u.toNat) (hv : t1.v = t.v) : Eff up t up (firstT t1) := by
  unfold firstT
  by_cases c : t1.k = 1
  · rw [if_pos c]
    exact eff_fin (by omega) rfl (.inl ⟨by rw [← hk]; exact c, hin, hu⟩)
  · rw [if_neg c]
    exact eff_stay h1 hu (by show rootN up t1.v.toNat = _; rw [hv]) (by show (4 : Int) ≠ 7; decide)
theorem eff_second {up : List Int} {t t1 : T} (hs : t.s < 7) (h1 : t1.is = false) (hk : t1.k = t.k) (k1 : t.k ≠ 1) (hu : t1.u = t.u) (hui : In up.length t.u) (hin : In up.length t1.v) (hv : rootN up t1.v.toNat = rootN up t.v.toNat) (hr : at_ up t1.v = t1.v) : Eff up t up (secondT t1) := by
  unfold secondT
  by_cases c : t1.u = t1.v
  · rw [if_pos c]
    refine eff_fin (by omega) rfl (.inr (.inl ⟨k1, by rw [← hk]; rfl, by rw [← hv, ← c, hu]⟩))
  · rw [if_neg c]
    refine ⟨fun _ _ _ => rfl, fun h => by omega, fun _ => by show rootN up t1.u.toNat = _; rw [hu], fun _ => hv, fun h => ?_, fun _ _ => ⟨hs, rfl, hu, fun ha e => c ?_⟩⟩
    · have h : t1.is = true := h
      rw [h1] at h; cases h
    · rw [root_in hui ha, ← hv, root_in hin hr] at e
      have := hui.1
      have := hin.1
      omega
theorem swap_same {up p : List Int} (h : Ok up p) {u w r : Int} (hu : In up.length u) (hw : In up.length w) (hr : In up.length r) (h1 : LT p u.toNat w.toNat) (h2 : LT p w.toNat r.toNat) (hroot : rootN up r.toNat = rootN up w.toNat) : ∀ x, x < up.length → rootN (swapL up u w r) x = rootN up x := by
  obtain ⟨u, rfl, hu'⟩ := in_nat hu
  obtain ⟨w, rfl, _⟩ := in_nat hw
  obtain ⟨r, rfl, hr'⟩ := in_nat hr
  simp only [Int.toNat_natCast] at h1 h2 hroot
  unfold swapL
  rw [at_nat]
  split
  · rename_i he
    exact root_split h hu' hr' he h1 h2 hroot
  · exact fun _ _ => rfl
theorem eff_link {up p : List Int} (h : Ok up p) {t : T} {a b : Nat} (ha : a < up.length) (hb : b < up.length) (hab : (t.u = (a : Int) ∧ t.v = (b : Int)) ∨ (t.u = (b : Int) ∧ t.v = (a : Int))) (he : up.getD a 0 = (a : Int)) (h1 : LT p a b) (h8 : t.s = 8) : Eff up t (up.set a (b : Int)) (finish t 1) := by
  have hfix : stepUp up a = a := stepUp_of h ha he
  have hra : rootN up a = a := root_of_fix hfix
  have hrb : rootN up b ≠ a := by
    intro e
    rcases root_above h b hb with f | f
    · rw [e] at f
      rw [← f] at h1
      exact lt_irrefl p _ h1
    · rw [e] at f
      exact lt_asymm h1 f
  exact ⟨fun hh => absurd ⟨h8, rfl⟩ hh, fun _ _ => ⟨rfl, a, b, ha, hb, hab, hra, hrb, root_link h ha hb he h1⟩, fun h => (by cases h), fun h => (by cases h), fun _ hh => absurd h8 hh, fun h => (by cases h)⟩
theorem step_eff {up p : List Int} {t : T} (h : Ok up p) (hk : Keeps up.length p t) (hr : RI up t) (hi : t.is = false) : Eff up t (stepL up p t).1 (stepL up p t).2 := by
  obtain ⟨k, x, y, s, u, v, w, r, is, res⟩ := t
  obtain ⟨⟨k0, k1, u0, v0, s0, s1, k2, k7, k8, w0, r0⟩, ⟨oa, ob, oc, od, oe⟩⟩ := hk
  obtain ⟨ra, rb, rc, rd⟩ := hr
  simp only at k0 k1 u0 v0 s0 s1 k2 k7 k8 w0 r0 oa ob oc od oe ra rb rc rd hi
  subst hi
  rcases (show s = 1 ∨ s = 2 ∨ s = 3 ∨ s = 4 ∨ s = 5 ∨ s = 6 ∨ s = 7 ∨ s = 8 by omega) with rfl | rfl | rfl | rfl | rfl | rfl | rfl | rfl
  · simp only [stepL, if_neg Bool.false_ne_true, if_true]
    split
    · exact eff_first (by show (1 : Int) < 7; decide) rfl rfl u0 rfl rfl
    · exact eff_stay rfl rfl rfl (by show (2 : Int) ≠ 7; decide)
  · have w1 := w0 (by omega)
    simp only [stepL, if_neg Bool.false_ne_true, if_true, show ((2 : Int) = 1) = False by simp, if_false]
    split
    · exact eff_first (by show (2 : Int) < 7; decide) rfl rfl w1 (ra rfl (.inl rfl)) rfl
    · exact eff_stay rfl rfl rfl (by show (3 : Int) ≠ 7; decide)
  · simp only [stepL, if_neg Bool.false_ne_true, if_true, show ((3 : Int) = 1) = False by simp, show ((3 : Int) = 2) = False by simp, if_false]
    exact ⟨fun _ => swap_same h u0 (w0 (by omega)) (r0 (by omega)) (oa rfl (.inr rfl)) (ob rfl rfl) (rb rfl rfl), fun _ h => (by cases h), fun _ => ra rfl (.inr rfl), fun _ => rfl, fun h => (by cases h), fun _ h => (by simp at h)⟩
  · have v1 := v0 (k2 (by omega))
    simp only [stepL, if_neg Bool.false_ne_true, if_true, show ((4 : Int) = 1) = False by simp, show ((4 : Int) = 2) = False by simp, show ((4 : Int) = 3) = False by simp, if_false]
    split
    · rename_i e
      exact eff_second (by show (4 : Int) < 7; decide) rfl rfl (k2 (by omega)) rfl u0 v1 rfl e
    · exact eff_stay rfl rfl rfl (by show (5 : Int) ≠ 7; decide)
  · have w1 := w0 (by omega)
    simp only [stepL, if_neg Bool.false_ne_true, if_true, show ((5 : Int) = 1) = False by simp, show ((5 : Int) = 2) = False by simp, show ((5 : Int) = 3) = False by simp, show ((5 : Int) = 4) = False by simp, if_false]
    split
    · rename_i e
      exact eff_second (by show (5 : Int) < 7; decide) rfl rfl (k2 (by omega)) rfl u0 w1 (rc rfl (.inl rfl)) e
    · exact eff_stay rfl rfl rfl (by show (6 : Int) ≠ 7; decide)
  · have v1 := v0 (k2 (by omega))
    simp only [stepL, if_neg Bool.false_ne_true, if_true, show ((6 : Int) = 1) = False by simp, show ((6 : Int) = 2) = False by simp, show ((6 : Int) = 3) = False by simp, show ((6 : Int) = 4) = False by simp, show ((6 : Int) = 5) = False by simp, if_false]
    exact ⟨fun _ => swap_same h v1 (w0 (by omega)) (r0 (by omega)) (oc rfl (.inr rfl)) (od rfl rfl) (rd rfl rfl), fun _ h => (by cases h), fun _ => rfl, fun _ => rc rfl (.inr rfl), fun h => (by cases h), fun _ h => (by simp at h)⟩
  · simp only [stepL, if_neg Bool.false_ne_true, if_true, show ((7 : Int) = 1) = False by simp, show ((7 : Int) = 2) = False by simp, show ((7 : Int) = 3) = False by simp, show ((7 : Int) = 4) = False by simp, show ((7 : Int) = 5) = False by simp, show ((7 : Int) = 6) = False by simp, if_false]
    split
    · rename_i e
      exact eff_fin (by show (7 : Int) ≠ 8; decide) rfl (.inr (.inr ⟨rfl, rfl, e⟩))
    · exact eff_stay rfl rfl rfl (by show (1 : Int) ≠ 7; decide)
  · have v1 := v0 (k2 (by omega))
    obtain ⟨i, rfl, hi⟩ := in_nat u0
    obtain ⟨j, rfl, hj⟩ := in_nat v1
    have hne := oe rfl (.inr rfl)
    have hij : i ≠ j := fun e => hne (by rw [e])
    simp only [stepL, if_neg Bool.false_ne_true, show ((8 : Int) = 1) = False by simp, show ((8 : Int) = 2) = False by simp, show ((8 : Int) = 3) = False by simp, show ((8 : Int) = 4) = False by simp, show ((8 : Int) = 5) = False by simp, show ((8 : Int) = 6) = False by simp, show ((8 : Int) = 7) = False by simp, if_false]
    split
    · rename_i hb
      rw [at_nat]
      split
      · rename_i he
        rw [Int.toNat_natCast]
        exact eff_link h hi hj (.inl ⟨rfl, rfl⟩) he hb rfl
      · exact eff_stay rfl rfl rfl (by show (1 : Int) ≠ 7; decide)
    · rename_i hb
      rw [at_nat]
      split
      · rename_i he
        rw [Int.toNat_natCast]
        exact eff_link h hj hi (.inr ⟨rfl, rfl⟩) he ((lt_total p hij).resolve_left hb) rfl
      · exact eff_stay rfl rfl rfl (by show (1 : Int) ≠ 7; decide)
end Go.Proofs.YtmaiicpaalbcfaaDoor
end
section
namespace Go.Proofs.YtmaiicpaalbcfaaDoor
open Go.RowKit Go.Proofs.YtmaiicpaalbcfaaDoorW.PrintWords Go.Proofs.YtmaiicpaalbcfaaDoorW.PrintLast Go.Proofs.YtmaiicpaalbcfaaDoor.P Go.Proofs.YtmaiicpaalbcfaaDoor.Bits
set_option linter.unusedVariables false
inductive Gen (R : Int → Int → Prop) : Int → Int → Prop
  | of {x y : Int} : R x y → Gen R x y
  | refl (x : Int) : Gen R x x
  | symm {x y : Int} : Gen R x y → Gen R y x
  | trans {x y z : Int} : Gen R x y → Gen R y z → Gen R x z
theorem Gen.mono {R R' : Int → Int → Prop} (h : ∀ x y, R x y → R' x y) {x y : Int} (g : Gen R x y) : Gen R' x y := by
  induction g with
  | of hr => exact .of (h _ _ hr)
  | refl x => exact .refl x
  | symm _ ih => exact .symm ih
  | trans _ _ ih1 ih2 => exact .trans ih1 ih2
theorem Gen.iff {R R' : Int → Int → Prop} (h : ∀ x y, R x y ↔ R' x y) {x y : Int} : Gen R x y ↔ Gen R' x y := ⟨Gen.mono fun x y => (h x y).1, Gen.mono fun x y => (h x y).2⟩
def cls (up : List Int) (x y : Int) : Prop := rootN up x.toNat = rootN up y.toNat
theorem Gen.sound {R : Int → Int → Prop} {n : Int} {up : List Int} (h : ∀ x y, R x y → In n x ∧ In n y ∧ cls up x y) {x y : Int} (g : Gen R x y) : x = y ∨ (In n x ∧ In n y ∧ cls up x y) := by
  induction g with
  | of hr => exact .inr (h _ _ hr)
  | refl x => exact .inl rfl
  | symm _ ih =>
    rcases ih with e | ⟨a, b, c⟩
    · exact .inl e.symm
    · exact .inr ⟨b, a, c.symm⟩
  | trans _ _ ih1 ih2 =>
    rcases ih1 with e | ⟨a, b, c⟩
    · rw [e]; exact ih2
    · rcases ih2 with e | ⟨a2, b2, c2⟩
      · rw [← e]; exact .inr ⟨a, b, c⟩
      · exact .inr ⟨a, b2, c.trans c2⟩
def Won (ev : List S42) (q : Int) (x y : Int) : Prop := ∃ e ∈ ev, e.f1.f0 = 3 ∧ e.f2 = 1 ∧ e.f4 < q ∧ x = e.f1.f1 ∧ y = e.f1.f2
def GE (ev : List S42) (q : Int) : Int → Int → Prop := Gen (Won ev q)
theorem won_add {ev : List S42} {e : S42} {q : Int} (h : e.f1.f0 = 3 → e.f2 = 1 → q ≤ e.f4) (x y : Int) : Won (ev ++ [e]) q x y ↔ Won ev q x y := by
  constructor
  · rintro ⟨e', he, h1, h2, h3, h4⟩
    rcases List.mem_append.1 he with he | he
    · exact ⟨e', he, h1, h2, h3, h4⟩
    · rw [List.mem_singleton.1 he] at h1 h2 h3
      have := h h1 h2
      omega
  · rintro ⟨e', he, h⟩
    exact ⟨e', List.mem_append.2 (.inl he), h⟩
theorem ge_add {ev : List S42} {e : S42} {q : Int} (h : e.f1.f0 = 3 → e.f2 = 1 → q ≤ e.f4) {x y : Int} : GE (ev ++ [e]) q x y ↔ GE ev q x y := Gen.iff (won_add h)
theorem ge_later {ev : List S42} {q q' : Int} (h : ∀ e ∈ ev, e.f4 < q) (h' : ∀ e ∈ ev, e.f4 < q') {x y : Int} : GE ev q x y ↔ GE ev q' x y :=
  Gen.iff fun x y => ⟨fun ⟨e, he, a, b, _, d⟩ => ⟨e, he, a, b, h' e he, d⟩, fun ⟨e, he, a, b, _, d⟩ => ⟨e, he, a, b, h e he, d⟩⟩
def Leg (n : Int) (ev : List S42) (e : S42) : Prop :=
  In n e.f1.f1 ∧ ((e.f1.f0 = 1 ∧ In n e.f2 ∧ GE ev e.f4 e.f1.f1 e.f2) ∨
    (e.f1.f0 = 2 ∧ In n e.f1.f2 ∧ ((e.f2 = 1 ∧ GE ev e.f4 e.f1.f1 e.f1.f2) ∨ (e.f2 = 0 ∧ ¬ GE ev e.f4 e.f1.f1 e.f1.f2))) ∨
    (e.f1.f0 = 3 ∧ In n e.f1.f2 ∧ ((e.f2 = 0 ∧ GE ev e.f4 e.f1.f1 e.f1.f2) ∨ (e.f2 = 1 ∧ ¬ GE ev e.f4 e.f1.f1 e.f1.f2))))
theorem Leg.add {n : Int} {ev : List S42} {e e2 : S42} (h : Leg n ev e) (h2 : e2.f1.f0 = 3 → e2.f2 = 1 → e.f4 ≤ e2.f4) : Leg n (ev ++ [e2]) e := by
  unfold Leg at *
  simp only [ge_add h2]
  exact h
structure TI (n : Int) (s : St5) (w : W5) : Prop where
  ri : RI s.up w.t
  xin : In n w.t.x
  xu : cls s.up w.t.x w.t.u
  yv : w.t.k ≠ 1 → In n w.t.y ∧ cls s.up w.t.y w.t.v
  b1 : 1 ≤ w.b ∧ w.b ≤ s.steps
  s7 : w.t.s = 7 → w.b ≤ w.pl ∧ w.pl ≤ s.steps ∧ (at_ s.up w.t.u = w.t.u → ¬ GE s.ev w.pl w.t.x w.t.y)
structure Lin (n : Nat) (prio : List Int) (s : St5) : Prop where
  cl : ∀ x y, In prio.length x → In prio.length y → (cls s.up x y ↔ GE s.ev (s.steps + 1) x y)
  time : ∀ e ∈ s.ev, 1 ≤ e.f3 ∧ e.f3 ≤ e.f4 ∧ e.f4 ≤ e.f5 ∧ e.f5 ≤ s.steps
  leg : ∀ e ∈ s.ev, Leg prio.length s.ev e
  task : ∀ i, i < n → (s.ws.getD i z5).busy = true → TI prio.length s (s.ws.getD i z5)
section
variable {n : Nat} {prio P : List Int} {s : St5} {i : Nat} {l : List S40} {t : T} {b : Int}
theorem Lin.now (hL : Lin n prio s) (h : Base n prio s) (hG : Goes5 n prio P s i l t b) : RI s.up t ∧ In prio.length t.x ∧ cls s.up t.x t.u ∧ (t.k ≠ 1 → In prio.length t.y ∧ cls s.up t.y t.v) ∧ 1 ≤ b ∧ b ≤ s.steps + 1 ∧ (t.s = 7 → b ≤ (s.ws.getD i z5).pl ∧ (s.ws.getD i z5).pl ≤ s.steps ∧ (at_ s.up t.u = t.u → ¬ GE s.ev (s.ws.getD i z5).pl t.x t.y)) := by
  have h0 := h.steps0
  rcases hG.src with ⟨h1, _, rfl, rfl⟩ | ⟨h1, o, h2, hv, rfl, rfl⟩
  · have ht := hL.task i hG.hi h1
    exact ⟨ht.ri, ht.xin, ht.xu, ht.yv, ht.b1.1, by have := ht.b1.2; omega, ht.s7⟩
  · have hk := hG.keeps
    rw [begin_yes hv] at hk ⊢
    exact ⟨ri_none (.inr (.inl rfl)), hk.fit.u0, rfl, fun hk1 => ⟨hk.fit.v0 hk1, rfl⟩, by omega, by omega, fun h => by simp at h⟩
theorem Lin.step (hL : Lin n prio s) (h : Base n prio s) (hG : Goes5 n prio P s i l t b) : Lin n prio (next5 n prio P s i l t b) := by
  obtain ⟨hri, hx, hxu, hyv, hb1, hb2, h7⟩ := hL.now h hG
  have hl : s.up.length = prio.length := h.ok.1
  have hk' : Keeps s.up.length prio t := by rw [hl]; exact hG.keeps
  have hE := step_eff h.ok hk' hri hG.live
  have hM := step_moves h.ok hk' hri
  have hop := step_op s.up prio t
  have hget := next_get h hG
  have h0 := h.steps0
  obtain ⟨up2, hup2⟩ : ∃ x, (stepL s.up prio t).1 = x := ⟨_, rfl⟩
  obtain ⟨t2, ht2⟩ : ∃ x, (stepL s.up prio t).2 = x := ⟨_, rfl⟩
  have eup : (next5 n prio P s i l t b).up = up2 := hup2
  have est : (next5 n prio P s i l t b).steps = s.steps + 1 := rfl
  have eev : (next5 n prio P s i l t b).ev = if t2.is = true then s.ev ++ [eventS i t2 b (s.steps + 1) (s.ws.getD i z5).pl] else s.ev := by rw [← ht2]; rfl
  have hsk := step_keeps h.ok hk'
  rw [hup2, ht2] at hE hM hsk
  rw [ht2] at hop
  simp only [ht2] at hget
  obtain ⟨ok1, ok2, ok3⟩ := hop
  have hlt : ∀ x, In prio.length x → x.toNat < s.up.length := fun x hx => by have := hx.1; have := hx.2; omega
  have hwas : ∀ e ∈ s.ev, e.f4 < s.steps + 1 := fun e he => by have := hL.time e he; omega
  have hwas2 : ∀ e ∈ s.ev, e.f4 < s.steps + 1 + 1 := fun e he => by have := hL.time e he; omega
  -- classes stay
  have hgo : ∀ x y, In prio.length x → In prio.length y → cls s.up x y → cls up2 x y := fun x y hx hy hc => hM.goes.same (hlt x hx) (hlt y hy) hc
  have hroots := roots_less h.ok hk' hG.live
  rw [hup2] at hroots
  -- the event, if there is one
  have hevk : (eventS i t2 b (s.steps + 1) (s.ws.getD i z5).pl).f1.f0 = 3 → (eventS i t2 b (s.steps + 1) (s.ws.getD i z5).pl).f4 = s.steps + 1 := fun hk3 => by
    have hk3 : t2.k = 3 := hk3
    show (if t2.k = 2 ∧ t2.res = 0 then (s.ws.getD i z5).pl else s.steps + 1) = s.steps + 1
    rw [if_neg (fun hh => by omega)]
  -- tasks
  have htask : ∀ j, j < n → ((next5 n prio P s i l t b).ws.getD j z5).busy = true → TI prio.length (next5 n prio P s i l t b) ((next5 n prio P s i l t b).ws.getD j z5) := by
    intro j hj hb
    have hge : ∀ q x y, q ≤ s.steps + 1 → (GE (next5 n prio P s i l t b).ev q x y ↔ GE s.ev q x y) := fun q x y hq => by
      rw [eev]
      by_cases c : t2.is = true
      · rw [if_pos c]
        exact ge_add (fun h1 h2 => by rw [hevk h1]; exact hq)
      · rw [if_neg c]
    rw [hget j] at hb ⊢
    by_cases e : j = i
    · rw [if_pos e] at hb ⊢
      have his : t2.is = false := by simpa using hb
      have hfit := hsk.2.2.fit
      rw [hl] at hfit
      refine ⟨by rw [eup]; exact hM.ri, by show In _ t2.x; rw [ok2]; exact hx, ?_, fun hk1 => ?_, ⟨hb1, by rw [est]; exact hb2⟩, fun h7' => ?_⟩
      · show cls _ t2.x t2.u
        rw [eup, ok2]
        exact hgo t.x t2.u hx hfit.u0 (hxu.trans (hE.uu his).symm)
      · have hk1 : t2.k ≠ 1 := hk1
        have hy := hyv (by rw [← ok1]; exact hk1)
        refine ⟨by show In _ t2.y; rw [ok3]; exact hy.1, ?_⟩
        show cls _ t2.y t2.v
        rw [eup, ok3]
        exact hgo t.y t2.v hy.1 (hfit.v0 hk1) (hy.2.trans (hE.vv his).symm)
      · have h7' : t2.s = 7 := h7'
        obtain ⟨g1, g2, g3, g4⟩ := hE.to7 his h7'
        have hpl : placeW t t2 (s.steps + 1) (s.ws.getD i z5).pl = s.steps + 1 := by
          unfold placeW
          rw [if_neg (by rw [his]; decide), if_pos g1, if_pos (by omega)]
        show b ≤ placeW t t2 (s.steps + 1) (s.ws.getD i z5).pl ∧ placeW t t2 (s.steps + 1) (s.ws.getD i z5).pl ≤ _ ∧ (at_ _ t2.u = t2.u → ¬ GE _ (placeW t t2 (s.steps + 1) (s.ws.getD i z5).pl) t2.x t2.y)
        rw [hpl, est, hge _ _ _ (Int.le_refl _), eup, g2, g3, ok2, ok3]
        refine ⟨hb2, Int.le_refl _, fun ha hg => g4 ha ?_⟩
        have hk2 := hfit.k7 h7'
        have hy := hyv (by rw [← ok1, hk2]; decide)
        have := (hL.cl t.x t.y hx hy.1).2 hg
        exact hxu.symm.trans (this.trans hy.2)
    · rw [if_neg e] at hb ⊢
      have ht := hL.task j hj hb
      have hkj := (h.task j hj hb).1
      refine ⟨by rw [eup]; exact ht.ri.goes (n := s.up.length) (by rw [hl]; exact hkj.fit) hM.goes, ht.xin, ?_, fun hk1 => ⟨(ht.yv hk1).1, ?_⟩, ⟨ht.b1.1, by rw [est]; have := ht.b1.2; omega⟩, fun h7' => ?_⟩
      · rw [eup]; exact hgo _ _ ht.xin hkj.fit.u0 ht.xu
      · rw [eup]; exact hgo _ _ (ht.yv hk1).1 (hkj.fit.v0 hk1) (ht.yv hk1).2
      · obtain ⟨g1, g2, g3⟩ := ht.s7 h7'
        rw [est, hge _ _ _ (by omega), eup]
        exact ⟨g1, by omega, fun ha => g3 (hroots _ (by rw [hl]; exact hkj.fit.u0) ha)⟩
  -- what an end has found
  have hfin : t2.is = true → (b ≤ (eventS i t2 b (s.steps + 1) (s.ws.getD i z5).pl).f4 ∧ (eventS i t2 b (s.steps + 1) (s.ws.getD i z5).pl).f4 ≤ s.steps + 1) ∧ Leg prio.length (s.ev ++ [eventS i t2 b (s.steps + 1) (s.ws.getD i z5).pl]) (eventS i t2 b (s.steps + 1) (s.ws.getD i z5).pl) := by
    intro his
    have hk1 := hG.keeps.fit.k0
    have hk2 := hG.keeps.fit.k1
    unfold Leg
    simp only [ge_add (ev := s.ev) (e := eventS i t2 b (s.steps + 1) (s.ws.getD i z5).pl) (q := (eventS i t2 b (s.steps + 1) (s.ws.getD i z5).pl).f4) (fun _ _ => Int.le_refl _)]
    show (b ≤ (if t2.k = 2 ∧ t2.res = 0 then (s.ws.getD i z5).pl else s.steps + 1) ∧ (if t2.k = 2 ∧ t2.res = 0 then (s.ws.getD i z5).pl else s.steps + 1) ≤ s.steps + 1) ∧ In prio.length t2.x ∧ ((t2.k = 1 ∧ In prio.length t2.res ∧ GE s.ev (if t2.k = 2 ∧ t2.res = 0 then (s.ws.getD i z5).pl else s.steps + 1) t2.x t2.res) ∨
      (t2.k = 2 ∧ In prio.length t2.y ∧ ((t2.res = 1 ∧ GE s.ev (if t2.k = 2 ∧ t2.res = 0 then (s.ws.getD i z5).pl else s.steps + 1) t2.x t2.y) ∨ (t2.res = 0 ∧ ¬ GE s.ev (if t2.k = 2 ∧ t2.res = 0 then (s.ws.getD i z5).pl else s.steps + 1) t2.x t2.y))) ∨
      (t2.k = 3 ∧ In prio.length t2.y ∧ ((t2.res = 0 ∧ GE s.ev (if t2.k = 2 ∧ t2.res = 0 then (s.ws.getD i z5).pl else s.steps + 1) t2.x t2.y) ∨ (t2.res = 1 ∧ ¬ GE s.ev (if t2.k = 2 ∧ t2.res = 0 then (s.ws.getD i z5).pl else s.steps + 1) t2.x t2.y))))
    rw [ok1, ok2, ok3]
    by_cases h8 : t.s = 8
    · obtain ⟨hres, a, b', ha, hb', hab, hra, hrb, hroot⟩ := hE.link h8 his
      have k3 : t.k = 3 := hG.keeps.fit.k8 h8
      have hy := hyv (by omega)
      rw [if_neg (fun hh => by omega)]
      refine ⟨⟨hb2, Int.le_refl _⟩, hx, .inr (.inr ⟨k3, hy.1, .inr ⟨hres, fun hg => ?_⟩⟩)⟩
      have hc := (hL.cl t.x t.y hx hy.1).2 hg
      have huv : rootN s.up t.u.toNat = rootN s.up t.v.toNat := hxu.symm.trans (hc.trans hy.2)
      rcases hab with ⟨e1, e2⟩ | ⟨e1, e2⟩
      · rw [e1, e2, Int.toNat_natCast, Int.toNat_natCast, hra] at huv
        exact hrb huv.symm
      · rw [e1, e2, Int.toNat_natCast, Int.toNat_natCast, hra] at huv
        exact hrb huv
    · rcases hE.fin his h8 with ⟨k1, hin, hro⟩ | ⟨k1, hres, hro⟩ | ⟨hs7, hres, hat⟩
      · rw [if_neg (fun hh => by omega)]
        rw [hl] at hin
        exact ⟨⟨hb2, Int.le_refl _⟩, hx, .inl ⟨k1, hin, (hL.cl _ _ hx hin).1 (hxu.trans hro.symm)⟩⟩
      · have hy := hyv k1
        have hc : GE s.ev (s.steps + 1) t.x t.y := (hL.cl _ _ hx hy.1).1 (hxu.trans (hro.trans hy.2.symm))
        by_cases k2 : t.k = 2
        · rw [if_pos k2] at hres
          rw [if_neg (fun hh => by omega)]
          exact ⟨⟨hb2, Int.le_refl _⟩, hx, .inr (.inl ⟨k2, hy.1, .inl ⟨hres, hc⟩⟩)⟩
        · rw [if_neg k2] at hres
          rw [if_neg (fun hh => k2 hh.1)]
          exact ⟨⟨hb2, Int.le_refl _⟩, hx, .inr (.inr ⟨by omega, hy.1, .inl ⟨hres, hc⟩⟩)⟩
      · have k2 : t.k = 2 := hG.keeps.fit.k7 hs7
        have hy := hyv (by omega)
        obtain ⟨g1, g2, g3⟩ := h7 hs7
        rw [if_pos ⟨k2, hres⟩]
        exact ⟨⟨g1, by omega⟩, hx, .inr (.inl ⟨k2, hy.1, .inr ⟨hres, g3 hat⟩⟩)⟩
  refine ⟨fun x y hx' hy' => ?_, fun e he => ?_, fun e he => ?_, htask⟩
  · -- the classes
    rw [eup, est, eev]
    by_cases h8 : t.s = 8 ∧ t2.is = true
    · obtain ⟨hres, a, b', ha, hb', hab, hra, hrb, hroot⟩ := hE.link h8.1 h8.2
      have k3 : t.k = 3 := hG.keeps.fit.k8 h8.1
      have hy := hyv (by omega)
      rw [if_pos h8.2]
      have hwon : Won (s.ev ++ [eventS i t2 b (s.steps + 1) (s.ws.getD i z5).pl]) (s.steps + 1 + 1) t.x t.y :=
        ⟨_, List.mem_append.2 (.inr (List.mem_singleton.2 rfl)), by show t2.k = 3; omega, hres, by rw [hevk (by show t2.k = 3; omega)]; omega, by show t.x = t2.x; rw [ok2], by show t.y = t2.y; rw [ok3]⟩
      have hold : ∀ x y, GE s.ev (s.steps + 1) x y → GE (s.ev ++ [eventS i t2 b (s.steps + 1) (s.ws.getD i z5).pl]) (s.steps + 1 + 1) x y := fun x y hg =>
        hg.mono fun x y ⟨e, he, h1, h2, h3, h4⟩ => ⟨e, List.mem_append.2 (.inl he), h1, h2, by omega, h4⟩
      have hai : In prio.length (a : Int) := ⟨by omega, by omega⟩
      have hbi : In prio.length (b' : Int) := ⟨by omega, by omega⟩
      have haim : GE (s.ev ++ [eventS i t2 b (s.steps + 1) (s.ws.getD i z5).pl]) (s.steps + 1 + 1) (a : Int) (b' : Int) := by
        rcases hab with ⟨e1, e2⟩ | ⟨e1, e2⟩
        · exact ((hold _ _ ((hL.cl _ _ hx hai).1 (by rw [← e1]; exact hxu))).symm).trans ((Gen.of hwon).trans (hold _ _ ((hL.cl _ _ hy.1 hbi).1 (by rw [← e2]; exact hy.2))))
        · exact ((hold _ _ ((hL.cl _ _ hy.1 hai).1 (by rw [← e2]; exact hy.2))).symm).trans ((Gen.symm (Gen.of hwon)).trans (hold _ _ ((hL.cl _ _ hx hbi).1 (by rw [← e1]; exact hxu))))
      constructor
      · intro hc
        have hc : rootN up2 x.toNat = rootN up2 y.toNat := hc
        rw [hroot _ (hlt x hx'), hroot _ (hlt y hy')] at hc
        by_cases c1 : rootN s.up x.toNat = a
        · by_cases c2 : rootN s.up y.toNat = a
          · exact hold _ _ ((hL.cl _ _ hx' hy').1 (c1.trans c2.symm))
          · rw [if_pos c1, if_neg c2] at hc
            have e1 : GE s.ev (s.steps + 1) x (a : Int) := (hL.cl _ _ hx' hai).1 (by show rootN _ _ = rootN _ _; rw [Int.toNat_natCast, hra]; exact c1)
            have e2 : GE s.ev (s.steps + 1) (b' : Int) y := (hL.cl _ _ hbi hy').1 (by show rootN _ _ = rootN _ _; rw [Int.toNat_natCast]; exact hc)
            exact (hold _ _ e1).trans (haim.trans (hold _ _ e2))
        · by_cases c2 : rootN s.up y.toNat = a
          · rw [if_neg c1, if_pos c2] at hc
            have e1 : GE s.ev (s.steps + 1) x (b' : Int) := (hL.cl _ _ hx' hbi).1 (by show rootN _ _ = rootN _ _; rw [Int.toNat_natCast]; exact hc)
            have e2 : GE s.ev (s.steps + 1) (a : Int) y := (hL.cl _ _ hai hy').1 (by show rootN _ _ = rootN _ _; rw [Int.toNat_natCast, hra]; exact c2.symm)
            exact (hold _ _ e1).trans (haim.symm.trans (hold _ _ e2))
          · rw [if_neg c1, if_neg c2] at hc
            exact hold _ _ ((hL.cl _ _ hx' hy').1 hc)
      · intro hg
        have hs := Gen.sound (n := prio.length) (up := up2) (fun x y ⟨e, he, h1, h2, h3, h4, h5⟩ => by
          rcases List.mem_append.1 he with he | he
          · have hle := hL.leg e he
            have hin : In prio.length e.f1.f1 ∧ In prio.length e.f1.f2 := by
              refine ⟨hle.1, ?_⟩
              rcases hle.2 with hh | hh | hh
              · omega
              · omega
              · exact hh.2.1
            have hgw : GE s.ev (s.steps + 1) e.f1.f1 e.f1.f2 := .of ⟨e, he, h1, h2, hwas e he, rfl, rfl⟩
            rw [h4, h5]
            exact ⟨hin.1, hin.2, hgo _ _ hin.1 hin.2 ((hL.cl _ _ hin.1 hin.2).2 hgw)⟩
          · rw [List.mem_singleton.1 he] at h4 h5
            have h4 : x = t2.x := h4
            have h5 : y = t2.y := h5
            rw [h4, h5, ok2, ok3]
            refine ⟨hx, hy.1, ?_⟩
            show rootN up2 _ = rootN up2 _
            have rx : rootN s.up t.x.toNat = rootN s.up t.u.toNat := hxu
            have ry : rootN s.up t.y.toNat = rootN s.up t.v.toNat := hy.2
            rw [hroot _ (hlt _ hx), hroot _ (hlt _ hy.1), rx, ry]
            rcases hab with ⟨e1, e2⟩ | ⟨e1, e2⟩
            · rw [e1, e2, Int.toNat_natCast, Int.toNat_natCast, if_pos hra, if_neg hrb]
            · rw [e1, e2, Int.toNat_natCast, Int.toNat_natCast, if_pos hra, if_neg hrb]) hg
        rcases hs with e | ⟨_, _, hc⟩
        · rw [e]; exact rfl
        · exact hc
    · have hsame := hE.same h8
      have hge : GE (if t2.is = true then s.ev ++ [eventS i t2 b (s.steps + 1) (s.ws.getD i z5).pl] else s.ev) (s.steps + 1 + 1) x y ↔ GE s.ev (s.steps + 1 + 1) x y := by
        by_cases c : t2.is = true
        · rw [if_pos c]
          refine ge_add (fun h1 h2 => ?_)
          have h1 : t2.k = 3 := h1
          have h2 : t2.res = 1 := h2
          rcases hE.fin c (fun hh => h8 ⟨hh, c⟩) with ⟨k1, _⟩ | ⟨k1, hres, _⟩ | ⟨hs7, hres, _⟩
          · omega
          · rw [if_neg (by omega)] at hres
            omega
          · omega
        · rw [if_neg c]
      rw [hge, ← ge_later hwas hwas2, ← hL.cl x y hx' hy']
      unfold cls
      rw [hsame _ (hlt x hx'), hsame _ (hlt y hy')]
  · rw [est]
    rw [eev] at he
    by_cases c : t2.is = true
    · rw [if_pos c] at he
      rcases List.mem_append.1 he with he | he
      · have := hL.time e he; omega
      · rw [List.mem_singleton.1 he]
        have hf := (hfin c).1
        exact ⟨hb1, hf.1, hf.2, Int.le_refl _⟩
    · rw [if_neg c] at he
      have := hL.time e he; omega
  · rw [eev] at he ⊢
    by_cases c : t2.is = true
    · rw [if_pos c] at he ⊢
      rcases List.mem_append.1 he with he | he
      · exact (hL.leg e he).add (fun h1 h2 => by rw [hevk h1]; have := hwas e he; omega)
      · rw [List.mem_singleton.1 he]
        exact (hfin c).2
    · rw [if_neg c] at he ⊢
      exact hL.leg e he
theorem Lin.start {S : List (List S40)} (hn : prio.length ≤ 65536) : Lin S.length prio (start5 prio S) := by
  refine ⟨fun x y hx hy => ?_, fun e he => (by cases he), fun e he => (by cases he), fun i hi hb => ?_⟩
  · have hroot : ∀ z, In prio.length z → rootN (upS prio.length) z.toNat = z.toNat := fun z hz => by
      refine root_of_fix ?_
      have hz2 : z.toNat < prio.length := by have := hz.1; have := hz.2; omega
      unfold stepUp
      refine if_neg (fun hh => hh.1 ?_)
      simp [upS, List.getD_eq_getElem?_getD, hz2]
    constructor
    · intro hc
      have hc : rootN (upS prio.length) x.toNat = rootN (upS prio.length) y.toNat := hc
      rw [hroot x hx, hroot y hy] at hc
      have : x = y := by have := hx.1; have := hy.1; omega
      rw [this]
      exact .refl _
    · intro hg
      have hs := Gen.sound (n := prio.length) (up := upS prio.length) (fun x y ⟨e, he, _⟩ => (by cases he)) hg
      rcases hs with e | ⟨_, _, hc⟩
      · rw [e]; exact rfl
      · exact hc
  · have hb : ((ws5 prio.length S).getD i z5).busy = true := hb
    rw [ws5_get] at hb
    cases hb
end
end Go.Proofs.YtmaiicpaalbcfaaDoor
end
section
namespace Go.Proofs.YtmaiicpaalbcfaaDoor
open Go.RowKit Go.Proofs.YtmaiicpaalbcfaaDoorW.PrintWords Go.Proofs.YtmaiicpaalbcfaaDoorW.PrintLast Go.Proofs.YtmaiicpaalbcfaaDoor.P Go.Proofs.YtmaiicpaalbcfaaDoor.Bits
set_option linter.unusedVariables false
def evOf (ev : List S42) (i : Nat) : List S42 := ev.filter fun e => decide (e.f0 = (i : Int))
def opOf (w : W5) : List S40 := if w.busy = true then [⟨w.t.k, w.t.x, w.t.y⟩] else []
structure Told (n : Nat) (L : List (List S40)) (s : St5) : Prop where
  seq : ∀ i, i < n → (evOf s.ev i).map (·.f1) ++ opOf (s.ws.getD i z5) ++ (s.ws.getD i z5).l = L.getD i []
  who : ∀ e ∈ s.ev, ∃ i : Nat, i < n ∧ e.f0 = (i : Int)
  ends : ∀ i, i < n → (evOf s.ev i).Pairwise fun a b => a.f5 < b.f3
  busy : ∀ i, i < n → (s.ws.getD i z5).busy = true → ∀ e ∈ evOf s.ev i, e.f5 < (s.ws.getD i z5).b
  last : ∀ e ∈ s.ev, e.f5 ≤ s.steps
section
variable {n : Nat} {prio P : List Int} {s : St5} {i : Nat} {l : List S40} {t : T} {b : Int}
theorem Told.step {L : List (List S40)} (hT : Told n L s) (h : Base n prio s) (hG : Goes5 n prio P s i l t b) : Told n L (next5 n prio P s i l t b) := by
  have hop := step_op s.up prio t
  have hget := next_get h hG
  obtain ⟨t2, ht2⟩ : ∃ x, (stepL s.up prio t).2 = x := ⟨_, rfl⟩
  have eev : (next5 n prio P s i l t b).ev = if t2.is = true then s.ev ++ [eventS i t2 b (s.steps + 1) (s.ws.getD i z5).pl] else s.ev := by rw [← ht2]; rfl
  rw [ht2] at hop
  simp only [ht2] at hget
  obtain ⟨ok1, ok2, ok3⟩ := hop
  have hi := hG.hi
  -- what the worker had
  have hwas : (evOf s.ev i).map (·.f1) ++ [(⟨t.k, t.x, t.y⟩ : S40)] ++ l = L.getD i [] := by
    have hq := hT.seq i hi
    rcases hG.src with ⟨h1, h2, h3, _⟩ | ⟨h1, o, h2, hv, h3, _⟩
    · unfold opOf at hq
      rw [if_pos h1] at hq
      rw [h2, h3]
      exact hq
    · unfold opOf at hq
      rw [h1, if_neg (by decide), h2, List.append_nil] at hq
      rw [h3, begin_yes hv, List.append_assoc]
      exact hq
  have hbe : ∀ e ∈ evOf s.ev i, e.f5 < b := fun e he => by
    rcases hG.src with ⟨h1, _, _, h4⟩ | ⟨_, o, _, _, _, h4⟩
    · rw [h4]; exact hT.busy i hi h1 e he
    · have := hT.last e (List.mem_filter.1 he).1; omega
  have hevi : ∀ j, j < n → evOf (next5 n prio P s i l t b).ev j = evOf s.ev j ++ (if t2.is = true ∧ j = i then [eventS i t2 b (s.steps + 1) (s.ws.getD i z5).pl] else []) := fun j hj => by
    rw [eev]
    unfold evOf
    by_cases c : t2.is = true
    · rw [if_pos c, List.filter_append]
      congr 1
      by_cases e : j = i
      · rw [if_pos ⟨c, e⟩, e]
        simp [eventS]
      · rw [if_neg (fun hh => e hh.2)]
        have : ¬ ((i : Int) = (j : Int)) := by omega
        simp [eventS, this]
    · rw [if_neg c, if_neg (fun hh => c hh.1), List.append_nil]
  refine ⟨fun j hj => ?_, fun e he => ?_, fun j hj => ?_, fun j hj hb e he => ?_, fun e he => ?_⟩
  · rw [hevi j hj, hget j]
    by_cases e : j = i
    · rw [if_pos e, e]
      by_cases c : t2.is = true
      · rw [if_pos ⟨c, rfl⟩, List.map_append, ← hwas]
        simp [opOf, c, eventS, ok1, ok2, ok3]
      · rw [if_neg (fun hh => c hh.1), List.append_nil, ← hwas]
        have c2 : t2.is = false := by simpa using c
        simp [opOf, c2, ok1, ok2, ok3]
    · rw [if_neg e, if_neg (fun hh => e hh.2), List.append_nil]
      exact hT.seq j hj
  · rw [eev] at he
    by_cases c : t2.is = true
    · rw [if_pos c] at he
      rcases List.mem_append.1 he with he | he
      · exact hT.who e he
      · rw [List.mem_singleton.1 he]
        exact ⟨i, hi, rfl⟩
    · rw [if_neg c] at he
      exact hT.who e he
  · rw [hevi j hj]
    by_cases c : t2.is = true ∧ j = i
    · rw [if_pos c, List.pairwise_append]
      refine ⟨hT.ends j hj, List.pairwise_singleton .., fun a ha e he => ?_⟩
      rw [List.mem_singleton.1 he]
      rw [c.2] at ha
      exact hbe a ha
    · rw [if_neg c, List.append_nil]
      exact hT.ends j hj
  · rw [hget j] at hb ⊢
    rw [hevi j hj] at he
    by_cases e' : j = i
    · rw [if_pos e'] at hb ⊢
      have c2 : t2.is = false := by simpa using hb
      rw [if_neg (fun hh => by rw [c2] at hh; exact absurd hh.1 (by decide)), List.append_nil, e'] at he
      exact hbe e he
    · rw [if_neg e'] at hb ⊢
      rw [if_neg (fun hh => e' hh.2), List.append_nil] at he
      exact hT.busy j hj hb e he
  · rw [eev] at he
    show e.f5 ≤ s.steps + 1
    by_cases c : t2.is = true
    · rw [if_pos c] at he
      rcases List.mem_append.1 he with he | he
      · have := hT.last e he; omega
      · rw [List.mem_singleton.1 he]; exact Int.le_refl _
    · rw [if_neg c] at he
      have := hT.last e he; omega
theorem Told.start {S : List (List S40)} : Told S.length (validL prio.length S) (start5 prio S) := by
  refine ⟨fun i hi => ?_, fun e he => (by cases he), fun i hi => List.Pairwise.nil, fun i hi hb => ?_, fun e he => (by cases he)⟩
  · show (evOf [] i).map (·.f1) ++ opOf ((ws5 prio.length S).getD i z5) ++ ((ws5 prio.length S).getD i z5).l = _
    rw [ws5_get, validL_get]
    simp [evOf, opOf]
  · have hb : ((ws5 prio.length S).getD i z5).busy = true := hb
    rw [ws5_get] at hb
    cases hb
theorem Told.done {L : List (List S40)} (hT : Told n L s) (h : Base n prio s) (hg : s.going = 0) (i : Nat) (hi : i < n) : (evOf s.ev i).map (·.f1) = L.getD i [] := by
  have := hT.seq i hi
  unfold opOf at this
  rw [(h.done hg i hi).1, (h.done hg i hi).2, if_neg (by decide), List.append_nil, List.append_nil] at this
  exact this
end
end Go.Proofs.YtmaiicpaalbcfaaDoor
end
section
namespace Go.Proofs.YtmaiicpaalbcfaaDoor
open Go.RowKit Go.Proofs.YtmaiicpaalbcfaaDoorW.PrintWords Go.Proofs.YtmaiicpaalbcfaaDoorW.PrintLast Go.Proofs.YtmaiicpaalbcfaaDoor.P
set_option linter.unusedVariables false
set_option linter.unusedSimpArgs false
theorem there_f (n x : Int) : warpref1_there.f n x = some (thereB n x) := by
  unfold warpref1_there.f thereB
  by_cases h : 0 ≤ x
  · rw [if_pos h]; simp [h]
  · rw [if_neg h]; simp [h]
end Go.Proofs.YtmaiicpaalbcfaaDoor
end
section
namespace Go.Proofs.YtmaiicpaalbcfaaDoor
open Go.RowKit Go.Proofs.YtmaiicpaalbcfaaDoorW.PrintWords Go.Proofs.YtmaiicpaalbcfaaDoorW.PrintLast Go.Proofs.YtmaiicpaalbcfaaDoor.P
set_option linter.unusedVariables false
def eqp (p : List Int) (x y : Int) : Prop := p.getD x.toNat 0 = p.getD y.toNat 0
instance (p : List Int) (x y : Int) : Decidable (eqp p x y) := inferInstanceAs (Decidable (p.getD x.toNat 0 = p.getD y.toNat 0))
theorem Gen.part {R : Int → Int → Prop} {n : Int} {p : List Int} (h : ∀ x y, R x y → In n x ∧ In n y ∧ eqp p x y) {x y : Int} (g : Gen R x y) : x = y ∨ (In n x ∧ In n y ∧ eqp p x y) := by
  induction g with
  | of hr => exact .inr (h _ _ hr)
  | refl x => exact .inl rfl
  | symm _ ih =>
    rcases ih with e | ⟨a, b, c⟩
    · exact .inl e.symm
    · exact .inr ⟨b, a, c.symm⟩
  | trans _ _ ih1 ih2 =>
    rcases ih1 with e | ⟨a, b, c⟩
    · rw [e]; exact ih2
    · rcases ih2 with e | ⟨a2, b2, c2⟩
      · rw [← e]; exact .inr ⟨a, b, c⟩
      · exact .inr ⟨a, b2, c.trans c2⟩
structure Says (n : Nat) (p : List Int) (R : Int → Int → Prop) : Prop where
  len : p.length = n
  rel : ∀ x y, In n x → In n y → (eqp p x y ↔ Gen R x y)
  rin : ∀ x y, R x y → In n x ∧ In n y
def uniteL (p : List Int) (x y : Int) : List Int := p.map fun v => if v = max (p.getD x.toNat 0) (p.getD y.toNat 0) then min (p.getD x.toNat 0) (p.getD y.toNat 0) else v
def Plus (R : Int → Int → Prop) (a b : Int) (x y : Int) : Prop := R x y ∨ (x = a ∧ y = b)
theorem uniteL_get (p : List Int) (a b x : Int) (hx : x.toNat < p.length) : (uniteL p a b).getD x.toNat 0 = if p.getD x.toNat 0 = max (p.getD a.toNat 0) (p.getD b.toNat 0) then min (p.getD a.toNat 0) (p.getD b.toNat 0) else p.getD x.toNat 0 := by
  simp only [uniteL, List.getD_eq_getElem?_getD, List.getElem?_map, List.getElem?_eq_getElem hx]
  rfl
theorem Says.new (n : Nat) (hn : n ≤ 65536) {p : List Int} (hp : p = (List.range n).map fun (i : Nat) => (i : Int)) : Says n p (fun _ _ => False) := by
  subst hp
  refine ⟨by simp, fun x y hx hy => ?_, fun _ _ h => h.elim⟩
  have hg : ∀ z, In n z → ((List.range n).map fun (i : Nat) => (i : Int)).getD z.toNat 0 = z := fun z hz => by
    have hz2 : z.toNat < n := by have := hz.1; have := hz.2; omega
    simp [List.getD_eq_getElem?_getD, hz2]
    exact Int.max_eq_left hz.1
  unfold eqp
  rw [hg x hx, hg y hy]
  constructor
  · intro e; rw [e]; exact .refl _
  · intro g
    have := Gen.part (n := (n : Int)) (p := []) (fun x y h => h.elim) g
    rcases this with e | ⟨_, _, e⟩
    · exact e
    · have h2 : ∀ x y : Int, Gen (fun _ _ => False) x y → x = y := fun x y g => by
        induction g with
        | of h => exact h.elim
        | refl => rfl
        | symm _ ih => exact ih.symm
        | trans _ _ a b => exact a.trans b
      exact h2 x y g
theorem Says.unite {n : Nat} {p : List Int} {R : Int → Int → Prop} (h : Says n p R) {a b : Int} (ha : In n a) (hb : In n b) : Says n (uniteL p a b) (Plus R a b) := by
  have hlt : ∀ x, In n x → x.toNat < p.length := fun x hx => by rw [h.len]; have := hx.1; have := hx.2; omega
  have hold : ∀ {x y}, Gen R x y → Gen (Plus R a b) x y := fun g => g.mono fun _ _ h => .inl h
  have hab : Gen (Plus R a b) a b := .of (.inr ⟨rfl, rfl⟩)
  have hin : ∀ x y, Plus R a b x y → In n x ∧ In n y := fun x y hr => by
    rcases hr with hr | ⟨rfl, rfl⟩
    · exact h.rin x y hr
    · exact ⟨ha, hb⟩
  refine ⟨by simp [uniteL, h.len], fun x y hx hy => ?_, hin⟩
  constructor
  · intro e
    unfold eqp at e
    rw [uniteL_get p a b x (hlt x hx), uniteL_get p a b y (hlt y hy)] at e
    have rel : ∀ u v, In n u → In n v → p.getD u.toNat 0 = p.getD v.toNat 0 → Gen (Plus R a b) u v := fun u v hu hv e => hold ((h.rel u v hu hv).1 e)
    -- the two classes that were united
    have two : ∀ u v, In n u → In n v → p.getD u.toNat 0 = max (p.getD a.toNat 0) (p.getD b.toNat 0) → p.getD v.toNat 0 = min (p.getD a.toNat 0) (p.getD b.toNat 0) → Gen (Plus R a b) u v := by
      intro u v hu hv e1 e2
      by_cases c : p.getD a.toNat 0 ≤ p.getD b.toNat 0
      · rw [Int.max_eq_right c] at e1
        rw [Int.min_eq_left c] at e2
        exact (rel u b hu hb e1).trans (hab.symm.trans (rel a v ha hv e2.symm))
      · rw [Int.max_eq_left (by omega)] at e1
        rw [Int.min_eq_right (by omega)] at e2
        exact (rel u a hu ha e1).trans (hab.trans (rel b v hb hv e2.symm))
    by_cases c1 : p.getD x.toNat 0 = max (p.getD a.toNat 0) (p.getD b.toNat 0)
    · by_cases c2 : p.getD y.toNat 0 = max (p.getD a.toNat 0) (p.getD b.toNat 0)
      · exact rel x y hx hy (c1.trans c2.symm)
      · rw [if_pos c1, if_neg c2] at e
        exact two x y hx hy c1 e.symm
    · by_cases c2 : p.getD y.toNat 0 = max (p.getD a.toNat 0) (p.getD b.toNat 0)
      · rw [if_neg c1, if_pos c2] at e
        exact (two y x hy hx c2 e).symm
      · rw [if_neg c1, if_neg c2] at e
        exact rel x y hx hy e
  · intro g
    have := Gen.part (n := (n : Int)) (p := uniteL p a b) (fun x y hr => by
      have hi := hin x y hr
      refine ⟨hi.1, hi.2, ?_⟩
      unfold eqp
      rw [uniteL_get p a b x (hlt x hi.1), uniteL_get p a b y (hlt y hi.2)]
      rcases hr with hr | ⟨rfl, rfl⟩
      · have e : p.getD x.toNat 0 = p.getD y.toNat 0 := (h.rel x y hi.1 hi.2).2 (.of hr)
        rw [e]
      · generalize p.getD x.toNat 0 = u
        generalize p.getD y.toNat 0 = v
        by_cases c : u ≤ v
        · rw [Int.max_eq_right c, Int.min_eq_left c, if_pos rfl]
          split <;> rfl
        · rw [Int.max_eq_left (by omega), Int.min_eq_right (by omega), if_pos rfl]
          split
          · rfl
          · rfl) g
    rcases this with e | ⟨_, _, e⟩
    · rw [e]; exact rfl
    · exact e
theorem same_f {p : List Int} {x y : Int} (hx : In p.length x) (hy : In p.length y) : warpref1_Same.f p x y = some (decide (eqp p x y)) := by
  unfold warpref1_Same.f
  have t1 : thereB p.length x = true := by simp [thereB, hx.1, hx.2]
  have t2 : thereB p.length y = true := by simp [thereB, hy.1, hy.2]
  rw [there_f, t1, Option.bind_some, if_pos rfl, there_f, t2, Option.bind_some, if_pos rfl, if_pos hx.1, if_pos hx.2, if_pos hy.1, if_pos hy.2]
  unfold eqp rd
  congr 1
theorem unite_l0 (p : List Int) (lo hi : Int) (hp : p.length ≤ 1000000) : ∀ d i : Nat, i + d = p.length → Ev (fun k => warpref1_Unite.l0 k ((p.take i).map (fun v => if v = hi then lo else v) ++ p.drop i) lo hi (i : Int)) (p.map (fun v => if v = hi then lo else v))
  | 0, i, h => by
    rw [List.take_of_length_le (by omega), List.drop_eq_nil_of_le (by omega), List.append_nil]
    exact Ev.step (f := fun _ => some (p.map (fun v => if v = hi then lo else v))) (fun k => by rw [warpref1_Unite.l0, if_neg (by simp; omega)]) (Ev.now _)
  | d + 1, i, h => by
    have ih := unite_l0 p lo hi hp d (i + 1) (by omega)
    have hlt : i < p.length := by omega
    have hlen : ((p.take i).map (fun v => if v = hi then lo else v)).length = i := by simp; omega
    have hget : rd ((p.take i).map (fun v => if v = hi then lo else v) ++ p.drop i) (i : Int) = p[i] := by
      rw [rd_nat, List.getD_eq_getElem?_getD, List.getElem?_append_right (by omega), hlen, Nat.sub_self, List.getElem?_drop, Nat.add_zero, List.getElem?_eq_getElem hlt]; rfl
    have hnext : (p.take (i + 1)).map (fun v => if v = hi then lo else v) ++ p.drop (i + 1) = (p.take i).map (fun v => if v = hi then lo else v) ++ ((if p[i] = hi then lo else p[i]) :: p.drop (i + 1)) := by
      rw [List.take_succ_eq_append_getElem hlt, List.map_append, List.append_assoc]; rfl
    have hdrop : p.drop i = p[i] :: p.drop (i + 1) := List.drop_eq_getElem_cons hlt
    rw [hnext] at ih
    refine Ev.step (fun k => ?_) ih
    rw [warpref1_Unite.l0, if_pos (by simp; omega), if_pos (by omega), hget, wr64 (by omega) (by omega)]
    by_cases c : p[i] = hi
    · rw [if_pos c, if_pos c, Int.toNat_natCast, List.set_append_right _ _ (by omega), hlen, Nat.sub_self, hdrop, List.set_cons_zero]
      rfl
    · rw [if_neg c, if_neg c, ← hdrop]
      rfl
theorem unite_ev {p : List Int} {x y : Int} (hp : p.length ≤ 1000000) (hx : In p.length x) (hy : In p.length y) : Ev (fun k => warpref1_Unite.f k p x y) (uniteL p x y) := by
  have t1 : thereB p.length x = true := by simp [thereB, hx.1, hx.2]
  have t2 : thereB p.length y = true := by simp [thereB, hy.1, hy.2]
  have hl := unite_l0 p (min (p.getD x.toNat 0) (p.getD y.toNat 0)) (max (p.getD x.toNat 0) (p.getD y.toNat 0)) hp p.length 0 (by omega)
  have e1 : mn (rd p x) (rd p y) = min (p.getD x.toNat 0) (p.getD y.toNat 0) := by unfold mn rd; split <;> omega
  have e2 : mx (rd p x) (rd p y) = max (p.getD x.toNat 0) (p.getD y.toNat 0) := by unfold mx rd; split <;> omega
  refine Ev.congr (f := fun k => warpref1_Unite.j0 k p x y p false) (fun k => ?_) (Ev.step (fun k => ?_) hl)
  · rw [warpref1_Unite.f, Option.bind_some, if_pos (by simp; omega), Option.bind_some, there_f, t1, Option.bind_some, if_pos rfl, there_f, t2, Option.bind_some, List.nil_append]
    rfl
  · rw [warpref1_Unite.j0, if_neg (by decide), if_pos hx.1, if_pos hx.2, if_pos hy.1, if_pos hy.2, e1, e2]
    rfl
theorem newpart_l0 (n : Nat) (hn : n ≤ 65536) : ∀ d i : Nat, i + d = n → Ev (fun k => warpref1_NewPart.l0 k (n : Int) ((List.range i).map fun (j : Nat) => (j : Int)) (i : Int)) ((List.range n).map fun (j : Nat) => (j : Int))
  | 0, i, h => by
    obtain rfl : i = n := by omega
    exact Ev.step (f := fun _ => some ((List.range i).map fun (j : Nat) => (j : Int))) (fun k => by rw [warpref1_NewPart.l0, if_neg (by omega)]) (Ev.now _)
  | d + 1, i, h => by
    have ih := newpart_l0 n hn d (i + 1) (by omega)
    refine Ev.step (fun k => ?_) ih
    rw [warpref1_NewPart.l0, if_pos (by omega), if_pos (by omega), if_pos (by simp; omega), wr64 (by omega) (by omega), List.range_succ, List.map_append]
    rfl
theorem newpart_ev (n : Nat) (hn : n ≤ 65536) : Ev (fun k => warpref1_NewPart.f k (n : Int)) ((List.range n).map fun (j : Nat) => (j : Int)) := newpart_l0 n hn n 0 (by omega)
theorem Says.congr {n : Nat} {p : List Int} {R R' : Int → Int → Prop} (h : Says n p R) (hr : ∀ x y, R x y ↔ R' x y) : Says n p R' :=
  ⟨h.len, fun x y hx hy => (h.rel x y hx hy).trans (Gen.iff hr), fun x y g => h.rin x y ((hr x y).2 g)⟩
end Go.Proofs.YtmaiicpaalbcfaaDoor
end
section
namespace Go.Proofs.YtmaiicpaalbcfaaDoor.Pure
open Go.RowKit Go.Proofs.YtmaiicpaalbcfaaDoor.P Go.Proofs.YtmaiicpaalbcfaaDoorW.PrintWords Go.Proofs.YtmaiicpaalbcfaaDoorW.PrintLast Go.Proofs.YtmaiicpaalbcfaaDoor
set_option linter.unusedVariables false
def endOf (ev : List S42) : Int := ((ev.getLast?).map (·.f5)).getD 0
def Row1 (ev : List S42) : Prop := ∀ k, (h : k + 1 < ev.length) → ev[k + 1].f3 = ev[k].f5 + 1
structure One1 (s : St5) : Prop where
  row : Row1 s.ev
  busy : (s.ws.getD 0 z5).busy = true → (s.ws.getD 0 z5).b = endOf s.ev + 1
  idle : (s.ws.getD 0 z5).busy = false → s.steps = endOf s.ev
  first : ∀ h : 0 < s.ev.length, s.ev[0].f3 = 1
theorem One1.step {prio P : List Int} {s : St5} {i : Nat} {l : List S40} {t : T} {b : Int} (hO : One1 s) (h : Base 1 prio s) (hG : Goes5 1 prio P s i l t b) : One1 (next5 1 prio P s i l t b) := by
  have hi0 : i = 0 := by have := hG.hi; omega
  subst hi0
  have hget := next_get h hG 0
  rw [if_pos rfl] at hget
  have hb : b = endOf s.ev + 1 := by
    rcases hG.src with ⟨h1, _, _, h4⟩ | ⟨h1, o, _, _, _, h4⟩
    · rw [h4]; exact hO.busy h1
    · rw [h4, hO.idle h1]
  obtain ⟨t2, ht2⟩ : ∃ x, (stepL s.up prio t).2 = x := ⟨_, rfl⟩
  have eev : (next5 1 prio P s 0 l t b).ev = if t2.is = true then s.ev ++ [eventS 0 t2 b (s.steps + 1) (s.ws.getD 0 z5).pl] else s.ev := by rw [← ht2]; rfl
  have est : (next5 1 prio P s 0 l t b).steps = s.steps + 1 := rfl
  rw [ht2] at hget
  cases his : t2.is with
  | true =>
    rw [his, if_pos rfl] at eev
    refine ⟨?_, fun hb => ?_, fun _ => ?_, ?_⟩
    · rw [eev]
      intro k hk
      rw [List.length_append, List.length_singleton] at hk
      by_cases c : k + 1 < s.ev.length
      · rw [List.getElem_append_left c, List.getElem_append_left (by omega)]
        exact hO.row k c
      · have hk2 : k + 1 = s.ev.length := by omega
        rw [List.getElem_append_right (by omega), List.getElem_append_left (by omega)]
        have e1 : (k + 1) - s.ev.length = 0 := by omega
        have hlast : endOf s.ev = s.ev[k].f5 := by
          unfold endOf
          rw [List.getLast?_eq_getElem?, show s.ev.length - 1 = k by omega, List.getElem?_eq_getElem (by omega)]
          rfl
        simp only [e1, List.getElem_cons_zero]
        show b = _
        rw [hb, hlast]
    · rw [hget, his] at hb
      cases hb
    · rw [est, eev]
      unfold endOf
      rw [List.getLast?_append]
      rfl
    · rw [eev]
      intro h0
      by_cases c : 0 < s.ev.length
      · rw [List.getElem_append_left c]; exact hO.first c
      · have e0 : s.ev = [] := List.length_eq_zero_iff.1 (by omega)
        rw [List.getElem_append_right (by omega)]
        simp only [e0, List.length_nil, Nat.sub_self, List.getElem_cons_zero]
        show b = 1
        rw [hb, e0]
        rfl
  | false =>
    rw [his, if_neg (by decide)] at eev
    refine ⟨by rw [eev]; exact hO.row, fun _ => ?_, fun hb => ?_, ?_⟩
    · rw [hget, eev]; exact hb
    · rw [hget, his] at hb; cases hb
    · simp only [eev]; exact hO.first
theorem One1.start {prio : List Int} {S : List (List S40)} : One1 (start5 prio S) := by
  refine ⟨fun k hk => absurd hk (by simp [start5]), fun hb => ?_, fun _ => rfl, fun h => absurd h (by simp [start5])⟩
  have hb : ((ws5 prio.length S).getD 0 z5).busy = true := hb
  rw [ws5_get] at hb
  cases hb
def Upto (ops : List S40) (i : Nat) (x y : Int) : Prop := ∃ m, ∃ h : m < ops.length, m < i ∧ ops[m].f0 = 3 ∧ x = ops[m].f1 ∧ y = ops[m].f2
theorem upto_same {ops : List S40} {i : Nat} (hi : i < ops.length) (hk : ops[i].f0 ≠ 3) (x y : Int) : Upto ops i x y ↔ Upto ops (i + 1) x y := by
  constructor
  · rintro ⟨m, h, h1, h2⟩
    exact ⟨m, h, by omega, h2⟩
  · rintro ⟨m, h, h1, h2, h3⟩
    by_cases e : m = i
    · subst e; exact absurd h2 hk
    · exact ⟨m, h, by omega, h2, h3⟩
theorem upto_plus {ops : List S40} {i : Nat} (hi : i < ops.length) (hk : ops[i].f0 = 3) (x y : Int) : Plus (Upto ops i) ops[i].f1 ops[i].f2 x y ↔ Upto ops (i + 1) x y := by
  constructor
  · rintro (⟨m, h, h1, h2⟩ | ⟨h1, h2⟩)
    · exact ⟨m, h, by omega, h2⟩
    · exact ⟨i, hi, by omega, hk, h1, h2⟩
  · rintro ⟨m, h, h1, h2, h3⟩
    by_cases e : m = i
    · subst e; exact .inr h3
    · exact .inl ⟨m, h, by omega, h2, h3⟩
structure Hist (n : Nat) (ops : List S40) (ev : List S42) : Prop where
  len : ev.length = ops.length
  op : ∀ i, (h : i < ops.length) → ev[i].f1 = ops[i]
  order : ∀ i j, (hi : i < ops.length) → (hj : j < ops.length) → i < j → ev[i].f5 < ev[j].f3
  time : ∀ i, (h : i < ops.length) → ev[i].f3 ≤ ev[i].f4 ∧ ev[i].f4 ≤ ev[i].f5
  leg : ∀ i, (h : i < ops.length) → Leg n ev ev[i]
  who : ∀ i, (h : i < ops.length) → ev[i].f0 = 0
  row : Row1 ev
  few : ev.length ≤ 1000
  ends : ∀ i, (h : i < ops.length) → 0 ≤ ev[i].f5 ∧ ev[i].f5 < 1000000
theorem Hist.at {n : Nat} {ops : List S40} {ev : List S42} (h : Hist n ops ev) (i : Nat) (hi : i < ops.length) (x y : Int) : GE ev (ev[i]'(by rw [h.len]; exact hi)).f4 x y ↔ Gen (Upto ops i) x y := by
  have hl := h.len
  constructor
  · refine Gen.mono fun x y ⟨e, he, h1, h2, h3, h4, h5⟩ => ?_
    obtain ⟨m, hm, rfl⟩ := List.getElem_of_mem he
    have hm' : m < ops.length := by omega
    refine ⟨m, hm', ?_, by rw [← h.op m hm']; exact h1, by rw [← h.op m hm']; exact h4, by rw [← h.op m hm']; exact h5⟩
    refine Decidable.byContradiction fun c => ?_
    by_cases e : m = i
    · subst e; omega
    · have a := h.order i m hi hm' (by omega)
      have b := h.time i hi
      have c := h.time m hm'
      omega
  · intro g
    induction g with
    | of hr =>
      obtain ⟨m, hm, h1, h2, rfl, rfl⟩ := hr
      have a := h.order m i hm hi h1
      have b := h.time i hi
      have c := h.time m hm
      have hleg := (h.leg m hm).2
      rw [h.op m hm] at hleg
      rcases hleg with hh | hh | hh
      · omega
      · omega
      · rcases hh.2.2 with ⟨_, hge⟩ | ⟨hr1, _⟩
        · exact hge.mono fun x y ⟨e', he', q1, q2, q3, q4⟩ => ⟨e', he', q1, q2, by omega, q4⟩
        · exact .of ⟨ev[m], List.getElem_mem _, by rw [h.op m hm]; exact h2, hr1, by omega, by rw [h.op m hm], by rw [h.op m hm]⟩
    | refl x => exact .refl x
    | symm _ ih => exact ih.symm
    | trans _ _ ih1 ih2 => exact ih1.trans ih2
theorem rdo (ops : List S40) (i : Nat) (h : i < ops.length) : rd_T40 ops (i : Int) = ops[i] := by simp [rd_T40, List.getD_eq_getElem?_getD, h]
theorem rde (ev : List S42) (i : Nat) (h : i < ev.length) : rd_T42 ev (i : Int) = ev[i] := by simp [rd_T42, List.getD_eq_getElem?_getD, h]
theorem one_j4 {n : Nat} {ops : List S40} {ev : List S42} (h : Hist n ops ev) (i : Nat) (hi : i < ops.length) (p : List Int) (hnext : Ev (fun k => warplaw5_PlayOne.l0 k ops ev p ((i + 1 : Nat) : Int)) true) : Ev (fun k => warplaw5_PlayOne.j4 k ops ev p (i : Int)) true := by
  have hl := h.len
  have hf := h.few
  have hi2 : i < ev.length := by omega
  have fin : Ev (fun k => warplaw5_PlayOne.j5 k ops ev p (i : Int) false) true := Ev.step (fun k => by rw [warplaw5_PlayOne.j5, if_neg (by decide), wr64 (by omega) (by omega)]; rfl) hnext
  have he : ¬ ((!((ev[i].f1.f0) == (ops[i].f0)) || (!((ev[i].f1.f1) == (ops[i].f1)) || (!((ev[i].f1.f2) == (ops[i].f2))))) = true) := by rw [h.op i hi]; simp
  by_cases c : i = 0
  · refine Ev.step (fun k => ?_) fin
    rw [warplaw5_PlayOne.j4, if_pos (by omega), if_pos (by omega), if_pos (by omega), rdo ops i hi, rde ev i hi2, if_neg he, if_pos (h.who i hi), if_neg (by omega)]
  · have hrow := h.row (i - 1) (by omega)
    have he2 := h.ends (i - 1) (by omega)
    have hb : (ev[i].f3 != wrap64 (ev[i - 1].f5 + 1)) = false := by
      rw [wr64 (by omega) (by omega)]
      have : ev[i].f3 = ev[i - 1].f5 + 1 := by
        rw [← hrow]
        congr 1
        simp only [show i - 1 + 1 = i by omega]
      rw [this]
      simp
    refine Ev.step (fun k => ?_) fin
    have hw : wrap64 ((i : Int) - 1) = ((i - 1 : Nat) : Int) := by rw [wr64 (by omega) (by omega)]; omega
    rw [warplaw5_PlayOne.j4, if_pos (by omega), if_pos (by omega), if_pos (by omega), rdo ops i hi, rde ev i hi2, if_neg he, if_pos (h.who i hi), if_pos (by omega), hw, if_pos (by omega), if_pos (by omega), rde ev (i - 1) (by omega), hb]
theorem one_l0 {n : Nat} {ops : List S40} {ev : List S42} (hn : n ≤ 65536) (h : Hist n ops ev) (hops : OpsOk n ops) : ∀ d i : Nat, i + d = ops.length → ∀ p, Says n p (Upto ops i) → Ev (fun k => warplaw5_PlayOne.l0 k ops ev p (i : Int)) true
  | 0, i, hi, p, hp => Ev.step (fun k => by rw [warplaw5_PlayOne.l0, if_neg (by omega)]) (Ev.bind awake5 (Ev.now _))
  | d + 1, i, hi, p, hp => by
    have hlt : i < ops.length := by omega
    have hl := h.len
    have hlt2 : i < ev.length := by omega
    obtain ⟨o1, o2, ⟨o3, o4⟩, ⟨o5, o6⟩⟩ := hops _ (List.getElem_mem hlt)
    simp only at o1 o2 o3 o4 o5 o6
    have hleg := h.leg i hlt
    have hat := h.at i hlt
    unfold Leg at hleg
    simp only [hat] at hleg
    rw [h.op i hlt] at hleg
    have inX : In n ops[i].f1 := ⟨o3, o4⟩
    have inY : In n ops[i].f2 := ⟨o5, o6⟩
    have hpl := hp.len
    have inX' : In p.length ops[i].f1 := by rw [hpl]; exact inX
    have inY' : In p.length ops[i].f2 := by rw [hpl]; exact inY
    have hrel := hp.rel _ _ inX inY
    have hsame := same_f inX' inY'
    have ih := one_l0 hn h hops d (i + 1) (by omega)
    -- the three kinds
    have key : Ev (fun k => warplaw5_PlayOne.j3 k ops ev p (i : Int) (if eqp p ops[i].f1 ops[i].f2 then 1 else 0)) true := by
      rcases hleg.2 with ⟨k1, hin, hge⟩ | ⟨k2, _, hres⟩ | ⟨k3, _, hres⟩
      · have hj := one_j4 h i hlt p (ih p (hp.congr (upto_same hlt (by omega))))
        have hs2 := same_f (p := p) inX' (y := ev[i].f2) (by rw [hpl]; exact hin)
        rw [decide_eq_true ((hp.rel _ _ inX hin).2 hge)] at hs2
        refine Ev.step (fun k => ?_) hj
        rw [warplaw5_PlayOne.j3, if_pos (by omega), if_pos (by omega), rdo ops i hlt, if_pos k1, if_pos (by omega), rde ev i hlt2, hs2, Option.bind_some, if_pos rfl]
      · have hj := one_j4 h i hlt p (ih p (hp.congr (upto_same hlt (by omega))))
        have hr : ev[i].f2 = (if eqp p ops[i].f1 ops[i].f2 then 1 else 0) := by
          rcases hres with ⟨a, b⟩ | ⟨a, b⟩
          · rw [if_pos (hrel.2 b)]; exact a
          · rw [if_neg (fun hh => b (hrel.1 hh))]; exact a
        refine Ev.step (fun k => ?_) hj
        rw [warplaw5_PlayOne.j3, if_pos (by omega), if_pos (by omega), rdo ops i hlt, if_neg (by omega), if_pos k2, if_pos (by omega), rde ev i hlt2, if_pos hr]
      · have hj := one_j4 h i hlt (uniteL p ops[i].f1 ops[i].f2) (ih _ ((hp.unite inX inY).congr (upto_plus hlt k3)))
        have hr : ev[i].f2 = wrap64 (1 - (if eqp p ops[i].f1 ops[i].f2 then 1 else 0)) := by
          rcases hres with ⟨a, b⟩ | ⟨a, b⟩
          · rw [if_pos (hrel.2 b), a]; exact (wr64 (i := 1 - 1) (by decide) (by decide)).symm
          · rw [if_neg (fun hh => b (hrel.1 hh)), a]; exact (wr64 (i := 1 - 0) (by decide) (by decide)).symm
        refine Ev.step (f := fun k => (warpref1_Unite.f k p ops[i].f1 ops[i].f2).bind fun t304 => (warplaw5_PlayOne.j4 k ops ev t304 (i : Int))) (fun k => ?_) (Ev.bind (unite_ev (by omega) inX' inY') hj)
        rw [warplaw5_PlayOne.j3, if_pos (by omega), if_pos (by omega), rdo ops i hlt, if_neg (by omega), if_neg (by omega), if_pos (by omega), rde ev i hlt2, if_pos hr]
    refine Ev.step (fun k => ?_) key
    rw [warplaw5_PlayOne.l0, if_pos (by omega), if_pos (by omega), rdo ops i hlt, hsame, Option.bind_some]
    by_cases c : eqp p ops[i].f1 ops[i].f2
    · rw [if_pos (decide_eq_true c), if_pos c]
    · rw [if_neg (by simp [c]), if_neg c]
theorem small_cap1 (t n : Nat) (ht : t ≤ 64) (hn : n ≤ 16) : 14 * n * t < 1000000 := by
  have : 14 * n * t ≤ 14 * 16 * 64 := Nat.mul_le_mul (by omega) ht
  generalize 14 * n * t = q at *
  omega
theorem total_one (ops : List S40) : total [ops] = ops.length := by rw [total_sum]; simp
theorem one_run {n : Nat} {p : List Int} {ops : List S40} (hp : p.length = n) (hn : n ≤ 16) (hops : OpsOk n ops) (hl : ops.length ≤ 30) (P : List Int) (hP : P.length ≤ 1000000) : ∃ s : St5, playF p [ops] P = some (s.ev, s.up, s.steps) ∧ s.up.length = n ∧ Hist n ops s.ev := by
  have hv : validL p.length [ops] = [ops] := by
    unfold validL
    rw [List.map_cons, List.map_nil, hp, opsOk_valid hops]
  have ht := total_one ops
  have hcap : 14 * p.length * total [ops] < 1000000 := by rw [hp, ht]; exact small_cap1 _ _ (by omega) hn
  obtain ⟨s, h1, hB, ⟨hC, hT, hL, hO⟩, hg, hst⟩ := play_whole (prio := p) (P := P) (S := [ops]) (by omega) (by simp) (by omega) hcap hP (fun s => Cnt 1 (total [ops]) s ∧ Told 1 [ops] s ∧ Lin 1 p s ∧ One1 s)
    ⟨Cnt.start hv, by have := Told.start (prio := p) (S := [ops]); rw [hv] at this; exact this, Lin.start (S := [ops]) (by omega), One1.start⟩ (fun s i l t b hb hc hG => ⟨hc.1.step hb hG, hc.2.1.step hb hG, hc.2.2.1.step hb hG, hc.2.2.2.step hb hG⟩)
  have hlen : s.ev.length = ops.length := by rw [hC.done hB hg, ht]
  have hall : evOf s.ev 0 = s.ev := by
    unfold evOf
    rw [List.filter_eq_self]
    intro e he
    obtain ⟨i, hi, hw⟩ := hT.who e he
    rw [hw]
    exact decide_eq_true (by omega)
  have hops2 := hT.done hB hg 0 (by decide)
  rw [hall] at hops2
  have hops3 : s.ev.map (·.f1) = ops := hops2
  have hpw := hT.ends 0 (by decide)
  rw [hall] at hpw
  have hst2 : s.steps < 1000000 := by omega
  refine ⟨s, h1, by rw [hB.ok.1, hp], ⟨hlen, fun i hi => ?_, fun i j hi hj hij => ?_, fun i hi => ?_, fun i hi => ?_, fun i hi => ?_, hO.row, by omega, fun i hi => ?_⟩⟩
  · have e : (s.ev.map (·.f1))[i]'(by rw [List.length_map]; omega) = ops[i] := by simp only [hops3]
    rw [← e, List.getElem_map]
  · exact (List.pairwise_iff_getElem.1 hpw) i j (by omega) (by omega) hij
  · have := hL.time s.ev[i] (List.getElem_mem _)
    exact ⟨this.2.1, this.2.2.1⟩
  · have := hL.leg s.ev[i] (List.getElem_mem _)
    rw [hp] at this
    exact this
  · obtain ⟨j, hj, hw⟩ := hT.who s.ev[i] (List.getElem_mem _)
    rw [hw]
    omega
  · have := hL.time s.ev[i] (List.getElem_mem _)
    omega
theorem one_j0 (l0 l1 l2 : List Int) (hb : Bytes l1) (h1 : l1.length ≤ 90) (h2 : l2.length ≤ 200) : Ev (fun k => warplaw5_PlayOne.j0 k l0 l1 l2 (1 + ((l0.length : Int) % 16)) false) true := by
  have hn : (1 + ((l0.length : Int) % 16)) = ((1 + l0.length % 16 : Nat) : Int) := by omega
  rw [hn]
  have hn16 : 1 + l0.length % 16 ≤ 16 := by omega
  have hn0 : 0 < 1 + l0.length % 16 := by omega
  generalize 1 + l0.length % 16 = n at *
  obtain ⟨ops, hops, hol, hoe⟩ := ops_ev l1 n hb hn0 (by omega) (by omega)
  obtain ⟨p, hp, hpe⟩ := prio_ev l0 n (by omega)
  obtain ⟨s, hs, hul, hH⟩ := one_run hp hn16 hops (by omega) l2 (by omega)
  have e1 : (s.ev.length : Int) = (ops.length : Int) := by rw [hH.len]
  have e3 : ((s.up.length : Int) != (n : Int)) = false := by rw [hul]; simp
  have hl0 := one_l0 (n := n) (by omega) hH hops ops.length 0 (by omega) _ ((Says.new n (by omega) rfl).congr (fun x y => ⟨fun h => h.elim, fun ⟨m, _, h, _⟩ => absurd h (by omega)⟩))
  refine Ev.step (f := fun k => (warplaw4_Ops.f k l1 (n : Int)).bind fun t274 => ((warplaw4_Prio.f k l0 (n : Int)).bind fun t277 => ((play_Play.f t277 (([t274] : List (List (S40)))) l2).bind fun bt283 => (if (bt283.1.length : Int) = (t274.length : Int) then (warplaw5_PlayOne.j1 k (n : Int) t274 bt283.1 ((bt283.2.1.length : Int) != (n : Int))) else (warplaw5_PlayOne.j1 k (n : Int) t274 bt283.1 true))))) (fun k => by rw [warplaw5_PlayOne.j0, if_neg (by decide)]) ?_
  refine Ev.bind hoe (Ev.bind hpe ?_)
  unfold play_Play.f
  rw [hs]
  refine Ev.congr (fun k => by rw [Option.bind_some]) ?_
  refine Ev.congr (fun k => if_pos e1) ?_
  refine Ev.congr (fun k => by rw [e3]) ?_
  refine Ev.step (f := fun k => (warpref1_NewPart.f k (n : Int)).bind fun t290 => (warplaw5_PlayOne.l0 k ops s.ev t290 0)) (fun k => by rw [warplaw5_PlayOne.j1, if_neg (by decide)]) ?_
  exact Ev.bind (newpart_ev n (by omega)) hl0
theorem PlayOne : warplaw5_PlayOne.Pure := by
  intro l0 l1 l2 g0 g1 g2
  refine Ev.rounds ?_
  have stop : Ev (fun k => warplaw5_PlayOne.j0 k l0 l1 l2 (1 + ((l0.length : Int) % 16)) true) true := Ev.step (fun k => by rw [warplaw5_PlayOne.j0, if_pos rfl]) (Ev.bind awake5 (Ev.now _))
  by_cases c : (l1.length : Int) > 90
  · exact Ev.congr (fun k => by rw [warplaw5_PlayOne.f, if_pos c]) stop
  · by_cases c2 : (l2.length : Int) > 200
    · exact Ev.congr (fun k => by rw [warplaw5_PlayOne.f, if_neg c, decide_eq_true c2]) stop
    · exact Ev.congr (fun k => by rw [warplaw5_PlayOne.f, if_neg c, decide_eq_false c2]) (one_j0 l0 l1 l2 (bytes_of (fun x hx => u8_rng (g1.2 x hx))) (by omega) (by omega))
end Go.Proofs.YtmaiicpaalbcfaaDoor.Pure
end
section
-- PRINTED BY print.sh 35421559b90ae4d0a3588c463048766b98c2df88dd9212a6774a882060cdf62d: not written by this session
-- PRINTED WORDS (module Derived/Print/Sized.lean): go-gate-2's, for the rows of laws over slices: an AI agent of Go's test side, Tue Nov 17 2026; no person has read it. Lean checks it.

end
section
namespace Go.Proofs.YtmaiicpaalbcfaaDoor
open Go.ChangeShapes Go.WideShapes Go.ChangeAt Go.RowKit Go.Proofs.YtmaiicpaalbcfaaDoorW.PrintWords
def Opens (P : Program) (w : World) (t : TypeId) {α : Type} (d : Kd α) (G : α → Prop) : Prop :=
  ∀ {H : Type} (enc : TypeId × Value → H) (base : Nat) (spare : Nat → Bool) (held : Bool) (fuel : Nat) (cs : List Value) (x : DataW H × List MemPlace), DataW.trod enc P w base spare held fuel t cs = some x → ∃ a : α, d.K w a cs ∧ G a
section
variable {P : Program} {w : World} {t e : TypeId}
theorem opens_int {k : IntKind} (ht : P.underlying t = some (.int k)) : Opens P w t (Kd.int k) (fun n => (Lit.int k n).wf = true) := by
  intro H enc base spare held fuel cs x h
  obtain ⟨n, rfl, _, hw⟩ := DataW.trod_int ht h
  exact ⟨n, rfl, hw⟩
theorem addr_add (a : Addr) (x y : Nat) : a.add (x + y) = (a.add x).add y := by
  unfold Addr.add
  by_cases hx : x = 0
  · subst hx; simp
  · by_cases hy : y = 0
    · subst hy; simp [hx]
    · simp [hx, hy, Nat.add_assoc]
theorem list_of {α : Type} {R : Nat → α → Prop} : ∀ n : Nat, (∀ i, i < n → ∃ a, R i a) → ∃ l : List α, l.length = n ∧ ∀ (i : Nat) (a : α), l[i]? = some a → R i a
  | 0, _ => ⟨[], rfl, fun i a h => by simp at h⟩
  | n + 1, h => by
    obtain ⟨l, hl, hr⟩ := list_of n (fun i hi => h i (by omega))
    obtain ⟨a, ha⟩ := h n (by omega)
    refine ⟨l ++ [a], by simp [hl], fun i b hb => ?_⟩
    rcases Nat.lt_or_ge i n with hi | hi
    · rw [List.getElem?_append_left (by omega)] at hb
      exact hr i b hb
    · rw [List.getElem?_append_right (by omega), hl] at hb
      obtain rfl : i = n := by
        have := (List.getElem?_eq_some_iff.1 hb).1
        simp at this
        omega
      simp at hb
      subst hb
      exact ha
theorem opens_slice {α : Type} {d : Kd α} {G : α → Prop} (ht : P.underlying t = some (.slice e)) (hc : P.cellsOf e = d.sz) (ho : Opens P w e d G) : Opens P w t (Kd.slice e d) (fun l => l.length ≤ maxLen ∧ ∀ x ∈ l, G x) := by
  intro H enc base spare held fuel cs x h
  rcases DataW.trod_slice ht h with ⟨rfl, _⟩ | ⟨a, len, cap, elems, rest, n, _, rfl, _, _, hl, hm, hlen, hel, _⟩
  · exact ⟨[], ⟨none, 0, rfl, Nat.le_refl _, rfl, by simp, fun hn => by simp at hn⟩, by simp, fun x hx => by simp at hx⟩
  · obtain ⟨l, hll, hr⟩ := list_of (R := fun i a' => ∃ c : List Value, c.length = d.sz ∧ d.K w a' c ∧ (∀ j u, c[j]? = some u → w.cell? (a.add (i * d.sz + j)) = some u) ∧ G a') len (fun i hi => by
      have h1 := hel i hi
      rw [List.getElem?_eq_getElem (by omega)] at h1
      obtain ⟨c, hcs, hy⟩ := Option.bind_eq_some_iff.1 h1
      obtain ⟨a', hk, hg⟩ := ho enc base spare held n c _ hy
      obtain ⟨_, hcl, hcell⟩ := World.cells?_some hcs
      rw [hc] at hcl hcell
      refine ⟨a', c, hcl, hk, fun j u hu => ?_, hg⟩
      have hj : j < d.sz := by rw [← hcl]; exact (List.getElem?_eq_some_iff.1 hu).1
      have h3 := hcell j hj
      rw [hu] at h3
      rw [← h3, addr_add])
    refine ⟨l, ⟨some a, cap, by rw [hll], by omega, rfl, by unfold maxLen at hm; omega, fun _ => ⟨a, rfl, fun j p hp => ?_⟩⟩, by omega, fun x hx => ?_⟩
    · obtain ⟨c, h1, h2, h3, _⟩ := hr j p hp
      exact ⟨c, h1, h2, h3⟩
    · obtain ⟨i, hi⟩ := List.getElem?_of_mem hx
      obtain ⟨_, _, _, _, hg⟩ := hr i x hi
      exact hg
theorem opens_list {α : Type} {d : Kd α} {G : List α → Prop} {r : Reach} {b0 base : Nat} {spare : Nat → Bool} {held : Bool} {v : Value} {H : Type} {enc : TypeId × Value → H} {dd : DataW H} {p : List MemPlace} (ht : P.underlying t = some (.slice e)) (ho : Opens P w t (Kd.slice e d) G) (hv : Value.okWide P w r b0 t v) (h : DataW.Trod enc P w base spare held t v dd p) :
    ∃ (l : List α) (A : Option Addr) (c : Nat), v = .slice A l.length c ∧ l.length ≤ c ∧ d.C w A l.length l ∧ G l := by
  obtain ⟨a, len, cap, rfl⟩ := okWide_slice ht hv
  obtain ⟨fuel, hf⟩ := h
  obtain ⟨l, ⟨A, c, e1, e2, e3⟩, hg⟩ := ho enc base spare held fuel _ _ hf
  simp only [Value.cells, List.cons.injEq, and_true] at e1
  exact ⟨l, A, c, e1, e2, e3, hg⟩
end
end Go.Proofs.YtmaiicpaalbcfaaDoor
namespace Go.Proofs.YtmaiicpaalbcfaaDoor
open Go.ChangeShapes Go.WideShapes Go.RowKit Go.Proofs.YtmaiicpaalbcfaaDoorW.PrintWords
section
variable {P : Program} {w : World} {t e : TypeId}
end
end Go.Proofs.YtmaiicpaalbcfaaDoor
end
section
namespace Go.Proofs.YtmaiicpaalbcfaaDoor
open Go.ChangeShapes Go.WideShapes Go.RowKit
theorem tab_global : Tryd.prog.globalNamed "math/bits.deBruijn64tab" = some 0 := by kernel_rfl
theorem tab_type : (Tryd.prog.globals[0]?).map (·.type) = some 105 := by kernel_rfl
theorem tab_cell : Tryd.prog.cellsOf 5 = 1 := by kernel_rfl
def tabCells : Array Value := (Lib.deBruijn64tab.map fun (n : Nat) => Value.int .u8 (n : Int)).toArray
theorem laid_eq {H : Type} : (Rows.laid_math_bits_deBruijn64tab : DataW H) = .agg (Lib.deBruijn64tab.map fun (n : Nat) => .lit (.int .u8 (n : Int))) := by rfl
theorem tab_of_laid {W : World} (h : laidMet Tryd.prog [("math/bits.deBruijn64tab", Rows.laid_math_bits_deBruijn64tab)] W) : Tab W := by
  obtain ⟨ps, ⟨g, t, cs, fuel, p, q, hg, ht, hvar, hd, _, _⟩, _⟩ := h
  obtain rfl := Option.some.inj (tab_global.symm.trans hg)
  obtain rfl := Option.some.inj (tab_type.symm.trans ht)
  obtain ⟨xs, m, _, hx, _, hl, hel⟩ := DataW.trod_array Tryd.underlying105 hd
  simp only [Prod.mk.injEq, laid_eq, DataW.agg.injEq] at hx
  intro j hj
  have hj64 : j < 64 := hj
  have h1 := hel j hj64
  rw [List.getElem?_eq_getElem (by omega), tab_cell, Nat.mul_one] at h1
  obtain ⟨n, h2, h3, _⟩ := DataW.trod_int Tryd.underlying5 h1
  have h4 : (xs.map (·.1))[j]? = some (.lit (.int .u8 n)) := by rw [List.getElem?_map, List.getElem?_eq_getElem (by omega), h3]; rfl
  rw [← hx.1, List.getElem?_map, List.getElem?_eq_getElem hj] at h4
  simp only [Option.map_some, Option.some.injEq, DataW.lit.injEq, Lit.int.injEq, true_and] at h4
  have h5 : cs[j]? = some (Value.int .u8 n) := by
    have h6 := congrArg List.head? h2
    rw [List.head?_take, List.head?_drop] at h6
    simpa using h6
  have h7 := World.var?_cell hg hvar j
  rw [h7, h5, ← h4, List.getD_eq_getElem?_getD, List.getElem?_eq_getElem hj]
  rfl
noncomputable def laidWorld (os : Os) : World :=
  { World.holding Tryd.prog os ⟨#[], #[], []⟩ with heap := (World.holding Tryd.prog os ⟨#[], #[], []⟩).heap.modify 0 fun
      | .cells _ t frozen => .cells tabCells t frozen
      | o => o }
theorem laidWorld_row (os : Os) (args : Array Value) : ((laidWorld os).forCall (fun _ _ => 0) ⟨#[], args, []⟩).memory.heap[0]? = some (.cells tabCells 105 (0, 0)) := by kernel_rfl
theorem tabCells_int : ∀ v ∈ tabCells.toList, ∃ n, v = .int .u8 n := by
  intro v hv
  simp only [tabCells, List.mem_map] at hv
  obtain ⟨n, _, rfl⟩ := hv
  exact ⟨_, rfl⟩
set_option maxRecDepth 100000 in
theorem laidWorld_met (os : Os) (args : Array Value) : laidMet Tryd.prog [("math/bits.deBruijn64tab", Rows.laid_math_bits_deBruijn64tab)] ((laidWorld os).forCall (fun _ _ => 0) ⟨#[], args, []⟩).memory := by
  refine ⟨_, ⟨0, 105, tabCells, 8, [], [], tab_global, tab_type, by kernel_rfl, by kernel_rfl, rfl, rfl⟩, by decide +kernel, fun b off h => ?_⟩
  have hb : b = 0 := by
    simp only [List.append_nil, MemPlace.row, List.mem_map] at h
    obtain ⟨i, _, hi⟩ := h
    injection hi with h1 h2
    exact h1.symm
  subst hb
  refine ⟨⟨_, _, laidWorld_row os args⟩, fun u v hc => ?_⟩
  simp only [World.cell?, laidWorld_row os args] at hc
  have hm : (Value.iface u v) ∈ tabCells.toList := by
    have := List.mem_of_getElem? (l := tabCells.toList) (i := off) (a := .iface u v) (by simpa using hc)
    exact this
  obtain ⟨n, hn⟩ := tabCells_int _ hm
  cases hn
end Go.Proofs.YtmaiicpaalbcfaaDoor
end
