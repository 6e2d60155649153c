/-
One task alone: what it keeps to its end, that it ends, and with which result. Plain law; condition: the cells may be, the task has begun.
-/
import Derived.Test.YtcppmfmlafnmfaaCufV
namespace Go.Proofs.Ytcppmfmlafnmfaa
open Go.RowKit
theorem swap_same {up p : List Int} (h : Ok up p) {u w r : Int} (hu : In up.length u) (hw : In up.length w) (hr : In up.length r) (h1 : LT p u.toNat w.toNat) (h2 : LT p w.toNat r.toNat) (hroot : rootN up r.toNat = rootN up w.toNat) :
    ∀ x, x < up.length → rootN (swapL up u w r) x = rootN up x := by
  obtain ⟨u, rfl, hu'⟩ := in_nat hu
  obtain ⟨w, rfl, _⟩ := in_nat hw
  obtain ⟨r, rfl, hr'⟩ := in_nat hr
  simp only [Int.toNat_natCast] at h1 h2 hroot
  unfold swapL
  rw [at_nat]
  split
  · rename_i he
    rw [Int.toNat_natCast]
    exact root_split h hu' hr' he h1 h2 hroot
  · exact fun _ _ => rfl
theorem is_fix {up p : List Int} (h : Ok up p) {c : Nat} (hc : c < up.length) (e : rootN up c = c) : up.getD c 0 = (c : Int) := by
  have := root_fix h hc
  rw [e] at this
  rw [step_getD h hc, this]
theorem fix_root {up p : List Int} (h : Ok up p) {c : Nat} (hc : c < up.length) (e : up.getD c 0 = (c : Int)) : rootN up c = c := root_of_fix (stepUp_of h hc e)
/-- how many steps are left, at most -/
def left (p : List Int) (n : Nat) (t : T) : Nat :=
  if t.s ≤ 3 then 3 * above p n t.u.toNat + (if t.s = 1 then 62 else if t.s = 2 then 61 else 60)
  else if t.s ≤ 6 then 3 * above p n t.v.toNat + (if t.s = 4 then 7 else if t.s = 5 then 6 else 5)
  else 1
/-- a task under way, alone: 'was' is what the cells were, X and Y the roots of its elements then -/
structure Way (n : Nat) (p was up : List Int) (t : T) (X Y : Nat) : Prop where
  ok : Ok up p
  len : up.length = n
  keeps : Keeps n p t
  ri : RI up t
  same : ∀ x, x < n → rootN up x = rootN was x
  ru : rootN up t.u.toNat = X
  rv : rootN up t.v.toNat = Y
  fu : 4 ≤ t.s → rootN up t.u.toNat = t.u.toNat
  fv : 7 ≤ t.s → rootN up t.v.toNat = t.v.toNat
/-- the task's end -/
structure End (n : Nat) (p was up : List Int) (t : T) (X Y : Nat) : Prop where
  ok : Ok up p
  is : t.is = true
  find : t.k = 1 → t.res = (X : Int)
  ask : t.k = 2 → t.res = if X = Y then 1 else 0
  unite : t.k = 3 → t.res = if X = Y then 0 else 1
  stay : t.k ≠ 3 ∨ X = Y → ∀ x, x < n → rootN up x = rootN was x
  moves : t.k = 3 → X ≠ Y → (∀ x, x < n → rootN was x ≠ rootN up x → (rootN was x = X ∨ rootN was x = Y) ∧ (rootN up x = X ∨ rootN up x = Y)) ∧ (∀ x y, x < n → y < n → rootN was x = X → rootN was y = Y → rootN up x = rootN up y)
/-- the first find has ended at a root -/
theorem way_first {n : Nat} {p was up : List Int} {t : T} {X Y : Nat} (h1 : n ≤ 16) (ho : Ok up p) (hl : up.length = n) (hsame : ∀ x, x < n → rootN up x = rootN was x) (hk : Keeps n p (firstT t)) (u0 : In n t.u) (v0 : In n t.v) (hi : t.is = false)
    (ru : rootN up t.u.toNat = X) (rv : rootN up t.v.toNat = Y) (hf : rootN up t.u.toNat = t.u.toNat) :
    ((firstT t).is = false → Way n p was up (firstT t) X Y ∧ left p n (firstT t) + 1 ≤ 60) ∧ ((firstT t).is = true → End n p was up (firstT t) X Y) := by
  obtain ⟨i, hu, hi'⟩ := in_nat u0
  obtain ⟨j, hv, hj⟩ := in_nat v0
  have hri : RI up (firstT t) := ri_first
  unfold firstT at hk hri ⊢
  split
  · rename_i hk1
    refine ⟨fun h => by simp [finish] at h, fun _ => ⟨ho, rfl, fun _ => ?_, fun h => ?_, fun h => ?_, fun _ => hsame, fun h => ?_⟩⟩
    · show t.u = (X : Int)
      rw [← ru, hf, hu]
      simp
    · exact absurd h (by show ¬ t.k = 2; omega)
    · exact absurd h (by show ¬ t.k = 3; omega)
    · exact absurd h (by show ¬ t.k = 3; omega)
  · rename_i hk1
    rw [if_neg hk1] at hk hri
    refine ⟨fun _ => ⟨⟨ho, hl, hk, hri, hsame, ru, rv, fun _ => hf, fun h => ?_⟩, ?_⟩, fun h => ?_⟩
    · simp only at h; omega
    · have ha := above_n (p := p) hj
      simp [left, hv]
      omega
    · simp only at h
      rw [hi] at h
      cases h
/-- the second find has ended at a root -/
theorem way_second {n : Nat} {p was up : List Int} {t : T} {X Y : Nat} (ho : Ok up p) (hl : up.length = n) (hsame : ∀ x, x < n → rootN up x = rootN was x) (hk : Keeps n p (secondT t)) (kk : t.k ≠ 1) (u0 : In n t.u) (v0 : In n t.v) (hi : t.is = false)
    (ru : rootN up t.u.toNat = X) (rv : rootN up t.v.toNat = Y) (hf : rootN up t.u.toNat = t.u.toNat) (hg : rootN up t.v.toNat = t.v.toNat) :
    ((secondT t).is = false → Way n p was up (secondT t) X Y ∧ left p n (secondT t) ≤ 1) ∧ ((secondT t).is = true → End n p was up (secondT t) X Y) := by
  obtain ⟨i, hu, hi'⟩ := in_nat u0
  obtain ⟨j, hv, hj⟩ := in_nat v0
  have hri : RI up (secondT t) := ri_second
  unfold secondT at hk hri ⊢
  split
  · rename_i he
    have hxy : X = Y := by rw [← ru, ← rv, he]
    refine ⟨fun h => by simp [finish] at h, fun _ => ⟨ho, rfl, fun h => ?_, fun h => ?_, fun h => ?_, fun _ => hsame, fun _ h => absurd hxy h⟩⟩
    · exact absurd h kk
    · have h : t.k = 2 := h
      show (if t.k = 2 then (1 : Int) else 0) = _
      rw [if_pos h, if_pos hxy]
    · have h : t.k = 3 := h
      show (if t.k = 2 then (1 : Int) else 0) = _
      rw [if_neg (by omega), if_pos hxy]
  · rename_i he
    rw [if_neg he] at hk hri
    refine ⟨fun _ => ⟨⟨ho, hl, hk, hri, hsame, ru, rv, fun _ => hf, fun _ => hg⟩, ?_⟩, fun h => ?_⟩
    · by_cases h2 : t.k = 2
      · simp [left, h2]
      · simp [left, h2]
    · simp only at h
      rw [hi] at h
      cases h
/-- the link -/
theorem end_link {n : Nat} {p was up : List Int} {t : T} {X Y a b : Nat} (ho : Ok up p) (hl : up.length = n) (ho' : Ok (up.set a (b : Int)) p) (hsame : ∀ x, x < n → rootN up x = rootN was x) (ha : a < n) (hb : b < n) (hfa : rootN up a = a) (hfb : rootN up b = b) (hlt : LT p a b) (hk : t.k = 3)
    (hXY : (X = a ∧ Y = b) ∨ (X = b ∧ Y = a)) : End n p was (up.set a (b : Int)) (finish t 1) X Y := by
  have hne : a ≠ b := fun e => by rw [e] at hlt; exact lt_irrefl p _ hlt
  have hs := root_link ho (by omega) (by omega) (is_fix ho (by omega) hfa) hlt
  rw [hl] at hs
  have hxy : X ≠ Y := by rcases hXY with ⟨rfl, rfl⟩ | ⟨rfl, rfl⟩ <;> omega
  have key : ∀ x, x < n → rootN (up.set a (b : Int)) x = if rootN was x = a then b else rootN was x := fun x hx => by rw [hs x hx, hsame x hx, hfb]
  refine ⟨ho', rfl, fun h => absurd h (by show ¬ t.k = 1; omega), fun h => absurd h (by show ¬ t.k = 2; omega), fun _ => ?_, fun h => ?_, fun _ _ => ⟨fun x hx hne2 => ?_, fun x y hx hy h1 h2 => ?_⟩⟩
  · show (1 : Int) = _
    rw [if_neg hxy]
  · rcases h with h | h
    · exact absurd hk h
    · exact absurd h hxy
  · rw [key x hx] at hne2 ⊢
    split at hne2
    · rename_i e
      rw [if_pos e, e]
      omega
    · exact absurd rfl hne2
  · rw [key x hx, key y hy, h1, h2]
    rcases hXY with ⟨rfl, rfl⟩ | ⟨rfl, rfl⟩
    · rw [if_pos rfl, if_neg (Ne.symm hne)]
    · rw [if_neg (Ne.symm hne), if_pos rfl]
theorem way_step {n : Nat} {p was up : List Int} {t : T} {X Y : Nat} (h1 : n ≤ 16) (h : Way n p was up t X Y) (hi : t.is = false) :
    ((stepL up p t).2.is = false → Way n p was (stepL up p t).1 (stepL up p t).2 X Y ∧ left p n (stepL up p t).2 + 1 ≤ left p n t) ∧ ((stepL up p t).2.is = true → End n p was (stepL up p t).1 (stepL up p t).2 X Y) := by
  have hl := h.len
  have ho := h.ok
  have hst := step_keeps ho (t := t) (by rw [hl]; exact h.keeps)
  rw [hl] at hst
  obtain ⟨ho', hl', hk'⟩ := hst
  have hmv := step_moves ho (t := t) (by rw [hl]; exact h.keeps) h.ri
  have hri' := hmv.ri
  have hsame := h.same
  obtain ⟨k, x, y, s, u, v, w, r, is, res⟩ := t
  obtain ⟨⟨k0, k1, u0, v0, s0, s1, k2, k7, k8, w0, r0⟩, ⟨oa, ob, oc, od, oe⟩⟩ := h.keeps
  obtain ⟨ra, rb, rc, rd⟩ := h.ri
  have ru := h.ru
  have rv := h.rv
  have fu := h.fu
  have fv := h.fv
  clear h hmv
  simp only at hi k0 k1 u0 v0 s0 s1 k2 k7 k8 w0 r0 oa ob oc od oe ra rb rc rd ru rv fu fv
  subst hi
  rcases (show s = 1 ∨ s = 2 ∨ s = 3 ∨ s = 4 ∨ s = 5 ∨ s = 6 ∨ s = 7 ∨ s = 8 by omega) with rfl | rfl | rfl | rfl | rfl | rfl | rfl | rfl
  · simp only [stepL, if_neg Bool.false_ne_true, if_true] at ho' hl' hk' hri' ⊢
    split
    · rename_i he
      rw [if_pos he] at hk'
      have hfx : rootN up (u).toNat = (u).toNat := by
        obtain ⟨i, rfl, hi⟩ := in_nat u0
        rw [at_nat] at he
        rw [Int.toNat_natCast]
        exact fix_root ho (by omega) he
      have := way_first h1 ho hl hsame hk' u0 v0 rfl ru rv hfx
      exact ⟨fun h => ⟨(this.1 h).1, Nat.le_trans (this.1 h).2 (by simp [left])⟩, this.2⟩
    · rename_i he
      rw [if_neg he] at hk' hri'
      exact ⟨fun _ => ⟨⟨ho, hl, hk', hri', hsame, ru, rv, fun h => by simp at h, fun h => by simp at h⟩, by simp [left]⟩, fun h => by simp at h⟩
  · have w1 := w0 (by omega)
    have hwu := ra rfl (.inl rfl)
    simp only [stepL, if_neg Bool.false_ne_true, if_true, show ((2 : Int) = 1) = False by simp, if_false] at ho' hl' hk' hri' ⊢
    split
    · rename_i he
      rw [if_pos he] at hk'
      have hfx : rootN up (w).toNat = (w).toNat := by
        obtain ⟨i, rfl, hi⟩ := in_nat w1
        rw [at_nat] at he
        rw [Int.toNat_natCast]
        exact fix_root ho (by omega) he
      have := way_first (t := ⟨k, x, y, 2, w, v, w, at_ up w, false, res⟩) h1 ho hl hsame hk' w1 v0 rfl (hwu.trans ru) rv hfx
      exact ⟨fun h => ⟨(this.1 h).1, Nat.le_trans (this.1 h).2 (by simp [left])⟩, this.2⟩
    · rename_i he
      rw [if_neg he] at hk' hri'
      exact ⟨fun _ => ⟨⟨ho, hl, hk', hri', hsame, ru, rv, fun h => by simp at h, fun h => by simp at h⟩, by simp [left]⟩, fun h => by simp at h⟩
  · have w1 := w0 (by omega)
    have r1 := r0 (by omega)
    have hss := swap_same ho (by rw [hl]; exact u0) (by rw [hl]; exact w1) (by rw [hl]; exact r1) (oa rfl (.inr rfl)) (ob rfl rfl) (rb rfl rfl)
    rw [hl] at hss
    have hwu := ra rfl (.inr rfl)
    simp only [stepL, if_neg Bool.false_ne_true, if_true, show ((3 : Int) = 1) = False by simp, show ((3 : Int) = 2) = False by simp, if_false] at ho' hl' hk' hri' ⊢
    obtain ⟨j, rfl, hj⟩ := in_nat w1
    obtain ⟨i, rfl, hi⟩ := in_nat u0
    obtain ⟨z, rfl, hz⟩ := in_nat v0
    have hlt := above_lt (n := n) hj (by simpa using oa rfl (.inr rfl))
    simp only [Int.toNat_natCast] at hwu ru rv hlt
    refine ⟨fun _ => ⟨⟨ho', hl', hk', hri', fun a ha => (hss a ha).trans (hsame a ha), ?_, ?_, fun h => by simp at h, fun h => by simp at h⟩, ?_⟩, fun h => by simp at h⟩
    · simp only [Int.toNat_natCast]
      rw [hss j hj, hwu, ru]
    · simp only [Int.toNat_natCast]
      rw [hss z hz, rv]
    · simp [left]
      omega
  · have hfu := fu (by omega)
    simp only [stepL, if_neg Bool.false_ne_true, if_true, show ((4 : Int) = 1) = False by simp, show ((4 : Int) = 2) = False by simp, show ((4 : Int) = 3) = False by simp, if_false] at ho' hl' hk' hri' ⊢
    split
    · rename_i he
      rw [if_pos he] at hk'
      have hfx : rootN up (v).toNat = (v).toNat := by
        obtain ⟨i, rfl, hi⟩ := in_nat v0
        rw [at_nat] at he
        rw [Int.toNat_natCast]
        exact fix_root ho (by omega) he
      have := way_second (t := ⟨k, x, y, 4, u, v, at_ up v, r, false, res⟩) ho hl hsame hk' (k2 (by omega)) u0 v0 rfl ru rv hfu hfx
      exact ⟨fun h => ⟨(this.1 h).1, Nat.le_trans (Nat.add_le_add_right (this.1 h).2 1) (by simp [left])⟩, this.2⟩
    · rename_i he
      rw [if_neg he] at hk' hri'
      exact ⟨fun _ => ⟨⟨ho, hl, hk', hri', hsame, ru, rv, fun _ => hfu, fun h => by simp at h⟩, by simp [left]⟩, fun h => by simp at h⟩
  · have w1 := w0 (by omega)
    have hfu := fu (by omega)
    have hwv := rc rfl (.inl rfl)
    simp only [stepL, if_neg Bool.false_ne_true, if_true, show ((5 : Int) = 1) = False by simp, show ((5 : Int) = 2) = False by simp, show ((5 : Int) = 3) = False by simp, show ((5 : Int) = 4) = False by simp, if_false] at ho' hl' hk' hri' ⊢
    split
    · rename_i he
      rw [if_pos he] at hk'
      have hfx : rootN up (w).toNat = (w).toNat := by
        obtain ⟨i, rfl, hi⟩ := in_nat w1
        rw [at_nat] at he
        rw [Int.toNat_natCast]
        exact fix_root ho (by omega) he
      have := way_second (t := ⟨k, x, y, 5, u, w, w, at_ up w, false, res⟩) ho hl hsame hk' (k2 (by omega)) u0 w1 rfl ru (hwv.trans rv) hfu hfx
      exact ⟨fun h => ⟨(this.1 h).1, Nat.le_trans (Nat.add_le_add_right (this.1 h).2 1) (by simp [left])⟩, this.2⟩
    · rename_i he
      rw [if_neg he] at hk' hri'
      exact ⟨fun _ => ⟨⟨ho, hl, hk', hri', hsame, ru, rv, fun _ => hfu, fun h => by simp at h⟩, by simp [left]⟩, fun h => by simp at h⟩
  · have w1 := w0 (by omega)
    have r1 := r0 (by omega)
    have hfu := fu (by omega)
    have hss := swap_same ho (by rw [hl]; exact v0) (by rw [hl]; exact w1) (by rw [hl]; exact r1) (oc rfl (.inr rfl)) (od rfl rfl) (rd rfl rfl)
    rw [hl] at hss
    have hwv := rc rfl (.inr rfl)
    simp only [stepL, if_neg Bool.false_ne_true, if_true, show ((6 : Int) = 1) = False by simp, show ((6 : Int) = 2) = False by simp, show ((6 : Int) = 3) = False by simp, show ((6 : Int) = 4) = False by simp, show ((6 : Int) = 5) = False by simp, if_false] at ho' hl' hk' hri' ⊢
    obtain ⟨j, rfl, hj⟩ := in_nat w1
    obtain ⟨i, rfl, hi⟩ := in_nat u0
    obtain ⟨z, rfl, hz⟩ := in_nat v0
    have hlt := above_lt (n := n) hj (by simpa using oc rfl (.inr rfl))
    simp only [Int.toNat_natCast] at hwv ru rv hlt hfu
    refine ⟨fun _ => ⟨⟨ho', hl', hk', hri', fun a ha => (hss a ha).trans (hsame a ha), ?_, ?_, fun _ => ?_, fun h => by simp at h⟩, ?_⟩, fun h => by simp at h⟩
    · simp only [Int.toNat_natCast]
      rw [hss i hi, ru]
    · simp only [Int.toNat_natCast]
      rw [hss j hj, hwv, rv]
    · simp only [Int.toNat_natCast]
      rw [hss i hi, hfu]
    · simp [left]
      omega
  · have hfu := fu (by omega)
    have hfv := fv (by omega)
    have hne := oe rfl (.inl rfl)
    have hk := k7 rfl
    obtain ⟨i, rfl, hi⟩ := in_nat u0
    obtain ⟨j, rfl, hj⟩ := in_nat v0
    simp only [Int.toNat_natCast] at ru rv hfu hfv
    have he : at_ up (i : Int) = (i : Int) := by
      rw [at_nat]
      exact is_fix ho (by omega) hfu
    have hxy : X ≠ Y := by
      rw [← ru, ← rv, hfu, hfv]
      intro e
      exact hne (by rw [e])
    simp only [stepL, if_neg Bool.false_ne_true, if_true, show ((7 : Int) = 1) = False by simp, show ((7 : Int) = 2) = False by simp, show ((7 : Int) = 3) = False by simp, show ((7 : Int) = 4) = False by simp, show ((7 : Int) = 5) = False by simp, show ((7 : Int) = 6) = False by simp, if_false]
    rw [if_pos he]
    refine ⟨fun h => by simp [finish] at h, fun _ => ⟨ho, rfl, fun h => absurd h (by show ¬ k = 1; omega), fun _ => ?_, fun h => absurd h (by show ¬ k = 3; omega), fun _ => hsame, fun h => absurd h (by show ¬ k = 3; omega)⟩⟩
    show (0 : Int) = _
    rw [if_neg hxy]
  · have hfu := fu (by omega)
    have hfv := fv (by omega)
    have hne := oe rfl (.inr rfl)
    have hk := k8 rfl
    obtain ⟨i, rfl, hi⟩ := in_nat u0
    obtain ⟨j, rfl, hj⟩ := in_nat v0
    simp only [Int.toNat_natCast] at ru rv hfu hfv
    have hij : i ≠ j := fun e => hne (by rw [e])
    have hei : at_ up (i : Int) = (i : Int) := by
      rw [at_nat]
      exact is_fix ho (by omega) hfu
    have hej : at_ up (j : Int) = (j : Int) := by
      rw [at_nat]
      exact is_fix ho (by omega) hfv
    simp only [stepL, if_neg Bool.false_ne_true, show ((8 : Int) = 1) = False by simp, show ((8 : Int) = 2) = False by simp, show ((8 : Int) = 3) = False by simp, show ((8 : Int) = 4) = False by simp, show ((8 : Int) = 5) = False by simp, show ((8 : Int) = 6) = False by simp, show ((8 : Int) = 7) = False by simp, if_false] at ho' ⊢
    split
    · rename_i hb
      exact ⟨fun h => by simp [finish] at h, fun _ => end_link ho hl (ho.set (by omega) hb) hsame hi hj hfu hfv hb hk (.inl ⟨ru.symm.trans hfu, rv.symm.trans hfv⟩)⟩
    · rename_i hb
      have hlt := (lt_total p hij).resolve_left hb
      exact ⟨fun h => by simp [finish] at h, fun _ => end_link ho hl (ho.set (by omega) hlt) hsame hj hi hfv hfu hlt hk (.inr ⟨ru.symm.trans hfu, rv.symm.trans hfv⟩)⟩
theorem way_begin {n : Nat} {p was : List Int} {k x y : Int} (ho : Ok was p) (hl : was.length = n) (hk : Keeps n p ⟨k, x, y, 1, x, y, 0, 0, false, 0⟩) : Way n p was was ⟨k, x, y, 1, x, y, 0, 0, false, 0⟩ (rootN was x.toNat) (rootN was y.toNat) :=
  ⟨ho, hl, hk, ri_none (.inr (.inl rfl)), fun _ _ => rfl, rfl, rfl, fun h => by simp at h, fun h => by simp at h⟩
theorem left_begin {n : Nat} {p : List Int} {k x y : Int} (h1 : n ≤ 16) (hx : In n x) : left p n ⟨k, x, y, 1, x, y, 0, 0, false, 0⟩ ≤ 107 := by
  obtain ⟨i, rfl, hi⟩ := in_nat hx
  have ha := above_n (p := p) hi
  simp [left]
  omega
end Go.Proofs.Ytcppmfmlafnmfaa
