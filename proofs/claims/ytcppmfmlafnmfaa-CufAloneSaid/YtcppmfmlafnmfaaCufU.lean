/-
Roots under one step: a split leaves every root, a link sends one root to another; what had one root has one. Plain law; condition: the cells may be, the task is fit, in order, and its elements have one root.
-/
import Derived.Test.YtcppmfmlafnmfaaCufN
namespace Go.Proofs.Ytcppmfmlafnmfaa
open Go.RowKit
theorem above_ind {p : List Int} {n : Nat} {M : Nat → Prop} (h : ∀ x, x < n → (∀ y, y < n → LT p x y → M y) → M x) : ∀ x, x < n → M x := by
  have key : ∀ k x, x < n → above p n x ≤ k → M x := by
    intro k
    induction k with
    | zero =>
      intro x hx ha
      exact h x hx (fun y hy hl => by have := above_lt hy hl; omega)
    | succ k ih =>
      intro x hx ha
      exact h x hx (fun y hy hl => ih y hy (by have := above_lt hy hl; omega))
  exact fun x hx => key _ x hx (Nat.le_refl _)
theorem step_getD {up p : List Int} (h : Ok up p) {c : Nat} (hc : c < up.length) : up.getD c 0 = (stepUp up c : Int) := (h.step hc).1
theorem stepUp_of {up p : List Int} (h : Ok up p) {c y : Nat} (hc : c < up.length) (e : up.getD c 0 = (y : Int)) : stepUp up c = y := by
  have := step_getD h hc
  rw [e] at this
  omega
/-- the root lies not below -/
theorem root_above {up p : List Int} (h : Ok up p) : ∀ x, x < up.length → (rootN up x = x ∨ LT p x (rootN up x)) :=
  above_ind (p := p) (fun x hx ih => by
    rcases (h.step hx).2 with e | e
    · exact .inl (root_of_fix e)
    · rw [← root_up h hx]
      rcases ih _ (stepUp_lt hx) e with e2 | e2
      · rw [e2]
        exact .inr e
      · exact .inr (lt_trans e e2))
/-- splitting: a cell that is no root points to one further up: every root stays -/
theorem root_split {up p : List Int} (h : Ok up p) {u w r : Nat} (hu : u < up.length) (hr : r < up.length) (he : up.getD u 0 = (w : Int)) (h1 : LT p u w) (h2 : LT p w r) (hroot : rootN up r = rootN up w) :
    ∀ x, x < up.length → rootN (up.set u (r : Int)) x = rootN up x := by
  have ho := h.set hr (lt_trans h1 h2)
  have hl : (up.set u (r : Int)).length = up.length := by simp
  have hw : stepUp up u = w := stepUp_of h hu he
  refine above_ind (p := p) (fun x hx ih => ?_)
  have hx' : x < (up.set u (r : Int)).length := by omega
  by_cases e : u = x
  · subst e
    have hs : stepUp (up.set u (r : Int)) u = r := stepUp_of ho hx' (by rw [getD_set _ _ _ _ hu, if_pos rfl])
    rw [← root_up ho hx', hs, ih r hr (lt_trans h1 h2), hroot, ← hw, root_up h hu]
  · have hs : stepUp (up.set u (r : Int)) x = stepUp up x := stepUp_of ho hx' (by rw [getD_set _ _ _ _ hx, if_neg e]; exact step_getD h hx)
    rcases (h.step hx).2 with f | f
    · rw [root_of_fix f, root_of_fix (by rw [hs]; exact f)]
    · rw [← root_up ho hx', hs, ih _ (stepUp_lt hx) f, root_up h hx]
/-- linking: a root points to one above: its class goes there, all others stay -/
theorem root_link {up p : List Int} (h : Ok up p) {a b : Nat} (ha : a < up.length) (hb : b < up.length) (he : up.getD a 0 = (a : Int)) (h1 : LT p a b) :
    ∀ x, x < up.length → rootN (up.set a (b : Int)) x = if rootN up x = a then rootN up b else rootN up x := by
  have ho := h.set hb h1
  have hl : (up.set a (b : Int)).length = up.length := by simp
  have hfix : stepUp up a = a := stepUp_of h ha he
  have hra : rootN up a = a := root_of_fix hfix
  have hrb : rootN up b ≠ a := by
    intro e
    rcases root_above h b hb with f | f
    · rw [e] at f
      rw [← f] at h1
      exact lt_irrefl p _ h1
    · rw [e] at f
      exact lt_asymm h1 f
  refine above_ind (p := p) (fun x hx ih => ?_)
  have hx' : x < (up.set a (b : Int)).length := by omega
  by_cases e : a = x
  · subst e
    have hs : stepUp (up.set a (b : Int)) a = b := stepUp_of ho hx' (by rw [getD_set _ _ _ _ ha, if_pos rfl])
    rw [← root_up ho hx', hs, ih b hb h1, if_neg hrb, hra, if_pos rfl]
  · have hs : stepUp (up.set a (b : Int)) x = stepUp up x := stepUp_of ho hx' (by rw [getD_set _ _ _ _ hx, if_neg e]; exact step_getD h hx)
    rcases (h.step hx).2 with f | f
    · rw [root_of_fix f, root_of_fix (by rw [hs]; exact f), if_neg (Ne.symm e)]
    · rw [← root_up ho hx', hs, ih _ (stepUp_lt hx) f, root_up h hx]
/-- what a task's elements have in common: one root -/
structure RI (up : List Int) (t : T) : Prop where
  a : t.is = false → (t.s = 2 ∨ t.s = 3) → rootN up t.w.toNat = rootN up t.u.toNat
  b : t.is = false → t.s = 3 → rootN up t.r.toNat = rootN up t.w.toNat
  c : t.is = false → (t.s = 5 ∨ t.s = 6) → rootN up t.w.toNat = rootN up t.v.toNat
  d : t.is = false → t.s = 6 → rootN up t.r.toNat = rootN up t.w.toNat
/-- every root goes somewhere: what had one root has one -/
def Goes (n : Nat) (up up' : List Int) : Prop := ∃ f : Nat → Nat, ∀ x, x < n → rootN up' x = f (rootN up x)
theorem Goes.refl (n : Nat) (up : List Int) : Goes n up up := ⟨id, fun _ _ => rfl⟩
theorem Goes.same {n : Nat} {up up' : List Int} (h : Goes n up up') {x y : Nat} (hx : x < n) (hy : y < n) (e : rootN up x = rootN up y) : rootN up' x = rootN up' y := by
  obtain ⟨f, hf⟩ := h
  rw [hf x hx, hf y hy, e]
theorem RI.goes {n : Nat} {up up' : List Int} {t : T} (h : RI up t) (hf : Fit n t) (hg : Goes n up up') : RI up' t := by
  have lt : ∀ {x : Int}, In n x → x.toNat < n := fun {x} hx => by have := hx.1; have := hx.2; omega
  refine ⟨fun h1 h2 => hg.same (lt (hf.w0 (by omega))) (lt hf.u0) (h.a h1 h2), fun h1 h2 => hg.same (lt (hf.r0 (by omega))) (lt (hf.w0 (by omega))) (h.b h1 h2),
    fun h1 h2 => hg.same (lt (hf.w0 (by omega))) (lt hf.v0) (h.c h1 h2), fun h1 h2 => hg.same (lt (hf.r0 (by omega))) (lt (hf.w0 (by omega))) (h.d h1 h2)⟩
end Go.Proofs.Ytcppmfmlafnmfaa
