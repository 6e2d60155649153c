/-
The way up in cells that may be: it goes up strictly, ends at a root, and within as many steps as there are cells. Plain law, no condition but that the cells may be.
-/
import Derived.Test.YtcppmfmlafnmfaaCufA
namespace Go.Proofs.Ytcppmfmlafnmfaa
open Go.RowKit
def LT (p : List Int) (x y : Nat) : Prop := belowB p x y = true
theorem lt_iff (p : List Int) (x y : Nat) : LT p x y ↔ (p.getD x 0 < p.getD y 0 ∨ (p.getD x 0 = p.getD y 0 ∧ x < y)) := by
  simp [LT, belowB, lowB]
theorem lt_irrefl (p : List Int) (x : Nat) : ¬ LT p x x := by
  rw [lt_iff]
  omega
theorem lt_trans {p : List Int} {x y z : Nat} (h1 : LT p x y) (h2 : LT p y z) : LT p x z := by
  rw [lt_iff] at *
  omega
theorem lt_total (p : List Int) {x y : Nat} (h : x ≠ y) : LT p x y ∨ LT p y x := by
  simp only [lt_iff]
  omega
theorem lt_asymm {p : List Int} {x y : Nat} (h1 : LT p x y) (h2 : LT p y x) : False := lt_irrefl p x (lt_trans h1 h2)
theorem countP_le {q r : Nat → Bool} : ∀ (l : List Nat), (∀ z ∈ l, q z = true → r z = true) → l.countP q ≤ l.countP r
  | [], _ => by simp
  | z :: l, h => by
    have ih := countP_le l (fun y hy => h y (by simp [hy]))
    have h0 := h z (by simp)
    rw [List.countP_cons, List.countP_cons]
    by_cases e : q z = true
    · rw [if_pos e, if_pos (h0 e)]; omega
    · rw [if_neg e]
      split <;> omega
theorem countP_lt {q r : Nat → Bool} : ∀ (l : List Nat) (y : Nat), y ∈ l → q y = false → r y = true → (∀ z ∈ l, q z = true → r z = true) → l.countP q < l.countP r
  | [], _, h, _, _, _ => absurd h (by simp)
  | z :: l, y, hy, h1, h2, h => by
    rw [List.countP_cons, List.countP_cons]
    rcases List.mem_cons.1 hy with rfl | hy'
    · have := countP_le l (fun y hy => h y (by simp [hy]))
      simp only [h1, h2, if_true]
      simp
      omega
    · have ih := countP_lt l y hy' h1 h2 (fun y hy => h y (by simp [hy]))
      have h0 := h z (by simp)
      by_cases e : q z = true
      · rw [if_pos e, if_pos (h0 e)]; omega
      · rw [if_neg e]
        split <;> omega
/-- how many are above -/
def above (p : List Int) (n x : Nat) : Nat := (List.range n).countP fun (z : Nat) => belowB p x z
theorem above_lt {p : List Int} {n x y : Nat} (hy : y < n) (h : LT p x y) : above p n y < above p n x :=
  countP_lt (List.range n) y (by simpa using hy) (by have := lt_irrefl p y; unfold LT at this; simpa using this) h (fun _ _ hz => lt_trans h hz)
theorem above_n {p : List Int} {n x : Nat} (hx : x < n) : above p n x < n := by
  have h := countP_lt (q := fun (z : Nat) => belowB p x z) (r := fun _ => true) (List.range n) x (by simpa using hx) (by have := lt_irrefl p x; unfold LT at this; simpa using this) rfl (fun _ _ _ => rfl)
  have e : (List.range n).countP (fun _ => true) = n := by simp
  rw [e] at h
  exact h
def stepUp (up : List Int) (c : Nat) : Nat := if up.getD c 0 ≠ c ∧ 0 ≤ up.getD c 0 ∧ up.getD c 0 < up.length then (up.getD c 0).toNat else c
def climb (up : List Int) : Nat → Nat → Nat
  | 0, c => c
  | k + 1, c => climb up k (stepUp up c)
def rootN (up : List Int) (c : Nat) : Nat := climb up up.length c
def rootL (up : List Int) (x : Int) : Int := if thereB up.length x then (rootN up x.toNat : Int) else -1
theorem rootL_nat (up : List Int) (x : Nat) (h : x < up.length) : rootL up x = rootN up x := by simp [rootL, thereB, h]
theorem stepUp_lt {up : List Int} {c : Nat} (h : c < up.length) : stepUp up c < up.length := by unfold stepUp; split <;> omega
/-! ### cells that may be -/
def Ok (up p : List Int) : Prop := up.length = p.length ∧ up.length ≤ 65536 ∧ ∀ j, j < up.length → ∃ y : Nat, up.getD j 0 = y ∧ y < up.length ∧ (y = j ∨ LT p j y)
theorem ok_iff (up p : List Int) : mayUp up p = true ↔ Ok up p := by
  rw [mayUp_iff]
  unfold Ok
  constructor
  · rintro ⟨h1, h2, h3⟩
    refine ⟨h1, h2, fun j hj => ?_⟩
    have := (goodUp_iff _ _ _).1 (h3 j hj)
    obtain ⟨y, hy⟩ := Int.eq_ofNat_of_zero_le this.1
    rw [hy] at this
    refine ⟨y, hy, by omega, ?_⟩
    rcases this.2.2 with h | h
    · exact .inl (by omega)
    · exact .inr h
  · rintro ⟨h1, h2, h3⟩
    refine ⟨h1, h2, fun j hj => (goodUp_iff _ _ _).2 ?_⟩
    obtain ⟨y, hy, h4, h5⟩ := h3 j hj
    rw [hy]
    refine ⟨by omega, by omega, ?_⟩
    rcases h5 with h | h
    · exact .inl (by omega)
    · exact .inr h
theorem Ok.step {up p : List Int} (h : Ok up p) {c : Nat} (hc : c < up.length) : up.getD c 0 = stepUp up c ∧ (stepUp up c = c ∨ LT p c (stepUp up c)) := by
  obtain ⟨y, hy, h1, h2⟩ := h.2.2 c hc
  unfold stepUp
  rw [hy]
  by_cases e : (y : Int) = c
  · rw [if_neg (by omega)]
    exact ⟨e, .inl rfl⟩
  · rw [if_pos (by omega)]
    refine ⟨by simp, ?_⟩
    simp only [Int.toNat_natCast]
    rcases h2 with h2 | h2
    · omega
    · exact .inr h2
theorem climb_fix {up : List Int} {c : Nat} (h : stepUp up c = c) : ∀ k, climb up k c = c
  | 0 => rfl
  | k + 1 => by rw [climb, h, climb_fix h k]
theorem climb_lt {up : List Int} : ∀ (k : Nat) {c : Nat}, c < up.length → climb up k c < up.length
  | 0, _, h => h
  | k + 1, _, h => climb_lt k (stepUp_lt h)
theorem climb_ends {up p : List Int} (h : Ok up p) : ∀ (k : Nat) {c : Nat}, c < up.length → above p up.length c ≤ k → stepUp up (climb up k c) = climb up k c
  | 0, c, hc, ha => by
    rcases (h.step hc).2 with e | e
    · exact e
    · have := above_lt (stepUp_lt hc) e
      omega
  | k + 1, c, hc, ha => by
    rcases (h.step hc).2 with e | e
    · rw [climb_fix e]; exact e
    · rw [climb]
      exact climb_ends h k (stepUp_lt hc) (by have := above_lt (stepUp_lt hc) e; omega)
theorem root_fix {up p : List Int} (h : Ok up p) {c : Nat} (hc : c < up.length) : stepUp up (rootN up c) = rootN up c :=
  climb_ends h _ hc (Nat.le_of_lt (above_n hc))
theorem climb_succ (up : List Int) : ∀ (k c : Nat), climb up (k + 1) c = stepUp up (climb up k c)
  | 0, _ => rfl
  | k + 1, c => by rw [climb, climb_succ up k, climb]
theorem root_up {up p : List Int} (h : Ok up p) {c : Nat} (hc : c < up.length) : rootN up (stepUp up c) = rootN up c := by
  have : climb up (up.length + 1) c = rootN up c := by rw [climb_succ]; exact root_fix h hc
  rw [← this]
  rfl
theorem root_of_fix {up : List Int} {c : Nat} (h : stepUp up c = c) : rootN up c = c := climb_fix h _
theorem root_lt {up : List Int} {c : Nat} (hc : c < up.length) : rootN up c < up.length := climb_lt _ hc
theorem root_root {up p : List Int} (h : Ok up p) {c : Nat} (hc : c < up.length) : rootN up (rootN up c) = rootN up c := root_of_fix (root_fix h hc)
end Go.Proofs.Ytcppmfmlafnmfaa
