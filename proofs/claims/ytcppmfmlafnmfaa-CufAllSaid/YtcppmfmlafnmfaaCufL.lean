/-
What a law's caller hands over as a list of whole numbers is a row of cells that is read.
-/
import Derived.Test.YtcppmfmlafnmfaaCufA
import Derived.OpenShut
import Derived.ChangeOld
import Derived.ChangeSlices
import Derived.WideShapes
import Derived.SizedLaws
import Derived.Lib.SmallJoins
namespace Go.Proofs.Ytcppmfmlafnmfaa
open Go.RowKit Go.ChangeShapes Go.WideShapes Go.ChangeAt Go.Joins
theorem rowI_of_trod {H : Type} {enc : TypeId × Value → H} {W : World} {base : Nat} {spare : Nat → Bool} {held : Bool} {fuel : Nat} {cs : List Value} {x : DataW H × List MemPlace}
    (h : DataW.trod enc Try.prog W base spare held fuel 24 cs = some x) : ∃ A l c, cs = [.slice A (List.length l) c] ∧ RowI W A l := by
  rcases open_ints (e := 3) (k := .i64) Try.underlying24 Try.underlying3 (by kernel_rfl) h with ⟨rfl, _⟩ | ⟨a, len, cap, zs, rfl, _, h1, h2, h3, _, h4, _⟩
  · exact ⟨none, [], 0, rfl, Row.nil W none⟩
  · have hl : (zs.take len).length = len := by
      rw [List.length_take, h3]
      split <;> omega
    refine ⟨some a, zs.take len, cap, by rw [hl], by rw [ints_length], by rw [hl]; unfold maxLen at h2; omega, fun _ => ⟨a, rfl, fun j hj => ?_⟩⟩
    rw [hl] at hj
    have hz : len ≤ zs.length := by rw [List.length_take] at hl; omega
    rw [h4 j (by omega), ints_getD _ j (by omega)]
    simp [List.getD_eq_getElem?_getD, hj]
theorem open_row {H : Type} {enc : TypeId × Value → H} {W : World} {base b0 : Nat} {r : Reach} {spare : Nat → Bool} {held : Bool} {v : Value} {d : DataW H} {p : List MemPlace}
    (hv : Value.okWide Try.prog W r b0 24 v) (h : DataW.Trod enc Try.prog W base spare held 24 v d p) : ∃ A l c, v = .slice A (List.length l) c ∧ RowI W A l := by
  obtain ⟨a, len, cap, rfl⟩ := okWide_slice Try.underlying24 hv
  obtain ⟨fuel, hf⟩ := h
  obtain ⟨A, l, c, e, hr⟩ := rowI_of_trod hf
  simp only [Value.cells, List.cons.injEq, and_true] at e
  exact ⟨A, l, c, e, hr⟩
end Go.Proofs.Ytcppmfmlafnmfaa
