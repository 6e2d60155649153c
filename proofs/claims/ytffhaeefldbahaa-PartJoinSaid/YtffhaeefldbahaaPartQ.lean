/-
The law's function PartLe returns true for every number and three lists of bytes, long ones too; and what a caller hands over as a list of bytes is a row of bytes.
-/
import Derived.Test.YtffhaeefldbahaaPartO
import Derived.Test.YtffhaeefldbahaaPartL
namespace Go.Proofs.Ytffhaeefldbahaa
open Go.RowKit Go.ChangeShapes Go.WideShapes Go.ChangeAt Go.Joins
set_option maxHeartbeats 2000000 in
theorem partLe_any (A B C : Option Addr) (n : Nat) (la lb lc : List Int) (c d f : Nat) (w : World) (hr : RowB w A la) (hs : RowB w B lb) (ht : RowB w C lc) (hn : n ≤ 255) :
    Calls Try.prog 5 #[.int .u8 n, .slice A la.length c, .slice B lb.length d, .slice C lc.length f] w (BoolP true w) := by
  by_cases ha : 40 < la.length
  · clear hr hs ht
    go_enter Try.func5, Try.ntmps5
    go_wp2_with (go_at_call 9; refine (awake_any _).mono ?_; rintro e w1 ⟨rfl, hb⟩)
    go_ret
    exact ⟨rfl, hb⟩
  by_cases hb : 40 < lb.length
  · clear hr hs ht
    go_enter Try.func5, Try.ntmps5
    go_wp2_with (go_at_call 9; refine (awake_any _).mono ?_; rintro e w1 ⟨rfl, hb⟩)
    go_ret
    exact ⟨rfl, hb⟩
  by_cases hc : 40 < lc.length
  · clear hr hs ht
    go_enter Try.func5, Try.ntmps5
    go_wp2_with (go_at_call 9; refine (awake_any _).mono ?_; rintro e w1 ⟨rfl, hb⟩)
    go_ret
    exact ⟨rfl, hb⟩
  exact partLe_small A B C n la lb lc c d f w hr hs ht hn (by omega) (by omega) (by omega)
theorem rowB_of_trod {H : Type} {enc : TypeId × Value → H} {W : World} {base : Nat} {spare : Nat → Bool} {held : Bool} {fuel : Nat} {cs : List Value} {x : DataW H × List MemPlace}
    (h : DataW.trod enc Try.prog W base spare held fuel 22 cs = some x) : ∃ A l c, cs = [.slice A (List.length l) c] ∧ RowB W A l := by
  rcases open_ints (e := 5) (k := .u8) Try.underlying22 Try.underlying5 (by kernel_rfl) h with ⟨rfl, _⟩ | ⟨a, len, cap, zs, rfl, _, h1, h2, h3, _, h4, h5⟩
  · exact ⟨none, [], 0, rfl, Row.nil W none, fun i hi => absurd hi (by simp)⟩
  · have hl : (zs.take len).length = len := by
      rw [List.length_take, h3]
      split <;> omega
    have hz : len ≤ zs.length := by rw [List.length_take] at hl; omega
    refine ⟨some a, zs.take len, cap, by rw [hl], ⟨by rw [bytesV_length], by rw [hl]; unfold maxLen at h2; omega, fun _ => ⟨a, rfl, fun j hj => ?_⟩⟩, fun i hi => ?_⟩
    · rw [hl] at hj
      rw [h4 j (by omega), bytesV_getD _ j (by omega)]
      simp [List.getD_eq_getElem?_getD, hj]
    · have hi' : i < zs.length := by omega
      have hw := bounds_u8 (h5 (zs.getD i 0) (by rw [List.getD_eq_getElem?_getD, List.getElem?_eq_getElem hi']; exact List.getElem_mem hi'))
      rw [hl] at hi
      have e : (zs.take len).getD i 0 = zs.getD i 0 := by simp [List.getD_eq_getElem?_getD, hi]
      rw [e]
      omega
theorem open_bytes {H : Type} {enc : TypeId × Value → H} {W : World} {base b0 : Nat} {r : Reach} {spare : Nat → Bool} {held : Bool} {v : Value} {d : DataW H} {p : List MemPlace}
    (hv : Value.okWide Try.prog W r b0 22 v) (h : DataW.Trod enc Try.prog W base spare held 22 v d p) : ∃ A l c, v = .slice A (List.length l) c ∧ RowB W A l := by
  obtain ⟨a, len, cap, rfl⟩ := okWide_slice Try.underlying22 hv
  obtain ⟨fuel, hf⟩ := h
  obtain ⟨A, l, c, e, hr⟩ := rowB_of_trod hf
  simp only [Value.cells, List.cons.injEq, and_true] at e
  exact ⟨A, l, c, e, hr⟩
end Go.Proofs.Ytffhaeefldbahaa
