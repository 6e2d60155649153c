/-
The reference's comparison of two lists: it returns whether they are one; no condition beside the lists' lengths.
-/
import Derived.Test.YtcppmfmlafnmfaaLib
namespace Go.Proofs.Ytcppmfmlafnmfaa
open Go.RowKit
attribute [local go_sem ↓] Go.wp_at_zero Go.wp_at_succ
theorem getD_ext {l m : List Int} (hl : l.length = m.length) (h : ∀ j, j < l.length → l.getD j 0 = m.getD j 0) : l = m := by
  apply List.ext_getElem hl
  intro j h1 h2
  have := h j h1
  simpa [List.getD_eq_getElem?_getD, List.getElem?_eq_getElem h1, List.getElem?_eq_getElem h2] using this
def IntsP (l m : List Int) (w : World) (e : Ending) (w' : World) : Prop := e = .returned (.bool (decide (l = m))) ∧ ∃ n, w' = w.drewN n
set_option maxHeartbeats 1000000 in
theorem ints_any (A B : Option Addr) (n n' c d : Nat) (l m : List Int) (w : World) (hr : Row w A n (ints l)) (hs : Row w B n' (ints m)) :
    Calls Try.prog 18 #[.slice A n c, .slice B n' d] w (IntsP l m w) := by
  have hl : l.length = n := by have := hr.1; rwa [ints_length] at this
  have hm : m.length = n' := by have := hs.1; rwa [ints_length] at this
  have hb := hr.2.1
  by_cases hn : n = n'
  · subst hn
    have HL := Lib.hid hl
    have HM := Lib.hid hm
    have HR := Lib.hid hr
    have HS := Lib.hid hs
    clear hl hm hr hs
    go_enter Try.func18, Try.ntmps18
    go_wp2
    go_loopw [5] (fun i wr => ∃ (k q : Nat), k ≤ n ∧ i = .int .i64 k ∧ wr = w.drewN q ∧ (∀ j, j < k → l.getD j 0 = m.getD j 0)) (fun i _ => n - (intOf i).toNat)
    case atStart => exact ⟨0, 0, by omega, rfl, rfl, fun j hj => absurd hj (by omega)⟩
    case round =>
      obtain ⟨k, q, hk, rfl, rfl, hall⟩ := hrel
      have HA := Lib.hid hall
      clear hall
      by_cases hlt : k < n
      · obtain ⟨ad, rfl, hc⟩ := HR.out.at_nat k hlt
        obtain ⟨bd, rfl, hd⟩ := HS.out.at_nat k hlt
        rw [ints_getD l k (by rw [HL.out]; exact hlt)] at hc
        rw [ints_getD m k (by rw [HM.out]; exact hlt)] at hd
        obtain ⟨x, hx⟩ : ∃ x, x = l.getD k 0 := ⟨_, rfl⟩
        obtain ⟨y, hy⟩ : ∃ y, y = m.getD k 0 := ⟨_, rfl⟩
        rw [← hx] at hc
        rw [← hy] at hd
        have HX := Lib.hid hx
        have HY := Lib.hid hy
        clear hx hy
        have p1 : (0 : Int) ≤ (k : Int) := by omega
        have p2 : (k : Int) < (n : Int) := by omega
        by_cases hxy : x = y
        · have t1 : (x != y) = false := by simp [hxy]
          have HE := Lib.hid hxy
          clear hxy
          go_wp2
          go_quiet (fail)
          go_wp2
          go_roundw
          case rel => exact ⟨k + 1, _, by omega, by go_num, (by first | rfl | exact World.drewN_drewN ..), fun j hj => by
            rcases Nat.lt_or_ge j k with h | h
            · exact HA.out j h
            · obtain rfl : j = k := by omega
              rw [← HX.out, ← HY.out, HE.out]⟩
          case measure => simp [intOf]; omega
        · have t1 : (x != y) = true := by simp [hxy]
          have HE := Lib.hid hxy
          clear hxy
          go_wp2
          go_quiet (fail)
          go_wp2
          go_ret
          exact ⟨ret_bool (by
            symm
            rw [decide_eq_false_iff_not]
            intro h
            exact HE.out (by rw [HX.out, HY.out, h])), _, by first | rfl | exact World.drewN_drewN ..⟩
      · go_wp2
        go_ret
        exact ⟨ret_bool (by
          symm
          rw [decide_eq_true_iff]
          exact getD_ext (by rw [HL.out, HM.out]) (fun j hj => HA.out j (by have := HL.out; omega))), _, rfl⟩
  · have t1 : ((n : Int) != (n' : Int)) = true := by simp; omega
    have t2 : (n != n') = true := by simp; omega
    have HE := Lib.hid (show ¬ l = m by intro h; subst h; omega)
    clear hn hl hm hr hs
    go_enter Try.func18, Try.ntmps18
    go_wp2
    go_ret
    exact ⟨ret_bool (by symm; rw [decide_eq_false_iff_not]; exact HE.out), 0, rfl⟩
end Go.Proofs.Ytcppmfmlafnmfaa
