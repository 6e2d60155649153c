/-
The law's function CufAll returns true for any cells, priorities, element, operation and number, and changes nothing that was there before.
-/
import Derived.Test.YtcppmfmlafnmfaaCufC
import Derived.Test.YtcppmfmlafnmfaaCufH
namespace Go.Proofs.Ytcppmfmlafnmfaa
open Go.RowKit
attribute [local go_sem ↓] Go.wp_at_zero Go.wp_at_succ
set_option maxHeartbeats 4000000 in
theorem cufAll_small (A B : Option Addr) (c d : Nat) (up p : List Int) (x k a b n : Int) (w : World) (hr : RowI w A up) (hs : RowI w B p) (h1 : up.length ≤ 100) (h2 : p.length ≤ 100) :
    Calls Try.prog 6 #[.slice A up.length c, .slice B p.length d, .int .i64 x, .agg #[.int .i64 k, .int .i64 a, .int .i64 b], .int .i64 n] w (BoolP true w) := by
  have HB := Lib.hid (Below.refl w.heap.size w)
  have HR := Lib.hid hr
  have HP := Lib.hid hs
  have q1 : decide ((100 : Int) < (up.length : Int)) = false := by simp; omega
  have q2 : decide ((100 : Int) < (p.length : Int)) = false := by simp; omega
  clear hr hs
  obtain ⟨t, ht⟩ : ∃ t, t = beginT k a b n := ⟨_, rfl⟩
  obtain ⟨ok, hok⟩ : ∃ ok, ok = beginB k a b n := ⟨_, rfl⟩
  have BG := Lib.hid (fun w => begin_any k a b n w)
  have BR := Lib.hid (fun w => rbegin_any k a b n w)
  unfold BeginP at BG
  unfold RBeginP at BR
  rw [← ht, ← hok] at BG BR
  clear ht hok
  obtain ⟨tk, tx, ty, ts, tu, tV, tw, tr, tis, tres⟩ := t
  unfold ov tv at BG
  unfold ov bv at BR
  simp only at BG BR
  obtain ⟨m, hm⟩ : ∃ m, m = mayUp up p := ⟨_, rfl⟩
  have HM := Lib.hid hm
  clear hm
  have m0 : (m != m) = false := by simp
  have m1 : (ok != ok) = false := by simp
  go_enter Try.func6, Try.ntmps6
  go_wp2_with fail
  refine (BG.out _).mono ?_
  rintro e w1 ⟨rfl, hb⟩
  have HR := Lib.hid (HR.out.kept (below_alloc (Below.refl w.heap.size w) (.cells #[.int .i64 k, .int .i64 a, .int .i64 b] 28)))
  have HP := Lib.hid (HP.out.kept (below_alloc (Below.refl w.heap.size w) (.cells #[.int .i64 k, .int .i64 a, .int .i64 b] 28)))
  have c0 := cell_kept hb (show (w.alloc (.cells #[.int .i64 k, .int .i64 a, .int .i64 b] 28)).cell? ⟨w.heap.size, 0, none⟩ = some (.int .i64 k) by go_simp)
  have c1 := cell_kept hb (show (w.alloc (.cells #[.int .i64 k, .int .i64 a, .int .i64 b] 28)).cell? ⟨w.heap.size, 1, none⟩ = some (.int .i64 a) by go_simp)
  have c2 := cell_kept hb (show (w.alloc (.cells #[.int .i64 k, .int .i64 a, .int .i64 b] 28)).cell? ⟨w.heap.size, 2, none⟩ = some (.int .i64 b) by go_simp)
  have HR := Lib.hid (HR.out.kept hb)
  have HP := Lib.hid (HP.out.kept hb)
  have hz := hb.size
  have hlt : w.heap.size < w1.heap.size := by simp at hz; omega
  have HB := Lib.hid (below_next (below_alloc HB.out _) hb (by simp))
  clear hb hz
  go_wp2_with fail
  refine (BR.out _).mono ?_
  rintro e w2 ⟨rfl, hb⟩
  have HR := Lib.hid ((HR.out.kept (below_alloc (Below.refl _ _) _)).kept hb)
  have HP := Lib.hid ((HP.out.kept (below_alloc (Below.refl _ _) _)).kept hb)
  have HB := Lib.hid (below_next (HB.out.alloc HB.out.size _) hb (HB.out.alloc HB.out.size _).size)
  have hz := hb.size
  have hlt1 : w1.heap.size < w2.heap.size := by simp at hz; omega
  have D0 := cells10 ((hb.block w1.heap.size (by simp)).trans (heap_alloc_new _ _))
  clear hb hz c0 c1 c2
  obtain ⟨c0, c1, c2, c3, c4, c5, c6, c7, c8, c9, _⟩ := D0
  cases m
  · go_wp2_with first
      | (go_at_call 19
         (with_reducible refine (may_any _ _ _ _ up p _ (HR.out.kept (by first | exact below_alloc (Below.refl _ _) _ | exact below_drewN (below_alloc (Below.refl _ _) _) _)) (HP.out.kept (by first | exact below_alloc (Below.refl _ _) _ | exact below_drewN (below_alloc (Below.refl _ _) _) _))).mono ?_)
         rintro e w' ⟨rfl, q', rfl⟩
         rw [← HM.out])
      | (go_at_call 14
         (with_reducible refine (mayr_any _ _ _ _ up p _ (HR.out.kept (by first | exact below_alloc (Below.refl _ _) _ | exact below_drewN (below_alloc (Below.refl _ _) _) _)) (HP.out.kept (by first | exact below_alloc (Below.refl _ _) _ | exact below_drewN (below_alloc (Below.refl _ _) _) _))).mono ?_)
         rintro e w' ⟨rfl, q', rfl⟩
         rw [← HM.out])
      | (go_at_call 8
         (with_reducible refine (awake_any _).mono ?_)
         rintro e w' ⟨rfl, hb⟩
         have HB := Lib.hid (below_next (below_drewN (HB.out.alloc HB.out.size _) _) hb (below_drewN (HB.out.alloc HB.out.size _) _).size)
         clear hb)
    go_ret
    exact ⟨rfl, HB.out⟩
  · have HOK := Lib.hid ((ok_iff up p).1 HM.out.symm)
    have e1 : (rootL up x == rootL up x) = true := by simp
    go_wp2_with first
      | (go_at_call 19
         (with_reducible refine (may_any _ _ _ _ up p _ (HR.out.kept (by first | exact below_alloc (Below.refl _ _) _ | exact below_drewN (below_alloc (Below.refl _ _) _) _)) (HP.out.kept (by first | exact below_alloc (Below.refl _ _) _ | exact below_drewN (below_alloc (Below.refl _ _) _) _))).mono ?_)
         rintro e w' ⟨rfl, q', rfl⟩
         rw [← HM.out])
      | (go_at_call 14
         (with_reducible refine (mayr_any _ _ _ _ up p _ (HR.out.kept (by first | exact below_alloc (Below.refl _ _) _ | exact below_drewN (below_alloc (Below.refl _ _) _) _)) (HP.out.kept (by first | exact below_alloc (Below.refl _ _) _ | exact below_drewN (below_alloc (Below.refl _ _) _) _))).mono ?_)
         rintro e w' ⟨rfl, q', rfl⟩
         rw [← HM.out])
      | (go_at_call 20
         (with_reducible refine (root_any _ _ up x _ (HR.out.kept (by first | exact below_alloc (Below.refl _ _) _ | exact below_drewN (below_alloc (Below.refl _ _) _) _))).mono ?_)
         rintro e w' ⟨rfl, q', rfl⟩)
      | (go_at_call 15
         (with_reducible refine (rroot_any _ _ up p x _ (HR.out.kept (by first | exact below_alloc (Below.refl _ _) _ | exact below_drewN (below_alloc (Below.refl _ _) _) _)) HOK.out).mono ?_)
         rintro e w' ⟨rfl, q', rfl⟩)
      | (go_at_call 8
         (with_reducible refine (awake_any _).mono ?_)
         rintro e w' ⟨rfl, hb⟩
         have HB := Lib.hid (below_next (below_drewN (HB.out.alloc HB.out.size _) _) hb (below_drewN (HB.out.alloc HB.out.size _) _).size)
         clear hb)
    go_ret
    exact ⟨rfl, HB.out⟩
set_option maxHeartbeats 2000000 in
theorem cufAll_any (A B : Option Addr) (c d : Nat) (up p : List Int) (x k a b n : Int) (w : World) (hr : RowI w A up) (hs : RowI w B p) :
    Calls Try.prog 6 #[.slice A up.length c, .slice B p.length d, .int .i64 x, .agg #[.int .i64 k, .int .i64 a, .int .i64 b], .int .i64 n] w (BoolP true w) := by
  by_cases h1 : 100 < up.length
  · have q1 : decide ((100 : Int) < (up.length : Int)) = true := by simp; omega
    clear hr hs
    go_enter Try.func6, Try.ntmps6
    go_wp2_with (go_at_call 8; refine (awake_any _).mono ?_; rintro e w1 ⟨rfl, hb⟩)
    go_ret
    exact ⟨rfl, below_next (below_alloc (Below.refl _ _) _) hb (by simp)⟩
  by_cases h2 : 100 < p.length
  · have q1 : decide ((100 : Int) < (up.length : Int)) = false := by simp; omega
    have q2 : decide ((100 : Int) < (p.length : Int)) = true := by simp; omega
    clear hr hs
    go_enter Try.func6, Try.ntmps6
    go_wp2_with (go_at_call 8; refine (awake_any _).mono ?_; rintro e w1 ⟨rfl, hb⟩)
    go_ret
    exact ⟨rfl, below_next (below_alloc (Below.refl _ _) _) hb (by simp)⟩
  exact cufAll_small A B c d up p x k a b n w hr hs (by omega) (by omega)
end Go.Proofs.Ytcppmfmlafnmfaa
