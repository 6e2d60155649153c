/-
The law's function DrawLists returns true for every list and place, and changes nothing that was there before; no condition.
-/
import Derived.Test.YtbfglpmoomabbaaDrawB
import Derived.Test.YtbfglpmoomabbaaInts
namespace Go.Proofs.Ytbfglpmoomabbaa
open Go.RowKit
attribute [local go_sem ↓] Go.wp_at_zero Go.wp_at_succ
theorem ints_yes (A B : Option Addr) (c d n : Nat) (l : List Int) (w : World) (hr : Row w A n (ints l)) (hs : Row w B n (ints l)) : Calls Try.prog 26 #[.slice A n c, .slice B n d] w (Yes w) :=
  (ints_any A B n n c d l l w hr hs).mono fun _ _ h => ⟨by rw [h.1]; simp, by obtain ⟨q, rfl⟩ := h.2; exact below_drewN (Below.refl _ _) q⟩
set_option maxHeartbeats 1000000 in
theorem same_yes (A B : Option Addr) (c d : Nat) (l : List Int) (x : Int) (w : World) (hr : RowI w A l) (hs : RowI w B l) :
    Calls Try.prog 20 #[.agg #[.slice A l.length c, .int .i64 x], .agg #[.slice B l.length d, .int .i64 x]] w (Yes w) := by
  have hb := below_alloc (below_alloc (Below.refl w.heap.size w) (.cells #[.slice A l.length c, .int .i64 x] 39)) (.cells #[.slice B l.length d, .int .i64 x] 39)
  have HR := Lib.hid (hr.kept hb)
  have HS := Lib.hid (hs.kept hb)
  have HB := Lib.hid hb
  clear hr hs hb
  go_enter Try.func20, Try.ntmps20
  go_wp2_with (go_at_call 26; refine (ints_yes A B c d l.length l _ HR.out HS.out).mono ?_; rintro e w1 ⟨rfl, hb⟩)
  go_ret
  exact ⟨rfl, below_next HB.out hb (by simp; omega)⟩
theorem five_row (w : World) : RowI (w.alloc (.cells #[.int .i64 5] 3)) (some ⟨w.heap.size, 0, none⟩) [5] :=
  ⟨rfl, by simp, fun _ => ⟨_, rfl, fun j hj => by
    obtain rfl : j = 0 := by simp at hj; exact hj
    rw [add_plain]
    simp [World.cell?_alloc_at, ints]⟩⟩
theorem next_five (w : World) : Calls Try.prog 19 #[.agg #[.slice (some ⟨w.heap.size, 0, none⟩) 1 1, .int .i64 0]] (w.alloc (.cells #[.int .i64 5] 3)) fun e w' => e = .returned (.tuple #[.int .i64 5, .agg #[.slice (some ⟨w.heap.size, 0, none⟩) 1 1, .int .i64 1]]) ∧ Below w.heap.size w w' :=
  (next_any (some ⟨w.heap.size, 0, none⟩) [5] 1 0 _ (five_row w)).mono fun _ _ h => ⟨by rw [h.1]; rfl, below_next (below_alloc (Below.refl _ _) _) h.2 (by simp)⟩
set_option maxHeartbeats 1000000 in
theorem dawake_any (w : World) : Calls Try.prog 18 #[] w (Yes w) := by
  go_enter Try.func18, Try.ntmps18
  go_wp2_with (go_at_call 19; refine (next_five w).mono ?_; rintro e w1 ⟨rfl, hb⟩)
  go_ret
  exact ⟨rfl, hb.alloc hb.size _⟩
def NextIs (A : Option Addr) (l : List Int) (c : Nat) (n y : Int) (w : World) (e : Ending) (w' : World) : Prop := e = .returned (.tuple #[.int .i64 n, .agg #[.slice A l.length c, .int .i64 y]]) ∧ Below w.heap.size w w'
theorem next_is (A : Option Addr) (l : List Int) (c : Nat) (x n y : Int) (w : World) (hr : RowI w A l) (h1 : nextN l x = n) (h2 : nextAt x = y) : Calls Try.prog 19 #[.agg #[.slice A l.length c, .int .i64 x]] w (NextIs A l c n y w) :=
  (next_any A l c x w hr).mono fun _ _ h => ⟨by rw [h.1, h1, h2], h.2⟩
set_option maxHeartbeats 1000000 in
theorem drawLists_any (A : Option Addr) (l : List Int) (c : Nat) (x : Int) (w : World) (hr : RowI w A l) : Calls Try.prog 7 #[.slice A l.length c, .int .i64 x] w (Yes w) := by
  have HL := Lib.hid hr.2.1
  by_cases h0 : 100 < l.length
  · have h0' := HL.out
    go_enter Try.func7, Try.ntmps7
    go_wp2_with (go_at_call 18; refine (dawake_any _).mono ?_; rintro e w1 ⟨rfl, hb⟩)
    go_ret
    exact ⟨rfl, hb⟩
  · by_cases h1 : x < 0
    · have HN := Lib.hid (nextN_out (l := l) (x := x) (.inl h1))
      have HA := Lib.hid (nextAt_out (x := x) (.inl h1))
      have HR := Lib.hid hr
      clear hr
      go_enter Try.func7, Try.ntmps7
      go_wp2_with fail
      refine (next_is A l c x 0 x w HR.out HN.out HA.out).mono ?_
      rintro e w1 ⟨rfl, hb⟩
      have HB := Lib.hid (below_alloc hb (.cells #[.slice A l.length c, .int .i64 x] 39))
      clear hb
      go_wp2_with fail
      refine (same_yes A A c c l x _ (HR.out.kept HB.out) (HR.out.kept HB.out)).mono ?_
      rintro e w2 ⟨rfl, hb⟩
      have HB := Lib.hid (below_next HB.out hb (by have := HB.out.size; omega))
      clear hb
      go_wp2_with fail
      refine (dawake_any _).mono ?_
      rintro e w3 ⟨rfl, hb⟩
      have HB := Lib.hid (below_next HB.out hb (by have := HB.out.size; omega))
      clear hb
      go_wp2
      go_ret
      exact ⟨rfl, HB.out⟩
    · by_cases h2 : 2147483648 < x
      · have HN := Lib.hid (nextN_out (l := l) (x := x) (.inr h2))
        have HA := Lib.hid (nextAt_out (x := x) (.inr h2))
        have HR := Lib.hid hr
        clear hr
        go_enter Try.func7, Try.ntmps7
        go_wp2_with fail
        refine (next_is A l c x 0 x w HR.out HN.out HA.out).mono ?_
        rintro e w1 ⟨rfl, hb⟩
        have HB := Lib.hid (below_alloc hb (.cells #[.slice A l.length c, .int .i64 x] 39))
        clear hb
        go_wp2_with fail
        refine (same_yes A A c c l x _ (HR.out.kept HB.out) (HR.out.kept HB.out)).mono ?_
        rintro e w2 ⟨rfl, hb⟩
        have HB := Lib.hid (below_next HB.out hb (by have := HB.out.size; omega))
        clear hb
        go_wp2_with fail
        refine (dawake_any _).mono ?_
        rintro e w3 ⟨rfl, hb⟩
        have HB := Lib.hid (below_next HB.out hb (by have := HB.out.size; omega))
        clear hb
        go_wp2
        go_ret
        exact ⟨rfl, HB.out⟩
      · have HA := Lib.hid (nextAt_in (x := x) h1 h2)
        have HR := Lib.hid hr
        by_cases h3 : x < l.length
        · have HN := Lib.hid (nextN_in h1 h2 h3)
          obtain ⟨ad, rfl, hc⟩ := hr.at_int x (by omega) h3
          obtain ⟨z, hz⟩ : ∃ z, z = l.getD x.toNat 0 := ⟨_, rfl⟩
          rw [← hz] at hc HN
          have ha := and_i64 z
          clear hr hz
          go_enter Try.func7, Try.ntmps7
          go_wp2_with fail
          refine (next_is (some ad) l c x (low z) (x + 1) w HR.out HN.out HA.out).mono ?_
          rintro e w1 ⟨rfl, hb⟩
          have hc := cell_alloc (cell_kept hb hc) (.cells #[.slice (some ad) l.length c, .int .i64 (x + 1)] 39)
          have HB := Lib.hid (below_alloc hb (.cells #[.slice (some ad) l.length c, .int .i64 (x + 1)] 39))
          clear hb
          go_wp2_with fail
          refine (dawake_any _).mono ?_
          rintro e w3 ⟨rfl, hb⟩
          have HB := Lib.hid (below_next HB.out hb (by have := HB.out.size; omega))
          clear hb
          go_wp2
          go_ret
          exact ⟨rfl, HB.out⟩
        · have HN := Lib.hid (nextN_far (l := l) h1 h2 h3)
          have hm := mixV_range x
          have hm0 := hm.1
          have hm1 := hm.2
          clear hr hm
          go_enter Try.func7, Try.ntmps7
          go_wp2_with fail
          refine (next_is A l c x (mixV x) (x + 1) w HR.out HN.out HA.out).mono ?_
          rintro e w1 ⟨rfl, hb⟩
          have HB := Lib.hid (below_alloc hb (.cells #[.slice A l.length c, .int .i64 (x + 1)] 39))
          clear hb
          go_wp2_with fail
          refine (mix_any _ _).mono ?_
          rintro e w2 ⟨rfl, rfl⟩
          go_wp2_with fail
          refine (dawake_any _).mono ?_
          rintro e w3 ⟨rfl, hb⟩
          have HB := Lib.hid (below_next HB.out hb (by have := HB.out.size; omega))
          clear hb
          go_wp2
          go_ret
          exact ⟨rfl, HB.out⟩
end Go.Proofs.Ytbfglpmoomabbaa
