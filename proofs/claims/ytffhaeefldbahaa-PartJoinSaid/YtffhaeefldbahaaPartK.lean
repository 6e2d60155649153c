/-
The law's function PartAll returns true for every two lists and numbers, and changes nothing that was there before.
-/
import Derived.Test.YtffhaeefldbahaaPartB
import Derived.Test.YtffhaeefldbahaaPartC
import Derived.Test.YtffhaeefldbahaaPartJ
namespace Go.Proofs.Ytffhaeefldbahaa
open Go.RowKit
attribute [local go_sem ↓] Go.wp_at_zero Go.wp_at_succ
theorem below_ex {w w' : World} (h : ∃ n, w' = w.drewN n) : Below w.heap.size w w' := by
  obtain ⟨n, rfl⟩ := h
  exact below_drewN (Below.refl _ _) n
theorem ofL_awake : ofL 3 [(0, 2)] = [0, 1, 0] := by decide +kernel
theorem pair_row (x y : Int) (w : World) : RowP (w.alloc (.cells #[.int .i64 x, .int .i64 y] 26)) (some ⟨w.heap.size, 0, none⟩) [(x, y)] :=
  ⟨rfl, by simp, fun _ => ⟨_, rfl, fun j hj => by
    rw [add_plain]
    rcases j with _ | _ | j
    · simp [World.cell?_alloc_at, cellsP]
    · simp [World.cell?_alloc_at, cellsP]
    · simp at hj; omega⟩⟩
theorem three_row (x y z : Int) (w : World) : Row (w.alloc (.cells #[.int .i64 x, .int .i64 y, .int .i64 z] 3)) (some ⟨w.heap.size, 0, none⟩) 3 (ints [x, y, z]) :=
  ⟨rfl, by simp, fun _ => ⟨_, rfl, fun j hj => by
    rw [add_plain]
    rcases j with _ | _ | _ | j
    · simp [World.cell?_alloc_at, ints]
    · simp [World.cell?_alloc_at, ints]
    · simp [World.cell?_alloc_at, ints]
    · omega⟩⟩
theorem of_awake (w : World) : Calls Try.prog 12 #[.int .i64 3, .slice (some ⟨w.heap.size, 0, none⟩) 1 1] (w.alloc (.cells #[.int .i64 0, .int .i64 2] 26)) fun e w' => ∃ B d, e = .returned (.slice B 3 d) ∧ Row w' B 3 (ints [0, 1, 0]) ∧ Below w.heap.size w w' := by
  have hb := below_alloc (Below.refl w.heap.size w) (.cells #[.int .i64 0, .int .i64 2] 26)
  refine (of_any 3 (some ⟨w.heap.size, 0, none⟩) 1 [(0, 2)] _ (pair_row 0 2 w) (by simp [In64] <;> decide +kernel)).mono fun e w' h => ?_
  obtain ⟨B, d, rfl, _, hr, h2⟩ := h
  rw [ofL_awake] at hr ⊢
  exact ⟨B, d, rfl, hr, below_next hb h2 hb.size⟩
set_option maxHeartbeats 1000000 in
theorem awake_any (w : World) : Calls Try.prog 9 #[] w (BoolP true w) := by
  go_enter Try.func9, Try.ntmps9
  go_wp2_with fail
  refine (of_awake w).mono ?_
  rintro e w1 ⟨B, d, rfl, hr, hb⟩
  have O := below_alloc (Below.refl w1.heap.size w1) (.cells #[.int .i64 0, .int .i64 1, .int .i64 0] 3)
  have HR := Lib.hid (hr.kept O)
  have HS := Lib.hid (three_row 0 1 0 w1)
  have HB := Lib.hid (below_next hb O hb.size)
  clear hr hb O
  go_wp2_with fail
  refine (ints_any B (some ⟨w1.heap.size, 0, none⟩) 3 3 d 3 [0, 1, 0] [0, 1, 0] _ HR.out HS.out).mono ?_
  rintro e w2 ⟨rfl, hq⟩
  have HB := Lib.hid (below_next HB.out (below_ex hq) HB.out.size)
  go_wp2
  go_ret
  exact ⟨ret_bool (by simp), HB.out⟩
theorem may_in {l : List Int} (h : mayB l = true) : ∀ i, i < l.length → 0 ≤ l.getD i 0 ∧ l.getD i 0 < l.length := by
  unfold mayB at h
  rw [decide_eq_true_iff] at h
  intro i hi
  have := h.1 i hi
  exact ⟨this.1, by have := this.2.1; omega⟩
theorem unite_rows (A : Option Addr) (c : Nat) (l : List Int) (x y : Int) (w : World) (hr : RowI w A l) (hl : l.length ≤ 65536) : Calls Try.prog 13 #[.slice A l.length c, .int .i64 x, .int .i64 y] w (RowsP (uniteL l x y) w) :=
  (unite_any A c l x y w hr hl).mono fun e w' h => by
    obtain ⟨v, rfl, hown, hb⟩ := h
    exact rows_of_own rfl hown hb
theorem runite_rows (A : Option Addr) (c : Nat) (l : List Int) (x y : Int) (w : World) (hr : RowI w A l) (hl : l.length ≤ 65536) : Calls Try.prog 22 #[.slice A l.length c, .int .i64 x, .int .i64 y] w (RowsP (uniteL l x y) w) :=
  (runite_any A c l x y w hr hl).mono fun e w' h => by
    obtain ⟨v, rfl, hown, hb⟩ := h
    exact rows_of_own rfl hown hb
set_option maxHeartbeats 8000000 in
theorem partAll_1 (A B : Option Addr) (l m : List Int) (c d : Nat) (x y n : Int) (w : World) (hr : RowI w A l) (hs : RowI w B m) (h1 : 100 < l.length) : Calls Try.prog 7 #[.slice A l.length c, .slice B m.length d, .int .i64 x, .int .i64 y, .int .i64 n] w (BoolP true w) := by
  have HB := Lib.hid (Below.refl w.heap.size w)
  have HR := Lib.hid hr
  have HS := Lib.hid hs
  clear hr hs
  go_enter Try.func7, Try.ntmps7
  go_wp2_with first
    | (go_at_call 19
       (with_reducible refine (may_any _ _ _ _ HR.out).mono ?_)
       rintro e w' ⟨rfl, hq⟩
       have hb := below_ex hq
       have HR := Lib.hid (HR.out.kept hb)
       have HS := Lib.hid (HS.out.kept hb)
       have HB := Lib.hid (below_next HB.out hb HB.out.size)
       clear hb)
    | (go_at_call 18
       (with_reducible refine (mayPart_any _ _ _ _ HR.out).mono ?_)
       rintro e w' ⟨rfl, hq⟩
       have hb := below_ex hq
       have HR := Lib.hid (HR.out.kept hb)
       have HS := Lib.hid (HS.out.kept hb)
       have HB := Lib.hid (below_next HB.out hb HB.out.size)
       clear hb)
    | (go_at_call 18
       (with_reducible refine (mayPart_any _ _ _ _ HS.out).mono ?_)
       rintro e w' ⟨rfl, hq⟩
       have hb := below_ex hq
       have HR := Lib.hid (HR.out.kept hb)
       have HS := Lib.hid (HS.out.kept hb)
       have HB := Lib.hid (below_next HB.out hb HB.out.size)
       clear hb)
    | (go_at_call 17
       (with_reducible refine (new_any _ _).mono ?_)
       rintro e w' ⟨P1, z1, rfl, _, hp, hb⟩
       have HN := Lib.hid hp
       clear hp
       have HR := Lib.hid (HR.out.kept hb)
       have HS := Lib.hid (HS.out.kept hb)
       have HB := Lib.hid (below_next HB.out hb HB.out.size)
       clear hb)
    | (go_at_call 20
       (with_reducible refine (rnew_any _ _).mono ?_)
       rintro e w' ⟨P2, z2, rfl, _, hp, hb⟩
       have HQ := Lib.hid hp
       clear hp
       have HR := Lib.hid (HR.out.kept hb)
       have HS := Lib.hid (HS.out.kept hb)
       have HN := Lib.hid (HN.out.kept hb)
       have HB := Lib.hid (below_next HB.out hb HB.out.size)
       clear hb)
    | (go_at_call 11
       (with_reducible refine (ints_any _ _ _ _ _ _ _ _ _ HN.out HQ.out).mono ?_)
       rintro e w' ⟨rfl, hq⟩
       have hb := below_ex hq
       clear HN HQ
       have HR := Lib.hid (HR.out.kept hb)
       have HS := Lib.hid (HS.out.kept hb)
       have HB := Lib.hid (below_next HB.out hb HB.out.size)
       clear hb)
    | (go_at_call 14
       (with_reducible refine (same_any _ _ _ _ _ _ HR.out).mono ?_)
       rintro e w' ⟨rfl, hb⟩
       have HR := Lib.hid (HR.out.kept hb)
       have HS := Lib.hid (HS.out.kept hb)
       have HB := Lib.hid (below_next HB.out hb HB.out.size)
       clear hb)
    | (go_at_call 21
       (with_reducible refine (rsame_any _ _ _ _ _ _ HR.out).mono ?_)
       rintro e w' ⟨rfl, hb⟩
       have HR := Lib.hid (HR.out.kept hb)
       have HS := Lib.hid (HS.out.kept hb)
       have HB := Lib.hid (below_next HB.out hb HB.out.size)
       clear hb)
    | (go_at_call 13
       (with_reducible refine (unite_rows _ _ _ _ _ _ HR.out (by omega)).mono ?_)
       rintro e w' ⟨P1, z1, rfl, _, hp, hb⟩
       have HU := Lib.hid hp
       clear hp
       have HR := Lib.hid (HR.out.kept hb)
       have HS := Lib.hid (HS.out.kept hb)
       have HB := Lib.hid (below_next HB.out hb HB.out.size)
       clear hb)
    | (go_at_call 22
       (with_reducible refine (runite_rows _ _ _ _ _ _ HR.out (by omega)).mono ?_)
       rintro e w' ⟨P2, z2, rfl, _, hp, hb⟩
       have HV := Lib.hid hp
       clear hp
       have HR := Lib.hid (HR.out.kept hb)
       have HS := Lib.hid (HS.out.kept hb)
       have HU := Lib.hid (HU.out.kept hb)
       have HB := Lib.hid (below_next HB.out hb HB.out.size)
       clear hb)
    | (go_at_call 11
       (with_reducible refine (ints_any _ _ _ _ _ _ _ _ _ HU.out HV.out).mono ?_)
       rintro e w' ⟨rfl, hq⟩
       have hb := below_ex hq
       clear HU HV
       have HR := Lib.hid (HR.out.kept hb)
       have HS := Lib.hid (HS.out.kept hb)
       have HB := Lib.hid (below_next HB.out hb HB.out.size)
       clear hb)
    | (go_at_call 15
       (with_reducible refine (classes_any _ _ _ _ HR.out).mono ?_)
       rintro e w' ⟨rfl, hq⟩
       have hb := below_ex hq
       have HR := Lib.hid (HR.out.kept hb)
       have HS := Lib.hid (HS.out.kept hb)
       have HB := Lib.hid (below_next HB.out hb HB.out.size)
       clear hb)
    | (go_at_call 23
       (with_reducible refine (rclasses_any _ _ _ _ HR.out).mono ?_)
       rintro e w' ⟨rfl, hq⟩
       have hb := below_ex hq
       have HR := Lib.hid (HR.out.kept hb)
       have HS := Lib.hid (HS.out.kept hb)
       have HB := Lib.hid (below_next HB.out hb HB.out.size)
       clear hb)
    | (go_at_call 16
       (with_reducible refine (le_any _ _ _ _ _ _ _ HR.out HS.out HI.out).mono ?_)
       rintro e w' ⟨rfl, hq⟩
       have hb := below_ex hq
       have HR := Lib.hid (HR.out.kept hb)
       have HS := Lib.hid (HS.out.kept hb)
       have HB := Lib.hid (below_next HB.out hb HB.out.size)
       clear hb)
    | (go_at_call 24
       (with_reducible refine (rle_any _ _ _ _ _ _ _ HR.out HS.out HI.out).mono ?_)
       rintro e w' ⟨rfl, hq⟩
       have hb := below_ex hq
       have HR := Lib.hid (HR.out.kept hb)
       have HS := Lib.hid (HS.out.kept hb)
       have HB := Lib.hid (below_next HB.out hb HB.out.size)
       clear hb)
    | (go_at_call 9
       (with_reducible refine (awake_any _).mono ?_)
       rintro e w' ⟨rfl, hb⟩
       have HR := Lib.hid (HR.out.kept hb)
       have HS := Lib.hid (HS.out.kept hb)
       have HB := Lib.hid (below_next HB.out hb HB.out.size)
       clear hb)
  go_ret
  exact ⟨rfl, HB.out⟩
set_option maxHeartbeats 8000000 in
theorem partAll_2 (A B : Option Addr) (l m : List Int) (c d : Nat) (x y n : Int) (w : World) (hr : RowI w A l) (hs : RowI w B m) (h1 : ¬ 100 < l.length) (h2 : 100 < m.length) : Calls Try.prog 7 #[.slice A l.length c, .slice B m.length d, .int .i64 x, .int .i64 y, .int .i64 n] w (BoolP true w) := by
  have HB := Lib.hid (Below.refl w.heap.size w)
  have HR := Lib.hid hr
  have HS := Lib.hid hs
  clear hr hs
  go_enter Try.func7, Try.ntmps7
  go_wp2_with first
    | (go_at_call 19
       (with_reducible refine (may_any _ _ _ _ HR.out).mono ?_)
       rintro e w' ⟨rfl, hq⟩
       have hb := below_ex hq
       have HR := Lib.hid (HR.out.kept hb)
       have HS := Lib.hid (HS.out.kept hb)
       have HB := Lib.hid (below_next HB.out hb HB.out.size)
       clear hb)
    | (go_at_call 18
       (with_reducible refine (mayPart_any _ _ _ _ HR.out).mono ?_)
       rintro e w' ⟨rfl, hq⟩
       have hb := below_ex hq
       have HR := Lib.hid (HR.out.kept hb)
       have HS := Lib.hid (HS.out.kept hb)
       have HB := Lib.hid (below_next HB.out hb HB.out.size)
       clear hb)
    | (go_at_call 18
       (with_reducible refine (mayPart_any _ _ _ _ HS.out).mono ?_)
       rintro e w' ⟨rfl, hq⟩
       have hb := below_ex hq
       have HR := Lib.hid (HR.out.kept hb)
       have HS := Lib.hid (HS.out.kept hb)
       have HB := Lib.hid (below_next HB.out hb HB.out.size)
       clear hb)
    | (go_at_call 17
       (with_reducible refine (new_any _ _).mono ?_)
       rintro e w' ⟨P1, z1, rfl, _, hp, hb⟩
       have HN := Lib.hid hp
       clear hp
       have HR := Lib.hid (HR.out.kept hb)
       have HS := Lib.hid (HS.out.kept hb)
       have HB := Lib.hid (below_next HB.out hb HB.out.size)
       clear hb)
    | (go_at_call 20
       (with_reducible refine (rnew_any _ _).mono ?_)
       rintro e w' ⟨P2, z2, rfl, _, hp, hb⟩
       have HQ := Lib.hid hp
       clear hp
       have HR := Lib.hid (HR.out.kept hb)
       have HS := Lib.hid (HS.out.kept hb)
       have HN := Lib.hid (HN.out.kept hb)
       have HB := Lib.hid (below_next HB.out hb HB.out.size)
       clear hb)
    | (go_at_call 11
       (with_reducible refine (ints_any _ _ _ _ _ _ _ _ _ HN.out HQ.out).mono ?_)
       rintro e w' ⟨rfl, hq⟩
       have hb := below_ex hq
       clear HN HQ
       have HR := Lib.hid (HR.out.kept hb)
       have HS := Lib.hid (HS.out.kept hb)
       have HB := Lib.hid (below_next HB.out hb HB.out.size)
       clear hb)
    | (go_at_call 14
       (with_reducible refine (same_any _ _ _ _ _ _ HR.out).mono ?_)
       rintro e w' ⟨rfl, hb⟩
       have HR := Lib.hid (HR.out.kept hb)
       have HS := Lib.hid (HS.out.kept hb)
       have HB := Lib.hid (below_next HB.out hb HB.out.size)
       clear hb)
    | (go_at_call 21
       (with_reducible refine (rsame_any _ _ _ _ _ _ HR.out).mono ?_)
       rintro e w' ⟨rfl, hb⟩
       have HR := Lib.hid (HR.out.kept hb)
       have HS := Lib.hid (HS.out.kept hb)
       have HB := Lib.hid (below_next HB.out hb HB.out.size)
       clear hb)
    | (go_at_call 13
       (with_reducible refine (unite_rows _ _ _ _ _ _ HR.out (by omega)).mono ?_)
       rintro e w' ⟨P1, z1, rfl, _, hp, hb⟩
       have HU := Lib.hid hp
       clear hp
       have HR := Lib.hid (HR.out.kept hb)
       have HS := Lib.hid (HS.out.kept hb)
       have HB := Lib.hid (below_next HB.out hb HB.out.size)
       clear hb)
    | (go_at_call 22
       (with_reducible refine (runite_rows _ _ _ _ _ _ HR.out (by omega)).mono ?_)
       rintro e w' ⟨P2, z2, rfl, _, hp, hb⟩
       have HV := Lib.hid hp
       clear hp
       have HR := Lib.hid (HR.out.kept hb)
       have HS := Lib.hid (HS.out.kept hb)
       have HU := Lib.hid (HU.out.kept hb)
       have HB := Lib.hid (below_next HB.out hb HB.out.size)
       clear hb)
    | (go_at_call 11
       (with_reducible refine (ints_any _ _ _ _ _ _ _ _ _ HU.out HV.out).mono ?_)
       rintro e w' ⟨rfl, hq⟩
       have hb := below_ex hq
       clear HU HV
       have HR := Lib.hid (HR.out.kept hb)
       have HS := Lib.hid (HS.out.kept hb)
       have HB := Lib.hid (below_next HB.out hb HB.out.size)
       clear hb)
    | (go_at_call 15
       (with_reducible refine (classes_any _ _ _ _ HR.out).mono ?_)
       rintro e w' ⟨rfl, hq⟩
       have hb := below_ex hq
       have HR := Lib.hid (HR.out.kept hb)
       have HS := Lib.hid (HS.out.kept hb)
       have HB := Lib.hid (below_next HB.out hb HB.out.size)
       clear hb)
    | (go_at_call 23
       (with_reducible refine (rclasses_any _ _ _ _ HR.out).mono ?_)
       rintro e w' ⟨rfl, hq⟩
       have hb := below_ex hq
       have HR := Lib.hid (HR.out.kept hb)
       have HS := Lib.hid (HS.out.kept hb)
       have HB := Lib.hid (below_next HB.out hb HB.out.size)
       clear hb)
    | (go_at_call 16
       (with_reducible refine (le_any _ _ _ _ _ _ _ HR.out HS.out HI.out).mono ?_)
       rintro e w' ⟨rfl, hq⟩
       have hb := below_ex hq
       have HR := Lib.hid (HR.out.kept hb)
       have HS := Lib.hid (HS.out.kept hb)
       have HB := Lib.hid (below_next HB.out hb HB.out.size)
       clear hb)
    | (go_at_call 24
       (with_reducible refine (rle_any _ _ _ _ _ _ _ HR.out HS.out HI.out).mono ?_)
       rintro e w' ⟨rfl, hq⟩
       have hb := below_ex hq
       have HR := Lib.hid (HR.out.kept hb)
       have HS := Lib.hid (HS.out.kept hb)
       have HB := Lib.hid (below_next HB.out hb HB.out.size)
       clear hb)
    | (go_at_call 9
       (with_reducible refine (awake_any _).mono ?_)
       rintro e w' ⟨rfl, hb⟩
       have HR := Lib.hid (HR.out.kept hb)
       have HS := Lib.hid (HS.out.kept hb)
       have HB := Lib.hid (below_next HB.out hb HB.out.size)
       clear hb)
  go_ret
  exact ⟨rfl, HB.out⟩
set_option maxHeartbeats 8000000 in
theorem partAll_3 (A B : Option Addr) (l m : List Int) (c d : Nat) (x y n : Int) (w : World) (hr : RowI w A l) (hs : RowI w B m) (h1 : ¬ 100 < l.length) (h2 : ¬ 100 < m.length) (h3 : 300 < n) : Calls Try.prog 7 #[.slice A l.length c, .slice B m.length d, .int .i64 x, .int .i64 y, .int .i64 n] w (BoolP true w) := by
  have HB := Lib.hid (Below.refl w.heap.size w)
  have HR := Lib.hid hr
  have HS := Lib.hid hs
  clear hr hs
  go_enter Try.func7, Try.ntmps7
  go_wp2_with first
    | (go_at_call 19
       (with_reducible refine (may_any _ _ _ _ HR.out).mono ?_)
       rintro e w' ⟨rfl, hq⟩
       have hb := below_ex hq
       have HR := Lib.hid (HR.out.kept hb)
       have HS := Lib.hid (HS.out.kept hb)
       have HB := Lib.hid (below_next HB.out hb HB.out.size)
       clear hb)
    | (go_at_call 18
       (with_reducible refine (mayPart_any _ _ _ _ HR.out).mono ?_)
       rintro e w' ⟨rfl, hq⟩
       have hb := below_ex hq
       have HR := Lib.hid (HR.out.kept hb)
       have HS := Lib.hid (HS.out.kept hb)
       have HB := Lib.hid (below_next HB.out hb HB.out.size)
       clear hb)
    | (go_at_call 18
       (with_reducible refine (mayPart_any _ _ _ _ HS.out).mono ?_)
       rintro e w' ⟨rfl, hq⟩
       have hb := below_ex hq
       have HR := Lib.hid (HR.out.kept hb)
       have HS := Lib.hid (HS.out.kept hb)
       have HB := Lib.hid (below_next HB.out hb HB.out.size)
       clear hb)
    | (go_at_call 17
       (with_reducible refine (new_any _ _).mono ?_)
       rintro e w' ⟨P1, z1, rfl, _, hp, hb⟩
       have HN := Lib.hid hp
       clear hp
       have HR := Lib.hid (HR.out.kept hb)
       have HS := Lib.hid (HS.out.kept hb)
       have HB := Lib.hid (below_next HB.out hb HB.out.size)
       clear hb)
    | (go_at_call 20
       (with_reducible refine (rnew_any _ _).mono ?_)
       rintro e w' ⟨P2, z2, rfl, _, hp, hb⟩
       have HQ := Lib.hid hp
       clear hp
       have HR := Lib.hid (HR.out.kept hb)
       have HS := Lib.hid (HS.out.kept hb)
       have HN := Lib.hid (HN.out.kept hb)
       have HB := Lib.hid (below_next HB.out hb HB.out.size)
       clear hb)
    | (go_at_call 11
       (with_reducible refine (ints_any _ _ _ _ _ _ _ _ _ HN.out HQ.out).mono ?_)
       rintro e w' ⟨rfl, hq⟩
       have hb := below_ex hq
       clear HN HQ
       have HR := Lib.hid (HR.out.kept hb)
       have HS := Lib.hid (HS.out.kept hb)
       have HB := Lib.hid (below_next HB.out hb HB.out.size)
       clear hb)
    | (go_at_call 14
       (with_reducible refine (same_any _ _ _ _ _ _ HR.out).mono ?_)
       rintro e w' ⟨rfl, hb⟩
       have HR := Lib.hid (HR.out.kept hb)
       have HS := Lib.hid (HS.out.kept hb)
       have HB := Lib.hid (below_next HB.out hb HB.out.size)
       clear hb)
    | (go_at_call 21
       (with_reducible refine (rsame_any _ _ _ _ _ _ HR.out).mono ?_)
       rintro e w' ⟨rfl, hb⟩
       have HR := Lib.hid (HR.out.kept hb)
       have HS := Lib.hid (HS.out.kept hb)
       have HB := Lib.hid (below_next HB.out hb HB.out.size)
       clear hb)
    | (go_at_call 13
       (with_reducible refine (unite_rows _ _ _ _ _ _ HR.out (by omega)).mono ?_)
       rintro e w' ⟨P1, z1, rfl, _, hp, hb⟩
       have HU := Lib.hid hp
       clear hp
       have HR := Lib.hid (HR.out.kept hb)
       have HS := Lib.hid (HS.out.kept hb)
       have HB := Lib.hid (below_next HB.out hb HB.out.size)
       clear hb)
    | (go_at_call 22
       (with_reducible refine (runite_rows _ _ _ _ _ _ HR.out (by omega)).mono ?_)
       rintro e w' ⟨P2, z2, rfl, _, hp, hb⟩
       have HV := Lib.hid hp
       clear hp
       have HR := Lib.hid (HR.out.kept hb)
       have HS := Lib.hid (HS.out.kept hb)
       have HU := Lib.hid (HU.out.kept hb)
       have HB := Lib.hid (below_next HB.out hb HB.out.size)
       clear hb)
    | (go_at_call 11
       (with_reducible refine (ints_any _ _ _ _ _ _ _ _ _ HU.out HV.out).mono ?_)
       rintro e w' ⟨rfl, hq⟩
       have hb := below_ex hq
       clear HU HV
       have HR := Lib.hid (HR.out.kept hb)
       have HS := Lib.hid (HS.out.kept hb)
       have HB := Lib.hid (below_next HB.out hb HB.out.size)
       clear hb)
    | (go_at_call 15
       (with_reducible refine (classes_any _ _ _ _ HR.out).mono ?_)
       rintro e w' ⟨rfl, hq⟩
       have hb := below_ex hq
       have HR := Lib.hid (HR.out.kept hb)
       have HS := Lib.hid (HS.out.kept hb)
       have HB := Lib.hid (below_next HB.out hb HB.out.size)
       clear hb)
    | (go_at_call 23
       (with_reducible refine (rclasses_any _ _ _ _ HR.out).mono ?_)
       rintro e w' ⟨rfl, hq⟩
       have hb := below_ex hq
       have HR := Lib.hid (HR.out.kept hb)
       have HS := Lib.hid (HS.out.kept hb)
       have HB := Lib.hid (below_next HB.out hb HB.out.size)
       clear hb)
    | (go_at_call 16
       (with_reducible refine (le_any _ _ _ _ _ _ _ HR.out HS.out HI.out).mono ?_)
       rintro e w' ⟨rfl, hq⟩
       have hb := below_ex hq
       have HR := Lib.hid (HR.out.kept hb)
       have HS := Lib.hid (HS.out.kept hb)
       have HB := Lib.hid (below_next HB.out hb HB.out.size)
       clear hb)
    | (go_at_call 24
       (with_reducible refine (rle_any _ _ _ _ _ _ _ HR.out HS.out HI.out).mono ?_)
       rintro e w' ⟨rfl, hq⟩
       have hb := below_ex hq
       have HR := Lib.hid (HR.out.kept hb)
       have HS := Lib.hid (HS.out.kept hb)
       have HB := Lib.hid (below_next HB.out hb HB.out.size)
       clear hb)
    | (go_at_call 9
       (with_reducible refine (awake_any _).mono ?_)
       rintro e w' ⟨rfl, hb⟩
       have HR := Lib.hid (HR.out.kept hb)
       have HS := Lib.hid (HS.out.kept hb)
       have HB := Lib.hid (below_next HB.out hb HB.out.size)
       clear hb)
  go_ret
  exact ⟨rfl, HB.out⟩
set_option maxHeartbeats 8000000 in
theorem partAll_4 (A B : Option Addr) (l m : List Int) (c d : Nat) (x y n : Int) (w : World) (hr : RowI w A l) (hs : RowI w B m) (h1 : ¬ 100 < l.length) (h2 : ¬ 100 < m.length) (h3 : ¬ 300 < n) (h4 : mayB l = false) : Calls Try.prog 7 #[.slice A l.length c, .slice B m.length d, .int .i64 x, .int .i64 y, .int .i64 n] w (BoolP true w) := by
  have HB := Lib.hid (Below.refl w.heap.size w)
  have HR := Lib.hid hr
  have HS := Lib.hid hs
  clear hr hs
  go_enter Try.func7, Try.ntmps7
  go_wp2_with first
    | (go_at_call 19
       (with_reducible refine (may_any _ _ _ _ HR.out).mono ?_)
       rintro e w' ⟨rfl, hq⟩
       have hb := below_ex hq
       have HR := Lib.hid (HR.out.kept hb)
       have HS := Lib.hid (HS.out.kept hb)
       have HB := Lib.hid (below_next HB.out hb HB.out.size)
       clear hb)
    | (go_at_call 18
       (with_reducible refine (mayPart_any _ _ _ _ HR.out).mono ?_)
       rintro e w' ⟨rfl, hq⟩
       have hb := below_ex hq
       have HR := Lib.hid (HR.out.kept hb)
       have HS := Lib.hid (HS.out.kept hb)
       have HB := Lib.hid (below_next HB.out hb HB.out.size)
       clear hb)
    | (go_at_call 18
       (with_reducible refine (mayPart_any _ _ _ _ HS.out).mono ?_)
       rintro e w' ⟨rfl, hq⟩
       have hb := below_ex hq
       have HR := Lib.hid (HR.out.kept hb)
       have HS := Lib.hid (HS.out.kept hb)
       have HB := Lib.hid (below_next HB.out hb HB.out.size)
       clear hb)
    | (go_at_call 17
       (with_reducible refine (new_any _ _).mono ?_)
       rintro e w' ⟨P1, z1, rfl, _, hp, hb⟩
       have HN := Lib.hid hp
       clear hp
       have HR := Lib.hid (HR.out.kept hb)
       have HS := Lib.hid (HS.out.kept hb)
       have HB := Lib.hid (below_next HB.out hb HB.out.size)
       clear hb)
    | (go_at_call 20
       (with_reducible refine (rnew_any _ _).mono ?_)
       rintro e w' ⟨P2, z2, rfl, _, hp, hb⟩
       have HQ := Lib.hid hp
       clear hp
       have HR := Lib.hid (HR.out.kept hb)
       have HS := Lib.hid (HS.out.kept hb)
       have HN := Lib.hid (HN.out.kept hb)
       have HB := Lib.hid (below_next HB.out hb HB.out.size)
       clear hb)
    | (go_at_call 11
       (with_reducible refine (ints_any _ _ _ _ _ _ _ _ _ HN.out HQ.out).mono ?_)
       rintro e w' ⟨rfl, hq⟩
       have hb := below_ex hq
       clear HN HQ
       have HR := Lib.hid (HR.out.kept hb)
       have HS := Lib.hid (HS.out.kept hb)
       have HB := Lib.hid (below_next HB.out hb HB.out.size)
       clear hb)
    | (go_at_call 14
       (with_reducible refine (same_any _ _ _ _ _ _ HR.out).mono ?_)
       rintro e w' ⟨rfl, hb⟩
       have HR := Lib.hid (HR.out.kept hb)
       have HS := Lib.hid (HS.out.kept hb)
       have HB := Lib.hid (below_next HB.out hb HB.out.size)
       clear hb)
    | (go_at_call 21
       (with_reducible refine (rsame_any _ _ _ _ _ _ HR.out).mono ?_)
       rintro e w' ⟨rfl, hb⟩
       have HR := Lib.hid (HR.out.kept hb)
       have HS := Lib.hid (HS.out.kept hb)
       have HB := Lib.hid (below_next HB.out hb HB.out.size)
       clear hb)
    | (go_at_call 13
       (with_reducible refine (unite_rows _ _ _ _ _ _ HR.out (by omega)).mono ?_)
       rintro e w' ⟨P1, z1, rfl, _, hp, hb⟩
       have HU := Lib.hid hp
       clear hp
       have HR := Lib.hid (HR.out.kept hb)
       have HS := Lib.hid (HS.out.kept hb)
       have HB := Lib.hid (below_next HB.out hb HB.out.size)
       clear hb)
    | (go_at_call 22
       (with_reducible refine (runite_rows _ _ _ _ _ _ HR.out (by omega)).mono ?_)
       rintro e w' ⟨P2, z2, rfl, _, hp, hb⟩
       have HV := Lib.hid hp
       clear hp
       have HR := Lib.hid (HR.out.kept hb)
       have HS := Lib.hid (HS.out.kept hb)
       have HU := Lib.hid (HU.out.kept hb)
       have HB := Lib.hid (below_next HB.out hb HB.out.size)
       clear hb)
    | (go_at_call 11
       (with_reducible refine (ints_any _ _ _ _ _ _ _ _ _ HU.out HV.out).mono ?_)
       rintro e w' ⟨rfl, hq⟩
       have hb := below_ex hq
       clear HU HV
       have HR := Lib.hid (HR.out.kept hb)
       have HS := Lib.hid (HS.out.kept hb)
       have HB := Lib.hid (below_next HB.out hb HB.out.size)
       clear hb)
    | (go_at_call 15
       (with_reducible refine (classes_any _ _ _ _ HR.out).mono ?_)
       rintro e w' ⟨rfl, hq⟩
       have hb := below_ex hq
       have HR := Lib.hid (HR.out.kept hb)
       have HS := Lib.hid (HS.out.kept hb)
       have HB := Lib.hid (below_next HB.out hb HB.out.size)
       clear hb)
    | (go_at_call 23
       (with_reducible refine (rclasses_any _ _ _ _ HR.out).mono ?_)
       rintro e w' ⟨rfl, hq⟩
       have hb := below_ex hq
       have HR := Lib.hid (HR.out.kept hb)
       have HS := Lib.hid (HS.out.kept hb)
       have HB := Lib.hid (below_next HB.out hb HB.out.size)
       clear hb)
    | (go_at_call 16
       (with_reducible refine (le_any _ _ _ _ _ _ _ HR.out HS.out HI.out).mono ?_)
       rintro e w' ⟨rfl, hq⟩
       have hb := below_ex hq
       have HR := Lib.hid (HR.out.kept hb)
       have HS := Lib.hid (HS.out.kept hb)
       have HB := Lib.hid (below_next HB.out hb HB.out.size)
       clear hb)
    | (go_at_call 24
       (with_reducible refine (rle_any _ _ _ _ _ _ _ HR.out HS.out HI.out).mono ?_)
       rintro e w' ⟨rfl, hq⟩
       have hb := below_ex hq
       have HR := Lib.hid (HR.out.kept hb)
       have HS := Lib.hid (HS.out.kept hb)
       have HB := Lib.hid (below_next HB.out hb HB.out.size)
       clear hb)
    | (go_at_call 9
       (with_reducible refine (awake_any _).mono ?_)
       rintro e w' ⟨rfl, hb⟩
       have HR := Lib.hid (HR.out.kept hb)
       have HS := Lib.hid (HS.out.kept hb)
       have HB := Lib.hid (below_next HB.out hb HB.out.size)
       clear hb)
  go_ret
  exact ⟨rfl, HB.out⟩
set_option maxHeartbeats 8000000 in
theorem partAll_5 (A B : Option Addr) (l m : List Int) (c d : Nat) (x y n : Int) (w : World) (hr : RowI w A l) (hs : RowI w B m) (h1 : ¬ 100 < l.length) (h2 : ¬ 100 < m.length) (h3 : ¬ 300 < n) (h4 : mayB l = true) (h5 : mayB m = false) : Calls Try.prog 7 #[.slice A l.length c, .slice B m.length d, .int .i64 x, .int .i64 y, .int .i64 n] w (BoolP true w) := by
  have HB := Lib.hid (Below.refl w.heap.size w)
  have HR := Lib.hid hr
  have HS := Lib.hid hs
  clear hr hs
  go_enter Try.func7, Try.ntmps7
  go_wp2_with first
    | (go_at_call 19
       (with_reducible refine (may_any _ _ _ _ HR.out).mono ?_)
       rintro e w' ⟨rfl, hq⟩
       have hb := below_ex hq
       have HR := Lib.hid (HR.out.kept hb)
       have HS := Lib.hid (HS.out.kept hb)
       have HB := Lib.hid (below_next HB.out hb HB.out.size)
       clear hb)
    | (go_at_call 18
       (with_reducible refine (mayPart_any _ _ _ _ HR.out).mono ?_)
       rintro e w' ⟨rfl, hq⟩
       have hb := below_ex hq
       have HR := Lib.hid (HR.out.kept hb)
       have HS := Lib.hid (HS.out.kept hb)
       have HB := Lib.hid (below_next HB.out hb HB.out.size)
       clear hb)
    | (go_at_call 18
       (with_reducible refine (mayPart_any _ _ _ _ HS.out).mono ?_)
       rintro e w' ⟨rfl, hq⟩
       have hb := below_ex hq
       have HR := Lib.hid (HR.out.kept hb)
       have HS := Lib.hid (HS.out.kept hb)
       have HB := Lib.hid (below_next HB.out hb HB.out.size)
       clear hb)
    | (go_at_call 17
       (with_reducible refine (new_any _ _).mono ?_)
       rintro e w' ⟨P1, z1, rfl, _, hp, hb⟩
       have HN := Lib.hid hp
       clear hp
       have HR := Lib.hid (HR.out.kept hb)
       have HS := Lib.hid (HS.out.kept hb)
       have HB := Lib.hid (below_next HB.out hb HB.out.size)
       clear hb)
    | (go_at_call 20
       (with_reducible refine (rnew_any _ _).mono ?_)
       rintro e w' ⟨P2, z2, rfl, _, hp, hb⟩
       have HQ := Lib.hid hp
       clear hp
       have HR := Lib.hid (HR.out.kept hb)
       have HS := Lib.hid (HS.out.kept hb)
       have HN := Lib.hid (HN.out.kept hb)
       have HB := Lib.hid (below_next HB.out hb HB.out.size)
       clear hb)
    | (go_at_call 11
       (with_reducible refine (ints_any _ _ _ _ _ _ _ _ _ HN.out HQ.out).mono ?_)
       rintro e w' ⟨rfl, hq⟩
       have hb := below_ex hq
       clear HN HQ
       have HR := Lib.hid (HR.out.kept hb)
       have HS := Lib.hid (HS.out.kept hb)
       have HB := Lib.hid (below_next HB.out hb HB.out.size)
       clear hb)
    | (go_at_call 14
       (with_reducible refine (same_any _ _ _ _ _ _ HR.out).mono ?_)
       rintro e w' ⟨rfl, hb⟩
       have HR := Lib.hid (HR.out.kept hb)
       have HS := Lib.hid (HS.out.kept hb)
       have HB := Lib.hid (below_next HB.out hb HB.out.size)
       clear hb)
    | (go_at_call 21
       (with_reducible refine (rsame_any _ _ _ _ _ _ HR.out).mono ?_)
       rintro e w' ⟨rfl, hb⟩
       have HR := Lib.hid (HR.out.kept hb)
       have HS := Lib.hid (HS.out.kept hb)
       have HB := Lib.hid (below_next HB.out hb HB.out.size)
       clear hb)
    | (go_at_call 13
       (with_reducible refine (unite_rows _ _ _ _ _ _ HR.out (by omega)).mono ?_)
       rintro e w' ⟨P1, z1, rfl, _, hp, hb⟩
       have HU := Lib.hid hp
       clear hp
       have HR := Lib.hid (HR.out.kept hb)
       have HS := Lib.hid (HS.out.kept hb)
       have HB := Lib.hid (below_next HB.out hb HB.out.size)
       clear hb)
    | (go_at_call 22
       (with_reducible refine (runite_rows _ _ _ _ _ _ HR.out (by omega)).mono ?_)
       rintro e w' ⟨P2, z2, rfl, _, hp, hb⟩
       have HV := Lib.hid hp
       clear hp
       have HR := Lib.hid (HR.out.kept hb)
       have HS := Lib.hid (HS.out.kept hb)
       have HU := Lib.hid (HU.out.kept hb)
       have HB := Lib.hid (below_next HB.out hb HB.out.size)
       clear hb)
    | (go_at_call 11
       (with_reducible refine (ints_any _ _ _ _ _ _ _ _ _ HU.out HV.out).mono ?_)
       rintro e w' ⟨rfl, hq⟩
       have hb := below_ex hq
       clear HU HV
       have HR := Lib.hid (HR.out.kept hb)
       have HS := Lib.hid (HS.out.kept hb)
       have HB := Lib.hid (below_next HB.out hb HB.out.size)
       clear hb)
    | (go_at_call 15
       (with_reducible refine (classes_any _ _ _ _ HR.out).mono ?_)
       rintro e w' ⟨rfl, hq⟩
       have hb := below_ex hq
       have HR := Lib.hid (HR.out.kept hb)
       have HS := Lib.hid (HS.out.kept hb)
       have HB := Lib.hid (below_next HB.out hb HB.out.size)
       clear hb)
    | (go_at_call 23
       (with_reducible refine (rclasses_any _ _ _ _ HR.out).mono ?_)
       rintro e w' ⟨rfl, hq⟩
       have hb := below_ex hq
       have HR := Lib.hid (HR.out.kept hb)
       have HS := Lib.hid (HS.out.kept hb)
       have HB := Lib.hid (below_next HB.out hb HB.out.size)
       clear hb)
    | (go_at_call 16
       (with_reducible refine (le_any _ _ _ _ _ _ _ HR.out HS.out HI.out).mono ?_)
       rintro e w' ⟨rfl, hq⟩
       have hb := below_ex hq
       have HR := Lib.hid (HR.out.kept hb)
       have HS := Lib.hid (HS.out.kept hb)
       have HB := Lib.hid (below_next HB.out hb HB.out.size)
       clear hb)
    | (go_at_call 24
       (with_reducible refine (rle_any _ _ _ _ _ _ _ HR.out HS.out HI.out).mono ?_)
       rintro e w' ⟨rfl, hq⟩
       have hb := below_ex hq
       have HR := Lib.hid (HR.out.kept hb)
       have HS := Lib.hid (HS.out.kept hb)
       have HB := Lib.hid (below_next HB.out hb HB.out.size)
       clear hb)
    | (go_at_call 9
       (with_reducible refine (awake_any _).mono ?_)
       rintro e w' ⟨rfl, hb⟩
       have HR := Lib.hid (HR.out.kept hb)
       have HS := Lib.hid (HS.out.kept hb)
       have HB := Lib.hid (below_next HB.out hb HB.out.size)
       clear hb)
  go_ret
  exact ⟨rfl, HB.out⟩
set_option maxHeartbeats 8000000 in
theorem partAll_6 (A B : Option Addr) (l m : List Int) (c d : Nat) (x y n : Int) (w : World) (hr : RowI w A l) (hs : RowI w B m) (h1 : ¬ 100 < l.length) (h2 : ¬ 100 < m.length) (h3 : ¬ 300 < n) (h4 : mayB l = true) (h5 : mayB m = true) : Calls Try.prog 7 #[.slice A l.length c, .slice B m.length d, .int .i64 x, .int .i64 y, .int .i64 n] w (BoolP true w) := by
  have HB := Lib.hid (Below.refl w.heap.size w)
  have HR := Lib.hid hr
  have HS := Lib.hid hs
  clear hr hs
  have HI := Lib.hid (may_in h4)
  have t1 : (sameB l x y == sameB l x y) = true := by simp
  have t2 : ((cls l l.length : Int) == (cls l l.length : Int)) = true := by simp
  have t3 : (leB l m == leB l m) = true := by simp
  go_enter Try.func7, Try.ntmps7
  go_wp2_with first
    | (go_at_call 19
       (with_reducible refine (may_any _ _ _ _ HR.out).mono ?_)
       rintro e w' ⟨rfl, hq⟩
       have hb := below_ex hq
       have HR := Lib.hid (HR.out.kept hb)
       have HS := Lib.hid (HS.out.kept hb)
       have HB := Lib.hid (below_next HB.out hb HB.out.size)
       clear hb)
    | (go_at_call 18
       (with_reducible refine (mayPart_any _ _ _ _ HR.out).mono ?_)
       rintro e w' ⟨rfl, hq⟩
       have hb := below_ex hq
       have HR := Lib.hid (HR.out.kept hb)
       have HS := Lib.hid (HS.out.kept hb)
       have HB := Lib.hid (below_next HB.out hb HB.out.size)
       clear hb)
    | (go_at_call 18
       (with_reducible refine (mayPart_any _ _ _ _ HS.out).mono ?_)
       rintro e w' ⟨rfl, hq⟩
       have hb := below_ex hq
       have HR := Lib.hid (HR.out.kept hb)
       have HS := Lib.hid (HS.out.kept hb)
       have HB := Lib.hid (below_next HB.out hb HB.out.size)
       clear hb)
    | (go_at_call 17
       (with_reducible refine (new_any _ _).mono ?_)
       rintro e w' ⟨P1, z1, rfl, _, hp, hb⟩
       have HN := Lib.hid hp
       clear hp
       have HR := Lib.hid (HR.out.kept hb)
       have HS := Lib.hid (HS.out.kept hb)
       have HB := Lib.hid (below_next HB.out hb HB.out.size)
       clear hb)
    | (go_at_call 20
       (with_reducible refine (rnew_any _ _).mono ?_)
       rintro e w' ⟨P2, z2, rfl, _, hp, hb⟩
       have HQ := Lib.hid hp
       clear hp
       have HR := Lib.hid (HR.out.kept hb)
       have HS := Lib.hid (HS.out.kept hb)
       have HN := Lib.hid (HN.out.kept hb)
       have HB := Lib.hid (below_next HB.out hb HB.out.size)
       clear hb)
    | (go_at_call 11
       (with_reducible refine (ints_any _ _ _ _ _ _ _ _ _ HN.out HQ.out).mono ?_)
       rintro e w' ⟨rfl, hq⟩
       have hb := below_ex hq
       clear HN HQ
       have HR := Lib.hid (HR.out.kept hb)
       have HS := Lib.hid (HS.out.kept hb)
       have HB := Lib.hid (below_next HB.out hb HB.out.size)
       clear hb)
    | (go_at_call 14
       (with_reducible refine (same_any _ _ _ _ _ _ HR.out).mono ?_)
       rintro e w' ⟨rfl, hb⟩
       have HR := Lib.hid (HR.out.kept hb)
       have HS := Lib.hid (HS.out.kept hb)
       have HB := Lib.hid (below_next HB.out hb HB.out.size)
       clear hb)
    | (go_at_call 21
       (with_reducible refine (rsame_any _ _ _ _ _ _ HR.out).mono ?_)
       rintro e w' ⟨rfl, hb⟩
       have HR := Lib.hid (HR.out.kept hb)
       have HS := Lib.hid (HS.out.kept hb)
       have HB := Lib.hid (below_next HB.out hb HB.out.size)
       clear hb)
    | (go_at_call 13
       (with_reducible refine (unite_rows _ _ _ _ _ _ HR.out (by omega)).mono ?_)
       rintro e w' ⟨P1, z1, rfl, _, hp, hb⟩
       have HU := Lib.hid hp
       clear hp
       have HR := Lib.hid (HR.out.kept hb)
       have HS := Lib.hid (HS.out.kept hb)
       have HB := Lib.hid (below_next HB.out hb HB.out.size)
       clear hb)
    | (go_at_call 22
       (with_reducible refine (runite_rows _ _ _ _ _ _ HR.out (by omega)).mono ?_)
       rintro e w' ⟨P2, z2, rfl, _, hp, hb⟩
       have HV := Lib.hid hp
       clear hp
       have HR := Lib.hid (HR.out.kept hb)
       have HS := Lib.hid (HS.out.kept hb)
       have HU := Lib.hid (HU.out.kept hb)
       have HB := Lib.hid (below_next HB.out hb HB.out.size)
       clear hb)
    | (go_at_call 11
       (with_reducible refine (ints_any _ _ _ _ _ _ _ _ _ HU.out HV.out).mono ?_)
       rintro e w' ⟨rfl, hq⟩
       have hb := below_ex hq
       clear HU HV
       have HR := Lib.hid (HR.out.kept hb)
       have HS := Lib.hid (HS.out.kept hb)
       have HB := Lib.hid (below_next HB.out hb HB.out.size)
       clear hb)
    | (go_at_call 15
       (with_reducible refine (classes_any _ _ _ _ HR.out).mono ?_)
       rintro e w' ⟨rfl, hq⟩
       have hb := below_ex hq
       have HR := Lib.hid (HR.out.kept hb)
       have HS := Lib.hid (HS.out.kept hb)
       have HB := Lib.hid (below_next HB.out hb HB.out.size)
       clear hb)
    | (go_at_call 23
       (with_reducible refine (rclasses_any _ _ _ _ HR.out).mono ?_)
       rintro e w' ⟨rfl, hq⟩
       have hb := below_ex hq
       have HR := Lib.hid (HR.out.kept hb)
       have HS := Lib.hid (HS.out.kept hb)
       have HB := Lib.hid (below_next HB.out hb HB.out.size)
       clear hb)
    | (go_at_call 16
       (with_reducible refine (le_any _ _ _ _ _ _ _ HR.out HS.out HI.out).mono ?_)
       rintro e w' ⟨rfl, hq⟩
       have hb := below_ex hq
       have HR := Lib.hid (HR.out.kept hb)
       have HS := Lib.hid (HS.out.kept hb)
       have HB := Lib.hid (below_next HB.out hb HB.out.size)
       clear hb)
    | (go_at_call 24
       (with_reducible refine (rle_any _ _ _ _ _ _ _ HR.out HS.out HI.out).mono ?_)
       rintro e w' ⟨rfl, hq⟩
       have hb := below_ex hq
       have HR := Lib.hid (HR.out.kept hb)
       have HS := Lib.hid (HS.out.kept hb)
       have HB := Lib.hid (below_next HB.out hb HB.out.size)
       clear hb)
    | (go_at_call 9
       (with_reducible refine (awake_any _).mono ?_)
       rintro e w' ⟨rfl, hb⟩
       have HR := Lib.hid (HR.out.kept hb)
       have HS := Lib.hid (HS.out.kept hb)
       have HB := Lib.hid (below_next HB.out hb HB.out.size)
       clear hb)
  go_ret
  exact ⟨rfl, HB.out⟩
theorem partAll_any (A B : Option Addr) (l m : List Int) (c d : Nat) (x y n : Int) (w : World) (hr : RowI w A l) (hs : RowI w B m) : Calls Try.prog 7 #[.slice A l.length c, .slice B m.length d, .int .i64 x, .int .i64 y, .int .i64 n] w (BoolP true w) := by
  by_cases h1 : 100 < l.length
  · exact partAll_1 A B l m c d x y n w hr hs h1
  by_cases h2 : 100 < m.length
  · exact partAll_2 A B l m c d x y n w hr hs h1 h2
  by_cases h3 : 300 < n
  · exact partAll_3 A B l m c d x y n w hr hs h1 h2 h3
  cases h4 : mayB l
  · exact partAll_4 A B l m c d x y n w hr hs h1 h2 h3 h4
  cases h5 : mayB m
  · exact partAll_5 A B l m c d x y n w hr hs h1 h2 h3 h4 h5
  · exact partAll_6 A B l m c d x y n w hr hs h1 h2 h3 h4 h5
end Go.Proofs.Ytffhaeefldbahaa
