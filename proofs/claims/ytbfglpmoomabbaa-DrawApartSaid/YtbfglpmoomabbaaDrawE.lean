/-
The law's function DrawParts returns true for every list and counts, and changes nothing that was there before; no condition.
-/
import Derived.Test.YtbfglpmoomabbaaDrawC
namespace Go.Proofs.Ytbfglpmoomabbaa
open Go.RowKit
theorem atN_add (n : Nat) (x : Int) : ∀ j : Nat, atN (j + n) x = atN j (atN n x)
  | 0 => by rw [Nat.zero_add]; rfl
  | j + 1 => by
    rw [show j + 1 + n = (j + n) + 1 by omega]
    show nextAt (atN (j + n) x) = nextAt (atN j (atN n x))
    rw [atN_add n x j]
theorem atN_small : ∀ k : Nat, k ≤ 65536 → atN k 0 = (k : Int)
  | 0, _ => rfl
  | k + 1, h => by
    show nextAt (atN k 0) = _
    rw [atN_small k (by omega), nextAt_in (by omega) (by omega)]
    omega
theorem manyL_add (l : List Int) (x : Int) (n m : Nat) : manyL l x (n + m) = manyL l x n ++ manyL l (atN n x) m := by
  unfold manyL
  rw [List.range_add, List.map_append, List.map_map]
  congr 1
  refine List.map_congr_left fun j _ => ?_
  simp only [Function.comp]
  rw [Nat.add_comm n j, atN_add]
theorem manyL_getD (l : List Int) (k i : Nat) (hi : i < k) (hk : k ≤ 65536) : (manyL l 0 k).getD i 0 = nextN l (i : Int) := by
  unfold manyL
  rw [List.getD_eq_getElem?_getD, List.getElem?_map, List.getElem?_range hi]
  show nextN l (atN i 0) = _
  rw [atN_small i (by omega)]
theorem low_range (x : Int) : 0 ≤ low x ∧ low x ≤ 2147483647 := by unfold low; omega
theorem nextN_range (l : List Int) (x : Int) : 0 ≤ nextN l x ∧ nextN l x ≤ 2147483647 := by
  unfold nextN
  split
  · omega
  · split
    · exact low_range _
    · exact mixV_range _
def ManyN (A : Option Addr) (l : List Int) (c : Nat) (x : Int) (k : Nat) (y : Int) (w : World) (e : Ending) (w' : World) : Prop :=
  ∃ B d, e = .returned (.tuple #[.slice B k d, .agg #[.slice A l.length c, .int .i64 y]]) ∧ RowI w' B (manyL l x k) ∧ Below w.heap.size w w'
theorem many_nat (A : Option Addr) (l : List Int) (c : Nat) (x : Int) (n : Int) (k : Nat) (y : Int) (w : World) (hr : RowI w A l) (hn : n = (k : Int)) (hk : k ≤ 65536) (hy : atN k x = y) : Calls Try.prog 23 #[.agg #[.slice A l.length c, .int .i64 x], .int .i64 n] w (ManyN A l c x k y w) := by
  subst hn
  refine (many_any A l c x _ w hr).mono fun e w' h => ?_
  obtain ⟨v, rfl, hown, hb⟩ := h
  have e1 : many l x (k : Int) = manyL l x k := by unfold many; rw [if_neg (by omega)]; rfl
  have e2 : manyAt x (k : Int) = atN k x := by unfold manyAt; rw [if_neg (by omega)]; rfl
  rw [e1, manyL_length] at hown
  obtain ⟨B, d, rfl, _, hv⟩ := row_of_own hown
  exact ⟨B, d, by rw [e2, hy], by rw [RowI, manyL_length]; exact hv, hb⟩
theorem below_grown {w w1 : World} {row : Option Nat} {B : Nat} (hg : w.grownBy w1 row) (hB : B ≤ w.heap.size) (h : ∀ k, row = some k → B ≤ k) : Below B w w1 :=
  ⟨hg.os, hg.tape, hg.output, hg.size, fun i hi => hg.block i (by omega) (fun e => by have := h i e.symm; omega)⟩
theorem ints_yes_rows (A B : Option Addr) (c d n n' : Nat) (xs : List Value) (m : List Int) (w : World) (hr : Row w A n xs) (hs : Row w B n' (ints m)) (h : xs = ints m) : Calls Try.prog 26 #[.slice A n c, .slice B n' d] w (Yes w) := by
  subst h
  obtain rfl : n = n' := hr.1.symm.trans hs.1
  exact ints_yes A B c d n m w hr hs
set_option maxHeartbeats 4000000 in
theorem drawParts_any (A : Option Addr) (l : List Int) (c : Nat) (n m : Nat) (w : World) (hr : RowI w A l) (hn : n ≤ 255) (hm : m ≤ 255) : Calls Try.prog 9 #[.slice A l.length c, .int .u8 n, .int .u8 m] w (Yes w) := by
  have HL := Lib.hid hr.2.1
  have HR := Lib.hid hr
  clear hr
  by_cases h0 : 100 < l.length
  · have h0' := HL.out
    go_enter Try.func9, Try.ntmps9
    go_wp2_with (go_at_call 18; refine (dawake_any _).mono ?_; rintro e w1 ⟨rfl, hb⟩)
    go_ret
    exact ⟨rfl, hb⟩
  · have HB := Lib.hid (below_alloc (Below.refl w.heap.size w) (.cells #[.slice A l.length c, .int .i64 0] 39))
    have c0 : (w.alloc (.cells #[.slice A l.length c, .int .i64 0] 39)).cell? ⟨w.heap.size, 0, none⟩ = some (.slice A l.length c) := by go_simp
    have c1 : (w.alloc (.cells #[.slice A l.length c, .int .i64 0] 39)).cell? ⟨w.heap.size, 1, none⟩ = some (.int .i64 0) := by go_simp
    go_enter Try.func9, Try.ntmps9
    go_wp2_with fail
    refine (many_nat A l c 0 n n n _ (HR.out.kept HB.out) rfl (by omega) (atN_small n (by omega))).mono ?_
    rintro e w1 ⟨A1, d1, rfl, hv1, hb⟩
    have c0 := cell_kept hb c0
    have c1 := cell_kept hb c1
    have HB := Lib.hid (below_next HB.out hb (by have := HB.out.size; omega))
    clear hb
    have c0 := cell_alloc c0 (.cells #[.slice A l.length c, .int .i64 n] 39)
    have c1 := cell_alloc c1 (.cells #[.slice A l.length c, .int .i64 n] 39)
    have x0 : (w1.alloc (.cells #[.slice A l.length c, .int .i64 n] 39)).cell? ⟨w1.heap.size, 0, none⟩ = some (.slice A l.length c) := by go_simp
    have x1 : (w1.alloc (.cells #[.slice A l.length c, .int .i64 n] 39)).cell? ⟨w1.heap.size, 1, none⟩ = some (.int .i64 n) := by go_simp
    have HB := Lib.hid (below_alloc HB.out (.cells #[.slice A l.length c, .int .i64 n] 39))
    have HV1 := Lib.hid (hv1.kept (below_alloc (Below.refl _ _) (.cells #[.slice A l.length c, .int .i64 n] 39)))
    clear hv1
    go_wp2_with fail
    refine (many_nat A l c n m m (n + m) _ (HR.out.kept HB.out) rfl (by omega) (by have h1 := atN_add n 0 m; rw [atN_small n (by omega), atN_small (m + n) (by omega)] at h1; omega)).mono ?_
    rintro e w2 ⟨A2, d2, rfl, hv2, hb⟩
    have HV1 := Lib.hid (HV1.out.kept hb)
    have c0 := cell_kept hb c0
    have c1 := cell_kept hb c1
    have x0 := cell_kept hb x0
    have x1 := cell_kept hb x1
    have HB := Lib.hid (below_next HB.out hb (by have := HB.out.size; omega))
    clear hb
    have c0 := cell_alloc c0 (.cells #[.slice A l.length c, .int .i64 (n + m)] 39)
    have c1 := cell_alloc c1 (.cells #[.slice A l.length c, .int .i64 (n + m)] 39)
    have x0 := cell_alloc x0 (.cells #[.slice A l.length c, .int .i64 (n + m)] 39)
    have x1 := cell_alloc x1 (.cells #[.slice A l.length c, .int .i64 (n + m)] 39)
    have y0 : (w2.alloc (.cells #[.slice A l.length c, .int .i64 (n + m)] 39)).cell? ⟨w2.heap.size, 0, none⟩ = some (.slice A l.length c) := by go_simp
    have y1 : (w2.alloc (.cells #[.slice A l.length c, .int .i64 (n + m)] 39)).cell? ⟨w2.heap.size, 1, none⟩ = some (.int .i64 (n + m)) := by go_simp
    have HB := Lib.hid (below_alloc HB.out (.cells #[.slice A l.length c, .int .i64 (n + m)] 39))
    have HV1 := Lib.hid (HV1.out.kept (below_alloc (Below.refl _ _) (.cells #[.slice A l.length c, .int .i64 (n + m)] 39)))
    have HV2 := Lib.hid (hv2.kept (below_alloc (Below.refl _ _) (.cells #[.slice A l.length c, .int .i64 (n + m)] 39)))
    clear hv2
    go_wp2_with fail
    refine (many_nat A l c 0 (n + m) (n + m) (n + m) _ (HR.out.kept HB.out) (by omega) (by omega) (by rw [atN_small (n + m) (by omega)]; omega)).mono ?_
    rintro e w3 ⟨A3, d3, rfl, hv3, hb⟩
    have HV1 := Lib.hid (HV1.out.kept hb)
    have HV2 := Lib.hid (HV2.out.kept hb)
    have c0 := cell_kept hb c0
    have c1 := cell_kept hb c1
    have x0 := cell_kept hb x0
    have x1 := cell_kept hb x1
    have y0 := cell_kept hb y0
    have y1 := cell_kept hb y1
    have HB := Lib.hid (below_next HB.out hb (by have := HB.out.size; omega))
    clear hb
    have c0 := cell_alloc c0 (.cells #[.slice A l.length c, .int .i64 (n + m)] 39)
    have c1 := cell_alloc c1 (.cells #[.slice A l.length c, .int .i64 (n + m)] 39)
    have x0 := cell_alloc x0 (.cells #[.slice A l.length c, .int .i64 (n + m)] 39)
    have x1 := cell_alloc x1 (.cells #[.slice A l.length c, .int .i64 (n + m)] 39)
    have y0 := cell_alloc y0 (.cells #[.slice A l.length c, .int .i64 (n + m)] 39)
    have y1 := cell_alloc y1 (.cells #[.slice A l.length c, .int .i64 (n + m)] 39)
    have z0 : (w3.alloc (.cells #[.slice A l.length c, .int .i64 (n + m)] 39)).cell? ⟨w3.heap.size, 0, none⟩ = some (.slice A l.length c) := by go_simp
    have z1 : (w3.alloc (.cells #[.slice A l.length c, .int .i64 (n + m)] 39)).cell? ⟨w3.heap.size, 1, none⟩ = some (.int .i64 (n + m)) := by go_simp
    have HB := Lib.hid (below_alloc HB.out (.cells #[.slice A l.length c, .int .i64 (n + m)] 39))
    have HV1 := Lib.hid (HV1.out.kept (below_alloc (Below.refl _ _) (.cells #[.slice A l.length c, .int .i64 (n + m)] 39)))
    have HV2 := Lib.hid (HV2.out.kept (below_alloc (Below.refl _ _) (.cells #[.slice A l.length c, .int .i64 (n + m)] 39)))
    have HV3 := Lib.hid (hv3.kept (below_alloc (Below.refl _ _) (.cells #[.slice A l.length c, .int .i64 (n + m)] 39)))
    clear hv3
    go_wp2_with fail
    generalize w3.alloc (.cells #[.slice A l.length c, .int .i64 (n + m)] 39) = W3 at *
    go_loopw [14] (fun v14 wr => ∃ (k q : Nat), k ≤ n + m ∧ v14 = .int .i64 k ∧ wr = W3.drewN q) (fun v14 _ => n + m - (intOf v14).toNat)
    case atStart => exact ⟨0, 0, by omega, rfl, rfl⟩
    case round =>
      obtain ⟨k, q, hk, rfl, rfl⟩ := hrel
      by_cases hlt : k < n + m
      · obtain ⟨ad, rfl, hc⟩ := HV3.out.at_nat k (by rw [manyL_length]; exact hlt)
        rw [ints_getD _ k (by rw [manyL_length]; exact hlt), manyL_getD l (n + m) k hlt (by omega)] at hc
        have hz0 := (nextN_range l k).1
        have hz1 := (nextN_range l k).2
        have p1 : (0 : Int) ≤ (k : Int) := by omega
        have p2 : (k : Int) < ((n + m : Nat) : Int) := by omega
        have p3 : (k : Int) < (n : Int) + (m : Int) := by omega
        by_cases hl : k < l.length
        · obtain ⟨bd, rfl, hd⟩ := RowI.at_nat (HR.out.kept HB.out) k hl
          obtain ⟨z, hz⟩ : ∃ z, z = l.getD k 0 := ⟨_, rfl⟩
          have hn1 : nextN l (k : Int) = low z := by rw [nextN_in (by omega) (by omega) (by omega), hz]; rfl
          rw [← hz] at hd
          rw [hn1] at hc hz0 hz1
          have ha := and_i64 z
          have p4 : (k : Int) < (l.length : Int) := by omega
          have p5 : decide ((k : Int) < (l.length : Int)) = true := by simp; omega
          have q0 : decide (low z < 0) = false := by simp; omega
          have q1 : decide (2147483647 < low z) = false := by simp; omega
          have q2 : (low z != low z) = false := by simp
          clear hn1 hz
          go_wp2
          go_quiet (fail)
          go_wp2
          go_roundw
          case rel => exact ⟨k + 1, _, by omega, by go_num, by first | rfl | exact World.drewN_drewN ..⟩
          case measure => simp [intOf]; omega
        · obtain ⟨z, hz⟩ : ∃ z, z = nextN l (k : Int) := ⟨_, rfl⟩
          rw [← hz] at hc hz0 hz1
          have p5 : decide ((k : Int) < (l.length : Int)) = false := by simp; omega
          have q0 : decide (z < 0) = false := by simp; omega
          have q1 : decide (2147483647 < z) = false := by simp; omega
          clear hz
          go_wp2
          go_quiet (fail)
          go_wp2
          go_roundw
          case rel => exact ⟨k + 1, _, by omega, by go_num, by first | rfl | exact World.drewN_drewN ..⟩
          case measure => simp [intOf]; omega
      · have hb := below_drewN (Below.refl W3.heap.size W3) q
        have HR := Lib.hid ((HR.out.kept HB.out).kept hb)
        have HV1 := Lib.hid (by have := HV1.out.kept hb; rw [manyL_length] at this; exact this)
        have HV2 := Lib.hid (by have := HV2.out.kept hb; rw [manyL_length] at this; exact this)
        have HV3 := Lib.hid (by have := HV3.out.kept hb; rw [manyL_length] at this; exact this)
        have y0 := cell_kept hb y0
        have y1 := cell_kept hb y1
        have z0 := cell_kept hb z0
        have z1 := cell_kept hb z1
        have HB := Lib.hid (below_next HB.out hb HB.out.size)
        clear hb
        generalize W3.drewN q = W4 at *
        have t1 : ((n : Int) == (n : Int)) = true := by simp
        go_wp2_with first
          | (at_builtin
             refine append_row_w W4.heap.size rfl (.tmp 94) (.tmp 95) 37 3 (.int .i64 0) 1 8 rfl Try.underlying37 info3 rfl (by omega) (by omega) (.slice (some ⟨W4.heap.size, 0, none⟩) 0 0) 0 [] (ints (manyL l 0 n)) A1 n d1 rfl rfl (World.ownsRow_lit W4 #[] 0 (Nat.le_refl _) (by simp [maxLen]) rfl) (by rw [Nat.mul_one]; exact HV1.out.kept (below_alloc (Below.refl _ _) _)) (ints_one _) (by simp) (by omega) ?_
             intro v1 w5 hown hg hat
             have hb : Below W4.heap.size W4 w5 := (below_alloc (Below.refl _ _) _).trans (below_grown hg (by simp) (fun k hk => by simp [Value.ownBlock] at hk; omega))
             have HV2 := Lib.hid (HV2.out.kept hb)
             have H45 := Lib.hid hb
             have HW := Lib.hid hb.size
             have HO := Lib.hid hown
             clear hb hown hg hat)
          | (at_builtin
             refine append_row_w W4.heap.size rfl (.tmp 96) (.tmp 97) 37 3 (.int .i64 0) 1 8 rfl Try.underlying37 info3 rfl (by omega) (by omega) v1 (0 + n) ([] ++ ints (manyL l 0 n)) (ints (manyL l n m)) A2 m d2 rfl rfl HO.out (by rw [Nat.mul_one]; exact HV2.out) (ints_one _) HW.out (by omega) ?_
             intro v2 w6 hown2 hg2 hat2
             have hb := H45.out.trans (below_grown hg2 HW.out (fun k hk => own_ge HO.out k hk))
             clear hg2 hat2
             rw [Nat.zero_add] at hown2
             obtain ⟨A5, c5, rfl, _, hrow⟩ := row_of_own hown2
             clear hown2
             have HO2 := Lib.hid hrow
             clear hrow
             have HR := Lib.hid (HR.out.kept hb)
             have HV3 := Lib.hid (HV3.out.kept hb)
             have y0 := cell_kept hb y0
             have y1 := cell_kept hb y1
             have z0 := cell_kept hb z0
             have z1 := cell_kept hb z1
             have HB := Lib.hid (below_next HB.out hb HB.out.size)
             clear hb)
          | (go_at_call 26
             have HE := Lib.hid (show [] ++ ints (manyL l 0 n) ++ ints (manyL l (n : Int) m) = ints (manyL l 0 (n + m)) by
               have h := manyL_add l 0 n m
               rw [atN_small n (by omega)] at h
               rw [List.nil_append, ← ints_append, ← h])
             (with_reducible refine (ints_yes_rows A5 A3 c5 d3 (n + m) (n + m) _ _ w6 HO2.out HV3.out HE.out).mono ?_)
             rintro e w7 ⟨rfl, hb⟩
             have HR := Lib.hid (HR.out.kept hb)
             have y0 := cell_kept hb y0
             have y1 := cell_kept hb y1
             have z0 := cell_kept hb z0
             have z1 := cell_kept hb z1
             have HB := Lib.hid (below_next HB.out hb HB.out.size)
             clear hb)
          | (go_at_call 20
             refine (same_yes A A c c l _ _ HR.out HR.out).mono ?_
             rintro e w8 ⟨rfl, hb⟩
             have z0 := cell_kept hb z0
             have z1 := cell_kept hb z1
             have HB := Lib.hid (below_next HB.out hb HB.out.size)
             clear hb
             have t2 : ((n : Int) + (m : Int) == ((n + m : Nat) : Int)) = true := by simp)
          | (go_at_call 18
             refine (dawake_any _).mono ?_
             rintro e w9 ⟨rfl, hb⟩
             have HB := Lib.hid (below_next HB.out hb HB.out.size)
             clear hb)
        go_ret
        exact ⟨rfl, HB.out⟩
end Go.Proofs.Ytbfglpmoomabbaa
