/-
The law's function DrawAll returns true for every number, draws and count, and changes nothing that was there before; no condition.
-/
import Derived.Test.YtbfglpmoomabbaaDrawC
namespace Go.Proofs.Ytbfglpmoomabbaa
open Go.RowKit
set_option maxHeartbeats 4000000 in
theorem drawAll_any (n : Int) (A : Option Addr) (l : List Int) (c : Nat) (x m : Int) (w : World) (hr : RowI w A l) : Calls Try.prog 8 #[.int .i64 n, .agg #[.slice A l.length c, .int .i64 x], .int .i64 m] w (Yes w) := by
  have HL := Lib.hid hr.2.1
  have HR := Lib.hid hr
  clear hr
  by_cases h0 : 100 < l.length
  · have h0' := HL.out
    go_enter Try.func8, Try.ntmps8
    go_wp2_with (go_at_call 18; refine (dawake_any _).mono ?_; rintro e w1 ⟨rfl, hb⟩)
    go_ret
    exact ⟨rfl, below_next (below_alloc (Below.refl _ _) _) hb (by simp)⟩
  · by_cases h1 : 300 < m
    · go_enter Try.func8, Try.ntmps8
      go_wp2_with (go_at_call 18; refine (dawake_any _).mono ?_; rintro e w1 ⟨rfl, hb⟩)
      go_ret
      exact ⟨rfl, below_next (below_alloc (Below.refl _ _) _) hb (by simp)⟩
    · have c0 : (w.alloc (.cells #[.slice A l.length c, .int .i64 x] 39)).cell? ⟨w.heap.size, 0, none⟩ = some (.slice A l.length c) := by go_simp
      have c1 : (w.alloc (.cells #[.slice A l.length c, .int .i64 x] 39)).cell? ⟨w.heap.size, 1, none⟩ = some (.int .i64 x) := by go_simp
      have HB := Lib.hid (below_alloc (Below.refl w.heap.size w) (.cells #[.slice A l.length c, .int .i64 x] 39))
      go_enter Try.func8, Try.ntmps8
      go_wp2_with fail
      refine (next_any A l c x _ (HR.out.kept HB.out)).mono ?_
      rintro e w1 ⟨rfl, hb⟩
      have c0 := cell_kept hb c0
      have c1 := cell_kept hb c1
      have HB := Lib.hid (below_next HB.out hb (by have := HB.out.size; omega))
      clear hb
      have c0 := cell_alloc c0 (.cells #[.slice A l.length c, .int .i64 (nextAt x)] 39)
      have c1 := cell_alloc c1 (.cells #[.slice A l.length c, .int .i64 (nextAt x)] 39)
      have x0 : (w1.alloc (.cells #[.slice A l.length c, .int .i64 (nextAt x)] 39)).cell? ⟨w1.heap.size, 0, none⟩ = some (.slice A l.length c) := by go_simp
      have x1 : (w1.alloc (.cells #[.slice A l.length c, .int .i64 (nextAt x)] 39)).cell? ⟨w1.heap.size, 1, none⟩ = some (.int .i64 (nextAt x)) := by go_simp
      have HB := Lib.hid (below_alloc HB.out (.cells #[.slice A l.length c, .int .i64 (nextAt x)] 39))
      go_wp2_with fail
      refine (rdraw_any A l c x _ (HR.out.kept HB.out)).mono ?_
      rintro e w2 ⟨rfl, hb⟩
      have c0 := cell_kept hb c0
      have c1 := cell_kept hb c1
      have x0 := cell_kept hb x0
      have x1 := cell_kept hb x1
      have HB := Lib.hid (below_next HB.out hb (by have := HB.out.size; omega))
      clear hb
      have c0 := cell_alloc c0 (.cells #[.int .i64 (nextN l x), .slice A l.length c, .int .i64 (nextAt x)] 46)
      have c1 := cell_alloc c1 (.cells #[.int .i64 (nextN l x), .slice A l.length c, .int .i64 (nextAt x)] 46)
      have x0 := cell_alloc x0 (.cells #[.int .i64 (nextN l x), .slice A l.length c, .int .i64 (nextAt x)] 46)
      have x1 := cell_alloc x1 (.cells #[.int .i64 (nextN l x), .slice A l.length c, .int .i64 (nextAt x)] 46)
      have b0 : (w2.alloc (.cells #[.int .i64 (nextN l x), .slice A l.length c, .int .i64 (nextAt x)] 46)).cell? ⟨w2.heap.size, 0, none⟩ = some (.int .i64 (nextN l x)) := by go_simp
      have b1 : (w2.alloc (.cells #[.int .i64 (nextN l x), .slice A l.length c, .int .i64 (nextAt x)] 46)).cell? ⟨w2.heap.size, 1, none⟩ = some (.slice A l.length c) := by go_simp
      have b2 : (w2.alloc (.cells #[.int .i64 (nextN l x), .slice A l.length c, .int .i64 (nextAt x)] 46)).cell? ⟨w2.heap.size, 2, none⟩ = some (.int .i64 (nextAt x)) := by go_simp
      have HB := Lib.hid (below_alloc HB.out (.cells #[.int .i64 (nextN l x), .slice A l.length c, .int .i64 (nextAt x)] 46))
      go_wp2_with fail
      refine (many_any A l c x m _ (HR.out.kept HB.out)).mono ?_
      rintro e w3 ⟨v, rfl, hown, hb⟩
      obtain ⟨A3, d3, rfl, _, hv⟩ := row_of_own hown
      clear hown
      have c0 := cell_kept hb c0
      have c1 := cell_kept hb c1
      have x0 := cell_kept hb x0
      have x1 := cell_kept hb x1
      have b0 := cell_kept hb b0
      have b1 := cell_kept hb b1
      have b2 := cell_kept hb b2
      have HB := Lib.hid (below_next HB.out hb (by have := HB.out.size; omega))
      clear hb
      have c0 := cell_alloc c0 (.cells #[.slice A l.length c, .int .i64 (manyAt x m)] 39)
      have c1 := cell_alloc c1 (.cells #[.slice A l.length c, .int .i64 (manyAt x m)] 39)
      have x0 := cell_alloc x0 (.cells #[.slice A l.length c, .int .i64 (manyAt x m)] 39)
      have x1 := cell_alloc x1 (.cells #[.slice A l.length c, .int .i64 (manyAt x m)] 39)
      have b0 := cell_alloc b0 (.cells #[.slice A l.length c, .int .i64 (manyAt x m)] 39)
      have b1 := cell_alloc b1 (.cells #[.slice A l.length c, .int .i64 (manyAt x m)] 39)
      have b2 := cell_alloc b2 (.cells #[.slice A l.length c, .int .i64 (manyAt x m)] 39)
      have y0 : (w3.alloc (.cells #[.slice A l.length c, .int .i64 (manyAt x m)] 39)).cell? ⟨w3.heap.size, 0, none⟩ = some (.slice A l.length c) := by go_simp
      have y1 : (w3.alloc (.cells #[.slice A l.length c, .int .i64 (manyAt x m)] 39)).cell? ⟨w3.heap.size, 1, none⟩ = some (.int .i64 (manyAt x m)) := by go_simp
      have HB := Lib.hid (below_alloc HB.out (.cells #[.slice A l.length c, .int .i64 (manyAt x m)] 39))
      have HV := Lib.hid (hv.kept (below_alloc (Below.refl _ _) (.cells #[.slice A l.length c, .int .i64 (manyAt x m)] 39)))
      clear hv
      go_wp2_with fail
      refine (rmany_any A l c x m _ (HR.out.kept HB.out)).mono ?_
      rintro e w4 ⟨v, rfl, hown, hb⟩
      obtain ⟨A4, d4, rfl, _, hu⟩ := row_of_own hown
      clear hown
      have HV := Lib.hid (HV.out.kept hb)
      have c0 := cell_kept hb c0
      have c1 := cell_kept hb c1
      have x0 := cell_kept hb x0
      have x1 := cell_kept hb x1
      have b0 := cell_kept hb b0
      have b1 := cell_kept hb b1
      have b2 := cell_kept hb b2
      have y0 := cell_kept hb y0
      have y1 := cell_kept hb y1
      have HB := Lib.hid (below_next HB.out hb (by have := HB.out.size; omega))
      clear hb
      have c0 := cell_alloc c0 (.cells #[.slice A l.length c, .int .i64 (manyAt x m)] 39)
      have c1 := cell_alloc c1 (.cells #[.slice A l.length c, .int .i64 (manyAt x m)] 39)
      have x0 := cell_alloc x0 (.cells #[.slice A l.length c, .int .i64 (manyAt x m)] 39)
      have x1 := cell_alloc x1 (.cells #[.slice A l.length c, .int .i64 (manyAt x m)] 39)
      have b0 := cell_alloc b0 (.cells #[.slice A l.length c, .int .i64 (manyAt x m)] 39)
      have b1 := cell_alloc b1 (.cells #[.slice A l.length c, .int .i64 (manyAt x m)] 39)
      have b2 := cell_alloc b2 (.cells #[.slice A l.length c, .int .i64 (manyAt x m)] 39)
      have y0 := cell_alloc y0 (.cells #[.slice A l.length c, .int .i64 (manyAt x m)] 39)
      have y1 := cell_alloc y1 (.cells #[.slice A l.length c, .int .i64 (manyAt x m)] 39)
      have z0 : (w4.alloc (.cells #[.slice A l.length c, .int .i64 (manyAt x m)] 39)).cell? ⟨w4.heap.size, 0, none⟩ = some (.slice A l.length c) := by go_simp
      have z1 : (w4.alloc (.cells #[.slice A l.length c, .int .i64 (manyAt x m)] 39)).cell? ⟨w4.heap.size, 1, none⟩ = some (.int .i64 (manyAt x m)) := by go_simp
      have HB := Lib.hid (below_alloc HB.out (.cells #[.slice A l.length c, .int .i64 (manyAt x m)] 39))
      have HV := Lib.hid (HV.out.kept (below_alloc (Below.refl _ _) (.cells #[.slice A l.length c, .int .i64 (manyAt x m)] 39)))
      have HU := Lib.hid (hu.kept (below_alloc (Below.refl _ _) (.cells #[.slice A l.length c, .int .i64 (manyAt x m)] 39)))
      clear hu
      go_wp2_with fail
      refine (mix_any n _).mono ?_
      rintro e w5 ⟨rfl, rfl⟩
      go_wp2_with fail
      refine (rmix_any n _).mono ?_
      rintro e w5 ⟨rfl, rfl⟩
      go_wp2_with fail
      refine (same_yes A A c c l (nextAt x) _ (HR.out.kept HB.out) (HR.out.kept HB.out)).mono ?_
      rintro e w6 ⟨rfl, hb⟩
      have HV := Lib.hid (HV.out.kept hb)
      have HU := Lib.hid (HU.out.kept hb)
      have c0 := cell_kept hb c0
      have c1 := cell_kept hb c1
      have x0 := cell_kept hb x0
      have x1 := cell_kept hb x1
      have b0 := cell_kept hb b0
      have b1 := cell_kept hb b1
      have b2 := cell_kept hb b2
      have y0 := cell_kept hb y0
      have y1 := cell_kept hb y1
      have z0 := cell_kept hb z0
      have z1 := cell_kept hb z1
      have HB := Lib.hid (below_next HB.out hb (by have := HB.out.size; omega))
      clear hb
      go_wp2_with fail
      refine (ints_yes A3 A4 d3 d4 _ (many l x m) _ HV.out HU.out).mono ?_
      rintro e w7 ⟨rfl, hb⟩
      have c0 := cell_kept hb c0
      have c1 := cell_kept hb c1
      have x0 := cell_kept hb x0
      have x1 := cell_kept hb x1
      have b0 := cell_kept hb b0
      have b1 := cell_kept hb b1
      have b2 := cell_kept hb b2
      have y0 := cell_kept hb y0
      have y1 := cell_kept hb y1
      have z0 := cell_kept hb z0
      have z1 := cell_kept hb z1
      have HB := Lib.hid (below_next HB.out hb (by have := HB.out.size; omega))
      clear hb
      go_wp2_with fail
      refine (same_yes A A c c l (manyAt x m) _ (HR.out.kept HB.out) (HR.out.kept HB.out)).mono ?_
      rintro e w8 ⟨rfl, hb⟩
      have c0 := cell_kept hb c0
      have c1 := cell_kept hb c1
      have x0 := cell_kept hb x0
      have x1 := cell_kept hb x1
      have b0 := cell_kept hb b0
      have b1 := cell_kept hb b1
      have b2 := cell_kept hb b2
      have y0 := cell_kept hb y0
      have y1 := cell_kept hb y1
      have z0 := cell_kept hb z0
      have z1 := cell_kept hb z1
      have HB := Lib.hid (below_next HB.out hb (by have := HB.out.size; omega))
      clear hb
      go_wp2_with fail
      refine (dawake_any _).mono ?_
      rintro e w9 ⟨rfl, hb⟩
      have HB := Lib.hid (below_next HB.out hb (by have := HB.out.size; omega))
      clear hb
      go_wp2
      go_ret
      exact ⟨rfl, HB.out⟩
end Go.Proofs.Ytbfglpmoomabbaa
