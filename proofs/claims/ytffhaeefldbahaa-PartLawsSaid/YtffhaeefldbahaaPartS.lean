/-
The law's function PartLaws returns true for every number, list of bytes and three elements, and changes nothing that was there before.
-/
import Derived.Test.YtffhaeefldbahaaPartO
import Derived.Test.YtffhaeefldbahaaPartR
namespace Go.Proofs.Ytffhaeefldbahaa
open Go.RowKit
attribute [local go_sem ↓] Go.wp_at_zero Go.wp_at_succ
set_option maxHeartbeats 8000000 in
theorem partLaws_small (A : Option Addr) (n x y z : Nat) (la : List Int) (c : Nat) (w : World) (hr : RowB w A la) (hn : n ≤ 255) (hx : x ≤ 255) (hy : y ≤ 255) (hz : z ≤ 255) (ha : la.length ≤ 60) :
    Calls Try.prog 4 #[.int .u8 n, .slice A la.length c, .int .u8 x, .int .u8 y, .int .u8 z] w (BoolP true w) := by
  have HB := Lib.hid (Below.refl w.heap.size w)
  have HR := Lib.hid hr
  clear hr
  have wn : IntKind.i64.wrap (1 + (n : Int) % 30) = 1 + (n : Int) % 30 := IntWalk.i64_in _ (by omega)
  go_enter Try.func4, Try.ntmps4
  go_wp2_with fail
  obtain ⟨K, hK⟩ : ∃ K, K = (1 + (n : Int) % 30) := ⟨_, rfl⟩
  rw [← hK]
  have k0 : 0 < K := by omega
  have k1 : K < 40 := by omega
  clear hK wn
  go_wp2_with first
    | (go_at_call 10
       (with_reducible refine (pairs_row _ _ la K _ HR.out (by omega) (by omega)).mono ?_)
       rintro e w' ⟨P1, z1, rfl, hp, hb⟩
       have HP1 := Lib.hid hp
       have HI1 := Lib.hid (pairsL_in (n := K) HR.out (by omega))
       clear hp
       have HR := Lib.hid (HR.out.kept hb)
       have HB := Lib.hid (below_next HB.out hb HB.out.size)
       clear hb)
    | (go_at_call 12
       (with_reducible refine (of_any K _ _ (pairsL la K) _ HP1.out HI1.out).mono ?_)
       rintro e w' ⟨P1, z1, rfl, _, hp, hb⟩
       have HA := Lib.hid hp
       clear hp HP1
       have HR := Lib.hid (HR.out.kept hb)
       have HB := Lib.hid (below_next HB.out hb HB.out.size)
       clear hb)
  clear HR HI1
  have GA := Lib.hid (good_ofL K (pairsL la K))
  have LA := Lib.hid (show ((ofL K (pairsL la K)).length : Int) = K by rw [ofL_length]; unfold nn; omega)
  generalize ofL K (pairsL la K) = p at *
  have n0 : K ≠ 0 := by omega
  have wx : IntKind.i64.wrap (x : Int) = (x : Int) := IntWalk.i64_in _ (by omega)
  have wy : IntKind.i64.wrap (y : Int) = (y : Int) := IntWalk.i64_in _ (by omega)
  have wz : IntKind.i64.wrap (z : Int) = (z : Int) := IntWalk.i64_in _ (by omega)
  have x0 := Int.emod_nonneg (x : Int) n0
  have y0 := Int.emod_nonneg (y : Int) n0
  have z0 := Int.emod_nonneg (z : Int) n0
  have x1 := Int.emod_lt_of_pos (x : Int) k0
  have y1 := Int.emod_lt_of_pos (y : Int) k0
  have z1 := Int.emod_lt_of_pos (z : Int) k0
  go_quiet (fail)
  generalize (x : Int) % K = X at *
  generalize (y : Int) % K = Y at *
  generalize (z : Int) % K = Z at *
  have HB := Lib.hid (below_drewN HB.out nq)
  have HA := Lib.hid (HA.out.kept (below_drewN (Below.refl _ _) nq))
  have la := LA.out
  have aa : sameB p X X = true := by rw [sameB_in (thereB_of x0 x0 (by omega) (by omega))]; simp
  have ba : sameB p Y X = sameB p X Y := by
    rw [sameB_in (thereB_of y0 x0 (by omega) (by omega)), sameB_in (thereB_of x0 y0 (by omega) (by omega))]
    simp [eq_comm]
  have ak : sameB p X K = false := sameB_out (by omega)
  have am : sameB p (-1) X = false := sameB_out (by omega)
  have hT := Lib.hid (thereB_of (n := p.length) x0 y0 (by omega) (by omega))
  have ux : sameB (uniteL p X Y) X Y = true := by
    rw [sameB_in (by rw [uniteL_length]; exact hT.out), uniteL_joins p X Y hT.out]
    simp
  have hlen := Lib.hid (show p.length ≤ 65536 by omega)
  have hTR := Lib.hid (show sameB p X Y = true → sameB p Y Z = true → sameB p X Z = true by
    rw [sameB_in (thereB_of x0 y0 (by omega) (by omega)), sameB_in (thereB_of y0 z0 (by omega) (by omega)), sameB_in (thereB_of x0 z0 (by omega) (by omega))]
    simp only [decide_eq_true_eq]
    exact fun h1 h2 => h1.trans h2)
  have hcl := cls_le p p.length
  have hpl : p.length ≤ 40 := by omega
  have HIS := Lib.hid (sameB_in hT.out)
  clear la x0 x1 y0 y1 z0 z1 wx wy wz k0 k1 LA
  obtain ⟨C, hC⟩ : ∃ C, C = cls p p.length := ⟨_, rfl⟩
  rw [← hC] at hcl
  have wC : IntKind.i64.wrap ((C : Int) - 1) = (C : Int) - 1 := IntWalk.i64_in _ (by omega)
  have wC0 : IntKind.i64.wrap (C : Int) = (C : Int) := IntWalk.i64_in _ (by omega)
  have tC0 : ((C : Int) == (C : Int)) = true := by simp
  cases h1 : sameB p X Y
  · have MV := unite_moves GA.out hT.out (by have z := HIS.out; rw [h1] at z; exact of_decide_eq_false z.symm)
    have e1 : decide (uniteL p X Y = p) = false := decide_eq_false MV.1
    obtain ⟨D, hD⟩ : ∃ D, D = cls (uniteL p X Y) (uniteL p X Y).length := ⟨_, rfl⟩
    have e2 := MV.2
    rw [← hD, ← hC] at e2
    have tD : ((D : Int) == (C : Int) - 1) = true := by simp; omega
    have HC := Lib.hid hC
    have HD := Lib.hid hD
    clear MV hC hD HIS hTR e2
    rw [h1] at ba
    go_wp2_with first
      | (go_at_call 13
         (with_reducible refine (unite_rows _ _ p X Y _ HA.out hlen.out).mono ?_)
         rintro e w' ⟨P1, z1, rfl, _, hp, hb⟩
         have HU := Lib.hid hp
         clear hp
         have HA := Lib.hid (HA.out.kept hb)
         have HB := Lib.hid (below_next HB.out hb HB.out.size)
         clear hb)
      | (go_at_call 14
         (with_reducible refine (same_any _ _ p _ _ _ HA.out).mono ?_)
         rintro e w' ⟨rfl, hb⟩
         have HA := Lib.hid (HA.out.kept hb)
         have HU := Lib.hid (HU.out.kept hb)
         have HB := Lib.hid (below_next HB.out hb HB.out.size)
         clear hb)
      | (go_at_call 14
         (with_reducible refine (same_any _ _ p _ _ _ HA.out).mono ?_)
         rintro e w' ⟨rfl, hb⟩
         have HA := Lib.hid (HA.out.kept hb)
         have HB := Lib.hid (below_next HB.out hb HB.out.size)
         clear hb)
      | (go_at_call 14
         (with_reducible refine (same_any _ _ (uniteL p X Y) _ _ _ HU.out).mono ?_)
         rintro e w' ⟨rfl, hb⟩
         have HA := Lib.hid (HA.out.kept hb)
         have HU := Lib.hid (HU.out.kept hb)
         have HB := Lib.hid (below_next HB.out hb HB.out.size)
         clear hb)
      | (go_at_call 11
         (with_reducible refine (ints_any _ _ _ _ _ _ _ _ _ HU.out HA.out).mono ?_)
         rintro e w' ⟨rfl, hq⟩
         have hb := below_ex hq
         rw [e1]
         have HA := Lib.hid (HA.out.kept hb)
         have HU := Lib.hid (HU.out.kept hb)
         have HB := Lib.hid (below_next HB.out hb HB.out.size)
         clear hb)
      | (go_at_call 15
         (with_reducible refine (classes_any _ _ (uniteL p X Y) _ HU.out).mono ?_)
         rintro e w' ⟨rfl, hq⟩
         have hb := below_ex hq
         rw [← HD.out]
         have HA := Lib.hid (HA.out.kept hb)
         have HU := Lib.hid (HU.out.kept hb)
         have HB := Lib.hid (below_next HB.out hb HB.out.size)
         clear hb)
      | (go_at_call 15
         (with_reducible refine (classes_any _ _ p _ HA.out).mono ?_)
         rintro e w' ⟨rfl, hq⟩
         have hb := below_ex hq
         rw [← HC.out]
         have HA := Lib.hid (HA.out.kept hb)
         have HU := Lib.hid (HU.out.kept hb)
         have HB := Lib.hid (below_next HB.out hb HB.out.size)
         clear hb)
      | (go_at_call 9
         (with_reducible refine (awake_any _).mono ?_)
         rintro e w' ⟨rfl, hb⟩
         have HA := Lib.hid (HA.out.kept hb)
         have HB := Lib.hid (below_next HB.out hb HB.out.size)
         clear hb)
    go_ret
    exact ⟨rfl, HB.out⟩
  · have e0 : uniteL p X Y = p := uniteL_stay fun _ => by have z := HIS.out; rw [h1] at z; exact of_decide_eq_true z.symm
    have e1 : decide (uniteL p X Y = p) = true := decide_eq_true e0
    have HC := Lib.hid hC
    have HD := Lib.hid (show C = cls (uniteL p X Y) (uniteL p X Y).length by rw [e0]; exact hC)
    clear hC HIS e0
    rw [h1] at ba
    have hTR := Lib.hid (hTR.out h1)
    cases h2 : sameB p Y Z <;> cases h3 : sameB p X Z <;>
    first
      | (exfalso; have z := hTR.out h2; rw [h3] at z; exact absurd z (by decide))
      | (clear hTR
         go_wp2_with first
           | (go_at_call 13
              (with_reducible refine (unite_rows _ _ p X Y _ HA.out hlen.out).mono ?_)
              rintro e w' ⟨P1, z1, rfl, _, hp, hb⟩
              have HU := Lib.hid hp
              clear hp
              have HA := Lib.hid (HA.out.kept hb)
              have HB := Lib.hid (below_next HB.out hb HB.out.size)
              clear hb)
           | (go_at_call 14
              (with_reducible refine (same_any _ _ p _ _ _ HA.out).mono ?_)
              rintro e w' ⟨rfl, hb⟩
              have HA := Lib.hid (HA.out.kept hb)
              have HU := Lib.hid (HU.out.kept hb)
              have HB := Lib.hid (below_next HB.out hb HB.out.size)
              clear hb)
           | (go_at_call 14
              (with_reducible refine (same_any _ _ p _ _ _ HA.out).mono ?_)
              rintro e w' ⟨rfl, hb⟩
              have HA := Lib.hid (HA.out.kept hb)
              have HB := Lib.hid (below_next HB.out hb HB.out.size)
              clear hb)
           | (go_at_call 14
              (with_reducible refine (same_any _ _ (uniteL p X Y) _ _ _ HU.out).mono ?_)
              rintro e w' ⟨rfl, hb⟩
              have HA := Lib.hid (HA.out.kept hb)
              have HU := Lib.hid (HU.out.kept hb)
              have HB := Lib.hid (below_next HB.out hb HB.out.size)
              clear hb)
           | (go_at_call 11
              (with_reducible refine (ints_any _ _ _ _ _ _ _ _ _ HU.out HA.out).mono ?_)
              rintro e w' ⟨rfl, hq⟩
              have hb := below_ex hq
              rw [e1]
              have HA := Lib.hid (HA.out.kept hb)
              have HU := Lib.hid (HU.out.kept hb)
              have HB := Lib.hid (below_next HB.out hb HB.out.size)
              clear hb)
           | (go_at_call 15
              (with_reducible refine (classes_any _ _ (uniteL p X Y) _ HU.out).mono ?_)
              rintro e w' ⟨rfl, hq⟩
              have hb := below_ex hq
              rw [← HD.out]
              have HA := Lib.hid (HA.out.kept hb)
              have HU := Lib.hid (HU.out.kept hb)
              have HB := Lib.hid (below_next HB.out hb HB.out.size)
              clear hb)
           | (go_at_call 15
              (with_reducible refine (classes_any _ _ p _ HA.out).mono ?_)
              rintro e w' ⟨rfl, hq⟩
              have hb := below_ex hq
              rw [← HC.out]
              have HA := Lib.hid (HA.out.kept hb)
              have HU := Lib.hid (HU.out.kept hb)
              have HB := Lib.hid (below_next HB.out hb HB.out.size)
              clear hb)
           | (go_at_call 9
              (with_reducible refine (awake_any _).mono ?_)
              rintro e w' ⟨rfl, hb⟩
              have HA := Lib.hid (HA.out.kept hb)
              have HB := Lib.hid (below_next HB.out hb HB.out.size)
              clear hb)
         go_ret
         exact ⟨rfl, HB.out⟩)
end Go.Proofs.Ytffhaeefldbahaa
