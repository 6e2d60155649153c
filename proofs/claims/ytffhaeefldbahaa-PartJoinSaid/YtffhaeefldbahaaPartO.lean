/-
The law's function PartLe returns true for every number and three lists of bytes, and changes nothing that was there before.
-/
import Derived.Test.YtffhaeefldbahaaPartN
namespace Go.Proofs.Ytffhaeefldbahaa
open Go.RowKit
attribute [local go_sem ↓] Go.wp_at_zero Go.wp_at_succ
set_option maxHeartbeats 8000000 in
theorem partLe_small (A B C : Option Addr) (n : Nat) (la lb lc : List Int) (c d f : Nat) (w : World) (hr : RowB w A la) (hs : RowB w B lb) (ht : RowB w C lc) (hn : n ≤ 255) (ha : la.length ≤ 40) (hb : lb.length ≤ 40) (hc : lc.length ≤ 40) :
    Calls Try.prog 5 #[.int .u8 n, .slice A la.length c, .slice B lb.length d, .slice C lc.length f] w (BoolP true w) := by
  have HB := Lib.hid (Below.refl w.heap.size w)
  have HR := Lib.hid hr
  have HS := Lib.hid hs
  have HT := Lib.hid ht
  clear hr hs ht
  go_enter Try.func5, Try.ntmps5
  go_wp2_with fail
  obtain ⟨K, hK⟩ : ∃ K, K = ((n : Int) % 20) := ⟨_, rfl⟩
  rw [← hK]
  have k0 : 0 ≤ K := by omega
  have k1 : K < 20 := by omega
  clear hK
  go_wp2_with first
    | (go_at_call 10
       (with_reducible refine (pairs_row _ _ la K _ HR.out (by omega) (by omega)).mono ?_)
       rintro e w' ⟨P1, z1, rfl, hp, hb⟩
       have HP1 := Lib.hid hp
       have HI1 := Lib.hid (pairsL_in (n := K) HR.out (by omega))
       clear hp
       have HR := Lib.hid (HR.out.kept hb)
       have HS := Lib.hid (HS.out.kept hb)
       have HT := Lib.hid (HT.out.kept hb)
       have HB := Lib.hid (below_next HB.out hb HB.out.size)
       clear hb)
    | (go_at_call 12
       (with_reducible refine (of_any K _ _ (pairsL la K) _ HP1.out HI1.out).mono ?_)
       rintro e w' ⟨P1, z1, rfl, _, hp, hb⟩
       have HA := Lib.hid hp
       clear hp HP1
       have HR := Lib.hid (HR.out.kept hb)
       have HS := Lib.hid (HS.out.kept hb)
       have HT := Lib.hid (HT.out.kept hb)
       have HB := Lib.hid (below_next HB.out hb HB.out.size)
       clear hb)
    | (go_at_call 10
       (with_reducible refine (pairs_row _ _ lb K _ HS.out (by omega) (by omega)).mono ?_)
       rintro e w' ⟨P1, z1, rfl, hp, hb⟩
       have HP2 := Lib.hid hp
       have HI2 := Lib.hid (pairsL_in (n := K) HS.out (by omega))
       clear hp
       have HR := Lib.hid (HR.out.kept hb)
       have HS := Lib.hid (HS.out.kept hb)
       have HT := Lib.hid (HT.out.kept hb)
       have HA := Lib.hid (HA.out.kept hb)
       have HB := Lib.hid (below_next HB.out hb HB.out.size)
       clear hb)
    | (go_at_call 12
       (with_reducible refine (of_any K _ _ (pairsL lb K) _ HP2.out HI2.out).mono ?_)
       rintro e w' ⟨P1, z1, rfl, _, hp, hb⟩
       have HBb := Lib.hid hp
       clear hp HP2
       have HR := Lib.hid (HR.out.kept hb)
       have HS := Lib.hid (HS.out.kept hb)
       have HT := Lib.hid (HT.out.kept hb)
       have HA := Lib.hid (HA.out.kept hb)
       have HB := Lib.hid (below_next HB.out hb HB.out.size)
       clear hb)
    | (go_at_call 10
       (with_reducible refine (pairs_row _ _ lc K _ HT.out (by omega) (by omega)).mono ?_)
       rintro e w' ⟨P1, z1, rfl, hp, hb⟩
       have HP3 := Lib.hid hp
       have HI3 := Lib.hid (pairsL_in (n := K) HT.out (by omega))
       clear hp
       have HR := Lib.hid (HR.out.kept hb)
       have HS := Lib.hid (HS.out.kept hb)
       have HT := Lib.hid (HT.out.kept hb)
       have HA := Lib.hid (HA.out.kept hb)
       have HBb := Lib.hid (HBb.out.kept hb)
       have HB := Lib.hid (below_next HB.out hb HB.out.size)
       clear hb)
    | (go_at_call 12
       (with_reducible refine (of_any K _ _ (pairsL lc K) _ HP3.out HI3.out).mono ?_)
       rintro e w' ⟨P1, z1, rfl, _, hp, hb⟩
       have HCc := Lib.hid hp
       clear hp HP3
       have HR := Lib.hid (HR.out.kept hb)
       have HS := Lib.hid (HS.out.kept hb)
       have HT := Lib.hid (HT.out.kept hb)
       have HA := Lib.hid (HA.out.kept hb)
       have HBb := Lib.hid (HBb.out.kept hb)
       have HB := Lib.hid (below_next HB.out hb HB.out.size)
       clear hb)
  clear HR HS HT HI1 HI2 HI3
  have GA := Lib.hid (good_ofL K (pairsL la K))
  have GB := Lib.hid (good_ofL K (pairsL lb K))
  have GC := Lib.hid (good_ofL K (pairsL lc K))
  have LA := Lib.hid (ofL_length K (pairsL la K))
  generalize ofL K (pairsL la K) = a at *
  generalize ofL K (pairsL lb K) = b at *
  generalize ofL K (pairsL lc K) = cc at *
  have haa := leB_self GA.out
  have hna := leB_iota LA.out
  have TR := Lib.hid (fun h1 h2 => leB_trans (a := a) (b := b) (c := cc) GA.out h1 h2)
  have AN := Lib.hid (leB_both GA.out GB.out)
  have RA := Lib.hid (good_range GA.out)
  have RB := Lib.hid (good_range GB.out)
  have RN := Lib.hid (good_range (good_iota (nn K)))
  obtain ⟨eq, heq⟩ : ∃ eq, eq = decide (a = b) := ⟨_, rfl⟩
  have HEQ := Lib.hid heq
  rw [← heq] at AN
  clear heq
  cases h1 : leB a b <;> cases h2 : leB b cc <;> cases h3 : leB a cc <;> cases h4 : leB b a <;> cases h5 : eq <;>
    first
      | (exfalso; have z := AN.out; rw [h1, h4, h5] at z; exact absurd z (by decide))
      | (exfalso; have z := TR.out h1 h2; rw [h3] at z; exact absurd z (by decide))
      | (clear TR AN; go_wp2_with first
           | (go_at_call 16
              (with_reducible refine (le_any _ _ _ _ _ _ _ HA.out HA.out RA.out).mono ?_)
              rintro e w' ⟨rfl, hq⟩
              have hb := below_ex hq
              have HA := Lib.hid (HA.out.kept hb)
              have HBb := Lib.hid (HBb.out.kept hb)
              have HCc := Lib.hid (HCc.out.kept hb)
              have HB := Lib.hid (below_next HB.out hb HB.out.size)
              clear hb)
           | (go_at_call 16
              (with_reducible refine (le_any _ _ _ _ _ _ _ HA.out HBb.out RA.out).mono ?_)
              rintro e w' ⟨rfl, hq⟩
              have hb := below_ex hq
              have HA := Lib.hid (HA.out.kept hb)
              have HBb := Lib.hid (HBb.out.kept hb)
              have HCc := Lib.hid (HCc.out.kept hb)
              have HB := Lib.hid (below_next HB.out hb HB.out.size)
              clear hb)
           | (go_at_call 16
              (with_reducible refine (le_any _ _ _ _ _ _ _ HBb.out HCc.out RB.out).mono ?_)
              rintro e w' ⟨rfl, hq⟩
              have hb := below_ex hq
              have HA := Lib.hid (HA.out.kept hb)
              have HBb := Lib.hid (HBb.out.kept hb)
              have HCc := Lib.hid (HCc.out.kept hb)
              have HB := Lib.hid (below_next HB.out hb HB.out.size)
              clear hb)
           | (go_at_call 16
              (with_reducible refine (le_any _ _ _ _ _ _ _ HA.out HCc.out RA.out).mono ?_)
              rintro e w' ⟨rfl, hq⟩
              have hb := below_ex hq
              have HA := Lib.hid (HA.out.kept hb)
              have HBb := Lib.hid (HBb.out.kept hb)
              have HCc := Lib.hid (HCc.out.kept hb)
              have HB := Lib.hid (below_next HB.out hb HB.out.size)
              clear hb)
           | (go_at_call 16
              (with_reducible refine (le_any _ _ _ _ _ _ _ HBb.out HA.out RB.out).mono ?_)
              rintro e w' ⟨rfl, hq⟩
              have hb := below_ex hq
              have HA := Lib.hid (HA.out.kept hb)
              have HBb := Lib.hid (HBb.out.kept hb)
              have HCc := Lib.hid (HCc.out.kept hb)
              have HB := Lib.hid (below_next HB.out hb HB.out.size)
              clear hb)
           | (go_at_call 16
              (with_reducible refine (le_any _ _ _ _ _ _ _ HN.out HA.out RN.out).mono ?_)
              rintro e w' ⟨rfl, hq⟩
              have hb := below_ex hq
              have HA := Lib.hid (HA.out.kept hb)
              have HBb := Lib.hid (HBb.out.kept hb)
              have HCc := Lib.hid (HCc.out.kept hb)
              have HB := Lib.hid (below_next HB.out hb HB.out.size)
              clear hb)
           | (go_at_call 11
              (with_reducible refine (ints_any _ _ _ _ _ _ _ _ _ HA.out HBb.out).mono ?_)
              rintro e w' ⟨rfl, hq⟩
              have hb := below_ex hq
              rw [← HEQ.out, h5]
              have HA := Lib.hid (HA.out.kept hb)
              have HBb := Lib.hid (HBb.out.kept hb)
              have HCc := Lib.hid (HCc.out.kept hb)
              have HB := Lib.hid (below_next HB.out hb HB.out.size)
              clear hb)
           | (go_at_call 17
              (with_reducible refine (new_any _ _).mono ?_)
              rintro e w' ⟨P1, z1, rfl, _, hp, hb⟩
              have HN := Lib.hid hp
              clear hp
              have HA := Lib.hid (HA.out.kept hb)
              have HBb := Lib.hid (HBb.out.kept hb)
              have HCc := Lib.hid (HCc.out.kept hb)
              have HB := Lib.hid (below_next HB.out hb HB.out.size)
              clear hb)
           | (go_at_call 9
              (with_reducible refine (awake_any _).mono ?_)
              rintro e w' ⟨rfl, hb⟩
              have HA := Lib.hid (HA.out.kept hb)
              have HBb := Lib.hid (HBb.out.kept hb)
              have HCc := Lib.hid (HCc.out.kept hb)
              have HB := Lib.hid (below_next HB.out hb HB.out.size)
              clear hb)
         go_ret
         exact ⟨rfl, HB.out⟩)
end Go.Proofs.Ytffhaeefldbahaa
