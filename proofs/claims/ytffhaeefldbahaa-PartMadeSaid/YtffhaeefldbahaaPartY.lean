/-
The law's function PartMade returns true for every number, two lists of bytes and two elements, and changes nothing that was there before.
-/
import Derived.Test.YtffhaeefldbahaaPartX
import Derived.Test.YtffhaeefldbahaaPartQ
import Derived.StillTailTactics
namespace Go.Proofs.Ytffhaeefldbahaa
open Go.RowKit
attribute [local go_sem ↓] Go.wp_at_zero Go.wp_at_succ
theorem cellsP_add (a b : Pairs) : cellsP (a ++ b) = cellsP a ++ cellsP b := by simp [cellsP]
theorem oneP (ps : Pairs) : ∀ u ∈ cellsP ps, u.oneCell' = true := by
  intro u hu
  obtain ⟨p, _, hp⟩ := List.mem_flatMap.1 hu
  simp at hp
  rcases hp with rfl | rfl <;> rfl
set_option maxHeartbeats 8000000 in
theorem partMade_small (A B : Option Addr) (n x y : Nat) (la lb : List Int) (c d : Nat) (w : World) (hr : RowB w A la) (hs : RowB w B lb) (hn : n ≤ 255) (hx : x ≤ 255) (hy : y ≤ 255) (ha : la.length ≤ 80) (hb : lb.length ≤ 80) :
    Calls Try.prog 8 #[.int .u8 n, .slice A la.length c, .slice B lb.length d, .int .u8 x, .int .u8 y] w (BoolP true w) := by
  have HB := Lib.hid (Below.refl w.heap.size w)
  have HR := Lib.hid hr
  have HS := Lib.hid hs
  clear hr hs
  go_enter Try.func8, Try.ntmps8
  go_wp2_with fail
  obtain ⟨K, hK⟩ : ∃ K, K = ((n : Int) % 40) := ⟨_, rfl⟩
  rw [← hK]
  have k0 : 0 ≤ K := by omega
  have k1 : K < 40 := by omega
  clear hK
  refine (pairs_row _ _ la K _ HR.out (by omega) (by omega)).mono ?_
  rintro e w1 ⟨P, pc, rfl, hp, hb1⟩
  have HP := Lib.hid hp
  have HI := Lib.hid (pairsL_in (n := K) HR.out (by omega))
  have HS := Lib.hid (HS.out.kept hb1)
  have HB := Lib.hid hb1
  have hpl := pairsL_length la K
  clear hp hb1 HR
  generalize pairsL la K = ps at *
  go_wp2_with fail
  refine (pairs_row _ _ lb K _ HS.out (by omega) (by omega)).mono ?_
  rintro e w2 ⟨Q, qc, rfl, hq, hb2⟩
  have HQ := Lib.hid hq
  have HJ := Lib.hid (pairsL_in (n := K) HS.out (by omega))
  have HP := Lib.hid (HP.out.kept hb2)
  have HB := Lib.hid (below_next HB.out hb2 HB.out.size)
  have hql := pairsL_length lb K
  clear hq hb2 HS
  generalize pairsL lb K = qs at *
  have hN : ps.length ≤ 80 := by omega
  have hM : qs.length ≤ 80 := by omega
  go_wp2_with fail
  refine (of_any K _ _ ps _ HP.out HI.out).mono ?_
  rintro e w3 ⟨R, rc, rfl, _, h1, hb3⟩
  have HA := Lib.hid h1
  have HP := Lib.hid (HP.out.kept hb3)
  have HQ := Lib.hid (HQ.out.kept hb3)
  have HB := Lib.hid (below_next HB.out hb3 HB.out.size)
  clear h1 hb3 hpl hql
  have O := below_alloc (Below.refl w3.heap.size w3) (.cells #[] 26)
  go_wp2_with first
    | (at_builtin
       refine append_row w3.heap.size rfl (.tmp 40) (.tmp 41) 24 26 (.agg #[.int .i64 0, .int .i64 0]) 2 16 rfl Try.underlying24 info26 rfl (by omega) (by omega) (.slice (some ⟨w3.heap.size, 0, none⟩) 0 0) 0 [] (cellsP ps) P ps.length pc rfl rfl (World.ownsRow_lit w3 #[] 0 (Nat.le_refl _) (by simp [maxLen]) rfl) (HP.out.kept O) (oneP _) (by simp) (by omega) ?_
       intro v1 w4 hown hg hat
       rw [Nat.zero_add, List.nil_append] at hown
       have hb4 : Below w3.heap.size w3 w4 := O.grown hg (by simp) (fun k hk => by simp [Value.ownBlock] at hk; omega)
       have HO := Lib.hid hown
       have H34 := Lib.hid hb4
       have HQ4 := Lib.hid (HQ.out.kept hb4)
       have hz4 := hb4.size
       clear hown hg hat hb4)
    | (at_builtin
       refine append_row w3.heap.size rfl (.tmp 42) (.tmp 43) 24 26 (.agg #[.int .i64 0, .int .i64 0]) 2 16 rfl Try.underlying24 info26 rfl (by omega) (by omega) v1 ps.length (cellsP ps) (cellsP qs) Q qs.length qc rfl rfl HO.out HQ4.out (oneP _) hz4 (by omega) ?_
       intro v2 w5 hown hg hat
       have hb5 := H34.out.grown hg hz4 (fun k hk => own_ge HO.out k hk)
       rw [← cellsP_add, ← List.length_append] at hown
       obtain ⟨S, sc, rfl, hrow⟩ := rowP_of_own (by rw [List.length_append]; omega) hown
       rw [List.length_append] at *
       have HT := Lib.hid hrow
       have HP := Lib.hid (HP.out.kept hb5)
       have HA := Lib.hid (HA.out.kept hb5)
       have HB := Lib.hid (below_next HB.out hb5 HB.out.size)
       clear hown hg hat hb5 hrow HQ HQ4)
  have hof := of_any K S sc (ps ++ qs) w5 HT.out (by
    intro p hp
    rcases List.mem_append.1 hp with h | h
    · exact HI.out p h
    · exact HJ.out p h)
  rw [List.length_append] at hof
  refine hof.mono ?_
  clear hof
  rintro e w6 ⟨U, uc, rfl, _, h1, hb6⟩
  have HC := Lib.hid h1
  have HP := Lib.hid (HP.out.kept hb6)
  have HA := Lib.hid (HA.out.kept hb6)
  have HB := Lib.hid (below_next HB.out hb6 HB.out.size)
  clear h1 hb6 HT O
  go_wp2_with fail
  refine (rnew_any K _).mono ?_
  rintro e w7 ⟨V, vc, rfl, _, h1, hb7⟩
  have HV := Lib.hid h1
  have HC := Lib.hid (HC.out.kept hb7)
  have HP := Lib.hid (HP.out.kept hb7)
  have HA := Lib.hid (HA.out.kept hb7)
  have HB := Lib.hid (below_next HB.out hb7 HB.out.size)
  clear h1 hb7
  go_wp2
  go_loopw [16, 17] (fun v i wr => ∃ (k : Nat), k ≤ ps.length ∧ i = .int .i64 (k : Int) ∧ (∃ B d, v = .slice B (ofL K (ps.take k)).length d ∧ RowI wr B (ofL K (ps.take k))) ∧ Below w7.heap.size w7 wr) (fun _ i _ => ps.length - (intOf i).toNat)
  case atStart => exact ⟨0, by omega, rfl, ⟨_, _, by rw [List.take_zero, ofL_nil], by rw [List.take_zero, ofL_nil]; exact HV.out⟩, Below.refl _ _⟩
  case round =>
    obtain ⟨k, hk, rfl, ⟨B2, d2, rfl, hrow⟩, hB⟩ := hrel
    have HV := Lib.hid hrow
    have HB2 := Lib.hid hB
    have hsz := hB.size
    clear hrow
    by_cases hlt : k < ps.length
    · obtain ⟨ad, rfl, hc, hd⟩ := (HP.out.kept hB).at k hlt
      have HT := Lib.hid (takeP ps k hlt)
      obtain ⟨p, hpe⟩ : ∃ p, p = ps.getD k (0, 0) := ⟨_, rfl⟩
      rw [← hpe] at hc hd HT
      clear hpe hB
      have p1 : (0 : Int) ≤ (k : Int) := by omega
      have p2 : (k : Int) < (ps.length : Int) := by omega
      have hd' : wr.cell? ⟨(ad.add (k * 2)).block, (ad.add (k * 2)).off + 1, none⟩ = some (.int .i64 p.2) := by
        have e : (ad.add (k * 2)).add 1 = ⟨(ad.add (k * 2)).block, (ad.add (k * 2)).off + 1, none⟩ := by
          unfold Addr.add
          simp
        rw [← e, Addr.add_add]
        exact hd
      go_wp2
      go_still_tail 11, (by kernel_rfl)
      change wpList _ _ _ _ _ wr.drew
      have HV := Lib.hid (HV.out.kept (below_drew (Below.refl _ _)))
      have HB2 := Lib.hid (below_drew HB2.out)
      go_wp2_with fail
      refine (runite_rows B2 d2 (ofL K (ps.take k)) p.1 p.2 _ HV.out (by rw [ofL_length]; exact nn_le K)).mono ?_
      rintro e w8 ⟨B3, d3, rfl, _, h3, hb8⟩
      have HV3 := Lib.hid h3
      have HB3 := Lib.hid (below_next HB2.out hb8 HB2.out.size)
      have HE := Lib.hid (ofL_snoc K (ps.take k) p)
      clear h3 hb8
      go_wp2
      go_roundw
      case rel => exact ⟨k + 1, by omega, by go_num, ⟨B3, d3, by rw [HT.out, HE.out], by rw [HT.out, HE.out]; exact HV3.out⟩, HB3.out⟩
      case measure => simp [intOf]; omega
    · obtain rfl : k = ps.length := by omega
      have HE := Lib.hid (show ps.take ps.length = ps from List.take_length)
      have HV := Lib.hid (by have h := HV.out; rw [HE.out] at h; exact h)
      have HA := Lib.hid (HA.out.kept hB)
      have HC := Lib.hid (HC.out.kept hB)
      have HB := Lib.hid (below_next HB.out hB HB.out.size)
      have m1 := may_ofL K ps
      have m2 := may_ofL K (ps ++ qs)
      have m3 := le_more K ps qs
      have RA := Lib.hid (good_range (good_ofL K ps))
      have m4 : decide ((cls (ofL K (ps ++ qs)) (ofL K (ps ++ qs)).length : Int) ≤ (cls (ofL K ps) (ofL K ps).length : Int)) = true := by
        have := cls_more K ps qs
        simp only [decide_eq_true_eq]
        omega
      have m6 := cls_more K ps qs
      have m7 : (cls (ofL K (ps ++ qs)) (ofL K (ps ++ qs)).length : Int) ≤ (cls (ofL K ps) (ofL K ps).length : Int) := by omega
      have m5 : (sameB (ofL K ps) (x : Int) (y : Int) == sameB (ofL K ps) (x : Int) (y : Int)) = true := by simp
      clear hB hsz
      rw [HE.out]
      go_wp2_with first
        | (go_at_call 19
           (with_reducible refine (may_any _ _ (ofL K ps) _ HA.out).mono ?_)
           rintro e w' ⟨rfl, hq⟩
           have hb := below_ex hq
           have HA := Lib.hid (HA.out.kept hb)
           have HC := Lib.hid (HC.out.kept hb)
           have HV := Lib.hid (HV.out.kept hb)
           have HB := Lib.hid (below_next HB.out hb HB.out.size)
           clear hb)
        | (go_at_call 19
           (with_reducible refine (may_any _ _ (ofL K (ps ++ qs)) _ HC.out).mono ?_)
           rintro e w' ⟨rfl, hq⟩
           have hb := below_ex hq
           have HA := Lib.hid (HA.out.kept hb)
           have HC := Lib.hid (HC.out.kept hb)
           have HV := Lib.hid (HV.out.kept hb)
           have HB := Lib.hid (below_next HB.out hb HB.out.size)
           clear hb)
        | (go_at_call 11
           (with_reducible refine (ints_any _ _ _ _ _ _ _ _ _ HA.out HV.out).mono ?_)
           rintro e w' ⟨rfl, hq⟩
           have hb := below_ex hq
           have HA := Lib.hid (HA.out.kept hb)
           have HC := Lib.hid (HC.out.kept hb)
           have HV := Lib.hid (HV.out.kept hb)
           have HB := Lib.hid (below_next HB.out hb HB.out.size)
           clear hb)
        | (go_at_call 16
           (with_reducible refine (le_any _ _ _ _ _ _ _ HA.out HC.out RA.out).mono ?_)
           rintro e w' ⟨rfl, hq⟩
           have hb := below_ex hq
           have HA := Lib.hid (HA.out.kept hb)
           have HC := Lib.hid (HC.out.kept hb)
           have HV := Lib.hid (HV.out.kept hb)
           have HB := Lib.hid (below_next HB.out hb HB.out.size)
           clear hb)
        | (go_at_call 15
           (with_reducible refine (classes_any _ _ (ofL K (ps ++ qs)) _ HC.out).mono ?_)
           rintro e w' ⟨rfl, hq⟩
           have hb := below_ex hq
           have HA := Lib.hid (HA.out.kept hb)
           have HC := Lib.hid (HC.out.kept hb)
           have HV := Lib.hid (HV.out.kept hb)
           have HB := Lib.hid (below_next HB.out hb HB.out.size)
           clear hb)
        | (go_at_call 15
           (with_reducible refine (classes_any _ _ (ofL K ps) _ HA.out).mono ?_)
           rintro e w' ⟨rfl, hq⟩
           have hb := below_ex hq
           have HA := Lib.hid (HA.out.kept hb)
           have HC := Lib.hid (HC.out.kept hb)
           have HV := Lib.hid (HV.out.kept hb)
           have HB := Lib.hid (below_next HB.out hb HB.out.size)
           clear hb)
        | (go_at_call 14
           (with_reducible refine (same_any _ _ (ofL K ps) _ _ _ HA.out).mono ?_)
           rintro e w' ⟨rfl, hb⟩
           have HA := Lib.hid (HA.out.kept hb)
           have HC := Lib.hid (HC.out.kept hb)
           have HV := Lib.hid (HV.out.kept hb)
           have HB := Lib.hid (below_next HB.out hb HB.out.size)
           clear hb)
        | (go_at_call 21
           (with_reducible refine (rsame_any _ _ (ofL K ps) _ _ _ HA.out).mono ?_)
           rintro e w' ⟨rfl, hb⟩
           have HA := Lib.hid (HA.out.kept hb)
           have HC := Lib.hid (HC.out.kept hb)
           have HV := Lib.hid (HV.out.kept hb)
           have HB := Lib.hid (below_next HB.out hb HB.out.size)
           clear hb)
        | (go_at_call 9
           (with_reducible refine (awake_any _).mono ?_)
           rintro e w' ⟨rfl, hb⟩
           have HA := Lib.hid (HA.out.kept hb)
           have HC := Lib.hid (HC.out.kept hb)
           have HV := Lib.hid (HV.out.kept hb)
           have HB := Lib.hid (below_next HB.out hb HB.out.size)
           clear hb)
      go_ret
      exact ⟨rfl, HB.out⟩
end Go.Proofs.Ytffhaeefldbahaa
