/-
The law's function PartJoin returns true for every number and two lists of bytes, and changes nothing that was there before.
-/
import Derived.Test.YtffhaeefldbahaaPartP
import Derived.Test.YtffhaeefldbahaaPartQ
import Derived.StillTailTactics
namespace Go.Proofs.Ytffhaeefldbahaa
open Go.RowKit
attribute [local go_sem ↓] Go.wp_at_zero Go.wp_at_succ
set_option maxHeartbeats 8000000 in
theorem partJoin_small (A B : Option Addr) (n : Nat) (la lb : List Int) (c d : Nat) (w : World) (hr : RowB w A la) (hs : RowB w B lb) (hn : n ≤ 255) (ha : la.length ≤ 40) (hb : lb.length ≤ 40) :
    Calls Try.prog 6 #[.int .u8 n, .slice A la.length c, .slice B lb.length d] w (BoolP true w) := by
  have HB := Lib.hid (Below.refl w.heap.size w)
  have HR := Lib.hid hr
  have HS := Lib.hid hs
  clear hr hs
  go_enter Try.func6, Try.ntmps6
  go_wp2_with fail
  obtain ⟨k, hk⟩ : ∃ k : Nat, (k : Int) = 1 + (n : Int) % 20 := ⟨1 + n % 20, by omega⟩
  rw [← hk]
  have k0 : 0 < k := by omega
  have k1 : k ≤ 20 := by omega
  clear hk
  refine (pairs_row _ _ la k _ HR.out (by omega) (by omega)).mono ?_
  rintro e w1 ⟨P, pc, rfl, hp, hb1⟩
  have HP := Lib.hid hp
  have HI := Lib.hid (pairsL_in (n := k) HR.out (by omega))
  have GI := Lib.hid (pairsL_range (k := k) HR.out k0)
  have HS := Lib.hid (HS.out.kept hb1)
  have HB := Lib.hid hb1
  have hpl := pairsL_length la k
  clear hp hb1 HR
  generalize pairsL la k = ps at *
  go_wp2_with fail
  refine (pairs_row _ _ lb k _ HS.out (by omega) (by omega)).mono ?_
  rintro e w2 ⟨Q, qc, rfl, hq, hb2⟩
  have HQ := Lib.hid hq
  have HJ := Lib.hid (pairsL_in (n := k) HS.out (by omega))
  have GJ := Lib.hid (pairsL_range (k := k) HS.out k0)
  have HP := Lib.hid (HP.out.kept hb2)
  have HB := Lib.hid (below_next HB.out hb2 HB.out.size)
  have hql := pairsL_length lb k
  clear hq hb2 HS
  generalize pairsL lb k = qs at *
  have hN : ps.length ≤ 40 := by omega
  have hM : qs.length ≤ 40 := by omega
  have O := below_alloc (Below.refl w2.heap.size w2) (.cells #[] 26)
  go_wp2_with first
    | (at_builtin
       refine append_row w2.heap.size rfl (.tmp 37) (.tmp 38) 24 26 (.agg #[.int .i64 0, .int .i64 0]) 2 16 rfl Try.underlying24 info26 rfl (by omega) (by omega) (.slice (some ⟨w2.heap.size, 0, none⟩) 0 0) 0 [] (cellsP ps) P ps.length pc rfl rfl (World.ownsRow_lit w2 #[] 0 (Nat.le_refl _) (by simp [maxLen]) rfl) (HP.out.kept O) (oneP _) (by simp) (by omega) ?_
       intro v1 w4 hown hg hat
       rw [Nat.zero_add, List.nil_append] at hown
       have hb4 : Below w2.heap.size w2 w4 := O.grown hg (by simp) (fun k hk => by simp [Value.ownBlock] at hk; omega)
       have HO := Lib.hid hown
       have H34 := Lib.hid hb4
       have HQ4 := Lib.hid (HQ.out.kept hb4)
       have hz4 := hb4.size
       clear hown hg hat hb4)
    | (at_builtin
       refine append_row w2.heap.size rfl (.tmp 39) (.tmp 40) 24 26 (.agg #[.int .i64 0, .int .i64 0]) 2 16 rfl Try.underlying24 info26 rfl (by omega) (by omega) v1 ps.length (cellsP ps) (cellsP qs) Q qs.length qc rfl rfl HO.out HQ4.out (oneP _) hz4 (by omega) ?_
       intro v2 w5 hown hg hat
       have hb5 := H34.out.grown hg hz4 (fun k hk => own_ge HO.out k hk)
       rw [← cellsP_add, ← List.length_append] at hown
       obtain ⟨S, sc, rfl, hrow⟩ := rowP_of_own (by rw [List.length_append]; omega) hown
       rw [List.length_append] at *
       have HT := Lib.hid hrow
       have HP := Lib.hid (HP.out.kept hb5)
       have HQ := Lib.hid (HQ.out.kept hb5)
       have HB := Lib.hid (below_next HB.out hb5 HB.out.size)
       clear hown hg hat hb5 hrow HQ4)
  clear O H34 HO hz4
  have hu : ((ps ++ qs).length : Int) = (ps.length + qs.length : Nat) := by rw [List.length_append]
  have HU := Lib.hid hu
  clear hu
  have hin : ∀ p ∈ ps ++ qs, In64 p := by
    intro p hp
    rcases List.mem_append.1 hp with h | h
    · exact HI.out p h
    · exact HJ.out p h
  have hof := of_any k S sc (ps ++ qs) w5 HT.out hin
  rw [List.length_append] at hof
  refine hof.mono ?_
  clear hof hin
  rintro e w6 ⟨U, uc, rfl, _, h1, hb6⟩
  have HC := Lib.hid h1
  have HP := Lib.hid (HP.out.kept hb6)
  have HQ := Lib.hid (HQ.out.kept hb6)
  have HT := Lib.hid (HT.out.kept hb6)
  have HB := Lib.hid (below_next HB.out hb6 HB.out.size)
  clear h1 hb6
  go_wp2_with fail
  refine (of_any k _ _ ps _ HP.out HI.out).mono ?_
  rintro e w7 ⟨R, rc, rfl, _, h1, hb7⟩
  have HA := Lib.hid h1
  have HC := Lib.hid (HC.out.kept hb7)
  have HQ := Lib.hid (HQ.out.kept hb7)
  have HT := Lib.hid (HT.out.kept hb7)
  have HB := Lib.hid (below_next HB.out hb7 HB.out.size)
  clear h1 hb7 HP
  go_wp2_with fail
  refine (of_any k _ _ qs _ HQ.out HJ.out).mono ?_
  rintro e w8 ⟨V, vc, rfl, _, h1, hb8⟩
  have HD := Lib.hid h1
  have HC := Lib.hid (HC.out.kept hb8)
  have HA := Lib.hid (HA.out.kept hb8)
  have HT := Lib.hid (HT.out.kept hb8)
  have HB := Lib.hid (below_next HB.out hb8 HB.out.size)
  clear h1 hb8 HQ HI HJ hpl hql
  have hnn : nn (k : Int) = k := by unfold nn; omega
  have GR := Lib.hid (show ∀ p ∈ ps ++ qs, 0 ≤ p.1 ∧ p.1 < k ∧ 0 ≤ p.2 ∧ p.2 < k by
    intro p hp
    rcases List.mem_append.1 hp with h | h
    · exact GI.out p h
    · exact GJ.out p h)
  clear GI GJ
  have GS := Lib.hid (rounds_same k (ps ++ qs) k hnn k0 GR.out)
  have m1 := may_ofL k (ps ++ qs)
  have m2 := le_more k ps qs
  have m3 := le_more' k ps qs
  have c1 := cls_more k ps qs
  have c2 := cls_more' k ps qs
  have RA := Lib.hid (good_range (good_ofL k ps))
  have RD := Lib.hid (good_range (good_ofL k qs))
  have LC := Lib.hid ((ofL_length k (ps ++ qs)).trans hnn)
  have t1 : (((ofL k (ps ++ qs)).length : Int) != (k : Int)) = false := by rw [LC.out]; simp
  clear hnn
  generalize ofL k (ps ++ qs) = p at *
  generalize ofL k ps = a at *
  generalize ofL k qs = b at *
  have hnb : (ps ++ qs).length ≤ 80 := by rw [List.length_append]; omega
  rw [show ps.length + qs.length = (ps ++ qs).length from List.length_append.symm]
  clear HU hN hM
  generalize ps ++ qs = both at *
  have kk := kmakeB k (by omega)
  have hsz8 := HB.out.size
  have mk0 : (madeCells #[Value.bool false] k)[0]? = some (Value.bool false) := by
    have hl : (madeCells #[Value.bool false] k).size = k := by rw [size_madeCells]; first | done | simp
    rw [Array.getElem?_eq_getElem (by omega)]
    simp [madeCells]
  have o0 := (own_made w8 w8.heap.size 4 (.bool false) k (Nat.le_refl _) (by omega)).stored 0 (.bool true)
  rw [bools_replicate, bools_set] at o0
  have HO := Lib.hid o0.1
  have HW := Lib.hid (((below_alloc (Below.refl w8.heap.size w8) (.cells (madeCells #[.bool false] k) 4))).setCell (p := ⟨w8.heap.size, 0, none⟩) (Nat.le_refl _) (.bool true))
  have he : (w8.alloc (.cells (madeCells #[.bool false] k) 4)).setCell ⟨w8.heap.size, 0, none⟩ (.bool true) = w8.alloc (.cells ((madeCells #[.bool false] k).setIfInBounds 0 (.bool true)) 4) := by go_simp
  rw [he] at HO HW
  clear o0 he
  go_wp2
  obtain ⟨g, hg⟩ : ∃ g, g = w8.heap.size := ⟨_, rfl⟩
  have HG := Lib.hid hg
  rw [← hg] at HO
  clear hg kk mk0
  obtain ⟨b0, hb0⟩ : ∃ b0, b0 = (List.replicate k false).set 0 true := ⟨_, rfl⟩
  have HL0 := Lib.hid (show b0.length = k by rw [hb0]; simp)
  rw [← hb0] at HO GS
  clear hb0
  rw [← HG.out]
  go_loopw [15, 16] (fun i _ wr => ∃ (r : Nat), r ≤ k ∧ i = .int .i64 (r : Int) ∧ wr.ownsRow g 4 1 (.slice (some ⟨g, 0, none⟩) k k) k (bools (rounds both b0 r)) ∧ Below w8.heap.size w8 wr) (fun i _ _ => k - (intOf i).toNat)
  case atStart => exact ⟨0, by omega, rfl, HO.out, HW.out⟩
  case round =>
    obtain ⟨r, hr, rfl, hown, hB⟩ := hrel
    have HO := Lib.hid hown
    have HW := Lib.hid hB
    clear hown hB
    by_cases hlt : r < k
    · have p1 : (r : Int) < (k : Int) := by omega
      go_wp2
      obtain ⟨cur, hcur⟩ : ∃ cur, cur = rounds both b0 r := ⟨_, rfl⟩
      have HCU := Lib.hid hcur
      have HLC := Lib.hid (show cur.length = k by rw [hcur, rounds_length, HL0.out])
      rw [← hcur] at HO
      clear hcur
      go_loopw [16] (fun j wr' => ∃ (t : Nat), t ≤ both.length ∧ j = .int .i64 (t : Int) ∧ wr'.ownsRow g 4 1 (.slice (some ⟨g, 0, none⟩) k k) k (bools (marks (both.take t) cur)) ∧ Below w8.heap.size w8 wr') (fun j _ => both.length - (intOf j).toNat)
      case atStart => exact ⟨0, by omega, rfl, HO.out, HW.out⟩
      case round =>
        obtain ⟨t, ht, rfl, hown, hB⟩ := hrel
        have HO := Lib.hid hown
        have HW := Lib.hid hB
        clear hown hB
        by_cases hlt2 : t < both.length
        · obtain ⟨ad, e, hc, hd⟩ := HT.out.at t hlt2
          have HTK := Lib.hid (takeP both t hlt2)
          have hrg := GR.out (both.getD t (0, 0)) (by rw [List.getD_eq_getElem?_getD, List.getElem?_eq_getElem hlt2]; exact List.getElem_mem hlt2)
          rw [two_off] at hd
          obtain ⟨⟨x, y⟩, hpe⟩ : ∃ q, q = both.getD t (0, 0) := ⟨_, rfl⟩
          rw [← hpe] at hc hd HTK hrg
          simp only at hc hd hrg
          obtain ⟨x, rfl⟩ := Int.eq_ofNat_of_zero_le hrg.1
          obtain ⟨y, rfl⟩ := Int.eq_ofNat_of_zero_le hrg.2.2.1
          have x1 : (x : Int) < (k : Int) := hrg.2.1
          have y1 : (y : Int) < (k : Int) := hrg.2.2.2
          have x2 : x < k := by omega
          have y2 : y < k := by omega
          clear hrg hpe
          subst e
          obtain ⟨now, hnow⟩ : ∃ now, now = marks (both.take t) cur := ⟨_, rfl⟩
          have HNE := Lib.hid (show marks (both.take (t + 1)) cur = markP now ((x : Int), (y : Int)) by rw [HTK.out, hnow]; unfold marks; rw [List.foldl_append]; rfl)
          rw [← hnow] at HO
          clear hnow HTK
          have e0 := own_cell_bool HO.out x x2
          have e1 := own_cell_bool HO.out y y2
          have e2 := HO.out.frozenAt x
          have e3 := HO.out.frozenAt y
          have S1 := HO.out.stored x (.bool true)
          rw [bools_set] at S1
          have S2 := S1.1.stored y (.bool true)
          rw [bools_set] at S2
          have e4 := S1.1.frozenAt y
          have e5 := own_cell_bool S1.1 y y2
          have HS2 := Lib.hid S2.1
          have HB1 := Lib.hid (HW.out.setCell (p := ⟨g, x, none⟩) (by rw [HG.out]; exact Nat.le_refl _) (.bool true))
          have HB2 := Lib.hid (HB1.out.setCell (p := ⟨g, y, none⟩) (by rw [HG.out]; exact Nat.le_refl _) (.bool true))
          have hd1 := cell_kept HB1.out hd
          have hc := cell_kept HW.out hc
          have hd := cell_kept HW.out hd
          clear S1 S2
          have p2 : (t : Int) < (both.length : Int) := by omega
          have q1 : (0 : Int) ≤ (t : Int) := by omega
          have hsz := HW.out.size
          cases h1 : bget now x
          · cases h2 : bget now y
            · rw [h1] at e0
              rw [h2] at e1
              have HM := Lib.hid (show markP now ((x : Int), (y : Int)) = now by unfold markP; simp [h1, h2])
              go_wp2
              go_roundw
              case rel => exact ⟨t + 1, by omega, by go_num, by rw [HNE.out, HM.out]; exact HO.out, HW.out⟩
              case measure => simp [intOf]; omega
            · rw [h1] at e0
              rw [h2] at e1
              have HM := Lib.hid (show markP now ((x : Int), (y : Int)) = (now.set x true).set y true by unfold markP; simp [h2])
              go_wp2
              go_roundw
              case rel => exact ⟨t + 1, by omega, by go_num, by rw [HNE.out, HM.out]; exact HS2.out, HB2.out⟩
              case measure => simp [intOf]; omega
          · rw [h1] at e0
            have HM := Lib.hid (show markP now ((x : Int), (y : Int)) = (now.set x true).set y true by unfold markP; simp [h1])
            clear e1
            go_wp2
            go_roundw
            case rel => exact ⟨t + 1, by omega, by go_num, by rw [HNE.out, HM.out]; exact HS2.out, HB2.out⟩
            case measure => simp [intOf]; omega
        · obtain rfl : t = both.length := by omega
          have HE := Lib.hid (show both.take both.length = both from List.take_length)
          go_wp2
          go_roundw
          case rel => exact ⟨r + 1, by omega, by go_num, by rw [rounds, ← HCU.out]; have := HO.out; rw [HE.out] at this; exact this, HW.out⟩
          case measure => simp [intOf]; omega
    · have HGS := Lib.hid (show ∀ j, j < k → bget (rounds both b0 r) j = sameB p 0 j by rw [show r = k by omega]; exact GS.out)
      generalize rounds both b0 r = fin at *
      have HC := Lib.hid (HC.out.kept HW.out)
      have HA := Lib.hid (HA.out.kept HW.out)
      have HD := Lib.hid (HD.out.kept HW.out)
      have HB := Lib.hid (below_next HB.out HW.out HB.out.size)
      go_wp2
      clear HW GR
      go_loopw [17] (fun i w9 => ∃ (j : Nat), j ≤ k ∧ i = .int .i64 (j : Int) ∧ Below wr.heap.size wr w9) (fun i _ => k - (intOf i).toNat)
      case atStart => exact ⟨0, by omega, rfl, Below.refl _ _⟩
      case round =>
        obtain ⟨j, hj, rfl, hB⟩ := hrel
        have HY := Lib.hid hB
        clear hB
        by_cases hlt3 : j < k
        · have e0 := cell_kept HY.out (own_cell_bool HO.out j hlt3)
          rw [HGS.out j hlt3] at e0
          obtain ⟨s, hs⟩ : ∃ s, s = sameB p 0 j := ⟨_, rfl⟩
          have HS := Lib.hid hs
          rw [← hs] at e0
          clear hs
          have t2 : (s != s) = false := by simp
          have p1 : (j : Int) < (k : Int) := by omega
          have q1 : (0 : Int) ≤ (j : Int) := by omega
          have HP9 := Lib.hid (HC.out.kept HY.out)
          go_wp2
          go_region_held3 (fun w' => w'.cell? ⟨g, j, none⟩ = some (.bool s) ∧ Below wr.heap.size wr w')
            (first | (go_split_ands; refine ⟨cell_kept hb (by assumption), below_next (by assumption) hb (Below.size (by assumption))⟩) | (refine ⟨by go_simp, below_drew (Below.refl _ _)⟩) | (refine ⟨by go_simp, below_drewN (Below.refl _ _) 1⟩) | go_keep)
            (first | (go_at_call 14; (with_reducible refine (same_any _ _ p _ _ _ (HP9.out.kept (And.right (by assumption)))).mono ?_); rintro e w' ⟨rfl, hb⟩; rw [← HS.out]))
          go_wp2
          go_roundw
          case rel => exact ⟨j + 1, by omega, by go_num, below_next HY.out (And.right (by assumption)) HY.out.size⟩
          case measure => simp [intOf]; omega
        · have m4 : decide ((cls p p.length : Int) ≤ min (cls a a.length : Int) (cls b b.length : Int)) = true := by
            simp only [decide_eq_true_eq]
            omega
          have m7 : (cls p p.length : Int) ≤ min (cls a a.length : Int) (cls b b.length : Int) := by omega
          have HA := Lib.hid (HA.out.kept HY.out)
          have HC := Lib.hid (HC.out.kept HY.out)
          have HD := Lib.hid (HD.out.kept HY.out)
          have HB := Lib.hid (below_next HB.out HY.out HB.out.size)
          clear hsz8
          go_wp2_with first
            | (go_at_call 16
               (with_reducible refine (le_any _ _ _ _ _ _ _ HA.out HC.out RA.out).mono ?_)
               rintro e w' ⟨rfl, hb⟩
               have hb := below_ex hb
               have HA := Lib.hid (HA.out.kept hb)
               have HC := Lib.hid (HC.out.kept hb)
               have HD := Lib.hid (HD.out.kept hb)
               have HB := Lib.hid (below_next HB.out hb HB.out.size)
               clear hb)
            | (go_at_call 16
               (with_reducible refine (le_any _ _ _ _ _ _ _ HD.out HC.out RD.out).mono ?_)
               rintro e w' ⟨rfl, hb⟩
               have hb := below_ex hb
               have HA := Lib.hid (HA.out.kept hb)
               have HC := Lib.hid (HC.out.kept hb)
               have HD := Lib.hid (HD.out.kept hb)
               have HB := Lib.hid (below_next HB.out hb HB.out.size)
               clear hb)
            | (go_at_call 15
               (with_reducible refine (classes_any _ _ p _ HC.out).mono ?_)
               rintro e w' ⟨rfl, hb⟩
               have hb := below_ex hb
               have HA := Lib.hid (HA.out.kept hb)
               have HC := Lib.hid (HC.out.kept hb)
               have HD := Lib.hid (HD.out.kept hb)
               have HB := Lib.hid (below_next HB.out hb HB.out.size)
               clear hb)
            | (go_at_call 15
               (with_reducible refine (classes_any _ _ a _ HA.out).mono ?_)
               rintro e w' ⟨rfl, hb⟩
               have hb := below_ex hb
               have HA := Lib.hid (HA.out.kept hb)
               have HC := Lib.hid (HC.out.kept hb)
               have HD := Lib.hid (HD.out.kept hb)
               have HB := Lib.hid (below_next HB.out hb HB.out.size)
               clear hb)
            | (go_at_call 15
               (with_reducible refine (classes_any _ _ b _ HD.out).mono ?_)
               rintro e w' ⟨rfl, hb⟩
               have hb := below_ex hb
               have HA := Lib.hid (HA.out.kept hb)
               have HC := Lib.hid (HC.out.kept hb)
               have HD := Lib.hid (HD.out.kept hb)
               have HB := Lib.hid (below_next HB.out hb HB.out.size)
               clear hb)
            | (go_at_call 18
               (with_reducible refine (mayPart_any _ _ p _ HC.out).mono ?_)
               rintro e w' ⟨rfl, hb⟩
               have hb := below_ex hb
               have HA := Lib.hid (HA.out.kept hb)
               have HC := Lib.hid (HC.out.kept hb)
               have HD := Lib.hid (HD.out.kept hb)
               have HB := Lib.hid (below_next HB.out hb HB.out.size)
               clear hb)
            | (go_at_call 9
               (with_reducible refine (awake_any _).mono ?_)
               rintro e w' ⟨rfl, hb⟩
               have HA := Lib.hid (HA.out.kept hb)
               have HC := Lib.hid (HC.out.kept hb)
               have HD := Lib.hid (HD.out.kept hb)
               have HB := Lib.hid (below_next HB.out hb HB.out.size)
               clear hb)
          all_goals
            go_ret
            exact ⟨rfl, HB.out⟩
end Go.Proofs.Ytffhaeefldbahaa
