/-
The law's function CufChains returns true for every two bytes, and changes nothing that was there before.
-/
import Derived.Test.YtcppmfmlafnmfaaCufK
namespace Go.Proofs.Ytcppmfmlafnmfaa
open Go.RowKit
attribute [local go_sem ↓] Go.wp_at_zero Go.wp_at_succ
theorem quiet_add {P : Program} {f : FuncId} {args : Array Value} {w : World} {q n : Nat} {v : Value} (h : Calls P f args (w.drewN (q + n)) (PureP v (w.drewN (q + n)))) : Calls P f args (w.drewN (q + n)) fun e w'' => e = .returned v ∧ ∃ m, w'' = w.drewN (q + m) :=
  h.mono fun _ _ ⟨he, m, hm⟩ => ⟨he, n + m, by rw [hm, World.drewN_drewN, Nat.add_assoc]⟩
set_option maxHeartbeats 8000000 in
theorem cufChains_any (n x : Nat) (w : World) (hn : n ≤ 255) (hx : x ≤ 255) : Calls Try.prog 7 #[.int .u8 (n : Int), .int .u8 (x : Int)] w (BoolP true w) := by
  obtain ⟨k, hk⟩ : ∃ k : Nat, (k : Int) = 1 + (n : Int) % 40 := ⟨1 + n % 40, by omega⟩
  have k0 : 0 < k := by omega
  have k1 : k ≤ 40 := by omega
  have kk := kmake k (by omega)
  have HK := Lib.hid hk
  clear hk
  go_enter Try.func7, Try.ntmps7
  go_wp2
  rw [← HK.out]
  go_region
  · obtain ⟨X, hX⟩ : ∃ X, X = ((w.alloc (.cells (madeCells #[.int .i64 0] k) 3)).alloc (.cells (madeCells #[.int .i64 0] k) 3)).drew := ⟨_, rfl⟩
    have o0 := own_kept (own_kept (own_made w w.heap.size 3 (.int .i64 0) k (Nat.le_refl _) (by omega)) (below_alloc (Below.refl _ _) (.cells (madeCells #[.int .i64 0] k) 3))) (below_drew (Below.refl _ _))
    have o1 := own_kept (own_made (w.alloc (.cells (madeCells #[.int .i64 0] k) 3)) w.heap.size 3 (.int .i64 0) k (by simp) (by omega)) (below_drew (Below.refl _ _))
    have hs1 : (w.alloc (.cells (madeCells #[.int .i64 0] k) 3)).heap.size = w.heap.size + 1 := by simp
    have HX := Lib.hid (show Below w.heap.size w X by rw [hX]; exact below_drew (((Below.refl _ _).alloc (Nat.le_refl _) _).alloc (by simp) _))
    rw [← hX] at o0 o1 ⊢
    rw [hs1] at o1
    rw [ints_replicate] at o0 o1
    clear hX hs1 kk
    have HU := Lib.hid o0
    have HP := Lib.hid o1
    clear o0 o1
    have hk64 : IntKind.i64.wrap ((k : Int) - 1) = (k : Int) - 1 := IntWalk.i64_in _ (by omega)
    go_wp2
    go_loopw [8] (fun v wr => ∃ (j : Nat), j ≤ k ∧ v = .int .i64 (j : Int) ∧ wr.ownsRow w.heap.size 3 1 (.slice (some ⟨w.heap.size, 0, none⟩) k k) k (ints (fillF chU k j)) ∧ wr.ownsRow w.heap.size 3 1 (.slice (some ⟨w.heap.size + 1, 0, none⟩) k k) k (ints (fillF chP k j)) ∧ Below w.heap.size w wr) (fun v _ => k - (intOf v).toNat)
    case atStart => exact ⟨0, by omega, rfl, by rw [fillF_zero]; exact HU.out, by rw [fillF_zero]; exact HP.out, HX.out⟩
    case round =>
      obtain ⟨j, hj, rfl, ho1, ho2, hB⟩ := hrel
      have HU := Lib.hid ho1
      have HP := Lib.hid ho2
      have HX := Lib.hid hB
      clear ho1 ho2 hB
      by_cases hlt : j < k
      · have p1 : (j : Int) < (k : Int) := by omega
        have p0 : (0 : Int) ≤ (j : Int) := by omega
        have c0 := own_cell_int HU.out j hlt
        have c1 := HU.out.frozenAt j
        by_cases hs : j + 1 ≤ k - 1
        · have hv : chU k j = ((j : Int) + 1) := by unfold chU; omega
          have hq : ¬ (k : Int) - 1 < (j : Int) + 1 := by omega
          have S1 := HU.out.stored j (.int .i64 ((j : Int) + 1))
          rw [ints_set, ← hv, fillF_step chU hlt, hv] at S1
          have HU1 := Lib.hid S1.1
          have HP1 := Lib.hid (own_set HP.out (p := ⟨w.heap.size, j, none⟩) (by simp) (.int .i64 ((j : Int) + 1)))
          have d0 := own_cell_int HP1.out j hlt
          have d1 := HP1.out.frozenAt j
          have hw : chP k j = (j : Int) / 3 := by unfold chP; omega
          have S2 := HP1.out.stored j (.int .i64 ((j : Int) / 3))
          rw [ints_set, ← hw, fillF_step chP hlt, hw] at S2
          have HP2 := Lib.hid S2.1
          have HU2 := Lib.hid (own_set HU1.out (p := ⟨w.heap.size + 1, j, none⟩) (by simp) (.int .i64 ((j : Int) / 3)))
          have HX2 := Lib.hid ((HX.out.setCell (p := ⟨w.heap.size, j, none⟩) (by simp) (.int .i64 ((j : Int) + 1))).setCell (p := ⟨w.heap.size + 1, j, none⟩) (by simp) (.int .i64 ((j : Int) / 3)))
          clear S1 S2 hv hw
          go_wp2
          go_roundw
          case rel => exact ⟨j + 1, by omega, by go_num, HU2.out, HP2.out, HX2.out⟩
          case measure => simp [intOf]; omega
          
        · have hv : chU k j = ((k : Int) - 1) := by unfold chU; omega
          have hq : (k : Int) - 1 < (j : Int) + 1 := by omega
          have S1 := HU.out.stored j (.int .i64 ((k : Int) - 1))
          rw [ints_set, ← hv, fillF_step chU hlt, hv] at S1
          have HU1 := Lib.hid S1.1
          have HP1 := Lib.hid (own_set HP.out (p := ⟨w.heap.size, j, none⟩) (by simp) (.int .i64 ((k : Int) - 1)))
          have d0 := own_cell_int HP1.out j hlt
          have d1 := HP1.out.frozenAt j
          have hw : chP k j = (j : Int) / 3 := by unfold chP; omega
          have S2 := HP1.out.stored j (.int .i64 ((j : Int) / 3))
          rw [ints_set, ← hw, fillF_step chP hlt, hw] at S2
          have HP2 := Lib.hid S2.1
          have HU2 := Lib.hid (own_set HU1.out (p := ⟨w.heap.size + 1, j, none⟩) (by simp) (.int .i64 ((j : Int) / 3)))
          have HX2 := Lib.hid ((HX.out.setCell (p := ⟨w.heap.size, j, none⟩) (by simp) (.int .i64 ((k : Int) - 1))).setCell (p := ⟨w.heap.size + 1, j, none⟩) (by simp) (.int .i64 ((j : Int) / 3)))
          clear S1 S2 hv hw
          go_wp2
          go_roundw
          case rel => exact ⟨j + 1, by omega, by go_num, HU2.out, HP2.out, HX2.out⟩
          case measure => simp [intOf]; omega
          
      · have hjk : k = j := by omega
        subst hjk
        have hU := HU.out
        have hP := HP.out
        rw [fillF_all] at hU hP
        have RU := Lib.hid (row_own (chain_length chU k) hU)
        have RP := Lib.hid (row_own (chain_length chP k) hP)
        have hone := (own_lt hP).2
        clear hU hP HU HP
        obtain ⟨a, ha⟩ : ∃ a : Nat, (a : Int) = (x : Int) % (k : Int) := ⟨x % k, by omega⟩
        have hak : a < k := by have := Int.emod_lt_of_pos (x : Int) (show (0 : Int) < (k : Int) by omega); omega
        have HA := Lib.hid ha
        clear ha
        go_wp2_with fail
        rw [← HA.out]
        refine (begin_chain a k hak _).mono ?_
        rintro e w8 ⟨rfl, hb⟩
        have RU := Lib.hid (RU.out.kept hb)
        have RU1 := Lib.hid RU.out
        have RP := Lib.hid (RP.out.kept hb)
        have HX := Lib.hid (below_next HX.out hb HX.out.size)
        have h8 := hb.size
        clear hb
        have HT := heap_alloc_new w8 (.cells #[.int .i64 1, .int .i64 (a : Int), .int .i64 0, .int .i64 1, .int .i64 (a : Int), .int .i64 0, .int .i64 0, .int .i64 0, .bool false, .int .i64 0] 31)
        obtain ⟨X9, hX9⟩ : ∃ X9, X9 = w8.alloc (.cells #[.int .i64 1, .int .i64 (a : Int), .int .i64 0, .int .i64 1, .int .i64 (a : Int), .int .i64 0, .int .i64 0, .int .i64 0, .bool false, .int .i64 0] 31) := ⟨_, rfl⟩
        rw [← hX9] at HT
        have RU := Lib.hid (RU.out.kept (below_alloc (Below.refl _ _) (.cells #[.int .i64 1, .int .i64 (a : Int), .int .i64 0, .int .i64 1, .int .i64 (a : Int), .int .i64 0, .int .i64 0, .int .i64 0, .bool false, .int .i64 0] 31)))
        have RP0 := Lib.hid RP.out
        have RU0 := Lib.hid RU1.out
        have RP := Lib.hid (RP.out.kept (below_alloc (Below.refl _ _) (.cells #[.int .i64 1, .int .i64 (a : Int), .int .i64 0, .int .i64 1, .int .i64 (a : Int), .int .i64 0, .int .i64 0, .int .i64 0, .bool false, .int .i64 0] 31)))
        have H89 := Lib.hid (show Below w8.heap.size w8 X9 by rw [hX9]; exact below_alloc (Below.refl _ _) _)
        rw [← hX9] at RU RP
        have CHI := Lib.hid (chain_ci k0 (by omega : k ≤ 65536))
        have t3 : (((k : Int) - 1) != ((k : Int) - 1)) = false := by simp
        go_wp2_with first
          | (go_at_call 19
             rw [← hX9]
             (with_reducible refine (may_ch _ _ _ _ CHI.out _ RU.out RP.out).mono ?_)
             rintro e w' ⟨rfl, q1, rfl⟩
             clear hX9)
          | (go_at_call 20
             (with_reducible refine (root_ch _ _ CHI.out a hak _ (RU.out.kept (below_drewN (Below.refl _ _) _))).mono ?_)
             rintro e w' ⟨rfl, q2, rfl⟩)
        have hlt2 : w.heap.size + 1 < w8.heap.size := by omega
        have HAK := Lib.hid hak
        clear hak
        go_loopw [12, 13, 14, 15] (fun c i _ _ wr => ∃ (m : Nat) (cells : List Int) (t : T) (B : Option Addr) (d : Nat), i = .int .i64 (m : Int) ∧ c = .slice B k d ∧ RowI wr B cells ∧ Ch k cells t ∧ (t.is = false → m + rem k t ≤ 3 * k) ∧ m ≤ 3 * k + 1 ∧ wr.heap[w8.heap.size]? = some (.cells (tcs t) 31 (0, 0)) ∧ (∀ a, B = some a → a.block ≠ w8.heap.size) ∧ Below w8.heap.size w8 wr) (fun _ i _ _ _ => 3 * k + 3 - (intOf i).toNat)
        case atStart => exact ⟨0, chain chU k, ⟨1, a, 0, 1, a, 0, 0, 0, false, 0⟩, _, _, rfl, rfl, RU.out.kept (below_drewN (Below.refl _ _) _), ch_begin k0 (by omega) HAK.out, fun _ => by have := rem_begin (at' := a) k0; omega, by omega, HT, fun b hb => by injection hb with hb; subst hb; simp only; omega, below_drewN H89.out _⟩
        case round =>
          obtain ⟨m, cells, t, B, d, rfl, rfl, hrow, hch, hrem, hm, hheap, hbl, hB⟩ := hrel
          have HR := Lib.hid hrow
          have HC := Lib.hid hch
          have HM := Lib.hid hrem
          have HB := Lib.hid hB
          have HL := Lib.hid hbl
          have HH := Lib.hid hheap
          have RPw := Lib.hid (RP0.out.kept hB)
          have hz := hB.size
          clear hrow hch hrem hheap hbl hB
          have p3 : (m : Int) < 3 * (k : Int) + 3 := by omega
          rcases hi : t.is with _ | _
          · have HM1 := Lib.hid (HM.out hi)
            have HS := Lib.hid (ch_step HC.out hi)
            have hc := step_ch B (some ⟨w.heap.size + 1, 0, none⟩) d k HC.out k0 (by omega) wr HR.out RPw.out
            obtain ⟨k', x', y', s', u', v', ww', r', is', res'⟩ := t
            simp only at hi
            subst hi
            obtain ⟨pr, hpr⟩ : ∃ pr, pr = stepL cells (chain chP k) ⟨k', x', y', s', u', v', ww', r', false, res'⟩ := ⟨_, rfl⟩
            rw [← hpr] at hc HS
            clear hpr
            obtain ⟨cells2, ⟨k2, x2, y2, s2, u2, v2, ww2, r2, is2, res2⟩⟩ := pr
            simp only [tv] at hc
            simp only at HS
            have HCC := Lib.hid hc
            clear hc
            have hh := HH.out
            simp only [tcs] at hh
            have D0 := cells10 hh
            have HH := Lib.hid hh
            clear hh
            obtain ⟨c0, c1, c2, c3, c4, c5, c6, c7, c8, c9, f0, f1, f2, f3, f4, f5, f6, f7, f8, f9⟩ := D0
            go_wp2_with fail
            refine HCC.out.mono ?_
            rintro e w2 ⟨C, d2, he, hrow2, hbl2, hb⟩
            simp only [tv] at he
            subst he
            have HR2 := Lib.hid hrow2
            have HL2 := Lib.hid hbl2
            have HH := Lib.hid ((hb.block w8.heap.size (World.block_lt_of_cell? _ _ c0)).trans HH.out)
            have RPw := Lib.hid (RPw.out.kept hb)
            have HB := Lib.hid (below_next HB.out hb HB.out.size)
            have hz2 := hb.size
            have hwr := World.block_lt_of_cell? _ _ c0
            simp only at hwr
            have D0 := cells10 HH.out
            clear hrow2 hbl2 hb c0 c1 c2 c3 c4 c5 c6 c7 c8 c9 f0 f1 f2 f3 f4 f5 f6 f7 f8 f9
            obtain ⟨c0, c1, c2, c3, c4, c5, c6, c7, c8, c9, f0, f1, f2, f3, f4, f5, f6, f7, f8, f9⟩ := D0
            have hlt9 : w8.heap.size < w2.heap.size := by omega
            go_wp2_with first
              | (go_at_call 14
                 (with_reducible refine (mayr_ch _ _ _ _ HS.out.1.ci _ (HR2.out.kept (below_alloc (Below.refl _ _) _)) (RPw.out.kept (below_alloc (Below.refl _ _) _))).mono ?_)
                 rintro e w' ⟨rfl, q', rfl⟩)
            obtain ⟨Y, hY⟩ : ∃ Y, Y = (w2.alloc (.cells #[.int .i64 k2, .int .i64 x2, .int .i64 y2, .int .i64 s2, .int .i64 u2, .int .i64 v2, .int .i64 ww2, .int .i64 r2, .bool is2, .int .i64 res2] 31)).drewN q' := ⟨_, rfl⟩
            have HY := Lib.hid (show Below w2.heap.size w2 Y by rw [hY]; exact below_drewN (below_alloc (Below.refl _ _) _) _)
            rw [← hY]
            clear hY
            have hs2 := HY.out.size
            have HH := Lib.hid ((HY.out.block w8.heap.size (by omega)).trans HH.out)
            have RZ : RowI (put10 Y w8.heap.size (.int .i64 k2) (.int .i64 x2) (.int .i64 y2) (.int .i64 s2) (.int .i64 u2) (.int .i64 v2) (.int .i64 ww2) (.int .i64 r2) (.bool is2) (.int .i64 res2)) C cells2 := row_other (HR2.out.kept HY.out) (fun b hb => by have := HL2.out b hb; omega) (fun z hz => put10_other Y hz (.int .i64 k2) (.int .i64 x2) (.int .i64 y2) (.int .i64 s2) (.int .i64 u2) (.int .i64 v2) (.int .i64 ww2) (.int .i64 r2) (.bool is2) (.int .i64 res2))
            have BZ := put10_below (below_next HB.out HY.out HB.out.size) (Nat.le_refl _) (.int .i64 k2) (.int .i64 x2) (.int .i64 y2) (.int .i64 s2) (.int .i64 u2) (.int .i64 v2) (.int .i64 ww2) (.int .i64 r2) (.bool is2) (.int .i64 res2)
            have HZ := put10_block HH.out (.int .i64 k2) (.int .i64 x2) (.int .i64 y2) (.int .i64 s2) (.int .i64 u2) (.int .i64 v2) (.int .i64 ww2) (.int .i64 r2) (.bool is2) (.int .i64 res2)
            have hm1 := HM1.out
            refine ⟨⟨m + 1, cells2, ⟨k2, x2, y2, s2, u2, v2, ww2, r2, is2, res2⟩, C, d2, by go_num, rfl, RZ, HS.out.1, fun h => ?_, by omega, HZ, fun b hb => ?_, BZ⟩, ?_⟩
            · have := HS.out.2 h
              omega
            · have := HL2.out b hb
              omega
            · simp [intOf]
              omega
          · obtain ⟨k', x', y', s', u', v', ww', r', is', res'⟩ := t
            simp only at hi
            subst hi
            have hres : res' = (k : Int) - 1 := HC.out.fin rfl
            subst hres
            have hh := HH.out
            simp only [tcs] at hh
            have D0 := cells10 hh
            clear hh
            obtain ⟨c0, c1, c2, c3, c4, c5, c6, c7, c8, c9, f0, f1, f2, f3, f4, f5, f6, f7, f8, f9⟩ := D0
            have RUw := Lib.hid (RU0.out.kept HB.out)
            have HXw := Lib.hid (below_next HX.out HB.out HX.out.size)
            go_wp2
            clear c0 c1 c2 c3 c4 c5 c6 c7 c8 c9 f0 f1 f2 f3 f4 f5 f6 f7 f8 f9
            go_loopw [16] (fun i w9 => ∃ (z q : Nat), z ≤ k ∧ i = .int .i64 (z : Int) ∧ w9 = wr.drewN q) (fun i _ => k - (intOf i).toNat)
            case atStart => exact ⟨0, 0, by omega, rfl, rfl⟩
            case round =>
              obtain ⟨z, q, hz, rfl, rfl⟩ := hrel
              by_cases hlt : z < k
              · obtain ⟨ad, rfl, hc1⟩ := RowI.at_nat HR.out z (by rw [HC.out.ci.len]; exact hlt)
                obtain ⟨bd, e, hc2⟩ := RowI.at_nat RUw.out z (by rw [chain_length]; exact hlt)
                injection e with e
                subst e
                rw [chain_getD _ hlt, add_plain] at hc2
                have hge := HC.out.ci.up z hlt
                generalize chU k z = cu at *
                generalize cells.getD z 0 = cz at *
                have t5 : decide (cz < cu) = false := by simp; omega
                have p1 : (z : Int) < (k : Int) := by omega
                have p0 : (0 : Int) ≤ (z : Int) := by omega
                have HLT := Lib.hid hlt
                clear hge hlt
                go_wp2
                go_quiet (first | (go_at_call 15; exact quiet_add (rroot_ch _ _ HC.out.ci z HLT.out _ (HR.out.kept (below_drewN (Below.refl _ _) _)))))
                go_wp2
                go_roundw
                case rel => exact ⟨z + 1, _, by have := HLT.out; omega, by go_num, by first | rfl | (simp only [World.drewN_drewN]; rfl)⟩
                case measure => simp [intOf]; have := HLT.out; omega
              · go_wp2_with (go_at_call 8; refine (awake_any _).mono ?_; rintro e w9 ⟨rfl, hb⟩)
                go_ret
                exact ⟨rfl, below_next (below_drewN HXw.out q) hb (below_drewN HXw.out q).size⟩
  · obtain ⟨X, hX⟩ : ∃ X, X = ((w.alloc (.cells (madeCells #[.int .i64 0] k) 3)).alloc (.cells (madeCells #[.int .i64 0] k) 3)).drew := ⟨_, rfl⟩
    have o0 := own_kept (own_kept (own_made w w.heap.size 3 (.int .i64 0) k (Nat.le_refl _) (by omega)) (below_alloc (Below.refl _ _) (.cells (madeCells #[.int .i64 0] k) 3))) (below_drew (Below.refl _ _))
    have o1 := own_kept (own_made (w.alloc (.cells (madeCells #[.int .i64 0] k) 3)) w.heap.size 3 (.int .i64 0) k (by simp) (by omega)) (below_drew (Below.refl _ _))
    have hs1 : (w.alloc (.cells (madeCells #[.int .i64 0] k) 3)).heap.size = w.heap.size + 1 := by simp
    have HX := Lib.hid (show Below w.heap.size w X by rw [hX]; exact below_drew (((Below.refl _ _).alloc (Nat.le_refl _) _).alloc (by simp) _))
    rw [← hX] at o0 o1 ⊢
    rw [hs1] at o1
    rw [ints_replicate] at o0 o1
    clear hX hs1 kk
    have HU := Lib.hid o1
    have HP := Lib.hid o0
    clear o0 o1
    have hk64 : IntKind.i64.wrap ((k : Int) - 1) = (k : Int) - 1 := IntWalk.i64_in _ (by omega)
    go_wp2
    go_loopw [8] (fun v wr => ∃ (j : Nat), j ≤ k ∧ v = .int .i64 (j : Int) ∧ wr.ownsRow w.heap.size 3 1 (.slice (some ⟨w.heap.size + 1, 0, none⟩) k k) k (ints (fillF chU k j)) ∧ wr.ownsRow w.heap.size 3 1 (.slice (some ⟨w.heap.size, 0, none⟩) k k) k (ints (fillF chP k j)) ∧ Below w.heap.size w wr) (fun v _ => k - (intOf v).toNat)
    case atStart => exact ⟨0, by omega, rfl, by rw [fillF_zero]; exact HU.out, by rw [fillF_zero]; exact HP.out, HX.out⟩
    case round =>
      obtain ⟨j, hj, rfl, ho1, ho2, hB⟩ := hrel
      have HU := Lib.hid ho1
      have HP := Lib.hid ho2
      have HX := Lib.hid hB
      clear ho1 ho2 hB
      by_cases hlt : j < k
      · have p1 : (j : Int) < (k : Int) := by omega
        have p0 : (0 : Int) ≤ (j : Int) := by omega
        have c0 := own_cell_int HU.out j hlt
        have c1 := HU.out.frozenAt j
        by_cases hs : j + 1 ≤ k - 1
        · have hv : chU k j = ((j : Int) + 1) := by unfold chU; omega
          have hq : ¬ (k : Int) - 1 < (j : Int) + 1 := by omega
          have S1 := HU.out.stored j (.int .i64 ((j : Int) + 1))
          rw [ints_set, ← hv, fillF_step chU hlt, hv] at S1
          have HU1 := Lib.hid S1.1
          have HP1 := Lib.hid (own_set HP.out (p := ⟨w.heap.size + 1, j, none⟩) (by simp) (.int .i64 ((j : Int) + 1)))
          have d0 := own_cell_int HP1.out j hlt
          have d1 := HP1.out.frozenAt j
          have hw : chP k j = (j : Int) / 3 := by unfold chP; omega
          have S2 := HP1.out.stored j (.int .i64 ((j : Int) / 3))
          rw [ints_set, ← hw, fillF_step chP hlt, hw] at S2
          have HP2 := Lib.hid S2.1
          have HU2 := Lib.hid (own_set HU1.out (p := ⟨w.heap.size, j, none⟩) (by simp) (.int .i64 ((j : Int) / 3)))
          have HX2 := Lib.hid ((HX.out.setCell (p := ⟨w.heap.size + 1, j, none⟩) (by simp) (.int .i64 ((j : Int) + 1))).setCell (p := ⟨w.heap.size, j, none⟩) (by simp) (.int .i64 ((j : Int) / 3)))
          clear S1 S2 hv hw
          go_wp2
          go_roundw
          case rel => exact ⟨j + 1, by omega, by go_num, HU2.out, HP2.out, HX2.out⟩
          case measure => simp [intOf]; omega
          
        · have hv : chU k j = ((k : Int) - 1) := by unfold chU; omega
          have hq : (k : Int) - 1 < (j : Int) + 1 := by omega
          have S1 := HU.out.stored j (.int .i64 ((k : Int) - 1))
          rw [ints_set, ← hv, fillF_step chU hlt, hv] at S1
          have HU1 := Lib.hid S1.1
          have HP1 := Lib.hid (own_set HP.out (p := ⟨w.heap.size + 1, j, none⟩) (by simp) (.int .i64 ((k : Int) - 1)))
          have d0 := own_cell_int HP1.out j hlt
          have d1 := HP1.out.frozenAt j
          have hw : chP k j = (j : Int) / 3 := by unfold chP; omega
          have S2 := HP1.out.stored j (.int .i64 ((j : Int) / 3))
          rw [ints_set, ← hw, fillF_step chP hlt, hw] at S2
          have HP2 := Lib.hid S2.1
          have HU2 := Lib.hid (own_set HU1.out (p := ⟨w.heap.size, j, none⟩) (by simp) (.int .i64 ((j : Int) / 3)))
          have HX2 := Lib.hid ((HX.out.setCell (p := ⟨w.heap.size + 1, j, none⟩) (by simp) (.int .i64 ((k : Int) - 1))).setCell (p := ⟨w.heap.size, j, none⟩) (by simp) (.int .i64 ((j : Int) / 3)))
          clear S1 S2 hv hw
          go_wp2
          go_roundw
          case rel => exact ⟨j + 1, by omega, by go_num, HU2.out, HP2.out, HX2.out⟩
          case measure => simp [intOf]; omega
          
      · have hjk : k = j := by omega
        subst hjk
        have hU := HU.out
        have hP := HP.out
        rw [fillF_all] at hU hP
        have RU := Lib.hid (row_own (chain_length chU k) hU)
        have RP := Lib.hid (row_own (chain_length chP k) hP)
        have hone := (own_lt hU).2
        clear hU hP HU HP
        obtain ⟨a, ha⟩ : ∃ a : Nat, (a : Int) = (x : Int) % (k : Int) := ⟨x % k, by omega⟩
        have hak : a < k := by have := Int.emod_lt_of_pos (x : Int) (show (0 : Int) < (k : Int) by omega); omega
        have HA := Lib.hid ha
        clear ha
        go_wp2_with fail
        rw [← HA.out]
        refine (begin_chain a k hak _).mono ?_
        rintro e w8 ⟨rfl, hb⟩
        have RU := Lib.hid (RU.out.kept hb)
        have RU1 := Lib.hid RU.out
        have RP := Lib.hid (RP.out.kept hb)
        have HX := Lib.hid (below_next HX.out hb HX.out.size)
        have h8 := hb.size
        clear hb
        have HT := heap_alloc_new w8 (.cells #[.int .i64 1, .int .i64 (a : Int), .int .i64 0, .int .i64 1, .int .i64 (a : Int), .int .i64 0, .int .i64 0, .int .i64 0, .bool false, .int .i64 0] 31)
        obtain ⟨X9, hX9⟩ : ∃ X9, X9 = w8.alloc (.cells #[.int .i64 1, .int .i64 (a : Int), .int .i64 0, .int .i64 1, .int .i64 (a : Int), .int .i64 0, .int .i64 0, .int .i64 0, .bool false, .int .i64 0] 31) := ⟨_, rfl⟩
        rw [← hX9] at HT
        have RU := Lib.hid (RU.out.kept (below_alloc (Below.refl _ _) (.cells #[.int .i64 1, .int .i64 (a : Int), .int .i64 0, .int .i64 1, .int .i64 (a : Int), .int .i64 0, .int .i64 0, .int .i64 0, .bool false, .int .i64 0] 31)))
        have RP0 := Lib.hid RP.out
        have RU0 := Lib.hid RU1.out
        have RP := Lib.hid (RP.out.kept (below_alloc (Below.refl _ _) (.cells #[.int .i64 1, .int .i64 (a : Int), .int .i64 0, .int .i64 1, .int .i64 (a : Int), .int .i64 0, .int .i64 0, .int .i64 0, .bool false, .int .i64 0] 31)))
        have H89 := Lib.hid (show Below w8.heap.size w8 X9 by rw [hX9]; exact below_alloc (Below.refl _ _) _)
        rw [← hX9] at RU RP
        have CHI := Lib.hid (chain_ci k0 (by omega : k ≤ 65536))
        have t3 : (((k : Int) - 1) != ((k : Int) - 1)) = false := by simp
        go_wp2_with first
          | (go_at_call 19
             rw [← hX9]
             (with_reducible refine (may_ch _ _ _ _ CHI.out _ RU.out RP.out).mono ?_)
             rintro e w' ⟨rfl, q1, rfl⟩
             clear hX9)
          | (go_at_call 20
             (with_reducible refine (root_ch _ _ CHI.out a hak _ (RU.out.kept (below_drewN (Below.refl _ _) _))).mono ?_)
             rintro e w' ⟨rfl, q2, rfl⟩)
        have hlt2 : w.heap.size + 1 < w8.heap.size := by omega
        have HAK := Lib.hid hak
        clear hak
        go_loopw [12, 13, 14, 15] (fun c i _ _ wr => ∃ (m : Nat) (cells : List Int) (t : T) (B : Option Addr) (d : Nat), i = .int .i64 (m : Int) ∧ c = .slice B k d ∧ RowI wr B cells ∧ Ch k cells t ∧ (t.is = false → m + rem k t ≤ 3 * k) ∧ m ≤ 3 * k + 1 ∧ wr.heap[w8.heap.size]? = some (.cells (tcs t) 31 (0, 0)) ∧ (∀ a, B = some a → a.block ≠ w8.heap.size) ∧ Below w8.heap.size w8 wr) (fun _ i _ _ _ => 3 * k + 3 - (intOf i).toNat)
        case atStart => exact ⟨0, chain chU k, ⟨1, a, 0, 1, a, 0, 0, 0, false, 0⟩, _, _, rfl, rfl, RU.out.kept (below_drewN (Below.refl _ _) _), ch_begin k0 (by omega) HAK.out, fun _ => by have := rem_begin (at' := a) k0; omega, by omega, HT, fun b hb => by injection hb with hb; subst hb; simp only; omega, below_drewN H89.out _⟩
        case round =>
          obtain ⟨m, cells, t, B, d, rfl, rfl, hrow, hch, hrem, hm, hheap, hbl, hB⟩ := hrel
          have HR := Lib.hid hrow
          have HC := Lib.hid hch
          have HM := Lib.hid hrem
          have HB := Lib.hid hB
          have HL := Lib.hid hbl
          have HH := Lib.hid hheap
          have RPw := Lib.hid (RP0.out.kept hB)
          have hz := hB.size
          clear hrow hch hrem hheap hbl hB
          have p3 : (m : Int) < 3 * (k : Int) + 3 := by omega
          rcases hi : t.is with _ | _
          · have HM1 := Lib.hid (HM.out hi)
            have HS := Lib.hid (ch_step HC.out hi)
            have hc := step_ch B (some ⟨w.heap.size, 0, none⟩) d k HC.out k0 (by omega) wr HR.out RPw.out
            obtain ⟨k', x', y', s', u', v', ww', r', is', res'⟩ := t
            simp only at hi
            subst hi
            obtain ⟨pr, hpr⟩ : ∃ pr, pr = stepL cells (chain chP k) ⟨k', x', y', s', u', v', ww', r', false, res'⟩ := ⟨_, rfl⟩
            rw [← hpr] at hc HS
            clear hpr
            obtain ⟨cells2, ⟨k2, x2, y2, s2, u2, v2, ww2, r2, is2, res2⟩⟩ := pr
            simp only [tv] at hc
            simp only at HS
            have HCC := Lib.hid hc
            clear hc
            have hh := HH.out
            simp only [tcs] at hh
            have D0 := cells10 hh
            have HH := Lib.hid hh
            clear hh
            obtain ⟨c0, c1, c2, c3, c4, c5, c6, c7, c8, c9, f0, f1, f2, f3, f4, f5, f6, f7, f8, f9⟩ := D0
            go_wp2_with fail
            refine HCC.out.mono ?_
            rintro e w2 ⟨C, d2, he, hrow2, hbl2, hb⟩
            simp only [tv] at he
            subst he
            have HR2 := Lib.hid hrow2
            have HL2 := Lib.hid hbl2
            have HH := Lib.hid ((hb.block w8.heap.size (World.block_lt_of_cell? _ _ c0)).trans HH.out)
            have RPw := Lib.hid (RPw.out.kept hb)
            have HB := Lib.hid (below_next HB.out hb HB.out.size)
            have hz2 := hb.size
            have hwr := World.block_lt_of_cell? _ _ c0
            simp only at hwr
            have D0 := cells10 HH.out
            clear hrow2 hbl2 hb c0 c1 c2 c3 c4 c5 c6 c7 c8 c9 f0 f1 f2 f3 f4 f5 f6 f7 f8 f9
            obtain ⟨c0, c1, c2, c3, c4, c5, c6, c7, c8, c9, f0, f1, f2, f3, f4, f5, f6, f7, f8, f9⟩ := D0
            have hlt9 : w8.heap.size < w2.heap.size := by omega
            go_wp2_with first
              | (go_at_call 14
                 (with_reducible refine (mayr_ch _ _ _ _ HS.out.1.ci _ (HR2.out.kept (below_alloc (Below.refl _ _) _)) (RPw.out.kept (below_alloc (Below.refl _ _) _))).mono ?_)
                 rintro e w' ⟨rfl, q', rfl⟩)
            obtain ⟨Y, hY⟩ : ∃ Y, Y = (w2.alloc (.cells #[.int .i64 k2, .int .i64 x2, .int .i64 y2, .int .i64 s2, .int .i64 u2, .int .i64 v2, .int .i64 ww2, .int .i64 r2, .bool is2, .int .i64 res2] 31)).drewN q' := ⟨_, rfl⟩
            have HY := Lib.hid (show Below w2.heap.size w2 Y by rw [hY]; exact below_drewN (below_alloc (Below.refl _ _) _) _)
            rw [← hY]
            clear hY
            have hs2 := HY.out.size
            have HH := Lib.hid ((HY.out.block w8.heap.size (by omega)).trans HH.out)
            have RZ : RowI (put10 Y w8.heap.size (.int .i64 k2) (.int .i64 x2) (.int .i64 y2) (.int .i64 s2) (.int .i64 u2) (.int .i64 v2) (.int .i64 ww2) (.int .i64 r2) (.bool is2) (.int .i64 res2)) C cells2 := row_other (HR2.out.kept HY.out) (fun b hb => by have := HL2.out b hb; omega) (fun z hz => put10_other Y hz (.int .i64 k2) (.int .i64 x2) (.int .i64 y2) (.int .i64 s2) (.int .i64 u2) (.int .i64 v2) (.int .i64 ww2) (.int .i64 r2) (.bool is2) (.int .i64 res2))
            have BZ := put10_below (below_next HB.out HY.out HB.out.size) (Nat.le_refl _) (.int .i64 k2) (.int .i64 x2) (.int .i64 y2) (.int .i64 s2) (.int .i64 u2) (.int .i64 v2) (.int .i64 ww2) (.int .i64 r2) (.bool is2) (.int .i64 res2)
            have HZ := put10_block HH.out (.int .i64 k2) (.int .i64 x2) (.int .i64 y2) (.int .i64 s2) (.int .i64 u2) (.int .i64 v2) (.int .i64 ww2) (.int .i64 r2) (.bool is2) (.int .i64 res2)
            have hm1 := HM1.out
            refine ⟨⟨m + 1, cells2, ⟨k2, x2, y2, s2, u2, v2, ww2, r2, is2, res2⟩, C, d2, by go_num, rfl, RZ, HS.out.1, fun h => ?_, by omega, HZ, fun b hb => ?_, BZ⟩, ?_⟩
            · have := HS.out.2 h
              omega
            · have := HL2.out b hb
              omega
            · simp [intOf]
              omega
          · obtain ⟨k', x', y', s', u', v', ww', r', is', res'⟩ := t
            simp only at hi
            subst hi
            have hres : res' = (k : Int) - 1 := HC.out.fin rfl
            subst hres
            have hh := HH.out
            simp only [tcs] at hh
            have D0 := cells10 hh
            clear hh
            obtain ⟨c0, c1, c2, c3, c4, c5, c6, c7, c8, c9, f0, f1, f2, f3, f4, f5, f6, f7, f8, f9⟩ := D0
            have RUw := Lib.hid (RU0.out.kept HB.out)
            have HXw := Lib.hid (below_next HX.out HB.out HX.out.size)
            go_wp2
            clear c0 c1 c2 c3 c4 c5 c6 c7 c8 c9 f0 f1 f2 f3 f4 f5 f6 f7 f8 f9
            go_loopw [16] (fun i w9 => ∃ (z q : Nat), z ≤ k ∧ i = .int .i64 (z : Int) ∧ w9 = wr.drewN q) (fun i _ => k - (intOf i).toNat)
            case atStart => exact ⟨0, 0, by omega, rfl, rfl⟩
            case round =>
              obtain ⟨z, q, hz, rfl, rfl⟩ := hrel
              by_cases hlt : z < k
              · obtain ⟨ad, rfl, hc1⟩ := RowI.at_nat HR.out z (by rw [HC.out.ci.len]; exact hlt)
                obtain ⟨bd, e, hc2⟩ := RowI.at_nat RUw.out z (by rw [chain_length]; exact hlt)
                injection e with e
                subst e
                rw [chain_getD _ hlt, add_plain] at hc2
                have hge := HC.out.ci.up z hlt
                generalize chU k z = cu at *
                generalize cells.getD z 0 = cz at *
                have t5 : decide (cz < cu) = false := by simp; omega
                have p1 : (z : Int) < (k : Int) := by omega
                have p0 : (0 : Int) ≤ (z : Int) := by omega
                have HLT := Lib.hid hlt
                clear hge hlt
                go_wp2
                go_quiet (first | (go_at_call 15; exact quiet_add (rroot_ch _ _ HC.out.ci z HLT.out _ (HR.out.kept (below_drewN (Below.refl _ _) _)))))
                go_wp2
                go_roundw
                case rel => exact ⟨z + 1, _, by have := HLT.out; omega, by go_num, by first | rfl | (simp only [World.drewN_drewN]; rfl)⟩
                case measure => simp [intOf]; have := HLT.out; omega
              · go_wp2_with (go_at_call 8; refine (awake_any _).mono ?_; rintro e w9 ⟨rfl, hb⟩)
                go_ret
                exact ⟨rfl, below_next (below_drewN HXw.out q) hb (below_drewN HXw.out q).size⟩
end Go.Proofs.Ytcppmfmlafnmfaa
