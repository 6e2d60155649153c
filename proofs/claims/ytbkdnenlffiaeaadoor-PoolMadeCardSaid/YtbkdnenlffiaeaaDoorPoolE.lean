/-
The pool's play: the walk where the limits hold. Conditions: the rows can be read; the plain play answers.
-/
import Derived.Test.YtbkdnenlffiaeaaDoorPoolF
import Derived.Test.YtbkdnenlffiaeaaDoorPoolF
namespace Go.Proofs.YtbkdnenlffiaeaaDoor
open Go.RowKit Go.Proofs.YtbkdnenlffiaeaaDoorW.PrintWords Go.Proofs.YtbkdnenlffiaeaaDoorW.PrintLast Go.Proofs.YtbkdnenlffiaeaaDoorW.PrintMore Go.Proofs.YtbkdnenlffiaeaaDoor.P
set_option linter.unusedVariables false
set_option linter.unusedSimpArgs false
theorem set_getD (E : List Bool) (i j : Nat) (b : Bool) (h : i < E.length) : (E.set i b).getD j false = if j = i then b else E.getD j false := by
  simp only [List.getD_eq_getElem?_getD, List.getElem?_set]
  by_cases c : i = j
  · rw [if_pos c, if_pos (by omega), if_pos c.symm]; rfl
  · rw [if_neg c, if_neg (Ne.symm c)]
set_option maxRecDepth 100000 in
set_option maxHeartbeats 8000000 in
theorem play_main (A0 : Option Addr) (c0 : Nat) (l0 : List (List Int)) (n : Nat) (A2 : Option Addr) (c2 : Nat) (l2 : List Int) (w : World) (hT_ : Tab w) (hr0 : Kd.C kW w A0 l0.length l0) (hc0 : l0.length ≤ c0) (hr2 : Kd.C (Kd.int .i64) w A2 l2.length l2) (hc2 : l2.length ≤ c2) (hn1 : 1 ≤ n) (hn2 : n ≤ 64) (hall : allS 0 l0 ≤ 4096) (hl2 : l2.length ≤ 1000000) (hst : pick_Start.f l2 = some (l2, 0, -1)) (gas : Nat) (r1 : List S54) (r2 : Int) (hf : playL n l2 gas (refillS l0 (-1) [] 0) 0 (List.replicate n (0, 0, 0)) 0 (-1) [] 0 = some (r1, r2)) :
    Calls Tryd.prog 20 #[.slice A0 l0.length c0, .int .i64 n, .slice A2 l2.length c2] w fun e w' => ∃ v0 : Value, e = .returned (.tuple #[v0, .int .i64 r2]) ∧ Kd.R k54 54 w' w.heap.size (fun _ => True) v0 r1 ∧ Below w.heap.size w w' := by
  have HR := Aside0.mk hr0
  have HC0 := Aside0.mk hc0
  have HR2 := Aside0.mk hr2
  have HC2 := Aside0.mk hc2
  have HLEN := Aside0.mk hr0.2.1
  have HALL := Aside0.mk hall
  have HTAB := Aside0.mk hT_
  have HST := Aside0.mk hst
  have HL2 := Aside0.mk hl2
  have HF := Aside0.mk hf
  clear hr0 hc0 hall hr2 hc2 hT_ hst hf hl2
  go_enter Tryd.func20, Tryd.ntmps20
  go_wp2
  go_loopg [8, 19] l0.length (fun k v8 v19 w' => ∃ (i : Nat) (z : Int), i + k = l0.length ∧ v19 = .int .i64 i ∧ v8 = .int .i64 z ∧ Aside0 (allS z (l0.drop i) = allS 0 l0) ∧ Aside0 (∃ q, w' = w.drewN q))
  case atStart => exact ⟨0, 0, by omega, rfl, rfl, ⟨rfl⟩, ⟨0, rfl⟩⟩
  case round =>
    obtain ⟨i, z, hik, rfl, rfl, HA, HQ⟩ := hrel
    obtain ⟨q, rfl⟩ := HQ.out
    by_cases hi : i < l0.length
    · obtain ⟨ad, c, hA, hcl, hx, hcc⟩ := Kd.C_get HR.out ([] : List Int) (i : Int) (by omega) (by omega)
      obtain ⟨XA, xc, rfl, hxl, hxC⟩ := hx
      subst hA
      have hx0 : w.cell? (ad.add (i * 1 + 0)) = some (.slice XA (l0.getD i []).length xc) := hcc 0 _ rfl
      rw [Nat.mul_one, Nat.add_zero] at hx0
      have HS := Aside0.mk (show allS (wrap64 (z + (l0.getD i []).length)) (l0.drop (i + 1)) = allS 0 l0 by
        rw [← HA.out, List.drop_eq_getElem_cons hi, allS, List.getD_eq_getElem?_getD, List.getElem?_eq_getElem hi]; rfl)
      generalize l0.getD i [] = x at *
      have p1 : (i : Int) < (l0.length : Int) := by omega
      have p0 : (0 : Int) ≤ (i : Int) := by omega
      have HK := Aside0.mk hik
      have HI := Aside0.mk hi
      clear hcc hcl hxC hxl HA hik
      go_wp2
      repeat (go_quiet (fail); try go_wp2)
      go_roundg (l0.length - (i + 1))
      case measure => have := HK.out; have := HI.out; omega
      case rel => exact ⟨i + 1, _, by have := HI.out; omega, by have := HLEN.out; have := HI.out; congr 1; unfold wrap64; omega, rfl, HS, ⟨_, rfl⟩⟩
    · have hi2 : ¬ (i : Int) < (l0.length : Int) := by omega
      have HZ := Aside0.mk (show z = allS 0 l0 by rw [← HA.out, List.drop_eq_nil_of_le (by omega)]; rfl)
      clear HA hi hik
      have t1 : decide ((n : Int) < 1) = false := decide_eq_false (by omega)
      have t2 : decide (64 < (n : Int)) = false := decide_eq_false (by omega)
      have t3 : decide (4096 < z) = false := decide_eq_false (by have := HALL.out; have := HZ.out; omega)
      have p0 : (0 : Int) ≤ (n : Int) := by omega
      have hmk := make_tasks (w.drewN q) n hn2
      go_upto_region 10 with (fail)
      have HB1 := Aside0.mk (show Below w.heap.size w (((w.drewN q).alloc (.cells (tcs (List.replicate n (0, 0, 0))) 71 (0, 0))).alloc (.cells #[.slice A0 l0.length c0, .int .i64 (-1), .slice none 0 0, .int .i64 0, .int .u64 0, .slice (some ⟨w.heap.size, 0, none⟩) n n] 69 (0, 0))) from below_alloc (below_alloc (pw_below_drewN (Below.refl _ _) _) _) _)
      have hb1 : (((w.drewN q).alloc (.cells (tcs (List.replicate n (0, 0, 0))) 71 (0, 0))).alloc (.cells #[.slice A0 l0.length c0, .int .i64 (-1), .slice none 0 0, .int .i64 0, .int .u64 0, .slice (some ⟨w.heap.size, 0, none⟩) n n] 69 (0, 0))).heap[w.heap.size + 1]? = some (.cells (poolV A0 l0.length c0 (-1) none 0 0 0 0 (.slice (some ⟨w.heap.size, 0, none⟩) n n)) 69 (0, 0)) := by
        have h1 := blk_new ((w.drewN q).alloc (.cells (tcs (List.replicate n (0, 0, 0))) 71 (0, 0))) (.cells #[.slice A0 l0.length c0, .int .i64 (-1), .slice none 0 0, .int .i64 0, .int .u64 0, .slice (some ⟨w.heap.size, 0, none⟩) n n] 69 (0, 0))
        rw [show ((w.drewN q).alloc (.cells (tcs (List.replicate n (0, 0, 0))) 71 (0, 0))).heap.size = w.heap.size + 1 from by simp [World.alloc]] at h1
        exact h1
      have hb2 : (((w.drewN q).alloc (.cells (tcs (List.replicate n (0, 0, 0))) 71 (0, 0))).alloc (.cells #[.slice A0 l0.length c0, .int .i64 (-1), .slice none 0 0, .int .i64 0, .int .u64 0, .slice (some ⟨w.heap.size, 0, none⟩) n n] 69 (0, 0))).heap[w.heap.size]? = some (.cells (tcs (List.replicate n (0, 0, 0))) 71 (0, 0)) := blk_alloc (blk_new (w.drewN q) _) _
      have HT1 := Aside0.mk hb2
      have HP1 := Aside0.mk (show PoolAt w _ _ (w.heap.size + 1) (l0, -1, [], 0) 0 (.slice (some ⟨w.heap.size, 0, none⟩) n n) from ⟨A0, c0, none, 0, hb1, HR.out, HC0.out, ⟨rfl, Nat.zero_le _, fun h => absurd h (by simp)⟩, Nat.le_refl _, KeepBut.refl _ _ _, HB1.out, rfl⟩)
      clear hb1 hb2 hmk
      generalize (((w.drewN q).alloc (.cells (tcs (List.replicate n (0, 0, 0))) 71 (0, 0))).alloc (.cells #[.slice A0 l0.length c0, .int .i64 (-1), .slice none 0 0, .int .i64 0, .int .u64 0, .slice (some ⟨w.heap.size, 0, none⟩) n n] 69 (0, 0))) = W1 at *
      go_upto_region 11 with (first | (go_at_call 29; refine (refill_any w (w.heap.size + 1) l0 (-1) 0 0 [] (.slice (some ⟨w.heap.size, 0, none⟩) n n) W1 (by omega) HP1.out).mono ?_; rintro e w9 ⟨rfl, hp⟩; have HP2 := Aside0.mk hp; clear hp))
      have hB2 : Below w.heap.size w w9 := by obtain ⟨_, _, _, _, _, _, _, _, _, _, h, _⟩ := HP2.out; exact h
      have hT2 : w9.heap[w.heap.size]? = some (.cells (tcs (List.replicate n (0, 0, 0))) 71 (0, 0)) := by obtain ⟨_, _, _, _, _, _, _, _, _, h, _, _⟩ := HP2.out; exact h.blk HT1.out (by omega) (by simp)
      have HB2 := Aside0.mk hB2
      have HT2 := Aside0.mk hT2
      clear hB2 hT2 HT1 HB1
      generalize refillS l0 (-1) [] 0 = S1 at *
      go_upto_region 12 with (first | (go_at_call 15; refine (pick_Start.calls A2 c2 l2 l2 0 (-1) w9 (Kd.C_below HR2.out HB2.out) HC2.out HST.out).mono ?_; rintro e w10 ⟨v0, rfl, ho, hb⟩; have HO := Aside0.mk ho; have HB3 := Aside0.mk hb; clear ho hb; obtain ⟨Av, cv, ev⟩ := Kd.R_slice HO.out; subst ev) | ((with_reducible refine gate_dst (N := 12) rfl ?_); (try (refine gate_guard (by rfl) ?_; dsimp only)); refine box_event ?hg (N := 12) ?hd (cs := #[.slice none 0 0, .int .i64 0, .int .i64 0]) (t := 24) ?hr ?_; (case hd => rfl); (case hg => rfl); (case hr => first | (go_simp; done) | (go_simp; rfl)); intro gn hgn w11 hbox hb11; have z0 : w11.cell? ⟨gn, 0, none⟩ = some (.slice none 0 0) := (blk_cell hbox 0).trans rfl; have z1 : w11.cell? ⟨gn, 1, none⟩ = some (.int .i64 0) := (blk_cell hbox 1).trans rfl; have z2 : w11.cell? ⟨gn, 2, none⟩ = some (.int .i64 0) := (blk_cell hbox 2).trans rfl; have y0 := blk_frozen hbox 0; have y1 := blk_frozen hbox 1; have y2 := blk_frozen hbox 2; have HGN := Aside0.mk hgn; have HBX := Aside0.mk hbox; have HB11 := Aside0.mk hb11; clear hgn hbox hb11))
      have HPa := HP2.out.stand.below HB3.out
      have hlt : w.heap.size + 1 < w10.heap.size := by obtain ⟨_, _, _, _, h, _⟩ := HPa; exact blk_lt h
      have hgn := HGN.out
      have e1 : w.heap.size ≤ gn := by omega
      have e2 : w.heap.size + 1 ≠ gn := by omega
      have e3 : w.heap.size ≠ gn := by omega
      clear hgn
      have HP3 := Aside0.mk ((((HPa.below HB11.out).far gn 0 e1 e2 (.slice Av l2.length cv)).far gn 1 e1 e2 (.int .i64 0)).far gn 2 e1 e2 (.int .i64 (-1)))
      have HT3 := Aside0.mk (blk_far (p := ⟨gn, 2, none⟩) (blk_far (p := ⟨gn, 1, none⟩) (blk_far (p := ⟨gn, 0, none⟩) (blk_below (blk_below HT2.out HB3.out) HB11.out) e3 (.slice Av l2.length cv)) e3 (.int .i64 0)) e3 (.int .i64 (-1)))
      have HX3 := Aside0.mk (blk_put (blk_put (blk_put HBX.out 0 (.slice Av l2.length cv) rfl) 1 (.int .i64 0) rfl) 2 (.int .i64 (-1)) rfl)
      have HO3 := Aside0.mk (Kd.R_far (p := ⟨gn, 2, none⟩) (Kd.R_far (p := ⟨gn, 1, none⟩) (Kd.R_far (p := ⟨gn, 0, none⟩) (Kd.R_types (Kd.R_below HO.out HB11.out) HBX.out (by decide)) (fun _ hk => hk.2) (.slice Av l2.length cv)) (fun _ hk => hk.2) (.int .i64 0)) (fun _ hk => hk.2) (.int .i64 (-1)))
      clear HPa HP2 HT2 HBX HO HB3 HB11 z0 z1 z2 y0 y1 y2 HB2
      generalize ((w11.setCell ⟨gn, 0, none⟩ (.slice Av l2.length cv)).setCell ⟨gn, 1, none⟩ (.int .i64 0)).setCell ⟨gn, 2, none⟩ (.int .i64 (-1)) = w12 at *
      have hmk2 := make_bools w12 n hn2
      go_wp2
      have hE := blk_new w12 (.cells (List.replicate n (Value.bool false)).toArray 4 (0, 0))
      have hP := HP3.out.below (below_alloc (Below.refl _ _) (.cells (List.replicate n (Value.bool false)).toArray 4 (0, 0)))
      have hT := blk_alloc HT3.out (.cells (List.replicate n (Value.bool false)).toArray 4 (0, 0))
      have hX := blk_alloc HX3.out (.cells (List.replicate n (Value.bool false)).toArray 4 (0, 0))
      have hO := Kd.R_alloc HO3.out (.cells (List.replicate n (Value.bool false)).toArray 4 (0, 0))
      have g1 : w.heap.size + 1 < w12.heap.size := by obtain ⟨_, _, _, _, h, _⟩ := HP3.out; exact blk_lt h
      have g2 : gn < w12.heap.size := blk_lt HX3.out
      have hV : Kd.V (Kd.int .i64) 3 (w12.alloc (.cells (List.replicate n (Value.bool false)).toArray 4 (0, 0))) w.heap.size (fun k_ => k_ ≠ gn ∧ k_ ≠ w.heap.size ∧ k_ ≠ w.heap.size + 1 ∧ k_ ≠ w12.heap.size) (.slice Av l2.length cv) l2 := by
        obtain ⟨_, _, _, _, hbP, _⟩ := hP
        exact Kd.R_V (Kd.R_mono (Kd.R_types (Kd.R_types (Kd.R_types hO hT (by decide)) hbP (by decide)) hE (by decide)) (fun k_ h_ => ⟨h_.1.1.1.2, h_.1.1.2, h_.1.2, h_.2⟩))
      have hB5 : Below w.heap.size w (w12.alloc (.cells (List.replicate n (Value.bool false)).toArray 4 (0, 0))) := by obtain ⟨_, _, _, _, _, _, _, _, _, _, h, _⟩ := hP; exact h
      have HPx := Aside0.mk hP
      have HTx := Aside0.mk hT
      have HXx := Aside0.mk hX
      have HEx := Aside0.mk hE
      have HVx := Aside0.mk hV
      have HBx := Aside0.mk hB5
      clear hP hT hX hE hV hB5 hO hmk2 HP3 HT3 HX3 HO3
      simp only [Array.replicate] at *
      generalize w12.alloc (.cells (List.replicate n (Value.bool false)).toArray 4 (0, 0)) = w13 at *
      generalize w12.heap.size = ge at *
      go_loopg [6, 7] gas (fun k v6 v7 w' => ∃ (S : WS) (busy : Nat) (T : List Task) (at_ last : Int) (l : List S54) (steps : Int) (uv : Value) (E : List Bool) (A6 : Option Addr) (c6 : Nat), v6 = .slice A6 l.length c6 ∧ v7 = .int .i64 steps ∧ Aside0 (playL n l2 k S busy T at_ last l steps = some (r1, r2)) ∧ Aside0 (T.length = n ∧ busy < 2 ^ 64 ∧ E.length = n) ∧ Aside0 (PSt w w' n gn ge S busy T at_ last l2 l uv (.slice A6 l.length c6) E))
      case atStart => exact ⟨_, 0, _, 0, -1, [], 0, _, List.replicate n false, none, 0, rfl, rfl, HF, ⟨by simp, by omega, by simp⟩, ⟨HPx.out, HTx.out, HXx.out, by rw [List.map_replicate]; exact HEx.out, Kd.V_apart_nil HVx.out, Kd.R_nil _ _ _ _ _, HBx.out⟩⟩
      case round =>
        obtain ⟨S, busy, T, at_, last, l, steps, uv, E, A6, c6, rfl, rfl, HF2, HL, HS⟩ := hrel
        clear HF HPx HTx HXx HEx HVx HBx
        cases gk with
        | zero => exact absurd HF2.out (by simp [playL])
        | succ k1 =>
          obtain ⟨W, wave, R, left⟩ := S
          obtain ⟨RA, rc, hc2, hc3, hc4, hc5⟩ := HS.out.pool
          dsimp only at hc2 hc3 hc4 hc5
          by_cases q1 : 0 < left
          · have u1 : decide (0 < left) = true := decide_eq_true q1
            have H := HF2.out
            rw [playL, if_pos (show 0 < ((W, wave, R, left) : WS).2.2.2 from q1)] at H
            obtain ⟨who, hwho⟩ : ∃ z, whoS l2 at_ last (Bits.idx (enL n busy ((W, wave, R, left) : WS).2.2.1)) = z := ⟨_, rfl⟩
            obtain ⟨at2, hat2⟩ : ∃ z, atS l2 at_ (Bits.idx (enL n busy ((W, wave, R, left) : WS).2.2.1)) = z := ⟨_, rfl⟩
            obtain ⟨last2, hlast2⟩ : ∃ z, lastS l2 at_ last (Bits.idx (enL n busy ((W, wave, R, left) : WS).2.2.1)) = z := ⟨_, rfl⟩
            rw [hwho, hat2, hlast2] at H
            have qw : 0 ≤ who ∧ who < (n : Int) := Decidable.byContradiction fun c => by rw [if_neg c] at H; cases H
            rw [if_pos qw] at H
            obtain ⟨i2, rfl⟩ := Int.eq_ofNat_of_zero_le qw.1
            have HI2 := Aside0.mk (show i2 < n by omega)
            have HWH := Aside0.mk hwho
            have HAT := Aside0.mk hat2
            have HLA := Aside0.mk hlast2
            have HF3 := Aside0.mk H
            clear q1 H HF2 qw hwho hat2 hlast2
            go_wp2
            go_loopg [14, 56] n (fun k v14 v56 w' => ∃ (i : Nat) (E1 : List Bool), i + k = n ∧ v56 = .int .i64 i ∧ Aside0 (E1.length = n ∧ ∀ j, j < i → E1.getD j false = (busy.testBit j || decide (0 < R.length))) ∧ Aside0 (PSt w w' n gn ge (W, wave, R, left) busy T at_ last l2 l uv (.slice A6 l.length c6) E1))
            case atStart => exact ⟨0, E, by omega, rfl, ⟨HL.out.2.2, fun j h => by omega⟩, HS⟩
            case round =>
              obtain ⟨i, E1, hik, rfl, HL1, HS1⟩ := hrel
              clear HS hc2 hc3 hc4 hc5
              obtain ⟨RA1, rc1, hc2, hc3, hc4, hc5⟩ := HS1.out.pool
              dsimp only at hc2 hc3 hc4 hc5
              clear hc3 hc5
              have HIK := Aside0.mk hik
              by_cases hin : i < n
              · have v1 : (i : Int) < (n : Int) := by omega
                have v0 : (0 : Int) ≤ (i : Int) := by omega
                have hi64 : i < 64 := by omega
                have hce : wr.cell? ⟨ge, i, none⟩ = some (.bool (E1.getD i false)) := by
                  refine (blk_cell HS1.out.2.2.2.1 i).trans ?_
                  have := HL1.out.1
                  simp [List.getD_eq_getElem?_getD, show i < E1.length by omega]
                have hfe := blk_frozen HS1.out.2.2.2.1 i
                have BT := bit_test busy i HL.out.2.1
                clear hik
                by_cases bt : busy.testBit i = true
                · have b1 : decide (0 < Go.bits .and .u64 ((busy : Int) / 2 ^ i) 1) = true := by rw [BT, if_pos bt]; rfl
                  clear BT
                  go_wp2
                  repeat (go_quiet (fail); try go_wp2)
                  go_roundg (n - (i + 1))
                  case measure => have := HIK.out; omega
                  case rel =>
                    refine ⟨i + 1, E1.set i true, by omega, by first | rfl | (congr 1; done) | (congr 1; unfold wrap64; omega), ⟨by rw [List.length_set]; exact HL1.out.1, fun j hj => ?_⟩, ⟨HS1.out.flagged (by omega) (by omega) (by omega) (by omega) i _⟩⟩
                    · rw [set_getD E1 i j true (by have := HL1.out.1; omega)]
                      by_cases c : j = i
                      · subst c; rw [if_pos rfl, bt]; rfl
                      · rw [if_neg c]; exact HL1.out.2 j (by omega)
                · have b1 : decide (0 < Go.bits .and .u64 ((busy : Int) / 2 ^ i) 1) = false := by rw [BT, if_neg bt]; rfl
                  clear BT
                  go_wp2
                  repeat (go_quiet (fail); try go_wp2)
                  go_roundg (n - (i + 1))
                  case measure => have := HIK.out; omega
                  case rel =>
                    refine ⟨i + 1, E1.set i (decide (0 < R.length)), by omega, by first | rfl | (congr 1; done) | (congr 1; unfold wrap64; omega), ⟨by rw [List.length_set]; exact HL1.out.1, fun j hj => ?_⟩, ⟨HS1.out.flagged (by omega) (by omega) (by omega) (by omega) i _⟩⟩
                    · rw [set_getD E1 i j (decide (0 < R.length)) (by have := HL1.out.1; omega)]
                      by_cases c : j = i
                      · subst c; rw [if_pos rfl]; simp [bt]
                      · rw [if_neg c]; exact HL1.out.2 j (by omega)
              · have v1 : ¬ (i : Int) < (n : Int) := by omega
                have hE : E1 = enL n busy R := by
                  apply List.ext_getElem
                  · rw [HL1.out.1]; simp [enL]
                  · intro j h1 h2
                    have h3 := HL1.out.2 j (by have := HL1.out.1; omega)
                    rw [List.getD_eq_getElem?_getD, List.getElem?_eq_getElem h1] at h3
                    simpa [enL] using h3
                subst hE
                clear hik hin
                go_upto_region 20 with (fail)
                have hi2 := idx_le (enL n busy R)
                have hn2' : (enL n busy R).length = n := HL1.out.1
                obtain ⟨An, cn, rfl⟩ := Kd.V_slice HS1.out.2.2.2.2.1
                have hx := HS1.out.2.2.1
                have z0 : wr.cell? ⟨gn, 0, none⟩ = some (.slice An l2.length cn) := (blk_cell hx 0).trans rfl
                have z1 : wr.cell? ⟨gn, 1, none⟩ = some (.int .i64 at_) := (blk_cell hx 1).trans rfl
                have z2 : wr.cell? ⟨gn, 2, none⟩ = some (.int .i64 last) := (blk_cell hx 2).trans rfl
                have y0 := blk_frozen hx 0
                have y1 := blk_frozen hx 1
                have y2 := blk_frozen hx 2
                clear hx
                go_upto_region 21 with (first | (go_at_call 13; refine (next_call (enL n busy R) n hn2' hn2 _ An cn l2 at_ last HL2.out ge wr (Kd.V_map HS1.out.2.2.2.2.1 (fun _ hf => hf)) HS1.out.2.2.2.1 (Tab.below HTAB.out HS1.out.2.2.2.2.2.2) i2 at2 last2 HWH.out HAT.out HLA.out).mono ?_; rintro e w15 ⟨A', c', rfl, ho, hb⟩; have HV2 := Aside0.mk ho; have HB2 := Aside0.mk hb; have hx := blk_below HS1.out.2.2.1 hb; clear z0 z1 z2 y0 y1 y2 ho hb; have z0 : w15.cell? ⟨gn, 0, none⟩ = some (.slice An l2.length cn) := (blk_cell hx 0).trans rfl; have z1 : w15.cell? ⟨gn, 1, none⟩ = some (.int .i64 at_) := (blk_cell hx 1).trans rfl; have z2 : w15.cell? ⟨gn, 2, none⟩ = some (.int .i64 last) := (blk_cell hx 2).trans rfl; have y0 := blk_frozen hx 0; have y1 := blk_frozen hx 1; have y2 := blk_frozen hx 2; clear hx))
                have HS2 := Aside0.mk (PSt.picked (at2 := at2) (last2 := last2) HS1.out e1 e2 e3 (by omega) HV2.out HB2.out)
                clear HS1 HV2 HB2 z0 z1 z2 y0 y1 y2 hc2 hc4 hi2 hn2' HIK HL1
                generalize ((w15.setCell ⟨gn, 0, none⟩ (.slice A' l2.length c')).setCell ⟨gn, 1, none⟩ (.int .i64 at2)).setCell ⟨gn, 2, none⟩ (.int .i64 last2) = w16 at *
                obtain ⟨RA2, rc2, hc2, hc3, hc4, hc5⟩ := HS2.out.pool
                dsimp only at hc2 hc3 hc4 hc5
                have hi2 := HI2.out
                have hiT : i2 < T.length := by have := HL.out.1; omega
                obtain ⟨⟨tx, tw, tb⟩, htk⟩ : ∃ p, T.getD i2 (0, 0, 0) = p := ⟨_, rfl⟩
                have HF5 := HF3.out
                simp only [Int.toNat_natCast, htk] at HF5
                have hct0 : w16.cell? ⟨w.heap.size, i2 * 3, none⟩ = some (.int .i64 tx) := (blk_cell HS2.out.2.1 (i2 * 3)).trans ((tcs_get T i2 0 hiT (by omega)).trans (by rw [htk]; rfl))
                have hct1 : w16.cell? ⟨w.heap.size, i2 * 3 + 1, none⟩ = some (.int .i64 tw) := (blk_cell HS2.out.2.1 (i2 * 3 + 1)).trans ((tcs_get T i2 1 hiT (by omega)).trans (by rw [htk]; rfl))
                have hct2 : w16.cell? ⟨w.heap.size, i2 * 3 + 2, none⟩ = some (.int .i64 tb) := (blk_cell HS2.out.2.1 (i2 * 3 + 2)).trans ((tcs_get T i2 2 hiT (by omega)).trans (by rw [htk]; rfl))
                have p2 : (0 : Int) ≤ (i2 : Int) := by omega
                have p3 : (i2 : Int) < (n : Int) := by omega
                have hu69 := Tryd.underlying69
                have hu71 := Tryd.underlying71
                have HIT := Aside0.mk hiT
                have HF4 := Aside0.mk HF5
                clear hiT hi2 HF5 HF3 htk
                go_upto_region 23 with (first | ((with_reducible refine gate_dst (N := 16) rfl ?_); (try (refine gate_guard (by rfl) ?_; dsimp only)); refine box_event ?hg (N := 16) ?hd (cs := #[.int .i64 0, .int .i64 0, .int .i64 0]) (t := 71) ?hr ?_; (case hd => rfl); (case hg => rfl); (case hr => first | (go_simp; done) | (go_simp; rfl)); intro gb hgb w17 hbox hb17; have z0 : w17.cell? ⟨gb, 0, none⟩ = some (.int .i64 0) := (blk_cell hbox 0).trans rfl; have z1 : w17.cell? ⟨gb, 1, none⟩ = some (.int .i64 0) := (blk_cell hbox 1).trans rfl; have z2 : w17.cell? ⟨gb, 2, none⟩ = some (.int .i64 0) := (blk_cell hbox 2).trans rfl; have y0 := blk_frozen hbox 0; have y1 := blk_frozen hbox 1; have y2 := blk_frozen hbox 2; have HGB := Aside0.mk hgb; have HBX := Aside0.mk hbox; have HB17 := Aside0.mk hb17; clear hgb hbox hb17))
                have hgb := HGB.out
                have l1 : w.heap.size + 1 < w16.heap.size := by obtain ⟨_, _, _, _, hh, _⟩ := HS2.out.1; exact blk_lt hh
                have f1 : w.heap.size + 1 ≠ gb := by omega
                have f2 : w.heap.size ≠ gb := by omega
                have f3 : w16.heap.size ≤ gb := by omega
                clear l1 hgb
                have HS3 := Aside0.mk (PSt.below HS2.out (below_set (below_set (below_set (v := .int .i64 tx) (j := 0) HB17.out f3) f3 (v := .int .i64 tw) (j := 1)) f3 (v := .int .i64 tb) (j := 2)))
                have HBX3 := Aside0.mk (blk_put (blk_put (blk_put HBX.out 0 (.int .i64 tx) rfl) 1 (.int .i64 tw) rfl) 2 (.int .i64 tb) rfl)
                clear HS2 HBX HB17 z0 z1 z2 y0 y1 y2 hc2 hc3 hc4 hc5 hct0 hct1 hct2
                generalize ((w17.setCell ⟨gb, 0, none⟩ (.int .i64 tx)).setCell ⟨gb, 1, none⟩ (.int .i64 tw)).setCell ⟨gb, 2, none⟩ (.int .i64 tb) = w18 at *
                by_cases hbit : busy.testBit i2 = true
                · have HF6 := HF4.out
                  rw [if_pos hbit] at HF6
                  have hll : l.length < 2199023255552 := Decidable.byContradiction fun c => by rw [if_neg c] at HF6; cases HF6
                  rw [if_pos hll] at HF6
                  have HLL := Aside0.mk hll
                  have HF7 := Aside0.mk HF6
                  clear hll HF6 HF4
                  go_upto_region 24 with (first | (go_at_call 30; refine (step_done w (w.heap.size + 1) w.heap.size W wave left busy i2 (wrap64 (steps + 1)) R T w18 (by omega) (by omega) (by omega) (by have := HI2.out; omega) HL.out.2.1 hbit HS3.out.2.1 (by rw [HL.out.1]; exact HS3.out.1)).mono ?_; rintro e w19 ⟨rfl, hs⟩; have HST2 := Aside0.mk hs; clear hs))
                  have HS4 := Aside0.mk (PSt.stepped HS3.out e2 e3 (by omega) (by omega) HL.out.1 HST2.out)
                  have hbx := (HST2.out.2.2.2 gb (blk_lt HBX3.out) (Ne.symm f1) (Ne.symm f2)).trans HBX3.out
                  have z0 : w19.cell? ⟨gb, 0, none⟩ = some (.int .i64 tx) := (blk_cell hbx 0).trans rfl
                  have z1 : w19.cell? ⟨gb, 1, none⟩ = some (.int .i64 tw) := (blk_cell hbx 1).trans rfl
                  have z2 : w19.cell? ⟨gb, 2, none⟩ = some (.int .i64 tb) := (blk_cell hbx 2).trans rfl
                  clear hbx HBX3 HS3 HST2
                  go_wp2_with (first | ((with_reducible refine gate_builtin (b := .append) (xs := #[.tmp 98, .tmp 110]) rfl ?_); (try (refine gate_guard (by rfl) ?_; dsimp only)); at_builtin; refine Kd.R_append k54 (w0 := w) w.heap.size rfl (.tmp 98) (.tmp 110) 41 54 (.agg #[(.int .i64 0), (.int .i64 0), (.int .i64 0), (.int .i64 0), (.int .i64 0), (.int .i64 0), (.int .i64 0), (.int .i64 0)]) 64 rfl Tryd.underlying41 info54 rfl (by decide) (by omega) (.slice A6 l.length c6) l (⟨(i2 : Int), (⟨0, tx, 0⟩ : S52), tw, tb, wrap64 (steps + 1), wrap64 (steps + 1)⟩ : S54) [.int .i64 i2, .int .i64 0, .int .i64 tx, .int .i64 0, .int .i64 tw, .int .i64 tb, .int .i64 (wrap64 (steps + 1)), .int .i64 (wrap64 (steps + 1))] (fun _ => True) (fun _ => False) rfl (by first | (go_simp; done) | (go_simp; rfl)) ?aP (fun _ hk => hk.elim) ?aF ?aO ?aB ?aS ?aL ?_; (case aP => exact k54_mkM _ _ _ (⟨(i2 : Int), (⟨0, tx, 0⟩ : S52), tw, tb, wrap64 (steps + 1), wrap64 (steps + 1)⟩ : S54)); (case aB => exact HS4.out.2.2.2.2.2.2); (case aF => exact (fun _ _ => trivial)); (case aO => exact HS4.out.2.2.2.2.2.1); (case aS => exact below_size HS4.out.2.2.2.2.2.2); (case aL => have := HLL.out; omega); intro v20 w20 ho hb hg hat; have HS5 := Aside0.mk (PSt.appended HS4.out ho hb hg hat); clear ho hb hg hat))
                  obtain ⟨A7, c7, rfl⟩ := Kd.R_slice HS5.out.2.2.2.2.2.1
                  go_roundg k1
                  case measure => omega
                  case rel =>
                    refine ⟨refillS W wave R (wrap64 (left - 1)), _, T, at2, last2, _, _, _, enL n busy R, A7, c7, rfl, rfl, HF7, ⟨HL.out.1, ?_, by simp [enL]⟩, HS5⟩
                    have hp : 2 ^ i2 < 2 ^ 64 := Nat.pow_lt_pow_right (m := i2) (n := 64) (by decide) (by have := HI2.out; omega)
                    exact Nat.xor_lt_two_pow HL.out.2.1 hp
                · have HF6 := HF4.out
                  rw [if_neg hbit] at HF6
                  cases R with
                  | nil => cases HF6
                  | cons r R1 =>
                    have HF7 := Aside0.mk HF6
                    clear HF6 HF4
                    go_wp2_with (first | (go_at_call 30; refine (step_take w (w.heap.size + 1) w.heap.size W wave left busy i2 (wrap64 (steps + 1)) r R1 T w18 (by omega) (by omega) (by omega) (by have := HI2.out; omega) HIT.out HL.out.2.1 (by simpa using hbit) HS3.out.2.1 (by rw [HL.out.1]; exact HS3.out.1)).mono ?_; rintro e w19 ⟨rfl, hs⟩; have HST2 := Aside0.mk hs; clear hs))
                    go_roundg k1
                    case measure => omega
                    case rel =>
                      have hn3 : (T.set i2 (r, wave, wrap64 (steps + 1))).length = n := by rw [List.length_set]; exact HL.out.1
                      refine ⟨(W, wave, R1, left), _, _, at2, last2, l, _, _, enL n busy (r :: R1), _, _, rfl, rfl, ⟨HF7.out⟩, ⟨hn3, ?_, by simp [enL]⟩, ⟨PSt.stepped HS3.out e2 e3 (by omega) (by omega) hn3 HST2.out⟩⟩
                      have hp : 2 ^ i2 < 2 ^ 64 := Nat.pow_lt_pow_right (m := i2) (n := 64) (by decide) (by have := HI2.out; omega)
                      exact Nat.or_lt_two_pow HL.out.2.1 hp
          · have u1 : decide (0 < left) = false := decide_eq_false q1
            have H := HF2.out
            rw [playL, if_neg q1] at H
            simp only [Option.some.injEq, Prod.mk.injEq] at H
            obtain ⟨rfl, rfl⟩ := H
            clear HF2 q1
            go_wp2
            go_ret2
            exact ⟨_, rfl, HS.out.2.2.2.2.2.1, HS.out.2.2.2.2.2.2⟩
end Go.Proofs.YtbkdnenlffiaeaaDoor
