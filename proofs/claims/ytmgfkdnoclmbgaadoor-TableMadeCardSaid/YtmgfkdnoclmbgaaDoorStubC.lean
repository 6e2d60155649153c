/-
The reference's play of the table: the walk. Conditions: the rows can be read; the plain play answers.
A contract, in the form of the printed texts, of warpref1.Table. Conditions: the rows can be read; the plain play answers.
-/
import Derived.Test.YtmgfkdnoclmbgaaDoorTabW
import Derived.StillTailTactics
namespace Go.Proofs.YtmgfkdnoclmbgaaDoor
open Go.RowKit Go.Maps Go.Proofs.YtmgfkdnoclmbgaaDoorW.PrintWords Go.Proofs.YtmgfkdnoclmbgaaDoorW.PrintLast Go.Proofs.YtmgfkdnoclmbgaaDoorW.PrintMore Go.Proofs.YtmgfkdnoclmbgaaDoor.P
set_option linter.unusedVariables false
set_option linter.unusedSimpArgs false
set_option maxRecDepth 100000 in
set_option maxHeartbeats 8000000 in
theorem rplay_table (A0 : Option Addr) (c0 : Nat) (l0 : List (List S26)) (room stripes : Int) (A3 : Option Addr) (c3 : Nat) (P : List Int) (w : World) (hr0 : Kd.C (Kd.slice 26 k26) w A0 l0.length l0) (hc0 : l0.length ≤ c0) (hr3 : Kd.C (Kd.int .i64) w A3 P.length P) (hc3 : P.length ≤ c3) (r1 : List (List Int)) (r2 : List S26) (r3 r4 : Int) (hf : tabF l0 room stripes P = some (r1, r2, r3, r4)) :
 Calls Tryd.prog 10 #[.slice A0 l0.length c0, .int .i64 room, .int .i64 stripes, .slice A3 P.length c3] w fun e w' => ∃ v0_ v1_ : Value, e = .returned (.agg #[v0_, v1_, .int .i64 r3, .int .i64 r4]) ∧ Kd.S (Kd.slice 3 (Kd.int .i64)) 23 w' w.heap.size (fun _ => True) v0_ r1 ∧ Kd.R k26 26 w' w.heap.size (fun _ => True) v1_ r2 ∧ Below w.heap.size w w' := by
 unfold tabF at hf
 have hlim : l0.length ≤ 100000 ∧ P.length ≤ 1000000 ∧ (∀ x ∈ l0, ∀ k ∈ x, Gk k) := Decidable.byContradiction fun c => by rw [if_neg c] at hf; cases hf
 rw [if_pos hlim] at hf
 obtain ⟨hn1, hP1, hgk⟩ := hlim
 have hu32 := Tryd.underlying32
 have hu62 := Tryd.underlying62
 have hu65 := Tryd.underlying65
 have hu53 := Tryd.underlying53
 have hu26 := Tryd.underlying26
 have HR := Aside0.mk hr0
 have HC0 := Aside0.mk hc0
 have HR3 := Aside0.mk hr3
 have HC3 := Aside0.mk hc3
 have HLEN := Aside0.mk hr0.2.1
 have HP1 := Aside0.mk hP1
 have HF := Aside0.mk hf
 have HGK := Aside0.mk hgk
 have HN1 := Aside0.mk hn1
 clear hr0 hc0 hr3 hc3 hf hgk hP1 hn1
 go_enter Tryd.func10, Tryd.ntmps10
 go_wp2_with (first | ((with_reducible refine gate_dst (N := 8) rfl ?_); (try (refine gate_guard (by rfl) ?_; dsimp only)); refine box_event ?hg (N := 8) ?hd (cs := #[.slice none 0 0, .slice none 0 0, .int .i64 0, .int .i64 0]) (t := 32) ?hr ?_; (case hd => rfl); (case hg => rfl); (case hr => first | (go_simp; done) | (go_simp; rfl)); intro br hbr wa hxa hba; have HBRA := Aside0.mk hxa; have HBA := Aside0.mk hba; have HBRE := Aside0.mk hbr; clear hxa hba hbr))
 go_loopg [9, 10] l0.length (fun k v9 v10 w' => ∃ (i : Nat) (z : Int), i + k = l0.length ∧ v10 = .int .i64 i ∧ v9 = .int .i64 z ∧ Aside0 (allT z (l0.drop i) = allT 0 l0) ∧ Aside0 (w'.heap[br]? = some (.cells rz 32 (0, 0))) ∧ Aside0 (Below w.heap.size w w'))
 case atStart => exact ⟨0, 0, by omega, rfl, rfl, ⟨rfl⟩, HBRA, HBA⟩
 case round =>
  obtain ⟨i, z, hik, rfl, rfl, HA, HBR, HB⟩ := hrel
  clear HBRA HBA
  by_cases hi : i < l0.length
  ·
   obtain ⟨ad, c, hA, hcl, hx, hcc⟩ := Kd.C_get HR.out ([] : List S26) (i : Int) (by omega) (by omega)
   obtain ⟨XA, xc, rfl, hxl, hxC⟩ := hx
   subst hA
   rw [Int.toNat_natCast] at hxl hxC hcc
   have hx0 : w.cell? (ad.add (i * 1 + 0)) = some (.slice XA (l0.getD i []).length xc) := hcc 0 _ rfl
   rw [Nat.mul_one, Nat.add_zero] at hx0
   have hx1 := (HB.out.cell (World.block_lt_of_cell? _ _ hx0)).trans hx0
   have HS := Aside0.mk (show allT (wrap64 (z + (l0.getD i []).length)) (l0.drop (i + 1)) = allT 0 l0 by
    rw [← HA.out, List.drop_eq_getElem_cons hi, allT, List.getD_eq_getElem?_getD, List.getElem?_eq_getElem hi]; rfl)
   generalize l0.getD i [] = x at *
   have p1 : (i : Int) < (l0.length : Int) := by omega
   have p0 : (0 : Int) ≤ (i : Int) := by omega
   have HK := Aside0.mk hik
   have HI := Aside0.mk hi
   clear hcc hcl hxC hxl HA hik hx0 hi
   go_wp2
   repeat (go_quiet (fail); try go_wp2)
   go_roundg (l0.length - (i + 1))
   case measure => have := HK.out; have := HI.out; omega
   case rel => exact ⟨i + 1, _, by have := HI.out; omega, by have := HLEN.out; have := HI.out; congr 1; unfold wrap64; omega, rfl, HS, HBR, HB⟩
  ·
   have hi2 : ¬ (i : Int) < (l0.length : Int) := by omega
   have HZ := Aside0.mk (show z = allT 0 l0 by rw [← HA.out, List.drop_eq_nil_of_le (by omega)]; rfl)
   have hie : i = l0.length := by omega
   subst hie
   clear HA hi hik
   have q8 : wr.cell? ⟨br, 0, none⟩ = some (.slice none 0 0) := (blk_cell HBR.out 0).trans rfl
   have q9 : wr.cell? ⟨br, 1, none⟩ = some (.slice none 0 0) := (blk_cell HBR.out 1).trans rfl
   have q10 : wr.cell? ⟨br, 2, none⟩ = some (.int .i64 0) := (blk_cell HBR.out 2).trans rfl
   have q11 : wr.cell? ⟨br, 3, none⟩ = some (.int .i64 0) := (blk_cell HBR.out 3).trans rfl
   have y8 := blk_frozen HBR.out 0
   have y9 := blk_frozen HBR.out 1
   have y10 := blk_frozen HBR.out 2
   have y11 := blk_frozen HBR.out 3
   have HBS := Aside0.mk (show w.heap.size ≤ br by rw [HBRE.out]; exact Nat.le_refl _)
   have HEND := Aside0.mk (show ∀ (r1 : List (List Int)) (r2 : List S26) (r3 r4 : Int), some (([] : List (List Int)), ([] : List S26), (0 : Int), (0 : Int)) = some (r1, r2, r3, r4) → ∃ v0_ v1_ : Value, Ending.returned (.agg #[.slice none 0 0, .slice none 0 0, .int .i64 0, .int .i64 0]) = .returned (.agg #[v0_, v1_, .int .i64 r3, .int .i64 r4]) ∧ Kd.S (Kd.slice 3 (Kd.int .i64)) 23 ((((wr.setCell ⟨br, 0, none⟩ (.slice none 0 0)).setCell ⟨br, 1, none⟩ (.slice none 0 0)).setCell ⟨br, 2, none⟩ (.int .i64 0)).setCell ⟨br, 3, none⟩ (.int .i64 0)) w.heap.size (fun _ => True) v0_ r1 ∧ Kd.R k26 26 ((((wr.setCell ⟨br, 0, none⟩ (.slice none 0 0)).setCell ⟨br, 1, none⟩ (.slice none 0 0)).setCell ⟨br, 2, none⟩ (.int .i64 0)).setCell ⟨br, 3, none⟩ (.int .i64 0)) w.heap.size (fun _ => True) v1_ r2 ∧ Below w.heap.size w ((((wr.setCell ⟨br, 0, none⟩ (.slice none 0 0)).setCell ⟨br, 1, none⟩ (.slice none 0 0)).setCell ⟨br, 2, none⟩ (.int .i64 0)).setCell ⟨br, 3, none⟩ (.int .i64 0)) from fun r1 r2 r3 r4 h => by
    simp only [Option.some.injEq, Prod.mk.injEq] at h
    obtain ⟨rfl, rfl, rfl, rfl⟩ := h
    exact ⟨_, _, rfl, Kd.S_nil _ _ _ _ _, Kd.R_nil _ _ _ _ _, below_set (below_set (below_set (below_set HB.out HBS.out) HBS.out) HBS.out) HBS.out⟩)
   have HBLK := blk_put (blk_put (blk_put (blk_put HBR.out 0 (.slice none 0 0) rfl) 1 (.slice none 0 0) rfl) 2 (.int .i64 0) rfl) 3 (.int .i64 0) rfl
   have HBLK := Aside0.mk HBLK
   by_cases q1 : 64 < l0.length
   ·
    have H := HF.out
    rw [if_pos (.inl q1)] at H
    have HE := Aside0.mk (HEND.out _ _ _ _ H)
    have t1 : decide (64 < l0.length) = true := decide_eq_true q1
    have t1b : decide ((64 : Int) < (l0.length : Int)) = true := decide_eq_true (by omega)
    clear HF q1 H
    go_wp2
    (try simp only [Exit.inBlock, Exit.then])
    refine bodyPost_ret (results_cell_row rfl _ _ br 32 #[.slice none 0 0, .slice none 0 0, .int .i64 0, .int .i64 0] (0, 0) _ rfl HBLK.out Tryd.underlying32 rfl (by kernel_rfl)) rfl ?_
    exact HE.out
   ·
    have t1 : decide (64 < l0.length) = false := decide_eq_false q1
    have t1b : decide ((64 : Int) < (l0.length : Int)) = false := decide_eq_false (by omega)
    by_cases q2 : 4096 < allT 0 l0
    ·
     have H := HF.out
     rw [if_pos (.inr q2)] at H
     have HE := Aside0.mk (HEND.out _ _ _ _ H)
     have t2 : decide (4096 < z) = true := decide_eq_true (by rw [HZ.out]; exact q2)
     clear HF q2 q1 H
     go_wp2
     (try simp only [Exit.inBlock, Exit.then])
     refine bodyPost_ret (results_cell_row rfl _ _ br 32 #[.slice none 0 0, .slice none 0 0, .int .i64 0, .int .i64 0] (0, 0) _ rfl HBLK.out Tryd.underlying32 rfl (by kernel_rfl)) rfl ?_
     exact HE.out
    ·
     have HF2 := HF.out
     rw [if_neg (by omega)] at HF2
     have HF1 := Aside0.mk HF2
     have t2 : decide (4096 < z) = false := decide_eq_false (by rw [HZ.out]; exact q2)
     have HN64 := Aside0.mk (show l0.length ≤ 64 by omega)
     clear HF q2 HF2 q1 HEND HBLK q8 q9 q10 q11 y8 y9 y10 y11
     go_wp2_with (first | ((with_reducible refine gate_dst (N := 11) rfl ?_); (try (refine gate_guard (by rfl) ?_; dsimp only)); refine box_event ?hg (N := 11) ?hd (cs := #[.slice none 0 0, .slice none 0 0, .int .i64 0, .int .i64 0]) (t := 32) ?hr ?_; (case hd => rfl); (case hg => rfl); (case hr => first | (go_simp; done) | (go_simp; rfl)); intro bo hbo wc1 hxo hbw; have HBO := Aside0.mk hxo; have HB2 := Aside0.mk (below_step HB.out hbw); have HBR2 := Aside0.mk (blk_below HBR.out hbw); have HBOE := Aside0.mk hbo; clear hxo hbo hbw))
     have HBOS := Aside0.mk (show w.heap.size ≤ bo by rw [HBOE.out]; exact below_size HB.out)
     have HNE := Aside0.mk (show br < bo by rw [HBOE.out]; exact blk_lt HBR.out)
     clear HBR HB
     go_loopg [12, 13] l0.length (fun k v12 v13 w' => ∃ (i : Nat) (WA : Option Addr) (wc : Nat) (GA : Option Addr) (gc : Nat) (rows : List (List Value)), i + k = l0.length ∧ v13 = .int .i64 i ∧ v12 = .slice WA i wc ∧ Aside0 (w'.heap[br]? = some (.cells rz 32 (0, 0))) ∧ Aside0 (w'.heap[bo]? = some (.cells #[.slice GA i gc, .slice none 0 0, .int .i64 0, .int .i64 0] 32 (0, 0))) ∧ Aside0 ((Kd.raw 2).R 62 w' w.heap.size (fun _ => True) (.slice WA i wc) rows) ∧ Aside0 (∀ j, j < i → ∃ A c, rows.getD j [] = [.slice A (l0.getD j []).length c, .int .i64 0] ∧ (l0.getD j []).length ≤ c ∧ Kd.C k26 w A (l0.getD j []).length (l0.getD j [])) ∧ Aside0 (Kd.S (Kd.slice 3 (Kd.int .i64)) 23 w' w.heap.size (fun _ => True) (.slice GA i gc) (List.replicate i ([] : List Int))) ∧ Aside0 (Below w.heap.size w w'))
     case atStart => exact ⟨0, none, 0, none, 0, [], by omega, rfl, rfl, HBR2, HBO, ⟨Kd.R_nil _ _ _ _ _⟩, ⟨fun j hj => by omega⟩, ⟨Kd.S_nil _ _ _ _ _⟩, HB2⟩
     case round =>
      obtain ⟨i, WA, wc, GA, gc, rows, hik, rfl, rfl, HBR, HBO3, HWS, HRW, HGS, HB⟩ := hrel
      clear HBR2 HBO HB2
      have HRL := Aside0.mk (Kd.R_reads' HWS.out).1
      by_cases hi : i < l0.length
      ·
       obtain ⟨ad, c, hA, hcl, hx, hcc⟩ := Kd.C_get HR.out ([] : List S26) (i : Int) (by omega) (by omega)
       obtain ⟨XA, xc, rfl, hxl, hxC⟩ := hx
       subst hA
       rw [Int.toNat_natCast] at hxl hxC hcc
       have hx0 : w.cell? (ad.add (i * 1 + 0)) = some (.slice XA (l0.getD i []).length xc) := hcc 0 _ rfl
       rw [Nat.mul_one, Nat.add_zero] at hx0
       have hx1 := (HB.out.cell (World.block_lt_of_cell? _ _ hx0)).trans hx0
       have HRW2 := Aside0.mk (show ∀ j, j < i + 1 → ∃ A c, (rows ++ [[Value.slice XA (l0.getD i []).length xc, Value.int .i64 0]]).getD j [] = [.slice A (l0.getD j []).length c, .int .i64 0] ∧ (l0.getD j []).length ≤ c ∧ Kd.C k26 w A (l0.getD j []).length (l0.getD j []) from fun j hj => by
        by_cases e : j = i
        ·
         subst e
         refine ⟨XA, xc, ?_, hxl, hxC⟩
         rw [List.getD_eq_getElem?_getD, List.getElem?_append_right (by have := HRL.out; omega), show j - rows.length = 0 by have := HRL.out; omega]
         rfl
        ·
         obtain ⟨A, c, h1, h2⟩ := HRW.out j (by omega)
         refine ⟨A, c, ?_, h2⟩
         rw [List.getD_eq_getElem?_getD, List.getElem?_append_left (by have := HRL.out; omega), ← List.getD_eq_getElem?_getD]
         exact h1)
       generalize l0.getD i [] = x at *
       have p1 : (i : Int) < (l0.length : Int) := by omega
       have p0 : (0 : Int) ≤ (i : Int) := by omega
       have HK := Aside0.mk hik
       have HI := Aside0.mk hi
       have HRL5 := Aside0.mk (show (rows ++ [[Value.slice XA x.length xc, Value.int .i64 0]]).length = i + 1 by rw [List.length_append, ← HRL.out]; rfl)
       have HAL := Aside0.mk (show (rows.length + 1) * 32 ≤ 140737488355328 by have := HRL.out; have := HI.out; have := HN64.out; omega)
       have HGL5 := Aside0.mk (show (List.replicate i ([] : List Int) ++ [[]]).length = i + 1 by simp)
       have HGE5 := Aside0.mk (show List.replicate i ([] : List Int) ++ [[]] = List.replicate (i + 1) [] from (List.replicate_succ' ..).symm)
       have HAL2 := Aside0.mk (show ((List.replicate i ([] : List Int)).length + 1) * 24 ≤ 140737488355328 by rw [List.length_replicate]; have := HI.out; have := HN64.out; omega)
       clear hcc hcl hxC hxl hik hx0 hi
       go_upto_region 14 with (first | ((with_reducible refine gate_builtin (b := .append) (xs := #[.tmp 50, .tmp 56]) rfl ?_); (try (refine gate_guard (by rfl) ?_; dsimp only)); at_builtin; refine Kd.R_append (Kd.raw 2) (w0 := w) w.heap.size rfl (.tmp 50) (.tmp 56) 60 62 (.agg #[.slice none 0 0, .int .i64 0]) 32 rfl Tryd.underlying60 info62 rfl (by decide) (by omega) (.slice WA i wc) rows [.slice XA x.length xc, .int .i64 0] [.slice XA x.length xc, .int .i64 0] (fun _ => True) (fun _ => False) rfl (by first | (go_simp; done) | (go_simp; rfl)) ?aP ?aK ?aF ?aO ?aB ?aS ?aL ?_; (case aP => exact ⟨rfl, rfl, by intro u hu; simp at hu; rcases hu with rfl | rfl <;> rfl⟩); (case aK => exact fun _ hk => hk.elim); (case aF => exact fun _ _ => trivial); (case aO => exact HWS.out); (case aB => exact HB.out); (case aS => exact below_size HB.out); (case aL => exact HAL.out); intro v5 w5 ho hb hg hat; obtain ⟨WA5, wc5, e5⟩ := Kd.R_slice ho; rw [HRL5.out] at e5; subst e5; have HWS5 := Aside0.mk ho; have HBR5 := Aside0.mk (blk_grown HBR.out hg (Kd.R_ne HWS.out HBR.out (by decide))); have HBO5 := Aside0.mk (blk_grown HBO3.out hg (Kd.R_ne HWS.out HBO3.out (by decide))); have HGS5 := Aside0.mk (Kd.S_over' HGS.out (Kd.R_typed HWS.out) (by decide) hg); have HB5 := Aside0.mk hb; have q0 : w5.cell? ⟨bo, 0, none⟩ = some (.slice GA i gc) := (blk_cell HBO5.out 0).trans rfl; clear ho hb hg hat))
       go_upto_region 12 with (first | ((with_reducible refine gate_builtin (b := .append) (xs := #[.tmp 59, .tmp 60]) rfl ?_); (try (refine gate_guard (by rfl) ?_; dsimp only)); at_builtin; refine Kd.S_append (Kd.slice 3 (Kd.int .i64)) (w0 := w) w.heap.size rfl (.tmp 59) (.tmp 60) 28 23 (.slice none 0 0) 24 rfl Tryd.underlying28 info23b rfl (by decide) (by omega) (.slice GA i gc) (List.replicate i ([] : List Int)) [] [.slice none 0 0] (fun _ => True) (fun _ => False) rfl (by first | (go_simp; done) | (go_simp; rfl)) ?aP ?aK ?aF ?aO ?aB ?aS ?aL ?_; (case aP => exact Kd.M_row (Kd.R_nil _ _ _ _ _)); (case aK => exact fun _ hk => hk.elim); (case aF => exact fun _ _ => trivial); (case aO => exact Kd.S_mono HGS5.out (fun _ _ => ⟨trivial, fun h => h⟩)); (case aB => exact HB5.out); (case aS => exact below_size HB5.out); (case aL => exact HAL2.out); intro v6 w6 ho hb hg hat; obtain ⟨GA6, gc6, e6⟩ := Kd.S_slice ho; rw [HGL5.out] at e6; subst e6; rw [HGE5.out] at ho; have HGS6 := Aside0.mk ho; have HBR6 := Aside0.mk (blk_grown HBR5.out hg (Kd.S_ne HGS5.out HBR5.out (by decide))); have HBO6 := Aside0.mk (blk_grown HBO5.out hg (Kd.S_ne HGS5.out HBO5.out (by decide))); have HWS6 := Aside0.mk (Kd.R_over' HWS5.out (Kd.S_typed HGS5.out) (by decide) hg); have HB6 := Aside0.mk hb; have q0 : w6.cell? ⟨bo, 0, none⟩ = some (.slice GA i gc) := (blk_cell HBO6.out 0).trans rfl; have y0 := blk_frozen HBO6.out 0; clear ho hb hg hat))
       have HNB := Aside0.mk (show br ≠ bo by have := HNE.out; omega)
       go_wp2
       go_roundg (l0.length - (i + 1))
       case measure => have := HK.out; have := HI.out; omega
       case rel => exact ⟨i + 1, WA5, wc5, GA6, gc6, _, by have := HI.out; omega, by have := HLEN.out; have := HI.out; first | rfl | (congr 1; done) | (congr 1; unfold wrap64; omega), rfl, ⟨blk_far (p := ⟨bo, 0, none⟩) HBR6.out HNB.out _⟩, ⟨blk_put HBO6.out 0 _ rfl⟩, ⟨Kd.R_mono (Kd.R_far (p := ⟨bo, 0, none⟩) (Kd.R_types HWS6.out HBO6.out (by decide)) (fun _ hk => hk.2) _) (fun _ _ => trivial)⟩, HRW2, ⟨Kd.S_mono (Kd.S_far (p := ⟨bo, 0, none⟩) (Kd.S_types HGS6.out HBO6.out (by decide)) (fun _ hk => hk.2) _) (fun _ _ => trivial)⟩, ⟨below_set HB6.out HBOS.out⟩⟩

      ·
       have hi2 : ¬ (i : Int) < (l0.length : Int) := by omega
       have hie : i = l0.length := by omega
       subst hie
       clear hi hik
       obtain ⟨gw, V, hWA, hgw, hwk, hrow⟩ := ws_start HWS.out ⟨HBOS.out, blk_lt HBO3.out⟩ HRW.out
       have HWA := Aside0.mk hWA
       have HGW := Aside0.mk hgw
       have HWK := Aside0.mk hwk
       have HROW := Aside0.mk hrow
       clear hWA hgw hwk hrow
       have hmk : (Instr.makeSlice 55 (.int .i64 64) (.int .i64 64)).run Tryd.prog wr = .ok (.slice (some ⟨wr.heap.size, 0, none⟩) 64 64) (wr.alloc (.cells (List.replicate 64 (Value.bool false)).toArray 4 (0, 0))) := make_bools wr 64 (by omega)
       go_upto_region 16 with (fail)
       clear hmk
       have HBA := Aside0.mk (below_alloc HB.out (.cells (List.replicate 64 (Value.bool false)).toArray 4 (0, 0)))
       have HBLT := Aside0.mk (show (wr.alloc (.cells (List.replicate 64 (Value.bool false)).toArray 4 (0, 0))).heap.size = wr.heap.size + 1 from Array.size_push _)
       have HV0 := Aside0.mk (show Kd.V (Kd.int .i64) 3 (wr.alloc (.cells (List.replicate 64 (Value.bool false)).toArray 4 (0, 0))) (wr.alloc (.cells (List.replicate 64 (Value.bool false)).toArray 4 (0, 0))).heap.size (fun k => k < w.heap.size) (.slice A3 P.length c3) P from Kd.V_mk HC3.out (Kd.F_below (Kd.C_F (Kd.heap_int .i64) HR3.out) HBA.out))
       go_wp2_with (first | (go_at_call 19; refine (warpref1_Start.calls (fun k => k < w.heap.size) A3 c3 P P 0 (-1) _ HV0.out rfl).mono ?_; rintro e w10 ⟨v0, rfl, ho, hb⟩; obtain ⟨Av, cv, rfl⟩ := Kd.V_slice ho; have HV1 := Aside0.mk (Kd.V_map ho (fun _ hf => hf) : Kd.V (Kd.int .i64) 3 w10 w.heap.size _ _ _); have HB10 := Aside0.mk hb; clear ho hb) | ((with_reducible refine gate_dst (N := 15) rfl ?_); (try (refine gate_guard (by rfl) ?_; dsimp only)); refine box_event ?hg (N := 15) ?hd (cs := #[.slice none 0 0, .int .i64 0, .int .i64 0]) (t := 53) ?hr ?_; (case hd => rfl); (case hg => rfl); (case hr => first | (go_simp; done) | (go_simp; rfl)); intro bp hbp w11 hbox hb11; have z0 : w11.cell? ⟨bp, 0, none⟩ = some (.slice none 0 0) := (blk_cell hbox 0).trans rfl; have z1 : w11.cell? ⟨bp, 1, none⟩ = some (.int .i64 0) := (blk_cell hbox 1).trans rfl; have z2 : w11.cell? ⟨bp, 2, none⟩ = some (.int .i64 0) := (blk_cell hbox 2).trans rfl; have y0 := blk_frozen hbox 0; have y1 := blk_frozen hbox 1; have y2 := blk_frozen hbox 2; have HBPE := Aside0.mk hbp; have HBX := Aside0.mk hbox; have HB11 := Aside0.mk hb11; clear hbp hbox hb11))
       obtain ⟨Y, N, hst⟩ := RSt.start HNE.out HBS.out HBR.out HBO3.out HGS.out HB.out HGW.out HWK.out HROW.out HB10.out HV1.out HB11.out HBPE.out HBX.out
       have HS0 := Aside0.mk hst
       clear hst z0 z1 z2 y0 y1 y2 HBX HB11 HV1 HBPE HB10 HV0 HWK HROW HGS HBO3 HWS HRW HRL HBR HB HBLT HBA
       generalize ((w11.setCell ⟨bp, 0, none⟩ (.slice Av P.length cv)).setCell ⟨bp, 1, none⟩ (.int .i64 0)).setCell ⟨bp, 2, none⟩ (.int .i64 (-1)) = W at *
       clear HGW
       generalize wr.heap.size = bl at *
       generalize hgas : 3 * (allT 0 l0).toNat + 1 = gas at *
       go_loopg [16] gas (fun k v16 w' => ∃ (L : List (List S26)) (st : List Int) (got : List (List Int)) (keys : List S26) (held : List Int) (V : Array Value) (KA : Option Addr) (kc : Nat) (steps at_ last : Int) (uv : Value) (Y : Nat → Prop) (N : Nat), Aside0 (tabL l0.length room stripes P k L st got keys held at_ last steps = some (r1, r2, r3, r4)) ∧ Aside0 (0 ≤ steps ∧ (∀ x ∈ L, ∀ k ∈ x, Gk k) ∧ (∀ x ∈ st, 0 ≤ x) ∧ held.Nodup ∧ ∀ s ∈ held, 0 ≤ s ∧ s < 64) ∧ Aside0 (RSt w w' l0.length br bo bl bp gw L st got keys held V GA gc KA kc steps at_ last P uv Y N))
       case atStart => exact ⟨_, _, _, _, _, _, _, _, _, _, _, _, _, _, HF1, ⟨Int.le_refl _, HGK.out, fun x hx => by rw [(List.mem_replicate.1 hx).2]; exact Int.le_refl _, List.nodup_nil, fun s hs => by simp at hs⟩, HS0⟩
       case round =>
        obtain ⟨L, st, got, keys, held, V1, KA, kc, steps, at_, last, uv, Y1, N1, HF2, HL, HS⟩ := hrel
        clear HF1 HS0
        cases gk with
        | zero => exact absurd HF2.out (by simp [tabL])
        | succ gq =>
         obtain ⟨wq, hwq⟩ : ∃ x, x = wr := ⟨_, rfl⟩
         subst hwq
         have hmk := make_bools wq l0.length HN64.out
         go_upto_region 18 with (fail)
         clear hmk
         have HSA := Aside0.mk (below_alloc (Below.refl wq.heap.size wq) (.cells (List.replicate l0.length (Value.bool false)).toArray 4 (0, 0)))
         have HEA := Aside0.mk (blk_new wq (.cells (List.replicate l0.length (Value.bool false)).toArray 4 (0, 0)))
         go_wp2
         go_loopg [17] l0.length (fun k v17 w' => ∃ (i : Nat) (E1 : List Bool), i + k = l0.length ∧ v17 = .int .i64 i ∧ Aside0 (E1.length = l0.length ∧ ∀ j, j < i → E1.getD j false = (enT stripes l0.length L st held).getD j false) ∧ Aside0 (w'.heap[wq.heap.size]? = some (.cells (E1.map Value.bool).toArray 4 (0, 0))) ∧ Aside0 (Below wq.heap.size wq w'))
         case atStart => exact ⟨0, List.replicate l0.length false, by omega, rfl, ⟨by simp, fun j h => by omega⟩, ⟨by rw [List.map_replicate]; exact HEA.out⟩, HSA⟩
         case round =>
          obtain ⟨i, E1, hik, rfl, HL1, HE1, HB1⟩ := hrel
          clear HEA HSA
          have HIK := Aside0.mk hik
          by_cases hin : i < l0.length
          ·
           have v1 : (i : Int) < (l0.length : Int) := by omega
           have v0 : (0 : Int) ≤ (i : Int) := by omega
           have HIN := Aside0.mk hin
           have hWA := HWA.out (by omega)
           subst hWA
           have hs1 := HS.out.below2 HB1.out
           obtain ⟨A, c, b1, b2, b3, b4⟩ := hs1.row i hin
           have d0 : wr.cell? ⟨gw, i * 2, none⟩ = some (.slice A (L.getD i []).length c) := (blk_cell (hs1.wk (by omega)) _).trans b1
           have d1 : wr.cell? ⟨gw, i * 2 + 1, none⟩ = some (.int .i64 (st.getD i 0)) := (blk_cell (hs1.wk (by omega)) _).trans b4
           have HC := Aside0.mk (Kd.C_below b3 hs1.below)
           have HLK := Aside0.mk hs1.lk
           have HEG := Aside0.mk (enT_get stripes l0.length L st held i HIN.out)
           have HST := Aside0.mk (HL.out.2.2.1 _ (getD_mem st i 0 (by rw [hs1.len2]; exact hin)))
           have HGI := Aside0.mk (fun k (hk : k ∈ L.getD i []) => HL.out.2.1 _ (getD_mem L i [] (by rw [hs1.len1]; exact hin)) k hk)
           have hce : wr.cell? ⟨wq.heap.size, i, none⟩ = some (.bool (E1.getD i false)) := by
            refine (blk_cell HE1.out i).trans ?_
            have := HL1.out.1
            simp [List.getD_eq_getElem?_getD, show i < E1.length by omega]
           have hfe := blk_frozen HE1.out i
           have HFIN := Aside0.mk (show ∀ (bb : Bool), (enT stripes l0.length L st held).getD i false = bb → ∀ w5, Below wr.heap.size wr w5 → (E1.set i bb).length = l0.length ∧ (∀ j, j < i + 1 → (E1.set i bb).getD j false = (enT stripes l0.length L st held).getD j false) ∧ (w5.setCell ⟨wq.heap.size, i, none⟩ (.bool bb)).heap[wq.heap.size]? = some (.cells ((E1.set i bb).map Value.bool).toArray 4 (0, 0)) ∧ Below wq.heap.size wq (w5.setCell ⟨wq.heap.size, i, none⟩ (.bool bb)) from fun bb hbb w5 hb => by
            refine ⟨by rw [List.length_set]; exact HL1.out.1, fun j hj => ?_, blk_put (blk_below HE1.out hb) i (.bool bb) (by simp), below_set (below_step HB1.out hb) (Nat.le_refl _)⟩
            rw [set_getDb E1 i j bb (by have := HL1.out.1; have := HIN.out; omega)]
            by_cases c : j = i
            ·
             subst c; rw [if_pos rfl]; exact hbb.symm
            ·
             rw [if_neg c]; exact HL1.out.2 j (by omega))
           clear hs1 b1 b2 b3 b4 hik hin
           cases hL : L.getD i [] with
           | nil =>
            rw [hL] at d0 HEG
            replace d0 : wr.cell? ⟨gw, i * 2, none⟩ = some (.slice A 0 c) := d0
            have HFI := Aside0.mk (HFIN.out false HEG.out)
            clear HFIN HEG HC HGI hL
            go_wp2
            go_roundg (l0.length - (i + 1))
            case measure => have := HIK.out; have := HIN.out; omega
            case rel =>
             have hb5 := HFI.out _ (Below.refl wr.heap.size wr)
             exact ⟨i + 1, E1.set i false, by have := HIK.out; have := HIN.out; omega, by have := HLEN.out; have := HIN.out; first | rfl | (congr 1; done) | (congr 1; unfold wrap64; omega), ⟨hb5.1, hb5.2.1⟩, ⟨hb5.2.2.1⟩, ⟨hb5.2.2.2⟩⟩
           | cons k l =>
            rw [hL] at d0 HEG HC HGI
            obtain ⟨ad, hA, k0, k1, k2⟩ := at_T26 HC.out 0 (by omega) (by simp)
            subst hA
            have HKK := Aside0.mk (HGI.out k (List.mem_cons_self ..))
            have e0 : rd_T26 (k :: l) 0 = k := rfl
            rw [e0] at k0 k1 k2
            simp only [Int.toNat_zero, Nat.zero_mul] at k0 k1 k2
            have ea : ad.add 0 = ad := by cases ad; simp [Addr.add]
            rw [ea] at k0 k1 k2
            have p0 : decide (0 < (k :: l).length) = true := by simp
            have p1 : (0 : Int) < (((k :: l).length : Nat) : Int) := by rw [List.length_cons]; omega
            have p2 : 0 < (k :: l).length := by simp
            by_cases hst : 0 < st.getD i 0
            ·
             have q0 : (st.getD i 0 == 0) = false := by simpa using (show st.getD i 0 ≠ 0 by omega)
             have HFI := Aside0.mk (HFIN.out true (by rw [HEG.out]; unfold enB; rw [q0]; rfl))
             have tst : decide (0 < st.getD i 0) = true := decide_eq_true hst
             clear HFIN HEG HC HGI hL q0 e0 HST HKK
             generalize (k :: l).length = nn at *
             generalize st.getD i 0 = si at *
             go_wp2
             go_roundg (l0.length - (i + 1))
             case measure => have := HIK.out; have := HIN.out; omega
             case rel =>
              have hb5 := HFI.out _ (Below.refl wr.heap.size wr)
              exact ⟨i + 1, E1.set i true, by have := HIK.out; have := HIN.out; omega, by have := HLEN.out; have := HIN.out; first | rfl | (congr 1; done) | (congr 1; unfold wrap64; omega), ⟨hb5.1, hb5.2.1⟩, ⟨hb5.2.2.1⟩, ⟨hb5.2.2.2⟩⟩
            ·
             have es : st.getD i 0 = 0 := by have := HST.out; omega
             have hrg := stripeS_rng stripes k
             have hlg := lockV_get held _ hrg.1 hrg.2
             obtain ⟨r, hr⟩ : ∃ r, stripeS stripes k = r := ⟨_, rfl⟩
             have HFI := Aside0.mk (HFIN.out (!(decide (r ∈ held))) (by rw [HEG.out, es, ← hr]; rfl))
             rw [hr] at hrg hlg
             have HSC := Aside0.mk (fun w5 => rstripe_call k stripes HKK.out r hr w5)
             rw [es] at d1
             have g0 := (blk_cell HLK.out _).trans hlg
             have r0 := hrg.1
             have r1 := hrg.2
             have HCK := Aside0.mk (show ∀ w', (Below wr.heap.size wr w' ∨ Below wr.drew.heap.size wr.drew w') → w'.cell? ⟨gw, i * 2, none⟩ = some (.slice (some ad) (k :: l).length c) ∧ w'.cell? ⟨gw, i * 2 + 1, none⟩ = some (.int .i64 0) ∧ w'.cell? ad = some (.string k.f0) ∧ w'.cell? ⟨ad.block, ad.off + 1, none⟩ = some (.int .i64 k.f1) ∧ w'.cell? ⟨ad.block, ad.off + 2, none⟩ = some (.int .i64 k.f2) ∧ w'.cell? ⟨bl, r.toNat, none⟩ = some (.bool (decide (r ∈ held))) ∧ w'.cell? ⟨wq.heap.size, i, none⟩ = some (.bool (E1.getD i false)) ∧ w'.frozen? ⟨wq.heap.size, i, none⟩ = false ∧ Below wr.heap.size wr w' from fun w' hb => by
              have hb : Below wr.heap.size wr w' := hb.elim (fun h => h) (fun h => Below.trans (below_drew1 (Below.refl _ _)) h)
              exact ⟨(hb.cell (World.block_lt_of_cell? _ _ d0)).trans d0, (hb.cell (World.block_lt_of_cell? _ _ d1)).trans d1, (hb.cell (World.block_lt_of_cell? _ _ k0)).trans k0, (hb.cell (World.block_lt_of_cell? _ _ k1)).trans k1, (hb.cell (World.block_lt_of_cell? _ _ k2)).trans k2, (hb.cell (World.block_lt_of_cell? _ _ g0)).trans g0, (hb.cell (World.block_lt_of_cell? _ _ hce)).trans hce, blk_frozen (blk_below HE1.out hb) i, hb⟩)
             clear HFIN HEG HC HGI hL e0 HST HKK hst es hlg hrg hr
             generalize (k :: l).length = nn at *
             go_wp2_with (first | (go_at_call 20; refine (HSC.out _).mono ?_; rintro e w5 ⟨rfl, hb⟩; obtain ⟨_, _, _, _, _, g5, ce5, fe5, hb5⟩ := HCK.out w5 (by first | exact .inl hb | exact .inr hb); have HB5 := Aside0.mk hb5; clear hb hb5))
             go_wp2
             go_roundg (l0.length - (i + 1))
             case measure => have := HIK.out; have := HIN.out; omega
             case rel =>
              have hb5 := HFI.out _ HB5.out
              exact ⟨i + 1, E1.set i (!(decide (r ∈ held))), by have := HIK.out; have := HIN.out; omega, by have := HLEN.out; have := HIN.out; first | rfl | (congr 1; done) | (congr 1; unfold wrap64; omega), ⟨hb5.1, hb5.2.1⟩, ⟨hb5.2.2.1⟩, ⟨hb5.2.2.2⟩⟩

          ·
           have v1 : ¬ (i : Int) < (l0.length : Int) := by omega
           have hE : E1 = enT stripes l0.length L st held := by
            apply List.ext_getElem
            ·
             rw [HL1.out.1, enT_length]
            ·
             intro j h1 h2
             have h3 := HL1.out.2 j (by have := HL1.out.1; omega)
             rw [List.getD_eq_getElem?_getD, List.getElem?_eq_getElem h1, List.getD_eq_getElem?_getD, List.getElem?_eq_getElem h2] at h3
             exact h3
           subst hE
           clear hik hin
           have HS1 := Aside0.mk (HS.out.below2 HB1.out)
           have HEB := Aside0.mk (blk_lt HE1.out)
           have hps := HP1.out
           obtain ⟨Au, cu, huv⟩ := Kd.V_slice HS1.out.pv
           subst huv
           have hx := HS1.out.pk
           have z0 : wr.cell? ⟨bp, 0, none⟩ = some (.slice Au P.length cu) := (blk_cell hx 0).trans rfl
           have z1 : wr.cell? ⟨bp, 1, none⟩ = some (.int .i64 at_) := (blk_cell hx 1).trans rfl
           have z2 : wr.cell? ⟨bp, 2, none⟩ = some (.int .i64 last) := (blk_cell hx 2).trans rfl
           clear hx
           obtain ⟨who, hwho⟩ : ∃ z, whoS P at_ last (Bits.idx (enT stripes l0.length L st held)) = z := ⟨_, rfl⟩
           obtain ⟨at2, hat2⟩ : ∃ z, atS P at_ (Bits.idx (enT stripes l0.length L st held)) = z := ⟨_, rfl⟩
           obtain ⟨last2, hlast2⟩ : ∃ z, lastS P at_ last (Bits.idx (enT stripes l0.length L st held)) = z := ⟨_, rfl⟩
           have HNX := Aside0.mk (rpick_call (enT stripes l0.length L st held) l0.length (enT_length _ _ _ _ _) HN64.out _ Au cu P at_ last hps wq.heap.size wr (Kd.V_map HS1.out.pv (fun _ hf => hf)) HE1.out who at2 last2 hwho hat2 hlast2)
           have HWH := Aside0.mk hwho
           have HAT := Aside0.mk hat2
           have HLA := Aside0.mk hlast2
           clear hwho hat2 hlast2 hps
           go_upto_region 23 with (first | (go_at_call 21; refine HNX.out.mono ?_; rintro e w15 ⟨A', c', rfl, ho, hb⟩; have HV2 := Aside0.mk ho; have HB2 := Aside0.mk hb; clear ho hb) | ((with_reducible refine gate_dst (N := 18) rfl ?_); (try (refine gate_guard (by rfl) ?_; dsimp only)); refine box_event ?hg (N := 18) ?hd (cs := #[.int .i64 0, .slice none 0 0, .int .i64 0, .int .i64 0]) (t := 65) ?hr ?_; (case hd => rfl); (case hg => rfl); (case hr => first | (go_simp; done) | (go_simp; rfl)); intro gx hgx w17 hbox hb17; have z0 : w17.cell? ⟨gx, 0, none⟩ = some (.int .i64 0) := (blk_cell hbox 0).trans rfl; have z1 : w17.cell? ⟨gx, 1, none⟩ = some (.slice none 0 0) := (blk_cell hbox 1).trans rfl; have z2 : w17.cell? ⟨gx, 2, none⟩ = some (.int .i64 0) := (blk_cell hbox 2).trans rfl; have z3 : w17.cell? ⟨gx, 3, none⟩ = some (.int .i64 0) := (blk_cell hbox 3).trans rfl; have y0 := blk_frozen hbox 0; have y1 := blk_frozen hbox 1; have y2 := blk_frozen hbox 2; have y3 := blk_frozen hbox 3; have HGX := Aside0.mk hgx; have HBX := Aside0.mk hbox; have HB17 := Aside0.mk hb17; clear hgx hbox hb17))
           have HGX := Aside0.mk (show w15.heap.size ≤ gx by rw [HGX.out]; exact Nat.le_refl _)
           have HX3 := Aside0.mk (blk_put (blk_put (blk_put (blk_put HBX.out 0 (.int .i64 who) rfl) 1 (.slice A' P.length c') rfl) 2 (.int .i64 at2) rfl) 3 (.int .i64 last2) rfl)
           have HB18 := Aside0.mk (below_set (j := 3) (v := .int .i64 last2) (below_set (j := 2) (v := .int .i64 at2) (below_set (j := 1) (v := .slice A' P.length c') (below_set (j := 0) (v := .int .i64 who) HB17.out HGX.out) HGX.out) HGX.out) HGX.out)
           clear HB17 HBX z0 z1 z2 z3 y0 y1 y2 y3 HNX
           generalize (((w17.setCell ⟨gx, 0, none⟩ (.int .i64 who)).setCell ⟨gx, 1, none⟩ (.slice A' P.length c')).setCell ⟨gx, 2, none⟩ (.int .i64 at2)).setCell ⟨gx, 3, none⟩ (.int .i64 last2) = w18 at *
           have hx3 := HX3.out
           have x0 : w18.cell? ⟨gx, 0, none⟩ = some (.int .i64 who) := (blk_cell hx3 0).trans rfl
           have x1 : w18.cell? ⟨gx, 1, none⟩ = some (.slice A' P.length c') := (blk_cell hx3 1).trans rfl
           have x2 : w18.cell? ⟨gx, 2, none⟩ = some (.int .i64 at2) := (blk_cell hx3 2).trans rfl
           have x3 : w18.cell? ⟨gx, 3, none⟩ = some (.int .i64 last2) := (blk_cell hx3 3).trans rfl
           clear hx3
           by_cases hidx : Bits.idx (enT stripes l0.length L st held) = []
           ·
            have H := HF2.out
            rw [tabL, if_pos hidx] at H
            simp only [Option.some.injEq, Prod.mk.injEq] at H
            have hw1 : who = -1 := by rw [← HWH.out, whoS, if_pos hidx]
            have tw : decide (who < 0) = true := decide_eq_true (by omega)
            have HS2 := Aside0.mk ((HS1.out.below2 HB2.out).below2 HB18.out)
            have HHD := Aside0.mk HL.out.2.2.2
            clear HS1 HF2 HV2 HX3 hidx hw1 HWH HAT HLA HS HB1 HE1 HL HL1 HB2 HB18
            obtain ⟨rfl, rfl, rfl, rfl⟩ := H
            obtain ⟨w19, hw19⟩ : ∃ x, x = w18 := ⟨_, rfl⟩
            subst hw19
            have HO2 := Aside0.mk HS2.out.out
            have HR2 := Aside0.mk HS2.out.rs
            have HK2 := Aside0.mk HS2.out.lk
            have HM2 := Aside0.mk HS2.out.mine
            have HNE2 := Aside0.mk HS2.out.ne
            have HNL := Aside0.mk (ne_block HS2.out.lk HS2.out.out (by decide))
            have HEND := Aside0.mk (show ∀ w', Kept w19 w' (fun q => q = bo) → Kd.S (Kd.slice 3 (Kd.int .i64)) 23 w' w.heap.size (fun k => True ∧ k ≠ br) (.slice GA l0.length gc) got ∧ Kd.R k26 26 w' w.heap.size (fun k => True ∧ k ≠ br) (.slice KA keys.length kc) keys from fun w' hk =>
             ⟨Kd.S_mono (Kd.S_kept (Kd.S_types (Kd.S_types HS2.out.gr HS2.out.out (by decide)) HS2.out.rs (by decide)) hk (fun _ h => h.1.2)) (fun _ h => ⟨trivial, h.2⟩), Kd.R_mono (Kd.R_kept (Kd.R_types (Kd.R_types HS2.out.kr HS2.out.out (by decide)) HS2.out.rs (by decide)) hk (fun _ h => h.1.2)) (fun _ h => ⟨trivial, h.2⟩)⟩)
            have HBW := Aside0.mk HS2.out.below
            clear HS2
            go_wp2
            go_loopg [22] 64 (fun k v22 w' => ∃ (i : Nat), i + k = 64 ∧ v22 = .int .i64 i ∧ Aside0 (w'.heap[bo]? = some (.cells #[.slice GA l0.length gc, .slice KA keys.length kc, .int .i64 steps, .int .i64 (heldN held i : Nat)] 32 (0, 0))) ∧ Aside0 (Kept w19 w' (fun q => q = bo)) ∧ Aside0 (Below w.heap.size w w'))
            case atStart => exact ⟨0, by omega, rfl, HO2, ⟨Kept.refl _ _⟩, HBW⟩
            case round =>
             obtain ⟨i, hik, rfl, HO3, HK3, HB3⟩ := hrel
             clear HO2 HBW
             have HIK := Aside0.mk hik
             by_cases hin : i < 64
             ·
              have v1 : (i : Int) < 64 := by omega
              have v0 : (0 : Int) ≤ (i : Int) := by omega
              have HIN := Aside0.mk hin
              have q3 : wr.cell? ⟨bo, 3, none⟩ = some (.int .i64 (heldN held i : Nat)) := (blk_cell HO3.out 3).trans rfl
              have y3 := blk_frozen HO3.out 3
              have hlk := blk_kept HK2.out HK3.out HNL.out
              have g0 : wr.cell? ⟨bl, i, none⟩ = some (.bool (decide ((i : Int) ∈ held))) := (blk_cell hlk i).trans (by have := lockV_get held (i : Int) v0 v1; rwa [Int.toNat_natCast] at this)
              have HW64 := Aside0.mk (show wrap64 ((heldN held i : Nat) + 1) = ((heldN held i + 1 : Nat) : Int) by have := heldN_le held i; rw [wr64 (by omega) (by omega)]; omega)
              have HW60 := Aside0.mk (show wrap64 (heldN held i : Nat) = ((heldN held i : Nat) : Int) by have := heldN_le held i; rw [wr64 (by omega) (by omega)])
              have HSU := Aside0.mk (heldN_succ held i)
              have HFI := Aside0.mk (show ∀ (z : Int) (m : Nat), ((heldN held (i + 1) : Nat) : Int) = z → ((wr.drewN m).setCell ⟨bo, 3, none⟩ (.int .i64 z)).heap[bo]? = some (.cells #[.slice GA l0.length gc, .slice KA keys.length kc, .int .i64 steps, .int .i64 (heldN held (i + 1) : Nat)] 32 (0, 0)) ∧ Kept w19 ((wr.drewN m).setCell ⟨bo, 3, none⟩ (.int .i64 z)) (fun q => q = bo) ∧ Below w.heap.size w ((wr.drewN m).setCell ⟨bo, 3, none⟩ (.int .i64 z)) from fun z m hz => ⟨blk_put (blk_drewN HO3.out m) 3 _ (by rw [hz]; rfl), (HK3.out.drewN m).setCell (.inl rfl) _, below_set (pw_below_drewN HB3.out m) HM2.out.2.1⟩)
              clear hlk hik hin
              by_cases hm : (i : Int) ∈ held
              ·
               have dm : decide ((i : Int) ∈ held) = true := decide_eq_true hm
               rw [dm] at g0
               have HSV := Aside0.mk (show ((heldN held (i + 1) : Nat) : Int) = ((heldN held i + 1 : Nat) : Int) by rw [HSU.out, if_pos hm])
               clear dm hm HSU
               generalize heldN held i = hh at *
               go_wp2
               go_region_law (first | (go_simp; go_at_call 23; refine (warpref1_b.calls true 1 _ rfl).mono ?_; rintro e w' ⟨rfl, ⟨nd, rfl⟩⟩))
               all_goals
                go_wp2
                go_roundg (64 - (i + 1))
                case measure => have := HIK.out; have := HIN.out; omega
                case rel =>
                 have hf := fun m => HFI.out _ m (HSV.out.trans HW64.out.symm)
                 exact ⟨i + 1, by have := HIK.out; have := HIN.out; omega, by have := HIN.out; first | rfl | (congr 1; done) | (congr 1; unfold wrap64; omega), ⟨(hf _).1⟩, ⟨(hf _).2.1⟩, ⟨(hf _).2.2⟩⟩
              ·
               have dm : decide ((i : Int) ∈ held) = false := decide_eq_false hm
               rw [dm] at g0
               have HSV := Aside0.mk (show ((heldN held (i + 1) : Nat) : Int) = ((heldN held i : Nat) : Int) by rw [HSU.out, if_neg hm]; rfl)
               clear dm hm HSU
               generalize heldN held i = hh at *
               go_wp2
               go_region_law (first | (go_simp; go_at_call 23; refine (warpref1_b.calls false 0 _ rfl).mono ?_; rintro e w' ⟨rfl, ⟨nd, rfl⟩⟩))
               all_goals
                go_wp2
                go_roundg (64 - (i + 1))
                case measure => have := HIK.out; have := HIN.out; omega
                case rel =>
                 have hf := fun m => HFI.out _ m (HSV.out.trans HW60.out.symm)
                 exact ⟨i + 1, by have := HIK.out; have := HIN.out; omega, by have := HIN.out; first | rfl | (congr 1; done) | (congr 1; unfold wrap64; omega), ⟨(hf _).1⟩, ⟨(hf _).2.1⟩, ⟨(hf _).2.2⟩⟩
             ·
              have v1 : ¬ (i : Int) < 64 := by omega
              have hie : i = 64 := by omega
              subst hie
              clear hin hik
              have q0 : wr.cell? ⟨bo, 0, none⟩ = some (.slice GA l0.length gc) := (blk_cell HO3.out 0).trans rfl
              have q1 : wr.cell? ⟨bo, 1, none⟩ = some (.slice KA keys.length kc) := (blk_cell HO3.out 1).trans rfl
              have q2 : wr.cell? ⟨bo, 2, none⟩ = some (.int .i64 steps) := (blk_cell HO3.out 2).trans rfl
              have q3 : wr.cell? ⟨bo, 3, none⟩ = some (.int .i64 (heldN held 64 : Nat)) := (blk_cell HO3.out 3).trans rfl
              have hrs := blk_kept HR2.out HK3.out HNE2.out
              have HRS := Aside0.mk hrs
              have s0 : wr.cell? ⟨br, 0, none⟩ = some (.slice none 0 0) := (blk_cell hrs 0).trans rfl
              have s1 : wr.cell? ⟨br, 1, none⟩ = some (.slice none 0 0) := (blk_cell hrs 1).trans rfl
              have s2 : wr.cell? ⟨br, 2, none⟩ = some (.int .i64 0) := (blk_cell hrs 2).trans rfl
              have s3 : wr.cell? ⟨br, 3, none⟩ = some (.int .i64 0) := (blk_cell hrs 3).trans rfl
              have y0 := blk_frozen hrs 0
              have y1 := blk_frozen hrs 1
              have y2 := blk_frozen hrs 2
              have y3 := blk_frozen hrs 3
              clear hrs
              have HHA := Aside0.mk (heldN_all held HHD.out.1 HHD.out.2)
              have HE := HEND.out wr HK3.out
              have HE1 := Aside0.mk HE.1
              have HE2 := Aside0.mk HE.2
              clear HE HEND
              go_wp2
              (try simp only [Exit.inBlock, Exit.then])
              refine bodyPost_ret (results_cell_row rfl _ _ br 32 #[.slice GA l0.length gc, .slice KA keys.length kc, .int .i64 steps, .int .i64 (heldN held 64 : Nat)] (0, 0) _ rfl (blk_put (blk_put (blk_put (blk_put HRS.out 0 _ rfl) 1 _ rfl) 2 _ rfl) 3 _ rfl) Tryd.underlying32 rfl (by kernel_rfl)) rfl ?_
              exact ⟨_, _, by rw [HHA.out], Kd.S_mono (Kd.S_far (p := ⟨br, 3, none⟩) (Kd.S_far (p := ⟨br, 2, none⟩) (Kd.S_far (p := ⟨br, 1, none⟩) (Kd.S_far (p := ⟨br, 0, none⟩) HE1.out (fun _ h => h.2) _) (fun _ h => h.2) _) (fun _ h => h.2) _) (fun _ h => h.2) _) (fun _ _ => trivial), Kd.R_mono (Kd.R_far (p := ⟨br, 3, none⟩) (Kd.R_far (p := ⟨br, 2, none⟩) (Kd.R_far (p := ⟨br, 1, none⟩) (Kd.R_far (p := ⟨br, 0, none⟩) HE2.out (fun _ h => h.2) _) (fun _ h => h.2) _) (fun _ h => h.2) _) (fun _ h => h.2) _) (fun _ _ => trivial), below_set (below_set (below_set (below_set HB3.out HM2.out.1) HM2.out.1) HM2.out.1) HM2.out.1⟩

           ·
            have H := HF2.out
            rw [tabL, if_neg hidx] at H
            rw [HWH.out, HAT.out, HLA.out] at H
            have hq : 0 ≤ who ∧ who < (l0.length : Int) ∧ 0 ≤ steps ∧ steps < 500000 := Decidable.byContradiction fun c => by rw [if_neg c] at H; cases H
            rw [if_pos hq] at H
            obtain ⟨hq1, hq2, hq3, hq4⟩ := hq
            obtain ⟨i2, rfl⟩ := Int.eq_ofNat_of_zero_le hq1
            have hi2 : i2 < l0.length := by omega
            rw [Int.toNat_natCast] at H
            have tw : decide ((i2 : Int) < 0) = false := decide_eq_false (by omega)
            have HPN := Aside0.mk (show 0 < l0.length by omega)
            have HS2 := Aside0.mk (RSt.picked HS1.out HB2.out (.slice A' P.length c') at2 last2 HV2.out HB18.out)
            have hpk := ((HS1.out.below2 HB2.out).below2 HB18.out).pk
            have z0 : w18.cell? ⟨bp, 0, none⟩ = some (.slice Au P.length cu) := (blk_cell hpk 0).trans rfl
            have z1 : w18.cell? ⟨bp, 1, none⟩ = some (.int .i64 at_) := (blk_cell hpk 1).trans rfl
            have z2 : w18.cell? ⟨bp, 2, none⟩ = some (.int .i64 last) := (blk_cell hpk 2).trans rfl
            have y0 := blk_frozen hpk 0
            have y1 := blk_frozen hpk 1
            have y2 := blk_frozen hpk 2
            have HGB := Aside0.mk (show gx ≠ bp from ne_block HX3.out hpk (by decide))
            have hWA := HWA.out HPN.out
            subst hWA
            have p2 : (0 : Int) ≤ (i2 : Int) := by omega
            have p3 : (i2 : Int) < (l0.length : Int) := by omega
            have HF4 := Aside0.mk H
            have HI2 := Aside0.mk hi2
            have HST4 := Aside0.mk (And.intro hq3 hq4)
            clear hpk HS1 HF2 HV2 hidx H hq1 hq2 hq3 hq4 hi2 HB18 HB2 HB1 HE1 HS HWH
            go_upto_region 25 with (fail)
            have HX4 := Aside0.mk (blk_far (p := ⟨bp, 2, none⟩) (blk_far (p := ⟨bp, 1, none⟩) (blk_far (p := ⟨bp, 0, none⟩) HX3.out HGB.out (.slice A' P.length c')) HGB.out (.int .i64 at2)) HGB.out (.int .i64 last2))
            clear x0 x1 x2 x3 z0 z1 z2 y0 y1 y2 HX3 HGB
            generalize ((w18.setCell ⟨bp, 0, none⟩ (.slice A' P.length c')).setCell ⟨bp, 1, none⟩ (.int .i64 at2)).setCell ⟨bp, 2, none⟩ (.int .i64 last2) = w20 at *
            have q2 : w20.cell? ⟨bo, 2, none⟩ = some (.int .i64 steps) := (blk_cell HS2.out.out 2).trans rfl
            have y2 := blk_frozen HS2.out.out 2
            have HGB := Aside0.mk (show gx ≠ bo from ne_block HX4.out HS2.out.out (by decide))
            go_upto_region 26 with (fail)
            have hst : wrap64 (steps + 1) = steps + 1 := by have := HST4.out; exact wr64 (by omega) (by omega)
            rw [hst]
            clear hst q2 y2
            have HS3 := Aside0.mk (HS2.out.counted HPN.out (steps + 1))
            have HX5 := Aside0.mk (blk_far (p := ⟨bo, 2, none⟩) HX4.out HGB.out (.int .i64 (steps + 1)))
            clear HS2 HX4 HGB
            generalize w20.setCell ⟨bo, 2, none⟩ (.int .i64 (steps + 1)) = w21 at *
            have x0 : w21.cell? ⟨gx, 0, none⟩ = some (.int .i64 (i2 : Nat)) := (blk_cell HX5.out 0).trans rfl
            have HGI := Aside0.mk (fun k (hk : k ∈ L.getD i2 []) => HL.out.2.1 _ (getD_mem L i2 [] (by rw [HS3.out.len1]; exact HI2.out)) k hk)
            obtain ⟨A, c, b1, b2, b3, b4⟩ := HS3.out.row i2 HI2.out
            have H := HF4.out
            cases hL : L.getD i2 [] with
            | nil => rw [hL] at H; cases H
            | cons k l =>
             rw [hL] at H b1 b2 b3 HGI
             dsimp only at H
             have HF5 := Aside0.mk H
             clear H HF4
             have hw := HS3.out.wk HPN.out
             have d0 : w21.cell? ⟨gw, i2 * 2, none⟩ = some (.slice A (k :: l).length c) := (blk_cell hw _).trans b1
             have d1 : w21.cell? ⟨gw, i2 * 2 + 1, none⟩ = some (.int .i64 (st.getD i2 0)) := (blk_cell hw _).trans b4
             obtain ⟨ad, hA, k0, k1, k2⟩ := at_T26 (Kd.C_below b3 HS3.out.below) 0 (by omega) (by simp)
             subst hA
             have e0 : rd_T26 (k :: l) 0 = k := rfl
             rw [e0] at k0 k1 k2
             simp only [Int.toNat_zero, Nat.zero_mul] at k0 k1 k2
             have ea : ad.add 0 = ad := by cases ad; simp [Addr.add]
             rw [ea] at k0 k1 k2
             have HKK := Aside0.mk (HGI.out k (List.mem_cons_self ..))
             have HC := Aside0.mk b3
             have HKC := Aside0.mk b2
             have HLL := Aside0.mk hL
             have HGI2 := Aside0.mk (fun q (hq : q ∈ l) => HGI.out q (List.mem_cons_of_mem _ hq))
             have HKB := Aside0.mk (show ad.block < w21.heap.size from World.block_lt_of_cell? _ _ k0)
             have p1 : (0 : Int) < (((k :: l).length : Nat) : Int) := by rw [List.length_cons]; omega
             have pp : 0 < (k :: l).length := by simp
             have HNN := Aside0.mk (show (k :: l).length = l.length + 1 from rfl)
             have hnn : ∃ nn, (k :: l).length = nn := ⟨_, rfl⟩
             obtain ⟨nn, hnn⟩ := hnn
             rw [hnn] at d0 p1 pp HNN HKC
             have HNK := Aside0.mk hnn
             obtain ⟨si, hsi⟩ : ∃ si, st.getD i2 0 = si := ⟨_, rfl⟩
             rw [hsi] at d1
             have HSI := Aside0.mk hsi
             clear b1 b2 b3 b4 e0 hw hnn HGI hL hsi
             go_upto_region 27 with (fail)
             have hba := below_alloc (Below.refl w21.heap.size w21) (.cells #[.slice (some ad) nn c, .int .i64 si] 62 (0, 0))
             have HS4 := Aside0.mk (HS3.out.below2 hba)
             have k0 := (hba.cell HKB.out).trans k0
             have k1 := (hba.cell (p := ⟨ad.block, ad.off + 1, none⟩) HKB.out).trans k1
             have k2 := (hba.cell (p := ⟨ad.block, ad.off + 2, none⟩) HKB.out).trans k2
             have HX6 := Aside0.mk (blk_below HX5.out hba)
             have HW6 := Aside0.mk (blk_new w21 (.cells #[.slice (some ad) nn c, .int .i64 si] 62 (0, 0)))
             have HNB := Aside0.mk (show w15.heap.size ≤ w21.heap.size from HS3.out.old.1)
             clear hba HS3 HX5 d0 d1 x0 HKB
             generalize w21.alloc (.cells #[.slice (some ad) nn c, .int .i64 si] 62 (0, 0)) = w22 at *
             generalize w21.heap.size = bw at *
             have d0 : w22.cell? ⟨bw, 0, none⟩ = some (.slice (some ad) nn c) := (blk_cell HW6.out 0).trans rfl
             go_upto_region 28 with (fail)
             have hba := below_alloc (Below.refl w22.heap.size w22) (.cells #[.string k.f0, .int .i64 k.f1, .int .i64 k.f2] 26 (0, 0))
             have HS5 := Aside0.mk (HS4.out.below2 hba)
             have HX7 := Aside0.mk (blk_below HX6.out hba)
             have HW7 := Aside0.mk (blk_below HW6.out hba)
             have HK7 := Aside0.mk (blk_new w22 (.cells #[.string k.f0, .int .i64 k.f1, .int .i64 k.f2] 26 (0, 0)))
             clear hba HS4 HX6 HW6 d0 k0 k1 k2
             generalize w22.alloc (.cells #[.string k.f0, .int .i64 k.f1, .int .i64 k.f2] 26 (0, 0)) = w23 at *
             generalize w22.heap.size = bk at *
             have d1 : w23.cell? ⟨bw, 1, none⟩ = some (.int .i64 si) := (blk_cell HW7.out 1).trans rfl
             by_cases hs0 : st.getD i2 0 = 0
             ·
              have H := HF5.out
              rw [if_pos hs0] at H
              have es : si = 0 := HSI.out.symm.trans hs0
              subst es
              have hnm : stripeS stripes k ∉ held := fun c => by rw [if_pos c] at H; cases H
              rw [if_neg hnm] at H
              have hrg := stripeS_rng stripes k
              obtain ⟨r, hr⟩ : ∃ r, stripeS stripes k = r := ⟨_, rfl⟩
              rw [hr] at H hnm hrg
              have hlg := lockV_get held r hrg.1 hrg.2
              have HLG := Aside0.mk hlg
              have HFN := Aside0.mk H
              have HNM := Aside0.mk hnm
              have HSC := Aside0.mk (fun w5 => rstripe_call k stripes HKK.out r hr w5)
              have h0 : w23.cell? ⟨bk, 0, none⟩ = some (.string k.f0) := (blk_cell HK7.out 0).trans rfl
              have h1 : w23.cell? ⟨bk, 1, none⟩ = some (.int .i64 k.f1) := (blk_cell HK7.out 1).trans rfl
              have h2 : w23.cell? ⟨bk, 2, none⟩ = some (.int .i64 k.f2) := (blk_cell HK7.out 2).trans rfl
              have r0 := hrg.1
              have r1 := hrg.2
              clear H hrg hlg hnm hr hs0 HF5
              go_upto_region 34 with (first | (go_at_call 20; refine (HSC.out _).mono ?_; rintro e w24 ⟨rfl, hb⟩; have hb : Below w23.heap.size w23 w24 := (by first | exact hb | exact Below.trans (below_drew1 (Below.refl _ _)) hb); have HB24 := Aside0.mk hb; have g0 : w24.cell? ⟨bl, r.toNat, none⟩ = some (.bool (decide (r ∈ held))) := (blk_cell (blk_below HS5.out.lk hb) _).trans HLG.out; have y0 := blk_frozen (blk_below HS5.out.lk hb) r.toNat; clear hb))
              have HS6 := Aside0.mk ((HS5.out.below2 HB24.out).locking (held2 := r :: held) HPN.out r r0 r1 true (by simp) (fun t ht => by simp [ht]))
              have hlb := blk_below HS5.out.lk HB24.out
              have HW8 := Aside0.mk (blk_far (p := ⟨bl, r.toNat, none⟩) (blk_below HW7.out HB24.out) (ne_block (blk_below HW7.out HB24.out) hlb (by decide)) (.bool true))
              have HX8 := Aside0.mk (blk_far (p := ⟨bl, r.toNat, none⟩) (blk_below HX7.out HB24.out) (ne_block (blk_below HX7.out HB24.out) hlb (by decide)) (.bool true))
              clear hlb HS5 HW7 HX7 HK7 HB24 g0 y0 h0 h1 h2 d1
              generalize w24.setCell ⟨bl, r.toNat, none⟩ (.bool true) = w25 at *
              have d1 : w25.cell? ⟨bw, 1, none⟩ = some (.int .i64 0) := (blk_cell HW8.out 1).trans rfl
              have y1 := blk_frozen HW8.out 1
              go_upto_region 42 with (fail)
              have HS7 := Aside0.mk (HS6.out.far HW8.out HNB.out (by decide) (by decide) (by decide) 1 (.int .i64 1))
              have HW9 := Aside0.mk (blk_put HW8.out 1 (.int .i64 1) rfl)
              have HX9 := Aside0.mk (blk_far (p := ⟨bw, 1, none⟩) HX8.out (ne_block HX8.out HW8.out (by decide)) (.int .i64 1))
              clear HS6 HW8 HX8 d1 y1
              generalize w25.setCell ⟨bw, 1, none⟩ (.int .i64 1) = w26 at *
              have hwk := HS7.out.wk HPN.out
              obtain ⟨A9, c9, b1, _, _, b4⟩ := HS7.out.row i2 HI2.out
              have m0 : w26.cell? ⟨gw, i2 * 2, none⟩ = some (.slice A9 (L.getD i2 []).length c9) := (blk_cell hwk _).trans b1
              have m1 : w26.cell? ⟨gw, i2 * 2 + 1, none⟩ = some (.int .i64 (st.getD i2 0)) := (blk_cell hwk _).trans b4
              have y0 := blk_frozen hwk (i2 * 2)
              have y1 := blk_frozen hwk (i2 * 2 + 1)
              have u0 : w26.cell? ⟨bw, 0, none⟩ = some (.slice (some ad) nn c) := (blk_cell HW9.out 0).trans rfl
              have u1 : w26.cell? ⟨bw, 1, none⟩ = some (.int .i64 1) := (blk_cell HW9.out 1).trans rfl
              have x0 : w26.cell? ⟨gx, 0, none⟩ = some (.int .i64 (i2 : Nat)) := (blk_cell HX9.out 0).trans rfl
              have hs9 := RSt.worker (L2 := L) (st2 := (st.set i2 1)) HS7.out i2 HI2.out (A := (some ad)) (c := c) (l := (k :: l)) (s := 1) (by rw [HNK.out]; exact HKC.out) HC.out HLL.out (getD_set_self _ _ _ _ (by rw [HS7.out.len2]; exact HI2.out)) (fun _ _ => rfl) (fun j hj => getD_set_ne _ _ _ _ _ hj) HS7.out.len1 (by rw [List.length_set]; exact HS7.out.len2)
              rw [HNK.out] at hs9
              have HS9 := Aside0.mk hs9
              clear hs9 hwk b1 b4
              generalize L.getD i2 [] = Li at *
              generalize st.getD i2 0 = sti at *
              go_wp2
              go_roundg gq
              case measure => omega
              case rel => exact ⟨_, _, _, _, _, _, _, _, _, _, _, _, _, _, HFN, ⟨by have := HST4.out; omega, HL.out.2.1, fun x hx => by
               rcases List.mem_or_eq_of_mem_set hx with hx | hx
               ·
                exact HL.out.2.2.1 x hx
               ·
                omega, List.nodup_cons.2 ⟨HNM.out, HL.out.2.2.2.1⟩, fun s hs => by
               rcases List.mem_cons.1 hs with hs | hs
               ·
                rw [hs]; exact ⟨r0, r1⟩
               ·
                exact HL.out.2.2.2.2 s hs⟩, HS9⟩
             ·
              by_cases hs1 : st.getD i2 0 = 1
              ·
               have H := HF5.out
               rw [if_neg hs0, if_pos hs1] at H
               have es : si = 1 := HSI.out.symm.trans hs1
               subst es
               have hbd : keys.length < 5000 ∧ (got.getD i2 []).length < 5000 := Decidable.byContradiction fun c => by rw [if_neg c] at H; cases H
               rw [if_pos hbd] at H
               have HBD := Aside0.mk hbd
               have HFC := Aside0.mk (find_call k keys (by omega) KA kc w23 (Kd.R_reads' HS5.out.kr).2.2 (Kd.R_reads' HS5.out.kr).2.1)
               have HFD := Aside0.mk (find_call k keys (by omega) KA kc w23.drew (Kd.R_reads' (Kd.R_drew HS5.out.kr)).2.2 (Kd.R_reads' HS5.out.kr).2.1)
               have HF6 := Aside0.mk H
               obtain ⟨fv, hfv⟩ : ∃ v, findS keys k = v := ⟨_, rfl⟩
               rw [hfv] at HFC HFD
               have HFV := Aside0.mk hfv
               have h0 : w23.cell? ⟨bk, 0, none⟩ = some (.string k.f0) := (blk_cell HK7.out 0).trans rfl
               have h1 : w23.cell? ⟨bk, 1, none⟩ = some (.int .i64 k.f1) := (blk_cell HK7.out 1).trans rfl
               have h2 : w23.cell? ⟨bk, 2, none⟩ = some (.int .i64 k.f2) := (blk_cell HK7.out 2).trans rfl
               have q1 : w23.cell? ⟨bo, 1, none⟩ = some (.slice KA keys.length kc) := (blk_cell HS5.out.out 1).trans rfl
               clear H hbd hs0 hs1 HF5 hfv
               go_upto_region 37 with (first | (go_at_call 22; (first | refine (HFC.out).mono ?_ | refine (HFD.out).mono ?_); rintro e w24 ⟨rfl, hb⟩; have hb : Below w23.heap.size w23 w24 := (by first | exact hb | exact Below.trans (below_drew1 (Below.refl _ _)) hb); have HB24 := Aside0.mk hb; clear hb))
               have HS6 := Aside0.mk (HS5.out.below2 HB24.out)
               have HW8 := Aside0.mk (blk_below HW7.out HB24.out)
               have HX8 := Aside0.mk (blk_below HX7.out HB24.out)
               have HK8 := Aside0.mk (blk_below HK7.out HB24.out)
               clear HS5 HW7 HX7 HK7 HB24 HFC HFD h0 h1 h2 q1 d1
               have h0 : w24.cell? ⟨bk, 0, none⟩ = some (.string k.f0) := (blk_cell HK8.out 0).trans rfl
               have h1 : w24.cell? ⟨bk, 1, none⟩ = some (.int .i64 k.f1) := (blk_cell HK8.out 1).trans rfl
               have h2 : w24.cell? ⟨bk, 2, none⟩ = some (.int .i64 k.f2) := (blk_cell HK8.out 2).trans rfl
               have q1 : w24.cell? ⟨bo, 1, none⟩ = some (.slice KA keys.length kc) := (blk_cell HS6.out.out 1).trans rfl
               by_cases hm : k ∈ keys
               ·
                have ef : fv = ((keys.idxOf k : Nat) : Int) := by rw [← HFV.out, findS, if_pos hm]
                subst ef
                have H := HF6.out
                rw [indexS, if_pos hm] at H
                dsimp only at H
                have HFN := Aside0.mk H
                have tf : decide (((keys.idxOf k : Nat) : Int) < 0) = false := decide_eq_false (by omega)
                clear H HF6 HFV hm
                generalize ((keys.idxOf k : Nat) : Int) = xi at *
                go_upto_region 40 with (fail)
                clear h0 h1 h2 q1 tf
                have HSD := Aside0.mk ((HS6.out).below2 (below_drew1 (Below.refl w24.heap.size w24)))
                obtain ⟨gg, IA, ic, oki, hGA, hgc, hgb, hIR, hfin⟩ := HSD.out.logged i2 HI2.out (xi)
                subst hGA
                obtain ⟨cellsg, hgb⟩ := hgb
                have HGB := Aside0.mk hgb
                have HIR := Aside0.mk hIR
                have HFL := Aside0.mk hfin
                have q0 : w24.cell? ⟨bo, 0, none⟩ = some (.slice (some ⟨gg, 0, none⟩) l0.length gc) := (blk_cell HS6.out.out 0).trans rfl
                have x0 : w24.cell? ⟨gx, 0, none⟩ = some (.int .i64 (i2 : Nat)) := (blk_cell HX8.out 0).trans rfl
                have q3 : w24.cell? ⟨gg, i2, none⟩ = some (.slice IA (got.getD i2 []).length ic) := hgc
                have HQ3 := Aside0.mk q3
                clear hgc hgb hIR hfin
                generalize got.getD i2 [] = gi at *
                have q0a : (w24.alloc (.cells #[.int .i64 (xi)] 3 (0, 0))).cell? ⟨bo, 0, none⟩ = some (.slice (some ⟨gg, 0, none⟩) l0.length gc) := (blk_cell (blk_alloc HS6.out.out _) 0).trans rfl
                have x0a : (w24.alloc (.cells #[.int .i64 (xi)] 3 (0, 0))).cell? ⟨gx, 0, none⟩ = some (.int .i64 (i2 : Nat)) := (blk_cell (blk_alloc HX8.out _) 0).trans rfl
                have q3a : (w24.alloc (.cells #[.int .i64 (xi)] 3 (0, 0))).cell? ⟨gg, i2, none⟩ = some (.slice IA gi.length ic) := ((below_alloc (Below.refl w24.heap.size w24) _).cell (blk_lt HGB.out)).trans HQ3.out
                have HGL := Aside0.mk HBD.out.2
                have ngb : gg ≠ bo := ne_block HGB.out HS6.out.out (by decide)
                have ngx : gg ≠ gx := ne_block HGB.out HX8.out (by decide)
                refine start_ (n := 15) (S := fun w' => w'.cell? ⟨bo, 0, none⟩ = some (.slice (some ⟨gg, 0, none⟩) l0.length gc) ∧ w'.cell? ⟨gx, 0, none⟩ = some (.int .i64 (i2 : Nat)) ∧ w'.cell? ⟨gg, i2, none⟩ = some (.slice IA gi.length ic)) (ds := [14]) #[false, false, false, false, false, false, false, false, false, false, false, false, false, false, false] (by kernel_rfl) rfl rfl ⟨q0, x0, q3⟩ (fun hHeld => ?_)
                refine pure_ (i := 0) (N := some 173) (v := ?_) (a' := ?_) #[true, false, false, false, false, false, false, false, false, false, false, false, false, false, false] rfl rfl (by kernel_rfl) (fun _ _ _ h => h) (Or.inl ⟨by rfl, ?_⟩) ?_ ?_
                rotate_left
                ·
                 intro w'
                 go_simp
                 with_reducible rfl
                rotate_left
                ·
                 simp only [Act.put, List.setIfInBounds_toArray, List.set_cons_zero, List.set_cons_succ, i64_w, i32_w]
                 rfl
                refine pure_ (i := 2) (N := some 175) (v := ?_) (a' := ?_) #[true, false, true, false, false, false, false, false, false, false, false, false, false, false, false] rfl rfl (by kernel_rfl) (fun _ _ _ h => h) (Or.inl ⟨by rfl, ?_⟩) ?_ ?_
                rotate_left
                ·
                 intro w'
                 go_simp
                 with_reducible rfl
                rotate_left
                ·
                 simp only [Act.put, List.setIfInBounds_toArray, List.set_cons_zero, List.set_cons_succ, i64_w, i32_w]
                 rfl
                refine pure_ (i := 4) (N := some 177) (v := ?_) (a' := ?_) #[true, false, true, false, true, false, false, false, false, false, false, false, false, false, false] rfl rfl (by kernel_rfl) (fun _ _ _ h => h) (Or.inl ⟨by rfl, ?_⟩) ?_ ?_
                rotate_left
                ·
                 intro w'
                 go_simp
                 with_reducible rfl
                rotate_left
                ·
                 simp only [Act.put, List.setIfInBounds_toArray, List.set_cons_zero, List.set_cons_succ, i64_w, i32_w]
                 rfl
                refine pure_ (i := 6) (N := some 179) (v := ?_) (a' := ?_) #[true, false, true, false, true, false, true, false, false, false, false, false, false, false, false] rfl rfl (by kernel_rfl) (fun _ _ _ h => h) (Or.inl ⟨by rfl, ?_⟩) ?_ ?_
                rotate_left
                ·
                 intro w'
                 go_simp
                 with_reducible rfl
                rotate_left
                ·
                 simp only [Act.put, List.setIfInBounds_toArray, List.set_cons_zero, List.set_cons_succ, i64_w, i32_w]
                 rfl
                refine take_ (i := 1) (N := some 174) (v := ?_) (a' := ?_) #[true, true, true, false, true, false, true, false, false, false, false, false, false, false, false] rfl rfl (by kernel_rfl) (fun _ _ _ h => h) (Or.inl ⟨by rfl, ?_⟩) hHeld ?_ ?_
                rotate_left
                ·
                 rintro w' ⟨s0, s1, s2⟩
                 go_simp
                 with_reducible rfl
                rotate_left
                ·
                 simp only [Act.put, List.setIfInBounds_toArray, List.set_cons_zero, List.set_cons_succ, i64_w, i32_w]
                 rfl
                refine take_ (i := 3) (N := some 176) (v := ?_) (a' := ?_) #[true, true, true, true, true, false, true, false, false, false, false, false, false, false, false] rfl rfl (by kernel_rfl) (fun _ _ _ h => h) (Or.inl ⟨by rfl, ?_⟩) hHeld ?_ ?_
                rotate_left
                ·
                 rintro w' ⟨s0, s1, s2⟩
                 go_simp
                 with_reducible rfl
                rotate_left
                ·
                 simp only [Act.put, List.setIfInBounds_toArray, List.set_cons_zero, List.set_cons_succ, i64_w, i32_w]
                 rfl
                refine take_ (i := 5) (N := some 178) (v := ?_) (a' := ?_) #[true, true, true, true, true, true, true, false, false, false, false, false, false, false, false] rfl rfl (by kernel_rfl) (fun _ _ _ h => h) (Or.inl ⟨by rfl, ?_⟩) hHeld ?_ ?_
                rotate_left
                ·
                 rintro w' ⟨s0, s1, s2⟩
                 go_simp
                 with_reducible rfl
                rotate_left
                ·
                 simp only [Act.put, List.setIfInBounds_toArray, List.set_cons_zero, List.set_cons_succ, i64_w, i32_w]
                 rfl
                refine take_ (i := 7) (N := some 180) (v := ?_) (a' := ?_) #[true, true, true, true, true, true, true, true, false, false, false, false, false, false, false] rfl rfl (by kernel_rfl) (fun _ _ _ h => h) (Or.inl ⟨by rfl, ?_⟩) hHeld ?_ ?_
                rotate_left
                ·
                 rintro w' ⟨s0, s1, s2⟩
                 go_simp
                 with_reducible rfl
                rotate_left
                ·
                 simp only [Act.put, List.setIfInBounds_toArray, List.set_cons_zero, List.set_cons_succ, i64_w, i32_w]
                 rfl
                refine pure_ (i := 8) (N := some 181) (v := ?_) (a' := ?_) #[true, true, true, true, true, true, true, true, true, false, false, false, false, false, false] rfl rfl (by kernel_rfl) (fun _ _ _ h => h) (Or.inl ⟨by rfl, ?_⟩) ?_ ?_
                rotate_left
                ·
                 intro w'
                 go_simp
                 with_reducible rfl
                rotate_left
                ·
                 simp only [Act.put, List.setIfInBounds_toArray, List.set_cons_zero, List.set_cons_succ, i64_w, i32_w]
                 rfl
                refine take_ (i := 9) (N := some 182) (v := ?_) (a' := ?_) #[true, true, true, true, true, true, true, true, true, true, false, false, false, false, false] rfl rfl (by kernel_rfl) (fun _ _ _ h => h) (Or.inl ⟨by rfl, ?_⟩) hHeld ?_ ?_
                rotate_left
                ·
                 rintro w' ⟨s0, s1, s2⟩
                 go_simp
                 with_reducible rfl
                rotate_left
                ·
                 simp only [Act.put, List.setIfInBounds_toArray, List.set_cons_zero, List.set_cons_succ, i64_w, i32_w]
                 rfl
                refine pure_ (i := 10) (N := some 183) (v := ?_) (a' := ?_) #[true, true, true, true, true, true, true, true, true, true, true, false, false, false, false] rfl rfl (by kernel_rfl) (fun _ _ _ h => h) (Or.inl ⟨by rfl, ?_⟩) ?_ ?_
                rotate_left
                ·
                 intro w'
                 go_simp
                 with_reducible rfl
                rotate_left
                ·
                 simp only [Act.put, List.setIfInBounds_toArray, List.set_cons_zero, List.set_cons_succ, i64_w, i32_w]
                 rfl
                refine one_ (i := 11) (N := some 184) #[true, true, true, true, true, true, true, true, true, true, true, true, false, false, false] rfl rfl (by kernel_rfl) (by decide) (fun K hK => ?_)
                go_simp
                refine hK.out _ _ ⟨q0a, x0a, q3a⟩ (fun hHeld => ?_)
                clear hK K
                refine one_ (i := 12) (N := some 185) #[true, true, true, true, true, true, true, true, true, true, true, true, true, false, false] rfl rfl (by kernel_rfl) (by decide) (fun K hK => ?_)
                refine Kd.R_append_step (Kd.int .i64) (w0 := w) (W := w24.drew) w.heap.size (by rfl) (.tmp 182) (.tmp 184) 23 3 (.int .i64 0) 8 rfl Tryd.underlying23 info3 rfl (by decide) (by omega) (.slice IA gi.length ic) gi (xi) [.int .i64 (xi)] (fun k => oki k ∨ w24.drew.heap.size ≤ k) (fun _ => False) rfl (by first | (go_simp; done) | (go_simp; rfl)) ?aP ?aK ?aF ?aO ?aB ?aS ?aL ?_
                case aP => exact rfl
                case aK => exact fun _ hk => hk.elim
                case aB => exact HSD.out.below
                case aF => exact fun _ h => .inr h
                case aO => exact HIR.out
                case aS => exact below_size HSD.out.below
                case aL => have := HGL.out; omega
                intro v20 w30 ho hb hg hat
                obtain ⟨IA2, ic2, e2⟩ := Kd.R_slice ho
                have hf := HFL.out v20 w30 ho hb hg
                have e3 : (gi ++ [xi]).length = gi.length + 1 := (by rw [List.length_append, List.length_singleton])
                rw [e3] at e2
                subst e2
                have hob := blk_grown HSD.out.out hg (Kd.R_ne HIR.out HSD.out.out (by decide))
                have hxb := blk_grown (blk_drew HX8.out) hg (Kd.R_ne HIR.out (blk_drew HX8.out) (by decide))
                have hwb := blk_grown (blk_drew HW8.out) hg (Kd.R_ne HIR.out (blk_drew HW8.out) (by decide))
                have c0 : w30.cell? ⟨bo, 0, none⟩ = some (.slice (some ⟨gg, 0, none⟩) l0.length gc) := (blk_cell hob 0).trans rfl
                have cx : w30.cell? ⟨gx, 0, none⟩ = some (.int .i64 (i2 : Nat)) := (blk_cell hxb 0).trans rfl
                have f3 := hf.1
                have c3 := hf.2.1
                have HST9 := Aside0.mk hf.2.2
                have HW30 := Aside0.mk hwb
                have HX30 := Aside0.mk hxb
                have HG30 := Aside0.mk (blk_grown HGB.out hg (Kd.R_ne HIR.out HGB.out (by decide)))
                clear ho hb hg hat hf hob hxb hwb
                refine hK.out _ _ ⟨c0, cx, c3⟩ (fun hHeld => ?_)
                clear hK K
                refine norm_ (a' := ?_) ?_ ?_
                rotate_left
                ·
                 show Act.put _ (some 185) _ = _
                 simp only [Act.put, List.setIfInBounds_toArray, List.set_cons_zero, List.set_cons_succ, i64_w, i32_w]
                 rfl
                refine pure_ (i := 13) (N := some 186) (v := ?_) (a' := ?_) #[true, true, true, true, true, true, true, true, true, true, true, true, true, true, false] rfl rfl (by kernel_rfl) (fun _ _ _ h => h) (Or.inl ⟨by rfl, ?_⟩) ?_ ?_
                rotate_left
                ·
                 intro w'
                 go_simp
                 with_reducible rfl
                rotate_left
                ·
                 simp only [Act.put, List.setIfInBounds_toArray, List.set_cons_zero, List.set_cons_succ, i64_w, i32_w]
                 rfl
                refine last_ (i := 14) (N := none) #[true, true, true, true, true, true, true, true, true, true, true, true, true, true, true] rfl rfl (by kernel_rfl) (by decide) (fun K hK => ?_)
                refine skip_ (w1 := ?_) (by rfl) rfl ?_ ?_
                rotate_left
                ·
                 go_simp
                 rfl
                refine hK.out _ _ ?_
                clear hK K
                refine done_ (by kernel_rfl) ?_
                obtain ⟨Y2, hst9⟩ := HST9.out
                have HS7 := Aside0.mk hst9
                have HW9 := Aside0.mk (blk_far (p := ⟨gg, i2, none⟩) HW30.out (ne_block HW30.out HG30.out (by decide)) (.slice IA2 (gi.length + 1) ic2))
                have HX9 := Aside0.mk (blk_far (p := ⟨gg, i2, none⟩) HX30.out (ne_block HX30.out HG30.out (by decide)) (.slice IA2 (gi.length + 1) ic2))
                clear hst9 HST9 HW30 HX30 HG30 c0 cx f3 c3 q0 x0 q3 q0a x0a q3a HSD HIR HFL HGB ngb ngx HS6 HW8 HX8 HQ3
                generalize w30.setCell ⟨gg, i2, none⟩ (.slice IA2 (gi.length + 1) ic2) = w31 at *
                have d1 : w31.cell? ⟨bw, 1, none⟩ = some (.int .i64 1) := (blk_cell HW9.out 1).trans rfl
                have y1 := blk_frozen HW9.out 1
                go_upto_region 42 with (fail)
                have HS8 := Aside0.mk (HS7.out.far HW9.out HNB.out (by decide) (by decide) (by decide) 1 (.int .i64 2))
                have HW10 := Aside0.mk (blk_put HW9.out 1 (.int .i64 2) rfl)
                have HX10 := Aside0.mk (blk_far (p := ⟨bw, 1, none⟩) HX9.out (ne_block HX9.out HW9.out (by decide)) (.int .i64 2))
                clear HS7 HW9 HX9 d1 y1
                generalize w31.setCell ⟨bw, 1, none⟩ (.int .i64 2) = w32 at *
                have hwk := HS8.out.wk HPN.out
                obtain ⟨A9, c9, b1, _, _, b4⟩ := HS8.out.row i2 HI2.out
                have m0 : w32.cell? ⟨gw, i2 * 2, none⟩ = some (.slice A9 (L.getD i2 []).length c9) := (blk_cell hwk _).trans b1
                have m1 : w32.cell? ⟨gw, i2 * 2 + 1, none⟩ = some (.int .i64 (st.getD i2 0)) := (blk_cell hwk _).trans b4
                have y0 := blk_frozen hwk (i2 * 2)
                have y1 := blk_frozen hwk (i2 * 2 + 1)
                have u0 : w32.cell? ⟨bw, 0, none⟩ = some (.slice (some ad) nn c) := (blk_cell HW10.out 0).trans rfl
                have u1 : w32.cell? ⟨bw, 1, none⟩ = some (.int .i64 2) := (blk_cell HW10.out 1).trans rfl
                have x0 : w32.cell? ⟨gx, 0, none⟩ = some (.int .i64 (i2 : Nat)) := (blk_cell HX10.out 0).trans rfl
                have hs9 := RSt.worker (L2 := L) (st2 := (st.set i2 2)) HS8.out i2 HI2.out (A := (some ad)) (c := c) (l := (k :: l)) (s := 2) (by rw [HNK.out]; exact HKC.out) HC.out HLL.out (getD_set_self _ _ _ _ (by rw [HS8.out.len2]; exact HI2.out)) (fun _ _ => rfl) (fun j hj => getD_set_ne _ _ _ _ _ hj) HS8.out.len1 (by rw [List.length_set]; exact HS8.out.len2)
                rw [HNK.out] at hs9
                have HS9 := Aside0.mk hs9
                clear hs9 hwk b1 b4
                generalize L.getD i2 [] = Li at *
                generalize st.getD i2 0 = sti at *
                go_wp2
                go_roundg gq
                case measure => omega
                case rel => 
                 exact ⟨_, _, _, _, _, _, _, _, _, _, _, _, _, _, HFN, ⟨by have := HST4.out; omega, HL.out.2.1, fun x hx => by
                  rcases List.mem_or_eq_of_mem_set hx with hx | hx
                  ·
                   exact HL.out.2.2.1 x hx
                  ·
                   omega, HL.out.2.2.2⟩, HS9⟩
               ·
                have ef : fv = -1 := by rw [← HFV.out, findS, if_neg hm]
                subst ef
                have tf : decide ((-1 : Int) < 0) = true := rfl
                by_cases hrm : (keys.length : Int) < room
                ·
                 have H := HF6.out
                 rw [indexS, if_neg hm, if_neg (by omega)] at H
                 dsimp only at H
                 have HFN := Aside0.mk H
                 have tr : decide ((keys.length : Int) < room) = true := decide_eq_true hrm
                 clear H HF6 HFV hm hrm
                 have HAL := Aside0.mk HBD.out.1
                 go_upto_region 40 with (first | ((with_reducible refine gate_builtin (b := .append) (xs := #[.tmp 168, .tmp 170]) rfl ?_); (try (refine gate_guard (by rfl) ?_; dsimp only)); at_builtin; refine Kd.R_append k26 (w0 := w) w.heap.size rfl (.tmp 168) (.tmp 170) 24 26 (.agg #[(.string ⟨#[]⟩), (.int .i64 0), (.int .i64 0)]) 32 rfl Tryd.underlying24 info26 rfl (by decide) (by omega) (.slice KA keys.length kc) keys k [.string k.f0, .int .i64 k.f1, .int .i64 k.f2] (fun _ => True) (fun _ => False) rfl (by first | (go_simp; done) | (go_simp; rfl)) ?aP ?aK ?aF ?aO ?aB ?aS ?aL ?_; (case aP => exact k26_mkM _ _ _ k); (case aK => exact fun _ hk => hk.elim); (case aB => exact HS6.out.below); (case aF => exact (fun _ _ => trivial)); (case aO => exact HS6.out.kr); (case aS => exact below_size HS6.out.below); (case aL => have := HAL.out; omega); intro v20 w25 ho hb hg hat; obtain ⟨KA2, kc2, e2⟩ := Kd.R_slice ho; subst e2; have HKY := Aside0.mk (HS6.out.keyed HPN.out ho hb hg hat); have hnk : ∀ {g t : Nat} {cs : Array Value}, w24.heap[g]? = some (.cells cs t (0, 0)) → t ≠ 26 → w25.heap[g]? = some (.cells cs t (0, 0)) := (fun hc ht => blk_grown hc hg (Kd.R_ne HS6.out.kr hc (Ne.symm ht))); have HO9 := Aside0.mk (hnk HS6.out.out (by decide)); have HW25 := Aside0.mk (hnk HW8.out (by decide)); have HX25 := Aside0.mk (hnk HX8.out (by decide)); have q1b : w25.cell? ⟨bo, 1, none⟩ = some (.slice KA keys.length kc) := (blk_cell HO9.out 1).trans rfl; have y1b := blk_frozen HO9.out 1; clear ho hb hg hat hnk))
                 have e9 : (keys ++ [k]).length = keys.length + 1 := by rw [List.length_append, List.length_singleton]
                 have hky := HKY.out
                 rw [e9] at hky
                 have HS7 := Aside0.mk hky
                 have HW9 := Aside0.mk (blk_far (p := ⟨bo, 1, none⟩) HW25.out (ne_block HW25.out HO9.out (by decide)) (.slice KA2 (keys.length + 1) kc2))
                 have HX9 := Aside0.mk (blk_far (p := ⟨bo, 1, none⟩) HX25.out (ne_block HX25.out HO9.out (by decide)) (.slice KA2 (keys.length + 1) kc2))
                 clear hky e9 HKY HS6 HW8 HX8 HK8 HO9 HW25 HX25 q1b y1b h0 h1 h2 q1 tf tr
                 generalize w25.setCell ⟨bo, 1, none⟩ (.slice KA2 (keys.length + 1) kc2) = w26 at *
                 have HS6 := HS7
                 have HW8 := HW9
                 have HX8 := HX9
                 clear HS7 HW9 HX9
                 have HSD := Aside0.mk ((HS6.out).below2 (below_drew1 (Below.refl w26.heap.size w26)))
                 obtain ⟨gg, IA, ic, oki, hGA, hgc, hgb, hIR, hfin⟩ := HSD.out.logged i2 HI2.out (((keys.length : Nat) : Int))
                 subst hGA
                 obtain ⟨cellsg, hgb⟩ := hgb
                 have HGB := Aside0.mk hgb
                 have HIR := Aside0.mk hIR
                 have HFL := Aside0.mk hfin
                 have q0 : w26.cell? ⟨bo, 0, none⟩ = some (.slice (some ⟨gg, 0, none⟩) l0.length gc) := (blk_cell HS6.out.out 0).trans rfl
                 have x0 : w26.cell? ⟨gx, 0, none⟩ = some (.int .i64 (i2 : Nat)) := (blk_cell HX8.out 0).trans rfl
                 have q3 : w26.cell? ⟨gg, i2, none⟩ = some (.slice IA (got.getD i2 []).length ic) := hgc
                 have HQ3 := Aside0.mk q3
                 clear hgc hgb hIR hfin
                 generalize got.getD i2 [] = gi at *
                 have q0a : (w26.alloc (.cells #[.int .i64 (((keys.length : Nat) : Int))] 3 (0, 0))).cell? ⟨bo, 0, none⟩ = some (.slice (some ⟨gg, 0, none⟩) l0.length gc) := (blk_cell (blk_alloc HS6.out.out _) 0).trans rfl
                 have x0a : (w26.alloc (.cells #[.int .i64 (((keys.length : Nat) : Int))] 3 (0, 0))).cell? ⟨gx, 0, none⟩ = some (.int .i64 (i2 : Nat)) := (blk_cell (blk_alloc HX8.out _) 0).trans rfl
                 have q3a : (w26.alloc (.cells #[.int .i64 (((keys.length : Nat) : Int))] 3 (0, 0))).cell? ⟨gg, i2, none⟩ = some (.slice IA gi.length ic) := ((below_alloc (Below.refl w26.heap.size w26) _).cell (blk_lt HGB.out)).trans HQ3.out
                 have HGL := Aside0.mk HBD.out.2
                 have ngb : gg ≠ bo := ne_block HGB.out HS6.out.out (by decide)
                 have ngx : gg ≠ gx := ne_block HGB.out HX8.out (by decide)
                 refine start_ (n := 15) (S := fun w' => w'.cell? ⟨bo, 0, none⟩ = some (.slice (some ⟨gg, 0, none⟩) l0.length gc) ∧ w'.cell? ⟨gx, 0, none⟩ = some (.int .i64 (i2 : Nat)) ∧ w'.cell? ⟨gg, i2, none⟩ = some (.slice IA gi.length ic)) (ds := [14]) #[false, false, false, false, false, false, false, false, false, false, false, false, false, false, false] (by kernel_rfl) rfl rfl ⟨q0, x0, q3⟩ (fun hHeld => ?_)
                 refine pure_ (i := 0) (N := some 173) (v := ?_) (a' := ?_) #[true, false, false, false, false, false, false, false, false, false, false, false, false, false, false] rfl rfl (by kernel_rfl) (fun _ _ _ h => h) (Or.inl ⟨by rfl, ?_⟩) ?_ ?_
                 rotate_left
                 ·
                  intro w'
                  go_simp
                  with_reducible rfl
                 rotate_left
                 ·
                  simp only [Act.put, List.setIfInBounds_toArray, List.set_cons_zero, List.set_cons_succ, i64_w, i32_w]
                  rfl
                 refine pure_ (i := 2) (N := some 175) (v := ?_) (a' := ?_) #[true, false, true, false, false, false, false, false, false, false, false, false, false, false, false] rfl rfl (by kernel_rfl) (fun _ _ _ h => h) (Or.inl ⟨by rfl, ?_⟩) ?_ ?_
                 rotate_left
                 ·
                  intro w'
                  go_simp
                  with_reducible rfl
                 rotate_left
                 ·
                  simp only [Act.put, List.setIfInBounds_toArray, List.set_cons_zero, List.set_cons_succ, i64_w, i32_w]
                  rfl
                 refine pure_ (i := 4) (N := some 177) (v := ?_) (a' := ?_) #[true, false, true, false, true, false, false, false, false, false, false, false, false, false, false] rfl rfl (by kernel_rfl) (fun _ _ _ h => h) (Or.inl ⟨by rfl, ?_⟩) ?_ ?_
                 rotate_left
                 ·
                  intro w'
                  go_simp
                  with_reducible rfl
                 rotate_left
                 ·
                  simp only [Act.put, List.setIfInBounds_toArray, List.set_cons_zero, List.set_cons_succ, i64_w, i32_w]
                  rfl
                 refine pure_ (i := 6) (N := some 179) (v := ?_) (a' := ?_) #[true, false, true, false, true, false, true, false, false, false, false, false, false, false, false] rfl rfl (by kernel_rfl) (fun _ _ _ h => h) (Or.inl ⟨by rfl, ?_⟩) ?_ ?_
                 rotate_left
                 ·
                  intro w'
                  go_simp
                  with_reducible rfl
                 rotate_left
                 ·
                  simp only [Act.put, List.setIfInBounds_toArray, List.set_cons_zero, List.set_cons_succ, i64_w, i32_w]
                  rfl
                 refine take_ (i := 1) (N := some 174) (v := ?_) (a' := ?_) #[true, true, true, false, true, false, true, false, false, false, false, false, false, false, false] rfl rfl (by kernel_rfl) (fun _ _ _ h => h) (Or.inl ⟨by rfl, ?_⟩) hHeld ?_ ?_
                 rotate_left
                 ·
                  rintro w' ⟨s0, s1, s2⟩
                  go_simp
                  with_reducible rfl
                 rotate_left
                 ·
                  simp only [Act.put, List.setIfInBounds_toArray, List.set_cons_zero, List.set_cons_succ, i64_w, i32_w]
                  rfl
                 refine take_ (i := 3) (N := some 176) (v := ?_) (a' := ?_) #[true, true, true, true, true, false, true, false, false, false, false, false, false, false, false] rfl rfl (by kernel_rfl) (fun _ _ _ h => h) (Or.inl ⟨by rfl, ?_⟩) hHeld ?_ ?_
                 rotate_left
                 ·
                  rintro w' ⟨s0, s1, s2⟩
                  go_simp
                  with_reducible rfl
                 rotate_left
                 ·
                  simp only [Act.put, List.setIfInBounds_toArray, List.set_cons_zero, List.set_cons_succ, i64_w, i32_w]
                  rfl
                 refine take_ (i := 5) (N := some 178) (v := ?_) (a' := ?_) #[true, true, true, true, true, true, true, false, false, false, false, false, false, false, false] rfl rfl (by kernel_rfl) (fun _ _ _ h => h) (Or.inl ⟨by rfl, ?_⟩) hHeld ?_ ?_
                 rotate_left
                 ·
                  rintro w' ⟨s0, s1, s2⟩
                  go_simp
                  with_reducible rfl
                 rotate_left
                 ·
                  simp only [Act.put, List.setIfInBounds_toArray, List.set_cons_zero, List.set_cons_succ, i64_w, i32_w]
                  rfl
                 refine take_ (i := 7) (N := some 180) (v := ?_) (a' := ?_) #[true, true, true, true, true, true, true, true, false, false, false, false, false, false, false] rfl rfl (by kernel_rfl) (fun _ _ _ h => h) (Or.inl ⟨by rfl, ?_⟩) hHeld ?_ ?_
                 rotate_left
                 ·
                  rintro w' ⟨s0, s1, s2⟩
                  go_simp
                  with_reducible rfl
                 rotate_left
                 ·
                  simp only [Act.put, List.setIfInBounds_toArray, List.set_cons_zero, List.set_cons_succ, i64_w, i32_w]
                  rfl
                 refine pure_ (i := 8) (N := some 181) (v := ?_) (a' := ?_) #[true, true, true, true, true, true, true, true, true, false, false, false, false, false, false] rfl rfl (by kernel_rfl) (fun _ _ _ h => h) (Or.inl ⟨by rfl, ?_⟩) ?_ ?_
                 rotate_left
                 ·
                  intro w'
                  go_simp
                  with_reducible rfl
                 rotate_left
                 ·
                  simp only [Act.put, List.setIfInBounds_toArray, List.set_cons_zero, List.set_cons_succ, i64_w, i32_w]
                  rfl
                 refine take_ (i := 9) (N := some 182) (v := ?_) (a' := ?_) #[true, true, true, true, true, true, true, true, true, true, false, false, false, false, false] rfl rfl (by kernel_rfl) (fun _ _ _ h => h) (Or.inl ⟨by rfl, ?_⟩) hHeld ?_ ?_
                 rotate_left
                 ·
                  rintro w' ⟨s0, s1, s2⟩
                  go_simp
                  with_reducible rfl
                 rotate_left
                 ·
                  simp only [Act.put, List.setIfInBounds_toArray, List.set_cons_zero, List.set_cons_succ, i64_w, i32_w]
                  rfl
                 refine pure_ (i := 10) (N := some 183) (v := ?_) (a' := ?_) #[true, true, true, true, true, true, true, true, true, true, true, false, false, false, false] rfl rfl (by kernel_rfl) (fun _ _ _ h => h) (Or.inl ⟨by rfl, ?_⟩) ?_ ?_
                 rotate_left
                 ·
                  intro w'
                  go_simp
                  with_reducible rfl
                 rotate_left
                 ·
                  simp only [Act.put, List.setIfInBounds_toArray, List.set_cons_zero, List.set_cons_succ, i64_w, i32_w]
                  rfl
                 refine one_ (i := 11) (N := some 184) #[true, true, true, true, true, true, true, true, true, true, true, true, false, false, false] rfl rfl (by kernel_rfl) (by decide) (fun K hK => ?_)
                 go_simp
                 refine hK.out _ _ ⟨q0a, x0a, q3a⟩ (fun hHeld => ?_)
                 clear hK K
                 refine one_ (i := 12) (N := some 185) #[true, true, true, true, true, true, true, true, true, true, true, true, true, false, false] rfl rfl (by kernel_rfl) (by decide) (fun K hK => ?_)
                 refine Kd.R_append_step (Kd.int .i64) (w0 := w) (W := w26.drew) w.heap.size (by rfl) (.tmp 182) (.tmp 184) 23 3 (.int .i64 0) 8 rfl Tryd.underlying23 info3 rfl (by decide) (by omega) (.slice IA gi.length ic) gi (((keys.length : Nat) : Int)) [.int .i64 (((keys.length : Nat) : Int))] (fun k => oki k ∨ w26.drew.heap.size ≤ k) (fun _ => False) rfl (by first | (go_simp; done) | (go_simp; rfl)) ?aP ?aK ?aF ?aO ?aB ?aS ?aL ?_
                 case aP => exact rfl
                 case aK => exact fun _ hk => hk.elim
                 case aB => exact HSD.out.below
                 case aF => exact fun _ h => .inr h
                 case aO => exact HIR.out
                 case aS => exact below_size HSD.out.below
                 case aL => have := HGL.out; omega
                 intro v20 w30 ho hb hg hat
                 obtain ⟨IA2, ic2, e2⟩ := Kd.R_slice ho
                 have hf := HFL.out v20 w30 ho hb hg
                 have e3 : (gi ++ [((keys.length : Nat) : Int)]).length = gi.length + 1 := (by rw [List.length_append, List.length_singleton])
                 rw [e3] at e2
                 subst e2
                 have hob := blk_grown HSD.out.out hg (Kd.R_ne HIR.out HSD.out.out (by decide))
                 have hxb := blk_grown (blk_drew HX8.out) hg (Kd.R_ne HIR.out (blk_drew HX8.out) (by decide))
                 have hwb := blk_grown (blk_drew HW8.out) hg (Kd.R_ne HIR.out (blk_drew HW8.out) (by decide))
                 have c0 : w30.cell? ⟨bo, 0, none⟩ = some (.slice (some ⟨gg, 0, none⟩) l0.length gc) := (blk_cell hob 0).trans rfl
                 have cx : w30.cell? ⟨gx, 0, none⟩ = some (.int .i64 (i2 : Nat)) := (blk_cell hxb 0).trans rfl
                 have f3 := hf.1
                 have c3 := hf.2.1
                 have HST9 := Aside0.mk hf.2.2
                 have HW30 := Aside0.mk hwb
                 have HX30 := Aside0.mk hxb
                 have HG30 := Aside0.mk (blk_grown HGB.out hg (Kd.R_ne HIR.out HGB.out (by decide)))
                 clear ho hb hg hat hf hob hxb hwb
                 refine hK.out _ _ ⟨c0, cx, c3⟩ (fun hHeld => ?_)
                 clear hK K
                 refine norm_ (a' := ?_) ?_ ?_
                 rotate_left
                 ·
                  show Act.put _ (some 185) _ = _
                  simp only [Act.put, List.setIfInBounds_toArray, List.set_cons_zero, List.set_cons_succ, i64_w, i32_w]
                  rfl
                 refine pure_ (i := 13) (N := some 186) (v := ?_) (a' := ?_) #[true, true, true, true, true, true, true, true, true, true, true, true, true, true, false] rfl rfl (by kernel_rfl) (fun _ _ _ h => h) (Or.inl ⟨by rfl, ?_⟩) ?_ ?_
                 rotate_left
                 ·
                  intro w'
                  go_simp
                  with_reducible rfl
                 rotate_left
                 ·
                  simp only [Act.put, List.setIfInBounds_toArray, List.set_cons_zero, List.set_cons_succ, i64_w, i32_w]
                  rfl
                 refine last_ (i := 14) (N := none) #[true, true, true, true, true, true, true, true, true, true, true, true, true, true, true] rfl rfl (by kernel_rfl) (by decide) (fun K hK => ?_)
                 refine skip_ (w1 := ?_) (by rfl) rfl ?_ ?_
                 rotate_left
                 ·
                  go_simp
                  rfl
                 refine hK.out _ _ ?_
                 clear hK K
                 refine done_ (by kernel_rfl) ?_
                 obtain ⟨Y2, hst9⟩ := HST9.out
                 have HS7 := Aside0.mk hst9
                 have HW9 := Aside0.mk (blk_far (p := ⟨gg, i2, none⟩) HW30.out (ne_block HW30.out HG30.out (by decide)) (.slice IA2 (gi.length + 1) ic2))
                 have HX9 := Aside0.mk (blk_far (p := ⟨gg, i2, none⟩) HX30.out (ne_block HX30.out HG30.out (by decide)) (.slice IA2 (gi.length + 1) ic2))
                 clear hst9 HST9 HW30 HX30 HG30 c0 cx f3 c3 q0 x0 q3 q0a x0a q3a HSD HIR HFL HGB ngb ngx HS6 HW8 HX8 HQ3
                 generalize w30.setCell ⟨gg, i2, none⟩ (.slice IA2 (gi.length + 1) ic2) = w31 at *
                 have d1 : w31.cell? ⟨bw, 1, none⟩ = some (.int .i64 1) := (blk_cell HW9.out 1).trans rfl
                 have y1 := blk_frozen HW9.out 1
                 go_upto_region 42 with (fail)
                 have HS8 := Aside0.mk (HS7.out.far HW9.out HNB.out (by decide) (by decide) (by decide) 1 (.int .i64 2))
                 have HW10 := Aside0.mk (blk_put HW9.out 1 (.int .i64 2) rfl)
                 have HX10 := Aside0.mk (blk_far (p := ⟨bw, 1, none⟩) HX9.out (ne_block HX9.out HW9.out (by decide)) (.int .i64 2))
                 clear HS7 HW9 HX9 d1 y1
                 generalize w31.setCell ⟨bw, 1, none⟩ (.int .i64 2) = w32 at *
                 have hwk := HS8.out.wk HPN.out
                 obtain ⟨A9, c9, b1, _, _, b4⟩ := HS8.out.row i2 HI2.out
                 have m0 : w32.cell? ⟨gw, i2 * 2, none⟩ = some (.slice A9 (L.getD i2 []).length c9) := (blk_cell hwk _).trans b1
                 have m1 : w32.cell? ⟨gw, i2 * 2 + 1, none⟩ = some (.int .i64 (st.getD i2 0)) := (blk_cell hwk _).trans b4
                 have y0 := blk_frozen hwk (i2 * 2)
                 have y1 := blk_frozen hwk (i2 * 2 + 1)
                 have u0 : w32.cell? ⟨bw, 0, none⟩ = some (.slice (some ad) nn c) := (blk_cell HW10.out 0).trans rfl
                 have u1 : w32.cell? ⟨bw, 1, none⟩ = some (.int .i64 2) := (blk_cell HW10.out 1).trans rfl
                 have x0 : w32.cell? ⟨gx, 0, none⟩ = some (.int .i64 (i2 : Nat)) := (blk_cell HX10.out 0).trans rfl
                 have hs9 := RSt.worker (L2 := L) (st2 := (st.set i2 2)) HS8.out i2 HI2.out (A := (some ad)) (c := c) (l := (k :: l)) (s := 2) (by rw [HNK.out]; exact HKC.out) HC.out HLL.out (getD_set_self _ _ _ _ (by rw [HS8.out.len2]; exact HI2.out)) (fun _ _ => rfl) (fun j hj => getD_set_ne _ _ _ _ _ hj) HS8.out.len1 (by rw [List.length_set]; exact HS8.out.len2)
                 rw [HNK.out] at hs9
                 have HS9 := Aside0.mk hs9
                 clear hs9 hwk b1 b4
                 generalize L.getD i2 [] = Li at *
                 generalize st.getD i2 0 = sti at *
                 go_wp2
                 go_roundg gq
                 case measure => omega
                 case rel => 
                  exact ⟨_, _, _, _, _, _, _, _, _, _, _, _, _, _, HFN, ⟨by have := HST4.out; omega, HL.out.2.1, fun x hx => by
                   rcases List.mem_or_eq_of_mem_set hx with hx | hx
                   ·
                    exact HL.out.2.2.1 x hx
                   ·
                    omega, HL.out.2.2.2⟩, HS9⟩
                ·
                 have H := HF6.out
                 rw [indexS, if_neg hm, if_pos (by omega)] at H
                 dsimp only at H
                 have HFN := Aside0.mk H
                 have tr : decide ((keys.length : Int) < room) = false := decide_eq_false hrm
                 clear H HF6 HFV hm hrm
                 go_upto_region 40 with (fail)
                 clear h0 h1 h2 q1 tf tr
                 have HSD := Aside0.mk ((HS6.out).below2 (below_drew1 (Below.refl w24.heap.size w24)))
                 obtain ⟨gg, IA, ic, oki, hGA, hgc, hgb, hIR, hfin⟩ := HSD.out.logged i2 HI2.out (-1)
                 subst hGA
                 obtain ⟨cellsg, hgb⟩ := hgb
                 have HGB := Aside0.mk hgb
                 have HIR := Aside0.mk hIR
                 have HFL := Aside0.mk hfin
                 have q0 : w24.cell? ⟨bo, 0, none⟩ = some (.slice (some ⟨gg, 0, none⟩) l0.length gc) := (blk_cell HS6.out.out 0).trans rfl
                 have x0 : w24.cell? ⟨gx, 0, none⟩ = some (.int .i64 (i2 : Nat)) := (blk_cell HX8.out 0).trans rfl
                 have q3 : w24.cell? ⟨gg, i2, none⟩ = some (.slice IA (got.getD i2 []).length ic) := hgc
                 have HQ3 := Aside0.mk q3
                 clear hgc hgb hIR hfin
                 generalize got.getD i2 [] = gi at *
                 have q0a : (w24.alloc (.cells #[.int .i64 (-1)] 3 (0, 0))).cell? ⟨bo, 0, none⟩ = some (.slice (some ⟨gg, 0, none⟩) l0.length gc) := (blk_cell (blk_alloc HS6.out.out _) 0).trans rfl
                 have x0a : (w24.alloc (.cells #[.int .i64 (-1)] 3 (0, 0))).cell? ⟨gx, 0, none⟩ = some (.int .i64 (i2 : Nat)) := (blk_cell (blk_alloc HX8.out _) 0).trans rfl
                 have q3a : (w24.alloc (.cells #[.int .i64 (-1)] 3 (0, 0))).cell? ⟨gg, i2, none⟩ = some (.slice IA gi.length ic) := ((below_alloc (Below.refl w24.heap.size w24) _).cell (blk_lt HGB.out)).trans HQ3.out
                 have HGL := Aside0.mk HBD.out.2
                 have ngb : gg ≠ bo := ne_block HGB.out HS6.out.out (by decide)
                 have ngx : gg ≠ gx := ne_block HGB.out HX8.out (by decide)
                 refine start_ (n := 15) (S := fun w' => w'.cell? ⟨bo, 0, none⟩ = some (.slice (some ⟨gg, 0, none⟩) l0.length gc) ∧ w'.cell? ⟨gx, 0, none⟩ = some (.int .i64 (i2 : Nat)) ∧ w'.cell? ⟨gg, i2, none⟩ = some (.slice IA gi.length ic)) (ds := [14]) #[false, false, false, false, false, false, false, false, false, false, false, false, false, false, false] (by kernel_rfl) rfl rfl ⟨q0, x0, q3⟩ (fun hHeld => ?_)
                 refine pure_ (i := 0) (N := some 173) (v := ?_) (a' := ?_) #[true, false, false, false, false, false, false, false, false, false, false, false, false, false, false] rfl rfl (by kernel_rfl) (fun _ _ _ h => h) (Or.inl ⟨by rfl, ?_⟩) ?_ ?_
                 rotate_left
                 ·
                  intro w'
                  go_simp
                  with_reducible rfl
                 rotate_left
                 ·
                  simp only [Act.put, List.setIfInBounds_toArray, List.set_cons_zero, List.set_cons_succ, i64_w, i32_w]
                  rfl
                 refine pure_ (i := 2) (N := some 175) (v := ?_) (a' := ?_) #[true, false, true, false, false, false, false, false, false, false, false, false, false, false, false] rfl rfl (by kernel_rfl) (fun _ _ _ h => h) (Or.inl ⟨by rfl, ?_⟩) ?_ ?_
                 rotate_left
                 ·
                  intro w'
                  go_simp
                  with_reducible rfl
                 rotate_left
                 ·
                  simp only [Act.put, List.setIfInBounds_toArray, List.set_cons_zero, List.set_cons_succ, i64_w, i32_w]
                  rfl
                 refine pure_ (i := 4) (N := some 177) (v := ?_) (a' := ?_) #[true, false, true, false, true, false, false, false, false, false, false, false, false, false, false] rfl rfl (by kernel_rfl) (fun _ _ _ h => h) (Or.inl ⟨by rfl, ?_⟩) ?_ ?_
                 rotate_left
                 ·
                  intro w'
                  go_simp
                  with_reducible rfl
                 rotate_left
                 ·
                  simp only [Act.put, List.setIfInBounds_toArray, List.set_cons_zero, List.set_cons_succ, i64_w, i32_w]
                  rfl
                 refine pure_ (i := 6) (N := some 179) (v := ?_) (a' := ?_) #[true, false, true, false, true, false, true, false, false, false, false, false, false, false, false] rfl rfl (by kernel_rfl) (fun _ _ _ h => h) (Or.inl ⟨by rfl, ?_⟩) ?_ ?_
                 rotate_left
                 ·
                  intro w'
                  go_simp
                  with_reducible rfl
                 rotate_left
                 ·
                  simp only [Act.put, List.setIfInBounds_toArray, List.set_cons_zero, List.set_cons_succ, i64_w, i32_w]
                  rfl
                 refine take_ (i := 1) (N := some 174) (v := ?_) (a' := ?_) #[true, true, true, false, true, false, true, false, false, false, false, false, false, false, false] rfl rfl (by kernel_rfl) (fun _ _ _ h => h) (Or.inl ⟨by rfl, ?_⟩) hHeld ?_ ?_
                 rotate_left
                 ·
                  rintro w' ⟨s0, s1, s2⟩
                  go_simp
                  with_reducible rfl
                 rotate_left
                 ·
                  simp only [Act.put, List.setIfInBounds_toArray, List.set_cons_zero, List.set_cons_succ, i64_w, i32_w]
                  rfl
                 refine take_ (i := 3) (N := some 176) (v := ?_) (a' := ?_) #[true, true, true, true, true, false, true, false, false, false, false, false, false, false, false] rfl rfl (by kernel_rfl) (fun _ _ _ h => h) (Or.inl ⟨by rfl, ?_⟩) hHeld ?_ ?_
                 rotate_left
                 ·
                  rintro w' ⟨s0, s1, s2⟩
                  go_simp
                  with_reducible rfl
                 rotate_left
                 ·
                  simp only [Act.put, List.setIfInBounds_toArray, List.set_cons_zero, List.set_cons_succ, i64_w, i32_w]
                  rfl
                 refine take_ (i := 5) (N := some 178) (v := ?_) (a' := ?_) #[true, true, true, true, true, true, true, false, false, false, false, false, false, false, false] rfl rfl (by kernel_rfl) (fun _ _ _ h => h) (Or.inl ⟨by rfl, ?_⟩) hHeld ?_ ?_
                 rotate_left
                 ·
                  rintro w' ⟨s0, s1, s2⟩
                  go_simp
                  with_reducible rfl
                 rotate_left
                 ·
                  simp only [Act.put, List.setIfInBounds_toArray, List.set_cons_zero, List.set_cons_succ, i64_w, i32_w]
                  rfl
                 refine take_ (i := 7) (N := some 180) (v := ?_) (a' := ?_) #[true, true, true, true, true, true, true, true, false, false, false, false, false, false, false] rfl rfl (by kernel_rfl) (fun _ _ _ h => h) (Or.inl ⟨by rfl, ?_⟩) hHeld ?_ ?_
                 rotate_left
                 ·
                  rintro w' ⟨s0, s1, s2⟩
                  go_simp
                  with_reducible rfl
                 rotate_left
                 ·
                  simp only [Act.put, List.setIfInBounds_toArray, List.set_cons_zero, List.set_cons_succ, i64_w, i32_w]
                  rfl
                 refine pure_ (i := 8) (N := some 181) (v := ?_) (a' := ?_) #[true, true, true, true, true, true, true, true, true, false, false, false, false, false, false] rfl rfl (by kernel_rfl) (fun _ _ _ h => h) (Or.inl ⟨by rfl, ?_⟩) ?_ ?_
                 rotate_left
                 ·
                  intro w'
                  go_simp
                  with_reducible rfl
                 rotate_left
                 ·
                  simp only [Act.put, List.setIfInBounds_toArray, List.set_cons_zero, List.set_cons_succ, i64_w, i32_w]
                  rfl
                 refine take_ (i := 9) (N := some 182) (v := ?_) (a' := ?_) #[true, true, true, true, true, true, true, true, true, true, false, false, false, false, false] rfl rfl (by kernel_rfl) (fun _ _ _ h => h) (Or.inl ⟨by rfl, ?_⟩) hHeld ?_ ?_
                 rotate_left
                 ·
                  rintro w' ⟨s0, s1, s2⟩
                  go_simp
                  with_reducible rfl
                 rotate_left
                 ·
                  simp only [Act.put, List.setIfInBounds_toArray, List.set_cons_zero, List.set_cons_succ, i64_w, i32_w]
                  rfl
                 refine pure_ (i := 10) (N := some 183) (v := ?_) (a' := ?_) #[true, true, true, true, true, true, true, true, true, true, true, false, false, false, false] rfl rfl (by kernel_rfl) (fun _ _ _ h => h) (Or.inl ⟨by rfl, ?_⟩) ?_ ?_
                 rotate_left
                 ·
                  intro w'
                  go_simp
                  with_reducible rfl
                 rotate_left
                 ·
                  simp only [Act.put, List.setIfInBounds_toArray, List.set_cons_zero, List.set_cons_succ, i64_w, i32_w]
                  rfl
                 refine one_ (i := 11) (N := some 184) #[true, true, true, true, true, true, true, true, true, true, true, true, false, false, false] rfl rfl (by kernel_rfl) (by decide) (fun K hK => ?_)
                 go_simp
                 refine hK.out _ _ ⟨q0a, x0a, q3a⟩ (fun hHeld => ?_)
                 clear hK K
                 refine one_ (i := 12) (N := some 185) #[true, true, true, true, true, true, true, true, true, true, true, true, true, false, false] rfl rfl (by kernel_rfl) (by decide) (fun K hK => ?_)
                 refine Kd.R_append_step (Kd.int .i64) (w0 := w) (W := w24.drew) w.heap.size (by rfl) (.tmp 182) (.tmp 184) 23 3 (.int .i64 0) 8 rfl Tryd.underlying23 info3 rfl (by decide) (by omega) (.slice IA gi.length ic) gi (-1) [.int .i64 (-1)] (fun k => oki k ∨ w24.drew.heap.size ≤ k) (fun _ => False) rfl (by first | (go_simp; done) | (go_simp; rfl)) ?aP ?aK ?aF ?aO ?aB ?aS ?aL ?_
                 case aP => exact rfl
                 case aK => exact fun _ hk => hk.elim
                 case aB => exact HSD.out.below
                 case aF => exact fun _ h => .inr h
                 case aO => exact HIR.out
                 case aS => exact below_size HSD.out.below
                 case aL => have := HGL.out; omega
                 intro v20 w30 ho hb hg hat
                 obtain ⟨IA2, ic2, e2⟩ := Kd.R_slice ho
                 have hf := HFL.out v20 w30 ho hb hg
                 have e3 : (gi ++ [-1]).length = gi.length + 1 := (by rw [List.length_append, List.length_singleton])
                 rw [e3] at e2
                 subst e2
                 have hob := blk_grown HSD.out.out hg (Kd.R_ne HIR.out HSD.out.out (by decide))
                 have hxb := blk_grown (blk_drew HX8.out) hg (Kd.R_ne HIR.out (blk_drew HX8.out) (by decide))
                 have hwb := blk_grown (blk_drew HW8.out) hg (Kd.R_ne HIR.out (blk_drew HW8.out) (by decide))
                 have c0 : w30.cell? ⟨bo, 0, none⟩ = some (.slice (some ⟨gg, 0, none⟩) l0.length gc) := (blk_cell hob 0).trans rfl
                 have cx : w30.cell? ⟨gx, 0, none⟩ = some (.int .i64 (i2 : Nat)) := (blk_cell hxb 0).trans rfl
                 have f3 := hf.1
                 have c3 := hf.2.1
                 have HST9 := Aside0.mk hf.2.2
                 have HW30 := Aside0.mk hwb
                 have HX30 := Aside0.mk hxb
                 have HG30 := Aside0.mk (blk_grown HGB.out hg (Kd.R_ne HIR.out HGB.out (by decide)))
                 clear ho hb hg hat hf hob hxb hwb
                 refine hK.out _ _ ⟨c0, cx, c3⟩ (fun hHeld => ?_)
                 clear hK K
                 refine norm_ (a' := ?_) ?_ ?_
                 rotate_left
                 ·
                  show Act.put _ (some 185) _ = _
                  simp only [Act.put, List.setIfInBounds_toArray, List.set_cons_zero, List.set_cons_succ, i64_w, i32_w]
                  rfl
                 refine pure_ (i := 13) (N := some 186) (v := ?_) (a' := ?_) #[true, true, true, true, true, true, true, true, true, true, true, true, true, true, false] rfl rfl (by kernel_rfl) (fun _ _ _ h => h) (Or.inl ⟨by rfl, ?_⟩) ?_ ?_
                 rotate_left
                 ·
                  intro w'
                  go_simp
                  with_reducible rfl
                 rotate_left
                 ·
                  simp only [Act.put, List.setIfInBounds_toArray, List.set_cons_zero, List.set_cons_succ, i64_w, i32_w]
                  rfl
                 refine last_ (i := 14) (N := none) #[true, true, true, true, true, true, true, true, true, true, true, true, true, true, true] rfl rfl (by kernel_rfl) (by decide) (fun K hK => ?_)
                 refine skip_ (w1 := ?_) (by rfl) rfl ?_ ?_
                 rotate_left
                 ·
                  go_simp
                  rfl
                 refine hK.out _ _ ?_
                 clear hK K
                 refine done_ (by kernel_rfl) ?_
                 obtain ⟨Y2, hst9⟩ := HST9.out
                 have HS7 := Aside0.mk hst9
                 have HW9 := Aside0.mk (blk_far (p := ⟨gg, i2, none⟩) HW30.out (ne_block HW30.out HG30.out (by decide)) (.slice IA2 (gi.length + 1) ic2))
                 have HX9 := Aside0.mk (blk_far (p := ⟨gg, i2, none⟩) HX30.out (ne_block HX30.out HG30.out (by decide)) (.slice IA2 (gi.length + 1) ic2))
                 clear hst9 HST9 HW30 HX30 HG30 c0 cx f3 c3 q0 x0 q3 q0a x0a q3a HSD HIR HFL HGB ngb ngx HS6 HW8 HX8 HQ3
                 generalize w30.setCell ⟨gg, i2, none⟩ (.slice IA2 (gi.length + 1) ic2) = w31 at *
                 have d1 : w31.cell? ⟨bw, 1, none⟩ = some (.int .i64 1) := (blk_cell HW9.out 1).trans rfl
                 have y1 := blk_frozen HW9.out 1
                 go_upto_region 42 with (fail)
                 have HS8 := Aside0.mk (HS7.out.far HW9.out HNB.out (by decide) (by decide) (by decide) 1 (.int .i64 2))
                 have HW10 := Aside0.mk (blk_put HW9.out 1 (.int .i64 2) rfl)
                 have HX10 := Aside0.mk (blk_far (p := ⟨bw, 1, none⟩) HX9.out (ne_block HX9.out HW9.out (by decide)) (.int .i64 2))
                 clear HS7 HW9 HX9 d1 y1
                 generalize w31.setCell ⟨bw, 1, none⟩ (.int .i64 2) = w32 at *
                 have hwk := HS8.out.wk HPN.out
                 obtain ⟨A9, c9, b1, _, _, b4⟩ := HS8.out.row i2 HI2.out
                 have m0 : w32.cell? ⟨gw, i2 * 2, none⟩ = some (.slice A9 (L.getD i2 []).length c9) := (blk_cell hwk _).trans b1
                 have m1 : w32.cell? ⟨gw, i2 * 2 + 1, none⟩ = some (.int .i64 (st.getD i2 0)) := (blk_cell hwk _).trans b4
                 have y0 := blk_frozen hwk (i2 * 2)
                 have y1 := blk_frozen hwk (i2 * 2 + 1)
                 have u0 : w32.cell? ⟨bw, 0, none⟩ = some (.slice (some ad) nn c) := (blk_cell HW10.out 0).trans rfl
                 have u1 : w32.cell? ⟨bw, 1, none⟩ = some (.int .i64 2) := (blk_cell HW10.out 1).trans rfl
                 have x0 : w32.cell? ⟨gx, 0, none⟩ = some (.int .i64 (i2 : Nat)) := (blk_cell HX10.out 0).trans rfl
                 have hs9 := RSt.worker (L2 := L) (st2 := (st.set i2 2)) HS8.out i2 HI2.out (A := (some ad)) (c := c) (l := (k :: l)) (s := 2) (by rw [HNK.out]; exact HKC.out) HC.out HLL.out (getD_set_self _ _ _ _ (by rw [HS8.out.len2]; exact HI2.out)) (fun _ _ => rfl) (fun j hj => getD_set_ne _ _ _ _ _ hj) HS8.out.len1 (by rw [List.length_set]; exact HS8.out.len2)
                 rw [HNK.out] at hs9
                 have HS9 := Aside0.mk hs9
                 clear hs9 hwk b1 b4
                 generalize L.getD i2 [] = Li at *
                 generalize st.getD i2 0 = sti at *
                 go_wp2
                 go_roundg gq
                 case measure => omega
                 case rel => 
                  exact ⟨_, _, _, _, _, _, _, _, _, _, _, _, _, _, HFN, ⟨by have := HST4.out; omega, HL.out.2.1, fun x hx => by
                   rcases List.mem_or_eq_of_mem_set hx with hx | hx
                   ·
                    exact HL.out.2.2.1 x hx
                   ·
                    omega, HL.out.2.2.2⟩, HS9⟩
              ·
               have H := HF5.out
               rw [if_neg hs0, if_neg hs1] at H
               have hs2 : st.getD i2 0 = 2 := Decidable.byContradiction fun c => by rw [if_neg c] at H; cases H
               rw [if_pos hs2] at H
               have es : si = 2 := HSI.out.symm.trans hs2
               subst es
               have hbd : stripeS stripes k ∈ held ∧ held.Nodup := Decidable.byContradiction fun c => by rw [if_neg c] at H; cases H
               rw [if_pos hbd] at H
               have hrg := stripeS_rng stripes k
               obtain ⟨r, hr⟩ : ∃ r, stripeS stripes k = r := ⟨_, rfl⟩
               rw [hr] at H hbd hrg
               have hlg := lockV_get held r hrg.1 hrg.2
               have HLG := Aside0.mk hlg
               have HFN := Aside0.mk H
               have HBD := Aside0.mk hbd
               have HSC := Aside0.mk (fun w5 => rstripe_call k stripes HKK.out r hr w5)
               have h0 : w23.cell? ⟨bk, 0, none⟩ = some (.string k.f0) := (blk_cell HK7.out 0).trans rfl
               have h1 : w23.cell? ⟨bk, 1, none⟩ = some (.int .i64 k.f1) := (blk_cell HK7.out 1).trans rfl
               have h2 : w23.cell? ⟨bk, 2, none⟩ = some (.int .i64 k.f2) := (blk_cell HK7.out 2).trans rfl
               have r0 := hrg.1
               have r1 := hrg.2
               clear H hrg hlg hbd hr hs0 hs1 hs2 HF5
               go_upto_region 30 with (first | (go_at_call 20; refine (HSC.out _).mono ?_; rintro e w24 ⟨rfl, hb⟩; have hb : Below w23.heap.size w23 w24 := (by first | exact hb | exact Below.trans (below_drew1 (Below.refl _ _)) hb); have HB24 := Aside0.mk hb; have g0 : w24.cell? ⟨bl, r.toNat, none⟩ = some (.bool (decide (r ∈ held))) := (blk_cell (blk_below HS5.out.lk hb) _).trans HLG.out; have y0 := blk_frozen (blk_below HS5.out.lk hb) r.toNat; clear hb))
               have HS6 := Aside0.mk ((HS5.out.below2 HB24.out).locking (held2 := held.erase r) HPN.out r r0 r1 false (decide_eq_false (fun h => (List.Nodup.mem_erase_iff HBD.out.2).1 h |>.1 rfl)) (fun t ht => List.mem_erase_of_ne ht))
               have hlb := blk_below HS5.out.lk HB24.out
               have HW8 := Aside0.mk (blk_far (p := ⟨bl, r.toNat, none⟩) (blk_below HW7.out HB24.out) (ne_block (blk_below HW7.out HB24.out) hlb (by decide)) (.bool false))
               have HX8 := Aside0.mk (blk_far (p := ⟨bl, r.toNat, none⟩) (blk_below HX7.out HB24.out) (ne_block (blk_below HX7.out HB24.out) hlb (by decide)) (.bool false))
               clear hlb HS5 HW7 HX7 HK7 HB24 g0 y0 h0 h1 h2 d1
               generalize w24.setCell ⟨bl, r.toNat, none⟩ (.bool false) = w25 at *
               have d1 : w25.cell? ⟨bw, 1, none⟩ = some (.int .i64 2) := (blk_cell HW8.out 1).trans rfl
               have y1 := blk_frozen HW8.out 1
               go_upto_region 31 with (fail)
               have HS7 := Aside0.mk (HS6.out.far HW8.out HNB.out (by decide) (by decide) (by decide) 1 (.int .i64 0))
               have HW9 := Aside0.mk (blk_put HW8.out 1 (.int .i64 0) rfl)
               have HX9 := Aside0.mk (blk_far (p := ⟨bw, 1, none⟩) HX8.out (ne_block HX8.out HW8.out (by decide)) (.int .i64 0))
               clear HS6 HW8 HX8 d1 y1
               generalize w25.setCell ⟨bw, 1, none⟩ (.int .i64 0) = w26 at *
               have d0 : w26.cell? ⟨bw, 0, none⟩ = some (.slice (some ad) nn c) := (blk_cell HW9.out 0).trans rfl
               have y0 := blk_frozen HW9.out 0
               have HKC1 := HKC.out
               have HNN1 := HNN.out
               have HEL := Aside0.mk (show nn - 1 = l.length by omega)
               have HLE := Aside0.mk (show l.length ≤ c - 1 by omega)
               by_cases hc1 : c = 1
               ·
                subst hc1
                have hC := Kd.C_drop (m := 1) (c := 1) HC.out (by simp) (by rw [HNK.out]; exact HKC.out)
                rw [if_pos rfl] at hC
                have HC2 := Aside0.mk (show Kd.C k26 w (some ad) l.length l from hC)
                clear hC HKC1 HNN1
                go_upto_region 42 with (fail)
                have HS10 := Aside0.mk (HS7.out.far HW9.out HNB.out (by decide) (by decide) (by decide) 0 (.slice (some ad) (nn - 1) 0))
                have HW10 := Aside0.mk (blk_put HW9.out 0 (.slice (some ad) (nn - 1) 0) rfl)
                have HX10 := Aside0.mk (blk_far (p := ⟨bw, 0, none⟩) HX9.out (ne_block HX9.out HW9.out (by decide)) (.slice (some ad) (nn - 1) 0))
                clear HS7 HW9 HX9 d0 y0
                generalize w26.setCell ⟨bw, 0, none⟩ (.slice (some ad) (nn - 1) 0) = w27 at *
                have hwk := HS10.out.wk HPN.out
                obtain ⟨A9, c9, b1, _, _, b4⟩ := HS10.out.row i2 HI2.out
                have m0 : w27.cell? ⟨gw, i2 * 2, none⟩ = some (.slice A9 (L.getD i2 []).length c9) := (blk_cell hwk _).trans b1
                have m1 : w27.cell? ⟨gw, i2 * 2 + 1, none⟩ = some (.int .i64 (st.getD i2 0)) := (blk_cell hwk _).trans b4
                have y0 := blk_frozen hwk (i2 * 2)
                have y1 := blk_frozen hwk (i2 * 2 + 1)
                have u0 : w27.cell? ⟨bw, 0, none⟩ = some (.slice (some ad) (nn - 1) 0) := (blk_cell HW10.out 0).trans rfl
                have u1 : w27.cell? ⟨bw, 1, none⟩ = some (.int .i64 0) := (blk_cell HW10.out 1).trans rfl
                have x0 : w27.cell? ⟨gx, 0, none⟩ = some (.int .i64 (i2 : Nat)) := (blk_cell HX10.out 0).trans rfl
                have hs9 := RSt.worker (L2 := (L.set i2 l)) (st2 := (st.set i2 0)) HS10.out i2 HI2.out (A := (some ad)) (c := 0) (l := l) (s := 0) HLE.out HC2.out (getD_set_self _ _ _ _ (by rw [HS10.out.len1]; exact HI2.out)) (getD_set_self _ _ _ _ (by rw [HS10.out.len2]; exact HI2.out)) (fun j hj => getD_set_ne _ _ _ _ _ hj) (fun j hj => getD_set_ne _ _ _ _ _ hj) (by rw [List.length_set]; exact HS10.out.len1) (by rw [List.length_set]; exact HS10.out.len2)
                rw [← HEL.out] at hs9
                have HS9 := Aside0.mk hs9
                clear hs9 hwk b1 b4
                generalize L.getD i2 [] = Li at *
                generalize st.getD i2 0 = sti at *
                go_wp2
                go_roundg gq
                case measure => omega
                case rel => 
                 exact ⟨_, _, _, _, _, _, _, _, _, _, _, _, _, _, HFN, ⟨by have := HST4.out; omega, fun x hx q hq => by
                  rcases List.mem_or_eq_of_mem_set hx with hx | hx
                  ·
                   exact HL.out.2.1 x hx q hq
                  ·
                   subst hx; exact HGI2.out q hq, fun x hx => by
                  rcases List.mem_or_eq_of_mem_set hx with hx | hx
                  ·
                   exact HL.out.2.2.1 x hx
                  ·
                   omega, List.Nodup.erase _ HBD.out.2, fun s hs => HL.out.2.2.2.2 s (List.mem_of_mem_erase hs)⟩, HS9⟩
               ·
                have hC := Kd.C_drop (m := 1) (c := c) HC.out (by simp) (by rw [HNK.out]; exact HKC.out)
                rw [if_neg hc1] at hC
                have HC2 := Aside0.mk (show Kd.C k26 w (some ⟨ad.block, ad.off + 3, none⟩) l.length l from hC)
                clear hC HKC1 HNN1
                go_upto_region 42 with (fail)
                have HS10 := Aside0.mk (HS7.out.far HW9.out HNB.out (by decide) (by decide) (by decide) 0 (.slice (some ⟨ad.block, ad.off + 3, none⟩) (nn - 1) (c - 1)))
                have HW10 := Aside0.mk (blk_put HW9.out 0 (.slice (some ⟨ad.block, ad.off + 3, none⟩) (nn - 1) (c - 1)) rfl)
                have HX10 := Aside0.mk (blk_far (p := ⟨bw, 0, none⟩) HX9.out (ne_block HX9.out HW9.out (by decide)) (.slice (some ⟨ad.block, ad.off + 3, none⟩) (nn - 1) (c - 1)))
                clear HS7 HW9 HX9 d0 y0
                generalize w26.setCell ⟨bw, 0, none⟩ (.slice (some ⟨ad.block, ad.off + 3, none⟩) (nn - 1) (c - 1)) = w27 at *
                have hwk := HS10.out.wk HPN.out
                obtain ⟨A9, c9, b1, _, _, b4⟩ := HS10.out.row i2 HI2.out
                have m0 : w27.cell? ⟨gw, i2 * 2, none⟩ = some (.slice A9 (L.getD i2 []).length c9) := (blk_cell hwk _).trans b1
                have m1 : w27.cell? ⟨gw, i2 * 2 + 1, none⟩ = some (.int .i64 (st.getD i2 0)) := (blk_cell hwk _).trans b4
                have y0 := blk_frozen hwk (i2 * 2)
                have y1 := blk_frozen hwk (i2 * 2 + 1)
                have u0 : w27.cell? ⟨bw, 0, none⟩ = some (.slice (some ⟨ad.block, ad.off + 3, none⟩) (nn - 1) (c - 1)) := (blk_cell HW10.out 0).trans rfl
                have u1 : w27.cell? ⟨bw, 1, none⟩ = some (.int .i64 0) := (blk_cell HW10.out 1).trans rfl
                have x0 : w27.cell? ⟨gx, 0, none⟩ = some (.int .i64 (i2 : Nat)) := (blk_cell HX10.out 0).trans rfl
                have hs9 := RSt.worker (L2 := (L.set i2 l)) (st2 := (st.set i2 0)) HS10.out i2 HI2.out (A := (some ⟨ad.block, ad.off + 3, none⟩)) (c := (c - 1)) (l := l) (s := 0) HLE.out HC2.out (getD_set_self _ _ _ _ (by rw [HS10.out.len1]; exact HI2.out)) (getD_set_self _ _ _ _ (by rw [HS10.out.len2]; exact HI2.out)) (fun j hj => getD_set_ne _ _ _ _ _ hj) (fun j hj => getD_set_ne _ _ _ _ _ hj) (by rw [List.length_set]; exact HS10.out.len1) (by rw [List.length_set]; exact HS10.out.len2)
                rw [← HEL.out] at hs9
                have HS9 := Aside0.mk hs9
                clear hs9 hwk b1 b4
                generalize L.getD i2 [] = Li at *
                generalize st.getD i2 0 = sti at *
                go_wp2
                go_roundg gq
                case measure => omega
                case rel => 
                 exact ⟨_, _, _, _, _, _, _, _, _, _, _, _, _, _, HFN, ⟨by have := HST4.out; omega, fun x hx q hq => by
                  rcases List.mem_or_eq_of_mem_set hx with hx | hx
                  ·
                   exact HL.out.2.1 x hx q hq
                  ·
                   subst hx; exact HGI2.out q hq, fun x hx => by
                  rcases List.mem_or_eq_of_mem_set hx with hx | hx
                  ·
                   exact HL.out.2.2.1 x hx
                  ·
                   omega, List.Nodup.erase _ HBD.out.2, fun s hs => HL.out.2.2.2.2 s (List.mem_of_mem_erase hs)⟩, HS9⟩
end Go.Proofs.YtmgfkdnoclmbgaaDoor

namespace Go.Proofs.YtmgfkdnoclmbgaaDoor.P
open Go.RowKit Go.Proofs.YtmgfkdnoclmbgaaDoorW.PrintWords
set_option linter.unusedVariables false
def warpref1_Table.f (l0 : List (List (S26))) (a1 : Int) (a2 : Int) (l3 : List Int) : Option ((List (List Int)) × (List (S26)) × Int × Int) := tabF l0 a1 a2 l3
theorem warpref1_Table.calls (A0 : Option Addr) (c0 : Nat) (l0 : List (List (S26))) (a1 : Int) (a2 : Int) (A3 : Option Addr) (c3 : Nat) (l3 : List Int) (r1 : List (List Int)) (r2 : List (S26)) (r3 : Int) (r4 : Int) (w : World) (hr0 : Kd.C (Kd.slice 26 k26) w A0 l0.length l0) (hc0 : l0.length ≤ c0) (hr3 : Kd.C (Kd.int .i64) w A3 l3.length l3) (hc3 : l3.length ≤ c3) (h : warpref1_Table.f l0 a1 a2 l3 = some (r1, r2, r3, r4)) (hT_ : Tab w := by first | exact hT_ | exact Tab.drewN hT_ _ | (refine Tab.below hT_ ?_; repeat (first | (with_reducible first | exact HB.out | apply below_alloc | apply pw_below_drewN | apply below_drew1) | exact HB.out))) :
    Calls Tryd.prog 10 #[.slice A0 l0.length c0, .int .i64 a1, .int .i64 a2, .slice A3 l3.length c3] w fun e w' => ∃ v0_ v1_ : Value, e = .returned (.agg #[v0_, v1_, .int .i64 r3, .int .i64 r4]) ∧ Kd.S (Kd.slice 3 (Kd.int .i64)) 23 w' w.heap.size (fun _ => True) v0_ r1 ∧ Kd.R k26 26 w' w.heap.size (fun _ => True) v1_ r2 ∧ Below w.heap.size w w' :=
  rplay_table A0 c0 l0 a1 a2 A3 c3 l3 w hr0 hc0 hr3 hc3 r1 r2 r3 r4 h
end Go.Proofs.YtmgfkdnoclmbgaaDoor.P
