/-
The table's play: the walk. Conditions: the rows can be read; the plain play answers.
-/
import Derived.Test.YtmgfkdnoclmbgaaDoorTabL
namespace Go.Proofs.YtmgfkdnoclmbgaaDoor
open Go.RowKit Go.Maps Go.Proofs.YtmgfkdnoclmbgaaDoorW.PrintWords Go.Proofs.YtmgfkdnoclmbgaaDoorW.PrintLast Go.Proofs.YtmgfkdnoclmbgaaDoorW.PrintMore Go.Proofs.YtmgfkdnoclmbgaaDoor.P
set_option linter.unusedVariables false
set_option linter.unusedSimpArgs false
theorem set_getDb (E : List Bool) (i j : Nat) (b : Bool) (h : i < E.length) : (E.set i b).getD j false = if j = i then b else E.getD j false := by
  simp only [List.getD_eq_getElem?_getD, List.getElem?_set]
  by_cases c : i = j
  · rw [if_pos c, if_pos (by omega), if_pos c.symm]; rfl
  · rw [if_neg c, if_neg (Ne.symm c)]
theorem enT_length (stripes : Int) (n : Nat) (L : List (List S26)) (st : List Int) (held : List Int) : (enT stripes n L st held).length = n := by simp [enT]
theorem enT_get (stripes : Int) (n : Nat) (L : List (List S26)) (st : List Int) (held : List Int) (i : Nat) (hi : i < n) : (enT stripes n L st held).getD i false = enB stripes held (L.getD i []) (st.getD i 0) := by
  simp [enT, List.getD_eq_getElem?_getD, hi]
theorem getD_mem {α : Type} (l : List α) (i : Nat) (d : α) (hi : i < l.length) : l.getD i d ∈ l := by
  rw [List.getD_eq_getElem?_getD, List.getElem?_eq_getElem hi]
  exact List.getElem_mem hi
set_option maxRecDepth 100000 in
set_option maxHeartbeats 8000000 in
theorem play_table (A0 : Option Addr) (c0 : Nat) (l0 : List (List S26)) (room stripes : Int) (A3 : Option Addr) (c3 : Nat) (P : List Int) (w : World) (hT_ : Tab w) (hr0 : Kd.C (Kd.slice 26 k26) w A0 l0.length l0) (hc0 : l0.length ≤ c0) (hr3 : Kd.C (Kd.int .i64) w A3 P.length P) (hc3 : P.length ≤ c3) (r1 : List (List Int)) (r2 : List S26) (r3 r4 : Int) (hf : tabF l0 room stripes P = some (r1, r2, r3, r4)) :
    Calls Tryd.prog 9 #[.slice A0 l0.length c0, .int .i64 room, .int .i64 stripes, .slice A3 P.length c3] w fun e w' => ∃ v0_ v1_ : Value, e = .returned (.tuple #[v0_, v1_, .int .i64 r3, .int .i64 r4]) ∧ Kd.S (Kd.slice 3 (Kd.int .i64)) 23 w' w.heap.size (fun _ => True) v0_ r1 ∧ Kd.R k26 26 w' w.heap.size (fun _ => True) v1_ r2 ∧ Below w.heap.size w w' := by
  unfold tabF at hf
  have hlim : l0.length ≤ 100000 ∧ P.length ≤ 1000000 ∧ (∀ x ∈ l0, ∀ k ∈ x, Gk k) := Decidable.byContradiction fun c => by rw [if_neg c] at hf; cases hf
  rw [if_pos hlim] at hf
  obtain ⟨hn1, hP1, hgk⟩ := hlim
  have HR := Aside0.mk hr0
  have HC0 := Aside0.mk hc0
  have HR3 := Aside0.mk hr3
  have HC3 := Aside0.mk hc3
  have HLEN := Aside0.mk hr0.2.1
  have HTAB := Aside0.mk hT_
  have HP1 := Aside0.mk hP1
  have HF := Aside0.mk hf
  have HGK := Aside0.mk hgk
  have HN1 := Aside0.mk hn1
  have hmk := make_workers w l0.length hn1
  have hu46 := Tryd.underlying46
  have HB0 := Aside0.mk (below_alloc (Below.refl w.heap.size w) (.cells (V0 l0.length) 46 (0, 0)))
  have HW0 := Aside0.mk (blk_new w (.cells (V0 l0.length) 46 (0, 0)))
  have HBG0 := Aside0.mk (show Begun w l0 (V0 l0.length) 0 from ⟨fun j hj => ⟨V0_get _ j 1 hj (by omega), V0_get _ j 2 hj (by omega)⟩, fun j hj => ⟨_, V0_get _ j 0 hj (by omega)⟩, fun j hj => by omega⟩)
  clear hT_ hr0 hc0 hr3 hc3 hf hgk hP1 hn1
  go_enter Tryd.func9, Tryd.ntmps9
  go_upto_region 3 with (fail)
  clear hmk
  generalize w.alloc (.cells (V0 l0.length) 46 (0, 0)) = w1 at *
  go_wp2
  go_loopg [12, 29] l0.length (fun k v12 v29 w' => ∃ (i : Nat) (z : Int) (V : Array Value), i + k = l0.length ∧ v29 = .int .i64 i ∧ v12 = .int .i64 z ∧ Aside0 (allT z (l0.drop i) = allT 0 l0) ∧ Aside0 (w'.heap[w.heap.size]? = some (.cells V 46 (0, 0))) ∧ Aside0 (Begun w l0 V i) ∧ Aside0 (Below w.heap.size w w'))
  case atStart => exact ⟨0, 0, _, by omega, rfl, rfl, ⟨rfl⟩, HW0, HBG0, HB0⟩
  case round =>
    obtain ⟨i, z, V, hik, rfl, rfl, HA, HW, HBG, HB⟩ := hrel
    clear HW0 HBG0 HB0
    by_cases hi : i < l0.length
    · obtain ⟨ad, c, hA, hcl, hx, hcc⟩ := Kd.C_get HR.out ([] : List S26) (i : Int) (by omega) (by omega)
      obtain ⟨XA, xc, rfl, hxl, hxC⟩ := hx
      subst hA
      rw [Int.toNat_natCast] at hxl hxC hcc
      have hx0 : w.cell? (ad.add (i * 1 + 0)) = some (.slice XA (l0.getD i []).length xc) := hcc 0 _ rfl
      rw [Nat.mul_one, Nat.add_zero] at hx0
      have hx1 := (HB.out.cell (World.block_lt_of_cell? _ _ hx0)).trans hx0
      have HNX := Aside0.mk (HBG.out.next hi hxl hxC)
      have HS := Aside0.mk (show allT (wrap64 (z + (l0.getD i []).length)) (l0.drop (i + 1)) = allT 0 l0 by
        rw [← HA.out, List.drop_eq_getElem_cons hi, allT, List.getD_eq_getElem?_getD, List.getElem?_eq_getElem hi]; rfl)
      obtain ⟨vold, hvold⟩ := HBG.out.2.1 i hi
      have hcw : wr.cell? ⟨w.heap.size, i * 3, none⟩ = some vold := (blk_cell HW.out _).trans hvold
      have hfw := blk_frozen HW.out (i * 3)
      generalize l0.getD i [] = x at *
      have p1 : (i : Int) < (l0.length : Int) := by omega
      have p0 : (0 : Int) ≤ (i : Int) := by omega
      have HK := Aside0.mk hik
      have HI := Aside0.mk hi
      clear hcc hcl hxC hxl HA hik hx0 hi hvold
      go_wp2
      repeat (go_quiet (fail); try go_wp2)
      go_roundg (l0.length - (i + 1))
      case measure => have := HK.out; have := HI.out; omega
      case rel => exact ⟨i + 1, _, _, by have := HI.out; omega, by have := HLEN.out; have := HI.out; congr 1; unfold wrap64; omega, rfl, HS, ⟨blk_set HW.out _ _⟩, HNX, ⟨below_set HB.out (Nat.le_refl _)⟩⟩
    · have hi2 : ¬ (i : Int) < (l0.length : Int) := by omega
      have HZ := Aside0.mk (show z = allT 0 l0 by rw [← HA.out, List.drop_eq_nil_of_le (by omega)]; rfl)
      have hie : i = l0.length := by omega
      subst hie
      clear HA hi hik
      by_cases q1 : 64 < l0.length
      · have H := HF.out
        rw [if_pos (.inl q1)] at H
        simp only [Option.some.injEq, Prod.mk.injEq] at H
        obtain ⟨rfl, rfl, rfl, rfl⟩ := H
        have t1 : decide (64 < l0.length) = true := decide_eq_true q1
        have t1b : decide ((64 : Int) < (l0.length : Int)) = true := decide_eq_true (by omega)
        clear HF q1
        go_wp2
        (try simp only [Exit.inBlock, Exit.then])
        refine bodyPost_ret (res_four rfl _ _ _) rfl ?_
        exact ⟨_, _, rfl, Kd.S_nil _ _ _ _ _, Kd.R_nil _ _ _ _ _, HB.out⟩
      · have t1 : decide (64 < l0.length) = false := decide_eq_false q1
        have t1b : decide ((64 : Int) < (l0.length : Int)) = false := decide_eq_false (by omega)
        by_cases q2 : 4096 < allT 0 l0
        · have H := HF.out
          rw [if_pos (.inr q2)] at H
          simp only [Option.some.injEq, Prod.mk.injEq] at H
          obtain ⟨rfl, rfl, rfl, rfl⟩ := H
          have t2 : decide (4096 < z) = true := decide_eq_true (by rw [HZ.out]; exact q2)
          clear HF q2 q1
          go_wp2
          (try simp only [Exit.inBlock, Exit.then])
          refine bodyPost_ret (res_four rfl _ _ _) rfl ?_
          exact ⟨_, _, rfl, Kd.S_nil _ _ _ _ _, Kd.R_nil _ _ _ _ _, HB.out⟩
        · have HF2 := HF.out
          rw [if_neg (by omega)] at HF2
          have HF1 := Aside0.mk HF2
          have t2 : decide (4096 < z) = false := decide_eq_false (by rw [HZ.out]; exact q2)
          have hmm := run_makeMap (P := Tryd.prog) 48 wr
          have hmn := run_makeMap (P := Tryd.prog) 49 (wr.alloc (.map #[] 0))
          clear HF q2 HF2
          go_upto_region 12 with (fail)
          have W1a := blk_alloc (blk_alloc (blk_alloc HW.out (.map #[] 0)) (.map #[] 0)) (.cells #[.int .i64 room, .int .i64 stripes, .map (some wr.heap.size), .slice none 0 0, .map (some (wr.heap.size + 1))] 51 (0, 0))
          have W1b := blk_new ((wr.alloc (.map #[] 0)).alloc (.map #[] 0)) (.cells #[.int .i64 room, .int .i64 stripes, .map (some wr.heap.size), .slice none 0 0, .map (some (wr.heap.size + 1))] 51 (0, 0))
          have W1p := ((Places.made wr).below (below_alloc (Below.refl _ _) (.map #[] 0))).below (below_alloc (Below.refl _ _) (.cells #[.int .i64 room, .int .i64 stripes, .map (some wr.heap.size), .slice none 0 0, .map (some (wr.heap.size + 1))] 51 (0, 0)))
          have W1l := (Locks.made (wr.alloc (.map #[] 0))).below (below_alloc (Below.refl _ _) (.cells #[.int .i64 room, .int .i64 stripes, .map (some wr.heap.size), .slice none 0 0, .map (some (wr.heap.size + 1))] 51 (0, 0)))
          have W1B := below_alloc (below_alloc (below_alloc HB.out (.map #[] 0)) (.map #[] 0)) (.cells #[.int .i64 room, .int .i64 stripes, .map (some wr.heap.size), .slice none 0 0, .map (some (wr.heap.size + 1))] 51 (0, 0))
          have s1 : (wr.alloc (.map #[] 0)).heap.size = wr.heap.size + 1 := Array.size_push _
          have s2 : ((wr.alloc (.map #[] 0)).alloc (.map #[] 0)).heap.size = wr.heap.size + 2 := (Array.size_push _).trans (congrArg (· + 1) s1)
          rw [s2] at W1b
          rw [s1] at W1l
          have HSZ := Aside0.mk (show w.heap.size ≤ wr.heap.size from below_size HB.out)
          have HWL := Aside0.mk (show w.heap.size < wr.heap.size from blk_lt HW.out)
          have H1a := Aside0.mk W1a
          have H1b := Aside0.mk W1b
          have H1p := Aside0.mk W1p
          have H1l := Aside0.mk W1l
          have H1B := Aside0.mk W1B
          clear W1a W1b W1p W1l W1B s1 s2 hmm hmn HW HB
          simp only [show wr.heap.size + 1 + 1 = wr.heap.size + 2 from rfl]
          generalize ((wr.alloc (.map #[] 0)).alloc (.map #[] 0)).alloc (.cells #[.int .i64 room, .int .i64 stripes, .map (some wr.heap.size), .slice none 0 0, .map (some (wr.heap.size + 1))] 51 (0, 0)) = W1 at *
          generalize wr.heap.size = gb at *
          have HST := Aside0.mk (show pick_Start.f P = some (P, 0, -1) by
            unfold pick_Start.f
            rw [if_pos (by have := HP1.out; simp; omega)]
            rfl)
          go_upto_region 13 with (first | (go_at_call 15; refine (pick_Start.calls A3 c3 P P 0 (-1) W1 (Kd.C_below HR3.out H1B.out) HC3.out HST.out).mono ?_; rintro e w10 ⟨v0, rfl, ho, hb⟩; have HO := Aside0.mk ho; have HB3 := Aside0.mk hb; clear ho hb; obtain ⟨Av, cv, ev⟩ := Kd.R_slice HO.out; subst ev) | ((with_reducible refine gate_dst (N := 17) rfl ?_); (try (refine gate_guard (by rfl) ?_; dsimp only)); refine box_event ?hg (N := 17) ?hd (cs := #[.slice none 0 0, .int .i64 0, .int .i64 0]) (t := 53) ?hr ?_; (case hd => rfl); (case hg => rfl); (case hr => first | (go_simp; done) | (go_simp; rfl)); intro gn hgn w11 hbox hb11; have z0 : w11.cell? ⟨gn, 0, none⟩ = some (.slice none 0 0) := (blk_cell hbox 0).trans rfl; have z1 : w11.cell? ⟨gn, 1, none⟩ = some (.int .i64 0) := (blk_cell hbox 1).trans rfl; have z2 : w11.cell? ⟨gn, 2, none⟩ = some (.int .i64 0) := (blk_cell hbox 2).trans rfl; have y0 := blk_frozen hbox 0; have y1 := blk_frozen hbox 1; have y2 := blk_frozen hbox 2; have HGN := Aside0.mk hgn; have HBX := Aside0.mk hbox; have HB11 := Aside0.mk hb11; clear hgn hbox hb11))
          have hgn := HGN.out
          have hlt : gb + 2 < w10.heap.size := Nat.lt_of_lt_of_le (blk_lt H1b.out) (below_size HB3.out)
          have e1 : w.heap.size ≤ gn := by have := HWL.out; omega
          clear hgn
          have n1 : w.heap.size ≠ gn := by have := HWL.out; have := HGN.out; omega
          have n2 : gb + 2 ≠ gn := by have := HGN.out; omega
          have n3 : gb ≠ gn := by have := HGN.out; omega
          have n4 : gb + 1 ≠ gn := by have := HGN.out; omega
          have H2a := blk_far (p := ⟨gn, 2, none⟩) (blk_far (p := ⟨gn, 1, none⟩) (blk_far (p := ⟨gn, 0, none⟩) (blk_below (blk_below H1a.out HB3.out) HB11.out) n1 (.slice Av P.length cv)) n1 (.int .i64 0)) n1 (.int .i64 (-1))
          have H2b := blk_far (p := ⟨gn, 2, none⟩) (blk_far (p := ⟨gn, 1, none⟩) (blk_far (p := ⟨gn, 0, none⟩) (blk_below (blk_below H1b.out HB3.out) HB11.out) n2 (.slice Av P.length cv)) n2 (.int .i64 0)) n2 (.int .i64 (-1))
          have H2p := (((H1p.out.below HB3.out).below HB11.out).set (a := ⟨gn, 0, none⟩) n3 (.slice Av P.length cv)).set (a := ⟨gn, 1, none⟩) n3 (.int .i64 0) |>.set (a := ⟨gn, 2, none⟩) n3 (.int .i64 (-1))
          have H2l := (((H1l.out.below HB3.out).below HB11.out).set (a := ⟨gn, 0, none⟩) n4 (.slice Av P.length cv)).set (a := ⟨gn, 1, none⟩) n4 (.int .i64 0) |>.set (a := ⟨gn, 2, none⟩) n4 (.int .i64 (-1))
          have H2x := blk_put (blk_put (blk_put HBX.out 0 (.slice Av P.length cv) rfl) 1 (.int .i64 0) rfl) 2 (.int .i64 (-1)) rfl
          have H2o := Kd.R_far (p := ⟨gn, 2, none⟩) (Kd.R_far (p := ⟨gn, 1, none⟩) (Kd.R_far (p := ⟨gn, 0, none⟩) (Kd.R_types (Kd.R_below HO.out HB11.out) HBX.out (by decide)) (fun _ hk => hk.2) (.slice Av P.length cv)) (fun _ hk => hk.2) (.int .i64 0)) (fun _ hk => hk.2) (.int .i64 (-1))
          have H2B := below_set (j := 2) (v := .int .i64 (-1)) (below_set (j := 1) (v := .int .i64 0) (below_set (j := 0) (v := .slice Av P.length cv) (below_step (below_step H1B.out HB3.out) HB11.out) e1) e1) e1
          have HWG := Aside0.mk (show ∀ q, (Value.slice Av P.length cv).ownBlock = some q → W1.heap.size ≤ q from Kd.R_base HO.out)
          have HW1 := Aside0.mk (show gb + 2 < W1.heap.size from blk_lt H1b.out)
          clear H1a H1b H1p H1l H1B HB3 HB11 HO HBX z0 z1 z2 y0 y1 y2
          generalize ((w11.setCell ⟨gn, 0, none⟩ (.slice Av P.length cv)).setCell ⟨gn, 1, none⟩ (.int .i64 0)).setCell ⟨gn, 2, none⟩ (.int .i64 (-1)) = w12 at *
          have hmk2 := make_bools w12 l0.length (by omega)
          have HFS := Aside0.mk (show FSt w (w12.alloc (.cells (List.replicate l0.length (Value.bool false)).toArray 4 (0, 0))) l0.length (gb + 2) gb (gb + 1) w.heap.size gn w12.heap.size room stripes l0 (List.replicate l0.length 0) (List.replicate l0.length []) [] [] 0 V none 0 0 (-1) P (.slice Av P.length cv) (List.replicate l0.length false) from by
            have O := below_alloc (Below.refl w12.heap.size w12) (.cells (List.replicate l0.length (Value.bool false)).toArray 4 (0, 0))
            have gow : ∀ j, j < l0.length → gOwn V j = none := fun j hj => by unfold gOwn; rw [(HBG.out.1 j hj).2]; rfl
            refine ⟨blk_below H2b O, H2p.below O, H2l.below O, Kd.R_nil _ _ _ _ _, blk_below H2a O, fun j hj => ?_, (fun i j hi hj _ q hq => by rw [gow i hi] at hq; cases hq), below_step H2B O, rfl, (by simp), (by simp), blk_below H2x O, ?_, ?_⟩
            · obtain ⟨A, c, b1, b2, b3⟩ := HBG.out.2.2 j hj
              refine ⟨A, c, none, 0, b1, b2, b3, ?_, ?_, ?_⟩
              · rw [(HBG.out.1 j hj).1]; simp [List.getD_eq_getElem?_getD, hj]
              · rw [(HBG.out.1 j hj).2]; simp [List.getD_eq_getElem?_getD, hj]
              · simp only [List.getD_eq_getElem?_getD, List.getElem?_replicate, hj, if_true, Option.getD_some]
                exact Kd.R_nil _ _ _ _ _
            · rw [List.map_replicate]
              exact blk_new w12 _
            · have z1 := blk_lt H2x
              have z2 := blk_lt H2a
              have z3 := blk_lt H2b
              refine Kd.R_V (Kd.R_mono (Kd.R_tight2 rfl (Kd.R_types (Kd.R_types (Kd.R_types (Kd.R_below H2o O) (blk_below H2x O) (by decide)) (blk_below H2a O) (by decide)) (blk_below H2b O) (by decide))) (fun q hq => ?_))
              have hq1 := HWG.out q hq.1.symm
              have := HW1.out
              have hq2 := Kd.R_lt H2o q hq.1.symm
              exact ⟨⟨hq.2.1.1.2, hq.2.1.2, hq.2.2, by omega, by omega, by omega⟩, by simp [Value.ownBlock], (fun i hi e => by rw [gow i hi] at e; cases e)⟩)
          have HGE := Aside0.mk (show w.heap.size ≤ w12.heap.size from below_size H2B)
          clear H2a H2b H2p H2l H2x H2o H2B HWG HGN HW1
          go_wp2
          simp only [Array.replicate] at *
          generalize w12.alloc (.cells (List.replicate l0.length (Value.bool false)).toArray 4 (0, 0)) = w13 at *
          generalize w12.heap.size = ge at *
          generalize hgas : 3 * (allT 0 l0).toNat + 1 = gas at *
          go_loopg [10] gas (fun k v10 w' => ∃ (L : List (List S26)) (st : List Int) (got : List (List Int)) (keys : List S26) (held : List Int) (V : Array Value) (KA : Option Addr) (kc : Nat) (at_ last : Int) (uv : Value) (E : List Bool) (steps : Int), v10 = .int .i64 steps ∧ Aside0 (tabL l0.length room stripes P k L st got keys held at_ last steps = some (r1, r2, r3, r4)) ∧ Aside0 (E.length = l0.length ∧ 0 ≤ steps ∧ ∀ x ∈ L, ∀ k ∈ x, Gk k) ∧ Aside0 (FSt w w' l0.length (gb + 2) gb (gb + 1) w.heap.size gn ge room stripes L st got keys held steps.toNat V KA kc at_ last P uv E))
          case atStart => exact ⟨_, _, _, _, _, _, _, _, _, _, _, _, 0, rfl, HF1, ⟨by simp, Int.le_refl _, HGK.out⟩, HFS⟩
          case round =>
            obtain ⟨L, st, got, keys, held, V1, KA, kc, at_, last, uv, E, steps, rfl, HF2, HL, HS⟩ := hrel
            clear HF1 HFS
            cases gk with
            | zero => exact absurd HF2.out (by simp [tabL])
            | succ k1 =>
              go_wp2
              go_loopg [64, 19] l0.length (fun k v64 v19 w' => ∃ (i : Nat) (E1 : List Bool), i + k = l0.length ∧ v64 = .int .i64 i ∧ Aside0 (E1.length = l0.length ∧ ∀ j, j < i → E1.getD j false = (enT stripes l0.length L st held).getD j false) ∧ Aside0 (FSt w w' l0.length (gb + 2) gb (gb + 1) w.heap.size gn ge room stripes L st got keys held steps.toNat V1 KA kc at_ last P uv E1))
              case atStart => exact ⟨0, E, by omega, rfl, ⟨HL.out.1, fun j h => by omega⟩, HS⟩
              case round =>
                obtain ⟨i, E1, hik, rfl, HL1, HS1⟩ := hrel
                clear HS
                have HIK := Aside0.mk hik
                by_cases hin : i < l0.length
                · have v1 : (i : Int) < (l0.length : Int) := by omega
                  have v0 : (0 : Int) ≤ (i : Int) := by omega
                  have HIN := Aside0.mk hin
                  obtain ⟨A, c, GA, gc, b1, b2, b3, b4, b5, b6⟩ := HS1.out.row i hin
                  have HIL := Aside0.mk (show i < L.length by rw [HS1.out.len1]; exact hin)
                  have ht := HS1.out.tab
                  unfold tabV at ht
                  have HEN := Aside0.mk (enabled_any w.heap.size i (gb + 2) (gb + 1) steps.toNat stripes held A c (L.getD i []) (st.getD i 0) wr (fun k hk => HL.out.2.2 _ (getD_mem L i [] HIL.out) k hk) ((blk_cell HS1.out.wk _).trans b1) ((blk_cell HS1.out.wk _).trans b4) ((blk_cell ht 1).trans rfl) ((blk_cell ht 4).trans rfl) HS1.out.lk (Kd.C_below b3 HS1.out.below))
                  have HEG := Aside0.mk (enT_get stripes l0.length L st held i HIN.out)
                  obtain ⟨bb, hbb⟩ : ∃ b, enB stripes held (L.getD i []) (st.getD i 0) = b := ⟨_, rfl⟩
                  rw [hbb] at HEN HEG
                  clear hbb
                  have HCE := Aside0.mk (show ∀ w5, Below wr.heap.size wr w5 → w5.cell? ⟨ge, i, none⟩ = some (.bool (E1.getD i false)) ∧ w5.frozen? ⟨ge, i, none⟩ = false from fun w5 hb => by
                    have h := blk_below HS1.out.en hb
                    refine ⟨(blk_cell h i).trans ?_, blk_frozen h i⟩
                    have := HL1.out.1
                    simp [List.getD_eq_getElem?_getD, show i < E1.length by omega])
                  clear hik b1 b2 b3 b4 b5 b6 ht hin
                  go_upto_region 18 with (first | (go_at_call 16; refine HEN.out.mono ?_; rintro e w5 ⟨rfl, hb⟩; have hce := (HCE.out w5 hb).1; have hfe := (HCE.out w5 hb).2; have HB5 := Aside0.mk hb; clear hb))
                  go_wp2
                  go_roundg (l0.length - (i + 1))
                  case measure => have := HIK.out; have := HIN.out; omega
                  case rel =>
                    refine ⟨i + 1, E1.set i bb, by have := HIK.out; have := HIN.out; omega, by have := HLEN.out; have := HIN.out; first | rfl | (congr 1; done) | (congr 1; unfold wrap64; omega), ⟨by rw [List.length_set]; exact HL1.out.1, fun j hj => ?_⟩, ⟨(HS1.out.below2 HB5.out).flagged HGE.out i bb⟩⟩
                    rw [set_getDb E1 i j bb (by have := HL1.out.1; have := HIN.out; omega)]
                    by_cases c : j = i
                    · subst c; rw [if_pos rfl]; exact HEG.out.symm
                    · rw [if_neg c]; exact HL1.out.2 j (by omega)
                · have v1 : ¬ (i : Int) < (l0.length : Int) := by omega
                  have hE : E1 = enT stripes l0.length L st held := by
                    apply List.ext_getElem
                    · rw [HL1.out.1, enT_length]
                    · intro j h1 h2
                      have h3 := HL1.out.2 j (by have := HL1.out.1; omega)
                      rw [List.getD_eq_getElem?_getD, List.getElem?_eq_getElem h1, List.getD_eq_getElem?_getD, List.getElem?_eq_getElem h2] at h3
                      exact h3
                  subst hE
                  clear hik hin
                  have hn64 : l0.length ≤ 64 := by omega
                  have hps := HP1.out
                  obtain ⟨Au, cu, rfl⟩ := Kd.V_slice HS1.out.pv
                  have hx := HS1.out.pk
                  have z0 : wr.cell? ⟨gn, 0, none⟩ = some (.slice Au P.length cu) := (blk_cell hx 0).trans rfl
                  have z1 : wr.cell? ⟨gn, 1, none⟩ = some (.int .i64 at_) := (blk_cell hx 1).trans rfl
                  have z2 : wr.cell? ⟨gn, 2, none⟩ = some (.int .i64 last) := (blk_cell hx 2).trans rfl
                  clear hx
                  obtain ⟨who, hwho⟩ : ∃ z, whoS P at_ last (Bits.idx (enT stripes l0.length L st held)) = z := ⟨_, rfl⟩
                  obtain ⟨at2, hat2⟩ : ∃ z, atS P at_ (Bits.idx (enT stripes l0.length L st held)) = z := ⟨_, rfl⟩
                  obtain ⟨last2, hlast2⟩ : ∃ z, lastS P at_ last (Bits.idx (enT stripes l0.length L st held)) = z := ⟨_, rfl⟩
                  have HNX := Aside0.mk (next_call (enT stripes l0.length L st held) l0.length (enT_length _ _ _ _ _) hn64 _ Au cu P at_ last hps ge wr (Kd.V_map HS1.out.pv (fun _ hf => hf)) HS1.out.en (Tab.below HTAB.out HS1.out.below) who at2 last2 hwho hat2 hlast2)
                  have HWH := Aside0.mk hwho
                  have HAT := Aside0.mk hat2
                  have HLA := Aside0.mk hlast2
                  clear hwho hat2 hlast2
                  go_upto_region 20 with (first | (go_at_call 17; refine HNX.out.mono ?_; rintro e w15 ⟨A', c', rfl, ho, hb⟩; have HV2 := Aside0.mk ho; have HB2 := Aside0.mk hb; clear ho hb) | ((with_reducible refine gate_dst (N := 21) rfl ?_); (try (refine gate_guard (by rfl) ?_; dsimp only)); refine box_event ?hg (N := 21) ?hd (cs := #[.slice none 0 0, .int .i64 0, .int .i64 0]) (t := 53) ?hr ?_; (case hd => rfl); (case hg => rfl); (case hr => first | (go_simp; done) | (go_simp; rfl)); intro gx hgx w17 hbox hb17; have z0 : w17.cell? ⟨gx, 0, none⟩ = some (.slice none 0 0) := (blk_cell hbox 0).trans rfl; have z1 : w17.cell? ⟨gx, 1, none⟩ = some (.int .i64 0) := (blk_cell hbox 1).trans rfl; have z2 : w17.cell? ⟨gx, 2, none⟩ = some (.int .i64 0) := (blk_cell hbox 2).trans rfl; have y0 := blk_frozen hbox 0; have y1 := blk_frozen hbox 1; have y2 := blk_frozen hbox 2; have HGX := Aside0.mk hgx; have HBX := Aside0.mk hbox; have HB17 := Aside0.mk hb17; clear hgx hbox hb17))
                  have hgx := HGX.out
                  have l15 : wr.heap.size ≤ w15.heap.size := below_size HB2.out
                  have e5 : wr.heap.size ≤ gx := by omega
                  clear hgx l15
                  have hb18 := below_set (j := 2) (v := .int .i64 last2) (below_set (j := 1) (v := .int .i64 at2) (below_set (j := 0) (v := .slice A' P.length c') (below_step HB2.out HB17.out) e5) e5) e5
                  have HX3 := Aside0.mk (blk_put (blk_put (blk_put HBX.out 0 (.slice A' P.length c') rfl) 1 (.int .i64 at2) rfl) 2 (.int .i64 last2) rfl)
                  have HV3 := Aside0.mk (Kd.V_mono (Kd.V_far (p := ⟨gx, 2, none⟩) (Kd.V_far (p := ⟨gx, 1, none⟩) (Kd.V_far (p := ⟨gx, 0, none⟩) (Kd.V_below (Kd.V_bound HV2.out) HB17.out) (fun q hq e => by have h1 := hq.2; have h2 := HGX.out; have h3 : q = gx := e; omega) (.slice A' P.length c')) (fun q hq e => by have h1 := hq.2; have h2 := HGX.out; have h3 : q = gx := e; omega) (.int .i64 at2)) (fun q hq e => by have h1 := hq.2; have h2 := HGX.out; have h3 : q = gx := e; omega) (.int .i64 last2)) (fun q hq => hq.1))
                  have HB18 := Aside0.mk hb18
                  clear hb18 HB2 HB17 HBX HV2 HGX z0 z1 z2 y0 y1 y2
                  generalize ((w17.setCell ⟨gx, 0, none⟩ (.slice A' P.length c')).setCell ⟨gx, 1, none⟩ (.int .i64 at2)).setCell ⟨gx, 2, none⟩ (.int .i64 last2) = w18 at *
                  by_cases hidx : Bits.idx (enT stripes l0.length L st held) = []
                  · have H := HF2.out
                    rw [tabL, if_pos hidx] at H
                    simp only [Option.some.injEq, Prod.mk.injEq] at H
                    have hw1 : who = -1 := by rw [← HWH.out, whoS, if_pos hidx]
                    have tw : decide (who < 0) = true := decide_eq_true (by omega)
                    have HS2 := Aside0.mk (HS1.out.below2 HB18.out)
                    clear HS1 HF2 HV3 HX3 hidx
                    obtain ⟨rfl, rfl, rfl, rfl⟩ := H
                    have HFI := Aside0.mk HS2.out.fin
                    have HSEP := Aside0.mk HS2.out.sep
                    have HGL := Aside0.mk HS2.out.len3
                    clear HS2 hw1 HWH HAT HLA HNX
                    go_wp2
                    go_loopg [8, 94] l0.length (fun k v8 v94 w' => ∃ (i : Nat) (A8 : Option Addr) (c8 : Nat), i + k = l0.length ∧ v94 = .int .i64 i ∧ v8 = .slice A8 i c8 ∧ Aside0 (Fin5 w w' l0.length (gb + 2) gb (gb + 1) w.heap.size room stripes got keys held steps.toNat V1 KA kc) ∧ Aside0 (Kd.S (Kd.slice 3 (Kd.int .i64)) 23 w' w.heap.size (fun q => ∀ j, i ≤ j → j < l0.length → gOwn V1 j ≠ some q) (.slice A8 i c8) (got.take i)))
                    case atStart => exact ⟨0, none, 0, by omega, rfl, rfl, HFI, ⟨Kd.S_nil _ _ _ _ _⟩⟩
                    case round =>
                      obtain ⟨i, A8, c8, hik, rfl, rfl, HFJ, HSJ⟩ := hrel
                      clear HFI
                      have HIK := Aside0.mk hik
                      by_cases hin : i < l0.length
                      · have v1 : (i : Int) < (l0.length : Int) := by omega
                        have v0 : (0 : Int) ≤ (i : Int) := by omega
                        have HIN := Aside0.mk hin
                        obtain ⟨Aa, na, ca, sb, GA, gc, b1, b2, b3, b4⟩ := HFJ.out.row i hin
                        have d0 : wr.cell? ⟨w.heap.size, i * 3, none⟩ = some (.slice Aa na ca) := (blk_cell HFJ.out.wk _).trans b1
                        have d1 : wr.cell? ⟨w.heap.size, i * 3 + 1, none⟩ = some (.int .i64 sb) := (blk_cell HFJ.out.wk _).trans b2
                        have d2 : wr.cell? ⟨w.heap.size, i * 3 + 2, none⟩ = some (.slice GA (got.getD i []).length gc) := (blk_cell HFJ.out.wk _).trans b3
                        have HB3 := Aside0.mk b3
                        clear hik hin b1 b2 b3 b4
                        go_upto_region 27 with (first | ((with_reducible refine gate_dst (N := 23) rfl ?_); (try (refine gate_guard (by rfl) ?_; dsimp only)); refine box_event ?hg (N := 23) ?hd (cs := #[.slice none 0 0, .int .i64 0, .slice none 0 0]) (t := 46) ?hr ?_; (case hd => rfl); (case hg => rfl); (case hr => first | (go_simp; done) | (go_simp; rfl)); intro gz hgz w17 hbox hb17; have z0 : w17.cell? ⟨gz, 0, none⟩ = some (.slice none 0 0) := (blk_cell hbox 0).trans rfl; have z1 : w17.cell? ⟨gz, 1, none⟩ = some (.int .i64 0) := (blk_cell hbox 1).trans rfl; have z2 : w17.cell? ⟨gz, 2, none⟩ = some (.slice none 0 0) := (blk_cell hbox 2).trans rfl; have y0 := blk_frozen hbox 0; have y1 := blk_frozen hbox 1; have y2 := blk_frozen hbox 2; have HGZ := Aside0.mk hgz; have HBZ := Aside0.mk hbox; have HB17 := Aside0.mk hb17; clear hgz hbox hb17))
                        have hgz := HGZ.out
                        have e6 : wr.heap.size ≤ gz := by omega
                        clear hgz
                        have hb18 := below_set (j := 2) (v := .slice GA (got.getD i []).length gc) (below_set (j := 1) (v := .int .i64 sb) (below_set (j := 0) (v := .slice Aa na ca) HB17.out e6) e6) e6
                        have HZ3 := Aside0.mk (blk_put (blk_put (blk_put HBZ.out 0 (.slice Aa na ca) rfl) 1 (.int .i64 sb) rfl) 2 (.slice GA (got.getD i []).length gc) rfl)
                        have HFK := Aside0.mk (HFJ.out.below2 hb18)
                        have HSK := Aside0.mk (Kd.S_below HSJ.out hb18)
                        clear hb18 HBZ HB17 z0 z1 z2 y0 y1 y2 d0 d1 d2 HFJ HSJ HGZ
                        have egd : (got[i]?.getD []) = got.getD i [] := rfl
                        rw [egd]
                        generalize ((w17.setCell ⟨gz, 0, none⟩ (.slice Aa na ca)).setCell ⟨gz, 1, none⟩ (.int .i64 sb)).setCell ⟨gz, 2, none⟩ (.slice GA (got.getD i []).length gc) = w19 at *
                        have z2 : w19.cell? ⟨gz, 2, none⟩ = some (.slice GA (got.getD i []).length gc) := (blk_cell HZ3.out 2).trans rfl
                        have HRI := Aside0.mk (show Kd.R (Kd.int .i64) 3 w19 w.heap.size (fun _ => True) (.slice GA (got.getD i []).length gc) (got.getD i []) from by
                          obtain ⟨_, _, _, _, GA2, gc2, _, _, g3, g4⟩ := HFK.out.row i HIN.out
                          rw [HB3.out] at g3
                          simp only [Option.some.injEq, Value.slice.injEq] at g3
                          obtain ⟨rfl, _, rfl⟩ := g3
                          exact g4)
                        have HOW := Aside0.mk (show gOwn V1 i = (Value.slice GA (got.getD i []).length gc).ownBlock from by unfold gOwn; rw [HB3.out]; rfl)
                        have HLO := Aside0.mk (show ∀ j, j < l0.length → ∀ q, gOwn V1 j = some q → ∃ cs, w19.heap[q]? = some (.cells cs 3 (0, 0)) from fun j hj q hq => by
                          obtain ⟨_, _, _, _, GA2, gc2, _, _, g3, g4⟩ := HFK.out.row j hj
                          unfold gOwn at hq
                          rw [g3] at hq
                          exact Kd.R_typed g4 q hq)
                        have HTKL := Aside0.mk (show (got.take i).length = i by rw [List.length_take, HGL.out]; have := HIN.out; omega)
                        have HTKS := Aside0.mk (show got.take (i + 1) = got.take i ++ [got.getD i []] by
                          have hl : i < got.length := by rw [HGL.out]; exact HIN.out
                          rw [List.take_succ_eq_append_getElem hl, List.getD_eq_getElem?_getD, List.getElem?_eq_getElem hl]; rfl)
                        generalize got.getD i [] = gi at *
                        have HAO := Aside0.mk (show Kd.S (Kd.slice 3 (Kd.int .i64)) 23 w19 w.heap.size (fun k => (∀ j, i + 1 ≤ j → j < l0.length → gOwn V1 j ≠ some k) ∧ ¬ some k = (Value.slice GA gi.length gc).ownBlock) (.slice A8 i c8) (got.take i) from Kd.S_mono HSK.out (fun q hq => ⟨fun j h1 h2 => hq j (by omega) h2, fun e => hq i (Nat.le_refl _) HIN.out (by rw [HOW.out]; exact e.symm)⟩))
                        have HAF := Aside0.mk (show ∀ k, w19.heap.size ≤ k → ∀ j, i + 1 ≤ j → j < l0.length → gOwn V1 j ≠ some k from fun k hk j h1 h2 e => by
                          obtain ⟨cs, hcs⟩ := HLO.out j h2 k e
                          have := blk_lt hcs
                          omega)
                        have HAK := Aside0.mk (show ∀ k, some k = (Value.slice GA gi.length gc).ownBlock → (∀ j, i + 1 ≤ j → j < l0.length → gOwn V1 j ≠ some k) ∧ some k ≠ (Value.slice A8 i c8).ownBlock from fun k hk => by
                          rw [← HOW.out] at hk
                          refine ⟨fun j h1 h2 => HSEP.out i j HIN.out h2 (by omega) k hk.symm, fun e => ?_⟩
                          obtain ⟨cs, hcs⟩ := HLO.out i HIN.out k hk.symm
                          obtain ⟨cs2, hcs2⟩ := Kd.S_typed HSK.out k e.symm
                          exact ne_block hcs hcs2 (by decide) rfl)
                        have HAL := Aside0.mk (show ((got.take i).length + 1) * 24 ≤ 140737488355328 by rw [HTKL.out]; have := HIN.out; omega)
                        go_wp2_with (first | ((with_reducible refine gate_builtin (b := .append) (xs := #[.tmp 98, .tmp 101]) rfl ?_); (try (refine gate_guard (by rfl) ?_; dsimp only)); at_builtin; refine Kd.S_append (Kd.slice 3 (Kd.int .i64)) (w0 := w) w.heap.size rfl (.tmp 98) (.tmp 101) 28 23 (.slice none 0 0) 24 rfl Tryd.underlying28 info23b rfl (by decide) (by omega) (.slice A8 i c8) (got.take i) gi [.slice GA gi.length gc] (fun q => ∀ j, i + 1 ≤ j → j < l0.length → gOwn V1 j ≠ some q) (fun q => some q = (Value.slice GA gi.length gc).ownBlock) rfl (by first | (go_simp; done) | (go_simp; rfl)) ?aP ?aK ?aF ?aO ?aB ?aS ?aL ?_; (case aP => exact Kd.M_row (Kd.R_mono (Kd.R_tight rfl HRI.out) (fun _ h_ => h_))); (case aB => exact HFK.out.below); (case aF => exact HAF.out); (case aK => exact HAK.out); (case aO => exact HAO.out); (case aS => exact below_size HFK.out.below); (case aL => exact HAL.out); intro v20 w20 ho hb hg hat; rw [← HTKS.out] at ho; obtain ⟨A9, c9, rfl⟩ := Kd.S_slice ho; have HS9 := Aside0.mk ho; have HF9 := Aside0.mk (HFK.out.grown hg (Kd.S_typed HSK.out) hb); clear ho hb hg hat))
                        go_roundg (l0.length - (i + 1))
                        case measure => have := HIK.out; have := HIN.out; omega
                        case rel =>
                          have e9 : (got.take (i + 1)).length = i + 1 := by rw [List.length_take, HGL.out]; have := HIN.out; omega
                          have hS9 := HS9.out
                          rw [e9] at hS9
                          have emin : min (i + 1) got.length = i + 1 := by rw [HGL.out]; have := HIN.out; omega
                          exact ⟨i + 1, A9, c9, by have := HIK.out; have := HIN.out; omega, by have := HLEN.out; have := HIN.out; first | rfl | (congr 1; done) | (congr 1; unfold wrap64; omega), by first | rfl | rw [emin], HF9, ⟨hS9⟩⟩
                      · have v1 : ¬ (i : Int) < (l0.length : Int) := by omega
                        have hie2 : i = got.length := by rw [HGL.out]; omega
                        have HTK := Aside0.mk (show got.take i = got by rw [hie2, List.take_length])
                        have ht := HFJ.out.tab
                        unfold tabV at ht
                        have q3 : wr.cell? ⟨gb + 2, 3, none⟩ = some (.slice KA keys.length kc) := (blk_cell ht 3).trans rfl
                        have q4 : wr.cell? ⟨gb + 2, 4, none⟩ = some (.map (some (gb + 1))) := (blk_cell ht 4).trans rfl
                        have hlen := HFJ.out.lk.len 3
                        have hlen2 := (show Locks (gb + 1) steps.toNat held wr.drew from HFJ.out.lk.below (below_drew1 (Below.refl _ _))).len 3
                        have hu51 := Tryd.underlying51
                        clear ht hie2 hik hin
                        go_wp2
                        go_region
                        go_wp2
                        (try simp only [Exit.inBlock, Exit.then])
                        refine bodyPost_ret (res_four rfl _ _ _) rfl ?_
                        have hS := HSJ.out
                        rw [HTK.out] at hS
                        exact ⟨_, _, rfl, Kd.S_drew (Kd.S_mono hS (fun _ _ => trivial)), Kd.R_drew HFJ.out.kr, below_drew1 HFJ.out.below⟩
                  · have H := HF2.out
                    rw [tabL, if_neg hidx] at H
                    rw [HWH.out, HAT.out, HLA.out] at H
                    have hq : 0 ≤ who ∧ who < (l0.length : Int) ∧ 0 ≤ steps ∧ steps < 500000 := Decidable.byContradiction fun c => by rw [if_neg c] at H; cases H
                    rw [if_pos hq] at H
                    obtain ⟨hq1, hq2, hq3, hq4⟩ := hq
                    obtain ⟨i2, rfl⟩ := Int.eq_ofNat_of_zero_le hq1
                    have hi2 : i2 < l0.length := by omega
                    rw [Int.toNat_natCast] at H
                    have tw : decide ((i2 : Int) < 0) = false := decide_eq_false (by omega)
                    have HS2 := Aside0.mk (FSt.picked (HS1.out) (by have := HGE.out; have := blk_lt HS1.out.pk; exact e1) HB18.out (.slice A' P.length c') at2 last2 (Kd.V_map HV3.out (fun _ hf => hf)))
                    have hx3 := HX3.out
                    have x0 : w18.cell? ⟨gx, 0, none⟩ = some (.slice A' P.length c') := (blk_cell hx3 0).trans rfl
                    have x1 : w18.cell? ⟨gx, 1, none⟩ = some (.int .i64 at2) := (blk_cell hx3 1).trans rfl
                    have x2 : w18.cell? ⟨gx, 2, none⟩ = some (.int .i64 last2) := (blk_cell hx3 2).trans rfl
                    have hpk := blk_below HS1.out.pk HB18.out
                    have z0 : w18.cell? ⟨gn, 0, none⟩ = some (.slice Au P.length cu) := (blk_cell hpk 0).trans rfl
                    have z1 : w18.cell? ⟨gn, 1, none⟩ = some (.int .i64 at_) := (blk_cell hpk 1).trans rfl
                    have z2 : w18.cell? ⟨gn, 2, none⟩ = some (.int .i64 last) := (blk_cell hpk 2).trans rfl
                    have y0 := blk_frozen hpk 0
                    have y1 := blk_frozen hpk 1
                    have y2 := blk_frozen hpk 2
                    have p2 : (0 : Int) ≤ (i2 : Int) := by omega
                    have p3 : (i2 : Int) < (l0.length : Int) := by omega
                    have HF4 := Aside0.mk H
                    have HI2 := Aside0.mk hi2
                    have HST4 := Aside0.mk (And.intro hq3 hq4)
                    clear hx3 hpk HS1 HF2 HV3 HX3 hidx H hq1 hq2 hq3 hq4 hi2
                    go_upto_region 23 with (fail)
                    clear HB18 x0 x1 x2 z0 z1 z2 y0 y1 y2
                    generalize ((w18.setCell ⟨gn, 0, none⟩ (.slice A' P.length c')).setCell ⟨gn, 1, none⟩ (.int .i64 at2)).setCell ⟨gn, 2, none⟩ (.int .i64 last2) = w20 at *
                    have hst : wrap64 (steps + 1) = steps + 1 := by have := HST4.out; exact wr64 (by omega) (by omega)
                    rw [hst]
                    have HNT := Aside0.mk (show (steps + 1).toNat = steps.toNat + 1 by have := HST4.out; omega)
                    obtain ⟨A, c, GA, gc, b1, b2, b3, b4, b5, b6⟩ := HS2.out.row i2 HI2.out
                    have HGI := Aside0.mk (fun k (hk : k ∈ L.getD i2 []) => HL.out.2.2 _ (getD_mem L i2 [] (by rw [HS2.out.len1]; exact HI2.out)) k hk)
                    have H := HF4.out
                    cases hL : L.getD i2 [] with
                    | nil => rw [hL] at H; cases H
                    | cons k l =>
                      rw [hL] at H b1 b2 b3 HGI
                      dsimp only at H
                      have hgk := HGI.out k (List.mem_cons_self ..)
                      have hC := Kd.C_below b3 HS2.out.below
                      by_cases hs0 : st.getD i2 0 = 0
                      · rw [if_pos hs0] at H
                        rw [hs0] at b4
                        have hnm : stripeS stripes k ∉ held := fun c => by rw [if_pos c] at H; cases H
                        rw [if_neg hnm] at H
                        have HFN := Aside0.mk H
                        have HCL := Aside0.mk (next_lock w w.heap.size i2 (gb + 2) (gb + 1) steps.toNat stripes room held A c k l V1 gb (.slice KA keys.length kc) w20 hgk (Nat.le_refl _) (by have := HWL.out; omega) HS2.out.below HS2.out.wk b1 b4 HS2.out.tab HS2.out.lk (by have := HST4.out; omega) hC hnm)
                        clear b1 b2 b3 b4 b5 b6 H hgk hC hnm hs0 HF4
                        go_wp2_with (first | (go_at_call 18; refine HCL.out.mono ?_; rintro e w21 ⟨rfl, t1, t2, t3, t4⟩; have HS3 := Aside0.mk (HS2.out.locked (by omega) i2 HI2.out (m2 := (steps + 1).toNat) (by have := HNT.out; omega) t1 t2 t3 t4); clear t1 t2 t3 t4))
                        go_roundg k1
                        case measure => omega
                        case rel => exact ⟨_, _, _, _, _, _, _, _, _, _, _, _, _, rfl, HFN, ⟨enT_length _ _ _ _ _, by have := HST4.out; omega, HL.out.2.2⟩, HS3⟩
                      · rw [if_neg hs0] at H
                        by_cases hs1 : st.getD i2 0 = 1
                        · rw [if_pos hs1] at H
                          rw [hs1] at b4
                          have hbd : keys.length < 5000 ∧ (got.getD i2 []).length < 5000 := Decidable.byContradiction fun c => by rw [if_neg c] at H; cases H
                          rw [if_pos hbd] at H
                          have HFN := Aside0.mk H
                          have HB5 := Aside0.mk b5
                          have HCL := Aside0.mk (next_look w w.heap.size i2 (gb + 2) gb (gb + 1) stripes room keys KA kc (got.getD i2 []) GA gc A c k l V1 w20 hgk (Nat.le_refl _) (by have := HWL.out; omega) (by have := HWL.out; omega) HS2.out.below HS2.out.wk b1 b4 b5 HS2.out.tab HS2.out.pl HS2.out.kr b6 hbd.1 hbd.2 hC)
                          clear b1 b2 b3 b4 b5 b6 H hgk hC hbd hs0 hs1 HF4
                          go_wp2_with (first | (go_at_call 18; refine HCL.out.mono ?_; rintro e w21 ⟨rfl, t1⟩; have HS3 := Aside0.mk (HS2.out.looked (by omega) i2 HI2.out (m2 := (steps + 1).toNat) (by have := HNT.out; omega) HB5.out t1); clear t1))
                          go_roundg k1
                          case measure => omega
                          case rel =>
                            obtain ⟨V2, KA2, kc2, hS3⟩ := HS3.out
                            exact ⟨_, _, _, _, _, V2, KA2, kc2, _, _, _, _, _, rfl, HFN, ⟨enT_length _ _ _ _ _, by have := HST4.out; omega, HL.out.2.2⟩, ⟨hS3⟩⟩
                        · rw [if_neg hs1] at H
                          have hs2 : st.getD i2 0 = 2 := Decidable.byContradiction fun c => by rw [if_neg c] at H; cases H
                          rw [if_pos hs2] at H
                          rw [hs2] at b4
                          have hbd : stripeS stripes k ∈ held ∧ held.Nodup := Decidable.byContradiction fun c => by rw [if_neg c] at H; cases H
                          rw [if_pos hbd] at H
                          have HFN := Aside0.mk H
                          have HCL := Aside0.mk (next_leave w w.heap.size i2 (gb + 2) (gb + 1) steps.toNat stripes room held A c k l V1 gb (.slice KA keys.length kc) w20 hgk (Nat.le_refl _) (by have := HWL.out; omega) HS2.out.below HS2.out.wk b1 b4 HS2.out.tab HS2.out.lk hbd.2 b2 b3 hbd.1)
                          clear b1 b2 b3 b4 b5 b6 H hgk hC hbd hs0 hs1 hs2 HF4
                          go_wp2_with (first | (go_at_call 18; refine HCL.out.mono ?_; rintro e w21 ⟨rfl, ⟨A2, c2, t1, t5, t6⟩, t2, t3, t4⟩; have HS3 := Aside0.mk (HS2.out.left (by omega) i2 HI2.out (m2 := (steps + 1).toNat) (by have := HNT.out; omega) t5 t6 t1 t2 t3 t4); clear t1 t2 t3 t4 t5 t6))
                          go_roundg k1
                          case measure => omega
                          case rel =>
                            refine ⟨_, _, _, _, _, _, _, _, _, _, _, _, _, rfl, HFN, ⟨enT_length _ _ _ _ _, by have := HST4.out; omega, fun x hx q hq => ?_⟩, HS3⟩
                            rcases List.mem_or_eq_of_mem_set hx with hx | hx
                            · exact HL.out.2.2 x hx q hq
                            · subst hx
                              exact HGI.out q (List.mem_cons_of_mem _ hq)
end Go.Proofs.YtmgfkdnoclmbgaaDoor
