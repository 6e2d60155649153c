/-
A worker's event. Condition: the worker's cells are there.
The play's state at the start. Condition: the blocks are made one behind the other.
Who is next of a row of flags: the call; a number's bits as flags. Condition: the flags are in a block of their own.
How the play starts: each worker has the operations that may begin; whether there are too many. Condition: the rows are not too long.
A step of a worker of the play, as a call, and what the play's state is behind it. Condition: the worker may go on.
-/
import Derived.Test.YtmaiicpaalbcfaaDoorPlayD
import Derived.StillTailTactics
import Derived.Test.YtmaiicpaalbcfaaDoorPx19
namespace Go.Proofs.YtmaiicpaalbcfaaDoor
open Go.RowKit Go.Proofs.YtmaiicpaalbcfaaDoorW.PrintWords Go.Proofs.YtmaiicpaalbcfaaDoorW.PrintLast Go.Proofs.YtmaiicpaalbcfaaDoorW.PrintMore Go.Proofs.YtmaiicpaalbcfaaDoor.P
set_option linter.unusedVariables false
set_option linter.unusedSimpArgs false
def ev42 (e : S42) : Value := .agg #[.int .i64 e.f0, .int .i64 e.f1.f0, .int .i64 e.f1.f1, .int .i64 e.f1.f2, .int .i64 e.f2, .int .i64 e.f3, .int .i64 e.f4, .int .i64 e.f5]
set_option maxRecDepth 100000 in
set_option maxHeartbeats 4000000 in
theorem event_any (gw i : Nat) (t : T) (b now found : Int) (ii : Nat) (w : World) (c1 : w.cell? ⟨gw, i * 14 + 1, none⟩ = some (.int .i64 t.k)) (c2 : w.cell? ⟨gw, i * 14 + 2, none⟩ = some (.int .i64 t.x)) (c3 : w.cell? ⟨gw, i * 14 + 3, none⟩ = some (.int .i64 t.y)) (c10 : w.cell? ⟨gw, i * 14 + 10, none⟩ = some (.int .i64 t.res)) (c12 : w.cell? ⟨gw, i * 14 + 12, none⟩ = some (.int .i64 b)) :
    Calls Tryd.prog 26 #[.pointer (some ⟨gw, i * 14, none⟩), .int .i64 (ii : Int), .int .i64 now, .int .i64 found] w fun e w' => e = .returned (ev42 (eventS ii t b now found)) ∧ Below w.heap.size w w' := by
  have hu65 := Tryd.underlying65
  have hu63 := Tryd.underlying63
  have hu42 := Tryd.underlying42
  have hu40 := Tryd.underlying40
  obtain ⟨k, x, y, s, u, v, ww, r, is, res⟩ := t
  dsimp only at c1 c2 c3 c10
  go_enter Tryd.func26, Tryd.ntmps26
  go_upto_region 1 with (first | ((with_reducible refine gate_dst (N := 8) rfl ?_); (try (refine gate_guard (by rfl) ?_; dsimp only)); refine box_event ?hg (N := 8) ?hd (cs := #[.int .i64 0, .int .i64 0, .int .i64 0, .int .i64 0, .int .i64 0, .int .i64 0, .int .i64 0, .int .i64 0]) (t := 42) ?hr ?_; (case hd => rfl); (case hg => rfl); (case hr => first | (go_simp; done) | (go_simp; rfl)); intro br hbr w1 hbx hb1; have HBX := Aside0.mk hbx; have HB1 := Aside0.mk hb1; have c1 := (hb1.cell (World.block_lt_of_cell? _ _ c1)).trans c1; have c2 := (hb1.cell (World.block_lt_of_cell? _ _ c2)).trans c2; have c3 := (hb1.cell (World.block_lt_of_cell? _ _ c3)).trans c3; have c10 := (hb1.cell (World.block_lt_of_cell? _ _ c10)).trans c10; have c12 := (hb1.cell (World.block_lt_of_cell? _ _ c12)).trans c12; have HBRE := Aside0.mk hbr; clear hbx hb1 hbr))
  have hne := World.new_ne w1 _ c1
  go_region_held3 (fun w' => w'.cell? ⟨gw, i * 14 + 1, none⟩ = some (.int .i64 k) ∧ w'.cell? ⟨gw, i * 14 + 2, none⟩ = some (.int .i64 x) ∧ w'.cell? ⟨gw, i * 14 + 3, none⟩ = some (.int .i64 y) ∧ w'.cell? ⟨gw, i * 14 + 10, none⟩ = some (.int .i64 res) ∧ w'.cell? ⟨gw, i * 14 + 12, none⟩ = some (.int .i64 b))
    (go_keep) (first | fail)
  have hb2 : Below w1.heap.size w1 (w1.alloc (.cells #[.int .i64 (ii : Int), .int .i64 k, .int .i64 x, .int .i64 y, .int .i64 res, .int .i64 b, .int .i64 now, .int .i64 now] 42 (0, 0))).drew := below_drew (below_alloc (Below.refl _ _) _)
  have HBV := Aside0.mk (blk_drew (blk_new w1 (.cells #[.int .i64 (ii : Int), .int .i64 k, .int .i64 x, .int .i64 y, .int .i64 res, .int .i64 b, .int .i64 now, .int .i64 now] 42 (0, 0))))
  have HBR := Aside0.mk (blk_below HBX.out hb2)
  have HB3 := Aside0.mk (below_step HB1.out hb2)
  have HNB := Aside0.mk (show br ≠ w1.heap.size from Nat.ne_of_lt (blk_lt HBX.out))
  have HBRL := Aside0.mk (show w.heap.size ≤ br by rw [HBRE.out]; exact Nat.le_refl _)
  have HBXL := Aside0.mk (show w.heap.size ≤ w1.heap.size from below_size HB1.out)
  clear hb2 hne c1 c2 c3 c10 c12 HBX HB1
  generalize (w1.alloc (.cells #[.int .i64 (ii : Int), .int .i64 k, .int .i64 x, .int .i64 y, .int .i64 res, .int .i64 b, .int .i64 now, .int .i64 now] 42 (0, 0))).drew = w3 at *
  generalize w1.heap.size = bx at *
  have z0 : w3.cell? ⟨bx, 0, none⟩ = some (.int .i64 (ii : Int)) := (blk_cell HBV.out 0).trans rfl
  have z1 : w3.cell? ⟨bx, 1, none⟩ = some (.int .i64 k) := (blk_cell HBV.out 1).trans rfl
  have z2 : w3.cell? ⟨bx, 2, none⟩ = some (.int .i64 x) := (blk_cell HBV.out 2).trans rfl
  have z3 : w3.cell? ⟨bx, 3, none⟩ = some (.int .i64 y) := (blk_cell HBV.out 3).trans rfl
  have z4 : w3.cell? ⟨bx, 4, none⟩ = some (.int .i64 res) := (blk_cell HBV.out 4).trans rfl
  have z5 : w3.cell? ⟨bx, 5, none⟩ = some (.int .i64 b) := (blk_cell HBV.out 5).trans rfl
  have z6 : w3.cell? ⟨bx, 6, none⟩ = some (.int .i64 now) := (blk_cell HBV.out 6).trans rfl
  have z7 : w3.cell? ⟨bx, 7, none⟩ = some (.int .i64 now) := (blk_cell HBV.out 7).trans rfl
  have r0 : w3.cell? ⟨br, 0, none⟩ = some (.int .i64 0) := (blk_cell HBR.out 0).trans rfl
  have y0 := blk_frozen HBR.out 0
  have r1 : w3.cell? ⟨br, 1, none⟩ = some (.int .i64 0) := (blk_cell HBR.out 1).trans rfl
  have y1 := blk_frozen HBR.out 1
  have r2 : w3.cell? ⟨br, 2, none⟩ = some (.int .i64 0) := (blk_cell HBR.out 2).trans rfl
  have y2 := blk_frozen HBR.out 2
  have r3 : w3.cell? ⟨br, 3, none⟩ = some (.int .i64 0) := (blk_cell HBR.out 3).trans rfl
  have y3 := blk_frozen HBR.out 3
  have r4 : w3.cell? ⟨br, 4, none⟩ = some (.int .i64 0) := (blk_cell HBR.out 4).trans rfl
  have y4 := blk_frozen HBR.out 4
  have r5 : w3.cell? ⟨br, 5, none⟩ = some (.int .i64 0) := (blk_cell HBR.out 5).trans rfl
  have y5 := blk_frozen HBR.out 5
  have r6 : w3.cell? ⟨br, 6, none⟩ = some (.int .i64 0) := (blk_cell HBR.out 6).trans rfl
  have y6 := blk_frozen HBR.out 6
  have r7 : w3.cell? ⟨br, 7, none⟩ = some (.int .i64 0) := (blk_cell HBR.out 7).trans rfl
  have y7 := blk_frozen HBR.out 7
  have nb := HNB.out
  have nb2 : bx ≠ br := Ne.symm HNB.out
  have y66 := blk_frozen HBV.out 6
  by_cases hk : k = 2
  · have qk : (k == 2) = true := by simpa using hk
    have HK := Aside0.mk hk
    clear hk
    by_cases hr : res = 0
    · have qr : (res == 0) = true := by simpa using hr
      have HR := Aside0.mk hr
      clear hr
      go_wp2
      (try simp only [Exit.inBlock, Exit.then])
      refine bodyPost_ret (results_cell_row rfl _ _ br 42 #[.int .i64 (ii : Int), .int .i64 k, .int .i64 x, .int .i64 y, .int .i64 res, .int .i64 b, .int .i64 found, .int .i64 now] (0, 0) _ rfl (blk_put (blk_put (blk_put (blk_put (blk_put (blk_put (blk_put (blk_put (blk_far (p := ⟨bx, 6, none⟩) HBR.out HNB.out _) 0 _ rfl) 1 _ rfl) 2 _ rfl) 3 _ rfl) 4 _ rfl) 5 _ rfl) 6 _ rfl) 7 _ rfl) Tryd.underlying42 rfl (by kernel_rfl)) rfl ?_
      exact ⟨by unfold eventS; rw [if_pos ⟨HK.out, HR.out⟩]; rfl, (below_set (below_set (below_set (below_set (below_set (below_set (below_set (below_set (below_set HB3.out HBXL.out) HBRL.out) HBRL.out) HBRL.out) HBRL.out) HBRL.out) HBRL.out) HBRL.out) HBRL.out)⟩
    · have qr : (res == 0) = false := by simpa using hr
      have HR := Aside0.mk hr
      clear hr
      go_wp2
      (try simp only [Exit.inBlock, Exit.then])
      refine bodyPost_ret (results_cell_row rfl _ _ br 42 #[.int .i64 (ii : Int), .int .i64 k, .int .i64 x, .int .i64 y, .int .i64 res, .int .i64 b, .int .i64 now, .int .i64 now] (0, 0) _ rfl (blk_put (blk_put (blk_put (blk_put (blk_put (blk_put (blk_put (blk_put HBR.out 0 _ rfl) 1 _ rfl) 2 _ rfl) 3 _ rfl) 4 _ rfl) 5 _ rfl) 6 _ rfl) 7 _ rfl) Tryd.underlying42 rfl (by kernel_rfl)) rfl ?_
      exact ⟨by unfold eventS; rw [if_neg (fun h => HR.out h.2)]; rfl, (below_set (below_set (below_set (below_set (below_set (below_set (below_set (below_set HB3.out HBRL.out) HBRL.out) HBRL.out) HBRL.out) HBRL.out) HBRL.out) HBRL.out) HBRL.out)⟩
  · have qk : (k == 2) = false := by simpa using hk
    have HK := Aside0.mk hk
    clear hk
    go_wp2
    (try simp only [Exit.inBlock, Exit.then])
    refine bodyPost_ret (results_cell_row rfl _ _ br 42 #[.int .i64 (ii : Int), .int .i64 k, .int .i64 x, .int .i64 y, .int .i64 res, .int .i64 b, .int .i64 now, .int .i64 now] (0, 0) _ rfl (blk_put (blk_put (blk_put (blk_put (blk_put (blk_put (blk_put (blk_put HBR.out 0 _ rfl) 1 _ rfl) 2 _ rfl) 3 _ rfl) 4 _ rfl) 5 _ rfl) 6 _ rfl) 7 _ rfl) Tryd.underlying42 rfl (by kernel_rfl)) rfl ?_
    exact ⟨by unfold eventS; rw [if_neg (fun h => HK.out h.1)]; rfl, (below_set (below_set (below_set (below_set (below_set (below_set (below_set (below_set HB3.out HBRL.out) HBRL.out) HBRL.out) HBRL.out) HBRL.out) HBRL.out) HBRL.out) HBRL.out)⟩
end Go.Proofs.YtmaiicpaalbcfaaDoor

namespace Go.Proofs.YtmaiicpaalbcfaaDoor
open Go.RowKit Go.Proofs.YtmaiicpaalbcfaaDoorW.PrintWords Go.Proofs.YtmaiicpaalbcfaaDoorW.PrintLast Go.Proofs.YtmaiicpaalbcfaaDoorW.PrintMore Go.Proofs.YtmaiicpaalbcfaaDoor.P
set_option linter.unusedVariables false
theorem PSt.start {w0 wr w4 w5 : World} {n gw bp wc uc cv : Nat} {WA UA Av : Option Addr} {ws : List W5} {R : List (List Value)} {up P : List Int} (hraw : (Kd.raw 14).R 65 wr w0.heap.size (fun _ => True) (.slice WA n wc) R) (hwa : WA = some ⟨gw, 0, none⟩) (hgw : gw < wr.heap.size) (hlw : ws.length = n)
    (hrow : ∀ i, i < n → ∃ A c, R.getD i [] = wrow A (ws.getD i z5).l.length c (ws.getD i z5).t (ws.getD i z5).busy (ws.getD i z5).b (ws.getD i z5).pl ∧ (ws.getD i z5).l.length ≤ c ∧ ∀ W', Kept wr W' (fun q => q = gw) → Kd.C k40 W' A (ws.getD i z5).l.length (ws.getD i z5).l)
    (hup : Kd.R (Kd.int .i64) 3 wr w0.heap.size (fun _ => True) (.slice UA up.length uc) up) (hb0 : Below w0.heap.size w0 wr) (hb4 : Below wr.heap.size wr w4) (hv : Kd.R (Kd.int .i64) 3 w4 wr.heap.size (fun _ => True) (.slice Av P.length cv) P) (hb5 : Below w4.heap.size w4 w5) (hbp : bp = w4.heap.size) (hbx : w5.heap[bp]? = some (.cells #[.slice none 0 0, .int .i64 0, .int .i64 0] 58 (0, 0))) :
    PSt w0 wr ((((w5.setCell ⟨bp, 0, none⟩ (.slice Av P.length cv)).setCell ⟨bp, 1, none⟩ (.int .i64 0)).setCell ⟨bp, 2, none⟩ (.int .i64 (-1))).alloc (.cells (List.replicate n (Value.bool false)).toArray 4 (0, 0))) n gw bp (((w5.setCell ⟨bp, 0, none⟩ (.slice Av P.length cv)).setCell ⟨bp, 1, none⟩ (.int .i64 0)).setCell ⟨bp, 2, none⟩ (.int .i64 (-1))).heap.size WA wc ws R up UA uc [] none 0 0 (-1) P (.slice Av P.length cv) (List.replicate n false) := by
  have s4 := below_size hb4
  have s5 := below_size hb5
  have s0 := below_size hb0
  have hlt := blk_lt hbx
  have hbr : Below wr.heap.size wr w5 := below_step hb4 hb5
  have hb6 : Below wr.heap.size wr (((w5.setCell ⟨bp, 0, none⟩ (.slice Av P.length cv)).setCell ⟨bp, 1, none⟩ (.int .i64 0)).setCell ⟨bp, 2, none⟩ (.int .i64 (-1))) := below_set (below_set (below_set hbr (by omega)) (by omega)) (by omega)
  have hb7 := below_alloc hb6 (.cells (List.replicate n (Value.bool false)).toArray 4 (0, 0))
  have hblk := blk_put (blk_put (blk_put hbx 0 (.slice Av P.length cv) rfl) 1 (.int .i64 0) rfl) 2 (.int .i64 (-1)) rfl
  have e6 : (((w5.setCell ⟨bp, 0, none⟩ (.slice Av P.length cv)).setCell ⟨bp, 1, none⟩ (.int .i64 0)).setCell ⟨bp, 2, none⟩ (.int .i64 (-1))).heap.size = w5.heap.size := by simp [World.setCell]
  have hv5 := Kd.R_bound (Kd.R_far (p := ⟨bp, 2, none⟩) (Kd.R_far (p := ⟨bp, 1, none⟩) (Kd.R_far (p := ⟨bp, 0, none⟩) (Kd.R_types (Kd.R_below hv hb5) hbx (by decide)) (fun _ hk => hk.2) (.slice Av P.length cv)) (fun _ hk => hk.2) (.int .i64 0)) (fun _ hk => hk.2) (.int .i64 (-1)))
  have hpl := (Kd.R_reads' hv).2.1
  refine ⟨Kd.R_below hraw hb7, fun _ => hwa, hlw, hrow, Kept.of_below hb7 _, below_step hb0 hb7, Kd.R_below hup hb7, Kd.R_nil _ _ _ _ _, blk_alloc hblk _, ?_, ?_, ⟨by omega, by omega, fun q hq => by simp [Value.ownBlock] at hq⟩, ⟨s0, hgw⟩⟩
  · refine Kd.V_alloc (Kd.V_mono (Kd.V_mk (base := w0.heap.size) (e := 3) hpl (Kd.R_F hv5)) (fun k hk => ?_)) _
    obtain ⟨⟨_, h1⟩, h2, h3, _⟩ := hk
    exact ⟨⟨by omega, h1, by omega⟩, by simp [Value.ownBlock]⟩
  · have := blk_new (((w5.setCell ⟨bp, 0, none⟩ (.slice Av P.length cv)).setCell ⟨bp, 1, none⟩ (.int .i64 0)).setCell ⟨bp, 2, none⟩ (.int .i64 (-1))) (.cells (List.replicate n (Value.bool false)).toArray 4 (0, 0))
    rw [List.map_replicate]
    exact this
end Go.Proofs.YtmaiicpaalbcfaaDoor

namespace Go.Proofs.YtmaiicpaalbcfaaDoor
open Go.RowKit Go.Proofs.YtmaiicpaalbcfaaDoorW.PrintWords Go.Proofs.YtmaiicpaalbcfaaDoorW.PrintLast Go.Proofs.YtmaiicpaalbcfaaDoorW.PrintMore Go.Proofs.YtmaiicpaalbcfaaDoor.P
set_option linter.unusedVariables false
set_option linter.unusedSimpArgs false
theorem bools_C (E : List Bool) (w : World) (g : Nat) (h : w.heap[g]? = some (.cells (E.map Value.bool).toArray 4 (0, 0))) (hl : E.length ≤ 64) : Kd.C Kd.bool w (some ⟨g, 0, none⟩) E.length E := by
  refine ⟨rfl, by omega, fun _ => ⟨⟨g, 0, none⟩, rfl, fun j p hp => ⟨[.bool p], rfl, rfl, fun i u hu => ?_⟩⟩⟩
  have hi : i = 0 := by
    rcases i with _ | i
    · rfl
    · simp at hu
  subst hi
  obtain rfl : Value.bool p = u := by simpa using hu
  have e : (Addr.add ⟨g, 0, none⟩ (j * Kd.bool.sz + 0)) = ⟨g, j, none⟩ := by
    rw [show Kd.bool.sz = 1 from rfl]
    simp [Addr.add]
    exact Eq.symm
  rw [e]
  refine (blk_cell h j).trans ?_
  simp [hp]
theorem next_call (E : List Bool) (n : Nat) (hn : E.length = n) (hl : n ≤ 64) (P : Nat → Prop) (A : Option Addr) (c : Nat) (L : List Int) (at_ last : Int) (hL : L.length ≤ 1000000) (g : Nat) (w : World) (hV : Kd.V (Kd.int .i64) 3 w w.heap.size P (.slice A L.length c) L) (hE : w.heap[g]? = some (.cells (E.map Value.bool).toArray 4 (0, 0))) (hT : Tab w) (who at2 last2 : Int) (h1 : whoS L at_ last (Bits.idx E) = who) (h2 : atS L at_ (Bits.idx E) = at2) (h3 : lastS L at_ last (Bits.idx E) = last2) :
    Calls Tryd.prog 24 #[.agg #[.slice A L.length c, .int .i64 at_, .int .i64 last], .slice (some ⟨g, 0, none⟩) n n] w fun e w' => ∃ (A' : Option Addr) (c' : Nat), e = .returned (.tuple #[.int .i64 who, .agg #[.slice A' L.length c', .int .i64 at2, .int .i64 last2]]) ∧ Kd.V (Kd.int .i64) 3 w' w.heap.size (fun k_ => P k_ ∨ w.heap.size ≤ k_) (.slice A' L.length c') L ∧ Below w.heap.size w w' := by
  subst hn h1 h2 h3
  obtain ⟨k, hk⟩ := (next_ev L at_ last E hL (by omega)).rounds
  refine (pick_Next.calls k P A c L at_ last (some ⟨g, 0, none⟩) E.length E _ _ _ _ w hV (bools_C E w g hE hl) (Nat.le_refl _) hk hT).mono ?_
  rintro e w' ⟨v1, rfl, ho, hb⟩
  obtain ⟨A', c', rfl⟩ := Kd.V_slice ho
  exact ⟨A', c', rfl, ho, hb⟩
theorem set_getDb (E : List Bool) (i j : Nat) (b : Bool) (h : i < E.length) : (E.set i b).getD j false = if j = i then b else E.getD j false := by
  simp only [List.getD_eq_getElem?_getD, List.getElem?_set]
  by_cases c : i = j
  · rw [if_pos c, if_pos (by omega), if_pos c.symm]; rfl
  · rw [if_neg c, if_neg (Ne.symm c)]
theorem enG_length (n : Nat) (going : Int) : (enG n going).length = n := by simp [enG]
theorem enG_get (n : Nat) (going : Int) (i : Nat) (hi : i < n) : (enG n going).getD i false = bitOn going i := by
  simp [enG, List.getD_eq_getElem?_getD, hi]
theorem enG_of (n : Nat) (going : Int) (E : List Bool) (h : E.length = n) (hE : ∀ j, j < n → E.getD j false = bitOn going j) : E = enG n going := by
  apply List.ext_getElem
  · rw [h, enG_length]
  · intro j h1 h2
    have h3 := hE j (by omega)
    rw [← enG_get n going j (by omega), List.getD_eq_getElem?_getD, List.getElem?_eq_getElem h1, List.getD_eq_getElem?_getD, List.getElem?_eq_getElem h2] at h3
    exact h3
end Go.Proofs.YtmaiicpaalbcfaaDoor

namespace Go.Proofs.YtmaiicpaalbcfaaDoor
open Go.RowKit Go.Proofs.YtmaiicpaalbcfaaDoorW.PrintWords Go.Proofs.YtmaiicpaalbcfaaDoorW.PrintLast Go.Proofs.YtmaiicpaalbcfaaDoorW.PrintMore Go.Proofs.YtmaiicpaalbcfaaDoor.P
set_option linter.unusedVariables false
def st65 (l : List S40) : S65 := ⟨l, z63, false, 0, 0⟩
/-- how many, with the machine's sum -/
def allW (a : Int) : List (List S40) → Int
  | [] => a
  | x :: W => allW (wrap64 (a + (x.length : Int))) W
def startS (n : Int) (S : List (List S40)) : List S65 := S.map fun l => st65 (l.filter (validB n))
def okS (n : Int) (S : List (List S40)) : Bool := decide (n ≤ 4096 ∧ (S.length : Int) ≤ 64 ∧ allW 0 S ≤ 4096)
theorem set_same65 (X : List S65) (i : Nat) (x : S65) (hi : i < X.length) (h : X.getD i z65 = x) : X.set i x = X := by
  apply List.ext_getElem?
  intro j
  rw [List.getElem?_set]
  by_cases c : i = j
  · subst c
    rw [if_pos rfl, if_pos hi, ← h, List.getD_eq_getElem?_getD, List.getElem?_eq_getElem hi]; rfl
  · rw [if_neg c]
theorem start_l1 (n : Int) (S : List (List S40)) (all : Int) (i : Nat) (hi : i < S.length) (row : List S40) (hrow : row.length ≤ 1000000000000) (r : List S65 × Bool) : ∀ (d j : Nat) (X : List S65), j + d = row.length → i < X.length → X.getD i z65 = st65 ((row.take j).filter (validB n)) →
    Ev (fun g => play_start.l0 g n S (X.set i (st65 (row.filter (validB n)))) all S (S.length : Int) (wrap64 ((i : Int) + 1))) r → Ev (fun g => play_start.l1 g n S X all (i : Int) S (S.length : Int) (i : Int) row (row.length : Int) (j : Int)) r
  | 0, j, X, hj, hx, hX, h => by
    rw [List.take_of_length_le (by omega)] at hX
    rw [set_same65 X i _ hx hX] at h
    exact Ev.step (fun g => by rw [play_start.l1, if_neg (by omega)]) h
  | d + 1, j, X, hj, hx, hX, h => by
    have hlt : j < row.length := by omega
    have e1 : rd_T40 row (j : Int) = row[j] := by simp [rd_T40, List.getD_eq_getElem?_getD, hlt]
    have e2 : rd_T65 X (i : Int) = st65 ((row.take j).filter (validB n)) := by rw [← hX]; simp [rd_T65]
    have et : (row.take (j + 1)).filter (validB n) = (row.take j).filter (validB n) ++ (if validB n row[j] = true then [row[j]] else []) := by
      rw [List.take_succ_eq_append_getElem hlt, List.filter_append]
      congr 1
      by_cases c : validB n row[j] = true
      · rw [if_pos c]; simp [c]
      · rw [if_neg c]; simp [c]
    have hfl : ((row.take j).filter (validB n)).length ≤ 1000000000000 := Nat.le_trans (List.length_filter_le _ _) (by rw [List.length_take]; omega)
    have ej : wrap64 ((j : Int) + 1) = ((j + 1 : Nat) : Int) := by rw [wr64 (by omega) (by omega)]; omega
    by_cases c : validB n row[j] = true
    · have ih := start_l1 n S all i hi row hrow r d (j + 1) (X.set i (st65 ((row.take (j + 1)).filter (validB n)))) (by omega) (by rw [List.length_set]; exact hx) (by simp [List.getD_eq_getElem?_getD, hx]) (by rw [List.set_set]; exact h)
      refine Ev.step (fun g => ?_) ih
      rw [play_start.l1, if_pos (by omega), if_pos (by omega), if_pos (by omega), e1]
      unfold cuf_Begin.f
      refine (Option.bind_some ..).trans ?_
      dsimp only
      rw [if_pos (by exact c), if_pos (by omega), if_pos (by omega), e2, if_pos (by show ((row.take j).filter (validB n)).length < _; omega), et, if_pos c, ej]
      rfl
    · have ih := start_l1 n S all i hi row hrow r d (j + 1) X (by omega) hx (by rw [et, if_neg c, List.append_nil]; exact hX) h
      refine Ev.step (fun g => ?_) ih
      rw [play_start.l1, if_pos (by omega), if_pos (by omega), if_pos (by omega), e1]
      unfold cuf_Begin.f
      refine (Option.bind_some ..).trans ?_
      dsimp only
      rw [if_neg (by exact c), ej]
theorem start_l0 (n : Int) (S : List (List S40)) (hS : S.length ≤ 1000000) (hrow : ∀ x ∈ S, x.length ≤ 1000000000000) : ∀ (d i : Nat) (all : Int), i + d = S.length → allW all (S.drop i) = allW 0 S →
    Ev (fun g => play_start.l0 g n S ((S.take i).map (fun l => st65 (l.filter (validB n))) ++ List.replicate (S.length - i) z65) all S (S.length : Int) (i : Int)) (startS n S, okS n S)
  | 0, i, all, hi, ha => by
    have e1 : S.length - i = 0 := by omega
    rw [List.drop_eq_nil_of_le (by omega)] at ha
    have e2 : all = allW 0 S := ha
    rw [e1, List.replicate_zero, List.append_nil, List.take_of_length_le (by omega)]
    refine Ev.step (f := fun _ => some (startS n S, okS n S)) (fun g => ?_) (Ev.now _)
    rw [play_start.l0, if_neg (by omega)]
    unfold okS
    by_cases c1 : n ≤ 4096
    · by_cases c2 : (S.length : Int) ≤ 64
      · rw [if_pos c1, if_pos c2, e2]
        congr 2
        by_cases c3 : allW 0 S ≤ 4096
        · rw [decide_eq_true c3, decide_eq_true ⟨c1, c2, c3⟩]
        · rw [decide_eq_false c3, decide_eq_false (fun h => c3 h.2.2)]
      · rw [if_pos c1, if_neg c2, decide_eq_false (fun h => c2 h.2.1)]; rfl
    · rw [if_neg c1, decide_eq_false (fun h => c1 h.1)]; rfl
  | d + 1, i, all, hi, ha => by
    have hlt : i < S.length := by omega
    have e3 : rd_L2 S (i : Int) = S[i] := by simp [rd_L2, List.getD_eq_getElem?_getD, hlt]
    have hl := hrow _ (List.getElem_mem hlt)
    rw [List.drop_eq_getElem_cons hlt, allW] at ha
    have ei : wrap64 ((i : Int) + 1) = ((i + 1 : Nat) : Int) := by rw [wr64 (by omega) (by omega)]; omega
    have ih := start_l0 n S hS hrow d (i + 1) _ (by omega) ha
    have hlen : ((S.take i).map (fun l => st65 (l.filter (validB n)))).length = i := by rw [List.length_map, List.length_take]; omega
    have h1 := start_l1 n S (wrap64 (all + (S[i].length : Int))) i hlt S[i] hl (startS n S, okS n S) S[i].length 0 ((S.take i).map (fun l => st65 (l.filter (validB n))) ++ List.replicate (S.length - i) z65) (by omega) (by rw [List.length_append, hlen, List.length_replicate]; omega)
      (by rw [List.getD_eq_getElem?_getD, List.getElem?_append_right (by omega), hlen, Nat.sub_self, List.getElem?_replicate, if_pos (by omega)]; rfl)
      (by
        rw [ei]
        have e : ((S.take i).map (fun l => st65 (l.filter (validB n))) ++ List.replicate (S.length - i) z65).set i (st65 (S[i].filter (validB n))) = (S.take (i + 1)).map (fun l => st65 (l.filter (validB n))) ++ List.replicate (S.length - (i + 1)) z65 := by
          rw [List.set_append_right _ _ (by omega), hlen, Nat.sub_self, show S.length - i = (S.length - (i + 1)) + 1 by omega, List.replicate_succ, List.set_cons_zero, List.take_succ_eq_append_getElem hlt, List.map_append, List.append_assoc]
          rfl
        rw [e]
        exact ih)
    refine Ev.step (fun g => ?_) h1
    rw [play_start.l0, if_pos (by omega), if_pos (by omega), if_pos (by omega), e3]
    rfl
theorem start_ev (n : Int) (S : List (List S40)) (hS : S.length ≤ 1000000) (hrow : ∀ x ∈ S, x.length ≤ 1000000000000) : Ev (fun g => play_start.f g n S) (startS n S, okS n S) := by
  refine Ev.congr (fun g => ?_) (start_l0 n S hS hrow S.length 0 0 (by omega) rfl)
  rw [play_start.f, if_pos (by omega), if_pos (by omega)]
  rfl
end Go.Proofs.YtmaiicpaalbcfaaDoor

namespace Go.Proofs.YtmaiicpaalbcfaaDoor
open Go.RowKit Go.Proofs.YtmaiicpaalbcfaaDoorW.PrintWords Go.Proofs.YtmaiicpaalbcfaaDoorW.PrintLast Go.Proofs.YtmaiicpaalbcfaaDoorW.PrintMore Go.Proofs.YtmaiicpaalbcfaaDoor.P
set_option linter.unusedVariables false
set_option linter.unusedSimpArgs false
theorem C_drop1 {W : World} {A : Option Addr} {c : Nat} {o : S40} {l : List S40} (h : Kd.C k40 W A (o :: l).length (o :: l)) (hc : (o :: l).length ≤ c) : Kd.C k40 W (dropA A c) l.length l :=
  Kd.C_drop (m := 1) h (by simp) hc
theorem PSt.gw_base {w0 w1 w : World} {n gw bp ge wc uc ec : Nat} {WA UA EA : Option Addr} {ws : List W5} {R : List (List Value)} {up : List Int} {ev : List S42} {at_ last : Int} {P : List Int} {uv : Value} {E : List Bool}
    (h : PSt w0 w1 w n gw bp ge WA wc ws R up UA uc ev EA ec at_ last P uv E) (hn : 0 < n) : w0.heap.size ≤ gw ∧ ∃ cs, w.heap[gw]? = some (.cells cs 65 (0, 0)) := by
  have hwa := h.wa hn
  have hwk := h.wk
  subst hwa
  have hl : n = R.length := (Kd.R_reads' hwk).1
  obtain ⟨g, cap, e, hb, hlt, hc⟩ := Kd.R_form hwk (by omega)
  simp only [Value.slice.injEq, Option.some.injEq, Addr.mk.injEq] at e
  obtain ⟨⟨rfl, _⟩, _⟩ := e
  exact ⟨hb, hc⟩
theorem PSt.step5 {w0 w1 w : World} {n gw bp ge wc uc ec : Nat} {UA EA : Option Addr} {ws : List W5} {R : List (List Value)} {up : List Int} {ev : List S42} {at_ last : Int} {P : List Int} {uv : Value} {E : List Bool}
    (h : PSt w0 w1 w n gw bp ge (some ⟨gw, 0, none⟩) wc ws R up UA uc ev EA ec at_ last P uv E) (i : Nat) (hi : i < n) {prio : List Int} {PA : Option Addr} {pc : Nat} (hp : Kd.C (Kd.int .i64) w0 PA prio.length prio) (hpc : prio.length ≤ pc) (now : Int) {l : List S40} {t : T} {b : Int}
    (hgo : goesOn prio.length now (ws.getD i z5) = some (l, t, b)) (hst : Steps up prio t) :
    Calls Tryd.prog 25 #[.pointer (some ⟨gw, i * 14, none⟩), .slice UA up.length uc, .slice PA prio.length pc, .int .i64 now] w fun e w' => ∃ (A' : Option Addr) (c' : Nat) (R' : List (List Value)), e = .returned (.slice A' (stepL up prio t).1.length c') ∧ PSt w0 w1 w' n gw bp ge (some ⟨gw, 0, none⟩) wc (ws.set i ⟨l, (stepL up prio t).2, true, b, placeW t (stepL up prio t).2 now (ws.getD i z5).pl⟩) R' (stepL up prio t).1 A' c' ev EA ec at_ last P uv E := by
  obtain ⟨hbg, cs, hcs⟩ := h.gw_base (by omega)
  obtain ⟨A, c, hr, hc, hC⟩ := h.row i hi
  have hu := Kd.R_reads' h.ur
  unfold goesOn at hgo
  by_cases hb : (ws.getD i z5).busy = true
  · rw [if_pos hb] at hgo
    simp only [Option.some.injEq, Prod.mk.injEq] at hgo
    obtain ⟨rfl, rfl, rfl⟩ := hgo
    rw [hb] at hr
    refine (wstep_busy w0 gw i n wc R A _ c _ _ _ up prio UA uc PA pc now w hi hr h.wk hu.2.2 hu.2.1 (Kd.C_below hp h.below) hpc hst h.below).mono ?_
    rintro e w' ⟨A', c', rfl, ho, hw, hk, hbw⟩
    exact ⟨A', c', _, rfl, h.worked i hi ⟨_, (stepL up prio (ws.getD i z5).t).2, true, _, _⟩ hc hC ho hw hk hbw⟩
  · rw [if_neg hb] at hgo
    have hb2 : (ws.getD i z5).busy = false := by simpa using hb
    rw [hb2] at hr
    generalize (ws.getD i z5).l = l0 at *
    cases l0 with
    | nil => cases hgo
    | cons o r =>
      dsimp only at hgo
      have hv : validB prio.length o = true := Decidable.byContradiction fun c => by rw [if_neg c] at hgo; cases hgo
      rw [if_pos hv] at hgo
      simp only [Option.some.injEq, Prod.mk.injEq] at hgo
      obtain ⟨rfl, rfl, rfl⟩ := hgo
      refine (wstep_new w0 gw i n wc R A c o r _ _ _ up prio UA uc PA pc now w hi hr h.wk (hC w h.kp) hc hv (fun W' hk => (Kd.R_reads' (Kd.R_kept (Kd.R_types h.ur hcs (by decide)) hk (fun q hq => hq.2))).2.2) hu.2.1 (Kd.C_kept_came (Kd.heap_int .i64) hp h.below (fun k hk => by omega)) hpc hst h.below).mono ?_
      rintro e w' ⟨A', c', rfl, ho, hw, hk, hbw⟩
      refine ⟨A', c', _, rfl, h.worked i hi ⟨r, (stepL up prio (beginT o.f0 o.f1 o.f2 prio.length)).2, true, now, _⟩ (A := dropA A c) (c := c - 1) ?_ (fun W' hk' => C_drop1 (hC W' hk') hc) ho hw hk hbw⟩
      simp only [List.length_cons] at hc
      show r.length ≤ c - 1
      omega
/-- a worker's cells as they are read -/
theorem PSt.cells {w0 w1 w : World} {n gw bp ge wc uc ec : Nat} {UA EA : Option Addr} {ws : List W5} {R : List (List Value)} {up : List Int} {ev : List S42} {at_ last : Int} {P : List Int} {uv : Value} {E : List Bool}
    (h : PSt w0 w1 w n gw bp ge (some ⟨gw, 0, none⟩) wc ws R up UA uc ev EA ec at_ last P uv E) (i : Nat) (hi : i < n) : ∃ A c, R.getD i [] = wrow A (ws.getD i z5).l.length c (ws.getD i z5).t (ws.getD i z5).busy (ws.getD i z5).b (ws.getD i z5).pl ∧ (ws.getD i z5).l.length ≤ c ∧ (∀ W', Kept w1 W' (fun q => q = gw) → Kd.C k40 W' A (ws.getD i z5).l.length (ws.getD i z5).l) ∧ ∀ j u, (wrow A (ws.getD i z5).l.length c (ws.getD i z5).t (ws.getD i z5).busy (ws.getD i z5).b (ws.getD i z5).pl)[j]? = some u → w.cell? ⟨gw, i * 14 + j, none⟩ = some u := by
  obtain ⟨A, c, hr, hc, hC⟩ := h.row i hi
  obtain ⟨_, _, g2, _⟩ := raw_row h.wk i hi
  rw [hr] at g2
  exact ⟨A, c, hr, hc, hC, g2⟩
section
variable {w0 w1 w w2 w3 : World} {n gw bp ge : Nat} {WA : Option Addr} {wc : Nat} {ws ws2 : List W5} {R : List (List Value)} {up up2 : List Int} {UA UA2 : Option Addr} {uc uc2 : Nat} {ev ev2 : List S42} {EA EA2 : Option Addr} {ec ec2 : Nat} {at_ last : Int} {P : List Int} {uv : Value} {E : List Bool}
/-- a worker's cells anew -/
theorem PSt.worked0 (h : PSt w0 w1 w n gw bp ge WA wc ws R up UA uc ev EA ec at_ last P uv E) (i : Nat) (hi : i < n) (k2 : W5) {A : Option Addr} {c : Nat} (hc : k2.l.length ≤ c) (hC : ∀ W', Kept w1 W' (fun q => q = gw) → Kd.C k40 W' A k2.l.length k2.l)
    (hu : Kd.R (Kd.int .i64) 3 w2 w0.heap.size (fun _ => True) (.slice UA2 up2.length uc2) up2) (hw : (Kd.raw 14).R 65 w2 w0.heap.size (fun _ => True) (.slice WA n wc) (R.set i (wrow A k2.l.length c k2.t k2.busy k2.b k2.pl))) (hk : Kept w w2 (fun q => q = gw)) (hb : Below w0.heap.size w0 w2) :
    PSt w0 w1 w2 n gw bp ge WA wc (ws.set i k2) (R.set i (wrow A k2.l.length c k2.t k2.busy k2.b k2.pl)) up2 UA2 uc2 ev EA ec at_ last P uv E where
  wk := hw
  wa := h.wa
  lenW := by rw [List.length_set]; exact h.lenW
  row j hj := by
    have hl : R.length = n := (Kd.R_reads' h.wk).1.symm
    have hl2 := h.lenW
    by_cases e : j = i
    · subst e
      have e1 : (R.set j (wrow A k2.l.length c k2.t k2.busy k2.b k2.pl)).getD j [] = wrow A k2.l.length c k2.t k2.busy k2.b k2.pl := by simp [List.getD_eq_getElem?_getD, show j < R.length by omega]
      have e2 : (ws.set j k2).getD j z5 = k2 := by simp [List.getD_eq_getElem?_getD, show j < ws.length by omega]
      rw [e1, e2]
      exact ⟨A, c, rfl, hc, hC⟩
    · have e1 : (R.set i (wrow A k2.l.length c k2.t k2.busy k2.b k2.pl)).getD j [] = R.getD j [] := by simp only [List.getD_eq_getElem?_getD, List.getElem?_set, if_neg (Ne.symm e)]
      have e2 : (ws.set i k2).getD j z5 = ws.getD j z5 := by simp only [List.getD_eq_getElem?_getD, List.getElem?_set, if_neg (Ne.symm e)]
      rw [e1, e2]
      exact h.row j hj
  kp := h.kp.then_ hk (fun _ hq => .inl hq)
  below := hb
  ur := hu
  er := by
    obtain ⟨cs, hc⟩ := Kd.R_typed h.wk gw (by rw [h.wa (by omega)]; rfl)
    exact Kd.R_mono (Kd.R_kept (Kd.R_types h.er hc (by decide)) hk (fun _ hq => hq.2)) (fun _ _ => trivial)
  pk := by
    obtain ⟨cs, hc⟩ := Kd.R_typed h.wk gw (by rw [h.wa (by omega)]; rfl)
    exact blk_kept h.pk hk (ne_block h.pk hc (by decide))
  pv := Kd.V_kept h.pv hk (fun _ hq => hq.1.1)
  en := by
    obtain ⟨cs, hc⟩ := Kd.R_typed h.wk gw (by rw [h.wa (by omega)]; rfl)
    exact blk_kept h.en hk (ne_block h.en hc (by decide))
  new := h.new
  old := h.old
end
theorem info42 : (Tryd.prog.info? 42).map (fun i => (i.zero, i.size, i.bytes)) = some (some (.agg #[(.int .i64 0), (.int .i64 0), (.int .i64 0), (.int .i64 0), (.int .i64 0), (.int .i64 0), (.int .i64 0), (.int .i64 0)]), 8, 64) := by kernel_rfl
end Go.Proofs.YtmaiicpaalbcfaaDoor
