/-
The pool's play: the walk. Conditions: those named in the theorem. (Begun.)
What the pool's play comes to: a plain function that follows its loop; none where nobody is enabled, or the rounds do not suffice.
The call of pick.Next in the pool's play: its contract with the row's length by name, out of cells that are told; and the events' append.
What the pool's play keeps in its rounds: the pool, its tasks, the picker, who is enabled, the picks, the events; under each step. Condition: the blocks are apart.
-/
import Derived.Test.YtbkdnenlffiaeaaDoorPoolA
import Derived.Test.YtbkdnenlffiaeaaDoorPx3
import Derived.Test.YtbkdnenlffiaeaaDoorPickB

namespace Go.Proofs.YtbkdnenlffiaeaaDoor
open Go.RowKit Go.Proofs.YtbkdnenlffiaeaaDoorW.PrintWords Go.Proofs.YtbkdnenlffiaeaaDoorW.PrintLast Go.Proofs.YtbkdnenlffiaeaaDoorW.PrintMore Go.Proofs.YtbkdnenlffiaeaaDoor.P
set_option linter.unusedVariables false
set_option linter.unusedSimpArgs false
/-- how many tasks -/
def allS (n : Int) : List (List Int) → Int
  | [] => n
  | x :: W => allS (wrap64 (n + x.length)) W
set_option maxHeartbeats 4000000 in
theorem play_none (A0 : Option Addr) (c0 : Nat) (l0 : List (List Int)) (a1 : Int) (A2 : Option Addr) (c2 : Nat) (l2 : List Int) (w : World) (hr0 : Kd.C kW w A0 l0.length l0) (hc0 : l0.length ≤ c0) (h : a1 < 1 ∨ a1 > 64 ∨ allS 0 l0 > 4096) :
    Calls Tryd.prog 20 #[.slice A0 l0.length c0, .int .i64 a1, .slice A2 l2.length c2] w fun e w' => e = .returned (.tuple #[.slice none 0 0, .int .i64 0]) ∧ Below w.heap.size w w' := by
  have HR := Aside0.mk hr0
  have HH := Aside0.mk h
  have HLEN := Aside0.mk hr0.2.1
  clear hr0 hc0 h
  go_enter Tryd.func20, Tryd.ntmps20
  go_wp2
  go_loopg [8, 19] l0.length (fun k v8 v19 w' => ∃ (i : Nat) (n : Int), i + k = l0.length ∧ v19 = .int .i64 i ∧ v8 = .int .i64 n ∧ Aside0 (allS n (l0.drop i) = allS 0 l0) ∧ Aside0 (∃ q, w' = w.drewN q))
  case atStart => exact ⟨0, 0, by omega, rfl, rfl, ⟨rfl⟩, ⟨0, rfl⟩⟩
  case round =>
    obtain ⟨i, n, hik, rfl, rfl, HA, HQ⟩ := hrel
    obtain ⟨q, rfl⟩ := HQ.out
    by_cases hi : i < l0.length
    · obtain ⟨ad, c, hA, hcl, hx, hcc⟩ := Kd.C_get HR.out ([] : List Int) (i : Int) (by omega) (by omega)
      obtain ⟨XA, xc, rfl, hxl, hxC⟩ := hx
      subst hA
      have hx0 : w.cell? (ad.add (i * 1 + 0)) = some (.slice XA (l0.getD i []).length xc) := hcc 0 _ rfl
      rw [Nat.mul_one, Nat.add_zero] at hx0
      have HS := Aside0.mk (show allS (wrap64 (n + (l0.getD i []).length)) (l0.drop (i + 1)) = allS 0 l0 by
        rw [← HA.out, List.drop_eq_getElem_cons hi, allS, List.getD_eq_getElem?_getD, List.getElem?_eq_getElem hi]; rfl)
      generalize l0.getD i [] = x at *
      have p1 : (i : Int) < (l0.length : Int) := by omega
      have p0 : (0 : Int) ≤ (i : Int) := by omega
      have HK := Aside0.mk hik
      have HI := Aside0.mk hi
      clear hcc hcl hxC hxl HA hik
      go_wp2
      repeat (go_quiet (fail); try go_wp2)
      go_roundg (l0.length - (i + 1))
      case measure => have := HK.out; have := HI.out; omega
      case rel => exact ⟨i + 1, _, by have := HI.out; omega, by have := HLEN.out; have := HI.out; congr 1; unfold wrap64; omega, rfl, HS, ⟨_, rfl⟩⟩
    · have hi2 : ¬ (i : Int) < (l0.length : Int) := by omega
      have HN := Aside0.mk (show n = allS 0 l0 by rw [← HA.out, List.drop_eq_nil_of_le (by omega)]; rfl)
      clear HA hi hik
      by_cases k1 : a1 < 1
      · have t1 : decide (a1 < 1) = true := decide_eq_true k1
        clear k1
        go_wp2
        repeat (go_quiet (fail); try go_wp2)
        go_ret2
        exact ⟨rfl, by (repeat (first | apply pw_below_drewN | apply below_drew1)); exact Below.refl _ _⟩
      · have t1 : decide (a1 < 1) = false := decide_eq_false k1
        by_cases k2 : a1 > 64
        · have t2 : decide (64 < a1) = true := decide_eq_true k2
          clear k1 k2
          go_wp2
          repeat (go_quiet (fail); try go_wp2)
          go_ret2
          exact ⟨rfl, by (repeat (first | apply pw_below_drewN | apply below_drew1)); exact Below.refl _ _⟩
        · have t2 : decide (64 < a1) = false := decide_eq_false k2
          have t3 : decide (4096 < n) = true := decide_eq_true (by have := HH.out; have := HN.out; omega)
          clear k1 k2
          go_wp2
          repeat (go_quiet (fail); try go_wp2)
          go_ret2
          exact ⟨rfl, by (repeat (first | apply pw_below_drewN | apply below_drew1)); exact Below.refl _ _⟩
end Go.Proofs.YtbkdnenlffiaeaaDoor

namespace Go.Proofs.YtbkdnenlffiaeaaDoor
open Go.RowKit Go.Proofs.YtbkdnenlffiaeaaDoorW.PrintWords Go.Proofs.YtbkdnenlffiaeaaDoorW.PrintLast Go.Proofs.YtbkdnenlffiaeaaDoorW.PrintMore Go.Proofs.YtbkdnenlffiaeaaDoor.P
/-- who may do a step -/
def enL (n busy : Nat) (R : List Int) : List Bool := (List.range n).map fun i => busy.testBit i || decide (0 < R.length)
def playL (n : Nat) (L : List Int) : Nat → WS → Nat → List Task → Int → Int → List S54 → Int → Option (List S54 × Int)
  | 0, _, _, _, _, _, _, _ => none
  | k + 1, S, busy, T, at_, last, l, steps =>
    if 0 < S.2.2.2 then
      if 0 ≤ whoS L at_ last (Bits.idx (enL n busy S.2.2.1)) ∧ whoS L at_ last (Bits.idx (enL n busy S.2.2.1)) < n then
        if busy.testBit (whoS L at_ last (Bits.idx (enL n busy S.2.2.1))).toNat = true then
          if l.length < 2199023255552 then
            playL n L k (refillS S.1 S.2.1 S.2.2.1 (wrap64 (S.2.2.2 - 1))) (busy ^^^ 2 ^ (whoS L at_ last (Bits.idx (enL n busy S.2.2.1))).toNat) T (atS L at_ (Bits.idx (enL n busy S.2.2.1))) (lastS L at_ last (Bits.idx (enL n busy S.2.2.1)))
              (l ++ [⟨whoS L at_ last (Bits.idx (enL n busy S.2.2.1)), ⟨0, (T.getD (whoS L at_ last (Bits.idx (enL n busy S.2.2.1))).toNat (0, 0, 0)).1, 0⟩, (T.getD (whoS L at_ last (Bits.idx (enL n busy S.2.2.1))).toNat (0, 0, 0)).2.1, (T.getD (whoS L at_ last (Bits.idx (enL n busy S.2.2.1))).toNat (0, 0, 0)).2.2, wrap64 (steps + 1), wrap64 (steps + 1)⟩]) (wrap64 (steps + 1))
          else none
        else match S.2.2.1 with
          | [] => none
          | r :: R => playL n L k (S.1, S.2.1, R, S.2.2.2) (busy ||| 2 ^ (whoS L at_ last (Bits.idx (enL n busy S.2.2.1))).toNat) (T.set (whoS L at_ last (Bits.idx (enL n busy S.2.2.1))).toNat (r, S.2.1, wrap64 (steps + 1))) (atS L at_ (Bits.idx (enL n busy S.2.2.1))) (lastS L at_ last (Bits.idx (enL n busy S.2.2.1))) l (wrap64 (steps + 1))
      else none
    else some (l, steps)
/-- the whole play -/
def playF (l0 : List (List Int)) (a1 : Int) (l2 : List Int) : Option (List S54 × Int) :=
  if a1 < 1 ∨ a1 > 64 ∨ allS 0 l0 > 4096 then some ([], 0)
  else if l2.length ≤ 1000000 then playL a1.toNat l2 (2 * (allS 0 l0).toNat + 1) (refillS l0 (-1) [] 0) 0 (List.replicate a1.toNat (0, 0, 0)) 0 (-1) [] 0 else none
end Go.Proofs.YtbkdnenlffiaeaaDoor

namespace Go.Proofs.YtbkdnenlffiaeaaDoor
open Go.RowKit Go.Proofs.YtbkdnenlffiaeaaDoorW.PrintWords Go.Proofs.YtbkdnenlffiaeaaDoorW.PrintLast Go.Proofs.YtbkdnenlffiaeaaDoorW.PrintMore Go.Proofs.YtbkdnenlffiaeaaDoor.P
theorem bools_C (E : List Bool) (w : World) (g : Nat) (h : w.heap[g]? = some (.cells (E.map Value.bool).toArray 4 (0, 0))) (hl : E.length ≤ 64) : Kd.C Kd.bool w (some ⟨g, 0, none⟩) E.length E := by
  refine ⟨rfl, by omega, fun _ => ⟨⟨g, 0, none⟩, rfl, fun j p hp => ⟨[.bool p], rfl, rfl, fun i u hu => ?_⟩⟩⟩
  have hi : i = 0 := by
    rcases i with _ | i
    · rfl
    · simp at hu
  subst hi
  obtain rfl : Value.bool p = u := by simpa using hu
  have e : (Addr.add ⟨g, 0, none⟩ (j * Kd.bool.sz + 0)) = ⟨g, j, none⟩ := by
    rw [show Kd.bool.sz = 1 from rfl]
    simp [Addr.add]
    exact Eq.symm
  rw [e]
  refine (blk_cell h j).trans ?_
  simp [hp]
theorem next_call (E : List Bool) (n : Nat) (hn : E.length = n) (hl : n ≤ 64) (P : Nat → Prop) (A : Option Addr) (c : Nat) (L : List Int) (at_ last : Int) (hL : L.length ≤ 1000000) (g : Nat) (w : World) (hV : Kd.V (Kd.int .i64) 3 w w.heap.size P (.slice A L.length c) L) (hE : w.heap[g]? = some (.cells (E.map Value.bool).toArray 4 (0, 0))) (hT : Tab w) (who at2 last2 : Int) (h1 : whoS L at_ last (Bits.idx E) = who) (h2 : atS L at_ (Bits.idx E) = at2) (h3 : lastS L at_ last (Bits.idx E) = last2) :
    Calls Tryd.prog 13 #[.agg #[.slice A L.length c, .int .i64 at_, .int .i64 last], .slice (some ⟨g, 0, none⟩) n n] w fun e w' => ∃ (A' : Option Addr) (c' : Nat), e = .returned (.tuple #[.int .i64 who, .agg #[.slice A' L.length c', .int .i64 at2, .int .i64 last2]]) ∧ Kd.V (Kd.int .i64) 3 w' w.heap.size (fun k_ => P k_ ∨ w.heap.size ≤ k_) (.slice A' L.length c') L ∧ Below w.heap.size w w' := by
  subst hn h1 h2 h3
  obtain ⟨k, hk⟩ := (next_ev L at_ last E hL (by omega)).rounds
  refine (pick_Next.calls k P A c L at_ last (some ⟨g, 0, none⟩) E.length E _ _ _ _ w hV (bools_C E w g hE hl) (Nat.le_refl _) hk hT).mono ?_
  rintro e w' ⟨v1, rfl, ho, hb⟩
  obtain ⟨A', c', rfl⟩ := Kd.V_slice ho
  exact ⟨A', c', rfl, ho, hb⟩
end Go.Proofs.YtbkdnenlffiaeaaDoor

namespace Go.Proofs.YtbkdnenlffiaeaaDoor
open Go.RowKit Go.Proofs.YtbkdnenlffiaeaaDoorW.PrintWords Go.Proofs.YtbkdnenlffiaeaaDoorW.PrintLast Go.Proofs.YtbkdnenlffiaeaaDoorW.PrintMore Go.Proofs.YtbkdnenlffiaeaaDoor.P
set_option linter.unusedVariables false
/-- the state of the play -/
def PSt (w w' : World) (n gn ge : Nat) (S : WS) (busy : Nat) (T : List Task) (at_ last : Int) (L : List Int) (l : List S54) (uv v6 : Value) (E : List Bool) : Prop :=
  PoolAt w w' w' (w.heap.size + 1) S busy (.slice (some ⟨w.heap.size, 0, none⟩) n n) ∧ w'.heap[w.heap.size]? = some (.cells (tcs T) 71 (0, 0)) ∧ w'.heap[gn]? = some (.cells #[uv, .int .i64 at_, .int .i64 last] 24 (0, 0)) ∧ w'.heap[ge]? = some (.cells (E.map Value.bool).toArray 4 (0, 0)) ∧
  Kd.V (Kd.int .i64) 3 w' w.heap.size (fun k_ => (k_ ≠ gn ∧ k_ ≠ w.heap.size ∧ k_ ≠ w.heap.size + 1 ∧ k_ ≠ ge) ∧ some k_ ≠ v6.ownBlock) uv L ∧ Kd.R k54 54 w' w.heap.size (fun _ => True) v6 l ∧ Below w.heap.size w w'
theorem PSt.below {w w' w2 : World} {n gn ge busy : Nat} {S : WS} {T : List Task} {at_ last : Int} {L : List Int} {l : List S54} {uv v6 : Value} {E : List Bool} (h : PSt w w' n gn ge S busy T at_ last L l uv v6 E) (hb : Below w'.heap.size w' w2) : PSt w w2 n gn ge S busy T at_ last L l uv v6 E := by
  obtain ⟨h1, h2, h3, h4, h5, h6, h7⟩ := h
  exact ⟨h1.below hb, blk_below h2 hb, blk_below h3 hb, blk_below h4 hb, Kd.V_below h5 hb, Kd.R_below h6 hb, below_step h7 hb⟩
theorem PSt.picked {w w' w2 : World} {n gn ge busy : Nat} {S : WS} {T : List Task} {at_ last at2 last2 : Int} {L : List Int} {l : List S54} {uv v6 v : Value} {E : List Bool} (h : PSt w w' n gn ge S busy T at_ last L l uv v6 E) (e1 : w.heap.size ≤ gn) (e2 : w.heap.size + 1 ≠ gn) (e3 : w.heap.size ≠ gn) (e4 : ge ≠ gn)
    (hv : Kd.V (Kd.int .i64) 3 w2 w'.heap.size (fun k_ => ((k_ ≠ gn ∧ k_ ≠ w.heap.size ∧ k_ ≠ w.heap.size + 1 ∧ k_ ≠ ge) ∧ some k_ ≠ v6.ownBlock) ∨ w'.heap.size ≤ k_) v L) (hb : Below w'.heap.size w' w2) :
    PSt w (((w2.setCell ⟨gn, 0, none⟩ v).setCell ⟨gn, 1, none⟩ (.int .i64 at2)).setCell ⟨gn, 2, none⟩ (.int .i64 last2)) n gn ge S busy T at2 last2 L l v v6 E := by
  have hlt := Kd.R_lt h.2.2.2.2.2.1
  have l1 : gn < w'.heap.size := blk_lt h.2.2.1
  have l2 : ge < w'.heap.size := blk_lt h.2.2.2.1
  have l3 : w.heap.size < w'.heap.size := blk_lt h.2.1
  have l4 : w.heap.size + 1 < w'.heap.size := by obtain ⟨_, _, _, _, hh, _⟩ := h.1; exact blk_lt hh
  obtain ⟨h1, h2, h3, h4, h5, h6, h7⟩ := h.below hb
  refine ⟨((h1.far gn 0 e1 e2 _).far gn 1 e1 e2 _).far gn 2 e1 e2 _, blk_far (p := ⟨gn, 2, none⟩) (blk_far (p := ⟨gn, 1, none⟩) (blk_far (p := ⟨gn, 0, none⟩) h2 e3 _) e3 _) e3 _, blk_put (blk_put (blk_put h3 0 v rfl) 1 (.int .i64 at2) rfl) 2 (.int .i64 last2) rfl,
    blk_far (p := ⟨gn, 2, none⟩) (blk_far (p := ⟨gn, 1, none⟩) (blk_far (p := ⟨gn, 0, none⟩) h4 e4 _) e4 _) e4 _, ?_, ?_, below_set (below_set (below_set h7 e1) e1) e1⟩
  · have hv2 : Kd.V (Kd.int .i64) 3 w2 w.heap.size (fun k_ => (k_ ≠ gn ∧ k_ ≠ w.heap.size ∧ k_ ≠ w.heap.size + 1 ∧ k_ ≠ ge) ∧ some k_ ≠ v6.ownBlock) v L := by
      refine Kd.V_lower (Kd.V_mono hv (fun k hk => ?_)) (below_size h.2.2.2.2.2.2)
      rcases hk with hk | hk
      · exact hk
      · refine ⟨⟨by omega, by omega, by omega, by omega⟩, fun e => ?_⟩
        have := hlt k e.symm
        omega
    exact Kd.V_far (p := ⟨gn, 2, none⟩) (Kd.V_far (p := ⟨gn, 1, none⟩) (Kd.V_far (p := ⟨gn, 0, none⟩) hv2 (fun _ hk => hk.1.1) _) (fun _ hk => hk.1.1) _) (fun _ hk => hk.1.1) _
  · exact Kd.R_mono (Kd.R_far (p := ⟨gn, 2, none⟩) (Kd.R_far (p := ⟨gn, 1, none⟩) (Kd.R_far (p := ⟨gn, 0, none⟩) (Kd.R_types h6 h3 (by decide)) (fun _ hk => hk.2) _) (fun _ hk => hk.2) _) (fun _ hk => hk.2) _) (fun _ _ => trivial)
theorem PSt.stepped {w w' w2 : World} {n gn ge busy busy2 : Nat} {S S2 : WS} {T T2 : List Task} {at_ last : Int} {L : List Int} {l : List S54} {uv v6 : Value} {E : List Bool} (h : PSt w w' n gn ge S busy T at_ last L l uv v6 E) (e2 : w.heap.size + 1 ≠ gn) (e3 : w.heap.size ≠ gn) (e4 : w.heap.size + 1 ≠ ge) (e5 : w.heap.size ≠ ge) (hn : T2.length = n)
    (hs : Stepped w w' w2 (w.heap.size + 1) w.heap.size S2 busy2 T2) : PSt w w2 n gn ge S2 busy2 T2 at_ last L l uv v6 E := by
  subst hn
  obtain ⟨h1, h2, h3, h4, h5, h6, h7⟩ := h
  obtain ⟨s1, s2, s3, s4⟩ := hs
  have hbp : ∃ cs, w'.heap[w.heap.size + 1]? = some (.cells cs 69 (0, 0)) := by obtain ⟨_, _, _, _, hh, _⟩ := h1; exact ⟨_, hh⟩
  obtain ⟨cs, hbp⟩ := hbp
  refine ⟨s1, s2, (s4 gn (blk_lt h3) (Ne.symm e2) (Ne.symm e3)).trans h3, (s4 ge (blk_lt h4) (Ne.symm e4) (Ne.symm e5)).trans h4, Kd.V_step h5 (fun k hk hl => s4 k hl hk.1.2.2.1 hk.1.2.1), ?_, ?_⟩
  · exact Kd.R_mono (Kd.R_step (Kd.R_types (Kd.R_types h6 h2 (by decide)) hbp (by decide)) (fun k hk hl => s4 k hl hk.2 hk.1.2)) (fun _ _ => trivial)
  · obtain ⟨_, _, _, _, _, _, _, _, _, _, hB, _⟩ := s1; exact hB
theorem PSt.flagged {w w' : World} {n gn ge busy : Nat} {S : WS} {T : List Task} {at_ last : Int} {L : List Int} {l : List S54} {uv v6 : Value} {E : List Bool} (h : PSt w w' n gn ge S busy T at_ last L l uv v6 E) (e1 : w.heap.size ≤ ge) (e2 : w.heap.size + 1 ≠ ge) (e3 : w.heap.size ≠ ge) (e4 : gn ≠ ge) (i : Nat) (b : Bool) :
    PSt w (w'.setCell ⟨ge, i, none⟩ (.bool b)) n gn ge S busy T at_ last L l uv v6 (E.set i b) := by
  obtain ⟨h1, h2, h3, h4, h5, h6, h7⟩ := h
  refine ⟨h1.far ge i e1 e2 _, blk_far h2 e3 _, blk_far h3 e4 _, blk_put h4 i _ (by simp), Kd.V_far (p := ⟨ge, i, none⟩) h5 (fun _ hk => hk.1.2.2.2) _, ?_, below_set h7 e1⟩
  exact Kd.R_mono (Kd.R_far (p := ⟨ge, i, none⟩) (Kd.R_types h6 h4 (by decide)) (fun _ hk => hk.2) _) (fun _ _ => trivial)
theorem PSt.pool {w w' : World} {n gn ge busy : Nat} {S : WS} {T : List Task} {at_ last : Int} {L : List Int} {l : List S54} {uv v6 : Value} {E : List Bool} (h : PSt w w' n gn ge S busy T at_ last L l uv v6 E) :
    ∃ RA rc, w'.cell? ⟨w.heap.size + 1, 2, none⟩ = some (.slice RA S.2.2.1.length rc) ∧ w'.cell? ⟨w.heap.size + 1, 3, none⟩ = some (.int .i64 S.2.2.2) ∧ w'.cell? ⟨w.heap.size + 1, 4, none⟩ = some (.int .u64 busy) ∧ w'.cell? ⟨w.heap.size + 1, 5, none⟩ = some (.slice (some ⟨w.heap.size, 0, none⟩) n n) := by
  obtain ⟨⟨WA, wc, RA, rc, hb, _⟩, _⟩ := h
  exact ⟨RA, rc, (blk_cell hb 2).trans rfl, (blk_cell hb 3).trans rfl, (blk_cell hb 4).trans rfl, (blk_cell hb 5).trans rfl⟩
theorem PSt.appended {w w' w2 : World} {n gn ge busy : Nat} {S : WS} {T : List Task} {at_ last : Int} {L : List Int} {l l' : List S54} {uv v6 v1 : Value} {E : List Bool} (h : PSt w w' n gn ge S busy T at_ last L l uv v6 E)
    (hr : Kd.R k54 54 w2 w.heap.size (fun _ => True) v1 l') (hb : Below w.heap.size w w2) (hg : w'.grownBy w2 v6.ownBlock) (hat : v1.ownBlock = v6.ownBlock ∨ ∃ b, v1.ownBlock = some b ∧ w'.heap.size ≤ b) : PSt w w2 n gn ge S busy T at_ last L l' uv v1 E := by
  obtain ⟨h1, h2, h3, h4, h5, h6, h7⟩ := h
  refine ⟨?_, blk_grown h2 hg (Kd.R_ne h6 h2 (by decide)), blk_grown h3 hg (Kd.R_ne h6 h3 (by decide)), blk_grown h4 hg (Kd.R_ne h6 h4 (by decide)), Kd.V_after h5 hg hat, hr, hb⟩
  obtain ⟨WA, wc, RA, rc, hbk, hW, hwc, hR, hrc, hK, hB, hsz⟩ := h1
  exact ⟨WA, wc, RA, rc, blk_grown hbk hg (Kd.R_ne h6 hbk (by decide)), hW, hwc, hR, hrc, KeepBut.refl _ _ _, hb, rfl⟩
end Go.Proofs.YtbkdnenlffiaeaaDoor
