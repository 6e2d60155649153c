/-
The pool's refill: the next wave that has tasks is ready, if none is left. Condition: the waves' rows lie ahead of the pool's block.
The pool's step: a worker takes a task, or its task is done. Condition: the waves' rows lie ahead of the pool's block.
The pool stays what it is where other blocks are made or stored into.
What is made for the pool's play: the tasks' row and the row of those who are enabled.
-/
import Derived.Test.YtbkdnenlffiaeaaDoorPx0
import Derived.Test.YtbkdnenlffiaeaaDoorTab
import Derived.BigRegion
import Derived.Great.Walk
import Derived.Laws.MakeOwn
import Derived.Laws.OwnMore
namespace Go.Proofs.YtbkdnenlffiaeaaDoor
open Go.RowKit Go.Proofs.YtbkdnenlffiaeaaDoorW.PrintWords Go.Proofs.YtbkdnenlffiaeaaDoorW.PrintLast Go.Proofs.YtbkdnenlffiaeaaDoorW.PrintMore Go.Proofs.YtbkdnenlffiaeaaDoor.P
set_option linter.unusedVariables false
set_option linter.unusedSimpArgs false
abbrev kW : Kd (List Int) := Kd.slice 3 (Kd.int .i64)
def poolV (WA : Option Addr) (wn wc : Nat) (wave : Int) (RA : Option Addr) (rn rc : Nat) (left busy : Int) (t : Value) : Array Value := #[.slice WA wn wc, .int .i64 wave, .slice RA rn rc, .int .i64 left, .int .u64 busy, t]
abbrev WS := List (List Int) × Int × List Int × Int
def refillS : List (List Int) → Int → List Int → Int → WS
  | [], wave, R, left => ([], wave, R, left)
  | x :: W, wave, R, left => if left = 0 then refillS W (wrap64 (wave + 1)) x (x.length : Int) else (x :: W, wave, R, left)
def PoolAt (w0 w w' : World) (g : Nat) (S : WS) (busy : Int) (t : Value) : Prop :=
  ∃ WA wc RA rc, w'.heap[g]? = some (.cells (poolV WA S.1.length wc S.2.1 RA S.2.2.1.length rc S.2.2.2 busy t) 69 (0, 0)) ∧ Kd.C kW w0 WA S.1.length S.1 ∧ S.1.length ≤ wc ∧ Kd.C (Kd.int .i64) w0 RA S.2.2.1.length S.2.2.1 ∧ S.2.2.1.length ≤ rc ∧
    KeepBut w w' g none ∧ Below w0.heap.size w0 w' ∧ w'.heap.size = w.heap.size
theorem size_set (w : World) (a : Addr) (v : Value) : (w.setCell a v).heap.size = w.heap.size := by simp [World.setCell]
set_option maxHeartbeats 4000000 in
theorem refill_any (w0 : World) (g : Nat) (W : List (List Int)) (wave left busy : Int) (R : List Int) (t : Value) (w : World) (hg : w0.heap.size ≤ g) (h : PoolAt w0 w w g (W, wave, R, left) busy t) :
    Calls Tryd.prog 29 #[.pointer (some ⟨g, 0, none⟩)] w fun e w' => e = .returned (.tuple #[]) ∧ PoolAt w0 w w' g (refillS W wave R left) busy t := by
  have HG := Aside0.mk hg
  have HP := Aside0.mk h
  have hu69 := Tryd.underlying69
  clear h hg
  go_enter Tryd.func29, Tryd.ntmps29
  go_wp2
  go_loopg [] W.length (fun k w' => ∃ (W1 : List (List Int)) (wave1 left1 : Int) (R1 : List Int), W1.length = k ∧ Aside0 (refillS W1 wave1 R1 left1 = refillS W wave R left) ∧ Aside0 (PoolAt w0 w w' g (W1, wave1, R1, left1) busy t))
  case atStart => exact ⟨W, wave, left, R, rfl, ⟨rfl⟩, HP⟩
  case round =>
    obtain ⟨W1, wave1, left1, R1, rfl, HS, HA⟩ := hrel
    clear HP
    obtain ⟨WA, wc, RA, rc, hb, hW, hwc, hR, hrc, hK, hB, hsz⟩ := HA.out
    clear HA
    simp only [poolV] at hb
    have hc0 : wr.cell? ⟨g, 0, none⟩ = some (.slice WA W1.length wc) := (blk_cell hb 0).trans rfl
    have hc1 : wr.cell? ⟨g, 1, none⟩ = some (.int .i64 wave1) := (blk_cell hb 1).trans rfl
    have hc2 : wr.cell? ⟨g, 2, none⟩ = some (.slice RA R1.length rc) := (blk_cell hb 2).trans rfl
    have hc3 : wr.cell? ⟨g, 3, none⟩ = some (.int .i64 left1) := (blk_cell hb 3).trans rfl
    have hf0 := blk_frozen hb 0
    have hf1 := blk_frozen hb 1
    have hf2 := blk_frozen hb 2
    have hf3 := blk_frozen hb 3
    have HB := Aside0.mk hb
    have HW := Aside0.mk hW
    have HWC := Aside0.mk hwc
    have HR := Aside0.mk hR
    have HRC := Aside0.mk hrc
    have HK := Aside0.mk hK
    have HBW := Aside0.mk hB
    have HSZ := Aside0.mk hsz
    clear hb hW hwc hR hrc hK hB hsz
    by_cases c1 : left1 = 0
    · subst c1
      cases W1 with
      | nil =>
        have HS2 := Aside0.mk (show ([], wave1, R1, 0) = refillS W wave R left from HS.out)
        clear HS
        replace hc0 : wr.cell? ⟨g, 0, none⟩ = some (.slice WA 0 wc) := hc0
        go_wp2
        repeat (go_quiet (fail); try go_wp2)
        go_end0
        exact ⟨rfl, by rw [← HS2.out]; exact ⟨WA, wc, RA, rc, HB.out, HW.out, HWC.out, HR.out, HRC.out, HK.out, HBW.out, HSZ.out⟩⟩
      | cons x W2 =>
        have HS2 := Aside0.mk (show refillS W2 (wrap64 (wave1 + 1)) x (x.length : Int) = refillS W wave R left from HS.out)
        clear HS
        obtain ⟨ad, c, hWA, hcl, hx, hcc⟩ := Kd.C_get HW.out ([] : List Int) 0 (by omega) (by simp)
        subst hWA
        obtain ⟨XA, xc, rfl, hxl, hxC⟩ := hx
        replace hxl : x.length ≤ xc := hxl
        replace hxC : Kd.C (Kd.int .i64) w0 XA x.length x := hxC
        have hx0 : w0.cell? ad = some (.slice XA x.length xc) := (hcc 0 _ rfl)
        have hx1 := (HBW.out.cell (World.block_lt_of_cell? _ _ hx0)).trans hx0
        have hne : ad.block ≠ g := by have := World.block_lt_of_cell? _ _ hx0; have := HG.out; omega
        have HXC := Aside0.mk hxC
        have HXL := Aside0.mk hxl
        have HNE := Aside0.mk hne
        clear hxC hxl hcc hcl hx0 hne
        have t1 : decide ((0 : Int) < (((x :: W2).length : Nat) : Int)) = true := by simp
        generalize hn : (x :: W2).length = n at *
        have p0 : (0 : Int) < (n : Int) := by simpa using t1
        go_wp2
        repeat (go_quiet (fail); try go_wp2)
        go_region
        by_cases hw1 : wc = 1
        · subst hw1
          go_wp2
          go_roundg W2.length
          case measure => rw [← hn]; simp
          case rel =>
            have hC := Kd.C_drop (m := 1) (c := 1) (show Kd.C kW w0 (some ad) (x :: W2).length (x :: W2) by rw [hn]; exact HW.out) (by simp) (by rw [hn]; exact HWC.out)
            rw [if_pos rfl] at hC
            have hl : n - 1 = W2.length := by rw [← hn]; simp
            rw [hl]
            refine ⟨W2, wrap64 (wave1 + 1), x.length, x, rfl, HS2, ⟨_, 0, _, _, ?_, hC, ?_, HXC.out, HXL.out, ?_, ?_, ?_⟩⟩
            · exact blk_drew (blk_put (blk_put (blk_put (blk_put HB.out 2 (.slice XA x.length xc) rfl) 3 (.int .i64 x.length) rfl) 0 (.slice (some ad) W2.length 0) rfl) 1 (.int .i64 (wrap64 (wave1 + 1))) rfl)
            · have := HWC.out; show W2.length ≤ _; omega
            · exact keep_drew ((((HK.out.set_ 2 _).set_ 3 _).set_ 0 _).set_ 1 _)
            · exact below_drew1 (below_set (below_set (below_set (below_set HBW.out HG.out) HG.out) HG.out) HG.out)
            · exact (size_set _ _ _).trans ((size_set _ _ _).trans ((size_set _ _ _).trans ((size_set _ _ _).trans HSZ.out)))
        · go_wp2
          go_roundg W2.length
          case measure => rw [← hn]; simp
          case rel =>
            have hC := Kd.C_drop (m := 1) (c := wc) (show Kd.C kW w0 (some ad) (x :: W2).length (x :: W2) by rw [hn]; exact HW.out) (by simp) (by rw [hn]; exact HWC.out)
            rw [if_neg hw1] at hC
            have hl : n - 1 = W2.length := by rw [← hn]; simp
            rw [hl]
            refine ⟨W2, wrap64 (wave1 + 1), x.length, x, rfl, HS2, ⟨_, wc - 1, _, _, ?_, hC, ?_, HXC.out, HXL.out, ?_, ?_, ?_⟩⟩
            · exact blk_drew (blk_put (blk_put (blk_put (blk_put HB.out 2 (.slice XA x.length xc) rfl) 3 (.int .i64 x.length) rfl) 0 (.slice (some ⟨ad.block, ad.off + 1, none⟩) W2.length (wc - 1)) rfl) 1 (.int .i64 (wrap64 (wave1 + 1))) rfl)
            · have := HWC.out; show W2.length ≤ _; omega
            · exact keep_drew ((((HK.out.set_ 2 _).set_ 3 _).set_ 0 _).set_ 1 _)
            · exact below_drew1 (below_set (below_set (below_set (below_set HBW.out HG.out) HG.out) HG.out) HG.out)
            · exact (size_set _ _ _).trans ((size_set _ _ _).trans ((size_set _ _ _).trans ((size_set _ _ _).trans HSZ.out)))
    · have t1 : (left1 == 0) = false := by simpa using c1
      have HS2 := Aside0.mk (show (W1, wave1, R1, left1) = refillS W wave R left by rw [← HS.out]; cases W1 with | nil => rfl | cons x W2 => rw [refillS, if_neg c1])
      clear HS
      go_wp2
      repeat (go_quiet (fail); try go_wp2)
      go_end0
      exact ⟨rfl, by rw [← HS2.out]; exact ⟨WA, wc, RA, rc, HB.out, HW.out, HWC.out, HR.out, HRC.out, HK.out, HBW.out, HSZ.out⟩⟩
end Go.Proofs.YtbkdnenlffiaeaaDoor

namespace Go.Proofs.YtbkdnenlffiaeaaDoor
open Go.RowKit Go.Proofs.YtbkdnenlffiaeaaDoorW.PrintWords Go.Proofs.YtbkdnenlffiaeaaDoorW.PrintLast Go.Proofs.YtbkdnenlffiaeaaDoorW.PrintMore Go.Proofs.YtbkdnenlffiaeaaDoor.P
set_option linter.unusedVariables false
set_option linter.unusedSimpArgs false
abbrev Task := Int × Int × Int
def tcs (T : List Task) : Array Value := (T.flatMap fun p => [Value.int .i64 p.1, .int .i64 p.2.1, .int .i64 p.2.2]).toArray
theorem flat_get : ∀ (T : List Task) (i j : Nat), i < T.length → j < 3 → (T.flatMap fun p => [Value.int .i64 p.1, .int .i64 p.2.1, .int .i64 p.2.2])[3 * i + j]? = ([Value.int .i64 (T.getD i (0, 0, 0)).1, .int .i64 (T.getD i (0, 0, 0)).2.1, .int .i64 (T.getD i (0, 0, 0)).2.2])[j]?
  | [], i, j, h, _ => by simp at h
  | p :: T, 0, j, h, hj => by
    rw [List.flatMap_cons, List.getElem?_append_left (by simpa using hj)]
    simp
  | p :: T, i + 1, j, h, hj => by
    rw [List.flatMap_cons, List.getElem?_append_right (by simp; omega)]
    have := flat_get T i j (by simpa using h) hj
    simpa [show 3 * (i + 1) + j - 3 = 3 * i + j by omega] using this
theorem flat_set : ∀ (T : List Task) (i : Nat) (a b c : Int), i < T.length → (((T.flatMap fun p => [Value.int .i64 p.1, .int .i64 p.2.1, .int .i64 p.2.2]).set (3 * i) (.int .i64 a)).set (3 * i + 1) (.int .i64 b)).set (3 * i + 2) (.int .i64 c) = ((T.set i (a, b, c)).flatMap fun p => [Value.int .i64 p.1, .int .i64 p.2.1, .int .i64 p.2.2])
  | [], i, _, _, _, h => by simp at h
  | p :: T, 0, a, b, c, h => by simp
  | p :: T, i + 1, a, b, c, h => by
    have ih := flat_set T i a b c (by simpa using h)
    rw [show 3 * (i + 1) = 3 * i + 2 + 1 by omega]
    simp only [List.flatMap_cons, List.cons_append, List.nil_append, List.set_cons_succ, show 3 * i + 2 + 1 + 1 = 3 * i + 1 + 1 + 1 + 1 by omega, show 3 * i + 2 + 1 + 2 = 3 * i + 2 + 1 + 1 + 1 by omega, show 3 * i + 2 + 1 = 3 * i + 1 + 1 + 1 by omega, ih]
theorem tcs_get (T : List Task) (i j : Nat) (h : i < T.length) (hj : j < 3) : (tcs T)[i * 3 + j]? = ([Value.int .i64 (T.getD i (0, 0, 0)).1, .int .i64 (T.getD i (0, 0, 0)).2.1, .int .i64 (T.getD i (0, 0, 0)).2.2])[j]? := by
  unfold tcs
  rw [List.getElem?_toArray, Nat.mul_comm i 3]
  exact flat_get T i j h hj
theorem tcs_set (T : List Task) (i : Nat) (a b c : Int) (h : i < T.length) : (((tcs T).setIfInBounds (i * 3) (.int .i64 a)).setIfInBounds (i * 3 + 1) (.int .i64 b)).setIfInBounds (i * 3 + 2) (.int .i64 c) = tcs (T.set i (a, b, c)) := by
  unfold tcs
  rw [List.setIfInBounds_toArray, List.setIfInBounds_toArray, List.setIfInBounds_toArray, Nat.mul_comm i 3, flat_set T i a b c h]
def Keep2 (w w' : World) (g gt : Nat) : Prop := w'.heap.size = w.heap.size ∧ ∀ k, k < w.heap.size → k ≠ g → k ≠ gt → w'.heap[k]? = w.heap[k]?
/-- what a step leaves: the pool, its tasks -/
def Stepped (w0 w w' : World) (g gt : Nat) (S : WS) (busy : Nat) (T : List Task) : Prop :=
  PoolAt w0 w' w' g S busy (.slice (some ⟨gt, 0, none⟩) T.length T.length) ∧ w'.heap[gt]? = some (.cells (tcs T) 71 (0, 0)) ∧ Keep2 w w' g gt
theorem bit_test (busy i : Nat) (hb : busy < 2 ^ 64) : Go.bits .and .u64 ((busy : Int) / 2 ^ i) 1 = if busy.testBit i = true then 1 else 0 := by
  have e : ((busy : Int) / 2 ^ i) = ((busy / 2 ^ i : Nat) : Int) := by simp
  have h1 : busy / 2 ^ i ≤ busy := Nat.div_le_self _ _
  have e2 := bits_and_u64_nat (busy / 2 ^ i) 1 (by omega) (by omega)
  rw [e]
  refine e2.trans ?_
  rw [Nat.and_one_is_mod, Nat.testBit_eq_decide_div_mod_eq]
  have := Nat.mod_lt (busy / 2 ^ i) (show 2 > 0 by omega)
  by_cases c : busy / 2 ^ i % 2 = 1
  · rw [c]; simp
  · rw [show busy / 2 ^ i % 2 = 0 by omega]; simp
theorem or_bit (busy i : Nat) (hb : busy < 2 ^ 64) (hi : i < 64) : Go.bits .or .u64 (busy : Int) (IntKind.u64.wrap (2 ^ i)) = ((busy ||| 2 ^ i : Nat) : Int) := by
  have hp : 2 ^ i < 18446744073709551616 := Nat.pow_lt_pow_right (m := i) (n := 64) (by decide) hi
  have e : ((2 : Int) ^ i) = ((2 ^ i : Nat) : Int) := by simp
  have e2 : IntKind.u64.wrap (2 ^ i) = ((2 ^ i : Nat) : Int) := by rw [e, IntKind.wrap_u64]; exact Int.emod_eq_of_lt (Int.natCast_nonneg _) (Int.ofNat_lt.2 hp)
  rw [e2]
  exact bits_or_u64_nat busy (2 ^ i) (by omega) hp
theorem drew_heap (w : World) : w.drew.heap = w.heap := rfl
theorem take_end {w0 w : World} {g gt : Nat} {v0 v1 v2 v3 v4 v5 : Value} {T : List Task} {i : Nat} {r wave now : Int} (hg : w0.heap.size ≤ g) (hgt : w0.heap.size ≤ gt) (hne : gt ≠ g) (hi : i < T.length) (hb : w.heap[g]? = some (.cells #[v0, v1, v2, v3, v4, v5] 69 (0, 0))) (ht : w.heap[gt]? = some (.cells (tcs T) 71 (0, 0))) (hB : Below w0.heap.size w0 w) (s b : Value) (W5 : World)
    (e : W5 = (((((w.setCell ⟨gt, i * 3, none⟩ (.int .i64 r)).setCell ⟨gt, i * 3 + 1, none⟩ (.int .i64 wave)).setCell ⟨gt, i * 3 + 2, none⟩ (.int .i64 now)).setCell ⟨g, 2, none⟩ s).setCell ⟨g, 4, none⟩ b).drew.drew) :
    W5.heap[g]? = some (.cells #[v0, v1, s, v3, b, v5] 69 (0, 0)) ∧ W5.heap[gt]? = some (.cells (tcs (T.set i (r, wave, now))) 71 (0, 0)) ∧ Below w0.heap.size w0 W5 ∧ Keep2 w W5 g gt := by
  subst e
  refine ⟨blk_drew (blk_drew (blk_put (blk_put (blk_far (blk_far (blk_far hb (Ne.symm hne) _) (Ne.symm hne) _) (Ne.symm hne) _) 2 s rfl) 4 b rfl)), ?_, below_drew1 (below_drew1 (below_set (below_set (below_set (below_set (below_set hB hgt) hgt) hgt) hg) hg)), ?_, ?_⟩
  · rw [← tcs_set T i r wave now hi]
    exact blk_drew (blk_drew (blk_far (blk_far (blk_set (blk_set (blk_set ht _ _) _ _) _ _) hne _) hne _))
  · simp only [drew_heap, size_set]
  · intro k hk h1 h2
    rw [drew_heap, drew_heap]
    exact (Below.heap_setCell _ _ _ k h1).trans ((Below.heap_setCell _ _ _ k h1).trans ((Below.heap_setCell _ _ _ k h2).trans ((Below.heap_setCell _ _ _ k h2).trans (Below.heap_setCell _ _ _ k h2))))
set_option maxHeartbeats 4000000 in
theorem step_take (w0 : World) (g gt : Nat) (W : List (List Int)) (wave left : Int) (busy i : Nat) (now : Int) (r : Int) (R : List Int) (T : List Task) (w : World) (hg : w0.heap.size ≤ g) (hgt : w0.heap.size ≤ gt) (hne : gt ≠ g) (hi : i < 64) (hi2 : i < T.length) (hb : busy < 2 ^ 64) (hbit : busy.testBit i = false)
    (ht : w.heap[gt]? = some (.cells (tcs T) 71 (0, 0))) (h : PoolAt w0 w w g (W, wave, r :: R, left) busy (.slice (some ⟨gt, 0, none⟩) T.length T.length)) :
    Calls Tryd.prog 30 #[.pointer (some ⟨g, 0, none⟩), .int .i64 i, .int .i64 now] w fun e w' => e = .returned (.bool false) ∧ Stepped w0 w w' g gt (W, wave, R, left) (busy ||| 2 ^ i) (T.set i (r, wave, now)) := by
  have HG := Aside0.mk hg
  have HGT := Aside0.mk hgt
  have HNE := Aside0.mk hne
  have HI := Aside0.mk hi2
  have HT := Aside0.mk ht
  have hu69 := Tryd.underlying69
  have hu71 := Tryd.underlying71
  have OR := Aside0.mk (or_bit busy i hb hi)
  have t0 : (Go.bits .and .u64 ((busy : Int) / 2 ^ i) 1 == 0) = true := by rw [bit_test busy i hb, hbit]; rfl
  obtain ⟨WA, wc, RA, rc, hb, hW, hwc, hR, hrc, hK, hB, hsz⟩ := h
  simp only [poolV] at hb
  obtain ⟨ad, hRA, hx⟩ := Kd.at_int hR 0 (by omega) (by simp)
  subst hRA
  replace hx : w0.cell? ad = some (.int .i64 r) := hx
  have hx1 := (hB.cell (World.block_lt_of_cell? _ _ hx)).trans hx
  have hn1 : ad.block ≠ g := by have := World.block_lt_of_cell? _ _ hx; omega
  have hn2 : ad.block ≠ gt := by have := World.block_lt_of_cell? _ _ hx; omega
  have HRL := Aside0.mk (show (r :: R).length = R.length + 1 from rfl)
  have HB := Aside0.mk hb
  have HW := Aside0.mk hW
  have HWC := Aside0.mk hwc
  have HR := Aside0.mk hR
  have HRC := Aside0.mk hrc
  have HBW := Aside0.mk hB
  have hc1 : w.cell? ⟨g, 1, none⟩ = some (.int .i64 wave) := (blk_cell hb 1).trans rfl
  have hc2 : w.cell? ⟨g, 2, none⟩ = some (.slice (some ad) (R.length + 1) rc) := (blk_cell hb 2).trans rfl
  have hc4 : w.cell? ⟨g, 4, none⟩ = some (.int .u64 busy) := (blk_cell hb 4).trans rfl
  have hc5 : w.cell? ⟨g, 5, none⟩ = some (.slice (some ⟨gt, 0, none⟩) T.length T.length) := (blk_cell hb 5).trans rfl
  have hf2 := blk_frozen hb 2
  have hf4 := blk_frozen hb 4
  have hct0 : w.cell? ⟨gt, i * 3, none⟩ = some (.int .i64 (T.getD i (0, 0, 0)).1) := (blk_cell ht (i * 3)).trans (tcs_get T i 0 hi2 (by omega))
  have hct1 : w.cell? ⟨gt, i * 3 + 1, none⟩ = some (.int .i64 (T.getD i (0, 0, 0)).2.1) := (blk_cell ht (i * 3 + 1)).trans (tcs_get T i 1 hi2 (by omega))
  have hct2 : w.cell? ⟨gt, i * 3 + 2, none⟩ = some (.int .i64 (T.getD i (0, 0, 0)).2.2) := (blk_cell ht (i * 3 + 2)).trans (tcs_get T i 2 hi2 (by omega))
  have hft0 := blk_frozen ht (i * 3)
  have hft1 := blk_frozen ht (i * 3 + 1)
  have hft2 := blk_frozen ht (i * 3 + 2)
  have p0 : (0 : Int) ≤ (i : Int) := by omega
  have p1 : (i : Int) < (T.length : Int) := by omega
  have p2 : (0 : Int) < ((R.length + 1 : Nat) : Int) := by omega
  clear hb hW hwc hR hrc hK hB hsz hx ht
  go_enter Tryd.func30, Tryd.ntmps30
  go_wp2
  repeat (go_quiet (fail); try go_wp2)
  go_region
  by_cases hr1 : rc = 1
  · subst hr1
    go_wp2
    try go_region
    try go_wp2
    go_ret
    have hC := Kd.C_drop (m := 1) (c := 1) (show Kd.C (Kd.int .i64) w0 (some ad) (r :: R).length (r :: R) from HR.out) (by simp) HRC.out
    rw [if_pos rfl] at hC
    obtain ⟨E1, E2, E3, E4⟩ := take_end (r := r) (wave := wave) (now := now) HG.out HGT.out HNE.out HI.out HB.out HT.out HBW.out (.slice (some ad) R.length 0) (.int .u64 ((busy ||| 2 ^ i : Nat) : Int)) _ rfl
    rw [OR.out]
    refine ⟨rfl, ⟨WA, wc, _, 0, ?_, HW.out, HWC.out, hC, ?_, KeepBut.refl _ _ _, ?_, rfl⟩, ?_, ?_⟩
    · have := E1
      simp only [List.length_set]
      exact this
    · have := HRC.out; have := HRL.out; show R.length ≤ _; omega
    · exact E3
    · exact E2
    · exact E4
  · go_wp2
    try go_region
    try go_wp2
    go_ret
    have hC := Kd.C_drop (m := 1) (c := rc) (show Kd.C (Kd.int .i64) w0 (some ad) (r :: R).length (r :: R) from HR.out) (by simp) HRC.out
    rw [if_neg hr1] at hC
    obtain ⟨E1, E2, E3, E4⟩ := take_end (r := r) (wave := wave) (now := now) HG.out HGT.out HNE.out HI.out HB.out HT.out HBW.out (.slice (some ⟨ad.block, ad.off + 1, none⟩) R.length (rc - 1)) (.int .u64 ((busy ||| 2 ^ i : Nat) : Int)) _ rfl
    rw [OR.out]
    refine ⟨rfl, ⟨WA, wc, _, rc - 1, ?_, HW.out, HWC.out, hC, ?_, KeepBut.refl _ _ _, ?_, rfl⟩, ?_, ?_⟩
    · have := E1
      simp only [List.length_set]
      exact this
    · have := HRC.out; have := HRL.out; show R.length ≤ _; omega
    · exact E3
    · exact E2
    · exact E4
theorem off_bit (busy i : Nat) (hb : busy < 2 ^ 64) (hi : i < 64) (hbit : busy.testBit i = true) : Go.bits .andNot .u64 (busy : Int) (IntKind.u64.wrap (2 ^ i)) = ((busy ^^^ 2 ^ i : Nat) : Int) := by
  have hp : 2 ^ i < 2 ^ 64 := Nat.pow_lt_pow_right (m := i) (n := 64) (by decide) hi
  have e : ((2 : Int) ^ i) = ((2 ^ i : Nat) : Int) := by simp
  have e2 : IntKind.u64.wrap (2 ^ i) = ((2 ^ i : Nat) : Int) := by rw [e, IntKind.wrap_u64]; exact Int.emod_eq_of_lt (Int.natCast_nonneg _) (Int.ofNat_lt.2 hp)
  rw [e2]
  have h1 : (BitVec.ofInt 64 (busy : Int)).toNat = busy := by rw [BitVec.ofInt_natCast, BitVec.toNat_ofNat]; exact Nat.mod_eq_of_lt hb
  have h2 : (BitVec.ofInt 64 ((2 ^ i : Nat) : Int)).toNat = 2 ^ i := by rw [BitVec.ofInt_natCast, BitVec.toNat_ofNat]; exact Nat.mod_eq_of_lt hp
  have h3 : (BitVec.ofInt 64 (busy : Int) &&& ~~~ BitVec.ofInt 64 ((2 ^ i : Nat) : Int)).toNat = busy ^^^ 2 ^ i := by
    apply Nat.eq_of_testBit_eq
    intro j
    by_cases hj : j < 64
    · rw [BitVec.toNat_and, Nat.testBit_and, h1, BitVec.testBit_toNat, BitVec.getLsbD_not, Nat.testBit_xor, Nat.testBit_two_pow, ← BitVec.testBit_toNat, h2, Nat.testBit_two_pow]
      by_cases c : i = j
      · subst c; simp [hbit]
      · simp [c, hj]
    · have a1 : (BitVec.ofInt 64 (busy : Int) &&& ~~~ BitVec.ofInt 64 ((2 ^ i : Nat) : Int)).toNat < 2 ^ j := Nat.lt_of_lt_of_le (BitVec.isLt _) (Nat.pow_le_pow_right (by decide) (by omega))
      have a2 : busy ^^^ 2 ^ i < 2 ^ j := Nat.lt_of_lt_of_le (Nat.xor_lt_two_pow hb hp) (Nat.pow_le_pow_right (by decide) (by omega))
      rw [Nat.testBit_lt_two_pow a1, Nat.testBit_lt_two_pow a2]
  show IntKind.u64.wrap ((BitVec.ofInt 64 (busy : Int) &&& ~~~ BitVec.ofInt 64 ((2 ^ i : Nat) : Int)).toNat : Int) = _
  rw [h3, IntKind.wrap_u64]
  exact Int.emod_eq_of_lt (Int.natCast_nonneg _) (Int.ofNat_lt.2 (Nat.xor_lt_two_pow hb hp))
theorem done_end {w0 w w9 : World} {g gt : Nat} {S : WS} {busy : Nat} {T : List Task} {u v : Value} (hne : gt ≠ g) (ht : w.heap[gt]? = some (.cells (tcs T) 71 (0, 0)))
    (hp : PoolAt w0 ((w.setCell ⟨g, 4, none⟩ u).setCell ⟨g, 3, none⟩ v).drew w9 g S busy (.slice (some ⟨gt, 0, none⟩) T.length T.length)) : Stepped w0 w w9 g gt S busy T := by
  obtain ⟨WA, wc, RA, rc, hb, hW, hwc, hR, hrc, hK, hB, hsz⟩ := hp
  have hs2 : ((w.setCell ⟨g, 4, none⟩ u).setCell ⟨g, 3, none⟩ v).drew.heap.size = w.heap.size := by simp only [drew_heap, size_set]
  refine ⟨⟨WA, wc, RA, rc, hb, hW, hwc, hR, hrc, KeepBut.refl _ _ _, hB, rfl⟩, ?_, hsz.trans hs2, ?_⟩
  · have h1 : ((w.setCell ⟨g, 4, none⟩ u).setCell ⟨g, 3, none⟩ v).drew.heap[gt]? = some (.cells (tcs T) 71 (0, 0)) := blk_drew (blk_far (blk_far ht hne _) hne _)
    exact hK.blk h1 hne (by simp)
  · intro k hk h1 h2
    refine (hK.2 k (by rw [hs2]; exact hk) h1 (by simp)).trans ?_
    rw [drew_heap]
    exact (Below.heap_setCell _ _ _ k h1).trans (Below.heap_setCell _ _ _ k h1)
set_option maxHeartbeats 4000000 in
theorem step_done (w0 : World) (g gt : Nat) (W : List (List Int)) (wave left : Int) (busy i : Nat) (now : Int) (R : List Int) (T : List Task) (w : World) (hg : w0.heap.size ≤ g) (hgt : w0.heap.size ≤ gt) (hne : gt ≠ g) (hi : i < 64) (hb : busy < 2 ^ 64) (hbit : busy.testBit i = true)
    (ht : w.heap[gt]? = some (.cells (tcs T) 71 (0, 0))) (h : PoolAt w0 w w g (W, wave, R, left) busy (.slice (some ⟨gt, 0, none⟩) T.length T.length)) :
    Calls Tryd.prog 30 #[.pointer (some ⟨g, 0, none⟩), .int .i64 i, .int .i64 now] w fun e w' => e = .returned (.bool true) ∧ Stepped w0 w w' g gt (refillS W wave R (wrap64 (left - 1))) (busy ^^^ 2 ^ i) T := by
  have HG := Aside0.mk hg
  have HNE := Aside0.mk hne
  have HT := Aside0.mk ht
  have hu69 := Tryd.underlying69
  have OB := Aside0.mk (off_bit busy i hb hi hbit)
  have t0 : (Go.bits .and .u64 ((busy : Int) / 2 ^ i) 1 == 0) = false := by rw [bit_test busy i hb, hbit]; rfl
  obtain ⟨WA, wc, RA, rc, hb, hW, hwc, hR, hrc, hK, hB, hsz⟩ := h
  simp only [poolV] at hb
  have HB := Aside0.mk hb
  have HW := Aside0.mk hW
  have HWC := Aside0.mk hwc
  have HR := Aside0.mk hR
  have HRC := Aside0.mk hrc
  have HBW := Aside0.mk hB
  have hc3 : w.cell? ⟨g, 3, none⟩ = some (.int .i64 left) := (blk_cell hb 3).trans rfl
  have hc4 : w.cell? ⟨g, 4, none⟩ = some (.int .u64 busy) := (blk_cell hb 4).trans rfl
  have hf3 := blk_frozen hb 3
  have hf4 := blk_frozen hb 4
  clear hb hW hwc hR hrc hK hB hsz ht
  go_enter Tryd.func30, Tryd.ntmps30
  go_wp2
  repeat (go_quiet (fail); try go_wp2)
  go_region
  go_wp2_with (first | (go_at_call 29; refine (refill_any w0 g W wave (wrap64 (left - 1)) (Go.bits .andNot .u64 (busy : Int) (IntKind.u64.wrap (2 ^ i))) R (.slice (some ⟨gt, 0, none⟩) T.length T.length) _ HG.out ?pre).mono ?_; (case pre => exact ⟨WA, wc, RA, rc, blk_drew (blk_put (blk_put HB.out 4 _ rfl) 3 _ rfl), HW.out, HWC.out, HR.out, HRC.out, KeepBut.refl _ _ _, below_drew1 (below_set (below_set HBW.out HG.out) HG.out), rfl⟩); rintro e w9 ⟨rfl, hp⟩; rw [OB.out] at hp; have HS := Aside0.mk (done_end HNE.out HT.out hp); clear hp))
  go_ret
  exact ⟨rfl, HS.out⟩
end Go.Proofs.YtbkdnenlffiaeaaDoor

namespace Go.Proofs.YtbkdnenlffiaeaaDoor
open Go.RowKit Go.Proofs.YtbkdnenlffiaeaaDoorW.PrintWords Go.Proofs.YtbkdnenlffiaeaaDoorW.PrintLast Go.Proofs.YtbkdnenlffiaeaaDoorW.PrintMore Go.Proofs.YtbkdnenlffiaeaaDoor.P
set_option linter.unusedVariables false
theorem PoolAt.stand {w0 w w' : World} {g : Nat} {S : WS} {b : Int} {t : Value} (h : PoolAt w0 w w' g S b t) : PoolAt w0 w' w' g S b t := by
  obtain ⟨WA, wc, RA, rc, hb, hW, hwc, hR, hrc, hK, hB, hsz⟩ := h
  exact ⟨WA, wc, RA, rc, hb, hW, hwc, hR, hrc, KeepBut.refl _ _ _, hB, rfl⟩
theorem PoolAt.below {w0 w w2 : World} {g : Nat} {S : WS} {b : Int} {t : Value} (h : PoolAt w0 w w g S b t) (hb2 : Below w.heap.size w w2) : PoolAt w0 w2 w2 g S b t := by
  obtain ⟨WA, wc, RA, rc, hb, hW, hwc, hR, hrc, hK, hB, hsz⟩ := h
  exact ⟨WA, wc, RA, rc, blk_below hb hb2, hW, hwc, hR, hrc, KeepBut.refl _ _ _, below_step hB hb2, rfl⟩
theorem PoolAt.far {w0 w : World} {g : Nat} {S : WS} {b : Int} {t : Value} (h : PoolAt w0 w w g S b t) (p j : Nat) (hp : w0.heap.size ≤ p) (hne : g ≠ p) (v : Value) : PoolAt w0 (w.setCell ⟨p, j, none⟩ v) (w.setCell ⟨p, j, none⟩ v) g S b t := by
  obtain ⟨WA, wc, RA, rc, hb, hW, hwc, hR, hrc, hK, hB, hsz⟩ := h
  exact ⟨WA, wc, RA, rc, blk_far hb hne v, hW, hwc, hR, hrc, KeepBut.refl _ _ _, below_set hB hp, rfl⟩
theorem PoolAt.drew {w0 w : World} {g : Nat} {S : WS} {b : Int} {t : Value} (h : PoolAt w0 w w g S b t) (q : Nat) : PoolAt w0 (w.drewN q) (w.drewN q) g S b t := by
  obtain ⟨WA, wc, RA, rc, hb, hW, hwc, hR, hrc, hK, hB, hsz⟩ := h
  exact ⟨WA, wc, RA, rc, blk_drewN hb q, hW, hwc, hR, hrc, KeepBut.refl _ _ _, pw_below_drewN hB q, rfl⟩
end Go.Proofs.YtbkdnenlffiaeaaDoor

namespace Go.Proofs.YtbkdnenlffiaeaaDoor
open Go.RowKit Go.Proofs.YtbkdnenlffiaeaaDoorW.PrintWords Go.Proofs.YtbkdnenlffiaeaaDoorW.PrintLast Go.Proofs.YtbkdnenlffiaeaaDoorW.PrintMore Go.Proofs.YtbkdnenlffiaeaaDoor.P
set_option linter.unusedVariables false
theorem info71 : (Tryd.prog.info? 71).map (fun i => (i.zero, i.size, i.bytes)) = some (some (.agg #[.int .i64 0, .int .i64 0, .int .i64 0]), 3, 24) := by kernel_rfl
theorem made3 (n : Nat) : madeCells (Value.agg #[.int .i64 0, .int .i64 0, .int .i64 0]).cells (n * 3) = tcs (List.replicate n (0, 0, 0)) := by
  apply Array.ext'
  have h1 : (madeCells (Value.agg #[.int .i64 0, .int .i64 0, .int .i64 0]).cells (n * 3)).toList = List.replicate (n * 3) (Value.int .i64 0) := by
    rw [List.eq_replicate_iff]
    refine ⟨by simp [madeCells], fun b hb => ?_⟩
    rw [show (Value.agg #[.int .i64 0, .int .i64 0, .int .i64 0]).cells = #[.int .i64 0, .int .i64 0, .int .i64 0] from by kernel_rfl] at hb
    simp only [madeCells, Array.toList_map, List.mem_map] at hb
    obtain ⟨i, _, rfl⟩ := hb
    show (#[Value.int .i64 0, .int .i64 0, .int .i64 0] : Array Value)[i % 3]! = _
    have h3 := Nat.mod_lt i (show 3 > 0 by omega)
    generalize i % 3 = j at *
    match j, h3 with
    | 0, _ => rfl
    | 1, _ => rfl
    | 2, _ => rfl
  have h2 : (tcs (List.replicate n (0, 0, 0))).toList = List.replicate (n * 3) (Value.int .i64 0) := by
    clear h1
    unfold tcs
    induction n with
    | zero => rfl
    | succ n ih =>
      rw [List.replicate_succ, List.flatMap_cons, show (n + 1) * 3 = n * 3 + 1 + 1 + 1 by omega, List.replicate_succ, List.replicate_succ, List.replicate_succ]
      simpa using ih
  rw [h1, h2]
theorem made1 (n : Nat) : madeCells (Value.bool false).cells (n * 1) = (List.replicate n (Value.bool false)).toArray := by
  apply Array.ext'
  rw [Nat.mul_one]
  exact toList_madeCells_one _ n
theorem make_tasks (W : World) (n : Nat) (hn : n ≤ 64) : (Instr.makeSlice 66 (.int .i64 (n : Int)) (.int .i64 (n : Int))).run Tryd.prog W = .ok (.slice (some ⟨W.heap.size, 0, none⟩) n n) (W.alloc (.cells (tcs (List.replicate n (0, 0, 0))) 71 (0, 0))) := by
  obtain ⟨i, hi, h⟩ := Option.map_eq_some_iff.1 info71
  simp only [Prod.mk.injEq] at h
  obtain ⟨h1, h2, h3⟩ := h
  have := run_makeSlice (P := Tryd.prog) W 66 71 i _ Tryd.underlying66 hi h1 .i64 .i64 (n : Int) (n : Int) (by omega) (by omega) (by rw [h2, Int.toNat_natCast]; omega) (by rw [h3]; omega) (by omega)
  rw [h2, Int.toNat_natCast, made3] at this
  exact this
theorem make_bools (W : World) (n : Nat) (hn : n ≤ 64) : (Instr.makeSlice 25 (.int .i64 (n : Int)) (.int .i64 (n : Int))).run Tryd.prog W = .ok (.slice (some ⟨W.heap.size, 0, none⟩) n n) (W.alloc (.cells (List.replicate n (Value.bool false)).toArray 4 (0, 0))) := by
  obtain ⟨i, hi, h⟩ := Option.map_eq_some_iff.1 info4
  simp only [Prod.mk.injEq] at h
  obtain ⟨h1, h2, h3⟩ := h
  have := run_makeSlice (P := Tryd.prog) W 25 4 i _ Tryd.underlying25 hi h1 .i64 .i64 (n : Int) (n : Int) (by omega) (by omega) (by rw [h2, Int.toNat_natCast]; omega) (by rw [h3]; omega) (by omega)
  rw [h2, Int.toNat_natCast, made1] at this
  exact this
end Go.Proofs.YtbkdnenlffiaeaaDoor
