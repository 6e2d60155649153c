/-
A row of workers as cells: what is read and what a store leaves. Condition: each worker has fourteen cells.
What a worker of the play does in a step, and what its event is. Condition: the worker's cells are there, the cells and the task may be.
What the play comes to: a plain function that follows its loop; none where a bound of ours is passed.
What a worker of the play does in a step with which an operation begins. Condition: the worker's cells are there, the operation may begin, the cells may be.
What the play keeps in its rounds, under each step of it. Condition: the blocks are apart.
-/
import Derived.Test.YtmaiicpaalbcfaaDoorCufT
import Derived.Test.YtmaiicpaalbcfaaDoorPx15
import Derived.Test.YtmaiicpaalbcfaaDoorStubC
import Derived.Test.YtmaiicpaalbcfaaDoorPickB
import Derived.Test.YtmaiicpaalbcfaaDoorCufE
namespace Go.Proofs.YtmaiicpaalbcfaaDoor
open Go.RowKit Go.Proofs.YtmaiicpaalbcfaaDoorW.PrintWords Go.Proofs.YtmaiicpaalbcfaaDoorW.PrintLast Go.Proofs.YtmaiicpaalbcfaaDoorW.PrintMore Go.Proofs.YtmaiicpaalbcfaaDoor.P
set_option linter.unusedVariables false
/-- rows of cells, one behind the other -/
def rowsV (R : List (List Value)) : Array Value := R.flatten.toArray
theorem flat_get (d : Nat) : ∀ (R : List (List Value)), (∀ r ∈ R, r.length = d) → ∀ i j, i < R.length → j < d → R.flatten[i * d + j]? = (R.getD i [])[j]?
  | [], _, i, j, hi, _ => absurd hi (by simp)
  | r :: R, h, 0, j, _, hj => by
    rw [List.flatten_cons, Nat.zero_mul, Nat.zero_add, List.getElem?_append_left (by rw [h r (List.mem_cons_self ..)]; exact hj)]
    rfl
  | r :: R, h, i + 1, j, hi, hj => by
    have hr := h r (List.mem_cons_self ..)
    have e : (i + 1) * d + j = r.length + (i * d + j) := by rw [hr, Nat.succ_mul]; omega
    rw [List.flatten_cons, e, List.getElem?_append_right (by omega), Nat.add_sub_cancel_left]
    exact flat_get d R (fun x hx => h x (List.mem_cons_of_mem _ hx)) i j (by simpa using hi) hj
theorem flat_set (d : Nat) (v : Value) : ∀ (R : List (List Value)), (∀ r ∈ R, r.length = d) → ∀ i j, i < R.length → j < d → R.flatten.set (i * d + j) v = (R.set i ((R.getD i []).set j v)).flatten
  | [], _, i, j, hi, _ => absurd hi (by simp)
  | r :: R, h, 0, j, _, hj => by
    have hr := h r (List.mem_cons_self ..)
    rw [List.flatten_cons, Nat.zero_mul, Nat.zero_add, List.set_append_left _ _ (by omega)]
    rfl
  | r :: R, h, i + 1, j, hi, hj => by
    have hr := h r (List.mem_cons_self ..)
    have e : (i + 1) * d + j = r.length + (i * d + j) := by rw [hr, Nat.succ_mul]; omega
    rw [List.flatten_cons, e, List.set_append_right _ _ (by omega), Nat.add_sub_cancel_left, flat_set d v R (fun x hx => h x (List.mem_cons_of_mem _ hx)) i j (by simpa using hi) hj]
    rfl
theorem rowsV_get (R : List (List Value)) (h : ∀ r ∈ R, r.length = 14) (i j : Nat) (hi : i < R.length) (hj : j < 14) : (rowsV R)[i * 14 + j]? = (R.getD i [])[j]? := by
  rw [rowsV, List.getElem?_toArray]
  exact flat_get 14 R h i j hi hj
theorem rowsV_set (R : List (List Value)) (h : ∀ r ∈ R, r.length = 14) (i j : Nat) (v : Value) (hi : i < R.length) (hj : j < 14) : (rowsV R).setIfInBounds (i * 14 + j) v = rowsV (R.set i ((R.getD i []).set j v)) := by
  rw [rowsV, List.setIfInBounds_toArray, flat_set 14 v R h i j hi hj]
  rfl
/-- a worker's cells -/
def wrow (A : Option Addr) (n c : Nat) (t : T) (busy : Bool) (b pl : Int) : List Value := [.slice A n c, .int .i64 t.k, .int .i64 t.x, .int .i64 t.y, .int .i64 t.s, .int .i64 t.u, .int .i64 t.v, .int .i64 t.w, .int .i64 t.r, .bool t.is, .int .i64 t.res, .bool busy, .int .i64 b, .int .i64 pl]
end Go.Proofs.YtmaiicpaalbcfaaDoor

namespace Go.Proofs.YtmaiicpaalbcfaaDoor
open Go.RowKit Go.Proofs.YtmaiicpaalbcfaaDoorW.PrintWords Go.Proofs.YtmaiicpaalbcfaaDoorW.PrintLast Go.Proofs.YtmaiicpaalbcfaaDoorW.PrintMore Go.Proofs.YtmaiicpaalbcfaaDoor.P
set_option linter.unusedVariables false
set_option linter.unusedSimpArgs false
/-- one step, as a call -/
theorem step_call (up p : List Int) (t : T) (h : Steps up p t) (UA : Option Addr) (uc : Nat) (PA : Option Addr) (pc : Nat) (w : World) (hup : Kd.C (Kd.int .i64) w UA up.length up) (huc : up.length ≤ uc) (hp : Kd.C (Kd.int .i64) w PA p.length p) (hpc : p.length ≤ pc) :
    Calls Tryd.prog 38 #[.slice UA up.length uc, .slice PA p.length pc, tv t] w fun e w' => ∃ (A : Option Addr) (c : Nat), e = .returned (.tuple #[.slice A (stepL up p t).1.length c, tv (stepL up p t).2]) ∧ Kd.R (Kd.int .i64) 3 w' w.heap.size (fun _ => True) (.slice A (stepL up p t).1.length c) (stepL up p t).1 ∧ Below w.heap.size w w' := by
  obtain ⟨k, x, y, s, u, v, ww, r, is, res⟩ := t
  refine (cuf_Step.calls UA uc up PA pc p k x y s u v ww r is res (stepL up p ⟨k, x, y, s, u, v, ww, r, is, res⟩).1 (stepL up p ⟨k, x, y, s, u, v, ww, r, is, res⟩).2.k (stepL up p ⟨k, x, y, s, u, v, ww, r, is, res⟩).2.x (stepL up p ⟨k, x, y, s, u, v, ww, r, is, res⟩).2.y (stepL up p ⟨k, x, y, s, u, v, ww, r, is, res⟩).2.s (stepL up p ⟨k, x, y, s, u, v, ww, r, is, res⟩).2.u (stepL up p ⟨k, x, y, s, u, v, ww, r, is, res⟩).2.v (stepL up p ⟨k, x, y, s, u, v, ww, r, is, res⟩).2.w (stepL up p ⟨k, x, y, s, u, v, ww, r, is, res⟩).2.r (stepL up p ⟨k, x, y, s, u, v, ww, r, is, res⟩).2.is (stepL up p ⟨k, x, y, s, u, v, ww, r, is, res⟩).2.res w hup huc hp hpc ?_).mono ?_
  · unfold cuf_Step.f
    rw [if_pos h]
    rfl
  · rintro e w' ⟨v0, rfl, ho, hb⟩
    obtain ⟨A, c, rfl⟩ := Kd.R_slice ho
    exact ⟨A, c, rfl, ho, hb⟩
/-- where a worker's place stands behind a step -/
def placeW (t t' : T) (now pl : Int) : Int := if t'.is = true then now else if t.s < 7 then (if 7 ≤ t'.s then now else pl) else pl
/-- a worker's row: what is read, what may be stored -/
theorem raw_row {w : World} {base gw m wc : Nat} {R : List (List Value)} (h : (Kd.raw 14).R 65 w base (fun _ => True) (.slice (some ⟨gw, 0, none⟩) m wc) R) (i : Nat) (hi : i < m) : (R.getD i []).length = 14 ∧ (∀ q ∈ R.getD i [], q.oneCell' = true) ∧ (∀ j u, (R.getD i [])[j]? = some u → w.cell? ⟨gw, i * 14 + j, none⟩ = some u) ∧ ∀ j, w.frozen? ⟨gw, i * 14 + j, none⟩ = false := by
  obtain ⟨c, hcl, hM, hcc, hfr⟩ := Kd.R_elem h [] (i : Int) (by omega) (by omega)
  rw [Int.toNat_natCast] at hM hcc hfr
  obtain ⟨e, _, h1⟩ := hM
  subst e
  exact ⟨hcl, h1, hcc, hfr⟩
theorem wrow_one (A : Option Addr) (n c : Nat) (t : T) (busy : Bool) (b pl : Int) : ∀ q ∈ wrow A n c t busy b pl, q.oneCell' = true := by
  intro q hq
  simp only [wrow, List.mem_cons, List.not_mem_nil, or_false] at hq
  rcases hq with rfl | rfl | rfl | rfl | rfl | rfl | rfl | rfl | rfl | rfl | rfl | rfl | rfl | rfl <;> rfl
set_option maxRecDepth 100000 in
set_option maxHeartbeats 4000000 in
theorem wstep_busy (w0 : World) (gw i m wc : Nat) (R : List (List Value)) (A : Option Addr) (n c : Nat) (t : T) (b pl : Int) (up p : List Int) (UA : Option Addr) (uc : Nat) (PA : Option Addr) (pc : Nat) (now : Int) (w : World) (hi : i < m) (hrow : R.getD i [] = wrow A n c t true b pl) (hw : (Kd.raw 14).R 65 w w0.heap.size (fun _ => True) (.slice (some ⟨gw, 0, none⟩) m wc) R)
    (hup : Kd.C (Kd.int .i64) w UA up.length up) (huc : up.length ≤ uc) (hp : Kd.C (Kd.int .i64) w PA p.length p) (hpc : p.length ≤ pc) (hst : Steps up p t) (hB : Below w0.heap.size w0 w) :
    Calls Tryd.prog 25 #[.pointer (some ⟨gw, i * 14, none⟩), .slice UA up.length uc, .slice PA p.length pc, .int .i64 now] w fun e w' => ∃ (A' : Option Addr) (c' : Nat), e = .returned (.slice A' (stepL up p t).1.length c') ∧ Kd.R (Kd.int .i64) 3 w' w.heap.size (fun _ => True) (.slice A' (stepL up p t).1.length c') (stepL up p t).1 ∧
      (Kd.raw 14).R 65 w' w0.heap.size (fun _ => True) (.slice (some ⟨gw, 0, none⟩) m wc) (R.set i (wrow A n c (stepL up p t).2 true b (placeW t (stepL up p t).2 now pl))) ∧ Kept w w' (fun q => q = gw) ∧ Below w0.heap.size w0 w' := by
  have hu65 := Tryd.underlying65
  have hu63 := Tryd.underlying63
  have HSC := Aside0.mk (fun (w5 : World) (hb : Below w.heap.size w w5) => step_call up p t hst UA uc PA pc w5 (Kd.C_below hup hb) huc (Kd.C_below hp hb) hpc)
  obtain ⟨t2, ht2⟩ : ∃ t2, (stepL up p t).2 = t2 := ⟨_, rfl⟩
  rw [ht2] at HSC ⊢
  generalize (stepL up p t).1 = up2 at *
  clear ht2 hst
  obtain ⟨k, x, y, s, u, v, ww, r, is, res⟩ := t
  obtain ⟨k2, x2, y2, s2, u2, v2, ww2, r2, is2, res2⟩ := t2
  have hlen : R.length = m := (Kd.R_reads' hw).1.symm
  obtain ⟨g0, g1, g2, g3⟩ := raw_row hw i hi
  rw [hrow] at g0 g1 g2
  have c1 : w.cell? ⟨gw, i * 14 + 1, none⟩ = some (.int .i64 k) := g2 1 _ rfl
  have c2 : w.cell? ⟨gw, i * 14 + 2, none⟩ = some (.int .i64 x) := g2 2 _ rfl
  have c3 : w.cell? ⟨gw, i * 14 + 3, none⟩ = some (.int .i64 y) := g2 3 _ rfl
  have c4 : w.cell? ⟨gw, i * 14 + 4, none⟩ = some (.int .i64 s) := g2 4 _ rfl
  have c5 : w.cell? ⟨gw, i * 14 + 5, none⟩ = some (.int .i64 u) := g2 5 _ rfl
  have c6 : w.cell? ⟨gw, i * 14 + 6, none⟩ = some (.int .i64 v) := g2 6 _ rfl
  have c7 : w.cell? ⟨gw, i * 14 + 7, none⟩ = some (.int .i64 ww) := g2 7 _ rfl
  have c8 : w.cell? ⟨gw, i * 14 + 8, none⟩ = some (.int .i64 r) := g2 8 _ rfl
  have c9 : w.cell? ⟨gw, i * 14 + 9, none⟩ = some (.bool is) := g2 9 _ rfl
  have c10 : w.cell? ⟨gw, i * 14 + 10, none⟩ = some (.int .i64 res) := g2 10 _ rfl
  have c11 : w.cell? ⟨gw, i * 14 + 11, none⟩ = some (.bool true) := g2 11 _ rfl
  have HW := Aside0.mk hw
  have HROW := Aside0.mk hrow
  have HB := Aside0.mk hB
  have HI := Aside0.mk hi
  have HLEN := Aside0.mk hlen
  unfold tv at HSC
  clear g0 g1 g2 g3 hw hrow hB hup huc hp hpc hi hlen
  go_enter Tryd.func25, Tryd.ntmps25
  go_upto_region 6 with (first | (go_at_call 38; refine (HSC.out _ (by first | exact Below.refl _ _ | exact below_drew1 (Below.refl _ _) | exact below_drewN (Below.refl _ _) _)).mono ?_; rintro e w5 ⟨A5, ca5, rfl, ho, hb⟩; have hb : Below w.heap.size w w5 := (by first | exact hb | exact Below.trans (below_drew1 (Below.refl _ _)) hb); have HO := Aside0.mk ho; have HB5 := Aside0.mk hb; have HW5 := Aside0.mk (Kd.R_below HW.out hb); have HBB := Aside0.mk (below_step HB.out hb); clear ho hb) | ((with_reducible refine gate_store (t := 63) (p := 62) rfl ?_); refine Kd.R_store (Kd.raw 14) (w0 := w0) w0.heap.size rfl rfl 63 (.tmp 62) (.tmp 60) rfl 65 (i : Int) 1 R (wrow A n c ⟨k2, x2, y2, s2, u2, v2, ww2, r2, is2, res2⟩ true b pl) (tv ⟨k2, x2, y2, s2, u2, v2, ww2, r2, is2, res2⟩) [.int .i64 k2, .int .i64 x2, .int .i64 y2, .int .i64 s2, .int .i64 u2, .int .i64 v2, .int .i64 ww2, .int .i64 r2, .bool is2, .int .i64 res2] (wrow A n c ⟨k, x, y, s, u, v, ww, r, is, res⟩ true b pl) (fun _ => True) (fun _ => False) rfl (by simp [Kd.raw]) rfl rfl (by kernel_rfl) ?a1 HW5.out (by omega) (by have := HI.out; omega) rfl ?a2 (by show 1 + 10 ≤ 14; omega) ?a3 (fun _ h => h.elim) HBB.out ?_; (case a1 => intro q hq; simp at hq; rcases hq with rfl | rfl | rfl | rfl | rfl | rfl | rfl | rfl | rfl | rfl <;> rfl); (case a2 => have h := raw_row HW5.out i HI.out; rw [HROW.out] at h; intro j q hq; rw [Int.toNat_natCast]; exact h.2.2.1 j q hq); (case a3 => exact ⟨rfl, rfl, wrow_one A n c ⟨k2, x2, y2, s2, u2, v2, ww2, r2, is2, res2⟩ true b pl⟩); intro w6 ho hb hg; rw [Int.toNat_natCast] at ho; have HW6 := Aside0.mk ho; have HB6 := Aside0.mk hb; have HG6 := Aside0.mk hg; clear ho hb hg))
  have er : ∀ row2 : List Value, (R.set i row2).getD i [] = row2 := fun row2 => by have := HLEN.out; have := HI.out; simp [List.getD_eq_getElem?_getD, show i < R.length by omega]
  have HER := Aside0.mk er
  obtain ⟨g0, g1, g2, g3⟩ := raw_row HW6.out i HI.out
  rw [er] at g0 g1 g2
  have d4 : w6.cell? ⟨gw, i * 14 + 4, none⟩ = some (.int .i64 s2) := g2 4 _ rfl
  have d9 : w6.cell? ⟨gw, i * 14 + 9, none⟩ = some (.bool is2) := g2 9 _ rfl
  have HK6 := Aside0.mk (Kept.of_grown HG6.out (Kept.of_below HB5.out (fun q => q = gw)) (fun k hk => .inl (by injection hk with hk; exact hk.symm)))
  have HO6 := Aside0.mk (Kd.R_over' HO.out (Kd.R_typed HW5.out) (by decide) HG6.out)
  have HST := Aside0.mk (fun (q : Value) (row3 : List Value) (h : row3 = (wrow A n c ⟨k2, x2, y2, s2, u2, v2, ww2, r2, is2, res2⟩ true b pl).take 13 ++ [.int .i64 now]) (w7 : World) (ho : (Kd.raw 14).R 65 w7 w0.heap.size (fun _ => True) (.slice (some ⟨gw, 0, none⟩) m wc) ((R.set i (wrow A n c ⟨k2, x2, y2, s2, u2, v2, ww2, r2, is2, res2⟩ true b pl)).set i (wrow A n c ⟨k2, x2, y2, s2, u2, v2, ww2, r2, is2, res2⟩ true b now))) (hb : Below w0.heap.size w0 w7) (hg : w6.grownBy w7 (some gw)) =>
    (⟨Kd.R_over' HO6.out (Kd.R_typed HW6.out) (by decide) hg, by rw [List.set_set] at ho; exact ho, Kept.of_grown hg HK6.out (fun k hk => .inl (by injection hk with hk; exact hk.symm)), hb⟩ : Kd.R (Kd.int .i64) 3 w7 w.heap.size (fun _ => True) (.slice A5 up2.length ca5) up2 ∧ (Kd.raw 14).R 65 w7 w0.heap.size (fun _ => True) (.slice (some ⟨gw, 0, none⟩) m wc) (R.set i (wrow A n c ⟨k2, x2, y2, s2, u2, v2, ww2, r2, is2, res2⟩ true b now)) ∧ Kept w w7 (fun q => q = gw) ∧ Below w0.heap.size w0 w7))
  clear g0 g1 g2 g3 er HO HB5 HG6 HW5 HBB c1 c2 c3 c4 c5 c6 c7 c8 c9 c10 c11 hb
  have go7 : ∀ (P2 : Prop), P2 → P2 := fun _ h => h
  cases is2 with
  | true =>
    go_wp2_with (first | ((with_reducible refine gate_store (t := 3) (p := 83) rfl ?_); refine Kd.R_store (Kd.raw 14) (w0 := w0) w0.heap.size rfl rfl 3 (.tmp 83) (.tmp 81) rfl 65 (i : Int) 13 (R.set i (wrow A n c ⟨k2, x2, y2, s2, u2, v2, ww2, r2, true, res2⟩ true b pl)) (wrow A n c ⟨k2, x2, y2, s2, u2, v2, ww2, r2, true, res2⟩ true b now) (.int .i64 now) [.int .i64 now] (wrow A n c ⟨k2, x2, y2, s2, u2, v2, ww2, r2, true, res2⟩ true b pl) (fun _ => True) (fun _ => False) rfl (by simp [Kd.raw]) rfl rfl (by kernel_rfl) ?a1 HW6.out (by omega) (by have := HI.out; omega) rfl ?a2 (by show 13 + 1 ≤ 14; omega) ?a3 (fun _ h => h.elim) HB6.out ?_; (case a1 => intro q hq; simp at hq; rcases hq with rfl; rfl); (case a2 => have h := raw_row HW6.out i HI.out; rw [HER.out] at h; intro j q hq; rw [Int.toNat_natCast]; exact h.2.2.1 j q hq); (case a3 => exact ⟨rfl, rfl, wrow_one A n c ⟨k2, x2, y2, s2, u2, v2, ww2, r2, true, res2⟩ true b now⟩); intro w7 ho hb hg; rw [Int.toNat_natCast] at ho; have HW7 := Aside0.mk ho; have HB7 := Aside0.mk hb; have HG7 := Aside0.mk hg; clear ho hb hg))
    go_ret
    have hf := HST.out (.int .i64 now) _ rfl _ HW7.out HB7.out HG7.out
    exact ⟨_, _, rfl, hf.1, by rw [show placeW ⟨k, x, y, s, u, v, ww, r, is, res⟩ ⟨k2, x2, y2, s2, u2, v2, ww2, r2, true, res2⟩ now pl = now from rfl]; exact hf.2.1, hf.2.2.1, hf.2.2.2⟩
  | false =>
    by_cases h7 : s < 7
    · have t7 : decide (s < 7) = true := decide_eq_true h7
      by_cases h8 : 7 ≤ s2
      · have t8 : decide (7 ≤ s2) = true := decide_eq_true h8
        have HPL := Aside0.mk (show placeW ⟨k, x, y, s, u, v, ww, r, is, res⟩ ⟨k2, x2, y2, s2, u2, v2, ww2, r2, false, res2⟩ now pl = now by simp [placeW, h7, h8])
        clear h7 h8
        go_wp2_with (first | ((with_reducible refine gate_store (t := 3) (p := 83) rfl ?_); refine Kd.R_store (Kd.raw 14) (w0 := w0) w0.heap.size rfl rfl 3 (.tmp 83) (.tmp 81) rfl 65 (i : Int) 13 (R.set i (wrow A n c ⟨k2, x2, y2, s2, u2, v2, ww2, r2, false, res2⟩ true b pl)) (wrow A n c ⟨k2, x2, y2, s2, u2, v2, ww2, r2, false, res2⟩ true b now) (.int .i64 now) [.int .i64 now] (wrow A n c ⟨k2, x2, y2, s2, u2, v2, ww2, r2, false, res2⟩ true b pl) (fun _ => True) (fun _ => False) rfl (by simp [Kd.raw]) rfl rfl (by kernel_rfl) ?a1 HW6.out (by omega) (by have := HI.out; omega) rfl ?a2 (by show 13 + 1 ≤ 14; omega) ?a3 (fun _ h => h.elim) HB6.out ?_; (case a1 => intro q hq; simp at hq; rcases hq with rfl; rfl); (case a2 => have h := raw_row HW6.out i HI.out; rw [HER.out] at h; intro j q hq; rw [Int.toNat_natCast]; exact h.2.2.1 j q hq); (case a3 => exact ⟨rfl, rfl, wrow_one A n c ⟨k2, x2, y2, s2, u2, v2, ww2, r2, false, res2⟩ true b now⟩); intro w7 ho hb hg; rw [Int.toNat_natCast] at ho; have HW7 := Aside0.mk ho; have HB7 := Aside0.mk hb; have HG7 := Aside0.mk hg; clear ho hb hg))
        go_ret
        have hf := HST.out (.int .i64 now) _ rfl _ HW7.out HB7.out HG7.out
        exact ⟨_, _, rfl, hf.1, by rw [HPL.out]; exact hf.2.1, hf.2.2.1, hf.2.2.2⟩
      · have t8 : decide (7 ≤ s2) = false := decide_eq_false h8
        have HPL := Aside0.mk (show placeW ⟨k, x, y, s, u, v, ww, r, is, res⟩ ⟨k2, x2, y2, s2, u2, v2, ww2, r2, false, res2⟩ now pl = pl by simp [placeW, h7, h8])
        clear h7 h8
        go_wp2
        go_ret
        exact ⟨_, _, rfl, HO6.out, by rw [HPL.out]; exact HW6.out, HK6.out, HB6.out⟩
    · have t7 : decide (s < 7) = false := decide_eq_false h7
      have HPL := Aside0.mk (show placeW ⟨k, x, y, s, u, v, ww, r, is, res⟩ ⟨k2, x2, y2, s2, u2, v2, ww2, r2, false, res2⟩ now pl = pl by simp [placeW, h7])
      clear h7
      go_wp2
      go_ret
      exact ⟨_, _, rfl, HO6.out, by rw [HPL.out]; exact HW6.out, HK6.out, HB6.out⟩
end Go.Proofs.YtmaiicpaalbcfaaDoor

namespace Go.Proofs.YtmaiicpaalbcfaaDoor
open Go.RowKit Go.Proofs.YtmaiicpaalbcfaaDoorW.PrintWords Go.Proofs.YtmaiicpaalbcfaaDoorW.PrintLast Go.Proofs.YtmaiicpaalbcfaaDoorW.PrintMore Go.Proofs.YtmaiicpaalbcfaaDoor.P
set_option linter.unusedVariables false
/-- a worker of the play -/
structure W5 where
  l : List S40
  t : T
  busy : Bool
  b : Int
  pl : Int
def t0 : T := ⟨0, 0, 0, 0, 0, 0, 0, 0, false, 0⟩
def z5 : W5 := ⟨[], t0, false, 0, 0⟩
/-- an operation that may begin -/
def validB (n : Int) (o : S40) : Bool := beginB o.f0 o.f1 o.f2 n
/-- who goes on, of a number's bits -/
def bitOn (going : Int) (i : Nat) : Bool := decide (Go.bits .and .u64 (shr .u64 going (i : Int)) 1 > 0)
def enG (n : Nat) (going : Int) : List Bool := (List.range n).map (bitOn going)
/-- what a worker goes on with: what is left, its task, where it began -/
def goesOn (n now : Int) (k : W5) : Option (List S40 × T × Int) :=
  if k.busy = true then some (k.l, k.t, k.b)
  else match k.l with
    | [] => none
    | o :: r => if validB n o = true then some (r, beginT o.f0 o.f1 o.f2 n, now) else none
def eventS (i : Nat) (t : T) (b now found : Int) : S42 := ⟨(i : Int), ⟨t.k, t.x, t.y⟩, t.res, b, if t.k = 2 ∧ t.res = 0 then found else now, now⟩
def playL (n : Nat) (prio P : List Int) : Nat → List W5 → List Int → Int → Int → Int → Int → List S42 → Option (List S42 × List Int × Int)
  | 0, _, _, _, _, _, _, _ => none
  | g + 1, ws, up, going, at_, last, steps, ev =>
    if going = 0 then some (ev, up, steps)
    else if 0 ≤ whoS P at_ last (Bits.idx (enG n going)) ∧ whoS P at_ last (Bits.idx (enG n going)) < n ∧ 0 ≤ steps ∧ steps < 1000000000 ∧ ev.length < 1000000 then
      match goesOn prio.length (steps + 1) (ws.getD (whoS P at_ last (Bits.idx (enG n going))).toNat z5) with
      | none => none
      | some (l, t, b) =>
        if Steps up prio t then
          if (stepL up prio t).2.is = true then
            playL n prio P g (ws.set (whoS P at_ last (Bits.idx (enG n going))).toNat ⟨l, (stepL up prio t).2, false, b, placeW t (stepL up prio t).2 (steps + 1) (ws.getD (whoS P at_ last (Bits.idx (enG n going))).toNat z5).pl⟩) (stepL up prio t).1
              (if l = [] then Go.bits .andNot .u64 going (shl .u64 1 (whoS P at_ last (Bits.idx (enG n going)))) else going)
              (atS P at_ (Bits.idx (enG n going))) (lastS P at_ last (Bits.idx (enG n going))) (steps + 1) (ev ++ [eventS (whoS P at_ last (Bits.idx (enG n going))).toNat (stepL up prio t).2 b (steps + 1) (ws.getD (whoS P at_ last (Bits.idx (enG n going))).toNat z5).pl])
          else playL n prio P g (ws.set (whoS P at_ last (Bits.idx (enG n going))).toNat ⟨l, (stepL up prio t).2, true, b, placeW t (stepL up prio t).2 (steps + 1) (ws.getD (whoS P at_ last (Bits.idx (enG n going))).toNat z5).pl⟩) (stepL up prio t).1 going
              (atS P at_ (Bits.idx (enG n going))) (lastS P at_ last (Bits.idx (enG n going))) (steps + 1) ev
        else none
    else none
end Go.Proofs.YtmaiicpaalbcfaaDoor

namespace Go.Proofs.YtmaiicpaalbcfaaDoor
open Go.RowKit Go.Proofs.YtmaiicpaalbcfaaDoorW.PrintWords Go.Proofs.YtmaiicpaalbcfaaDoorW.PrintLast Go.Proofs.YtmaiicpaalbcfaaDoorW.PrintMore Go.Proofs.YtmaiicpaalbcfaaDoor.P
set_option linter.unusedVariables false
set_option linter.unusedSimpArgs false
/-- where what is left begins -/
def dropA (A : Option Addr) (c : Nat) : Option Addr := if c = 1 then A else A.map (·.add 3)
set_option maxRecDepth 100000 in
set_option maxHeartbeats 4000000 in
theorem wstep_new (w0 : World) (gw i m wc : Nat) (R : List (List Value)) (A : Option Addr) (c : Nat) (o : S40) (l : List S40) (told : T) (b pl : Int) (up p : List Int) (UA : Option Addr) (uc : Nat) (PA : Option Addr) (pc : Nat) (now : Int) (w : World) (hi : i < m) (hrow : R.getD i [] = wrow A (o :: l).length c told false b pl) (hw : (Kd.raw 14).R 65 w w0.heap.size (fun _ => True) (.slice (some ⟨gw, 0, none⟩) m wc) R)
    (hC : Kd.C k40 w A (o :: l).length (o :: l)) (hcap : (o :: l).length ≤ c) (hv : beginB o.f0 o.f1 o.f2 p.length = true) (hup : ∀ W', Kept w W' (fun q => q = gw) → Kd.C (Kd.int .i64) W' UA up.length up) (huc : up.length ≤ uc) (hp : ∀ W', Kept w W' (fun q => q = gw) → Kd.C (Kd.int .i64) W' PA p.length p) (hpc : p.length ≤ pc) (hst : Steps up p (beginT o.f0 o.f1 o.f2 p.length)) (hB : Below w0.heap.size w0 w) :
    Calls Tryd.prog 25 #[.pointer (some ⟨gw, i * 14, none⟩), .slice UA up.length uc, .slice PA p.length pc, .int .i64 now] w fun e w' => ∃ (A' : Option Addr) (c' : Nat), e = .returned (.slice A' (stepL up p (beginT o.f0 o.f1 o.f2 p.length)).1.length c') ∧ Kd.R (Kd.int .i64) 3 w' w.heap.size (fun _ => True) (.slice A' (stepL up p (beginT o.f0 o.f1 o.f2 p.length)).1.length c') (stepL up p (beginT o.f0 o.f1 o.f2 p.length)).1 ∧
      (Kd.raw 14).R 65 w' w0.heap.size (fun _ => True) (.slice (some ⟨gw, 0, none⟩) m wc) (R.set i (wrow (dropA A c) l.length (c - 1) (stepL up p (beginT o.f0 o.f1 o.f2 p.length)).2 true now (placeW (beginT o.f0 o.f1 o.f2 p.length) (stepL up p (beginT o.f0 o.f1 o.f2 p.length)).2 now pl))) ∧ Kept w w' (fun q => q = gw) ∧ Below w0.heap.size w0 w' := by
  have hu65 := Tryd.underlying65
  have hu63 := Tryd.underlying63
  have hu40 := Tryd.underlying40
  have HSC0 := Aside0.mk (fun (w5 : World) (hb : Kept w w5 (fun q => q = gw)) => step_call up p (beginT o.f0 o.f1 o.f2 p.length) hst UA uc PA pc w5 (hup w5 hb) huc (hp w5 hb) hpc)
  have hbg := fun (w5 : World) => begin_any o.f0 o.f1 o.f2 p.length w5
  unfold BeginP at hbg
  rw [hv] at hbg
  obtain ⟨t2, ht2⟩ : ∃ t2, (stepL up p (beginT o.f0 o.f1 o.f2 p.length)).2 = t2 := ⟨_, rfl⟩
  rw [ht2] at HSC0 ⊢
  generalize (stepL up p (beginT o.f0 o.f1 o.f2 p.length)).1 = up2 at *
  clear ht2 hst
  generalize beginT o.f0 o.f1 o.f2 p.length = tb at *
  obtain ⟨k, x, y, s, u, v, ww, r, is, res⟩ := tb
  obtain ⟨k2, x2, y2, s2, u2, v2, ww2, r2, is2, res2⟩ := t2
  have HBG := Aside0.mk hbg
  have hlen : R.length = m := (Kd.R_reads' hw).1.symm
  obtain ⟨ad, hA, q0, q1, q2⟩ := at_T40 hC 0 (by omega) (by simp)
  subst hA
  have e0 : rd_T40 (o :: l) 0 = o := rfl
  rw [e0] at q0 q1 q2
  simp only [Int.toNat_zero, Nat.zero_mul] at q0 q1 q2
  have ea : ad.add 0 = ad := by cases ad; simp [Addr.add]
  rw [ea] at q0 q1 q2
  have p1 : (0 : Int) < (((o :: l).length : Nat) : Int) := by rw [List.length_cons]; omega
  have pp : 0 < (o :: l).length := by simp
  have HNN := Aside0.mk (show (o :: l).length = l.length + 1 from rfl)
  generalize (o :: l).length = nn at *
  have HLL := Aside0.mk (show nn - 1 = l.length by have := HNN.out; omega)
  rw [← HLL.out]
  obtain ⟨g0, g1, g2, g3⟩ := raw_row hw i hi
  rw [hrow] at g0 g1 g2
  have cl : w.cell? ⟨gw, i * 14, none⟩ = some (.slice (some ad) nn c) := g2 0 _ rfl
  have c11 : w.cell? ⟨gw, i * 14 + 11, none⟩ = some (.bool false) := g2 11 _ rfl
  have HW0 := Aside0.mk hw
  have HROW := Aside0.mk hrow
  have HB0 := Aside0.mk hB
  have HI := Aside0.mk hi
  have HLEN0 := Aside0.mk hlen
  have HCAP := Aside0.mk hcap
  have er : ∀ row2 : List Value, (R.set i row2).getD i [] = row2 := fun row2 => by have := HLEN0.out; have := HI.out; simp [List.getD_eq_getElem?_getD, show i < R.length by omega]
  have HER := Aside0.mk er
  unfold tv at HSC0 HBG
  clear g0 g1 g2 g3 hw hrow hB hup huc hp hpc hi hlen hC hcap hbg hv e0 ea er
  go_enter Tryd.func25, Tryd.ntmps25
  go_upto_region 3 with (first | (go_at_call 33; refine (HBG.out _).mono ?_; rintro e w1 ⟨rfl, hb⟩; have hb : Below w.heap.size w w1 := (by first | exact hb | exact Below.trans (below_drew1 (Below.refl _ _)) hb); have HW1 := Aside0.mk (Kd.R_below HW0.out hb); have HB1 := Aside0.mk (below_step HB0.out hb); have HK1 := Aside0.mk (Kept.of_below hb (fun q => q = gw)); clear hb) | ((with_reducible refine gate_store (t := 63) (p := 30) rfl ?_); refine Kd.R_store (Kd.raw 14) (w0 := w0) w0.heap.size rfl rfl 63 (.tmp 30) (.tmp 27) rfl 65 (i : Int) 1 R (wrow (some ad) nn c ⟨k, x, y, s, u, v, ww, r, is, res⟩ false b pl) (tv ⟨k, x, y, s, u, v, ww, r, is, res⟩) [.int .i64 k, .int .i64 x, .int .i64 y, .int .i64 s, .int .i64 u, .int .i64 v, .int .i64 ww, .int .i64 r, .bool is, .int .i64 res] (wrow (some ad) nn c told false b pl) (fun _ => True) (fun _ => False) rfl (by simp [Kd.raw]) rfl rfl (by kernel_rfl) ?a1 HW1.out (by omega) (by have := HI.out; omega) rfl ?a2 (by show 1 + 10 ≤ 14; omega) ?a3 (fun _ h => h.elim) HB1.out ?_; (case a1 => intro q hq; simp at hq; rcases hq with rfl | rfl | rfl | rfl | rfl | rfl | rfl | rfl | rfl | rfl <;> rfl); (case a2 => have h := raw_row HW1.out i HI.out; rw [HROW.out] at h; intro j q hq; rw [Int.toNat_natCast]; exact h.2.2.1 j q hq); (case a3 => exact ⟨rfl, rfl, wrow_one (some ad) nn c ⟨k, x, y, s, u, v, ww, r, is, res⟩ false b pl⟩); intro w2 ho hb hg; rw [Int.toNat_natCast] at ho; have HW2 := Aside0.mk ho; have HB2 := Aside0.mk hb; have HK2 := Aside0.mk (Kept.of_grown hg HK1.out (fun k hk => .inl (by injection hk with hk; exact hk.symm))); clear ho hb hg) | ((with_reducible refine gate_store (t := 4) (p := 32) rfl ?_); refine Kd.R_store (Kd.raw 14) (w0 := w0) w0.heap.size rfl rfl 4 (.tmp 32) (.tmp 28) rfl 65 (i : Int) 11 (R.set i (wrow (some ad) nn c ⟨k, x, y, s, u, v, ww, r, is, res⟩ false b pl)) (wrow (some ad) nn c ⟨k, x, y, s, u, v, ww, r, is, res⟩ true b pl) (.bool true) [.bool true] (wrow (some ad) nn c ⟨k, x, y, s, u, v, ww, r, is, res⟩ false b pl) (fun _ => True) (fun _ => False) rfl (by simp [Kd.raw]) rfl rfl (by kernel_rfl) ?a1 HW2.out (by omega) (by have := HI.out; omega) rfl ?a2 (by show 11 + 1 ≤ 14; omega) ?a3 (fun _ h => h.elim) HB2.out ?_; (case a1 => intro q hq; simp at hq; rcases hq with rfl; rfl); (case a2 => have h := raw_row HW2.out i HI.out; rw [HER.out] at h; intro j q hq; rw [Int.toNat_natCast]; exact h.2.2.1 j q hq); (case a3 => exact ⟨rfl, rfl, wrow_one (some ad) nn c ⟨k, x, y, s, u, v, ww, r, is, res⟩ true b pl⟩); intro w3 ho hb hg; rw [Int.toNat_natCast, List.set_set] at ho; have HW3 := Aside0.mk ho; have HB3 := Aside0.mk hb; have HK3 := Aside0.mk (Kept.of_grown hg HK2.out (fun k hk => .inl (by injection hk with hk; exact hk.symm))); clear ho hb hg))
  clear cl c11 q0 q1 q2
  obtain ⟨g0, g1, g2, g3⟩ := raw_row HW3.out i HI.out
  rw [HER.out] at g0 g1 g2
  have cl : w3.cell? ⟨gw, i * 14, none⟩ = some (.slice (some ad) nn c) := g2 0 _ rfl
  clear g0 g1 g2 g3
  by_cases hc1 : c = 1
  · subst hc1
    go_upto_region 4 with (first | ((with_reducible refine gate_store (t := 43) (p := 42) rfl ?_); refine Kd.R_store (Kd.raw 14) (w0 := w0) w0.heap.size rfl rfl 43 (.tmp 42) (.tmp 39) rfl 65 (i : Int) 0 (R.set i (wrow (some ad) nn 1 ⟨k, x, y, s, u, v, ww, r, is, res⟩ true b pl)) (wrow (some ad) (nn - 1) (1 - 1) ⟨k, x, y, s, u, v, ww, r, is, res⟩ true b pl) (.slice (some ad) (nn - 1) (1 - 1)) [.slice (some ad) (nn - 1) (1 - 1)] (wrow (some ad) nn 1 ⟨k, x, y, s, u, v, ww, r, is, res⟩ true b pl) (fun _ => True) (fun _ => False) rfl (by simp [Kd.raw]) rfl rfl (by kernel_rfl) ?a1 HW3.out (by omega) (by have := HI.out; omega) rfl ?a2 (by show 0 + 1 ≤ 14; omega) ?a3 (fun _ h => h.elim) HB3.out ?_; (case a1 => intro q hq; simp at hq; rcases hq with rfl; rfl); (case a2 => have h := raw_row HW3.out i HI.out; rw [HER.out] at h; intro j q hq; rw [Int.toNat_natCast]; exact h.2.2.1 j q hq); (case a3 => exact ⟨rfl, rfl, wrow_one (some ad) (nn - 1) (1 - 1) ⟨k, x, y, s, u, v, ww, r, is, res⟩ true b pl⟩); intro w35 ho hb hg; rw [Int.toNat_natCast, List.set_set] at ho; have HW35 := Aside0.mk ho; have HB35 := Aside0.mk hb; have HK35 := Aside0.mk (Kept.of_grown hg HK3.out (fun k hk => .inl (by injection hk with hk; exact hk.symm))); clear ho hb hg) | ((with_reducible refine gate_store (t := 3) (p := 44) rfl ?_); refine Kd.R_store (Kd.raw 14) (w0 := w0) w0.heap.size rfl rfl 3 (.tmp 44) (.tmp 40) rfl 65 (i : Int) 12 (R.set i (wrow (some ad) (nn - 1) (1 - 1) ⟨k, x, y, s, u, v, ww, r, is, res⟩ true b pl)) (wrow (some ad) (nn - 1) (1 - 1) ⟨k, x, y, s, u, v, ww, r, is, res⟩ true now pl) (.int .i64 now) [.int .i64 now] (wrow (some ad) (nn - 1) (1 - 1) ⟨k, x, y, s, u, v, ww, r, is, res⟩ true b pl) (fun _ => True) (fun _ => False) rfl (by simp [Kd.raw]) rfl rfl (by kernel_rfl) ?a1 HW35.out (by omega) (by have := HI.out; omega) rfl ?a2 (by show 12 + 1 ≤ 14; omega) ?a3 (fun _ h => h.elim) HB35.out ?_; (case a1 => intro q hq; simp at hq; rcases hq with rfl; rfl); (case a2 => have h := raw_row HW35.out i HI.out; rw [HER.out] at h; intro j q hq; rw [Int.toNat_natCast]; exact h.2.2.1 j q hq); (case a3 => exact ⟨rfl, rfl, wrow_one (some ad) (nn - 1) (1 - 1) ⟨k, x, y, s, u, v, ww, r, is, res⟩ true now pl⟩); intro w4 ho hb hg; rw [Int.toNat_natCast, List.set_set] at ho; have HW4 := Aside0.mk ho; have HB4 := Aside0.mk hb; have HK4 := Aside0.mk (Kept.of_grown hg HK35.out (fun k hk => .inl (by injection hk with hk; exact hk.symm))); clear ho hb hg))
    clear cl
    obtain ⟨R4, hR4⟩ : ∃ R4, R.set i (wrow (some ad) (nn - 1) (1 - 1) ⟨k, x, y, s, u, v, ww, r, is, res⟩ true now pl) = R4 := ⟨_, rfl⟩
    have HROW4 := Aside0.mk (show R4.getD i [] = wrow (some ad) (nn - 1) (1 - 1) ⟨k, x, y, s, u, v, ww, r, is, res⟩ true now pl by rw [← hR4]; exact HER.out _)
    have HSS := Aside0.mk (show ∀ r : List Value, R4.set i r = R.set i r from fun r => by rw [← hR4, List.set_set])
    have HW := Aside0.mk (show (Kd.raw 14).R 65 w4 w0.heap.size (fun _ => True) (.slice (some ⟨gw, 0, none⟩) m wc) R4 by rw [← hR4]; exact HW4.out)
    have HLEN := Aside0.mk (show R4.length = m by rw [← hR4, List.length_set]; exact HLEN0.out)
    have HB := Aside0.mk HB4.out
    have HSC := Aside0.mk (fun (w5 : World) (hb : Below w4.heap.size w4 w5) => HSC0.out w5 (HK4.out.below hb))
    clear HROW HER HW0 HW1 HW2 HW3 HW4 HB0 HB1 HB2 HB3 HB4 HK1 HK2 HK3 hR4
    have HROW := HROW4
    clear HROW4
    obtain ⟨g0, g1, g2, g3⟩ := raw_row HW.out i HI.out
    rw [HROW.out] at g0 g1 g2
    have c1 : w4.cell? ⟨gw, i * 14 + 1, none⟩ = some (.int .i64 k) := g2 1 _ rfl
    have c2 : w4.cell? ⟨gw, i * 14 + 2, none⟩ = some (.int .i64 x) := g2 2 _ rfl
    have c3 : w4.cell? ⟨gw, i * 14 + 3, none⟩ = some (.int .i64 y) := g2 3 _ rfl
    have c4 : w4.cell? ⟨gw, i * 14 + 4, none⟩ = some (.int .i64 s) := g2 4 _ rfl
    have c5 : w4.cell? ⟨gw, i * 14 + 5, none⟩ = some (.int .i64 u) := g2 5 _ rfl
    have c6 : w4.cell? ⟨gw, i * 14 + 6, none⟩ = some (.int .i64 v) := g2 6 _ rfl
    have c7 : w4.cell? ⟨gw, i * 14 + 7, none⟩ = some (.int .i64 ww) := g2 7 _ rfl
    have c8 : w4.cell? ⟨gw, i * 14 + 8, none⟩ = some (.int .i64 r) := g2 8 _ rfl
    have c9 : w4.cell? ⟨gw, i * 14 + 9, none⟩ = some (.bool is) := g2 9 _ rfl
    have c10 : w4.cell? ⟨gw, i * 14 + 10, none⟩ = some (.int .i64 res) := g2 10 _ rfl
    clear g0 g1 g2 g3
    have HDA := Aside0.mk (show dropA (some ad) 1 = (some ad) from rfl)
    go_upto_region 6 with (first | (go_at_call 38; refine (HSC.out _ (by first | exact Below.refl _ _ | exact below_drew1 (Below.refl _ _) | exact below_drewN (Below.refl _ _) _)).mono ?_; rintro e w5 ⟨A5, ca5, rfl, ho, hb⟩; have hb : Below w4.heap.size w4 w5 := (by first | exact hb | exact Below.trans (below_drew1 (Below.refl _ _)) hb); have HO := Aside0.mk ho; have HB5 := Aside0.mk hb; have HW5 := Aside0.mk (Kd.R_below HW.out hb); have HBB := Aside0.mk (below_step HB.out hb); clear ho hb) | ((with_reducible refine gate_store (t := 63) (p := 62) rfl ?_); refine Kd.R_store (Kd.raw 14) (w0 := w0) w0.heap.size rfl rfl 63 (.tmp 62) (.tmp 60) rfl 65 (i : Int) 1 R4 (wrow (some ad) (nn - 1) (1 - 1) ⟨k2, x2, y2, s2, u2, v2, ww2, r2, is2, res2⟩ true now pl) (tv ⟨k2, x2, y2, s2, u2, v2, ww2, r2, is2, res2⟩) [.int .i64 k2, .int .i64 x2, .int .i64 y2, .int .i64 s2, .int .i64 u2, .int .i64 v2, .int .i64 ww2, .int .i64 r2, .bool is2, .int .i64 res2] (wrow (some ad) (nn - 1) (1 - 1) ⟨k, x, y, s, u, v, ww, r, is, res⟩ true now pl) (fun _ => True) (fun _ => False) rfl (by simp [Kd.raw]) rfl rfl (by kernel_rfl) ?a1 HW5.out (by omega) (by have := HI.out; omega) rfl ?a2 (by show 1 + 10 ≤ 14; omega) ?a3 (fun _ h => h.elim) HBB.out ?_; (case a1 => intro q hq; simp at hq; rcases hq with rfl | rfl | rfl | rfl | rfl | rfl | rfl | rfl | rfl | rfl <;> rfl); (case a2 => have h := raw_row HW5.out i HI.out; rw [HROW.out] at h; intro j q hq; rw [Int.toNat_natCast]; exact h.2.2.1 j q hq); (case a3 => exact ⟨rfl, rfl, wrow_one (some ad) (nn - 1) (1 - 1) ⟨k2, x2, y2, s2, u2, v2, ww2, r2, is2, res2⟩ true now pl⟩); intro w6 ho hb hg; rw [Int.toNat_natCast] at ho; have HW6 := Aside0.mk ho; have HB6 := Aside0.mk hb; have HG6 := Aside0.mk hg; clear ho hb hg))
    have er : ∀ row2 : List Value, (R4.set i row2).getD i [] = row2 := fun row2 => by have := HLEN.out; have := HI.out; simp [List.getD_eq_getElem?_getD, show i < R4.length by omega]
    have HER := Aside0.mk er
    obtain ⟨g0, g1, g2, g3⟩ := raw_row HW6.out i HI.out
    rw [er] at g0 g1 g2
    have d4 : w6.cell? ⟨gw, i * 14 + 4, none⟩ = some (.int .i64 s2) := g2 4 _ rfl
    have d9 : w6.cell? ⟨gw, i * 14 + 9, none⟩ = some (.bool is2) := g2 9 _ rfl
    have HK6 := Aside0.mk (Kept.of_grown HG6.out (HK4.out.below HB5.out) (fun k hk => .inl (by injection hk with hk; exact hk.symm)))
    have HO6 := Aside0.mk (Kd.R_over' HO.out (Kd.R_typed HW5.out) (by decide) HG6.out)
    have HST := Aside0.mk (fun (q : Value) (row3 : List Value) (h : row3 = (wrow (some ad) (nn - 1) (1 - 1) ⟨k2, x2, y2, s2, u2, v2, ww2, r2, is2, res2⟩ true now pl).take 13 ++ [.int .i64 now]) (w7 : World) (ho : (Kd.raw 14).R 65 w7 w0.heap.size (fun _ => True) (.slice (some ⟨gw, 0, none⟩) m wc) ((R4.set i (wrow (some ad) (nn - 1) (1 - 1) ⟨k2, x2, y2, s2, u2, v2, ww2, r2, is2, res2⟩ true now pl)).set i (wrow (some ad) (nn - 1) (1 - 1) ⟨k2, x2, y2, s2, u2, v2, ww2, r2, is2, res2⟩ true now now))) (hb : Below w0.heap.size w0 w7) (hg : w6.grownBy w7 (some gw)) =>
      (⟨Kd.R_over' HO6.out (Kd.R_typed HW6.out) (by decide) hg, by rw [List.set_set] at ho; exact ho, Kept.of_grown hg HK6.out (fun k hk => .inl (by injection hk with hk; exact hk.symm)), hb⟩ : Kd.R (Kd.int .i64) 3 w7 w4.heap.size (fun _ => True) (.slice A5 up2.length ca5) up2 ∧ (Kd.raw 14).R 65 w7 w0.heap.size (fun _ => True) (.slice (some ⟨gw, 0, none⟩) m wc) (R4.set i (wrow (some ad) (nn - 1) (1 - 1) ⟨k2, x2, y2, s2, u2, v2, ww2, r2, is2, res2⟩ true now now)) ∧ Kept w w7 (fun q => q = gw) ∧ Below w0.heap.size w0 w7))
    clear g0 g1 g2 g3 er HO HB5 HG6 HW5 HBB c1 c2 c3 c4 c5 c6 c7 c8 c9 c10 hb
    have go7 : ∀ (P2 : Prop), P2 → P2 := fun _ h => h
    cases is2 with
    | true =>
      go_wp2_with (first | ((with_reducible refine gate_store (t := 3) (p := 83) rfl ?_); refine Kd.R_store (Kd.raw 14) (w0 := w0) w0.heap.size rfl rfl 3 (.tmp 83) (.tmp 81) rfl 65 (i : Int) 13 (R4.set i (wrow (some ad) (nn - 1) (1 - 1) ⟨k2, x2, y2, s2, u2, v2, ww2, r2, true, res2⟩ true now pl)) (wrow (some ad) (nn - 1) (1 - 1) ⟨k2, x2, y2, s2, u2, v2, ww2, r2, true, res2⟩ true now now) (.int .i64 now) [.int .i64 now] (wrow (some ad) (nn - 1) (1 - 1) ⟨k2, x2, y2, s2, u2, v2, ww2, r2, true, res2⟩ true now pl) (fun _ => True) (fun _ => False) rfl (by simp [Kd.raw]) rfl rfl (by kernel_rfl) ?a1 HW6.out (by omega) (by have := HI.out; omega) rfl ?a2 (by show 13 + 1 ≤ 14; omega) ?a3 (fun _ h => h.elim) HB6.out ?_; (case a1 => intro q hq; simp at hq; rcases hq with rfl; rfl); (case a2 => have h := raw_row HW6.out i HI.out; rw [HER.out] at h; intro j q hq; rw [Int.toNat_natCast]; exact h.2.2.1 j q hq); (case a3 => exact ⟨rfl, rfl, wrow_one (some ad) (nn - 1) (1 - 1) ⟨k2, x2, y2, s2, u2, v2, ww2, r2, true, res2⟩ true now now⟩); intro w7 ho hb hg; rw [Int.toNat_natCast] at ho; have HW7 := Aside0.mk ho; have HB7 := Aside0.mk hb; have HG7 := Aside0.mk hg; clear ho hb hg))
      go_ret
      have hf := HST.out (.int .i64 now) _ rfl _ HW7.out HB7.out HG7.out
      exact ⟨_, _, rfl, Kd.R_lower hf.1 HK4.out.1, by rw [show placeW ⟨k, x, y, s, u, v, ww, r, is, res⟩ ⟨k2, x2, y2, s2, u2, v2, ww2, r2, true, res2⟩ now pl = now from rfl, HDA.out, ← HSS.out]; exact hf.2.1, hf.2.2.1, hf.2.2.2⟩
    | false =>
      by_cases h7 : s < 7
      · have t7 : decide (s < 7) = true := decide_eq_true h7
        by_cases h8 : 7 ≤ s2
        · have t8 : decide (7 ≤ s2) = true := decide_eq_true h8
          have HPL := Aside0.mk (show placeW ⟨k, x, y, s, u, v, ww, r, is, res⟩ ⟨k2, x2, y2, s2, u2, v2, ww2, r2, false, res2⟩ now pl = now by simp [placeW, h7, h8])
          clear h7 h8
          go_wp2_with (first | ((with_reducible refine gate_store (t := 3) (p := 83) rfl ?_); refine Kd.R_store (Kd.raw 14) (w0 := w0) w0.heap.size rfl rfl 3 (.tmp 83) (.tmp 81) rfl 65 (i : Int) 13 (R4.set i (wrow (some ad) (nn - 1) (1 - 1) ⟨k2, x2, y2, s2, u2, v2, ww2, r2, false, res2⟩ true now pl)) (wrow (some ad) (nn - 1) (1 - 1) ⟨k2, x2, y2, s2, u2, v2, ww2, r2, false, res2⟩ true now now) (.int .i64 now) [.int .i64 now] (wrow (some ad) (nn - 1) (1 - 1) ⟨k2, x2, y2, s2, u2, v2, ww2, r2, false, res2⟩ true now pl) (fun _ => True) (fun _ => False) rfl (by simp [Kd.raw]) rfl rfl (by kernel_rfl) ?a1 HW6.out (by omega) (by have := HI.out; omega) rfl ?a2 (by show 13 + 1 ≤ 14; omega) ?a3 (fun _ h => h.elim) HB6.out ?_; (case a1 => intro q hq; simp at hq; rcases hq with rfl; rfl); (case a2 => have h := raw_row HW6.out i HI.out; rw [HER.out] at h; intro j q hq; rw [Int.toNat_natCast]; exact h.2.2.1 j q hq); (case a3 => exact ⟨rfl, rfl, wrow_one (some ad) (nn - 1) (1 - 1) ⟨k2, x2, y2, s2, u2, v2, ww2, r2, false, res2⟩ true now now⟩); intro w7 ho hb hg; rw [Int.toNat_natCast] at ho; have HW7 := Aside0.mk ho; have HB7 := Aside0.mk hb; have HG7 := Aside0.mk hg; clear ho hb hg))
          go_ret
          have hf := HST.out (.int .i64 now) _ rfl _ HW7.out HB7.out HG7.out
          exact ⟨_, _, rfl, Kd.R_lower hf.1 HK4.out.1, by rw [HPL.out, HDA.out, ← HSS.out]; exact hf.2.1, hf.2.2.1, hf.2.2.2⟩
        · have t8 : decide (7 ≤ s2) = false := decide_eq_false h8
          have HPL := Aside0.mk (show placeW ⟨k, x, y, s, u, v, ww, r, is, res⟩ ⟨k2, x2, y2, s2, u2, v2, ww2, r2, false, res2⟩ now pl = pl by simp [placeW, h7, h8])
          clear h7 h8
          go_wp2
          go_ret
          exact ⟨_, _, rfl, Kd.R_lower HO6.out HK4.out.1, by rw [HPL.out, HDA.out, ← HSS.out]; exact HW6.out, HK6.out, HB6.out⟩
      · have t7 : decide (s < 7) = false := decide_eq_false h7
        have HPL := Aside0.mk (show placeW ⟨k, x, y, s, u, v, ww, r, is, res⟩ ⟨k2, x2, y2, s2, u2, v2, ww2, r2, false, res2⟩ now pl = pl by simp [placeW, h7])
        clear h7
        go_wp2
        go_ret
        exact ⟨_, _, rfl, Kd.R_lower HO6.out HK4.out.1, by rw [HPL.out, HDA.out, ← HSS.out]; exact HW6.out, HK6.out, HB6.out⟩
  · go_upto_region 4 with (first | ((with_reducible refine gate_store (t := 43) (p := 42) rfl ?_); refine Kd.R_store (Kd.raw 14) (w0 := w0) w0.heap.size rfl rfl 43 (.tmp 42) (.tmp 39) rfl 65 (i : Int) 0 (R.set i (wrow (some ad) nn c ⟨k, x, y, s, u, v, ww, r, is, res⟩ true b pl)) (wrow (some ⟨ad.block, ad.off + 3, none⟩) (nn - 1) (c - 1) ⟨k, x, y, s, u, v, ww, r, is, res⟩ true b pl) (.slice (some ⟨ad.block, ad.off + 3, none⟩) (nn - 1) (c - 1)) [.slice (some ⟨ad.block, ad.off + 3, none⟩) (nn - 1) (c - 1)] (wrow (some ad) nn c ⟨k, x, y, s, u, v, ww, r, is, res⟩ true b pl) (fun _ => True) (fun _ => False) rfl (by simp [Kd.raw]) rfl rfl (by kernel_rfl) ?a1 HW3.out (by omega) (by have := HI.out; omega) rfl ?a2 (by show 0 + 1 ≤ 14; omega) ?a3 (fun _ h => h.elim) HB3.out ?_; (case a1 => intro q hq; simp at hq; rcases hq with rfl; rfl); (case a2 => have h := raw_row HW3.out i HI.out; rw [HER.out] at h; intro j q hq; rw [Int.toNat_natCast]; exact h.2.2.1 j q hq); (case a3 => exact ⟨rfl, rfl, wrow_one (some ⟨ad.block, ad.off + 3, none⟩) (nn - 1) (c - 1) ⟨k, x, y, s, u, v, ww, r, is, res⟩ true b pl⟩); intro w35 ho hb hg; rw [Int.toNat_natCast, List.set_set] at ho; have HW35 := Aside0.mk ho; have HB35 := Aside0.mk hb; have HK35 := Aside0.mk (Kept.of_grown hg HK3.out (fun k hk => .inl (by injection hk with hk; exact hk.symm))); clear ho hb hg) | ((with_reducible refine gate_store (t := 3) (p := 44) rfl ?_); refine Kd.R_store (Kd.raw 14) (w0 := w0) w0.heap.size rfl rfl 3 (.tmp 44) (.tmp 40) rfl 65 (i : Int) 12 (R.set i (wrow (some ⟨ad.block, ad.off + 3, none⟩) (nn - 1) (c - 1) ⟨k, x, y, s, u, v, ww, r, is, res⟩ true b pl)) (wrow (some ⟨ad.block, ad.off + 3, none⟩) (nn - 1) (c - 1) ⟨k, x, y, s, u, v, ww, r, is, res⟩ true now pl) (.int .i64 now) [.int .i64 now] (wrow (some ⟨ad.block, ad.off + 3, none⟩) (nn - 1) (c - 1) ⟨k, x, y, s, u, v, ww, r, is, res⟩ true b pl) (fun _ => True) (fun _ => False) rfl (by simp [Kd.raw]) rfl rfl (by kernel_rfl) ?a1 HW35.out (by omega) (by have := HI.out; omega) rfl ?a2 (by show 12 + 1 ≤ 14; omega) ?a3 (fun _ h => h.elim) HB35.out ?_; (case a1 => intro q hq; simp at hq; rcases hq with rfl; rfl); (case a2 => have h := raw_row HW35.out i HI.out; rw [HER.out] at h; intro j q hq; rw [Int.toNat_natCast]; exact h.2.2.1 j q hq); (case a3 => exact ⟨rfl, rfl, wrow_one (some ⟨ad.block, ad.off + 3, none⟩) (nn - 1) (c - 1) ⟨k, x, y, s, u, v, ww, r, is, res⟩ true now pl⟩); intro w4 ho hb hg; rw [Int.toNat_natCast, List.set_set] at ho; have HW4 := Aside0.mk ho; have HB4 := Aside0.mk hb; have HK4 := Aside0.mk (Kept.of_grown hg HK35.out (fun k hk => .inl (by injection hk with hk; exact hk.symm))); clear ho hb hg))
    clear cl
    obtain ⟨R4, hR4⟩ : ∃ R4, R.set i (wrow (some ⟨ad.block, ad.off + 3, none⟩) (nn - 1) (c - 1) ⟨k, x, y, s, u, v, ww, r, is, res⟩ true now pl) = R4 := ⟨_, rfl⟩
    have HROW4 := Aside0.mk (show R4.getD i [] = wrow (some ⟨ad.block, ad.off + 3, none⟩) (nn - 1) (c - 1) ⟨k, x, y, s, u, v, ww, r, is, res⟩ true now pl by rw [← hR4]; exact HER.out _)
    have HSS := Aside0.mk (show ∀ r : List Value, R4.set i r = R.set i r from fun r => by rw [← hR4, List.set_set])
    have HW := Aside0.mk (show (Kd.raw 14).R 65 w4 w0.heap.size (fun _ => True) (.slice (some ⟨gw, 0, none⟩) m wc) R4 by rw [← hR4]; exact HW4.out)
    have HLEN := Aside0.mk (show R4.length = m by rw [← hR4, List.length_set]; exact HLEN0.out)
    have HB := Aside0.mk HB4.out
    have HSC := Aside0.mk (fun (w5 : World) (hb : Below w4.heap.size w4 w5) => HSC0.out w5 (HK4.out.below hb))
    clear HROW HER HW0 HW1 HW2 HW3 HW4 HB0 HB1 HB2 HB3 HB4 HK1 HK2 HK3 hR4
    have HROW := HROW4
    clear HROW4
    obtain ⟨g0, g1, g2, g3⟩ := raw_row HW.out i HI.out
    rw [HROW.out] at g0 g1 g2
    have c1 : w4.cell? ⟨gw, i * 14 + 1, none⟩ = some (.int .i64 k) := g2 1 _ rfl
    have c2 : w4.cell? ⟨gw, i * 14 + 2, none⟩ = some (.int .i64 x) := g2 2 _ rfl
    have c3 : w4.cell? ⟨gw, i * 14 + 3, none⟩ = some (.int .i64 y) := g2 3 _ rfl
    have c4 : w4.cell? ⟨gw, i * 14 + 4, none⟩ = some (.int .i64 s) := g2 4 _ rfl
    have c5 : w4.cell? ⟨gw, i * 14 + 5, none⟩ = some (.int .i64 u) := g2 5 _ rfl
    have c6 : w4.cell? ⟨gw, i * 14 + 6, none⟩ = some (.int .i64 v) := g2 6 _ rfl
    have c7 : w4.cell? ⟨gw, i * 14 + 7, none⟩ = some (.int .i64 ww) := g2 7 _ rfl
    have c8 : w4.cell? ⟨gw, i * 14 + 8, none⟩ = some (.int .i64 r) := g2 8 _ rfl
    have c9 : w4.cell? ⟨gw, i * 14 + 9, none⟩ = some (.bool is) := g2 9 _ rfl
    have c10 : w4.cell? ⟨gw, i * 14 + 10, none⟩ = some (.int .i64 res) := g2 10 _ rfl
    clear g0 g1 g2 g3
    have HDA := Aside0.mk (show dropA (some ad) c = (some ⟨ad.block, ad.off + 3, none⟩) from by unfold dropA; rw [if_neg hc1]; rfl)
    go_upto_region 6 with (first | (go_at_call 38; refine (HSC.out _ (by first | exact Below.refl _ _ | exact below_drew1 (Below.refl _ _) | exact below_drewN (Below.refl _ _) _)).mono ?_; rintro e w5 ⟨A5, ca5, rfl, ho, hb⟩; have hb : Below w4.heap.size w4 w5 := (by first | exact hb | exact Below.trans (below_drew1 (Below.refl _ _)) hb); have HO := Aside0.mk ho; have HB5 := Aside0.mk hb; have HW5 := Aside0.mk (Kd.R_below HW.out hb); have HBB := Aside0.mk (below_step HB.out hb); clear ho hb) | ((with_reducible refine gate_store (t := 63) (p := 62) rfl ?_); refine Kd.R_store (Kd.raw 14) (w0 := w0) w0.heap.size rfl rfl 63 (.tmp 62) (.tmp 60) rfl 65 (i : Int) 1 R4 (wrow (some ⟨ad.block, ad.off + 3, none⟩) (nn - 1) (c - 1) ⟨k2, x2, y2, s2, u2, v2, ww2, r2, is2, res2⟩ true now pl) (tv ⟨k2, x2, y2, s2, u2, v2, ww2, r2, is2, res2⟩) [.int .i64 k2, .int .i64 x2, .int .i64 y2, .int .i64 s2, .int .i64 u2, .int .i64 v2, .int .i64 ww2, .int .i64 r2, .bool is2, .int .i64 res2] (wrow (some ⟨ad.block, ad.off + 3, none⟩) (nn - 1) (c - 1) ⟨k, x, y, s, u, v, ww, r, is, res⟩ true now pl) (fun _ => True) (fun _ => False) rfl (by simp [Kd.raw]) rfl rfl (by kernel_rfl) ?a1 HW5.out (by omega) (by have := HI.out; omega) rfl ?a2 (by show 1 + 10 ≤ 14; omega) ?a3 (fun _ h => h.elim) HBB.out ?_; (case a1 => intro q hq; simp at hq; rcases hq with rfl | rfl | rfl | rfl | rfl | rfl | rfl | rfl | rfl | rfl <;> rfl); (case a2 => have h := raw_row HW5.out i HI.out; rw [HROW.out] at h; intro j q hq; rw [Int.toNat_natCast]; exact h.2.2.1 j q hq); (case a3 => exact ⟨rfl, rfl, wrow_one (some ⟨ad.block, ad.off + 3, none⟩) (nn - 1) (c - 1) ⟨k2, x2, y2, s2, u2, v2, ww2, r2, is2, res2⟩ true now pl⟩); intro w6 ho hb hg; rw [Int.toNat_natCast] at ho; have HW6 := Aside0.mk ho; have HB6 := Aside0.mk hb; have HG6 := Aside0.mk hg; clear ho hb hg))
    have er : ∀ row2 : List Value, (R4.set i row2).getD i [] = row2 := fun row2 => by have := HLEN.out; have := HI.out; simp [List.getD_eq_getElem?_getD, show i < R4.length by omega]
    have HER := Aside0.mk er
    obtain ⟨g0, g1, g2, g3⟩ := raw_row HW6.out i HI.out
    rw [er] at g0 g1 g2
    have d4 : w6.cell? ⟨gw, i * 14 + 4, none⟩ = some (.int .i64 s2) := g2 4 _ rfl
    have d9 : w6.cell? ⟨gw, i * 14 + 9, none⟩ = some (.bool is2) := g2 9 _ rfl
    have HK6 := Aside0.mk (Kept.of_grown HG6.out (HK4.out.below HB5.out) (fun k hk => .inl (by injection hk with hk; exact hk.symm)))
    have HO6 := Aside0.mk (Kd.R_over' HO.out (Kd.R_typed HW5.out) (by decide) HG6.out)
    have HST := Aside0.mk (fun (q : Value) (row3 : List Value) (h : row3 = (wrow (some ⟨ad.block, ad.off + 3, none⟩) (nn - 1) (c - 1) ⟨k2, x2, y2, s2, u2, v2, ww2, r2, is2, res2⟩ true now pl).take 13 ++ [.int .i64 now]) (w7 : World) (ho : (Kd.raw 14).R 65 w7 w0.heap.size (fun _ => True) (.slice (some ⟨gw, 0, none⟩) m wc) ((R4.set i (wrow (some ⟨ad.block, ad.off + 3, none⟩) (nn - 1) (c - 1) ⟨k2, x2, y2, s2, u2, v2, ww2, r2, is2, res2⟩ true now pl)).set i (wrow (some ⟨ad.block, ad.off + 3, none⟩) (nn - 1) (c - 1) ⟨k2, x2, y2, s2, u2, v2, ww2, r2, is2, res2⟩ true now now))) (hb : Below w0.heap.size w0 w7) (hg : w6.grownBy w7 (some gw)) =>
      (⟨Kd.R_over' HO6.out (Kd.R_typed HW6.out) (by decide) hg, by rw [List.set_set] at ho; exact ho, Kept.of_grown hg HK6.out (fun k hk => .inl (by injection hk with hk; exact hk.symm)), hb⟩ : Kd.R (Kd.int .i64) 3 w7 w4.heap.size (fun _ => True) (.slice A5 up2.length ca5) up2 ∧ (Kd.raw 14).R 65 w7 w0.heap.size (fun _ => True) (.slice (some ⟨gw, 0, none⟩) m wc) (R4.set i (wrow (some ⟨ad.block, ad.off + 3, none⟩) (nn - 1) (c - 1) ⟨k2, x2, y2, s2, u2, v2, ww2, r2, is2, res2⟩ true now now)) ∧ Kept w w7 (fun q => q = gw) ∧ Below w0.heap.size w0 w7))
    clear g0 g1 g2 g3 er HO HB5 HG6 HW5 HBB c1 c2 c3 c4 c5 c6 c7 c8 c9 c10 hb
    have go7 : ∀ (P2 : Prop), P2 → P2 := fun _ h => h
    cases is2 with
    | true =>
      go_wp2_with (first | ((with_reducible refine gate_store (t := 3) (p := 83) rfl ?_); refine Kd.R_store (Kd.raw 14) (w0 := w0) w0.heap.size rfl rfl 3 (.tmp 83) (.tmp 81) rfl 65 (i : Int) 13 (R4.set i (wrow (some ⟨ad.block, ad.off + 3, none⟩) (nn - 1) (c - 1) ⟨k2, x2, y2, s2, u2, v2, ww2, r2, true, res2⟩ true now pl)) (wrow (some ⟨ad.block, ad.off + 3, none⟩) (nn - 1) (c - 1) ⟨k2, x2, y2, s2, u2, v2, ww2, r2, true, res2⟩ true now now) (.int .i64 now) [.int .i64 now] (wrow (some ⟨ad.block, ad.off + 3, none⟩) (nn - 1) (c - 1) ⟨k2, x2, y2, s2, u2, v2, ww2, r2, true, res2⟩ true now pl) (fun _ => True) (fun _ => False) rfl (by simp [Kd.raw]) rfl rfl (by kernel_rfl) ?a1 HW6.out (by omega) (by have := HI.out; omega) rfl ?a2 (by show 13 + 1 ≤ 14; omega) ?a3 (fun _ h => h.elim) HB6.out ?_; (case a1 => intro q hq; simp at hq; rcases hq with rfl; rfl); (case a2 => have h := raw_row HW6.out i HI.out; rw [HER.out] at h; intro j q hq; rw [Int.toNat_natCast]; exact h.2.2.1 j q hq); (case a3 => exact ⟨rfl, rfl, wrow_one (some ⟨ad.block, ad.off + 3, none⟩) (nn - 1) (c - 1) ⟨k2, x2, y2, s2, u2, v2, ww2, r2, true, res2⟩ true now now⟩); intro w7 ho hb hg; rw [Int.toNat_natCast] at ho; have HW7 := Aside0.mk ho; have HB7 := Aside0.mk hb; have HG7 := Aside0.mk hg; clear ho hb hg))
      go_ret
      have hf := HST.out (.int .i64 now) _ rfl _ HW7.out HB7.out HG7.out
      exact ⟨_, _, rfl, Kd.R_lower hf.1 HK4.out.1, by rw [show placeW ⟨k, x, y, s, u, v, ww, r, is, res⟩ ⟨k2, x2, y2, s2, u2, v2, ww2, r2, true, res2⟩ now pl = now from rfl, HDA.out, ← HSS.out]; exact hf.2.1, hf.2.2.1, hf.2.2.2⟩
    | false =>
      by_cases h7 : s < 7
      · have t7 : decide (s < 7) = true := decide_eq_true h7
        by_cases h8 : 7 ≤ s2
        · have t8 : decide (7 ≤ s2) = true := decide_eq_true h8
          have HPL := Aside0.mk (show placeW ⟨k, x, y, s, u, v, ww, r, is, res⟩ ⟨k2, x2, y2, s2, u2, v2, ww2, r2, false, res2⟩ now pl = now by simp [placeW, h7, h8])
          clear h7 h8
          go_wp2_with (first | ((with_reducible refine gate_store (t := 3) (p := 83) rfl ?_); refine Kd.R_store (Kd.raw 14) (w0 := w0) w0.heap.size rfl rfl 3 (.tmp 83) (.tmp 81) rfl 65 (i : Int) 13 (R4.set i (wrow (some ⟨ad.block, ad.off + 3, none⟩) (nn - 1) (c - 1) ⟨k2, x2, y2, s2, u2, v2, ww2, r2, false, res2⟩ true now pl)) (wrow (some ⟨ad.block, ad.off + 3, none⟩) (nn - 1) (c - 1) ⟨k2, x2, y2, s2, u2, v2, ww2, r2, false, res2⟩ true now now) (.int .i64 now) [.int .i64 now] (wrow (some ⟨ad.block, ad.off + 3, none⟩) (nn - 1) (c - 1) ⟨k2, x2, y2, s2, u2, v2, ww2, r2, false, res2⟩ true now pl) (fun _ => True) (fun _ => False) rfl (by simp [Kd.raw]) rfl rfl (by kernel_rfl) ?a1 HW6.out (by omega) (by have := HI.out; omega) rfl ?a2 (by show 13 + 1 ≤ 14; omega) ?a3 (fun _ h => h.elim) HB6.out ?_; (case a1 => intro q hq; simp at hq; rcases hq with rfl; rfl); (case a2 => have h := raw_row HW6.out i HI.out; rw [HER.out] at h; intro j q hq; rw [Int.toNat_natCast]; exact h.2.2.1 j q hq); (case a3 => exact ⟨rfl, rfl, wrow_one (some ⟨ad.block, ad.off + 3, none⟩) (nn - 1) (c - 1) ⟨k2, x2, y2, s2, u2, v2, ww2, r2, false, res2⟩ true now now⟩); intro w7 ho hb hg; rw [Int.toNat_natCast] at ho; have HW7 := Aside0.mk ho; have HB7 := Aside0.mk hb; have HG7 := Aside0.mk hg; clear ho hb hg))
          go_ret
          have hf := HST.out (.int .i64 now) _ rfl _ HW7.out HB7.out HG7.out
          exact ⟨_, _, rfl, Kd.R_lower hf.1 HK4.out.1, by rw [HPL.out, HDA.out, ← HSS.out]; exact hf.2.1, hf.2.2.1, hf.2.2.2⟩
        · have t8 : decide (7 ≤ s2) = false := decide_eq_false h8
          have HPL := Aside0.mk (show placeW ⟨k, x, y, s, u, v, ww, r, is, res⟩ ⟨k2, x2, y2, s2, u2, v2, ww2, r2, false, res2⟩ now pl = pl by simp [placeW, h7, h8])
          clear h7 h8
          go_wp2
          go_ret
          exact ⟨_, _, rfl, Kd.R_lower HO6.out HK4.out.1, by rw [HPL.out, HDA.out, ← HSS.out]; exact HW6.out, HK6.out, HB6.out⟩
      · have t7 : decide (s < 7) = false := decide_eq_false h7
        have HPL := Aside0.mk (show placeW ⟨k, x, y, s, u, v, ww, r, is, res⟩ ⟨k2, x2, y2, s2, u2, v2, ww2, r2, false, res2⟩ now pl = pl by simp [placeW, h7])
        clear h7
        go_wp2
        go_ret
        exact ⟨_, _, rfl, Kd.R_lower HO6.out HK4.out.1, by rw [HPL.out, HDA.out, ← HSS.out]; exact HW6.out, HK6.out, HB6.out⟩
end Go.Proofs.YtmaiicpaalbcfaaDoor

namespace Go.Proofs.YtmaiicpaalbcfaaDoor
open Go.RowKit Go.Proofs.YtmaiicpaalbcfaaDoorW.PrintWords Go.Proofs.YtmaiicpaalbcfaaDoorW.PrintLast Go.Proofs.YtmaiicpaalbcfaaDoorW.PrintMore Go.Proofs.YtmaiicpaalbcfaaDoor.P
set_option linter.unusedVariables false
theorem ne_block {w : World} {g g2 t t2 : Nat} {cs cs2 : Array Value} (h : w.heap[g]? = some (.cells cs t (0, 0))) (h2 : w.heap[g2]? = some (.cells cs2 t2 (0, 0))) (hne : t ≠ t2) : g ≠ g2 := fun e => by
  rw [e, h2] at h
  simp only [Option.some.injEq, Obj.cells.injEq] at h
  exact hne h.2.1.symm
/-- the state of the play -/
structure PSt (w0 w1 w : World) (n gw bp ge : Nat) (WA : Option Addr) (wc : Nat) (ws : List W5) (R : List (List Value)) (up : List Int) (UA : Option Addr) (uc : Nat) (ev : List S42) (EA : Option Addr) (ec : Nat) (at_ last : Int) (P : List Int) (uv : Value) (E : List Bool) : Prop where
  wk : (Kd.raw 14).R 65 w w0.heap.size (fun _ => True) (.slice WA n wc) R
  wa : 0 < n → WA = some ⟨gw, 0, none⟩
  lenW : ws.length = n
  row : ∀ i, i < n → ∃ A c, R.getD i [] = wrow A (ws.getD i z5).l.length c (ws.getD i z5).t (ws.getD i z5).busy (ws.getD i z5).b (ws.getD i z5).pl ∧ (ws.getD i z5).l.length ≤ c ∧ ∀ W', Kept w1 W' (fun q => q = gw) → Kd.C k40 W' A (ws.getD i z5).l.length (ws.getD i z5).l
  kp : Kept w1 w (fun q => q = gw)
  below : Below w0.heap.size w0 w
  ur : Kd.R (Kd.int .i64) 3 w w0.heap.size (fun _ => True) (.slice UA up.length uc) up
  er : Kd.R k42 42 w w0.heap.size (fun _ => True) (.slice EA ev.length ec) ev
  pk : w.heap[bp]? = some (.cells #[uv, .int .i64 at_, .int .i64 last] 58 (0, 0))
  pv : Kd.V (Kd.int .i64) 3 w w0.heap.size (fun k => (k ≠ gw ∧ k ≠ bp ∧ k ≠ ge) ∧ some k ≠ (Value.slice EA ev.length ec).ownBlock) uv P
  en : w.heap[ge]? = some (.cells (E.map Value.bool).toArray 4 (0, 0))
  new : w1.heap.size ≤ bp ∧ w1.heap.size ≤ ge ∧ ∀ q, (Value.slice EA ev.length ec).ownBlock = some q → w1.heap.size ≤ q
  old : w0.heap.size ≤ w1.heap.size ∧ gw < w1.heap.size
section
variable {w0 w1 w w2 w3 : World} {n gw bp ge : Nat} {WA : Option Addr} {wc : Nat} {ws ws2 : List W5} {R : List (List Value)} {up up2 : List Int} {UA UA2 : Option Addr} {uc uc2 : Nat} {ev ev2 : List S42} {EA EA2 : Option Addr} {ec ec2 : Nat} {at_ last : Int} {P : List Int} {uv : Value} {E : List Bool}
theorem PSt.below2 (h : PSt w0 w1 w n gw bp ge WA wc ws R up UA uc ev EA ec at_ last P uv E) (hb : Below w.heap.size w w2) : PSt w0 w1 w2 n gw bp ge WA wc ws R up UA uc ev EA ec at_ last P uv E where
  wk := Kd.R_below h.wk hb
  wa := h.wa
  lenW := h.lenW
  row := h.row
  kp := h.kp.below hb
  below := below_step h.below hb
  ur := Kd.R_below h.ur hb
  er := Kd.R_below h.er hb
  pk := blk_below h.pk hb
  pv := Kd.V_below h.pv hb
  en := blk_below h.en hb
  new := h.new
  old := h.old
theorem PSt.flagged (h : PSt w0 w1 w n gw bp ge WA wc ws R up UA uc ev EA ec at_ last P uv E) (i : Nat) (b : Bool) : PSt w0 w1 (w.setCell ⟨ge, i, none⟩ (.bool b)) n gw bp ge WA wc ws R up UA uc ev EA ec at_ last P uv (E.set i b) where
  wk := Kd.R_mono (Kd.R_far (p := ⟨ge, i, none⟩) (Kd.R_types h.wk h.en (by decide)) (fun _ hk => hk.2) _) (fun _ _ => trivial)
  wa := h.wa
  lenW := h.lenW
  row := h.row
  kp := h.kp.setCell (.inr h.new.2.1) _
  below := below_set h.below (by have := h.new.2.1; have := h.old.1; omega)
  ur := Kd.R_mono (Kd.R_far (p := ⟨ge, i, none⟩) (Kd.R_types h.ur h.en (by decide)) (fun _ hk => hk.2) _) (fun _ _ => trivial)
  er := Kd.R_mono (Kd.R_far (p := ⟨ge, i, none⟩) (Kd.R_types h.er h.en (by decide)) (fun _ hk => hk.2) _) (fun _ _ => trivial)
  pk := blk_far (p := ⟨ge, i, none⟩) h.pk (ne_block h.pk h.en (by decide)) _
  pv := Kd.V_far (p := ⟨ge, i, none⟩) h.pv (fun _ hk => hk.1.2.2) _
  en := blk_put h.en i _ (by simp)
  new := h.new
  old := h.old
/-- the picker anew -/
theorem PSt.picked (h : PSt w0 w1 w n gw bp ge WA wc ws R up UA uc ev EA ec at_ last P uv E) (hb : Below w.heap.size w w2) (v : Value) (at2 last2 : Int)
    (hv : Kd.V (Kd.int .i64) 3 w2 w.heap.size (fun q => ((q ≠ gw ∧ q ≠ bp ∧ q ≠ ge) ∧ some q ≠ (Value.slice EA ev.length ec).ownBlock) ∨ w.heap.size ≤ q) v P) :
    PSt w0 w1 (((w2.setCell ⟨bp, 0, none⟩ v).setCell ⟨bp, 1, none⟩ (.int .i64 at2)).setCell ⟨bp, 2, none⟩ (.int .i64 last2)) n gw bp ge WA wc ws R up UA uc ev EA ec at2 last2 P v E := by
  have z1 := blk_lt h.pk
  have z4 := blk_lt h.en
  have z7 := Kd.R_lt h.er
  have h2 := h.below2 hb
  have hbp : w0.heap.size ≤ bp := by have := h.new.1; have := h.old.1; omega
  have far : ∀ {d : Nat} {cs : Array Value} {g : Nat}, w2.heap[g]? = some (.cells cs d (0, 0)) → g ≠ bp → (((w2.setCell ⟨bp, 0, none⟩ v).setCell ⟨bp, 1, none⟩ (.int .i64 at2)).setCell ⟨bp, 2, none⟩ (.int .i64 last2)).heap[g]? = some (.cells cs d (0, 0)) := fun hc hne => blk_far (p := ⟨bp, 2, none⟩) (blk_far (p := ⟨bp, 1, none⟩) (blk_far (p := ⟨bp, 0, none⟩) hc hne _) hne _) hne _
  refine ⟨Kd.R_mono (Kd.R_far (p := ⟨bp, 2, none⟩) (Kd.R_far (p := ⟨bp, 1, none⟩) (Kd.R_far (p := ⟨bp, 0, none⟩) (Kd.R_types h2.wk h2.pk (by decide)) (fun _ hk => hk.2) _) (fun _ hk => hk.2) _) (fun _ hk => hk.2) _) (fun _ _ => trivial), h.wa, h.lenW, h.row, ((h2.kp.setCell (.inr h.new.1) _).setCell (.inr h.new.1) _).setCell (.inr h.new.1) _, below_set (below_set (below_set h2.below hbp) hbp) hbp,
    Kd.R_mono (Kd.R_far (p := ⟨bp, 2, none⟩) (Kd.R_far (p := ⟨bp, 1, none⟩) (Kd.R_far (p := ⟨bp, 0, none⟩) (Kd.R_types h2.ur h2.pk (by decide)) (fun _ hk => hk.2) _) (fun _ hk => hk.2) _) (fun _ hk => hk.2) _) (fun _ _ => trivial),
    Kd.R_mono (Kd.R_far (p := ⟨bp, 2, none⟩) (Kd.R_far (p := ⟨bp, 1, none⟩) (Kd.R_far (p := ⟨bp, 0, none⟩) (Kd.R_types h2.er h2.pk (by decide)) (fun _ hk => hk.2) _) (fun _ hk => hk.2) _) (fun _ hk => hk.2) _) (fun _ _ => trivial),
    blk_put (blk_put (blk_put h2.pk 0 v rfl) 1 (.int .i64 at2) rfl) 2 (.int .i64 last2) rfl, ?_, far h2.en (ne_block h2.en h2.pk (by decide)), h.new, h.old⟩
  have hv2 : Kd.V (Kd.int .i64) 3 w2 w0.heap.size (fun k => (k ≠ gw ∧ k ≠ bp ∧ k ≠ ge) ∧ some k ≠ (Value.slice EA ev.length ec).ownBlock) v P := by
    refine Kd.V_map (Kd.V_mono hv (fun q hq => ?_)) (fun _ hf => hf)
    rcases hq with hq | hq
    · exact hq
    · exact ⟨⟨by have := h.old.2; have := h.kp.1; omega, by omega, by omega⟩, fun e => by have := z7 q e.symm; omega⟩
  exact Kd.V_far (p := ⟨bp, 2, none⟩) (Kd.V_far (p := ⟨bp, 1, none⟩) (Kd.V_far (p := ⟨bp, 0, none⟩) hv2 (fun _ hk => hk.1.2.1) _) (fun _ hk => hk.1.2.1) _) (fun _ hk => hk.1.2.1) _
/-- a worker has done a step -/
theorem PSt.worked (h : PSt w0 w1 w n gw bp ge WA wc ws R up UA uc ev EA ec at_ last P uv E) (i : Nat) (hi : i < n) (k2 : W5) {A : Option Addr} {c : Nat} (hc : k2.l.length ≤ c) (hC : ∀ W', Kept w1 W' (fun q => q = gw) → Kd.C k40 W' A k2.l.length k2.l)
    (hu : Kd.R (Kd.int .i64) 3 w2 w.heap.size (fun _ => True) (.slice UA2 up2.length uc2) up2) (hw : (Kd.raw 14).R 65 w2 w0.heap.size (fun _ => True) (.slice WA n wc) (R.set i (wrow A k2.l.length c k2.t k2.busy k2.b k2.pl))) (hk : Kept w w2 (fun q => q = gw)) (hb : Below w0.heap.size w0 w2) :
    PSt w0 w1 w2 n gw bp ge WA wc (ws.set i k2) (R.set i (wrow A k2.l.length c k2.t k2.busy k2.b k2.pl)) up2 UA2 uc2 ev EA ec at_ last P uv E where
  wk := hw
  wa := h.wa
  lenW := by rw [List.length_set]; exact h.lenW
  row j hj := by
    have hl : R.length = n := (Kd.R_reads' h.wk).1.symm
    have hl2 := h.lenW
    by_cases e : j = i
    · subst e
      have e1 : (R.set j (wrow A k2.l.length c k2.t k2.busy k2.b k2.pl)).getD j [] = wrow A k2.l.length c k2.t k2.busy k2.b k2.pl := by simp [List.getD_eq_getElem?_getD, show j < R.length by omega]
      have e2 : (ws.set j k2).getD j z5 = k2 := by simp [List.getD_eq_getElem?_getD, show j < ws.length by omega]
      rw [e1, e2]
      exact ⟨A, c, rfl, hc, hC⟩
    · have e1 : (R.set i (wrow A k2.l.length c k2.t k2.busy k2.b k2.pl)).getD j [] = R.getD j [] := by simp only [List.getD_eq_getElem?_getD, List.getElem?_set, if_neg (Ne.symm e)]
      have e2 : (ws.set i k2).getD j z5 = ws.getD j z5 := by simp only [List.getD_eq_getElem?_getD, List.getElem?_set, if_neg (Ne.symm e)]
      rw [e1, e2]
      exact h.row j hj
  kp := h.kp.then_ hk (fun _ hq => .inl hq)
  below := hb
  ur := Kd.R_lower hu (below_size h.below)
  er := by
    obtain ⟨cs, hc⟩ := Kd.R_typed h.wk gw (by rw [h.wa (by omega)]; rfl)
    exact Kd.R_mono (Kd.R_kept (Kd.R_types h.er hc (by decide)) hk (fun _ hq => hq.2)) (fun _ _ => trivial)
  pk := by
    obtain ⟨cs, hc⟩ := Kd.R_typed h.wk gw (by rw [h.wa (by omega)]; rfl)
    exact blk_kept h.pk hk (ne_block h.pk hc (by decide))
  pv := Kd.V_kept h.pv hk (fun _ hq => hq.1.1)
  en := by
    obtain ⟨cs, hc⟩ := Kd.R_typed h.wk gw (by rw [h.wa (by omega)]; rfl)
    exact blk_kept h.en hk (ne_block h.en hc (by decide))
  new := h.new
  old := h.old
/-- an event more -/
theorem PSt.logged (h : PSt w0 w1 w n gw bp ge WA wc ws R up UA uc ev EA ec at_ last P uv E) (hr : Kd.R k42 42 w2 w0.heap.size (fun _ => True) (.slice EA2 ev2.length ec2) ev2) (hb : Below w0.heap.size w0 w2) (hg : w.grownBy w2 (Value.slice EA ev.length ec).ownBlock)
    (hat : (Value.slice EA2 ev2.length ec2).ownBlock = (Value.slice EA ev.length ec).ownBlock ∨ ∃ b, (Value.slice EA2 ev2.length ec2).ownBlock = some b ∧ w.heap.size ≤ b) : PSt w0 w1 w2 n gw bp ge WA wc ws R up UA uc ev2 EA2 ec2 at_ last P uv E := by
  have ne : ∀ {g t : Nat} {cs : Array Value}, w.heap[g]? = some (.cells cs t (0, 0)) → t ≠ 42 → some g ≠ (Value.slice EA ev.length ec).ownBlock := fun hc ht => Kd.R_ne h.er hc (Ne.symm ht)
  refine ⟨Kd.R_over' h.wk (Kd.R_typed h.er) (by decide) hg, h.wa, h.lenW, h.row, Kept.of_grown hg h.kp (fun k hk => .inr (h.new.2.2 k hk)), hb, Kd.R_over' h.ur (Kd.R_typed h.er) (by decide) hg, hr, blk_grown h.pk hg (ne h.pk (by decide)), ?_, blk_grown h.en hg (ne h.en (by decide)), ⟨h.new.1, h.new.2.1, fun q hq => ?_⟩, h.old⟩
  · exact Kd.V_after h.pv hg hat
  · rcases hat with e | ⟨b, e, hle⟩
    · exact h.new.2.2 q (e ▸ hq)
    · rw [e] at hq
      injection hq with hq
      have := h.kp.1
      omega
end
end Go.Proofs.YtmaiicpaalbcfaaDoor
