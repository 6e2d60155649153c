/-
The proofs that YtmaiicpaalbcfaaDoorLawPlayOne needs, out of the texts of this seat; conditions: those named in each theorem.
-/
import Derived.Test.YtmaiicpaalbcfaaDoorZPlayOne2
import Derived.StillTailTactics
import Derived.Laws.MakeOwn
import Derived.Laws.OwnMore
section
namespace Go.Proofs.YtmaiicpaalbcfaaDoor
open Go.RowKit Go.Proofs.YtmaiicpaalbcfaaDoorW.PrintWords Go.Proofs.YtmaiicpaalbcfaaDoorW.PrintLast Go.Proofs.YtmaiicpaalbcfaaDoorW.PrintMore Go.Proofs.YtmaiicpaalbcfaaDoor.P
set_option linter.unusedVariables false
def wrow (A : Option Addr) (n c : Nat) (t : T) (busy : Bool) (b pl : Int) : List Value := [.slice A n c, .int .i64 t.k, .int .i64 t.x, .int .i64 t.y, .int .i64 t.s, .int .i64 t.u, .int .i64 t.v, .int .i64 t.w, .int .i64 t.r, .bool t.is, .int .i64 t.res, .bool busy, .int .i64 b, .int .i64 pl]
end Go.Proofs.YtmaiicpaalbcfaaDoor
namespace Go.Proofs.YtmaiicpaalbcfaaDoor
open Go.RowKit Go.Proofs.YtmaiicpaalbcfaaDoorW.PrintWords Go.Proofs.YtmaiicpaalbcfaaDoorW.PrintLast Go.Proofs.YtmaiicpaalbcfaaDoorW.PrintMore Go.Proofs.YtmaiicpaalbcfaaDoor.P
set_option linter.unusedVariables false
set_option linter.unusedSimpArgs false
theorem step_call (up p : List Int) (t : T) (h : Steps up p t) (UA : Option Addr) (uc : Nat) (PA : Option Addr) (pc : Nat) (w : World) (hup : Kd.C (Kd.int .i64) w UA up.length up) (huc : up.length ≤ uc) (hp : Kd.C (Kd.int .i64) w PA p.length p) (hpc : p.length ≤ pc) :
    Calls Tryd.prog 38 #[.slice UA up.length uc, .slice PA p.length pc, tv t] w fun e w' => ∃ (A : Option Addr) (c : Nat), e = .returned (.tuple #[.slice A (stepL up p t).1.length c, tv (stepL up p t).2]) ∧ Kd.R (Kd.int .i64) 3 w' w.heap.size (fun _ => True) (.slice A (stepL up p t).1.length c) (stepL up p t).1 ∧ Below w.heap.size w w' := by
  obtain ⟨k, x, y, s, u, v, ww, r, is, res⟩ := t
  refine (cuf_Step.calls UA uc up PA pc p k x y s u v ww r is res (stepL up p ⟨k, x, y, s, u, v, ww, r, is, res⟩).1 (stepL up p ⟨k, x, y, s, u, v, ww, r, is, res⟩).2.k (stepL up p ⟨k, x, y, s, u, v, ww, r, is, res⟩).2.x (stepL up p ⟨k, x, y, s, u, v, ww, r, is, res⟩).2.y (stepL up p ⟨k, x, y, s, u, v, ww, r, is, res⟩).2.s (stepL up p ⟨k, x, y, s, u, v, ww, r, is, res⟩).2.u (stepL up p ⟨k, x, y, s, u, v, ww, r, is, res⟩).2.v (stepL up p ⟨k, x, y, s, u, v, ww, r, is, res⟩).2.w (stepL up p ⟨k, x, y, s, u, v, ww, r, is, res⟩).2.r (stepL up p ⟨k, x, y, s, u, v, ww, r, is, res⟩).2.is (stepL up p ⟨k, x, y, s, u, v, ww, r, is, res⟩).2.res w hup huc hp hpc ?_).mono ?_
  · unfold cuf_Step.f
    rw [if_pos h]
    rfl
  · rintro e w' ⟨v0, rfl, ho, hb⟩
    obtain ⟨A, c, rfl⟩ := Kd.R_slice ho
    exact ⟨A, c, rfl, ho, hb⟩
def placeW (t t' : T) (now pl : Int) : Int := if t'.is = true then now else if t.s < 7 then (if 7 ≤ t'.s then now else pl) else pl
theorem raw_row {w : World} {base gw m wc : Nat} {R : List (List Value)} (h : (Kd.raw 14).R 65 w base (fun _ => True) (.slice (some ⟨gw, 0, none⟩) m wc) R) (i : Nat) (hi : i < m) : (R.getD i []).length = 14 ∧ (∀ q ∈ R.getD i [], q.oneCell' = true) ∧ (∀ j u, (R.getD i [])[j]? = some u → w.cell? ⟨gw, i * 14 + j, none⟩ = some u) ∧ ∀ j, w.frozen? ⟨gw, i * 14 + j, none⟩ = false := by
  obtain ⟨c, hcl, hM, hcc, hfr⟩ := Kd.R_elem h [] (i : Int) (by omega) (by omega)
  rw [Int.toNat_natCast] at hM hcc hfr
  obtain ⟨e, _, h1⟩ := hM
  subst e
  exact ⟨hcl, h1, hcc, hfr⟩
theorem wrow_one (A : Option Addr) (n c : Nat) (t : T) (busy : Bool) (b pl : Int) : ∀ q ∈ wrow A n c t busy b pl, q.oneCell' = true := by
  intro q hq
  simp only [wrow, List.mem_cons, List.not_mem_nil, or_false] at hq
  rcases hq with rfl | rfl | rfl | rfl | rfl | rfl | rfl | rfl | rfl | rfl | rfl | rfl | rfl | rfl <;> rfl
set_option maxRecDepth 100000 in
set_option maxHeartbeats 4000000 in
theorem wstep_busy (w0 : World) (gw i m wc : Nat) (R : List (List Value)) (A : Option Addr) (n c : Nat) (t : T) (b pl : Int) (up p : List Int) (UA : Option Addr) (uc : Nat) (PA : Option Addr) (pc : Nat) (now : Int) (w : World) (hi : i < m) (hrow : R.getD i [] = wrow A n c t true b pl) (hw : (Kd.raw 14).R 65 w w0.heap.size (fun _ => True) (.slice (some ⟨gw, 0, none⟩) m wc) R)
    (hup : Kd.C (Kd.int .i64) w UA up.length up) (huc : up.length ≤ uc) (hp : Kd.C (Kd.int .i64) w PA p.length p) (hpc : p.length ≤ pc) (hst : Steps up p t) (hB : Below w0.heap.size w0 w) :
    Calls Tryd.prog 25 #[.pointer (some ⟨gw, i * 14, none⟩), .slice UA up.length uc, .slice PA p.length pc, .int .i64 now] w fun e w' => ∃ (A' : Option Addr) (c' : Nat), e = .returned (.slice A' (stepL up p t).1.length c') ∧ Kd.R (Kd.int .i64) 3 w' w.heap.size (fun _ => True) (.slice A' (stepL up p t).1.length c') (stepL up p t).1 ∧
      (Kd.raw 14).R 65 w' w0.heap.size (fun _ => True) (.slice (some ⟨gw, 0, none⟩) m wc) (R.set i (wrow A n c (stepL up p t).2 true b (placeW t (stepL up p t).2 now pl))) ∧ Kept w w' (fun q => q = gw) ∧ Below w0.heap.size w0 w' := by
  have hu65 := Tryd.underlying65
  have hu63 := Tryd.underlying63
  have HSC := Aside0.mk (fun (w5 : World) (hb : Below w.heap.size w w5) => step_call up p t hst UA uc PA pc w5 (Kd.C_below hup hb) huc (Kd.C_below hp hb) hpc)
  obtain ⟨t2, ht2⟩ : ∃ t2, (stepL up p t).2 = t2 := ⟨_, rfl⟩
  rw [ht2] at HSC ⊢
  generalize (stepL up p t).1 = up2 at *
  clear ht2 hst
  obtain ⟨k, x, y, s, u, v, ww, r, is, res⟩ := t
  obtain ⟨k2, x2, y2, s2, u2, v2, ww2, r2, is2, res2⟩ := t2
  have hlen : R.length = m := (Kd.R_reads' hw).1.symm
  obtain ⟨g0, g1, g2, g3⟩ := raw_row hw i hi
  rw [hrow] at g0 g1 g2
  have c1 : w.cell? ⟨gw, i * 14 + 1, none⟩ = some (.int .i64 k) := g2 1 _ rfl
  have c2 : w.cell? ⟨gw, i * 14 + 2, none⟩ = some (.int .i64 x) := g2 2 _ rfl
  have c3 : w.cell? ⟨gw, i * 14 + 3, none⟩ = some (.int .i64 y) := g2 3 _ rfl
  have c4 : w.cell? ⟨gw, i * 14 + 4, none⟩ = some (.int .i64 s) := g2 4 _ rfl
  have c5 : w.cell? ⟨gw, i * 14 + 5, none⟩ = some (.int .i64 u) := g2 5 _ rfl
  have c6 : w.cell? ⟨gw, i * 14 + 6, none⟩ = some (.int .i64 v) := g2 6 _ rfl
  have c7 : w.cell? ⟨gw, i * 14 + 7, none⟩ = some (.int .i64 ww) := g2 7 _ rfl
  have c8 : w.cell? ⟨gw, i * 14 + 8, none⟩ = some (.int .i64 r) := g2 8 _ rfl
  have c9 : w.cell? ⟨gw, i * 14 + 9, none⟩ = some (.bool is) := g2 9 _ rfl
  have c10 : w.cell? ⟨gw, i * 14 + 10, none⟩ = some (.int .i64 res) := g2 10 _ rfl
  have c11 : w.cell? ⟨gw, i * 14 + 11, none⟩ = some (.bool true) := g2 11 _ rfl
  have HW := Aside0.mk hw
  have HROW := Aside0.mk hrow
  have HB := Aside0.mk hB
  have HI := Aside0.mk hi
  have HLEN := Aside0.mk hlen
  unfold tv at HSC
  clear g0 g1 g2 g3 hw hrow hB hup huc hp hpc hi hlen
  go_enter Tryd.func25, Tryd.ntmps25
  go_upto_region 6 with (first | (go_at_call 38; refine (HSC.out _ (by first | exact Below.refl _ _ | exact below_drew1 (Below.refl _ _) | exact below_drewN (Below.refl _ _) _)).mono ?_; rintro e w5 ⟨A5, ca5, rfl, ho, hb⟩; have hb : Below w.heap.size w w5 := (by first | exact hb | exact Below.trans (below_drew1 (Below.refl _ _)) hb); have HO := Aside0.mk ho; have HB5 := Aside0.mk hb; have HW5 := Aside0.mk (Kd.R_below HW.out hb); have HBB := Aside0.mk (below_step HB.out hb); clear ho hb) | ((with_reducible refine gate_store (t := 63) (p := 62) rfl ?_); refine Kd.R_store (Kd.raw 14) (w0 := w0) w0.heap.size rfl rfl 63 (.tmp 62) (.tmp 60) rfl 65 (i : Int) 1 R (wrow A n c ⟨k2, x2, y2, s2, u2, v2, ww2, r2, is2, res2⟩ true b pl) (tv ⟨k2, x2, y2, s2, u2, v2, ww2, r2, is2, res2⟩) [.int .i64 k2, .int .i64 x2, .int .i64 y2, .int .i64 s2, .int .i64 u2, .int .i64 v2, .int .i64 ww2, .int .i64 r2, .bool is2, .int .i64 res2] (wrow A n c ⟨k, x, y, s, u, v, ww, r, is, res⟩ true b pl) (fun _ => True) (fun _ => False) rfl (by simp [Kd.raw]) rfl rfl (by kernel_rfl) ?a1 HW5.out (by omega) (by have := HI.out; omega) rfl ?a2 (by show 1 + 10 ≤ 14; omega) ?a3 (fun _ h => h.elim) HBB.out ?_; (case a1 => intro q hq; simp at hq; rcases hq with rfl | rfl | rfl | rfl | rfl | rfl | rfl | rfl | rfl | rfl <;> rfl); (case a2 => have h := raw_row HW5.out i HI.out; rw [HROW.out] at h; intro j q hq; rw [Int.toNat_natCast]; exact h.2.2.1 j q hq); (case a3 => exact ⟨rfl, rfl, wrow_one A n c ⟨k2, x2, y2, s2, u2, v2, ww2, r2, is2, res2⟩ true b pl⟩); intro w6 ho hb hg; rw [Int.toNat_natCast] at ho; have HW6 := Aside0.mk ho; have HB6 := Aside0.mk hb; have HG6 := Aside0.mk hg; clear ho hb hg))
  have er : ∀ row2 : List Value, (R.set i row2).getD i [] = row2 := fun row2 => by have := HLEN.out; have := HI.out; simp [List.getD_eq_getElem?_getD, show i < R.length by omega]
  have HER := Aside0.mk er
  obtain ⟨g0, g1, g2, g3⟩ := raw_row HW6.out i HI.out
  rw [er] at g0 g1 g2
  have d4 : w6.cell? ⟨gw, i * 14 + 4, none⟩ = some (.int .i64 s2) := g2 4 _ rfl
  have d9 : w6.cell? ⟨gw, i * 14 + 9, none⟩ = some (.bool is2) := g2 9 _ rfl
  have HK6 := Aside0.mk (Kept.of_grown HG6.out (Kept.of_below HB5.out (fun q => q = gw)) (fun k hk => .inl (by injection hk with hk; exact hk.symm)))
  have HO6 := Aside0.mk (Kd.R_over' HO.out (Kd.R_typed HW5.out) (by decide) HG6.out)
  have HST := Aside0.mk (fun (q : Value) (row3 : List Value) (h : row3 = (wrow A n c ⟨k2, x2, y2, s2, u2, v2, ww2, r2, is2, res2⟩ true b pl).take 13 ++ [.int .i64 now]) (w7 : World) (ho : (Kd.raw 14).R 65 w7 w0.heap.size (fun _ => True) (.slice (some ⟨gw, 0, none⟩) m wc) ((R.set i (wrow A n c ⟨k2, x2, y2, s2, u2, v2, ww2, r2, is2, res2⟩ true b pl)).set i (wrow A n c ⟨k2, x2, y2, s2, u2, v2, ww2, r2, is2, res2⟩ true b now))) (hb : Below w0.heap.size w0 w7) (hg : w6.grownBy w7 (some gw)) =>
    (⟨Kd.R_over' HO6.out (Kd.R_typed HW6.out) (by decide) hg, by rw [List.set_set] at ho; exact ho, Kept.of_grown hg HK6.out (fun k hk => .inl (by injection hk with hk; exact hk.symm)), hb⟩ : Kd.R (Kd.int .i64) 3 w7 w.heap.size (fun _ => True) (.slice A5 up2.length ca5) up2 ∧ (Kd.raw 14).R 65 w7 w0.heap.size (fun _ => True) (.slice (some ⟨gw, 0, none⟩) m wc) (R.set i (wrow A n c ⟨k2, x2, y2, s2, u2, v2, ww2, r2, is2, res2⟩ true b now)) ∧ Kept w w7 (fun q => q = gw) ∧ Below w0.heap.size w0 w7))
  clear g0 g1 g2 g3 er HO HB5 HG6 HW5 HBB c1 c2 c3 c4 c5 c6 c7 c8 c9 c10 c11 hb
  have go7 : ∀ (P2 : Prop), P2 → P2 := fun _ h => h
  cases is2 with
  | true =>
    go_wp2_with (first | ((with_reducible refine gate_store (t := 3) (p := 83) rfl ?_); refine Kd.R_store (Kd.raw 14) (w0 := w0) w0.heap.size rfl rfl 3 (.tmp 83) (.tmp 81) rfl 65 (i : Int) 13 (R.set i (wrow A n c ⟨k2, x2, y2, s2, u2, v2, ww2, r2, true, res2⟩ true b pl)) (wrow A n c ⟨k2, x2, y2, s2, u2, v2, ww2, r2, true, res2⟩ true b now) (.int .i64 now) [.int .i64 now] (wrow A n c ⟨k2, x2, y2, s2, u2, v2, ww2, r2, true, res2⟩ true b pl) (fun _ => True) (fun _ => False) rfl (by simp [Kd.raw]) rfl rfl (by kernel_rfl) ?a1 HW6.out (by omega) (by have := HI.out; omega) rfl ?a2 (by show 13 + 1 ≤ 14; omega) ?a3 (fun _ h => h.elim) HB6.out ?_; (case a1 => intro q hq; simp at hq; rcases hq with rfl; rfl); (case a2 => have h := raw_row HW6.out i HI.out; rw [HER.out] at h; intro j q hq; rw [Int.toNat_natCast]; exact h.2.2.1 j q hq); (case a3 => exact ⟨rfl, rfl, wrow_one A n c ⟨k2, x2, y2, s2, u2, v2, ww2, r2, true, res2⟩ true b now⟩); intro w7 ho hb hg; rw [Int.toNat_natCast] at ho; have HW7 := Aside0.mk ho; have HB7 := Aside0.mk hb; have HG7 := Aside0.mk hg; clear ho hb hg))
    go_ret
    have hf := HST.out (.int .i64 now) _ rfl _ HW7.out HB7.out HG7.out
    exact ⟨_, _, rfl, hf.1, by rw [show placeW ⟨k, x, y, s, u, v, ww, r, is, res⟩ ⟨k2, x2, y2, s2, u2, v2, ww2, r2, true, res2⟩ now pl = now from rfl]; exact hf.2.1, hf.2.2.1, hf.2.2.2⟩
  | false =>
    by_cases h7 : s < 7
    · have t7 : decide (s < 7) = true := decide_eq_true h7
      by_cases h8 : 7 ≤ s2
      · have t8 : decide (7 ≤ s2) = true := decide_eq_true h8
        have HPL := Aside0.mk (show placeW ⟨k, x, y, s, u, v, ww, r, is, res⟩ ⟨k2, x2, y2, s2, u2, v2, ww2, r2, false, res2⟩ now pl = now by simp [placeW, h7, h8])
        clear h7 h8
        go_wp2_with (first | ((with_reducible refine gate_store (t := 3) (p := 83) rfl ?_); refine Kd.R_store (Kd.raw 14) (w0 := w0) w0.heap.size rfl rfl 3 (.tmp 83) (.tmp 81) rfl 65 (i : Int) 13 (R.set i (wrow A n c ⟨k2, x2, y2, s2, u2, v2, ww2, r2, false, res2⟩ true b pl)) (wrow A n c ⟨k2, x2, y2, s2, u2, v2, ww2, r2, false, res2⟩ true b now) (.int .i64 now) [.int .i64 now] (wrow A n c ⟨k2, x2, y2, s2, u2, v2, ww2, r2, false, res2⟩ true b pl) (fun _ => True) (fun _ => False) rfl (by simp [Kd.raw]) rfl rfl (by kernel_rfl) ?a1 HW6.out (by omega) (by have := HI.out; omega) rfl ?a2 (by show 13 + 1 ≤ 14; omega) ?a3 (fun _ h => h.elim) HB6.out ?_; (case a1 => intro q hq; simp at hq; rcases hq with rfl; rfl); (case a2 => have h := raw_row HW6.out i HI.out; rw [HER.out] at h; intro j q hq; rw [Int.toNat_natCast]; exact h.2.2.1 j q hq); (case a3 => exact ⟨rfl, rfl, wrow_one A n c ⟨k2, x2, y2, s2, u2, v2, ww2, r2, false, res2⟩ true b now⟩); intro w7 ho hb hg; rw [Int.toNat_natCast] at ho; have HW7 := Aside0.mk ho; have HB7 := Aside0.mk hb; have HG7 := Aside0.mk hg; clear ho hb hg))
        go_ret
        have hf := HST.out (.int .i64 now) _ rfl _ HW7.out HB7.out HG7.out
        exact ⟨_, _, rfl, hf.1, by rw [HPL.out]; exact hf.2.1, hf.2.2.1, hf.2.2.2⟩
      · have t8 : decide (7 ≤ s2) = false := decide_eq_false h8
        have HPL := Aside0.mk (show placeW ⟨k, x, y, s, u, v, ww, r, is, res⟩ ⟨k2, x2, y2, s2, u2, v2, ww2, r2, false, res2⟩ now pl = pl by simp [placeW, h7, h8])
        clear h7 h8
        go_wp2
        go_ret
        exact ⟨_, _, rfl, HO6.out, by rw [HPL.out]; exact HW6.out, HK6.out, HB6.out⟩
    · have t7 : decide (s < 7) = false := decide_eq_false h7
      have HPL := Aside0.mk (show placeW ⟨k, x, y, s, u, v, ww, r, is, res⟩ ⟨k2, x2, y2, s2, u2, v2, ww2, r2, false, res2⟩ now pl = pl by simp [placeW, h7])
      clear h7
      go_wp2
      go_ret
      exact ⟨_, _, rfl, HO6.out, by rw [HPL.out]; exact HW6.out, HK6.out, HB6.out⟩
end Go.Proofs.YtmaiicpaalbcfaaDoor
namespace Go.Proofs.YtmaiicpaalbcfaaDoor
open Go.RowKit Go.Proofs.YtmaiicpaalbcfaaDoorW.PrintWords Go.Proofs.YtmaiicpaalbcfaaDoorW.PrintLast Go.Proofs.YtmaiicpaalbcfaaDoorW.PrintMore Go.Proofs.YtmaiicpaalbcfaaDoor.P
set_option linter.unusedVariables false
structure W5 where
  l : List S40
  t : T
  busy : Bool
  b : Int
  pl : Int
def t0 : T := ⟨0, 0, 0, 0, 0, 0, 0, 0, false, 0⟩
def z5 : W5 := ⟨[], t0, false, 0, 0⟩
def validB (n : Int) (o : S40) : Bool := beginB o.f0 o.f1 o.f2 n
def bitOn (going : Int) (i : Nat) : Bool := decide (Go.bits .and .u64 (shr .u64 going (i : Int)) 1 > 0)
def enG (n : Nat) (going : Int) : List Bool := (List.range n).map (bitOn going)
def goesOn (n now : Int) (k : W5) : Option (List S40 × T × Int) :=
  if k.busy = true then some (k.l, k.t, k.b)
  else match k.l with
    | [] => none
    | o :: r => if validB n o = true then some (r, beginT o.f0 o.f1 o.f2 n, now) else none
def eventS (i : Nat) (t : T) (b now found : Int) : S42 := ⟨(i : Int), ⟨t.k, t.x, t.y⟩, t.res, b, if t.k = 2 ∧ t.res = 0 then found else now, now⟩
def playL (n : Nat) (prio P : List Int) : Nat → List W5 → List Int → Int → Int → Int → Int → List S42 → Option (List S42 × List Int × Int)
  | 0, _, _, _, _, _, _, _ => none
  | g + 1, ws, up, going, at_, last, steps, ev =>
    if going = 0 then some (ev, up, steps)
    else if 0 ≤ whoS P at_ last (Bits.idx (enG n going)) ∧ whoS P at_ last (Bits.idx (enG n going)) < n ∧ 0 ≤ steps ∧ steps < 1000000000 ∧ ev.length < 1000000 then
      match goesOn prio.length (steps + 1) (ws.getD (whoS P at_ last (Bits.idx (enG n going))).toNat z5) with
      | none => none
      | some (l, t, b) =>
        if Steps up prio t then
          if (stepL up prio t).2.is = true then
            playL n prio P g (ws.set (whoS P at_ last (Bits.idx (enG n going))).toNat ⟨l, (stepL up prio t).2, false, b, placeW t (stepL up prio t).2 (steps + 1) (ws.getD (whoS P at_ last (Bits.idx (enG n going))).toNat z5).pl⟩) (stepL up prio t).1
              (if l = [] then Go.bits .andNot .u64 going (shl .u64 1 (whoS P at_ last (Bits.idx (enG n going)))) else going)
              (atS P at_ (Bits.idx (enG n going))) (lastS P at_ last (Bits.idx (enG n going))) (steps + 1) (ev ++ [eventS (whoS P at_ last (Bits.idx (enG n going))).toNat (stepL up prio t).2 b (steps + 1) (ws.getD (whoS P at_ last (Bits.idx (enG n going))).toNat z5).pl])
          else playL n prio P g (ws.set (whoS P at_ last (Bits.idx (enG n going))).toNat ⟨l, (stepL up prio t).2, true, b, placeW t (stepL up prio t).2 (steps + 1) (ws.getD (whoS P at_ last (Bits.idx (enG n going))).toNat z5).pl⟩) (stepL up prio t).1 going
              (atS P at_ (Bits.idx (enG n going))) (lastS P at_ last (Bits.idx (enG n going))) (steps + 1) ev
        else none
    else none
end Go.Proofs.YtmaiicpaalbcfaaDoor
namespace Go.Proofs.YtmaiicpaalbcfaaDoor
open Go.RowKit Go.Proofs.YtmaiicpaalbcfaaDoorW.PrintWords Go.Proofs.YtmaiicpaalbcfaaDoorW.PrintLast Go.Proofs.YtmaiicpaalbcfaaDoorW.PrintMore Go.Proofs.YtmaiicpaalbcfaaDoor.P
set_option linter.unusedVariables false
set_option linter.unusedSimpArgs false
def dropA (A : Option Addr) (c : Nat) : Option Addr := if c = 1 then A else A.map (·.add 3)
set_option maxRecDepth 100000 in
set_option maxHeartbeats 4000000 in
theorem wstep_new (w0 : World) (gw i m wc : Nat) (R : List (List Value)) (A : Option Addr) (c : Nat) (o : S40) (l : List S40) (told : T) (b pl : Int) (up p : List Int) (UA : Option Addr) (uc : Nat) (PA : Option Addr) (pc : Nat) (now : Int) (w : World) (hi : i < m) (hrow : R.getD i [] = wrow A (o :: l).length c told false b pl) (hw : (Kd.raw 14).R 65 w w0.heap.size (fun _ => True) (.slice (some ⟨gw, 0, none⟩) m wc) R)
    (hC : Kd.C k40 w A (o :: l).length (o :: l)) (hcap : (o :: l).length ≤ c) (hv : beginB o.f0 o.f1 o.f2 p.length = true) (hup : ∀ W', Kept w W' (fun q => q = gw) → Kd.C (Kd.int .i64) W' UA up.length up) (huc : up.length ≤ uc) (hp : ∀ W', Kept w W' (fun q => q = gw) → Kd.C (Kd.int .i64) W' PA p.length p) (hpc : p.length ≤ pc) (hst : Steps up p (beginT o.f0 o.f1 o.f2 p.length)) (hB : Below w0.heap.size w0 w) :
    Calls Tryd.prog 25 #[.pointer (some ⟨gw, i * 14, none⟩), .slice UA up.length uc, .slice PA p.length pc, .int .i64 now] w fun e w' => ∃ (A' : Option Addr) (c' : Nat), e = .returned (.slice A' (stepL up p (beginT o.f0 o.f1 o.f2 p.length)).1.length c') ∧ Kd.R (Kd.int .i64) 3 w' w.heap.size (fun _ => True) (.slice A' (stepL up p (beginT o.f0 o.f1 o.f2 p.length)).1.length c') (stepL up p (beginT o.f0 o.f1 o.f2 p.length)).1 ∧
      (Kd.raw 14).R 65 w' w0.heap.size (fun _ => True) (.slice (some ⟨gw, 0, none⟩) m wc) (R.set i (wrow (dropA A c) l.length (c - 1) (stepL up p (beginT o.f0 o.f1 o.f2 p.length)).2 true now (placeW (beginT o.f0 o.f1 o.f2 p.length) (stepL up p (beginT o.f0 o.f1 o.f2 p.length)).2 now pl))) ∧ Kept w w' (fun q => q = gw) ∧ Below w0.heap.size w0 w' := by
  have hu65 := Tryd.underlying65
  have hu63 := Tryd.underlying63
  have hu40 := Tryd.underlying40
  have HSC0 := Aside0.mk (fun (w5 : World) (hb : Kept w w5 (fun q => q = gw)) => step_call up p (beginT o.f0 o.f1 o.f2 p.length) hst UA uc PA pc w5 (hup w5 hb) huc (hp w5 hb) hpc)
  have hbg := fun (w5 : World) => begin_any o.f0 o.f1 o.f2 p.length w5
  unfold BeginP at hbg
  rw [hv] at hbg
  obtain ⟨t2, ht2⟩ : ∃ t2, (stepL up p (beginT o.f0 o.f1 o.f2 p.length)).2 = t2 := ⟨_, rfl⟩
  rw [ht2] at HSC0 ⊢
  generalize (stepL up p (beginT o.f0 o.f1 o.f2 p.length)).1 = up2 at *
  clear ht2 hst
  generalize beginT o.f0 o.f1 o.f2 p.length = tb at *
  obtain ⟨k, x, y, s, u, v, ww, r, is, res⟩ := tb
  obtain ⟨k2, x2, y2, s2, u2, v2, ww2, r2, is2, res2⟩ := t2
  have HBG := Aside0.mk hbg
  have hlen : R.length = m := (Kd.R_reads' hw).1.symm
  obtain ⟨ad, hA, q0, q1, q2⟩ := at_T40 hC 0 (by omega) (by simp)
  subst hA
  have e0 : rd_T40 (o :: l) 0 = o := rfl
  rw [e0] at q0 q1 q2
  simp only [Int.toNat_zero, Nat.zero_mul] at q0 q1 q2
  have ea : ad.add 0 = ad := by cases ad; simp [Addr.add]
  rw [ea] at q0 q1 q2
  have p1 : (0 : Int) < (((o :: l).length : Nat) : Int) := by rw [List.length_cons]; omega
  have pp : 0 < (o :: l).length := by simp
  have HNN := Aside0.mk (show (o :: l).length = l.length + 1 from rfl)
  generalize (o :: l).length = nn at *
  have HLL := Aside0.mk (show nn - 1 = l.length by have := HNN.out; omega)
  rw [← HLL.out]
  obtain ⟨g0, g1, g2, g3⟩ := raw_row hw i hi
  rw [hrow] at g0 g1 g2
  have cl : w.cell? ⟨gw, i * 14, none⟩ = some (.slice (some ad) nn c) := g2 0 _ rfl
  have c11 : w.cell? ⟨gw, i * 14 + 11, none⟩ = some (.bool false) := g2 11 _ rfl
  have HW0 := Aside0.mk hw
  have HROW := Aside0.mk hrow
  have HB0 := Aside0.mk hB
  have HI := Aside0.mk hi
  have HLEN0 := Aside0.mk hlen
  have HCAP := Aside0.mk hcap
  have er : ∀ row2 : List Value, (R.set i row2).getD i [] = row2 := fun row2 => by have := HLEN0.out; have := HI.out; simp [List.getD_eq_getElem?_getD, show i < R.length by omega]
  have HER := Aside0.mk er
  unfold tv at HSC0 HBG
  clear g0 g1 g2 g3 hw hrow hB hup huc hp hpc hi hlen hC hcap hbg hv e0 ea er
  go_enter Tryd.func25, Tryd.ntmps25
  go_upto_region 3 with (first | (go_at_call 33; refine (HBG.out _).mono ?_; rintro e w1 ⟨rfl, hb⟩; have hb : Below w.heap.size w w1 := (by first | exact hb | exact Below.trans (below_drew1 (Below.refl _ _)) hb); have HW1 := Aside0.mk (Kd.R_below HW0.out hb); have HB1 := Aside0.mk (below_step HB0.out hb); have HK1 := Aside0.mk (Kept.of_below hb (fun q => q = gw)); clear hb) | ((with_reducible refine gate_store (t := 63) (p := 30) rfl ?_); refine Kd.R_store (Kd.raw 14) (w0 := w0) w0.heap.size rfl rfl 63 (.tmp 30) (.tmp 27) rfl 65 (i : Int) 1 R (wrow (some ad) nn c ⟨k, x, y, s, u, v, ww, r, is, res⟩ false b pl) (tv ⟨k, x, y, s, u, v, ww, r, is, res⟩) [.int .i64 k, .int .i64 x, .int .i64 y, .int .i64 s, .int .i64 u, .int .i64 v, .int .i64 ww, .int .i64 r, .bool is, .int .i64 res] (wrow (some ad) nn c told false b pl) (fun _ => True) (fun _ => False) rfl (by simp [Kd.raw]) rfl rfl (by kernel_rfl) ?a1 HW1.out (by omega) (by have := HI.out; omega) rfl ?a2 (by show 1 + 10 ≤ 14; omega) ?a3 (fun _ h => h.elim) HB1.out ?_; (case a1 => intro q hq; simp at hq; rcases hq with rfl | rfl | rfl | rfl | rfl | rfl | rfl | rfl | rfl | rfl <;> rfl); (case a2 => have h := raw_row HW1.out i HI.out; rw [HROW.out] at h; intro j q hq; rw [Int.toNat_natCast]; exact h.2.2.1 j q hq); (case a3 => exact ⟨rfl, rfl, wrow_one (some ad) nn c ⟨k, x, y, s, u, v, ww, r, is, res⟩ false b pl⟩); intro w2 ho hb hg; rw [Int.toNat_natCast] at ho; have HW2 := Aside0.mk ho; have HB2 := Aside0.mk hb; have HK2 := Aside0.mk (Kept.of_grown hg HK1.out (fun k hk => .inl (by injection hk with hk; exact hk.symm))); clear ho hb hg) | ((with_reducible refine gate_store (t := 4) (p := 32) rfl ?_); refine Kd.R_store (Kd.raw 14) (w0 := w0) w0.heap.size rfl rfl 4 (.tmp 32) (.tmp 28) rfl 65 (i : Int) 11 (R.set i (wrow (some ad) nn c ⟨k, x, y, s, u, v, ww, r, is, res⟩ false b pl)) (wrow (some ad) nn c ⟨k, x, y, s, u, v, ww, r, is, res⟩ true b pl) (.bool true) [.bool true] (wrow (some ad) nn c ⟨k, x, y, s, u, v, ww, r, is, res⟩ false b pl) (fun _ => True) (fun _ => False) rfl (by simp [Kd.raw]) rfl rfl (by kernel_rfl) ?a1 HW2.out (by omega) (by have := HI.out; omega) rfl ?a2 (by show 11 + 1 ≤ 14; omega) ?a3 (fun _ h => h.elim) HB2.out ?_; (case a1 => intro q hq; simp at hq; rcases hq with rfl; rfl); (case a2 => have h := raw_row HW2.out i HI.out; rw [HER.out] at h; intro j q hq; rw [Int.toNat_natCast]; exact h.2.2.1 j q hq); (case a3 => exact ⟨rfl, rfl, wrow_one (some ad) nn c ⟨k, x, y, s, u, v, ww, r, is, res⟩ true b pl⟩); intro w3 ho hb hg; rw [Int.toNat_natCast, List.set_set] at ho; have HW3 := Aside0.mk ho; have HB3 := Aside0.mk hb; have HK3 := Aside0.mk (Kept.of_grown hg HK2.out (fun k hk => .inl (by injection hk with hk; exact hk.symm))); clear ho hb hg))
  clear cl c11 q0 q1 q2
  obtain ⟨g0, g1, g2, g3⟩ := raw_row HW3.out i HI.out
  rw [HER.out] at g0 g1 g2
  have cl : w3.cell? ⟨gw, i * 14, none⟩ = some (.slice (some ad) nn c) := g2 0 _ rfl
  clear g0 g1 g2 g3
  by_cases hc1 : c = 1
  · subst hc1
    go_upto_region 4 with (first | ((with_reducible refine gate_store (t := 43) (p := 42) rfl ?_); refine Kd.R_store (Kd.raw 14) (w0 := w0) w0.heap.size rfl rfl 43 (.tmp 42) (.tmp 39) rfl 65 (i : Int) 0 (R.set i (wrow (some ad) nn 1 ⟨k, x, y, s, u, v, ww, r, is, res⟩ true b pl)) (wrow (some ad) (nn - 1) (1 - 1) ⟨k, x, y, s, u, v, ww, r, is, res⟩ true b pl) (.slice (some ad) (nn - 1) (1 - 1)) [.slice (some ad) (nn - 1) (1 - 1)] (wrow (some ad) nn 1 ⟨k, x, y, s, u, v, ww, r, is, res⟩ true b pl) (fun _ => True) (fun _ => False) rfl (by simp [Kd.raw]) rfl rfl (by kernel_rfl) ?a1 HW3.out (by omega) (by have := HI.out; omega) rfl ?a2 (by show 0 + 1 ≤ 14; omega) ?a3 (fun _ h => h.elim) HB3.out ?_; (case a1 => intro q hq; simp at hq; rcases hq with rfl; rfl); (case a2 => have h := raw_row HW3.out i HI.out; rw [HER.out] at h; intro j q hq; rw [Int.toNat_natCast]; exact h.2.2.1 j q hq); (case a3 => exact ⟨rfl, rfl, wrow_one (some ad) (nn - 1) (1 - 1) ⟨k, x, y, s, u, v, ww, r, is, res⟩ true b pl⟩); intro w35 ho hb hg; rw [Int.toNat_natCast, List.set_set] at ho; have HW35 := Aside0.mk ho; have HB35 := Aside0.mk hb; have HK35 := Aside0.mk (Kept.of_grown hg HK3.out (fun k hk => .inl (by injection hk with hk; exact hk.symm))); clear ho hb hg) | ((with_reducible refine gate_store (t := 3) (p := 44) rfl ?_); refine Kd.R_store (Kd.raw 14) (w0 := w0) w0.heap.size rfl rfl 3 (.tmp 44) (.tmp 40) rfl 65 (i : Int) 12 (R.set i (wrow (some ad) (nn - 1) (1 - 1) ⟨k, x, y, s, u, v, ww, r, is, res⟩ true b pl)) (wrow (some ad) (nn - 1) (1 - 1) ⟨k, x, y, s, u, v, ww, r, is, res⟩ true now pl) (.int .i64 now) [.int .i64 now] (wrow (some ad) (nn - 1) (1 - 1) ⟨k, x, y, s, u, v, ww, r, is, res⟩ true b pl) (fun _ => True) (fun _ => False) rfl (by simp [Kd.raw]) rfl rfl (by kernel_rfl) ?a1 HW35.out (by omega) (by have := HI.out; omega) rfl ?a2 (by show 12 + 1 ≤ 14; omega) ?a3 (fun _ h => h.elim) HB35.out ?_; (case a1 => intro q hq; simp at hq; rcases hq with rfl; rfl); (case a2 => have h := raw_row HW35.out i HI.out; rw [HER.out] at h; intro j q hq; rw [Int.toNat_natCast]; exact h.2.2.1 j q hq); (case a3 => exact ⟨rfl, rfl, wrow_one (some ad) (nn - 1) (1 - 1) ⟨k, x, y, s, u, v, ww, r, is, res⟩ true now pl⟩); intro w4 ho hb hg; rw [Int.toNat_natCast, List.set_set] at ho; have HW4 := Aside0.mk ho; have HB4 := Aside0.mk hb; have HK4 := Aside0.mk (Kept.of_grown hg HK35.out (fun k hk => .inl (by injection hk with hk; exact hk.symm))); clear ho hb hg))
    clear cl
    obtain ⟨R4, hR4⟩ : ∃ R4, R.set i (wrow (some ad) (nn - 1) (1 - 1) ⟨k, x, y, s, u, v, ww, r, is, res⟩ true now pl) = R4 := ⟨_, rfl⟩
    have HROW4 := Aside0.mk (show R4.getD i [] = wrow (some ad) (nn - 1) (1 - 1) ⟨k, x, y, s, u, v, ww, r, is, res⟩ true now pl by rw [← hR4]; exact HER.out _)
    have HSS := Aside0.mk (show ∀ r : List Value, R4.set i r = R.set i r from fun r => by rw [← hR4, List.set_set])
    have HW := Aside0.mk (show (Kd.raw 14).R 65 w4 w0.heap.size (fun _ => True) (.slice (some ⟨gw, 0, none⟩) m wc) R4 by rw [← hR4]; exact HW4.out)
    have HLEN := Aside0.mk (show R4.length = m by rw [← hR4, List.length_set]; exact HLEN0.out)
    have HB := Aside0.mk HB4.out
    have HSC := Aside0.mk (fun (w5 : World) (hb : Below w4.heap.size w4 w5) => HSC0.out w5 (HK4.out.below hb))
    clear HROW HER HW0 HW1 HW2 HW3 HW4 HB0 HB1 HB2 HB3 HB4 HK1 HK2 HK3 hR4
    have HROW := HROW4
    clear HROW4
    obtain ⟨g0, g1, g2, g3⟩ := raw_row HW.out i HI.out
    rw [HROW.out] at g0 g1 g2
    have c1 : w4.cell? ⟨gw, i * 14 + 1, none⟩ = some (.int .i64 k) := g2 1 _ rfl
    have c2 : w4.cell? ⟨gw, i * 14 + 2, none⟩ = some (.int .i64 x) := g2 2 _ rfl
    have c3 : w4.cell? ⟨gw, i * 14 + 3, none⟩ = some (.int .i64 y) := g2 3 _ rfl
    have c4 : w4.cell? ⟨gw, i * 14 + 4, none⟩ = some (.int .i64 s) := g2 4 _ rfl
    have c5 : w4.cell? ⟨gw, i * 14 + 5, none⟩ = some (.int .i64 u) := g2 5 _ rfl
    have c6 : w4.cell? ⟨gw, i * 14 + 6, none⟩ = some (.int .i64 v) := g2 6 _ rfl
    have c7 : w4.cell? ⟨gw, i * 14 + 7, none⟩ = some (.int .i64 ww) := g2 7 _ rfl
    have c8 : w4.cell? ⟨gw, i * 14 + 8, none⟩ = some (.int .i64 r) := g2 8 _ rfl
    have c9 : w4.cell? ⟨gw, i * 14 + 9, none⟩ = some (.bool is) := g2 9 _ rfl
    have c10 : w4.cell? ⟨gw, i * 14 + 10, none⟩ = some (.int .i64 res) := g2 10 _ rfl
    clear g0 g1 g2 g3
    have HDA := Aside0.mk (show dropA (some ad) 1 = (some ad) from rfl)
    go_upto_region 6 with (first | (go_at_call 38; refine (HSC.out _ (by first | exact Below.refl _ _ | exact below_drew1 (Below.refl _ _) | exact below_drewN (Below.refl _ _) _)).mono ?_; rintro e w5 ⟨A5, ca5, rfl, ho, hb⟩; have hb : Below w4.heap.size w4 w5 := (by first | exact hb | exact Below.trans (below_drew1 (Below.refl _ _)) hb); have HO := Aside0.mk ho; have HB5 := Aside0.mk hb; have HW5 := Aside0.mk (Kd.R_below HW.out hb); have HBB := Aside0.mk (below_step HB.out hb); clear ho hb) | ((with_reducible refine gate_store (t := 63) (p := 62) rfl ?_); refine Kd.R_store (Kd.raw 14) (w0 := w0) w0.heap.size rfl rfl 63 (.tmp 62) (.tmp 60) rfl 65 (i : Int) 1 R4 (wrow (some ad) (nn - 1) (1 - 1) ⟨k2, x2, y2, s2, u2, v2, ww2, r2, is2, res2⟩ true now pl) (tv ⟨k2, x2, y2, s2, u2, v2, ww2, r2, is2, res2⟩) [.int .i64 k2, .int .i64 x2, .int .i64 y2, .int .i64 s2, .int .i64 u2, .int .i64 v2, .int .i64 ww2, .int .i64 r2, .bool is2, .int .i64 res2] (wrow (some ad) (nn - 1) (1 - 1) ⟨k, x, y, s, u, v, ww, r, is, res⟩ true now pl) (fun _ => True) (fun _ => False) rfl (by simp [Kd.raw]) rfl rfl (by kernel_rfl) ?a1 HW5.out (by omega) (by have := HI.out; omega) rfl ?a2 (by show 1 + 10 ≤ 14; omega) ?a3 (fun _ h => h.elim) HBB.out ?_; (case a1 => intro q hq; simp at hq; rcases hq with rfl | rfl | rfl | rfl | rfl | rfl | rfl | rfl | rfl | rfl <;> rfl); (case a2 => have h := raw_row HW5.out i HI.out; rw [HROW.out] at h; intro j q hq; rw [Int.toNat_natCast]; exact h.2.2.1 j q hq); (case a3 => exact ⟨rfl, rfl, wrow_one (some ad) (nn - 1) (1 - 1) ⟨k2, x2, y2, s2, u2, v2, ww2, r2, is2, res2⟩ true now pl⟩); intro w6 ho hb hg; rw [Int.toNat_natCast] at ho; have HW6 := Aside0.mk ho; have HB6 := Aside0.mk hb; have HG6 := Aside0.mk hg; clear ho hb hg))
    have er : ∀ row2 : List Value, (R4.set i row2).getD i [] = row2 := fun row2 => by have := HLEN.out; have := HI.out; simp [List.getD_eq_getElem?_getD, show i < R4.length by omega]
    have HER := Aside0.mk er
    obtain ⟨g0, g1, g2, g3⟩ := raw_row HW6.out i HI.out
    rw [er] at g0 g1 g2
    have d4 : w6.cell? ⟨gw, i * 14 + 4, none⟩ = some (.int .i64 s2) := g2 4 _ rfl
    have d9 : w6.cell? ⟨gw, i * 14 + 9, none⟩ = some (.bool is2) := g2 9 _ rfl
    have HK6 := Aside0.mk (Kept.of_grown HG6.out (HK4.out.below HB5.out) (fun k hk => .inl (by injection hk with hk; exact hk.symm)))
    have HO6 := Aside0.mk (Kd.R_over' HO.out (Kd.R_typed HW5.out) (by decide) HG6.out)
    have HST := Aside0.mk (fun (q : Value) (row3 : List Value) (h : row3 = (wrow (some ad) (nn - 1) (1 - 1) ⟨k2, x2, y2, s2, u2, v2, ww2, r2, is2, res2⟩ true now pl).take 13 ++ [.int .i64 now]) (w7 : World) (ho : (Kd.raw 14).R 65 w7 w0.heap.size (fun _ => True) (.slice (some ⟨gw, 0, none⟩) m wc) ((R4.set i (wrow (some ad) (nn - 1) (1 - 1) ⟨k2, x2, y2, s2, u2, v2, ww2, r2, is2, res2⟩ true now pl)).set i (wrow (some ad) (nn - 1) (1 - 1) ⟨k2, x2, y2, s2, u2, v2, ww2, r2, is2, res2⟩ true now now))) (hb : Below w0.heap.size w0 w7) (hg : w6.grownBy w7 (some gw)) =>
      (⟨Kd.R_over' HO6.out (Kd.R_typed HW6.out) (by decide) hg, by rw [List.set_set] at ho; exact ho, Kept.of_grown hg HK6.out (fun k hk => .inl (by injection hk with hk; exact hk.symm)), hb⟩ : Kd.R (Kd.int .i64) 3 w7 w4.heap.size (fun _ => True) (.slice A5 up2.length ca5) up2 ∧ (Kd.raw 14).R 65 w7 w0.heap.size (fun _ => True) (.slice (some ⟨gw, 0, none⟩) m wc) (R4.set i (wrow (some ad) (nn - 1) (1 - 1) ⟨k2, x2, y2, s2, u2, v2, ww2, r2, is2, res2⟩ true now now)) ∧ Kept w w7 (fun q => q = gw) ∧ Below w0.heap.size w0 w7))
    clear g0 g1 g2 g3 er HO HB5 HG6 HW5 HBB c1 c2 c3 c4 c5 c6 c7 c8 c9 c10 hb
    have go7 : ∀ (P2 : Prop), P2 → P2 := fun _ h => h
    cases is2 with
    | true =>
      go_wp2_with (first | ((with_reducible refine gate_store (t := 3) (p := 83) rfl ?_); refine Kd.R_store (Kd.raw 14) (w0 := w0) w0.heap.size rfl rfl 3 (.tmp 83) (.tmp 81) rfl 65 (i : Int) 13 (R4.set i (wrow (some ad) (nn - 1) (1 - 1) ⟨k2, x2, y2, s2, u2, v2, ww2, r2, true, res2⟩ true now pl)) (wrow (some ad) (nn - 1) (1 - 1) ⟨k2, x2, y2, s2, u2, v2, ww2, r2, true, res2⟩ true now now) (.int .i64 now) [.int .i64 now] (wrow (some ad) (nn - 1) (1 - 1) ⟨k2, x2, y2, s2, u2, v2, ww2, r2, true, res2⟩ true now pl) (fun _ => True) (fun _ => False) rfl (by simp [Kd.raw]) rfl rfl (by kernel_rfl) ?a1 HW6.out (by omega) (by have := HI.out; omega) rfl ?a2 (by show 13 + 1 ≤ 14; omega) ?a3 (fun _ h => h.elim) HB6.out ?_; (case a1 => intro q hq; simp at hq; rcases hq with rfl; rfl); (case a2 => have h := raw_row HW6.out i HI.out; rw [HER.out] at h; intro j q hq; rw [Int.toNat_natCast]; exact h.2.2.1 j q hq); (case a3 => exact ⟨rfl, rfl, wrow_one (some ad) (nn - 1) (1 - 1) ⟨k2, x2, y2, s2, u2, v2, ww2, r2, true, res2⟩ true now now⟩); intro w7 ho hb hg; rw [Int.toNat_natCast] at ho; have HW7 := Aside0.mk ho; have HB7 := Aside0.mk hb; have HG7 := Aside0.mk hg; clear ho hb hg))
      go_ret
      have hf := HST.out (.int .i64 now) _ rfl _ HW7.out HB7.out HG7.out
      exact ⟨_, _, rfl, Kd.R_lower hf.1 HK4.out.1, by rw [show placeW ⟨k, x, y, s, u, v, ww, r, is, res⟩ ⟨k2, x2, y2, s2, u2, v2, ww2, r2, true, res2⟩ now pl = now from rfl, HDA.out, ← HSS.out]; exact hf.2.1, hf.2.2.1, hf.2.2.2⟩
    | false =>
      by_cases h7 : s < 7
      · have t7 : decide (s < 7) = true := decide_eq_true h7
        by_cases h8 : 7 ≤ s2
        · have t8 : decide (7 ≤ s2) = true := decide_eq_true h8
          have HPL := Aside0.mk (show placeW ⟨k, x, y, s, u, v, ww, r, is, res⟩ ⟨k2, x2, y2, s2, u2, v2, ww2, r2, false, res2⟩ now pl = now by simp [placeW, h7, h8])
          clear h7 h8
          go_wp2_with (first | ((with_reducible refine gate_store (t := 3) (p := 83) rfl ?_); refine Kd.R_store (Kd.raw 14) (w0 := w0) w0.heap.size rfl rfl 3 (.tmp 83) (.tmp 81) rfl 65 (i : Int) 13 (R4.set i (wrow (some ad) (nn - 1) (1 - 1) ⟨k2, x2, y2, s2, u2, v2, ww2, r2, false, res2⟩ true now pl)) (wrow (some ad) (nn - 1) (1 - 1) ⟨k2, x2, y2, s2, u2, v2, ww2, r2, false, res2⟩ true now now) (.int .i64 now) [.int .i64 now] (wrow (some ad) (nn - 1) (1 - 1) ⟨k2, x2, y2, s2, u2, v2, ww2, r2, false, res2⟩ true now pl) (fun _ => True) (fun _ => False) rfl (by simp [Kd.raw]) rfl rfl (by kernel_rfl) ?a1 HW6.out (by omega) (by have := HI.out; omega) rfl ?a2 (by show 13 + 1 ≤ 14; omega) ?a3 (fun _ h => h.elim) HB6.out ?_; (case a1 => intro q hq; simp at hq; rcases hq with rfl; rfl); (case a2 => have h := raw_row HW6.out i HI.out; rw [HER.out] at h; intro j q hq; rw [Int.toNat_natCast]; exact h.2.2.1 j q hq); (case a3 => exact ⟨rfl, rfl, wrow_one (some ad) (nn - 1) (1 - 1) ⟨k2, x2, y2, s2, u2, v2, ww2, r2, false, res2⟩ true now now⟩); intro w7 ho hb hg; rw [Int.toNat_natCast] at ho; have HW7 := Aside0.mk ho; have HB7 := Aside0.mk hb; have HG7 := Aside0.mk hg; clear ho hb hg))
          go_ret
          have hf := HST.out (.int .i64 now) _ rfl _ HW7.out HB7.out HG7.out
          exact ⟨_, _, rfl, Kd.R_lower hf.1 HK4.out.1, by rw [HPL.out, HDA.out, ← HSS.out]; exact hf.2.1, hf.2.2.1, hf.2.2.2⟩
        · have t8 : decide (7 ≤ s2) = false := decide_eq_false h8
          have HPL := Aside0.mk (show placeW ⟨k, x, y, s, u, v, ww, r, is, res⟩ ⟨k2, x2, y2, s2, u2, v2, ww2, r2, false, res2⟩ now pl = pl by simp [placeW, h7, h8])
          clear h7 h8
          go_wp2
          go_ret
          exact ⟨_, _, rfl, Kd.R_lower HO6.out HK4.out.1, by rw [HPL.out, HDA.out, ← HSS.out]; exact HW6.out, HK6.out, HB6.out⟩
      · have t7 : decide (s < 7) = false := decide_eq_false h7
        have HPL := Aside0.mk (show placeW ⟨k, x, y, s, u, v, ww, r, is, res⟩ ⟨k2, x2, y2, s2, u2, v2, ww2, r2, false, res2⟩ now pl = pl by simp [placeW, h7])
        clear h7
        go_wp2
        go_ret
        exact ⟨_, _, rfl, Kd.R_lower HO6.out HK4.out.1, by rw [HPL.out, HDA.out, ← HSS.out]; exact HW6.out, HK6.out, HB6.out⟩
  · go_upto_region 4 with (first | ((with_reducible refine gate_store (t := 43) (p := 42) rfl ?_); refine Kd.R_store (Kd.raw 14) (w0 := w0) w0.heap.size rfl rfl 43 (.tmp 42) (.tmp 39) rfl 65 (i : Int) 0 (R.set i (wrow (some ad) nn c ⟨k, x, y, s, u, v, ww, r, is, res⟩ true b pl)) (wrow (some ⟨ad.block, ad.off + 3, none⟩) (nn - 1) (c - 1) ⟨k, x, y, s, u, v, ww, r, is, res⟩ true b pl) (.slice (some ⟨ad.block, ad.off + 3, none⟩) (nn - 1) (c - 1)) [.slice (some ⟨ad.block, ad.off + 3, none⟩) (nn - 1) (c - 1)] (wrow (some ad) nn c ⟨k, x, y, s, u, v, ww, r, is, res⟩ true b pl) (fun _ => True) (fun _ => False) rfl (by simp [Kd.raw]) rfl rfl (by kernel_rfl) ?a1 HW3.out (by omega) (by have := HI.out; omega) rfl ?a2 (by show 0 + 1 ≤ 14; omega) ?a3 (fun _ h => h.elim) HB3.out ?_; (case a1 => intro q hq; simp at hq; rcases hq with rfl; rfl); (case a2 => have h := raw_row HW3.out i HI.out; rw [HER.out] at h; intro j q hq; rw [Int.toNat_natCast]; exact h.2.2.1 j q hq); (case a3 => exact ⟨rfl, rfl, wrow_one (some ⟨ad.block, ad.off + 3, none⟩) (nn - 1) (c - 1) ⟨k, x, y, s, u, v, ww, r, is, res⟩ true b pl⟩); intro w35 ho hb hg; rw [Int.toNat_natCast, List.set_set] at ho; have HW35 := Aside0.mk ho; have HB35 := Aside0.mk hb; have HK35 := Aside0.mk (Kept.of_grown hg HK3.out (fun k hk => .inl (by injection hk with hk; exact hk.symm))); clear ho hb hg) | ((with_reducible refine gate_store (t := 3) (p := 44) rfl ?_); refine Kd.R_store (Kd.raw 14) (w0 := w0) w0.heap.size rfl rfl 3 (.tmp 44) (.tmp 40) rfl 65 (i : Int) 12 (R.set i (wrow (some ⟨ad.block, ad.off + 3, none⟩) (nn - 1) (c - 1) ⟨k, x, y, s, u, v, ww, r, is, res⟩ true b pl)) (wrow (some ⟨ad.block, ad.off + 3, none⟩) (nn - 1) (c - 1) ⟨k, x, y, s, u, v, ww, r, is, res⟩ true now pl) (.int .i64 now) [.int .i64 now] (wrow (some ⟨ad.block, ad.off + 3, none⟩) (nn - 1) (c - 1) ⟨k, x, y, s, u, v, ww, r, is, res⟩ true b pl) (fun _ => True) (fun _ => False) rfl (by simp [Kd.raw]) rfl rfl (by kernel_rfl) ?a1 HW35.out (by omega) (by have := HI.out; omega) rfl ?a2 (by show 12 + 1 ≤ 14; omega) ?a3 (fun _ h => h.elim) HB35.out ?_; (case a1 => intro q hq; simp at hq; rcases hq with rfl; rfl); (case a2 => have h := raw_row HW35.out i HI.out; rw [HER.out] at h; intro j q hq; rw [Int.toNat_natCast]; exact h.2.2.1 j q hq); (case a3 => exact ⟨rfl, rfl, wrow_one (some ⟨ad.block, ad.off + 3, none⟩) (nn - 1) (c - 1) ⟨k, x, y, s, u, v, ww, r, is, res⟩ true now pl⟩); intro w4 ho hb hg; rw [Int.toNat_natCast, List.set_set] at ho; have HW4 := Aside0.mk ho; have HB4 := Aside0.mk hb; have HK4 := Aside0.mk (Kept.of_grown hg HK35.out (fun k hk => .inl (by injection hk with hk; exact hk.symm))); clear ho hb hg))
    clear cl
    obtain ⟨R4, hR4⟩ : ∃ R4, R.set i (wrow (some ⟨ad.block, ad.off + 3, none⟩) (nn - 1) (c - 1) ⟨k, x, y, s, u, v, ww, r, is, res⟩ true now pl) = R4 := ⟨_, rfl⟩
    have HROW4 := Aside0.mk (show R4.getD i [] = wrow (some ⟨ad.block, ad.off + 3, none⟩) (nn - 1) (c - 1) ⟨k, x, y, s, u, v, ww, r, is, res⟩ true now pl by rw [← hR4]; exact HER.out _)
    have HSS := Aside0.mk (show ∀ r : List Value, R4.set i r = R.set i r from fun r => by rw [← hR4, List.set_set])
    have HW := Aside0.mk (show (Kd.raw 14).R 65 w4 w0.heap.size (fun _ => True) (.slice (some ⟨gw, 0, none⟩) m wc) R4 by rw [← hR4]; exact HW4.out)
    have HLEN := Aside0.mk (show R4.length = m by rw [← hR4, List.length_set]; exact HLEN0.out)
    have HB := Aside0.mk HB4.out
    have HSC := Aside0.mk (fun (w5 : World) (hb : Below w4.heap.size w4 w5) => HSC0.out w5 (HK4.out.below hb))
    clear HROW HER HW0 HW1 HW2 HW3 HW4 HB0 HB1 HB2 HB3 HB4 HK1 HK2 HK3 hR4
    have HROW := HROW4
    clear HROW4
    obtain ⟨g0, g1, g2, g3⟩ := raw_row HW.out i HI.out
    rw [HROW.out] at g0 g1 g2
    have c1 : w4.cell? ⟨gw, i * 14 + 1, none⟩ = some (.int .i64 k) := g2 1 _ rfl
    have c2 : w4.cell? ⟨gw, i * 14 + 2, none⟩ = some (.int .i64 x) := g2 2 _ rfl
    have c3 : w4.cell? ⟨gw, i * 14 + 3, none⟩ = some (.int .i64 y) := g2 3 _ rfl
    have c4 : w4.cell? ⟨gw, i * 14 + 4, none⟩ = some (.int .i64 s) := g2 4 _ rfl
    have c5 : w4.cell? ⟨gw, i * 14 + 5, none⟩ = some (.int .i64 u) := g2 5 _ rfl
    have c6 : w4.cell? ⟨gw, i * 14 + 6, none⟩ = some (.int .i64 v) := g2 6 _ rfl
    have c7 : w4.cell? ⟨gw, i * 14 + 7, none⟩ = some (.int .i64 ww) := g2 7 _ rfl
    have c8 : w4.cell? ⟨gw, i * 14 + 8, none⟩ = some (.int .i64 r) := g2 8 _ rfl
    have c9 : w4.cell? ⟨gw, i * 14 + 9, none⟩ = some (.bool is) := g2 9 _ rfl
    have c10 : w4.cell? ⟨gw, i * 14 + 10, none⟩ = some (.int .i64 res) := g2 10 _ rfl
    clear g0 g1 g2 g3
    have HDA := Aside0.mk (show dropA (some ad) c = (some ⟨ad.block, ad.off + 3, none⟩) from by unfold dropA; rw [if_neg hc1]; rfl)
    go_upto_region 6 with (first | (go_at_call 38; refine (HSC.out _ (by first | exact Below.refl _ _ | exact below_drew1 (Below.refl _ _) | exact below_drewN (Below.refl _ _) _)).mono ?_; rintro e w5 ⟨A5, ca5, rfl, ho, hb⟩; have hb : Below w4.heap.size w4 w5 := (by first | exact hb | exact Below.trans (below_drew1 (Below.refl _ _)) hb); have HO := Aside0.mk ho; have HB5 := Aside0.mk hb; have HW5 := Aside0.mk (Kd.R_below HW.out hb); have HBB := Aside0.mk (below_step HB.out hb); clear ho hb) | ((with_reducible refine gate_store (t := 63) (p := 62) rfl ?_); refine Kd.R_store (Kd.raw 14) (w0 := w0) w0.heap.size rfl rfl 63 (.tmp 62) (.tmp 60) rfl 65 (i : Int) 1 R4 (wrow (some ⟨ad.block, ad.off + 3, none⟩) (nn - 1) (c - 1) ⟨k2, x2, y2, s2, u2, v2, ww2, r2, is2, res2⟩ true now pl) (tv ⟨k2, x2, y2, s2, u2, v2, ww2, r2, is2, res2⟩) [.int .i64 k2, .int .i64 x2, .int .i64 y2, .int .i64 s2, .int .i64 u2, .int .i64 v2, .int .i64 ww2, .int .i64 r2, .bool is2, .int .i64 res2] (wrow (some ⟨ad.block, ad.off + 3, none⟩) (nn - 1) (c - 1) ⟨k, x, y, s, u, v, ww, r, is, res⟩ true now pl) (fun _ => True) (fun _ => False) rfl (by simp [Kd.raw]) rfl rfl (by kernel_rfl) ?a1 HW5.out (by omega) (by have := HI.out; omega) rfl ?a2 (by show 1 + 10 ≤ 14; omega) ?a3 (fun _ h => h.elim) HBB.out ?_; (case a1 => intro q hq; simp at hq; rcases hq with rfl | rfl | rfl | rfl | rfl | rfl | rfl | rfl | rfl | rfl <;> rfl); (case a2 => have h := raw_row HW5.out i HI.out; rw [HROW.out] at h; intro j q hq; rw [Int.toNat_natCast]; exact h.2.2.1 j q hq); (case a3 => exact ⟨rfl, rfl, wrow_one (some ⟨ad.block, ad.off + 3, none⟩) (nn - 1) (c - 1) ⟨k2, x2, y2, s2, u2, v2, ww2, r2, is2, res2⟩ true now pl⟩); intro w6 ho hb hg; rw [Int.toNat_natCast] at ho; have HW6 := Aside0.mk ho; have HB6 := Aside0.mk hb; have HG6 := Aside0.mk hg; clear ho hb hg))
    have er : ∀ row2 : List Value, (R4.set i row2).getD i [] = row2 := fun row2 => by have := HLEN.out; have := HI.out; simp [List.getD_eq_getElem?_getD, show i < R4.length by omega]
    have HER := Aside0.mk er
    obtain ⟨g0, g1, g2, g3⟩ := raw_row HW6.out i HI.out
    rw [er] at g0 g1 g2
    have d4 : w6.cell? ⟨gw, i * 14 + 4, none⟩ = some (.int .i64 s2) := g2 4 _ rfl
    have d9 : w6.cell? ⟨gw, i * 14 + 9, none⟩ = some (.bool is2) := g2 9 _ rfl
    have HK6 := Aside0.mk (Kept.of_grown HG6.out (HK4.out.below HB5.out) (fun k hk => .inl (by injection hk with hk; exact hk.symm)))
    have HO6 := Aside0.mk (Kd.R_over' HO.out (Kd.R_typed HW5.out) (by decide) HG6.out)
    have HST := Aside0.mk (fun (q : Value) (row3 : List Value) (h : row3 = (wrow (some ⟨ad.block, ad.off + 3, none⟩) (nn - 1) (c - 1) ⟨k2, x2, y2, s2, u2, v2, ww2, r2, is2, res2⟩ true now pl).take 13 ++ [.int .i64 now]) (w7 : World) (ho : (Kd.raw 14).R 65 w7 w0.heap.size (fun _ => True) (.slice (some ⟨gw, 0, none⟩) m wc) ((R4.set i (wrow (some ⟨ad.block, ad.off + 3, none⟩) (nn - 1) (c - 1) ⟨k2, x2, y2, s2, u2, v2, ww2, r2, is2, res2⟩ true now pl)).set i (wrow (some ⟨ad.block, ad.off + 3, none⟩) (nn - 1) (c - 1) ⟨k2, x2, y2, s2, u2, v2, ww2, r2, is2, res2⟩ true now now))) (hb : Below w0.heap.size w0 w7) (hg : w6.grownBy w7 (some gw)) =>
      (⟨Kd.R_over' HO6.out (Kd.R_typed HW6.out) (by decide) hg, by rw [List.set_set] at ho; exact ho, Kept.of_grown hg HK6.out (fun k hk => .inl (by injection hk with hk; exact hk.symm)), hb⟩ : Kd.R (Kd.int .i64) 3 w7 w4.heap.size (fun _ => True) (.slice A5 up2.length ca5) up2 ∧ (Kd.raw 14).R 65 w7 w0.heap.size (fun _ => True) (.slice (some ⟨gw, 0, none⟩) m wc) (R4.set i (wrow (some ⟨ad.block, ad.off + 3, none⟩) (nn - 1) (c - 1) ⟨k2, x2, y2, s2, u2, v2, ww2, r2, is2, res2⟩ true now now)) ∧ Kept w w7 (fun q => q = gw) ∧ Below w0.heap.size w0 w7))
    clear g0 g1 g2 g3 er HO HB5 HG6 HW5 HBB c1 c2 c3 c4 c5 c6 c7 c8 c9 c10 hb
    have go7 : ∀ (P2 : Prop), P2 → P2 := fun _ h => h
    cases is2 with
    | true =>
      go_wp2_with (first | ((with_reducible refine gate_store (t := 3) (p := 83) rfl ?_); refine Kd.R_store (Kd.raw 14) (w0 := w0) w0.heap.size rfl rfl 3 (.tmp 83) (.tmp 81) rfl 65 (i : Int) 13 (R4.set i (wrow (some ⟨ad.block, ad.off + 3, none⟩) (nn - 1) (c - 1) ⟨k2, x2, y2, s2, u2, v2, ww2, r2, true, res2⟩ true now pl)) (wrow (some ⟨ad.block, ad.off + 3, none⟩) (nn - 1) (c - 1) ⟨k2, x2, y2, s2, u2, v2, ww2, r2, true, res2⟩ true now now) (.int .i64 now) [.int .i64 now] (wrow (some ⟨ad.block, ad.off + 3, none⟩) (nn - 1) (c - 1) ⟨k2, x2, y2, s2, u2, v2, ww2, r2, true, res2⟩ true now pl) (fun _ => True) (fun _ => False) rfl (by simp [Kd.raw]) rfl rfl (by kernel_rfl) ?a1 HW6.out (by omega) (by have := HI.out; omega) rfl ?a2 (by show 13 + 1 ≤ 14; omega) ?a3 (fun _ h => h.elim) HB6.out ?_; (case a1 => intro q hq; simp at hq; rcases hq with rfl; rfl); (case a2 => have h := raw_row HW6.out i HI.out; rw [HER.out] at h; intro j q hq; rw [Int.toNat_natCast]; exact h.2.2.1 j q hq); (case a3 => exact ⟨rfl, rfl, wrow_one (some ⟨ad.block, ad.off + 3, none⟩) (nn - 1) (c - 1) ⟨k2, x2, y2, s2, u2, v2, ww2, r2, true, res2⟩ true now now⟩); intro w7 ho hb hg; rw [Int.toNat_natCast] at ho; have HW7 := Aside0.mk ho; have HB7 := Aside0.mk hb; have HG7 := Aside0.mk hg; clear ho hb hg))
      go_ret
      have hf := HST.out (.int .i64 now) _ rfl _ HW7.out HB7.out HG7.out
      exact ⟨_, _, rfl, Kd.R_lower hf.1 HK4.out.1, by rw [show placeW ⟨k, x, y, s, u, v, ww, r, is, res⟩ ⟨k2, x2, y2, s2, u2, v2, ww2, r2, true, res2⟩ now pl = now from rfl, HDA.out, ← HSS.out]; exact hf.2.1, hf.2.2.1, hf.2.2.2⟩
    | false =>
      by_cases h7 : s < 7
      · have t7 : decide (s < 7) = true := decide_eq_true h7
        by_cases h8 : 7 ≤ s2
        · have t8 : decide (7 ≤ s2) = true := decide_eq_true h8
          have HPL := Aside0.mk (show placeW ⟨k, x, y, s, u, v, ww, r, is, res⟩ ⟨k2, x2, y2, s2, u2, v2, ww2, r2, false, res2⟩ now pl = now by simp [placeW, h7, h8])
          clear h7 h8
          go_wp2_with (first | ((with_reducible refine gate_store (t := 3) (p := 83) rfl ?_); refine Kd.R_store (Kd.raw 14) (w0 := w0) w0.heap.size rfl rfl 3 (.tmp 83) (.tmp 81) rfl 65 (i : Int) 13 (R4.set i (wrow (some ⟨ad.block, ad.off + 3, none⟩) (nn - 1) (c - 1) ⟨k2, x2, y2, s2, u2, v2, ww2, r2, false, res2⟩ true now pl)) (wrow (some ⟨ad.block, ad.off + 3, none⟩) (nn - 1) (c - 1) ⟨k2, x2, y2, s2, u2, v2, ww2, r2, false, res2⟩ true now now) (.int .i64 now) [.int .i64 now] (wrow (some ⟨ad.block, ad.off + 3, none⟩) (nn - 1) (c - 1) ⟨k2, x2, y2, s2, u2, v2, ww2, r2, false, res2⟩ true now pl) (fun _ => True) (fun _ => False) rfl (by simp [Kd.raw]) rfl rfl (by kernel_rfl) ?a1 HW6.out (by omega) (by have := HI.out; omega) rfl ?a2 (by show 13 + 1 ≤ 14; omega) ?a3 (fun _ h => h.elim) HB6.out ?_; (case a1 => intro q hq; simp at hq; rcases hq with rfl; rfl); (case a2 => have h := raw_row HW6.out i HI.out; rw [HER.out] at h; intro j q hq; rw [Int.toNat_natCast]; exact h.2.2.1 j q hq); (case a3 => exact ⟨rfl, rfl, wrow_one (some ⟨ad.block, ad.off + 3, none⟩) (nn - 1) (c - 1) ⟨k2, x2, y2, s2, u2, v2, ww2, r2, false, res2⟩ true now now⟩); intro w7 ho hb hg; rw [Int.toNat_natCast] at ho; have HW7 := Aside0.mk ho; have HB7 := Aside0.mk hb; have HG7 := Aside0.mk hg; clear ho hb hg))
          go_ret
          have hf := HST.out (.int .i64 now) _ rfl _ HW7.out HB7.out HG7.out
          exact ⟨_, _, rfl, Kd.R_lower hf.1 HK4.out.1, by rw [HPL.out, HDA.out, ← HSS.out]; exact hf.2.1, hf.2.2.1, hf.2.2.2⟩
        · have t8 : decide (7 ≤ s2) = false := decide_eq_false h8
          have HPL := Aside0.mk (show placeW ⟨k, x, y, s, u, v, ww, r, is, res⟩ ⟨k2, x2, y2, s2, u2, v2, ww2, r2, false, res2⟩ now pl = pl by simp [placeW, h7, h8])
          clear h7 h8
          go_wp2
          go_ret
          exact ⟨_, _, rfl, Kd.R_lower HO6.out HK4.out.1, by rw [HPL.out, HDA.out, ← HSS.out]; exact HW6.out, HK6.out, HB6.out⟩
      · have t7 : decide (s < 7) = false := decide_eq_false h7
        have HPL := Aside0.mk (show placeW ⟨k, x, y, s, u, v, ww, r, is, res⟩ ⟨k2, x2, y2, s2, u2, v2, ww2, r2, false, res2⟩ now pl = pl by simp [placeW, h7])
        clear h7
        go_wp2
        go_ret
        exact ⟨_, _, rfl, Kd.R_lower HO6.out HK4.out.1, by rw [HPL.out, HDA.out, ← HSS.out]; exact HW6.out, HK6.out, HB6.out⟩
end Go.Proofs.YtmaiicpaalbcfaaDoor
namespace Go.Proofs.YtmaiicpaalbcfaaDoor
open Go.RowKit Go.Proofs.YtmaiicpaalbcfaaDoorW.PrintWords Go.Proofs.YtmaiicpaalbcfaaDoorW.PrintLast Go.Proofs.YtmaiicpaalbcfaaDoorW.PrintMore Go.Proofs.YtmaiicpaalbcfaaDoor.P
set_option linter.unusedVariables false
theorem ne_block {w : World} {g g2 t t2 : Nat} {cs cs2 : Array Value} (h : w.heap[g]? = some (.cells cs t (0, 0))) (h2 : w.heap[g2]? = some (.cells cs2 t2 (0, 0))) (hne : t ≠ t2) : g ≠ g2 := fun e => by
  rw [e, h2] at h
  simp only [Option.some.injEq, Obj.cells.injEq] at h
  exact hne h.2.1.symm
structure PSt (w0 w1 w : World) (n gw bp ge : Nat) (WA : Option Addr) (wc : Nat) (ws : List W5) (R : List (List Value)) (up : List Int) (UA : Option Addr) (uc : Nat) (ev : List S42) (EA : Option Addr) (ec : Nat) (at_ last : Int) (P : List Int) (uv : Value) (E : List Bool) : Prop where
  wk : (Kd.raw 14).R 65 w w0.heap.size (fun _ => True) (.slice WA n wc) R
  wa : 0 < n → WA = some ⟨gw, 0, none⟩
  lenW : ws.length = n
  row : ∀ i, i < n → ∃ A c, R.getD i [] = wrow A (ws.getD i z5).l.length c (ws.getD i z5).t (ws.getD i z5).busy (ws.getD i z5).b (ws.getD i z5).pl ∧ (ws.getD i z5).l.length ≤ c ∧ ∀ W', Kept w1 W' (fun q => q = gw) → Kd.C k40 W' A (ws.getD i z5).l.length (ws.getD i z5).l
  kp : Kept w1 w (fun q => q = gw)
  below : Below w0.heap.size w0 w
  ur : Kd.R (Kd.int .i64) 3 w w0.heap.size (fun _ => True) (.slice UA up.length uc) up
  er : Kd.R k42 42 w w0.heap.size (fun _ => True) (.slice EA ev.length ec) ev
  pk : w.heap[bp]? = some (.cells #[uv, .int .i64 at_, .int .i64 last] 58 (0, 0))
  pv : Kd.V (Kd.int .i64) 3 w w0.heap.size (fun k => (k ≠ gw ∧ k ≠ bp ∧ k ≠ ge) ∧ some k ≠ (Value.slice EA ev.length ec).ownBlock) uv P
  en : w.heap[ge]? = some (.cells (E.map Value.bool).toArray 4 (0, 0))
  new : w1.heap.size ≤ bp ∧ w1.heap.size ≤ ge ∧ ∀ q, (Value.slice EA ev.length ec).ownBlock = some q → w1.heap.size ≤ q
  old : w0.heap.size ≤ w1.heap.size ∧ gw < w1.heap.size
section
variable {w0 w1 w w2 w3 : World} {n gw bp ge : Nat} {WA : Option Addr} {wc : Nat} {ws ws2 : List W5} {R : List (List Value)} {up up2 : List Int} {UA UA2 : Option Addr} {uc uc2 : Nat} {ev ev2 : List S42} {EA EA2 : Option Addr} {ec ec2 : Nat} {at_ last : Int} {P : List Int} {uv : Value} {E : List Bool}
theorem PSt.below2 (h : PSt w0 w1 w n gw bp ge WA wc ws R up UA uc ev EA ec at_ last P uv E) (hb : Below w.heap.size w w2) : PSt w0 w1 w2 n gw bp ge WA wc ws R up UA uc ev EA ec at_ last P uv E where
  wk := Kd.R_below h.wk hb
  wa := h.wa
  lenW := h.lenW
  row := h.row
  kp := h.kp.below hb
  below := below_step h.below hb
  ur := Kd.R_below h.ur hb
  er := Kd.R_below h.er hb
  pk := blk_below h.pk hb
  pv := Kd.V_below h.pv hb
  en := blk_below h.en hb
  new := h.new
  old := h.old
theorem PSt.flagged (h : PSt w0 w1 w n gw bp ge WA wc ws R up UA uc ev EA ec at_ last P uv E) (i : Nat) (b : Bool) : PSt w0 w1 (w.setCell ⟨ge, i, none⟩ (.bool b)) n gw bp ge WA wc ws R up UA uc ev EA ec at_ last P uv (E.set i b) where
  wk := Kd.R_mono (Kd.R_far (p := ⟨ge, i, none⟩) (Kd.R_types h.wk h.en (by decide)) (fun _ hk => hk.2) _) (fun _ _ => trivial)
  wa := h.wa
  lenW := h.lenW
  row := h.row
  kp := h.kp.setCell (.inr h.new.2.1) _
  below := below_set h.below (by have := h.new.2.1; have := h.old.1; omega)
  ur := Kd.R_mono (Kd.R_far (p := ⟨ge, i, none⟩) (Kd.R_types h.ur h.en (by decide)) (fun _ hk => hk.2) _) (fun _ _ => trivial)
  er := Kd.R_mono (Kd.R_far (p := ⟨ge, i, none⟩) (Kd.R_types h.er h.en (by decide)) (fun _ hk => hk.2) _) (fun _ _ => trivial)
  pk := blk_far (p := ⟨ge, i, none⟩) h.pk (ne_block h.pk h.en (by decide)) _
  pv := Kd.V_far (p := ⟨ge, i, none⟩) h.pv (fun _ hk => hk.1.2.2) _
  en := blk_put h.en i _ (by simp)
  new := h.new
  old := h.old
theorem PSt.picked (h : PSt w0 w1 w n gw bp ge WA wc ws R up UA uc ev EA ec at_ last P uv E) (hb : Below w.heap.size w w2) (v : Value) (at2 last2 : Int)
    (hv : Kd.V (Kd.int .i64) 3 w2 w.heap.size (fun q => ((q ≠ gw ∧ q ≠ bp ∧ q ≠ ge) ∧ some q ≠ (Value.slice EA ev.length ec).ownBlock) ∨ w.heap.size ≤ q) v P) :
    PSt w0 w1 (((w2.setCell ⟨bp, 0, none⟩ v).setCell ⟨bp, 1, none⟩ (.int .i64 at2)).setCell ⟨bp, 2, none⟩ (.int .i64 last2)) n gw bp ge WA wc ws R up UA uc ev EA ec at2 last2 P v E := by
  have z1 := blk_lt h.pk
  have z4 := blk_lt h.en
  have z7 := Kd.R_lt h.er
  have h2 := h.below2 hb
  have hbp : w0.heap.size ≤ bp := by have := h.new.1; have := h.old.1; omega
  have far : ∀ {d : Nat} {cs : Array Value} {g : Nat}, w2.heap[g]? = some (.cells cs d (0, 0)) → g ≠ bp → (((w2.setCell ⟨bp, 0, none⟩ v).setCell ⟨bp, 1, none⟩ (.int .i64 at2)).setCell ⟨bp, 2, none⟩ (.int .i64 last2)).heap[g]? = some (.cells cs d (0, 0)) := fun hc hne => blk_far (p := ⟨bp, 2, none⟩) (blk_far (p := ⟨bp, 1, none⟩) (blk_far (p := ⟨bp, 0, none⟩) hc hne _) hne _) hne _
  refine ⟨Kd.R_mono (Kd.R_far (p := ⟨bp, 2, none⟩) (Kd.R_far (p := ⟨bp, 1, none⟩) (Kd.R_far (p := ⟨bp, 0, none⟩) (Kd.R_types h2.wk h2.pk (by decide)) (fun _ hk => hk.2) _) (fun _ hk => hk.2) _) (fun _ hk => hk.2) _) (fun _ _ => trivial), h.wa, h.lenW, h.row, ((h2.kp.setCell (.inr h.new.1) _).setCell (.inr h.new.1) _).setCell (.inr h.new.1) _, below_set (below_set (below_set h2.below hbp) hbp) hbp,
    Kd.R_mono (Kd.R_far (p := ⟨bp, 2, none⟩) (Kd.R_far (p := ⟨bp, 1, none⟩) (Kd.R_far (p := ⟨bp, 0, none⟩) (Kd.R_types h2.ur h2.pk (by decide)) (fun _ hk => hk.2) _) (fun _ hk => hk.2) _) (fun _ hk => hk.2) _) (fun _ _ => trivial),
    Kd.R_mono (Kd.R_far (p := ⟨bp, 2, none⟩) (Kd.R_far (p := ⟨bp, 1, none⟩) (Kd.R_far (p := ⟨bp, 0, none⟩) (Kd.R_types h2.er h2.pk (by decide)) (fun _ hk => hk.2) _) (fun _ hk => hk.2) _) (fun _ hk => hk.2) _) (fun _ _ => trivial),
    blk_put (blk_put (blk_put h2.pk 0 v rfl) 1 (.int .i64 at2) rfl) 2 (.int .i64 last2) rfl, ?_, far h2.en (ne_block h2.en h2.pk (by decide)), h.new, h.old⟩
  have hv2 : Kd.V (Kd.int .i64) 3 w2 w0.heap.size (fun k => (k ≠ gw ∧ k ≠ bp ∧ k ≠ ge) ∧ some k ≠ (Value.slice EA ev.length ec).ownBlock) v P := by
    refine Kd.V_map (Kd.V_mono hv (fun q hq => ?_)) (fun _ hf => hf)
    rcases hq with hq | hq
    · exact hq
    · exact ⟨⟨by have := h.old.2; have := h.kp.1; omega, by omega, by omega⟩, fun e => by have := z7 q e.symm; omega⟩
  exact Kd.V_far (p := ⟨bp, 2, none⟩) (Kd.V_far (p := ⟨bp, 1, none⟩) (Kd.V_far (p := ⟨bp, 0, none⟩) hv2 (fun _ hk => hk.1.2.1) _) (fun _ hk => hk.1.2.1) _) (fun _ hk => hk.1.2.1) _
theorem PSt.worked (h : PSt w0 w1 w n gw bp ge WA wc ws R up UA uc ev EA ec at_ last P uv E) (i : Nat) (hi : i < n) (k2 : W5) {A : Option Addr} {c : Nat} (hc : k2.l.length ≤ c) (hC : ∀ W', Kept w1 W' (fun q => q = gw) → Kd.C k40 W' A k2.l.length k2.l)
    (hu : Kd.R (Kd.int .i64) 3 w2 w.heap.size (fun _ => True) (.slice UA2 up2.length uc2) up2) (hw : (Kd.raw 14).R 65 w2 w0.heap.size (fun _ => True) (.slice WA n wc) (R.set i (wrow A k2.l.length c k2.t k2.busy k2.b k2.pl))) (hk : Kept w w2 (fun q => q = gw)) (hb : Below w0.heap.size w0 w2) :
    PSt w0 w1 w2 n gw bp ge WA wc (ws.set i k2) (R.set i (wrow A k2.l.length c k2.t k2.busy k2.b k2.pl)) up2 UA2 uc2 ev EA ec at_ last P uv E where
  wk := hw
  wa := h.wa
  lenW := by rw [List.length_set]; exact h.lenW
  row j hj := by
    have hl : R.length = n := (Kd.R_reads' h.wk).1.symm
    have hl2 := h.lenW
    by_cases e : j = i
    · subst e
      have e1 : (R.set j (wrow A k2.l.length c k2.t k2.busy k2.b k2.pl)).getD j [] = wrow A k2.l.length c k2.t k2.busy k2.b k2.pl := by simp [List.getD_eq_getElem?_getD, show j < R.length by omega]
      have e2 : (ws.set j k2).getD j z5 = k2 := by simp [List.getD_eq_getElem?_getD, show j < ws.length by omega]
      rw [e1, e2]
      exact ⟨A, c, rfl, hc, hC⟩
    · have e1 : (R.set i (wrow A k2.l.length c k2.t k2.busy k2.b k2.pl)).getD j [] = R.getD j [] := by simp only [List.getD_eq_getElem?_getD, List.getElem?_set, if_neg (Ne.symm e)]
      have e2 : (ws.set i k2).getD j z5 = ws.getD j z5 := by simp only [List.getD_eq_getElem?_getD, List.getElem?_set, if_neg (Ne.symm e)]
      rw [e1, e2]
      exact h.row j hj
  kp := h.kp.then_ hk (fun _ hq => .inl hq)
  below := hb
  ur := Kd.R_lower hu (below_size h.below)
  er := by
    obtain ⟨cs, hc⟩ := Kd.R_typed h.wk gw (by rw [h.wa (by omega)]; rfl)
    exact Kd.R_mono (Kd.R_kept (Kd.R_types h.er hc (by decide)) hk (fun _ hq => hq.2)) (fun _ _ => trivial)
  pk := by
    obtain ⟨cs, hc⟩ := Kd.R_typed h.wk gw (by rw [h.wa (by omega)]; rfl)
    exact blk_kept h.pk hk (ne_block h.pk hc (by decide))
  pv := Kd.V_kept h.pv hk (fun _ hq => hq.1.1)
  en := by
    obtain ⟨cs, hc⟩ := Kd.R_typed h.wk gw (by rw [h.wa (by omega)]; rfl)
    exact blk_kept h.en hk (ne_block h.en hc (by decide))
  new := h.new
  old := h.old
theorem PSt.logged (h : PSt w0 w1 w n gw bp ge WA wc ws R up UA uc ev EA ec at_ last P uv E) (hr : Kd.R k42 42 w2 w0.heap.size (fun _ => True) (.slice EA2 ev2.length ec2) ev2) (hb : Below w0.heap.size w0 w2) (hg : w.grownBy w2 (Value.slice EA ev.length ec).ownBlock)
    (hat : (Value.slice EA2 ev2.length ec2).ownBlock = (Value.slice EA ev.length ec).ownBlock ∨ ∃ b, (Value.slice EA2 ev2.length ec2).ownBlock = some b ∧ w.heap.size ≤ b) : PSt w0 w1 w2 n gw bp ge WA wc ws R up UA uc ev2 EA2 ec2 at_ last P uv E := by
  have ne : ∀ {g t : Nat} {cs : Array Value}, w.heap[g]? = some (.cells cs t (0, 0)) → t ≠ 42 → some g ≠ (Value.slice EA ev.length ec).ownBlock := fun hc ht => Kd.R_ne h.er hc (Ne.symm ht)
  refine ⟨Kd.R_over' h.wk (Kd.R_typed h.er) (by decide) hg, h.wa, h.lenW, h.row, Kept.of_grown hg h.kp (fun k hk => .inr (h.new.2.2 k hk)), hb, Kd.R_over' h.ur (Kd.R_typed h.er) (by decide) hg, hr, blk_grown h.pk hg (ne h.pk (by decide)), ?_, blk_grown h.en hg (ne h.en (by decide)), ⟨h.new.1, h.new.2.1, fun q hq => ?_⟩, h.old⟩
  · exact Kd.V_after h.pv hg hat
  · rcases hat with e | ⟨b, e, hle⟩
    · exact h.new.2.2 q (e ▸ hq)
    · rw [e] at hq
      injection hq with hq
      have := h.kp.1
      omega
end
end Go.Proofs.YtmaiicpaalbcfaaDoor
end
section
namespace Go.Proofs.YtmaiicpaalbcfaaDoor.P
open Go.RowKit Go.Proofs.YtmaiicpaalbcfaaDoorW.PrintWords Go.Proofs.YtmaiicpaalbcfaaDoorW.PrintLast Go.Proofs.YtmaiicpaalbcfaaDoorW.PrintMore
attribute [local go_sem] max2_int min2_int max_two min_two max_three min_three max_four min_four   -- for this text's walks alone
set_option linter.unusedVariables false
set_option linter.unusedSimpArgs false
mutual
def play_start.l0 : Nat → Int → List (List (S40)) → List (S65) → Int → List (List (S40)) → Int → Int → Option ((List (S65)) × Bool)
 | 0, _, _, _, _, _, _, _ => none
 | k + 1, x0, x1, x6, x7, x17, x18, x19 => if x19 < x18 then (if 0 ≤ x19 then (if x19 < (x17.length : Int) then (play_start.l1 k x0 x1 x6 (wrap64 (x7 + ((rd_L2 x17 x19).length : Int))) x19 x17 x18 x19 (rd_L2 x17 x19) ((rd_L2 x17 x19).length : Int) 0) else (none)) else (none)) else (if x0 ≤ 4096 then (if (x1.length : Int) ≤ 64 then (some (x6, decide (x7 ≤ 4096))) else (some (x6, false))) else (some (x6, false)))
def play_start.l1 : Nat → Int → List (List (S40)) → List (S65) → Int → Int → List (List (S40)) → Int → Int → List (S40) → Int → Int → Option ((List (S65)) × Bool)
 | 0, _, _, _, _, _, _, _, _, _, _, _ => none
 | k + 1, x0, x1, x6, x7, x8, x17, x18, x19, x28, x29, x30 => if x30 < x29 then (if 0 ≤ x30 then (if x30 < (x28.length : Int) then ((cuf_Begin.f ((rd_T40 x28 x30).f0) ((rd_T40 x28 x30).f1) ((rd_T40 x28 x30).f2) x0).bind fun bt532 => (if bt532.2.2.2.2.2.2.2.2.2.2 = true then (if 0 ≤ x8 then (if x8 < (x6.length : Int) then (if ((rd_T65 x6 x8).f0).length < 5864062014805 then (play_start.l1 k x0 x1 (x6.set (x8 : Int).toNat (⟨(((rd_T65 x6 x8).f0) ++ [(⟨(rd_T40 x28 x30).f0, (rd_T40 x28 x30).f1, (rd_T40 x28 x30).f2⟩ : S40)]), (⟨(⟨(rd_T65 x6 x8).f1.f0.f0, (rd_T65 x6 x8).f1.f0.f1, (rd_T65 x6 x8).f1.f0.f2⟩ : S40), (rd_T65 x6 x8).f1.f1, (rd_T65 x6 x8).f1.f2, (rd_T65 x6 x8).f1.f3, (rd_T65 x6 x8).f1.f4, (rd_T65 x6 x8).f1.f5, (rd_T65 x6 x8).f1.f6, (rd_T65 x6 x8).f1.f7⟩ : S63), (rd_T65 x6 x8).f2, (rd_T65 x6 x8).f3, (rd_T65 x6 x8).f4⟩ : S65)) x7 x8 x17 x18 x19 x28 x29 (wrap64 (x30 + 1))) else (none)) else (none)) else (none)) else (play_start.l1 k x0 x1 x6 x7 x8 x17 x18 x19 x28 x29 (wrap64 (x30 + 1))))) else (none)) else (none)) else (play_start.l0 k x0 x1 x6 x7 x17 x18 (wrap64 (x19 + 1)))
end
def play_start.f (k : Nat) (a0 : Int) (l1 : List (List (S40))) : Option ((List (S65)) × Bool) := if 0 ≤ (l1.length : Int) then (if ((l1.length : Int) : Int).toNat ≤ 2199023255552 then (play_start.l0 k a0 l1 (List.replicate ((l1.length : Int) : Int).toNat z65) 0 l1 (l1.length : Int) 0) else (none)) else (none)
def play_start.T12 : Bool × List (List Nat × List Nat) := (true, [([], []), ([], []), ([], []), ([], []), ([2, 3], [2, 3]), ([4], [4]), ([5], [5]), ([], []), ([7], [7]), ([6, 8], [6, 8]), ([0, 1, 0, 1, 2, 3, 4, 5, 6, 7, 8, 9], [0, 1]), ([10, 0, 1, 2, 3, 4, 5, 6, 7, 8, 9], [10]), ([11, 9, 9, 0, 1, 2, 3, 4, 5, 6, 7, 8, 9], [9, 11])])
def play_start.B12 : List Nat := [0, 0, 0, 0, 12, 28, 60, 0, 128, 508, 1023, 2047, 4095]
theorem play_start.tab12 : rtab .any (opsOf Tryd.f22 12) = play_start.T12 := by kernel_rfl
theorem play_start.bits12 : waitsOk play_start.T12.2 play_start.B12 = true := by kernel_rfl
set_option maxHeartbeats 8000000 in
set_option maxRecDepth 100000 in
theorem play_start.calls (k : Nat) (a0 : Int) (A1 : Option Addr) (c1 : Nat) (l1 : List (List (S40))) (r1 : List (S65)) (r2 : Bool) (w : World) (hr1 : Kd.C (Kd.slice 40 k40) w A1 l1.length l1) (hc1 : l1.length ≤ c1) (h : play_start.f k a0 l1 = some (r1, r2)) :
 Calls Tryd.prog 22 #[.int .i64 a0, .slice A1 l1.length c1] w fun e w' => ∃ v0_ : Value, e = .returned (.tuple #[v0_, .bool r2]) ∧ Kd.S k65 65 w' w.heap.size (fun _ => True) v0_ r1 ∧ Below w.heap.size w w' := by
 have hu40 := Tryd.underlying40
 have hu63 := Tryd.underlying63
 have HR1 := Aside0.mk hr1
 have HC1 := Aside0.mk hc1
 clear hr1 hc1
 have HB := Aside0.mk (Below.refl w.heap.size w)
 have H : (if 0 ≤ (l1.length : Int) then (if ((l1.length : Int) : Int).toNat ≤ 2199023255552 then (play_start.l0 k a0 l1 (List.replicate ((l1.length : Int) : Int).toNat z65) 0 l1 (l1.length : Int) 0) else (none)) else (none)) = some (r1, r2) := h
 clear h
 by_cases c3 : 0 ≤ (l1.length : Int)
 ·
  rw [if_pos c3] at H
  have c3b0 := eq_true c3
  have c3b1 : decide (0 ≤ (l1.length : Int)) = true := decide_eq_true c3
  clear c3
  by_cases c4 : ((l1.length : Int) : Int).toNat ≤ 2199023255552
  ·
   rw [if_pos c4] at H
   have c4b0 := eq_true c4
   have c4b1 : decide (((l1.length : Int) : Int).toNat ≤ 2199023255552) = true := decide_eq_true c4
   clear c4
   obtain ⟨y526, hy526⟩ : ∃ y_ : List (S65), y_ = (List.replicate ((l1.length : Int) : Int).toNat z65) := ⟨_, rfl⟩
   replace H : (play_start.l0 k a0 l1 y526 0 l1 (l1.length : Int) 0) = some (r1, r2) := by first | (rw [hy526]; with_reducible exact H) | (have H2_ := (Option.bind_some _ _).symm.trans H; rw [hy526]; with_reducible exact H2_) | (have H2_ := (Option.bind_some _ _).symm.trans H; with_reducible exact H2_) | with_reducible exact H | (rw [hy526]; exact H) | exact H
   have Ny526 := Aside0.mk hy526
   clear hy526
   have H' := Aside0.mk H
   clear H
   go_enter Tryd.func22, Tryd.ntmps22
   go_wp2_with (first | ((with_reducible refine gate_dst (N := 16) rfl ?_); (try (refine gate_guard (by rfl) ?_; dsimp only)); refine Kd.S_make k65 _ 65 rfl (N := 16) rfl 54 _ _ rfl (l1.length : Int) rfl rfl Tryd.underlying54 (.agg #[(.slice none 0 0), (.int .i64 0), (.int .i64 0), (.int .i64 0), (.int .i64 0), (.int .i64 0), (.int .i64 0), (.int .i64 0), (.int .i64 0), (.bool false), (.int .i64 0), (.bool false), (.int .i64 0), (.int .i64 0)]) 128 info65 rfl (by decide) (by omega) z65 (ok := fun _ => True) (okp := fun _ => True) (k65_mkM _ _ _ z65 (Kd.R_nil _ _ _ _ _)) (fun _ hk => hk) trivial (of_decide_eq_true (by first | (with_reducible assumption) | assumption)) (Nat.le_trans (Nat.mul_le_mul_right _ (of_decide_eq_true (by first | (with_reducible assumption) | assumption) : (l1.length : Int).toNat ≤ 2199023255552)) (by omega)) (Below.refl _ _) (Nat.le_refl _) ?_; intro v527 w5 ho6 hb hg_ hnew_; clear hg_ hnew_; (first | rw [← Ny526.out] at ho6 | (simp only [Int.reduceToNat] at ho6; rw [← Ny526.out] at ho6)); have n0_ := Aside0.mk (Kd.S_lower ho6 (below_size (by repeat (first | (with_reducible first | exact HB.out | apply below_alloc | apply pw_below_drewN | apply below_drew1) | exact HB.out)))); have n1_ := Aside0.mk (below_step (by repeat (first | (with_reducible first | exact HB.out | apply below_alloc | apply pw_below_drewN | apply below_drew1) | exact HB.out)) hb); clear HB; have HO528 := n0_; have HB := n1_; clear n0_ n1_; clear hb ho6))
   go_loopg [7, 19] k (fun kq v7 v19 w' => ∃ (x6_1 : List (S65)) (x7_1 : Int) (x19_1 : Int), v7 = .int .i64 x7_1 ∧ v19 = .int .i64 x19_1 ∧ Aside0 (play_start.l0 kq a0 l1 x6_1 x7_1 l1 (l1.length : Int) x19_1 = some (r1, r2)) ∧ Aside0 (kq ≤ k) ∧ Aside0 (Kd.S k65 65 w' w.heap.size (fun _ => True) v527 x6_1) ∧ Aside0 (Below w.heap.size w w'))
   case atStart => exact ⟨(y526), (0), (0), (by first | rfl | (simp; done) | (simp [*]; done)), (by first | rfl | (simp; done) | (simp [*]; done)), H', ⟨Nat.le_refl _⟩, ⟨by (with_reducible repeat (first | apply Kd.S_alloc | apply Kd.S_drewN | apply Kd.S_drew)); exact HO528.out⟩, ⟨by repeat (first | (with_reducible first | exact HB.out | apply below_alloc | apply pw_below_drewN | apply below_drew1) | exact HB.out)⟩⟩
   case round =>
    clear H'
    (try clear c1); (try clear c2); (try clear p2); (try clear c3); (try clear c3b0); (try clear c3b1); (try clear c4); (try clear c4b0); (try clear c4b1)
    obtain ⟨x6_1, x7_1, x19_1, rfl, rfl, HA, HK1, HO_6, HB⟩ := hrel
    cases gk with
    | zero => exact absurd HA.out (by simp [play_start.l0])
    | succ k1 =>
     have H := HA.out
     clear HA
     simp only [play_start.l0] at H
     by_cases c7 : x19_1 < (l1.length : Int)
     ·
      rw [if_pos c7] at H
      have c7b0 : decide (x19_1 < (l1.length : Int)) = true := decide_eq_true c7
      clear c7
      by_cases c8 : 0 ≤ x19_1
      ·
       rw [if_pos c8] at H
       have c8b0 : decide (0 ≤ x19_1) = true := decide_eq_true c8
       clear c8
       by_cases c9 : x19_1 < (l1.length : Int)
       ·
        rw [if_pos c9] at H
        have c9b0 : decide (x19_1 < (l1.length : Int)) = true := decide_eq_true c9
        clear c9
        have H' := Aside0.mk H
        clear H
        have p529 : 0 ≤ (x19_1 : Int) := of_decide_eq_true (by first | (with_reducible assumption) | assumption)
        have q529 : x19_1 < (l1.length : Int) := of_decide_eq_true (by first | (with_reducible assumption) | assumption)
        obtain ⟨ad529, A529_0, c529_0, e529, hx529_0, hl529_0, hi529_0⟩ := at_L2 HR1.out x19_1 p529 q529
        cases e529
        replace hx529_0 := (HB.out.cell (World.block_lt_of_cell? w _ hx529_0)).trans hx529_0
        have HR529_0 := Aside0.mk hi529_0
        have HC529_0 := Aside0.mk hl529_0
        clear hi529_0 hl529_0
        replace p529 := eq_true p529
        replace q529 := eq_true q529
        go_wp2
        go_loopg [30] k1 (fun kq v30 w' => ∃ (x6_2 : List (S65)) (x30_2 : Int), v30 = .int .i64 x30_2 ∧ Aside0 (play_start.l1 kq a0 l1 x6_2 (wrap64 (x7_1 + ((rd_L2 l1 x19_1).length : Int))) x19_1 l1 (l1.length : Int) x19_1 (rd_L2 l1 x19_1) ((rd_L2 l1 x19_1).length : Int) x30_2 = some (r1, r2)) ∧ Aside0 (kq ≤ k1) ∧ Aside0 (Kd.S k65 65 w' w.heap.size (fun _ => True) v527 x6_2) ∧ Aside0 (Below w.heap.size w w'))
        case atStart => exact ⟨(x6_1), (0), (by first | rfl | (simp; done) | (simp [*]; done)), H', ⟨Nat.le_refl _⟩, ⟨by (with_reducible repeat (first | apply Kd.S_alloc | apply Kd.S_drewN | apply Kd.S_drew)); exact HO_6.out⟩, ⟨by repeat (first | (with_reducible first | exact HB.out | apply below_alloc | apply pw_below_drewN | apply below_drew1) | exact HB.out)⟩⟩
        case round =>
         clear H'
         (try clear c1); (try clear c2); (try clear p2); (try clear c3); (try clear c3b0); (try clear c3b1); (try clear c4); (try clear c4b0); (try clear c4b1); (try clear c5); (try clear p5); (try clear q5); (try clear hx5); (try clear p6); (try clear c7); (try clear c7b0); (try clear c8); (try clear c8b0); (try clear c9); (try clear c9b0); (try clear hx529_0); (try clear p2); (try clear p529); (try clear q529)
         obtain ⟨x6_2, x30_2, rfl, HA, HK2, HO_6, HB⟩ := hrel
         cases gk with
         | zero => exact absurd HA.out (by simp [play_start.l1])
         | succ k2 =>
          have H := HA.out
          clear HA
          simp only [play_start.l1] at H
          by_cases c10 : x30_2 < ((rd_L2 l1 x19_1).length : Int)
          ·
           rw [if_pos c10] at H
           have c10b0 : decide (x30_2 < ((rd_L2 l1 x19_1).length : Int)) = true := decide_eq_true c10
           clear c10
           by_cases c11 : 0 ≤ x30_2
           ·
            rw [if_pos c11] at H
            have c11b0 : decide (0 ≤ x30_2) = true := decide_eq_true c11
            clear c11
            by_cases c12 : x30_2 < ((rd_L2 l1 x19_1).length : Int)
            ·
             rw [if_pos c12] at H
             have c12b0 : decide (x30_2 < ((rd_L2 l1 x19_1).length : Int)) = true := decide_eq_true c12
             clear c12
             replace H := Option.bind_eq_some_iff.mp H
             obtain ⟨⟨t532, t533, t534, t535, t536, t537, t538, t539, t540, t541, t542⟩, A130, H⟩ := H
             replace H : (if t542 = true then (if 0 ≤ x19_1 then (if x19_1 < (x6_2.length : Int) then (if ((rd_T65 x6_2 x19_1).f0).length < 5864062014805 then (play_start.l1 k2 a0 l1 (x6_2.set (x19_1 : Int).toNat (⟨(((rd_T65 x6_2 x19_1).f0) ++ [(⟨(rd_T40 (rd_L2 l1 x19_1) x30_2).f0, (rd_T40 (rd_L2 l1 x19_1) x30_2).f1, (rd_T40 (rd_L2 l1 x19_1) x30_2).f2⟩ : S40)]), (⟨(⟨(rd_T65 x6_2 x19_1).f1.f0.f0, (rd_T65 x6_2 x19_1).f1.f0.f1, (rd_T65 x6_2 x19_1).f1.f0.f2⟩ : S40), (rd_T65 x6_2 x19_1).f1.f1, (rd_T65 x6_2 x19_1).f1.f2, (rd_T65 x6_2 x19_1).f1.f3, (rd_T65 x6_2 x19_1).f1.f4, (rd_T65 x6_2 x19_1).f1.f5, (rd_T65 x6_2 x19_1).f1.f6, (rd_T65 x6_2 x19_1).f1.f7⟩ : S63), (rd_T65 x6_2 x19_1).f2, (rd_T65 x6_2 x19_1).f3, (rd_T65 x6_2 x19_1).f4⟩ : S65)) (wrap64 (x7_1 + ((rd_L2 l1 x19_1).length : Int))) x19_1 l1 (l1.length : Int) x19_1 (rd_L2 l1 x19_1) ((rd_L2 l1 x19_1).length : Int) (wrap64 (x30_2 + 1))) else (none)) else (none)) else (none)) else (play_start.l1 k2 a0 l1 x6_2 (wrap64 (x7_1 + ((rd_L2 l1 x19_1).length : Int))) x19_1 l1 (l1.length : Int) x19_1 (rd_L2 l1 x19_1) ((rd_L2 l1 x19_1).length : Int) (wrap64 (x30_2 + 1)))) = some (r1, r2) := H
             have A13 := Aside0.mk A130
             clear A130
             by_cases c14 : t542 = true
             ·
              subst c14
              have H1 : (if 0 ≤ x19_1 then (if x19_1 < (x6_2.length : Int) then (if ((rd_T65 x6_2 x19_1).f0).length < 5864062014805 then (play_start.l1 k2 a0 l1 (x6_2.set (x19_1 : Int).toNat (⟨(((rd_T65 x6_2 x19_1).f0) ++ [(⟨(rd_T40 (rd_L2 l1 x19_1) x30_2).f0, (rd_T40 (rd_L2 l1 x19_1) x30_2).f1, (rd_T40 (rd_L2 l1 x19_1) x30_2).f2⟩ : S40)]), (⟨(⟨(rd_T65 x6_2 x19_1).f1.f0.f0, (rd_T65 x6_2 x19_1).f1.f0.f1, (rd_T65 x6_2 x19_1).f1.f0.f2⟩ : S40), (rd_T65 x6_2 x19_1).f1.f1, (rd_T65 x6_2 x19_1).f1.f2, (rd_T65 x6_2 x19_1).f1.f3, (rd_T65 x6_2 x19_1).f1.f4, (rd_T65 x6_2 x19_1).f1.f5, (rd_T65 x6_2 x19_1).f1.f6, (rd_T65 x6_2 x19_1).f1.f7⟩ : S63), (rd_T65 x6_2 x19_1).f2, (rd_T65 x6_2 x19_1).f3, (rd_T65 x6_2 x19_1).f4⟩ : S65)) (wrap64 (x7_1 + ((rd_L2 l1 x19_1).length : Int))) x19_1 l1 (l1.length : Int) x19_1 (rd_L2 l1 x19_1) ((rd_L2 l1 x19_1).length : Int) (wrap64 (x30_2 + 1))) else (none)) else (none)) else (none)) = some (r1, r2) := by rw [if_pos rfl] at H; exact H
              clear H
              have H := H1
              clear H1
              by_cases c15 : 0 ≤ x19_1
              ·
               rw [if_pos c15] at H
               have c15b0 : decide (0 ≤ x19_1) = true := decide_eq_true c15
               clear c15
               by_cases c16 : x19_1 < (x6_2.length : Int)
               ·
                rw [if_pos c16] at H
                have c16b0 : decide (x19_1 < (x6_2.length : Int)) = true := decide_eq_true c16
                clear c16
                by_cases c17 : ((rd_T65 x6_2 x19_1).f0).length < 5864062014805
                ·
                 rw [if_pos c17] at H
                 have LMc17 := Aside0.mk c17
                 clear c17
                 obtain ⟨y545, hy545⟩ : ∃ y_ : List (S40), y_ = (((rd_T65 x6_2 x19_1).f0) ++ [(⟨(rd_T40 (rd_L2 l1 x19_1) x30_2).f0, (rd_T40 (rd_L2 l1 x19_1) x30_2).f1, (rd_T40 (rd_L2 l1 x19_1) x30_2).f2⟩ : S40)]) := ⟨_, rfl⟩
                 replace H : (play_start.l1 k2 a0 l1 (x6_2.set (x19_1 : Int).toNat (⟨y545, (⟨(⟨(rd_T65 x6_2 x19_1).f1.f0.f0, (rd_T65 x6_2 x19_1).f1.f0.f1, (rd_T65 x6_2 x19_1).f1.f0.f2⟩ : S40), (rd_T65 x6_2 x19_1).f1.f1, (rd_T65 x6_2 x19_1).f1.f2, (rd_T65 x6_2 x19_1).f1.f3, (rd_T65 x6_2 x19_1).f1.f4, (rd_T65 x6_2 x19_1).f1.f5, (rd_T65 x6_2 x19_1).f1.f6, (rd_T65 x6_2 x19_1).f1.f7⟩ : S63), (rd_T65 x6_2 x19_1).f2, (rd_T65 x6_2 x19_1).f3, (rd_T65 x6_2 x19_1).f4⟩ : S65)) (wrap64 (x7_1 + ((rd_L2 l1 x19_1).length : Int))) x19_1 l1 (l1.length : Int) x19_1 (rd_L2 l1 x19_1) ((rd_L2 l1 x19_1).length : Int) (wrap64 (x30_2 + 1))) = some (r1, r2) := by first | (rw [hy545]; with_reducible exact H) | (have H2_ := (Option.bind_some _ _).symm.trans H; rw [hy545]; with_reducible exact H2_) | (have H2_ := (Option.bind_some _ _).symm.trans H; with_reducible exact H2_) | with_reducible exact H | (rw [hy545]; exact H) | exact H
                 have Ny545 := Aside0.mk hy545
                 clear hy545
                 obtain ⟨y548, hy548⟩ : ∃ y_ : List (S65), y_ = (x6_2.set (x19_1 : Int).toNat (⟨y545, (⟨(⟨(rd_T65 x6_2 x19_1).f1.f0.f0, (rd_T65 x6_2 x19_1).f1.f0.f1, (rd_T65 x6_2 x19_1).f1.f0.f2⟩ : S40), (rd_T65 x6_2 x19_1).f1.f1, (rd_T65 x6_2 x19_1).f1.f2, (rd_T65 x6_2 x19_1).f1.f3, (rd_T65 x6_2 x19_1).f1.f4, (rd_T65 x6_2 x19_1).f1.f5, (rd_T65 x6_2 x19_1).f1.f6, (rd_T65 x6_2 x19_1).f1.f7⟩ : S63), (rd_T65 x6_2 x19_1).f2, (rd_T65 x6_2 x19_1).f3, (rd_T65 x6_2 x19_1).f4⟩ : S65)) := ⟨_, rfl⟩
                 replace H : (play_start.l1 k2 a0 l1 y548 (wrap64 (x7_1 + ((rd_L2 l1 x19_1).length : Int))) x19_1 l1 (l1.length : Int) x19_1 (rd_L2 l1 x19_1) ((rd_L2 l1 x19_1).length : Int) (wrap64 (x30_2 + 1))) = some (r1, r2) := by first | (rw [hy548]; with_reducible exact H) | (have H2_ := (Option.bind_some _ _).symm.trans H; rw [hy548]; with_reducible exact H2_) | (have H2_ := (Option.bind_some _ _).symm.trans H; with_reducible exact H2_) | with_reducible exact H | (rw [hy548]; exact H) | exact H
                 have Ny548 := Aside0.mk hy548
                 clear hy548
                 have H' := Aside0.mk H
                 clear H
                 have p530 : 0 ≤ (x30_2 : Int) := of_decide_eq_true (by first | (with_reducible assumption) | assumption)
                 have q530 : x30_2 < ((rd_L2 l1 x19_1).length : Int) := of_decide_eq_true (by first | (with_reducible assumption) | assumption)
                 obtain ⟨ad530, e530, hx530_0, hx530_1, hx530_2⟩ := at_T40 HR529_0.out x30_2 p530 q530
                 cases e530
                 replace hx530_0 := (HB.out.cell (World.block_lt_of_cell? w _ hx530_0)).trans hx530_0
                 replace hx530_1 := (HB.out.cell (World.block_lt_of_cell? w _ hx530_1)).trans hx530_1
                 replace hx530_2 := (HB.out.cell (World.block_lt_of_cell? w _ hx530_2)).trans hx530_2
                 replace p530 := eq_true p530
                 replace q530 := eq_true q530
                 try go_wp2_with (first | ((with_reducible refine gate_dst (N := 11) rfl ?_); (try (refine gate_guard (by rfl) ?_; dsimp only)); refine box_event ?hg (N := 11) ?hd (cs := #[.int .i64 0, .int .i64 0, .int .i64 0]) (t := 40) ?hr ?_; (case hd => rfl); (case hg => rfl); (case hr => first | (go_simp; done) | (go_simp; rfl)); intro gb531 hg w19 hbox hb; have n0_ := Aside0.mk (Kd.S_below (Kd.S_elderB (by (with_reducible repeat (first | apply Kd.S_alloc | apply Kd.S_drewN | apply Kd.S_drew)); exact HO_6.out) gb531 (Nat.le_of_eq hg.symm)) hb); have n1_ := Aside0.mk (below_step (by repeat (first | (with_reducible first | exact HB.out | apply below_alloc | apply pw_below_drewN | apply below_drew1) | exact HB.out)) hb); have n2_ := Aside0.mk (hbox); have n3_ := Aside0.mk ((by rw [hg]; exact (below_size (by repeat (first | (with_reducible first | exact HB.out | apply below_alloc | apply pw_below_drewN | apply below_drew1) | exact HB.out))) : w.heap.size ≤ gb531)); have n4_ := Aside0.mk ((by rw [hg]; exact (below_size (by repeat (first | (with_reducible first | exact HB.out | apply below_alloc | apply pw_below_drewN | apply below_drew1) | exact HB.out))) : w.heap.size ≤ gb531)); clear HO_6; clear HB; have HO_6 := n0_; have HB := n1_; have BK531 := n2_; have GW531 := n3_; have GE531 := n4_; clear n0_ n1_ n2_ n3_ n4_; clear hb hbox hg; have hcz20_0 : w19.cell? ⟨gb531, 0, none⟩ = some (.int .i64 0) := (blk_cell BK531.out 0).trans rfl; have hcz20_1 : w19.cell? ⟨gb531, 1, none⟩ = some (.int .i64 0) := (blk_cell BK531.out 1).trans rfl; have hcz20_2 : w19.cell? ⟨gb531, 2, none⟩ = some (.int .i64 0) := (blk_cell BK531.out 2).trans rfl; have hfz20_0 := blk_frozen BK531.out 0; have hfz20_1 := blk_frozen BK531.out 1; have hfz20_2 := blk_frozen BK531.out 2) | ((with_reducible refine gate_callee (f := 33) rfl ?_); refine goesL_ (some 37) rfl rfl Tryd.func33 (by kernel_rfl) rfl #[.agg #[.int .i64 ((rd_T40 (rd_L2 l1 x19_1) x30_2).f0), .int .i64 ((rd_T40 (rd_L2 l1 x19_1) x30_2).f1), .int .i64 ((rd_T40 (rd_L2 l1 x19_1) x30_2).f2)], .int .i64 a0] rfl (by (try simp only [List.map_toArray, List.map_cons, List.map_nil]); first | done | rfl | (simp only [List.length_drop, List.length_take]; rfl)) ?_; (with_reducible refine (cuf_Begin.calls ((rd_T40 (rd_L2 l1 x19_1) x30_2).f0) ((rd_T40 (rd_L2 l1 x19_1) x30_2).f1) ((rd_T40 (rd_L2 l1 x19_1) x30_2).f2) a0 t532 t533 t534 t535 t536 t537 t538 t539 t540 t541 true _ A13.out).mono ?_); rintro e w21 ⟨rfl, hb⟩; refine ⟨_, rfl, ?_⟩; have n0_ := Aside0.mk (Kd.S_below (by (with_reducible repeat (first | apply Kd.S_alloc | apply Kd.S_drewN | apply Kd.S_drew)); exact (Kd.S_mono (Kd.S_far (p := ⟨gb531, 2, none⟩) (Kd.S_far (p := ⟨gb531, 1, none⟩) (Kd.S_far (p := ⟨gb531, 0, none⟩) (Kd.S_mono HO_6.out (fun k_ hk => (⟨hk, hk.2⟩ : _ ∧ k_ ≠ gb531))) (fun _ hk => hk.2) (.int .i64 ((rd_T40 (rd_L2 l1 x19_1) x30_2).f0))) (fun _ hk => hk.2) (.int .i64 ((rd_T40 (rd_L2 l1 x19_1) x30_2).f1))) (fun _ hk => hk.2) (.int .i64 ((rd_T40 (rd_L2 l1 x19_1) x30_2).f2))) (fun _ h_ => h_.1))) hb); have n1_ := Aside0.mk (blk_below (g := gb531) (o := .cells #[.int .i64 ((rd_T40 (rd_L2 l1 x19_1) x30_2).f0), .int .i64 ((rd_T40 (rd_L2 l1 x19_1) x30_2).f1), .int .i64 ((rd_T40 (rd_L2 l1 x19_1) x30_2).f2)] 40 (0, 0)) (by (with_reducible repeat (first | refine blk_drewN ?_ _ | refine blk_drew ?_ | refine blk_alloc ?_ _)); refine blk_put (cs := #[.int .i64 ((rd_T40 (rd_L2 l1 x19_1) x30_2).f0), .int .i64 ((rd_T40 (rd_L2 l1 x19_1) x30_2).f1), .int .i64 0]) ?_ 2 _ rfl; (with_reducible repeat (first | refine blk_drewN ?_ _ | refine blk_drew ?_ | refine blk_alloc ?_ _)); refine blk_put (cs := #[.int .i64 ((rd_T40 (rd_L2 l1 x19_1) x30_2).f0), .int .i64 0, .int .i64 0]) ?_ 1 _ rfl; (with_reducible repeat (first | refine blk_drewN ?_ _ | refine blk_drew ?_ | refine blk_alloc ?_ _)); refine blk_put (cs := #[.int .i64 0, .int .i64 0, .int .i64 0]) ?_ 0 _ rfl; (with_reducible repeat (first | refine blk_drewN ?_ _ | refine blk_drew ?_ | refine blk_alloc ?_ _)); exact BK531.out) hb); have n2_ := Aside0.mk (below_step (by repeat (first | (with_reducible first | exact HB.out | apply below_alloc | apply pw_below_drewN | apply below_drew1 | refine below_set ?_ GE531.out) | exact HB.out)) hb); clear HO_6; clear BK531; clear HB; have HO_6 := n0_; have BK531 := n1_; have HB := n2_; clear n0_ n1_ n2_; (try clear hb); (try clear hb2); (try clear hk); (try clear hi)) | ((with_reducible refine gate_dst (N := 12) rfl ?_); (try (refine gate_guard (by rfl) ?_; dsimp only)); refine box_event ?hg (N := 12) ?hd (cs := #[.int .i64 0, .int .i64 0, .int .i64 0, .int .i64 0, .int .i64 0, .int .i64 0, .int .i64 0, .int .i64 0, .bool false, .int .i64 0]) (t := 63) ?hr ?_; (case hd => rfl); (case hg => rfl); (case hr => first | (go_simp; done) | (go_simp; rfl)); intro gb543 hg w22 hbox hb; have n0_ := Aside0.mk (Kd.S_below (by (with_reducible repeat (first | apply Kd.S_alloc | apply Kd.S_drewN | apply Kd.S_drew)); exact HO_6.out) hb); have n1_ := Aside0.mk (blk_below (g := gb531) (o := .cells #[.int .i64 ((rd_T40 (rd_L2 l1 x19_1) x30_2).f0), .int .i64 ((rd_T40 (rd_L2 l1 x19_1) x30_2).f1), .int .i64 ((rd_T40 (rd_L2 l1 x19_1) x30_2).f2)] 40 (0, 0)) (by (with_reducible repeat (first | refine blk_drewN ?_ _ | refine blk_drew ?_ | refine blk_alloc ?_ _)); exact BK531.out) hb); have n2_ := Aside0.mk (below_step (by repeat (first | (with_reducible first | exact HB.out | apply below_alloc | apply pw_below_drewN | apply below_drew1 | refine below_set ?_ GE531.out) | exact HB.out)) hb); have n3_ := Aside0.mk (hbox); have n4_ := Aside0.mk ((by rw [hg]; exact (below_size (by repeat (first | (with_reducible first | exact HB.out | apply below_alloc | apply pw_below_drewN | apply below_drew1 | refine below_set ?_ GE531.out) | exact HB.out))) : w.heap.size ≤ gb543)); have n5_ := Aside0.mk ((by rw [hg]; exact (below_size (by repeat (first | (with_reducible first | exact HB.out | apply below_alloc | apply pw_below_drewN | apply below_drew1 | refine below_set ?_ GE531.out) | exact HB.out))) : w.heap.size ≤ gb543)); have n6_ := Aside0.mk ((by rw [hg]; exact Nat.ne_of_lt (blk_lt (g := gb531) (o := .cells #[.int .i64 ((rd_T40 (rd_L2 l1 x19_1) x30_2).f0), .int .i64 ((rd_T40 (rd_L2 l1 x19_1) x30_2).f1), .int .i64 ((rd_T40 (rd_L2 l1 x19_1) x30_2).f2)] 40 (0, 0)) (by (with_reducible repeat (first | refine blk_drewN ?_ _ | refine blk_drew ?_ | refine blk_alloc ?_ _)); exact BK531.out)) : gb531 ≠ gb543)); have n7_ := Aside0.mk ((by rw [hg]; exact Nat.ne_of_gt (blk_lt (g := gb531) (o := .cells #[.int .i64 ((rd_T40 (rd_L2 l1 x19_1) x30_2).f0), .int .i64 ((rd_T40 (rd_L2 l1 x19_1) x30_2).f1), .int .i64 ((rd_T40 (rd_L2 l1 x19_1) x30_2).f2)] 40 (0, 0)) (by (with_reducible repeat (first | refine blk_drewN ?_ _ | refine blk_drew ?_ | refine blk_alloc ?_ _)); exact BK531.out)) : gb543 ≠ gb531)); clear HO_6; clear BK531; clear HB; have HO_6 := n0_; have BK531 := n1_; have HB := n2_; have BK543 := n3_; have GW543 := n4_; have GE543 := n5_; have NB531_543 := n6_; have NB543_531 := n7_; clear n0_ n1_ n2_ n3_ n4_ n5_ n6_ n7_; clear hb hbox hg; have hnb23 := NB543_531.out; have hnc23 := NB531_543.out; have hcz24_0 : w22.cell? ⟨gb543, 0, none⟩ = some (.int .i64 0) := (blk_cell BK543.out 0).trans rfl; have hcz24_1 : w22.cell? ⟨gb543, 1, none⟩ = some (.int .i64 0) := (blk_cell BK543.out 1).trans rfl; have hcz24_2 : w22.cell? ⟨gb543, 2, none⟩ = some (.int .i64 0) := (blk_cell BK543.out 2).trans rfl; have hcz24_3 : w22.cell? ⟨gb543, 3, none⟩ = some (.int .i64 0) := (blk_cell BK543.out 3).trans rfl; have hcz24_4 : w22.cell? ⟨gb543, 4, none⟩ = some (.int .i64 0) := (blk_cell BK543.out 4).trans rfl; have hcz24_5 : w22.cell? ⟨gb543, 5, none⟩ = some (.int .i64 0) := (blk_cell BK543.out 5).trans rfl; have hcz24_6 : w22.cell? ⟨gb543, 6, none⟩ = some (.int .i64 0) := (blk_cell BK543.out 6).trans rfl; have hcz24_7 : w22.cell? ⟨gb543, 7, none⟩ = some (.int .i64 0) := (blk_cell BK543.out 7).trans rfl; have hcz24_8 : w22.cell? ⟨gb543, 8, none⟩ = some (.bool false) := (blk_cell BK543.out 8).trans rfl; have hcz24_9 : w22.cell? ⟨gb543, 9, none⟩ = some (.int .i64 0) := (blk_cell BK543.out 9).trans rfl; have hfz24_0 := blk_frozen BK543.out 0; have hfz24_1 := blk_frozen BK543.out 1; have hfz24_2 := blk_frozen BK543.out 2; have hfz24_3 := blk_frozen BK543.out 3; have hfz24_4 := blk_frozen BK543.out 4; have hfz24_5 := blk_frozen BK543.out 5; have hfz24_6 := blk_frozen BK543.out 6; have hfz24_7 := blk_frozen BK543.out 7; have hfz24_8 := blk_frozen BK543.out 8; have hfz24_9 := blk_frozen BK543.out 9))
                 have n0_ : Aside0 (Kd.S k65 65 ((((((((((w22.setCell ⟨gb543, 0, none⟩ (.int .i64 t532)).setCell ⟨gb543, 1, none⟩ (.int .i64 t533)).setCell ⟨gb543, 2, none⟩ (.int .i64 t534)).setCell ⟨gb543, 3, none⟩ (.int .i64 t535)).setCell ⟨gb543, 4, none⟩ (.int .i64 t536)).setCell ⟨gb543, 5, none⟩ (.int .i64 t537)).setCell ⟨gb543, 6, none⟩ (.int .i64 t538)).setCell ⟨gb543, 7, none⟩ (.int .i64 t539)).setCell ⟨gb543, 8, none⟩ (.bool t540)).setCell ⟨gb543, 9, none⟩ (.int .i64 t541)) w.heap.size (fun k_ => k_ ≠ gb531) v527 x6_2) := ⟨by (with_reducible repeat (first | apply Kd.S_alloc | apply Kd.S_drewN | apply Kd.S_drew)); exact Kd.S_mono (Kd.S_far (p := ⟨gb543, 9, none⟩) (Kd.S_far (p := ⟨gb543, 8, none⟩) (Kd.S_far (p := ⟨gb543, 7, none⟩) (Kd.S_far (p := ⟨gb543, 6, none⟩) (Kd.S_far (p := ⟨gb543, 5, none⟩) (Kd.S_far (p := ⟨gb543, 4, none⟩) (Kd.S_far (p := ⟨gb543, 3, none⟩) (Kd.S_far (p := ⟨gb543, 2, none⟩) (Kd.S_far (p := ⟨gb543, 1, none⟩) (Kd.S_far (p := ⟨gb543, 0, none⟩) (Kd.S_types HO_6.out BK543.out (by decide)) (fun _ hk => hk.2) (.int .i64 t532)) (fun _ hk => hk.2) (.int .i64 t533)) (fun _ hk => hk.2) (.int .i64 t534)) (fun _ hk => hk.2) (.int .i64 t535)) (fun _ hk => hk.2) (.int .i64 t536)) (fun _ hk => hk.2) (.int .i64 t537)) (fun _ hk => hk.2) (.int .i64 t538)) (fun _ hk => hk.2) (.int .i64 t539)) (fun _ hk => hk.2) (.bool t540)) (fun _ hk => hk.2) (.int .i64 t541)) (fun _ hk => hk.1.2)⟩
                 have n1_ : Aside0 (((((((((((w22.setCell ⟨gb543, 0, none⟩ (.int .i64 t532)).setCell ⟨gb543, 1, none⟩ (.int .i64 t533)).setCell ⟨gb543, 2, none⟩ (.int .i64 t534)).setCell ⟨gb543, 3, none⟩ (.int .i64 t535)).setCell ⟨gb543, 4, none⟩ (.int .i64 t536)).setCell ⟨gb543, 5, none⟩ (.int .i64 t537)).setCell ⟨gb543, 6, none⟩ (.int .i64 t538)).setCell ⟨gb543, 7, none⟩ (.int .i64 t539)).setCell ⟨gb543, 8, none⟩ (.bool t540)).setCell ⟨gb543, 9, none⟩ (.int .i64 t541)).heap[gb531]? = some (.cells #[.int .i64 ((rd_T40 (rd_L2 l1 x19_1) x30_2).f0), .int .i64 ((rd_T40 (rd_L2 l1 x19_1) x30_2).f1), .int .i64 ((rd_T40 (rd_L2 l1 x19_1) x30_2).f2)] 40 (0, 0))) := ⟨by (with_reducible repeat (first | refine blk_drewN ?_ _ | refine blk_drew ?_ | refine blk_alloc ?_ _)); refine blk_far ?_ NB531_543.out _; (with_reducible repeat (first | refine blk_drewN ?_ _ | refine blk_drew ?_ | refine blk_alloc ?_ _)); refine blk_far ?_ NB531_543.out _; (with_reducible repeat (first | refine blk_drewN ?_ _ | refine blk_drew ?_ | refine blk_alloc ?_ _)); refine blk_far ?_ NB531_543.out _; (with_reducible repeat (first | refine blk_drewN ?_ _ | refine blk_drew ?_ | refine blk_alloc ?_ _)); refine blk_far ?_ NB531_543.out _; (with_reducible repeat (first | refine blk_drewN ?_ _ | refine blk_drew ?_ | refine blk_alloc ?_ _)); refine blk_far ?_ NB531_543.out _; (with_reducible repeat (first | refine blk_drewN ?_ _ | refine blk_drew ?_ | refine blk_alloc ?_ _)); refine blk_far ?_ NB531_543.out _; (with_reducible repeat (first | refine blk_drewN ?_ _ | refine blk_drew ?_ | refine blk_alloc ?_ _)); refine blk_far ?_ NB531_543.out _; (with_reducible repeat (first | refine blk_drewN ?_ _ | refine blk_drew ?_ | refine blk_alloc ?_ _)); refine blk_far ?_ NB531_543.out _; (with_reducible repeat (first | refine blk_drewN ?_ _ | refine blk_drew ?_ | refine blk_alloc ?_ _)); refine blk_far ?_ NB531_543.out _; (with_reducible repeat (first | refine blk_drewN ?_ _ | refine blk_drew ?_ | refine blk_alloc ?_ _)); refine blk_far ?_ NB531_543.out _; (with_reducible repeat (first | refine blk_drewN ?_ _ | refine blk_drew ?_ | refine blk_alloc ?_ _)); exact BK531.out⟩
                 have n2_ : Aside0 (((((((((((w22.setCell ⟨gb543, 0, none⟩ (.int .i64 t532)).setCell ⟨gb543, 1, none⟩ (.int .i64 t533)).setCell ⟨gb543, 2, none⟩ (.int .i64 t534)).setCell ⟨gb543, 3, none⟩ (.int .i64 t535)).setCell ⟨gb543, 4, none⟩ (.int .i64 t536)).setCell ⟨gb543, 5, none⟩ (.int .i64 t537)).setCell ⟨gb543, 6, none⟩ (.int .i64 t538)).setCell ⟨gb543, 7, none⟩ (.int .i64 t539)).setCell ⟨gb543, 8, none⟩ (.bool t540)).setCell ⟨gb543, 9, none⟩ (.int .i64 t541)).heap[gb543]? = some (.cells #[.int .i64 t532, .int .i64 t533, .int .i64 t534, .int .i64 t535, .int .i64 t536, .int .i64 t537, .int .i64 t538, .int .i64 t539, .bool t540, .int .i64 t541] 63 (0, 0))) := ⟨by (with_reducible repeat (first | refine blk_drewN ?_ _ | refine blk_drew ?_ | refine blk_alloc ?_ _)); refine blk_put (cs := #[.int .i64 t532, .int .i64 t533, .int .i64 t534, .int .i64 t535, .int .i64 t536, .int .i64 t537, .int .i64 t538, .int .i64 t539, .bool t540, .int .i64 0]) ?_ 9 _ rfl; (with_reducible repeat (first | refine blk_drewN ?_ _ | refine blk_drew ?_ | refine blk_alloc ?_ _)); refine blk_put (cs := #[.int .i64 t532, .int .i64 t533, .int .i64 t534, .int .i64 t535, .int .i64 t536, .int .i64 t537, .int .i64 t538, .int .i64 t539, .bool false, .int .i64 0]) ?_ 8 _ rfl; (with_reducible repeat (first | refine blk_drewN ?_ _ | refine blk_drew ?_ | refine blk_alloc ?_ _)); refine blk_put (cs := #[.int .i64 t532, .int .i64 t533, .int .i64 t534, .int .i64 t535, .int .i64 t536, .int .i64 t537, .int .i64 t538, .int .i64 0, .bool false, .int .i64 0]) ?_ 7 _ rfl; (with_reducible repeat (first | refine blk_drewN ?_ _ | refine blk_drew ?_ | refine blk_alloc ?_ _)); refine blk_put (cs := #[.int .i64 t532, .int .i64 t533, .int .i64 t534, .int .i64 t535, .int .i64 t536, .int .i64 t537, .int .i64 0, .int .i64 0, .bool false, .int .i64 0]) ?_ 6 _ rfl; (with_reducible repeat (first | refine blk_drewN ?_ _ | refine blk_drew ?_ | refine blk_alloc ?_ _)); refine blk_put (cs := #[.int .i64 t532, .int .i64 t533, .int .i64 t534, .int .i64 t535, .int .i64 t536, .int .i64 0, .int .i64 0, .int .i64 0, .bool false, .int .i64 0]) ?_ 5 _ rfl; (with_reducible repeat (first | refine blk_drewN ?_ _ | refine blk_drew ?_ | refine blk_alloc ?_ _)); refine blk_put (cs := #[.int .i64 t532, .int .i64 t533, .int .i64 t534, .int .i64 t535, .int .i64 0, .int .i64 0, .int .i64 0, .int .i64 0, .bool false, .int .i64 0]) ?_ 4 _ rfl; (with_reducible repeat (first | refine blk_drewN ?_ _ | refine blk_drew ?_ | refine blk_alloc ?_ _)); refine blk_put (cs := #[.int .i64 t532, .int .i64 t533, .int .i64 t534, .int .i64 0, .int .i64 0, .int .i64 0, .int .i64 0, .int .i64 0, .bool false, .int .i64 0]) ?_ 3 _ rfl; (with_reducible repeat (first | refine blk_drewN ?_ _ | refine blk_drew ?_ | refine blk_alloc ?_ _)); refine blk_put (cs := #[.int .i64 t532, .int .i64 t533, .int .i64 0, .int .i64 0, .int .i64 0, .int .i64 0, .int .i64 0, .int .i64 0, .bool false, .int .i64 0]) ?_ 2 _ rfl; (with_reducible repeat (first | refine blk_drewN ?_ _ | refine blk_drew ?_ | refine blk_alloc ?_ _)); refine blk_put (cs := #[.int .i64 t532, .int .i64 0, .int .i64 0, .int .i64 0, .int .i64 0, .int .i64 0, .int .i64 0, .int .i64 0, .bool false, .int .i64 0]) ?_ 1 _ rfl; (with_reducible repeat (first | refine blk_drewN ?_ _ | refine blk_drew ?_ | refine blk_alloc ?_ _)); refine blk_put (cs := #[.int .i64 0, .int .i64 0, .int .i64 0, .int .i64 0, .int .i64 0, .int .i64 0, .int .i64 0, .int .i64 0, .bool false, .int .i64 0]) ?_ 0 _ rfl; (with_reducible repeat (first | refine blk_drewN ?_ _ | refine blk_drew ?_ | refine blk_alloc ?_ _)); exact BK543.out⟩
                 have n3_ : Aside0 (Below w.heap.size w ((((((((((w22.setCell ⟨gb543, 0, none⟩ (.int .i64 t532)).setCell ⟨gb543, 1, none⟩ (.int .i64 t533)).setCell ⟨gb543, 2, none⟩ (.int .i64 t534)).setCell ⟨gb543, 3, none⟩ (.int .i64 t535)).setCell ⟨gb543, 4, none⟩ (.int .i64 t536)).setCell ⟨gb543, 5, none⟩ (.int .i64 t537)).setCell ⟨gb543, 6, none⟩ (.int .i64 t538)).setCell ⟨gb543, 7, none⟩ (.int .i64 t539)).setCell ⟨gb543, 8, none⟩ (.bool t540)).setCell ⟨gb543, 9, none⟩ (.int .i64 t541))) := ⟨by repeat (first | (with_reducible first | exact HB.out | apply below_alloc | apply pw_below_drewN | apply below_drew1 | refine below_set ?_ GE531.out | refine below_set ?_ GE543.out) | exact HB.out)⟩
                 (try clear HO_6)
                 (try clear BK531)
                 (try clear BK543)
                 (try clear HB)
                 generalize ((((((((((w22.setCell ⟨gb543, 0, none⟩ (.int .i64 t532)).setCell ⟨gb543, 1, none⟩ (.int .i64 t533)).setCell ⟨gb543, 2, none⟩ (.int .i64 t534)).setCell ⟨gb543, 3, none⟩ (.int .i64 t535)).setCell ⟨gb543, 4, none⟩ (.int .i64 t536)).setCell ⟨gb543, 5, none⟩ (.int .i64 t537)).setCell ⟨gb543, 6, none⟩ (.int .i64 t538)).setCell ⟨gb543, 7, none⟩ (.int .i64 t539)).setCell ⟨gb543, 8, none⟩ (.bool t540)).setCell ⟨gb543, 9, none⟩ (.int .i64 t541)) = w25 at n0_ n1_ n2_ n3_ ⊢
                 have HO_6 := n0_
                 have BK531 := n1_
                 have BK543 := n2_
                 have HB := n3_
                 clear n0_ n1_ n2_ n3_
                 have n0_ := Aside0.mk (Kd.S_drew HO_6.out)
                 have n1_ := Aside0.mk (blk_drew BK531.out)
                 have n2_ := Aside0.mk (blk_drew BK543.out)
                 have n3_ := Aside0.mk (below_drew1 HB.out)
                 clear HO_6
                 clear BK531
                 clear BK543
                 clear HB
                 have HO_6 := n0_
                 have BK531 := n1_
                 have BK543 := n2_
                 have HB := n3_
                 clear n0_ n1_ n2_ n3_
                 obtain ⟨Ao27, co27, eo27⟩ := Kd.S_slice HO_6.out
                 (first | subst eo27 | (injection eo27 with f1_ f2_ f3_; have f4_ := f1_.symm; have f5_ := f3_.symm; clear f1_ f2_ f3_; subst f4_; subst f5_))
                 have p544 : 0 ≤ (x19_1 : Int) := of_decide_eq_true (by first | (with_reducible assumption) | assumption)
                 have q544 : x19_1 < (x6_2.length : Int) := of_decide_eq_true (by first | (with_reducible assumption) | assumption)
                 obtain ⟨ad544, A544_0, c544_0, e544, hx544_0, hx544_1, hx544_2, hx544_3, hx544_4, hx544_5, hx544_6, hx544_7, hx544_8, hx544_9, hx544_10, hx544_11, hx544_12, hx544_13, hl544_0, hi544_0⟩ := at_T65 (Kd.S_reads' HO_6.out).2.2 x19_1 p544 q544
                 cases e544
                 obtain ⟨ce544, hce544, hMe544, hcc544⟩ := Kd.S_get HO_6.out z65 x19_1 p544 (by first | exact q544 | exact of_decide_eq_true (by first | (with_reducible assumption) | assumption) | (have e_ := (Kd.S_reads' HO_6.out).1; omega))
                 obtain ⟨ve544_0, rfl, ge544_0⟩ := k65_openM hMe544
                 have hv544_0 := hcc544 0 _ rfl
                 rw [Nat.add_zero] at hv544_0
                 replace hv544_0 := Option.some.inj (hv544_0.symm.trans hx544_0)
                 rw [hv544_0] at ge544_0
                 have HL544_0 := Aside0.mk (show Kd.R k40 40 _ _ _ _ ((rd_T65 x6_2 x19_1).f0) from ge544_0)
                 clear hv544_0 ge544_0
                 have HX544_0 := Aside0.mk hx544_0
                 clear hcc544 hce544
                 have HR544_0 := Aside0.mk hi544_0
                 have HC544_0 := Aside0.mk hl544_0
                 clear hi544_0 hl544_0
                 replace p544 := eq_true p544
                 replace q544 := eq_true q544
                 obtain ⟨go28, co28, eo28, gb28, gl28, cl28, HG28⟩ := Kd.S_form HO_6.out (by have h_ : (x19_1 : Int) < ((x6_2.length : Int) : Int) := of_decide_eq_true (by first | (with_reducible assumption) | assumption); have h2_ : 0 ≤ (x19_1 : Int) := (of_decide_eq_true (by first | (with_reducible assumption) | assumption)); omega)
                 (first | cases eo28 | (injection eo28 with ea_ en_ ec_; (first | subst ea_ | (injection ea_ with ea_; subst ea_)); subst ec_; clear en_))
                 have GB28 := Aside0.mk gb28
                 have GG28 := Aside0.mk HG28
                 clear gb28 gl28 HG28
                 (first | simp only [add_plain] at hx544_0 | skip)
                 (first | simp only [add_plain] at hx544_1 | skip)
                 (first | simp only [add_plain] at hx544_2 | skip)
                 (first | simp only [add_plain] at hx544_3 | skip)
                 (first | simp only [add_plain] at hx544_4 | skip)
                 (first | simp only [add_plain] at hx544_5 | skip)
                 (first | simp only [add_plain] at hx544_6 | skip)
                 (first | simp only [add_plain] at hx544_7 | skip)
                 (first | simp only [add_plain] at hx544_8 | skip)
                 (first | simp only [add_plain] at hx544_9 | skip)
                 (first | simp only [add_plain] at hx544_10 | skip)
                 (first | simp only [add_plain] at hx544_11 | skip)
                 (first | simp only [add_plain] at hx544_12 | skip)
                 (first | simp only [add_plain] at hx544_13 | skip)
                 obtain ⟨oki28, ce28, hcl28, hM28, hcc28, _, _, hH28⟩ := Kd.S_elem HO_6.out z65 (x19_1 : Int) (of_decide_eq_true (by first | (with_reducible assumption) | assumption)) (by have h_ : (x19_1 : Int) < ((x6_2.length : Int) : Int) := of_decide_eq_true (by first | (with_reducible assumption) | assumption); first | exact h_ | (have e_ := (Kd.S_reads' HO_6.out).1; omega) | simpa using h_)
                 obtain ⟨ve28_0, rfl, ge28_0⟩ := k65_openM hM28
                 have hv28 := hcc28 0 _ rfl
                 have hX28 := HX544_0.out
                 (try simp only [add_plain] at hX28)
                 (try simp only [Nat.add_zero] at hv28)
                 replace hv28 := Option.some.inj (hv28.symm.trans hX28)
                 subst hv28
                 clear hX28 hcc28 hcl28
                 have UU28 := Aside0.mk (show Kd.R k40 40 _ w.heap.size oki28 (.slice A544_0 ((rd_T65 x6_2 x19_1).f0).length c544_0) ((rd_T65 x6_2 x19_1).f0) from ge28_0)
                 have HH28 := Aside0.mk hH28
                 have HN28 := Aside0.mk (Kd.S_reads' HO_6.out).1
                 clear hH28 ge28_0
                 refine start_ (n := 13) (S := fun w' => w'.cell? ⟨gb531, 0, none⟩ = some (.int .i64 ((rd_T40 (rd_L2 l1 x19_1) x30_2).f0)) ∧ w'.cell? ⟨gb531, 1, none⟩ = some (.int .i64 ((rd_T40 (rd_L2 l1 x19_1) x30_2).f1)) ∧ w'.cell? ⟨gb531, 2, none⟩ = some (.int .i64 ((rd_T40 (rd_L2 l1 x19_1) x30_2).f2)) ∧ w'.cell? ⟨go28, ((x19_1).toNat * 14), none⟩ = some (.slice A544_0 ((rd_T65 x6_2 x19_1).f0).length c544_0) ∧ w'.cell? ⟨go28, ((x19_1).toNat * 14) + 1, none⟩ = some (.int .i64 ((rd_T65 x6_2 x19_1).f1.f0.f0)) ∧ w'.cell? ⟨go28, ((x19_1).toNat * 14) + 2, none⟩ = some (.int .i64 ((rd_T65 x6_2 x19_1).f1.f0.f1)) ∧ w'.cell? ⟨go28, ((x19_1).toNat * 14) + 3, none⟩ = some (.int .i64 ((rd_T65 x6_2 x19_1).f1.f0.f2)) ∧ w'.cell? ⟨go28, ((x19_1).toNat * 14) + 4, none⟩ = some (.int .i64 ((rd_T65 x6_2 x19_1).f1.f1)) ∧ w'.cell? ⟨go28, ((x19_1).toNat * 14) + 5, none⟩ = some (.int .i64 ((rd_T65 x6_2 x19_1).f1.f2)) ∧ w'.cell? ⟨go28, ((x19_1).toNat * 14) + 6, none⟩ = some (.int .i64 ((rd_T65 x6_2 x19_1).f1.f3)) ∧ w'.cell? ⟨go28, ((x19_1).toNat * 14) + 7, none⟩ = some (.int .i64 ((rd_T65 x6_2 x19_1).f1.f4)) ∧ w'.cell? ⟨go28, ((x19_1).toNat * 14) + 8, none⟩ = some (.int .i64 ((rd_T65 x6_2 x19_1).f1.f5)) ∧ w'.cell? ⟨go28, ((x19_1).toNat * 14) + 9, none⟩ = some (.bool ((rd_T65 x6_2 x19_1).f1.f6)) ∧ w'.cell? ⟨go28, ((x19_1).toNat * 14) + 10, none⟩ = some (.int .i64 ((rd_T65 x6_2 x19_1).f1.f7)) ∧ w'.cell? ⟨go28, ((x19_1).toNat * 14) + 11, none⟩ = some (.bool ((rd_T65 x6_2 x19_1).f2)) ∧ w'.cell? ⟨go28, ((x19_1).toNat * 14) + 12, none⟩ = some (.int .i64 ((rd_T65 x6_2 x19_1).f3)) ∧ w'.cell? ⟨go28, ((x19_1).toNat * 14) + 13, none⟩ = some (.int .i64 ((rd_T65 x6_2 x19_1).f4))) (ds := [12]) #[false, false, false, false, false, false, false, false, false, false, false, false, false] (by kernel_rfl) rfl rfl ⟨(blk_cell BK531.out 0).trans rfl, (blk_cell BK531.out 1).trans rfl, (blk_cell BK531.out 2).trans rfl, hx544_0, hx544_1, hx544_2, hx544_3, hx544_4, hx544_5, hx544_6, hx544_7, hx544_8, hx544_9, hx544_10, hx544_11, hx544_12, hx544_13⟩ (fun hHeld => ?_); refine with_tabW play_start.tab12 play_start.bits12 (fun HT_ HW_ => ?_)
                 generalize w25.drew = w26 at HO_6 BK531 BK543 HB GG28 HH28 HL544_0 HR544_0 HX544_0 UU28 hx544_0 hx544_1 hx544_10 hx544_11 hx544_12 hx544_13 hx544_2 hx544_3 hx544_4 hx544_5 hx544_6 hx544_7 hx544_8 hx544_9 hHeld ⊢
                 refine pure_ (i := 0) (N := some 41) (v := ?_) (a' := ?_) #[true, false, false, false, false, false, false, false, false, false, false, false, false] rfl rfl (any_of HT_.out (by kernel_rfl)) (fun _ _ _ h => h) (Or.inl ⟨by rfl, ?_⟩) ?_ ?_
                 rotate_left
                 ·
                  intro w'
                  go_simp
                  with_reducible rfl
                 rotate_left
                 ·
                  simp only [Act.put, List.setIfInBounds_toArray, List.set_cons_zero, List.set_cons_succ, i64_w, i32_w]
                  rfl
                 refine pure_ (i := 1) (N := some 42) (v := ?_) (a' := ?_) #[true, true, false, false, false, false, false, false, false, false, false, false, false] rfl rfl (any_of HT_.out (by kernel_rfl)) (fun _ _ _ h => h) (Or.inl ⟨by rfl, ?_⟩) ?_ ?_
                 rotate_left
                 ·
                  intro w'
                  go_simp
                  with_reducible rfl
                 rotate_left
                 ·
                  simp only [Act.put, List.setIfInBounds_toArray, List.set_cons_zero, List.set_cons_succ, i64_w, i32_w]
                  rfl
                 refine pure_ (i := 2) (N := some 43) (v := ?_) (a' := ?_) #[true, true, true, false, false, false, false, false, false, false, false, false, false] rfl rfl (any_of HT_.out (by kernel_rfl)) (fun _ _ _ h => h) (Or.inl ⟨by rfl, ?_⟩) ?_ ?_
                 rotate_left
                 ·
                  intro w'
                  go_simp
                  with_reducible rfl
                 rotate_left
                 ·
                  simp only [Act.put, List.setIfInBounds_toArray, List.set_cons_zero, List.set_cons_succ, i64_w, i32_w]
                  rfl
                 refine pure_ (i := 3) (N := some 44) (v := ?_) (a' := ?_) #[true, true, true, true, false, false, false, false, false, false, false, false, false] rfl rfl (any_of HT_.out (by kernel_rfl)) (fun _ _ _ h => h) (Or.inl ⟨by rfl, ?_⟩) ?_ ?_
                 rotate_left
                 ·
                  intro w'
                  go_simp
                  with_reducible rfl
                 rotate_left
                 ·
                  simp only [Act.put, List.setIfInBounds_toArray, List.set_cons_zero, List.set_cons_succ, i64_w, i32_w]
                  rfl
                 refine pure_ (i := 4) (N := some 45) (v := ?_) (a' := ?_) #[true, true, true, true, true, false, false, false, false, false, false, false, false] rfl rfl (any_of HT_.out (by kernel_rfl)) (fun _ _ _ h => h) (Or.inl ⟨by rfl, ?_⟩) ?_ ?_
                 rotate_left
                 ·
                  intro w'
                  go_simp
                  with_reducible rfl
                 rotate_left
                 ·
                  simp only [Act.put, List.setIfInBounds_toArray, List.set_cons_zero, List.set_cons_succ, i64_w, i32_w]
                  rfl
                 refine pure_ (i := 5) (N := some 46) (v := ?_) (a' := ?_) #[true, true, true, true, true, true, false, false, false, false, false, false, false] rfl rfl (any_of HT_.out (by kernel_rfl)) (fun _ _ _ h => h) (Or.inl ⟨by rfl, ?_⟩) ?_ ?_
                 rotate_left
                 ·
                  intro w'
                  go_simp
                  with_reducible rfl
                 rotate_left
                 ·
                  simp only [Act.put, List.setIfInBounds_toArray, List.set_cons_zero, List.set_cons_succ, i64_w, i32_w]
                  rfl
                 refine take_ (i := 6) (N := some 47) (v := ?_) (a' := ?_) #[true, true, true, true, true, true, true, false, false, false, false, false, false] rfl rfl (take_ofW HT_.out HW_.out (by kernel_rfl)) (fun _ _ _ h => h) (Or.inl ⟨by rfl, ?_⟩) hHeld ?_ ?_
                 rotate_left
                 ·
                  rintro w' ⟨s0, s1, s2, s3, s4, s5, s6, s7, s8, s9, s10, s11, s12, s13, s14, s15, s16⟩
                  go_simp
                  with_reducible rfl
                 rotate_left
                 ·
                  simp only [Act.put, List.setIfInBounds_toArray, List.set_cons_zero, List.set_cons_succ, i64_w, i32_w]
                  rfl
                 refine take_ (i := 7) (N := some 48) (v := ?_) (a' := ?_) #[true, true, true, true, true, true, true, true, false, false, false, false, false] rfl rfl (take_ofW HT_.out HW_.out (by kernel_rfl)) (fun _ _ _ h => h) (Or.inl ⟨by rfl, ?_⟩) hHeld ?_ ?_
                 rotate_left
                 ·
                  rintro w' ⟨s0, s1, s2, s3, s4, s5, s6, s7, s8, s9, s10, s11, s12, s13, s14, s15, s16⟩
                  go_simp
                  with_reducible rfl
                 rotate_left
                 ·
                  simp only [Act.put, List.setIfInBounds_toArray, List.set_cons_zero, List.set_cons_succ, i64_w, i32_w]
                  rfl
                 refine one_ (i := 8) (N := some 49) #[true, true, true, true, true, true, true, true, true, false, false, false, false] rfl rfl (one_of HT_.out (by kernel_rfl)) (by decide) (fun K hK => ?_)
                 refine value_ (w1 := ?_) (v := ?_) (by rfl) rfl ?_ ?_
                 rotate_left 2
                 ·
                  go_simp
                  constructor
                  ·
                   rfl
                  ·
                   rfl
                 refine hK.out _ _ ⟨(blk_cell (blk_alloc BK531.out _) 0).trans rfl, (blk_cell (blk_alloc BK531.out _) 1).trans rfl, (blk_cell (blk_alloc BK531.out _) 2).trans rfl, (World.cell?_alloc_lt _ _ _ (World.block_lt_of_cell? _ _ (hHeld.2.2.2.1))).trans (hHeld.2.2.2.1), (World.cell?_alloc_lt _ _ _ (World.block_lt_of_cell? _ _ (hHeld.2.2.2.2.1))).trans (hHeld.2.2.2.2.1), (World.cell?_alloc_lt _ _ _ (World.block_lt_of_cell? _ _ (hHeld.2.2.2.2.2.1))).trans (hHeld.2.2.2.2.2.1), (World.cell?_alloc_lt _ _ _ (World.block_lt_of_cell? _ _ (hHeld.2.2.2.2.2.2.1))).trans (hHeld.2.2.2.2.2.2.1), (World.cell?_alloc_lt _ _ _ (World.block_lt_of_cell? _ _ (hHeld.2.2.2.2.2.2.2.1))).trans (hHeld.2.2.2.2.2.2.2.1), (World.cell?_alloc_lt _ _ _ (World.block_lt_of_cell? _ _ (hHeld.2.2.2.2.2.2.2.2.1))).trans (hHeld.2.2.2.2.2.2.2.2.1), (World.cell?_alloc_lt _ _ _ (World.block_lt_of_cell? _ _ (hHeld.2.2.2.2.2.2.2.2.2.1))).trans (hHeld.2.2.2.2.2.2.2.2.2.1), (World.cell?_alloc_lt _ _ _ (World.block_lt_of_cell? _ _ (hHeld.2.2.2.2.2.2.2.2.2.2.1))).trans (hHeld.2.2.2.2.2.2.2.2.2.2.1), (World.cell?_alloc_lt _ _ _ (World.block_lt_of_cell? _ _ (hHeld.2.2.2.2.2.2.2.2.2.2.2.1))).trans (hHeld.2.2.2.2.2.2.2.2.2.2.2.1), (World.cell?_alloc_lt _ _ _ (World.block_lt_of_cell? _ _ (hHeld.2.2.2.2.2.2.2.2.2.2.2.2.1))).trans (hHeld.2.2.2.2.2.2.2.2.2.2.2.2.1), (World.cell?_alloc_lt _ _ _ (World.block_lt_of_cell? _ _ (hHeld.2.2.2.2.2.2.2.2.2.2.2.2.2.1))).trans (hHeld.2.2.2.2.2.2.2.2.2.2.2.2.2.1), (World.cell?_alloc_lt _ _ _ (World.block_lt_of_cell? _ _ (hHeld.2.2.2.2.2.2.2.2.2.2.2.2.2.2.1))).trans (hHeld.2.2.2.2.2.2.2.2.2.2.2.2.2.2.1), (World.cell?_alloc_lt _ _ _ (World.block_lt_of_cell? _ _ (hHeld.2.2.2.2.2.2.2.2.2.2.2.2.2.2.2.1))).trans (hHeld.2.2.2.2.2.2.2.2.2.2.2.2.2.2.2.1), (World.cell?_alloc_lt _ _ _ (World.block_lt_of_cell? _ _ (hHeld.2.2.2.2.2.2.2.2.2.2.2.2.2.2.2.2))).trans (hHeld.2.2.2.2.2.2.2.2.2.2.2.2.2.2.2.2)⟩ (fun hHeld => ?_)
                 clear hK K
                 refine norm_ (a' := ?_) ?_ ?_
                 rotate_left
                 ·
                  show Act.put _ (some 49) _ = _
                  simp only [Act.put, List.setIfInBounds_toArray, List.set_cons_zero, List.set_cons_succ, i64_w, i32_w]
                  rfl
                 refine one_ (i := 9) (N := some 50) #[true, true, true, true, true, true, true, true, true, true, false, false, false] rfl rfl (one_of HT_.out (by kernel_rfl)) (by decide) (fun K hK => ?_)
                 refine Kd.R_append_step k40 (w0 := w) w.heap.size (by rfl) (.tmp 47) (.tmp 49) 43 40 (.agg #[(.int .i64 0), (.int .i64 0), (.int .i64 0)]) 24 rfl Tryd.underlying43 info40 rfl (by decide) (by omega) (.slice A544_0 ((rd_T65 x6_2 x19_1).f0).length c544_0) ((rd_T65 x6_2 x19_1).f0) (⟨(rd_T40 (rd_L2 l1 x19_1) x30_2).f0, (rd_T40 (rd_L2 l1 x19_1) x30_2).f1, (rd_T40 (rd_L2 l1 x19_1) x30_2).f2⟩ : S40) [.int .i64 ((rd_T40 (rd_L2 l1 x19_1) x30_2).f0), .int .i64 ((rd_T40 (rd_L2 l1 x19_1) x30_2).f1), .int .i64 ((rd_T40 (rd_L2 l1 x19_1) x30_2).f2)] (fun k_ => oki28 k_ ∨ ((fun k_ => k_ ≠ gb531)) k_ ∧ w26.heap.size ≤ k_) (fun _ => False) rfl rfl ?aP (fun _ hk => hk.elim) ?aF ?aO ?aB ?aS ?aL ?_
                 (case aP => exact k40_mkM _ _ _ (⟨(rd_T40 (rd_L2 l1 x19_1) x30_2).f0, (rd_T40 (rd_L2 l1 x19_1) x30_2).f1, (rd_T40 (rd_L2 l1 x19_1) x30_2).f2⟩ : S40))
                 (case aB => exact (by repeat (first | (with_reducible first | exact HB.out | apply below_alloc | apply pw_below_drewN | apply below_drew1 | refine below_set ?_ GE531.out | refine below_set ?_ GE543.out) | exact HB.out)))
                 (case aF => exact (fun k_ hk => .inr ⟨Kd.freshB (g := gb531) (o := .cells #[.int .i64 ((rd_T40 (rd_L2 l1 x19_1) x30_2).f0), .int .i64 ((rd_T40 (rd_L2 l1 x19_1) x30_2).f1), .int .i64 ((rd_T40 (rd_L2 l1 x19_1) x30_2).f2)] 40 (0, 0)) (by (with_reducible repeat (first | refine blk_drewN ?_ _ | refine blk_drew ?_ | refine blk_alloc ?_ _)); exact BK531.out) k_ hk, hk⟩))
                 (case aO => exact (by (with_reducible repeat (first | apply Kd.R_alloc | apply Kd.R_drewN | apply Kd.R_drew)); exact Kd.R_mono UU28.out (fun _ hk => .inl hk)))
                 (case aS => exact (below_size (by repeat (first | (with_reducible first | exact HB.out | apply below_alloc | apply pw_below_drewN | apply below_drew1 | refine below_set ?_ GE531.out | refine below_set ?_ GE543.out) | exact HB.out))))
                 (case aL => have := LMc17.out; omega)
                 intro v546 w29 ho hb hg hat
                 (first | have HS3_ := cell_grown hg (hHeld.2.2.2.1) (by first | (rw [add_block]; exact (fun e_ => ((HL544_0.out.1 _ e_.symm).2) rfl)) | (show some (Addr.add _ _).block ≠ _; rw [add_block]; exact (fun e_ => ((HL544_0.out.1 _ e_.symm).2) rfl)) | exact (fun e_ => ((HL544_0.out.1 _ e_.symm).2) rfl) | exact (fun e_ => ((HL544_0.out.1 _ e_).2) rfl)) | have HS3_ := cell_grown hg (cell_unalloc (hHeld.2.2.2.1) (by first | (rw [add_block]; exact Kd.S_lt HO_6.out _ rfl) | (show (Addr.add _ _).block < _; rw [add_block]; exact Kd.S_lt HO_6.out _ rfl) | exact Kd.S_lt HO_6.out _ rfl)) (by first | (rw [add_block]; exact (fun e_ => ((HL544_0.out.1 _ e_.symm).2) rfl)) | (show some (Addr.add _ _).block ≠ _; rw [add_block]; exact (fun e_ => ((HL544_0.out.1 _ e_.symm).2) rfl)) | exact (fun e_ => ((HL544_0.out.1 _ e_.symm).2) rfl) | exact (fun e_ => ((HL544_0.out.1 _ e_).2) rfl)))
                 (first | have HS4_ := cell_grown hg (hHeld.2.2.2.2.1) (by first | (rw [add_block]; exact (fun e_ => ((HL544_0.out.1 _ e_.symm).2) rfl)) | (show some (Addr.add _ _).block ≠ _; rw [add_block]; exact (fun e_ => ((HL544_0.out.1 _ e_.symm).2) rfl)) | exact (fun e_ => ((HL544_0.out.1 _ e_.symm).2) rfl) | exact (fun e_ => ((HL544_0.out.1 _ e_).2) rfl)) | have HS4_ := cell_grown hg (cell_unalloc (hHeld.2.2.2.2.1) (by first | (rw [add_block]; exact Kd.S_lt HO_6.out _ rfl) | (show (Addr.add _ _).block < _; rw [add_block]; exact Kd.S_lt HO_6.out _ rfl) | exact Kd.S_lt HO_6.out _ rfl)) (by first | (rw [add_block]; exact (fun e_ => ((HL544_0.out.1 _ e_.symm).2) rfl)) | (show some (Addr.add _ _).block ≠ _; rw [add_block]; exact (fun e_ => ((HL544_0.out.1 _ e_.symm).2) rfl)) | exact (fun e_ => ((HL544_0.out.1 _ e_.symm).2) rfl) | exact (fun e_ => ((HL544_0.out.1 _ e_).2) rfl)))
                 (first | have HS5_ := cell_grown hg (hHeld.2.2.2.2.2.1) (by first | (rw [add_block]; exact (fun e_ => ((HL544_0.out.1 _ e_.symm).2) rfl)) | (show some (Addr.add _ _).block ≠ _; rw [add_block]; exact (fun e_ => ((HL544_0.out.1 _ e_.symm).2) rfl)) | exact (fun e_ => ((HL544_0.out.1 _ e_.symm).2) rfl) | exact (fun e_ => ((HL544_0.out.1 _ e_).2) rfl)) | have HS5_ := cell_grown hg (cell_unalloc (hHeld.2.2.2.2.2.1) (by first | (rw [add_block]; exact Kd.S_lt HO_6.out _ rfl) | (show (Addr.add _ _).block < _; rw [add_block]; exact Kd.S_lt HO_6.out _ rfl) | exact Kd.S_lt HO_6.out _ rfl)) (by first | (rw [add_block]; exact (fun e_ => ((HL544_0.out.1 _ e_.symm).2) rfl)) | (show some (Addr.add _ _).block ≠ _; rw [add_block]; exact (fun e_ => ((HL544_0.out.1 _ e_.symm).2) rfl)) | exact (fun e_ => ((HL544_0.out.1 _ e_.symm).2) rfl) | exact (fun e_ => ((HL544_0.out.1 _ e_).2) rfl)))
                 (first | have HS6_ := cell_grown hg (hHeld.2.2.2.2.2.2.1) (by first | (rw [add_block]; exact (fun e_ => ((HL544_0.out.1 _ e_.symm).2) rfl)) | (show some (Addr.add _ _).block ≠ _; rw [add_block]; exact (fun e_ => ((HL544_0.out.1 _ e_.symm).2) rfl)) | exact (fun e_ => ((HL544_0.out.1 _ e_.symm).2) rfl) | exact (fun e_ => ((HL544_0.out.1 _ e_).2) rfl)) | have HS6_ := cell_grown hg (cell_unalloc (hHeld.2.2.2.2.2.2.1) (by first | (rw [add_block]; exact Kd.S_lt HO_6.out _ rfl) | (show (Addr.add _ _).block < _; rw [add_block]; exact Kd.S_lt HO_6.out _ rfl) | exact Kd.S_lt HO_6.out _ rfl)) (by first | (rw [add_block]; exact (fun e_ => ((HL544_0.out.1 _ e_.symm).2) rfl)) | (show some (Addr.add _ _).block ≠ _; rw [add_block]; exact (fun e_ => ((HL544_0.out.1 _ e_.symm).2) rfl)) | exact (fun e_ => ((HL544_0.out.1 _ e_.symm).2) rfl) | exact (fun e_ => ((HL544_0.out.1 _ e_).2) rfl)))
                 (first | have HS7_ := cell_grown hg (hHeld.2.2.2.2.2.2.2.1) (by first | (rw [add_block]; exact (fun e_ => ((HL544_0.out.1 _ e_.symm).2) rfl)) | (show some (Addr.add _ _).block ≠ _; rw [add_block]; exact (fun e_ => ((HL544_0.out.1 _ e_.symm).2) rfl)) | exact (fun e_ => ((HL544_0.out.1 _ e_.symm).2) rfl) | exact (fun e_ => ((HL544_0.out.1 _ e_).2) rfl)) | have HS7_ := cell_grown hg (cell_unalloc (hHeld.2.2.2.2.2.2.2.1) (by first | (rw [add_block]; exact Kd.S_lt HO_6.out _ rfl) | (show (Addr.add _ _).block < _; rw [add_block]; exact Kd.S_lt HO_6.out _ rfl) | exact Kd.S_lt HO_6.out _ rfl)) (by first | (rw [add_block]; exact (fun e_ => ((HL544_0.out.1 _ e_.symm).2) rfl)) | (show some (Addr.add _ _).block ≠ _; rw [add_block]; exact (fun e_ => ((HL544_0.out.1 _ e_.symm).2) rfl)) | exact (fun e_ => ((HL544_0.out.1 _ e_.symm).2) rfl) | exact (fun e_ => ((HL544_0.out.1 _ e_).2) rfl)))
                 (first | have HS8_ := cell_grown hg (hHeld.2.2.2.2.2.2.2.2.1) (by first | (rw [add_block]; exact (fun e_ => ((HL544_0.out.1 _ e_.symm).2) rfl)) | (show some (Addr.add _ _).block ≠ _; rw [add_block]; exact (fun e_ => ((HL544_0.out.1 _ e_.symm).2) rfl)) | exact (fun e_ => ((HL544_0.out.1 _ e_.symm).2) rfl) | exact (fun e_ => ((HL544_0.out.1 _ e_).2) rfl)) | have HS8_ := cell_grown hg (cell_unalloc (hHeld.2.2.2.2.2.2.2.2.1) (by first | (rw [add_block]; exact Kd.S_lt HO_6.out _ rfl) | (show (Addr.add _ _).block < _; rw [add_block]; exact Kd.S_lt HO_6.out _ rfl) | exact Kd.S_lt HO_6.out _ rfl)) (by first | (rw [add_block]; exact (fun e_ => ((HL544_0.out.1 _ e_.symm).2) rfl)) | (show some (Addr.add _ _).block ≠ _; rw [add_block]; exact (fun e_ => ((HL544_0.out.1 _ e_.symm).2) rfl)) | exact (fun e_ => ((HL544_0.out.1 _ e_.symm).2) rfl) | exact (fun e_ => ((HL544_0.out.1 _ e_).2) rfl)))
                 (first | have HS9_ := cell_grown hg (hHeld.2.2.2.2.2.2.2.2.2.1) (by first | (rw [add_block]; exact (fun e_ => ((HL544_0.out.1 _ e_.symm).2) rfl)) | (show some (Addr.add _ _).block ≠ _; rw [add_block]; exact (fun e_ => ((HL544_0.out.1 _ e_.symm).2) rfl)) | exact (fun e_ => ((HL544_0.out.1 _ e_.symm).2) rfl) | exact (fun e_ => ((HL544_0.out.1 _ e_).2) rfl)) | have HS9_ := cell_grown hg (cell_unalloc (hHeld.2.2.2.2.2.2.2.2.2.1) (by first | (rw [add_block]; exact Kd.S_lt HO_6.out _ rfl) | (show (Addr.add _ _).block < _; rw [add_block]; exact Kd.S_lt HO_6.out _ rfl) | exact Kd.S_lt HO_6.out _ rfl)) (by first | (rw [add_block]; exact (fun e_ => ((HL544_0.out.1 _ e_.symm).2) rfl)) | (show some (Addr.add _ _).block ≠ _; rw [add_block]; exact (fun e_ => ((HL544_0.out.1 _ e_.symm).2) rfl)) | exact (fun e_ => ((HL544_0.out.1 _ e_.symm).2) rfl) | exact (fun e_ => ((HL544_0.out.1 _ e_).2) rfl)))
                 (first | have HS10_ := cell_grown hg (hHeld.2.2.2.2.2.2.2.2.2.2.1) (by first | (rw [add_block]; exact (fun e_ => ((HL544_0.out.1 _ e_.symm).2) rfl)) | (show some (Addr.add _ _).block ≠ _; rw [add_block]; exact (fun e_ => ((HL544_0.out.1 _ e_.symm).2) rfl)) | exact (fun e_ => ((HL544_0.out.1 _ e_.symm).2) rfl) | exact (fun e_ => ((HL544_0.out.1 _ e_).2) rfl)) | have HS10_ := cell_grown hg (cell_unalloc (hHeld.2.2.2.2.2.2.2.2.2.2.1) (by first | (rw [add_block]; exact Kd.S_lt HO_6.out _ rfl) | (show (Addr.add _ _).block < _; rw [add_block]; exact Kd.S_lt HO_6.out _ rfl) | exact Kd.S_lt HO_6.out _ rfl)) (by first | (rw [add_block]; exact (fun e_ => ((HL544_0.out.1 _ e_.symm).2) rfl)) | (show some (Addr.add _ _).block ≠ _; rw [add_block]; exact (fun e_ => ((HL544_0.out.1 _ e_.symm).2) rfl)) | exact (fun e_ => ((HL544_0.out.1 _ e_.symm).2) rfl) | exact (fun e_ => ((HL544_0.out.1 _ e_).2) rfl)))
                 (first | have HS11_ := cell_grown hg (hHeld.2.2.2.2.2.2.2.2.2.2.2.1) (by first | (rw [add_block]; exact (fun e_ => ((HL544_0.out.1 _ e_.symm).2) rfl)) | (show some (Addr.add _ _).block ≠ _; rw [add_block]; exact (fun e_ => ((HL544_0.out.1 _ e_.symm).2) rfl)) | exact (fun e_ => ((HL544_0.out.1 _ e_.symm).2) rfl) | exact (fun e_ => ((HL544_0.out.1 _ e_).2) rfl)) | have HS11_ := cell_grown hg (cell_unalloc (hHeld.2.2.2.2.2.2.2.2.2.2.2.1) (by first | (rw [add_block]; exact Kd.S_lt HO_6.out _ rfl) | (show (Addr.add _ _).block < _; rw [add_block]; exact Kd.S_lt HO_6.out _ rfl) | exact Kd.S_lt HO_6.out _ rfl)) (by first | (rw [add_block]; exact (fun e_ => ((HL544_0.out.1 _ e_.symm).2) rfl)) | (show some (Addr.add _ _).block ≠ _; rw [add_block]; exact (fun e_ => ((HL544_0.out.1 _ e_.symm).2) rfl)) | exact (fun e_ => ((HL544_0.out.1 _ e_.symm).2) rfl) | exact (fun e_ => ((HL544_0.out.1 _ e_).2) rfl)))
                 (first | have HS12_ := cell_grown hg (hHeld.2.2.2.2.2.2.2.2.2.2.2.2.1) (by first | (rw [add_block]; exact (fun e_ => ((HL544_0.out.1 _ e_.symm).2) rfl)) | (show some (Addr.add _ _).block ≠ _; rw [add_block]; exact (fun e_ => ((HL544_0.out.1 _ e_.symm).2) rfl)) | exact (fun e_ => ((HL544_0.out.1 _ e_.symm).2) rfl) | exact (fun e_ => ((HL544_0.out.1 _ e_).2) rfl)) | have HS12_ := cell_grown hg (cell_unalloc (hHeld.2.2.2.2.2.2.2.2.2.2.2.2.1) (by first | (rw [add_block]; exact Kd.S_lt HO_6.out _ rfl) | (show (Addr.add _ _).block < _; rw [add_block]; exact Kd.S_lt HO_6.out _ rfl) | exact Kd.S_lt HO_6.out _ rfl)) (by first | (rw [add_block]; exact (fun e_ => ((HL544_0.out.1 _ e_.symm).2) rfl)) | (show some (Addr.add _ _).block ≠ _; rw [add_block]; exact (fun e_ => ((HL544_0.out.1 _ e_.symm).2) rfl)) | exact (fun e_ => ((HL544_0.out.1 _ e_.symm).2) rfl) | exact (fun e_ => ((HL544_0.out.1 _ e_).2) rfl)))
                 (first | have HS13_ := cell_grown hg (hHeld.2.2.2.2.2.2.2.2.2.2.2.2.2.1) (by first | (rw [add_block]; exact (fun e_ => ((HL544_0.out.1 _ e_.symm).2) rfl)) | (show some (Addr.add _ _).block ≠ _; rw [add_block]; exact (fun e_ => ((HL544_0.out.1 _ e_.symm).2) rfl)) | exact (fun e_ => ((HL544_0.out.1 _ e_.symm).2) rfl) | exact (fun e_ => ((HL544_0.out.1 _ e_).2) rfl)) | have HS13_ := cell_grown hg (cell_unalloc (hHeld.2.2.2.2.2.2.2.2.2.2.2.2.2.1) (by first | (rw [add_block]; exact Kd.S_lt HO_6.out _ rfl) | (show (Addr.add _ _).block < _; rw [add_block]; exact Kd.S_lt HO_6.out _ rfl) | exact Kd.S_lt HO_6.out _ rfl)) (by first | (rw [add_block]; exact (fun e_ => ((HL544_0.out.1 _ e_.symm).2) rfl)) | (show some (Addr.add _ _).block ≠ _; rw [add_block]; exact (fun e_ => ((HL544_0.out.1 _ e_.symm).2) rfl)) | exact (fun e_ => ((HL544_0.out.1 _ e_.symm).2) rfl) | exact (fun e_ => ((HL544_0.out.1 _ e_).2) rfl)))
                 (first | have HS14_ := cell_grown hg (hHeld.2.2.2.2.2.2.2.2.2.2.2.2.2.2.1) (by first | (rw [add_block]; exact (fun e_ => ((HL544_0.out.1 _ e_.symm).2) rfl)) | (show some (Addr.add _ _).block ≠ _; rw [add_block]; exact (fun e_ => ((HL544_0.out.1 _ e_.symm).2) rfl)) | exact (fun e_ => ((HL544_0.out.1 _ e_.symm).2) rfl) | exact (fun e_ => ((HL544_0.out.1 _ e_).2) rfl)) | have HS14_ := cell_grown hg (cell_unalloc (hHeld.2.2.2.2.2.2.2.2.2.2.2.2.2.2.1) (by first | (rw [add_block]; exact Kd.S_lt HO_6.out _ rfl) | (show (Addr.add _ _).block < _; rw [add_block]; exact Kd.S_lt HO_6.out _ rfl) | exact Kd.S_lt HO_6.out _ rfl)) (by first | (rw [add_block]; exact (fun e_ => ((HL544_0.out.1 _ e_.symm).2) rfl)) | (show some (Addr.add _ _).block ≠ _; rw [add_block]; exact (fun e_ => ((HL544_0.out.1 _ e_.symm).2) rfl)) | exact (fun e_ => ((HL544_0.out.1 _ e_.symm).2) rfl) | exact (fun e_ => ((HL544_0.out.1 _ e_).2) rfl)))
                 (first | have HS15_ := cell_grown hg (hHeld.2.2.2.2.2.2.2.2.2.2.2.2.2.2.2.1) (by first | (rw [add_block]; exact (fun e_ => ((HL544_0.out.1 _ e_.symm).2) rfl)) | (show some (Addr.add _ _).block ≠ _; rw [add_block]; exact (fun e_ => ((HL544_0.out.1 _ e_.symm).2) rfl)) | exact (fun e_ => ((HL544_0.out.1 _ e_.symm).2) rfl) | exact (fun e_ => ((HL544_0.out.1 _ e_).2) rfl)) | have HS15_ := cell_grown hg (cell_unalloc (hHeld.2.2.2.2.2.2.2.2.2.2.2.2.2.2.2.1) (by first | (rw [add_block]; exact Kd.S_lt HO_6.out _ rfl) | (show (Addr.add _ _).block < _; rw [add_block]; exact Kd.S_lt HO_6.out _ rfl) | exact Kd.S_lt HO_6.out _ rfl)) (by first | (rw [add_block]; exact (fun e_ => ((HL544_0.out.1 _ e_.symm).2) rfl)) | (show some (Addr.add _ _).block ≠ _; rw [add_block]; exact (fun e_ => ((HL544_0.out.1 _ e_.symm).2) rfl)) | exact (fun e_ => ((HL544_0.out.1 _ e_.symm).2) rfl) | exact (fun e_ => ((HL544_0.out.1 _ e_).2) rfl)))
                 (first | have HS16_ := cell_grown hg (hHeld.2.2.2.2.2.2.2.2.2.2.2.2.2.2.2.2) (by first | (rw [add_block]; exact (fun e_ => ((HL544_0.out.1 _ e_.symm).2) rfl)) | (show some (Addr.add _ _).block ≠ _; rw [add_block]; exact (fun e_ => ((HL544_0.out.1 _ e_.symm).2) rfl)) | exact (fun e_ => ((HL544_0.out.1 _ e_.symm).2) rfl) | exact (fun e_ => ((HL544_0.out.1 _ e_).2) rfl)) | have HS16_ := cell_grown hg (cell_unalloc (hHeld.2.2.2.2.2.2.2.2.2.2.2.2.2.2.2.2) (by first | (rw [add_block]; exact Kd.S_lt HO_6.out _ rfl) | (show (Addr.add _ _).block < _; rw [add_block]; exact Kd.S_lt HO_6.out _ rfl) | exact Kd.S_lt HO_6.out _ rfl)) (by first | (rw [add_block]; exact (fun e_ => ((HL544_0.out.1 _ e_.symm).2) rfl)) | (show some (Addr.add _ _).block ≠ _; rw [add_block]; exact (fun e_ => ((HL544_0.out.1 _ e_.symm).2) rfl)) | exact (fun e_ => ((HL544_0.out.1 _ e_.symm).2) rfl) | exact (fun e_ => ((HL544_0.out.1 _ e_).2) rfl)))
                 rw [← Ny545.out] at ho
                 have n0_ := Aside0.mk (blk_grown (g := gb531) (o := .cells #[.int .i64 ((rd_T40 (rd_L2 l1 x19_1) x30_2).f0), .int .i64 ((rd_T40 (rd_L2 l1 x19_1) x30_2).f1), .int .i64 ((rd_T40 (rd_L2 l1 x19_1) x30_2).f2)] 40 (0, 0)) (by (with_reducible repeat (first | refine blk_drewN ?_ _ | refine blk_drew ?_ | refine blk_alloc ?_ _)); exact BK531.out) hg (Kd.R_away HL544_0.out (fun _ hk => hk.1)))
                 have n1_ := Aside0.mk (blk_grown (g := gb543) (o := .cells #[.int .i64 t532, .int .i64 t533, .int .i64 t534, .int .i64 t535, .int .i64 t536, .int .i64 t537, .int .i64 t538, .int .i64 t539, .bool t540, .int .i64 t541] 63 (0, 0)) (by (with_reducible repeat (first | refine blk_drewN ?_ _ | refine blk_drew ?_ | refine blk_alloc ?_ _)); exact BK543.out) hg (Kd.R_ne HL544_0.out BK543.out (by decide)))
                 have n2_ := Aside0.mk (hb)
                 have n3_ := Aside0.mk (Kd.H_grown (Kd.H_widen (by repeat (first | exact HH28.out | refine Kd.H_alloc ?_ _ | refine Kd.H_drewN ?_ _ | refine Kd.H_drew ?_))) hg (fun k_ e_ => .inl (UU28.out.1 k_ e_)))
                 have n4_ := Aside0.mk (ho)
                 clear BK531
                 clear BK543
                 clear HB
                 clear HH28
                 clear HO_6
                 clear UU28
                 clear HL544_0
                 have BK531 := n0_
                 have BK543 := n1_
                 have HB := n2_
                 have HH28 := n3_
                 have HO547 := n4_
                 clear n0_ n1_ n2_ n3_ n4_
                 clear ho hb hg hat
                 have p18 : 0 ≤ (x19_1 : Int) := of_decide_eq_true (by first | (with_reducible assumption) | assumption)
                 have q18 : (x19_1 : Int) < ((x6_2.length : Int) : Int) := of_decide_eq_true (by first | (with_reducible assumption) | assumption)
                 replace p18 := eq_true p18
                 replace q18 := eq_true q18
                 obtain ⟨Ao32, co32, eo32⟩ := Kd.R_slice HO547.out
                 (first | subst eo32 | (injection eo32 with f1_ f2_ f3_; have f4_ := f1_.symm; have f5_ := f3_.symm; clear f1_ f2_ f3_; subst f4_; subst f5_))
                 obtain ⟨_, _, hraw30, _, _, hcc30, _⟩ := Kd.H_raw HH28.out (of_decide_eq_true (by first | (with_reducible assumption) | assumption)) (by have h_ : (x19_1 : Int) < ((x6_2.length : Int) : Int) := of_decide_eq_true (by first | (with_reducible assumption) | assumption); first | exact h_ | (have e_ := (HN28.out); omega) | simpa using h_)
                 obtain ⟨_, hfr30⟩ := Kd.H_at HH28.out (of_decide_eq_true (by first | (with_reducible assumption) | assumption)) (by have h_ : (x19_1 : Int) < ((x6_2.length : Int) : Int) := of_decide_eq_true (by first | (with_reducible assumption) | assumption); first | exact h_ | (have e_ := (HN28.out); omega) | simpa using h_)
                 have hx30_0 := hcc30 0 _ rfl
                 have hf30_0 := hfr30 0
                 (try simp only [Nat.add_zero] at hx30_0 hf30_0)
                 (try rw [show (k65).sz = 14 from rfl] at hx30_0)
                 (try rw [show (k65).sz = 14 from rfl] at hf30_0)
                 have HP30 := Kd.S_seg0 HH28.out (of_decide_eq_true (by first | (with_reducible assumption) | assumption)) (by have h_ : (x19_1 : Int) < ((x6_2.length : Int) : Int) := of_decide_eq_true (by first | (with_reducible assumption) | assumption); first | exact h_ | (have e_ := (HN28.out); omega) | simpa using h_) (seg := [.slice Ao32 y545.length co32]) (j := 0) (show 1 ≤ 14 from by decide) (x' := (⟨y545, (⟨(⟨(rd_T65 x6_2 x19_1).f1.f0.f0, (rd_T65 x6_2 x19_1).f1.f0.f1, (rd_T65 x6_2 x19_1).f1.f0.f2⟩ : S40), (rd_T65 x6_2 x19_1).f1.f1, (rd_T65 x6_2 x19_1).f1.f2, (rd_T65 x6_2 x19_1).f1.f3, (rd_T65 x6_2 x19_1).f1.f4, (rd_T65 x6_2 x19_1).f1.f5, (rd_T65 x6_2 x19_1).f1.f6, (rd_T65 x6_2 x19_1).f1.f7⟩ : S63), (rd_T65 x6_2 x19_1).f2, (rd_T65 x6_2 x19_1).f3, (rd_T65 x6_2 x19_1).f4⟩ : S65)) (k65_mkM _ _ _ (⟨y545, (⟨(⟨(rd_T65 x6_2 x19_1).f1.f0.f0, (rd_T65 x6_2 x19_1).f1.f0.f1, (rd_T65 x6_2 x19_1).f1.f0.f2⟩ : S40), (rd_T65 x6_2 x19_1).f1.f1, (rd_T65 x6_2 x19_1).f1.f2, (rd_T65 x6_2 x19_1).f1.f3, (rd_T65 x6_2 x19_1).f1.f4, (rd_T65 x6_2 x19_1).f1.f5, (rd_T65 x6_2 x19_1).f1.f6, (rd_T65 x6_2 x19_1).f1.f7⟩ : S63), (rd_T65 x6_2 x19_1).f2, (rd_T65 x6_2 x19_1).f3, (rd_T65 x6_2 x19_1).f4⟩ : S65) HO547.out) (fun _ hk => hk)
                 clear hcc30 hfr30
                 have HNB531_go28 := Aside0.mk (show gb531 ≠ go28 from by have h_ := Kd.R_ne hraw30 BK531.out (by decide); intro e_; exact h_ (by rw [e_]; rfl))
                 have HNB543_go28 := Aside0.mk (show gb543 ≠ go28 from by have h_ := Kd.R_ne hraw30 BK543.out (by decide); intro e_; exact h_ (by rw [e_]; rfl))
                 have HS30 := HP30.1
                 rw [← Ny548.out] at HS30
                 have HQ30 := Aside0.mk HS30
                 obtain ⟨_, hgg30⟩ := Kd.R_typed hraw30 go28 rfl
                 have GG30_ := Aside0.mk hgg30
                 clear HP30 HS30 hgg30
                 refine hK.out _ _ ⟨(blk_cell BK531.out 0).trans rfl, (blk_cell BK531.out 1).trans rfl, (blk_cell BK531.out 2).trans rfl, HS3_, HS4_, HS5_, HS6_, HS7_, HS8_, HS9_, HS10_, HS11_, HS12_, HS13_, HS14_, HS15_, HS16_⟩ (fun hHeld => ?_)
                 clear hK K
                 refine norm_ (a' := ?_) ?_ ?_
                 rotate_left
                 ·
                  show Act.put _ (some 50) _ = _
                  simp only [Act.put, List.setIfInBounds_toArray, List.set_cons_zero, List.set_cons_succ, i64_w, i32_w]
                  rfl
                 refine pure_ (i := 10) (N := some 51) (v := ?_) (a' := ?_) #[true, true, true, true, true, true, true, true, true, true, true, false, false] rfl rfl (any_of HT_.out (by kernel_rfl)) (fun _ _ _ h => h) (Or.inl ⟨by rfl, ?_⟩) ?_ ?_
                 rotate_left
                 ·
                  intro w'
                  go_simp
                  with_reducible rfl
                 rotate_left
                 ·
                  simp only [Act.put, List.setIfInBounds_toArray, List.set_cons_zero, List.set_cons_succ, i64_w, i32_w]
                  rfl
                 refine pure_ (i := 11) (N := some 52) (v := ?_) (a' := ?_) #[true, true, true, true, true, true, true, true, true, true, true, true, false] rfl rfl (any_of HT_.out (by kernel_rfl)) (fun _ _ _ h => h) (Or.inl ⟨by rfl, ?_⟩) ?_ ?_
                 rotate_left
                 ·
                  intro w'
                  go_simp
                  with_reducible rfl
                 rotate_left
                 ·
                  simp only [Act.put, List.setIfInBounds_toArray, List.set_cons_zero, List.set_cons_succ, i64_w, i32_w]
                  rfl
                 refine last_ (i := 12) (N := none) #[true, true, true, true, true, true, true, true, true, true, true, true, true] rfl rfl (one_of HT_.out (by kernel_rfl)) (by decide) (fun K hK => ?_)
                 refine skip_ (w1 := ?_) (by rfl) rfl ?_ ?_
                 rotate_left
                 ·
                  go_simp
                  rfl
                 refine hK.out _ _ ?_
                 clear hK K
                 refine done_ (done_of HT_.out (by kernel_rfl)) ?_
                 try go_wp2
                 go_roundg k2
                 case measure => have := HK1.out; have := HK2.out; omega
                 case rel => exact ⟨(y548), (wrap64 (x30_2 + 1)), (by first | rfl | (simp; done) | (simp [*]; done)), H', ⟨by have := HK1.out; have := HK2.out; omega⟩, ⟨by (with_reducible repeat (first | apply Kd.S_alloc | apply Kd.S_drewN | apply Kd.S_drew)); exact Kd.S_mono HQ30.out (fun _ hk => trivial)⟩, ⟨by repeat (first | (with_reducible first | exact HB.out | apply below_alloc | apply pw_below_drewN | apply below_drew1 | refine below_set ?_ GB28.out | refine below_set ?_ GE531.out | refine below_set ?_ GE543.out) | exact HB.out)⟩⟩
                ·
                 rw [if_neg c17] at H
                 exact absurd H (by simp)
               ·
                rw [if_neg c16] at H
                exact absurd H (by simp)
              ·
               rw [if_neg c15] at H
               exact absurd H (by simp)
             ·
              replace c14 := Bool.eq_false_iff.mpr c14
              subst c14
              have H1 : (play_start.l1 k2 a0 l1 x6_2 (wrap64 (x7_1 + ((rd_L2 l1 x19_1).length : Int))) x19_1 l1 (l1.length : Int) x19_1 (rd_L2 l1 x19_1) ((rd_L2 l1 x19_1).length : Int) (wrap64 (x30_2 + 1))) = some (r1, r2) := by rw [if_neg (show ¬ (false = true) by decide)] at H; exact H
              clear H
              have H := H1
              clear H1
              have H' := Aside0.mk H
              clear H
              have p530 : 0 ≤ (x30_2 : Int) := of_decide_eq_true (by first | (with_reducible assumption) | assumption)
              have q530 : x30_2 < ((rd_L2 l1 x19_1).length : Int) := of_decide_eq_true (by first | (with_reducible assumption) | assumption)
              obtain ⟨ad530, e530, hx530_0, hx530_1, hx530_2⟩ := at_T40 HR529_0.out x30_2 p530 q530
              cases e530
              replace hx530_0 := (HB.out.cell (World.block_lt_of_cell? w _ hx530_0)).trans hx530_0
              replace hx530_1 := (HB.out.cell (World.block_lt_of_cell? w _ hx530_1)).trans hx530_1
              replace hx530_2 := (HB.out.cell (World.block_lt_of_cell? w _ hx530_2)).trans hx530_2
              replace p530 := eq_true p530
              replace q530 := eq_true q530
              go_wp2_with (first | ((with_reducible refine gate_dst (N := 11) rfl ?_); (try (refine gate_guard (by rfl) ?_; dsimp only)); refine box_event ?hg (N := 11) ?hd (cs := #[.int .i64 0, .int .i64 0, .int .i64 0]) (t := 40) ?hr ?_; (case hd => rfl); (case hg => rfl); (case hr => first | (go_simp; done) | (go_simp; rfl)); intro gb531 hg w33 hbox hb; have n0_ := Aside0.mk (Kd.S_below (Kd.S_elderB (by (with_reducible repeat (first | apply Kd.S_alloc | apply Kd.S_drewN | apply Kd.S_drew)); exact HO_6.out) gb531 (Nat.le_of_eq hg.symm)) hb); have n1_ := Aside0.mk (below_step (by repeat (first | (with_reducible first | exact HB.out | apply below_alloc | apply pw_below_drewN | apply below_drew1) | exact HB.out)) hb); have n2_ := Aside0.mk (hbox); have n3_ := Aside0.mk ((by rw [hg]; exact (below_size (by repeat (first | (with_reducible first | exact HB.out | apply below_alloc | apply pw_below_drewN | apply below_drew1) | exact HB.out))) : w.heap.size ≤ gb531)); have n4_ := Aside0.mk ((by rw [hg]; exact (below_size (by repeat (first | (with_reducible first | exact HB.out | apply below_alloc | apply pw_below_drewN | apply below_drew1) | exact HB.out))) : w.heap.size ≤ gb531)); clear HO_6; clear HB; have HO_6 := n0_; have HB := n1_; have BK531 := n2_; have GW531 := n3_; have GE531 := n4_; clear n0_ n1_ n2_ n3_ n4_; clear hb hbox hg; have hcz34_0 : w33.cell? ⟨gb531, 0, none⟩ = some (.int .i64 0) := (blk_cell BK531.out 0).trans rfl; have hcz34_1 : w33.cell? ⟨gb531, 1, none⟩ = some (.int .i64 0) := (blk_cell BK531.out 1).trans rfl; have hcz34_2 : w33.cell? ⟨gb531, 2, none⟩ = some (.int .i64 0) := (blk_cell BK531.out 2).trans rfl; have hfz34_0 := blk_frozen BK531.out 0; have hfz34_1 := blk_frozen BK531.out 1; have hfz34_2 := blk_frozen BK531.out 2) | ((with_reducible refine gate_callee (f := 33) rfl ?_); refine goesL_ (some 37) rfl rfl Tryd.func33 (by kernel_rfl) rfl #[.agg #[.int .i64 ((rd_T40 (rd_L2 l1 x19_1) x30_2).f0), .int .i64 ((rd_T40 (rd_L2 l1 x19_1) x30_2).f1), .int .i64 ((rd_T40 (rd_L2 l1 x19_1) x30_2).f2)], .int .i64 a0] rfl (by (try simp only [List.map_toArray, List.map_cons, List.map_nil]); first | done | rfl | (simp only [List.length_drop, List.length_take]; rfl)) ?_; (with_reducible refine (cuf_Begin.calls ((rd_T40 (rd_L2 l1 x19_1) x30_2).f0) ((rd_T40 (rd_L2 l1 x19_1) x30_2).f1) ((rd_T40 (rd_L2 l1 x19_1) x30_2).f2) a0 t532 t533 t534 t535 t536 t537 t538 t539 t540 t541 false _ A13.out).mono ?_); rintro e w35 ⟨rfl, hb⟩; refine ⟨_, rfl, ?_⟩; have n0_ := Aside0.mk (Kd.S_below (by (with_reducible repeat (first | apply Kd.S_alloc | apply Kd.S_drewN | apply Kd.S_drew)); exact (Kd.S_mono (Kd.S_far (p := ⟨gb531, 2, none⟩) (Kd.S_far (p := ⟨gb531, 1, none⟩) (Kd.S_far (p := ⟨gb531, 0, none⟩) (Kd.S_mono HO_6.out (fun k_ hk => (⟨hk, hk.2⟩ : _ ∧ k_ ≠ gb531))) (fun _ hk => hk.2) (.int .i64 ((rd_T40 (rd_L2 l1 x19_1) x30_2).f0))) (fun _ hk => hk.2) (.int .i64 ((rd_T40 (rd_L2 l1 x19_1) x30_2).f1))) (fun _ hk => hk.2) (.int .i64 ((rd_T40 (rd_L2 l1 x19_1) x30_2).f2))) (fun _ h_ => h_.1))) hb); have n1_ := Aside0.mk (blk_below (g := gb531) (o := .cells #[.int .i64 ((rd_T40 (rd_L2 l1 x19_1) x30_2).f0), .int .i64 ((rd_T40 (rd_L2 l1 x19_1) x30_2).f1), .int .i64 ((rd_T40 (rd_L2 l1 x19_1) x30_2).f2)] 40 (0, 0)) (by (with_reducible repeat (first | refine blk_drewN ?_ _ | refine blk_drew ?_ | refine blk_alloc ?_ _)); refine blk_put (cs := #[.int .i64 ((rd_T40 (rd_L2 l1 x19_1) x30_2).f0), .int .i64 ((rd_T40 (rd_L2 l1 x19_1) x30_2).f1), .int .i64 0]) ?_ 2 _ rfl; (with_reducible repeat (first | refine blk_drewN ?_ _ | refine blk_drew ?_ | refine blk_alloc ?_ _)); refine blk_put (cs := #[.int .i64 ((rd_T40 (rd_L2 l1 x19_1) x30_2).f0), .int .i64 0, .int .i64 0]) ?_ 1 _ rfl; (with_reducible repeat (first | refine blk_drewN ?_ _ | refine blk_drew ?_ | refine blk_alloc ?_ _)); refine blk_put (cs := #[.int .i64 0, .int .i64 0, .int .i64 0]) ?_ 0 _ rfl; (with_reducible repeat (first | refine blk_drewN ?_ _ | refine blk_drew ?_ | refine blk_alloc ?_ _)); exact BK531.out) hb); have n2_ := Aside0.mk (below_step (by repeat (first | (with_reducible first | exact HB.out | apply below_alloc | apply pw_below_drewN | apply below_drew1 | refine below_set ?_ GE531.out) | exact HB.out)) hb); clear HO_6; clear BK531; clear HB; have HO_6 := n0_; have BK531 := n1_; have HB := n2_; clear n0_ n1_ n2_; (try clear hb); (try clear hb2); (try clear hk); (try clear hi)) | ((with_reducible refine gate_dst (N := 12) rfl ?_); (try (refine gate_guard (by rfl) ?_; dsimp only)); refine box_event ?hg (N := 12) ?hd (cs := #[.int .i64 0, .int .i64 0, .int .i64 0, .int .i64 0, .int .i64 0, .int .i64 0, .int .i64 0, .int .i64 0, .bool false, .int .i64 0]) (t := 63) ?hr ?_; (case hd => rfl); (case hg => rfl); (case hr => first | (go_simp; done) | (go_simp; rfl)); intro gb543 hg w36 hbox hb; have n0_ := Aside0.mk (Kd.S_below (by (with_reducible repeat (first | apply Kd.S_alloc | apply Kd.S_drewN | apply Kd.S_drew)); exact HO_6.out) hb); have n1_ := Aside0.mk (blk_below (g := gb531) (o := .cells #[.int .i64 ((rd_T40 (rd_L2 l1 x19_1) x30_2).f0), .int .i64 ((rd_T40 (rd_L2 l1 x19_1) x30_2).f1), .int .i64 ((rd_T40 (rd_L2 l1 x19_1) x30_2).f2)] 40 (0, 0)) (by (with_reducible repeat (first | refine blk_drewN ?_ _ | refine blk_drew ?_ | refine blk_alloc ?_ _)); exact BK531.out) hb); have n2_ := Aside0.mk (below_step (by repeat (first | (with_reducible first | exact HB.out | apply below_alloc | apply pw_below_drewN | apply below_drew1 | refine below_set ?_ GE531.out) | exact HB.out)) hb); have n3_ := Aside0.mk (hbox); have n4_ := Aside0.mk ((by rw [hg]; exact (below_size (by repeat (first | (with_reducible first | exact HB.out | apply below_alloc | apply pw_below_drewN | apply below_drew1 | refine below_set ?_ GE531.out) | exact HB.out))) : w.heap.size ≤ gb543)); have n5_ := Aside0.mk ((by rw [hg]; exact (below_size (by repeat (first | (with_reducible first | exact HB.out | apply below_alloc | apply pw_below_drewN | apply below_drew1 | refine below_set ?_ GE531.out) | exact HB.out))) : w.heap.size ≤ gb543)); have n6_ := Aside0.mk ((by rw [hg]; exact Nat.ne_of_lt (blk_lt (g := gb531) (o := .cells #[.int .i64 ((rd_T40 (rd_L2 l1 x19_1) x30_2).f0), .int .i64 ((rd_T40 (rd_L2 l1 x19_1) x30_2).f1), .int .i64 ((rd_T40 (rd_L2 l1 x19_1) x30_2).f2)] 40 (0, 0)) (by (with_reducible repeat (first | refine blk_drewN ?_ _ | refine blk_drew ?_ | refine blk_alloc ?_ _)); exact BK531.out)) : gb531 ≠ gb543)); have n7_ := Aside0.mk ((by rw [hg]; exact Nat.ne_of_gt (blk_lt (g := gb531) (o := .cells #[.int .i64 ((rd_T40 (rd_L2 l1 x19_1) x30_2).f0), .int .i64 ((rd_T40 (rd_L2 l1 x19_1) x30_2).f1), .int .i64 ((rd_T40 (rd_L2 l1 x19_1) x30_2).f2)] 40 (0, 0)) (by (with_reducible repeat (first | refine blk_drewN ?_ _ | refine blk_drew ?_ | refine blk_alloc ?_ _)); exact BK531.out)) : gb543 ≠ gb531)); clear HO_6; clear BK531; clear HB; have HO_6 := n0_; have BK531 := n1_; have HB := n2_; have BK543 := n3_; have GW543 := n4_; have GE543 := n5_; have NB531_543 := n6_; have NB543_531 := n7_; clear n0_ n1_ n2_ n3_ n4_ n5_ n6_ n7_; clear hb hbox hg; have hnb37 := NB543_531.out; have hnc37 := NB531_543.out; have hcz38_0 : w36.cell? ⟨gb543, 0, none⟩ = some (.int .i64 0) := (blk_cell BK543.out 0).trans rfl; have hcz38_1 : w36.cell? ⟨gb543, 1, none⟩ = some (.int .i64 0) := (blk_cell BK543.out 1).trans rfl; have hcz38_2 : w36.cell? ⟨gb543, 2, none⟩ = some (.int .i64 0) := (blk_cell BK543.out 2).trans rfl; have hcz38_3 : w36.cell? ⟨gb543, 3, none⟩ = some (.int .i64 0) := (blk_cell BK543.out 3).trans rfl; have hcz38_4 : w36.cell? ⟨gb543, 4, none⟩ = some (.int .i64 0) := (blk_cell BK543.out 4).trans rfl; have hcz38_5 : w36.cell? ⟨gb543, 5, none⟩ = some (.int .i64 0) := (blk_cell BK543.out 5).trans rfl; have hcz38_6 : w36.cell? ⟨gb543, 6, none⟩ = some (.int .i64 0) := (blk_cell BK543.out 6).trans rfl; have hcz38_7 : w36.cell? ⟨gb543, 7, none⟩ = some (.int .i64 0) := (blk_cell BK543.out 7).trans rfl; have hcz38_8 : w36.cell? ⟨gb543, 8, none⟩ = some (.bool false) := (blk_cell BK543.out 8).trans rfl; have hcz38_9 : w36.cell? ⟨gb543, 9, none⟩ = some (.int .i64 0) := (blk_cell BK543.out 9).trans rfl; have hfz38_0 := blk_frozen BK543.out 0; have hfz38_1 := blk_frozen BK543.out 1; have hfz38_2 := blk_frozen BK543.out 2; have hfz38_3 := blk_frozen BK543.out 3; have hfz38_4 := blk_frozen BK543.out 4; have hfz38_5 := blk_frozen BK543.out 5; have hfz38_6 := blk_frozen BK543.out 6; have hfz38_7 := blk_frozen BK543.out 7; have hfz38_8 := blk_frozen BK543.out 8; have hfz38_9 := blk_frozen BK543.out 9))
              go_roundg k2
              case measure => have := HK1.out; have := HK2.out; omega
              case rel => exact ⟨(x6_2), (wrap64 (x30_2 + 1)), (by first | rfl | (simp; done) | (simp [*]; done)), H', ⟨by have := HK1.out; have := HK2.out; omega⟩, ⟨by (with_reducible repeat (first | apply Kd.S_alloc | apply Kd.S_drewN | apply Kd.S_drew)); exact Kd.S_mono (Kd.S_far (p := ⟨gb543, 9, none⟩) (Kd.S_far (p := ⟨gb543, 8, none⟩) (Kd.S_far (p := ⟨gb543, 7, none⟩) (Kd.S_far (p := ⟨gb543, 6, none⟩) (Kd.S_far (p := ⟨gb543, 5, none⟩) (Kd.S_far (p := ⟨gb543, 4, none⟩) (Kd.S_far (p := ⟨gb543, 3, none⟩) (Kd.S_far (p := ⟨gb543, 2, none⟩) (Kd.S_far (p := ⟨gb543, 1, none⟩) (Kd.S_far (p := ⟨gb543, 0, none⟩) (Kd.S_types HO_6.out BK543.out (by decide)) (fun _ hk => hk.2) (.int .i64 t532)) (fun _ hk => hk.2) (.int .i64 t533)) (fun _ hk => hk.2) (.int .i64 t534)) (fun _ hk => hk.2) (.int .i64 t535)) (fun _ hk => hk.2) (.int .i64 t536)) (fun _ hk => hk.2) (.int .i64 t537)) (fun _ hk => hk.2) (.int .i64 t538)) (fun _ hk => hk.2) (.int .i64 t539)) (fun _ hk => hk.2) (.bool t540)) (fun _ hk => hk.2) (.int .i64 t541)) (fun _ hk => trivial)⟩, ⟨by repeat (first | (with_reducible first | exact HB.out | apply below_alloc | apply pw_below_drewN | apply below_drew1 | refine below_set ?_ GE531.out | refine below_set ?_ GE543.out) | exact HB.out)⟩⟩
            ·
             rw [if_neg c12] at H
             exact absurd H (by simp)
           ·
            rw [if_neg c11] at H
            exact absurd H (by simp)
          ·
           rw [if_neg c10] at H
           have c10b0 : decide (x30_2 < ((rd_L2 l1 x19_1).length : Int)) = false := decide_eq_false c10
           clear c10
           have H' := Aside0.mk H
           clear H
           go_wp2
           go_roundg k2
           case measure => have := HK1.out; have := HK2.out; omega
           case rel => exact ⟨(x6_2), ((wrap64 (x7_1 + ((rd_L2 l1 x19_1).length : Int)))), (wrap64 (x19_1 + 1)), (by first | rfl | (simp; done) | (simp [*]; done)), (by first | rfl | (simp; done) | (simp [*]; done)), H', ⟨by have := HK1.out; have := HK2.out; omega⟩, ⟨by (with_reducible repeat (first | apply Kd.S_alloc | apply Kd.S_drewN | apply Kd.S_drew)); exact HO_6.out⟩, ⟨by repeat (first | (with_reducible first | exact HB.out | apply below_alloc | apply pw_below_drewN | apply below_drew1) | exact HB.out)⟩⟩
       ·
        rw [if_neg c9] at H
        exact absurd H (by simp)
      ·
       rw [if_neg c8] at H
       exact absurd H (by simp)
     ·
      rw [if_neg c7] at H
      have c7b0 : decide (x19_1 < (l1.length : Int)) = false := decide_eq_false c7
      clear c7
      by_cases c39 : a0 ≤ 4096
      ·
       rw [if_pos c39] at H
       have c39b0 : decide (a0 ≤ 4096) = true := decide_eq_true c39
       clear c39
       by_cases c40 : (l1.length : Int) ≤ 64
       ·
        rw [if_pos c40] at H
        have c40b0 : decide ((l1.length : Int) ≤ 64) = true := decide_eq_true c40
        have c40b1 : decide (l1.length ≤ 64) = true := decide_eq_true (by omega)
        clear c40
        simp only [Option.some.injEq, Prod.mk.injEq] at H
        obtain ⟨rfl, rfl⟩ := H
        go_wp2
        go_ret2
        exact ⟨_, by first | rfl | (simp [errW_none, errW_some] <;> rfl) | (simp [*, errW_none, errW_some] <;> rfl), by (with_reducible repeat (first | apply Kd.S_alloc | apply Kd.S_drewN | apply Kd.S_drew)); exact HO_6.out, by repeat (first | (with_reducible first | exact HB.out | apply below_alloc | apply pw_below_drewN | apply below_drew1) | exact HB.out)⟩
       ·
        rw [if_neg c40] at H
        have c40b0 : decide ((l1.length : Int) ≤ 64) = false := decide_eq_false c40
        have c40b1 : decide (l1.length ≤ 64) = false := decide_eq_false (by omega)
        clear c40
        simp only [Option.some.injEq, Prod.mk.injEq] at H
        obtain ⟨rfl, rfl⟩ := H
        go_wp2
        go_ret2
        exact ⟨_, by first | rfl | (simp [errW_none, errW_some] <;> rfl) | (simp [*, errW_none, errW_some] <;> rfl), by (with_reducible repeat (first | apply Kd.S_alloc | apply Kd.S_drewN | apply Kd.S_drew)); exact HO_6.out, by repeat (first | (with_reducible first | exact HB.out | apply below_alloc | apply pw_below_drewN | apply below_drew1) | exact HB.out)⟩
      ·
       rw [if_neg c39] at H
       have c39b0 : decide (a0 ≤ 4096) = false := decide_eq_false c39
       clear c39
       simp only [Option.some.injEq, Prod.mk.injEq] at H
       obtain ⟨rfl, rfl⟩ := H
       go_wp2
       go_ret2
       exact ⟨_, by first | rfl | (simp [errW_none, errW_some] <;> rfl) | (simp [*, errW_none, errW_some] <;> rfl), by (with_reducible repeat (first | apply Kd.S_alloc | apply Kd.S_drewN | apply Kd.S_drew)); exact HO_6.out, by repeat (first | (with_reducible first | exact HB.out | apply below_alloc | apply pw_below_drewN | apply below_drew1) | exact HB.out)⟩
  ·
   rw [if_neg c4] at H
   exact absurd H (by simp)
 ·
  rw [if_neg c3] at H
  exact absurd H (by simp)
-- NOT PRINTED: function 25 (play_worker_step)
-- NOT PRINTED: function 26 (play_worker_event)
end Go.Proofs.YtmaiicpaalbcfaaDoor.P
end
section
namespace Go.Proofs.YtmaiicpaalbcfaaDoor
open Go.RowKit Go.Proofs.YtmaiicpaalbcfaaDoorW.PrintWords Go.Proofs.YtmaiicpaalbcfaaDoorW.PrintLast Go.Proofs.YtmaiicpaalbcfaaDoorW.PrintMore Go.Proofs.YtmaiicpaalbcfaaDoor.P
set_option linter.unusedVariables false
set_option linter.unusedSimpArgs false
def ev42 (e : S42) : Value := .agg #[.int .i64 e.f0, .int .i64 e.f1.f0, .int .i64 e.f1.f1, .int .i64 e.f1.f2, .int .i64 e.f2, .int .i64 e.f3, .int .i64 e.f4, .int .i64 e.f5]
set_option maxRecDepth 100000 in
set_option maxHeartbeats 4000000 in
theorem event_any (gw i : Nat) (t : T) (b now found : Int) (ii : Nat) (w : World) (c1 : w.cell? ⟨gw, i * 14 + 1, none⟩ = some (.int .i64 t.k)) (c2 : w.cell? ⟨gw, i * 14 + 2, none⟩ = some (.int .i64 t.x)) (c3 : w.cell? ⟨gw, i * 14 + 3, none⟩ = some (.int .i64 t.y)) (c10 : w.cell? ⟨gw, i * 14 + 10, none⟩ = some (.int .i64 t.res)) (c12 : w.cell? ⟨gw, i * 14 + 12, none⟩ = some (.int .i64 b)) :
    Calls Tryd.prog 26 #[.pointer (some ⟨gw, i * 14, none⟩), .int .i64 (ii : Int), .int .i64 now, .int .i64 found] w fun e w' => e = .returned (ev42 (eventS ii t b now found)) ∧ Below w.heap.size w w' := by
  have hu65 := Tryd.underlying65
  have hu63 := Tryd.underlying63
  have hu42 := Tryd.underlying42
  have hu40 := Tryd.underlying40
  obtain ⟨k, x, y, s, u, v, ww, r, is, res⟩ := t
  dsimp only at c1 c2 c3 c10
  go_enter Tryd.func26, Tryd.ntmps26
  go_upto_region 1 with (first | ((with_reducible refine gate_dst (N := 8) rfl ?_); (try (refine gate_guard (by rfl) ?_; dsimp only)); refine box_event ?hg (N := 8) ?hd (cs := #[.int .i64 0, .int .i64 0, .int .i64 0, .int .i64 0, .int .i64 0, .int .i64 0, .int .i64 0, .int .i64 0]) (t := 42) ?hr ?_; (case hd => rfl); (case hg => rfl); (case hr => first | (go_simp; done) | (go_simp; rfl)); intro br hbr w1 hbx hb1; have HBX := Aside0.mk hbx; have HB1 := Aside0.mk hb1; have c1 := (hb1.cell (World.block_lt_of_cell? _ _ c1)).trans c1; have c2 := (hb1.cell (World.block_lt_of_cell? _ _ c2)).trans c2; have c3 := (hb1.cell (World.block_lt_of_cell? _ _ c3)).trans c3; have c10 := (hb1.cell (World.block_lt_of_cell? _ _ c10)).trans c10; have c12 := (hb1.cell (World.block_lt_of_cell? _ _ c12)).trans c12; have HBRE := Aside0.mk hbr; clear hbx hb1 hbr))
  have hne := World.new_ne w1 _ c1
  go_region_held3 (fun w' => w'.cell? ⟨gw, i * 14 + 1, none⟩ = some (.int .i64 k) ∧ w'.cell? ⟨gw, i * 14 + 2, none⟩ = some (.int .i64 x) ∧ w'.cell? ⟨gw, i * 14 + 3, none⟩ = some (.int .i64 y) ∧ w'.cell? ⟨gw, i * 14 + 10, none⟩ = some (.int .i64 res) ∧ w'.cell? ⟨gw, i * 14 + 12, none⟩ = some (.int .i64 b))
    (go_keep) (first | fail)
  have hb2 : Below w1.heap.size w1 (w1.alloc (.cells #[.int .i64 (ii : Int), .int .i64 k, .int .i64 x, .int .i64 y, .int .i64 res, .int .i64 b, .int .i64 now, .int .i64 now] 42 (0, 0))).drew := below_drew (below_alloc (Below.refl _ _) _)
  have HBV := Aside0.mk (blk_drew (blk_new w1 (.cells #[.int .i64 (ii : Int), .int .i64 k, .int .i64 x, .int .i64 y, .int .i64 res, .int .i64 b, .int .i64 now, .int .i64 now] 42 (0, 0))))
  have HBR := Aside0.mk (blk_below HBX.out hb2)
  have HB3 := Aside0.mk (below_step HB1.out hb2)
  have HNB := Aside0.mk (show br ≠ w1.heap.size from Nat.ne_of_lt (blk_lt HBX.out))
  have HBRL := Aside0.mk (show w.heap.size ≤ br by rw [HBRE.out]; exact Nat.le_refl _)
  have HBXL := Aside0.mk (show w.heap.size ≤ w1.heap.size from below_size HB1.out)
  clear hb2 hne c1 c2 c3 c10 c12 HBX HB1
  generalize (w1.alloc (.cells #[.int .i64 (ii : Int), .int .i64 k, .int .i64 x, .int .i64 y, .int .i64 res, .int .i64 b, .int .i64 now, .int .i64 now] 42 (0, 0))).drew = w3 at *
  generalize w1.heap.size = bx at *
  have z0 : w3.cell? ⟨bx, 0, none⟩ = some (.int .i64 (ii : Int)) := (blk_cell HBV.out 0).trans rfl
  have z1 : w3.cell? ⟨bx, 1, none⟩ = some (.int .i64 k) := (blk_cell HBV.out 1).trans rfl
  have z2 : w3.cell? ⟨bx, 2, none⟩ = some (.int .i64 x) := (blk_cell HBV.out 2).trans rfl
  have z3 : w3.cell? ⟨bx, 3, none⟩ = some (.int .i64 y) := (blk_cell HBV.out 3).trans rfl
  have z4 : w3.cell? ⟨bx, 4, none⟩ = some (.int .i64 res) := (blk_cell HBV.out 4).trans rfl
  have z5 : w3.cell? ⟨bx, 5, none⟩ = some (.int .i64 b) := (blk_cell HBV.out 5).trans rfl
  have z6 : w3.cell? ⟨bx, 6, none⟩ = some (.int .i64 now) := (blk_cell HBV.out 6).trans rfl
  have z7 : w3.cell? ⟨bx, 7, none⟩ = some (.int .i64 now) := (blk_cell HBV.out 7).trans rfl
  have r0 : w3.cell? ⟨br, 0, none⟩ = some (.int .i64 0) := (blk_cell HBR.out 0).trans rfl
  have y0 := blk_frozen HBR.out 0
  have r1 : w3.cell? ⟨br, 1, none⟩ = some (.int .i64 0) := (blk_cell HBR.out 1).trans rfl
  have y1 := blk_frozen HBR.out 1
  have r2 : w3.cell? ⟨br, 2, none⟩ = some (.int .i64 0) := (blk_cell HBR.out 2).trans rfl
  have y2 := blk_frozen HBR.out 2
  have r3 : w3.cell? ⟨br, 3, none⟩ = some (.int .i64 0) := (blk_cell HBR.out 3).trans rfl
  have y3 := blk_frozen HBR.out 3
  have r4 : w3.cell? ⟨br, 4, none⟩ = some (.int .i64 0) := (blk_cell HBR.out 4).trans rfl
  have y4 := blk_frozen HBR.out 4
  have r5 : w3.cell? ⟨br, 5, none⟩ = some (.int .i64 0) := (blk_cell HBR.out 5).trans rfl
  have y5 := blk_frozen HBR.out 5
  have r6 : w3.cell? ⟨br, 6, none⟩ = some (.int .i64 0) := (blk_cell HBR.out 6).trans rfl
  have y6 := blk_frozen HBR.out 6
  have r7 : w3.cell? ⟨br, 7, none⟩ = some (.int .i64 0) := (blk_cell HBR.out 7).trans rfl
  have y7 := blk_frozen HBR.out 7
  have nb := HNB.out
  have nb2 : bx ≠ br := Ne.symm HNB.out
  have y66 := blk_frozen HBV.out 6
  by_cases hk : k = 2
  · have qk : (k == 2) = true := by simpa using hk
    have HK := Aside0.mk hk
    clear hk
    by_cases hr : res = 0
    · have qr : (res == 0) = true := by simpa using hr
      have HR := Aside0.mk hr
      clear hr
      go_wp2
      (try simp only [Exit.inBlock, Exit.then])
      refine bodyPost_ret (results_cell_row rfl _ _ br 42 #[.int .i64 (ii : Int), .int .i64 k, .int .i64 x, .int .i64 y, .int .i64 res, .int .i64 b, .int .i64 found, .int .i64 now] (0, 0) _ rfl (blk_put (blk_put (blk_put (blk_put (blk_put (blk_put (blk_put (blk_put (blk_far (p := ⟨bx, 6, none⟩) HBR.out HNB.out _) 0 _ rfl) 1 _ rfl) 2 _ rfl) 3 _ rfl) 4 _ rfl) 5 _ rfl) 6 _ rfl) 7 _ rfl) Tryd.underlying42 rfl (by kernel_rfl)) rfl ?_
      exact ⟨by unfold eventS; rw [if_pos ⟨HK.out, HR.out⟩]; rfl, (below_set (below_set (below_set (below_set (below_set (below_set (below_set (below_set (below_set HB3.out HBXL.out) HBRL.out) HBRL.out) HBRL.out) HBRL.out) HBRL.out) HBRL.out) HBRL.out) HBRL.out)⟩
    · have qr : (res == 0) = false := by simpa using hr
      have HR := Aside0.mk hr
      clear hr
      go_wp2
      (try simp only [Exit.inBlock, Exit.then])
      refine bodyPost_ret (results_cell_row rfl _ _ br 42 #[.int .i64 (ii : Int), .int .i64 k, .int .i64 x, .int .i64 y, .int .i64 res, .int .i64 b, .int .i64 now, .int .i64 now] (0, 0) _ rfl (blk_put (blk_put (blk_put (blk_put (blk_put (blk_put (blk_put (blk_put HBR.out 0 _ rfl) 1 _ rfl) 2 _ rfl) 3 _ rfl) 4 _ rfl) 5 _ rfl) 6 _ rfl) 7 _ rfl) Tryd.underlying42 rfl (by kernel_rfl)) rfl ?_
      exact ⟨by unfold eventS; rw [if_neg (fun h => HR.out h.2)]; rfl, (below_set (below_set (below_set (below_set (below_set (below_set (below_set (below_set HB3.out HBRL.out) HBRL.out) HBRL.out) HBRL.out) HBRL.out) HBRL.out) HBRL.out) HBRL.out)⟩
  · have qk : (k == 2) = false := by simpa using hk
    have HK := Aside0.mk hk
    clear hk
    go_wp2
    (try simp only [Exit.inBlock, Exit.then])
    refine bodyPost_ret (results_cell_row rfl _ _ br 42 #[.int .i64 (ii : Int), .int .i64 k, .int .i64 x, .int .i64 y, .int .i64 res, .int .i64 b, .int .i64 now, .int .i64 now] (0, 0) _ rfl (blk_put (blk_put (blk_put (blk_put (blk_put (blk_put (blk_put (blk_put HBR.out 0 _ rfl) 1 _ rfl) 2 _ rfl) 3 _ rfl) 4 _ rfl) 5 _ rfl) 6 _ rfl) 7 _ rfl) Tryd.underlying42 rfl (by kernel_rfl)) rfl ?_
    exact ⟨by unfold eventS; rw [if_neg (fun h => HK.out h.1)]; rfl, (below_set (below_set (below_set (below_set (below_set (below_set (below_set (below_set HB3.out HBRL.out) HBRL.out) HBRL.out) HBRL.out) HBRL.out) HBRL.out) HBRL.out) HBRL.out)⟩
end Go.Proofs.YtmaiicpaalbcfaaDoor
namespace Go.Proofs.YtmaiicpaalbcfaaDoor
open Go.RowKit Go.Proofs.YtmaiicpaalbcfaaDoorW.PrintWords Go.Proofs.YtmaiicpaalbcfaaDoorW.PrintLast Go.Proofs.YtmaiicpaalbcfaaDoorW.PrintMore Go.Proofs.YtmaiicpaalbcfaaDoor.P
set_option linter.unusedVariables false
theorem PSt.start {w0 wr w4 w5 : World} {n gw bp wc uc cv : Nat} {WA UA Av : Option Addr} {ws : List W5} {R : List (List Value)} {up P : List Int} (hraw : (Kd.raw 14).R 65 wr w0.heap.size (fun _ => True) (.slice WA n wc) R) (hwa : WA = some ⟨gw, 0, none⟩) (hgw : gw < wr.heap.size) (hlw : ws.length = n)
    (hrow : ∀ i, i < n → ∃ A c, R.getD i [] = wrow A (ws.getD i z5).l.length c (ws.getD i z5).t (ws.getD i z5).busy (ws.getD i z5).b (ws.getD i z5).pl ∧ (ws.getD i z5).l.length ≤ c ∧ ∀ W', Kept wr W' (fun q => q = gw) → Kd.C k40 W' A (ws.getD i z5).l.length (ws.getD i z5).l)
    (hup : Kd.R (Kd.int .i64) 3 wr w0.heap.size (fun _ => True) (.slice UA up.length uc) up) (hb0 : Below w0.heap.size w0 wr) (hb4 : Below wr.heap.size wr w4) (hv : Kd.R (Kd.int .i64) 3 w4 wr.heap.size (fun _ => True) (.slice Av P.length cv) P) (hb5 : Below w4.heap.size w4 w5) (hbp : bp = w4.heap.size) (hbx : w5.heap[bp]? = some (.cells #[.slice none 0 0, .int .i64 0, .int .i64 0] 58 (0, 0))) :
    PSt w0 wr ((((w5.setCell ⟨bp, 0, none⟩ (.slice Av P.length cv)).setCell ⟨bp, 1, none⟩ (.int .i64 0)).setCell ⟨bp, 2, none⟩ (.int .i64 (-1))).alloc (.cells (List.replicate n (Value.bool false)).toArray 4 (0, 0))) n gw bp (((w5.setCell ⟨bp, 0, none⟩ (.slice Av P.length cv)).setCell ⟨bp, 1, none⟩ (.int .i64 0)).setCell ⟨bp, 2, none⟩ (.int .i64 (-1))).heap.size WA wc ws R up UA uc [] none 0 0 (-1) P (.slice Av P.length cv) (List.replicate n false) := by
  have s4 := below_size hb4
  have s5 := below_size hb5
  have s0 := below_size hb0
  have hlt := blk_lt hbx
  have hbr : Below wr.heap.size wr w5 := below_step hb4 hb5
  have hb6 : Below wr.heap.size wr (((w5.setCell ⟨bp, 0, none⟩ (.slice Av P.length cv)).setCell ⟨bp, 1, none⟩ (.int .i64 0)).setCell ⟨bp, 2, none⟩ (.int .i64 (-1))) := below_set (below_set (below_set hbr (by omega)) (by omega)) (by omega)
  have hb7 := below_alloc hb6 (.cells (List.replicate n (Value.bool false)).toArray 4 (0, 0))
  have hblk := blk_put (blk_put (blk_put hbx 0 (.slice Av P.length cv) rfl) 1 (.int .i64 0) rfl) 2 (.int .i64 (-1)) rfl
  have e6 : (((w5.setCell ⟨bp, 0, none⟩ (.slice Av P.length cv)).setCell ⟨bp, 1, none⟩ (.int .i64 0)).setCell ⟨bp, 2, none⟩ (.int .i64 (-1))).heap.size = w5.heap.size := by simp [World.setCell]
  have hv5 := Kd.R_bound (Kd.R_far (p := ⟨bp, 2, none⟩) (Kd.R_far (p := ⟨bp, 1, none⟩) (Kd.R_far (p := ⟨bp, 0, none⟩) (Kd.R_types (Kd.R_below hv hb5) hbx (by decide)) (fun _ hk => hk.2) (.slice Av P.length cv)) (fun _ hk => hk.2) (.int .i64 0)) (fun _ hk => hk.2) (.int .i64 (-1)))
  have hpl := (Kd.R_reads' hv).2.1
  refine ⟨Kd.R_below hraw hb7, fun _ => hwa, hlw, hrow, Kept.of_below hb7 _, below_step hb0 hb7, Kd.R_below hup hb7, Kd.R_nil _ _ _ _ _, blk_alloc hblk _, ?_, ?_, ⟨by omega, by omega, fun q hq => by simp [Value.ownBlock] at hq⟩, ⟨s0, hgw⟩⟩
  · refine Kd.V_alloc (Kd.V_mono (Kd.V_mk (base := w0.heap.size) (e := 3) hpl (Kd.R_F hv5)) (fun k hk => ?_)) _
    obtain ⟨⟨_, h1⟩, h2, h3, _⟩ := hk
    exact ⟨⟨by omega, h1, by omega⟩, by simp [Value.ownBlock]⟩
  · have := blk_new (((w5.setCell ⟨bp, 0, none⟩ (.slice Av P.length cv)).setCell ⟨bp, 1, none⟩ (.int .i64 0)).setCell ⟨bp, 2, none⟩ (.int .i64 (-1))) (.cells (List.replicate n (Value.bool false)).toArray 4 (0, 0))
    rw [List.map_replicate]
    exact this
end Go.Proofs.YtmaiicpaalbcfaaDoor
namespace Go.Proofs.YtmaiicpaalbcfaaDoor
open Go.RowKit Go.Proofs.YtmaiicpaalbcfaaDoorW.PrintWords Go.Proofs.YtmaiicpaalbcfaaDoorW.PrintLast Go.Proofs.YtmaiicpaalbcfaaDoorW.PrintMore Go.Proofs.YtmaiicpaalbcfaaDoor.P
set_option linter.unusedVariables false
set_option linter.unusedSimpArgs false
theorem bools_C (E : List Bool) (w : World) (g : Nat) (h : w.heap[g]? = some (.cells (E.map Value.bool).toArray 4 (0, 0))) (hl : E.length ≤ 64) : Kd.C Kd.bool w (some ⟨g, 0, none⟩) E.length E := by
  refine ⟨rfl, by omega, fun _ => ⟨⟨g, 0, none⟩, rfl, fun j p hp => ⟨[.bool p], rfl, rfl, fun i u hu => ?_⟩⟩⟩
  have hi : i = 0 := by
    rcases i with _ | i
    · rfl
    · simp at hu
  subst hi
  obtain rfl : Value.bool p = u := by simpa using hu
  have e : (Addr.add ⟨g, 0, none⟩ (j * Kd.bool.sz + 0)) = ⟨g, j, none⟩ := by
    rw [show Kd.bool.sz = 1 from rfl]
    simp [Addr.add]
    exact Eq.symm
  rw [e]
  refine (blk_cell h j).trans ?_
  simp [hp]
theorem next_call (E : List Bool) (n : Nat) (hn : E.length = n) (hl : n ≤ 64) (P : Nat → Prop) (A : Option Addr) (c : Nat) (L : List Int) (at_ last : Int) (hL : L.length ≤ 1000000) (g : Nat) (w : World) (hV : Kd.V (Kd.int .i64) 3 w w.heap.size P (.slice A L.length c) L) (hE : w.heap[g]? = some (.cells (E.map Value.bool).toArray 4 (0, 0))) (hT : Tab w) (who at2 last2 : Int) (h1 : whoS L at_ last (Bits.idx E) = who) (h2 : atS L at_ (Bits.idx E) = at2) (h3 : lastS L at_ last (Bits.idx E) = last2) :
    Calls Tryd.prog 24 #[.agg #[.slice A L.length c, .int .i64 at_, .int .i64 last], .slice (some ⟨g, 0, none⟩) n n] w fun e w' => ∃ (A' : Option Addr) (c' : Nat), e = .returned (.tuple #[.int .i64 who, .agg #[.slice A' L.length c', .int .i64 at2, .int .i64 last2]]) ∧ Kd.V (Kd.int .i64) 3 w' w.heap.size (fun k_ => P k_ ∨ w.heap.size ≤ k_) (.slice A' L.length c') L ∧ Below w.heap.size w w' := by
  subst hn h1 h2 h3
  obtain ⟨k, hk⟩ := (next_ev L at_ last E hL (by omega)).rounds
  refine (pick_Next.calls k P A c L at_ last (some ⟨g, 0, none⟩) E.length E _ _ _ _ w hV (bools_C E w g hE hl) (Nat.le_refl _) hk hT).mono ?_
  rintro e w' ⟨v1, rfl, ho, hb⟩
  obtain ⟨A', c', rfl⟩ := Kd.V_slice ho
  exact ⟨A', c', rfl, ho, hb⟩
theorem set_getDb (E : List Bool) (i j : Nat) (b : Bool) (h : i < E.length) : (E.set i b).getD j false = if j = i then b else E.getD j false := by
  simp only [List.getD_eq_getElem?_getD, List.getElem?_set]
  by_cases c : i = j
  · rw [if_pos c, if_pos (by omega), if_pos c.symm]; rfl
  · rw [if_neg c, if_neg (Ne.symm c)]
theorem enG_length (n : Nat) (going : Int) : (enG n going).length = n := by simp [enG]
theorem enG_get (n : Nat) (going : Int) (i : Nat) (hi : i < n) : (enG n going).getD i false = bitOn going i := by
  simp [enG, List.getD_eq_getElem?_getD, hi]
theorem enG_of (n : Nat) (going : Int) (E : List Bool) (h : E.length = n) (hE : ∀ j, j < n → E.getD j false = bitOn going j) : E = enG n going := by
  apply List.ext_getElem
  · rw [h, enG_length]
  · intro j h1 h2
    have h3 := hE j (by omega)
    rw [← enG_get n going j (by omega), List.getD_eq_getElem?_getD, List.getElem?_eq_getElem h1, List.getD_eq_getElem?_getD, List.getElem?_eq_getElem h2] at h3
    exact h3
end Go.Proofs.YtmaiicpaalbcfaaDoor
namespace Go.Proofs.YtmaiicpaalbcfaaDoor
open Go.RowKit Go.Proofs.YtmaiicpaalbcfaaDoorW.PrintWords Go.Proofs.YtmaiicpaalbcfaaDoorW.PrintLast Go.Proofs.YtmaiicpaalbcfaaDoorW.PrintMore Go.Proofs.YtmaiicpaalbcfaaDoor.P
set_option linter.unusedVariables false
def st65 (l : List S40) : S65 := ⟨l, z63, false, 0, 0⟩
def allW (a : Int) : List (List S40) → Int
  | [] => a
  | x :: W => allW (wrap64 (a + (x.length : Int))) W
def startS (n : Int) (S : List (List S40)) : List S65 := S.map fun l => st65 (l.filter (validB n))
def okS (n : Int) (S : List (List S40)) : Bool := decide (n ≤ 4096 ∧ (S.length : Int) ≤ 64 ∧ allW 0 S ≤ 4096)
theorem set_same65 (X : List S65) (i : Nat) (x : S65) (hi : i < X.length) (h : X.getD i z65 = x) : X.set i x = X := by
  apply List.ext_getElem?
  intro j
  rw [List.getElem?_set]
  by_cases c : i = j
  · subst c
    rw [if_pos rfl, if_pos hi, ← h, List.getD_eq_getElem?_getD, List.getElem?_eq_getElem hi]; rfl
  · rw [if_neg c]
theorem start_l1 (n : Int) (S : List (List S40)) (all : Int) (i : Nat) (hi : i < S.length) (row : List S40) (hrow : row.length ≤ 1000000000000) (r : List S65 × Bool) : ∀ (d j : Nat) (X : List S65), j + d = row.length → i < X.length → X.getD i z65 = st65 ((row.take j).filter (validB n)) →
    Ev (fun g => play_start.l0 g n S (X.set i (st65 (row.filter (validB n)))) all S (S.length : Int) (wrap64 ((i : Int) + 1))) r → Ev (fun g => play_start.l1 g n S X all (i : Int) S (S.length : Int) (i : Int) row (row.length : Int) (j : Int)) r
  | 0, j, X, hj, hx, hX, h => by
    rw [List.take_of_length_le (by omega)] at hX
    rw [set_same65 X i _ hx hX] at h
    exact Ev.step (fun g => by rw [play_start.l1, if_neg (by omega)]) h
  | d + 1, j, X, hj, hx, hX, h => by
    have hlt : j < row.length := by omega
    have e1 : rd_T40 row (j : Int) = row[j] := by simp [rd_T40, List.getD_eq_getElem?_getD, hlt]
    have e2 : rd_T65 X (i : Int) = st65 ((row.take j).filter (validB n)) := by rw [← hX]; simp [rd_T65]
    have et : (row.take (j + 1)).filter (validB n) = (row.take j).filter (validB n) ++ (if validB n row[j] = true then [row[j]] else []) := by
      rw [List.take_succ_eq_append_getElem hlt, List.filter_append]
      congr 1
      by_cases c : validB n row[j] = true
      · rw [if_pos c]; simp [c]
      · rw [if_neg c]; simp [c]
    have hfl : ((row.take j).filter (validB n)).length ≤ 1000000000000 := Nat.le_trans (List.length_filter_le _ _) (by rw [List.length_take]; omega)
    have ej : wrap64 ((j : Int) + 1) = ((j + 1 : Nat) : Int) := by rw [wr64 (by omega) (by omega)]; omega
    by_cases c : validB n row[j] = true
    · have ih := start_l1 n S all i hi row hrow r d (j + 1) (X.set i (st65 ((row.take (j + 1)).filter (validB n)))) (by omega) (by rw [List.length_set]; exact hx) (by simp [List.getD_eq_getElem?_getD, hx]) (by rw [List.set_set]; exact h)
      refine Ev.step (fun g => ?_) ih
      rw [play_start.l1, if_pos (by omega), if_pos (by omega), if_pos (by omega), e1]
      unfold cuf_Begin.f
      refine (Option.bind_some ..).trans ?_
      dsimp only
      rw [if_pos (by exact c), if_pos (by omega), if_pos (by omega), e2, if_pos (by show ((row.take j).filter (validB n)).length < _; omega), et, if_pos c, ej]
      rfl
    · have ih := start_l1 n S all i hi row hrow r d (j + 1) X (by omega) hx (by rw [et, if_neg c, List.append_nil]; exact hX) h
      refine Ev.step (fun g => ?_) ih
      rw [play_start.l1, if_pos (by omega), if_pos (by omega), if_pos (by omega), e1]
      unfold cuf_Begin.f
      refine (Option.bind_some ..).trans ?_
      dsimp only
      rw [if_neg (by exact c), ej]
theorem start_l0 (n : Int) (S : List (List S40)) (hS : S.length ≤ 1000000) (hrow : ∀ x ∈ S, x.length ≤ 1000000000000) : ∀ (d i : Nat) (all : Int), i + d = S.length → allW all (S.drop i) = allW 0 S →
    Ev (fun g => play_start.l0 g n S ((S.take i).map (fun l => st65 (l.filter (validB n))) ++ List.replicate (S.length - i) z65) all S (S.length : Int) (i : Int)) (startS n S, okS n S)
  | 0, i, all, hi, ha => by
    have e1 : S.length - i = 0 := by omega
    rw [List.drop_eq_nil_of_le (by omega)] at ha
    have e2 : all = allW 0 S := ha
    rw [e1, List.replicate_zero, List.append_nil, List.take_of_length_le (by omega)]
    refine Ev.step (f := fun _ => some (startS n S, okS n S)) (fun g => ?_) (Ev.now _)
    rw [play_start.l0, if_neg (by omega)]
    unfold okS
    by_cases c1 : n ≤ 4096
    · by_cases c2 : (S.length : Int) ≤ 64
      · rw [if_pos c1, if_pos c2, e2]
        congr 2
        by_cases c3 : allW 0 S ≤ 4096
        · rw [decide_eq_true c3, decide_eq_true ⟨c1, c2, c3⟩]
        · rw [decide_eq_false c3, decide_eq_false (fun h => c3 h.2.2)]
      · rw [if_pos c1, if_neg c2, decide_eq_false (fun h => c2 h.2.1)]; rfl
    · rw [if_neg c1, decide_eq_false (fun h => c1 h.1)]; rfl
  | d + 1, i, all, hi, ha => by
    have hlt : i < S.length := by omega
    have e3 : rd_L2 S (i : Int) = S[i] := by simp [rd_L2, List.getD_eq_getElem?_getD, hlt]
    have hl := hrow _ (List.getElem_mem hlt)
    rw [List.drop_eq_getElem_cons hlt, allW] at ha
    have ei : wrap64 ((i : Int) + 1) = ((i + 1 : Nat) : Int) := by rw [wr64 (by omega) (by omega)]; omega
    have ih := start_l0 n S hS hrow d (i + 1) _ (by omega) ha
    have hlen : ((S.take i).map (fun l => st65 (l.filter (validB n)))).length = i := by rw [List.length_map, List.length_take]; omega
    have h1 := start_l1 n S (wrap64 (all + (S[i].length : Int))) i hlt S[i] hl (startS n S, okS n S) S[i].length 0 ((S.take i).map (fun l => st65 (l.filter (validB n))) ++ List.replicate (S.length - i) z65) (by omega) (by rw [List.length_append, hlen, List.length_replicate]; omega)
      (by rw [List.getD_eq_getElem?_getD, List.getElem?_append_right (by omega), hlen, Nat.sub_self, List.getElem?_replicate, if_pos (by omega)]; rfl)
      (by
        rw [ei]
        have e : ((S.take i).map (fun l => st65 (l.filter (validB n))) ++ List.replicate (S.length - i) z65).set i (st65 (S[i].filter (validB n))) = (S.take (i + 1)).map (fun l => st65 (l.filter (validB n))) ++ List.replicate (S.length - (i + 1)) z65 := by
          rw [List.set_append_right _ _ (by omega), hlen, Nat.sub_self, show S.length - i = (S.length - (i + 1)) + 1 by omega, List.replicate_succ, List.set_cons_zero, List.take_succ_eq_append_getElem hlt, List.map_append, List.append_assoc]
          rfl
        rw [e]
        exact ih)
    refine Ev.step (fun g => ?_) h1
    rw [play_start.l0, if_pos (by omega), if_pos (by omega), if_pos (by omega), e3]
    rfl
theorem start_ev (n : Int) (S : List (List S40)) (hS : S.length ≤ 1000000) (hrow : ∀ x ∈ S, x.length ≤ 1000000000000) : Ev (fun g => play_start.f g n S) (startS n S, okS n S) := by
  refine Ev.congr (fun g => ?_) (start_l0 n S hS hrow S.length 0 0 (by omega) rfl)
  rw [play_start.f, if_pos (by omega), if_pos (by omega)]
  rfl
end Go.Proofs.YtmaiicpaalbcfaaDoor
namespace Go.Proofs.YtmaiicpaalbcfaaDoor
open Go.RowKit Go.Proofs.YtmaiicpaalbcfaaDoorW.PrintWords Go.Proofs.YtmaiicpaalbcfaaDoorW.PrintLast Go.Proofs.YtmaiicpaalbcfaaDoorW.PrintMore Go.Proofs.YtmaiicpaalbcfaaDoor.P
set_option linter.unusedVariables false
set_option linter.unusedSimpArgs false
theorem C_drop1 {W : World} {A : Option Addr} {c : Nat} {o : S40} {l : List S40} (h : Kd.C k40 W A (o :: l).length (o :: l)) (hc : (o :: l).length ≤ c) : Kd.C k40 W (dropA A c) l.length l :=
  Kd.C_drop (m := 1) h (by simp) hc
theorem PSt.gw_base {w0 w1 w : World} {n gw bp ge wc uc ec : Nat} {WA UA EA : Option Addr} {ws : List W5} {R : List (List Value)} {up : List Int} {ev : List S42} {at_ last : Int} {P : List Int} {uv : Value} {E : List Bool}
    (h : PSt w0 w1 w n gw bp ge WA wc ws R up UA uc ev EA ec at_ last P uv E) (hn : 0 < n) : w0.heap.size ≤ gw ∧ ∃ cs, w.heap[gw]? = some (.cells cs 65 (0, 0)) := by
  have hwa := h.wa hn
  have hwk := h.wk
  subst hwa
  have hl : n = R.length := (Kd.R_reads' hwk).1
  obtain ⟨g, cap, e, hb, hlt, hc⟩ := Kd.R_form hwk (by omega)
  simp only [Value.slice.injEq, Option.some.injEq, Addr.mk.injEq] at e
  obtain ⟨⟨rfl, _⟩, _⟩ := e
  exact ⟨hb, hc⟩
theorem PSt.step5 {w0 w1 w : World} {n gw bp ge wc uc ec : Nat} {UA EA : Option Addr} {ws : List W5} {R : List (List Value)} {up : List Int} {ev : List S42} {at_ last : Int} {P : List Int} {uv : Value} {E : List Bool}
    (h : PSt w0 w1 w n gw bp ge (some ⟨gw, 0, none⟩) wc ws R up UA uc ev EA ec at_ last P uv E) (i : Nat) (hi : i < n) {prio : List Int} {PA : Option Addr} {pc : Nat} (hp : Kd.C (Kd.int .i64) w0 PA prio.length prio) (hpc : prio.length ≤ pc) (now : Int) {l : List S40} {t : T} {b : Int}
    (hgo : goesOn prio.length now (ws.getD i z5) = some (l, t, b)) (hst : Steps up prio t) :
    Calls Tryd.prog 25 #[.pointer (some ⟨gw, i * 14, none⟩), .slice UA up.length uc, .slice PA prio.length pc, .int .i64 now] w fun e w' => ∃ (A' : Option Addr) (c' : Nat) (R' : List (List Value)), e = .returned (.slice A' (stepL up prio t).1.length c') ∧ PSt w0 w1 w' n gw bp ge (some ⟨gw, 0, none⟩) wc (ws.set i ⟨l, (stepL up prio t).2, true, b, placeW t (stepL up prio t).2 now (ws.getD i z5).pl⟩) R' (stepL up prio t).1 A' c' ev EA ec at_ last P uv E := by
  obtain ⟨hbg, cs, hcs⟩ := h.gw_base (by omega)
  obtain ⟨A, c, hr, hc, hC⟩ := h.row i hi
  have hu := Kd.R_reads' h.ur
  unfold goesOn at hgo
  by_cases hb : (ws.getD i z5).busy = true
  · rw [if_pos hb] at hgo
    simp only [Option.some.injEq, Prod.mk.injEq] at hgo
    obtain ⟨rfl, rfl, rfl⟩ := hgo
    rw [hb] at hr
    refine (wstep_busy w0 gw i n wc R A _ c _ _ _ up prio UA uc PA pc now w hi hr h.wk hu.2.2 hu.2.1 (Kd.C_below hp h.below) hpc hst h.below).mono ?_
    rintro e w' ⟨A', c', rfl, ho, hw, hk, hbw⟩
    exact ⟨A', c', _, rfl, h.worked i hi ⟨_, (stepL up prio (ws.getD i z5).t).2, true, _, _⟩ hc hC ho hw hk hbw⟩
  · rw [if_neg hb] at hgo
    have hb2 : (ws.getD i z5).busy = false := by simpa using hb
    rw [hb2] at hr
    generalize (ws.getD i z5).l = l0 at *
    cases l0 with
    | nil => cases hgo
    | cons o r =>
      dsimp only at hgo
      have hv : validB prio.length o = true := Decidable.byContradiction fun c => by rw [if_neg c] at hgo; cases hgo
      rw [if_pos hv] at hgo
      simp only [Option.some.injEq, Prod.mk.injEq] at hgo
      obtain ⟨rfl, rfl, rfl⟩ := hgo
      refine (wstep_new w0 gw i n wc R A c o r _ _ _ up prio UA uc PA pc now w hi hr h.wk (hC w h.kp) hc hv (fun W' hk => (Kd.R_reads' (Kd.R_kept (Kd.R_types h.ur hcs (by decide)) hk (fun q hq => hq.2))).2.2) hu.2.1 (Kd.C_kept_came (Kd.heap_int .i64) hp h.below (fun k hk => by omega)) hpc hst h.below).mono ?_
      rintro e w' ⟨A', c', rfl, ho, hw, hk, hbw⟩
      refine ⟨A', c', _, rfl, h.worked i hi ⟨r, (stepL up prio (beginT o.f0 o.f1 o.f2 prio.length)).2, true, now, _⟩ (A := dropA A c) (c := c - 1) ?_ (fun W' hk' => C_drop1 (hC W' hk') hc) ho hw hk hbw⟩
      simp only [List.length_cons] at hc
      show r.length ≤ c - 1
      omega
theorem PSt.cells {w0 w1 w : World} {n gw bp ge wc uc ec : Nat} {UA EA : Option Addr} {ws : List W5} {R : List (List Value)} {up : List Int} {ev : List S42} {at_ last : Int} {P : List Int} {uv : Value} {E : List Bool}
    (h : PSt w0 w1 w n gw bp ge (some ⟨gw, 0, none⟩) wc ws R up UA uc ev EA ec at_ last P uv E) (i : Nat) (hi : i < n) : ∃ A c, R.getD i [] = wrow A (ws.getD i z5).l.length c (ws.getD i z5).t (ws.getD i z5).busy (ws.getD i z5).b (ws.getD i z5).pl ∧ (ws.getD i z5).l.length ≤ c ∧ (∀ W', Kept w1 W' (fun q => q = gw) → Kd.C k40 W' A (ws.getD i z5).l.length (ws.getD i z5).l) ∧ ∀ j u, (wrow A (ws.getD i z5).l.length c (ws.getD i z5).t (ws.getD i z5).busy (ws.getD i z5).b (ws.getD i z5).pl)[j]? = some u → w.cell? ⟨gw, i * 14 + j, none⟩ = some u := by
  obtain ⟨A, c, hr, hc, hC⟩ := h.row i hi
  obtain ⟨_, _, g2, _⟩ := raw_row h.wk i hi
  rw [hr] at g2
  exact ⟨A, c, hr, hc, hC, g2⟩
section
variable {w0 w1 w w2 w3 : World} {n gw bp ge : Nat} {WA : Option Addr} {wc : Nat} {ws ws2 : List W5} {R : List (List Value)} {up up2 : List Int} {UA UA2 : Option Addr} {uc uc2 : Nat} {ev ev2 : List S42} {EA EA2 : Option Addr} {ec ec2 : Nat} {at_ last : Int} {P : List Int} {uv : Value} {E : List Bool}
theorem PSt.worked0 (h : PSt w0 w1 w n gw bp ge WA wc ws R up UA uc ev EA ec at_ last P uv E) (i : Nat) (hi : i < n) (k2 : W5) {A : Option Addr} {c : Nat} (hc : k2.l.length ≤ c) (hC : ∀ W', Kept w1 W' (fun q => q = gw) → Kd.C k40 W' A k2.l.length k2.l)
    (hu : Kd.R (Kd.int .i64) 3 w2 w0.heap.size (fun _ => True) (.slice UA2 up2.length uc2) up2) (hw : (Kd.raw 14).R 65 w2 w0.heap.size (fun _ => True) (.slice WA n wc) (R.set i (wrow A k2.l.length c k2.t k2.busy k2.b k2.pl))) (hk : Kept w w2 (fun q => q = gw)) (hb : Below w0.heap.size w0 w2) :
    PSt w0 w1 w2 n gw bp ge WA wc (ws.set i k2) (R.set i (wrow A k2.l.length c k2.t k2.busy k2.b k2.pl)) up2 UA2 uc2 ev EA ec at_ last P uv E where
  wk := hw
  wa := h.wa
  lenW := by rw [List.length_set]; exact h.lenW
  row j hj := by
    have hl : R.length = n := (Kd.R_reads' h.wk).1.symm
    have hl2 := h.lenW
    by_cases e : j = i
    · subst e
      have e1 : (R.set j (wrow A k2.l.length c k2.t k2.busy k2.b k2.pl)).getD j [] = wrow A k2.l.length c k2.t k2.busy k2.b k2.pl := by simp [List.getD_eq_getElem?_getD, show j < R.length by omega]
      have e2 : (ws.set j k2).getD j z5 = k2 := by simp [List.getD_eq_getElem?_getD, show j < ws.length by omega]
      rw [e1, e2]
      exact ⟨A, c, rfl, hc, hC⟩
    · have e1 : (R.set i (wrow A k2.l.length c k2.t k2.busy k2.b k2.pl)).getD j [] = R.getD j [] := by simp only [List.getD_eq_getElem?_getD, List.getElem?_set, if_neg (Ne.symm e)]
      have e2 : (ws.set i k2).getD j z5 = ws.getD j z5 := by simp only [List.getD_eq_getElem?_getD, List.getElem?_set, if_neg (Ne.symm e)]
      rw [e1, e2]
      exact h.row j hj
  kp := h.kp.then_ hk (fun _ hq => .inl hq)
  below := hb
  ur := hu
  er := by
    obtain ⟨cs, hc⟩ := Kd.R_typed h.wk gw (by rw [h.wa (by omega)]; rfl)
    exact Kd.R_mono (Kd.R_kept (Kd.R_types h.er hc (by decide)) hk (fun _ hq => hq.2)) (fun _ _ => trivial)
  pk := by
    obtain ⟨cs, hc⟩ := Kd.R_typed h.wk gw (by rw [h.wa (by omega)]; rfl)
    exact blk_kept h.pk hk (ne_block h.pk hc (by decide))
  pv := Kd.V_kept h.pv hk (fun _ hq => hq.1.1)
  en := by
    obtain ⟨cs, hc⟩ := Kd.R_typed h.wk gw (by rw [h.wa (by omega)]; rfl)
    exact blk_kept h.en hk (ne_block h.en hc (by decide))
  new := h.new
  old := h.old
end
theorem info42 : (Tryd.prog.info? 42).map (fun i => (i.zero, i.size, i.bytes)) = some (some (.agg #[(.int .i64 0), (.int .i64 0), (.int .i64 0), (.int .i64 0), (.int .i64 0), (.int .i64 0), (.int .i64 0), (.int .i64 0)]), 8, 64) := by kernel_rfl
end Go.Proofs.YtmaiicpaalbcfaaDoor
end
section
namespace Go.Proofs.YtmaiicpaalbcfaaDoor
open Go.RowKit Go.Proofs.YtmaiicpaalbcfaaDoorW.PrintWords Go.Proofs.YtmaiicpaalbcfaaDoorW.PrintLast Go.Proofs.YtmaiicpaalbcfaaDoorW.PrintMore Go.Proofs.YtmaiicpaalbcfaaDoor.P
set_option linter.unusedVariables false
set_option linter.unusedSimpArgs false
def goingTo (L : List (List S40)) : Nat → Int
  | 0 => 0
  | i + 1 => if L.getD i [] = [] then goingTo L i else Go.bits .or .u64 (goingTo L i) (shl .u64 1 (i : Int))
def upS (n : Nat) : List Int := (List.range n).map fun (i : Nat) => (i : Int)
def playF (prio : List Int) (S : List (List S40)) (P : List Int) : Option (List S42 × List Int × Int) :=
  if prio.length ≤ 1000000 ∧ S.length ≤ 1000000 ∧ P.length ≤ 1000000 ∧ (∀ x ∈ S, x.length ≤ 1000000000000) then
    if okS prio.length S = true then playL S.length prio P (100 * ((allW 0 S).toNat + 1) * (prio.length + 1) + 1) ((S.map fun l => l.filter (validB prio.length)).map fun l => ⟨l, t0, false, 0, 0⟩) (upS prio.length) (goingTo (S.map fun l => l.filter (validB prio.length)) S.length) 0 (-1) 0 []
    else some ([], [], 0)
  else none
theorem res_three {fn : Func} {t u v : Tmp} (h : fn.results = #[.tmp t, .tmp u, .tmp v]) (tmps : Array Value) (P : Program) (w : World) :
    (results fn tmps).run P w = .ok (.tuple #[tmps.getD t undef, tmps.getD u undef, tmps.getD v undef]) w := by
  simp [results, h, go_sem]
theorem int_put {w : World} {base n uc : Nat} {UA : Option Addr} {xs : List Int} (h : Kd.R (Kd.int .i64) 3 w base (fun _ => True) (.slice UA n uc) xs) (i : Nat) (hi : i < n) :
    ∃ gu, UA = some ⟨gu, 0, none⟩ ∧ (∃ q, w.cell? ⟨gu, i, none⟩ = some q) ∧ w.frozen? ⟨gu, i, none⟩ = false ∧ base ≤ gu ∧ ∀ x : Int, Kd.R (Kd.int .i64) 3 (w.setCell ⟨gu, i, none⟩ (.int .i64 x)) base (fun _ => True) (.slice UA n uc) (xs.set i x) ∧ w.grownBy (w.setCell ⟨gu, i, none⟩ (.int .i64 x)) (some gu) := by
  have hn : n = xs.length := (Kd.R_reads' h).1
  subst hn
  obtain ⟨gu, cap, e, hb, _, _⟩ := Kd.R_form h (by omega)
  simp only [Value.slice.injEq] at e
  obtain ⟨rfl, _, rfl⟩ := e
  obtain ⟨hc, hf⟩ := Kd.R_cell (0 : Int) h (i : Int) (by omega) (by omega)
  rw [Int.toNat_natCast] at hc hf
  refine ⟨gu, rfl, ⟨_, hc⟩, hf, hb, fun x => ?_⟩
  have hp := Kd.R_put h (i : Int) x
  rw [Int.toNat_natCast] at hp
  exact hp
theorem R_toraw {α : Type} {d : Kd α} {e g n cap base : Nat} {ok : Nat → Prop} {W : World} {xs : List α} (h : d.R e W base ok (.slice (some ⟨g, 0, none⟩) n cap) xs) : ∃ rows : List (List Value), rows.length = xs.length ∧ (Kd.raw d.sz).R e W base (fun _ => True) (.slice (some ⟨g, 0, none⟩) n cap) rows ∧ ∀ i x, xs[i]? = some x → d.M W base (fun k => ok k ∧ k ≠ g) x (rows.getD i []) := by
  obtain ⟨hok, inner, ho, hr⟩ := h
  have hlen : inner.length = xs.length * d.sz := hr.1
  have hgo : some g = (Value.slice (some ⟨g, 0, none⟩) n cap).ownBlock := by simp [Value.ownBlock]
  refine ⟨(List.range xs.length).map fun j => (inner.drop (j * d.sz)).take d.sz, by rw [List.length_map, List.length_range], ⟨fun _ _ => trivial, inner, ?_, ?_, fun j p hj => ?_⟩, fun i x hx => ?_⟩
  · rw [List.length_map, List.length_range]; exact ho
  · rw [List.length_map, List.length_range]; exact hlen
  · rw [List.getElem?_map] at hj
    obtain ⟨j', hj', rfl⟩ := Option.map_eq_some_iff.1 hj
    obtain ⟨hl, he⟩ := List.getElem?_eq_some_iff.1 hj'
    rw [List.getElem_range] at he
    subst he
    rw [List.length_range] at hl
    have hm := d.K_of_M (hr.2 j _ (List.getElem?_eq_getElem hl))
    exact ⟨rfl, d.K_len hm, d.K_one hm⟩
  · have hi := (List.getElem?_eq_some_iff.1 hx).1
    have e1 : (((List.range xs.length).map fun j => (inner.drop (j * d.sz)).take d.sz).getD i []) = (inner.drop (i * d.sz)).take d.sz := by
      rw [List.getD_eq_getElem?_getD, List.getElem?_map, List.getElem?_range hi]; rfl
    rw [e1]
    exact d.M_mono (fun k hk => ⟨hk.1, fun he => hk.2 (by rw [he]; exact hgo)⟩) (hr.2 i x hx)
theorem ws_raw {w0 w : World} {wc : Nat} {WA : Option Addr} {n : Int} {S : List (List S40)} (h : Kd.S k65 65 w w0.heap.size (fun _ => True) (.slice WA S.length wc) (startS n S)) (hs : 0 < S.length) :
    ∃ (gw : Nat) (R : List (List Value)), WA = some ⟨gw, 0, none⟩ ∧ w0.heap.size ≤ gw ∧ gw < w.heap.size ∧ (Kd.raw 14).R 65 w w0.heap.size (fun _ => True) (.slice WA S.length wc) R ∧ ∀ i, i < S.length → ∃ A c, R.getD i [] = wrow A (((S.getD i []).filter (validB n)).length) c t0 false 0 0 ∧ ((S.getD i []).filter (validB n)).length ≤ c ∧ ∀ W', Kept w W' (fun q => q = gw) → Kd.C k40 W' A ((S.getD i []).filter (validB n)).length ((S.getD i []).filter (validB n)) := by
  have hR := Kd.S_R h
  obtain ⟨gw, cap, e, hb, hlt, cells, hc⟩ := Kd.R_form hR (by simp [startS]; omega)
  simp only [Value.slice.injEq] at e
  obtain ⟨rfl, _, rfl⟩ := e
  obtain ⟨rows, hl, hraw, hM⟩ := R_toraw hR
  refine ⟨gw, rows, rfl, hb, hlt, hraw, fun i hi => ?_⟩
  have hx : (startS n S)[i]? = some (st65 ((S.getD i []).filter (validB n))) := by
    rw [startS, List.getElem?_map, List.getD_eq_getElem?_getD, List.getElem?_eq_getElem hi]; rfl
  obtain ⟨v0, e2, hr⟩ := k65_openM (hM i _ hx)
  obtain ⟨A, c, rfl⟩ := Kd.R_slice hr
  refine ⟨A, c, e2, (Kd.R_reads' hr).2.1, fun W' hk => ?_⟩
  exact (Kd.R_reads' (Kd.R_kept hr hk (fun q hq => hq.2))).2.2
theorem info4b : (Tryd.prog.info? 4).map (fun i => (i.zero, i.size, i.bytes)) = some (some (.bool false), 1, 1) := by kernel_rfl
theorem made1 (n : Nat) : madeCells (Value.bool false).cells (n * 1) = (List.replicate n (Value.bool false)).toArray := by
  apply Array.ext'
  rw [Nat.mul_one]
  exact toList_madeCells_one _ n
theorem make_bools (W : World) (n : Nat) (hn : n ≤ 64) : (Instr.makeSlice 60 (.int .i64 (n : Int)) (.int .i64 (n : Int))).run Tryd.prog W = .ok (.slice (some ⟨W.heap.size, 0, none⟩) n n) (W.alloc (.cells (List.replicate n (Value.bool false)).toArray 4 (0, 0))) := by
  obtain ⟨i, hi, h⟩ := Option.map_eq_some_iff.1 info4b
  simp only [Prod.mk.injEq] at h
  obtain ⟨h1, h2, h3⟩ := h
  have := run_makeSlice (P := Tryd.prog) W 60 4 i _ Tryd.underlying60 hi h1 .i64 .i64 (n : Int) (n : Int) (by omega) (by omega) (by rw [h2, Int.toNat_natCast]; omega) (by rw [h3]; omega) (by omega)
  rw [h2, Int.toNat_natCast, made1] at this
  exact this
def upTo (n i : Nat) : List Int := (List.range n).map fun (j : Nat) => if j < i then (j : Int) else 0
theorem upTo_zero (n : Nat) : upTo n 0 = List.replicate n 0 := by simp [upTo, List.map_const']
theorem upTo_all (n : Nat) : upTo n n = upS n := by
  unfold upTo upS
  apply List.map_congr_left
  intro j hj
  rw [if_pos (List.mem_range.1 hj)]
theorem upTo_set (n i : Nat) : (upTo n i).set i (i : Int) = upTo n (i + 1) := by
  apply List.ext_getElem
  · simp [upTo]
  · intro j h1 h2
    have hj : j < n := by simpa [upTo] using h2
    by_cases c : i = j
    · subst c
      simp [upTo]
    · rw [List.getElem_set_ne c]
      simp only [upTo, List.getElem_map, List.getElem_range]
      by_cases c2 : j < i
      · rw [if_pos c2, if_pos (by omega)]
      · rw [if_neg c2, if_neg (by omega)]
set_option maxRecDepth 100000 in
set_option maxHeartbeats 2000000 in
theorem play_play (A0 : Option Addr) (c0 : Nat) (prio : List Int) (A1 : Option Addr) (c1 : Nat) (S : List (List S40)) (A2 : Option Addr) (c2 : Nat) (P : List Int) (r1 : List S42) (r2 : List Int) (r3 : Int) (w : World) (hT_ : Tab w) (hr0 : Kd.C (Kd.int .i64) w A0 prio.length prio) (hc0 : prio.length ≤ c0) (hr1 : Kd.C (Kd.slice 40 k40) w A1 S.length S) (hc1 : S.length ≤ c1) (hr2 : Kd.C (Kd.int .i64) w A2 P.length P) (hc2 : P.length ≤ c2) (hf : playF prio S P = some (r1, r2, r3)) :
    Calls Tryd.prog 11 #[.slice A0 prio.length c0, .slice A1 S.length c1, .slice A2 P.length c2] w fun e w' => ∃ v0_ v1_ : Value, e = .returned (.tuple #[v0_, v1_, .int .i64 r3]) ∧ Kd.R k42 42 w' w.heap.size (fun _ => True) v0_ r1 ∧ Kd.R (Kd.int .i64) 3 w' w.heap.size (fun _ => True) v1_ r2 ∧ Below w.heap.size w w' := by
  unfold playF at hf
  have hlim : prio.length ≤ 1000000 ∧ S.length ≤ 1000000 ∧ P.length ≤ 1000000 ∧ (∀ x ∈ S, x.length ≤ 1000000000000) := Decidable.byContradiction fun c => by rw [if_neg c] at hf; cases hf
  rw [if_pos hlim] at hf
  obtain ⟨hn1, hs1, hp1, hx1⟩ := hlim
  obtain ⟨g, hg⟩ := (start_ev prio.length S hs1 hx1).rounds
  have hu65 := Tryd.underlying65
  have hu58 := Tryd.underlying58
  have HST := Aside0.mk (fun (w5 : World) (hb : Below w.heap.size w w5) => play_start.calls g prio.length A1 c1 S (startS prio.length S) (okS prio.length S) w5 (Kd.C_below hr1 hb) hc1 hg)
  have HR0 := Aside0.mk hr0
  have HC0 := Aside0.mk hc0
  have HR2 := Aside0.mk hr2
  have HC2 := Aside0.mk hc2
  have HTAB := Aside0.mk hT_
  have HF := Aside0.mk hf
  have HN1 := Aside0.mk hn1
  have HS1 := Aside0.mk hs1
  have HP1 := Aside0.mk hp1
  have HLS := Aside0.mk (show (startS prio.length S).length = S.length by simp [startS])
  clear hT_ hr0 hc0 hr1 hc1 hr2 hc2 hf hn1 hs1 hp1 hx1 hg
  go_enter Tryd.func11, Tryd.ntmps11
  go_upto_region 2 with (first | (go_at_call 22; refine (HST.out _ (by first | exact Below.refl _ _ | exact below_drew1 (Below.refl _ _) | exact below_drewN (Below.refl _ _) _)).mono ?_; rintro e w1 ⟨v0, rfl, ho, hb⟩; have hb : Below w.heap.size w w1 := (by first | exact hb | exact Below.trans (below_drew1 (Below.refl _ _)) hb); obtain ⟨WA, wc, e1⟩ := Kd.S_slice ho; rw [HLS.out] at e1; subst e1; have HW := Aside0.mk ho; have HB1 := Aside0.mk hb; clear ho hb))
  cases hok : okS prio.length S with
  | false =>
    have H := HF.out
    rw [hok, if_neg (by decide)] at H
    simp only [Option.some.injEq, Prod.mk.injEq] at H
    obtain ⟨rfl, rfl, rfl⟩ := H
    clear HF hok
    go_wp2
    (try simp only [Exit.inBlock, Exit.then])
    refine bodyPost_ret (res_three rfl _ _ _) rfl ?_
    exact ⟨_, _, rfl, Kd.R_nil _ _ _ _ _, Kd.R_nil _ _ _ _ _, HB1.out⟩
  | true =>
    have H := HF.out
    rw [hok, if_pos rfl] at H
    have HF1 := Aside0.mk H
    have HOK := Aside0.mk hok
    clear HF H hok
    go_wp2_with (first | ((with_reducible refine gate_dst (N := 32) rfl ?_); refine Kd.R_make (Kd.int .i64) (w0 := w) w.heap.size 3 rfl (N := 32) rfl 22 _ _ rfl (prio.length : Int) rfl rfl Tryd.underlying22 (.int .i64 0) 8 info3 rfl (by decide) (by omega) 0 (ok := fun _ => True) (okp := fun _ => True) rfl (fun _ hk => hk) trivial (by omega) (by have := HN1.out; omega) HB1.out (below_size HB1.out) ?_; intro v2 w2 ho hb hg hnew; rw [Int.toNat_natCast] at ho; obtain ⟨UA, uc, e2⟩ := Kd.R_slice ho; rw [List.length_replicate] at e2; subst e2; rw [← upTo_zero] at ho; have HU := Aside0.mk ho; have HB2 := Aside0.mk hb; have HW2 := Aside0.mk (Kd.S_grown HW.out hg (fun _ _ => by simp)); clear ho hb hg hnew))
    go_loopg [35] prio.length (fun k v35 w' => ∃ i : Nat, i + k = prio.length ∧ v35 = .int .i64 i ∧ Aside0 (Kd.R (Kd.int .i64) 3 w' w.heap.size (fun _ => True) (.slice UA prio.length uc) (upTo prio.length i)) ∧ Aside0 (Kd.S k65 65 w' w.heap.size (fun _ => True) (.slice WA S.length wc) (startS prio.length S)) ∧ Aside0 (Below w.heap.size w w'))
    case atStart => exact ⟨0, by omega, rfl, HU, HW2, HB2⟩
    case round =>
      obtain ⟨i, hik, rfl, HU3, HW3, HB3⟩ := hrel
      clear HU HW2 HB2
      have HIK := Aside0.mk hik
      by_cases hi : i < prio.length
      · have v1 : (i : Int) < (prio.length : Int) := by omega
        have v0 : (0 : Int) ≤ (i : Int) := by omega
        have HI := Aside0.mk hi
        obtain ⟨gu, hUA, ⟨q, hq⟩, hf, hgu, hput⟩ := int_put HU3.out i hi
        subst hUA
        have HPU := Aside0.mk (hput (i : Int))
        have HGU := Aside0.mk hgu
        have HSX := Aside0.mk (Kd.S_over' HW3.out (Kd.R_typed HU3.out) (by decide) HPU.out.2)
        clear hput hgu hik hi
        go_wp2
        go_roundg (prio.length - (i + 1))
        case measure => have := HIK.out; have := HI.out; omega
        case rel => exact ⟨i + 1, by have := HIK.out; have := HI.out; omega, by have := HN1.out; have := HI.out; first | rfl | (congr 1; done) | (congr 1; unfold wrap64; omega), ⟨by rw [← upTo_set]; exact HPU.out.1⟩, HSX, ⟨below_set HB3.out HGU.out⟩⟩
      · have v1 : ¬ (i : Int) < (prio.length : Int) := by omega
        have hie : i = prio.length := by omega
        subst hie
        have HIU := Aside0.mk (show Kd.R (Kd.int .i64) 3 wr w.heap.size (fun _ => True) (.slice UA prio.length uc) (upS prio.length) by rw [← upTo_all]; exact HU3.out)
        have HPS := Aside0.mk (show pick_Start.f P = some (P, 0, -1) by
          unfold pick_Start.f
          rw [if_pos (by have := HP1.out; simp; omega)]
          rfl)
        clear hi hik HU3 HIK
        by_cases hs : 0 < S.length
        · obtain ⟨gw, R, hWA, hg1, hg2, hraw, hrw⟩ := ws_raw (w0 := w) HW3.out hs
          subst hWA
          have HRAW := Aside0.mk hraw
          have HGW := Aside0.mk hg2
          have HROW := Aside0.mk hrw
          have HSP := Aside0.mk hs
          clear hraw hg1 hg2 hrw hs
          go_upto_region 11 with (first | (go_at_call 23; refine (pick_Start.calls A2 c2 P P 0 (-1) wr (Kd.C_below HR2.out HB3.out) HC2.out HPS.out).mono ?_; rintro e w4 ⟨v0, rfl, ho, hb⟩; obtain ⟨Av, cv, e3⟩ := Kd.R_slice ho; subst e3; have HPV := Aside0.mk ho; have HB4 := Aside0.mk hb; clear ho hb) | ((with_reducible refine gate_dst (N := 12) rfl ?_); (try (refine gate_guard (by rfl) ?_; dsimp only)); refine box_event ?hg (N := 12) ?hd (cs := #[.slice none 0 0, .int .i64 0, .int .i64 0]) (t := 58) ?hr ?_; (case hd => rfl); (case hg => rfl); (case hr => first | (go_simp; done) | (go_simp; rfl)); intro bp hbp w5 hbox hb5; have z0 : w5.cell? ⟨bp, 0, none⟩ = some (.slice none 0 0) := (blk_cell hbox 0).trans rfl; have z1 : w5.cell? ⟨bp, 1, none⟩ = some (.int .i64 0) := (blk_cell hbox 1).trans rfl; have z2 : w5.cell? ⟨bp, 2, none⟩ = some (.int .i64 0) := (blk_cell hbox 2).trans rfl; have y0 := blk_frozen hbox 0; have y1 := blk_frozen hbox 1; have y2 := blk_frozen hbox 2; have HBPE := Aside0.mk hbp; have HBX := Aside0.mk hbox; have HB5 := Aside0.mk hb5; clear hbp hbox hb5))
          obtain ⟨ws0, hws0⟩ : ∃ ws0, ((S.map fun l => l.filter (validB prio.length)).map fun l => (⟨l, t0, false, 0, 0⟩ : W5)) = ws0 := ⟨_, rfl⟩
          have HWS := Aside0.mk hws0
          have hew : ∀ i, i < S.length → ws0.getD i z5 = ⟨(S.getD i []).filter (validB prio.length), t0, false, 0, 0⟩ := fun i hi => by
            rw [← hws0]
            simp [List.getD_eq_getElem?_getD, hi]
          have hul : (upS prio.length).length = prio.length := by simp [upS]
          have hst := PSt.start (n := S.length) (ws := ws0) (up := upS prio.length) (UA := UA) (uc := uc) HRAW.out rfl HGW.out (by rw [← hws0]; simp) (fun i hi => by
            obtain ⟨A, c, b1, b2, b3⟩ := HROW.out i hi
            rw [hew i hi]
            exact ⟨A, c, b1, b2, b3⟩) (by rw [hul]; exact HIU.out) HB3.out HB4.out HPV.out HB5.out HBPE.out HBX.out
          rw [show (((w5.setCell ⟨bp, 0, none⟩ (.slice Av P.length cv)).setCell ⟨bp, 1, none⟩ (.int .i64 0)).setCell ⟨bp, 2, none⟩ (.int .i64 (-1))).heap.size = w5.heap.size by simp [World.setCell]] at hst
          have HS0 := Aside0.mk hst
          clear hst hws0 hew hul z0 z1 z2 y0 y1 y2
          have h64 : S.length ≤ 64 := by
            have h := HOK.out
            unfold okS at h
            have := of_decide_eq_true h
            omega
          have hmk := make_bools (((w5.setCell ⟨bp, 0, none⟩ (.slice Av P.length cv)).setCell ⟨bp, 1, none⟩ (.int .i64 0)).setCell ⟨bp, 2, none⟩ (.int .i64 (-1))) S.length h64
          go_upto_region 12 with (fail)
          clear hmk HB4 HB5 HPV HBX HBPE HRAW HROW HW3 HB3 HIU
          obtain ⟨wq, hwq⟩ : ∃ x, x = wr := ⟨_, rfl⟩
          subst hwq
          simp only [Array.replicate] at *
          generalize (((w5.setCell ⟨bp, 0, none⟩ (.slice Av P.length cv)).setCell ⟨bp, 1, none⟩ (.int .i64 0)).setCell ⟨bp, 2, none⟩ (.int .i64 (-1))).alloc (.cells (List.replicate S.length (Value.bool false)).toArray 4 (0, 0)) = W7 at *
          generalize w5.heap.size = ge at *
          have HEL := Aside0.mk (show ∀ i, i < S.length → (S.map fun l => l.filter (validB prio.length)).getD i [] = (ws0.getD i z5).l from fun i hi => by
            rw [← HWS.out]
            simp [List.getD_eq_getElem?_getD, hi])
          generalize (S.map fun l => l.filter (validB prio.length)) = L at *
          go_wp2
          go_loopg [50, 14] S.length (fun k v50 v14 w' => ∃ i : Nat, i + k = S.length ∧ v50 = .int .i64 i ∧ v14 = .int .u64 (goingTo L i) ∧ Aside0 (PSt w wq w' S.length gw bp ge (some ⟨gw, 0, none⟩) wc ws0 R (upS prio.length) UA uc [] none 0 0 (-1) P (.slice Av P.length cv) (List.replicate S.length false)))
          case atStart => exact ⟨0, by omega, rfl, rfl, HS0⟩
          case round =>
            obtain ⟨i, hik, rfl, rfl, HS⟩ := hrel
            clear HS0
            have HIK := Aside0.mk hik
            by_cases hi : i < S.length
            · have v1 : (i : Int) < (S.length : Int) := by omega
              have v0 : (0 : Int) ≤ (i : Int) := by omega
              have HI := Aside0.mk hi
              obtain ⟨A, c, b1, b2, b3⟩ := HS.out.row i hi
              obtain ⟨_, _, g2, _⟩ := raw_row HS.out.wk i hi
              rw [b1] at g2
              have cl : wr.cell? ⟨gw, i * 14, none⟩ = some (.slice A (ws0.getD i z5).l.length c) := g2 0 _ rfl
              have HLI := Aside0.mk (HEL.out i hi)
              generalize (ws0.getD i z5).l = li at *
              clear b1 b2 b3 g2 hi hik
              by_cases hl : li = []
              · have HG := Aside0.mk (show goingTo L (i + 1) = goingTo L i by rw [goingTo, HLI.out, if_pos hl])
                subst hl
                replace cl : wr.cell? ⟨gw, i * 14, none⟩ = some (.slice A 0 c) := cl
                go_wp2
                go_roundg (S.length - (i + 1))
                case measure => have := HIK.out; have := HI.out; omega
                case rel => exact ⟨i + 1, by have := HIK.out; have := HI.out; omega, by have := HI.out; first | rfl | (congr 1; done) | (congr 1; unfold wrap64; omega), by rw [HG.out], HS⟩
              · have HG := Aside0.mk (show goingTo L (i + 1) = Go.bits .or .u64 (goingTo L i) (shl .u64 1 (i : Int)) by rw [goingTo, HLI.out, if_neg hl])
                have hpos : 0 < li.length := by cases li with | nil => exact absurd rfl hl | cons a b => simp
                have t1 : decide (0 < li.length) = true := decide_eq_true hpos
                have t2 : decide ((0 : Int) < (li.length : Int)) = true := decide_eq_true (by omega)
                clear hl
                generalize li.length = nl at *
                go_wp2
                go_roundg (S.length - (i + 1))
                case measure => have := HIK.out; have := HI.out; omega
                case rel => exact ⟨i + 1, by have := HIK.out; have := HI.out; omega, by have := HI.out; first | rfl | (congr 1; done) | (congr 1; unfold wrap64; omega), by rw [HG.out]; have hm : min i IntKind.u64.bits = i := (by have := HI.out; show min i 64 = i; omega); simp [shl, hm], HS⟩
            · have v1 : ¬ (i : Int) < (S.length : Int) := by omega
              have hie : i = S.length := by omega
              subst hie
              clear hi hik HIK HEL
              have HGO := Aside0.mk (show goingTo L S.length = goingTo L S.length from rfl)
              generalize hgas : 100 * ((allW 0 S).toNat + 1) * (prio.length + 1) + 1 = gas at *
              rw [HWS.out] at HF1
              generalize goingTo L S.length = going0 at *
              go_wp2
              go_loopg [6, 7, 8, 14] gas (fun k v6 v7 v8 v14 w' => ∃ (ws : List W5) (R : List (List Value)) (up : List Int) (UA : Option Addr) (uc : Nat) (ev : List S42) (EA : Option Addr) (ec : Nat) (going at_ last steps : Int) (uv : Value) (E : List Bool), v6 = .slice EA ev.length ec ∧ v7 = .slice UA up.length uc ∧ v8 = .int .i64 steps ∧ v14 = .int .u64 going ∧ Aside0 (playL S.length prio P k ws up going at_ last steps ev = some (r1, r2, r3)) ∧ Aside0 (E.length = S.length) ∧ Aside0 (PSt w wq w' S.length gw bp ge (some ⟨gw, 0, none⟩) wc ws R up UA uc ev EA ec at_ last P uv E))
              case atStart =>
                have hul : (upS prio.length).length = prio.length := by simp [upS]
                exact ⟨ws0, R, upS prio.length, UA, uc, [], none, 0, going0, 0, -1, 0, _, _, rfl, by rw [hul], rfl, rfl, HF1, ⟨by simp⟩, HS⟩
              case round =>
                obtain ⟨ws, R, up, UA, uc, ev, EA, ec, going, at_, last, steps, uv, E, rfl, rfl, rfl, rfl, HF2, HE2, HS1⟩ := hrel
                clear HF1 HS
                cases gk with
                | zero => exact absurd HF2.out (by simp [playL])
                | succ k1 =>
                  by_cases hg0 : going = 0
                  · have H := HF2.out
                    rw [playL, if_pos hg0] at H
                    simp only [Option.some.injEq, Prod.mk.injEq] at H
                    obtain ⟨rfl, rfl, rfl⟩ := H
                    subst hg0
                    clear HF2
                    go_wp2
                    (try simp only [Exit.inBlock, Exit.then])
                    refine bodyPost_ret (res_three rfl _ _ _) rfl ?_
                    exact ⟨_, _, rfl, HS1.out.er, HS1.out.ur, HS1.out.below⟩
                  · have t0 : (going != 0) = true := by simpa using hg0
                    have HG0 := Aside0.mk hg0
                    clear hg0
                    go_wp2
                    go_loopg [69, 16] S.length (fun k v69 v16 w' => ∃ (i : Nat) (E1 : List Bool), i + k = S.length ∧ v69 = .int .i64 i ∧ Aside0 (E1.length = S.length ∧ ∀ j, j < i → E1.getD j false = bitOn going j) ∧ Aside0 (PSt w wq w' S.length gw bp ge (some ⟨gw, 0, none⟩) wc ws R up UA uc ev EA ec at_ last P uv E1))
                    case atStart => exact ⟨0, E, by omega, rfl, ⟨HE2.out, fun j h => by omega⟩, HS1⟩
                    case round =>
                      obtain ⟨i, E1, hik, rfl, HL1, HS2⟩ := hrel
                      clear HS1
                      have HIK := Aside0.mk hik
                      by_cases hi : i < S.length
                      · have v1 : (i : Int) < (S.length : Int) := by omega
                        have v0 : (0 : Int) ≤ (i : Int) := by omega
                        have HI := Aside0.mk hi
                        have hce : wr.cell? ⟨ge, i, none⟩ = some (.bool (E1.getD i false)) := by
                          refine (blk_cell HS2.out.en i).trans ?_
                          have := HL1.out.1
                          simp [List.getD_eq_getElem?_getD, show i < E1.length by omega]
                        have hfe : wr.frozen? ⟨ge, i, none⟩ = false := blk_frozen HS2.out.en i
                        have HBT := Aside0.mk (show bitOn going i = decide (0 < Go.bits .and .u64 (going / 2 ^ i) 1) by
                          unfold bitOn shr
                          rw [show min ((i : Int)).toNat IntKind.u64.bits = i by show min ((i : Int)).toNat 64 = i; omega])
                        clear hik hi
                        go_wp2
                        go_roundg (S.length - (i + 1))
                        case measure => have := HIK.out; have := HI.out; omega
                        case rel =>
                          refine ⟨i + 1, E1.set i (bitOn going i), by have := HIK.out; have := HI.out; omega, by have := HI.out; first | rfl | (congr 1; done) | (congr 1; unfold wrap64; omega), ⟨by rw [List.length_set]; exact HL1.out.1, fun j hj => ?_⟩, ⟨by rw [← HBT.out]; exact HS2.out.flagged i (bitOn going i)⟩⟩
                          rw [set_getDb E1 i j _ (by have := HL1.out.1; have := HI.out; omega)]
                          by_cases c : j = i
                          · subst c; rw [if_pos rfl]
                          · rw [if_neg c]; exact HL1.out.2 j (by omega)
                      · have v1 : ¬ (i : Int) < (S.length : Int) := by omega
                        have hE : E1 = enG S.length going := enG_of _ _ _ HL1.out.1 (fun j hj => HL1.out.2 j (by omega))
                        subst hE
                        clear hik hi HL1 HIK HE2
                        have hps := HP1.out
                        obtain ⟨Au, cu, rfl⟩ := Kd.V_slice HS2.out.pv
                        have hx := HS2.out.pk
                        have z0 : wr.cell? ⟨bp, 0, none⟩ = some (.slice Au P.length cu) := (blk_cell hx 0).trans rfl
                        have z1 : wr.cell? ⟨bp, 1, none⟩ = some (.int .i64 at_) := (blk_cell hx 1).trans rfl
                        have z2 : wr.cell? ⟨bp, 2, none⟩ = some (.int .i64 last) := (blk_cell hx 2).trans rfl
                        clear hx
                        obtain ⟨who, hwho⟩ : ∃ z, whoS P at_ last (Bits.idx (enG S.length going)) = z := ⟨_, rfl⟩
                        obtain ⟨at2, hat2⟩ : ∃ z, atS P at_ (Bits.idx (enG S.length going)) = z := ⟨_, rfl⟩
                        obtain ⟨last2, hlast2⟩ : ∃ z, lastS P at_ last (Bits.idx (enG S.length going)) = z := ⟨_, rfl⟩
                        have HNX := Aside0.mk (next_call (enG S.length going) S.length (enG_length _ _) h64 _ Au cu P at_ last hps ge wr (Kd.V_map HS2.out.pv (fun _ hf => hf)) HS2.out.en (Tab.below HTAB.out HS2.out.below) who at2 last2 hwho hat2 hlast2)
                        have HWH := Aside0.mk hwho
                        have HAT := Aside0.mk hat2
                        have HLA := Aside0.mk hlast2
                        clear hwho hat2 hlast2 hps
                        go_upto_region 26 with (first | (go_at_call 24; refine HNX.out.mono ?_; rintro e w15 ⟨A', c', rfl, ho, hb⟩; have HV2 := Aside0.mk ho; have HB2 := Aside0.mk hb; clear ho hb) | ((with_reducible refine gate_dst (N := 18) rfl ?_); (try (refine gate_guard (by rfl) ?_; dsimp only)); refine box_event ?hg (N := 18) ?hd (cs := #[.slice none 0 0, .int .i64 0, .int .i64 0]) (t := 58) ?hr ?_; (case hd => rfl); (case hg => rfl); (case hr => first | (go_simp; done) | (go_simp; rfl)); intro gx hgx w17 hbox hb17; have z0 : w17.cell? ⟨gx, 0, none⟩ = some (.slice none 0 0) := (blk_cell hbox 0).trans rfl; have z1 : w17.cell? ⟨gx, 1, none⟩ = some (.int .i64 0) := (blk_cell hbox 1).trans rfl; have z2 : w17.cell? ⟨gx, 2, none⟩ = some (.int .i64 0) := (blk_cell hbox 2).trans rfl; have y0 := blk_frozen hbox 0; have y1 := blk_frozen hbox 1; have y2 := blk_frozen hbox 2; have HGX := Aside0.mk hgx; have HBX := Aside0.mk hbox; have HB17 := Aside0.mk hb17; clear hgx hbox hb17))
                        have hgx := HGX.out
                        have l15 : wr.heap.size ≤ w15.heap.size := below_size HB2.out
                        have e5 : wr.heap.size ≤ gx := by omega
                        clear hgx l15
                        have hb18 := below_set (j := 2) (v := .int .i64 last2) (below_set (j := 1) (v := .int .i64 at2) (below_set (j := 0) (v := .slice A' P.length c') (below_step HB2.out HB17.out) e5) e5) e5
                        have HX3 := Aside0.mk (blk_put (blk_put (blk_put HBX.out 0 (.slice A' P.length c') rfl) 1 (.int .i64 at2) rfl) 2 (.int .i64 last2) rfl)
                        have HV3 := Aside0.mk (Kd.V_mono (Kd.V_far (p := ⟨gx, 2, none⟩) (Kd.V_far (p := ⟨gx, 1, none⟩) (Kd.V_far (p := ⟨gx, 0, none⟩) (Kd.V_below (Kd.V_bound HV2.out) HB17.out) (fun q hq e => by have h1 := hq.2; have h2 := HGX.out; have h3 : q = gx := e; omega) (.slice A' P.length c')) (fun q hq e => by have h1 := hq.2; have h2 := HGX.out; have h3 : q = gx := e; omega) (.int .i64 at2)) (fun q hq e => by have h1 := hq.2; have h2 := HGX.out; have h3 : q = gx := e; omega) (.int .i64 last2)) (fun q hq => hq.1))
                        have HB18 := Aside0.mk hb18
                        clear hb18 HB2 HB17 HBX HV2 HGX z0 z1 z2 y0 y1 y2
                        generalize ((w17.setCell ⟨gx, 0, none⟩ (.slice A' P.length c')).setCell ⟨gx, 1, none⟩ (.int .i64 at2)).setCell ⟨gx, 2, none⟩ (.int .i64 last2) = w18 at *
                        have H := HF2.out
                        rw [playL, if_neg HG0.out] at H
                        rw [HWH.out, HAT.out, HLA.out] at H
                        have hq : 0 ≤ who ∧ who < (S.length : Int) ∧ 0 ≤ steps ∧ steps < 1000000000 ∧ ev.length < 1000000 := Decidable.byContradiction fun c => by rw [if_neg c] at H; cases H
                        rw [if_pos hq] at H
                        obtain ⟨hq1, hq2, hq3, hq4, hq5⟩ := hq
                        obtain ⟨i2, rfl⟩ := Int.eq_ofNat_of_zero_le hq1
                        have hi2 : i2 < S.length := by omega
                        rw [Int.toNat_natCast] at H
                        have HS3 := Aside0.mk (PSt.picked (HS2.out) HB18.out (.slice A' P.length c') at2 last2 (Kd.V_map HV3.out (fun _ hf => hf)))
                        have hx3 := HX3.out
                        have x0 : w18.cell? ⟨gx, 0, none⟩ = some (.slice A' P.length c') := (blk_cell hx3 0).trans rfl
                        have x1 : w18.cell? ⟨gx, 1, none⟩ = some (.int .i64 at2) := (blk_cell hx3 1).trans rfl
                        have x2 : w18.cell? ⟨gx, 2, none⟩ = some (.int .i64 last2) := (blk_cell hx3 2).trans rfl
                        have hpk := blk_below HS2.out.pk HB18.out
                        have z0 : w18.cell? ⟨bp, 0, none⟩ = some (.slice Au P.length cu) := (blk_cell hpk 0).trans rfl
                        have z1 : w18.cell? ⟨bp, 1, none⟩ = some (.int .i64 at_) := (blk_cell hpk 1).trans rfl
                        have z2 : w18.cell? ⟨bp, 2, none⟩ = some (.int .i64 last) := (blk_cell hpk 2).trans rfl
                        have y0 := blk_frozen hpk 0
                        have y1 := blk_frozen hpk 1
                        have y2 := blk_frozen hpk 2
                        have p2 : (0 : Int) ≤ (i2 : Int) := by omega
                        have p3 : (i2 : Int) < (S.length : Int) := by omega
                        have HF4 := Aside0.mk H
                        have HI2 := Aside0.mk hi2
                        have HST4 := Aside0.mk (And.intro hq3 hq4)
                        have HEV4 := Aside0.mk hq5
                        clear hx3 hpk HS2 HF2 HV3 HX3 H hq1 hq2 hq3 hq4 hq5 hi2 HWH HAT HLA HNX HG0 t0
                        go_upto_region 27 with (fail)
                        clear HB18 x0 x1 x2 z0 z1 z2 y0 y1 y2
                        generalize ((w18.setCell ⟨bp, 0, none⟩ (.slice A' P.length c')).setCell ⟨bp, 1, none⟩ (.int .i64 at2)).setCell ⟨bp, 2, none⟩ (.int .i64 last2) = w20 at *
                        have hst : wrap64 (steps + 1) = steps + 1 := by have := HST4.out; exact wr64 (by omega) (by omega)
                        have H := HF4.out
                        cases hgo : goesOn prio.length (steps + 1) (ws.getD i2 z5) with
                        | none => rw [hgo] at H; cases H
                        | some x =>
                          obtain ⟨l, t, b⟩ := x
                          rw [hgo] at H
                          dsimp only at H
                          have hst5 : Steps up prio t := Decidable.byContradiction fun c => by rw [if_neg c] at H; cases H
                          rw [if_pos hst5] at H
                          obtain ⟨A, c, b1, b2, b3, b4⟩ := HS3.out.cells i2 HI2.out
                          have cfd : w20.cell? ⟨gw, i2 * 14 + 13, none⟩ = some (.int .i64 (ws.getD i2 z5).pl) := b4 13 _ rfl
                          have HCL := Aside0.mk (HS3.out.step5 i2 HI2.out HR0.out HC0.out (steps + 1) hgo hst5)
                          clear hgo hst5 b1 b2 b3 b4
                          generalize (ws.getD i2 z5).pl = found at *
                          obtain ⟨up2, hup2⟩ : ∃ x, (stepL up prio t).1 = x := ⟨_, rfl⟩
                          obtain ⟨t2, ht2⟩ : ∃ x, (stepL up prio t).2 = x := ⟨_, rfl⟩
                          rw [hup2, ht2] at H
                          rw [hup2, ht2] at HCL
                          generalize placeW t t2 (steps + 1) found = pl2 at *
                          have HF5 := Aside0.mk H
                          have HLW := Aside0.mk HS3.out.lenW
                          clear H HF4 hup2 ht2
                          go_upto_region 31 with (first | (go_at_call 25; (try rw [hst]); refine HCL.out.mono ?_; rintro e w21 ⟨A9, c9, R9, rfl, hs⟩; have HS4 := Aside0.mk hs; clear hs))
                          have HLI := Aside0.mk (show i2 < ws.length by rw [HLW.out]; exact HI2.out)
                          obtain ⟨A7, c7, b1, b2, b3, b4⟩ := HS4.out.cells i2 HI2.out
                          rw [show (ws.set i2 ⟨l, t2, true, b, pl2⟩).getD i2 z5 = ⟨l, t2, true, b, pl2⟩ by have := HLI.out; simp [List.getD_eq_getElem?_getD, this]] at b1 b2 b3 b4
                          dsimp only at b1 b2 b3 b4
                          have c9 : w21.cell? ⟨gw, i2 * 14 + 9, none⟩ = some (.bool t2.is) := b4 9 _ rfl
                          have HWC := Aside0.mk b2
                          have HWR := Aside0.mk b3
                          have HWO := Aside0.mk b1
                          have HWV := Aside0.mk b4
                          clear b1 b2 b3 b4 cfd HCL
                          cases his : t2.is with
                          | false =>
                            rw [his] at c9
                            have H := HF5.out
                            rw [his, if_neg (by decide)] at H
                            have HFN := Aside0.mk H
                            clear H HF5 his
                            go_wp2
                            go_roundg k1
                            case measure => omega
                            case rel => exact ⟨_, _, _, _, _, _, _, _, _, _, _, _, _, _, rfl, rfl, rfl, rfl, HFN, ⟨enG_length _ _⟩, HS4⟩
                          | true =>
                            rw [his] at c9
                            have H := HF5.out
                            rw [his, if_pos rfl] at H
                            have c1 : w21.cell? ⟨gw, i2 * 14 + 1, none⟩ = some (.int .i64 t2.k) := HWV.out 1 _ rfl
                            have c2 : w21.cell? ⟨gw, i2 * 14 + 2, none⟩ = some (.int .i64 t2.x) := HWV.out 2 _ rfl
                            have c3 : w21.cell? ⟨gw, i2 * 14 + 3, none⟩ = some (.int .i64 t2.y) := HWV.out 3 _ rfl
                            have c10 : w21.cell? ⟨gw, i2 * 14 + 10, none⟩ = some (.int .i64 t2.res) := HWV.out 10 _ rfl
                            have c12 : w21.cell? ⟨gw, i2 * 14 + 12, none⟩ = some (.int .i64 b) := HWV.out 12 _ rfl
                            have hec := event_any gw i2 t2 b (steps + 1) found i2 w21 c1 c2 c3 c10 c12
                            unfold ev42 at hec
                            obtain ⟨e5, he5⟩ : ∃ x, eventS i2 t2 b (steps + 1) found = x := ⟨_, rfl⟩
                            rw [he5] at hec H
                            obtain ⟨f0, ⟨f10, f11, f12⟩, f2, f3, f4, f5⟩ := e5
                            dsimp only at hec
                            obtain ⟨ev2, hev2⟩ : ∃ x, ev ++ [(⟨f0, ⟨f10, f11, f12⟩, f2, f3, f4, f5⟩ : S42)] = x := ⟨_, rfl⟩
                            rw [hev2] at H
                            have HEC := Aside0.mk hec
                            have HE2 := Aside0.mk hev2
                            have HF6 := Aside0.mk H
                            have HIS := Aside0.mk his
                            clear H HF5 hec hev2 he5 c1 c2 c3 c10 c12 his
                            go_upto_region 33 with (first | (go_at_call 26; (try rw [hst]); refine HEC.out.mono ?_; rintro e w22 ⟨rfl, hb⟩; have HS5 := Aside0.mk (HS4.out.below2 hb); clear hb) | ((with_reducible refine gate_builtin (b := .append) (xs := #[.tmp 107, .tmp 113]) rfl ?_); (try (refine gate_guard (by rfl) ?_; dsimp only)); at_builtin; refine Kd.R_append k42 (w0 := w) w.heap.size rfl (.tmp 107) (.tmp 113) 26 42 (.agg #[(.int .i64 0), (.int .i64 0), (.int .i64 0), (.int .i64 0), (.int .i64 0), (.int .i64 0), (.int .i64 0), (.int .i64 0)]) 64 rfl Tryd.underlying26 info42 rfl (by decide) (by omega) (.slice EA ev.length ec) ev (⟨f0, ⟨f10, f11, f12⟩, f2, f3, f4, f5⟩ : S42) [.int .i64 f0, .int .i64 f10, .int .i64 f11, .int .i64 f12, .int .i64 f2, .int .i64 f3, .int .i64 f4, .int .i64 f5] (fun _ => True) (fun _ => False) rfl (by first | (go_simp; done) | (go_simp; rfl)) ?aP (fun _ hk => hk.elim) ?aF ?aO ?aB ?aS ?aL ?_; (case aP => exact k42_mkM _ _ _ (⟨f0, ⟨f10, f11, f12⟩, f2, f3, f4, f5⟩ : S42)); (case aB => exact HS5.out.below); (case aF => exact (fun _ _ => trivial)); (case aO => exact HS5.out.er); (case aS => exact below_size HS5.out.below); (case aL => have := HEV4.out; omega); intro v23 w23 ho hb hg hat; rw [HE2.out] at ho; obtain ⟨EA2, ec2, rfl⟩ := Kd.R_slice ho; have HS6 := Aside0.mk (HS5.out.logged ho hb hg hat); clear ho hb hg hat))
                            have HOV := Aside0.mk (HS6.out.cells i2 HI2.out)
                            have HIW := Aside0.mk (show (ws.set i2 ⟨l, t2, true, b, pl2⟩).getD i2 z5 = ⟨l, t2, true, b, pl2⟩ by have := HLI.out; simp [List.getD_eq_getElem?_getD, this])
                            go_upto_region 34 with (first | ((with_reducible refine gate_store (t := 4) (p := 117) rfl ?_); refine Kd.R_store (Kd.raw 14) (w0 := w) w.heap.size rfl rfl 4 (.tmp 117) (.const (.bool false)) rfl 65 (i2 : Int) 11 R9 (wrow A7 l.length c7 t2 false b pl2) (.bool false) [.bool false] (wrow A7 l.length c7 t2 true b pl2) (fun _ => True) (fun _ => False) rfl (by simp [Kd.raw]) rfl rfl (by kernel_rfl) ?a1 HS6.out.wk (by omega) (by have := HI2.out; omega) rfl ?a2 (by show 11 + 1 ≤ 14; omega) ?a3 (fun _ h => h.elim) HS6.out.below ?_; (case a1 => intro q hq; simp at hq; rcases hq with rfl; rfl); (case a2 => have h := raw_row HS6.out.wk i2 HI2.out; rw [HWO.out] at h; intro j q hq; rw [Int.toNat_natCast]; exact h.2.2.1 j q hq); (case a3 => exact ⟨rfl, rfl, wrow_one A7 l.length c7 t2 false b pl2⟩); intro w24 ho hb hg; rw [Int.toNat_natCast] at ho; have HW24 := Aside0.mk ho; have HB24 := Aside0.mk hb; have HG24 := Aside0.mk hg; clear ho hb hg))
                            have hs7 := HS6.out.worked0 i2 HI2.out ⟨l, t2, false, b, pl2⟩ (A := A7) (c := c7) HWC.out HWR.out (Kd.R_over' HS6.out.ur (Kd.R_typed HS6.out.wk) (by decide) HG24.out) HW24.out (Kept.of_grown HG24.out (Kept.refl _ _) (fun k hk => .inl (by injection hk with hk; exact hk.symm))) HB24.out
                            rw [List.set_set] at hs7
                            have HS7 := Aside0.mk hs7
                            obtain ⟨A8, c8, d1, d2, d3, d4⟩ := HS7.out.cells i2 HI2.out
                            rw [show (ws.set i2 ⟨l, t2, false, b, pl2⟩).getD i2 z5 = ⟨l, t2, false, b, pl2⟩ by have := HLI.out; simp [List.getD_eq_getElem?_getD, this]] at d1 d2 d3 d4
                            dsimp only at d4
                            have cl : w24.cell? ⟨gw, i2 * 14, none⟩ = some (.slice A8 l.length c8) := d4 0 _ rfl
                            have HM := Aside0.mk (show min i2 IntKind.u64.bits = i2 by show min i2 64 = i2; have := HI2.out; omega)
                            clear d1 d2 d3 d4 hs7 c9
                            by_cases hl : l = []
                            · subst hl
                              have H := HF6.out
                              rw [if_pos rfl] at H
                              have HFN := Aside0.mk H
                              clear H HF6
                              replace cl : w24.cell? ⟨gw, i2 * 14, none⟩ = some (.slice A8 0 c8) := cl
                              go_wp2
                              go_roundg k1
                              case measure => omega
                              case rel => exact ⟨_, _, _, _, _, _, _, _, _, _, _, _, _, _, rfl, rfl, rfl, by first | rfl | (have hm := HM.out; simp [shl, hm]), HFN, ⟨enG_length _ _⟩, HS7⟩
                            · have H := HF6.out
                              rw [if_neg hl] at H
                              have HFN := Aside0.mk H
                              have hpos : 0 < l.length := by cases l with | nil => exact absurd rfl hl | cons a b => simp
                              have t1 : ((l.length : Int) == 0) = false := by simp; omega
                              clear H HF6
                              generalize l.length = nl at *
                              go_wp2
                              go_roundg k1
                              case measure => omega
                              case rel => exact ⟨_, _, _, _, _, _, _, _, _, _, _, _, _, _, rfl, rfl, rfl, rfl, HFN, ⟨enG_length _ _⟩, HS7⟩
        · have hS : S = [] := by cases S with | nil => rfl | cons a b => exact absurd (by simp) hs
          subst hS
          have H := HF1.out
          simp only [List.map_nil, List.length_nil, goingTo] at H
          rw [playL, if_pos rfl] at H
          simp only [Option.some.injEq, Prod.mk.injEq] at H
          obtain ⟨rfl, rfl, rfl⟩ := H
          clear HF1 HOK HW3 HST HLS hs
          try simp only [List.length_nil] at *
          go_upto_region 11 with (first | (go_at_call 23; refine (pick_Start.calls A2 c2 P P 0 (-1) wr (Kd.C_below HR2.out HB3.out) HC2.out HPS.out).mono ?_; rintro e w4 ⟨v0, rfl, ho, hb⟩; obtain ⟨Av, cv, e3⟩ := Kd.R_slice ho; subst e3; have HPV := Aside0.mk ho; have HB4 := Aside0.mk hb; clear ho hb) | ((with_reducible refine gate_dst (N := 12) rfl ?_); (try (refine gate_guard (by rfl) ?_; dsimp only)); refine box_event ?hg (N := 12) ?hd (cs := #[.slice none 0 0, .int .i64 0, .int .i64 0]) (t := 58) ?hr ?_; (case hd => rfl); (case hg => rfl); (case hr => first | (go_simp; done) | (go_simp; rfl)); intro bp hbp w5 hbox hb5; have z0 : w5.cell? ⟨bp, 0, none⟩ = some (.slice none 0 0) := (blk_cell hbox 0).trans rfl; have z1 : w5.cell? ⟨bp, 1, none⟩ = some (.int .i64 0) := (blk_cell hbox 1).trans rfl; have z2 : w5.cell? ⟨bp, 2, none⟩ = some (.int .i64 0) := (blk_cell hbox 2).trans rfl; have y0 := blk_frozen hbox 0; have y1 := blk_frozen hbox 1; have y2 := blk_frozen hbox 2; have HBPE := Aside0.mk hbp; have HBX := Aside0.mk hbox; have HB5 := Aside0.mk hb5; clear hbp hbox hb5))
          have HB6 := Aside0.mk (show Below w.heap.size w (((w5.setCell ⟨bp, 0, none⟩ (.slice Av P.length cv)).setCell ⟨bp, 1, none⟩ (.int .i64 0)).setCell ⟨bp, 2, none⟩ (.int .i64 (-1))) by
            have h0 := below_size HB3.out
            have h4 := below_size HB4.out
            have hbp : w.heap.size ≤ bp := by have := HBPE.out; omega
            exact below_set (below_set (below_set (below_step (below_step HB3.out HB4.out) HB5.out) hbp) hbp) hbp)
          have HIU6 := Aside0.mk (show Kd.R (Kd.int .i64) 3 (((w5.setCell ⟨bp, 0, none⟩ (.slice Av P.length cv)).setCell ⟨bp, 1, none⟩ (.int .i64 0)).setCell ⟨bp, 2, none⟩ (.int .i64 (-1))) w.heap.size (fun _ => True) (.slice UA prio.length uc) (upS prio.length) from
            Kd.R_mono (Kd.R_far (p := ⟨bp, 2, none⟩) (Kd.R_far (p := ⟨bp, 1, none⟩) (Kd.R_far (p := ⟨bp, 0, none⟩) (Kd.R_types (Kd.R_below (Kd.R_below HIU.out HB4.out) HB5.out) HBX.out (by decide)) (fun _ hk => hk.2) (.slice Av P.length cv)) (fun _ hk => hk.2) (.int .i64 0)) (fun _ hk => hk.2) (.int .i64 (-1))) (fun _ _ => trivial))
          clear HB3 HB4 HB5 HIU HBX HBPE HPV z0 z1 z2 y0 y1 y2
          have hse : (((w5.setCell ⟨bp, 0, none⟩ (.slice Av P.length cv)).setCell ⟨bp, 1, none⟩ (.int .i64 0)).setCell ⟨bp, 2, none⟩ (.int .i64 (-1))).heap.size = w5.heap.size := by simp [World.setCell]
          generalize (((w5.setCell ⟨bp, 0, none⟩ (.slice Av P.length cv)).setCell ⟨bp, 1, none⟩ (.int .i64 0)).setCell ⟨bp, 2, none⟩ (.int .i64 (-1))) = w6 at *
          have hmk := make_bools w6 0 (by omega)
          rw [show ((0 : Nat) : Int) = 0 from rfl] at hmk
          go_upto_region 12 with (fail)
          have HB7 := Aside0.mk (below_alloc HB6.out (.cells (List.replicate 0 (Value.bool false)).toArray 4 (0, 0)))
          have HIU7 := Aside0.mk (Kd.R_alloc HIU6.out (.cells (List.replicate 0 (Value.bool false)).toArray 4 (0, 0)))
          go_wp2
          go_loopg [50, 14] 0 (fun k v50 v14 w' => k = 0 ∧ v50 = .int .i64 0 ∧ v14 = .int .u64 0 ∧ Aside0 (Below w.heap.size w w') ∧ Aside0 (Kd.R (Kd.int .i64) 3 w' w.heap.size (fun _ => True) (.slice UA prio.length uc) (upS prio.length)))
          case atStart => exact ⟨rfl, rfl, rfl, HB7, HIU7⟩
          case round =>
            obtain ⟨rfl, rfl, rfl, HB8, HIU8⟩ := hrel
            clear HB7 HIU7 HB6 HIU6
            go_wp2
            go_loopg [6, 7, 8, 14] 0 (fun k v6 v7 v8 v14 w' => k = 0 ∧ v6 = .slice none 0 0 ∧ v7 = .slice UA prio.length uc ∧ v8 = .int .i64 0 ∧ v14 = .int .u64 0 ∧ Aside0 (Below w.heap.size w w') ∧ Aside0 (Kd.R (Kd.int .i64) 3 w' w.heap.size (fun _ => True) (.slice UA prio.length uc) (upS prio.length)))
            case atStart => exact ⟨rfl, rfl, rfl, rfl, rfl, HB8, HIU8⟩
            case round =>
              obtain ⟨rfl, rfl, rfl, rfl, rfl, HB9, HIU9⟩ := hrel
              clear HB8 HIU8
              go_wp2
              (try simp only [Exit.inBlock, Exit.then])
              refine bodyPost_ret (res_three rfl _ _ _) rfl ?_
              exact ⟨_, _, rfl, Kd.R_nil _ _ _ _ _, HIU9.out, HB9.out⟩
end Go.Proofs.YtmaiicpaalbcfaaDoor
namespace Go.Proofs.YtmaiicpaalbcfaaDoor.P
open Go.RowKit Go.Proofs.YtmaiicpaalbcfaaDoorW.PrintWords
def play_Play.f (l0 : List Int) (l1 : List (List (S40))) (l2 : List Int) : Option ((List (S42)) × List Int × Int) := playF l0 l1 l2
theorem play_Play.calls (A0 : Option Addr) (c0 : Nat) (l0 : List Int) (A1 : Option Addr) (c1 : Nat) (l1 : List (List (S40))) (A2 : Option Addr) (c2 : Nat) (l2 : List Int) (r1 : List (S42)) (r2 : List Int) (r3 : Int) (w : World) (hr0 : Kd.C (Kd.int .i64) w A0 l0.length l0) (hc0 : l0.length ≤ c0) (hr1 : Kd.C (Kd.slice 40 k40) w A1 l1.length l1) (hc1 : l1.length ≤ c1) (hr2 : Kd.C (Kd.int .i64) w A2 l2.length l2) (hc2 : l2.length ≤ c2) (h : play_Play.f l0 l1 l2 = some (r1, r2, r3)) (hT_ : Tab w := by first | exact hT_ | exact Tab.drewN hT_ _ | (refine Tab.below hT_ ?_; repeat (first | (with_reducible first | exact HB.out | apply below_alloc | apply pw_below_drewN | apply below_drew1) | exact HB.out))) :
    Calls Tryd.prog 11 #[.slice A0 l0.length c0, .slice A1 l1.length c1, .slice A2 l2.length c2] w fun e w' => ∃ v0_ v1_ : Value, e = .returned (.tuple #[v0_, v1_, .int .i64 r3]) ∧ Kd.R k42 42 w' w.heap.size (fun _ => True) v0_ r1 ∧ Kd.R (Kd.int .i64) 3 w' w.heap.size (fun _ => True) v1_ r2 ∧ Below w.heap.size w w' :=
  play_play A0 c0 l0 A1 c1 l1 A2 c2 l2 r1 r2 r3 w hT_ hr0 hc0 hr1 hc1 hr2 hc2 h
end Go.Proofs.YtmaiicpaalbcfaaDoor.P
end
