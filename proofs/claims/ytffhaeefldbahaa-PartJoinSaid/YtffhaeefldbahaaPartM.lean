/-
The law's own helper Pairs: pairs by numbers, of so many; a row of its own; no condition but that the numbers are bytes.
-/
import Derived.Test.YtffhaeefldbahaaPartK
import Derived.StillTailTactics
namespace Go.Proofs.Ytffhaeefldbahaa
open Go.RowKit
attribute [local go_sem ↓] Go.wp_at_zero Go.wp_at_succ
def bytesV (l : List Int) : List Value := l.map fun x => .int .u8 x
theorem bytesV_length (l : List Int) : (bytesV l).length = l.length := by simp [bytesV]
theorem bytesV_getD (l : List Int) (j : Nat) (h : j < l.length) : (bytesV l).getD j undef = .int .u8 (l.getD j 0) := by
  simp [bytesV, List.getD_eq_getElem?_getD, List.getElem?_eq_getElem h]
/-- a row of bytes -/
def RowB (w : World) (A : Option Addr) (l : List Int) : Prop := Row w A l.length (bytesV l) ∧ ∀ i, i < l.length → 0 ≤ l.getD i 0 ∧ l.getD i 0 < 256
theorem RowB.kept {w w1 : World} {A : Option Addr} {l : List Int} (h : RowB w A l) (hb : Below w.heap.size w w1) : RowB w1 A l := ⟨h.1.kept hb, h.2⟩
theorem RowB.at {w : World} {A : Option Addr} {l : List Int} (h : RowB w A l) (i : Nat) (hi : i < l.length) : ∃ ad, A = some ad ∧ w.cell? (ad.add i) = some (.int .u8 (l.getD i 0)) := by
  obtain ⟨ad, e, hc⟩ := h.1.at_nat i hi
  exact ⟨ad, e, by rw [hc, bytesV_getD l i hi]⟩
def pairsTo (l : List Int) (n : Int) (k : Nat) : Pairs := (List.range k).map fun i => (Int.tmod (l.getD (2 * i) 0) n, Int.tmod (l.getD (2 * i + 1) 0) n)
theorem pairsTo_length (l : List Int) (n : Int) (k : Nat) : (pairsTo l n k).length = k := by simp [pairsTo]
theorem pairsTo_snoc (l : List Int) (n : Int) (k : Nat) : pairsTo l n (k + 1) = pairsTo l n k ++ [(Int.tmod (l.getD (2 * k) 0) n, Int.tmod (l.getD (2 * k + 1) 0) n)] := by simp [pairsTo, List.range_succ]
def half (l : List Int) (n : Int) : Nat := if 0 < n then l.length / 2 else 0
theorem half_iff (l : List Int) (n : Int) (k : Nat) (hk : k ≤ half l n) : k < half l n ↔ (2 * (k : Int) + 1 < l.length ∧ 0 < n) := by
  unfold half at *
  split at hk <;> split <;> omega
def pairsL (l : List Int) (n : Int) : Pairs := pairsTo l n (half l n)
theorem cellsP_snoc (ps : Pairs) (p : Int × Int) : cellsP (ps ++ [p]) = cellsP ps ++ [.int .i64 p.1, .int .i64 p.2] := by simp [cellsP]
def PairsP (ps : Pairs) (w : World) (e : Ending) (w' : World) : Prop := ∃ v, e = .returned v ∧ w'.ownsRow w.heap.size 26 2 v ps.length (cellsP ps) ∧ Below w.heap.size w w'
theorem info26 : (Try.prog.info? 26).map (fun i => (i.zero, i.size, i.bytes)) = some (some (.agg #[.int .i64 0, .int .i64 0]), 2, 16) := by kernel_rfl
theorem two_row (W : World) (x y : Int) : Row (W.alloc (.cells #[.int .i64 x, .int .i64 y] 26)) (some ⟨W.heap.size, 0, none⟩) (1 * 2) [.int .i64 x, .int .i64 y] :=
  ⟨rfl, by simp, fun _ => ⟨_, rfl, fun j hj => by
    rw [add_plain]
    rcases j with _ | _ | j
    · simp [World.cell?_alloc_at]
    · simp [World.cell?_alloc_at]
    · omega⟩⟩
set_option maxHeartbeats 4000000 in
theorem pairs_any (A : Option Addr) (c : Nat) (l : List Int) (n : Int) (w : World) (hr : RowB w A l) (hl : l.length ≤ 100) (hn : n < 9223372036854775808) : Calls Try.prog 10 #[.slice A l.length c, .int .i64 n] w (PairsP (pairsL l n) w) := by
  have HR := Lib.hid hr
  clear hr
  go_enter Try.func10, Try.ntmps10
  go_wp2
  go_loopw [5, 6] (fun v i wr => ∃ (k : Nat), k ≤ half l n ∧ i = .int .i64 (2 * (k : Int)) ∧ wr.ownsRow w.heap.size 26 2 v k (cellsP (pairsTo l n k)) ∧ Below w.heap.size w wr) (fun _ i _ => l.length + 2 - (intOf i).toNat)
  case atStart => exact ⟨0, by omega, rfl, World.ownsRow_nil _ _ _ _, Below.refl _ _⟩
  case round =>
    obtain ⟨k, hk, rfl, hown, hB⟩ := hrel
    have HO := Lib.hid hown
    have HB := Lib.hid hB
    have hsz := hB.size
    have hh := half_iff l n k hk
    clear hown
    have w1 : IntKind.i64.wrap (2 * (k : Int) + 1) = 2 * (k : Int) + 1 := IntWalk.i64_in _ (by unfold half at hk; split at hk <;> omega)
    by_cases hlt : k < half l n
    · have p1 := (hh.1 hlt).1
      have p2 := (hh.1 hlt).2
      have HX := Lib.hid (HR.out.2 (2 * k) (by omega))
      have HY := Lib.hid (HR.out.2 (2 * k + 1) (by omega))
      obtain ⟨ad, rfl, hc⟩ := (HR.out.kept hB).at (2 * k) (by omega)
      obtain ⟨ad', e, hd⟩ := (HR.out.kept hB).at (2 * k + 1) (by omega)
      obtain rfl : ad = ad' := by injection e
      clear e hB hh
      obtain ⟨x, hx⟩ : ∃ x, x = l.getD (2 * k) 0 := ⟨_, rfl⟩
      obtain ⟨y, hy⟩ : ∃ y, y = l.getD (2 * k + 1) 0 := ⟨_, rfl⟩
      have HS := Lib.hid (pairsTo_snoc l n k)
      rw [← hx] at hc HX HS
      rw [← hy] at hd HY HS
      clear hx hy
      have hx0 := HX.out.1
      have hx1 := HX.out.2
      have hy0 := HY.out.1
      have hy1 := HY.out.2
      have wx : IntKind.i64.wrap x = x := IntWalk.i64_in _ (by omega)
      have wy : IntKind.i64.wrap y = y := IntWalk.i64_in _ (by omega)
      have n0 : n ≠ 0 := by omega
      have t1 : (2 * (k : Int)).toNat = 2 * k := by omega
      have t2 : (2 * (k : Int) + 1).toNat = 2 * k + 1 := by omega
      have p0 : (0 : Int) ≤ 2 * (k : Int) := by omega
      have p3 : 2 * (k : Int) < (l.length : Int) := by omega
      have p4 : (0 : Int) ≤ 2 * (k : Int) + 1 := by omega
      go_wp2
      have hlt0 : (ad.add (2 * k)).block < w.heap.size := by
        obtain ⟨ad2, e2, hc2⟩ := HR.out.at (2 * k) (by omega)
        injection e2 with e2
        subst e2
        exact World.block_lt_of_cell? _ _ hc2
      have hlt1 : (ad.add (2 * k + 1)).block < w.heap.size := by
        obtain ⟨ad2, e2, hc2⟩ := HR.out.at (2 * k + 1) (by omega)
        injection e2 with e2
        subst e2
        exact World.block_lt_of_cell? _ _ hc2
      have hk50 : k < 60 := by omega
      have N0 := Lib.hid (own_ne HO.out hlt0)
      have N1 := Lib.hid (own_ne HO.out hlt1)
      have e1 : ad.add (2 * k + 1) = ⟨ad.block, ad.off + (2 * k + 1), none⟩ := by
        unfold Addr.add
        simp
      rw [e1] at hd N1
      clear hlt0 hlt1 e1
      go_region_held3 (fun w' => w'.cell? (ad.add (2 * k)) = some (.int .u8 x) ∧ w'.cell? (⟨ad.block, ad.off + (2 * k + 1), none⟩) = some (.int .u8 y) ∧ Below w.heap.size w w')
        (first | exact ⟨z0, z1, hb2⟩ | (refine ⟨by go_simp, by go_simp, below_drew HB.out⟩) | (refine ⟨cell_alloc (by go_simp) _, cell_alloc (by go_simp) _, (below_drew HB.out).alloc hsz _⟩))
        (first | (rw [if_pos (by rfl)]
                  refine append_row_wp w.heap.size (.tmp 18) (.tmp 35) 24 26 (.agg #[.int .i64 0, .int .i64 0]) 2 16 rfl Try.underlying24 info26 rfl (by omega) (by omega) u5 k (cellsP (pairsTo l n k)) [.int .i64 (x.tmod n), .int .i64 (y.tmod n)] (some ⟨wr.heap.size, 0, none⟩) 1 1 rfl rfl ((own_kept HO.out (below_drew (Below.refl _ _))).alloc _) (two_row _ _ _) (by simp [Value.oneCell']) (by simp; omega) (by omega) ?_
                  intro v1 w2 hown hg hat
                  have z0 := cell_grown hg (cell_alloc (show wr.drew.cell? (ad.add (2 * k)) = some (.int .u8 x) from hc) _) N0.out
                  have z1 := cell_grown hg (cell_alloc (show wr.drew.cell? (⟨ad.block, ad.off + (2 * k + 1), none⟩) = some (.int .u8 y) from hd) _) N1.out
                  have hb2 := ((below_drew HB.out).alloc hsz _).grown hg (by simp; omega) (fun j hj => own_ge HO.out j hj)
                  have HO2 := Lib.hid hown
                  clear hown))
      have hb3 := (show w2.cell? (ad.add (2 * k)) = some (.int .u8 x) ∧ w2.cell? ⟨ad.block, ad.off + (2 * k + 1), none⟩ = some (.int .u8 y) ∧ Below w.heap.size w w2 by assumption).2.2
      have HB3 := Lib.hid hb3
      have h2 := HO2.out
      rw [show cellsP (pairsTo l n k) ++ [Value.int .i64 (x.tmod n), Value.int .i64 (y.tmod n)] = cellsP (pairsTo l n (k + 1)) by rw [HS.out, cellsP_snoc]] at h2
      have HO3 := Lib.hid h2
      have w3 : IntKind.i64.wrap (2 * (k : Int) + 2) = 2 * (k : Int) + 2 := IntWalk.i64_in _ (by omega)
      clear hb3 h2
      go_wp2
      go_roundw
      case rel => exact ⟨k + 1, by omega, val_i64 (by omega), HO3.out, HB3.out⟩
      case measure => simp [intOf]; omega
    · have HK := Lib.hid (show k = half l n by omega)
      by_cases p1 : 2 * (k : Int) + 1 < l.length
      · have p2 : ¬ 0 < n := fun h => hlt (hh.2 ⟨p1, h⟩)
        clear hB hh
        go_wp2
        go_ret
        exact ⟨_, rfl, by rw [pairsL, pairsTo_length]; have := HO.out; rw [HK.out] at this; exact this, HB.out⟩
      · clear hB hh
        go_wp2
        go_ret
        exact ⟨_, rfl, by rw [pairsL, pairsTo_length]; have := HO.out; rw [HK.out] at this; exact this, HB.out⟩
end Go.Proofs.Ytffhaeefldbahaa
