/-
The law's helpers on operations: one by numbers, and a list of them by numbers; rows of their own. Condition: the numbers are bytes, the number of elements is above 0.
-/
import Derived.Test.YtcppmfmlafnmfaaCufP
import Derived.StillTailTactics
namespace Go.Proofs.Ytcppmfmlafnmfaa
open Go.RowKit
attribute [local go_sem ↓] Go.wp_at_zero Go.wp_at_succ
def kOf (a : Int) : Int := 1 + a % 3
def OpP (a b c n : Int) (w : World) (e : Ending) (w' : World) : Prop := e = .returned (.agg #[.int .i64 (1 + a % 3), .int .i64 (b % n), .int .i64 (c % n)]) ∧ Below w.heap.size w w'
set_option maxHeartbeats 2000000 in
theorem op_any (a b c : Int) (n : Nat) (w : World) (ha : 0 ≤ a ∧ a < 256) (hb : 0 ≤ b ∧ b < 256) (hc : 0 ≤ c ∧ c < 256) (hn : 0 < n) (h1 : n ≤ 100) : Calls Try.prog 11 #[.int .u8 a, .int .u8 b, .int .u8 c, .int .i64 (n : Int)] w (OpP a b c n w) := by
  have n0 : (n : Int) ≠ 0 := by omega
  have n1 : 0 < (n : Int) := by omega
  have a0 := ha.1
  have a1 := ha.2
  have b0 := hb.1
  have b1 := hb.2
  have c0 := hc.1
  have c1 := hc.2
  have wa : IntKind.i64.wrap a = a := IntWalk.i64_in _ (by omega)
  have wb : IntKind.i64.wrap b = b := IntWalk.i64_in _ (by omega)
  have wc : IntKind.i64.wrap c = c := IntWalk.i64_in _ (by omega)
  clear ha hb hc
  go_enter Try.func11, Try.ntmps11
  go_wp2
  go_region
  go_wp2
  go_returns
  exact ⟨rfl, below_drew (below_alloc (Below.refl _ _) _)⟩
/-! ### lists of operations -/
abbrev OpL := List (Int × Int × Int)
def cellsO (ps : OpL) : List Value := ps.flatMap fun p => [.int .i64 p.1, .int .i64 p.2.1, .int .i64 p.2.2]
theorem cellsO_snoc (ps : OpL) (p : Int × Int × Int) : cellsO (ps ++ [p]) = cellsO ps ++ [.int .i64 p.1, .int .i64 p.2.1, .int .i64 p.2.2] := by simp [cellsO]
theorem cellsO_length (ps : OpL) : (cellsO ps).length = ps.length * 3 := by
  unfold cellsO
  induction ps with
  | nil => rfl
  | cons p ps ih => simp only [List.flatMap_cons, List.length_append, ih, List.length_cons, List.length_nil]; omega
def opAt (l : List Int) (n : Nat) (i : Nat) : Int × Int × Int := (1 + l.getD (3 * i) 0 % 3, l.getD (3 * i + 1) 0 % n, l.getD (3 * i + 2) 0 % n)
def opsTo (l : List Int) (n k : Nat) : OpL := (List.range k).map (opAt l n)
theorem opsTo_snoc (l : List Int) (n k : Nat) : opsTo l n (k + 1) = opsTo l n k ++ [opAt l n k] := by simp [opsTo, List.range_succ]
theorem opsTo_length (l : List Int) (n k : Nat) : (opsTo l n k).length = k := by simp [opsTo]
def opsL (l : List Int) (n : Nat) : OpL := opsTo l n (l.length / 3)
def OpsP (ps : OpL) (w : World) (e : Ending) (w' : World) : Prop := ∃ v, e = .returned v ∧ w'.ownsRow w.heap.size 28 3 v ps.length (cellsO ps) ∧ Below w.heap.size w w'
theorem info28 : (Try.prog.info? 28).map (fun i => (i.zero, i.size, i.bytes)) = some (some (.agg #[.int .i64 0, .int .i64 0, .int .i64 0]), 3, 24) := by kernel_rfl
theorem three_row (W : World) (x y z : Int) : Row (W.alloc (.cells #[.int .i64 x, .int .i64 y, .int .i64 z] 28)) (some ⟨W.heap.size, 0, none⟩) (1 * 3) [.int .i64 x, .int .i64 y, .int .i64 z] :=
  ⟨rfl, by simp, fun _ => ⟨_, rfl, fun j hj => by
    rw [add_plain]
    rcases j with _ | _ | _ | j
    · simp [World.cell?_alloc_at]
    · simp [World.cell?_alloc_at]
    · simp [World.cell?_alloc_at]
    · omega⟩⟩
theorem b_in {a : Int} (h : 0 ≤ a ∧ a < 256) : IntKind.i64.wrap a = a := IntWalk.i64_in _ (by omega)
set_option maxHeartbeats 4000000 in
theorem ops_any (A : Option Addr) (c : Nat) (l : List Int) (n : Nat) (w : World) (hr : RowB w A l) (hl : l.length ≤ 100) (h0 : 0 < n) (h1 : n ≤ 100) : Calls Try.prog 22 #[.slice A l.length c, .int .i64 (n : Int)] w (OpsP (opsL l n) w) := by
  have HR := Lib.hid hr
  clear hr
  have n1 : 0 < (n : Int) := by omega
  go_enter Try.func22, Try.ntmps22
  go_wp2
  go_loopw [5, 6] (fun v i wr => ∃ (k : Nat), k ≤ l.length / 3 ∧ i = .int .i64 (3 * (k : Int)) ∧ wr.ownsRow w.heap.size 28 3 v k (cellsO (opsTo l n k)) ∧ Below w.heap.size w wr) (fun _ i _ => l.length + 3 - (intOf i).toNat)
  case atStart => exact ⟨0, by omega, rfl, World.ownsRow_nil _ _ _ _, Below.refl _ _⟩
  case round =>
    obtain ⟨k, hk, rfl, hown, hB⟩ := hrel
    have HO := Lib.hid hown
    have HB := Lib.hid hB
    have hsz := hB.size
    clear hown
    have w2 : IntKind.i64.wrap (3 * (k : Int) + 2) = 3 * (k : Int) + 2 := IntWalk.i64_in _ (by omega)
    by_cases hlt : k < l.length / 3
    · have p1 : 3 * (k : Int) + 2 < (l.length : Int) := by omega
      obtain ⟨ad, rfl, hc⟩ := (HR.out.kept hB).at (3 * k) (by omega)
      obtain ⟨ad', e, hd⟩ := (HR.out.kept hB).at (3 * k + 1) (by omega)
      injection e with e
      subst e
      obtain ⟨ad', e, he⟩ := (HR.out.kept hB).at (3 * k + 2) (by omega)
      injection e with e
      subst e
      have HX := Lib.hid (HR.out.2 (3 * k) (by omega))
      have HY := Lib.hid (HR.out.2 (3 * k + 1) (by omega))
      have HZ := Lib.hid (HR.out.2 (3 * k + 2) (by omega))
      have HS := Lib.hid (opsTo_snoc l n k)
      unfold opAt at HS
      generalize l.getD (3 * k) 0 = x at *
      generalize l.getD (3 * k + 1) 0 = y at *
      generalize l.getD (3 * k + 2) 0 = z at *
      clear hB
      have t0 : (3 * (k : Int)).toNat = 3 * k := by omega
      have t1 : (3 * (k : Int) + 1).toNat = 3 * k + 1 := by omega
      have t2 : (3 * (k : Int) + 2).toNat = 3 * k + 2 := by omega
      have w1 : IntKind.i64.wrap (3 * (k : Int) + 1) = 3 * (k : Int) + 1 := IntWalk.i64_in _ (by omega)
      have p0 : (0 : Int) ≤ 3 * (k : Int) := by omega
      have p2 : 3 * (k : Int) < (l.length : Int) := by omega
      have p3 : 3 * (k : Int) + 1 < (l.length : Int) := by omega
      have p4 : (0 : Int) ≤ 3 * (k : Int) + 1 := by omega
      have p5 : (0 : Int) ≤ 3 * (k : Int) + 2 := by omega
      go_wp2
      have q1 : ad.add (3 * k + 1) = ⟨ad.block, ad.off + (3 * k + 1), none⟩ := by
        unfold Addr.add
        simp
      have q2 : ad.add (3 * k + 2) = ⟨ad.block, ad.off + (3 * k + 2), none⟩ := by
        unfold Addr.add
        simp
      have hlt0 : (ad.add (3 * k)).block < w.heap.size := by
        obtain ⟨ad2, e2, hc2⟩ := HR.out.at (3 * k) (by omega)
        injection e2 with e2
        subst e2
        exact World.block_lt_of_cell? _ _ hc2
      rw [add_block] at hlt0
      have N0 := Lib.hid (own_ne HO.out (b := (ad.add (3 * k)).block) (by rw [add_block]; exact hlt0))
      have N1 := Lib.hid (own_ne HO.out hlt0)
      rw [q1] at hd
      rw [q2] at he
      have hk50 : k < 60 := by omega
      clear q1 q2 hlt0
      go_region_held3 (fun w' => w'.cell? (ad.add (3 * k)) = some (.int .u8 x) ∧ w'.cell? (⟨ad.block, ad.off + (3 * k + 1), none⟩) = some (.int .u8 y) ∧ w'.cell? (⟨ad.block, ad.off + (3 * k + 2), none⟩) = some (.int .u8 z) ∧ Below w.heap.size w w')
        (first | exact ⟨z0, z1, z2, hb2⟩ | exact ⟨y0, y1, y2, hb1⟩ | (refine ⟨by go_simp, by go_simp, by go_simp, below_drew HB.out⟩) | exact ⟨cell_alloc y0 _, cell_alloc y1 _, cell_alloc y2 _, hb1.alloc hb1.size _⟩)
        (first | (go_at_call 11
                  refine (op_any x y z n _ HX.out HY.out HZ.out h0 h1).mono ?_
                  rintro e w1 ⟨rfl, hb⟩
                  have y0 := cell_kept hb (show wr.drew.cell? (ad.add (3 * k)) = some (.int .u8 x) from hc)
                  have y1 := cell_kept hb (show wr.drew.cell? (⟨ad.block, ad.off + (3 * k + 1), none⟩) = some (.int .u8 y) from hd)
                  have y2 := cell_kept hb (show wr.drew.cell? (⟨ad.block, ad.off + (3 * k + 2), none⟩) = some (.int .u8 z) from he)
                  have hb1 := below_next (below_drew HB.out) hb (below_drew HB.out).size
                  have HO1 := Lib.hid (own_kept (own_kept HO.out (below_drew (Below.refl _ _))) hb))
               | (rw [if_pos (by rfl)]
                  refine append_row_wp w.heap.size (.tmp 18) (.tmp 35) 51 28 (.agg #[.int .i64 0, .int .i64 0, .int .i64 0]) 3 24 rfl Try.underlying51 info28 rfl (by omega) (by omega) u5 k (cellsO (opsTo l n k)) [.int .i64 (1 + x % 3), .int .i64 (y % n), .int .i64 (z % n)] (some ⟨w1.heap.size, 0, none⟩) 1 1 rfl rfl (HO1.out.alloc _) (three_row _ _ _ _) (by simp [Value.oneCell']) (by have := hb1.size; simp; omega) (by omega) ?_
                  intro v1 w2 hown hg hat
                  have z0 := cell_grown hg (cell_alloc y0 _) N0.out
                  have z1 := cell_grown hg (cell_alloc y1 _) N1.out
                  have z2 := cell_grown hg (cell_alloc y2 _) N1.out
                  have hb2 := (hb1.alloc hb1.size _).grown hg (by have := hb1.size; simp; omega) (fun j hj => own_ge HO.out j hj)
                  have HO2 := Lib.hid hown
                  clear hown))
      have hb3 := (show w2.cell? (ad.add (3 * k)) = some (.int .u8 x) ∧ w2.cell? ⟨ad.block, ad.off + (3 * k + 1), none⟩ = some (.int .u8 y) ∧ w2.cell? ⟨ad.block, ad.off + (3 * k + 2), none⟩ = some (.int .u8 z) ∧ Below w.heap.size w w2 by assumption).2.2.2
      have HB3 := Lib.hid hb3
      have h2 := HO2.out
      rw [show cellsO (opsTo l n k) ++ [Value.int .i64 (1 + x % 3), Value.int .i64 (y % n), Value.int .i64 (z % n)] = cellsO (opsTo l n (k + 1)) by rw [HS.out, cellsO_snoc]] at h2
      have HO3 := Lib.hid h2
      have w3 : IntKind.i64.wrap (3 * (k : Int) + 3) = 3 * (k : Int) + 3 := IntWalk.i64_in _ (by omega)
      clear hb3 h2
      go_wp2
      go_roundw
      case rel => exact ⟨k + 1, by omega, val_i64 (by omega), HO3.out, HB3.out⟩
      case measure => simp [intOf]; omega
    · have HK := Lib.hid (show k = l.length / 3 by omega)
      have p1 : ¬ 3 * (k : Int) + 2 < (l.length : Int) := by omega
      clear hB
      go_wp2
      go_ret
      exact ⟨_, rfl, by rw [opsL, opsTo_length]; have := HO.out; rw [HK.out] at this; exact this, HB.out⟩
end Go.Proofs.Ytcppmfmlafnmfaa
