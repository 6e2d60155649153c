/-
Contracts of draw.Many and of its reference: so many Nexts, one behind the other; no condition beside the lists' lengths.
-/
import Derived.Test.YtbfglpmoomabbaaDrawA
import Derived.Deep.Onto
namespace Go.Proofs.Ytbfglpmoomabbaa
open Go.RowKit
def atN : Nat → Int → Int
  | 0, x => x
  | k + 1, x => nextAt (atN k x)
def manyL (l : List Int) (x : Int) (k : Nat) : List Int := (List.range k).map fun j => nextN l (atN j x)
theorem manyL_length (l : List Int) (x : Int) (k : Nat) : (manyL l x k).length = k := by simp [manyL]
theorem manyL_snoc (l : List Int) (x : Int) (k : Nat) : manyL l x (k + 1) = manyL l x k ++ [nextN l (atN k x)] := by simp [manyL, List.range_succ]
def many (l : List Int) (x n : Int) : List Int := if n < 0 ∨ 65536 < n then [] else manyL l x n.toNat
def manyAt (x n : Int) : Int := if n < 0 ∨ 65536 < n then x else atN n.toNat x
def ManyP (A : Option Addr) (l : List Int) (c : Nat) (x n : Int) (w : World) (e : Ending) (w' : World) : Prop :=
  ∃ v, e = .returned (.tuple #[v, .agg #[.slice A l.length c, .int .i64 (manyAt x n)]]) ∧ w'.ownsRow w.heap.size 3 1 v (many l x n).length (ints (many l x n)) ∧ Below w.heap.size w w'
theorem info3 : (Try.prog.info? 3).map (fun i => (i.zero, i.size, i.bytes)) = some (some (.int .i64 0), 1, 8) := by kernel_rfl
theorem kmake (m : Nat) (hm : m ≤ 35184372088832) (W : World) : (Instr.makeSlice 37 (.int .i64 (m : Int)) (.int .i64 (m : Int))).run Try.prog W = .ok (.slice (some ⟨W.heap.size, 0, none⟩) m m) (W.alloc (.cells (madeCells #[.int .i64 0] m) 3)) :=
  run_make_row' 37 3 (.int .i64 0) 8 Try.underlying37 info3 rfl .i64 .i64 m (by omega) (by omega) W
/-- what the loop has filled -/
def filled (l : List Int) (x : Int) (m k : Nat) : List Int := manyL l x k ++ List.replicate (m - k) 0
theorem filled_length (l : List Int) (x : Int) (m k : Nat) (hk : k ≤ m) : (filled l x m k).length = m := by unfold filled; rw [List.length_append, manyL_length, List.length_replicate]; omega
theorem filled_zero (l : List Int) (x : Int) (m : Nat) : filled l x m 0 = List.replicate m 0 := by simp [filled, manyL]
theorem filled_all (l : List Int) (x : Int) (m : Nat) : filled l x m m = manyL l x m := by simp [filled]
theorem filled_step (l : List Int) (x : Int) (m k : Nat) (hk : k < m) : (filled l x m k).set k (nextN l (atN k x)) = filled l x m (k + 1) := by
  unfold filled
  rw [List.set_append_right _ _ (by rw [manyL_length]; exact Nat.le_refl _), manyL_length, Nat.sub_self, manyL_snoc, List.append_assoc]
  congr 1
  rw [show m - k = (m - (k + 1)) + 1 by omega, List.replicate_succ]
  rfl
set_option maxHeartbeats 1000000 in
theorem many_any (A : Option Addr) (l : List Int) (c : Nat) (x n : Int) (w : World) (hr : RowI w A l) : Calls Try.prog 23 #[.agg #[.slice A l.length c, .int .i64 x], .int .i64 n] w (ManyP A l c x n w) := by
  by_cases h0 : n < 0
  · have HZ := Lib.hid (show many l x n = [] by unfold many; rw [if_pos (.inl h0)])
    have HY := Lib.hid (show manyAt x n = x by unfold manyAt; rw [if_pos (.inl h0)])
    clear hr
    go_enter Try.func23, Try.ntmps23
    go_wp2
    go_region
    go_wp2
    exact bodyPost_ret (v := .tuple #[.slice none 0 0, .agg #[.slice A l.length c, .int .i64 x]]) (by simp [results, Try.results23, go_sem]) rfl ⟨_, by rw [HY.out], by rw [HZ.out]; exact World.ownsRow_nil _ _ _ _, (below_drew (below_alloc (below_alloc (Below.refl _ _) _) _))⟩
  · by_cases h1 : 65536 < n
    · have HZ := Lib.hid (show many l x n = [] by unfold many; rw [if_pos (.inr h1)])
      have HY := Lib.hid (show manyAt x n = x by unfold manyAt; rw [if_pos (.inr h1)])
      clear hr
      go_enter Try.func23, Try.ntmps23
      go_wp2
      go_region
      go_wp2
      exact bodyPost_ret (v := .tuple #[.slice none 0 0, .agg #[.slice A l.length c, .int .i64 x]]) (by simp [results, Try.results23, go_sem]) rfl ⟨_, by rw [HY.out], by rw [HZ.out]; exact World.ownsRow_nil _ _ _ _, (below_drew (below_alloc (below_alloc (Below.refl _ _) _) _))⟩
    · obtain ⟨m, rfl⟩ := Int.eq_ofNat_of_zero_le (show 0 ≤ n by omega)
      have HZ := Lib.hid (show many l x (m : Int) = manyL l x m by unfold many; rw [if_neg (by omega)]; rfl)
      have HY := Lib.hid (show manyAt x (m : Int) = atN m x by unfold manyAt; rw [if_neg (by omega)]; rfl)
      have km := kmake m (by omega)
      have HR := Lib.hid hr
      clear hr h0
      go_enter Try.func23, Try.ntmps23
      go_wp2
      go_loopw [19] (fun i wr => ∃ k : Nat, k ≤ m ∧ i = .int .i64 k ∧ wr.ownsRow w.heap.size 3 1 (.slice (some ⟨w.heap.size + 1 + 1, 0, none⟩) m m) m (ints (filled l x m k)) ∧
          wr.cell? ⟨w.heap.size, 0, none⟩ = some (.slice A l.length c) ∧ wr.cell? ⟨w.heap.size, 1, none⟩ = some (.int .i64 (atN k x)) ∧ wr.frozen? ⟨w.heap.size, 0, none⟩ = false ∧ wr.frozen? ⟨w.heap.size, 1, none⟩ = false ∧
          wr.cell? ⟨w.heap.size + 1, 0, none⟩ = some (.slice none 0 0) ∧ wr.cell? ⟨w.heap.size + 1, 1, none⟩ = some (.int .i64 0) ∧ wr.frozen? ⟨w.heap.size + 1, 0, none⟩ = false ∧ wr.frozen? ⟨w.heap.size + 1, 1, none⟩ = false ∧ Below w.heap.size w wr) (fun i _ => m - (intOf i).toNat)
      case atStart =>
        refine ⟨0, by omega, rfl, ?_, by go_simp, by (show _ = some (Value.int .i64 x)); go_simp, by go_simp, by go_simp, by go_simp, by go_simp, by go_simp, by go_simp, below_alloc (below_alloc (below_alloc (Below.refl _ _) _) _) _⟩
        rw [filled_zero, ← ints_replicate]
        have := own_made ((w.alloc (.cells #[.slice A l.length c, .int .i64 x] 39)).alloc (.cells #[.slice none 0 0, .int .i64 0] 39)) w.heap.size 3 (.int .i64 0) m (by simp; omega) (by omega)
        simpa using this
      case round =>
        obtain ⟨k, hk, rfl, hown, c0, c1, f0, f1, d0, d1, g0, g1, hB⟩ := hrel
        have HO := Lib.hid hown
        have HB := Lib.hid hB
        clear hown hB
        by_cases hlt : k < m
        · have p1 : (0 : Int) ≤ (k : Int) := by omega
          have p2 : (k : Int) < (m : Int) := by omega
          go_wp2_with fail
          refine (next_any _ _ _ _ _ (HR.out.kept HB.out)).mono ?_
          rintro e w1 ⟨rfl, hb⟩
          have lt0 : w.heap.size < wr.heap.size := World.block_lt_of_cell? _ _ c0
          have lt1 : w.heap.size + 1 < wr.heap.size := World.block_lt_of_cell? _ _ d0
          have c0 := cell_kept hb c0
          have c1 := cell_kept hb c1
          have d0 := cell_kept hb d0
          have d1 := cell_kept hb d1
          have f0 := free_kept hb lt0 f0
          have f1 := free_kept hb lt0 f1
          have g0 := free_kept hb lt1 g0
          have g1 := free_kept hb lt1 g1
          have ho := own_kept HO.out hb
          have e0 := own_cell_int ho k hlt
          have e1 := ho.frozenAt k
          have hst := (ho.stored k (.int .i64 (nextN l (atN k x)))).1
          rw [ints_set, filled_step l x m k hlt] at hst
          have HS := Lib.hid hst
          have HB := Lib.hid (below_next HB.out hb (by omega))
          have HO := Lib.hid ho
          clear hst ho hb lt0 lt1
          go_wp2
          go_roundw
          case rel => exact ⟨k + 1, by omega, by go_num, ownsRow_setCell_other (ownsRow_setCell_other HS.out (by simp [Value.ownBlock] <;> omega) _) (by simp [Value.ownBlock] <;> omega) _, by go_simp, (by rw [show atN (k + 1) x = nextAt (atN k x) from rfl]; go_simp), by go_simp, by go_simp, by go_simp, by go_simp, by go_simp, by go_simp, ((HB.out.setCell (by simp; omega) _).setCell (Nat.le_refl _) _).setCell (Nat.le_refl _) _⟩
          case measure => simp [intOf]; omega
        · obtain rfl : k = m := by omega
          go_wp2
          go_region
          go_wp2
          have r0 : ((wr.setCell ⟨w.heap.size + 1, 0, none⟩ (.slice A l.length c)).setCell ⟨w.heap.size + 1, 1, none⟩ (.int .i64 (atN k x))).cell? ⟨w.heap.size + 1, 0, none⟩ = some (.slice A l.length c) := by go_simp
          have r1 : ((wr.setCell ⟨w.heap.size + 1, 0, none⟩ (.slice A l.length c)).setCell ⟨w.heap.size + 1, 1, none⟩ (.int .i64 (atN k x))).cell? ⟨w.heap.size + 1, 1, none⟩ = some (.int .i64 (atN k x)) := by go_simp
          exact bodyPost_ret (v := .tuple #[.slice (some ⟨w.heap.size + 1 + 1, 0, none⟩) k k, .agg #[.slice A l.length c, .int .i64 (atN k x)]]) (by simp [results, Try.results23, go_sem, r0, r1]) rfl ⟨_, by rw [HY.out], by
            rw [HZ.out, manyL_length]
            have := HO.out
            rw [filled_all] at this
            exact own_drewN (ownsRow_setCell_other (ownsRow_setCell_other this (by simp [Value.ownBlock] <;> omega) _) (by simp [Value.ownBlock] <;> omega) _) 1, below_drewN ((HB.out.setCell (Nat.le_succ _) _).setCell (Nat.le_succ _) _) 1⟩

set_option maxHeartbeats 1000000 in
theorem rmany_any (A : Option Addr) (l : List Int) (c : Nat) (x n : Int) (w : World) (hr : RowI w A l) : Calls Try.prog 24 #[.agg #[.slice A l.length c, .int .i64 x], .int .i64 n] w (ManyP A l c x n w) := by
  by_cases h0 : n < 0
  · have HZ := Lib.hid (show many l x n = [] by unfold many; rw [if_pos (.inl h0)])
    have HY := Lib.hid (show manyAt x n = x by unfold manyAt; rw [if_pos (.inl h0)])
    clear hr
    go_enter Try.func24, Try.ntmps24
    go_wp2
    go_region
    go_wp2
    exact bodyPost_ret (v := .tuple #[.slice none 0 0, .agg #[.slice A l.length c, .int .i64 x]]) (by simp [results, Try.results24, go_sem]) rfl ⟨_, by rw [HY.out], by rw [HZ.out]; exact World.ownsRow_nil _ _ _ _, (below_drew (below_alloc (below_alloc (Below.refl _ _) _) _))⟩
  · by_cases h1 : 65536 < n
    · have HZ := Lib.hid (show many l x n = [] by unfold many; rw [if_pos (.inr h1)])
      have HY := Lib.hid (show manyAt x n = x by unfold manyAt; rw [if_pos (.inr h1)])
      clear hr
      go_enter Try.func24, Try.ntmps24
      go_wp2
      go_region
      go_wp2
      exact bodyPost_ret (v := .tuple #[.slice none 0 0, .agg #[.slice A l.length c, .int .i64 x]]) (by simp [results, Try.results24, go_sem]) rfl ⟨_, by rw [HY.out], by rw [HZ.out]; exact World.ownsRow_nil _ _ _ _, (below_drew (below_alloc (below_alloc (Below.refl _ _) _) _))⟩
    · obtain ⟨m, rfl⟩ := Int.eq_ofNat_of_zero_le (show 0 ≤ n by omega)
      have HZ := Lib.hid (show many l x (m : Int) = manyL l x m by unfold many; rw [if_neg (by omega)]; rfl)
      have HY := Lib.hid (show manyAt x (m : Int) = atN m x by unfold manyAt; rw [if_neg (by omega)]; rfl)
      have HR := Lib.hid hr
      clear hr h0
      go_enter Try.func24, Try.ntmps24
      go_wp2
      go_loopw [6, 7, 8] (fun v i _ wr => ∃ k : Nat, k ≤ m ∧ i = .int .i64 k ∧ wr.ownsRow (w.heap.size + 1 + 1) 3 1 v k (ints (manyL l x k)) ∧ w.heap.size + 1 + 1 ≤ wr.heap.size ∧
          wr.cell? ⟨w.heap.size, 0, none⟩ = some (.slice A l.length c) ∧ wr.cell? ⟨w.heap.size, 1, none⟩ = some (.int .i64 (atN k x)) ∧ wr.frozen? ⟨w.heap.size, 0, none⟩ = false ∧ wr.frozen? ⟨w.heap.size, 1, none⟩ = false ∧
          wr.cell? ⟨w.heap.size + 1, 0, none⟩ = some (.slice none 0 0) ∧ wr.cell? ⟨w.heap.size + 1, 1, none⟩ = some (.int .i64 0) ∧ wr.frozen? ⟨w.heap.size + 1, 0, none⟩ = false ∧ wr.frozen? ⟨w.heap.size + 1, 1, none⟩ = false ∧ Below w.heap.size w wr) (fun _ i _ _ => m - (intOf i).toNat)
      case atStart =>
        exact ⟨0, by omega, rfl, World.ownsRow_nil _ _ _ _, by simp, by go_simp, by (show _ = some (Value.int .i64 x)); go_simp, by go_simp, by go_simp, by go_simp, by go_simp, by go_simp, by go_simp, below_alloc (below_alloc (Below.refl _ _) _) _⟩
      case round =>
        obtain ⟨k, hk, rfl, hown, hsz, c0, c1, f0, f1, d0, d1, g0, g1, hB⟩ := hrel
        have HO := Lib.hid hown
        have HB := Lib.hid hB
        clear hown hB
        by_cases hlt : k < m
        · go_wp2_with fail
          refine (rdraw_any _ _ _ _ _ (HR.out.kept HB.out)).mono ?_
          rintro e w1 ⟨rfl, hb⟩
          have lt0 : w.heap.size < wr.heap.size := by omega
          have lt1 : w.heap.size + 1 < wr.heap.size := by omega
          have c0 := cell_kept hb c0
          have c1 := cell_kept hb c1
          have d0 := cell_kept hb d0
          have d1 := cell_kept hb d1
          have f0 := free_kept hb lt0 f0
          have f1 := free_kept hb lt0 f1
          have g0 := free_kept hb lt1 g0
          have g1 := free_kept hb lt1 g1
          have HO := Lib.hid (own_kept HO.out hb)
          have hsz1 : w.heap.size + 1 + 1 ≤ w1.heap.size := Nat.le_trans hsz hb.size
          have HB := Lib.hid (below_next HB.out hb (by omega))
          have n0 : w.heap.size ≠ w1.heap.size := by omega
          have n1 : w.heap.size + 1 ≠ w1.heap.size := by omega
          clear hb lt0 lt1 hsz
          have nv0 := own_ne HO.out (show w.heap.size < w.heap.size + 1 + 1 by omega)
          have nv1 := own_ne HO.out (show w.heap.size + 1 < w.heap.size + 1 + 1 by omega)
          have nv2 : u6.ownBlock ≠ some w1.heap.size := fun h => by have := (HO.out.lt _ h).2; omega
          go_wp2_with (first
            | (at_builtin
               refine append1 (w.heap.size + 1 + 1) rfl _ _ 37 3 (.int .i64 0) 8 rfl Try.underlying37 info3 rfl (by omega) u6 (ints (manyL l x k)) (.int .i64 (nextN l (atN k x))) (w1.heap.size + 1) rfl rfl (by go_simp) rfl (by rw [ints_length, manyL_length]; exact (HO.out.alloc _).alloc _) (by simp; omega) (by rw [ints_length, manyL_length]; omega) ?_
               intro v1 w2 hown hg hat
               have z0 := cell_grown hg (p := ⟨w1.heap.size, 0, none⟩) (v := .int .i64 (nextN l (atN k x))) (by go_simp) nv2
               have z1 := cell_grown hg (p := ⟨w1.heap.size, 1, none⟩) (v := .slice A l.length c) (by go_simp) nv2
               have z2 := cell_grown hg (p := ⟨w1.heap.size, 2, none⟩) (v := .int .i64 (nextAt (atN k x))) (by go_simp) nv2
               have c0 := cell_grown hg (p := ⟨w.heap.size, 0, none⟩) (v := .slice A l.length c) (cell_alloc (cell_alloc c0 _) _) nv0
               have c1 := cell_grown hg (p := ⟨w.heap.size, 1, none⟩) (v := .int .i64 (atN k x)) (cell_alloc (cell_alloc c1 _) _) nv0
               have d0 := cell_grown hg (p := ⟨w.heap.size + 1, 0, none⟩) (v := .slice none 0 0) (cell_alloc (cell_alloc d0 _) _) nv1
               have d1 := cell_grown hg (p := ⟨w.heap.size + 1, 1, none⟩) (v := .int .i64 0) (cell_alloc (cell_alloc d1 _) _) nv1
               have f0 := free_grown hg (p := ⟨w.heap.size, 0, none⟩) (by simp; omega) (free_alloc (by simp; omega) (free_alloc (by simp; omega) f0 _) _) nv0
               have f1 := free_grown hg (p := ⟨w.heap.size, 1, none⟩) (by simp; omega) (free_alloc (by simp; omega) (free_alloc (by simp; omega) f1 _) _) nv0
               have g0 := free_grown hg (p := ⟨w.heap.size + 1, 0, none⟩) (by simp; omega) (free_alloc (by simp; omega) (free_alloc (by simp; omega) g0 _) _) nv1
               have g1 := free_grown hg (p := ⟨w.heap.size + 1, 1, none⟩) (by simp; omega) (free_alloc (by simp; omega) (free_alloc (by simp; omega) g1 _) _) nv1
               have HO2 := Lib.hid hown
               have hz2 : w.heap.size + 1 + 1 ≤ w2.heap.size := by have := hg.size; simp at this; omega
               have HB2 := Lib.hid ((((HB.out.alloc (by omega) _).alloc (by simp; omega) _)).grown hg (by simp; omega) (fun j hj => by have := own_ge HO.out j hj; omega))
               clear hown hg hat))
          have h2 := HO2.out
          rw [show ints (manyL l x k) ++ [Value.int .i64 (nextN l (atN k x))] = ints (manyL l x (k + 1)) by rw [manyL_snoc, ints_append]; rfl, ints_length, manyL_length] at h2
          go_roundw
          case rel => exact ⟨k + 1, by omega, by go_num, ownsRow_setCell_other (ownsRow_setCell_other h2 (own_ne h2 (by simp; omega)) _) (own_ne h2 (by simp; omega)) _, by simpa using hz2, by go_simp, (by rw [show atN (k + 1) x = nextAt (atN k x) from rfl]; go_simp), by go_simp, by go_simp, by go_simp, by go_simp, by go_simp, by go_simp, (HB2.out.setCell (Nat.le_refl _) _).setCell (Nat.le_refl _) _⟩
          case measure => simp [intOf]; omega
        · obtain rfl : k = m := by omega
          go_wp2
          go_region
          go_wp2
          have r0 : ((wr.setCell ⟨w.heap.size + 1, 0, none⟩ (.slice A l.length c)).setCell ⟨w.heap.size + 1, 1, none⟩ (.int .i64 (atN k x))).cell? ⟨w.heap.size + 1, 0, none⟩ = some (.slice A l.length c) := by go_simp
          have r1 : ((wr.setCell ⟨w.heap.size + 1, 0, none⟩ (.slice A l.length c)).setCell ⟨w.heap.size + 1, 1, none⟩ (.int .i64 (atN k x))).cell? ⟨w.heap.size + 1, 1, none⟩ = some (.int .i64 (atN k x)) := by go_simp
          exact bodyPost_ret (v := .tuple #[u6, .agg #[.slice A l.length c, .int .i64 (atN k x)]]) (by simp [results, Try.results24, go_sem, r0, r1]) rfl ⟨_, by rw [HY.out], by
            rw [HZ.out, manyL_length]
            have h2 := HO.out
            exact (own_drewN (ownsRow_setCell_other (ownsRow_setCell_other h2 (own_ne h2 (by simp)) _) (own_ne h2 (by simp)) _) 1).mono (by omega), below_drewN ((HB.out.setCell (Nat.le_succ _) _).setCell (Nat.le_succ _) _) 1⟩
end Go.Proofs.Ytbfglpmoomabbaa
