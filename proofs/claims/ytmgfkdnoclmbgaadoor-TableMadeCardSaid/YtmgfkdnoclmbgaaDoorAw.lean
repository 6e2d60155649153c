/-
The document's example (awake): it answers true; the walk where it does so; no condition but that the world holds the package's table.
-/
import Derived.Test.YtmgfkdnoclmbgaaDoorPx0
import Derived.Test.YtmgfkdnoclmbgaaDoorPx1
import Derived.Test.YtmgfkdnoclmbgaaDoorPx2
import Derived.Test.YtmgfkdnoclmbgaaDoorStubB
namespace Go.Proofs.YtmgfkdnoclmbgaaDoor.P
open Go.RowKit Go.Proofs.YtmgfkdnoclmbgaaDoorW.PrintWords Go.Proofs.YtmgfkdnoclmbgaaDoorW.PrintLast Go.Proofs.YtmgfkdnoclmbgaaDoorW.PrintMore
attribute [local go_sem] max2_int min2_int max_two min_two max_three min_three max_four min_four   -- for this text's walks alone
set_option linter.unusedVariables false
set_option linter.unusedSimpArgs false

attribute [local go_sem high] eqA26
/-! ### warplaw8_awake: function 8 -/
def warplaw8_awake.f (k : Nat)  : Option (Bool) := (table_Play.f (([(([(⟨(⟨#[97]⟩ : ByteArray), 1, 0⟩ : S26), (⟨(⟨#[97]⟩ : ByteArray), 1, 0⟩ : S26)] : List (S26)))] : List (List (S26)))) 5 3 ([] : List Int)).bind fun bt110 => (if (bt110.1.length : Int) = 1 then (if 0 < (bt110.1.length : Int) then ((warpref1_Ints.f k (rd_L4 bt110.1 0) (([0, 0] : List Int))).bind fun t122 => (if t122 = true then (if (bt110.2.1.length : Int) = 1 then (if 0 < (bt110.2.1.length : Int) then (if ((((rd_T26 bt110.2.1 0).f0).toList) == ([97] : List UInt8) && (((rd_T26 bt110.2.1 0).f1) == 1 && (((rd_T26 bt110.2.1 0).f2) == 0))) = true then (if bt110.2.2.1 = 6 then (some (bt110.2.2.2 == 0)) else (some false)) else (some false)) else (none)) else (some false)) else (some false))) else (none)) else (some false))
theorem warplaw8_awake.mono : ∀ k, LeO (warplaw8_awake.f k ) (warplaw8_awake.f (k + 1) ) := by
 intro  k
 unfold warplaw8_awake.f
 repeat' first
  | (with_reducible exact warpref1_Ints.mono _ _ _)
  | (with_reducible exact LeO.refl _)
  | (with_reducible exact LeO.none _)
  | (with_reducible refine LeO.ite ?_ ?_)
  | (with_reducible refine LeO.bind ?_ (fun _ => ?_))
  | exact warpref1_Ints.mono _ _ _
  | exact LeO.none _
  | refine LeO.ite ?_ ?_
  | refine LeO.bind ?_ (fun _ => ?_)
def warplaw8_awake.T3 : Bool × List (List Nat × List Nat) := (true, [([], []), ([0], [0]), ([1], [1]), ([2], [2]), ([3], [3]), ([4, 3], [3, 4]), ([5, 3], [3, 5]), ([3], [3]), ([6, 7, 3, 3], [3, 6, 7]), ([3, 8], [3, 8]), ([9, 8], [9]), ([10], [10]), ([11, 10], [10, 11]), ([12, 10], [10, 12]), ([10, 13], [10, 13]), ([14, 10], [14]), ([15], [15]), ([16, 15], [15, 16]), ([17, 15], [15, 17]), ([15], [15]), ([18, 19, 15], [15, 18, 19]), ([15, 20], [15, 20]), ([21, 15], [21]), ([22], [22]), ([23, 22], [22, 23]), ([22, 24], [22, 24]), ([25, 22], [25]), ([26], [26]), ([27, 26], [26, 27]), ([26, 28], [26, 28]), ([29, 26, 0, 1, 2, 3, 4, 5, 6, 7, 8, 9, 10, 11, 12, 13, 14, 15, 16, 17, 18, 19, 20, 21, 22, 23, 24, 25, 26, 27, 28, 29], [29])])
def warplaw8_awake.B3 : List Nat := [0, 1, 3, 7, 15, 31, 63, 15, 255, 511, 1023, 2047, 4095, 8191, 16383, 32767, 65535, 131071, 262143, 65535, 1048575, 2097151, 4194303, 8388607, 16777215, 33554431, 67108863, 134217727, 268435455, 536870911, 1073741823]
theorem warplaw8_awake.tab3 : rtab .any (opsOf Tryd.f8 3) = warplaw8_awake.T3 := by kernel_rfl
theorem warplaw8_awake.bits3 : waitsOk warplaw8_awake.T3.2 warplaw8_awake.B3 = true := by kernel_rfl
set_option maxHeartbeats 8000000 in
set_option maxRecDepth 100000 in
theorem warplaw8_awake.calls0 (k : Nat)  (r : Bool) (w : World) (h : warplaw8_awake.f k  = some r) (hT_ : Tab w := by first | exact hT_ | exact Tab.drewN hT_ _ | (refine Tab.below hT_ ?_; repeat (first | (with_reducible first | exact HB.out | apply below_alloc | apply pw_below_drewN | apply below_drew1) | exact HB.out))) (hr_ : r = true := by rfl) :
 Calls Tryd.prog 8 #[] w fun e w' => e = .returned (.bool r) ∧ Below w.heap.size w w' := by
 have hu26 := Tryd.underlying26
 have HB := Aside0.mk (Below.refl w.heap.size w)
 have H : ((table_Play.f (([(([(⟨(⟨#[97]⟩ : ByteArray), 1, 0⟩ : S26), (⟨(⟨#[97]⟩ : ByteArray), 1, 0⟩ : S26)] : List (S26)))] : List (List (S26)))) 5 3 ([] : List Int)).bind fun bt110 => (if (bt110.1.length : Int) = 1 then (if 0 < (bt110.1.length : Int) then ((warpref1_Ints.f k (rd_L4 bt110.1 0) (([0, 0] : List Int))).bind fun t122 => (if t122 = true then (if (bt110.2.1.length : Int) = 1 then (if 0 < (bt110.2.1.length : Int) then (if ((((rd_T26 bt110.2.1 0).f0).toList) == ([97] : List UInt8) && (((rd_T26 bt110.2.1 0).f1) == 1 && (((rd_T26 bt110.2.1 0).f2) == 0))) = true then (if bt110.2.2.1 = 6 then (some (bt110.2.2.2 == 0)) else (some false)) else (some false)) else (none)) else (some false)) else (some false))) else (none)) else (some false))) = some r := h
 clear h
 obtain ⟨y104, hy104⟩ : ∃ y_ : List (S26), y_ = (([(⟨(⟨#[97]⟩ : ByteArray), 1, 0⟩ : S26), (⟨(⟨#[97]⟩ : ByteArray), 1, 0⟩ : S26)] : List (S26))) := ⟨_, rfl⟩
 replace H : ((table_Play.f (([y104] : List (List (S26)))) 5 3 ([] : List Int)).bind fun bt110 => (if (bt110.1.length : Int) = 1 then (if 0 < (bt110.1.length : Int) then ((warpref1_Ints.f k (rd_L4 bt110.1 0) (([0, 0] : List Int))).bind fun t122 => (if t122 = true then (if (bt110.2.1.length : Int) = 1 then (if 0 < (bt110.2.1.length : Int) then (if ((((rd_T26 bt110.2.1 0).f0).toList) == ([97] : List UInt8) && (((rd_T26 bt110.2.1 0).f1) == 1 && (((rd_T26 bt110.2.1 0).f2) == 0))) = true then (if bt110.2.2.1 = 6 then (some (bt110.2.2.2 == 0)) else (some false)) else (some false)) else (none)) else (some false)) else (some false))) else (none)) else (some false))) = some r := by first | (rw [hy104]; with_reducible exact H) | (have H2_ := (Option.bind_some _ _).symm.trans H; rw [hy104]; with_reducible exact H2_) | (have H2_ := (Option.bind_some _ _).symm.trans H; with_reducible exact H2_) | with_reducible exact H | (rw [hy104]; exact H) | exact H
 have Ny104 := Aside0.mk hy104
 clear hy104
 obtain ⟨y107, hy107⟩ : ∃ y_ : List (List (S26)), y_ = (([y104] : List (List (S26)))) := ⟨_, rfl⟩
 replace H : ((table_Play.f y107 5 3 ([] : List Int)).bind fun bt110 => (if (bt110.1.length : Int) = 1 then (if 0 < (bt110.1.length : Int) then ((warpref1_Ints.f k (rd_L4 bt110.1 0) (([0, 0] : List Int))).bind fun t122 => (if t122 = true then (if (bt110.2.1.length : Int) = 1 then (if 0 < (bt110.2.1.length : Int) then (if ((((rd_T26 bt110.2.1 0).f0).toList) == ([97] : List UInt8) && (((rd_T26 bt110.2.1 0).f1) == 1 && (((rd_T26 bt110.2.1 0).f2) == 0))) = true then (if bt110.2.2.1 = 6 then (some (bt110.2.2.2 == 0)) else (some false)) else (some false)) else (none)) else (some false)) else (some false))) else (none)) else (some false))) = some r := by first | (rw [hy107]; with_reducible exact H) | (have H2_ := (Option.bind_some _ _).symm.trans H; rw [hy107]; with_reducible exact H2_) | (have H2_ := (Option.bind_some _ _).symm.trans H; with_reducible exact H2_) | with_reducible exact H | (rw [hy107]; exact H) | exact H
 have Ny107 := Aside0.mk hy107
 clear hy107
 replace H := Option.bind_eq_some_iff.mp H
 obtain ⟨⟨t110, t111, t112, t113⟩, A10, H⟩ := H
 replace H : (if (t110.length : Int) = 1 then (if 0 < (t110.length : Int) then ((warpref1_Ints.f k (rd_L4 t110 0) (([0, 0] : List Int))).bind fun t122 => (if t122 = true then (if (t111.length : Int) = 1 then (if 0 < (t111.length : Int) then (if ((((rd_T26 t111 0).f0).toList) == ([97] : List UInt8) && (((rd_T26 t111 0).f1) == 1 && (((rd_T26 t111 0).f2) == 0))) = true then (if t112 = 6 then (some (t113 == 0)) else (some false)) else (some false)) else (none)) else (some false)) else (some false))) else (none)) else (some false)) = some r := H
 have A1 := Aside0.mk A10
 clear A10
 by_cases c2 : (t110.length : Int) = 1
 ·
  rw [if_pos c2] at H
  have c2b0 : ((t110.length : Int) == 1) = true := beq_iff_eq.mpr c2
  have c2b1 : ((t110.length : Int) != 1) = false := bne_eq_false_iff_eq.mpr c2
  clear c2
  by_cases c3 : 0 < (t110.length : Int)
  ·
   rw [if_pos c3] at H
   have c3b0 : decide (0 < (t110.length : Int)) = true := decide_eq_true c3
   have c3b1 : decide (0 < t110.length) = true := decide_eq_true (by omega)
   clear c3
   obtain ⟨y119, hy119⟩ : ∃ y_ : List Int, y_ = (([0, 0] : List Int)) := ⟨_, rfl⟩
   replace H : ((warpref1_Ints.f k (rd_L4 t110 0) y119).bind fun t122 => (if t122 = true then (if (t111.length : Int) = 1 then (if 0 < (t111.length : Int) then (if ((((rd_T26 t111 0).f0).toList) == ([97] : List UInt8) && (((rd_T26 t111 0).f1) == 1 && (((rd_T26 t111 0).f2) == 0))) = true then (if t112 = 6 then (some (t113 == 0)) else (some false)) else (some false)) else (none)) else (some false)) else (some false))) = some r := by first | (rw [hy119]; with_reducible exact H) | (have H2_ := (Option.bind_some _ _).symm.trans H; rw [hy119]; with_reducible exact H2_) | (have H2_ := (Option.bind_some _ _).symm.trans H; with_reducible exact H2_) | with_reducible exact H | (rw [hy119]; exact H) | exact H
   have Ny119 := Aside0.mk hy119
   clear hy119
   replace H := Option.bind_eq_some_iff.mp H
   obtain ⟨t122, A40, H⟩ := H
   replace H : (if t122 = true then (if (t111.length : Int) = 1 then (if 0 < (t111.length : Int) then (if ((((rd_T26 t111 0).f0).toList) == ([97] : List UInt8) && (((rd_T26 t111 0).f1) == 1 && (((rd_T26 t111 0).f2) == 0))) = true then (if t112 = 6 then (some (t113 == 0)) else (some false)) else (some false)) else (none)) else (some false)) else (some false)) = some r := H
   have A4 := Aside0.mk A40
   clear A40
   by_cases c5 : t122 = true
   ·
    subst c5
    have H1 : (if (t111.length : Int) = 1 then (if 0 < (t111.length : Int) then (if ((((rd_T26 t111 0).f0).toList) == ([97] : List UInt8) && (((rd_T26 t111 0).f1) == 1 && (((rd_T26 t111 0).f2) == 0))) = true then (if t112 = 6 then (some (t113 == 0)) else (some false)) else (some false)) else (none)) else (some false)) = some r := by rw [if_pos rfl] at H; exact H
    clear H
    have H := H1
    clear H1
    by_cases c6 : (t111.length : Int) = 1
    ·
     rw [if_pos c6] at H
     have c6b0 : ((t111.length : Int) == 1) = true := beq_iff_eq.mpr c6
     have c6b1 : ((t111.length : Int) != 1) = false := bne_eq_false_iff_eq.mpr c6
     clear c6
     by_cases c7 : 0 < (t111.length : Int)
     ·
      rw [if_pos c7] at H
      have c7b0 : decide (0 < (t111.length : Int)) = true := decide_eq_true c7
      have c7b1 : decide (0 < t111.length) = true := decide_eq_true (by omega)
      clear c7
      by_cases c8 : ((((rd_T26 t111 0).f0).toList) == ([97] : List UInt8) && (((rd_T26 t111 0).f1) == 1 && (((rd_T26 t111 0).f2) == 0))) = true
      ·
       rw [if_pos c8] at H
       have c8b0 : ((((rd_T26 t111 0).f0).toList) == ([97] : List UInt8) && (((rd_T26 t111 0).f1) == 1 && (((rd_T26 t111 0).f2) == 0))) = true := c8
       (try (have c8b1 : decide ((((rd_T26 t111 0).f0).toList) = ([97] : List UInt8) && (((rd_T26 t111 0).f1) == 1 && (((rd_T26 t111 0).f2) == 0))) = true := by simpa using c8))
       (try (have c8b2 : ((((rd_T26 t111 0).f0).toList) == ([97] : List UInt8) && (((rd_T26 t111 0).f1) == 1 && (((rd_T26 t111 0).f2) == 0))) = true := by simpa using c8))
       clear c8
       by_cases c9 : t112 = 6
       ·
        rw [if_pos c9] at H
        have c9b0 : (t112 == 6) = true := beq_iff_eq.mpr c9
        have c9b1 : (t112 != 6) = false := bne_eq_false_iff_eq.mpr c9
        clear c9
        obtain rfl := Option.some.inj H
        go_enter Tryd.func8, Tryd.ntmps8
        try go_wp2_with (first | ((with_reducible refine gate_dst (N := 1) rfl ?_); (try (refine gate_guard (by rfl) ?_; dsimp only)); refine box_event ?hg (N := 1) ?hd (cs := #[.string (⟨#[]⟩ : ByteArray), .int .i64 0, .int .i64 0]) (t := 26) ?hr ?_; (case hd => rfl); (case hg => rfl); (case hr => first | (go_simp; done) | (go_simp; rfl)); intro gb103 hg w10 hbox hb; have n0_ := Aside0.mk (below_step (by repeat (first | (with_reducible first | exact HB.out | apply below_alloc | apply pw_below_drewN | apply below_drew1) | exact HB.out)) hb); have n1_ := Aside0.mk (hbox); have n2_ := Aside0.mk ((by rw [hg]; exact (below_size (by repeat (first | (with_reducible first | exact HB.out | apply below_alloc | apply pw_below_drewN | apply below_drew1) | exact HB.out))) : w.heap.size ≤ gb103)); have n3_ := Aside0.mk ((by rw [hg]; exact (below_size (by repeat (first | (with_reducible first | exact HB.out | apply below_alloc | apply pw_below_drewN | apply below_drew1) | exact HB.out))) : w.heap.size ≤ gb103)); clear HB; have HB := n0_; have BK103 := n1_; have GW103 := n2_; have GE103 := n3_; clear n0_ n1_ n2_ n3_; clear hb hbox hg; have hcz11_0 : w10.cell? ⟨gb103, 0, none⟩ = some (.string (⟨#[]⟩ : ByteArray)) := (blk_cell BK103.out 0).trans rfl; have hcz11_1 : w10.cell? ⟨gb103, 1, none⟩ = some (.int .i64 0) := (blk_cell BK103.out 1).trans rfl; have hcz11_2 : w10.cell? ⟨gb103, 2, none⟩ = some (.int .i64 0) := (blk_cell BK103.out 2).trans rfl; have hfz11_0 := blk_frozen BK103.out 0; have hfz11_1 := blk_frozen BK103.out 1; have hfz11_2 := blk_frozen BK103.out 2) | ((with_reducible refine gate_dst (N := 10) rfl ?_); (try (refine gate_guard (by rfl) ?_; dsimp only)); refine Kd.R_lit k26 _ 26 ?hg (N := 10) ?hd (xs := ([(⟨(⟨#[97]⟩ : ByteArray), 1, 0⟩ : S26), (⟨(⟨#[97]⟩ : ByteArray), 1, 0⟩ : S26)] : List (S26))) (inner := [.string (⟨#[97]⟩ : ByteArray), .int .i64 1, .int .i64 0, .string (⟨#[97]⟩ : ByteArray), .int .i64 1, .int .i64 0]) (ok := fun _ => True) (okp := fun _ => True) ?hr ?hp (fun _ hk => hk) trivial (Below.refl _ _) (Nat.le_refl _) (by simp) ?_; (case hd => rfl); (case hg => rfl); (case hr => first | (go_simp; done) | (go_simp; rfl)); (case hp => exact (Reps.c3 (show Kd.M k26 _ _ _ (⟨(⟨#[97]⟩ : ByteArray), 1, 0⟩ : S26) [.string (⟨#[97]⟩ : ByteArray), .int .i64 1, .int .i64 0] from (k26_mkM _ _ _ (⟨(⟨#[97]⟩ : ByteArray), 1, 0⟩ : S26) )) (Reps.c3 (show Kd.M k26 _ _ _ (⟨(⟨#[97]⟩ : ByteArray), 1, 0⟩ : S26) [.string (⟨#[97]⟩ : ByteArray), .int .i64 1, .int .i64 0] from (k26_mkM _ _ _ (⟨(⟨#[97]⟩ : ByteArray), 1, 0⟩ : S26) )) (Reps.none _ _)))); intro v105 w12 ho13 hb hg_ hnew_; clear hg_ hnew_; (first | rw [← Ny104.out] at ho13 | (simp only [Int.reduceToNat] at ho13; rw [← Ny104.out] at ho13)); have n0_ := Aside0.mk (Kd.R_lower (Kd.R_newB ho13 (g := gb103) (o := .cells #[.string (⟨#[97]⟩ : ByteArray), .int .i64 1, .int .i64 0] 26 (0, 0)) (by (with_reducible repeat (first | refine blk_drewN ?_ _ | refine blk_drew ?_ | refine blk_alloc ?_ _)); refine blk_put (cs := #[.string (⟨#[97]⟩ : ByteArray), .int .i64 1, .int .i64 0]) ?_ 2 _ rfl; (with_reducible repeat (first | refine blk_drewN ?_ _ | refine blk_drew ?_ | refine blk_alloc ?_ _)); refine blk_put (cs := #[.string (⟨#[97]⟩ : ByteArray), .int .i64 0, .int .i64 0]) ?_ 1 _ rfl; (with_reducible repeat (first | refine blk_drewN ?_ _ | refine blk_drew ?_ | refine blk_alloc ?_ _)); refine blk_put (cs := #[.string (⟨#[]⟩ : ByteArray), .int .i64 0, .int .i64 0]) ?_ 0 _ rfl; (with_reducible repeat (first | refine blk_drewN ?_ _ | refine blk_drew ?_ | refine blk_alloc ?_ _)); exact BK103.out)) (below_size (by repeat (first | (with_reducible first | exact HB.out | apply below_alloc | apply pw_below_drewN | apply below_drew1 | refine below_set ?_ GE103.out) | exact HB.out)))); have n1_ := Aside0.mk (blk_below (g := gb103) (o := .cells #[.string (⟨#[97]⟩ : ByteArray), .int .i64 1, .int .i64 0] 26 (0, 0)) (by (with_reducible repeat (first | refine blk_drewN ?_ _ | refine blk_drew ?_ | refine blk_alloc ?_ _)); refine blk_put (cs := #[.string (⟨#[97]⟩ : ByteArray), .int .i64 1, .int .i64 0]) ?_ 2 _ rfl; (with_reducible repeat (first | refine blk_drewN ?_ _ | refine blk_drew ?_ | refine blk_alloc ?_ _)); refine blk_put (cs := #[.string (⟨#[97]⟩ : ByteArray), .int .i64 0, .int .i64 0]) ?_ 1 _ rfl; (with_reducible repeat (first | refine blk_drewN ?_ _ | refine blk_drew ?_ | refine blk_alloc ?_ _)); refine blk_put (cs := #[.string (⟨#[]⟩ : ByteArray), .int .i64 0, .int .i64 0]) ?_ 0 _ rfl; (with_reducible repeat (first | refine blk_drewN ?_ _ | refine blk_drew ?_ | refine blk_alloc ?_ _)); exact BK103.out) hb); have n2_ := Aside0.mk (below_step (by repeat (first | (with_reducible first | exact HB.out | apply below_alloc | apply pw_below_drewN | apply below_drew1 | refine below_set ?_ GE103.out) | exact HB.out)) hb); clear BK103; clear HB; have HO106 := n0_; have BK103 := n1_; have HB := n2_; clear n0_ n1_ n2_; clear hb ho13; obtain ⟨Ao14, co14, eo14⟩ := Kd.R_slice HO106.out; subst eo14) | ((with_reducible refine gate_dst (N := 11) rfl ?_); (try (refine gate_guard (by rfl) ?_; dsimp only)); refine Kd.N_lit (Kd.slice 26 k26) _ 24 ?hg (N' := 11) ?hd (xs := ([y104] : List (List (S26)))) (inner := [.slice Ao14 y104.length co14]) (ok := (fun k_ => k_ ≠ gb103)) (okp := (fun k_ => k_ ≠ gb103)) ?hr ?hp (fun _ hk => hk) ((show ∀ k_, w12.heap.size ≤ k_ → (fun k_ => k_ ≠ gb103) k_ from fun k_ hk => Kd.freshB (g := gb103) (o := .cells #[.string (⟨#[97]⟩ : ByteArray), .int .i64 1, .int .i64 0] 26 (0, 0)) (by (with_reducible repeat (first | refine blk_drewN ?_ _ | refine blk_drew ?_ | refine blk_alloc ?_ _)); exact BK103.out) k_ hk) _ (Nat.le_refl _)) (Below.refl _ _) (Nat.le_refl _) (by simp) ?_; (case hd => rfl); (case hg => rfl); (case hr => first | (go_simp; done) | (go_simp; rfl)); (case hp => exact (Reps.one (show Kd.FK (Kd.slice 26 k26) _ _ y104 [.slice Ao14 y104.length co14] from (Kd.FK_slice_mk (Kd.R_reads' (Kd.R_mono (ok' := (fun k_ => k_ ≠ gb103)) (HO106.out) (fun k_ hk => hk.2))).2.1 (Kd.R_F (Kd.R_mono (ok' := (fun k_ => k_ ≠ gb103)) (HO106.out) (fun k_ hk => hk.2))))) (Reps.none _ _))); intro v108 w15 ho16 hb hg_ hnew_; clear hg_ hnew_; (first | rw [← Ny107.out] at ho16 | (simp only [Int.reduceToNat] at ho16; rw [← Ny107.out] at ho16)); have n0_ := Aside0.mk (Kd.N_lower ho16 (below_size (by repeat (first | (with_reducible first | exact HB.out | apply below_alloc | apply pw_below_drewN | apply below_drew1 | refine below_set ?_ GE103.out) | exact HB.out)))); have n1_ := Aside0.mk (blk_below (g := gb103) (o := .cells #[.string (⟨#[97]⟩ : ByteArray), .int .i64 1, .int .i64 0] 26 (0, 0)) (by (with_reducible repeat (first | refine blk_drewN ?_ _ | refine blk_drew ?_ | refine blk_alloc ?_ _)); exact BK103.out) hb); have n2_ := Aside0.mk (below_step (by repeat (first | (with_reducible first | exact HB.out | apply below_alloc | apply pw_below_drewN | apply below_drew1 | refine below_set ?_ GE103.out) | exact HB.out)) hb); clear BK103; clear HB; clear HO106; have HO109 := n0_; have BK103 := n1_; have HB := n2_; clear n0_ n1_ n2_; clear hb ho16; obtain ⟨Ao17, co17, eo17⟩ := Kd.N_slice HO109.out; subst eo17) | ((with_reducible refine gate_callee (f := 9) rfl ?_); refine goesL_ (some 12) rfl rfl Tryd.func9 (by kernel_rfl) rfl #[.slice Ao17 y107.length co17, .int .i64 5, .int .i64 3, .slice none 0 0] rfl (by (try simp only [List.map_toArray, List.map_cons, List.map_nil]); first | done | rfl | (simp only [List.length_drop, List.length_take]; rfl)) ?_; (refine (table_Play.calls _ _ y107 5 3 _ _ ([] : List Int) t110 t111 t112 t113 _ ?side1 ?side2 ?side3 ?side4 A1.out).mono ?_); (case side1 => repeat (first | exact (Kd.N_reads' HO109.out).2.2 | (with_reducible refine Kd.C_alloc ?_ _) | (with_reducible refine Kd.C_drewN ?_ _) | (with_reducible refine Kd.C_drew ?_))); (case side2 => exact (Kd.N_reads' HO109.out).2.1); (case side3 => exact Kd.C_nil _ _); (case side4 => exact Nat.le_refl _); rintro e w18 ⟨v114, v116, rfl, ho0, ho1, hb⟩; refine ⟨_, rfl, ?_⟩; have n0_ := Aside0.mk (Kd.N_mono (Kd.N_told (Kd.N_told (Kd.N_old (by (with_reducible repeat (first | apply Kd.N_alloc | apply Kd.N_drewN | apply Kd.N_drew)); exact HO109.out) hb) (Kd.S_base ho0)) (Kd.R_base ho1)) (fun _ h_ => h_.1)); have n1_ := Aside0.mk (Kd.N_lower (Kd.N_mono (ok' := fun k_ => some k_ ≠ (v116 : Value).ownBlock ∧ some k_ ≠ (.slice Ao17 y107.length co17 : Value).ownBlock ∧ k_ ≠ gb103) (Kd.S_N (Kd.S_bound (Kd.S_apart' ho0 (Kd.R_typed ho1) (by decide)))) (fun k_ hk_ => ⟨hk_.1.2, (Kd.fresh' (Kd.N_lt (by (with_reducible repeat (first | apply Kd.N_alloc | apply Kd.N_drewN | apply Kd.N_drew)); exact HO109.out)) k_ hk_.2.1), (Kd.freshB (g := gb103) (o := .cells #[.string (⟨#[97]⟩ : ByteArray), .int .i64 1, .int .i64 0] 26 (0, 0)) (by (with_reducible repeat (first | refine blk_drewN ?_ _ | refine blk_drew ?_ | refine blk_alloc ?_ _)); exact BK103.out) k_ hk_.2.1)⟩)) (below_size (by repeat (first | (with_reducible first | exact HB.out | apply below_alloc | apply pw_below_drewN | apply below_drew1 | refine below_set ?_ GE103.out) | exact HB.out)))); have n2_ := Aside0.mk (Kd.R_lower (Kd.R_newB ho1 (g := gb103) (o := .cells #[.string (⟨#[97]⟩ : ByteArray), .int .i64 1, .int .i64 0] 26 (0, 0)) (by (with_reducible repeat (first | refine blk_drewN ?_ _ | refine blk_drew ?_ | refine blk_alloc ?_ _)); exact BK103.out)) (below_size (by repeat (first | (with_reducible first | exact HB.out | apply below_alloc | apply pw_below_drewN | apply below_drew1 | refine below_set ?_ GE103.out) | exact HB.out)))); have n3_ := Aside0.mk (blk_below (g := gb103) (o := .cells #[.string (⟨#[97]⟩ : ByteArray), .int .i64 1, .int .i64 0] 26 (0, 0)) (by (with_reducible repeat (first | refine blk_drewN ?_ _ | refine blk_drew ?_ | refine blk_alloc ?_ _)); exact BK103.out) hb); have n4_ := Aside0.mk (below_step (by repeat (first | (with_reducible first | exact HB.out | apply below_alloc | apply pw_below_drewN | apply below_drew1 | refine below_set ?_ GE103.out) | exact HB.out)) hb); clear HO109; clear BK103; clear HB; have HO109 := n0_; have HO115 := n1_; have HO117 := n2_; have BK103 := n3_; have HB := n4_; clear n0_ n1_ n2_ n3_ n4_; (try clear hb); (try clear hb2); (try clear hk); (try clear hi); (try clear ho0); (try clear ho1)))
        have n0_ := Aside0.mk (Kd.N_drew HO109.out)
        have n1_ := Aside0.mk (Kd.N_drew HO115.out)
        have n2_ := Aside0.mk (Kd.R_drew HO117.out)
        have n3_ := Aside0.mk (blk_drew BK103.out)
        have n4_ := Aside0.mk (below_drew1 HB.out)
        clear HO109
        clear HO115
        clear HO117
        clear BK103
        clear HB
        have HO109 := n0_
        have HO115 := n1_
        have HO117 := n2_
        have BK103 := n3_
        have HB := n4_
        clear n0_ n1_ n2_ n3_ n4_
        obtain ⟨Ao20, co20, eo20⟩ := Kd.N_slice HO115.out
        (first | subst eo20 | (injection eo20 with f1_ f2_ f3_; have f4_ := f1_.symm; have f5_ := f3_.symm; clear f1_ f2_ f3_; subst f4_; subst f5_))
        have p118 : 0 ≤ (0 : Int) := (by omega)
        have q118 : 0 < (t110.length : Int) := of_decide_eq_true (by first | (with_reducible assumption) | assumption)
        obtain ⟨ad118, A118_0, c118_0, e118, hx118_0, hl118_0, hi118_0⟩ := at_L4 (Kd.N_reads' HO115.out).2.2 0 p118 q118
        cases e118
        obtain ⟨ce118, hce118, hMe118, hcc118⟩ := Kd.N_get HO115.out [] 0 p118 (by first | exact q118 | exact of_decide_eq_true (by first | (with_reducible assumption) | assumption) | (have e_ := (Kd.N_reads' HO115.out).1; omega))
        obtain ⟨ua118_0, uc118_0, rfl, ul118_0, ge118_0⟩ := Kd.FK_slice_open hMe118
        have hv118_0 := hcc118 0 _ rfl
        rw [Nat.add_zero, show ((Kd.slice 3 (Kd.int .i64))).sz = 1 from rfl, Nat.mul_one] at hv118_0
        replace hv118_0 := Option.some.inj (hv118_0.symm.trans hx118_0)
        injection hv118_0 with hva_ hvn_ hvc_
        rw [hva_] at ge118_0
        rw [hvc_] at ul118_0
        have HL118_0 := Aside0.mk (show Kd.V (Kd.int .i64) 3 _ w.heap.size _ _ (rd_L4 t110 0) from Kd.V_mk ul118_0 ge118_0)
        clear hva_ hvn_ hvc_ ge118_0 ul118_0
        clear hcc118 hce118
        have qi118 : (0 < t110.length) = True := eq_true (by omega)
        (try rw [show ((0 : Int)).toNat = 0 from rfl] at hx118_0)
        (try rw [Addr.add_zero'] at hx118_0)
        have HR118_0 := Aside0.mk hi118_0
        have HC118_0 := Aside0.mk hl118_0
        clear hi118_0 hl118_0
        replace p118 := eq_true p118
        replace q118 := eq_true q118
        have p123 : 0 ≤ (0 : Int) := (by omega)
        have q123 : 0 < (t111.length : Int) := of_decide_eq_true (by first | (with_reducible assumption) | assumption)
        obtain ⟨Ao_v116, co_v116, eo_v116⟩ := Kd.R_slice HO117.out
        subst eo_v116
        obtain ⟨ad123, e123, hx123_0, hx123_1, hx123_2⟩ := at_T26 (Kd.R_reads' HO117.out).2.2 0 p123 q123
        cases e123
        have qi123 : (0 < t111.length) = True := eq_true (by omega)
        (try rw [show ((0 : Int)).toNat = 0 from rfl] at hx123_0)
        (try rw [show 0 * 3 = 0 from rfl] at hx123_0)
        (try rw [Addr.add_zero'] at hx123_0)
        (try rw [show ((0 : Int)).toNat = 0 from rfl] at hx123_1)
        (try rw [show 0 * 3 = 0 from rfl] at hx123_1)
        (try rw [Addr.add_zero'] at hx123_1)
        (try rw [show ((0 : Int)).toNat = 0 from rfl] at hx123_2)
        (try rw [show 0 * 3 = 0 from rfl] at hx123_2)
        (try rw [Addr.add_zero'] at hx123_2)
        replace p123 := eq_true p123
        replace q123 := eq_true q123
        refine start_ (n := 31) (S := fun w' => w'.cell? ⟨gb103, 0, none⟩ = some (.string (⟨#[97]⟩ : ByteArray)) ∧ w'.cell? ⟨gb103, 1, none⟩ = some (.int .i64 1) ∧ w'.cell? ⟨gb103, 2, none⟩ = some (.int .i64 0) ∧ w'.cell? ad118 = some (.slice A118_0 (rd_L4 t110 0).length c118_0) ∧ w'.cell? ad123 = some (.string ((rd_T26 t111 0).f0)) ∧ w'.cell? ⟨ad123.block, ad123.off + 1, none⟩ = some (.int .i64 ((rd_T26 t111 0).f1)) ∧ w'.cell? ⟨ad123.block, ad123.off + 2, none⟩ = some (.int .i64 ((rd_T26 t111 0).f2))) (ds := []) #[false, false, false, false, false, false, false, false, false, false, false, false, false, false, false, false, false, false, false, false, false, false, false, false, false, false, false, false, false, false, false] (by kernel_rfl) rfl rfl ⟨(blk_cell BK103.out 0).trans rfl, (blk_cell BK103.out 1).trans rfl, (blk_cell BK103.out 2).trans rfl, hx118_0, hx123_0, hx123_1, hx123_2⟩ (fun hHeld => ?_); refine with_tabW warplaw8_awake.tab3 warplaw8_awake.bits3 (fun HT_ HW_ => ?_)
        generalize w18.drew = w19 at HO109 HO115 HO117 BK103 HB HL118_0 HR118_0 hx118_0 hx123_0 hx123_1 hx123_2 hHeld ⊢
        refine pure_ (i := 0) (N := some 17) (v := ?_) (a' := ?_) #[true, false, false, false, false, false, false, false, false, false, false, false, false, false, false, false, false, false, false, false, false, false, false, false, false, false, false, false, false, false, false] rfl rfl (any_of HT_.out (by kernel_rfl)) (fun _ _ _ h => h) (Or.inl ⟨by rfl, ?_⟩) ?_ ?_
        rotate_left
        ·
         intro w'
         go_simp
         with_reducible rfl
        rotate_left
        ·
         simp only [Act.put, List.setIfInBounds_toArray, List.set_cons_zero, List.set_cons_succ, i64_w, i32_w]
         rfl
        refine pure_ (i := 1) (N := some 18) (v := ?_) (a' := ?_) #[true, true, false, false, false, false, false, false, false, false, false, false, false, false, false, false, false, false, false, false, false, false, false, false, false, false, false, false, false, false, false] rfl rfl (any_of HT_.out (by kernel_rfl)) (fun _ _ _ h => h) (Or.inl ⟨by rfl, ?_⟩) ?_ ?_
        rotate_left
        ·
         intro w'
         go_simp
         with_reducible rfl
        rotate_left
        ·
         simp only [Act.put, List.setIfInBounds_toArray, List.set_cons_zero, List.set_cons_succ, i64_w, i32_w]
         rfl
        refine pure_ (i := 2) (N := some 19) (v := ?_) (a' := ?_) #[true, true, true, false, false, false, false, false, false, false, false, false, false, false, false, false, false, false, false, false, false, false, false, false, false, false, false, false, false, false, false] rfl rfl (any_of HT_.out (by kernel_rfl)) (fun _ _ _ h => h) (Or.inl ⟨by rfl, ?_⟩) ?_ ?_
        rotate_left
        ·
         intro w'
         go_simp
         with_reducible rfl
        rotate_left
        ·
         simp only [Act.put, List.setIfInBounds_toArray, List.set_cons_zero, List.set_cons_succ, i64_w, i32_w]
         rfl
        refine pure_ (i := 3) (N := some 20) (v := ?_) (a' := ?_) #[true, true, true, true, false, false, false, false, false, false, false, false, false, false, false, false, false, false, false, false, false, false, false, false, false, false, false, false, false, false, false] rfl rfl (any_of HT_.out (by kernel_rfl)) (fun _ _ _ h => h) (Or.inl ⟨by rfl, ?_⟩) ?_ ?_
        rotate_left
        ·
         intro w'
         go_simp
         with_reducible rfl
        rotate_left
        ·
         simp only [Act.put, List.setIfInBounds_toArray, List.set_cons_zero, List.set_cons_succ, i64_w, i32_w]
         rfl
        refine pure_ (i := 4) (N := some 21) (v := ?_) (a' := ?_) #[true, true, true, true, true, false, false, false, false, false, false, false, false, false, false, false, false, false, false, false, false, false, false, false, false, false, false, false, false, false, false] rfl rfl (any_of HT_.out (by kernel_rfl)) (fun _ _ _ h => h) (Or.inl ⟨by rfl, ?_⟩) ?_ ?_
        rotate_left
        ·
         intro w'
         go_simp
         with_reducible rfl
        rotate_left
        ·
         simp only [Act.put, List.setIfInBounds_toArray, List.set_cons_zero, List.set_cons_succ, i64_w, i32_w]
         rfl
        refine pure_ (i := 5) (N := some 22) (v := ?_) (a' := ?_) #[true, true, true, true, true, true, false, false, false, false, false, false, false, false, false, false, false, false, false, false, false, false, false, false, false, false, false, false, false, false, false] rfl rfl (any_of HT_.out (by kernel_rfl)) (fun _ _ _ h => h) (Or.inl ⟨by rfl, ?_⟩) ?_ ?_
        rotate_left
        ·
         intro w'
         go_simp
         with_reducible rfl
        rotate_left
        ·
         simp only [Act.put, List.setIfInBounds_toArray, List.set_cons_zero, List.set_cons_succ, i64_w, i32_w]
         rfl
        refine take_ (i := 6) (N := some 23) (v := ?_) (a' := ?_) #[true, true, true, true, true, true, true, false, false, false, false, false, false, false, false, false, false, false, false, false, false, false, false, false, false, false, false, false, false, false, false] rfl rfl (take_ofW HT_.out HW_.out (by kernel_rfl)) (fun _ _ _ h => h) (Or.inl ⟨by rfl, ?_⟩) hHeld ?_ ?_
        rotate_left
        ·
         rintro w' ⟨s0, s1, s2, s3, s4, s5, s6⟩
         go_simp
         with_reducible rfl
        rotate_left
        ·
         simp only [Act.put, List.setIfInBounds_toArray, List.set_cons_zero, List.set_cons_succ, i64_w, i32_w]
         rfl
        refine one_ (i := 7) (N := some 24) #[true, true, true, true, true, true, true, true, false, false, false, false, false, false, false, false, false, false, false, false, false, false, false, false, false, false, false, false, false, false, false] rfl rfl (one_of HT_.out (by kernel_rfl)) (by decide) (fun K hK => ?_)
        refine Kd.R_lit_step (Kd.int .i64) _ 3 ?hg (N := 24) ?hd (xs := ([0, 0] : List Int)) (inner := [.int .i64 0, .int .i64 0]) (ok := fun _ => True) (okp := fun _ => True) ?hr ?hp (fun _ hk => hk) trivial (Below.refl _ _) (Nat.le_refl _) (by simp) ?_; (case hd => rfl); (case hg => rfl); (case hr => first | (go_simp; done) | (go_simp; rfl)); (case hp => exact (Reps.one (show Kd.M (Kd.int .i64) _ _ _ 0 [.int .i64 0] from rfl) (Reps.one (show Kd.M (Kd.int .i64) _ _ _ 0 [.int .i64 0] from rfl) (Reps.none _ _))))
        intro v120 w21 ho22 hb hg_ hnew_
        have HS3_ := (hb.cell (World.block_lt_of_cell? _ _ (hHeld.2.2.2.1))).trans (hHeld.2.2.2.1)
        have HS4_ := (hb.cell (World.block_lt_of_cell? _ _ (hHeld.2.2.2.2.1))).trans (hHeld.2.2.2.2.1)
        have HS5_ := (hb.cell (World.block_lt_of_cell? _ _ (hHeld.2.2.2.2.2.1))).trans (hHeld.2.2.2.2.2.1)
        have HS6_ := (hb.cell (World.block_lt_of_cell? _ _ (hHeld.2.2.2.2.2.2))).trans (hHeld.2.2.2.2.2.2)
        clear hg_ hnew_
        (first | rw [← Ny119.out] at ho22 | (simp only [Int.reduceToNat] at ho22; rw [← Ny119.out] at ho22))
        have n0_ := Aside0.mk (Kd.N_elder' (by (with_reducible repeat (first | apply Kd.N_alloc | apply Kd.N_drewN | apply Kd.N_drew)); exact HO109.out) (Kd.R_base ho22) hb)
        have n1_ := Aside0.mk (Kd.N_elder' (by (with_reducible repeat (first | apply Kd.N_alloc | apply Kd.N_drewN | apply Kd.N_drew)); exact HO115.out) (Kd.R_base ho22) hb)
        have n2_ := Aside0.mk (Kd.R_below (by (with_reducible repeat (first | apply Kd.R_alloc | apply Kd.R_drewN | apply Kd.R_drew)); exact HO117.out) hb)
        have n3_ := Aside0.mk (Kd.V_elder' (by (with_reducible repeat (first | apply Kd.V_alloc | apply Kd.V_drewN | apply Kd.V_drew)); exact HL118_0.out) (Kd.R_base ho22) hb)
        have n4_ := Aside0.mk (Kd.R_lower ho22 (below_size (by repeat (first | (with_reducible first | exact HB.out | apply below_alloc | apply pw_below_drewN | apply below_drew1 | refine below_set ?_ GE103.out) | exact HB.out))))
        have n5_ := Aside0.mk (blk_below (g := gb103) (o := .cells #[.string (⟨#[97]⟩ : ByteArray), .int .i64 1, .int .i64 0] 26 (0, 0)) (by (with_reducible repeat (first | refine blk_drewN ?_ _ | refine blk_drew ?_ | refine blk_alloc ?_ _)); exact BK103.out) hb)
        have n6_ := Aside0.mk (Kd.C_below (by repeat (first | (with_reducible exact HR118_0.out) | (with_reducible refine Kd.C_alloc ?_ _) | (with_reducible refine Kd.C_drewN ?_ _) | (with_reducible refine Kd.C_drew ?_) | exact HR118_0.out)) hb)
        have n7_ := Aside0.mk (below_step (by repeat (first | (with_reducible first | exact HB.out | apply below_alloc | apply pw_below_drewN | apply below_drew1 | refine below_set ?_ GE103.out) | exact HB.out)) hb)
        clear HO109
        clear HO115
        clear HO117
        clear HL118_0
        clear BK103
        clear HR118_0
        clear HB
        have HO109 := n0_
        have HO115 := n1_
        have HO117 := n2_
        have HL118_0 := n3_
        have HO121 := n4_
        have BK103 := n5_
        have HR118_0 := n6_
        have HB := n7_
        clear n0_ n1_ n2_ n3_ n4_ n5_ n6_ n7_
        clear hb ho22
        obtain ⟨Ao23, co23, eo23⟩ := Kd.R_slice HO121.out
        (first | subst eo23 | (injection eo23 with f1_ f2_ f3_; have f4_ := f1_.symm; have f5_ := f3_.symm; clear f1_ f2_ f3_; subst f4_; subst f5_))
        refine hK.out _ _ ⟨(blk_cell BK103.out 0).trans rfl, (blk_cell BK103.out 1).trans rfl, (blk_cell BK103.out 2).trans rfl, HS3_, HS4_, HS5_, HS6_⟩ (fun hHeld => ?_)
        clear hK K
        refine norm_ (a' := ?_) ?_ ?_
        rotate_left
        ·
         show Act.put _ (some 24) _ = _
         simp only [Act.put, List.setIfInBounds_toArray, List.set_cons_zero, List.set_cons_succ, i64_w, i32_w]
         rfl
        refine one_ (i := 8) (N := some 25) #[true, true, true, true, true, true, true, true, true, false, false, false, false, false, false, false, false, false, false, false, false, false, false, false, false, false, false, false, false, false, false] rfl rfl (one_of HT_.out (by kernel_rfl)) (by decide) (fun K hK => ?_)
        refine goes_ Tryd.func14 (by kernel_rfl) rfl #[.slice A118_0 (rd_L4 t110 0).length c118_0, .slice Ao23 y119.length co23] (by rfl) rfl rfl (by (try simp only [List.map_toArray, List.map_cons, List.map_nil]); first | done | rfl | (simp only [List.length_drop, List.length_take]; rfl)) ?_
        with_reducible refine (warpref1_Ints.calls k _ _ (rd_L4 t110 0) _ _ y119 true _ ?side1 ?side2 ?side3 ?side4 A4.out).mono ?_
        (case side1 => repeat (first | exact (by repeat (first | (with_reducible exact HR118_0.out) | (with_reducible refine Kd.C_alloc ?_ _) | (with_reducible refine Kd.C_drewN ?_ _) | (with_reducible refine Kd.C_drew ?_) | exact HR118_0.out)) | (with_reducible refine Kd.C_alloc ?_ _) | (with_reducible refine Kd.C_drewN ?_ _) | (with_reducible refine Kd.C_drew ?_)))
        (case side2 => exact HC118_0.out)
        (case side3 => repeat (first | exact (Kd.R_reads' HO121.out).2.2 | (with_reducible refine Kd.C_alloc ?_ _) | (with_reducible refine Kd.C_drewN ?_ _) | (with_reducible refine Kd.C_drew ?_)))
        (case side4 => exact (Kd.R_reads' HO121.out).2.1)
        rintro e w' ⟨rfl, ⟨nd, rfl⟩⟩
        refine ⟨_, rfl, ?_⟩
        obtain ⟨Ao24, co24, eo24⟩ := Kd.R_slice HO117.out
        (first | subst eo24 | (injection eo24 with f1_ f2_ f3_; have f4_ := f1_.symm; have f5_ := f3_.symm; clear f1_ f2_ f3_; subst f4_; subst f5_))
        refine hK.out _ _ ⟨(blk_cell BK103.out 0).trans rfl, (blk_cell BK103.out 1).trans rfl, (blk_cell BK103.out 2).trans rfl, hHeld.2.2.2.1, hHeld.2.2.2.2.1, hHeld.2.2.2.2.2.1, hHeld.2.2.2.2.2.2⟩ (fun hHeld => ?_)
        clear hK K
        refine norm_ (a' := ?_) ?_ ?_
        rotate_left
        ·
         show Act.put _ (some 25) _ = _
         simp only [Act.put, List.setIfInBounds_toArray, List.set_cons_zero, List.set_cons_succ, i64_w, i32_w]
         rfl
        refine pure_ (i := 9) (N := some 26) (v := ?_) (a' := ?_) #[true, true, true, true, true, true, true, true, true, true, false, false, false, false, false, false, false, false, false, false, false, false, false, false, false, false, false, false, false, false, false] rfl rfl (any_of HT_.out (by kernel_rfl)) (fun _ _ _ h => h) (Or.inl ⟨by rfl, ?_⟩) ?_ ?_
        rotate_left
        ·
         intro w'
         go_simp
         with_reducible rfl
        rotate_left
        ·
         simp only [Act.put, List.setIfInBounds_toArray, List.set_cons_zero, List.set_cons_succ, i64_w, i32_w]
         rfl
        refine pure_ (i := 10) (N := some 27) (v := ?_) (a' := ?_) #[true, true, true, true, true, true, true, true, true, true, true, false, false, false, false, false, false, false, false, false, false, false, false, false, false, false, false, false, false, false, false] rfl rfl (any_of HT_.out (by kernel_rfl)) (fun _ _ _ h => h) (Or.inl ⟨by rfl, ?_⟩) ?_ ?_
        rotate_left
        ·
         intro w'
         go_simp
         with_reducible rfl
        rotate_left
        ·
         simp only [Act.put, List.setIfInBounds_toArray, List.set_cons_zero, List.set_cons_succ, i64_w, i32_w]
         rfl
        refine pure_ (i := 11) (N := some 28) (v := ?_) (a' := ?_) #[true, true, true, true, true, true, true, true, true, true, true, true, false, false, false, false, false, false, false, false, false, false, false, false, false, false, false, false, false, false, false] rfl rfl (any_of HT_.out (by kernel_rfl)) (fun _ _ _ h => h) (Or.inl ⟨by rfl, ?_⟩) ?_ ?_
        rotate_left
        ·
         intro w'
         go_simp
         with_reducible rfl
        rotate_left
        ·
         simp only [Act.put, List.setIfInBounds_toArray, List.set_cons_zero, List.set_cons_succ, i64_w, i32_w]
         rfl
        refine pure_ (i := 12) (N := some 29) (v := ?_) (a' := ?_) #[true, true, true, true, true, true, true, true, true, true, true, true, true, false, false, false, false, false, false, false, false, false, false, false, false, false, false, false, false, false, false] rfl rfl (any_of HT_.out (by kernel_rfl)) (fun _ _ _ h => h) (Or.inl ⟨by rfl, ?_⟩) ?_ ?_
        rotate_left
        ·
         intro w'
         go_simp
         with_reducible rfl
        rotate_left
        ·
         simp only [Act.put, List.setIfInBounds_toArray, List.set_cons_zero, List.set_cons_succ, i64_w, i32_w]
         rfl
        refine pure_ (i := 13) (N := some 30) (v := ?_) (a' := ?_) #[true, true, true, true, true, true, true, true, true, true, true, true, true, true, false, false, false, false, false, false, false, false, false, false, false, false, false, false, false, false, false] rfl rfl (any_of HT_.out (by kernel_rfl)) (fun _ _ _ h => h) (Or.inl ⟨by rfl, ?_⟩) ?_ ?_
        rotate_left
        ·
         intro w'
         go_simp
         with_reducible rfl
        rotate_left
        ·
         simp only [Act.put, List.setIfInBounds_toArray, List.set_cons_zero, List.set_cons_succ, i64_w, i32_w]
         rfl
        refine pure_ (i := 14) (N := some 31) (v := ?_) (a' := ?_) #[true, true, true, true, true, true, true, true, true, true, true, true, true, true, true, false, false, false, false, false, false, false, false, false, false, false, false, false, false, false, false] rfl rfl (any_of HT_.out (by kernel_rfl)) (fun _ _ _ h => h) (Or.inl ⟨by rfl, ?_⟩) ?_ ?_
        rotate_left
        ·
         intro w'
         go_simp
         with_reducible rfl
        rotate_left
        ·
         simp only [Act.put, List.setIfInBounds_toArray, List.set_cons_zero, List.set_cons_succ, i64_w, i32_w]
         rfl
        refine pure_ (i := 15) (N := some 32) (v := ?_) (a' := ?_) #[true, true, true, true, true, true, true, true, true, true, true, true, true, true, true, true, false, false, false, false, false, false, false, false, false, false, false, false, false, false, false] rfl rfl (any_of HT_.out (by kernel_rfl)) (fun _ _ _ h => h) (Or.inl ⟨by rfl, ?_⟩) ?_ ?_
        rotate_left
        ·
         intro w'
         go_simp
         with_reducible rfl
        rotate_left
        ·
         simp only [Act.put, List.setIfInBounds_toArray, List.set_cons_zero, List.set_cons_succ, i64_w, i32_w]
         rfl
        refine pure_ (i := 16) (N := some 33) (v := ?_) (a' := ?_) #[true, true, true, true, true, true, true, true, true, true, true, true, true, true, true, true, true, false, false, false, false, false, false, false, false, false, false, false, false, false, false] rfl rfl (any_of HT_.out (by kernel_rfl)) (fun _ _ _ h => h) (Or.inl ⟨by rfl, ?_⟩) ?_ ?_
        rotate_left
        ·
         intro w'
         go_simp
         with_reducible rfl
        rotate_left
        ·
         simp only [Act.put, List.setIfInBounds_toArray, List.set_cons_zero, List.set_cons_succ, i64_w, i32_w]
         rfl
        refine pure_ (i := 17) (N := some 34) (v := ?_) (a' := ?_) #[true, true, true, true, true, true, true, true, true, true, true, true, true, true, true, true, true, true, false, false, false, false, false, false, false, false, false, false, false, false, false] rfl rfl (any_of HT_.out (by kernel_rfl)) (fun _ _ _ h => h) (Or.inl ⟨by rfl, ?_⟩) ?_ ?_
        rotate_left
        ·
         intro w'
         go_simp
         with_reducible rfl
        rotate_left
        ·
         simp only [Act.put, List.setIfInBounds_toArray, List.set_cons_zero, List.set_cons_succ, i64_w, i32_w]
         rfl
        refine take_ (i := 18) (N := some 35) (v := ?_) (a' := ?_) #[true, true, true, true, true, true, true, true, true, true, true, true, true, true, true, true, true, true, true, false, false, false, false, false, false, false, false, false, false, false, false] rfl rfl (take_ofW HT_.out HW_.out (by kernel_rfl)) (fun _ _ _ h => h) (Or.inl ⟨by rfl, ?_⟩) hHeld ?_ ?_
        rotate_left
        ·
         rintro w' ⟨s0, s1, s2, s3, s4, s5, s6⟩
         go_simp
         with_reducible rfl
        rotate_left
        ·
         simp only [Act.put, List.setIfInBounds_toArray, List.set_cons_zero, List.set_cons_succ, i64_w, i32_w]
         rfl
        refine take_ (i := 19) (N := some 36) (v := ?_) (a' := ?_) #[true, true, true, true, true, true, true, true, true, true, true, true, true, true, true, true, true, true, true, true, false, false, false, false, false, false, false, false, false, false, false] rfl rfl (take_ofW HT_.out HW_.out (by kernel_rfl)) (fun _ _ _ h => h) (Or.inl ⟨by rfl, ?_⟩) hHeld ?_ ?_
        rotate_left
        ·
         rintro w' ⟨s0, s1, s2, s3, s4, s5, s6⟩
         go_simp
         with_reducible rfl
        rotate_left
        ·
         simp only [Act.put, List.setIfInBounds_toArray, List.set_cons_zero, List.set_cons_succ, i64_w, i32_w]
         rfl
        refine pure_ (i := 20) (N := some 37) (v := ?_) (a' := ?_) #[true, true, true, true, true, true, true, true, true, true, true, true, true, true, true, true, true, true, true, true, true, false, false, false, false, false, false, false, false, false, false] rfl rfl (any_of HT_.out (by kernel_rfl)) (fun _ _ _ h => h) (Or.inl ⟨by rfl, ?_⟩) ?_ ?_
        rotate_left
        ·
         intro w'
         go_simp
         with_reducible rfl
        rotate_left
        ·
         simp only [Act.put, List.setIfInBounds_toArray, List.set_cons_zero, List.set_cons_succ, i64_w, i32_w]
         rfl
        refine pure_ (i := 21) (N := some 38) (v := ?_) (a' := ?_) #[true, true, true, true, true, true, true, true, true, true, true, true, true, true, true, true, true, true, true, true, true, true, false, false, false, false, false, false, false, false, false] rfl rfl (any_of HT_.out (by kernel_rfl)) (fun _ _ _ h => h) (Or.inl ⟨by rfl, ?_⟩) ?_ ?_
        rotate_left
        ·
         intro w'
         go_simp
         with_reducible rfl
        rotate_left
        ·
         simp only [Act.put, List.setIfInBounds_toArray, List.set_cons_zero, List.set_cons_succ, i64_w, i32_w]
         rfl
        refine pure_ (i := 22) (N := some 39) (v := ?_) (a' := ?_) #[true, true, true, true, true, true, true, true, true, true, true, true, true, true, true, true, true, true, true, true, true, true, true, false, false, false, false, false, false, false, false] rfl rfl (any_of HT_.out (by kernel_rfl)) (fun _ _ _ h => h) (Or.inl ⟨by rfl, ?_⟩) ?_ ?_
        rotate_left
        ·
         intro w'
         go_simp
         with_reducible rfl
        rotate_left
        ·
         simp only [Act.put, List.setIfInBounds_toArray, List.set_cons_zero, List.set_cons_succ, i64_w, i32_w]
         rfl
        refine pure_ (i := 23) (N := some 40) (v := ?_) (a' := ?_) #[true, true, true, true, true, true, true, true, true, true, true, true, true, true, true, true, true, true, true, true, true, true, true, true, false, false, false, false, false, false, false] rfl rfl (any_of HT_.out (by kernel_rfl)) (fun _ _ _ h => h) (Or.inl ⟨by rfl, ?_⟩) ?_ ?_
        rotate_left
        ·
         intro w'
         go_simp
         with_reducible rfl
        rotate_left
        ·
         simp only [Act.put, List.setIfInBounds_toArray, List.set_cons_zero, List.set_cons_succ, i64_w, i32_w]
         rfl
        refine pure_ (i := 24) (N := some 41) (v := ?_) (a' := ?_) #[true, true, true, true, true, true, true, true, true, true, true, true, true, true, true, true, true, true, true, true, true, true, true, true, true, false, false, false, false, false, false] rfl rfl (any_of HT_.out (by kernel_rfl)) (fun _ _ _ h => h) (Or.inl ⟨by rfl, ?_⟩) ?_ ?_
        rotate_left
        ·
         intro w'
         go_simp
         with_reducible rfl
        rotate_left
        ·
         simp only [Act.put, List.setIfInBounds_toArray, List.set_cons_zero, List.set_cons_succ, i64_w, i32_w]
         rfl
        refine pure_ (i := 25) (N := some 42) (v := ?_) (a' := ?_) #[true, true, true, true, true, true, true, true, true, true, true, true, true, true, true, true, true, true, true, true, true, true, true, true, true, true, false, false, false, false, false] rfl rfl (any_of HT_.out (by kernel_rfl)) (fun _ _ _ h => h) (Or.inl ⟨by rfl, ?_⟩) ?_ ?_
        rotate_left
        ·
         intro w'
         go_simp
         with_reducible rfl
        rotate_left
        ·
         simp only [Act.put, List.setIfInBounds_toArray, List.set_cons_zero, List.set_cons_succ, i64_w, i32_w]
         rfl
        refine pure_ (i := 26) (N := some 43) (v := ?_) (a' := ?_) #[true, true, true, true, true, true, true, true, true, true, true, true, true, true, true, true, true, true, true, true, true, true, true, true, true, true, true, false, false, false, false] rfl rfl (any_of HT_.out (by kernel_rfl)) (fun _ _ _ h => h) (Or.inl ⟨by rfl, ?_⟩) ?_ ?_
        rotate_left
        ·
         intro w'
         go_simp
         with_reducible rfl
        rotate_left
        ·
         simp only [Act.put, List.setIfInBounds_toArray, List.set_cons_zero, List.set_cons_succ, i64_w, i32_w]
         rfl
        refine pure_ (i := 27) (N := some 44) (v := ?_) (a' := ?_) #[true, true, true, true, true, true, true, true, true, true, true, true, true, true, true, true, true, true, true, true, true, true, true, true, true, true, true, true, false, false, false] rfl rfl (any_of HT_.out (by kernel_rfl)) (fun _ _ _ h => h) (Or.inl ⟨by rfl, ?_⟩) ?_ ?_
        rotate_left
        ·
         intro w'
         go_simp
         with_reducible rfl
        rotate_left
        ·
         simp only [Act.put, List.setIfInBounds_toArray, List.set_cons_zero, List.set_cons_succ, i64_w, i32_w]
         rfl
        refine pure_ (i := 28) (N := some 45) (v := ?_) (a' := ?_) #[true, true, true, true, true, true, true, true, true, true, true, true, true, true, true, true, true, true, true, true, true, true, true, true, true, true, true, true, true, false, false] rfl rfl (any_of HT_.out (by kernel_rfl)) (fun _ _ _ h => h) (Or.inl ⟨by rfl, ?_⟩) ?_ ?_
        rotate_left
        ·
         intro w'
         go_simp
         with_reducible rfl
        rotate_left
        ·
         simp only [Act.put, List.setIfInBounds_toArray, List.set_cons_zero, List.set_cons_succ, i64_w, i32_w]
         rfl
        refine pure_ (i := 29) (N := some 46) (v := ?_) (a' := ?_) #[true, true, true, true, true, true, true, true, true, true, true, true, true, true, true, true, true, true, true, true, true, true, true, true, true, true, true, true, true, true, false] rfl rfl (any_of HT_.out (by kernel_rfl)) (fun _ _ _ h => h) (Or.inl ⟨by rfl, ?_⟩) ?_ ?_
        rotate_left
        ·
         intro w'
         go_simp
         with_reducible rfl
        rotate_left
        ·
         simp only [Act.put, List.setIfInBounds_toArray, List.set_cons_zero, List.set_cons_succ, i64_w, i32_w]
         rfl
        refine pure_ (i := 30) (N := some 0) (v := ?_) (a' := ?_) #[true, true, true, true, true, true, true, true, true, true, true, true, true, true, true, true, true, true, true, true, true, true, true, true, true, true, true, true, true, true, true] rfl rfl (any_of HT_.out (by kernel_rfl)) (fun _ _ _ h => h) (Or.inl ⟨by rfl, ?_⟩) ?_ ?_
        rotate_left
        ·
         intro w'
         go_simp
         with_reducible rfl
        rotate_left
        ·
         simp only [Act.put, List.setIfInBounds_toArray, List.set_cons_zero, List.set_cons_succ, i64_w, i32_w]
         rfl
        refine done_ (done_of HT_.out (by kernel_rfl)) ?_
        try go_wp2
        go_ret
        exact ⟨by first | rfl | (simp [errW_none, errW_some] <;> rfl) | (simp [*, errW_none, errW_some] <;> rfl), by repeat (first | (with_reducible first | exact HB.out | apply below_alloc | apply pw_below_drewN | apply below_drew1 | refine below_set ?_ GE103.out) | exact HB.out)⟩
       ·
        rw [if_neg c9] at H
        have c9b0 : (t112 == 6) = false := beq_eq_false_iff_ne.mpr c9
        have c9b1 : (t112 != 6) = true := bne_iff_ne.mpr c9
        exact absurd (hr_.symm.trans (Option.some.inj H).symm) (by decide)
      ·
       rw [if_neg c8] at H
       have c8b0 : ((((rd_T26 t111 0).f0).toList) == ([97] : List UInt8) && (((rd_T26 t111 0).f1) == 1 && (((rd_T26 t111 0).f2) == 0))) = false := by simpa using c8
       (try (have c8b1 : decide ((((rd_T26 t111 0).f0).toList) = ([97] : List UInt8) && (((rd_T26 t111 0).f1) == 1 && (((rd_T26 t111 0).f2) == 0))) = false := by simpa using c8))
       (try (have c8b2 : ((((rd_T26 t111 0).f0).toList) == ([97] : List UInt8) && (((rd_T26 t111 0).f1) == 1 && (((rd_T26 t111 0).f2) == 0))) = false := by simpa using c8))
       (try (have c8b3 : ¬ ((((rd_T26 t111 0).f0).toList) = ([97] : List UInt8) && (((rd_T26 t111 0).f1) == 1 && (((rd_T26 t111 0).f2) == 0))) := by simpa using c8))
       clear c8
       exact absurd (hr_.symm.trans (Option.some.inj H).symm) (by decide)
     ·
      rw [if_neg c7] at H
      exact absurd H (by simp)
    ·
     rw [if_neg c6] at H
     have c6b0 : ((t111.length : Int) == 1) = false := beq_eq_false_iff_ne.mpr c6
     have c6b1 : ((t111.length : Int) != 1) = true := bne_iff_ne.mpr c6
     exact absurd (hr_.symm.trans (Option.some.inj H).symm) (by decide)
   ·
    replace c5 := Bool.eq_false_iff.mpr c5
    subst c5
    have H1 : (some false) = some r := by rw [if_neg (show ¬ (false = true) by decide)] at H; exact H
    clear H
    have H := H1
    clear H1
    exact absurd (hr_.symm.trans (Option.some.inj H).symm) (by decide)
  ·
   rw [if_neg c3] at H
   exact absurd H (by simp)
 ·
  rw [if_neg c2] at H
  have c2b0 : ((t110.length : Int) == 1) = false := beq_eq_false_iff_ne.mpr c2
  have c2b1 : ((t110.length : Int) != 1) = true := bne_iff_ne.mpr c2
  exact absurd (hr_.symm.trans (Option.some.inj H).symm) (by decide)

theorem warplaw8_awake.f10 : warplaw8_awake.f 10 = some true := by kernel_rfl
theorem warplaw8_awake.is_true (k : Nat) (r : Bool) (h : warplaw8_awake.f k = some r) : r = true := by
 have e : ∀ n, warplaw8_awake.f (k + n) = some r := fun n => by
  induction n with
  | zero => exact h
  | succ n ih => exact warplaw8_awake.mono (k + n) _ ih
 have e2 : ∀ n, warplaw8_awake.f (10 + n) = some true := fun n => by
  induction n with
  | zero => exact warplaw8_awake.f10
  | succ n ih => exact warplaw8_awake.mono (10 + n) _ ih
 have h1 := e 10
 rw [Nat.add_comm, e2 k] at h1
 exact (Option.some.inj h1).symm
theorem warplaw8_awake.calls (k : Nat) (r : Bool) (w : World) (h : warplaw8_awake.f k = some r) (hT_ : Tab w := by first | exact hT_ | exact Tab.drewN hT_ _ | (refine Tab.below hT_ ?_; repeat (first | (with_reducible first | exact HB.out | apply below_alloc | apply pw_below_drewN | apply below_drew1) | exact HB.out))) :
 Calls Tryd.prog 8 #[] w fun e w' => e = .returned (.bool r) ∧ Below w.heap.size w w' := warplaw8_awake.calls0 k r w h hT_ (warplaw8_awake.is_true k r h)
end Go.Proofs.YtmgfkdnoclmbgaaDoor.P
