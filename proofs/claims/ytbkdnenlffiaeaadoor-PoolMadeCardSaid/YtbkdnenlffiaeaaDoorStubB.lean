/-
A contract, in the form of the printed texts, of pool.Play. Conditions: the rows can be read; the plain play answers; the world holds the package's table.
-/
import Derived.Test.YtbkdnenlffiaeaaDoorPoolE
namespace Go.Proofs.YtbkdnenlffiaeaaDoor.P
open Go.RowKit Go.Proofs.YtbkdnenlffiaeaaDoorW.PrintWords
def pool_Play.f (l0 : List (List Int)) (a1 : Int) (l2 : List Int) : Option (List S54 × Int) := playF l0 a1 l2
theorem pool_Play.calls (A0 : Option Addr) (c0 : Nat) (l0 : List (List Int)) (a1 : Int) (A2 : Option Addr) (c2 : Nat) (l2 : List Int) (r1 : List S54) (r2 : Int) (w : World) (hr0 : Kd.C (Kd.slice 3 (Kd.int .i64)) w A0 l0.length l0) (hc0 : l0.length ≤ c0) (hr2 : Kd.C (Kd.int .i64) w A2 l2.length l2) (hc2 : l2.length ≤ c2) (h : pool_Play.f l0 a1 l2 = some (r1, r2)) (hT_ : Tab w := by first | exact hT_ | exact Tab.drewN hT_ _ | (refine Tab.below hT_ ?_; repeat (first | (with_reducible first | exact HB.out | apply below_alloc | apply pw_below_drewN | apply below_drew1) | exact HB.out))) :
    Calls Tryd.prog 20 #[.slice A0 l0.length c0, .int .i64 a1, .slice A2 l2.length c2] w fun e w' => ∃ v0_, e = .returned (.tuple #[v0_, .int .i64 r2]) ∧ Kd.R k54 54 w' w.heap.size (fun _ => True) v0_ r1 ∧ Below w.heap.size w w' := by
  unfold pool_Play.f playF at h
  by_cases c : a1 < 1 ∨ a1 > 64 ∨ allS 0 l0 > 4096
  · rw [if_pos c] at h
    simp only [Option.some.injEq, Prod.mk.injEq] at h
    obtain ⟨rfl, rfl⟩ := h
    refine (play_none A0 c0 l0 a1 A2 c2 l2 w hr0 hc0 c).mono ?_
    rintro e w' ⟨rfl, hb⟩
    exact ⟨_, rfl, Kd.R_nil _ _ _ _ _, hb⟩
  · rw [if_neg c] at h
    have hl : l2.length ≤ 1000000 := Decidable.byContradiction fun d => by rw [if_neg d] at h; cases h
    rw [if_pos hl] at h
    obtain ⟨n, rfl⟩ : ∃ n : Nat, a1 = (n : Int) := ⟨a1.toNat, by omega⟩
    rw [Int.toNat_natCast] at h
    have hs : pick_Start.f l2 = some (l2, 0, -1) := by
      unfold pick_Start.f
      rw [if_pos (by simp; omega)]
      rfl
    exact play_main A0 c0 l0 n A2 c2 l2 w hT_ hr0 hc0 hr2 hc2 (by omega) (by omega) (by omega) hl hs _ r1 r2 h
end Go.Proofs.YtbkdnenlffiaeaaDoor.P
