/-
Contracts, in the form of the printed texts, of two functions that were walked by hand: the program's Begin and Step. Where the cells and the task may not be so, nothing is claimed (the plain function is none).
-/
import Derived.Test.YtmaiicpaalbcfaaDoorPx0
import Derived.Test.YtmaiicpaalbcfaaDoorCufG
import Derived.Test.YtmaiicpaalbcfaaDoorCufE
namespace Go.Proofs.YtmaiicpaalbcfaaDoor
open Go.RowKit Go.Proofs.YtmaiicpaalbcfaaDoorW.PrintWords
instance (n x : Int) : Decidable (In n x) := inferInstanceAs (Decidable (0 ≤ x ∧ x < n))
instance (n : Int) (t : T) : Decidable (Fit n t) :=
  decidable_of_iff (1 ≤ t.k ∧ t.k ≤ 3 ∧ In n t.u ∧ In n t.v ∧ 1 ≤ t.s ∧ t.s ≤ 8 ∧ (4 ≤ t.s → t.k ≠ 1) ∧ (t.s = 7 → t.k = 2) ∧ (t.s = 8 → t.k = 3) ∧ ((t.s = 2 ∨ t.s = 3 ∨ t.s = 5 ∨ t.s = 6) → In n t.w) ∧ ((t.s = 3 ∨ t.s = 6) → In n t.r))
    ⟨fun ⟨a, b, c, d, e, f, g, h, i, j, k⟩ => ⟨a, b, c, d, e, f, g, h, i, j, k⟩, fun ⟨a, b, c, d, e, f, g, h, i, j, k⟩ => ⟨a, b, c, d, e, f, g, h, i, j, k⟩⟩
/-- cells and a task that a step may be done with -/
def Steps (up p : List Int) (t : T) : Prop := up.length = p.length ∧ up.length ≤ 65536 ∧ 0 < up.length ∧ Fit up.length t
instance (up p : List Int) (t : T) : Decidable (Steps up p t) := inferInstanceAs (Decidable (_ ∧ _ ∧ _ ∧ _))
abbrev TT := Int × Int × Int × Int × Int × Int × Int × Int × Bool × Int
def tt (t : T) : TT := (t.k, t.x, t.y, t.s, t.u, t.v, t.w, t.r, t.is, t.res)
theorem row_of_C {w : World} {A : Option Addr} {l : List Int} (h : Kd.C (Kd.int .i64) w A l.length l) : RowI w A l := by
  have h2 := Kd.reads_of_C (d := (0 : Int)) h
  refine ⟨by rw [ints_length], h2.2.1, fun hn => ?_⟩
  obtain ⟨ad, e, hc⟩ := h2.2.2 hn
  exact ⟨ad, e, fun j hj => by rw [hc j hj, ints_getD l j hj]⟩
theorem R_of_ints {w : World} {base : Nat} {v : Value} {l : List Int} (h : w.ownsRow base 3 1 v l.length (ints l)) : Kd.R (Kd.int .i64) 3 w base (fun _ => True) v l :=
  Kd.R_of_own (enc := Value.int .i64) h fun _ _ => trivial
end Go.Proofs.YtmaiicpaalbcfaaDoor
namespace Go.Proofs.YtmaiicpaalbcfaaDoor.P
open Go.RowKit Go.Proofs.YtmaiicpaalbcfaaDoorW.PrintWords
def cuf_Begin.f (a0_0 : Int) (a0_1 : Int) (a0_2 : Int) (a1 : Int) : Option (Int × Int × Int × Int × Int × Int × Int × Int × Bool × Int × Bool) :=
  some ((beginT a0_0 a0_1 a0_2 a1).k, (beginT a0_0 a0_1 a0_2 a1).x, (beginT a0_0 a0_1 a0_2 a1).y, (beginT a0_0 a0_1 a0_2 a1).s, (beginT a0_0 a0_1 a0_2 a1).u, (beginT a0_0 a0_1 a0_2 a1).v, (beginT a0_0 a0_1 a0_2 a1).w, (beginT a0_0 a0_1 a0_2 a1).r, (beginT a0_0 a0_1 a0_2 a1).is, (beginT a0_0 a0_1 a0_2 a1).res, beginB a0_0 a0_1 a0_2 a1)
theorem cuf_Begin.calls (a0_0 : Int) (a0_1 : Int) (a0_2 : Int) (a1 : Int) (r1 : Int) (r2 : Int) (r3 : Int) (r4 : Int) (r5 : Int) (r6 : Int) (r7 : Int) (r8 : Int) (r9 : Bool) (r10 : Int) (r11 : Bool) (w : World) (h : cuf_Begin.f a0_0 a0_1 a0_2 a1 = some (r1, r2, r3, r4, r5, r6, r7, r8, r9, r10, r11)) :
    Calls Tryd.prog 33 #[.agg #[.int .i64 a0_0, .int .i64 a0_1, .int .i64 a0_2], .int .i64 a1] w fun e w' => e = .returned (.tuple #[.agg #[.int .i64 r1, .int .i64 r2, .int .i64 r3, .int .i64 r4, .int .i64 r5, .int .i64 r6, .int .i64 r7, .int .i64 r8, .bool r9, .int .i64 r10], .bool r11]) ∧ Below w.heap.size w w' := by
  simp only [cuf_Begin.f, Option.some.injEq, Prod.mk.injEq] at h
  obtain ⟨rfl, rfl, rfl, rfl, rfl, rfl, rfl, rfl, rfl, rfl, rfl⟩ := h
  exact (begin_any a0_0 a0_1 a0_2 a1 w).mono fun _ _ h => h
def cuf_Step.f (l0 : List Int) (l1 : List Int) (a2_0 : Int) (a2_1 : Int) (a2_2 : Int) (a2_3 : Int) (a2_4 : Int) (a2_5 : Int) (a2_6 : Int) (a2_7 : Int) (a2_8 : Bool) (a2_9 : Int) : Option (List Int × Int × Int × Int × Int × Int × Int × Int × Int × Bool × Int) :=
  if Steps l0 l1 ⟨a2_0, a2_1, a2_2, a2_3, a2_4, a2_5, a2_6, a2_7, a2_8, a2_9⟩ then some ((stepL l0 l1 ⟨a2_0, a2_1, a2_2, a2_3, a2_4, a2_5, a2_6, a2_7, a2_8, a2_9⟩).1, tt (stepL l0 l1 ⟨a2_0, a2_1, a2_2, a2_3, a2_4, a2_5, a2_6, a2_7, a2_8, a2_9⟩).2) else none
theorem cuf_Step.calls (A0 : Option Addr) (c0 : Nat) (l0 : List Int) (A1 : Option Addr) (c1 : Nat) (l1 : List Int) (a2_0 : Int) (a2_1 : Int) (a2_2 : Int) (a2_3 : Int) (a2_4 : Int) (a2_5 : Int) (a2_6 : Int) (a2_7 : Int) (a2_8 : Bool) (a2_9 : Int) (r1 : List Int) (r2 : Int) (r3 : Int) (r4 : Int) (r5 : Int) (r6 : Int) (r7 : Int) (r8 : Int) (r9 : Int) (r10 : Bool) (r11 : Int) (w : World) (hr0 : Kd.C (Kd.int .i64) w A0 l0.length l0) (_hc0 : l0.length ≤ c0) (hr1 : Kd.C (Kd.int .i64) w A1 l1.length l1) (_hc1 : l1.length ≤ c1) (h : cuf_Step.f l0 l1 a2_0 a2_1 a2_2 a2_3 a2_4 a2_5 a2_6 a2_7 a2_8 a2_9 = some (r1, r2, r3, r4, r5, r6, r7, r8, r9, r10, r11)) :
    Calls Tryd.prog 38 #[.slice A0 l0.length c0, .slice A1 l1.length c1, .agg #[.int .i64 a2_0, .int .i64 a2_1, .int .i64 a2_2, .int .i64 a2_3, .int .i64 a2_4, .int .i64 a2_5, .int .i64 a2_6, .int .i64 a2_7, .bool a2_8, .int .i64 a2_9]] w fun e w' => ∃ v0_ : Value, e = .returned (.tuple #[v0_, .agg #[.int .i64 r2, .int .i64 r3, .int .i64 r4, .int .i64 r5, .int .i64 r6, .int .i64 r7, .int .i64 r8, .int .i64 r9, .bool r10, .int .i64 r11]]) ∧ Kd.R (Kd.int .i64) 3 w' w.heap.size (fun _ => True) v0_ r1 ∧ Below w.heap.size w w' := by
  unfold cuf_Step.f at h
  split at h
  · rename_i hs
    obtain ⟨s1, s2, s3, s4⟩ := hs
    have hc := step_own A0 A1 c0 c1 l0 l1 ⟨a2_0, a2_1, a2_2, a2_3, a2_4, a2_5, a2_6, a2_7, a2_8, a2_9⟩ w (row_of_C hr0) (row_of_C hr1) s1 s2 s3 s4
    generalize stepL l0 l1 ⟨a2_0, a2_1, a2_2, a2_3, a2_4, a2_5, a2_6, a2_7, a2_8, a2_9⟩ = q at *
    obtain ⟨up', ⟨k, x, y, s, u, v, ww, r, is, res⟩⟩ := q
    simp only [tt, Option.some.injEq, Prod.mk.injEq] at h
    obtain ⟨rfl, rfl, rfl, rfl, rfl, rfl, rfl, rfl, rfl, rfl, rfl⟩ := h
    refine hc.mono fun e w' h => ?_
    obtain ⟨v, he, ho, hb⟩ := h
    exact ⟨v, he, R_of_ints ho, hb⟩
  · cases h
end Go.Proofs.YtmaiicpaalbcfaaDoor.P
