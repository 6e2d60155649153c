/-
What a task is, and what one step of it does. No condition.
-/
import Derived.Test.YtcppmfmlafnmfaaCufA
import Derived.Handy
namespace Go.Proofs.Ytcppmfmlafnmfaa
open Go.RowKit
structure T where
  k : Int
  x : Int
  y : Int
  s : Int
  u : Int
  v : Int
  w : Int
  r : Int
  is : Bool
  res : Int
deriving DecidableEq
def ov (k x y : Int) : Value := .agg #[.int .i64 k, .int .i64 x, .int .i64 y]
def tv (t : T) : Value := .agg #[.int .i64 t.k, .int .i64 t.x, .int .i64 t.y, .int .i64 t.s, .int .i64 t.u, .int .i64 t.v, .int .i64 t.w, .int .i64 t.r, .bool t.is, .int .i64 t.res]
def beginB (k x y n : Int) : Bool := decide (1 ≤ k) && (decide (k ≤ 3) && (thereB n x && (decide (k = 1) || thereB n y)))
def beginT (k x y n : Int) : T := if beginB k x y n then ⟨k, x, y, 1, x, y, 0, 0, false, 0⟩ else ⟨0, 0, 0, 0, 0, 0, 0, 0, false, 0⟩
def BeginP (k x y n : Int) (w : World) (e : Ending) (w' : World) : Prop := e = .returned (.tuple #[tv (beginT k x y n), .bool (beginB k x y n)]) ∧ Below w.heap.size w w'
/-- the reference's: a struct of both -/
def bv (t : T) (b : Bool) : Value := .agg #[.int .i64 t.k, .int .i64 t.x, .int .i64 t.y, .int .i64 t.s, .int .i64 t.u, .int .i64 t.v, .int .i64 t.w, .int .i64 t.r, .bool t.is, .int .i64 t.res, .bool b]
def RBeginP (k x y n : Int) (w : World) (e : Ending) (w' : World) : Prop := e = .returned (bv (beginT k x y n) (beginB k x y n)) ∧ Below w.heap.size w w'
theorem begin_no {k x y n : Int} (h : beginB k x y n = false) : beginT k x y n = ⟨0, 0, 0, 0, 0, 0, 0, 0, false, 0⟩ := by rw [beginT, if_neg (by simp [h])]
theorem begin_yes {k x y n : Int} (h : beginB k x y n = true) : beginT k x y n = ⟨k, x, y, 1, x, y, 0, 0, false, 0⟩ := by rw [beginT, if_pos h]
/-! ### what a step does -/
def finish (t : T) (n : Int) : T := { t with is := true, res := n }
def firstT (t : T) : T := if t.k = 1 then finish t t.u else { t with s := 4 }
def secondT (t : T) : T := if t.u = t.v then finish t (if t.k = 2 then 1 else 0) else { t with s := if t.k = 2 then 7 else 8 }
def at_ (up : List Int) (x : Int) : Int := up.getD x.toNat 0
def swapL (up : List Int) (x was now : Int) : List Int := if at_ up x = was then up.set x.toNat now else up
def stepL (up p : List Int) (t : T) : List Int × T :=
  if t.is then (up, t)
  else if t.s = 1 then (up, if at_ up t.u = t.u then firstT { t with w := at_ up t.u } else { t with w := at_ up t.u, s := 2 })
  else if t.s = 2 then (up, if at_ up t.w = t.w then firstT { t with r := at_ up t.w, u := t.w } else { t with r := at_ up t.w, s := 3 })
  else if t.s = 3 then (swapL up t.u t.w t.r, { t with u := t.w, s := 1 })
  else if t.s = 4 then (up, if at_ up t.v = t.v then secondT { t with w := at_ up t.v } else { t with w := at_ up t.v, s := 5 })
  else if t.s = 5 then (up, if at_ up t.w = t.w then secondT { t with r := at_ up t.w, v := t.w } else { t with r := at_ up t.w, s := 6 })
  else if t.s = 6 then (swapL up t.v t.w t.r, { t with v := t.w, s := 4 })
  else if t.s = 7 then (up, if at_ up t.u = t.u then finish { t with w := at_ up t.u } 0 else { t with w := at_ up t.u, s := 1 })
  else if belowB p t.u t.v then (if at_ up t.u = t.u then (up.set t.u.toNat t.v, finish t 1) else (up, { t with s := 1 }))
  else (if at_ up t.v = t.v then (up.set t.v.toNat t.u, finish t 1) else (up, { t with s := 1 }))
/-- what a task may be -/
def In (n x : Int) : Prop := 0 ≤ x ∧ x < n
structure Fit (n : Int) (t : T) : Prop where
  k0 : 1 ≤ t.k
  k1 : t.k ≤ 3
  u0 : In n t.u
  v0 : In n t.v
  s0 : 1 ≤ t.s
  s1 : t.s ≤ 8
  k2 : 4 ≤ t.s → t.k ≠ 1
  k7 : t.s = 7 → t.k = 2
  k8 : t.s = 8 → t.k = 3
  w0 : (t.s = 2 ∨ t.s = 3 ∨ t.s = 5 ∨ t.s = 6) → In n t.w
  r0 : (t.s = 3 ∨ t.s = 6) → In n t.r
def foundT (t : T) : T := if t.s ≤ 3 then firstT t else secondT t
def TP (t : T) (w : World) (e : Ending) (w' : World) : Prop := e = .returned (tv t) ∧ Below w.heap.size w w'
end Go.Proofs.Ytcppmfmlafnmfaa
