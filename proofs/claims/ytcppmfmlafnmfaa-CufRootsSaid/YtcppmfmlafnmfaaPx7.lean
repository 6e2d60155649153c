/-
The plain Lean functions of Go functions of this seat, and proofs that the calls of the machine come to them; no condition beside those named in each theorem.
-/
import Derived.Test.YtcppmfmlafnmfaaPx0
import Derived.Test.YtcppmfmlafnmfaaPx2
import Derived.Test.YtcppmfmlafnmfaaPx3
import Derived.Test.YtcppmfmlafnmfaaPx6
import Derived.Test.YtcppmfmlafnmfaaStubA
namespace Go.Proofs.Ytcppmfmlafnmfaa.P
open Go.RowKit Go.Proofs.YtcppmfmlafnmfaaW.PrintWords Go.Proofs.YtcppmfmlafnmfaaW.PrintLast Go.Proofs.YtcppmfmlafnmfaaW.PrintMore
attribute [local go_sem] max2_int min2_int max_two min_two max_three min_three max_four min_four   -- for this text's walks alone
set_option linter.unusedVariables false
set_option linter.unusedSimpArgs false

/-! ### warplaw4_CufRoots: function 4 -/
mutual
def warplaw4_CufRoots.j0 : Nat → List Int → List Int → List Int → List Int → Int → Bool → Option (Bool)
 | 0, _, _, _, _, _, _ => none
 | k + 1, x0, x1, x2, x3, x9, x39 => if x39 = true then ((warplaw4_awake.f).bind fun t279 => (some t279)) else ((warplaw4_Prio.f k x1 x9).bind fun t280 => ((warplaw4_Cells.f k x0 t280).bind fun t283 => (warplaw4_CufRoots.l0 k x2 x3 x9 t280 t283 ([] : List (S31)) 0)))
def warplaw4_CufRoots.l0 : Nat → List Int → List Int → Int → List Int → List Int → List (S31) → Int → Option (Bool)
 | 0, _, _, _, _, _, _, _ => none
 | k + 1, x2, x3, x9, x10, x11, x12, x13 => if x13 < 4 then (if 0 ≤ (wrap64 (3 * x13)) then (if (wrap64 (3 * x13)) < (x2.length : Int) then (if 0 ≤ (wrap64 ((wrap64 (3 * x13)) + 1)) then (if (wrap64 ((wrap64 (3 * x13)) + 1)) < (x2.length : Int) then (if 0 ≤ (wrap64 ((wrap64 (3 * x13)) + 2)) then (if (wrap64 ((wrap64 (3 * x13)) + 2)) < (x2.length : Int) then ((warplaw4_op.f (rd x2 (wrap64 (3 * x13))) (rd x2 (wrap64 ((wrap64 (3 * x13)) + 1))) (rd x2 (wrap64 ((wrap64 (3 * x13)) + 2))) x9).bind fun bt289 => ((cuf_Begin.f bt289.1 bt289.2.1 bt289.2.2 x9).bind fun bt292 => (if bt292.2.2.2.2.2.2.2.2.2.2 = true then (if x12.length < 1759218604441 then (warplaw4_CufRoots.l0 k x2 x3 x9 x10 x11 (x12 ++ [(⟨(⟨bt292.1, bt292.2.1, bt292.2.2.1⟩ : S28), bt292.2.2.2.1, bt292.2.2.2.2.1, bt292.2.2.2.2.2.1, bt292.2.2.2.2.2.2.1, bt292.2.2.2.2.2.2.2.1, bt292.2.2.2.2.2.2.2.2.1, bt292.2.2.2.2.2.2.2.2.2.1⟩ : S31)]) (wrap64 (x13 + 1))) else (none)) else (some false)))) else (none)) else (none)) else (none)) else (none)) else (none)) else (none)) else (warplaw4_CufRoots.l1 k x3 x9 x10 x11 x12 0)
def warplaw4_CufRoots.l1 : Nat → List Int → Int → List Int → List Int → List (S31) → Int → Option (Bool)
 | 0, _, _, _, _, _, _ => none
 | k + 1, x3, x9, x10, x11, x12, x16 => if x16 < (x3.length : Int) then (if 0 ≤ x16 then (if 0 ≤ (Int.tmod (wrap64 (rd x3 x16)) 4) then (if (Int.tmod (wrap64 (rd x3 x16)) 4) < (x12.length : Int) then ((cuf_Step.f x11 x10 ((rd_T31 x12 (Int.tmod (wrap64 (rd x3 x16)) 4)).f0.f0) ((rd_T31 x12 (Int.tmod (wrap64 (rd x3 x16)) 4)).f0.f1) ((rd_T31 x12 (Int.tmod (wrap64 (rd x3 x16)) 4)).f0.f2) ((rd_T31 x12 (Int.tmod (wrap64 (rd x3 x16)) 4)).f1) ((rd_T31 x12 (Int.tmod (wrap64 (rd x3 x16)) 4)).f2) ((rd_T31 x12 (Int.tmod (wrap64 (rd x3 x16)) 4)).f3) ((rd_T31 x12 (Int.tmod (wrap64 (rd x3 x16)) 4)).f4) ((rd_T31 x12 (Int.tmod (wrap64 (rd x3 x16)) 4)).f5) ((rd_T31 x12 (Int.tmod (wrap64 (rd x3 x16)) 4)).f6) ((rd_T31 x12 (Int.tmod (wrap64 (rd x3 x16)) 4)).f7)).bind fun bt309 => ((warpref1_MayUp.f k bt309.1 x10).bind fun t323 => (if t323 = true then (warplaw4_CufRoots.j3 k x3 x9 x10 x11 x12 x16 (Int.tmod (wrap64 (rd x3 x16)) 4) bt309.1 ((bt309.1.length : Int) != x9) bt309.2.1 bt309.2.2.1 bt309.2.2.2.1 bt309.2.2.2.2.1 bt309.2.2.2.2.2.1 bt309.2.2.2.2.2.2.1 bt309.2.2.2.2.2.2.2.1 bt309.2.2.2.2.2.2.2.2.1 bt309.2.2.2.2.2.2.2.2.2.1 bt309.2.2.2.2.2.2.2.2.2.2) else (warplaw4_CufRoots.j3 k x3 x9 x10 x11 x12 x16 (Int.tmod (wrap64 (rd x3 x16)) 4) bt309.1 true bt309.2.1 bt309.2.2.1 bt309.2.2.2.1 bt309.2.2.2.2.1 bt309.2.2.2.2.2.1 bt309.2.2.2.2.2.2.1 bt309.2.2.2.2.2.2.2.1 bt309.2.2.2.2.2.2.2.2.1 bt309.2.2.2.2.2.2.2.2.2.1 bt309.2.2.2.2.2.2.2.2.2.2)))) else (none)) else (none)) else (none)) else ((warplaw4_awake.f).bind fun t332 => (some t332))
def warplaw4_CufRoots.j3 : Nat → List Int → Int → List Int → List Int → List (S31) → Int → Int → List Int → Bool → Int → Int → Int → Int → Int → Int → Int → Int → Bool → Int → Option (Bool)
 | 0, _, _, _, _, _, _, _, _, _, _, _, _, _, _, _, _, _, _, _ => none
 | k + 1, x3, x9, x10, x11, x12, x16, x17, x18, x112, x323000, x323001, x323002, x323003, x323004, x323005, x323006, x323007, x323008, x323009 => if x112 = true then (some false) else (warplaw4_CufRoots.l2 k x3 x9 x10 x11 x12 x16 x17 x18 0 0 x323000 x323001 x323002 x323003 x323004 x323005 x323006 x323007 x323008 x323009)
def warplaw4_CufRoots.l2 : Nat → List Int → Int → List Int → List Int → List (S31) → Int → Int → List Int → Int → Int → Int → Int → Int → Int → Int → Int → Int → Int → Bool → Int → Option (Bool)
 | 0, _, _, _, _, _, _, _, _, _, _, _, _, _, _, _, _, _, _, _, _ => none
 | k + 1, x3, x9, x10, x11, x12, x16, x17, x18, x20, x21, x323000, x323001, x323002, x323003, x323004, x323005, x323006, x323007, x323008, x323009 => if x21 < x9 then (if 0 ≤ x21 then (if x21 < (x18.length : Int) then (if (rd x18 x21) = x21 then (warplaw4_CufRoots.j5 k x3 x9 x10 x11 x12 x16 x17 x18 (wrap64 (x20 + 1)) x21 x323000 x323001 x323002 x323003 x323004 x323005 x323006 x323007 x323008 x323009) else (warplaw4_CufRoots.j5 k x3 x9 x10 x11 x12 x16 x17 x18 x20 x21 x323000 x323001 x323002 x323003 x323004 x323005 x323006 x323007 x323008 x323009)) else (none)) else (none)) else (if 0 ≤ x17 then (if x17 < (x12.length : Int) then (if ((rd_T31 x12 x17).f1) = 8 then (if ((rd_T31 x12 x17).f6 = true) then (warplaw4_CufRoots.j7 k x3 x9 x10 x12 x16 x17 x18 x20 false x323000 x323001 x323002 x323003 x323004 x323005 x323006 x323007 x323008 x323009) else (warplaw4_CufRoots.j7 k x3 x9 x10 x12 x16 x17 x18 x20 x323008 x323000 x323001 x323002 x323003 x323004 x323005 x323006 x323007 x323008 x323009)) else (warplaw4_CufRoots.j7 k x3 x9 x10 x12 x16 x17 x18 x20 false x323000 x323001 x323002 x323003 x323004 x323005 x323006 x323007 x323008 x323009)) else (none)) else (none))
def warplaw4_CufRoots.j5 : Nat → List Int → Int → List Int → List Int → List (S31) → Int → Int → List Int → Int → Int → Int → Int → Int → Int → Int → Int → Int → Int → Bool → Int → Option (Bool)
 | 0, _, _, _, _, _, _, _, _, _, _, _, _, _, _, _, _, _, _, _, _ => none
 | k + 1, x3, x9, x10, x11, x12, x16, x17, x18, x20, x21, x323000, x323001, x323002, x323003, x323004, x323005, x323006, x323007, x323008, x323009 => if 0 ≤ x21 then (if x21 < (x11.length : Int) then (if (rd x11 x21) = x21 then (warplaw4_CufRoots.j6 k x3 x9 x10 x11 x12 x16 x17 x18 (wrap64 (x20 - 1)) x21 x323000 x323001 x323002 x323003 x323004 x323005 x323006 x323007 x323008 x323009) else (warplaw4_CufRoots.j6 k x3 x9 x10 x11 x12 x16 x17 x18 x20 x21 x323000 x323001 x323002 x323003 x323004 x323005 x323006 x323007 x323008 x323009)) else (none)) else (none)
def warplaw4_CufRoots.j6 : Nat → List Int → Int → List Int → List Int → List (S31) → Int → Int → List Int → Int → Int → Int → Int → Int → Int → Int → Int → Int → Int → Bool → Int → Option (Bool)
 | 0, _, _, _, _, _, _, _, _, _, _, _, _, _, _, _, _, _, _, _, _ => none
 | k + 1, x3, x9, x10, x11, x12, x16, x17, x18, x20, x21, x323000, x323001, x323002, x323003, x323004, x323005, x323006, x323007, x323008, x323009 => (warpref1_Root.f k x18 x21).bind fun t326 => ((warpref1_Root.f k x11 x21).bind fun t327 => ((warpref1_Root.f k x18 t327).bind fun t328 => (if t326 = t328 then (warplaw4_CufRoots.l2 k x3 x9 x10 x11 x12 x16 x17 x18 x20 (wrap64 (x21 + 1)) x323000 x323001 x323002 x323003 x323004 x323005 x323006 x323007 x323008 x323009) else (some false))))
def warplaw4_CufRoots.j7 : Nat → List Int → Int → List Int → List (S31) → Int → Int → List Int → Int → Bool → Int → Int → Int → Int → Int → Int → Int → Int → Bool → Int → Option (Bool)
 | 0, _, _, _, _, _, _, _, _, _, _, _, _, _, _, _, _, _, _, _ => none
 | k + 1, x3, x9, x10, x12, x16, x17, x18, x20, x22, x323000, x323001, x323002, x323003, x323004, x323005, x323006, x323007, x323008, x323009 => if ((x20 == (-1)) != x22) = true then (warplaw4_CufRoots.j8 k x3 x9 x10 x12 x16 x17 x18 true x323000 x323001 x323002 x323003 x323004 x323005 x323006 x323007 x323008 x323009) else (if x20 = 0 then (warplaw4_CufRoots.j8 k x3 x9 x10 x12 x16 x17 x18 false x323000 x323001 x323002 x323003 x323004 x323005 x323006 x323007 x323008 x323009) else (warplaw4_CufRoots.j8 k x3 x9 x10 x12 x16 x17 x18 (x20 != (-1)) x323000 x323001 x323002 x323003 x323004 x323005 x323006 x323007 x323008 x323009))
def warplaw4_CufRoots.j8 : Nat → List Int → Int → List Int → List (S31) → Int → Int → List Int → Bool → Int → Int → Int → Int → Int → Int → Int → Int → Bool → Int → Option (Bool)
 | 0, _, _, _, _, _, _, _, _, _, _, _, _, _, _, _, _, _, _ => none
 | k + 1, x3, x9, x10, x12, x16, x17, x18, x172, x323000, x323001, x323002, x323003, x323004, x323005, x323006, x323007, x323008, x323009 => if x172 = true then (some false) else (if 0 ≤ x17 then (if x17 < (x12.length : Int) then (warplaw4_CufRoots.l1 k x3 x9 x10 x18 (x12.set (x17 : Int).toNat (⟨(⟨x323000, x323001, x323002⟩ : S28), x323003, x323004, x323005, x323006, x323007, x323008, x323009⟩ : S31)) (wrap64 (x16 + 1))) else (none)) else (none))
end
def warplaw4_CufRoots.f (k : Nat) (l0 : List Int) (l1 : List Int) (l2 : List Int) (l3 : List Int) : Option (Bool) := if (l0.length : Int) > 60 then (warplaw4_CufRoots.j0 k l0 l1 l2 l3 (2 + ((l1.length : Int) % 14)) true) else (if (l2.length : Int) < 12 then (warplaw4_CufRoots.j0 k l0 l1 l2 l3 (2 + ((l1.length : Int) % 14)) true) else (warplaw4_CufRoots.j0 k l0 l1 l2 l3 (2 + ((l1.length : Int) % 14)) (decide ((l3.length : Int) > 100))))
theorem warplaw4_CufRoots.mono_l : ∀ k, (∀ y0 y1 y2 y3 y4 y5, LeO (warplaw4_CufRoots.j0 k y0 y1 y2 y3 y4 y5) (warplaw4_CufRoots.j0 (k + 1) y0 y1 y2 y3 y4 y5)) ∧ (∀ y0 y1 y2 y3 y4 y5 y6, LeO (warplaw4_CufRoots.l0 k y0 y1 y2 y3 y4 y5 y6) (warplaw4_CufRoots.l0 (k + 1) y0 y1 y2 y3 y4 y5 y6)) ∧ (∀ y0 y1 y2 y3 y4 y5, LeO (warplaw4_CufRoots.l1 k y0 y1 y2 y3 y4 y5) (warplaw4_CufRoots.l1 (k + 1) y0 y1 y2 y3 y4 y5)) ∧ (∀ y0 y1 y2 y3 y4 y5 y6 y7 y8 y9 y10 y11 y12 y13 y14 y15 y16 y17 y18, LeO (warplaw4_CufRoots.j3 k y0 y1 y2 y3 y4 y5 y6 y7 y8 y9 y10 y11 y12 y13 y14 y15 y16 y17 y18) (warplaw4_CufRoots.j3 (k + 1) y0 y1 y2 y3 y4 y5 y6 y7 y8 y9 y10 y11 y12 y13 y14 y15 y16 y17 y18)) ∧ (∀ y0 y1 y2 y3 y4 y5 y6 y7 y8 y9 y10 y11 y12 y13 y14 y15 y16 y17 y18 y19, LeO (warplaw4_CufRoots.l2 k y0 y1 y2 y3 y4 y5 y6 y7 y8 y9 y10 y11 y12 y13 y14 y15 y16 y17 y18 y19) (warplaw4_CufRoots.l2 (k + 1) y0 y1 y2 y3 y4 y5 y6 y7 y8 y9 y10 y11 y12 y13 y14 y15 y16 y17 y18 y19)) ∧ (∀ y0 y1 y2 y3 y4 y5 y6 y7 y8 y9 y10 y11 y12 y13 y14 y15 y16 y17 y18 y19, LeO (warplaw4_CufRoots.j5 k y0 y1 y2 y3 y4 y5 y6 y7 y8 y9 y10 y11 y12 y13 y14 y15 y16 y17 y18 y19) (warplaw4_CufRoots.j5 (k + 1) y0 y1 y2 y3 y4 y5 y6 y7 y8 y9 y10 y11 y12 y13 y14 y15 y16 y17 y18 y19)) ∧ (∀ y0 y1 y2 y3 y4 y5 y6 y7 y8 y9 y10 y11 y12 y13 y14 y15 y16 y17 y18 y19, LeO (warplaw4_CufRoots.j6 k y0 y1 y2 y3 y4 y5 y6 y7 y8 y9 y10 y11 y12 y13 y14 y15 y16 y17 y18 y19) (warplaw4_CufRoots.j6 (k + 1) y0 y1 y2 y3 y4 y5 y6 y7 y8 y9 y10 y11 y12 y13 y14 y15 y16 y17 y18 y19)) ∧ (∀ y0 y1 y2 y3 y4 y5 y6 y7 y8 y9 y10 y11 y12 y13 y14 y15 y16 y17 y18, LeO (warplaw4_CufRoots.j7 k y0 y1 y2 y3 y4 y5 y6 y7 y8 y9 y10 y11 y12 y13 y14 y15 y16 y17 y18) (warplaw4_CufRoots.j7 (k + 1) y0 y1 y2 y3 y4 y5 y6 y7 y8 y9 y10 y11 y12 y13 y14 y15 y16 y17 y18)) ∧ (∀ y0 y1 y2 y3 y4 y5 y6 y7 y8 y9 y10 y11 y12 y13 y14 y15 y16 y17, LeO (warplaw4_CufRoots.j8 k y0 y1 y2 y3 y4 y5 y6 y7 y8 y9 y10 y11 y12 y13 y14 y15 y16 y17) (warplaw4_CufRoots.j8 (k + 1) y0 y1 y2 y3 y4 y5 y6 y7 y8 y9 y10 y11 y12 y13 y14 y15 y16 y17))
 | 0 => ⟨fun _ _ _ _ _ _ r h => by simp [warplaw4_CufRoots.j0] at h, fun _ _ _ _ _ _ _ r h => by simp [warplaw4_CufRoots.l0] at h, fun _ _ _ _ _ _ r h => by simp [warplaw4_CufRoots.l1] at h, fun _ _ _ _ _ _ _ _ _ _ _ _ _ _ _ _ _ _ _ r h => by simp [warplaw4_CufRoots.j3] at h, fun _ _ _ _ _ _ _ _ _ _ _ _ _ _ _ _ _ _ _ _ r h => by simp [warplaw4_CufRoots.l2] at h, fun _ _ _ _ _ _ _ _ _ _ _ _ _ _ _ _ _ _ _ _ r h => by simp [warplaw4_CufRoots.j5] at h, fun _ _ _ _ _ _ _ _ _ _ _ _ _ _ _ _ _ _ _ _ r h => by simp [warplaw4_CufRoots.j6] at h, fun _ _ _ _ _ _ _ _ _ _ _ _ _ _ _ _ _ _ _ r h => by simp [warplaw4_CufRoots.j7] at h, fun _ _ _ _ _ _ _ _ _ _ _ _ _ _ _ _ _ _ r h => by simp [warplaw4_CufRoots.j8] at h⟩
 | k + 1 => by
  obtain ⟨ih0, ih1, ih2, ih3, ih4, ih5, ih6, ih7, ih8⟩ := warplaw4_CufRoots.mono_l k
  refine ⟨?_, ?_, ?_, ?_, ?_, ?_, ?_, ?_, ?_⟩
  ·
   intro y0 y1 y2 y3 y4 y5
   unfold warplaw4_CufRoots.j0
   repeat' first
   | (with_reducible exact ih0 _ _ _ _ _ _)
   | (with_reducible exact ih1 _ _ _ _ _ _ _)
   | (with_reducible exact ih2 _ _ _ _ _ _)
   | (with_reducible exact ih3 _ _ _ _ _ _ _ _ _ _ _ _ _ _ _ _ _ _ _)
   | (with_reducible exact ih4 _ _ _ _ _ _ _ _ _ _ _ _ _ _ _ _ _ _ _ _)
   | (with_reducible exact ih5 _ _ _ _ _ _ _ _ _ _ _ _ _ _ _ _ _ _ _ _)
   | (with_reducible exact ih6 _ _ _ _ _ _ _ _ _ _ _ _ _ _ _ _ _ _ _ _)
   | (with_reducible exact ih7 _ _ _ _ _ _ _ _ _ _ _ _ _ _ _ _ _ _ _)
   | (with_reducible exact ih8 _ _ _ _ _ _ _ _ _ _ _ _ _ _ _ _ _ _)
   | (with_reducible exact warplaw4_Cells.mono _ _ _)
   | (with_reducible exact warplaw4_Prio.mono _ _ _)
   | (with_reducible exact warpref1_MayUp.mono _ _ _)
   | (with_reducible exact warpref1_Root.mono _ _ _)
   | (with_reducible exact LeO.refl _)
   | (with_reducible exact LeO.none _)
   | (with_reducible refine LeO.ite ?_ ?_)
   | (with_reducible refine LeO.bind ?_ (fun _ => ?_))
   | exact ih0 _ _ _ _ _ _
   | exact ih1 _ _ _ _ _ _ _
   | exact ih2 _ _ _ _ _ _
   | exact ih3 _ _ _ _ _ _ _ _ _ _ _ _ _ _ _ _ _ _ _
   | exact ih4 _ _ _ _ _ _ _ _ _ _ _ _ _ _ _ _ _ _ _ _
   | exact ih5 _ _ _ _ _ _ _ _ _ _ _ _ _ _ _ _ _ _ _ _
   | exact ih6 _ _ _ _ _ _ _ _ _ _ _ _ _ _ _ _ _ _ _ _
   | exact ih7 _ _ _ _ _ _ _ _ _ _ _ _ _ _ _ _ _ _ _
   | exact ih8 _ _ _ _ _ _ _ _ _ _ _ _ _ _ _ _ _ _
   | exact warplaw4_Cells.mono _ _ _
   | exact warplaw4_Prio.mono _ _ _
   | exact warpref1_MayUp.mono _ _ _
   | exact warpref1_Root.mono _ _ _
   | exact LeO.none _
   | refine LeO.ite ?_ ?_
   | refine LeO.bind ?_ (fun _ => ?_)
  ·
   intro y0 y1 y2 y3 y4 y5 y6
   unfold warplaw4_CufRoots.l0
   repeat' first
   | (with_reducible exact ih0 _ _ _ _ _ _)
   | (with_reducible exact ih1 _ _ _ _ _ _ _)
   | (with_reducible exact ih2 _ _ _ _ _ _)
   | (with_reducible exact ih3 _ _ _ _ _ _ _ _ _ _ _ _ _ _ _ _ _ _ _)
   | (with_reducible exact ih4 _ _ _ _ _ _ _ _ _ _ _ _ _ _ _ _ _ _ _ _)
   | (with_reducible exact ih5 _ _ _ _ _ _ _ _ _ _ _ _ _ _ _ _ _ _ _ _)
   | (with_reducible exact ih6 _ _ _ _ _ _ _ _ _ _ _ _ _ _ _ _ _ _ _ _)
   | (with_reducible exact ih7 _ _ _ _ _ _ _ _ _ _ _ _ _ _ _ _ _ _ _)
   | (with_reducible exact ih8 _ _ _ _ _ _ _ _ _ _ _ _ _ _ _ _ _ _)
   | (with_reducible exact warplaw4_Cells.mono _ _ _)
   | (with_reducible exact warplaw4_Prio.mono _ _ _)
   | (with_reducible exact warpref1_MayUp.mono _ _ _)
   | (with_reducible exact warpref1_Root.mono _ _ _)
   | (with_reducible exact LeO.refl _)
   | (with_reducible exact LeO.none _)
   | (with_reducible refine LeO.ite ?_ ?_)
   | (with_reducible refine LeO.bind ?_ (fun _ => ?_))
   | exact ih0 _ _ _ _ _ _
   | exact ih1 _ _ _ _ _ _ _
   | exact ih2 _ _ _ _ _ _
   | exact ih3 _ _ _ _ _ _ _ _ _ _ _ _ _ _ _ _ _ _ _
   | exact ih4 _ _ _ _ _ _ _ _ _ _ _ _ _ _ _ _ _ _ _ _
   | exact ih5 _ _ _ _ _ _ _ _ _ _ _ _ _ _ _ _ _ _ _ _
   | exact ih6 _ _ _ _ _ _ _ _ _ _ _ _ _ _ _ _ _ _ _ _
   | exact ih7 _ _ _ _ _ _ _ _ _ _ _ _ _ _ _ _ _ _ _
   | exact ih8 _ _ _ _ _ _ _ _ _ _ _ _ _ _ _ _ _ _
   | exact warplaw4_Cells.mono _ _ _
   | exact warplaw4_Prio.mono _ _ _
   | exact warpref1_MayUp.mono _ _ _
   | exact warpref1_Root.mono _ _ _
   | exact LeO.none _
   | refine LeO.ite ?_ ?_
   | refine LeO.bind ?_ (fun _ => ?_)
  ·
   intro y0 y1 y2 y3 y4 y5
   unfold warplaw4_CufRoots.l1
   repeat' first
   | (with_reducible exact ih0 _ _ _ _ _ _)
   | (with_reducible exact ih1 _ _ _ _ _ _ _)
   | (with_reducible exact ih2 _ _ _ _ _ _)
   | (with_reducible exact ih3 _ _ _ _ _ _ _ _ _ _ _ _ _ _ _ _ _ _ _)
   | (with_reducible exact ih4 _ _ _ _ _ _ _ _ _ _ _ _ _ _ _ _ _ _ _ _)
   | (with_reducible exact ih5 _ _ _ _ _ _ _ _ _ _ _ _ _ _ _ _ _ _ _ _)
   | (with_reducible exact ih6 _ _ _ _ _ _ _ _ _ _ _ _ _ _ _ _ _ _ _ _)
   | (with_reducible exact ih7 _ _ _ _ _ _ _ _ _ _ _ _ _ _ _ _ _ _ _)
   | (with_reducible exact ih8 _ _ _ _ _ _ _ _ _ _ _ _ _ _ _ _ _ _)
   | (with_reducible exact warplaw4_Cells.mono _ _ _)
   | (with_reducible exact warplaw4_Prio.mono _ _ _)
   | (with_reducible exact warpref1_MayUp.mono _ _ _)
   | (with_reducible exact warpref1_Root.mono _ _ _)
   | (with_reducible exact LeO.refl _)
   | (with_reducible exact LeO.none _)
   | (with_reducible refine LeO.ite ?_ ?_)
   | (with_reducible refine LeO.bind ?_ (fun _ => ?_))
   | exact ih0 _ _ _ _ _ _
   | exact ih1 _ _ _ _ _ _ _
   | exact ih2 _ _ _ _ _ _
   | exact ih3 _ _ _ _ _ _ _ _ _ _ _ _ _ _ _ _ _ _ _
   | exact ih4 _ _ _ _ _ _ _ _ _ _ _ _ _ _ _ _ _ _ _ _
   | exact ih5 _ _ _ _ _ _ _ _ _ _ _ _ _ _ _ _ _ _ _ _
   | exact ih6 _ _ _ _ _ _ _ _ _ _ _ _ _ _ _ _ _ _ _ _
   | exact ih7 _ _ _ _ _ _ _ _ _ _ _ _ _ _ _ _ _ _ _
   | exact ih8 _ _ _ _ _ _ _ _ _ _ _ _ _ _ _ _ _ _
   | exact warplaw4_Cells.mono _ _ _
   | exact warplaw4_Prio.mono _ _ _
   | exact warpref1_MayUp.mono _ _ _
   | exact warpref1_Root.mono _ _ _
   | exact LeO.none _
   | refine LeO.ite ?_ ?_
   | refine LeO.bind ?_ (fun _ => ?_)
  ·
   intro y0 y1 y2 y3 y4 y5 y6 y7 y8 y9 y10 y11 y12 y13 y14 y15 y16 y17 y18
   unfold warplaw4_CufRoots.j3
   repeat' first
   | (with_reducible exact ih0 _ _ _ _ _ _)
   | (with_reducible exact ih1 _ _ _ _ _ _ _)
   | (with_reducible exact ih2 _ _ _ _ _ _)
   | (with_reducible exact ih3 _ _ _ _ _ _ _ _ _ _ _ _ _ _ _ _ _ _ _)
   | (with_reducible exact ih4 _ _ _ _ _ _ _ _ _ _ _ _ _ _ _ _ _ _ _ _)
   | (with_reducible exact ih5 _ _ _ _ _ _ _ _ _ _ _ _ _ _ _ _ _ _ _ _)
   | (with_reducible exact ih6 _ _ _ _ _ _ _ _ _ _ _ _ _ _ _ _ _ _ _ _)
   | (with_reducible exact ih7 _ _ _ _ _ _ _ _ _ _ _ _ _ _ _ _ _ _ _)
   | (with_reducible exact ih8 _ _ _ _ _ _ _ _ _ _ _ _ _ _ _ _ _ _)
   | (with_reducible exact warplaw4_Cells.mono _ _ _)
   | (with_reducible exact warplaw4_Prio.mono _ _ _)
   | (with_reducible exact warpref1_MayUp.mono _ _ _)
   | (with_reducible exact warpref1_Root.mono _ _ _)
   | (with_reducible exact LeO.refl _)
   | (with_reducible exact LeO.none _)
   | (with_reducible refine LeO.ite ?_ ?_)
   | (with_reducible refine LeO.bind ?_ (fun _ => ?_))
   | exact ih0 _ _ _ _ _ _
   | exact ih1 _ _ _ _ _ _ _
   | exact ih2 _ _ _ _ _ _
   | exact ih3 _ _ _ _ _ _ _ _ _ _ _ _ _ _ _ _ _ _ _
   | exact ih4 _ _ _ _ _ _ _ _ _ _ _ _ _ _ _ _ _ _ _ _
   | exact ih5 _ _ _ _ _ _ _ _ _ _ _ _ _ _ _ _ _ _ _ _
   | exact ih6 _ _ _ _ _ _ _ _ _ _ _ _ _ _ _ _ _ _ _ _
   | exact ih7 _ _ _ _ _ _ _ _ _ _ _ _ _ _ _ _ _ _ _
   | exact ih8 _ _ _ _ _ _ _ _ _ _ _ _ _ _ _ _ _ _
   | exact warplaw4_Cells.mono _ _ _
   | exact warplaw4_Prio.mono _ _ _
   | exact warpref1_MayUp.mono _ _ _
   | exact warpref1_Root.mono _ _ _
   | exact LeO.none _
   | refine LeO.ite ?_ ?_
   | refine LeO.bind ?_ (fun _ => ?_)
  ·
   intro y0 y1 y2 y3 y4 y5 y6 y7 y8 y9 y10 y11 y12 y13 y14 y15 y16 y17 y18 y19
   unfold warplaw4_CufRoots.l2
   repeat' first
   | (with_reducible exact ih0 _ _ _ _ _ _)
   | (with_reducible exact ih1 _ _ _ _ _ _ _)
   | (with_reducible exact ih2 _ _ _ _ _ _)
   | (with_reducible exact ih3 _ _ _ _ _ _ _ _ _ _ _ _ _ _ _ _ _ _ _)
   | (with_reducible exact ih4 _ _ _ _ _ _ _ _ _ _ _ _ _ _ _ _ _ _ _ _)
   | (with_reducible exact ih5 _ _ _ _ _ _ _ _ _ _ _ _ _ _ _ _ _ _ _ _)
   | (with_reducible exact ih6 _ _ _ _ _ _ _ _ _ _ _ _ _ _ _ _ _ _ _ _)
   | (with_reducible exact ih7 _ _ _ _ _ _ _ _ _ _ _ _ _ _ _ _ _ _ _)
   | (with_reducible exact ih8 _ _ _ _ _ _ _ _ _ _ _ _ _ _ _ _ _ _)
   | (with_reducible exact warplaw4_Cells.mono _ _ _)
   | (with_reducible exact warplaw4_Prio.mono _ _ _)
   | (with_reducible exact warpref1_MayUp.mono _ _ _)
   | (with_reducible exact warpref1_Root.mono _ _ _)
   | (with_reducible exact LeO.refl _)
   | (with_reducible exact LeO.none _)
   | (with_reducible refine LeO.ite ?_ ?_)
   | (with_reducible refine LeO.bind ?_ (fun _ => ?_))
   | exact ih0 _ _ _ _ _ _
   | exact ih1 _ _ _ _ _ _ _
   | exact ih2 _ _ _ _ _ _
   | exact ih3 _ _ _ _ _ _ _ _ _ _ _ _ _ _ _ _ _ _ _
   | exact ih4 _ _ _ _ _ _ _ _ _ _ _ _ _ _ _ _ _ _ _ _
   | exact ih5 _ _ _ _ _ _ _ _ _ _ _ _ _ _ _ _ _ _ _ _
   | exact ih6 _ _ _ _ _ _ _ _ _ _ _ _ _ _ _ _ _ _ _ _
   | exact ih7 _ _ _ _ _ _ _ _ _ _ _ _ _ _ _ _ _ _ _
   | exact ih8 _ _ _ _ _ _ _ _ _ _ _ _ _ _ _ _ _ _
   | exact warplaw4_Cells.mono _ _ _
   | exact warplaw4_Prio.mono _ _ _
   | exact warpref1_MayUp.mono _ _ _
   | exact warpref1_Root.mono _ _ _
   | exact LeO.none _
   | refine LeO.ite ?_ ?_
   | refine LeO.bind ?_ (fun _ => ?_)
  ·
   intro y0 y1 y2 y3 y4 y5 y6 y7 y8 y9 y10 y11 y12 y13 y14 y15 y16 y17 y18 y19
   unfold warplaw4_CufRoots.j5
   repeat' first
   | (with_reducible exact ih0 _ _ _ _ _ _)
   | (with_reducible exact ih1 _ _ _ _ _ _ _)
   | (with_reducible exact ih2 _ _ _ _ _ _)
   | (with_reducible exact ih3 _ _ _ _ _ _ _ _ _ _ _ _ _ _ _ _ _ _ _)
   | (with_reducible exact ih4 _ _ _ _ _ _ _ _ _ _ _ _ _ _ _ _ _ _ _ _)
   | (with_reducible exact ih5 _ _ _ _ _ _ _ _ _ _ _ _ _ _ _ _ _ _ _ _)
   | (with_reducible exact ih6 _ _ _ _ _ _ _ _ _ _ _ _ _ _ _ _ _ _ _ _)
   | (with_reducible exact ih7 _ _ _ _ _ _ _ _ _ _ _ _ _ _ _ _ _ _ _)
   | (with_reducible exact ih8 _ _ _ _ _ _ _ _ _ _ _ _ _ _ _ _ _ _)
   | (with_reducible exact warplaw4_Cells.mono _ _ _)
   | (with_reducible exact warplaw4_Prio.mono _ _ _)
   | (with_reducible exact warpref1_MayUp.mono _ _ _)
   | (with_reducible exact warpref1_Root.mono _ _ _)
   | (with_reducible exact LeO.refl _)
   | (with_reducible exact LeO.none _)
   | (with_reducible refine LeO.ite ?_ ?_)
   | (with_reducible refine LeO.bind ?_ (fun _ => ?_))
   | exact ih0 _ _ _ _ _ _
   | exact ih1 _ _ _ _ _ _ _
   | exact ih2 _ _ _ _ _ _
   | exact ih3 _ _ _ _ _ _ _ _ _ _ _ _ _ _ _ _ _ _ _
   | exact ih4 _ _ _ _ _ _ _ _ _ _ _ _ _ _ _ _ _ _ _ _
   | exact ih5 _ _ _ _ _ _ _ _ _ _ _ _ _ _ _ _ _ _ _ _
   | exact ih6 _ _ _ _ _ _ _ _ _ _ _ _ _ _ _ _ _ _ _ _
   | exact ih7 _ _ _ _ _ _ _ _ _ _ _ _ _ _ _ _ _ _ _
   | exact ih8 _ _ _ _ _ _ _ _ _ _ _ _ _ _ _ _ _ _
   | exact warplaw4_Cells.mono _ _ _
   | exact warplaw4_Prio.mono _ _ _
   | exact warpref1_MayUp.mono _ _ _
   | exact warpref1_Root.mono _ _ _
   | exact LeO.none _
   | refine LeO.ite ?_ ?_
   | refine LeO.bind ?_ (fun _ => ?_)
  ·
   intro y0 y1 y2 y3 y4 y5 y6 y7 y8 y9 y10 y11 y12 y13 y14 y15 y16 y17 y18 y19
   unfold warplaw4_CufRoots.j6
   repeat' first
   | (with_reducible exact ih0 _ _ _ _ _ _)
   | (with_reducible exact ih1 _ _ _ _ _ _ _)
   | (with_reducible exact ih2 _ _ _ _ _ _)
   | (with_reducible exact ih3 _ _ _ _ _ _ _ _ _ _ _ _ _ _ _ _ _ _ _)
   | (with_reducible exact ih4 _ _ _ _ _ _ _ _ _ _ _ _ _ _ _ _ _ _ _ _)
   | (with_reducible exact ih5 _ _ _ _ _ _ _ _ _ _ _ _ _ _ _ _ _ _ _ _)
   | (with_reducible exact ih6 _ _ _ _ _ _ _ _ _ _ _ _ _ _ _ _ _ _ _ _)
   | (with_reducible exact ih7 _ _ _ _ _ _ _ _ _ _ _ _ _ _ _ _ _ _ _)
   | (with_reducible exact ih8 _ _ _ _ _ _ _ _ _ _ _ _ _ _ _ _ _ _)
   | (with_reducible exact warplaw4_Cells.mono _ _ _)
   | (with_reducible exact warplaw4_Prio.mono _ _ _)
   | (with_reducible exact warpref1_MayUp.mono _ _ _)
   | (with_reducible exact warpref1_Root.mono _ _ _)
   | (with_reducible exact LeO.refl _)
   | (with_reducible exact LeO.none _)
   | (with_reducible refine LeO.ite ?_ ?_)
   | (with_reducible refine LeO.bind ?_ (fun _ => ?_))
   | exact ih0 _ _ _ _ _ _
   | exact ih1 _ _ _ _ _ _ _
   | exact ih2 _ _ _ _ _ _
   | exact ih3 _ _ _ _ _ _ _ _ _ _ _ _ _ _ _ _ _ _ _
   | exact ih4 _ _ _ _ _ _ _ _ _ _ _ _ _ _ _ _ _ _ _ _
   | exact ih5 _ _ _ _ _ _ _ _ _ _ _ _ _ _ _ _ _ _ _ _
   | exact ih6 _ _ _ _ _ _ _ _ _ _ _ _ _ _ _ _ _ _ _ _
   | exact ih7 _ _ _ _ _ _ _ _ _ _ _ _ _ _ _ _ _ _ _
   | exact ih8 _ _ _ _ _ _ _ _ _ _ _ _ _ _ _ _ _ _
   | exact warplaw4_Cells.mono _ _ _
   | exact warplaw4_Prio.mono _ _ _
   | exact warpref1_MayUp.mono _ _ _
   | exact warpref1_Root.mono _ _ _
   | exact LeO.none _
   | refine LeO.ite ?_ ?_
   | refine LeO.bind ?_ (fun _ => ?_)
  ·
   intro y0 y1 y2 y3 y4 y5 y6 y7 y8 y9 y10 y11 y12 y13 y14 y15 y16 y17 y18
   unfold warplaw4_CufRoots.j7
   repeat' first
   | (with_reducible exact ih0 _ _ _ _ _ _)
   | (with_reducible exact ih1 _ _ _ _ _ _ _)
   | (with_reducible exact ih2 _ _ _ _ _ _)
   | (with_reducible exact ih3 _ _ _ _ _ _ _ _ _ _ _ _ _ _ _ _ _ _ _)
   | (with_reducible exact ih4 _ _ _ _ _ _ _ _ _ _ _ _ _ _ _ _ _ _ _ _)
   | (with_reducible exact ih5 _ _ _ _ _ _ _ _ _ _ _ _ _ _ _ _ _ _ _ _)
   | (with_reducible exact ih6 _ _ _ _ _ _ _ _ _ _ _ _ _ _ _ _ _ _ _ _)
   | (with_reducible exact ih7 _ _ _ _ _ _ _ _ _ _ _ _ _ _ _ _ _ _ _)
   | (with_reducible exact ih8 _ _ _ _ _ _ _ _ _ _ _ _ _ _ _ _ _ _)
   | (with_reducible exact warplaw4_Cells.mono _ _ _)
   | (with_reducible exact warplaw4_Prio.mono _ _ _)
   | (with_reducible exact warpref1_MayUp.mono _ _ _)
   | (with_reducible exact warpref1_Root.mono _ _ _)
   | (with_reducible exact LeO.refl _)
   | (with_reducible exact LeO.none _)
   | (with_reducible refine LeO.ite ?_ ?_)
   | (with_reducible refine LeO.bind ?_ (fun _ => ?_))
   | exact ih0 _ _ _ _ _ _
   | exact ih1 _ _ _ _ _ _ _
   | exact ih2 _ _ _ _ _ _
   | exact ih3 _ _ _ _ _ _ _ _ _ _ _ _ _ _ _ _ _ _ _
   | exact ih4 _ _ _ _ _ _ _ _ _ _ _ _ _ _ _ _ _ _ _ _
   | exact ih5 _ _ _ _ _ _ _ _ _ _ _ _ _ _ _ _ _ _ _ _
   | exact ih6 _ _ _ _ _ _ _ _ _ _ _ _ _ _ _ _ _ _ _ _
   | exact ih7 _ _ _ _ _ _ _ _ _ _ _ _ _ _ _ _ _ _ _
   | exact ih8 _ _ _ _ _ _ _ _ _ _ _ _ _ _ _ _ _ _
   | exact warplaw4_Cells.mono _ _ _
   | exact warplaw4_Prio.mono _ _ _
   | exact warpref1_MayUp.mono _ _ _
   | exact warpref1_Root.mono _ _ _
   | exact LeO.none _
   | refine LeO.ite ?_ ?_
   | refine LeO.bind ?_ (fun _ => ?_)
  ·
   intro y0 y1 y2 y3 y4 y5 y6 y7 y8 y9 y10 y11 y12 y13 y14 y15 y16 y17
   unfold warplaw4_CufRoots.j8
   repeat' first
   | (with_reducible exact ih0 _ _ _ _ _ _)
   | (with_reducible exact ih1 _ _ _ _ _ _ _)
   | (with_reducible exact ih2 _ _ _ _ _ _)
   | (with_reducible exact ih3 _ _ _ _ _ _ _ _ _ _ _ _ _ _ _ _ _ _ _)
   | (with_reducible exact ih4 _ _ _ _ _ _ _ _ _ _ _ _ _ _ _ _ _ _ _ _)
   | (with_reducible exact ih5 _ _ _ _ _ _ _ _ _ _ _ _ _ _ _ _ _ _ _ _)
   | (with_reducible exact ih6 _ _ _ _ _ _ _ _ _ _ _ _ _ _ _ _ _ _ _ _)
   | (with_reducible exact ih7 _ _ _ _ _ _ _ _ _ _ _ _ _ _ _ _ _ _ _)
   | (with_reducible exact ih8 _ _ _ _ _ _ _ _ _ _ _ _ _ _ _ _ _ _)
   | (with_reducible exact warplaw4_Cells.mono _ _ _)
   | (with_reducible exact warplaw4_Prio.mono _ _ _)
   | (with_reducible exact warpref1_MayUp.mono _ _ _)
   | (with_reducible exact warpref1_Root.mono _ _ _)
   | (with_reducible exact LeO.refl _)
   | (with_reducible exact LeO.none _)
   | (with_reducible refine LeO.ite ?_ ?_)
   | (with_reducible refine LeO.bind ?_ (fun _ => ?_))
   | exact ih0 _ _ _ _ _ _
   | exact ih1 _ _ _ _ _ _ _
   | exact ih2 _ _ _ _ _ _
   | exact ih3 _ _ _ _ _ _ _ _ _ _ _ _ _ _ _ _ _ _ _
   | exact ih4 _ _ _ _ _ _ _ _ _ _ _ _ _ _ _ _ _ _ _ _
   | exact ih5 _ _ _ _ _ _ _ _ _ _ _ _ _ _ _ _ _ _ _ _
   | exact ih6 _ _ _ _ _ _ _ _ _ _ _ _ _ _ _ _ _ _ _ _
   | exact ih7 _ _ _ _ _ _ _ _ _ _ _ _ _ _ _ _ _ _ _
   | exact ih8 _ _ _ _ _ _ _ _ _ _ _ _ _ _ _ _ _ _
   | exact warplaw4_Cells.mono _ _ _
   | exact warplaw4_Prio.mono _ _ _
   | exact warpref1_MayUp.mono _ _ _
   | exact warpref1_Root.mono _ _ _
   | exact LeO.none _
   | refine LeO.ite ?_ ?_
   | refine LeO.bind ?_ (fun _ => ?_)
theorem warplaw4_CufRoots.mono : ∀ a0 a1 a2 a3 k, LeO (warplaw4_CufRoots.f k a0 a1 a2 a3) (warplaw4_CufRoots.f (k + 1) a0 a1 a2 a3) := by
 intro a0 a1 a2 a3 k
 obtain ⟨ih0, ih1, ih2, ih3, ih4, ih5, ih6, ih7, ih8⟩ := warplaw4_CufRoots.mono_l k
 unfold warplaw4_CufRoots.f
 repeat' first
  | (with_reducible exact ih0 _ _ _ _ _ _)
  | (with_reducible exact ih1 _ _ _ _ _ _ _)
  | (with_reducible exact ih2 _ _ _ _ _ _)
  | (with_reducible exact ih3 _ _ _ _ _ _ _ _ _ _ _ _ _ _ _ _ _ _ _)
  | (with_reducible exact ih4 _ _ _ _ _ _ _ _ _ _ _ _ _ _ _ _ _ _ _ _)
  | (with_reducible exact ih5 _ _ _ _ _ _ _ _ _ _ _ _ _ _ _ _ _ _ _ _)
  | (with_reducible exact ih6 _ _ _ _ _ _ _ _ _ _ _ _ _ _ _ _ _ _ _ _)
  | (with_reducible exact ih7 _ _ _ _ _ _ _ _ _ _ _ _ _ _ _ _ _ _ _)
  | (with_reducible exact ih8 _ _ _ _ _ _ _ _ _ _ _ _ _ _ _ _ _ _)
  | (with_reducible exact warplaw4_Cells.mono _ _ _)
  | (with_reducible exact warplaw4_Prio.mono _ _ _)
  | (with_reducible exact warpref1_MayUp.mono _ _ _)
  | (with_reducible exact warpref1_Root.mono _ _ _)
  | (with_reducible exact LeO.refl _)
  | (with_reducible exact LeO.none _)
  | (with_reducible refine LeO.ite ?_ ?_)
  | (with_reducible refine LeO.bind ?_ (fun _ => ?_))
  | exact ih0 _ _ _ _ _ _
  | exact ih1 _ _ _ _ _ _ _
  | exact ih2 _ _ _ _ _ _
  | exact ih3 _ _ _ _ _ _ _ _ _ _ _ _ _ _ _ _ _ _ _
  | exact ih4 _ _ _ _ _ _ _ _ _ _ _ _ _ _ _ _ _ _ _ _
  | exact ih5 _ _ _ _ _ _ _ _ _ _ _ _ _ _ _ _ _ _ _ _
  | exact ih6 _ _ _ _ _ _ _ _ _ _ _ _ _ _ _ _ _ _ _ _
  | exact ih7 _ _ _ _ _ _ _ _ _ _ _ _ _ _ _ _ _ _ _
  | exact ih8 _ _ _ _ _ _ _ _ _ _ _ _ _ _ _ _ _ _
  | exact warplaw4_Cells.mono _ _ _
  | exact warplaw4_Prio.mono _ _ _
  | exact warpref1_MayUp.mono _ _ _
  | exact warpref1_Root.mono _ _ _
  | exact LeO.none _
  | refine LeO.ite ?_ ?_
  | refine LeO.bind ?_ (fun _ => ?_)
def warplaw4_CufRoots.T10 : Bool × List (List Nat × List Nat) := (true, [([], []), ([], []), ([1], [1]), ([0, 2], [0, 2]), ([3], [3]), ([], []), ([], []), ([6], [6]), ([7], [7]), ([5, 8], [5, 8]), ([9], [9]), ([], []), ([], []), ([12], [12]), ([13], [13]), ([11, 14], [11, 14]), ([15], [15]), ([], []), ([4, 10, 16, 17], [4, 10, 16, 17]), ([], []), ([18, 19, 18], [18, 19]), ([20], [20]), ([21], [21]), ([21], [21]), ([], []), ([24, 22, 20, 0, 1, 2, 3, 4, 5, 6, 7, 8, 9, 10, 11, 12, 13, 14, 15, 16, 17, 18, 19, 20, 21, 22, 24], [22, 24]), ([23, 25, 0, 1, 2, 3, 4, 5, 6, 7, 8, 9, 10, 11, 12, 13, 14, 15, 16, 17, 18, 19, 20, 21, 22, 23, 24, 25], [23])])
def warplaw4_CufRoots.B10 : List Nat := [0, 0, 2, 7, 15, 0, 0, 64, 192, 480, 992, 0, 0, 4096, 12288, 30720, 63488, 0, 262143, 0, 1048575, 2097151, 4194303, 4194303, 0, 25165823, 67108863]
theorem warplaw4_CufRoots.tab10 : rtab .any (opsOf Try.f4 10) = warplaw4_CufRoots.T10 := by kernel_rfl
theorem warplaw4_CufRoots.bits10 : waitsOk warplaw4_CufRoots.T10.2 warplaw4_CufRoots.B10 = true := by kernel_rfl
set_option maxHeartbeats 8000000 in
set_option maxRecDepth 100000 in
theorem warplaw4_CufRoots.calls (k : Nat) (A0 : Option Addr) (c0 : Nat) (l0 : List Int) (A1 : Option Addr) (c1 : Nat) (l1 : List Int) (A2 : Option Addr) (c2 : Nat) (l2 : List Int) (A3 : Option Addr) (c3 : Nat) (l3 : List Int) (r : Bool) (w : World) (hr0 : Kd.C (Kd.int .u8) w A0 l0.length l0) (hc0 : l0.length ≤ c0) (hr1 : Kd.C (Kd.int .u8) w A1 l1.length l1) (hc1 : l1.length ≤ c1) (hr2 : Kd.C (Kd.int .u8) w A2 l2.length l2) (hc2 : l2.length ≤ c2) (hr3 : Kd.C (Kd.int .u8) w A3 l3.length l3) (hc3 : l3.length ≤ c3) (h : warplaw4_CufRoots.f k l0 l1 l2 l3 = some r) :
 Calls Try.prog 4 #[.slice A0 l0.length c0, .slice A1 l1.length c1, .slice A2 l2.length c2, .slice A3 l3.length c3] w fun e w' => e = .returned (.bool r) ∧ Below w.heap.size w w' := by
 have hu31 := Try.underlying31
 have HR0 := Aside0.mk hr0
 have HC0 := Aside0.mk hc0
 clear hr0 hc0
 have HR1 := Aside0.mk hr1
 have HC1 := Aside0.mk hc1
 clear hr1 hc1
 have HR2 := Aside0.mk hr2
 have HC2 := Aside0.mk hc2
 clear hr2 hc2
 have HR3 := Aside0.mk hr3
 have HC3 := Aside0.mk hc3
 clear hr3 hc3
 have HB := Aside0.mk (Below.refl w.heap.size w)
 have H : (if (l0.length : Int) > 60 then (warplaw4_CufRoots.j0 k l0 l1 l2 l3 (2 + ((l1.length : Int) % 14)) true) else (if (l2.length : Int) < 12 then (warplaw4_CufRoots.j0 k l0 l1 l2 l3 (2 + ((l1.length : Int) % 14)) true) else (warplaw4_CufRoots.j0 k l0 l1 l2 l3 (2 + ((l1.length : Int) % 14)) (decide ((l3.length : Int) > 100))))) = some r := h
 clear h
 have HC5 := Aside0.mk H
 clear H
 go_enter Try.func4, Try.ntmps4
 go_upto_region 2 with (fail)
 go_cut [39] (fun v39 wc => ∃ (kq : Nat) (x39_4 : Bool), v39 = .bool x39_4 ∧ Aside0 (warplaw4_CufRoots.j0 kq l0 l1 l2 l3 (2 + ((l1.length : Int) % 14)) x39_4 = some r) ∧ Aside0 (kq ≤ k) ∧ Aside0 (Below w.heap.size w wc))
 case first =>
  have H := HC5.out
  clear HC5
  by_cases c6 : (l0.length : Int) > 60
  ·
   rw [if_pos c6] at H
   have c6b0 : decide (60 < (l0.length : Int)) = true := decide_eq_true c6
   have c6b1 : decide (60 < l0.length) = true := decide_eq_true (by omega)
   clear c6
   (first | rw [c6b0] | (simp only [i64_w, i32_w]; rw [c6b0]) | skip)
   have H' := Aside0.mk H
   clear H
   go_wp2
   go_meet
   case rel => exact ⟨_, (true), (by first | rfl | (simp; done) | (simp [*]; done)), H', ⟨by first | omega | exact Nat.le_refl _⟩, ⟨by repeat (first | (with_reducible first | exact HB.out | apply below_alloc | apply pw_below_drewN | apply below_drew1) | exact HB.out)⟩⟩
  ·
   rw [if_neg c6] at H
   have c6b0 : decide (60 < (l0.length : Int)) = false := decide_eq_false c6
   have c6b1 : decide (60 < l0.length) = false := decide_eq_false (by omega)
   clear c6
   (first | rw [c6b0] | (simp only [i64_w, i32_w]; rw [c6b0]) | skip)
   by_cases c7 : (l2.length : Int) < 12
   ·
    rw [if_pos c7] at H
    have c7b0 : decide ((l2.length : Int) < 12) = true := decide_eq_true c7
    have c7b1 : decide (l2.length < 12) = true := decide_eq_true (by omega)
    clear c7
    have H' := Aside0.mk H
    clear H
    go_wp2
    go_meet
    case rel => exact ⟨_, (true), (by first | rfl | (simp; done) | (simp [*]; done)), H', ⟨by first | omega | exact Nat.le_refl _⟩, ⟨by repeat (first | (with_reducible first | exact HB.out | apply below_alloc | apply pw_below_drewN | apply below_drew1) | exact HB.out)⟩⟩
   ·
    rw [if_neg c7] at H
    have c7b0 : decide ((l2.length : Int) < 12) = false := decide_eq_false c7
    have c7b1 : decide (l2.length < 12) = false := decide_eq_false (by omega)
    clear c7
    have H' := Aside0.mk H
    clear H
    go_wp2
    go_meet
    case rel => exact ⟨_, (decide ((l3.length : Int) > 100)), (by first | rfl | (simp; done) | (simp [*]; done)), H', ⟨by first | omega | exact Nat.le_refl _⟩, ⟨by repeat (first | (with_reducible first | exact HB.out | apply below_alloc | apply pw_below_drewN | apply below_drew1) | exact HB.out)⟩⟩
 case rest =>
  clear HC5
  (try clear c1); (try clear c2); (try clear p2); (try clear c3); (try clear c4); (try clear c6); (try clear c6b0); (try clear c6b1); (try clear c7); (try clear c7b0); (try clear c7b1)
  obtain ⟨kq, x39_4, rfl, HA, HJ4, HB⟩ := hcut
  cases kq with
  | zero => exact absurd HA.out (by simp [warplaw4_CufRoots.j0])
  | succ kj4 =>
   have H := HA.out
   clear HA
   simp only [warplaw4_CufRoots.j0] at H
   by_cases c8 : x39_4 = true
   ·
    subst c8
    have H1 : ((warplaw4_awake.f).bind fun t279 => (some t279)) = some r := by rw [if_pos rfl] at H; exact H
    clear H
    have H := H1
    clear H1
    replace H := Option.bind_eq_some_iff.mp H
    obtain ⟨t279, A90, H⟩ := H
    replace H : (some t279) = some r := H
    have A9 := Aside0.mk A90
    clear A90
    obtain rfl := Option.some.inj H
    go_wp2_with (first | ((with_reducible refine gate_callee (f := 8) rfl ?_); refine goesL_ (some 40) rfl rfl Try.func8 (by kernel_rfl) rfl #[] rfl (by (try simp only [List.map_toArray, List.map_cons, List.map_nil]); first | done | rfl | (simp only [List.length_drop, List.length_take]; rfl)) ?_; (with_reducible refine (warplaw4_awake.calls  t279 _ A9.out).mono ?_); rintro e w10 ⟨rfl, hb⟩; refine ⟨_, rfl, ?_⟩; have n0_ := Aside0.mk (below_step (by repeat (first | (with_reducible first | exact HB.out | apply below_alloc | apply pw_below_drewN | apply below_drew1) | exact HB.out)) hb); clear HB; have HB := n0_; clear n0_; (try clear hb); (try clear hb2); (try clear hk); (try clear hi)))
    go_ret
    exact ⟨by first | rfl | (simp [errW_none, errW_some] <;> rfl) | (simp [*, errW_none, errW_some] <;> rfl), by repeat (first | (with_reducible first | exact HB.out | apply below_alloc | apply pw_below_drewN | apply below_drew1) | exact HB.out)⟩
   ·
    replace c8 := Bool.eq_false_iff.mpr c8
    subst c8
    have H1 : ((warplaw4_Prio.f kj4 l1 (2 + ((l1.length : Int) % 14))).bind fun t280 => ((warplaw4_Cells.f kj4 l0 t280).bind fun t283 => (warplaw4_CufRoots.l0 kj4 l2 l3 (2 + ((l1.length : Int) % 14)) t280 t283 ([] : List (S31)) 0))) = some r := by rw [if_neg (show ¬ (false = true) by decide)] at H; exact H
    clear H
    have H := H1
    clear H1
    replace H := Option.bind_eq_some_iff.mp H
    obtain ⟨t280, A110, H⟩ := H
    replace H : ((warplaw4_Cells.f kj4 l0 t280).bind fun t283 => (warplaw4_CufRoots.l0 kj4 l2 l3 (2 + ((l1.length : Int) % 14)) t280 t283 ([] : List (S31)) 0)) = some r := H
    have A11 := Aside0.mk A110
    clear A110
    replace H := Option.bind_eq_some_iff.mp H
    obtain ⟨t283, A120, H⟩ := H
    replace H : (warplaw4_CufRoots.l0 kj4 l2 l3 (2 + ((l1.length : Int) % 14)) t280 t283 ([] : List (S31)) 0) = some r := H
    have A12 := Aside0.mk A120
    clear A120
    have H' := Aside0.mk H
    clear H
    go_wp2_with (first | ((with_reducible refine gate_callee (f := 9) rfl ?_); refine goesL_ (some 43) rfl rfl Try.func9 (by kernel_rfl) rfl #[.slice A1 l1.length c1, .int .i64 (2 + ((l1.length : Int) % 14))] rfl (by (try simp only [List.map_toArray, List.map_cons, List.map_nil]); first | done | rfl | (simp only [List.length_drop, List.length_take]; rfl)) ?_; (with_reducible refine (warplaw4_Prio.calls kj4 _ _ l1 (2 + ((l1.length : Int) % 14)) t280 _ ?side1 ?side2 A11.out).mono ?_); (case side1 => repeat (first | exact (Kd.C_below HR1.out HB.out) | (with_reducible refine Kd.C_alloc ?_ _) | (with_reducible refine Kd.C_drewN ?_ _) | (with_reducible refine Kd.C_drew ?_))); (case side2 => exact HC1.out); rintro e w13 ⟨v281, rfl, ho0, hb⟩; refine ⟨_, rfl, ?_⟩; have n0_ := Aside0.mk (Kd.R_lower ho0 (below_size (by repeat (first | (with_reducible first | exact HB.out | apply below_alloc | apply pw_below_drewN | apply below_drew1) | exact HB.out)))); have n1_ := Aside0.mk (below_step (by repeat (first | (with_reducible first | exact HB.out | apply below_alloc | apply pw_below_drewN | apply below_drew1) | exact HB.out)) hb); clear HB; have HO282 := n0_; have HB := n1_; clear n0_ n1_; (try clear hb); (try clear hb2); (try clear hk); (try clear hi); (try clear ho0); obtain ⟨Ao14, co14, eo14⟩ := Kd.R_slice HO282.out; subst eo14) | ((with_reducible refine gate_callee (f := 10) rfl ?_); refine goesL_ (some 46) rfl rfl Try.func10 (by kernel_rfl) rfl #[.slice A0 l0.length c0, .slice Ao14 t280.length co14] rfl (by (try simp only [List.map_toArray, List.map_cons, List.map_nil]); first | done | rfl | (simp only [List.length_drop, List.length_take]; rfl)) ?_; (with_reducible refine (warplaw4_Cells.calls kj4 _ _ l0 _ _ t280 t283 _ ?side1 ?side2 ?side3 ?side4 A12.out).mono ?_); (case side1 => repeat (first | exact (Kd.C_below HR0.out HB.out) | (with_reducible refine Kd.C_alloc ?_ _) | (with_reducible refine Kd.C_drewN ?_ _) | (with_reducible refine Kd.C_drew ?_))); (case side2 => exact HC0.out); (case side3 => repeat (first | exact (Kd.R_reads' HO282.out).2.2 | (with_reducible refine Kd.C_alloc ?_ _) | (with_reducible refine Kd.C_drewN ?_ _) | (with_reducible refine Kd.C_drew ?_))); (case side4 => exact (Kd.R_reads' HO282.out).2.1); rintro e w15 ⟨v284, rfl, ho0, hb⟩; refine ⟨_, rfl, ?_⟩; have n0_ := Aside0.mk (Kd.R_elder' (by (with_reducible repeat (first | apply Kd.R_alloc | apply Kd.R_drewN | apply Kd.R_drew)); exact HO282.out) (Kd.R_base ho0) hb); have n1_ := Aside0.mk (Kd.R_lower (Kd.R_new' ho0 (Kd.R_lt (by (with_reducible repeat (first | apply Kd.R_alloc | apply Kd.R_drewN | apply Kd.R_drew)); exact HO282.out))) (below_size (by repeat (first | (with_reducible first | exact HB.out | apply below_alloc | apply pw_below_drewN | apply below_drew1) | exact HB.out)))); have n2_ := Aside0.mk (below_step (by repeat (first | (with_reducible first | exact HB.out | apply below_alloc | apply pw_below_drewN | apply below_drew1) | exact HB.out)) hb); clear HO282; clear HB; have HO282 := n0_; have HO285 := n1_; have HB := n2_; clear n0_ n1_ n2_; (try clear hb); (try clear hb2); (try clear hk); (try clear hi); (try clear ho0)))
    go_loopg [12, 13] kj4 (fun kq v12 v13 w' => ∃ (x12_2 : List (S31)) (x13_2 : Int), v13 = .int .i64 x13_2 ∧ Aside0 (warplaw4_CufRoots.l0 kq l2 l3 (2 + ((l1.length : Int) % 14)) t280 t283 x12_2 x13_2 = some r) ∧ Aside0 (kq ≤ kj4) ∧ Aside0 (Kd.R (Kd.int .i64) 3 w' w.heap.size (fun k_ => some k_ ≠ (v284 : Value).ownBlock) (.slice Ao14 t280.length co14) t280) ∧ Aside0 (Kd.R (Kd.int .i64) 3 w' w.heap.size (fun k_ => some k_ ≠ ((.slice Ao14 t280.length co14) : Value).ownBlock) v284 t283) ∧ Aside0 (Kd.R k31 31 w' w.heap.size (fun _ => True) v12 x12_2) ∧ Aside0 (Below w.heap.size w w'))
    case atStart => exact ⟨(([] : List (S31))), (0), (by first | rfl | (simp; done) | (simp [*]; done)), H', ⟨Nat.le_refl _⟩, ⟨by (with_reducible repeat (first | apply Kd.R_alloc | apply Kd.R_drewN | apply Kd.R_drew)); exact Kd.R_mono HO282.out (fun _ hk => hk.2)⟩, ⟨by (with_reducible repeat (first | apply Kd.R_alloc | apply Kd.R_drewN | apply Kd.R_drew)); exact Kd.R_mono HO285.out (fun _ hk => hk.2)⟩, ⟨by first | exact Kd.R_nil _ _ _ _ _ | exact Kd.N_nil _ _ _ _ _ | exact Kd.V_nil _ _ _ _ _ | exact Kd.Q_nil _ _ _ _ _ | exact Kd.S_nil _ _ _ _ _⟩, ⟨by repeat (first | (with_reducible first | exact HB.out | apply below_alloc | apply pw_below_drewN | apply below_drew1) | exact HB.out)⟩⟩
    case round =>
     clear H'
     (try clear c1); (try clear c2); (try clear p2); (try clear c3); (try clear c4); (try clear c6); (try clear c6b0); (try clear c6b1); (try clear c7); (try clear c7b0); (try clear c7b1); (try clear c8); (try clear c9); (try clear c10); (try clear p2)
     obtain ⟨x12_2, x13_2, rfl, HA, HK2, HO_10, HO_11, HO_12, HB⟩ := hrel
     cases gk with
     | zero => exact absurd HA.out (by simp [warplaw4_CufRoots.l0])
     | succ k2 =>
      have H := HA.out
      clear HA
      simp only [warplaw4_CufRoots.l0] at H
      by_cases c16 : x13_2 < 4
      ·
       rw [if_pos c16] at H
       have c16b0 : decide (x13_2 < 4) = true := decide_eq_true c16
       clear c16
       obtain ⟨ji17, hji17⟩ : ∃ j_ : Int, (wrap64 (3 * x13_2)) = j_ := ⟨_, rfl⟩
       replace H : (if 0 ≤ (ji17) then (if (ji17) < (l2.length : Int) then (if 0 ≤ (wrap64 ((ji17) + 1)) then (if (wrap64 ((ji17) + 1)) < (l2.length : Int) then (if 0 ≤ (wrap64 ((ji17) + 2)) then (if (wrap64 ((ji17) + 2)) < (l2.length : Int) then ((warplaw4_op.f (rd l2 (ji17)) (rd l2 (wrap64 ((ji17) + 1))) (rd l2 (wrap64 ((ji17) + 2))) (2 + ((l1.length : Int) % 14))).bind fun bt289 => ((cuf_Begin.f bt289.1 bt289.2.1 bt289.2.2 (2 + ((l1.length : Int) % 14))).bind fun bt292 => (if bt292.2.2.2.2.2.2.2.2.2.2 = true then (if x12_2.length < 1759218604441 then (warplaw4_CufRoots.l0 k2 l2 l3 (2 + ((l1.length : Int) % 14)) t280 t283 (x12_2 ++ [(⟨(⟨bt292.1, bt292.2.1, bt292.2.2.1⟩ : S28), bt292.2.2.2.1, bt292.2.2.2.2.1, bt292.2.2.2.2.2.1, bt292.2.2.2.2.2.2.1, bt292.2.2.2.2.2.2.2.1, bt292.2.2.2.2.2.2.2.2.1, bt292.2.2.2.2.2.2.2.2.2.1⟩ : S31)]) (wrap64 (x13_2 + 1))) else (none)) else (some false)))) else (none)) else (none)) else (none)) else (none)) else (none)) else (none)) = some r := by first | (rw [hji17] at H; exact H) | (simp only [hji17] at H ⊢; exact H)
       have hji17w : (IntKind.i64.wrap (3 * x13_2)) = ji17 := (i64_w _).trans hji17
       by_cases c18 : 0 ≤ (ji17)
       ·
        rw [if_pos c18] at H
        have c18b0 : decide (0 ≤ (ji17)) = true := decide_eq_true c18
        clear c18
        by_cases c19 : (ji17) < (l2.length : Int)
        ·
         rw [if_pos c19] at H
         have c19b0 : decide ((ji17) < (l2.length : Int)) = true := decide_eq_true c19
         clear c19
         obtain ⟨ji20, hji20⟩ : ∃ j_ : Int, (wrap64 ((ji17) + 1)) = j_ := ⟨_, rfl⟩
         replace H : (if 0 ≤ (ji20) then (if (ji20) < (l2.length : Int) then (if 0 ≤ (wrap64 ((ji17) + 2)) then (if (wrap64 ((ji17) + 2)) < (l2.length : Int) then ((warplaw4_op.f (rd l2 (ji17)) (rd l2 (ji20)) (rd l2 (wrap64 ((ji17) + 2))) (2 + ((l1.length : Int) % 14))).bind fun bt289 => ((cuf_Begin.f bt289.1 bt289.2.1 bt289.2.2 (2 + ((l1.length : Int) % 14))).bind fun bt292 => (if bt292.2.2.2.2.2.2.2.2.2.2 = true then (if x12_2.length < 1759218604441 then (warplaw4_CufRoots.l0 k2 l2 l3 (2 + ((l1.length : Int) % 14)) t280 t283 (x12_2 ++ [(⟨(⟨bt292.1, bt292.2.1, bt292.2.2.1⟩ : S28), bt292.2.2.2.1, bt292.2.2.2.2.1, bt292.2.2.2.2.2.1, bt292.2.2.2.2.2.2.1, bt292.2.2.2.2.2.2.2.1, bt292.2.2.2.2.2.2.2.2.1, bt292.2.2.2.2.2.2.2.2.2.1⟩ : S31)]) (wrap64 (x13_2 + 1))) else (none)) else (some false)))) else (none)) else (none)) else (none)) else (none)) = some r := by first | (rw [hji20] at H; exact H) | (simp only [hji20] at H ⊢; exact H)
         have hji20w : (IntKind.i64.wrap ((ji17) + 1)) = ji20 := (i64_w _).trans hji20
         by_cases c21 : 0 ≤ (ji20)
         ·
          rw [if_pos c21] at H
          have c21b0 : decide (0 ≤ (ji20)) = true := decide_eq_true c21
          clear c21
          by_cases c22 : (ji20) < (l2.length : Int)
          ·
           rw [if_pos c22] at H
           have c22b0 : decide ((ji20) < (l2.length : Int)) = true := decide_eq_true c22
           clear c22
           obtain ⟨ji23, hji23⟩ : ∃ j_ : Int, (wrap64 ((ji17) + 2)) = j_ := ⟨_, rfl⟩
           replace H : (if 0 ≤ (ji23) then (if (ji23) < (l2.length : Int) then ((warplaw4_op.f (rd l2 (ji17)) (rd l2 (ji20)) (rd l2 (ji23)) (2 + ((l1.length : Int) % 14))).bind fun bt289 => ((cuf_Begin.f bt289.1 bt289.2.1 bt289.2.2 (2 + ((l1.length : Int) % 14))).bind fun bt292 => (if bt292.2.2.2.2.2.2.2.2.2.2 = true then (if x12_2.length < 1759218604441 then (warplaw4_CufRoots.l0 k2 l2 l3 (2 + ((l1.length : Int) % 14)) t280 t283 (x12_2 ++ [(⟨(⟨bt292.1, bt292.2.1, bt292.2.2.1⟩ : S28), bt292.2.2.2.1, bt292.2.2.2.2.1, bt292.2.2.2.2.2.1, bt292.2.2.2.2.2.2.1, bt292.2.2.2.2.2.2.2.1, bt292.2.2.2.2.2.2.2.2.1, bt292.2.2.2.2.2.2.2.2.2.1⟩ : S31)]) (wrap64 (x13_2 + 1))) else (none)) else (some false)))) else (none)) else (none)) = some r := by first | (rw [hji23] at H; exact H) | (simp only [hji23] at H ⊢; exact H)
           have hji23w : (IntKind.i64.wrap ((ji17) + 2)) = ji23 := (i64_w _).trans hji23
           by_cases c24 : 0 ≤ (ji23)
           ·
            rw [if_pos c24] at H
            have c24b0 : decide (0 ≤ (ji23)) = true := decide_eq_true c24
            clear c24
            by_cases c25 : (ji23) < (l2.length : Int)
            ·
             rw [if_pos c25] at H
             have c25b0 : decide ((ji23) < (l2.length : Int)) = true := decide_eq_true c25
             clear c25
             replace H := Option.bind_eq_some_iff.mp H
             obtain ⟨⟨t289, t290, t291⟩, A260, H⟩ := H
             replace H : ((cuf_Begin.f t289 t290 t291 (2 + ((l1.length : Int) % 14))).bind fun bt292 => (if bt292.2.2.2.2.2.2.2.2.2.2 = true then (if x12_2.length < 1759218604441 then (warplaw4_CufRoots.l0 k2 l2 l3 (2 + ((l1.length : Int) % 14)) t280 t283 (x12_2 ++ [(⟨(⟨bt292.1, bt292.2.1, bt292.2.2.1⟩ : S28), bt292.2.2.2.1, bt292.2.2.2.2.1, bt292.2.2.2.2.2.1, bt292.2.2.2.2.2.2.1, bt292.2.2.2.2.2.2.2.1, bt292.2.2.2.2.2.2.2.2.1, bt292.2.2.2.2.2.2.2.2.2.1⟩ : S31)]) (wrap64 (x13_2 + 1))) else (none)) else (some false))) = some r := H
             have A26 := Aside0.mk A260
             clear A260
             replace H := Option.bind_eq_some_iff.mp H
             obtain ⟨⟨t292, t293, t294, t295, t296, t297, t298, t299, t300, t301, t302⟩, A270, H⟩ := H
             replace H : (if t302 = true then (if x12_2.length < 1759218604441 then (warplaw4_CufRoots.l0 k2 l2 l3 (2 + ((l1.length : Int) % 14)) t280 t283 (x12_2 ++ [(⟨(⟨t292, t293, t294⟩ : S28), t295, t296, t297, t298, t299, t300, t301⟩ : S31)]) (wrap64 (x13_2 + 1))) else (none)) else (some false)) = some r := H
             have A27 := Aside0.mk A270
             clear A270
             by_cases c28 : t302 = true
             ·
              subst c28
              have H1 : (if x12_2.length < 1759218604441 then (warplaw4_CufRoots.l0 k2 l2 l3 (2 + ((l1.length : Int) % 14)) t280 t283 (x12_2 ++ [(⟨(⟨t292, t293, t294⟩ : S28), t295, t296, t297, t298, t299, t300, t301⟩ : S31)]) (wrap64 (x13_2 + 1))) else (none)) = some r := by rw [if_pos rfl] at H; exact H
              clear H
              have H := H1
              clear H1
              by_cases c29 : x12_2.length < 1759218604441
              ·
               rw [if_pos c29] at H
               have LMc29 := Aside0.mk c29
               clear c29
               obtain ⟨y304, hy304⟩ : ∃ y_ : List (S31), y_ = (x12_2 ++ [(⟨(⟨t292, t293, t294⟩ : S28), t295, t296, t297, t298, t299, t300, t301⟩ : S31)]) := ⟨_, rfl⟩
               replace H : (warplaw4_CufRoots.l0 k2 l2 l3 (2 + ((l1.length : Int) % 14)) t280 t283 y304 (wrap64 (x13_2 + 1))) = some r := by first | (rw [hy304]; with_reducible exact H) | (have H2_ := (Option.bind_some _ _).symm.trans H; rw [hy304]; with_reducible exact H2_) | (have H2_ := (Option.bind_some _ _).symm.trans H; with_reducible exact H2_) | with_reducible exact H | (rw [hy304]; exact H) | exact H
               have Ny304 := Aside0.mk hy304
               clear hy304
               have H' := Aside0.mk H
               clear H
               try go_wp2
               have n0_ := Aside0.mk (Kd.R_drew HO_10.out)
               have n1_ := Aside0.mk (Kd.R_drew HO_11.out)
               have n2_ := Aside0.mk (Kd.R_drew HO_12.out)
               have n3_ := Aside0.mk (below_drew1 HB.out)
               clear HO_10
               clear HO_11
               clear HO_12
               clear HB
               have HO_10 := n0_
               have HO_11 := n1_
               have HO_12 := n2_
               have HB := n3_
               clear n0_ n1_ n2_ n3_
               have p286 : 0 ≤ ((ji17) : Int) := of_decide_eq_true (by first | (with_reducible assumption) | assumption)
               have q286 : (ji17) < (l2.length : Int) := of_decide_eq_true (by first | (with_reducible assumption) | assumption)
               obtain ⟨ad286, e286, hx286_0⟩ := Kd.at_int HR2.out (ji17) p286 q286
               have hw286_0 := hx286_0
               cases e286
               replace hx286_0 := (HB.out.cell (World.block_lt_of_cell? w _ hx286_0)).trans hx286_0
               replace p286 := eq_true p286
               replace q286 := eq_true q286
               have p287 : 0 ≤ ((ji20) : Int) := of_decide_eq_true (by first | (with_reducible assumption) | assumption)
               have q287 : (ji20) < (l2.length : Int) := of_decide_eq_true (by first | (with_reducible assumption) | assumption)
               obtain ⟨ad287, e287, hx287_0⟩ := Kd.at_int HR2.out (ji20) p287 q287
               have hw287_0 := hx287_0
               obtain rfl : ad286 = ad287 := (by injection e287)
               replace hx287_0 := (HB.out.cell (World.block_lt_of_cell? w _ hx287_0)).trans hx287_0
               replace p287 := eq_true p287
               replace q287 := eq_true q287
               have p288 : 0 ≤ ((ji23) : Int) := of_decide_eq_true (by first | (with_reducible assumption) | assumption)
               have q288 : (ji23) < (l2.length : Int) := of_decide_eq_true (by first | (with_reducible assumption) | assumption)
               obtain ⟨ad288, e288, hx288_0⟩ := Kd.at_int HR2.out (ji23) p288 q288
               have hw288_0 := hx288_0
               obtain rfl : ad286 = ad288 := (by injection e288)
               replace hx288_0 := (HB.out.cell (World.block_lt_of_cell? w _ hx288_0)).trans hx288_0
               replace p288 := eq_true p288
               replace q288 := eq_true q288
               refine start_ (n := 27) (S := fun w' => w'.cell? (ad286.add ((ji17)).toNat) = some (.int .u8 (rd l2 (ji17))) ∧ w'.cell? (ad286.add ((ji20)).toNat) = some (.int .u8 (rd l2 (ji20))) ∧ w'.cell? (ad286.add ((ji23)).toNat) = some (.int .u8 (rd l2 (ji23)))) (ds := []) #[false, false, false, false, false, false, false, false, false, false, false, false, false, false, false, false, false, false, false, false, false, false, false, false, false, false, false] (by kernel_rfl) rfl rfl ⟨((HB.out.cell (World.block_lt_of_cell? w _ hw286_0)).trans hw286_0), ((HB.out.cell (World.block_lt_of_cell? w _ hw287_0)).trans hw287_0), ((HB.out.cell (World.block_lt_of_cell? w _ hw288_0)).trans hw288_0)⟩ (fun hHeld => ?_); refine with_tabW warplaw4_CufRoots.tab10 warplaw4_CufRoots.bits10 (fun HT_ HW_ => ?_)
               generalize wr.drew = w30 at HO_10 HO_11 HO_12 HB hx286_0 hx287_0 hx288_0 hHeld ⊢
               refine pure_ (i := 0) (N := some 52) (v := ?_) (a' := ?_) #[true, false, false, false, false, false, false, false, false, false, false, false, false, false, false, false, false, false, false, false, false, false, false, false, false, false, false] rfl rfl (any_of HT_.out (by kernel_rfl)) (fun _ _ _ h => h) (Or.inl ⟨by rfl, ?_⟩) ?_ ?_
               rotate_left
               ·
                intro w'
                go_simp
                with_reducible rfl
               rotate_left
               ·
                simp only [Act.put, List.setIfInBounds_toArray, List.set_cons_zero, List.set_cons_succ, i64_w, i32_w]
                rfl
               refine pure_ (i := 1) (N := some 53) (v := ?_) (a' := ?_) #[true, true, false, false, false, false, false, false, false, false, false, false, false, false, false, false, false, false, false, false, false, false, false, false, false, false, false] rfl rfl (any_of HT_.out (by kernel_rfl)) (fun _ _ _ h => h) (Or.inl ⟨by rfl, ?_⟩) ?_ ?_
               rotate_left
               ·
                intro w'
                go_simp
                with_reducible rfl
               rotate_left
               ·
                simp only [Act.put, List.setIfInBounds_toArray, List.set_cons_zero, List.set_cons_succ, i64_w, i32_w]
                rfl
               refine pure_ (i := 2) (N := some 54) (v := ?_) (a' := ?_) #[true, true, true, false, false, false, false, false, false, false, false, false, false, false, false, false, false, false, false, false, false, false, false, false, false, false, false] rfl rfl (any_of HT_.out (by kernel_rfl)) (fun _ _ _ h => h) (Or.inl ⟨by rfl, ?_⟩) ?_ ?_
               rotate_left
               ·
                intro w'
                go_simp
                with_reducible rfl
               rotate_left
               ·
                simp only [Act.put, List.setIfInBounds_toArray, List.set_cons_zero, List.set_cons_succ, i64_w, i32_w]
                rfl
               refine pure_ (i := 3) (N := some 55) (v := ?_) (a' := ?_) #[true, true, true, true, false, false, false, false, false, false, false, false, false, false, false, false, false, false, false, false, false, false, false, false, false, false, false] rfl rfl (any_of HT_.out (by kernel_rfl)) (fun _ _ _ h => h) (Or.inl ⟨by rfl, ?_⟩) ?_ ?_
               rotate_left
               ·
                intro w'
                go_simp
                with_reducible rfl
               rotate_left
               ·
                simp only [Act.put, List.setIfInBounds_toArray, List.set_cons_zero, List.set_cons_succ, i64_w, i32_w]
                rfl
               refine pure_ (i := 5) (N := some 57) (v := ?_) (a' := ?_) #[true, true, true, true, false, true, false, false, false, false, false, false, false, false, false, false, false, false, false, false, false, false, false, false, false, false, false] rfl rfl (any_of HT_.out (by kernel_rfl)) (fun _ _ _ h => h) (Or.inl ⟨by rfl, ?_⟩) ?_ ?_
               rotate_left
               ·
                intro w'
                go_simp
                with_reducible rfl
               rotate_left
               ·
                simp only [Act.put, List.setIfInBounds_toArray, List.set_cons_zero, List.set_cons_succ, i64_w, i32_w]
                rfl
               refine pure_ (i := 6) (N := some 58) (v := ?_) (a' := ?_) #[true, true, true, true, false, true, true, false, false, false, false, false, false, false, false, false, false, false, false, false, false, false, false, false, false, false, false] rfl rfl (any_of HT_.out (by kernel_rfl)) (fun _ _ _ h => h) (Or.inl ⟨by rfl, ?_⟩) ?_ ?_
               rotate_left
               ·
                intro w'
                go_simp
                with_reducible rfl
               rotate_left
               ·
                simp only [Act.put, List.setIfInBounds_toArray, List.set_cons_zero, List.set_cons_succ, i64_w, i32_w]
                rfl
               refine pure_ (i := 7) (N := some 59) (v := ?_) (a' := ?_) #[true, true, true, true, false, true, true, true, false, false, false, false, false, false, false, false, false, false, false, false, false, false, false, false, false, false, false] rfl rfl (any_of HT_.out (by kernel_rfl)) (fun _ _ _ h => h) (Or.inl ⟨by rfl, ?_⟩) ?_ ?_
               rotate_left
               ·
                intro w'
                go_simp
                with_reducible rfl
               rotate_left
               ·
                simp only [Act.put, List.setIfInBounds_toArray, List.set_cons_zero, List.set_cons_succ, i64_w, i32_w]
                rfl
               refine pure_ (i := 8) (N := some 60) (v := ?_) (a' := ?_) #[true, true, true, true, false, true, true, true, true, false, false, false, false, false, false, false, false, false, false, false, false, false, false, false, false, false, false] rfl rfl (any_of HT_.out (by kernel_rfl)) (fun _ _ _ h => h) (Or.inl ⟨by rfl, ?_⟩) ?_ ?_
               rotate_left
               ·
                intro w'
                go_simp
                with_reducible rfl
               rotate_left
               ·
                simp only [Act.put, List.setIfInBounds_toArray, List.set_cons_zero, List.set_cons_succ, i64_w, i32_w]
                rfl
               refine pure_ (i := 9) (N := some 61) (v := ?_) (a' := ?_) #[true, true, true, true, false, true, true, true, true, true, false, false, false, false, false, false, false, false, false, false, false, false, false, false, false, false, false] rfl rfl (any_of HT_.out (by kernel_rfl)) (fun _ _ _ h => h) (Or.inl ⟨by rfl, ?_⟩) ?_ ?_
               rotate_left
               ·
                intro w'
                go_simp
                with_reducible rfl
               rotate_left
               ·
                simp only [Act.put, List.setIfInBounds_toArray, List.set_cons_zero, List.set_cons_succ, i64_w, i32_w]
                rfl
               refine pure_ (i := 11) (N := some 63) (v := ?_) (a' := ?_) #[true, true, true, true, false, true, true, true, true, true, false, true, false, false, false, false, false, false, false, false, false, false, false, false, false, false, false] rfl rfl (any_of HT_.out (by kernel_rfl)) (fun _ _ _ h => h) (Or.inl ⟨by rfl, ?_⟩) ?_ ?_
               rotate_left
               ·
                intro w'
                go_simp
                with_reducible rfl
               rotate_left
               ·
                simp only [Act.put, List.setIfInBounds_toArray, List.set_cons_zero, List.set_cons_succ, i64_w, i32_w]
                rfl
               refine pure_ (i := 12) (N := some 64) (v := ?_) (a' := ?_) #[true, true, true, true, false, true, true, true, true, true, false, true, true, false, false, false, false, false, false, false, false, false, false, false, false, false, false] rfl rfl (any_of HT_.out (by kernel_rfl)) (fun _ _ _ h => h) (Or.inl ⟨by rfl, ?_⟩) ?_ ?_
               rotate_left
               ·
                intro w'
                go_simp
                with_reducible rfl
               rotate_left
               ·
                simp only [Act.put, List.setIfInBounds_toArray, List.set_cons_zero, List.set_cons_succ, i64_w, i32_w]
                rfl
               refine pure_ (i := 13) (N := some 65) (v := ?_) (a' := ?_) #[true, true, true, true, false, true, true, true, true, true, false, true, true, true, false, false, false, false, false, false, false, false, false, false, false, false, false] rfl rfl (any_of HT_.out (by kernel_rfl)) (fun _ _ _ h => h) (Or.inl ⟨by rfl, ?_⟩) ?_ ?_
               rotate_left
               ·
                intro w'
                go_simp
                with_reducible rfl
               rotate_left
               ·
                simp only [Act.put, List.setIfInBounds_toArray, List.set_cons_zero, List.set_cons_succ, i64_w, i32_w]
                rfl
               refine pure_ (i := 14) (N := some 66) (v := ?_) (a' := ?_) #[true, true, true, true, false, true, true, true, true, true, false, true, true, true, true, false, false, false, false, false, false, false, false, false, false, false, false] rfl rfl (any_of HT_.out (by kernel_rfl)) (fun _ _ _ h => h) (Or.inl ⟨by rfl, ?_⟩) ?_ ?_
               rotate_left
               ·
                intro w'
                go_simp
                with_reducible rfl
               rotate_left
               ·
                simp only [Act.put, List.setIfInBounds_toArray, List.set_cons_zero, List.set_cons_succ, i64_w, i32_w]
                rfl
               refine pure_ (i := 15) (N := some 67) (v := ?_) (a' := ?_) #[true, true, true, true, false, true, true, true, true, true, false, true, true, true, true, true, false, false, false, false, false, false, false, false, false, false, false] rfl rfl (any_of HT_.out (by kernel_rfl)) (fun _ _ _ h => h) (Or.inl ⟨by rfl, ?_⟩) ?_ ?_
               rotate_left
               ·
                intro w'
                go_simp
                with_reducible rfl
               rotate_left
               ·
                simp only [Act.put, List.setIfInBounds_toArray, List.set_cons_zero, List.set_cons_succ, i64_w, i32_w]
                rfl
               refine pure_ (i := 17) (N := some 69) (v := ?_) (a' := ?_) #[true, true, true, true, false, true, true, true, true, true, false, true, true, true, true, true, false, true, false, false, false, false, false, false, false, false, false] rfl rfl (any_of HT_.out (by kernel_rfl)) (fun _ _ _ h => h) (Or.inl ⟨by rfl, ?_⟩) ?_ ?_
               rotate_left
               ·
                intro w'
                go_simp
                with_reducible rfl
               rotate_left
               ·
                simp only [Act.put, List.setIfInBounds_toArray, List.set_cons_zero, List.set_cons_succ, i64_w, i32_w]
                rfl
               refine pure_ (i := 19) (N := some 71) (v := ?_) (a' := ?_) #[true, true, true, true, false, true, true, true, true, true, false, true, true, true, true, true, false, true, false, true, false, false, false, false, false, false, false] rfl rfl (any_of HT_.out (by kernel_rfl)) (fun _ _ _ h => h) (Or.inl ⟨by rfl, ?_⟩) ?_ ?_
               rotate_left
               ·
                intro w'
                go_simp
                with_reducible rfl
               rotate_left
               ·
                simp only [Act.put, List.setIfInBounds_toArray, List.set_cons_zero, List.set_cons_succ, i64_w, i32_w]
                rfl
               refine take_ (i := 4) (N := some 56) (v := ?_) (a' := ?_) #[true, true, true, true, true, true, true, true, true, true, false, true, true, true, true, true, false, true, false, true, false, false, false, false, false, false, false] rfl rfl (take_ofW HT_.out HW_.out (by kernel_rfl)) (fun _ _ _ h => h) (Or.inl ⟨by rfl, ?_⟩) hHeld ?_ ?_
               rotate_left
               ·
                rintro w' ⟨s0, s1, s2⟩
                go_simp
                with_reducible rfl
               rotate_left
               ·
                simp only [Act.put, List.setIfInBounds_toArray, List.set_cons_zero, List.set_cons_succ, i64_w, i32_w]
                rfl
               refine take_ (i := 10) (N := some 62) (v := ?_) (a' := ?_) #[true, true, true, true, true, true, true, true, true, true, true, true, true, true, true, true, false, true, false, true, false, false, false, false, false, false, false] rfl rfl (take_ofW HT_.out HW_.out (by kernel_rfl)) (fun _ _ _ h => h) (Or.inl ⟨by rfl, ?_⟩) hHeld ?_ ?_
               rotate_left
               ·
                rintro w' ⟨s0, s1, s2⟩
                go_simp
                with_reducible rfl
               rotate_left
               ·
                simp only [Act.put, List.setIfInBounds_toArray, List.set_cons_zero, List.set_cons_succ, i64_w, i32_w]
                rfl
               refine take_ (i := 16) (N := some 68) (v := ?_) (a' := ?_) #[true, true, true, true, true, true, true, true, true, true, true, true, true, true, true, true, true, true, false, true, false, false, false, false, false, false, false] rfl rfl (take_ofW HT_.out HW_.out (by kernel_rfl)) (fun _ _ _ h => h) (Or.inl ⟨by rfl, ?_⟩) hHeld ?_ ?_
               rotate_left
               ·
                rintro w' ⟨s0, s1, s2⟩
                go_simp
                with_reducible rfl
               rotate_left
               ·
                simp only [Act.put, List.setIfInBounds_toArray, List.set_cons_zero, List.set_cons_succ, i64_w, i32_w]
                rfl
               refine join_ (σ := Nat) 2 #[true, true, true, true, true, true, true, true, true, true, true, true, true, true, true, true, true, true, true, true, true, true, true, true, true, false, false] (fun s_ => [(70, .agg #[.int .i64 t289, .int .i64 t290, .int .i64 t291]), (72, .tuple #[.agg #[.int .i64 t292, .int .i64 t293, .int .i64 t294, .int .i64 t295, .int .i64 t296, .int .i64 t297, .int .i64 t298, .int .i64 t299, .bool t300, .int .i64 t301], .bool true]), (14, .pointer (some ⟨s_, 0, none⟩)), (51, .tuple #[.agg #[.int .i64 t292, .int .i64 t293, .int .i64 t294, .int .i64 t295, .int .i64 t296, .int .i64 t297, .int .i64 t298, .int .i64 t299, .bool t300, .int .i64 t301], .bool true]), (73, .agg #[.int .i64 t292, .int .i64 t293, .int .i64 t294, .int .i64 t295, .int .i64 t296, .int .i64 t297, .int .i64 t298, .int .i64 t299, .bool t300, .int .i64 t301]), (74, .bool true)]) (fun s_ w' => (w'.cell? (ad286.add ((ji17)).toNat) = some (.int .u8 (rd l2 (ji17))) ∧ w'.cell? (ad286.add ((ji20)).toNat) = some (.int .u8 (rd l2 (ji20))) ∧ w'.cell? (ad286.add ((ji23)).toNat) = some (.int .u8 (rd l2 (ji23)))) ∧ (Kd.R (Kd.int .i64) 3 w' w.heap.size (fun k_ => some k_ ≠ (v284 : Value).ownBlock) (.slice Ao14 t280.length co14) t280) ∧ (Kd.R (Kd.int .i64) 3 w' w.heap.size (fun k_ => some k_ ≠ (.slice Ao14 t280.length co14 : Value).ownBlock) v284 t283) ∧ (Kd.R k31 31 w' w.heap.size (fun k_ => k_ ≠ s_) u12 x12_2) ∧ (w'.heap[s_]? = some (.cells #[.int .i64 0, .int .i64 0, .int .i64 0, .int .i64 0, .int .i64 0, .int .i64 0, .int .i64 0, .int .i64 0, .bool false, .int .i64 0] 31 (0, 0))) ∧ (w.heap.size ≤ s_) ∧ (w.heap.size ≤ s_) ∧ (Below w.heap.size w w')) ?_ ?_
               rotate_left
               ·
                intro hCont
                refine two_ (i := 18) (j := 24) (Ni := some 70) (Nj := some 14) #[true, true, true, true, true, true, true, true, true, true, true, true, true, true, true, true, true, true, true, true, false, false, false, false, false, false, false] #[true, true, true, true, true, true, true, true, true, true, true, true, true, true, true, true, true, true, false, true, false, false, false, false, true, false, false] rfl rfl rfl rfl (two_of HT_.out (by kernel_rfl)) (by decide) (by decide) (fun K hK => ?_) (fun K hK => ?_)
                ·
                 skip
                 refine goes_ Try.func11 (by kernel_rfl) rfl #[.int .u8 (rd l2 (ji17)), .int .u8 (rd l2 (ji20)), .int .u8 (rd l2 (ji23)), .int .i64 (2 + ((l1.length : Int) % 14))] (by rfl) rfl rfl (by (try simp only [List.map_toArray, List.map_cons, List.map_nil]); first | done | (simp only [hji17, hji20, hji23]; rfl) | rfl | (simp only [List.length_drop, List.length_take]; rfl)) ?_
                 with_reducible refine (warplaw4_op.calls (rd l2 (ji17)) (rd l2 (ji20)) (rd l2 (ji23)) (2 + ((l1.length : Int) % 14)) t289 t290 t291 _ A26.out).mono ?_
                 rintro e w31 ⟨rfl, hb⟩
                 refine ⟨_, rfl, ?_⟩
                 have n0_ := Aside0.mk (Kd.R_below (by (with_reducible repeat (first | apply Kd.R_alloc | apply Kd.R_drewN | apply Kd.R_drew)); exact HO_10.out) hb)
                 have n1_ := Aside0.mk (Kd.R_below (by (with_reducible repeat (first | apply Kd.R_alloc | apply Kd.R_drewN | apply Kd.R_drew)); exact HO_11.out) hb)
                 have n2_ := Aside0.mk (Kd.R_below (by (with_reducible repeat (first | apply Kd.R_alloc | apply Kd.R_drewN | apply Kd.R_drew)); exact HO_12.out) hb)
                 have n3_ := Aside0.mk (below_step (by repeat (first | (with_reducible first | exact HB.out | apply below_alloc | apply pw_below_drewN | apply below_drew1) | exact HB.out)) hb)
                 clear HO_10
                 clear HO_11
                 clear HO_12
                 clear HB
                 have HO_10 := n0_
                 have HO_11 := n1_
                 have HO_12 := n2_
                 have HB := n3_
                 clear n0_ n1_ n2_ n3_
                 (try clear hb)
                 (try clear hb2)
                 (try clear hk)
                 (try clear hi)
                 refine hK.out _ _ ⟨((HB.out.cell (World.block_lt_of_cell? w _ hw286_0)).trans hw286_0), ((HB.out.cell (World.block_lt_of_cell? w _ hw287_0)).trans hw287_0), ((HB.out.cell (World.block_lt_of_cell? w _ hw288_0)).trans hw288_0)⟩ (fun hHeld => ?_)
                 clear hK K
                 refine norm_ (a' := ?_) ?_ ?_
                 rotate_left
                 ·
                  show Act.put _ (some 70) _ = _
                  simp only [Act.put, List.setIfInBounds_toArray, List.set_cons_zero, List.set_cons_succ, i64_w, i32_w]
                  rfl
                 refine two_ (i := 20) (j := 24) (Ni := some 72) (Nj := some 14) #[true, true, true, true, true, true, true, true, true, true, true, true, true, true, true, true, true, true, true, true, true, false, false, false, false, false, false] #[true, true, true, true, true, true, true, true, true, true, true, true, true, true, true, true, true, true, true, true, false, false, false, false, true, false, false] rfl rfl rfl rfl (two_of HT_.out (by kernel_rfl)) (by decide) (by decide) (fun K hK => ?_) (fun K hK => ?_)
                 ·
                  skip
                  refine goes_ Try.func12 (by kernel_rfl) rfl #[.agg #[.int .i64 t289, .int .i64 t290, .int .i64 t291], .int .i64 (2 + ((l1.length : Int) % 14))] (by rfl) rfl rfl (by (try simp only [List.map_toArray, List.map_cons, List.map_nil]); first | done | rfl | (simp only [List.length_drop, List.length_take]; rfl)) ?_
                  with_reducible refine (cuf_Begin.calls t289 t290 t291 (2 + ((l1.length : Int) % 14)) t292 t293 t294 t295 t296 t297 t298 t299 t300 t301 true _ A27.out).mono ?_
                  rintro e w32 ⟨rfl, hb⟩
                  refine ⟨_, rfl, ?_⟩
                  have n0_ := Aside0.mk (Kd.R_below (by (with_reducible repeat (first | apply Kd.R_alloc | apply Kd.R_drewN | apply Kd.R_drew)); exact HO_10.out) hb)
                  have n1_ := Aside0.mk (Kd.R_below (by (with_reducible repeat (first | apply Kd.R_alloc | apply Kd.R_drewN | apply Kd.R_drew)); exact HO_11.out) hb)
                  have n2_ := Aside0.mk (Kd.R_below (by (with_reducible repeat (first | apply Kd.R_alloc | apply Kd.R_drewN | apply Kd.R_drew)); exact HO_12.out) hb)
                  have n3_ := Aside0.mk (below_step (by repeat (first | (with_reducible first | exact HB.out | apply below_alloc | apply pw_below_drewN | apply below_drew1) | exact HB.out)) hb)
                  clear HO_10
                  clear HO_11
                  clear HO_12
                  clear HB
                  have HO_10 := n0_
                  have HO_11 := n1_
                  have HO_12 := n2_
                  have HB := n3_
                  clear n0_ n1_ n2_ n3_
                  (try clear hb)
                  (try clear hb2)
                  (try clear hk)
                  (try clear hi)
                  refine hK.out _ _ ⟨((HB.out.cell (World.block_lt_of_cell? w _ hw286_0)).trans hw286_0), ((HB.out.cell (World.block_lt_of_cell? w _ hw287_0)).trans hw287_0), ((HB.out.cell (World.block_lt_of_cell? w _ hw288_0)).trans hw288_0)⟩ (fun hHeld => ?_)
                  clear hK K
                  refine norm_ (a' := ?_) ?_ ?_
                  rotate_left
                  ·
                   show Act.put _ (some 72) _ = _
                   simp only [Act.put, List.setIfInBounds_toArray, List.set_cons_zero, List.set_cons_succ, i64_w, i32_w]
                   rfl
                  refine pure_ (i := 21) (N := some 51) (v := ?_) (a' := ?_) #[true, true, true, true, true, true, true, true, true, true, true, true, true, true, true, true, true, true, true, true, true, true, false, false, false, false, false] rfl rfl (any_of HT_.out (by kernel_rfl)) (fun _ _ _ h => h) (Or.inl ⟨by rfl, ?_⟩) ?_ ?_
                  rotate_left
                  ·
                   intro w'
                   go_simp
                   with_reducible rfl
                  rotate_left
                  ·
                   simp only [Act.put, List.setIfInBounds_toArray, List.set_cons_zero, List.set_cons_succ, i64_w, i32_w]
                   rfl
                  refine pure_ (i := 22) (N := some 73) (v := ?_) (a' := ?_) #[true, true, true, true, true, true, true, true, true, true, true, true, true, true, true, true, true, true, true, true, true, true, true, false, false, false, false] rfl rfl (any_of HT_.out (by kernel_rfl)) (fun _ _ _ h => h) (Or.inl ⟨by rfl, ?_⟩) ?_ ?_
                  rotate_left
                  ·
                   intro w'
                   go_simp
                   with_reducible rfl
                  rotate_left
                  ·
                   simp only [Act.put, List.setIfInBounds_toArray, List.set_cons_zero, List.set_cons_succ, i64_w, i32_w]
                   rfl
                  refine pure_ (i := 23) (N := some 74) (v := ?_) (a' := ?_) #[true, true, true, true, true, true, true, true, true, true, true, true, true, true, true, true, true, true, true, true, true, true, true, true, false, false, false] rfl rfl (any_of HT_.out (by kernel_rfl)) (fun _ _ _ h => h) (Or.inl ⟨by rfl, ?_⟩) ?_ ?_
                  rotate_left
                  ·
                   intro w'
                   go_simp
                   with_reducible rfl
                  rotate_left
                  ·
                   simp only [Act.put, List.setIfInBounds_toArray, List.set_cons_zero, List.set_cons_succ, i64_w, i32_w]
                   rfl
                  refine one_ (i := 24) (N := some 14) #[true, true, true, true, true, true, true, true, true, true, true, true, true, true, true, true, true, true, true, true, true, true, true, true, true, false, false] rfl rfl (one_of HT_.out (by kernel_rfl)) (by decide) (fun K hK => ?_)
                  refine box_step ?hg (N := 14) ?hd (cs := #[.int .i64 0, .int .i64 0, .int .i64 0, .int .i64 0, .int .i64 0, .int .i64 0, .int .i64 0, .int .i64 0, .bool false, .int .i64 0]) (t := 31) ?hr ?_; (case hd => rfl); (case hg => rfl); (case hr => first | (go_simp; done) | (go_simp; rfl))
                  intro gb303 hg w33 hbox hb
                  have n0_ := Aside0.mk (Kd.R_below (by (with_reducible repeat (first | apply Kd.R_alloc | apply Kd.R_drewN | apply Kd.R_drew)); exact HO_10.out) hb)
                  have n1_ := Aside0.mk (Kd.R_below (by (with_reducible repeat (first | apply Kd.R_alloc | apply Kd.R_drewN | apply Kd.R_drew)); exact HO_11.out) hb)
                  have n2_ := Aside0.mk (Kd.R_below (Kd.R_elderB (by (with_reducible repeat (first | apply Kd.R_alloc | apply Kd.R_drewN | apply Kd.R_drew)); exact HO_12.out) gb303 (Nat.le_of_eq hg.symm)) hb)
                  have n3_ := Aside0.mk (below_step (by repeat (first | (with_reducible first | exact HB.out | apply below_alloc | apply pw_below_drewN | apply below_drew1) | exact HB.out)) hb)
                  have n4_ := Aside0.mk (hbox)
                  have n5_ := Aside0.mk ((by rw [hg]; exact (below_size (by repeat (first | (with_reducible first | exact HB.out | apply below_alloc | apply pw_below_drewN | apply below_drew1) | exact HB.out))) : w.heap.size ≤ gb303))
                  have n6_ := Aside0.mk ((by rw [hg]; exact (below_size (by repeat (first | (with_reducible first | exact HB.out | apply below_alloc | apply pw_below_drewN | apply below_drew1) | exact HB.out))) : w.heap.size ≤ gb303))
                  clear HO_10
                  clear HO_11
                  clear HO_12
                  clear HB
                  have HO_10 := n0_
                  have HO_11 := n1_
                  have HO_12 := n2_
                  have HB := n3_
                  have BK303 := n4_
                  have GW303 := n5_
                  have GE303 := n6_
                  clear n0_ n1_ n2_ n3_ n4_ n5_ n6_
                  clear hb hbox hg
                  refine hK.out _ _ ⟨((HB.out.cell (World.block_lt_of_cell? w _ hw286_0)).trans hw286_0), ((HB.out.cell (World.block_lt_of_cell? w _ hw287_0)).trans hw287_0), ((HB.out.cell (World.block_lt_of_cell? w _ hw288_0)).trans hw288_0)⟩ (fun hHeld => ?_)
                  clear hK K
                  refine norm_ (a' := ?_) ?_ ?_
                  rotate_left
                  ·
                   show Act.put _ (some 14) _ = _
                   simp only [Act.put, List.setIfInBounds_toArray, List.set_cons_zero, List.set_cons_succ, i64_w, i32_w]
                   rfl
                  exact norm_ (by simp only [putAll, Act.put, List.setIfInBounds_toArray, List.set_cons_zero, List.set_cons_succ]) (hCont (gb303) _ ⟨hHeld, (by (with_reducible repeat (first | apply Kd.R_alloc | apply Kd.R_drewN | apply Kd.R_drew)); exact HO_10.out), (by (with_reducible repeat (first | apply Kd.R_alloc | apply Kd.R_drewN | apply Kd.R_drew)); exact HO_11.out), (by (with_reducible repeat (first | apply Kd.R_alloc | apply Kd.R_drewN | apply Kd.R_drew)); exact Kd.R_mono HO_12.out (fun _ hk => hk.2)), (by (with_reducible repeat (first | refine blk_drewN ?_ _ | refine blk_drew ?_ | refine blk_alloc ?_ _)); exact BK303.out), GW303.out, GE303.out, (by repeat (first | (with_reducible first | exact HB.out | apply below_alloc | apply pw_below_drewN | apply below_drew1 | refine below_set ?_ GE303.out) | exact HB.out))⟩)
                 ·
                  skip
                  refine box_step ?hg (N := 14) ?hd (cs := #[.int .i64 0, .int .i64 0, .int .i64 0, .int .i64 0, .int .i64 0, .int .i64 0, .int .i64 0, .int .i64 0, .bool false, .int .i64 0]) (t := 31) ?hr ?_; (case hd => rfl); (case hg => rfl); (case hr => first | (go_simp; done) | (go_simp; rfl))
                  intro gb303 hg w32 hbox hb
                  have n0_ := Aside0.mk (Kd.R_below (by (with_reducible repeat (first | apply Kd.R_alloc | apply Kd.R_drewN | apply Kd.R_drew)); exact HO_10.out) hb)
                  have n1_ := Aside0.mk (Kd.R_below (by (with_reducible repeat (first | apply Kd.R_alloc | apply Kd.R_drewN | apply Kd.R_drew)); exact HO_11.out) hb)
                  have n2_ := Aside0.mk (Kd.R_below (Kd.R_elderB (by (with_reducible repeat (first | apply Kd.R_alloc | apply Kd.R_drewN | apply Kd.R_drew)); exact HO_12.out) gb303 (Nat.le_of_eq hg.symm)) hb)
                  have n3_ := Aside0.mk (below_step (by repeat (first | (with_reducible first | exact HB.out | apply below_alloc | apply pw_below_drewN | apply below_drew1) | exact HB.out)) hb)
                  have n4_ := Aside0.mk (hbox)
                  have n5_ := Aside0.mk ((by rw [hg]; exact (below_size (by repeat (first | (with_reducible first | exact HB.out | apply below_alloc | apply pw_below_drewN | apply below_drew1) | exact HB.out))) : w.heap.size ≤ gb303))
                  have n6_ := Aside0.mk ((by rw [hg]; exact (below_size (by repeat (first | (with_reducible first | exact HB.out | apply below_alloc | apply pw_below_drewN | apply below_drew1) | exact HB.out))) : w.heap.size ≤ gb303))
                  clear HO_10
                  clear HO_11
                  clear HO_12
                  clear HB
                  have HO_10 := n0_
                  have HO_11 := n1_
                  have HO_12 := n2_
                  have HB := n3_
                  have BK303 := n4_
                  have GW303 := n5_
                  have GE303 := n6_
                  clear n0_ n1_ n2_ n3_ n4_ n5_ n6_
                  clear hb hbox hg
                  refine hK.out _ _ ⟨((HB.out.cell (World.block_lt_of_cell? w _ hw286_0)).trans hw286_0), ((HB.out.cell (World.block_lt_of_cell? w _ hw287_0)).trans hw287_0), ((HB.out.cell (World.block_lt_of_cell? w _ hw288_0)).trans hw288_0)⟩ (fun hHeld => ?_)
                  clear hK K
                  refine norm_ (a' := ?_) ?_ ?_
                  rotate_left
                  ·
                   show Act.put _ (some 14) _ = _
                   simp only [Act.put, List.setIfInBounds_toArray, List.set_cons_zero, List.set_cons_succ, i64_w, i32_w]
                   rfl
                  refine one_ (i := 20) (N := some 72) #[true, true, true, true, true, true, true, true, true, true, true, true, true, true, true, true, true, true, true, true, true, false, false, false, true, false, false] rfl rfl (one_of HT_.out (by kernel_rfl)) (by decide) (fun K hK => ?_)
                  refine goes_ Try.func12 (by kernel_rfl) rfl #[.agg #[.int .i64 t289, .int .i64 t290, .int .i64 t291], .int .i64 (2 + ((l1.length : Int) % 14))] (by rfl) rfl rfl (by (try simp only [List.map_toArray, List.map_cons, List.map_nil]); first | done | rfl | (simp only [List.length_drop, List.length_take]; rfl)) ?_
                  with_reducible refine (cuf_Begin.calls t289 t290 t291 (2 + ((l1.length : Int) % 14)) t292 t293 t294 t295 t296 t297 t298 t299 t300 t301 true _ A27.out).mono ?_
                  rintro e w33 ⟨rfl, hb⟩
                  refine ⟨_, rfl, ?_⟩
                  have n0_ := Aside0.mk (Kd.R_below (by (with_reducible repeat (first | apply Kd.R_alloc | apply Kd.R_drewN | apply Kd.R_drew)); exact HO_10.out) hb)
                  have n1_ := Aside0.mk (Kd.R_below (by (with_reducible repeat (first | apply Kd.R_alloc | apply Kd.R_drewN | apply Kd.R_drew)); exact HO_11.out) hb)
                  have n2_ := Aside0.mk (Kd.R_below (by (with_reducible repeat (first | apply Kd.R_alloc | apply Kd.R_drewN | apply Kd.R_drew)); exact HO_12.out) hb)
                  have n3_ := Aside0.mk (blk_below (g := gb303) (o := .cells #[.int .i64 0, .int .i64 0, .int .i64 0, .int .i64 0, .int .i64 0, .int .i64 0, .int .i64 0, .int .i64 0, .bool false, .int .i64 0] 31 (0, 0)) (by (with_reducible repeat (first | refine blk_drewN ?_ _ | refine blk_drew ?_ | refine blk_alloc ?_ _)); exact BK303.out) hb)
                  have n4_ := Aside0.mk (below_step (by repeat (first | (with_reducible first | exact HB.out | apply below_alloc | apply pw_below_drewN | apply below_drew1 | refine below_set ?_ GE303.out) | exact HB.out)) hb)
                  clear HO_10
                  clear HO_11
                  clear HO_12
                  clear BK303
                  clear HB
                  have HO_10 := n0_
                  have HO_11 := n1_
                  have HO_12 := n2_
                  have BK303 := n3_
                  have HB := n4_
                  clear n0_ n1_ n2_ n3_ n4_
                  (try clear hb)
                  (try clear hb2)
                  (try clear hk)
                  (try clear hi)
                  refine hK.out _ _ ⟨((HB.out.cell (World.block_lt_of_cell? w _ hw286_0)).trans hw286_0), ((HB.out.cell (World.block_lt_of_cell? w _ hw287_0)).trans hw287_0), ((HB.out.cell (World.block_lt_of_cell? w _ hw288_0)).trans hw288_0)⟩ (fun hHeld => ?_)
                  clear hK K
                  refine norm_ (a' := ?_) ?_ ?_
                  rotate_left
                  ·
                   show Act.put _ (some 72) _ = _
                   simp only [Act.put, List.setIfInBounds_toArray, List.set_cons_zero, List.set_cons_succ, i64_w, i32_w]
                   rfl
                  refine pure_ (i := 21) (N := some 51) (v := ?_) (a' := ?_) #[true, true, true, true, true, true, true, true, true, true, true, true, true, true, true, true, true, true, true, true, true, true, false, false, true, false, false] rfl rfl (any_of HT_.out (by kernel_rfl)) (fun _ _ _ h => h) (Or.inl ⟨by rfl, ?_⟩) ?_ ?_
                  rotate_left
                  ·
                   intro w'
                   go_simp
                   with_reducible rfl
                  rotate_left
                  ·
                   simp only [Act.put, List.setIfInBounds_toArray, List.set_cons_zero, List.set_cons_succ, i64_w, i32_w]
                   rfl
                  refine pure_ (i := 22) (N := some 73) (v := ?_) (a' := ?_) #[true, true, true, true, true, true, true, true, true, true, true, true, true, true, true, true, true, true, true, true, true, true, true, false, true, false, false] rfl rfl (any_of HT_.out (by kernel_rfl)) (fun _ _ _ h => h) (Or.inl ⟨by rfl, ?_⟩) ?_ ?_
                  rotate_left
                  ·
                   intro w'
                   go_simp
                   with_reducible rfl
                  rotate_left
                  ·
                   simp only [Act.put, List.setIfInBounds_toArray, List.set_cons_zero, List.set_cons_succ, i64_w, i32_w]
                   rfl
                  refine pure_ (i := 23) (N := some 74) (v := ?_) (a' := ?_) #[true, true, true, true, true, true, true, true, true, true, true, true, true, true, true, true, true, true, true, true, true, true, true, true, true, false, false] rfl rfl (any_of HT_.out (by kernel_rfl)) (fun _ _ _ h => h) (Or.inl ⟨by rfl, ?_⟩) ?_ ?_
                  rotate_left
                  ·
                   intro w'
                   go_simp
                   with_reducible rfl
                  rotate_left
                  ·
                   simp only [Act.put, List.setIfInBounds_toArray, List.set_cons_zero, List.set_cons_succ, i64_w, i32_w]
                   rfl
                  exact norm_ (by simp only [putAll, Act.put, List.setIfInBounds_toArray, List.set_cons_zero, List.set_cons_succ]) (hCont (gb303) _ ⟨hHeld, (by (with_reducible repeat (first | apply Kd.R_alloc | apply Kd.R_drewN | apply Kd.R_drew)); exact HO_10.out), (by (with_reducible repeat (first | apply Kd.R_alloc | apply Kd.R_drewN | apply Kd.R_drew)); exact HO_11.out), (by (with_reducible repeat (first | apply Kd.R_alloc | apply Kd.R_drewN | apply Kd.R_drew)); exact Kd.R_mono HO_12.out (fun _ hk => hk.2)), (by (with_reducible repeat (first | refine blk_drewN ?_ _ | refine blk_drew ?_ | refine blk_alloc ?_ _)); exact BK303.out), GW303.out, GE303.out, (by repeat (first | (with_reducible first | exact HB.out | apply below_alloc | apply pw_below_drewN | apply below_drew1 | refine below_set ?_ GE303.out) | exact HB.out))⟩)
                ·
                 skip
                 refine box_step ?hg (N := 14) ?hd (cs := #[.int .i64 0, .int .i64 0, .int .i64 0, .int .i64 0, .int .i64 0, .int .i64 0, .int .i64 0, .int .i64 0, .bool false, .int .i64 0]) (t := 31) ?hr ?_; (case hd => rfl); (case hg => rfl); (case hr => first | (go_simp; done) | (go_simp; rfl))
                 intro gb303 hg w31 hbox hb
                 have n0_ := Aside0.mk (Kd.R_below (by (with_reducible repeat (first | apply Kd.R_alloc | apply Kd.R_drewN | apply Kd.R_drew)); exact HO_10.out) hb)
                 have n1_ := Aside0.mk (Kd.R_below (by (with_reducible repeat (first | apply Kd.R_alloc | apply Kd.R_drewN | apply Kd.R_drew)); exact HO_11.out) hb)
                 have n2_ := Aside0.mk (Kd.R_below (Kd.R_elderB (by (with_reducible repeat (first | apply Kd.R_alloc | apply Kd.R_drewN | apply Kd.R_drew)); exact HO_12.out) gb303 (Nat.le_of_eq hg.symm)) hb)
                 have n3_ := Aside0.mk (below_step (by repeat (first | (with_reducible first | exact HB.out | apply below_alloc | apply pw_below_drewN | apply below_drew1) | exact HB.out)) hb)
                 have n4_ := Aside0.mk (hbox)
                 have n5_ := Aside0.mk ((by rw [hg]; exact (below_size (by repeat (first | (with_reducible first | exact HB.out | apply below_alloc | apply pw_below_drewN | apply below_drew1) | exact HB.out))) : w.heap.size ≤ gb303))
                 have n6_ := Aside0.mk ((by rw [hg]; exact (below_size (by repeat (first | (with_reducible first | exact HB.out | apply below_alloc | apply pw_below_drewN | apply below_drew1) | exact HB.out))) : w.heap.size ≤ gb303))
                 clear HO_10
                 clear HO_11
                 clear HO_12
                 clear HB
                 have HO_10 := n0_
                 have HO_11 := n1_
                 have HO_12 := n2_
                 have HB := n3_
                 have BK303 := n4_
                 have GW303 := n5_
                 have GE303 := n6_
                 clear n0_ n1_ n2_ n3_ n4_ n5_ n6_
                 clear hb hbox hg
                 refine hK.out _ _ ⟨((HB.out.cell (World.block_lt_of_cell? w _ hw286_0)).trans hw286_0), ((HB.out.cell (World.block_lt_of_cell? w _ hw287_0)).trans hw287_0), ((HB.out.cell (World.block_lt_of_cell? w _ hw288_0)).trans hw288_0)⟩ (fun hHeld => ?_)
                 clear hK K
                 refine norm_ (a' := ?_) ?_ ?_
                 rotate_left
                 ·
                  show Act.put _ (some 14) _ = _
                  simp only [Act.put, List.setIfInBounds_toArray, List.set_cons_zero, List.set_cons_succ, i64_w, i32_w]
                  rfl
                 refine one_ (i := 18) (N := some 70) #[true, true, true, true, true, true, true, true, true, true, true, true, true, true, true, true, true, true, true, true, false, false, false, false, true, false, false] rfl rfl (one_of HT_.out (by kernel_rfl)) (by decide) (fun K hK => ?_)
                 refine goes_ Try.func11 (by kernel_rfl) rfl #[.int .u8 (rd l2 (ji17)), .int .u8 (rd l2 (ji20)), .int .u8 (rd l2 (ji23)), .int .i64 (2 + ((l1.length : Int) % 14))] (by rfl) rfl rfl (by (try simp only [List.map_toArray, List.map_cons, List.map_nil]); first | done | (simp only [hji17, hji20, hji23]; rfl) | rfl | (simp only [List.length_drop, List.length_take]; rfl)) ?_
                 with_reducible refine (warplaw4_op.calls (rd l2 (ji17)) (rd l2 (ji20)) (rd l2 (ji23)) (2 + ((l1.length : Int) % 14)) t289 t290 t291 _ A26.out).mono ?_
                 rintro e w32 ⟨rfl, hb⟩
                 refine ⟨_, rfl, ?_⟩
                 have n0_ := Aside0.mk (Kd.R_below (by (with_reducible repeat (first | apply Kd.R_alloc | apply Kd.R_drewN | apply Kd.R_drew)); exact HO_10.out) hb)
                 have n1_ := Aside0.mk (Kd.R_below (by (with_reducible repeat (first | apply Kd.R_alloc | apply Kd.R_drewN | apply Kd.R_drew)); exact HO_11.out) hb)
                 have n2_ := Aside0.mk (Kd.R_below (by (with_reducible repeat (first | apply Kd.R_alloc | apply Kd.R_drewN | apply Kd.R_drew)); exact HO_12.out) hb)
                 have n3_ := Aside0.mk (blk_below (g := gb303) (o := .cells #[.int .i64 0, .int .i64 0, .int .i64 0, .int .i64 0, .int .i64 0, .int .i64 0, .int .i64 0, .int .i64 0, .bool false, .int .i64 0] 31 (0, 0)) (by (with_reducible repeat (first | refine blk_drewN ?_ _ | refine blk_drew ?_ | refine blk_alloc ?_ _)); exact BK303.out) hb)
                 have n4_ := Aside0.mk (below_step (by repeat (first | (with_reducible first | exact HB.out | apply below_alloc | apply pw_below_drewN | apply below_drew1 | refine below_set ?_ GE303.out) | exact HB.out)) hb)
                 clear HO_10
                 clear HO_11
                 clear HO_12
                 clear BK303
                 clear HB
                 have HO_10 := n0_
                 have HO_11 := n1_
                 have HO_12 := n2_
                 have BK303 := n3_
                 have HB := n4_
                 clear n0_ n1_ n2_ n3_ n4_
                 (try clear hb)
                 (try clear hb2)
                 (try clear hk)
                 (try clear hi)
                 refine hK.out _ _ ⟨((HB.out.cell (World.block_lt_of_cell? w _ hw286_0)).trans hw286_0), ((HB.out.cell (World.block_lt_of_cell? w _ hw287_0)).trans hw287_0), ((HB.out.cell (World.block_lt_of_cell? w _ hw288_0)).trans hw288_0)⟩ (fun hHeld => ?_)
                 clear hK K
                 refine norm_ (a' := ?_) ?_ ?_
                 rotate_left
                 ·
                  show Act.put _ (some 70) _ = _
                  simp only [Act.put, List.setIfInBounds_toArray, List.set_cons_zero, List.set_cons_succ, i64_w, i32_w]
                  rfl
                 refine one_ (i := 20) (N := some 72) #[true, true, true, true, true, true, true, true, true, true, true, true, true, true, true, true, true, true, true, true, true, false, false, false, true, false, false] rfl rfl (one_of HT_.out (by kernel_rfl)) (by decide) (fun K hK => ?_)
                 refine goes_ Try.func12 (by kernel_rfl) rfl #[.agg #[.int .i64 t289, .int .i64 t290, .int .i64 t291], .int .i64 (2 + ((l1.length : Int) % 14))] (by rfl) rfl rfl (by (try simp only [List.map_toArray, List.map_cons, List.map_nil]); first | done | rfl | (simp only [List.length_drop, List.length_take]; rfl)) ?_
                 with_reducible refine (cuf_Begin.calls t289 t290 t291 (2 + ((l1.length : Int) % 14)) t292 t293 t294 t295 t296 t297 t298 t299 t300 t301 true _ A27.out).mono ?_
                 rintro e w33 ⟨rfl, hb⟩
                 refine ⟨_, rfl, ?_⟩
                 have n0_ := Aside0.mk (Kd.R_below (by (with_reducible repeat (first | apply Kd.R_alloc | apply Kd.R_drewN | apply Kd.R_drew)); exact HO_10.out) hb)
                 have n1_ := Aside0.mk (Kd.R_below (by (with_reducible repeat (first | apply Kd.R_alloc | apply Kd.R_drewN | apply Kd.R_drew)); exact HO_11.out) hb)
                 have n2_ := Aside0.mk (Kd.R_below (by (with_reducible repeat (first | apply Kd.R_alloc | apply Kd.R_drewN | apply Kd.R_drew)); exact HO_12.out) hb)
                 have n3_ := Aside0.mk (blk_below (g := gb303) (o := .cells #[.int .i64 0, .int .i64 0, .int .i64 0, .int .i64 0, .int .i64 0, .int .i64 0, .int .i64 0, .int .i64 0, .bool false, .int .i64 0] 31 (0, 0)) (by (with_reducible repeat (first | refine blk_drewN ?_ _ | refine blk_drew ?_ | refine blk_alloc ?_ _)); exact BK303.out) hb)
                 have n4_ := Aside0.mk (below_step (by repeat (first | (with_reducible first | exact HB.out | apply below_alloc | apply pw_below_drewN | apply below_drew1 | refine below_set ?_ GE303.out) | exact HB.out)) hb)
                 clear HO_10
                 clear HO_11
                 clear HO_12
                 clear BK303
                 clear HB
                 have HO_10 := n0_
                 have HO_11 := n1_
                 have HO_12 := n2_
                 have BK303 := n3_
                 have HB := n4_
                 clear n0_ n1_ n2_ n3_ n4_
                 (try clear hb)
                 (try clear hb2)
                 (try clear hk)
                 (try clear hi)
                 refine hK.out _ _ ⟨((HB.out.cell (World.block_lt_of_cell? w _ hw286_0)).trans hw286_0), ((HB.out.cell (World.block_lt_of_cell? w _ hw287_0)).trans hw287_0), ((HB.out.cell (World.block_lt_of_cell? w _ hw288_0)).trans hw288_0)⟩ (fun hHeld => ?_)
                 clear hK K
                 refine norm_ (a' := ?_) ?_ ?_
                 rotate_left
                 ·
                  show Act.put _ (some 72) _ = _
                  simp only [Act.put, List.setIfInBounds_toArray, List.set_cons_zero, List.set_cons_succ, i64_w, i32_w]
                  rfl
                 refine pure_ (i := 21) (N := some 51) (v := ?_) (a' := ?_) #[true, true, true, true, true, true, true, true, true, true, true, true, true, true, true, true, true, true, true, true, true, true, false, false, true, false, false] rfl rfl (any_of HT_.out (by kernel_rfl)) (fun _ _ _ h => h) (Or.inl ⟨by rfl, ?_⟩) ?_ ?_
                 rotate_left
                 ·
                  intro w'
                  go_simp
                  with_reducible rfl
                 rotate_left
                 ·
                  simp only [Act.put, List.setIfInBounds_toArray, List.set_cons_zero, List.set_cons_succ, i64_w, i32_w]
                  rfl
                 refine pure_ (i := 22) (N := some 73) (v := ?_) (a' := ?_) #[true, true, true, true, true, true, true, true, true, true, true, true, true, true, true, true, true, true, true, true, true, true, true, false, true, false, false] rfl rfl (any_of HT_.out (by kernel_rfl)) (fun _ _ _ h => h) (Or.inl ⟨by rfl, ?_⟩) ?_ ?_
                 rotate_left
                 ·
                  intro w'
                  go_simp
                  with_reducible rfl
                 rotate_left
                 ·
                  simp only [Act.put, List.setIfInBounds_toArray, List.set_cons_zero, List.set_cons_succ, i64_w, i32_w]
                  rfl
                 refine pure_ (i := 23) (N := some 74) (v := ?_) (a' := ?_) #[true, true, true, true, true, true, true, true, true, true, true, true, true, true, true, true, true, true, true, true, true, true, true, true, true, false, false] rfl rfl (any_of HT_.out (by kernel_rfl)) (fun _ _ _ h => h) (Or.inl ⟨by rfl, ?_⟩) ?_ ?_
                 rotate_left
                 ·
                  intro w'
                  go_simp
                  with_reducible rfl
                 rotate_left
                 ·
                  simp only [Act.put, List.setIfInBounds_toArray, List.set_cons_zero, List.set_cons_succ, i64_w, i32_w]
                  rfl
                 exact norm_ (by simp only [putAll, Act.put, List.setIfInBounds_toArray, List.set_cons_zero, List.set_cons_succ]) (hCont (gb303) _ ⟨hHeld, (by (with_reducible repeat (first | apply Kd.R_alloc | apply Kd.R_drewN | apply Kd.R_drew)); exact HO_10.out), (by (with_reducible repeat (first | apply Kd.R_alloc | apply Kd.R_drewN | apply Kd.R_drew)); exact HO_11.out), (by (with_reducible repeat (first | apply Kd.R_alloc | apply Kd.R_drewN | apply Kd.R_drew)); exact Kd.R_mono HO_12.out (fun _ hk => hk.2)), (by (with_reducible repeat (first | refine blk_drewN ?_ _ | refine blk_drew ?_ | refine blk_alloc ?_ _)); exact BK303.out), GW303.out, GE303.out, (by repeat (first | (with_reducible first | exact HB.out | apply below_alloc | apply pw_below_drewN | apply below_drew1 | refine below_set ?_ GE303.out) | exact HB.out))⟩)
               rintro gb303 w34 ⟨hS_, h0_, h1_, h2_, h3_, h4_, h5_, h6_⟩
               have n0_ : Aside0 (Kd.R (Kd.int .i64) 3 w34 w.heap.size (fun k_ => some k_ ≠ (v284 : Value).ownBlock) (.slice Ao14 t280.length co14) t280) := ⟨h0_⟩
               have n1_ : Aside0 (Kd.R (Kd.int .i64) 3 w34 w.heap.size (fun k_ => some k_ ≠ (.slice Ao14 t280.length co14 : Value).ownBlock) v284 t283) := ⟨h1_⟩
               have n2_ : Aside0 (Kd.R k31 31 w34 w.heap.size (fun k_ => k_ ≠ gb303) u12 x12_2) := ⟨h2_⟩
               have n3_ : Aside0 (w34.heap[gb303]? = some (.cells #[.int .i64 0, .int .i64 0, .int .i64 0, .int .i64 0, .int .i64 0, .int .i64 0, .int .i64 0, .int .i64 0, .bool false, .int .i64 0] 31 (0, 0))) := ⟨h3_⟩
               have n4_ : Aside0 (w.heap.size ≤ gb303) := ⟨h4_⟩
               have n5_ : Aside0 (w.heap.size ≤ gb303) := ⟨h5_⟩
               have n6_ : Aside0 (Below w.heap.size w w34) := ⟨h6_⟩
               clear HO_10
               clear HO_11
               clear HO_12
               clear HB
               clear h0_ h1_ h2_ h3_ h4_ h5_ h6_
               have HO_10 := n0_
               have HO_11 := n1_
               have HO_12 := n2_
               have BK303 := n3_
               have GW303 := n4_
               have GE303 := n5_
               have HB := n6_
               clear n0_ n1_ n2_ n3_ n4_ n5_ n6_
               have hHeld : w34.cell? (ad286.add ((ji17)).toNat) = some (.int .u8 (rd l2 (ji17))) ∧ w34.cell? (ad286.add ((ji20)).toNat) = some (.int .u8 (rd l2 (ji20))) ∧ w34.cell? (ad286.add ((ji23)).toNat) = some (.int .u8 (rd l2 (ji23))) := hS_
               refine norm_ (a' := ?_) ?_ ?_
               rotate_left
               ·
                simp only [putAll, Act.put, List.setIfInBounds_toArray, List.set_cons_zero, List.set_cons_succ]
                rfl
               refine one_ (i := 25) (N := none) #[true, true, true, true, true, true, true, true, true, true, true, true, true, true, true, true, true, true, true, true, true, true, true, true, true, true, false] rfl rfl (one_of HT_.out (by kernel_rfl)) (by decide) (fun K hK => ?_)
               have hs35 : w34.cell? ⟨gb303, 0, none⟩ = some (.int .i64 0) := (blk_cell BK303.out 0).trans rfl
               have hfs35 := blk_frozen BK303.out 0
               have hs36 : w34.cell? ⟨gb303, 1, none⟩ = some (.int .i64 0) := (blk_cell BK303.out 1).trans rfl
               have hfs36 := blk_frozen BK303.out 1
               have hs37 : w34.cell? ⟨gb303, 2, none⟩ = some (.int .i64 0) := (blk_cell BK303.out 2).trans rfl
               have hfs37 := blk_frozen BK303.out 2
               have hs38 : w34.cell? ⟨gb303, 3, none⟩ = some (.int .i64 0) := (blk_cell BK303.out 3).trans rfl
               have hfs38 := blk_frozen BK303.out 3
               have hs39 : w34.cell? ⟨gb303, 4, none⟩ = some (.int .i64 0) := (blk_cell BK303.out 4).trans rfl
               have hfs39 := blk_frozen BK303.out 4
               have hs40 : w34.cell? ⟨gb303, 5, none⟩ = some (.int .i64 0) := (blk_cell BK303.out 5).trans rfl
               have hfs40 := blk_frozen BK303.out 5
               have hs41 : w34.cell? ⟨gb303, 6, none⟩ = some (.int .i64 0) := (blk_cell BK303.out 6).trans rfl
               have hfs41 := blk_frozen BK303.out 6
               have hs42 : w34.cell? ⟨gb303, 7, none⟩ = some (.int .i64 0) := (blk_cell BK303.out 7).trans rfl
               have hfs42 := blk_frozen BK303.out 7
               have hs43 : w34.cell? ⟨gb303, 8, none⟩ = some (.bool false) := (blk_cell BK303.out 8).trans rfl
               have hfs43 := blk_frozen BK303.out 8
               have hs44 : w34.cell? ⟨gb303, 9, none⟩ = some (.int .i64 0) := (blk_cell BK303.out 9).trans rfl
               have hfs44 := blk_frozen BK303.out 9
               refine skip_ (w1 := ?_) (by rfl) rfl ?_ ?_
               rotate_left
               ·
                go_simp
                rfl
               refine hK.out _ _ ⟨(by (iterate 10 refine (cell_far (p := ⟨gb303, _, none⟩) (by (first | (show (Addr.add _ _).block ≠ _; rw [add_block]) | rw [add_block] | skip); exact Nat.ne_of_lt (Nat.lt_of_lt_of_le (by have := World.block_lt_of_cell? _ _ hw286_0; first | rwa [add_block] at this | exact this) GW303.out)) _).trans ?_); exact hHeld.1), (by (iterate 10 refine (cell_far (p := ⟨gb303, _, none⟩) (by (first | (show (Addr.add _ _).block ≠ _; rw [add_block]) | rw [add_block] | skip); exact Nat.ne_of_lt (Nat.lt_of_lt_of_le (by have := World.block_lt_of_cell? _ _ hw287_0; first | rwa [add_block] at this | exact this) GW303.out)) _).trans ?_); exact hHeld.2.1), (by (iterate 10 refine (cell_far (p := ⟨gb303, _, none⟩) (by (first | (show (Addr.add _ _).block ≠ _; rw [add_block]) | rw [add_block] | skip); exact Nat.ne_of_lt (Nat.lt_of_lt_of_le (by have := World.block_lt_of_cell? _ _ hw288_0; first | rwa [add_block] at this | exact this) GW303.out)) _).trans ?_); exact hHeld.2.2)⟩ (fun hHeld => ?_)
               clear hK K
               refine pure_ (i := 26) (N := some 15) (v := ?_) (a' := ?_) #[true, true, true, true, true, true, true, true, true, true, true, true, true, true, true, true, true, true, true, true, true, true, true, true, true, true, true] rfl rfl (any_of HT_.out (by kernel_rfl)) (fun _ _ _ h => h) (Or.inl ⟨by rfl, ?_⟩) ?_ ?_
               rotate_left
               ·
                intro w'
                go_simp
                with_reducible rfl
               rotate_left
               ·
                simp only [Act.put, List.setIfInBounds_toArray, List.set_cons_zero, List.set_cons_succ, i64_w, i32_w]
                rfl
               refine done_ (done_of HT_.out (by kernel_rfl)) ?_
               have hcz45_0 : w34.cell? ⟨gb303, 0, none⟩ = some (.int .i64 0) := (blk_cell BK303.out 0).trans rfl
               have hcz45_1 : w34.cell? ⟨gb303, 1, none⟩ = some (.int .i64 0) := (blk_cell BK303.out 1).trans rfl
               have hcz45_2 : w34.cell? ⟨gb303, 2, none⟩ = some (.int .i64 0) := (blk_cell BK303.out 2).trans rfl
               have hcz45_3 : w34.cell? ⟨gb303, 3, none⟩ = some (.int .i64 0) := (blk_cell BK303.out 3).trans rfl
               have hcz45_4 : w34.cell? ⟨gb303, 4, none⟩ = some (.int .i64 0) := (blk_cell BK303.out 4).trans rfl
               have hcz45_5 : w34.cell? ⟨gb303, 5, none⟩ = some (.int .i64 0) := (blk_cell BK303.out 5).trans rfl
               have hcz45_6 : w34.cell? ⟨gb303, 6, none⟩ = some (.int .i64 0) := (blk_cell BK303.out 6).trans rfl
               have hcz45_7 : w34.cell? ⟨gb303, 7, none⟩ = some (.int .i64 0) := (blk_cell BK303.out 7).trans rfl
               have hcz45_8 : w34.cell? ⟨gb303, 8, none⟩ = some (.bool false) := (blk_cell BK303.out 8).trans rfl
               have hcz45_9 : w34.cell? ⟨gb303, 9, none⟩ = some (.int .i64 0) := (blk_cell BK303.out 9).trans rfl
               have hfz45_0 := blk_frozen BK303.out 0
               have hfz45_1 := blk_frozen BK303.out 1
               have hfz45_2 := blk_frozen BK303.out 2
               have hfz45_3 := blk_frozen BK303.out 3
               have hfz45_4 := blk_frozen BK303.out 4
               have hfz45_5 := blk_frozen BK303.out 5
               have hfz45_6 := blk_frozen BK303.out 6
               have hfz45_7 := blk_frozen BK303.out 7
               have hfz45_8 := blk_frozen BK303.out 8
               have hfz45_9 := blk_frozen BK303.out 9
               try go_wp2_with (first | ((with_reducible refine gate_builtin (b := .append) (xs := #[.tmp 77, .tmp 79]) rfl ?_); (try (refine gate_guard (by rfl) ?_; dsimp only)); at_builtin; refine Kd.R_append k31 (w0 := w) w.heap.size rfl (.tmp 77) (.tmp 79) 39 31 (.agg #[(.int .i64 0), (.int .i64 0), (.int .i64 0), (.int .i64 0), (.int .i64 0), (.int .i64 0), (.int .i64 0), (.int .i64 0), (.bool false), (.int .i64 0)]) 80 rfl Try.underlying39 info31 rfl (by decide) (by omega) u12 x12_2 (⟨(⟨t292, t293, t294⟩ : S28), t295, t296, t297, t298, t299, t300, t301⟩ : S31) [.int .i64 t292, .int .i64 t293, .int .i64 t294, .int .i64 t295, .int .i64 t296, .int .i64 t297, .int .i64 t298, .int .i64 t299, .bool t300, .int .i64 t301] (fun k_ => k_ ≠ gb303) (fun _ => False) rfl (by first | (go_simp; done) | (go_simp; rfl)) ?aP (fun _ hk => hk.elim) ?aF ?aO ?aB ?aS ?aL ?_; (case aP => exact k31_mkM _ _ _ (⟨(⟨t292, t293, t294⟩ : S28), t295, t296, t297, t298, t299, t300, t301⟩ : S31)); (case aB => exact (by repeat (first | (with_reducible first | exact HB.out | apply below_alloc | apply pw_below_drewN | apply below_drew1 | refine below_set ?_ GE303.out) | exact HB.out))); (case aF => exact (fun k_ hk => Kd.freshB (g := gb303) (o := .cells #[.int .i64 t292, .int .i64 t293, .int .i64 t294, .int .i64 t295, .int .i64 t296, .int .i64 t297, .int .i64 t298, .int .i64 t299, .bool t300, .int .i64 t301] 31 (0, 0)) (by (with_reducible repeat (first | refine blk_drewN ?_ _ | refine blk_drew ?_ | refine blk_alloc ?_ _)); refine blk_put (cs := #[.int .i64 t292, .int .i64 t293, .int .i64 t294, .int .i64 t295, .int .i64 t296, .int .i64 t297, .int .i64 t298, .int .i64 t299, .bool t300, .int .i64 0]) ?_ 9 _ rfl; (with_reducible repeat (first | refine blk_drewN ?_ _ | refine blk_drew ?_ | refine blk_alloc ?_ _)); refine blk_put (cs := #[.int .i64 t292, .int .i64 t293, .int .i64 t294, .int .i64 t295, .int .i64 t296, .int .i64 t297, .int .i64 t298, .int .i64 t299, .bool false, .int .i64 0]) ?_ 8 _ rfl; (with_reducible repeat (first | refine blk_drewN ?_ _ | refine blk_drew ?_ | refine blk_alloc ?_ _)); refine blk_put (cs := #[.int .i64 t292, .int .i64 t293, .int .i64 t294, .int .i64 t295, .int .i64 t296, .int .i64 t297, .int .i64 t298, .int .i64 0, .bool false, .int .i64 0]) ?_ 7 _ rfl; (with_reducible repeat (first | refine blk_drewN ?_ _ | refine blk_drew ?_ | refine blk_alloc ?_ _)); refine blk_put (cs := #[.int .i64 t292, .int .i64 t293, .int .i64 t294, .int .i64 t295, .int .i64 t296, .int .i64 t297, .int .i64 0, .int .i64 0, .bool false, .int .i64 0]) ?_ 6 _ rfl; (with_reducible repeat (first | refine blk_drewN ?_ _ | refine blk_drew ?_ | refine blk_alloc ?_ _)); refine blk_put (cs := #[.int .i64 t292, .int .i64 t293, .int .i64 t294, .int .i64 t295, .int .i64 t296, .int .i64 0, .int .i64 0, .int .i64 0, .bool false, .int .i64 0]) ?_ 5 _ rfl; (with_reducible repeat (first | refine blk_drewN ?_ _ | refine blk_drew ?_ | refine blk_alloc ?_ _)); refine blk_put (cs := #[.int .i64 t292, .int .i64 t293, .int .i64 t294, .int .i64 t295, .int .i64 0, .int .i64 0, .int .i64 0, .int .i64 0, .bool false, .int .i64 0]) ?_ 4 _ rfl; (with_reducible repeat (first | refine blk_drewN ?_ _ | refine blk_drew ?_ | refine blk_alloc ?_ _)); refine blk_put (cs := #[.int .i64 t292, .int .i64 t293, .int .i64 t294, .int .i64 0, .int .i64 0, .int .i64 0, .int .i64 0, .int .i64 0, .bool false, .int .i64 0]) ?_ 3 _ rfl; (with_reducible repeat (first | refine blk_drewN ?_ _ | refine blk_drew ?_ | refine blk_alloc ?_ _)); refine blk_put (cs := #[.int .i64 t292, .int .i64 t293, .int .i64 0, .int .i64 0, .int .i64 0, .int .i64 0, .int .i64 0, .int .i64 0, .bool false, .int .i64 0]) ?_ 2 _ rfl; (with_reducible repeat (first | refine blk_drewN ?_ _ | refine blk_drew ?_ | refine blk_alloc ?_ _)); refine blk_put (cs := #[.int .i64 t292, .int .i64 0, .int .i64 0, .int .i64 0, .int .i64 0, .int .i64 0, .int .i64 0, .int .i64 0, .bool false, .int .i64 0]) ?_ 1 _ rfl; (with_reducible repeat (first | refine blk_drewN ?_ _ | refine blk_drew ?_ | refine blk_alloc ?_ _)); refine blk_put (cs := #[.int .i64 0, .int .i64 0, .int .i64 0, .int .i64 0, .int .i64 0, .int .i64 0, .int .i64 0, .int .i64 0, .bool false, .int .i64 0]) ?_ 0 _ rfl; (with_reducible repeat (first | refine blk_drewN ?_ _ | refine blk_drew ?_ | refine blk_alloc ?_ _)); exact BK303.out) k_ hk)); (case aO => exact (by (with_reducible repeat (first | apply Kd.R_alloc | apply Kd.R_drewN | apply Kd.R_drew)); exact Kd.R_mono (Kd.R_far (p := ⟨gb303, 9, none⟩) (Kd.R_far (p := ⟨gb303, 8, none⟩) (Kd.R_far (p := ⟨gb303, 7, none⟩) (Kd.R_far (p := ⟨gb303, 6, none⟩) (Kd.R_far (p := ⟨gb303, 5, none⟩) (Kd.R_far (p := ⟨gb303, 4, none⟩) (Kd.R_far (p := ⟨gb303, 3, none⟩) (Kd.R_far (p := ⟨gb303, 2, none⟩) (Kd.R_far (p := ⟨gb303, 1, none⟩) (Kd.R_far (p := ⟨gb303, 0, none⟩) (Kd.R_mono HO_12.out (fun k_ hk => (⟨hk, hk⟩ : _ ∧ k_ ≠ gb303))) (fun _ hk => hk.2) (.int .i64 t292)) (fun _ hk => hk.2) (.int .i64 t293)) (fun _ hk => hk.2) (.int .i64 t294)) (fun _ hk => hk.2) (.int .i64 t295)) (fun _ hk => hk.2) (.int .i64 t296)) (fun _ hk => hk.2) (.int .i64 t297)) (fun _ hk => hk.2) (.int .i64 t298)) (fun _ hk => hk.2) (.int .i64 t299)) (fun _ hk => hk.2) (.bool t300)) (fun _ hk => hk.2) (.int .i64 t301)) (fun _ hk => hk.1))); (case aS => exact (below_size (by repeat (first | (with_reducible first | exact HB.out | apply below_alloc | apply pw_below_drewN | apply below_drew1 | refine below_set ?_ GE303.out) | exact HB.out)))); (case aL => have := LMc29.out; omega); intro v305 w46 ho hb hg hat; rw [← Ny304.out] at ho; have n0_ := Aside0.mk (Kd.R_over' (by (with_reducible repeat (first | apply Kd.R_alloc | apply Kd.R_drewN | apply Kd.R_drew)); exact (Kd.R_mono (Kd.R_far (p := ⟨gb303, 9, none⟩) (Kd.R_far (p := ⟨gb303, 8, none⟩) (Kd.R_far (p := ⟨gb303, 7, none⟩) (Kd.R_far (p := ⟨gb303, 6, none⟩) (Kd.R_far (p := ⟨gb303, 5, none⟩) (Kd.R_far (p := ⟨gb303, 4, none⟩) (Kd.R_far (p := ⟨gb303, 3, none⟩) (Kd.R_far (p := ⟨gb303, 2, none⟩) (Kd.R_far (p := ⟨gb303, 1, none⟩) (Kd.R_far (p := ⟨gb303, 0, none⟩) (Kd.R_types HO_10.out BK303.out (by decide)) (fun _ hk => hk.2) (.int .i64 t292)) (fun _ hk => hk.2) (.int .i64 t293)) (fun _ hk => hk.2) (.int .i64 t294)) (fun _ hk => hk.2) (.int .i64 t295)) (fun _ hk => hk.2) (.int .i64 t296)) (fun _ hk => hk.2) (.int .i64 t297)) (fun _ hk => hk.2) (.int .i64 t298)) (fun _ hk => hk.2) (.int .i64 t299)) (fun _ hk => hk.2) (.bool t300)) (fun _ hk => hk.2) (.int .i64 t301)) (fun _ h_ => h_.1))) (Kd.R_typed (by (with_reducible repeat (first | apply Kd.R_alloc | apply Kd.R_drewN | apply Kd.R_drew)); exact (Kd.R_mono (Kd.R_far (p := ⟨gb303, 9, none⟩) (Kd.R_far (p := ⟨gb303, 8, none⟩) (Kd.R_far (p := ⟨gb303, 7, none⟩) (Kd.R_far (p := ⟨gb303, 6, none⟩) (Kd.R_far (p := ⟨gb303, 5, none⟩) (Kd.R_far (p := ⟨gb303, 4, none⟩) (Kd.R_far (p := ⟨gb303, 3, none⟩) (Kd.R_far (p := ⟨gb303, 2, none⟩) (Kd.R_far (p := ⟨gb303, 1, none⟩) (Kd.R_far (p := ⟨gb303, 0, none⟩) (Kd.R_mono HO_12.out (fun k_ hk => (⟨hk, hk⟩ : _ ∧ k_ ≠ gb303))) (fun _ hk => hk.2) (.int .i64 t292)) (fun _ hk => hk.2) (.int .i64 t293)) (fun _ hk => hk.2) (.int .i64 t294)) (fun _ hk => hk.2) (.int .i64 t295)) (fun _ hk => hk.2) (.int .i64 t296)) (fun _ hk => hk.2) (.int .i64 t297)) (fun _ hk => hk.2) (.int .i64 t298)) (fun _ hk => hk.2) (.int .i64 t299)) (fun _ hk => hk.2) (.bool t300)) (fun _ hk => hk.2) (.int .i64 t301)) (fun _ h_ => h_.1)))) (by decide) hg); have n1_ := Aside0.mk (Kd.R_over' (by (with_reducible repeat (first | apply Kd.R_alloc | apply Kd.R_drewN | apply Kd.R_drew)); exact (Kd.R_mono (Kd.R_far (p := ⟨gb303, 9, none⟩) (Kd.R_far (p := ⟨gb303, 8, none⟩) (Kd.R_far (p := ⟨gb303, 7, none⟩) (Kd.R_far (p := ⟨gb303, 6, none⟩) (Kd.R_far (p := ⟨gb303, 5, none⟩) (Kd.R_far (p := ⟨gb303, 4, none⟩) (Kd.R_far (p := ⟨gb303, 3, none⟩) (Kd.R_far (p := ⟨gb303, 2, none⟩) (Kd.R_far (p := ⟨gb303, 1, none⟩) (Kd.R_far (p := ⟨gb303, 0, none⟩) (Kd.R_types HO_11.out BK303.out (by decide)) (fun _ hk => hk.2) (.int .i64 t292)) (fun _ hk => hk.2) (.int .i64 t293)) (fun _ hk => hk.2) (.int .i64 t294)) (fun _ hk => hk.2) (.int .i64 t295)) (fun _ hk => hk.2) (.int .i64 t296)) (fun _ hk => hk.2) (.int .i64 t297)) (fun _ hk => hk.2) (.int .i64 t298)) (fun _ hk => hk.2) (.int .i64 t299)) (fun _ hk => hk.2) (.bool t300)) (fun _ hk => hk.2) (.int .i64 t301)) (fun _ h_ => h_.1))) (Kd.R_typed (by (with_reducible repeat (first | apply Kd.R_alloc | apply Kd.R_drewN | apply Kd.R_drew)); exact (Kd.R_mono (Kd.R_far (p := ⟨gb303, 9, none⟩) (Kd.R_far (p := ⟨gb303, 8, none⟩) (Kd.R_far (p := ⟨gb303, 7, none⟩) (Kd.R_far (p := ⟨gb303, 6, none⟩) (Kd.R_far (p := ⟨gb303, 5, none⟩) (Kd.R_far (p := ⟨gb303, 4, none⟩) (Kd.R_far (p := ⟨gb303, 3, none⟩) (Kd.R_far (p := ⟨gb303, 2, none⟩) (Kd.R_far (p := ⟨gb303, 1, none⟩) (Kd.R_far (p := ⟨gb303, 0, none⟩) (Kd.R_mono HO_12.out (fun k_ hk => (⟨hk, hk⟩ : _ ∧ k_ ≠ gb303))) (fun _ hk => hk.2) (.int .i64 t292)) (fun _ hk => hk.2) (.int .i64 t293)) (fun _ hk => hk.2) (.int .i64 t294)) (fun _ hk => hk.2) (.int .i64 t295)) (fun _ hk => hk.2) (.int .i64 t296)) (fun _ hk => hk.2) (.int .i64 t297)) (fun _ hk => hk.2) (.int .i64 t298)) (fun _ hk => hk.2) (.int .i64 t299)) (fun _ hk => hk.2) (.bool t300)) (fun _ hk => hk.2) (.int .i64 t301)) (fun _ h_ => h_.1)))) (by decide) hg); have n2_ := Aside0.mk (blk_grown (g := gb303) (o := .cells #[.int .i64 t292, .int .i64 t293, .int .i64 t294, .int .i64 t295, .int .i64 t296, .int .i64 t297, .int .i64 t298, .int .i64 t299, .bool t300, .int .i64 t301] 31 (0, 0)) (by (with_reducible repeat (first | refine blk_drewN ?_ _ | refine blk_drew ?_ | refine blk_alloc ?_ _)); refine blk_put (cs := #[.int .i64 t292, .int .i64 t293, .int .i64 t294, .int .i64 t295, .int .i64 t296, .int .i64 t297, .int .i64 t298, .int .i64 t299, .bool t300, .int .i64 0]) ?_ 9 _ rfl; (with_reducible repeat (first | refine blk_drewN ?_ _ | refine blk_drew ?_ | refine blk_alloc ?_ _)); refine blk_put (cs := #[.int .i64 t292, .int .i64 t293, .int .i64 t294, .int .i64 t295, .int .i64 t296, .int .i64 t297, .int .i64 t298, .int .i64 t299, .bool false, .int .i64 0]) ?_ 8 _ rfl; (with_reducible repeat (first | refine blk_drewN ?_ _ | refine blk_drew ?_ | refine blk_alloc ?_ _)); refine blk_put (cs := #[.int .i64 t292, .int .i64 t293, .int .i64 t294, .int .i64 t295, .int .i64 t296, .int .i64 t297, .int .i64 t298, .int .i64 0, .bool false, .int .i64 0]) ?_ 7 _ rfl; (with_reducible repeat (first | refine blk_drewN ?_ _ | refine blk_drew ?_ | refine blk_alloc ?_ _)); refine blk_put (cs := #[.int .i64 t292, .int .i64 t293, .int .i64 t294, .int .i64 t295, .int .i64 t296, .int .i64 t297, .int .i64 0, .int .i64 0, .bool false, .int .i64 0]) ?_ 6 _ rfl; (with_reducible repeat (first | refine blk_drewN ?_ _ | refine blk_drew ?_ | refine blk_alloc ?_ _)); refine blk_put (cs := #[.int .i64 t292, .int .i64 t293, .int .i64 t294, .int .i64 t295, .int .i64 t296, .int .i64 0, .int .i64 0, .int .i64 0, .bool false, .int .i64 0]) ?_ 5 _ rfl; (with_reducible repeat (first | refine blk_drewN ?_ _ | refine blk_drew ?_ | refine blk_alloc ?_ _)); refine blk_put (cs := #[.int .i64 t292, .int .i64 t293, .int .i64 t294, .int .i64 t295, .int .i64 0, .int .i64 0, .int .i64 0, .int .i64 0, .bool false, .int .i64 0]) ?_ 4 _ rfl; (with_reducible repeat (first | refine blk_drewN ?_ _ | refine blk_drew ?_ | refine blk_alloc ?_ _)); refine blk_put (cs := #[.int .i64 t292, .int .i64 t293, .int .i64 t294, .int .i64 0, .int .i64 0, .int .i64 0, .int .i64 0, .int .i64 0, .bool false, .int .i64 0]) ?_ 3 _ rfl; (with_reducible repeat (first | refine blk_drewN ?_ _ | refine blk_drew ?_ | refine blk_alloc ?_ _)); refine blk_put (cs := #[.int .i64 t292, .int .i64 t293, .int .i64 0, .int .i64 0, .int .i64 0, .int .i64 0, .int .i64 0, .int .i64 0, .bool false, .int .i64 0]) ?_ 2 _ rfl; (with_reducible repeat (first | refine blk_drewN ?_ _ | refine blk_drew ?_ | refine blk_alloc ?_ _)); refine blk_put (cs := #[.int .i64 t292, .int .i64 0, .int .i64 0, .int .i64 0, .int .i64 0, .int .i64 0, .int .i64 0, .int .i64 0, .bool false, .int .i64 0]) ?_ 1 _ rfl; (with_reducible repeat (first | refine blk_drewN ?_ _ | refine blk_drew ?_ | refine blk_alloc ?_ _)); refine blk_put (cs := #[.int .i64 0, .int .i64 0, .int .i64 0, .int .i64 0, .int .i64 0, .int .i64 0, .int .i64 0, .int .i64 0, .bool false, .int .i64 0]) ?_ 0 _ rfl; (with_reducible repeat (first | refine blk_drewN ?_ _ | refine blk_drew ?_ | refine blk_alloc ?_ _)); exact BK303.out) hg (Kd.R_away HO_12.out (fun _ hk => hk))); have n3_ := Aside0.mk (hb); have n4_ := Aside0.mk (ho); clear HO_10; clear HO_11; clear BK303; clear HB; clear HO_12; have HO_10 := n0_; have HO_11 := n1_; have BK303 := n2_; have HB := n3_; have HO306 := n4_; clear n0_ n1_ n2_ n3_ n4_; clear ho hb hg hat))
               go_roundg k2
               case measure => have := HJ4.out; have := HK2.out; omega
               case rel => exact ⟨(y304), (wrap64 (x13_2 + 1)), (by first | rfl | (simp; done) | (simp [*]; done)), H', ⟨by have := HJ4.out; have := HK2.out; omega⟩, ⟨by (with_reducible repeat (first | apply Kd.R_alloc | apply Kd.R_drewN | apply Kd.R_drew)); exact HO_10.out⟩, ⟨by (with_reducible repeat (first | apply Kd.R_alloc | apply Kd.R_drewN | apply Kd.R_drew)); exact HO_11.out⟩, ⟨by (with_reducible repeat (first | apply Kd.R_alloc | apply Kd.R_drewN | apply Kd.R_drew)); exact Kd.R_mono HO306.out (fun _ hk => trivial)⟩, ⟨by repeat (first | (with_reducible first | exact HB.out | apply below_alloc | apply pw_below_drewN | apply below_drew1 | refine below_set ?_ GE303.out) | exact HB.out)⟩⟩
              ·
               rw [if_neg c29] at H
               exact absurd H (by simp)
             ·
              replace c28 := Bool.eq_false_iff.mpr c28
              subst c28
              have H1 : (some false) = some r := by rw [if_neg (show ¬ (false = true) by decide)] at H; exact H
              clear H
              have H := H1
              clear H1
              obtain rfl := Option.some.inj H
              try go_wp2
              have n0_ := Aside0.mk (Kd.R_drew HO_10.out)
              have n1_ := Aside0.mk (Kd.R_drew HO_11.out)
              have n2_ := Aside0.mk (Kd.R_drew HO_12.out)
              have n3_ := Aside0.mk (below_drew1 HB.out)
              clear HO_10
              clear HO_11
              clear HO_12
              clear HB
              have HO_10 := n0_
              have HO_11 := n1_
              have HO_12 := n2_
              have HB := n3_
              clear n0_ n1_ n2_ n3_
              have p286 : 0 ≤ ((ji17) : Int) := of_decide_eq_true (by first | (with_reducible assumption) | assumption)
              have q286 : (ji17) < (l2.length : Int) := of_decide_eq_true (by first | (with_reducible assumption) | assumption)
              obtain ⟨ad286, e286, hx286_0⟩ := Kd.at_int HR2.out (ji17) p286 q286
              have hw286_0 := hx286_0
              cases e286
              replace hx286_0 := (HB.out.cell (World.block_lt_of_cell? w _ hx286_0)).trans hx286_0
              replace p286 := eq_true p286
              replace q286 := eq_true q286
              have p287 : 0 ≤ ((ji20) : Int) := of_decide_eq_true (by first | (with_reducible assumption) | assumption)
              have q287 : (ji20) < (l2.length : Int) := of_decide_eq_true (by first | (with_reducible assumption) | assumption)
              obtain ⟨ad287, e287, hx287_0⟩ := Kd.at_int HR2.out (ji20) p287 q287
              have hw287_0 := hx287_0
              obtain rfl : ad286 = ad287 := (by injection e287)
              replace hx287_0 := (HB.out.cell (World.block_lt_of_cell? w _ hx287_0)).trans hx287_0
              replace p287 := eq_true p287
              replace q287 := eq_true q287
              have p288 : 0 ≤ ((ji23) : Int) := of_decide_eq_true (by first | (with_reducible assumption) | assumption)
              have q288 : (ji23) < (l2.length : Int) := of_decide_eq_true (by first | (with_reducible assumption) | assumption)
              obtain ⟨ad288, e288, hx288_0⟩ := Kd.at_int HR2.out (ji23) p288 q288
              have hw288_0 := hx288_0
              obtain rfl : ad286 = ad288 := (by injection e288)
              replace hx288_0 := (HB.out.cell (World.block_lt_of_cell? w _ hx288_0)).trans hx288_0
              replace p288 := eq_true p288
              replace q288 := eq_true q288
              refine start_ (n := 27) (S := fun w' => w'.cell? (ad286.add ((ji17)).toNat) = some (.int .u8 (rd l2 (ji17))) ∧ w'.cell? (ad286.add ((ji20)).toNat) = some (.int .u8 (rd l2 (ji20))) ∧ w'.cell? (ad286.add ((ji23)).toNat) = some (.int .u8 (rd l2 (ji23)))) (ds := []) #[false, false, false, false, false, false, false, false, false, false, false, false, false, false, false, false, false, false, false, false, false, false, false, false, false, false, false] (by kernel_rfl) rfl rfl ⟨((HB.out.cell (World.block_lt_of_cell? w _ hw286_0)).trans hw286_0), ((HB.out.cell (World.block_lt_of_cell? w _ hw287_0)).trans hw287_0), ((HB.out.cell (World.block_lt_of_cell? w _ hw288_0)).trans hw288_0)⟩ (fun hHeld => ?_); refine with_tabW warplaw4_CufRoots.tab10 warplaw4_CufRoots.bits10 (fun HT_ HW_ => ?_)
              generalize wr.drew = w47 at HO_10 HO_11 HO_12 HB hx286_0 hx287_0 hx288_0 hHeld ⊢
              refine pure_ (i := 0) (N := some 52) (v := ?_) (a' := ?_) #[true, false, false, false, false, false, false, false, false, false, false, false, false, false, false, false, false, false, false, false, false, false, false, false, false, false, false] rfl rfl (any_of HT_.out (by kernel_rfl)) (fun _ _ _ h => h) (Or.inl ⟨by rfl, ?_⟩) ?_ ?_
              rotate_left
              ·
               intro w'
               go_simp
               with_reducible rfl
              rotate_left
              ·
               simp only [Act.put, List.setIfInBounds_toArray, List.set_cons_zero, List.set_cons_succ, i64_w, i32_w]
               rfl
              refine pure_ (i := 1) (N := some 53) (v := ?_) (a' := ?_) #[true, true, false, false, false, false, false, false, false, false, false, false, false, false, false, false, false, false, false, false, false, false, false, false, false, false, false] rfl rfl (any_of HT_.out (by kernel_rfl)) (fun _ _ _ h => h) (Or.inl ⟨by rfl, ?_⟩) ?_ ?_
              rotate_left
              ·
               intro w'
               go_simp
               with_reducible rfl
              rotate_left
              ·
               simp only [Act.put, List.setIfInBounds_toArray, List.set_cons_zero, List.set_cons_succ, i64_w, i32_w]
               rfl
              refine pure_ (i := 2) (N := some 54) (v := ?_) (a' := ?_) #[true, true, true, false, false, false, false, false, false, false, false, false, false, false, false, false, false, false, false, false, false, false, false, false, false, false, false] rfl rfl (any_of HT_.out (by kernel_rfl)) (fun _ _ _ h => h) (Or.inl ⟨by rfl, ?_⟩) ?_ ?_
              rotate_left
              ·
               intro w'
               go_simp
               with_reducible rfl
              rotate_left
              ·
               simp only [Act.put, List.setIfInBounds_toArray, List.set_cons_zero, List.set_cons_succ, i64_w, i32_w]
               rfl
              refine pure_ (i := 3) (N := some 55) (v := ?_) (a' := ?_) #[true, true, true, true, false, false, false, false, false, false, false, false, false, false, false, false, false, false, false, false, false, false, false, false, false, false, false] rfl rfl (any_of HT_.out (by kernel_rfl)) (fun _ _ _ h => h) (Or.inl ⟨by rfl, ?_⟩) ?_ ?_
              rotate_left
              ·
               intro w'
               go_simp
               with_reducible rfl
              rotate_left
              ·
               simp only [Act.put, List.setIfInBounds_toArray, List.set_cons_zero, List.set_cons_succ, i64_w, i32_w]
               rfl
              refine pure_ (i := 5) (N := some 57) (v := ?_) (a' := ?_) #[true, true, true, true, false, true, false, false, false, false, false, false, false, false, false, false, false, false, false, false, false, false, false, false, false, false, false] rfl rfl (any_of HT_.out (by kernel_rfl)) (fun _ _ _ h => h) (Or.inl ⟨by rfl, ?_⟩) ?_ ?_
              rotate_left
              ·
               intro w'
               go_simp
               with_reducible rfl
              rotate_left
              ·
               simp only [Act.put, List.setIfInBounds_toArray, List.set_cons_zero, List.set_cons_succ, i64_w, i32_w]
               rfl
              refine pure_ (i := 6) (N := some 58) (v := ?_) (a' := ?_) #[true, true, true, true, false, true, true, false, false, false, false, false, false, false, false, false, false, false, false, false, false, false, false, false, false, false, false] rfl rfl (any_of HT_.out (by kernel_rfl)) (fun _ _ _ h => h) (Or.inl ⟨by rfl, ?_⟩) ?_ ?_
              rotate_left
              ·
               intro w'
               go_simp
               with_reducible rfl
              rotate_left
              ·
               simp only [Act.put, List.setIfInBounds_toArray, List.set_cons_zero, List.set_cons_succ, i64_w, i32_w]
               rfl
              refine pure_ (i := 7) (N := some 59) (v := ?_) (a' := ?_) #[true, true, true, true, false, true, true, true, false, false, false, false, false, false, false, false, false, false, false, false, false, false, false, false, false, false, false] rfl rfl (any_of HT_.out (by kernel_rfl)) (fun _ _ _ h => h) (Or.inl ⟨by rfl, ?_⟩) ?_ ?_
              rotate_left
              ·
               intro w'
               go_simp
               with_reducible rfl
              rotate_left
              ·
               simp only [Act.put, List.setIfInBounds_toArray, List.set_cons_zero, List.set_cons_succ, i64_w, i32_w]
               rfl
              refine pure_ (i := 8) (N := some 60) (v := ?_) (a' := ?_) #[true, true, true, true, false, true, true, true, true, false, false, false, false, false, false, false, false, false, false, false, false, false, false, false, false, false, false] rfl rfl (any_of HT_.out (by kernel_rfl)) (fun _ _ _ h => h) (Or.inl ⟨by rfl, ?_⟩) ?_ ?_
              rotate_left
              ·
               intro w'
               go_simp
               with_reducible rfl
              rotate_left
              ·
               simp only [Act.put, List.setIfInBounds_toArray, List.set_cons_zero, List.set_cons_succ, i64_w, i32_w]
               rfl
              refine pure_ (i := 9) (N := some 61) (v := ?_) (a' := ?_) #[true, true, true, true, false, true, true, true, true, true, false, false, false, false, false, false, false, false, false, false, false, false, false, false, false, false, false] rfl rfl (any_of HT_.out (by kernel_rfl)) (fun _ _ _ h => h) (Or.inl ⟨by rfl, ?_⟩) ?_ ?_
              rotate_left
              ·
               intro w'
               go_simp
               with_reducible rfl
              rotate_left
              ·
               simp only [Act.put, List.setIfInBounds_toArray, List.set_cons_zero, List.set_cons_succ, i64_w, i32_w]
               rfl
              refine pure_ (i := 11) (N := some 63) (v := ?_) (a' := ?_) #[true, true, true, true, false, true, true, true, true, true, false, true, false, false, false, false, false, false, false, false, false, false, false, false, false, false, false] rfl rfl (any_of HT_.out (by kernel_rfl)) (fun _ _ _ h => h) (Or.inl ⟨by rfl, ?_⟩) ?_ ?_
              rotate_left
              ·
               intro w'
               go_simp
               with_reducible rfl
              rotate_left
              ·
               simp only [Act.put, List.setIfInBounds_toArray, List.set_cons_zero, List.set_cons_succ, i64_w, i32_w]
               rfl
              refine pure_ (i := 12) (N := some 64) (v := ?_) (a' := ?_) #[true, true, true, true, false, true, true, true, true, true, false, true, true, false, false, false, false, false, false, false, false, false, false, false, false, false, false] rfl rfl (any_of HT_.out (by kernel_rfl)) (fun _ _ _ h => h) (Or.inl ⟨by rfl, ?_⟩) ?_ ?_
              rotate_left
              ·
               intro w'
               go_simp
               with_reducible rfl
              rotate_left
              ·
               simp only [Act.put, List.setIfInBounds_toArray, List.set_cons_zero, List.set_cons_succ, i64_w, i32_w]
               rfl
              refine pure_ (i := 13) (N := some 65) (v := ?_) (a' := ?_) #[true, true, true, true, false, true, true, true, true, true, false, true, true, true, false, false, false, false, false, false, false, false, false, false, false, false, false] rfl rfl (any_of HT_.out (by kernel_rfl)) (fun _ _ _ h => h) (Or.inl ⟨by rfl, ?_⟩) ?_ ?_
              rotate_left
              ·
               intro w'
               go_simp
               with_reducible rfl
              rotate_left
              ·
               simp only [Act.put, List.setIfInBounds_toArray, List.set_cons_zero, List.set_cons_succ, i64_w, i32_w]
               rfl
              refine pure_ (i := 14) (N := some 66) (v := ?_) (a' := ?_) #[true, true, true, true, false, true, true, true, true, true, false, true, true, true, true, false, false, false, false, false, false, false, false, false, false, false, false] rfl rfl (any_of HT_.out (by kernel_rfl)) (fun _ _ _ h => h) (Or.inl ⟨by rfl, ?_⟩) ?_ ?_
              rotate_left
              ·
               intro w'
               go_simp
               with_reducible rfl
              rotate_left
              ·
               simp only [Act.put, List.setIfInBounds_toArray, List.set_cons_zero, List.set_cons_succ, i64_w, i32_w]
               rfl
              refine pure_ (i := 15) (N := some 67) (v := ?_) (a' := ?_) #[true, true, true, true, false, true, true, true, true, true, false, true, true, true, true, true, false, false, false, false, false, false, false, false, false, false, false] rfl rfl (any_of HT_.out (by kernel_rfl)) (fun _ _ _ h => h) (Or.inl ⟨by rfl, ?_⟩) ?_ ?_
              rotate_left
              ·
               intro w'
               go_simp
               with_reducible rfl
              rotate_left
              ·
               simp only [Act.put, List.setIfInBounds_toArray, List.set_cons_zero, List.set_cons_succ, i64_w, i32_w]
               rfl
              refine pure_ (i := 17) (N := some 69) (v := ?_) (a' := ?_) #[true, true, true, true, false, true, true, true, true, true, false, true, true, true, true, true, false, true, false, false, false, false, false, false, false, false, false] rfl rfl (any_of HT_.out (by kernel_rfl)) (fun _ _ _ h => h) (Or.inl ⟨by rfl, ?_⟩) ?_ ?_
              rotate_left
              ·
               intro w'
               go_simp
               with_reducible rfl
              rotate_left
              ·
               simp only [Act.put, List.setIfInBounds_toArray, List.set_cons_zero, List.set_cons_succ, i64_w, i32_w]
               rfl
              refine pure_ (i := 19) (N := some 71) (v := ?_) (a' := ?_) #[true, true, true, true, false, true, true, true, true, true, false, true, true, true, true, true, false, true, false, true, false, false, false, false, false, false, false] rfl rfl (any_of HT_.out (by kernel_rfl)) (fun _ _ _ h => h) (Or.inl ⟨by rfl, ?_⟩) ?_ ?_
              rotate_left
              ·
               intro w'
               go_simp
               with_reducible rfl
              rotate_left
              ·
               simp only [Act.put, List.setIfInBounds_toArray, List.set_cons_zero, List.set_cons_succ, i64_w, i32_w]
               rfl
              refine take_ (i := 4) (N := some 56) (v := ?_) (a' := ?_) #[true, true, true, true, true, true, true, true, true, true, false, true, true, true, true, true, false, true, false, true, false, false, false, false, false, false, false] rfl rfl (take_ofW HT_.out HW_.out (by kernel_rfl)) (fun _ _ _ h => h) (Or.inl ⟨by rfl, ?_⟩) hHeld ?_ ?_
              rotate_left
              ·
               rintro w' ⟨s0, s1, s2⟩
               go_simp
               with_reducible rfl
              rotate_left
              ·
               simp only [Act.put, List.setIfInBounds_toArray, List.set_cons_zero, List.set_cons_succ, i64_w, i32_w]
               rfl
              refine take_ (i := 10) (N := some 62) (v := ?_) (a' := ?_) #[true, true, true, true, true, true, true, true, true, true, true, true, true, true, true, true, false, true, false, true, false, false, false, false, false, false, false] rfl rfl (take_ofW HT_.out HW_.out (by kernel_rfl)) (fun _ _ _ h => h) (Or.inl ⟨by rfl, ?_⟩) hHeld ?_ ?_
              rotate_left
              ·
               rintro w' ⟨s0, s1, s2⟩
               go_simp
               with_reducible rfl
              rotate_left
              ·
               simp only [Act.put, List.setIfInBounds_toArray, List.set_cons_zero, List.set_cons_succ, i64_w, i32_w]
               rfl
              refine take_ (i := 16) (N := some 68) (v := ?_) (a' := ?_) #[true, true, true, true, true, true, true, true, true, true, true, true, true, true, true, true, true, true, false, true, false, false, false, false, false, false, false] rfl rfl (take_ofW HT_.out HW_.out (by kernel_rfl)) (fun _ _ _ h => h) (Or.inl ⟨by rfl, ?_⟩) hHeld ?_ ?_
              rotate_left
              ·
               rintro w' ⟨s0, s1, s2⟩
               go_simp
               with_reducible rfl
              rotate_left
              ·
               simp only [Act.put, List.setIfInBounds_toArray, List.set_cons_zero, List.set_cons_succ, i64_w, i32_w]
               rfl
              refine join_ (σ := Nat) 2 #[true, true, true, true, true, true, true, true, true, true, true, true, true, true, true, true, true, true, true, true, true, true, true, true, true, false, false] (fun s_ => [(70, .agg #[.int .i64 t289, .int .i64 t290, .int .i64 t291]), (72, .tuple #[.agg #[.int .i64 t292, .int .i64 t293, .int .i64 t294, .int .i64 t295, .int .i64 t296, .int .i64 t297, .int .i64 t298, .int .i64 t299, .bool t300, .int .i64 t301], .bool false]), (14, .pointer (some ⟨s_, 0, none⟩)), (51, .tuple #[.agg #[.int .i64 t292, .int .i64 t293, .int .i64 t294, .int .i64 t295, .int .i64 t296, .int .i64 t297, .int .i64 t298, .int .i64 t299, .bool t300, .int .i64 t301], .bool false]), (73, .agg #[.int .i64 t292, .int .i64 t293, .int .i64 t294, .int .i64 t295, .int .i64 t296, .int .i64 t297, .int .i64 t298, .int .i64 t299, .bool t300, .int .i64 t301]), (74, .bool false)]) (fun s_ w' => (w'.cell? (ad286.add ((ji17)).toNat) = some (.int .u8 (rd l2 (ji17))) ∧ w'.cell? (ad286.add ((ji20)).toNat) = some (.int .u8 (rd l2 (ji20))) ∧ w'.cell? (ad286.add ((ji23)).toNat) = some (.int .u8 (rd l2 (ji23)))) ∧ (Kd.R (Kd.int .i64) 3 w' w.heap.size (fun k_ => some k_ ≠ (v284 : Value).ownBlock) (.slice Ao14 t280.length co14) t280) ∧ (Kd.R (Kd.int .i64) 3 w' w.heap.size (fun k_ => some k_ ≠ (.slice Ao14 t280.length co14 : Value).ownBlock) v284 t283) ∧ (Kd.R k31 31 w' w.heap.size (fun k_ => k_ ≠ s_) u12 x12_2) ∧ (w'.heap[s_]? = some (.cells #[.int .i64 0, .int .i64 0, .int .i64 0, .int .i64 0, .int .i64 0, .int .i64 0, .int .i64 0, .int .i64 0, .bool false, .int .i64 0] 31 (0, 0))) ∧ (w.heap.size ≤ s_) ∧ (w.heap.size ≤ s_) ∧ (Below w.heap.size w w')) ?_ ?_
              rotate_left
              ·
               intro hCont
               refine two_ (i := 18) (j := 24) (Ni := some 70) (Nj := some 14) #[true, true, true, true, true, true, true, true, true, true, true, true, true, true, true, true, true, true, true, true, false, false, false, false, false, false, false] #[true, true, true, true, true, true, true, true, true, true, true, true, true, true, true, true, true, true, false, true, false, false, false, false, true, false, false] rfl rfl rfl rfl (two_of HT_.out (by kernel_rfl)) (by decide) (by decide) (fun K hK => ?_) (fun K hK => ?_)
               ·
                skip
                refine goes_ Try.func11 (by kernel_rfl) rfl #[.int .u8 (rd l2 (ji17)), .int .u8 (rd l2 (ji20)), .int .u8 (rd l2 (ji23)), .int .i64 (2 + ((l1.length : Int) % 14))] (by rfl) rfl rfl (by (try simp only [List.map_toArray, List.map_cons, List.map_nil]); first | done | (simp only [hji17, hji20, hji23]; rfl) | rfl | (simp only [List.length_drop, List.length_take]; rfl)) ?_
                with_reducible refine (warplaw4_op.calls (rd l2 (ji17)) (rd l2 (ji20)) (rd l2 (ji23)) (2 + ((l1.length : Int) % 14)) t289 t290 t291 _ A26.out).mono ?_
                rintro e w48 ⟨rfl, hb⟩
                refine ⟨_, rfl, ?_⟩
                have n0_ := Aside0.mk (Kd.R_below (by (with_reducible repeat (first | apply Kd.R_alloc | apply Kd.R_drewN | apply Kd.R_drew)); exact HO_10.out) hb)
                have n1_ := Aside0.mk (Kd.R_below (by (with_reducible repeat (first | apply Kd.R_alloc | apply Kd.R_drewN | apply Kd.R_drew)); exact HO_11.out) hb)
                have n2_ := Aside0.mk (Kd.R_below (by (with_reducible repeat (first | apply Kd.R_alloc | apply Kd.R_drewN | apply Kd.R_drew)); exact HO_12.out) hb)
                have n3_ := Aside0.mk (below_step (by repeat (first | (with_reducible first | exact HB.out | apply below_alloc | apply pw_below_drewN | apply below_drew1) | exact HB.out)) hb)
                clear HO_10
                clear HO_11
                clear HO_12
                clear HB
                have HO_10 := n0_
                have HO_11 := n1_
                have HO_12 := n2_
                have HB := n3_
                clear n0_ n1_ n2_ n3_
                (try clear hb)
                (try clear hb2)
                (try clear hk)
                (try clear hi)
                refine hK.out _ _ ⟨((HB.out.cell (World.block_lt_of_cell? w _ hw286_0)).trans hw286_0), ((HB.out.cell (World.block_lt_of_cell? w _ hw287_0)).trans hw287_0), ((HB.out.cell (World.block_lt_of_cell? w _ hw288_0)).trans hw288_0)⟩ (fun hHeld => ?_)
                clear hK K
                refine norm_ (a' := ?_) ?_ ?_
                rotate_left
                ·
                 show Act.put _ (some 70) _ = _
                 simp only [Act.put, List.setIfInBounds_toArray, List.set_cons_zero, List.set_cons_succ, i64_w, i32_w]
                 rfl
                refine two_ (i := 20) (j := 24) (Ni := some 72) (Nj := some 14) #[true, true, true, true, true, true, true, true, true, true, true, true, true, true, true, true, true, true, true, true, true, false, false, false, false, false, false] #[true, true, true, true, true, true, true, true, true, true, true, true, true, true, true, true, true, true, true, true, false, false, false, false, true, false, false] rfl rfl rfl rfl (two_of HT_.out (by kernel_rfl)) (by decide) (by decide) (fun K hK => ?_) (fun K hK => ?_)
                ·
                 skip
                 refine goes_ Try.func12 (by kernel_rfl) rfl #[.agg #[.int .i64 t289, .int .i64 t290, .int .i64 t291], .int .i64 (2 + ((l1.length : Int) % 14))] (by rfl) rfl rfl (by (try simp only [List.map_toArray, List.map_cons, List.map_nil]); first | done | rfl | (simp only [List.length_drop, List.length_take]; rfl)) ?_
                 with_reducible refine (cuf_Begin.calls t289 t290 t291 (2 + ((l1.length : Int) % 14)) t292 t293 t294 t295 t296 t297 t298 t299 t300 t301 false _ A27.out).mono ?_
                 rintro e w49 ⟨rfl, hb⟩
                 refine ⟨_, rfl, ?_⟩
                 have n0_ := Aside0.mk (Kd.R_below (by (with_reducible repeat (first | apply Kd.R_alloc | apply Kd.R_drewN | apply Kd.R_drew)); exact HO_10.out) hb)
                 have n1_ := Aside0.mk (Kd.R_below (by (with_reducible repeat (first | apply Kd.R_alloc | apply Kd.R_drewN | apply Kd.R_drew)); exact HO_11.out) hb)
                 have n2_ := Aside0.mk (Kd.R_below (by (with_reducible repeat (first | apply Kd.R_alloc | apply Kd.R_drewN | apply Kd.R_drew)); exact HO_12.out) hb)
                 have n3_ := Aside0.mk (below_step (by repeat (first | (with_reducible first | exact HB.out | apply below_alloc | apply pw_below_drewN | apply below_drew1) | exact HB.out)) hb)
                 clear HO_10
                 clear HO_11
                 clear HO_12
                 clear HB
                 have HO_10 := n0_
                 have HO_11 := n1_
                 have HO_12 := n2_
                 have HB := n3_
                 clear n0_ n1_ n2_ n3_
                 (try clear hb)
                 (try clear hb2)
                 (try clear hk)
                 (try clear hi)
                 refine hK.out _ _ ⟨((HB.out.cell (World.block_lt_of_cell? w _ hw286_0)).trans hw286_0), ((HB.out.cell (World.block_lt_of_cell? w _ hw287_0)).trans hw287_0), ((HB.out.cell (World.block_lt_of_cell? w _ hw288_0)).trans hw288_0)⟩ (fun hHeld => ?_)
                 clear hK K
                 refine norm_ (a' := ?_) ?_ ?_
                 rotate_left
                 ·
                  show Act.put _ (some 72) _ = _
                  simp only [Act.put, List.setIfInBounds_toArray, List.set_cons_zero, List.set_cons_succ, i64_w, i32_w]
                  rfl
                 refine pure_ (i := 21) (N := some 51) (v := ?_) (a' := ?_) #[true, true, true, true, true, true, true, true, true, true, true, true, true, true, true, true, true, true, true, true, true, true, false, false, false, false, false] rfl rfl (any_of HT_.out (by kernel_rfl)) (fun _ _ _ h => h) (Or.inl ⟨by rfl, ?_⟩) ?_ ?_
                 rotate_left
                 ·
                  intro w'
                  go_simp
                  with_reducible rfl
                 rotate_left
                 ·
                  simp only [Act.put, List.setIfInBounds_toArray, List.set_cons_zero, List.set_cons_succ, i64_w, i32_w]
                  rfl
                 refine pure_ (i := 22) (N := some 73) (v := ?_) (a' := ?_) #[true, true, true, true, true, true, true, true, true, true, true, true, true, true, true, true, true, true, true, true, true, true, true, false, false, false, false] rfl rfl (any_of HT_.out (by kernel_rfl)) (fun _ _ _ h => h) (Or.inl ⟨by rfl, ?_⟩) ?_ ?_
                 rotate_left
                 ·
                  intro w'
                  go_simp
                  with_reducible rfl
                 rotate_left
                 ·
                  simp only [Act.put, List.setIfInBounds_toArray, List.set_cons_zero, List.set_cons_succ, i64_w, i32_w]
                  rfl
                 refine pure_ (i := 23) (N := some 74) (v := ?_) (a' := ?_) #[true, true, true, true, true, true, true, true, true, true, true, true, true, true, true, true, true, true, true, true, true, true, true, true, false, false, false] rfl rfl (any_of HT_.out (by kernel_rfl)) (fun _ _ _ h => h) (Or.inl ⟨by rfl, ?_⟩) ?_ ?_
                 rotate_left
                 ·
                  intro w'
                  go_simp
                  with_reducible rfl
                 rotate_left
                 ·
                  simp only [Act.put, List.setIfInBounds_toArray, List.set_cons_zero, List.set_cons_succ, i64_w, i32_w]
                  rfl
                 refine one_ (i := 24) (N := some 14) #[true, true, true, true, true, true, true, true, true, true, true, true, true, true, true, true, true, true, true, true, true, true, true, true, true, false, false] rfl rfl (one_of HT_.out (by kernel_rfl)) (by decide) (fun K hK => ?_)
                 refine box_step ?hg (N := 14) ?hd (cs := #[.int .i64 0, .int .i64 0, .int .i64 0, .int .i64 0, .int .i64 0, .int .i64 0, .int .i64 0, .int .i64 0, .bool false, .int .i64 0]) (t := 31) ?hr ?_; (case hd => rfl); (case hg => rfl); (case hr => first | (go_simp; done) | (go_simp; rfl))
                 intro gb303 hg w50 hbox hb
                 have n0_ := Aside0.mk (Kd.R_below (by (with_reducible repeat (first | apply Kd.R_alloc | apply Kd.R_drewN | apply Kd.R_drew)); exact HO_10.out) hb)
                 have n1_ := Aside0.mk (Kd.R_below (by (with_reducible repeat (first | apply Kd.R_alloc | apply Kd.R_drewN | apply Kd.R_drew)); exact HO_11.out) hb)
                 have n2_ := Aside0.mk (Kd.R_below (Kd.R_elderB (by (with_reducible repeat (first | apply Kd.R_alloc | apply Kd.R_drewN | apply Kd.R_drew)); exact HO_12.out) gb303 (Nat.le_of_eq hg.symm)) hb)
                 have n3_ := Aside0.mk (below_step (by repeat (first | (with_reducible first | exact HB.out | apply below_alloc | apply pw_below_drewN | apply below_drew1) | exact HB.out)) hb)
                 have n4_ := Aside0.mk (hbox)
                 have n5_ := Aside0.mk ((by rw [hg]; exact (below_size (by repeat (first | (with_reducible first | exact HB.out | apply below_alloc | apply pw_below_drewN | apply below_drew1) | exact HB.out))) : w.heap.size ≤ gb303))
                 have n6_ := Aside0.mk ((by rw [hg]; exact (below_size (by repeat (first | (with_reducible first | exact HB.out | apply below_alloc | apply pw_below_drewN | apply below_drew1) | exact HB.out))) : w.heap.size ≤ gb303))
                 clear HO_10
                 clear HO_11
                 clear HO_12
                 clear HB
                 have HO_10 := n0_
                 have HO_11 := n1_
                 have HO_12 := n2_
                 have HB := n3_
                 have BK303 := n4_
                 have GW303 := n5_
                 have GE303 := n6_
                 clear n0_ n1_ n2_ n3_ n4_ n5_ n6_
                 clear hb hbox hg
                 refine hK.out _ _ ⟨((HB.out.cell (World.block_lt_of_cell? w _ hw286_0)).trans hw286_0), ((HB.out.cell (World.block_lt_of_cell? w _ hw287_0)).trans hw287_0), ((HB.out.cell (World.block_lt_of_cell? w _ hw288_0)).trans hw288_0)⟩ (fun hHeld => ?_)
                 clear hK K
                 refine norm_ (a' := ?_) ?_ ?_
                 rotate_left
                 ·
                  show Act.put _ (some 14) _ = _
                  simp only [Act.put, List.setIfInBounds_toArray, List.set_cons_zero, List.set_cons_succ, i64_w, i32_w]
                  rfl
                 exact norm_ (by simp only [putAll, Act.put, List.setIfInBounds_toArray, List.set_cons_zero, List.set_cons_succ]) (hCont (gb303) _ ⟨hHeld, (by (with_reducible repeat (first | apply Kd.R_alloc | apply Kd.R_drewN | apply Kd.R_drew)); exact HO_10.out), (by (with_reducible repeat (first | apply Kd.R_alloc | apply Kd.R_drewN | apply Kd.R_drew)); exact HO_11.out), (by (with_reducible repeat (first | apply Kd.R_alloc | apply Kd.R_drewN | apply Kd.R_drew)); exact Kd.R_mono HO_12.out (fun _ hk => hk.2)), (by (with_reducible repeat (first | refine blk_drewN ?_ _ | refine blk_drew ?_ | refine blk_alloc ?_ _)); exact BK303.out), GW303.out, GE303.out, (by repeat (first | (with_reducible first | exact HB.out | apply below_alloc | apply pw_below_drewN | apply below_drew1 | refine below_set ?_ GE303.out) | exact HB.out))⟩)
                ·
                 skip
                 refine box_step ?hg (N := 14) ?hd (cs := #[.int .i64 0, .int .i64 0, .int .i64 0, .int .i64 0, .int .i64 0, .int .i64 0, .int .i64 0, .int .i64 0, .bool false, .int .i64 0]) (t := 31) ?hr ?_; (case hd => rfl); (case hg => rfl); (case hr => first | (go_simp; done) | (go_simp; rfl))
                 intro gb303 hg w49 hbox hb
                 have n0_ := Aside0.mk (Kd.R_below (by (with_reducible repeat (first | apply Kd.R_alloc | apply Kd.R_drewN | apply Kd.R_drew)); exact HO_10.out) hb)
                 have n1_ := Aside0.mk (Kd.R_below (by (with_reducible repeat (first | apply Kd.R_alloc | apply Kd.R_drewN | apply Kd.R_drew)); exact HO_11.out) hb)
                 have n2_ := Aside0.mk (Kd.R_below (Kd.R_elderB (by (with_reducible repeat (first | apply Kd.R_alloc | apply Kd.R_drewN | apply Kd.R_drew)); exact HO_12.out) gb303 (Nat.le_of_eq hg.symm)) hb)
                 have n3_ := Aside0.mk (below_step (by repeat (first | (with_reducible first | exact HB.out | apply below_alloc | apply pw_below_drewN | apply below_drew1) | exact HB.out)) hb)
                 have n4_ := Aside0.mk (hbox)
                 have n5_ := Aside0.mk ((by rw [hg]; exact (below_size (by repeat (first | (with_reducible first | exact HB.out | apply below_alloc | apply pw_below_drewN | apply below_drew1) | exact HB.out))) : w.heap.size ≤ gb303))
                 have n6_ := Aside0.mk ((by rw [hg]; exact (below_size (by repeat (first | (with_reducible first | exact HB.out | apply below_alloc | apply pw_below_drewN | apply below_drew1) | exact HB.out))) : w.heap.size ≤ gb303))
                 clear HO_10
                 clear HO_11
                 clear HO_12
                 clear HB
                 have HO_10 := n0_
                 have HO_11 := n1_
                 have HO_12 := n2_
                 have HB := n3_
                 have BK303 := n4_
                 have GW303 := n5_
                 have GE303 := n6_
                 clear n0_ n1_ n2_ n3_ n4_ n5_ n6_
                 clear hb hbox hg
                 refine hK.out _ _ ⟨((HB.out.cell (World.block_lt_of_cell? w _ hw286_0)).trans hw286_0), ((HB.out.cell (World.block_lt_of_cell? w _ hw287_0)).trans hw287_0), ((HB.out.cell (World.block_lt_of_cell? w _ hw288_0)).trans hw288_0)⟩ (fun hHeld => ?_)
                 clear hK K
                 refine norm_ (a' := ?_) ?_ ?_
                 rotate_left
                 ·
                  show Act.put _ (some 14) _ = _
                  simp only [Act.put, List.setIfInBounds_toArray, List.set_cons_zero, List.set_cons_succ, i64_w, i32_w]
                  rfl
                 refine one_ (i := 20) (N := some 72) #[true, true, true, true, true, true, true, true, true, true, true, true, true, true, true, true, true, true, true, true, true, false, false, false, true, false, false] rfl rfl (one_of HT_.out (by kernel_rfl)) (by decide) (fun K hK => ?_)
                 refine goes_ Try.func12 (by kernel_rfl) rfl #[.agg #[.int .i64 t289, .int .i64 t290, .int .i64 t291], .int .i64 (2 + ((l1.length : Int) % 14))] (by rfl) rfl rfl (by (try simp only [List.map_toArray, List.map_cons, List.map_nil]); first | done | rfl | (simp only [List.length_drop, List.length_take]; rfl)) ?_
                 with_reducible refine (cuf_Begin.calls t289 t290 t291 (2 + ((l1.length : Int) % 14)) t292 t293 t294 t295 t296 t297 t298 t299 t300 t301 false _ A27.out).mono ?_
                 rintro e w50 ⟨rfl, hb⟩
                 refine ⟨_, rfl, ?_⟩
                 have n0_ := Aside0.mk (Kd.R_below (by (with_reducible repeat (first | apply Kd.R_alloc | apply Kd.R_drewN | apply Kd.R_drew)); exact HO_10.out) hb)
                 have n1_ := Aside0.mk (Kd.R_below (by (with_reducible repeat (first | apply Kd.R_alloc | apply Kd.R_drewN | apply Kd.R_drew)); exact HO_11.out) hb)
                 have n2_ := Aside0.mk (Kd.R_below (by (with_reducible repeat (first | apply Kd.R_alloc | apply Kd.R_drewN | apply Kd.R_drew)); exact HO_12.out) hb)
                 have n3_ := Aside0.mk (blk_below (g := gb303) (o := .cells #[.int .i64 0, .int .i64 0, .int .i64 0, .int .i64 0, .int .i64 0, .int .i64 0, .int .i64 0, .int .i64 0, .bool false, .int .i64 0] 31 (0, 0)) (by (with_reducible repeat (first | refine blk_drewN ?_ _ | refine blk_drew ?_ | refine blk_alloc ?_ _)); exact BK303.out) hb)
                 have n4_ := Aside0.mk (below_step (by repeat (first | (with_reducible first | exact HB.out | apply below_alloc | apply pw_below_drewN | apply below_drew1 | refine below_set ?_ GE303.out) | exact HB.out)) hb)
                 clear HO_10
                 clear HO_11
                 clear HO_12
                 clear BK303
                 clear HB
                 have HO_10 := n0_
                 have HO_11 := n1_
                 have HO_12 := n2_
                 have BK303 := n3_
                 have HB := n4_
                 clear n0_ n1_ n2_ n3_ n4_
                 (try clear hb)
                 (try clear hb2)
                 (try clear hk)
                 (try clear hi)
                 refine hK.out _ _ ⟨((HB.out.cell (World.block_lt_of_cell? w _ hw286_0)).trans hw286_0), ((HB.out.cell (World.block_lt_of_cell? w _ hw287_0)).trans hw287_0), ((HB.out.cell (World.block_lt_of_cell? w _ hw288_0)).trans hw288_0)⟩ (fun hHeld => ?_)
                 clear hK K
                 refine norm_ (a' := ?_) ?_ ?_
                 rotate_left
                 ·
                  show Act.put _ (some 72) _ = _
                  simp only [Act.put, List.setIfInBounds_toArray, List.set_cons_zero, List.set_cons_succ, i64_w, i32_w]
                  rfl
                 refine pure_ (i := 21) (N := some 51) (v := ?_) (a' := ?_) #[true, true, true, true, true, true, true, true, true, true, true, true, true, true, true, true, true, true, true, true, true, true, false, false, true, false, false] rfl rfl (any_of HT_.out (by kernel_rfl)) (fun _ _ _ h => h) (Or.inl ⟨by rfl, ?_⟩) ?_ ?_
                 rotate_left
                 ·
                  intro w'
                  go_simp
                  with_reducible rfl
                 rotate_left
                 ·
                  simp only [Act.put, List.setIfInBounds_toArray, List.set_cons_zero, List.set_cons_succ, i64_w, i32_w]
                  rfl
                 refine pure_ (i := 22) (N := some 73) (v := ?_) (a' := ?_) #[true, true, true, true, true, true, true, true, true, true, true, true, true, true, true, true, true, true, true, true, true, true, true, false, true, false, false] rfl rfl (any_of HT_.out (by kernel_rfl)) (fun _ _ _ h => h) (Or.inl ⟨by rfl, ?_⟩) ?_ ?_
                 rotate_left
                 ·
                  intro w'
                  go_simp
                  with_reducible rfl
                 rotate_left
                 ·
                  simp only [Act.put, List.setIfInBounds_toArray, List.set_cons_zero, List.set_cons_succ, i64_w, i32_w]
                  rfl
                 refine pure_ (i := 23) (N := some 74) (v := ?_) (a' := ?_) #[true, true, true, true, true, true, true, true, true, true, true, true, true, true, true, true, true, true, true, true, true, true, true, true, true, false, false] rfl rfl (any_of HT_.out (by kernel_rfl)) (fun _ _ _ h => h) (Or.inl ⟨by rfl, ?_⟩) ?_ ?_
                 rotate_left
                 ·
                  intro w'
                  go_simp
                  with_reducible rfl
                 rotate_left
                 ·
                  simp only [Act.put, List.setIfInBounds_toArray, List.set_cons_zero, List.set_cons_succ, i64_w, i32_w]
                  rfl
                 exact norm_ (by simp only [putAll, Act.put, List.setIfInBounds_toArray, List.set_cons_zero, List.set_cons_succ]) (hCont (gb303) _ ⟨hHeld, (by (with_reducible repeat (first | apply Kd.R_alloc | apply Kd.R_drewN | apply Kd.R_drew)); exact HO_10.out), (by (with_reducible repeat (first | apply Kd.R_alloc | apply Kd.R_drewN | apply Kd.R_drew)); exact HO_11.out), (by (with_reducible repeat (first | apply Kd.R_alloc | apply Kd.R_drewN | apply Kd.R_drew)); exact Kd.R_mono HO_12.out (fun _ hk => hk.2)), (by (with_reducible repeat (first | refine blk_drewN ?_ _ | refine blk_drew ?_ | refine blk_alloc ?_ _)); exact BK303.out), GW303.out, GE303.out, (by repeat (first | (with_reducible first | exact HB.out | apply below_alloc | apply pw_below_drewN | apply below_drew1 | refine below_set ?_ GE303.out) | exact HB.out))⟩)
               ·
                skip
                refine box_step ?hg (N := 14) ?hd (cs := #[.int .i64 0, .int .i64 0, .int .i64 0, .int .i64 0, .int .i64 0, .int .i64 0, .int .i64 0, .int .i64 0, .bool false, .int .i64 0]) (t := 31) ?hr ?_; (case hd => rfl); (case hg => rfl); (case hr => first | (go_simp; done) | (go_simp; rfl))
                intro gb303 hg w48 hbox hb
                have n0_ := Aside0.mk (Kd.R_below (by (with_reducible repeat (first | apply Kd.R_alloc | apply Kd.R_drewN | apply Kd.R_drew)); exact HO_10.out) hb)
                have n1_ := Aside0.mk (Kd.R_below (by (with_reducible repeat (first | apply Kd.R_alloc | apply Kd.R_drewN | apply Kd.R_drew)); exact HO_11.out) hb)
                have n2_ := Aside0.mk (Kd.R_below (Kd.R_elderB (by (with_reducible repeat (first | apply Kd.R_alloc | apply Kd.R_drewN | apply Kd.R_drew)); exact HO_12.out) gb303 (Nat.le_of_eq hg.symm)) hb)
                have n3_ := Aside0.mk (below_step (by repeat (first | (with_reducible first | exact HB.out | apply below_alloc | apply pw_below_drewN | apply below_drew1) | exact HB.out)) hb)
                have n4_ := Aside0.mk (hbox)
                have n5_ := Aside0.mk ((by rw [hg]; exact (below_size (by repeat (first | (with_reducible first | exact HB.out | apply below_alloc | apply pw_below_drewN | apply below_drew1) | exact HB.out))) : w.heap.size ≤ gb303))
                have n6_ := Aside0.mk ((by rw [hg]; exact (below_size (by repeat (first | (with_reducible first | exact HB.out | apply below_alloc | apply pw_below_drewN | apply below_drew1) | exact HB.out))) : w.heap.size ≤ gb303))
                clear HO_10
                clear HO_11
                clear HO_12
                clear HB
                have HO_10 := n0_
                have HO_11 := n1_
                have HO_12 := n2_
                have HB := n3_
                have BK303 := n4_
                have GW303 := n5_
                have GE303 := n6_
                clear n0_ n1_ n2_ n3_ n4_ n5_ n6_
                clear hb hbox hg
                refine hK.out _ _ ⟨((HB.out.cell (World.block_lt_of_cell? w _ hw286_0)).trans hw286_0), ((HB.out.cell (World.block_lt_of_cell? w _ hw287_0)).trans hw287_0), ((HB.out.cell (World.block_lt_of_cell? w _ hw288_0)).trans hw288_0)⟩ (fun hHeld => ?_)
                clear hK K
                refine norm_ (a' := ?_) ?_ ?_
                rotate_left
                ·
                 show Act.put _ (some 14) _ = _
                 simp only [Act.put, List.setIfInBounds_toArray, List.set_cons_zero, List.set_cons_succ, i64_w, i32_w]
                 rfl
                refine one_ (i := 18) (N := some 70) #[true, true, true, true, true, true, true, true, true, true, true, true, true, true, true, true, true, true, true, true, false, false, false, false, true, false, false] rfl rfl (one_of HT_.out (by kernel_rfl)) (by decide) (fun K hK => ?_)
                refine goes_ Try.func11 (by kernel_rfl) rfl #[.int .u8 (rd l2 (ji17)), .int .u8 (rd l2 (ji20)), .int .u8 (rd l2 (ji23)), .int .i64 (2 + ((l1.length : Int) % 14))] (by rfl) rfl rfl (by (try simp only [List.map_toArray, List.map_cons, List.map_nil]); first | done | (simp only [hji17, hji20, hji23]; rfl) | rfl | (simp only [List.length_drop, List.length_take]; rfl)) ?_
                with_reducible refine (warplaw4_op.calls (rd l2 (ji17)) (rd l2 (ji20)) (rd l2 (ji23)) (2 + ((l1.length : Int) % 14)) t289 t290 t291 _ A26.out).mono ?_
                rintro e w49 ⟨rfl, hb⟩
                refine ⟨_, rfl, ?_⟩
                have n0_ := Aside0.mk (Kd.R_below (by (with_reducible repeat (first | apply Kd.R_alloc | apply Kd.R_drewN | apply Kd.R_drew)); exact HO_10.out) hb)
                have n1_ := Aside0.mk (Kd.R_below (by (with_reducible repeat (first | apply Kd.R_alloc | apply Kd.R_drewN | apply Kd.R_drew)); exact HO_11.out) hb)
                have n2_ := Aside0.mk (Kd.R_below (by (with_reducible repeat (first | apply Kd.R_alloc | apply Kd.R_drewN | apply Kd.R_drew)); exact HO_12.out) hb)
                have n3_ := Aside0.mk (blk_below (g := gb303) (o := .cells #[.int .i64 0, .int .i64 0, .int .i64 0, .int .i64 0, .int .i64 0, .int .i64 0, .int .i64 0, .int .i64 0, .bool false, .int .i64 0] 31 (0, 0)) (by (with_reducible repeat (first | refine blk_drewN ?_ _ | refine blk_drew ?_ | refine blk_alloc ?_ _)); exact BK303.out) hb)
                have n4_ := Aside0.mk (below_step (by repeat (first | (with_reducible first | exact HB.out | apply below_alloc | apply pw_below_drewN | apply below_drew1 | refine below_set ?_ GE303.out) | exact HB.out)) hb)
                clear HO_10
                clear HO_11
                clear HO_12
                clear BK303
                clear HB
                have HO_10 := n0_
                have HO_11 := n1_
                have HO_12 := n2_
                have BK303 := n3_
                have HB := n4_
                clear n0_ n1_ n2_ n3_ n4_
                (try clear hb)
                (try clear hb2)
                (try clear hk)
                (try clear hi)
                refine hK.out _ _ ⟨((HB.out.cell (World.block_lt_of_cell? w _ hw286_0)).trans hw286_0), ((HB.out.cell (World.block_lt_of_cell? w _ hw287_0)).trans hw287_0), ((HB.out.cell (World.block_lt_of_cell? w _ hw288_0)).trans hw288_0)⟩ (fun hHeld => ?_)
                clear hK K
                refine norm_ (a' := ?_) ?_ ?_
                rotate_left
                ·
                 show Act.put _ (some 70) _ = _
                 simp only [Act.put, List.setIfInBounds_toArray, List.set_cons_zero, List.set_cons_succ, i64_w, i32_w]
                 rfl
                refine one_ (i := 20) (N := some 72) #[true, true, true, true, true, true, true, true, true, true, true, true, true, true, true, true, true, true, true, true, true, false, false, false, true, false, false] rfl rfl (one_of HT_.out (by kernel_rfl)) (by decide) (fun K hK => ?_)
                refine goes_ Try.func12 (by kernel_rfl) rfl #[.agg #[.int .i64 t289, .int .i64 t290, .int .i64 t291], .int .i64 (2 + ((l1.length : Int) % 14))] (by rfl) rfl rfl (by (try simp only [List.map_toArray, List.map_cons, List.map_nil]); first | done | rfl | (simp only [List.length_drop, List.length_take]; rfl)) ?_
                with_reducible refine (cuf_Begin.calls t289 t290 t291 (2 + ((l1.length : Int) % 14)) t292 t293 t294 t295 t296 t297 t298 t299 t300 t301 false _ A27.out).mono ?_
                rintro e w50 ⟨rfl, hb⟩
                refine ⟨_, rfl, ?_⟩
                have n0_ := Aside0.mk (Kd.R_below (by (with_reducible repeat (first | apply Kd.R_alloc | apply Kd.R_drewN | apply Kd.R_drew)); exact HO_10.out) hb)
                have n1_ := Aside0.mk (Kd.R_below (by (with_reducible repeat (first | apply Kd.R_alloc | apply Kd.R_drewN | apply Kd.R_drew)); exact HO_11.out) hb)
                have n2_ := Aside0.mk (Kd.R_below (by (with_reducible repeat (first | apply Kd.R_alloc | apply Kd.R_drewN | apply Kd.R_drew)); exact HO_12.out) hb)
                have n3_ := Aside0.mk (blk_below (g := gb303) (o := .cells #[.int .i64 0, .int .i64 0, .int .i64 0, .int .i64 0, .int .i64 0, .int .i64 0, .int .i64 0, .int .i64 0, .bool false, .int .i64 0] 31 (0, 0)) (by (with_reducible repeat (first | refine blk_drewN ?_ _ | refine blk_drew ?_ | refine blk_alloc ?_ _)); exact BK303.out) hb)
                have n4_ := Aside0.mk (below_step (by repeat (first | (with_reducible first | exact HB.out | apply below_alloc | apply pw_below_drewN | apply below_drew1 | refine below_set ?_ GE303.out) | exact HB.out)) hb)
                clear HO_10
                clear HO_11
                clear HO_12
                clear BK303
                clear HB
                have HO_10 := n0_
                have HO_11 := n1_
                have HO_12 := n2_
                have BK303 := n3_
                have HB := n4_
                clear n0_ n1_ n2_ n3_ n4_
                (try clear hb)
                (try clear hb2)
                (try clear hk)
                (try clear hi)
                refine hK.out _ _ ⟨((HB.out.cell (World.block_lt_of_cell? w _ hw286_0)).trans hw286_0), ((HB.out.cell (World.block_lt_of_cell? w _ hw287_0)).trans hw287_0), ((HB.out.cell (World.block_lt_of_cell? w _ hw288_0)).trans hw288_0)⟩ (fun hHeld => ?_)
                clear hK K
                refine norm_ (a' := ?_) ?_ ?_
                rotate_left
                ·
                 show Act.put _ (some 72) _ = _
                 simp only [Act.put, List.setIfInBounds_toArray, List.set_cons_zero, List.set_cons_succ, i64_w, i32_w]
                 rfl
                refine pure_ (i := 21) (N := some 51) (v := ?_) (a' := ?_) #[true, true, true, true, true, true, true, true, true, true, true, true, true, true, true, true, true, true, true, true, true, true, false, false, true, false, false] rfl rfl (any_of HT_.out (by kernel_rfl)) (fun _ _ _ h => h) (Or.inl ⟨by rfl, ?_⟩) ?_ ?_
                rotate_left
                ·
                 intro w'
                 go_simp
                 with_reducible rfl
                rotate_left
                ·
                 simp only [Act.put, List.setIfInBounds_toArray, List.set_cons_zero, List.set_cons_succ, i64_w, i32_w]
                 rfl
                refine pure_ (i := 22) (N := some 73) (v := ?_) (a' := ?_) #[true, true, true, true, true, true, true, true, true, true, true, true, true, true, true, true, true, true, true, true, true, true, true, false, true, false, false] rfl rfl (any_of HT_.out (by kernel_rfl)) (fun _ _ _ h => h) (Or.inl ⟨by rfl, ?_⟩) ?_ ?_
                rotate_left
                ·
                 intro w'
                 go_simp
                 with_reducible rfl
                rotate_left
                ·
                 simp only [Act.put, List.setIfInBounds_toArray, List.set_cons_zero, List.set_cons_succ, i64_w, i32_w]
                 rfl
                refine pure_ (i := 23) (N := some 74) (v := ?_) (a' := ?_) #[true, true, true, true, true, true, true, true, true, true, true, true, true, true, true, true, true, true, true, true, true, true, true, true, true, false, false] rfl rfl (any_of HT_.out (by kernel_rfl)) (fun _ _ _ h => h) (Or.inl ⟨by rfl, ?_⟩) ?_ ?_
                rotate_left
                ·
                 intro w'
                 go_simp
                 with_reducible rfl
                rotate_left
                ·
                 simp only [Act.put, List.setIfInBounds_toArray, List.set_cons_zero, List.set_cons_succ, i64_w, i32_w]
                 rfl
                exact norm_ (by simp only [putAll, Act.put, List.setIfInBounds_toArray, List.set_cons_zero, List.set_cons_succ]) (hCont (gb303) _ ⟨hHeld, (by (with_reducible repeat (first | apply Kd.R_alloc | apply Kd.R_drewN | apply Kd.R_drew)); exact HO_10.out), (by (with_reducible repeat (first | apply Kd.R_alloc | apply Kd.R_drewN | apply Kd.R_drew)); exact HO_11.out), (by (with_reducible repeat (first | apply Kd.R_alloc | apply Kd.R_drewN | apply Kd.R_drew)); exact Kd.R_mono HO_12.out (fun _ hk => hk.2)), (by (with_reducible repeat (first | refine blk_drewN ?_ _ | refine blk_drew ?_ | refine blk_alloc ?_ _)); exact BK303.out), GW303.out, GE303.out, (by repeat (first | (with_reducible first | exact HB.out | apply below_alloc | apply pw_below_drewN | apply below_drew1 | refine below_set ?_ GE303.out) | exact HB.out))⟩)
              rintro gb303 w51 ⟨hS_, h0_, h1_, h2_, h3_, h4_, h5_, h6_⟩
              have n0_ : Aside0 (Kd.R (Kd.int .i64) 3 w51 w.heap.size (fun k_ => some k_ ≠ (v284 : Value).ownBlock) (.slice Ao14 t280.length co14) t280) := ⟨h0_⟩
              have n1_ : Aside0 (Kd.R (Kd.int .i64) 3 w51 w.heap.size (fun k_ => some k_ ≠ (.slice Ao14 t280.length co14 : Value).ownBlock) v284 t283) := ⟨h1_⟩
              have n2_ : Aside0 (Kd.R k31 31 w51 w.heap.size (fun k_ => k_ ≠ gb303) u12 x12_2) := ⟨h2_⟩
              have n3_ : Aside0 (w51.heap[gb303]? = some (.cells #[.int .i64 0, .int .i64 0, .int .i64 0, .int .i64 0, .int .i64 0, .int .i64 0, .int .i64 0, .int .i64 0, .bool false, .int .i64 0] 31 (0, 0))) := ⟨h3_⟩
              have n4_ : Aside0 (w.heap.size ≤ gb303) := ⟨h4_⟩
              have n5_ : Aside0 (w.heap.size ≤ gb303) := ⟨h5_⟩
              have n6_ : Aside0 (Below w.heap.size w w51) := ⟨h6_⟩
              clear HO_10
              clear HO_11
              clear HO_12
              clear HB
              clear h0_ h1_ h2_ h3_ h4_ h5_ h6_
              have HO_10 := n0_
              have HO_11 := n1_
              have HO_12 := n2_
              have BK303 := n3_
              have GW303 := n4_
              have GE303 := n5_
              have HB := n6_
              clear n0_ n1_ n2_ n3_ n4_ n5_ n6_
              have hHeld : w51.cell? (ad286.add ((ji17)).toNat) = some (.int .u8 (rd l2 (ji17))) ∧ w51.cell? (ad286.add ((ji20)).toNat) = some (.int .u8 (rd l2 (ji20))) ∧ w51.cell? (ad286.add ((ji23)).toNat) = some (.int .u8 (rd l2 (ji23))) := hS_
              refine norm_ (a' := ?_) ?_ ?_
              rotate_left
              ·
               simp only [putAll, Act.put, List.setIfInBounds_toArray, List.set_cons_zero, List.set_cons_succ]
               rfl
              refine one_ (i := 25) (N := none) #[true, true, true, true, true, true, true, true, true, true, true, true, true, true, true, true, true, true, true, true, true, true, true, true, true, true, false] rfl rfl (one_of HT_.out (by kernel_rfl)) (by decide) (fun K hK => ?_)
              have hs52 : w51.cell? ⟨gb303, 0, none⟩ = some (.int .i64 0) := (blk_cell BK303.out 0).trans rfl
              have hfs52 := blk_frozen BK303.out 0
              have hs53 : w51.cell? ⟨gb303, 1, none⟩ = some (.int .i64 0) := (blk_cell BK303.out 1).trans rfl
              have hfs53 := blk_frozen BK303.out 1
              have hs54 : w51.cell? ⟨gb303, 2, none⟩ = some (.int .i64 0) := (blk_cell BK303.out 2).trans rfl
              have hfs54 := blk_frozen BK303.out 2
              have hs55 : w51.cell? ⟨gb303, 3, none⟩ = some (.int .i64 0) := (blk_cell BK303.out 3).trans rfl
              have hfs55 := blk_frozen BK303.out 3
              have hs56 : w51.cell? ⟨gb303, 4, none⟩ = some (.int .i64 0) := (blk_cell BK303.out 4).trans rfl
              have hfs56 := blk_frozen BK303.out 4
              have hs57 : w51.cell? ⟨gb303, 5, none⟩ = some (.int .i64 0) := (blk_cell BK303.out 5).trans rfl
              have hfs57 := blk_frozen BK303.out 5
              have hs58 : w51.cell? ⟨gb303, 6, none⟩ = some (.int .i64 0) := (blk_cell BK303.out 6).trans rfl
              have hfs58 := blk_frozen BK303.out 6
              have hs59 : w51.cell? ⟨gb303, 7, none⟩ = some (.int .i64 0) := (blk_cell BK303.out 7).trans rfl
              have hfs59 := blk_frozen BK303.out 7
              have hs60 : w51.cell? ⟨gb303, 8, none⟩ = some (.bool false) := (blk_cell BK303.out 8).trans rfl
              have hfs60 := blk_frozen BK303.out 8
              have hs61 : w51.cell? ⟨gb303, 9, none⟩ = some (.int .i64 0) := (blk_cell BK303.out 9).trans rfl
              have hfs61 := blk_frozen BK303.out 9
              refine skip_ (w1 := ?_) (by rfl) rfl ?_ ?_
              rotate_left
              ·
               go_simp
               rfl
              refine hK.out _ _ ⟨(by (iterate 10 refine (cell_far (p := ⟨gb303, _, none⟩) (by (first | (show (Addr.add _ _).block ≠ _; rw [add_block]) | rw [add_block] | skip); exact Nat.ne_of_lt (Nat.lt_of_lt_of_le (by have := World.block_lt_of_cell? _ _ hw286_0; first | rwa [add_block] at this | exact this) GW303.out)) _).trans ?_); exact hHeld.1), (by (iterate 10 refine (cell_far (p := ⟨gb303, _, none⟩) (by (first | (show (Addr.add _ _).block ≠ _; rw [add_block]) | rw [add_block] | skip); exact Nat.ne_of_lt (Nat.lt_of_lt_of_le (by have := World.block_lt_of_cell? _ _ hw287_0; first | rwa [add_block] at this | exact this) GW303.out)) _).trans ?_); exact hHeld.2.1), (by (iterate 10 refine (cell_far (p := ⟨gb303, _, none⟩) (by (first | (show (Addr.add _ _).block ≠ _; rw [add_block]) | rw [add_block] | skip); exact Nat.ne_of_lt (Nat.lt_of_lt_of_le (by have := World.block_lt_of_cell? _ _ hw288_0; first | rwa [add_block] at this | exact this) GW303.out)) _).trans ?_); exact hHeld.2.2)⟩ (fun hHeld => ?_)
              clear hK K
              refine pure_ (i := 26) (N := some 15) (v := ?_) (a' := ?_) #[true, true, true, true, true, true, true, true, true, true, true, true, true, true, true, true, true, true, true, true, true, true, true, true, true, true, true] rfl rfl (any_of HT_.out (by kernel_rfl)) (fun _ _ _ h => h) (Or.inl ⟨by rfl, ?_⟩) ?_ ?_
              rotate_left
              ·
               intro w'
               go_simp
               with_reducible rfl
              rotate_left
              ·
               simp only [Act.put, List.setIfInBounds_toArray, List.set_cons_zero, List.set_cons_succ, i64_w, i32_w]
               rfl
              refine done_ (done_of HT_.out (by kernel_rfl)) ?_
              try go_wp2
              go_ret
              exact ⟨by first | rfl | (simp [errW_none, errW_some] <;> rfl) | (simp only [← hji17, ← hji20, ← hji23]; first | rfl | (simp [errW_none, errW_some] <;> rfl)) | (simp [*, errW_none, errW_some] <;> rfl), by repeat (first | (with_reducible first | exact HB.out | apply below_alloc | apply pw_below_drewN | apply below_drew1 | refine below_set ?_ GE303.out) | exact HB.out)⟩
            ·
             rw [if_neg c25] at H
             exact absurd H (by simp)
           ·
            rw [if_neg c24] at H
            exact absurd H (by simp)
          ·
           rw [if_neg c22] at H
           exact absurd H (by simp)
         ·
          rw [if_neg c21] at H
          exact absurd H (by simp)
        ·
         rw [if_neg c19] at H
         exact absurd H (by simp)
       ·
        rw [if_neg c18] at H
        exact absurd H (by simp)
      ·
       rw [if_neg c16] at H
       have c16b0 : decide (x13_2 < 4) = false := decide_eq_false c16
       clear c16
       have H' := Aside0.mk H
       clear H
       go_wp2
       go_loopg [11, 16] k2 (fun kq v11 v16 w' => ∃ (x11_3 : List Int) (x12_3 : List (S31)) (x16_3 : Int), v16 = .int .i64 x16_3 ∧ Aside0 (warplaw4_CufRoots.l1 kq l3 (2 + ((l1.length : Int) % 14)) t280 x11_3 x12_3 x16_3 = some r) ∧ Aside0 (kq ≤ k2) ∧ Aside0 (Kd.R (Kd.int .i64) 3 w' w.heap.size (fun k_ => some k_ ≠ (v11 : Value).ownBlock) (.slice Ao14 t280.length co14) t280) ∧ Aside0 (Kd.R (Kd.int .i64) 3 w' w.heap.size (fun k_ => some k_ ≠ ((.slice Ao14 t280.length co14) : Value).ownBlock) v11 x11_3) ∧ Aside0 (Kd.R k31 31 w' w.heap.size (fun _ => True) u12 x12_3) ∧ Aside0 (Below w.heap.size w w'))
       case atStart => exact ⟨(t283), (x12_2), (0), (by first | rfl | (simp; done) | (simp [*]; done)), H', ⟨Nat.le_refl _⟩, ⟨by (with_reducible repeat (first | apply Kd.R_alloc | apply Kd.R_drewN | apply Kd.R_drew)); exact HO_10.out⟩, ⟨by (with_reducible repeat (first | apply Kd.R_alloc | apply Kd.R_drewN | apply Kd.R_drew)); exact HO_11.out⟩, ⟨by (with_reducible repeat (first | apply Kd.R_alloc | apply Kd.R_drewN | apply Kd.R_drew)); exact HO_12.out⟩, ⟨by repeat (first | (with_reducible first | exact HB.out | apply below_alloc | apply pw_below_drewN | apply below_drew1) | exact HB.out)⟩⟩
       case round =>
        clear H'
        (try clear c1); (try clear c2); (try clear p2); (try clear q2); (try clear hx2); (try clear c11); (try clear c12); (try clear c16); (try clear c16b0); (try clear c18); (try clear c19); (try clear c21); (try clear c22); (try clear c24); (try clear c25); (try clear p28); (try clear q28); (try clear hx28); (try clear hx286_0); (try clear hx287_0); (try clear hx288_0); (try clear p286); (try clear p287); (try clear p288); (try clear q286); (try clear q287); (try clear q288)
        obtain ⟨x11_3, x12_3, x16_3, rfl, HA, HK3, HO_10, HO_11, HO_12, HB⟩ := hrel
        cases gk with
        | zero => exact absurd HA.out (by simp [warplaw4_CufRoots.l1])
        | succ k3 =>
         have H := HA.out
         clear HA
         simp only [warplaw4_CufRoots.l1] at H
         by_cases c62 : x16_3 < (l3.length : Int)
         ·
          rw [if_pos c62] at H
          have c62b0 : decide (x16_3 < (l3.length : Int)) = true := decide_eq_true c62
          clear c62
          by_cases c63 : 0 ≤ x16_3
          ·
           rw [if_pos c63] at H
           have c63b0 : decide (0 ≤ x16_3) = true := decide_eq_true c63
           clear c63
           obtain ⟨ji64, hji64⟩ : ∃ j_ : Int, (Int.tmod (wrap64 (rd l3 x16_3)) 4) = j_ := ⟨_, rfl⟩
           replace H : (if 0 ≤ (ji64) then (if (ji64) < (x12_3.length : Int) then ((cuf_Step.f x11_3 t280 ((rd_T31 x12_3 (ji64)).f0.f0) ((rd_T31 x12_3 (ji64)).f0.f1) ((rd_T31 x12_3 (ji64)).f0.f2) ((rd_T31 x12_3 (ji64)).f1) ((rd_T31 x12_3 (ji64)).f2) ((rd_T31 x12_3 (ji64)).f3) ((rd_T31 x12_3 (ji64)).f4) ((rd_T31 x12_3 (ji64)).f5) ((rd_T31 x12_3 (ji64)).f6) ((rd_T31 x12_3 (ji64)).f7)).bind fun bt309 => ((warpref1_MayUp.f k3 bt309.1 t280).bind fun t323 => (if t323 = true then (warplaw4_CufRoots.j3 k3 l3 (2 + ((l1.length : Int) % 14)) t280 x11_3 x12_3 x16_3 ji64 bt309.1 ((bt309.1.length : Int) != (2 + ((l1.length : Int) % 14))) bt309.2.1 bt309.2.2.1 bt309.2.2.2.1 bt309.2.2.2.2.1 bt309.2.2.2.2.2.1 bt309.2.2.2.2.2.2.1 bt309.2.2.2.2.2.2.2.1 bt309.2.2.2.2.2.2.2.2.1 bt309.2.2.2.2.2.2.2.2.2.1 bt309.2.2.2.2.2.2.2.2.2.2) else (warplaw4_CufRoots.j3 k3 l3 (2 + ((l1.length : Int) % 14)) t280 x11_3 x12_3 x16_3 ji64 bt309.1 true bt309.2.1 bt309.2.2.1 bt309.2.2.2.1 bt309.2.2.2.2.1 bt309.2.2.2.2.2.1 bt309.2.2.2.2.2.2.1 bt309.2.2.2.2.2.2.2.1 bt309.2.2.2.2.2.2.2.2.1 bt309.2.2.2.2.2.2.2.2.2.1 bt309.2.2.2.2.2.2.2.2.2.2)))) else (none)) else (none)) = some r := by first | (rw [hji64] at H; exact H) | (simp only [hji64] at H ⊢; exact H)
           by_cases c65 : 0 ≤ (ji64)
           ·
            rw [if_pos c65] at H
            have c65b0 : decide (0 ≤ (ji64)) = true := decide_eq_true c65
            clear c65
            by_cases c66 : (ji64) < (x12_3.length : Int)
            ·
             rw [if_pos c66] at H
             have c66b0 : decide ((ji64) < (x12_3.length : Int)) = true := decide_eq_true c66
             clear c66
             replace H := Option.bind_eq_some_iff.mp H
             obtain ⟨⟨t309, t312, t313, t314, t315, t316, t317, t318, t319, t320, t321⟩, A670, H⟩ := H
             replace H : ((warpref1_MayUp.f k3 t309 t280).bind fun t323 => (if t323 = true then (warplaw4_CufRoots.j3 k3 l3 (2 + ((l1.length : Int) % 14)) t280 x11_3 x12_3 x16_3 ji64 t309 ((t309.length : Int) != (2 + ((l1.length : Int) % 14))) t312 t313 t314 t315 t316 t317 t318 t319 t320 t321) else (warplaw4_CufRoots.j3 k3 l3 (2 + ((l1.length : Int) % 14)) t280 x11_3 x12_3 x16_3 ji64 t309 true t312 t313 t314 t315 t316 t317 t318 t319 t320 t321))) = some r := H
             have A67 := Aside0.mk A670
             clear A670
             have HC68 := Aside0.mk H
             clear H
             have p307 : 0 ≤ (x16_3 : Int) := of_decide_eq_true (by first | (with_reducible assumption) | assumption)
             have q307 : x16_3 < (l3.length : Int) := of_decide_eq_true (by first | (with_reducible assumption) | assumption)
             obtain ⟨ad307, e307, hx307_0⟩ := Kd.at_int HR3.out x16_3 p307 q307
             cases e307
             replace hx307_0 := (HB.out.cell (World.block_lt_of_cell? w _ hx307_0)).trans hx307_0
             replace p307 := eq_true p307
             replace q307 := eq_true q307
             obtain ⟨Ao69, co69, eo69⟩ := Kd.R_slice HO_12.out
             subst eo69
             have p308 : 0 ≤ ((ji64) : Int) := of_decide_eq_true (by first | (with_reducible assumption) | assumption)
             have q308 : (ji64) < (x12_3.length : Int) := of_decide_eq_true (by first | (with_reducible assumption) | assumption)
             obtain ⟨ad308, e308, hx308_0, hx308_1, hx308_2, hx308_3, hx308_4, hx308_5, hx308_6, hx308_7, hx308_8, hx308_9⟩ := at_T31 (Kd.R_reads' HO_12.out).2.2 (ji64) p308 q308
             cases e308
             replace p308 := eq_true p308
             replace q308 := eq_true q308
             obtain ⟨Ao70, co70, eo70⟩ := Kd.R_slice HO_11.out
             subst eo70
             go_upto_region 19 with (first | ((with_reducible refine gate_callee (f := 13) rfl ?_); refine goesL_ (some 100) rfl rfl Try.func13 (by kernel_rfl) rfl #[.slice Ao70 x11_3.length co70, .slice Ao14 t280.length co14, .agg #[.int .i64 ((rd_T31 x12_3 (ji64)).f0.f0), .int .i64 ((rd_T31 x12_3 (ji64)).f0.f1), .int .i64 ((rd_T31 x12_3 (ji64)).f0.f2), .int .i64 ((rd_T31 x12_3 (ji64)).f1), .int .i64 ((rd_T31 x12_3 (ji64)).f2), .int .i64 ((rd_T31 x12_3 (ji64)).f3), .int .i64 ((rd_T31 x12_3 (ji64)).f4), .int .i64 ((rd_T31 x12_3 (ji64)).f5), .bool ((rd_T31 x12_3 (ji64)).f6), .int .i64 ((rd_T31 x12_3 (ji64)).f7)]] rfl (by (try simp only [List.map_toArray, List.map_cons, List.map_nil]); first | done | (simp only [hji64]; rfl) | rfl | (simp only [List.length_drop, List.length_take]; rfl)) ?_; (with_reducible refine (cuf_Step.calls _ _ x11_3 _ _ t280 ((rd_T31 x12_3 (ji64)).f0.f0) ((rd_T31 x12_3 (ji64)).f0.f1) ((rd_T31 x12_3 (ji64)).f0.f2) ((rd_T31 x12_3 (ji64)).f1) ((rd_T31 x12_3 (ji64)).f2) ((rd_T31 x12_3 (ji64)).f3) ((rd_T31 x12_3 (ji64)).f4) ((rd_T31 x12_3 (ji64)).f5) ((rd_T31 x12_3 (ji64)).f6) ((rd_T31 x12_3 (ji64)).f7) t309 t312 t313 t314 t315 t316 t317 t318 t319 t320 t321 _ ?side1 ?side2 ?side3 ?side4 A67.out).mono ?_); (case side1 => repeat (first | exact (Kd.R_reads' HO_11.out).2.2 | (with_reducible refine Kd.C_alloc ?_ _) | (with_reducible refine Kd.C_drewN ?_ _) | (with_reducible refine Kd.C_drew ?_))); (case side2 => exact (Kd.R_reads' HO_11.out).2.1); (case side3 => repeat (first | exact (Kd.R_reads' HO_10.out).2.2 | (with_reducible refine Kd.C_alloc ?_ _) | (with_reducible refine Kd.C_drewN ?_ _) | (with_reducible refine Kd.C_drew ?_))); (case side4 => exact (Kd.R_reads' HO_10.out).2.1); rintro e w71 ⟨v310, rfl, ho0, hb⟩; refine ⟨_, rfl, ?_⟩; have n0_ := Aside0.mk (Kd.R_elder' (by (with_reducible repeat (first | apply Kd.R_alloc | apply Kd.R_drewN | apply Kd.R_drew)); exact HO_10.out) (Kd.R_base ho0) hb); have n1_ := Aside0.mk (Kd.R_elder' (by (with_reducible repeat (first | apply Kd.R_alloc | apply Kd.R_drewN | apply Kd.R_drew)); exact HO_11.out) (Kd.R_base ho0) hb); have n2_ := Aside0.mk (Kd.R_below (by (with_reducible repeat (first | apply Kd.R_alloc | apply Kd.R_drewN | apply Kd.R_drew)); exact HO_12.out) hb); have n3_ := Aside0.mk (Kd.R_lower (Kd.R_new' (Kd.R_new' ho0 (Kd.R_lt (by (with_reducible repeat (first | apply Kd.R_alloc | apply Kd.R_drewN | apply Kd.R_drew)); exact HO_10.out))) (Kd.R_lt (by (with_reducible repeat (first | apply Kd.R_alloc | apply Kd.R_drewN | apply Kd.R_drew)); exact HO_11.out))) (below_size (by repeat (first | (with_reducible first | exact HB.out | apply below_alloc | apply pw_below_drewN | apply below_drew1) | exact HB.out)))); have n4_ := Aside0.mk (below_step (by repeat (first | (with_reducible first | exact HB.out | apply below_alloc | apply pw_below_drewN | apply below_drew1) | exact HB.out)) hb); clear HO_10; clear HO_11; clear HO_12; clear HB; have HO_10 := n0_; have HO_11 := n1_; have HO_12 := n2_; have HO311 := n3_; have HB := n4_; clear n0_ n1_ n2_ n3_ n4_; (try clear hb); (try clear hb2); (try clear hk); (try clear hi); (try clear ho0)) | ((with_reducible refine gate_dst (N := 19) rfl ?_); (try (refine gate_guard (by rfl) ?_; dsimp only)); refine box_event ?hg (N := 19) ?hd (cs := #[.int .i64 0, .int .i64 0, .int .i64 0, .int .i64 0, .int .i64 0, .int .i64 0, .int .i64 0, .int .i64 0, .bool false, .int .i64 0]) (t := 31) ?hr ?_; (case hd => rfl); (case hg => rfl); (case hr => first | (go_simp; done) | (go_simp; rfl)); intro gb322 hg w72 hbox hb; have n0_ := Aside0.mk (Kd.R_below (by (with_reducible repeat (first | apply Kd.R_alloc | apply Kd.R_drewN | apply Kd.R_drew)); exact HO_10.out) hb); have n1_ := Aside0.mk (Kd.R_below (by (with_reducible repeat (first | apply Kd.R_alloc | apply Kd.R_drewN | apply Kd.R_drew)); exact HO_11.out) hb); have n2_ := Aside0.mk (Kd.R_below (Kd.R_elderB (by (with_reducible repeat (first | apply Kd.R_alloc | apply Kd.R_drewN | apply Kd.R_drew)); exact HO_12.out) gb322 (Nat.le_of_eq hg.symm)) hb); have n3_ := Aside0.mk (Kd.R_below (by (with_reducible repeat (first | apply Kd.R_alloc | apply Kd.R_drewN | apply Kd.R_drew)); exact HO311.out) hb); have n4_ := Aside0.mk (below_step (by repeat (first | (with_reducible first | exact HB.out | apply below_alloc | apply pw_below_drewN | apply below_drew1) | exact HB.out)) hb); have n5_ := Aside0.mk (hbox); have n6_ := Aside0.mk ((by rw [hg]; exact (below_size (by repeat (first | (with_reducible first | exact HB.out | apply below_alloc | apply pw_below_drewN | apply below_drew1) | exact HB.out))) : w.heap.size ≤ gb322)); have n7_ := Aside0.mk ((by rw [hg]; exact (below_size (by repeat (first | (with_reducible first | exact HB.out | apply below_alloc | apply pw_below_drewN | apply below_drew1) | exact HB.out))) : w.heap.size ≤ gb322)); clear HO_10; clear HO_11; clear HO_12; clear HO311; clear HB; have HO_10 := n0_; have HO_11 := n1_; have HO_12 := n2_; have HO311 := n3_; have HB := n4_; have BK322 := n5_; have GW322 := n6_; have GE322 := n7_; clear n0_ n1_ n2_ n3_ n4_ n5_ n6_ n7_; clear hb hbox hg; have hcz73_0 : w72.cell? ⟨gb322, 0, none⟩ = some (.int .i64 0) := (blk_cell BK322.out 0).trans rfl; have hcz73_1 : w72.cell? ⟨gb322, 1, none⟩ = some (.int .i64 0) := (blk_cell BK322.out 1).trans rfl; have hcz73_2 : w72.cell? ⟨gb322, 2, none⟩ = some (.int .i64 0) := (blk_cell BK322.out 2).trans rfl; have hcz73_3 : w72.cell? ⟨gb322, 3, none⟩ = some (.int .i64 0) := (blk_cell BK322.out 3).trans rfl; have hcz73_4 : w72.cell? ⟨gb322, 4, none⟩ = some (.int .i64 0) := (blk_cell BK322.out 4).trans rfl; have hcz73_5 : w72.cell? ⟨gb322, 5, none⟩ = some (.int .i64 0) := (blk_cell BK322.out 5).trans rfl; have hcz73_6 : w72.cell? ⟨gb322, 6, none⟩ = some (.int .i64 0) := (blk_cell BK322.out 6).trans rfl; have hcz73_7 : w72.cell? ⟨gb322, 7, none⟩ = some (.int .i64 0) := (blk_cell BK322.out 7).trans rfl; have hcz73_8 : w72.cell? ⟨gb322, 8, none⟩ = some (.bool false) := (blk_cell BK322.out 8).trans rfl; have hcz73_9 : w72.cell? ⟨gb322, 9, none⟩ = some (.int .i64 0) := (blk_cell BK322.out 9).trans rfl; have hfz73_0 := blk_frozen BK322.out 0; have hfz73_1 := blk_frozen BK322.out 1; have hfz73_2 := blk_frozen BK322.out 2; have hfz73_3 := blk_frozen BK322.out 3; have hfz73_4 := blk_frozen BK322.out 4; have hfz73_5 := blk_frozen BK322.out 5; have hfz73_6 := blk_frozen BK322.out 6; have hfz73_7 := blk_frozen BK322.out 7; have hfz73_8 := blk_frozen BK322.out 8; have hfz73_9 := blk_frozen BK322.out 9))
             (try simp only [Act.put, List.setIfInBounds_toArray, List.set_cons_zero, List.set_cons_succ])
             go_cut [112] (fun v112 wc => ∃ (kq : Nat) (x112_67 : Bool), v112 = .bool x112_67 ∧ Aside0 (warplaw4_CufRoots.j3 kq l3 (2 + ((l1.length : Int) % 14)) t280 x11_3 x12_3 x16_3 ji64 t309 x112_67 t312 t313 t314 t315 t316 t317 t318 t319 t320 t321 = some r) ∧ Aside0 (kq ≤ k3) ∧ Aside0 (Kd.R (Kd.int .i64) 3 wc w.heap.size (fun k_ => some k_ ≠ ((.slice Ao70 x11_3.length co70) : Value).ownBlock ∧ some k_ ≠ (v310 : Value).ownBlock) (.slice Ao14 t280.length co14) t280) ∧ Aside0 (Kd.R (Kd.int .i64) 3 wc w.heap.size (fun k_ => some k_ ≠ ((.slice Ao14 t280.length co14) : Value).ownBlock ∧ some k_ ≠ (v310 : Value).ownBlock) (.slice Ao70 x11_3.length co70) x11_3) ∧ Aside0 (Kd.R k31 31 wc w.heap.size (fun k_ => k_ ≠ gb322) (.slice (some ad308) x12_3.length co69) x12_3) ∧ Aside0 (Kd.R (Kd.int .i64) 3 wc w.heap.size (fun k_ => some k_ ≠ ((.slice Ao14 t280.length co14) : Value).ownBlock ∧ some k_ ≠ ((.slice Ao70 x11_3.length co70) : Value).ownBlock) v310 t309) ∧ Aside0 (wc.heap[gb322]? = some (.cells #[.int .i64 t312, .int .i64 t313, .int .i64 t314, .int .i64 t315, .int .i64 t316, .int .i64 t317, .int .i64 t318, .int .i64 t319, .bool t320, .int .i64 t321] 31 (0, 0))) ∧ Aside0 (Below w.heap.size w wc))
             case first =>
              have H := HC68.out
              clear HC68
              replace H := Option.bind_eq_some_iff.mp H
              obtain ⟨t323, A740, H⟩ := H
              replace H : (if t323 = true then (warplaw4_CufRoots.j3 k3 l3 (2 + ((l1.length : Int) % 14)) t280 x11_3 x12_3 x16_3 ji64 t309 ((t309.length : Int) != (2 + ((l1.length : Int) % 14))) t312 t313 t314 t315 t316 t317 t318 t319 t320 t321) else (warplaw4_CufRoots.j3 k3 l3 (2 + ((l1.length : Int) % 14)) t280 x11_3 x12_3 x16_3 ji64 t309 true t312 t313 t314 t315 t316 t317 t318 t319 t320 t321)) = some r := H
              have A74 := Aside0.mk A740
              clear A740
              by_cases c75 : t323 = true
              ·
               subst c75
               have H1 : (warplaw4_CufRoots.j3 k3 l3 (2 + ((l1.length : Int) % 14)) t280 x11_3 x12_3 x16_3 ji64 t309 ((t309.length : Int) != (2 + ((l1.length : Int) % 14))) t312 t313 t314 t315 t316 t317 t318 t319 t320 t321) = some r := by rw [if_pos rfl] at H; exact H
               clear H
               have H := H1
               clear H1
               have H' := Aside0.mk H
               clear H
               obtain ⟨Ao76, co76, eo76⟩ := Kd.R_slice HO311.out
               subst eo76
               go_wp2_with (first | ((with_reducible refine gate_callee (f := 14) rfl ?_); refine goesL_ (some 105) rfl rfl Try.func14 (by kernel_rfl) rfl #[.slice Ao76 t309.length co76, .slice Ao14 t280.length co14] rfl (by (try simp only [List.map_toArray, List.map_cons, List.map_nil]); first | done | rfl | (simp only [List.length_drop, List.length_take]; rfl)) ?_; (with_reducible refine (warpref1_MayUp.calls k3 _ _ t309 _ _ t280 true _ ?side1 ?side2 ?side3 ?side4 A74.out).mono ?_); (case side1 => refine (Kd.R_reads' (e := 3) (base := w.heap.size) (ok := fun k_ => ((True ∧ some k_ ≠ (.slice Ao14 t280.length co14 : Value).ownBlock) ∧ some k_ ≠ (.slice Ao70 x11_3.length co70 : Value).ownBlock)) (n := t309.length) (c := co76) ?_).2.2; exact (by (with_reducible repeat (first | apply Kd.R_alloc | apply Kd.R_drewN | apply Kd.R_drew)); exact (Kd.R_mono (Kd.R_far (p := ⟨gb322, 9, none⟩) (Kd.R_far (p := ⟨gb322, 8, none⟩) (Kd.R_far (p := ⟨gb322, 7, none⟩) (Kd.R_far (p := ⟨gb322, 6, none⟩) (Kd.R_far (p := ⟨gb322, 5, none⟩) (Kd.R_far (p := ⟨gb322, 4, none⟩) (Kd.R_far (p := ⟨gb322, 3, none⟩) (Kd.R_far (p := ⟨gb322, 2, none⟩) (Kd.R_far (p := ⟨gb322, 1, none⟩) (Kd.R_far (p := ⟨gb322, 0, none⟩) (Kd.R_types HO311.out BK322.out (by decide)) (fun _ hk => hk.2) (.int .i64 t312)) (fun _ hk => hk.2) (.int .i64 t313)) (fun _ hk => hk.2) (.int .i64 t314)) (fun _ hk => hk.2) (.int .i64 t315)) (fun _ hk => hk.2) (.int .i64 t316)) (fun _ hk => hk.2) (.int .i64 t317)) (fun _ hk => hk.2) (.int .i64 t318)) (fun _ hk => hk.2) (.int .i64 t319)) (fun _ hk => hk.2) (.bool t320)) (fun _ hk => hk.2) (.int .i64 t321)) (fun _ h_ => h_.1)))); (case side2 => exact (Kd.R_reads' HO311.out).2.1); (case side3 => refine (Kd.R_reads' (e := 3) (base := w.heap.size) (ok := fun k_ => (some k_ ≠ (.slice Ao70 x11_3.length co70 : Value).ownBlock ∧ some k_ ≠ (.slice Ao76 t309.length co76 : Value).ownBlock)) (n := t280.length) (c := co14) ?_).2.2; exact (by (with_reducible repeat (first | apply Kd.R_alloc | apply Kd.R_drewN | apply Kd.R_drew)); exact (Kd.R_mono (Kd.R_far (p := ⟨gb322, 9, none⟩) (Kd.R_far (p := ⟨gb322, 8, none⟩) (Kd.R_far (p := ⟨gb322, 7, none⟩) (Kd.R_far (p := ⟨gb322, 6, none⟩) (Kd.R_far (p := ⟨gb322, 5, none⟩) (Kd.R_far (p := ⟨gb322, 4, none⟩) (Kd.R_far (p := ⟨gb322, 3, none⟩) (Kd.R_far (p := ⟨gb322, 2, none⟩) (Kd.R_far (p := ⟨gb322, 1, none⟩) (Kd.R_far (p := ⟨gb322, 0, none⟩) (Kd.R_types HO_10.out BK322.out (by decide)) (fun _ hk => hk.2) (.int .i64 t312)) (fun _ hk => hk.2) (.int .i64 t313)) (fun _ hk => hk.2) (.int .i64 t314)) (fun _ hk => hk.2) (.int .i64 t315)) (fun _ hk => hk.2) (.int .i64 t316)) (fun _ hk => hk.2) (.int .i64 t317)) (fun _ hk => hk.2) (.int .i64 t318)) (fun _ hk => hk.2) (.int .i64 t319)) (fun _ hk => hk.2) (.bool t320)) (fun _ hk => hk.2) (.int .i64 t321)) (fun _ h_ => h_.1)))); (case side4 => exact (Kd.R_reads' HO_10.out).2.1); rintro e w' ⟨rfl, ⟨nd, rfl⟩⟩; refine ⟨_, rfl, ?_⟩))
               go_meet
               case rel => exact ⟨_, (((t309.length : Int) != (2 + ((l1.length : Int) % 14)))), (by first | rfl | (simp; done) | (simp [*]; done)), H', ⟨by have := HJ4.out; have := HK2.out; have := HK3.out; first | omega | exact Nat.le_refl _⟩, ⟨by (with_reducible repeat (first | apply Kd.R_alloc | apply Kd.R_drewN | apply Kd.R_drew)); exact Kd.R_mono (Kd.R_far (p := ⟨gb322, 9, none⟩) (Kd.R_far (p := ⟨gb322, 8, none⟩) (Kd.R_far (p := ⟨gb322, 7, none⟩) (Kd.R_far (p := ⟨gb322, 6, none⟩) (Kd.R_far (p := ⟨gb322, 5, none⟩) (Kd.R_far (p := ⟨gb322, 4, none⟩) (Kd.R_far (p := ⟨gb322, 3, none⟩) (Kd.R_far (p := ⟨gb322, 2, none⟩) (Kd.R_far (p := ⟨gb322, 1, none⟩) (Kd.R_far (p := ⟨gb322, 0, none⟩) (Kd.R_types HO_10.out BK322.out (by decide)) (fun _ hk => hk.2) (.int .i64 t312)) (fun _ hk => hk.2) (.int .i64 t313)) (fun _ hk => hk.2) (.int .i64 t314)) (fun _ hk => hk.2) (.int .i64 t315)) (fun _ hk => hk.2) (.int .i64 t316)) (fun _ hk => hk.2) (.int .i64 t317)) (fun _ hk => hk.2) (.int .i64 t318)) (fun _ hk => hk.2) (.int .i64 t319)) (fun _ hk => hk.2) (.bool t320)) (fun _ hk => hk.2) (.int .i64 t321)) (fun _ hk => ⟨hk.1.1, hk.1.2⟩)⟩, ⟨by (with_reducible repeat (first | apply Kd.R_alloc | apply Kd.R_drewN | apply Kd.R_drew)); exact Kd.R_mono (Kd.R_far (p := ⟨gb322, 9, none⟩) (Kd.R_far (p := ⟨gb322, 8, none⟩) (Kd.R_far (p := ⟨gb322, 7, none⟩) (Kd.R_far (p := ⟨gb322, 6, none⟩) (Kd.R_far (p := ⟨gb322, 5, none⟩) (Kd.R_far (p := ⟨gb322, 4, none⟩) (Kd.R_far (p := ⟨gb322, 3, none⟩) (Kd.R_far (p := ⟨gb322, 2, none⟩) (Kd.R_far (p := ⟨gb322, 1, none⟩) (Kd.R_far (p := ⟨gb322, 0, none⟩) (Kd.R_types HO_11.out BK322.out (by decide)) (fun _ hk => hk.2) (.int .i64 t312)) (fun _ hk => hk.2) (.int .i64 t313)) (fun _ hk => hk.2) (.int .i64 t314)) (fun _ hk => hk.2) (.int .i64 t315)) (fun _ hk => hk.2) (.int .i64 t316)) (fun _ hk => hk.2) (.int .i64 t317)) (fun _ hk => hk.2) (.int .i64 t318)) (fun _ hk => hk.2) (.int .i64 t319)) (fun _ hk => hk.2) (.bool t320)) (fun _ hk => hk.2) (.int .i64 t321)) (fun _ hk => ⟨hk.1.1, hk.1.2⟩)⟩, ⟨by (with_reducible repeat (first | apply Kd.R_alloc | apply Kd.R_drewN | apply Kd.R_drew)); exact Kd.R_mono (Kd.R_far (p := ⟨gb322, 9, none⟩) (Kd.R_far (p := ⟨gb322, 8, none⟩) (Kd.R_far (p := ⟨gb322, 7, none⟩) (Kd.R_far (p := ⟨gb322, 6, none⟩) (Kd.R_far (p := ⟨gb322, 5, none⟩) (Kd.R_far (p := ⟨gb322, 4, none⟩) (Kd.R_far (p := ⟨gb322, 3, none⟩) (Kd.R_far (p := ⟨gb322, 2, none⟩) (Kd.R_far (p := ⟨gb322, 1, none⟩) (Kd.R_far (p := ⟨gb322, 0, none⟩) (Kd.R_mono HO_12.out (fun k_ hk => (⟨hk, hk.2⟩ : _ ∧ k_ ≠ gb322))) (fun _ hk => hk.2) (.int .i64 t312)) (fun _ hk => hk.2) (.int .i64 t313)) (fun _ hk => hk.2) (.int .i64 t314)) (fun _ hk => hk.2) (.int .i64 t315)) (fun _ hk => hk.2) (.int .i64 t316)) (fun _ hk => hk.2) (.int .i64 t317)) (fun _ hk => hk.2) (.int .i64 t318)) (fun _ hk => hk.2) (.int .i64 t319)) (fun _ hk => hk.2) (.bool t320)) (fun _ hk => hk.2) (.int .i64 t321)) (fun _ hk => hk.1.2)⟩, ⟨by (with_reducible repeat (first | apply Kd.R_alloc | apply Kd.R_drewN | apply Kd.R_drew)); exact Kd.R_mono (Kd.R_far (p := ⟨gb322, 9, none⟩) (Kd.R_far (p := ⟨gb322, 8, none⟩) (Kd.R_far (p := ⟨gb322, 7, none⟩) (Kd.R_far (p := ⟨gb322, 6, none⟩) (Kd.R_far (p := ⟨gb322, 5, none⟩) (Kd.R_far (p := ⟨gb322, 4, none⟩) (Kd.R_far (p := ⟨gb322, 3, none⟩) (Kd.R_far (p := ⟨gb322, 2, none⟩) (Kd.R_far (p := ⟨gb322, 1, none⟩) (Kd.R_far (p := ⟨gb322, 0, none⟩) (Kd.R_types HO311.out BK322.out (by decide)) (fun _ hk => hk.2) (.int .i64 t312)) (fun _ hk => hk.2) (.int .i64 t313)) (fun _ hk => hk.2) (.int .i64 t314)) (fun _ hk => hk.2) (.int .i64 t315)) (fun _ hk => hk.2) (.int .i64 t316)) (fun _ hk => hk.2) (.int .i64 t317)) (fun _ hk => hk.2) (.int .i64 t318)) (fun _ hk => hk.2) (.int .i64 t319)) (fun _ hk => hk.2) (.bool t320)) (fun _ hk => hk.2) (.int .i64 t321)) (fun _ hk => ⟨hk.1.1.2, hk.1.2⟩)⟩, ⟨by (with_reducible repeat (first | refine blk_drewN ?_ _ | refine blk_drew ?_ | refine blk_alloc ?_ _)); refine blk_put (cs := #[.int .i64 t312, .int .i64 t313, .int .i64 t314, .int .i64 t315, .int .i64 t316, .int .i64 t317, .int .i64 t318, .int .i64 t319, .bool t320, .int .i64 0]) ?_ 9 _ rfl; (with_reducible repeat (first | refine blk_drewN ?_ _ | refine blk_drew ?_ | refine blk_alloc ?_ _)); refine blk_put (cs := #[.int .i64 t312, .int .i64 t313, .int .i64 t314, .int .i64 t315, .int .i64 t316, .int .i64 t317, .int .i64 t318, .int .i64 t319, .bool false, .int .i64 0]) ?_ 8 _ rfl; (with_reducible repeat (first | refine blk_drewN ?_ _ | refine blk_drew ?_ | refine blk_alloc ?_ _)); refine blk_put (cs := #[.int .i64 t312, .int .i64 t313, .int .i64 t314, .int .i64 t315, .int .i64 t316, .int .i64 t317, .int .i64 t318, .int .i64 0, .bool false, .int .i64 0]) ?_ 7 _ rfl; (with_reducible repeat (first | refine blk_drewN ?_ _ | refine blk_drew ?_ | refine blk_alloc ?_ _)); refine blk_put (cs := #[.int .i64 t312, .int .i64 t313, .int .i64 t314, .int .i64 t315, .int .i64 t316, .int .i64 t317, .int .i64 0, .int .i64 0, .bool false, .int .i64 0]) ?_ 6 _ rfl; (with_reducible repeat (first | refine blk_drewN ?_ _ | refine blk_drew ?_ | refine blk_alloc ?_ _)); refine blk_put (cs := #[.int .i64 t312, .int .i64 t313, .int .i64 t314, .int .i64 t315, .int .i64 t316, .int .i64 0, .int .i64 0, .int .i64 0, .bool false, .int .i64 0]) ?_ 5 _ rfl; (with_reducible repeat (first | refine blk_drewN ?_ _ | refine blk_drew ?_ | refine blk_alloc ?_ _)); refine blk_put (cs := #[.int .i64 t312, .int .i64 t313, .int .i64 t314, .int .i64 t315, .int .i64 0, .int .i64 0, .int .i64 0, .int .i64 0, .bool false, .int .i64 0]) ?_ 4 _ rfl; (with_reducible repeat (first | refine blk_drewN ?_ _ | refine blk_drew ?_ | refine blk_alloc ?_ _)); refine blk_put (cs := #[.int .i64 t312, .int .i64 t313, .int .i64 t314, .int .i64 0, .int .i64 0, .int .i64 0, .int .i64 0, .int .i64 0, .bool false, .int .i64 0]) ?_ 3 _ rfl; (with_reducible repeat (first | refine blk_drewN ?_ _ | refine blk_drew ?_ | refine blk_alloc ?_ _)); refine blk_put (cs := #[.int .i64 t312, .int .i64 t313, .int .i64 0, .int .i64 0, .int .i64 0, .int .i64 0, .int .i64 0, .int .i64 0, .bool false, .int .i64 0]) ?_ 2 _ rfl; (with_reducible repeat (first | refine blk_drewN ?_ _ | refine blk_drew ?_ | refine blk_alloc ?_ _)); refine blk_put (cs := #[.int .i64 t312, .int .i64 0, .int .i64 0, .int .i64 0, .int .i64 0, .int .i64 0, .int .i64 0, .int .i64 0, .bool false, .int .i64 0]) ?_ 1 _ rfl; (with_reducible repeat (first | refine blk_drewN ?_ _ | refine blk_drew ?_ | refine blk_alloc ?_ _)); refine blk_put (cs := #[.int .i64 0, .int .i64 0, .int .i64 0, .int .i64 0, .int .i64 0, .int .i64 0, .int .i64 0, .int .i64 0, .bool false, .int .i64 0]) ?_ 0 _ rfl; (with_reducible repeat (first | refine blk_drewN ?_ _ | refine blk_drew ?_ | refine blk_alloc ?_ _)); exact BK322.out⟩, ⟨by repeat (first | (with_reducible first | exact HB.out | apply below_alloc | apply pw_below_drewN | apply below_drew1 | refine below_set ?_ GE322.out) | exact HB.out)⟩⟩
              ·
               replace c75 := Bool.eq_false_iff.mpr c75
               subst c75
               have H1 : (warplaw4_CufRoots.j3 k3 l3 (2 + ((l1.length : Int) % 14)) t280 x11_3 x12_3 x16_3 ji64 t309 true t312 t313 t314 t315 t316 t317 t318 t319 t320 t321) = some r := by rw [if_neg (show ¬ (false = true) by decide)] at H; exact H
               clear H
               have H := H1
               clear H1
               have H' := Aside0.mk H
               clear H
               obtain ⟨Ao77, co77, eo77⟩ := Kd.R_slice HO311.out
               subst eo77
               go_wp2_with (first | ((with_reducible refine gate_callee (f := 14) rfl ?_); refine goesL_ (some 105) rfl rfl Try.func14 (by kernel_rfl) rfl #[.slice Ao77 t309.length co77, .slice Ao14 t280.length co14] rfl (by (try simp only [List.map_toArray, List.map_cons, List.map_nil]); first | done | rfl | (simp only [List.length_drop, List.length_take]; rfl)) ?_; (with_reducible refine (warpref1_MayUp.calls k3 _ _ t309 _ _ t280 false _ ?side1 ?side2 ?side3 ?side4 A74.out).mono ?_); (case side1 => refine (Kd.R_reads' (e := 3) (base := w.heap.size) (ok := fun k_ => ((True ∧ some k_ ≠ (.slice Ao14 t280.length co14 : Value).ownBlock) ∧ some k_ ≠ (.slice Ao70 x11_3.length co70 : Value).ownBlock)) (n := t309.length) (c := co77) ?_).2.2; exact (by (with_reducible repeat (first | apply Kd.R_alloc | apply Kd.R_drewN | apply Kd.R_drew)); exact (Kd.R_mono (Kd.R_far (p := ⟨gb322, 9, none⟩) (Kd.R_far (p := ⟨gb322, 8, none⟩) (Kd.R_far (p := ⟨gb322, 7, none⟩) (Kd.R_far (p := ⟨gb322, 6, none⟩) (Kd.R_far (p := ⟨gb322, 5, none⟩) (Kd.R_far (p := ⟨gb322, 4, none⟩) (Kd.R_far (p := ⟨gb322, 3, none⟩) (Kd.R_far (p := ⟨gb322, 2, none⟩) (Kd.R_far (p := ⟨gb322, 1, none⟩) (Kd.R_far (p := ⟨gb322, 0, none⟩) (Kd.R_types HO311.out BK322.out (by decide)) (fun _ hk => hk.2) (.int .i64 t312)) (fun _ hk => hk.2) (.int .i64 t313)) (fun _ hk => hk.2) (.int .i64 t314)) (fun _ hk => hk.2) (.int .i64 t315)) (fun _ hk => hk.2) (.int .i64 t316)) (fun _ hk => hk.2) (.int .i64 t317)) (fun _ hk => hk.2) (.int .i64 t318)) (fun _ hk => hk.2) (.int .i64 t319)) (fun _ hk => hk.2) (.bool t320)) (fun _ hk => hk.2) (.int .i64 t321)) (fun _ h_ => h_.1)))); (case side2 => exact (Kd.R_reads' HO311.out).2.1); (case side3 => refine (Kd.R_reads' (e := 3) (base := w.heap.size) (ok := fun k_ => (some k_ ≠ (.slice Ao70 x11_3.length co70 : Value).ownBlock ∧ some k_ ≠ (.slice Ao77 t309.length co77 : Value).ownBlock)) (n := t280.length) (c := co14) ?_).2.2; exact (by (with_reducible repeat (first | apply Kd.R_alloc | apply Kd.R_drewN | apply Kd.R_drew)); exact (Kd.R_mono (Kd.R_far (p := ⟨gb322, 9, none⟩) (Kd.R_far (p := ⟨gb322, 8, none⟩) (Kd.R_far (p := ⟨gb322, 7, none⟩) (Kd.R_far (p := ⟨gb322, 6, none⟩) (Kd.R_far (p := ⟨gb322, 5, none⟩) (Kd.R_far (p := ⟨gb322, 4, none⟩) (Kd.R_far (p := ⟨gb322, 3, none⟩) (Kd.R_far (p := ⟨gb322, 2, none⟩) (Kd.R_far (p := ⟨gb322, 1, none⟩) (Kd.R_far (p := ⟨gb322, 0, none⟩) (Kd.R_types HO_10.out BK322.out (by decide)) (fun _ hk => hk.2) (.int .i64 t312)) (fun _ hk => hk.2) (.int .i64 t313)) (fun _ hk => hk.2) (.int .i64 t314)) (fun _ hk => hk.2) (.int .i64 t315)) (fun _ hk => hk.2) (.int .i64 t316)) (fun _ hk => hk.2) (.int .i64 t317)) (fun _ hk => hk.2) (.int .i64 t318)) (fun _ hk => hk.2) (.int .i64 t319)) (fun _ hk => hk.2) (.bool t320)) (fun _ hk => hk.2) (.int .i64 t321)) (fun _ h_ => h_.1)))); (case side4 => exact (Kd.R_reads' HO_10.out).2.1); rintro e w' ⟨rfl, ⟨nd, rfl⟩⟩; refine ⟨_, rfl, ?_⟩))
               go_meet
               case rel => exact ⟨_, (true), (by first | rfl | (simp; done) | (simp [*]; done)), H', ⟨by have := HJ4.out; have := HK2.out; have := HK3.out; first | omega | exact Nat.le_refl _⟩, ⟨by (with_reducible repeat (first | apply Kd.R_alloc | apply Kd.R_drewN | apply Kd.R_drew)); exact Kd.R_mono (Kd.R_far (p := ⟨gb322, 9, none⟩) (Kd.R_far (p := ⟨gb322, 8, none⟩) (Kd.R_far (p := ⟨gb322, 7, none⟩) (Kd.R_far (p := ⟨gb322, 6, none⟩) (Kd.R_far (p := ⟨gb322, 5, none⟩) (Kd.R_far (p := ⟨gb322, 4, none⟩) (Kd.R_far (p := ⟨gb322, 3, none⟩) (Kd.R_far (p := ⟨gb322, 2, none⟩) (Kd.R_far (p := ⟨gb322, 1, none⟩) (Kd.R_far (p := ⟨gb322, 0, none⟩) (Kd.R_types HO_10.out BK322.out (by decide)) (fun _ hk => hk.2) (.int .i64 t312)) (fun _ hk => hk.2) (.int .i64 t313)) (fun _ hk => hk.2) (.int .i64 t314)) (fun _ hk => hk.2) (.int .i64 t315)) (fun _ hk => hk.2) (.int .i64 t316)) (fun _ hk => hk.2) (.int .i64 t317)) (fun _ hk => hk.2) (.int .i64 t318)) (fun _ hk => hk.2) (.int .i64 t319)) (fun _ hk => hk.2) (.bool t320)) (fun _ hk => hk.2) (.int .i64 t321)) (fun _ hk => ⟨hk.1.1, hk.1.2⟩)⟩, ⟨by (with_reducible repeat (first | apply Kd.R_alloc | apply Kd.R_drewN | apply Kd.R_drew)); exact Kd.R_mono (Kd.R_far (p := ⟨gb322, 9, none⟩) (Kd.R_far (p := ⟨gb322, 8, none⟩) (Kd.R_far (p := ⟨gb322, 7, none⟩) (Kd.R_far (p := ⟨gb322, 6, none⟩) (Kd.R_far (p := ⟨gb322, 5, none⟩) (Kd.R_far (p := ⟨gb322, 4, none⟩) (Kd.R_far (p := ⟨gb322, 3, none⟩) (Kd.R_far (p := ⟨gb322, 2, none⟩) (Kd.R_far (p := ⟨gb322, 1, none⟩) (Kd.R_far (p := ⟨gb322, 0, none⟩) (Kd.R_types HO_11.out BK322.out (by decide)) (fun _ hk => hk.2) (.int .i64 t312)) (fun _ hk => hk.2) (.int .i64 t313)) (fun _ hk => hk.2) (.int .i64 t314)) (fun _ hk => hk.2) (.int .i64 t315)) (fun _ hk => hk.2) (.int .i64 t316)) (fun _ hk => hk.2) (.int .i64 t317)) (fun _ hk => hk.2) (.int .i64 t318)) (fun _ hk => hk.2) (.int .i64 t319)) (fun _ hk => hk.2) (.bool t320)) (fun _ hk => hk.2) (.int .i64 t321)) (fun _ hk => ⟨hk.1.1, hk.1.2⟩)⟩, ⟨by (with_reducible repeat (first | apply Kd.R_alloc | apply Kd.R_drewN | apply Kd.R_drew)); exact Kd.R_mono (Kd.R_far (p := ⟨gb322, 9, none⟩) (Kd.R_far (p := ⟨gb322, 8, none⟩) (Kd.R_far (p := ⟨gb322, 7, none⟩) (Kd.R_far (p := ⟨gb322, 6, none⟩) (Kd.R_far (p := ⟨gb322, 5, none⟩) (Kd.R_far (p := ⟨gb322, 4, none⟩) (Kd.R_far (p := ⟨gb322, 3, none⟩) (Kd.R_far (p := ⟨gb322, 2, none⟩) (Kd.R_far (p := ⟨gb322, 1, none⟩) (Kd.R_far (p := ⟨gb322, 0, none⟩) (Kd.R_mono HO_12.out (fun k_ hk => (⟨hk, hk.2⟩ : _ ∧ k_ ≠ gb322))) (fun _ hk => hk.2) (.int .i64 t312)) (fun _ hk => hk.2) (.int .i64 t313)) (fun _ hk => hk.2) (.int .i64 t314)) (fun _ hk => hk.2) (.int .i64 t315)) (fun _ hk => hk.2) (.int .i64 t316)) (fun _ hk => hk.2) (.int .i64 t317)) (fun _ hk => hk.2) (.int .i64 t318)) (fun _ hk => hk.2) (.int .i64 t319)) (fun _ hk => hk.2) (.bool t320)) (fun _ hk => hk.2) (.int .i64 t321)) (fun _ hk => hk.1.2)⟩, ⟨by (with_reducible repeat (first | apply Kd.R_alloc | apply Kd.R_drewN | apply Kd.R_drew)); exact Kd.R_mono (Kd.R_far (p := ⟨gb322, 9, none⟩) (Kd.R_far (p := ⟨gb322, 8, none⟩) (Kd.R_far (p := ⟨gb322, 7, none⟩) (Kd.R_far (p := ⟨gb322, 6, none⟩) (Kd.R_far (p := ⟨gb322, 5, none⟩) (Kd.R_far (p := ⟨gb322, 4, none⟩) (Kd.R_far (p := ⟨gb322, 3, none⟩) (Kd.R_far (p := ⟨gb322, 2, none⟩) (Kd.R_far (p := ⟨gb322, 1, none⟩) (Kd.R_far (p := ⟨gb322, 0, none⟩) (Kd.R_types HO311.out BK322.out (by decide)) (fun _ hk => hk.2) (.int .i64 t312)) (fun _ hk => hk.2) (.int .i64 t313)) (fun _ hk => hk.2) (.int .i64 t314)) (fun _ hk => hk.2) (.int .i64 t315)) (fun _ hk => hk.2) (.int .i64 t316)) (fun _ hk => hk.2) (.int .i64 t317)) (fun _ hk => hk.2) (.int .i64 t318)) (fun _ hk => hk.2) (.int .i64 t319)) (fun _ hk => hk.2) (.bool t320)) (fun _ hk => hk.2) (.int .i64 t321)) (fun _ hk => ⟨hk.1.1.2, hk.1.2⟩)⟩, ⟨by (with_reducible repeat (first | refine blk_drewN ?_ _ | refine blk_drew ?_ | refine blk_alloc ?_ _)); refine blk_put (cs := #[.int .i64 t312, .int .i64 t313, .int .i64 t314, .int .i64 t315, .int .i64 t316, .int .i64 t317, .int .i64 t318, .int .i64 t319, .bool t320, .int .i64 0]) ?_ 9 _ rfl; (with_reducible repeat (first | refine blk_drewN ?_ _ | refine blk_drew ?_ | refine blk_alloc ?_ _)); refine blk_put (cs := #[.int .i64 t312, .int .i64 t313, .int .i64 t314, .int .i64 t315, .int .i64 t316, .int .i64 t317, .int .i64 t318, .int .i64 t319, .bool false, .int .i64 0]) ?_ 8 _ rfl; (with_reducible repeat (first | refine blk_drewN ?_ _ | refine blk_drew ?_ | refine blk_alloc ?_ _)); refine blk_put (cs := #[.int .i64 t312, .int .i64 t313, .int .i64 t314, .int .i64 t315, .int .i64 t316, .int .i64 t317, .int .i64 t318, .int .i64 0, .bool false, .int .i64 0]) ?_ 7 _ rfl; (with_reducible repeat (first | refine blk_drewN ?_ _ | refine blk_drew ?_ | refine blk_alloc ?_ _)); refine blk_put (cs := #[.int .i64 t312, .int .i64 t313, .int .i64 t314, .int .i64 t315, .int .i64 t316, .int .i64 t317, .int .i64 0, .int .i64 0, .bool false, .int .i64 0]) ?_ 6 _ rfl; (with_reducible repeat (first | refine blk_drewN ?_ _ | refine blk_drew ?_ | refine blk_alloc ?_ _)); refine blk_put (cs := #[.int .i64 t312, .int .i64 t313, .int .i64 t314, .int .i64 t315, .int .i64 t316, .int .i64 0, .int .i64 0, .int .i64 0, .bool false, .int .i64 0]) ?_ 5 _ rfl; (with_reducible repeat (first | refine blk_drewN ?_ _ | refine blk_drew ?_ | refine blk_alloc ?_ _)); refine blk_put (cs := #[.int .i64 t312, .int .i64 t313, .int .i64 t314, .int .i64 t315, .int .i64 0, .int .i64 0, .int .i64 0, .int .i64 0, .bool false, .int .i64 0]) ?_ 4 _ rfl; (with_reducible repeat (first | refine blk_drewN ?_ _ | refine blk_drew ?_ | refine blk_alloc ?_ _)); refine blk_put (cs := #[.int .i64 t312, .int .i64 t313, .int .i64 t314, .int .i64 0, .int .i64 0, .int .i64 0, .int .i64 0, .int .i64 0, .bool false, .int .i64 0]) ?_ 3 _ rfl; (with_reducible repeat (first | refine blk_drewN ?_ _ | refine blk_drew ?_ | refine blk_alloc ?_ _)); refine blk_put (cs := #[.int .i64 t312, .int .i64 t313, .int .i64 0, .int .i64 0, .int .i64 0, .int .i64 0, .int .i64 0, .int .i64 0, .bool false, .int .i64 0]) ?_ 2 _ rfl; (with_reducible repeat (first | refine blk_drewN ?_ _ | refine blk_drew ?_ | refine blk_alloc ?_ _)); refine blk_put (cs := #[.int .i64 t312, .int .i64 0, .int .i64 0, .int .i64 0, .int .i64 0, .int .i64 0, .int .i64 0, .int .i64 0, .bool false, .int .i64 0]) ?_ 1 _ rfl; (with_reducible repeat (first | refine blk_drewN ?_ _ | refine blk_drew ?_ | refine blk_alloc ?_ _)); refine blk_put (cs := #[.int .i64 0, .int .i64 0, .int .i64 0, .int .i64 0, .int .i64 0, .int .i64 0, .int .i64 0, .int .i64 0, .bool false, .int .i64 0]) ?_ 0 _ rfl; (with_reducible repeat (first | refine blk_drewN ?_ _ | refine blk_drew ?_ | refine blk_alloc ?_ _)); exact BK322.out⟩, ⟨by repeat (first | (with_reducible first | exact HB.out | apply below_alloc | apply pw_below_drewN | apply below_drew1 | refine below_set ?_ GE322.out) | exact HB.out)⟩⟩
             case rest =>
              clear HC68
              (try clear c1); (try clear c2); (try clear p2); (try clear q2); (try clear hx2); (try clear p3); (try clear q3); (try clear hx3); (try clear c6); (try clear p6); (try clear c7); (try clear c11); (try clear c12); (try clear c13); (try clear c14); (try clear c16); (try clear c16b0); (try clear c18); (try clear c19); (try clear c21); (try clear c22); (try clear c24); (try clear c25); (try clear p28); (try clear q28); (try clear hx28); (try clear p30); (try clear q30); (try clear hx30); (try clear c62); (try clear c62b0); (try clear c63); (try clear c63b0); (try clear p64); (try clear c65); (try clear c65b0); (try clear c66); (try clear c66b0); (try clear c75); (try clear hcz73_0); (try clear hcz73_1); (try clear hcz73_2); (try clear hcz73_3); (try clear hcz73_4); (try clear hcz73_5); (try clear hcz73_6); (try clear hcz73_7); (try clear hcz73_8); (try clear hcz73_9); (try clear hfz73_0); (try clear hfz73_1); (try clear hfz73_2); (try clear hfz73_3); (try clear hfz73_4); (try clear hfz73_5); (try clear hfz73_6); (try clear hfz73_7); (try clear hfz73_8); (try clear hfz73_9); (try clear hx286_0); (try clear hx287_0); (try clear hx288_0); (try clear hx307_0); (try clear hx308_0); (try clear hx308_1); (try clear hx308_2); (try clear hx308_3); (try clear hx308_4); (try clear hx308_5); (try clear hx308_6); (try clear hx308_7); (try clear hx308_8); (try clear hx308_9); (try clear p2); (try clear p28); (try clear p286); (try clear p287); (try clear p288); (try clear p307); (try clear p308); (try clear q2); (try clear q28); (try clear q286); (try clear q287); (try clear q288); (try clear q307); (try clear q308)
              obtain ⟨kq, x112_67, rfl, HA, HJ67, HO_10, HO_11, HO_12, HO_18, BK322, HB⟩ := hcut
              cases kq with
              | zero => exact absurd HA.out (by simp [warplaw4_CufRoots.j3])
              | succ kj67 =>
               have H := HA.out
               clear HA
               simp only [warplaw4_CufRoots.j3] at H
               by_cases c78 : x112_67 = true
               ·
                subst c78
                have H1 : (some false) = some r := by rw [if_pos rfl] at H; exact H
                clear H
                have H := H1
                clear H1
                obtain rfl := Option.some.inj H
                go_wp2
                go_ret
                exact ⟨by first | rfl | (simp [errW_none, errW_some] <;> rfl) | (simp only [← hji64]; first | rfl | (simp [errW_none, errW_some] <;> rfl)) | (simp [*, errW_none, errW_some] <;> rfl), by repeat (first | (with_reducible first | exact HB.out | apply below_alloc | apply pw_below_drewN | apply below_drew1 | refine below_set ?_ GE322.out) | exact HB.out)⟩
               ·
                replace c78 := Bool.eq_false_iff.mpr c78
                subst c78
                have H1 : (warplaw4_CufRoots.l2 kj67 l3 (2 + ((l1.length : Int) % 14)) t280 x11_3 x12_3 x16_3 ji64 t309 0 0 t312 t313 t314 t315 t316 t317 t318 t319 t320 t321) = some r := by rw [if_neg (show ¬ (false = true) by decide)] at H; exact H
                clear H
                have H := H1
                clear H1
                have H' := Aside0.mk H
                clear H
                go_wp2
                go_loopg [20, 21] kj67 (fun kq v20 v21 w' => ∃ (x20_5 : Int) (x21_5 : Int), v20 = .int .i64 x20_5 ∧ v21 = .int .i64 x21_5 ∧ Aside0 (warplaw4_CufRoots.l2 kq l3 (2 + ((l1.length : Int) % 14)) t280 x11_3 x12_3 x16_3 ji64 t309 x20_5 x21_5 t312 t313 t314 t315 t316 t317 t318 t319 t320 t321 = some r) ∧ Aside0 (kq ≤ kj67) ∧ Aside0 (Kd.R (Kd.int .i64) 3 w' w.heap.size (fun k_ => some k_ ≠ ((.slice Ao70 x11_3.length co70) : Value).ownBlock ∧ some k_ ≠ (v310 : Value).ownBlock) (.slice Ao14 t280.length co14) t280) ∧ Aside0 (Kd.R (Kd.int .i64) 3 w' w.heap.size (fun k_ => some k_ ≠ ((.slice Ao14 t280.length co14) : Value).ownBlock ∧ some k_ ≠ (v310 : Value).ownBlock) (.slice Ao70 x11_3.length co70) x11_3) ∧ Aside0 (Kd.R k31 31 w' w.heap.size (fun k_ => k_ ≠ gb322) (.slice (some ad308) x12_3.length co69) x12_3) ∧ Aside0 (Kd.R (Kd.int .i64) 3 w' w.heap.size (fun k_ => some k_ ≠ ((.slice Ao14 t280.length co14) : Value).ownBlock ∧ some k_ ≠ ((.slice Ao70 x11_3.length co70) : Value).ownBlock) v310 t309) ∧ Aside0 (w'.heap[gb322]? = some (.cells #[.int .i64 t312, .int .i64 t313, .int .i64 t314, .int .i64 t315, .int .i64 t316, .int .i64 t317, .int .i64 t318, .int .i64 t319, .bool t320, .int .i64 t321] 31 (0, 0))) ∧ Aside0 (Below w.heap.size w w'))
                case atStart => exact ⟨(0), (0), (by first | rfl | (simp; done) | (simp [*]; done)), (by first | rfl | (simp; done) | (simp [*]; done)), H', ⟨Nat.le_refl _⟩, ⟨by (with_reducible repeat (first | apply Kd.R_alloc | apply Kd.R_drewN | apply Kd.R_drew)); exact HO_10.out⟩, ⟨by (with_reducible repeat (first | apply Kd.R_alloc | apply Kd.R_drewN | apply Kd.R_drew)); exact HO_11.out⟩, ⟨by (with_reducible repeat (first | apply Kd.R_alloc | apply Kd.R_drewN | apply Kd.R_drew)); exact HO_12.out⟩, ⟨by (with_reducible repeat (first | apply Kd.R_alloc | apply Kd.R_drewN | apply Kd.R_drew)); exact HO_18.out⟩, ⟨by (with_reducible repeat (first | refine blk_drewN ?_ _ | refine blk_drew ?_ | refine blk_alloc ?_ _)); exact BK322.out⟩, ⟨by repeat (first | (with_reducible first | exact HB.out | apply below_alloc | apply pw_below_drewN | apply below_drew1 | refine below_set ?_ GE322.out) | exact HB.out)⟩⟩
                case round =>
                 clear H'
                 (try clear c1); (try clear c2); (try clear p2); (try clear q2); (try clear hx2); (try clear p3); (try clear q3); (try clear hx3); (try clear c6); (try clear p6); (try clear c7); (try clear c11); (try clear c12); (try clear c13); (try clear c14); (try clear c16); (try clear c16b0); (try clear c18); (try clear c19); (try clear c21); (try clear c22); (try clear c24); (try clear c25); (try clear p28); (try clear q28); (try clear hx28); (try clear p30); (try clear q30); (try clear hx30); (try clear c62); (try clear c62b0); (try clear c63); (try clear c63b0); (try clear p64); (try clear c65); (try clear c65b0); (try clear c66); (try clear c66b0); (try clear c75); (try clear c78); (try clear hcz73_0); (try clear hcz73_1); (try clear hcz73_2); (try clear hcz73_3); (try clear hcz73_4); (try clear hcz73_5); (try clear hcz73_6); (try clear hcz73_7); (try clear hcz73_8); (try clear hcz73_9); (try clear hfz73_0); (try clear hfz73_1); (try clear hfz73_2); (try clear hfz73_3); (try clear hfz73_4); (try clear hfz73_5); (try clear hfz73_6); (try clear hfz73_7); (try clear hfz73_8); (try clear hfz73_9); (try clear hx286_0); (try clear hx287_0); (try clear hx288_0); (try clear hx307_0); (try clear hx308_0); (try clear hx308_1); (try clear hx308_2); (try clear hx308_3); (try clear hx308_4); (try clear hx308_5); (try clear hx308_6); (try clear hx308_7); (try clear hx308_8); (try clear hx308_9); (try clear p2); (try clear p28); (try clear p286); (try clear p287); (try clear p288); (try clear p3); (try clear p30); (try clear p307); (try clear p308); (try clear p6); (try clear p64); (try clear q2); (try clear q28); (try clear q286); (try clear q287); (try clear q288); (try clear q3); (try clear q30); (try clear q307); (try clear q308)
                 obtain ⟨x20_5, x21_5, rfl, rfl, HA, HK5, HO_10, HO_11, HO_12, HO_18, BK322, HB⟩ := hrel
                 cases gk with
                 | zero => exact absurd HA.out (by simp [warplaw4_CufRoots.l2])
                 | succ k5 =>
                  have H := HA.out
                  clear HA
                  simp only [warplaw4_CufRoots.l2] at H
                  by_cases c79 : x21_5 < (2 + ((l1.length : Int) % 14))
                  ·
                   rw [if_pos c79] at H
                   have c79b0 : decide (x21_5 < (2 + ((l1.length : Int) % 14))) = true := decide_eq_true c79
                   clear c79
                   by_cases c80 : 0 ≤ x21_5
                   ·
                    rw [if_pos c80] at H
                    have c80b0 : decide (0 ≤ x21_5) = true := decide_eq_true c80
                    clear c80
                    by_cases c81 : x21_5 < (t309.length : Int)
                    ·
                     rw [if_pos c81] at H
                     have c81b0 : decide (x21_5 < (t309.length : Int)) = true := decide_eq_true c81
                     clear c81
                     have HC82 := Aside0.mk H
                     clear H
                     obtain ⟨Ao83, co83, eo83⟩ := Kd.R_slice HO_18.out
                     subst eo83
                     have p324 : 0 ≤ (x21_5 : Int) := of_decide_eq_true (by first | (with_reducible assumption) | assumption)
                     have q324 : x21_5 < (t309.length : Int) := of_decide_eq_true (by first | (with_reducible assumption) | assumption)
                     obtain ⟨ad324, e324, hx324_0⟩ := Kd.at_int (Kd.R_reads' HO_18.out).2.2 x21_5 p324 q324
                     cases e324
                     replace p324 := eq_true p324
                     replace q324 := eq_true q324
                     go_upto_if 123 with (fail)
                     go_cut [20] (fun v20 wc => ∃ (kq : Nat) (x20_81 : Int), v20 = .int .i64 x20_81 ∧ Aside0 (warplaw4_CufRoots.j5 kq l3 (2 + ((l1.length : Int) % 14)) t280 x11_3 x12_3 x16_3 ji64 t309 x20_81 x21_5 t312 t313 t314 t315 t316 t317 t318 t319 t320 t321 = some r) ∧ Aside0 (kq ≤ k5) ∧ Aside0 (Kd.R (Kd.int .i64) 3 wc w.heap.size (fun k_ => some k_ ≠ ((.slice Ao70 x11_3.length co70) : Value).ownBlock ∧ some k_ ≠ ((.slice (some ad324) t309.length co83) : Value).ownBlock) (.slice Ao14 t280.length co14) t280) ∧ Aside0 (Kd.R (Kd.int .i64) 3 wc w.heap.size (fun k_ => some k_ ≠ ((.slice Ao14 t280.length co14) : Value).ownBlock ∧ some k_ ≠ ((.slice (some ad324) t309.length co83) : Value).ownBlock) (.slice Ao70 x11_3.length co70) x11_3) ∧ Aside0 (Kd.R k31 31 wc w.heap.size (fun k_ => k_ ≠ gb322) (.slice (some ad308) x12_3.length co69) x12_3) ∧ Aside0 (Kd.R (Kd.int .i64) 3 wc w.heap.size (fun k_ => some k_ ≠ ((.slice Ao14 t280.length co14) : Value).ownBlock ∧ some k_ ≠ ((.slice Ao70 x11_3.length co70) : Value).ownBlock) (.slice (some ad324) t309.length co83) t309) ∧ Aside0 (wc.heap[gb322]? = some (.cells #[.int .i64 t312, .int .i64 t313, .int .i64 t314, .int .i64 t315, .int .i64 t316, .int .i64 t317, .int .i64 t318, .int .i64 t319, .bool t320, .int .i64 t321] 31 (0, 0))) ∧ Aside0 (Below w.heap.size w wc))
                     case first =>
                      have H := HC82.out
                      clear HC82
                      by_cases c84 : (rd t309 x21_5) = x21_5
                      ·
                       rw [if_pos c84] at H
                       have c84b0 : ((rd t309 x21_5) == x21_5) = true := beq_iff_eq.mpr c84
                       have c84b1 : ((rd t309 x21_5) != x21_5) = false := bne_eq_false_iff_eq.mpr c84
                       clear c84
                       (first | rw [c84b0] | (simp only [i64_w, i32_w]; rw [c84b0]) | skip)
                       have H' := Aside0.mk H
                       clear H
                       go_wp2
                       go_meet
                       case rel => exact ⟨_, (wrap64 (x20_5 + 1)), (by first | rfl | (simp; done) | (simp [*]; done)), H', ⟨by have := HJ4.out; have := HK2.out; have := HK3.out; have := HJ67.out; have := HK5.out; first | omega | exact Nat.le_refl _⟩, ⟨by (with_reducible repeat (first | apply Kd.R_alloc | apply Kd.R_drewN | apply Kd.R_drew)); exact HO_10.out⟩, ⟨by (with_reducible repeat (first | apply Kd.R_alloc | apply Kd.R_drewN | apply Kd.R_drew)); exact HO_11.out⟩, ⟨by (with_reducible repeat (first | apply Kd.R_alloc | apply Kd.R_drewN | apply Kd.R_drew)); exact HO_12.out⟩, ⟨by (with_reducible repeat (first | apply Kd.R_alloc | apply Kd.R_drewN | apply Kd.R_drew)); exact HO_18.out⟩, ⟨by (with_reducible repeat (first | refine blk_drewN ?_ _ | refine blk_drew ?_ | refine blk_alloc ?_ _)); exact BK322.out⟩, ⟨by repeat (first | (with_reducible first | exact HB.out | apply below_alloc | apply pw_below_drewN | apply below_drew1 | refine below_set ?_ GE322.out) | exact HB.out)⟩⟩
                      ·
                       rw [if_neg c84] at H
                       have c84b0 : ((rd t309 x21_5) == x21_5) = false := beq_eq_false_iff_ne.mpr c84
                       have c84b1 : ((rd t309 x21_5) != x21_5) = true := bne_iff_ne.mpr c84
                       (first | rw [c84b0] | (simp only [i64_w, i32_w]; rw [c84b0]) | skip)
                       have H' := Aside0.mk H
                       clear H
                       go_wp2
                       go_meet
                       case rel => exact ⟨_, (x20_5), (by first | rfl | (simp; done) | (simp [*]; done)), H', ⟨by have := HJ4.out; have := HK2.out; have := HK3.out; have := HJ67.out; have := HK5.out; first | omega | exact Nat.le_refl _⟩, ⟨by (with_reducible repeat (first | apply Kd.R_alloc | apply Kd.R_drewN | apply Kd.R_drew)); exact HO_10.out⟩, ⟨by (with_reducible repeat (first | apply Kd.R_alloc | apply Kd.R_drewN | apply Kd.R_drew)); exact HO_11.out⟩, ⟨by (with_reducible repeat (first | apply Kd.R_alloc | apply Kd.R_drewN | apply Kd.R_drew)); exact HO_12.out⟩, ⟨by (with_reducible repeat (first | apply Kd.R_alloc | apply Kd.R_drewN | apply Kd.R_drew)); exact HO_18.out⟩, ⟨by (with_reducible repeat (first | refine blk_drewN ?_ _ | refine blk_drew ?_ | refine blk_alloc ?_ _)); exact BK322.out⟩, ⟨by repeat (first | (with_reducible first | exact HB.out | apply below_alloc | apply pw_below_drewN | apply below_drew1 | refine below_set ?_ GE322.out) | exact HB.out)⟩⟩
                     case rest =>
                      clear HC82
                      (try clear c1); (try clear c2); (try clear p2); (try clear q2); (try clear hx2); (try clear p3); (try clear q3); (try clear hx3); (try clear c6); (try clear p6); (try clear c7); (try clear c8); (try clear c11); (try clear c12); (try clear c13); (try clear c14); (try clear c16); (try clear c16b0); (try clear c18); (try clear c19); (try clear c21); (try clear c22); (try clear c24); (try clear c25); (try clear p28); (try clear q28); (try clear hx28); (try clear p30); (try clear q30); (try clear hx30); (try clear p32); (try clear q32); (try clear hx32); (try clear c62); (try clear c62b0); (try clear c63); (try clear c63b0); (try clear p64); (try clear c65); (try clear c65b0); (try clear c66); (try clear c66b0); (try clear c75); (try clear c78); (try clear c79); (try clear c79b0); (try clear c80); (try clear c80b0); (try clear c81); (try clear c81b0); (try clear c84); (try clear c84b0); (try clear c84b1); (try clear hcz73_0); (try clear hcz73_1); (try clear hcz73_2); (try clear hcz73_3); (try clear hcz73_4); (try clear hcz73_5); (try clear hcz73_6); (try clear hcz73_7); (try clear hcz73_8); (try clear hcz73_9); (try clear hfz73_0); (try clear hfz73_1); (try clear hfz73_2); (try clear hfz73_3); (try clear hfz73_4); (try clear hfz73_5); (try clear hfz73_6); (try clear hfz73_7); (try clear hfz73_8); (try clear hfz73_9); (try clear hx286_0); (try clear hx287_0); (try clear hx288_0); (try clear hx307_0); (try clear hx308_0); (try clear hx308_1); (try clear hx308_2); (try clear hx308_3); (try clear hx308_4); (try clear hx308_5); (try clear hx308_6); (try clear hx308_7); (try clear hx308_8); (try clear hx308_9); (try clear hx324_0); (try clear p2); (try clear p28); (try clear p286); (try clear p287); (try clear p288); (try clear p3); (try clear p30); (try clear p307); (try clear p308); (try clear p324); (try clear p6); (try clear p64); (try clear q2); (try clear q28); (try clear q286); (try clear q287); (try clear q288); (try clear q3); (try clear q30); (try clear q307); (try clear q308); (try clear q324)
                      obtain ⟨kq, x20_81, rfl, HA, HJ81, HO_10, HO_11, HO_12, HO_18, BK322, HB⟩ := hcut
                      cases kq with
                      | zero => exact absurd HA.out (by simp [warplaw4_CufRoots.j5])
                      | succ kj81 =>
                       have H := HA.out
                       clear HA
                       simp only [warplaw4_CufRoots.j5] at H
                       by_cases c85 : 0 ≤ x21_5
                       ·
                        rw [if_pos c85] at H
                        have c85b0 : decide (0 ≤ x21_5) = true := decide_eq_true c85
                        clear c85
                        by_cases c86 : x21_5 < (x11_3.length : Int)
                        ·
                         rw [if_pos c86] at H
                         have c86b0 : decide (x21_5 < (x11_3.length : Int)) = true := decide_eq_true c86
                         clear c86
                         have HC87 := Aside0.mk H
                         clear H
                         have p325 : 0 ≤ (x21_5 : Int) := of_decide_eq_true (by first | (with_reducible assumption) | assumption)
                         have q325 : x21_5 < (x11_3.length : Int) := of_decide_eq_true (by first | (with_reducible assumption) | assumption)
                         obtain ⟨ad325, e325, hx325_0⟩ := Kd.at_int (Kd.R_reads' HO_11.out).2.2 x21_5 p325 q325
                         cases e325
                         replace p325 := eq_true p325
                         replace q325 := eq_true q325
                         go_upto_if 131 with (fail)
                         go_cut [20] (fun v20 wc => ∃ (kq : Nat) (x20_86 : Int), v20 = .int .i64 x20_86 ∧ Aside0 (warplaw4_CufRoots.j6 kq l3 (2 + ((l1.length : Int) % 14)) t280 x11_3 x12_3 x16_3 ji64 t309 x20_86 x21_5 t312 t313 t314 t315 t316 t317 t318 t319 t320 t321 = some r) ∧ Aside0 (kq ≤ kj81) ∧ Aside0 (Kd.R (Kd.int .i64) 3 wc w.heap.size (fun k_ => some k_ ≠ ((.slice (some ad325) x11_3.length co70) : Value).ownBlock ∧ some k_ ≠ ((.slice (some ad324) t309.length co83) : Value).ownBlock) (.slice Ao14 t280.length co14) t280) ∧ Aside0 (Kd.R (Kd.int .i64) 3 wc w.heap.size (fun k_ => some k_ ≠ ((.slice Ao14 t280.length co14) : Value).ownBlock ∧ some k_ ≠ ((.slice (some ad324) t309.length co83) : Value).ownBlock) (.slice (some ad325) x11_3.length co70) x11_3) ∧ Aside0 (Kd.R k31 31 wc w.heap.size (fun k_ => k_ ≠ gb322) (.slice (some ad308) x12_3.length co69) x12_3) ∧ Aside0 (Kd.R (Kd.int .i64) 3 wc w.heap.size (fun k_ => some k_ ≠ ((.slice Ao14 t280.length co14) : Value).ownBlock ∧ some k_ ≠ ((.slice (some ad325) x11_3.length co70) : Value).ownBlock) (.slice (some ad324) t309.length co83) t309) ∧ Aside0 (wc.heap[gb322]? = some (.cells #[.int .i64 t312, .int .i64 t313, .int .i64 t314, .int .i64 t315, .int .i64 t316, .int .i64 t317, .int .i64 t318, .int .i64 t319, .bool t320, .int .i64 t321] 31 (0, 0))) ∧ Aside0 (Below w.heap.size w wc))
                         case first =>
                          have H := HC87.out
                          clear HC87
                          by_cases c88 : (rd x11_3 x21_5) = x21_5
                          ·
                           rw [if_pos c88] at H
                           have c88b0 : ((rd x11_3 x21_5) == x21_5) = true := beq_iff_eq.mpr c88
                           have c88b1 : ((rd x11_3 x21_5) != x21_5) = false := bne_eq_false_iff_eq.mpr c88
                           clear c88
                           (first | rw [c88b0] | (simp only [i64_w, i32_w]; rw [c88b0]) | skip)
                           have H' := Aside0.mk H
                           clear H
                           go_wp2
                           go_meet
                           case rel => exact ⟨_, (wrap64 (x20_81 - 1)), (by first | rfl | (simp; done) | (simp [*]; done)), H', ⟨by have := HJ4.out; have := HK2.out; have := HK3.out; have := HJ67.out; have := HK5.out; have := HJ81.out; first | omega | exact Nat.le_refl _⟩, ⟨by (with_reducible repeat (first | apply Kd.R_alloc | apply Kd.R_drewN | apply Kd.R_drew)); exact HO_10.out⟩, ⟨by (with_reducible repeat (first | apply Kd.R_alloc | apply Kd.R_drewN | apply Kd.R_drew)); exact HO_11.out⟩, ⟨by (with_reducible repeat (first | apply Kd.R_alloc | apply Kd.R_drewN | apply Kd.R_drew)); exact HO_12.out⟩, ⟨by (with_reducible repeat (first | apply Kd.R_alloc | apply Kd.R_drewN | apply Kd.R_drew)); exact HO_18.out⟩, ⟨by (with_reducible repeat (first | refine blk_drewN ?_ _ | refine blk_drew ?_ | refine blk_alloc ?_ _)); exact BK322.out⟩, ⟨by repeat (first | (with_reducible first | exact HB.out | apply below_alloc | apply pw_below_drewN | apply below_drew1 | refine below_set ?_ GE322.out) | exact HB.out)⟩⟩
                          ·
                           rw [if_neg c88] at H
                           have c88b0 : ((rd x11_3 x21_5) == x21_5) = false := beq_eq_false_iff_ne.mpr c88
                           have c88b1 : ((rd x11_3 x21_5) != x21_5) = true := bne_iff_ne.mpr c88
                           (first | rw [c88b0] | (simp only [i64_w, i32_w]; rw [c88b0]) | skip)
                           have H' := Aside0.mk H
                           clear H
                           go_wp2
                           go_meet
                           case rel => exact ⟨_, (x20_81), (by first | rfl | (simp; done) | (simp [*]; done)), H', ⟨by have := HJ4.out; have := HK2.out; have := HK3.out; have := HJ67.out; have := HK5.out; have := HJ81.out; first | omega | exact Nat.le_refl _⟩, ⟨by (with_reducible repeat (first | apply Kd.R_alloc | apply Kd.R_drewN | apply Kd.R_drew)); exact HO_10.out⟩, ⟨by (with_reducible repeat (first | apply Kd.R_alloc | apply Kd.R_drewN | apply Kd.R_drew)); exact HO_11.out⟩, ⟨by (with_reducible repeat (first | apply Kd.R_alloc | apply Kd.R_drewN | apply Kd.R_drew)); exact HO_12.out⟩, ⟨by (with_reducible repeat (first | apply Kd.R_alloc | apply Kd.R_drewN | apply Kd.R_drew)); exact HO_18.out⟩, ⟨by (with_reducible repeat (first | refine blk_drewN ?_ _ | refine blk_drew ?_ | refine blk_alloc ?_ _)); exact BK322.out⟩, ⟨by repeat (first | (with_reducible first | exact HB.out | apply below_alloc | apply pw_below_drewN | apply below_drew1 | refine below_set ?_ GE322.out) | exact HB.out)⟩⟩
                         case rest =>
                          clear HC87
                          (try clear c1); (try clear c2); (try clear p2); (try clear q2); (try clear hx2); (try clear p3); (try clear q3); (try clear hx3); (try clear c6); (try clear p6); (try clear c7); (try clear c8); (try clear c11); (try clear c12); (try clear c13); (try clear c14); (try clear c16); (try clear c16b0); (try clear c18); (try clear c19); (try clear c21); (try clear c22); (try clear c24); (try clear c25); (try clear p28); (try clear q28); (try clear hx28); (try clear p30); (try clear q30); (try clear hx30); (try clear p32); (try clear q32); (try clear hx32); (try clear c62); (try clear c62b0); (try clear c63); (try clear c63b0); (try clear p64); (try clear c65); (try clear c65b0); (try clear c66); (try clear c66b0); (try clear c75); (try clear c78); (try clear c79); (try clear c79b0); (try clear c80); (try clear c80b0); (try clear c81); (try clear c81b0); (try clear c84); (try clear c84b0); (try clear c84b1); (try clear c85); (try clear c85b0); (try clear c86); (try clear c86b0); (try clear c88); (try clear c88b0); (try clear c88b1); (try clear hcz73_0); (try clear hcz73_1); (try clear hcz73_2); (try clear hcz73_3); (try clear hcz73_4); (try clear hcz73_5); (try clear hcz73_6); (try clear hcz73_7); (try clear hcz73_8); (try clear hcz73_9); (try clear hfz73_0); (try clear hfz73_1); (try clear hfz73_2); (try clear hfz73_3); (try clear hfz73_4); (try clear hfz73_5); (try clear hfz73_6); (try clear hfz73_7); (try clear hfz73_8); (try clear hfz73_9); (try clear hx286_0); (try clear hx287_0); (try clear hx288_0); (try clear hx307_0); (try clear hx308_0); (try clear hx308_1); (try clear hx308_2); (try clear hx308_3); (try clear hx308_4); (try clear hx308_5); (try clear hx308_6); (try clear hx308_7); (try clear hx308_8); (try clear hx308_9); (try clear hx324_0); (try clear hx325_0); (try clear p2); (try clear p28); (try clear p286); (try clear p287); (try clear p288); (try clear p3); (try clear p30); (try clear p307); (try clear p308); (try clear p32); (try clear p324); (try clear p325); (try clear p6); (try clear p64); (try clear q2); (try clear q28); (try clear q286); (try clear q287); (try clear q288); (try clear q3); (try clear q30); (try clear q307); (try clear q308); (try clear q32); (try clear q324); (try clear q325)
                          obtain ⟨kq, x20_86, rfl, HA, HJ86, HO_10, HO_11, HO_12, HO_18, BK322, HB⟩ := hcut
                          cases kq with
                          | zero => exact absurd HA.out (by simp [warplaw4_CufRoots.j6])
                          | succ kj86 =>
                           have H := HA.out
                           clear HA
                           simp only [warplaw4_CufRoots.j6] at H
                           replace H := Option.bind_eq_some_iff.mp H
                           obtain ⟨t326, A890, H⟩ := H
                           replace H : ((warpref1_Root.f kj86 x11_3 x21_5).bind fun t327 => ((warpref1_Root.f kj86 t309 t327).bind fun t328 => (if t326 = t328 then (warplaw4_CufRoots.l2 kj86 l3 (2 + ((l1.length : Int) % 14)) t280 x11_3 x12_3 x16_3 ji64 t309 x20_86 (wrap64 (x21_5 + 1)) t312 t313 t314 t315 t316 t317 t318 t319 t320 t321) else (some false)))) = some r := H
                           have A89 := Aside0.mk A890
                           clear A890
                           replace H := Option.bind_eq_some_iff.mp H
                           obtain ⟨t327, A900, H⟩ := H
                           replace H : ((warpref1_Root.f kj86 t309 t327).bind fun t328 => (if t326 = t328 then (warplaw4_CufRoots.l2 kj86 l3 (2 + ((l1.length : Int) % 14)) t280 x11_3 x12_3 x16_3 ji64 t309 x20_86 (wrap64 (x21_5 + 1)) t312 t313 t314 t315 t316 t317 t318 t319 t320 t321) else (some false))) = some r := H
                           have A90 := Aside0.mk A900
                           clear A900
                           replace H := Option.bind_eq_some_iff.mp H
                           obtain ⟨t328, A910, H⟩ := H
                           replace H : (if t326 = t328 then (warplaw4_CufRoots.l2 kj86 l3 (2 + ((l1.length : Int) % 14)) t280 x11_3 x12_3 x16_3 ji64 t309 x20_86 (wrap64 (x21_5 + 1)) t312 t313 t314 t315 t316 t317 t318 t319 t320 t321) else (some false)) = some r := H
                           have A91 := Aside0.mk A910
                           clear A910
                           by_cases c92 : t326 = t328
                           ·
                            rw [if_pos c92] at H
                            have c92b0 : (t326 == t328) = true := beq_iff_eq.mpr c92
                            have c92b1 : (t326 != t328) = false := bne_eq_false_iff_eq.mpr c92
                            clear c92
                            have H' := Aside0.mk H
                            clear H
                            go_wp2_with (first | ((with_reducible refine gate_callee (f := 15) rfl ?_); refine goesL_ (some 136) rfl rfl Try.func15 (by kernel_rfl) rfl #[.slice (some ad324) t309.length co83, .int .i64 x21_5] rfl (by (try simp only [List.map_toArray, List.map_cons, List.map_nil]); first | done | rfl | (simp only [List.length_drop, List.length_take]; rfl)) ?_; (with_reducible refine (warpref1_Root.calls kj86 _ _ t309 x21_5 t326 _ ?side1 ?side2 A89.out).mono ?_); (case side1 => repeat (first | exact (Kd.R_reads' HO_18.out).2.2 | (with_reducible refine Kd.C_alloc ?_ _) | (with_reducible refine Kd.C_drewN ?_ _) | (with_reducible refine Kd.C_drew ?_))); (case side2 => exact (Kd.R_reads' HO_18.out).2.1); rintro e w' ⟨rfl, ⟨nd, rfl⟩⟩; refine ⟨_, rfl, ?_⟩) | ((with_reducible refine gate_callee (f := 15) rfl ?_); refine goesL_ (some 140) rfl rfl Try.func15 (by kernel_rfl) rfl #[.slice (some ad325) x11_3.length co70, .int .i64 x21_5] rfl (by (try simp only [List.map_toArray, List.map_cons, List.map_nil]); first | done | rfl | (simp only [List.length_drop, List.length_take]; rfl)) ?_; (with_reducible refine (warpref1_Root.calls kj86 _ _ x11_3 x21_5 t327 _ ?side1 ?side2 A90.out).mono ?_); (case side1 => repeat (first | exact (Kd.R_reads' HO_11.out).2.2 | (with_reducible refine Kd.C_alloc ?_ _) | (with_reducible refine Kd.C_drewN ?_ _) | (with_reducible refine Kd.C_drew ?_))); (case side2 => exact (Kd.R_reads' HO_11.out).2.1); rintro e w' ⟨rfl, ⟨nd, rfl⟩⟩; refine ⟨_, rfl, ?_⟩) | ((with_reducible refine gate_callee (f := 15) rfl ?_); refine goesL_ (some 141) rfl rfl Try.func15 (by kernel_rfl) rfl #[.slice (some ad324) t309.length co83, .int .i64 t327] rfl (by (try simp only [List.map_toArray, List.map_cons, List.map_nil]); first | done | rfl | (simp only [List.length_drop, List.length_take]; rfl)) ?_; (with_reducible refine (warpref1_Root.calls kj86 _ _ t309 t327 t328 _ ?side1 ?side2 A91.out).mono ?_); (case side1 => repeat (first | exact (Kd.R_reads' HO_18.out).2.2 | (with_reducible refine Kd.C_alloc ?_ _) | (with_reducible refine Kd.C_drewN ?_ _) | (with_reducible refine Kd.C_drew ?_))); (case side2 => exact (Kd.R_reads' HO_18.out).2.1); rintro e w' ⟨rfl, ⟨nd, rfl⟩⟩; refine ⟨_, rfl, ?_⟩))
                            go_roundg kj86
                            case measure => have := HJ4.out; have := HK2.out; have := HK3.out; have := HJ67.out; have := HK5.out; have := HJ81.out; have := HJ86.out; omega
                            case rel => exact ⟨(x20_86), (wrap64 (x21_5 + 1)), (by first | rfl | (simp; done) | (simp [*]; done)), (by first | rfl | (simp; done) | (simp [*]; done)), H', ⟨by have := HJ4.out; have := HK2.out; have := HK3.out; have := HJ67.out; have := HK5.out; have := HJ81.out; have := HJ86.out; omega⟩, ⟨by (with_reducible repeat (first | apply Kd.R_alloc | apply Kd.R_drewN | apply Kd.R_drew)); exact HO_10.out⟩, ⟨by (with_reducible repeat (first | apply Kd.R_alloc | apply Kd.R_drewN | apply Kd.R_drew)); exact HO_11.out⟩, ⟨by (with_reducible repeat (first | apply Kd.R_alloc | apply Kd.R_drewN | apply Kd.R_drew)); exact HO_12.out⟩, ⟨by (with_reducible repeat (first | apply Kd.R_alloc | apply Kd.R_drewN | apply Kd.R_drew)); exact HO_18.out⟩, ⟨by (with_reducible repeat (first | refine blk_drewN ?_ _ | refine blk_drew ?_ | refine blk_alloc ?_ _)); exact BK322.out⟩, ⟨by repeat (first | (with_reducible first | exact HB.out | apply below_alloc | apply pw_below_drewN | apply below_drew1 | refine below_set ?_ GE322.out) | exact HB.out)⟩⟩
                           ·
                            rw [if_neg c92] at H
                            have c92b0 : (t326 == t328) = false := beq_eq_false_iff_ne.mpr c92
                            have c92b1 : (t326 != t328) = true := bne_iff_ne.mpr c92
                            obtain rfl := Option.some.inj H
                            go_wp2_with (first | ((with_reducible refine gate_callee (f := 15) rfl ?_); refine goesL_ (some 136) rfl rfl Try.func15 (by kernel_rfl) rfl #[.slice (some ad324) t309.length co83, .int .i64 x21_5] rfl (by (try simp only [List.map_toArray, List.map_cons, List.map_nil]); first | done | rfl | (simp only [List.length_drop, List.length_take]; rfl)) ?_; (with_reducible refine (warpref1_Root.calls kj86 _ _ t309 x21_5 t326 _ ?side1 ?side2 A89.out).mono ?_); (case side1 => repeat (first | exact (Kd.R_reads' HO_18.out).2.2 | (with_reducible refine Kd.C_alloc ?_ _) | (with_reducible refine Kd.C_drewN ?_ _) | (with_reducible refine Kd.C_drew ?_))); (case side2 => exact (Kd.R_reads' HO_18.out).2.1); rintro e w' ⟨rfl, ⟨nd, rfl⟩⟩; refine ⟨_, rfl, ?_⟩) | ((with_reducible refine gate_callee (f := 15) rfl ?_); refine goesL_ (some 140) rfl rfl Try.func15 (by kernel_rfl) rfl #[.slice (some ad325) x11_3.length co70, .int .i64 x21_5] rfl (by (try simp only [List.map_toArray, List.map_cons, List.map_nil]); first | done | rfl | (simp only [List.length_drop, List.length_take]; rfl)) ?_; (with_reducible refine (warpref1_Root.calls kj86 _ _ x11_3 x21_5 t327 _ ?side1 ?side2 A90.out).mono ?_); (case side1 => repeat (first | exact (Kd.R_reads' HO_11.out).2.2 | (with_reducible refine Kd.C_alloc ?_ _) | (with_reducible refine Kd.C_drewN ?_ _) | (with_reducible refine Kd.C_drew ?_))); (case side2 => exact (Kd.R_reads' HO_11.out).2.1); rintro e w' ⟨rfl, ⟨nd, rfl⟩⟩; refine ⟨_, rfl, ?_⟩) | ((with_reducible refine gate_callee (f := 15) rfl ?_); refine goesL_ (some 141) rfl rfl Try.func15 (by kernel_rfl) rfl #[.slice (some ad324) t309.length co83, .int .i64 t327] rfl (by (try simp only [List.map_toArray, List.map_cons, List.map_nil]); first | done | rfl | (simp only [List.length_drop, List.length_take]; rfl)) ?_; (with_reducible refine (warpref1_Root.calls kj86 _ _ t309 t327 t328 _ ?side1 ?side2 A91.out).mono ?_); (case side1 => repeat (first | exact (Kd.R_reads' HO_18.out).2.2 | (with_reducible refine Kd.C_alloc ?_ _) | (with_reducible refine Kd.C_drewN ?_ _) | (with_reducible refine Kd.C_drew ?_))); (case side2 => exact (Kd.R_reads' HO_18.out).2.1); rintro e w' ⟨rfl, ⟨nd, rfl⟩⟩; refine ⟨_, rfl, ?_⟩))
                            go_ret
                            exact ⟨by first | rfl | (simp [errW_none, errW_some] <;> rfl) | (simp only [← hji64]; first | rfl | (simp [errW_none, errW_some] <;> rfl)) | (simp [*, errW_none, errW_some] <;> rfl), by repeat (first | (with_reducible first | exact HB.out | apply below_alloc | apply pw_below_drewN | apply below_drew1 | refine below_set ?_ GE322.out) | exact HB.out)⟩
                        ·
                         rw [if_neg c86] at H
                         exact absurd H (by simp)
                       ·
                        rw [if_neg c85] at H
                        exact absurd H (by simp)
                    ·
                     rw [if_neg c81] at H
                     exact absurd H (by simp)
                   ·
                    rw [if_neg c80] at H
                    exact absurd H (by simp)
                  ·
                   rw [if_neg c79] at H
                   have c79b0 : decide (x21_5 < (2 + ((l1.length : Int) % 14))) = false := decide_eq_false c79
                   clear c79
                   have HC93 := Aside0.mk H
                   clear H
                   go_upto_region 31 with (fail)
                   go_cut [22] (fun v22 wc => ∃ (kq : Nat) (x22_92 : Bool), v22 = .bool x22_92 ∧ Aside0 (warplaw4_CufRoots.j7 kq l3 (2 + ((l1.length : Int) % 14)) t280 x12_3 x16_3 ji64 t309 x20_5 x22_92 t312 t313 t314 t315 t316 t317 t318 t319 t320 t321 = some r) ∧ Aside0 (kq ≤ k5) ∧ Aside0 (Kd.R (Kd.int .i64) 3 wc w.heap.size (fun k_ => some k_ ≠ (v310 : Value).ownBlock) (.slice Ao14 t280.length co14) t280) ∧ Aside0 (Kd.R k31 31 wc w.heap.size (fun k_ => k_ ≠ gb322) (.slice (some ad308) x12_3.length co69) x12_3) ∧ Aside0 (Kd.R (Kd.int .i64) 3 wc w.heap.size (fun k_ => some k_ ≠ ((.slice Ao14 t280.length co14) : Value).ownBlock) v310 t309) ∧ Aside0 (wc.heap[gb322]? = some (.cells #[.int .i64 t312, .int .i64 t313, .int .i64 t314, .int .i64 t315, .int .i64 t316, .int .i64 t317, .int .i64 t318, .int .i64 t319, .bool t320, .int .i64 t321] 31 (0, 0))) ∧ Aside0 (Below w.heap.size w wc))
                   case first =>
                    have H := HC93.out
                    clear HC93
                    by_cases c94 : 0 ≤ ji64
                    ·
                     rw [if_pos c94] at H
                     have c94b0 : decide (0 ≤ ji64) = true := decide_eq_true c94
                     clear c94
                     (first | rw [c94b0] | (simp only [i64_w, i32_w]; rw [c94b0]) | skip)
                     by_cases c95 : ji64 < (x12_3.length : Int)
                     ·
                      rw [if_pos c95] at H
                      have c95b0 : decide (ji64 < (x12_3.length : Int)) = true := decide_eq_true c95
                      clear c95
                      by_cases c96 : ((rd_T31 x12_3 ji64).f1) = 8
                      ·
                       rw [if_pos c96] at H
                       have c96b0 : (((rd_T31 x12_3 ji64).f1) == 8) = true := beq_iff_eq.mpr c96
                       have c96b1 : (((rd_T31 x12_3 ji64).f1) != 8) = false := bne_eq_false_iff_eq.mpr c96
                       clear c96
                       obtain ⟨bq97, hbq97⟩ : ∃ b_ : Bool, b_ = ((rd_T31 x12_3 ji64).f6) := ⟨_, rfl⟩
                       replace H : (if (bq97 = true) then (warplaw4_CufRoots.j7 k5 l3 (2 + ((l1.length : Int) % 14)) t280 x12_3 x16_3 ji64 t309 x20_5 false t312 t313 t314 t315 t316 t317 t318 t319 t320 t321) else (warplaw4_CufRoots.j7 k5 l3 (2 + ((l1.length : Int) % 14)) t280 x12_3 x16_3 ji64 t309 x20_5 t320 t312 t313 t314 t315 t316 t317 t318 t319 t320 t321)) = some r := by rw [← hbq97] at H; exact H
                       have Nbq97 := Aside0.mk hbq97
                       clear hbq97
                       by_cases c98 : (bq97 = true)
                       ·
                        subst c98
                        have H1 : (warplaw4_CufRoots.j7 k5 l3 (2 + ((l1.length : Int) % 14)) t280 x12_3 x16_3 ji64 t309 x20_5 false t312 t313 t314 t315 t316 t317 t318 t319 t320 t321) = some r := by rw [if_pos rfl] at H; exact H
                        clear H
                        have H := H1
                        clear H1
                        have H' := Aside0.mk H
                        clear H
                        have p329 : 0 ≤ (ji64 : Int) := of_decide_eq_true (by first | (with_reducible assumption) | assumption)
                        have q329 : ji64 < (x12_3.length : Int) := of_decide_eq_true (by first | (with_reducible assumption) | assumption)
                        obtain ⟨ad329, e329, hx329_0, hx329_1, hx329_2, hx329_3, hx329_4, hx329_5, hx329_6, hx329_7, hx329_8, hx329_9⟩ := at_T31 (Kd.R_reads' HO_12.out).2.2 ji64 p329 q329
                        (try rw [← Nbq97.out] at hx329_8)
                        obtain rfl : ad308 = ad329 := (by injection e329)
                        replace p329 := eq_true p329
                        replace q329 := eq_true q329
                        have p330 : 0 ≤ (ji64 : Int) := of_decide_eq_true (by first | (with_reducible assumption) | assumption)
                        have q330 : ji64 < (x12_3.length : Int) := of_decide_eq_true (by first | (with_reducible assumption) | assumption)
                        obtain ⟨ad330, e330, hx330_0, hx330_1, hx330_2, hx330_3, hx330_4, hx330_5, hx330_6, hx330_7, hx330_8, hx330_9⟩ := at_T31 (Kd.R_reads' HO_12.out).2.2 ji64 p330 q330
                        (try rw [← Nbq97.out] at hx330_8)
                        obtain rfl : ad308 = ad330 := (by injection e330)
                        replace p330 := eq_true p330
                        replace q330 := eq_true q330
                        go_wp2
                        go_meet
                        case rel => exact ⟨_, (false), (by first | rfl | (simp; done) | (simp [*]; done)), H', ⟨by have := HJ4.out; have := HK2.out; have := HK3.out; have := HJ67.out; have := HK5.out; first | omega | exact Nat.le_refl _⟩, ⟨by (with_reducible repeat (first | apply Kd.R_alloc | apply Kd.R_drewN | apply Kd.R_drew)); exact Kd.R_mono HO_10.out (fun _ hk => hk.2)⟩, ⟨by (with_reducible repeat (first | apply Kd.R_alloc | apply Kd.R_drewN | apply Kd.R_drew)); exact HO_12.out⟩, ⟨by (with_reducible repeat (first | apply Kd.R_alloc | apply Kd.R_drewN | apply Kd.R_drew)); exact Kd.R_mono HO_18.out (fun _ hk => hk.1)⟩, ⟨by (with_reducible repeat (first | refine blk_drewN ?_ _ | refine blk_drew ?_ | refine blk_alloc ?_ _)); exact BK322.out⟩, ⟨by repeat (first | (with_reducible first | exact HB.out | apply below_alloc | apply pw_below_drewN | apply below_drew1 | refine below_set ?_ GE322.out) | exact HB.out)⟩⟩
                       ·
                        replace c98 := Bool.eq_false_iff.mpr c98
                        subst c98
                        have H1 : (warplaw4_CufRoots.j7 k5 l3 (2 + ((l1.length : Int) % 14)) t280 x12_3 x16_3 ji64 t309 x20_5 t320 t312 t313 t314 t315 t316 t317 t318 t319 t320 t321) = some r := by rw [if_neg (show ¬ (false = true) by decide)] at H; exact H
                        clear H
                        have H := H1
                        clear H1
                        have H' := Aside0.mk H
                        clear H
                        have p329 : 0 ≤ (ji64 : Int) := of_decide_eq_true (by first | (with_reducible assumption) | assumption)
                        have q329 : ji64 < (x12_3.length : Int) := of_decide_eq_true (by first | (with_reducible assumption) | assumption)
                        obtain ⟨ad329, e329, hx329_0, hx329_1, hx329_2, hx329_3, hx329_4, hx329_5, hx329_6, hx329_7, hx329_8, hx329_9⟩ := at_T31 (Kd.R_reads' HO_12.out).2.2 ji64 p329 q329
                        (try rw [← Nbq97.out] at hx329_8)
                        obtain rfl : ad308 = ad329 := (by injection e329)
                        replace p329 := eq_true p329
                        replace q329 := eq_true q329
                        have p330 : 0 ≤ (ji64 : Int) := of_decide_eq_true (by first | (with_reducible assumption) | assumption)
                        have q330 : ji64 < (x12_3.length : Int) := of_decide_eq_true (by first | (with_reducible assumption) | assumption)
                        obtain ⟨ad330, e330, hx330_0, hx330_1, hx330_2, hx330_3, hx330_4, hx330_5, hx330_6, hx330_7, hx330_8, hx330_9⟩ := at_T31 (Kd.R_reads' HO_12.out).2.2 ji64 p330 q330
                        (try rw [← Nbq97.out] at hx330_8)
                        obtain rfl : ad308 = ad330 := (by injection e330)
                        replace p330 := eq_true p330
                        replace q330 := eq_true q330
                        have hcz99_0 : wr.cell? ⟨gb322, 0, none⟩ = some (.int .i64 t312) := (blk_cell BK322.out 0).trans rfl
                        have hcz99_1 : wr.cell? ⟨gb322, 1, none⟩ = some (.int .i64 t313) := (blk_cell BK322.out 1).trans rfl
                        have hcz99_2 : wr.cell? ⟨gb322, 2, none⟩ = some (.int .i64 t314) := (blk_cell BK322.out 2).trans rfl
                        have hcz99_3 : wr.cell? ⟨gb322, 3, none⟩ = some (.int .i64 t315) := (blk_cell BK322.out 3).trans rfl
                        have hcz99_4 : wr.cell? ⟨gb322, 4, none⟩ = some (.int .i64 t316) := (blk_cell BK322.out 4).trans rfl
                        have hcz99_5 : wr.cell? ⟨gb322, 5, none⟩ = some (.int .i64 t317) := (blk_cell BK322.out 5).trans rfl
                        have hcz99_6 : wr.cell? ⟨gb322, 6, none⟩ = some (.int .i64 t318) := (blk_cell BK322.out 6).trans rfl
                        have hcz99_7 : wr.cell? ⟨gb322, 7, none⟩ = some (.int .i64 t319) := (blk_cell BK322.out 7).trans rfl
                        have hcz99_8 : wr.cell? ⟨gb322, 8, none⟩ = some (.bool t320) := (blk_cell BK322.out 8).trans rfl
                        have hcz99_9 : wr.cell? ⟨gb322, 9, none⟩ = some (.int .i64 t321) := (blk_cell BK322.out 9).trans rfl
                        have hfz99_0 := blk_frozen BK322.out 0
                        have hfz99_1 := blk_frozen BK322.out 1
                        have hfz99_2 := blk_frozen BK322.out 2
                        have hfz99_3 := blk_frozen BK322.out 3
                        have hfz99_4 := blk_frozen BK322.out 4
                        have hfz99_5 := blk_frozen BK322.out 5
                        have hfz99_6 := blk_frozen BK322.out 6
                        have hfz99_7 := blk_frozen BK322.out 7
                        have hfz99_8 := blk_frozen BK322.out 8
                        have hfz99_9 := blk_frozen BK322.out 9
                        go_wp2
                        go_meet
                        case rel => exact ⟨_, (t320), (by first | rfl | (simp; done) | (simp [*]; done)), H', ⟨by have := HJ4.out; have := HK2.out; have := HK3.out; have := HJ67.out; have := HK5.out; first | omega | exact Nat.le_refl _⟩, ⟨by (with_reducible repeat (first | apply Kd.R_alloc | apply Kd.R_drewN | apply Kd.R_drew)); exact Kd.R_mono HO_10.out (fun _ hk => hk.2)⟩, ⟨by (with_reducible repeat (first | apply Kd.R_alloc | apply Kd.R_drewN | apply Kd.R_drew)); exact HO_12.out⟩, ⟨by (with_reducible repeat (first | apply Kd.R_alloc | apply Kd.R_drewN | apply Kd.R_drew)); exact Kd.R_mono HO_18.out (fun _ hk => hk.1)⟩, ⟨by (with_reducible repeat (first | refine blk_drewN ?_ _ | refine blk_drew ?_ | refine blk_alloc ?_ _)); exact BK322.out⟩, ⟨by repeat (first | (with_reducible first | exact HB.out | apply below_alloc | apply pw_below_drewN | apply below_drew1 | refine below_set ?_ GE322.out) | exact HB.out)⟩⟩
                      ·
                       rw [if_neg c96] at H
                       have c96b0 : (((rd_T31 x12_3 ji64).f1) == 8) = false := beq_eq_false_iff_ne.mpr c96
                       have c96b1 : (((rd_T31 x12_3 ji64).f1) != 8) = true := bne_iff_ne.mpr c96
                       have H' := Aside0.mk H
                       clear H
                       have p329 : 0 ≤ (ji64 : Int) := of_decide_eq_true (by first | (with_reducible assumption) | assumption)
                       have q329 : ji64 < (x12_3.length : Int) := of_decide_eq_true (by first | (with_reducible assumption) | assumption)
                       obtain ⟨ad329, e329, hx329_0, hx329_1, hx329_2, hx329_3, hx329_4, hx329_5, hx329_6, hx329_7, hx329_8, hx329_9⟩ := at_T31 (Kd.R_reads' HO_12.out).2.2 ji64 p329 q329
                       obtain rfl : ad308 = ad329 := (by injection e329)
                       replace p329 := eq_true p329
                       replace q329 := eq_true q329
                       go_wp2
                       go_meet
                       case rel => exact ⟨_, (false), (by first | rfl | (simp; done) | (simp [*]; done)), H', ⟨by have := HJ4.out; have := HK2.out; have := HK3.out; have := HJ67.out; have := HK5.out; first | omega | exact Nat.le_refl _⟩, ⟨by (with_reducible repeat (first | apply Kd.R_alloc | apply Kd.R_drewN | apply Kd.R_drew)); exact Kd.R_mono HO_10.out (fun _ hk => hk.2)⟩, ⟨by (with_reducible repeat (first | apply Kd.R_alloc | apply Kd.R_drewN | apply Kd.R_drew)); exact HO_12.out⟩, ⟨by (with_reducible repeat (first | apply Kd.R_alloc | apply Kd.R_drewN | apply Kd.R_drew)); exact Kd.R_mono HO_18.out (fun _ hk => hk.1)⟩, ⟨by (with_reducible repeat (first | refine blk_drewN ?_ _ | refine blk_drew ?_ | refine blk_alloc ?_ _)); exact BK322.out⟩, ⟨by repeat (first | (with_reducible first | exact HB.out | apply below_alloc | apply pw_below_drewN | apply below_drew1 | refine below_set ?_ GE322.out) | exact HB.out)⟩⟩
                     ·
                      rw [if_neg c95] at H
                      exact absurd H (by simp)
                    ·
                     rw [if_neg c94] at H
                     exact absurd H (by simp)
                   case rest =>
                    clear HC93
                    (try clear c1); (try clear c2); (try clear p2); (try clear q2); (try clear hx2); (try clear p3); (try clear q3); (try clear hx3); (try clear c6); (try clear p6); (try clear c7); (try clear c8); (try clear c9); (try clear q9); (try clear c11); (try clear c12); (try clear c13); (try clear c14); (try clear c15); (try clear c16); (try clear c16b0); (try clear c18); (try clear c19); (try clear c21); (try clear c22); (try clear c24); (try clear c25); (try clear p28); (try clear q28); (try clear hx28); (try clear p30); (try clear q30); (try clear hx30); (try clear p32); (try clear q32); (try clear hx32); (try clear p33); (try clear q33); (try clear hx33); (try clear c62); (try clear c62b0); (try clear c63); (try clear c63b0); (try clear p64); (try clear c65); (try clear c65b0); (try clear c66); (try clear c66b0); (try clear c75); (try clear c78); (try clear c79); (try clear c79b0); (try clear c80); (try clear c80b0); (try clear c81); (try clear c81b0); (try clear c84); (try clear c84b0); (try clear c84b1); (try clear c85); (try clear c85b0); (try clear c86); (try clear c86b0); (try clear c88); (try clear c88b0); (try clear c88b1); (try clear c92); (try clear c92b0); (try clear c92b1); (try clear c94); (try clear c94b0); (try clear c95); (try clear c95b0); (try clear c96); (try clear c96b0); (try clear c96b1); (try clear q97); (try clear c98); (try clear hcz73_0); (try clear hcz73_1); (try clear hcz73_2); (try clear hcz73_3); (try clear hcz73_4); (try clear hcz73_5); (try clear hcz73_6); (try clear hcz73_7); (try clear hcz73_8); (try clear hcz73_9); (try clear hcz99_0); (try clear hcz99_1); (try clear hcz99_2); (try clear hcz99_3); (try clear hcz99_4); (try clear hcz99_5); (try clear hcz99_6); (try clear hcz99_7); (try clear hcz99_8); (try clear hcz99_9); (try clear hfz73_0); (try clear hfz73_1); (try clear hfz73_2); (try clear hfz73_3); (try clear hfz73_4); (try clear hfz73_5); (try clear hfz73_6); (try clear hfz73_7); (try clear hfz73_8); (try clear hfz73_9); (try clear hfz99_0); (try clear hfz99_1); (try clear hfz99_2); (try clear hfz99_3); (try clear hfz99_4); (try clear hfz99_5); (try clear hfz99_6); (try clear hfz99_7); (try clear hfz99_8); (try clear hfz99_9); (try clear hx286_0); (try clear hx287_0); (try clear hx288_0); (try clear hx307_0); (try clear hx308_0); (try clear hx308_1); (try clear hx308_2); (try clear hx308_3); (try clear hx308_4); (try clear hx308_5); (try clear hx308_6); (try clear hx308_7); (try clear hx308_8); (try clear hx308_9); (try clear hx324_0); (try clear hx325_0); (try clear hx329_0); (try clear hx329_1); (try clear hx329_2); (try clear hx329_3); (try clear hx329_4); (try clear hx329_5); (try clear hx329_6); (try clear hx329_7); (try clear hx329_8); (try clear hx329_9); (try clear hx330_0); (try clear hx330_1); (try clear hx330_2); (try clear hx330_3); (try clear hx330_4); (try clear hx330_5); (try clear hx330_6); (try clear hx330_7); (try clear hx330_8); (try clear hx330_9); (try clear p2); (try clear p28); (try clear p286); (try clear p287); (try clear p288); (try clear p3); (try clear p30); (try clear p307); (try clear p308); (try clear p32); (try clear p324); (try clear p325); (try clear p329); (try clear p330); (try clear p6); (try clear p64); (try clear q2); (try clear q28); (try clear q286); (try clear q287); (try clear q288); (try clear q3); (try clear q30); (try clear q307); (try clear q308); (try clear q32); (try clear q324); (try clear q325); (try clear q329); (try clear q330)
                    obtain ⟨kq, x22_92, rfl, HA, HJ92, HO_10, HO_12, HO_18, BK322, HB⟩ := hcut
                    cases kq with
                    | zero => exact absurd HA.out (by simp [warplaw4_CufRoots.j7])
                    | succ kj92 =>
                     have H := HA.out
                     clear HA
                     simp only [warplaw4_CufRoots.j7] at H
                     have HC100 := Aside0.mk H
                     clear H
                     go_upto_region 32 with (fail)
                     go_cut [172] (fun v172 wc => ∃ (kq : Nat) (x172_99 : Bool), v172 = .bool x172_99 ∧ Aside0 (warplaw4_CufRoots.j8 kq l3 (2 + ((l1.length : Int) % 14)) t280 x12_3 x16_3 ji64 t309 x172_99 t312 t313 t314 t315 t316 t317 t318 t319 t320 t321 = some r) ∧ Aside0 (kq ≤ kj92) ∧ Aside0 (Kd.R (Kd.int .i64) 3 wc w.heap.size (fun k_ => some k_ ≠ (v310 : Value).ownBlock) (.slice Ao14 t280.length co14) t280) ∧ Aside0 (Kd.R k31 31 wc w.heap.size (fun k_ => k_ ≠ gb322) (.slice (some ad308) x12_3.length co69) x12_3) ∧ Aside0 (Kd.R (Kd.int .i64) 3 wc w.heap.size (fun k_ => some k_ ≠ ((.slice Ao14 t280.length co14) : Value).ownBlock) v310 t309) ∧ Aside0 (wc.heap[gb322]? = some (.cells #[.int .i64 t312, .int .i64 t313, .int .i64 t314, .int .i64 t315, .int .i64 t316, .int .i64 t317, .int .i64 t318, .int .i64 t319, .bool t320, .int .i64 t321] 31 (0, 0))) ∧ Aside0 (Below w.heap.size w wc))
                     case first =>
                      have H := HC100.out
                      clear HC100
                      by_cases c101 : ((x20_5 == (-1)) != x22_92) = true
                      ·
                       rw [if_pos c101] at H
                       have c101b0 : ((x20_5 == (-1)) != x22_92) = true := c101
                       (try (have c101b1 : decide ((x20_5 == (-1)) = x22_92) = false := by simpa using c101))
                       (try (have c101b2 : ((x20_5 == (-1)) == x22_92) = false := by simpa using c101))
                       (try (have c101b3 : ¬ ((x20_5 == (-1)) = x22_92) := by simpa using c101))
                       clear c101
                       (first | rw [c101b0] | (simp only [i64_w, i32_w]; rw [c101b0]) | skip)
                       have H' := Aside0.mk H
                       clear H
                       go_wp2
                       go_meet
                       case rel => exact ⟨_, (true), (by first | rfl | (simp; done) | (simp [*]; done)), H', ⟨by have := HJ4.out; have := HK2.out; have := HK3.out; have := HJ67.out; have := HK5.out; have := HJ92.out; first | omega | exact Nat.le_refl _⟩, ⟨by (with_reducible repeat (first | apply Kd.R_alloc | apply Kd.R_drewN | apply Kd.R_drew)); exact HO_10.out⟩, ⟨by (with_reducible repeat (first | apply Kd.R_alloc | apply Kd.R_drewN | apply Kd.R_drew)); exact HO_12.out⟩, ⟨by (with_reducible repeat (first | apply Kd.R_alloc | apply Kd.R_drewN | apply Kd.R_drew)); exact HO_18.out⟩, ⟨by (with_reducible repeat (first | refine blk_drewN ?_ _ | refine blk_drew ?_ | refine blk_alloc ?_ _)); exact BK322.out⟩, ⟨by repeat (first | (with_reducible first | exact HB.out | apply below_alloc | apply pw_below_drewN | apply below_drew1 | refine below_set ?_ GE322.out) | exact HB.out)⟩⟩
                      ·
                       rw [if_neg c101] at H
                       have c101b0 : ((x20_5 == (-1)) != x22_92) = false := by simpa using c101
                       (try (have c101b1 : decide ((x20_5 == (-1)) = x22_92) = true := by simpa using c101))
                       (try (have c101b2 : ((x20_5 == (-1)) == x22_92) = true := by simpa using c101))
                       clear c101
                       (first | rw [c101b0] | (simp only [i64_w, i32_w]; rw [c101b0]) | skip)
                       by_cases c102 : x20_5 = 0
                       ·
                        rw [if_pos c102] at H
                        have c102b0 : (x20_5 == 0) = true := beq_iff_eq.mpr c102
                        have c102b1 : (x20_5 != 0) = false := bne_eq_false_iff_eq.mpr c102
                        clear c102
                        have H' := Aside0.mk H
                        clear H
                        go_wp2
                        go_meet
                        case rel => exact ⟨_, (false), (by first | rfl | (simp; done) | (simp [*]; done)), H', ⟨by have := HJ4.out; have := HK2.out; have := HK3.out; have := HJ67.out; have := HK5.out; have := HJ92.out; first | omega | exact Nat.le_refl _⟩, ⟨by (with_reducible repeat (first | apply Kd.R_alloc | apply Kd.R_drewN | apply Kd.R_drew)); exact HO_10.out⟩, ⟨by (with_reducible repeat (first | apply Kd.R_alloc | apply Kd.R_drewN | apply Kd.R_drew)); exact HO_12.out⟩, ⟨by (with_reducible repeat (first | apply Kd.R_alloc | apply Kd.R_drewN | apply Kd.R_drew)); exact HO_18.out⟩, ⟨by (with_reducible repeat (first | refine blk_drewN ?_ _ | refine blk_drew ?_ | refine blk_alloc ?_ _)); exact BK322.out⟩, ⟨by repeat (first | (with_reducible first | exact HB.out | apply below_alloc | apply pw_below_drewN | apply below_drew1 | refine below_set ?_ GE322.out) | exact HB.out)⟩⟩
                       ·
                        rw [if_neg c102] at H
                        have c102b0 : (x20_5 == 0) = false := beq_eq_false_iff_ne.mpr c102
                        have c102b1 : (x20_5 != 0) = true := bne_iff_ne.mpr c102
                        have H' := Aside0.mk H
                        clear H
                        go_wp2
                        go_meet
                        case rel => exact ⟨_, ((x20_5 != (-1))), (by first | rfl | (simp; done) | (simp [*]; done)), H', ⟨by have := HJ4.out; have := HK2.out; have := HK3.out; have := HJ67.out; have := HK5.out; have := HJ92.out; first | omega | exact Nat.le_refl _⟩, ⟨by (with_reducible repeat (first | apply Kd.R_alloc | apply Kd.R_drewN | apply Kd.R_drew)); exact HO_10.out⟩, ⟨by (with_reducible repeat (first | apply Kd.R_alloc | apply Kd.R_drewN | apply Kd.R_drew)); exact HO_12.out⟩, ⟨by (with_reducible repeat (first | apply Kd.R_alloc | apply Kd.R_drewN | apply Kd.R_drew)); exact HO_18.out⟩, ⟨by (with_reducible repeat (first | refine blk_drewN ?_ _ | refine blk_drew ?_ | refine blk_alloc ?_ _)); exact BK322.out⟩, ⟨by repeat (first | (with_reducible first | exact HB.out | apply below_alloc | apply pw_below_drewN | apply below_drew1 | refine below_set ?_ GE322.out) | exact HB.out)⟩⟩
                     case rest =>
                      clear HC100
                      (try clear c1); (try clear c2); (try clear p2); (try clear q2); (try clear hx2); (try clear p3); (try clear q3); (try clear hx3); (try clear c6); (try clear p6); (try clear c7); (try clear c8); (try clear c9); (try clear q9); (try clear c10); (try clear c11); (try clear c12); (try clear c13); (try clear c14); (try clear c15); (try clear c16); (try clear c16b0); (try clear c18); (try clear c19); (try clear c21); (try clear c22); (try clear c24); (try clear c25); (try clear p28); (try clear q28); (try clear hx28); (try clear p30); (try clear q30); (try clear hx30); (try clear p32); (try clear q32); (try clear hx32); (try clear p33); (try clear q33); (try clear hx33); (try clear c62); (try clear c62b0); (try clear c63); (try clear c63b0); (try clear p64); (try clear c65); (try clear c65b0); (try clear c66); (try clear c66b0); (try clear c75); (try clear c78); (try clear c79); (try clear c79b0); (try clear c80); (try clear c80b0); (try clear c81); (try clear c81b0); (try clear c84); (try clear c84b0); (try clear c84b1); (try clear c85); (try clear c85b0); (try clear c86); (try clear c86b0); (try clear c88); (try clear c88b0); (try clear c88b1); (try clear c92); (try clear c92b0); (try clear c92b1); (try clear c94); (try clear c94b0); (try clear c95); (try clear c95b0); (try clear c96); (try clear c96b0); (try clear c96b1); (try clear q97); (try clear c98); (try clear c101); (try clear c101b0); (try clear c101b1); (try clear c101b2); (try clear c102); (try clear c102b0); (try clear c102b1); (try clear hcz73_0); (try clear hcz73_1); (try clear hcz73_2); (try clear hcz73_3); (try clear hcz73_4); (try clear hcz73_5); (try clear hcz73_6); (try clear hcz73_7); (try clear hcz73_8); (try clear hcz73_9); (try clear hcz99_0); (try clear hcz99_1); (try clear hcz99_2); (try clear hcz99_3); (try clear hcz99_4); (try clear hcz99_5); (try clear hcz99_6); (try clear hcz99_7); (try clear hcz99_8); (try clear hcz99_9); (try clear hfz73_0); (try clear hfz73_1); (try clear hfz73_2); (try clear hfz73_3); (try clear hfz73_4); (try clear hfz73_5); (try clear hfz73_6); (try clear hfz73_7); (try clear hfz73_8); (try clear hfz73_9); (try clear hfz99_0); (try clear hfz99_1); (try clear hfz99_2); (try clear hfz99_3); (try clear hfz99_4); (try clear hfz99_5); (try clear hfz99_6); (try clear hfz99_7); (try clear hfz99_8); (try clear hfz99_9); (try clear hx286_0); (try clear hx287_0); (try clear hx288_0); (try clear hx307_0); (try clear hx308_0); (try clear hx308_1); (try clear hx308_2); (try clear hx308_3); (try clear hx308_4); (try clear hx308_5); (try clear hx308_6); (try clear hx308_7); (try clear hx308_8); (try clear hx308_9); (try clear hx324_0); (try clear hx325_0); (try clear hx329_0); (try clear hx329_1); (try clear hx329_2); (try clear hx329_3); (try clear hx329_4); (try clear hx329_5); (try clear hx329_6); (try clear hx329_7); (try clear hx329_8); (try clear hx329_9); (try clear hx330_0); (try clear hx330_1); (try clear hx330_2); (try clear hx330_3); (try clear hx330_4); (try clear hx330_5); (try clear hx330_6); (try clear hx330_7); (try clear hx330_8); (try clear hx330_9); (try clear p2); (try clear p28); (try clear p286); (try clear p287); (try clear p288); (try clear p3); (try clear p30); (try clear p307); (try clear p308); (try clear p32); (try clear p324); (try clear p325); (try clear p329); (try clear p33); (try clear p330); (try clear p6); (try clear p64); (try clear q2); (try clear q28); (try clear q286); (try clear q287); (try clear q288); (try clear q3); (try clear q30); (try clear q307); (try clear q308); (try clear q32); (try clear q324); (try clear q325); (try clear q329); (try clear q33); (try clear q330); (try clear q9); (try clear q97)
                      obtain ⟨kq, x172_99, rfl, HA, HJ99, HO_10, HO_12, HO_18, BK322, HB⟩ := hcut
                      cases kq with
                      | zero => exact absurd HA.out (by simp [warplaw4_CufRoots.j8])
                      | succ kj99 =>
                       have H := HA.out
                       clear HA
                       simp only [warplaw4_CufRoots.j8] at H
                       by_cases c103 : x172_99 = true
                       ·
                        subst c103
                        have H1 : (some false) = some r := by rw [if_pos rfl] at H; exact H
                        clear H
                        have H := H1
                        clear H1
                        obtain rfl := Option.some.inj H
                        go_wp2
                        go_ret
                        exact ⟨by first | rfl | (simp [errW_none, errW_some] <;> rfl) | (simp only [← hji64]; first | rfl | (simp [errW_none, errW_some] <;> rfl)) | (simp [*, errW_none, errW_some] <;> rfl), by repeat (first | (with_reducible first | exact HB.out | apply below_alloc | apply pw_below_drewN | apply below_drew1 | refine below_set ?_ GE322.out) | exact HB.out)⟩
                       ·
                        replace c103 := Bool.eq_false_iff.mpr c103
                        subst c103
                        have H1 : (if 0 ≤ ji64 then (if ji64 < (x12_3.length : Int) then (warplaw4_CufRoots.l1 kj99 l3 (2 + ((l1.length : Int) % 14)) t280 t309 (x12_3.set (ji64 : Int).toNat (⟨(⟨t312, t313, t314⟩ : S28), t315, t316, t317, t318, t319, t320, t321⟩ : S31)) (wrap64 (x16_3 + 1))) else (none)) else (none)) = some r := by rw [if_neg (show ¬ (false = true) by decide)] at H; exact H
                        clear H
                        have H := H1
                        clear H1
                        by_cases c104 : 0 ≤ ji64
                        ·
                         rw [if_pos c104] at H
                         have c104b0 : decide (0 ≤ ji64) = true := decide_eq_true c104
                         clear c104
                         by_cases c105 : ji64 < (x12_3.length : Int)
                         ·
                          rw [if_pos c105] at H
                          have c105b0 : decide (ji64 < (x12_3.length : Int)) = true := decide_eq_true c105
                          clear c105
                          obtain ⟨y331, hy331⟩ : ∃ y_ : List (S31), y_ = (x12_3.set (ji64 : Int).toNat (⟨(⟨t312, t313, t314⟩ : S28), t315, t316, t317, t318, t319, t320, t321⟩ : S31)) := ⟨_, rfl⟩
                          replace H : (warplaw4_CufRoots.l1 kj99 l3 (2 + ((l1.length : Int) % 14)) t280 t309 y331 (wrap64 (x16_3 + 1))) = some r := by first | (rw [hy331]; with_reducible exact H) | (have H2_ := (Option.bind_some _ _).symm.trans H; rw [hy331]; with_reducible exact H2_) | (have H2_ := (Option.bind_some _ _).symm.trans H; with_reducible exact H2_) | with_reducible exact H | (rw [hy331]; exact H) | exact H
                          have Ny331 := Aside0.mk hy331
                          clear hy331
                          have H' := Aside0.mk H
                          clear H
                          have hcz107_0 : wc.cell? ⟨gb322, 0, none⟩ = some (.int .i64 t312) := (blk_cell BK322.out 0).trans rfl
                          have hcz107_1 : wc.cell? ⟨gb322, 1, none⟩ = some (.int .i64 t313) := (blk_cell BK322.out 1).trans rfl
                          have hcz107_2 : wc.cell? ⟨gb322, 2, none⟩ = some (.int .i64 t314) := (blk_cell BK322.out 2).trans rfl
                          have hcz107_3 : wc.cell? ⟨gb322, 3, none⟩ = some (.int .i64 t315) := (blk_cell BK322.out 3).trans rfl
                          have hcz107_4 : wc.cell? ⟨gb322, 4, none⟩ = some (.int .i64 t316) := (blk_cell BK322.out 4).trans rfl
                          have hcz107_5 : wc.cell? ⟨gb322, 5, none⟩ = some (.int .i64 t317) := (blk_cell BK322.out 5).trans rfl
                          have hcz107_6 : wc.cell? ⟨gb322, 6, none⟩ = some (.int .i64 t318) := (blk_cell BK322.out 6).trans rfl
                          have hcz107_7 : wc.cell? ⟨gb322, 7, none⟩ = some (.int .i64 t319) := (blk_cell BK322.out 7).trans rfl
                          have hcz107_8 : wc.cell? ⟨gb322, 8, none⟩ = some (.bool t320) := (blk_cell BK322.out 8).trans rfl
                          have hcz107_9 : wc.cell? ⟨gb322, 9, none⟩ = some (.int .i64 t321) := (blk_cell BK322.out 9).trans rfl
                          have hfz107_0 := blk_frozen BK322.out 0
                          have hfz107_1 := blk_frozen BK322.out 1
                          have hfz107_2 := blk_frozen BK322.out 2
                          have hfz107_3 := blk_frozen BK322.out 3
                          have hfz107_4 := blk_frozen BK322.out 4
                          have hfz107_5 := blk_frozen BK322.out 5
                          have hfz107_6 := blk_frozen BK322.out 6
                          have hfz107_7 := blk_frozen BK322.out 7
                          have hfz107_8 := blk_frozen BK322.out 8
                          have hfz107_9 := blk_frozen BK322.out 9
                          have p106 : 0 ≤ (ji64 : Int) := of_decide_eq_true (by first | (with_reducible assumption) | assumption)
                          have q106 : (ji64 : Int) < ((x12_3.length : Int) : Int) := of_decide_eq_true (by first | (with_reducible assumption) | assumption)
                          obtain ⟨go106, co106, eo106, gb106, gl106, cl106, HG106⟩ := Kd.R_form HO_12.out (by omega)
                          (first | cases eo106 | (injection eo106 with ea_ en_ ec_; (first | subst ea_ | (injection ea_ with ea_; subst ea_)); subst ec_; clear en_))
                          have GB106 := Aside0.mk gb106
                          have GG106 := Aside0.mk HG106
                          clear gb106 gl106 HG106
                          (first | simp only [add_plain] at hx308_0 | skip)
                          (first | simp only [add_plain] at hx308_1 | skip)
                          (first | simp only [add_plain] at hx308_2 | skip)
                          (first | simp only [add_plain] at hx308_3 | skip)
                          (first | simp only [add_plain] at hx308_4 | skip)
                          (first | simp only [add_plain] at hx308_5 | skip)
                          (first | simp only [add_plain] at hx308_6 | skip)
                          (first | simp only [add_plain] at hx308_7 | skip)
                          (first | simp only [add_plain] at hx308_8 | skip)
                          (first | simp only [add_plain] at hx308_9 | skip)
                          (first | simp only [add_plain] at hx329_0 | skip)
                          (first | simp only [add_plain] at hx329_1 | skip)
                          (first | simp only [add_plain] at hx329_2 | skip)
                          (first | simp only [add_plain] at hx329_3 | skip)
                          (first | simp only [add_plain] at hx329_4 | skip)
                          (first | simp only [add_plain] at hx329_5 | skip)
                          (first | simp only [add_plain] at hx329_6 | skip)
                          (first | simp only [add_plain] at hx329_7 | skip)
                          (first | simp only [add_plain] at hx329_8 | skip)
                          (first | simp only [add_plain] at hx329_9 | skip)
                          (first | simp only [add_plain] at hx330_0 | skip)
                          (first | simp only [add_plain] at hx330_1 | skip)
                          (first | simp only [add_plain] at hx330_2 | skip)
                          (first | simp only [add_plain] at hx330_3 | skip)
                          (first | simp only [add_plain] at hx330_4 | skip)
                          (first | simp only [add_plain] at hx330_5 | skip)
                          (first | simp only [add_plain] at hx330_6 | skip)
                          (first | simp only [add_plain] at hx330_7 | skip)
                          (first | simp only [add_plain] at hx330_8 | skip)
                          (first | simp only [add_plain] at hx330_9 | skip)
                          obtain ⟨ce106, hcl106, hM106, hcc106, hfr106⟩ := Kd.R_elem HO_12.out z31 (ji64 : Int) p106 q106
                          obtain rfl := k31_openM hM106
                          have hx106_0 : wc.cell? ⟨go106, (ji64 : Int).toNat * 10, none⟩ = some (.int .i64 ((rd_T31 x12_3 ji64).f0.f0)) := hcc106 0 _ rfl
                          have hx106_1 : wc.cell? ⟨go106, (ji64 : Int).toNat * 10 + 1, none⟩ = some (.int .i64 ((rd_T31 x12_3 ji64).f0.f1)) := hcc106 1 _ rfl
                          have hx106_2 : wc.cell? ⟨go106, (ji64 : Int).toNat * 10 + 2, none⟩ = some (.int .i64 ((rd_T31 x12_3 ji64).f0.f2)) := hcc106 2 _ rfl
                          have hx106_3 : wc.cell? ⟨go106, (ji64 : Int).toNat * 10 + 3, none⟩ = some (.int .i64 ((rd_T31 x12_3 ji64).f1)) := hcc106 3 _ rfl
                          have hx106_4 : wc.cell? ⟨go106, (ji64 : Int).toNat * 10 + 4, none⟩ = some (.int .i64 ((rd_T31 x12_3 ji64).f2)) := hcc106 4 _ rfl
                          have hx106_5 : wc.cell? ⟨go106, (ji64 : Int).toNat * 10 + 5, none⟩ = some (.int .i64 ((rd_T31 x12_3 ji64).f3)) := hcc106 5 _ rfl
                          have hx106_6 : wc.cell? ⟨go106, (ji64 : Int).toNat * 10 + 6, none⟩ = some (.int .i64 ((rd_T31 x12_3 ji64).f4)) := hcc106 6 _ rfl
                          have hx106_7 : wc.cell? ⟨go106, (ji64 : Int).toNat * 10 + 7, none⟩ = some (.int .i64 ((rd_T31 x12_3 ji64).f5)) := hcc106 7 _ rfl
                          have hx106_8 : wc.cell? ⟨go106, (ji64 : Int).toNat * 10 + 8, none⟩ = some (.bool ((rd_T31 x12_3 ji64).f6)) := hcc106 8 _ rfl
                          have hx106_9 : wc.cell? ⟨go106, (ji64 : Int).toNat * 10 + 9, none⟩ = some (.int .i64 ((rd_T31 x12_3 ji64).f7)) := hcc106 9 _ rfl
                          have hf106_0 : wc.frozen? ⟨go106, (ji64 : Int).toNat * 10, none⟩ = false := hfr106 0
                          have hf106_1 : wc.frozen? ⟨go106, (ji64 : Int).toNat * 10 + 1, none⟩ = false := hfr106 1
                          have hf106_2 : wc.frozen? ⟨go106, (ji64 : Int).toNat * 10 + 2, none⟩ = false := hfr106 2
                          have hf106_3 : wc.frozen? ⟨go106, (ji64 : Int).toNat * 10 + 3, none⟩ = false := hfr106 3
                          have hf106_4 : wc.frozen? ⟨go106, (ji64 : Int).toNat * 10 + 4, none⟩ = false := hfr106 4
                          have hf106_5 : wc.frozen? ⟨go106, (ji64 : Int).toNat * 10 + 5, none⟩ = false := hfr106 5
                          have hf106_6 : wc.frozen? ⟨go106, (ji64 : Int).toNat * 10 + 6, none⟩ = false := hfr106 6
                          have hf106_7 : wc.frozen? ⟨go106, (ji64 : Int).toNat * 10 + 7, none⟩ = false := hfr106 7
                          have hf106_8 : wc.frozen? ⟨go106, (ji64 : Int).toNat * 10 + 8, none⟩ = false := hfr106 8
                          have hf106_9 : wc.frozen? ⟨go106, (ji64 : Int).toNat * 10 + 9, none⟩ = false := hfr106 9
                          clear hcl106 hcc106 hfr106 hM106
                          replace p106 := eq_true p106
                          replace q106 := eq_true q106
                          have HX108 := Aside0.mk (show Kd.R k31 31 wc w.heap.size (fun k_ => k_ ≠ gb322) (.slice (some ⟨go106, 0, none⟩) x12_3.length co69) x12_3 from (by (with_reducible repeat (first | apply Kd.R_alloc | apply Kd.R_drewN | apply Kd.R_drew)); exact HO_12.out))
                          obtain ⟨ce108, hcl108, hM108, hcc108, hfr108⟩ := Kd.R_elem HX108.out z31 (ji64 : Int) (of_decide_eq_true (by first | (with_reducible assumption) | assumption)) (by have h_ : (ji64 : Int) < ((x12_3.length : Int) : Int) := of_decide_eq_true (by first | (with_reducible assumption) | assumption); first | exact h_ | (have e_ := (Kd.R_reads' HO_12.out).1; omega) | simpa using h_)
                          obtain rfl := k31_openM hM108
                          have HP108 := Kd.R_seg HX108.out (ji64 : Int) (of_decide_eq_true (by first | (with_reducible assumption) | assumption)) (by have h_ : (ji64 : Int) < ((x12_3.length : Int) : Int) := of_decide_eq_true (by first | (with_reducible assumption) | assumption); first | exact h_ | (have e_ := (Kd.R_reads' HO_12.out).1; omega) | simpa using h_) (seg := [.int .i64 t312, .int .i64 t313, .int .i64 t314, .int .i64 t315, .int .i64 t316, .int .i64 t317, .int .i64 t318, .int .i64 t319, .bool t320, .int .i64 t321]) (j := 0) hcl108 hcc108 (show 10 ≤ 10 from by decide) (x' := (⟨(⟨t312, t313, t314⟩ : S28), t315, t316, t317, t318, t319, t320, t321⟩ : S31)) (k31_mkM _ _ _ (⟨(⟨t312, t313, t314⟩ : S28), t315, t316, t317, t318, t319, t320, t321⟩ : S31) ) (fun _ hk => hk)
                          have hx108_0 := hcc108 0 _ rfl
                          (try simp only [show (k31).sz = 10 from rfl, Nat.mul_one, Nat.add_zero] at hx108_0)
                          have hf108_0 := hfr108 0
                          (try simp only [show (k31).sz = 10 from rfl, Nat.mul_one, Nat.add_zero] at hf108_0)
                          have hx108_1 := hcc108 1 _ rfl
                          (try simp only [show (k31).sz = 10 from rfl, Nat.mul_one, Nat.add_zero] at hx108_1)
                          have hf108_1 := hfr108 1
                          (try simp only [show (k31).sz = 10 from rfl, Nat.mul_one, Nat.add_zero] at hf108_1)
                          have hx108_2 := hcc108 2 _ rfl
                          (try simp only [show (k31).sz = 10 from rfl, Nat.mul_one, Nat.add_zero] at hx108_2)
                          have hf108_2 := hfr108 2
                          (try simp only [show (k31).sz = 10 from rfl, Nat.mul_one, Nat.add_zero] at hf108_2)
                          have hx108_3 := hcc108 3 _ rfl
                          (try simp only [show (k31).sz = 10 from rfl, Nat.mul_one, Nat.add_zero] at hx108_3)
                          have hf108_3 := hfr108 3
                          (try simp only [show (k31).sz = 10 from rfl, Nat.mul_one, Nat.add_zero] at hf108_3)
                          have hx108_4 := hcc108 4 _ rfl
                          (try simp only [show (k31).sz = 10 from rfl, Nat.mul_one, Nat.add_zero] at hx108_4)
                          have hf108_4 := hfr108 4
                          (try simp only [show (k31).sz = 10 from rfl, Nat.mul_one, Nat.add_zero] at hf108_4)
                          have hx108_5 := hcc108 5 _ rfl
                          (try simp only [show (k31).sz = 10 from rfl, Nat.mul_one, Nat.add_zero] at hx108_5)
                          have hf108_5 := hfr108 5
                          (try simp only [show (k31).sz = 10 from rfl, Nat.mul_one, Nat.add_zero] at hf108_5)
                          have hx108_6 := hcc108 6 _ rfl
                          (try simp only [show (k31).sz = 10 from rfl, Nat.mul_one, Nat.add_zero] at hx108_6)
                          have hf108_6 := hfr108 6
                          (try simp only [show (k31).sz = 10 from rfl, Nat.mul_one, Nat.add_zero] at hf108_6)
                          have hx108_7 := hcc108 7 _ rfl
                          (try simp only [show (k31).sz = 10 from rfl, Nat.mul_one, Nat.add_zero] at hx108_7)
                          have hf108_7 := hfr108 7
                          (try simp only [show (k31).sz = 10 from rfl, Nat.mul_one, Nat.add_zero] at hf108_7)
                          have hx108_8 := hcc108 8 _ rfl
                          (try simp only [show (k31).sz = 10 from rfl, Nat.mul_one, Nat.add_zero] at hx108_8)
                          have hf108_8 := hfr108 8
                          (try simp only [show (k31).sz = 10 from rfl, Nat.mul_one, Nat.add_zero] at hf108_8)
                          have hx108_9 := hcc108 9 _ rfl
                          (try simp only [show (k31).sz = 10 from rfl, Nat.mul_one, Nat.add_zero] at hx108_9)
                          have hf108_9 := hfr108 9
                          (try simp only [show (k31).sz = 10 from rfl, Nat.mul_one, Nat.add_zero] at hf108_9)
                          clear hcl108 hcc108 hfr108 hM108
                          go_wp2_with (first | ((with_reducible refine gate_store (t := 31) (p := 177) rfl ?_); refine store_event (t := 31) (p := 177) (v := ?vo_w109) (w1 := ((((((((((wc.setCell ⟨go106, (ji64 : Int).toNat * 10, none⟩ (.int .i64 t312)).setCell ⟨go106, (ji64 : Int).toNat * 10 + 1, none⟩ (.int .i64 t313)).setCell ⟨go106, (ji64 : Int).toNat * 10 + 2, none⟩ (.int .i64 t314)).setCell ⟨go106, (ji64 : Int).toNat * 10 + 3, none⟩ (.int .i64 t315)).setCell ⟨go106, (ji64 : Int).toNat * 10 + 4, none⟩ (.int .i64 t316)).setCell ⟨go106, (ji64 : Int).toNat * 10 + 5, none⟩ (.int .i64 t317)).setCell ⟨go106, (ji64 : Int).toNat * 10 + 6, none⟩ (.int .i64 t318)).setCell ⟨go106, (ji64 : Int).toNat * 10 + 7, none⟩ (.int .i64 t319)).setCell ⟨go106, (ji64 : Int).toNat * 10 + 8, none⟩ (.bool t320)).setCell ⟨go106, (ji64 : Int).toNat * 10 + 9, none⟩ (.int .i64 t321))) ?hg ?ho ?hn ?hr ?_; (case ho => rfl); (case hg => rfl); (case hn => rfl); (case hr => first | (go_simp; done) | (go_simp; rfl)); intro w109 hw; have hg : wc.grownBy w109 (some go106) := (by rw [hw]; exact HP108.2); have hp_ : Kd.R k31 31 w109 w.heap.size (fun k_ => k_ ≠ gb322) (.slice (some ⟨go106, 0, none⟩) x12_3.length co69) y331 := (by rw [hw, Ny331.out]; exact HP108.1); clear HP108; have n0_ := Aside0.mk (Kd.R_over' (v := (.slice (some ⟨go106, 0, none⟩) x12_3.length co69)) (by (with_reducible repeat (first | apply Kd.R_alloc | apply Kd.R_drewN | apply Kd.R_drew)); exact HO_10.out) (Kd.R_typed HO_12.out) (by decide) hg); have n1_ := Aside0.mk (hp_); have n2_ := Aside0.mk (Kd.R_over' (v := (.slice (some ⟨go106, 0, none⟩) x12_3.length co69)) (by (with_reducible repeat (first | apply Kd.R_alloc | apply Kd.R_drewN | apply Kd.R_drew)); exact HO_18.out) (Kd.R_typed HO_12.out) (by decide) hg); have n3_ := Aside0.mk (blk_grown (g := gb322) (o := .cells #[.int .i64 t312, .int .i64 t313, .int .i64 t314, .int .i64 t315, .int .i64 t316, .int .i64 t317, .int .i64 t318, .int .i64 t319, .bool t320, .int .i64 t321] 31 (0, 0)) (by (with_reducible repeat (first | refine blk_drewN ?_ _ | refine blk_drew ?_ | refine blk_alloc ?_ _)); exact BK322.out) hg (Kd.R_away HO_12.out (fun _ hk => hk))); have n4_ := Aside0.mk ((by rw [hw]; exact below_set (below_set (below_set (below_set (below_set (below_set (below_set (below_set (below_set (below_set (HB.out) GB106.out) GB106.out) GB106.out) GB106.out) GB106.out) GB106.out) GB106.out) GB106.out) GB106.out) GB106.out : Below w.heap.size w w109)); clear HO_10; clear HO_12; clear HO_18; clear BK322; clear HB; have HO_10 := n0_; have HO_12 := n1_; have HO_18 := n2_; have BK322 := n3_; have HB := n4_; clear n0_ n1_ n2_ n3_ n4_; clear hg hw hp_))
                          go_roundg kj99
                          case measure => have := HJ4.out; have := HK2.out; have := HK3.out; have := HJ67.out; have := HK5.out; have := HJ92.out; have := HJ99.out; omega
                          case rel => exact ⟨(t309), (y331), (wrap64 (x16_3 + 1)), (by first | rfl | (simp; done) | (simp [*]; done)), H', ⟨by have := HJ4.out; have := HK2.out; have := HK3.out; have := HJ67.out; have := HK5.out; have := HJ92.out; have := HJ99.out; omega⟩, ⟨by (with_reducible repeat (first | apply Kd.R_alloc | apply Kd.R_drewN | apply Kd.R_drew)); exact HO_10.out⟩, ⟨by (with_reducible repeat (first | apply Kd.R_alloc | apply Kd.R_drewN | apply Kd.R_drew)); exact HO_18.out⟩, ⟨by (with_reducible repeat (first | apply Kd.R_alloc | apply Kd.R_drewN | apply Kd.R_drew)); exact Kd.R_mono HO_12.out (fun _ hk => trivial)⟩, ⟨by repeat (first | (with_reducible first | exact HB.out | apply below_alloc | apply pw_below_drewN | apply below_drew1 | refine below_set ?_ GE322.out) | exact HB.out)⟩⟩
                         ·
                          rw [if_neg c105] at H
                          exact absurd H (by simp)
                        ·
                         rw [if_neg c104] at H
                         exact absurd H (by simp)
            ·
             rw [if_neg c66] at H
             exact absurd H (by simp)
           ·
            rw [if_neg c65] at H
            exact absurd H (by simp)
          ·
           rw [if_neg c63] at H
           exact absurd H (by simp)
         ·
          rw [if_neg c62] at H
          have c62b0 : decide (x16_3 < (l3.length : Int)) = false := decide_eq_false c62
          clear c62
          replace H := Option.bind_eq_some_iff.mp H
          obtain ⟨t332, A1100, H⟩ := H
          replace H : (some t332) = some r := H
          have A110 := Aside0.mk A1100
          clear A1100
          obtain rfl := Option.some.inj H
          go_wp2_with (first | ((with_reducible refine gate_callee (f := 8) rfl ?_); refine goesL_ (some 178) rfl rfl Try.func8 (by kernel_rfl) rfl #[] rfl (by (try simp only [List.map_toArray, List.map_cons, List.map_nil]); first | done | rfl | (simp only [List.length_drop, List.length_take]; rfl)) ?_; (with_reducible refine (warplaw4_awake.calls  t332 _ A110.out).mono ?_); rintro e w111 ⟨rfl, hb⟩; refine ⟨_, rfl, ?_⟩; have n0_ := Aside0.mk (Kd.R_below (by (with_reducible repeat (first | apply Kd.R_alloc | apply Kd.R_drewN | apply Kd.R_drew)); exact HO_10.out) hb); have n1_ := Aside0.mk (Kd.R_below (by (with_reducible repeat (first | apply Kd.R_alloc | apply Kd.R_drewN | apply Kd.R_drew)); exact HO_11.out) hb); have n2_ := Aside0.mk (Kd.R_below (by (with_reducible repeat (first | apply Kd.R_alloc | apply Kd.R_drewN | apply Kd.R_drew)); exact HO_12.out) hb); have n3_ := Aside0.mk (below_step (by repeat (first | (with_reducible first | exact HB.out | apply below_alloc | apply pw_below_drewN | apply below_drew1) | exact HB.out)) hb); clear HO_10; clear HO_11; clear HO_12; clear HB; have HO_10 := n0_; have HO_11 := n1_; have HO_12 := n2_; have HB := n3_; clear n0_ n1_ n2_ n3_; (try clear hb); (try clear hb2); (try clear hk); (try clear hi)))
          go_ret
          exact ⟨by first | rfl | (simp [errW_none, errW_some] <;> rfl) | (simp [*, errW_none, errW_some] <;> rfl), by repeat (first | (with_reducible first | exact HB.out | apply below_alloc | apply pw_below_drewN | apply below_drew1) | exact HB.out)⟩

/-- THE ONE PURE STATEMENT of warplaw4_CufRoots: yours. -/
def warplaw4_CufRoots.Pure : Prop := ∀ (l0 : List Int) (l1 : List Int) (l2 : List Int) (l3 : List Int), l0.length ≤ maxLen → l0.length * 1 ≤ 140737488351232 → (∀ x ∈ l0, (Lit.int .u8 x).wf = true) → l1.length ≤ maxLen → l1.length * 1 ≤ 140737488351232 → (∀ x ∈ l1, (Lit.int .u8 x).wf = true) → l2.length ≤ maxLen → l2.length * 1 ≤ 140737488351232 → (∀ x ∈ l2, (Lit.int .u8 x).wf = true) → l3.length ≤ maxLen → l3.length * 1 ≤ 140737488351232 → (∀ x ∈ l3, (Lit.int .u8 x).wf = true) → ∃ k, warplaw4_CufRoots.f k l0 l1 l2 l3 = some true
theorem warplaw4_CufRoots.walk (P : warplaw4_CufRoots.Pure) (a0 : Option Addr) (len0 cap0 : Nat) (z0 : List Int) (a1 : Option Addr) (len1 cap1 : Nat) (z1 : List Int) (a2 : Option Addr) (len2 cap2 : Nat) (z2 : List Int) (a3 : Option Addr) (len3 cap3 : Nat) (z3 : List Int) (w : World) (w0 : (a0 = none ∧ len0 = 0 ∧ cap0 = 0 ∧ z0 = []) ∨ ∃ x, a0 = some x ∧ len0 ≤ cap0 ∧ cap0 ≤ maxLen ∧ z0.length = cap0 ∧ (∀ i, i < z0.length → w.cell? (x.add i) = some (.int .u8 (z0.getD i 0))) ∧ ∀ n ∈ z0, (Lit.int .u8 n).wf = true) (y0 : len0 * 1 ≤ 140737488351232) (w1 : (a1 = none ∧ len1 = 0 ∧ cap1 = 0 ∧ z1 = []) ∨ ∃ x, a1 = some x ∧ len1 ≤ cap1 ∧ cap1 ≤ maxLen ∧ z1.length = cap1 ∧ (∀ i, i < z1.length → w.cell? (x.add i) = some (.int .u8 (z1.getD i 0))) ∧ ∀ n ∈ z1, (Lit.int .u8 n).wf = true) (y1 : len1 * 1 ≤ 140737488351232) (w2 : (a2 = none ∧ len2 = 0 ∧ cap2 = 0 ∧ z2 = []) ∨ ∃ x, a2 = some x ∧ len2 ≤ cap2 ∧ cap2 ≤ maxLen ∧ z2.length = cap2 ∧ (∀ i, i < z2.length → w.cell? (x.add i) = some (.int .u8 (z2.getD i 0))) ∧ ∀ n ∈ z2, (Lit.int .u8 n).wf = true) (y2 : len2 * 1 ≤ 140737488351232) (w3 : (a3 = none ∧ len3 = 0 ∧ cap3 = 0 ∧ z3 = []) ∨ ∃ x, a3 = some x ∧ len3 ≤ cap3 ∧ cap3 ≤ maxLen ∧ z3.length = cap3 ∧ (∀ i, i < z3.length → w.cell? (x.add i) = some (.int .u8 (z3.getD i 0))) ∧ ∀ n ∈ z3, (Lit.int .u8 n).wf = true) (y3 : len3 * 1 ≤ 140737488351232) :
 Calls Try.prog 4 #[.slice a0 len0 cap0, .slice a1 len1 cap1, .slice a2 len2 cap2, .slice a3 len3 cap3] w fun e w' => e = .returned (.bool true) ∧ Below w.heap.size w w' := by
 obtain ⟨l0, rfl, hr0, hm0, hw0, hc0⟩ := ReadsInt.ofRowC w0
 obtain ⟨l1, rfl, hr1, hm1, hw1, hc1⟩ := ReadsInt.ofRowC w1
 obtain ⟨l2, rfl, hr2, hm2, hw2, hc2⟩ := ReadsInt.ofRowC w2
 obtain ⟨l3, rfl, hr3, hm3, hw3, hc3⟩ := ReadsInt.ofRowC w3
 obtain ⟨k, h⟩ := P l0 l1 l2 l3 hm0 y0 hw0 hm1 y1 hw1 hm2 y2 hw2 hm3 y3 hw3
 refine (warplaw4_CufRoots.calls k _ _ l0 _ _ l1 _ _ l2 _ _ l3 true w (Kd.C_of_reads (d := (0 : Int)) (h1 := fun _ => rfl) hr0) hc0 (Kd.C_of_reads (d := (0 : Int)) (h1 := fun _ => rfl) hr1) hc1 (Kd.C_of_reads (d := (0 : Int)) (h1 := fun _ => rfl) hr2) hc2 (Kd.C_of_reads (d := (0 : Int)) (h1 := fun _ => rfl) hr3) hc3 h).mono ?_
 rintro e w' ⟨rfl, hd⟩
 exact ⟨rfl, hd⟩

end Go.Proofs.Ytcppmfmlafnmfaa.P
