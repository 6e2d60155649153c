/-
What the row's listed variable gives a walk: math/bits.deBruijn64tab's table lies in its variable; and a world in which it does.
-/
import Derived.Test.YtmaiicpaalbcfaaDoorTab
import Derived.Test.YtmaiicpaalbcfaaDoorOpenZ
import Derived.ChangeSame
import Derived.ChangeVars
import Derived.JoinedOf
import Derived.RowKitTokens
import Derived.LaidLaws
import Derived.LaidHandle
import Derived.Stop.Joined
namespace Go.Proofs.YtmaiicpaalbcfaaDoor
open Go.ChangeShapes Go.WideShapes Go.RowKit
theorem tab_global : Tryd.prog.globalNamed "math/bits.deBruijn64tab" = some 0 := by kernel_rfl
theorem tab_type : (Tryd.prog.globals[0]?).map (·.type) = some 105 := by kernel_rfl
theorem tab_cell : Tryd.prog.cellsOf 5 = 1 := by kernel_rfl
def tabCells : Array Value := (Lib.deBruijn64tab.map fun (n : Nat) => Value.int .u8 (n : Int)).toArray
theorem laid_eq {H : Type} : (Rows.laid_math_bits_deBruijn64tab : DataW H) = .agg (Lib.deBruijn64tab.map fun (n : Nat) => .lit (.int .u8 (n : Int))) := by rfl
theorem tab_of_laid {W : World} (h : laidMet Tryd.prog [("math/bits.deBruijn64tab", Rows.laid_math_bits_deBruijn64tab)] W) : Tab W := by
  obtain ⟨ps, ⟨g, t, cs, fuel, p, q, hg, ht, hvar, hd, _, _⟩, _⟩ := h
  obtain rfl := Option.some.inj (tab_global.symm.trans hg)
  obtain rfl := Option.some.inj (tab_type.symm.trans ht)
  obtain ⟨xs, m, _, hx, _, hl, hel⟩ := DataW.trod_array Tryd.underlying105 hd
  simp only [Prod.mk.injEq, laid_eq, DataW.agg.injEq] at hx
  intro j hj
  have hj64 : j < 64 := hj
  have h1 := hel j hj64
  rw [List.getElem?_eq_getElem (by omega), tab_cell, Nat.mul_one] at h1
  obtain ⟨n, h2, h3, _⟩ := DataW.trod_int Tryd.underlying5 h1
  have h4 : (xs.map (·.1))[j]? = some (.lit (.int .u8 n)) := by rw [List.getElem?_map, List.getElem?_eq_getElem (by omega), h3]; rfl
  rw [← hx.1, List.getElem?_map, List.getElem?_eq_getElem hj] at h4
  simp only [Option.map_some, Option.some.injEq, DataW.lit.injEq, Lit.int.injEq, true_and] at h4
  have h5 : cs[j]? = some (Value.int .u8 n) := by
    have h6 := congrArg List.head? h2
    rw [List.head?_take, List.head?_drop] at h6
    simpa using h6
  have h7 := World.var?_cell hg hvar j
  rw [h7, h5, ← h4, List.getD_eq_getElem?_getD, List.getElem?_eq_getElem hj]
  rfl
/-- a world in which the table lies -/
noncomputable def laidWorld (os : Os) : World :=
  { World.holding Tryd.prog os ⟨#[], #[], []⟩ with heap := (World.holding Tryd.prog os ⟨#[], #[], []⟩).heap.modify 0 fun
      | .cells _ t frozen => .cells tabCells t frozen
      | o => o }
theorem laidWorld_row (os : Os) (args : Array Value) : ((laidWorld os).forCall (fun _ _ => 0) ⟨#[], args, []⟩).memory.heap[0]? = some (.cells tabCells 105 (0, 0)) := by kernel_rfl
theorem tabCells_int : ∀ v ∈ tabCells.toList, ∃ n, v = .int .u8 n := by
  intro v hv
  simp only [tabCells, List.mem_map] at hv
  obtain ⟨n, _, rfl⟩ := hv
  exact ⟨_, rfl⟩
set_option maxRecDepth 100000 in
theorem laidWorld_met (os : Os) (args : Array Value) : laidMet Tryd.prog [("math/bits.deBruijn64tab", Rows.laid_math_bits_deBruijn64tab)] ((laidWorld os).forCall (fun _ _ => 0) ⟨#[], args, []⟩).memory := by
  refine ⟨_, ⟨0, 105, tabCells, 8, [], [], tab_global, tab_type, by kernel_rfl, by kernel_rfl, rfl, rfl⟩, by decide +kernel, fun b off h => ?_⟩
  have hb : b = 0 := by
    simp only [List.append_nil, MemPlace.row, List.mem_map] at h
    obtain ⟨i, _, hi⟩ := h
    injection hi with h1 h2
    exact h1.symm
  subst hb
  refine ⟨⟨_, _, laidWorld_row os args⟩, fun u v hc => ?_⟩
  simp only [World.cell?, laidWorld_row os args] at hc
  have hm : (Value.iface u v) ∈ tabCells.toList := by
    have := List.mem_of_getElem? (l := tabCells.toList) (i := off) (a := .iface u v) (by simpa using hc)
    exact this
  obtain ⟨n, hn⟩ := tabCells_int _ hm
  cases hn
end Go.Proofs.YtmaiicpaalbcfaaDoor
