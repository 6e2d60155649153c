/-
A set of pairs as a map that the call itself has made: what it holds, and what a look into it says; of pairs of whole numbers.
-/
import Derived.Test.YtffhaeefldbahaaPartH
import Derived.Maps.Own
import Derived.Maps.OwnSet
import Derived.Maps.Views
import Derived.DeepKeys4
namespace Go.Proofs.Ytffhaeefldbahaa
open Go.RowKit Go.Maps Go.ChangeMaps
def pv (p : Int × Int) : Value := .agg #[.int .i64 p.1, .int .i64 p.2]
def In64 (p : Int × Int) : Prop := (Lit.int .i64 p.1).wf = true ∧ (Lit.int .i64 p.2).wf = true
theorem hrow45 : 45 < Try.prog.types.size := of_decide_eq_true (by kernel_rfl)
theorem kMap : Keyed Try.prog 45 := Keyed.of_law (deep_law_laid (by kernel_rfl) (m := 5) (by omega) hrow45 (by kernel_rfl) (by kernel_rfl))
theorem kt45 : Try.prog.keyType 45 = true := by kernel_rfl
theorem co45 : Try.prog.cellsOf 45 = 2 := by kernel_rfl
theorem co3 : Try.prog.cellsOf 3 = 1 := by kernel_rfl
theorem lits3 (d : Nat) (x : Int) (h : (Lit.int .i64 x).wf = true) : Try.prog.keyLits (d + 1) 3 [.int .i64 x] = some [.int .i64 x] := by
  unfold Program.keyLits
  rw [Try.underlying3]
  exact if_pos ⟨rfl, h⟩
theorem lits45 (d : Nat) (p : Int × Int) (h : In64 p) : Try.prog.keyLits (d + 1 + 1) 45 [.int .i64 p.1, .int .i64 p.2] = some [.int .i64 p.1, .int .i64 p.2] := by
  unfold Program.keyLits
  rw [Try.underlying45]
  show (if [Value.int .i64 p.1, Value.int .i64 p.2].length = Try.prog.cellsOf 45 then Option.map List.flatten (List.mapM (fun i => Try.prog.keyLits (d + 1) 3 (List.take (Try.prog.cellsOf 3) (List.drop (i * Try.prog.cellsOf 3) [Value.int .i64 p.1, Value.int .i64 p.2]))) (List.range 2)) else none) = _
  rw [if_pos (by rw [co45]; rfl), co3]
  show Option.map List.flatten (List.mapM _ [0, 1]) = _
  rw [List.mapM_cons, List.mapM_cons, List.mapM_nil]
  show Option.map List.flatten ((Try.prog.keyLits (d + 1) 3 [.int .i64 p.1]).bind fun a => ((Try.prog.keyLits (d + 1) 3 [.int .i64 p.2]).bind fun b => some [b]).bind fun r => some (a :: r)) = _
  rw [lits3 d _ h.1, lits3 d _ h.2]
  rfl
theorem key_is (p : Int × Int) (h : In64 p) : ∃ l, keyOf Try.prog 45 (pv p) = some l := by
  obtain ⟨d, hd⟩ : ∃ d, Try.prog.types.size + 1 = d + 1 + 1 := ⟨Try.prog.types.size - 1, by have := hrow45; omega⟩
  refine ⟨.string (keyBytes [.int .i64 p.1, .int .i64 p.2]), ?_⟩
  unfold keyOf
  rw [Try.underlying45, hd]
  show (if (Try.prog.keyType 45 && (pv p).formed Try.prog 45) = true then _ else _) = _
  rw [kt45, if_pos (by show (true && (pv p).formed Try.prog 45) = true; unfold pv Value.formed; rw [Try.underlying45, co45]; rfl)]
  show Option.map _ (Try.prog.keyLits (d + 1 + 1) 45 [.int .i64 p.1, .int .i64 p.2]) = _
  rw [lits45 d p h]
  rfl
/-- The map holds just the pairs of a list. -/
def Had (b : Nat) (l : List (Int × Int)) (w : World) : Prop :=
  ∃ (n : Nat) (D : DataW Unit), n ≤ l.length ∧ w.ownsMap Try.prog 45 (plainElem Try.prog 4) b n D ∧ IsMap D ∧
    ∀ p kl, keyOf Try.prog 45 (pv p) = some kl → ∀ z, D.atKey kl (.lit (.bool z)) = .lit (.bool (decide (p ∈ l) || z))
theorem plain4 (x : Bool) : plainElem (H := Unit) Try.prog 4 (.bool x) = some (.lit (.bool x), []) := plainElem_bool Try.underlying4 x
theorem Had.made (w : World) : Had w.heap.size [] (w.alloc (.map #[] 0)) :=
  ⟨0, .map [], Nat.le_refl _, World.ownsMap_made _ _ _ _, isMap_empty, fun _ _ _ z => by simp [DataW.atKey]⟩
theorem Had.kept {b : Nat} {l : List (Int × Int)} {w w' : World} (h : Had b l w) (hb : Below w.heap.size w w') : Had b l w' := by
  obtain ⟨n, D, h1, h2, h3, h4⟩ := h
  exact ⟨n, D, h1, h2.kept (grown_of_below hb none) (by simp), h3, h4⟩
theorem Had.lt {b : Nat} {l : List (Int × Int)} {w : World} (h : Had b l w) : b < w.heap.size := by
  obtain ⟨n, D, h1, h2, h3, h4⟩ := h
  exact h2.lt
theorem Had.kept_other {b g : Nat} {l : List (Int × Int)} {w w' : World} (h : Had b l w) (hg : w.grownBy w' (some g)) (hne : b ≠ g) : Had b l w' := by
  obtain ⟨n, D, h1, h2, h3, h4⟩ := h
  exact ⟨n, D, h1, h2.kept hg (by simpa using hne), h3, h4⟩
theorem Had.look {b : Nat} {l : List (Int × Int)} {w : World} (h : Had b l w) (p : Int × Int) (hp : In64 p) : (Instr.lookup 42 (.map (some b)) (pv p) false).run Try.prog w = .ok (.bool (decide (p ∈ l))) w := by
  obtain ⟨n, D, h1, h2, h3, h4⟩ := h
  obtain ⟨kl, hk⟩ := key_is p hp
  obtain ⟨v, ps, hrun, hv⟩ := h2.lookup kMap Try.underlying42 (z := .bool false) (by rfl) (plain4 false) hk
  rw [h4 p kl hk false, Bool.or_false] at hv
  rw [hrun]
  unfold plainElem at hv
  rw [Try.underlying4] at hv
  split at hv <;> simp_all
theorem Had.put {b : Nat} {l : List (Int × Int)} {w : World} (h : Had b l w) (p : Int × Int) (hp : In64 p) (hl : l.length < 9223372036854775807) :
    ∃ w', (Instr.mapUpdate 42 (.map (some b)) (pv p) (.bool true)).run Try.prog w = .ok () w' ∧ Had b (l ++ [p]) w' ∧ w.grownBy w' (some b) := by
  obtain ⟨n, D, h1, h2, h3, h4⟩ := h
  obtain ⟨kl, hk⟩ := key_is p hp
  obtain ⟨w', hrun, h5, h6⟩ := h2.update kMap Try.underlying42 (by unfold maxLen; omega) hk (plain4 true)
  refine ⟨w', hrun, ⟨n + 1, D.put kl (.lit (.bool true)), by simp; omega, h5, h3.put _ _, fun q ql hq z => ?_⟩, h6⟩
  by_cases he : ql = kl
  · subst he
    have := kMap.inj hq hk
    have hqp : q = p := by
      simp only [pv, Value.agg.injEq, Array.mk.injEq, List.cons.injEq, Value.int.injEq, true_and, and_true] at this
      exact Prod.ext this.1 this.2
    rw [atKey_put_same h3 (kMap.key hk)]
    simp [hqp]
  · rw [atKey_put_other he, h4 q ql hq z]
    have hne : q ≠ p := fun e => he (by rw [e, hk] at hq; injection hq with hq; exact hq.symm)
    simp [hne]
end Go.Proofs.Ytffhaeefldbahaa
