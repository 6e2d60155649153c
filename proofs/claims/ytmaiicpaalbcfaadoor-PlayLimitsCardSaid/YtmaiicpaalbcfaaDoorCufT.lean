/-
Small words on memory: a row of cells that is read, a list of whole numbers as cells, worlds that kept what was below. No condition.
The reference's comparison of two lists: it returns whether they are one; no condition beside the lists' lengths.
Cells and priorities: what is below what, whether cells may be, and where the way up leads, by the program and by the reference; no condition but that the elements are there, and for the reference's way that the cells may be.
What a task is, and what one step of it does. No condition.
-/
import Derived.Test.YtmaiicpaalbcfaaDoorRows
import Derived.WalkKit
import Derived.WalkSpells
import Derived.WalkLawsBesides
import Derived.Lib.Hide
import Derived.Deep.RegionHeld3
import Derived.Deep.DrawnRows
import Derived.BigQuiet
import Derived.Deep.QuietTactic
import Derived.Maps.AppendAt
import Derived.Deep.AppendLies
import Derived.Laws.MakeOwn
import Derived.Laws.OwnMore
import Derived.Laws.CopyOwn
import Derived.Deep.OwnRows
import Derived.OneCell
import Derived.Laws.AppendOwnNone
import Derived.Handy
namespace Go.Proofs.YtmaiicpaalbcfaaDoor
open Go.RowKit

/-! ### worlds -/
theorem cell_kept {w w1 : World} (h : Below w.heap.size w w1) {a : Addr} {v : Value} (hc : w.cell? a = some v) : w1.cell? a = some v := (h.cell (World.block_lt_of_cell? w a hc)).trans hc
theorem free_kept {w w1 : World} (h : Below w.heap.size w w1) {a : Addr} (ha : a.block < w.heap.size) (hf : w.frozen? a = false) : w1.frozen? a = false := (h.frozen ha).trans hf
theorem below_next {B : Nat} {w W w' : World} (h : Below B w W) (hb : Below W.heap.size W w') (hB : B ≤ W.heap.size) : Below B w w' := h.trans (hb.mono hB)
theorem below_alloc {w W : World} (h : Below w.heap.size w W) (o : Obj) : Below w.heap.size w (W.alloc o) := h.alloc h.size o
theorem below_drewN {B : Nat} {w W : World} (h : Below B w W) (n : Nat) : Below B w (W.drewN n) := ⟨h.os, h.tape, h.output, h.size, h.block⟩
theorem below_drew {B : Nat} {w W : World} (h : Below B w W) : Below B w W.drew := ⟨h.os, h.tape, h.output, h.size, h.block⟩
theorem cell_alloc {w : World} {a : Addr} {v : Value} (hc : w.cell? a = some v) (o : Obj) : (w.alloc o).cell? a = some v := cell_kept (below_alloc (Below.refl _ _) o) hc
theorem free_alloc {w : World} {a : Addr} (ha : a.block < w.heap.size) (hf : w.frozen? a = false) (o : Obj) : (w.alloc o).frozen? a = false := free_kept (below_alloc (Below.refl _ _) o) ha hf
def Yes (w : World) (e : Ending) (w' : World) : Prop := e = .returned (.bool true) ∧ Below w.heap.size w w'
theorem ret_i64 {a b : Int} (h : a = b) : Ending.returned (.int .i64 a) = .returned (.int .i64 b) := by rw [h]
theorem ret_u32 {a b : Int} (h : a = b) : Ending.returned (.int .u32 a) = .returned (.int .u32 b) := by rw [h]
theorem ret_bool {a b : Bool} (h : a = b) : Ending.returned (.bool a) = .returned (.bool b) := by rw [h]
theorem val_i64 {a b : Int} (h : a = b) : Value.int .i64 a = .int .i64 b := by rw [h]
theorem val_u32 {a b : Int} (h : a = b) : Value.int .u32 a = .int .u32 b := by rw [h]
theorem val_bool {a b : Bool} (h : a = b) : Value.bool a = .bool b := by rw [h]
theorem add_plain (g j : Nat) : (⟨g, 0, none⟩ : Addr).add j = ⟨g, j, none⟩ := by unfold Addr.add; split <;> simp_all

/-! ### a row of cells that is read -/
def Row (w : World) (A : Option Addr) (n : Nat) (xs : List Value) : Prop :=
  xs.length = n ∧ n ≤ 9223372036854775807 ∧ (0 < n → ∃ ad, A = some ad ∧ ∀ j, j < n → w.cell? (ad.add j) = some (xs.getD j undef))
theorem Row.kept {w w1 : World} {A : Option Addr} {n : Nat} {xs : List Value} (h : Row w A n xs) (hb : Below w.heap.size w w1) : Row w1 A n xs :=
  ⟨h.1, h.2.1, fun hn => by
    obtain ⟨ad, e, hc⟩ := h.2.2 hn
    exact ⟨ad, e, fun j hj => cell_kept hb (hc j hj)⟩⟩
theorem Row.nil (w : World) (A : Option Addr) : Row w A 0 [] := ⟨rfl, by omega, fun h => absurd h (by omega)⟩
theorem Row.at_nat {w : World} {A : Option Addr} {n : Nat} {xs : List Value} (h : Row w A n xs) (i : Nat) (h1 : i < n) : ∃ ad, A = some ad ∧ w.cell? (ad.add i) = some (xs.getD i undef) := by
  obtain ⟨ad, e, hc⟩ := h.2.2 (by omega)
  exact ⟨ad, e, hc _ h1⟩
theorem Row.at_int {w : World} {A : Option Addr} {n : Nat} {xs : List Value} (h : Row w A n xs) (i : Int) (h0 : 0 ≤ i) (h1 : i < n) : ∃ ad, A = some ad ∧ w.cell? (ad.add i.toNat) = some (xs.getD i.toNat undef) :=
  h.at_nat _ (by omega)
theorem Row.pos {w : World} {A : Option Addr} {n : Nat} {xs : List Value} (h : Row w A n xs) (hn : 0 < n) : ∃ ad, A = some ad ∧ ∀ j, j < n → w.cell? (ad.add j) = some (xs.getD j undef) := h.2.2 hn

/-! ### whole numbers -/
def ints (l : List Int) : List Value := l.map fun x => .int .i64 x
theorem ints_length (l : List Int) : (ints l).length = l.length := by simp [ints]
theorem ints_append (l m : List Int) : ints (l ++ m) = ints l ++ ints m := by simp [ints]
theorem ints_getD (l : List Int) (j : Nat) (h : j < l.length) : (ints l).getD j undef = .int .i64 (l.getD j 0) := by
  simp [ints, List.getD_eq_getElem?_getD, List.getElem?_eq_getElem h]
theorem ints_set (l : List Int) (j : Nat) (x : Int) : (ints l).set j (.int .i64 x) = ints (l.set j x) := by simp [ints, List.map_set]
abbrev RowI (w : World) (A : Option Addr) (l : List Int) : Prop := Row w A l.length (ints l)
theorem RowI.at_nat {w : World} {A : Option Addr} {l : List Int} (h : RowI w A l) (i : Nat) (h1 : i < l.length) : ∃ ad, A = some ad ∧ w.cell? (ad.add i) = some (.int .i64 (l.getD i 0)) := by
  obtain ⟨ad, e, hc⟩ := Row.at_nat h i h1
  exact ⟨ad, e, by rw [hc, ints_getD l i h1]⟩
theorem RowI.at_int {w : World} {A : Option Addr} {l : List Int} (h : RowI w A l) (i : Int) (h0 : 0 ≤ i) (h1 : i < l.length) : ∃ ad, A = some ad ∧ w.cell? (ad.add i.toNat) = some (.int .i64 (l.getD i.toNat 0)) :=
  RowI.at_nat h _ (by omega)
theorem row_of_own {w : World} {base n : Nat} {e : TypeId} {v : Value} {xs : List Value} (h : w.ownsRow base e 1 v n xs) : ∃ A c, v = .slice A n c ∧ n ≤ c ∧ Row w A n xs := by
  have hl : xs.length = n := by have := h.1; simpa using this
  rcases Nat.eq_zero_or_pos n with h0 | h0
  · subst h0
    obtain rfl : xs = [] := List.eq_nil_of_length_eq_zero hl
    rcases h.2 with ⟨rfl, _⟩ | ⟨g, cap, cur, rfl, _⟩
    · exact ⟨none, 0, rfl, Nat.le_refl _, Row.nil _ _⟩
    · exact ⟨_, cap, rfl, Nat.zero_le _, Row.nil _ _⟩
  · rcases h.2 with ⟨_, h1⟩ | ⟨g, cap, cur, rfl, _, _, h1, h2, _⟩
    · omega
    · simp only [maxLen] at h2
      refine ⟨_, cap, rfl, h1, hl, by omega, fun _ => ⟨_, rfl, fun j hj => h.cells (g := g) rfl j _ ?_⟩⟩
      simp [List.getD_eq_getElem?_getD, List.getElem?_eq_getElem (show j < xs.length by omega)]

/-! ### rows of the call's own -/
theorem grown_of_below {w w1 : World} (h : Below w.heap.size w w1) (row : Option Nat) : w.grownBy w1 row := ⟨h.os, h.tape, h.output, h.size, fun i hi _ => h.block i hi⟩
theorem own_kept {w w1 : World} {base : Nat} {e : TypeId} {size n : Nat} {v : Value} {xs : List Value} (h : w.ownsRow base e size v n xs) (hb : Below w.heap.size w w1) : w1.ownsRow base e size v n xs :=
  h.kept (grown_of_below hb none) (by cases v.ownBlock <;> simp)
theorem own_drewN {w : World} {base : Nat} {e : TypeId} {size n : Nat} {v : Value} {xs : List Value} (h : w.ownsRow base e size v n xs) (q : Nat) : (w.drewN q).ownsRow base e size v n xs := own_kept h (below_drewN (Below.refl _ _) q)
theorem own_made (W : World) (base : Nat) (e : TypeId) (z : Value) (m : Nat) (hb : base ≤ W.heap.size) (hm : m ≤ 9223372036854775807) :
    (W.alloc (.cells (madeCells #[z] m) e)).ownsRow base e 1 (.slice (some ⟨W.heap.size, 0, none⟩) m m) m (List.replicate m z) := by
  have h := World.ownsRow_lit (base := base) (e := e) (size := 1) W (madeCells #[z] m) m hb (by simpa [maxLen] using hm) (by simp [size_madeCells])
  have hl : (madeCells #[z] m).toList = List.replicate m z := by
    apply List.ext_getElem
    · simp [madeCells]
    · intro i h1 h2
      simp [madeCells, Nat.mod_one]
  rwa [hl] at h
theorem ints_replicate (m : Nat) (x : Int) : List.replicate m (Value.int .i64 x) = ints (List.replicate m x) := by simp [ints]
theorem own_cell {w : World} {base g n cap : Nat} {e : TypeId} {xs : List Value} (h : w.ownsRow base e 1 (.slice (some ⟨g, 0, none⟩) n cap) n xs) (j : Nat) (hj : j < n) : w.cell? ⟨g, j, none⟩ = some (xs.getD j undef) := by
  have hl : xs.length = n := by have := h.1; simpa using this
  rw [h.cellAt j (by omega), List.getD_eq_getElem?_getD, List.getElem?_eq_getElem (by omega)]
  rfl
theorem own_cell_int {w : World} {base g n cap : Nat} {e : TypeId} {l : List Int} (h : w.ownsRow base e 1 (.slice (some ⟨g, 0, none⟩) n cap) n (ints l)) (j : Nat) (hj : j < n) : w.cell? ⟨g, j, none⟩ = some (.int .i64 (l.getD j 0)) := by
  have hl : l.length = n := by have := h.1; rw [ints_length] at this; simpa using this
  rw [own_cell h j hj, ints_getD l j (by omega)]

/-! ### append(v, y), one cell an element -/
section
variable {P : Program} {ops : Array Oper} {rest : List Oper} {o : Oper} {a : Act} {Q : Exit → Act → World → Prop}
theorem append1 {W : World} (base : Nat) (hgd : o.guard = none) (s x : Operand) (t e : TypeId) (z : Value) (bytes : Nat)
    (ho : o.op = .call { callee := .builtin .append, args := #[s, x], argTypes := #[t, t] })
    (ht : P.underlying t = some (.slice e)) (hinfo : (P.info? e).map (fun i => (i.zero, i.size, i.bytes)) = some (some z, 1, bytes)) (hz : z.cells.size = 1) (hb0 : 0 < bytes)
    (v : Value) (xs : List Value) (y : Value) (g : Nat) (hs : a.eval s = v) (hx : a.eval x = .slice (some ⟨g, 0, none⟩) 1 1) (hc : W.cell? ⟨g, 0, none⟩ = some y) (h1 : y.oneCell' = true)
    (HO : W.ownsRow base e 1 v xs.length xs) (hbase : base ≤ W.heap.size) (hl : (xs.length + 1) * bytes ≤ 140737488355328)
    (h : ∀ v1 w1, w1.ownsRow base e 1 v1 (xs ++ [y]).length (xs ++ [y]) → W.grownBy w1 v.ownBlock → (v1.ownBlock = v.ownBlock ∨ ∃ b, v1.ownBlock = some b ∧ W.heap.size ≤ b) → wpList P ops Q rest (a.put o.dst v1) w1) :
    wpList P ops Q (o :: rest) a W := by
  obtain ⟨i0, hi, hzz⟩ := Option.map_eq_some_iff.1 hinfo
  simp only [Prod.mk.injEq] at hzz
  obtain ⟨hz0, hz1, hz2⟩ := hzz
  have hlen : xs.length + 1 ≤ 140737488355328 := Nat.le_trans (Nat.le_mul_of_pos_right _ hb0) hl
  refine wpList_append_own_at W hgd s x t ho base e i0 z 1 bytes ht hi hz0 hz1 hz2 hz (by omega) v xs.length xs hs HO ⟨g, 0, none⟩ 1 1 [y] hx rfl (fun j u hj => ?_) (by simpa using h1) (by simp only [maxLen]; omega) hl hbase ?_
  · match j, hj with
    | 0, hj => simp at hj; subst hj; rw [add_plain]; exact hc
  · intro v1 w1 hown hg _ hat
    refine h v1 w1 (by simpa using hown) hg ?_
    rcases hat with hat | hat
    · exact .inl hat
    · exact .inr ⟨_, hat, Nat.le_refl _⟩
end
/-- What a row's append leaves of a cell that is elsewhere. -/
theorem cell_grown {w w1 : World} {row : Option Nat} (hg : w.grownBy w1 row) {p : Addr} {v : Value} (hc : w.cell? p = some v) (hne : row ≠ some p.block) : w1.cell? p = some v := by
  have hlt := World.block_lt_of_cell? w p hc
  have := hg.block p.block hlt (fun e => hne e.symm)
  unfold World.cell? at hc ⊢
  rw [this]
  exact hc
theorem free_grown {w w1 : World} {row : Option Nat} (hg : w.grownBy w1 row) {p : Addr} (hlt : p.block < w.heap.size) (hf : w.frozen? p = false) (hne : row ≠ some p.block) : w1.frozen? p = false := by
  have := hg.block p.block hlt (fun e => hne e.symm)
  unfold World.frozen? at hf ⊢
  rw [this]
  exact hf
theorem own_ge {w : World} {base : Nat} {e : TypeId} {size n : Nat} {v : Value} {xs : List Value} (h : w.ownsRow base e size v n xs) (k : Nat) (hk : v.ownBlock = some k) : base ≤ k := (h.lt k hk).1
theorem own_ne {w : World} {base : Nat} {e : TypeId} {size n : Nat} {v : Value} {xs : List Value} (h : w.ownsRow base e size v n xs) {b : Nat} (hb : b < base) : v.ownBlock ≠ some b := fun hk => by have := own_ge h b hk; omega
theorem own_len {w : World} {base : Nat} {e : TypeId} {n : Nat} {v : Value} {xs : List Value} (h : w.ownsRow base e 1 v n xs) : xs.length = n := by have := h.1; simpa using this

/-! ### append(v, ys...), ys a row that is read; elements of 'size' cells -/
section
variable {P : Program} {ops : Array Oper} {rest : List Oper} {o : Oper} {a : Act} {Q : Exit → Act → World → Prop}
theorem run_append_row (W : World) (base : Nat) (t ty e : TypeId) (z : Value) (size bytes : Nat)
    (ht : P.underlying t = some (.slice e)) (hinfo : (P.info? e).map (fun i => (i.zero, i.size, i.bytes)) = some (some z, size, bytes)) (hz : z.cells.size = size) (hs0 : 0 < size) (hb0 : 0 < bytes)
    (v : Value) (n : Nat) (xs ys : List Value) (A : Option Addr) (m c : Nat) (HO : W.ownsRow base e size v n xs) (HR : Row W A (m * size) ys) (h1 : ∀ u ∈ ys, u.oneCell' = true)
    (hbase : base ≤ W.heap.size) (hl : (n + m) * bytes ≤ 140737488355328) :
    ∃ v1 w1, (Builtin.append_ #[t, t] ty #[v, .slice A m c]).run P W = .ok v1 w1 ∧ w1.ownsRow base e size v1 (n + m) (xs ++ ys) ∧ W.grownBy w1 v.ownBlock ∧ (v1.ownBlock = v.ownBlock ∨ v1.ownBlock = some W.heap.size) := by
  obtain ⟨i0, hi, hzz⟩ := Option.map_eq_some_iff.1 hinfo
  simp only [Prod.mk.injEq] at hzz
  obtain ⟨hz0, hz1, hz2⟩ := hzz
  have hlen : n + m ≤ 140737488355328 := Nat.le_trans (Nat.le_mul_of_pos_right _ hb0) hl
  have hm : ys.length = m * size := HR.1
  rcases A with _ | ad
  · have h0 : m = 0 := by
      rcases Nat.eq_zero_or_pos m with h0 | h0
      · exact h0
      · obtain ⟨ad, h, _⟩ := HR.2.2 (Nat.mul_pos h0 hs0)
        cases h
    subst h0
    obtain rfl : ys = [] := List.eq_nil_of_length_eq_zero (by simpa using hm)
    refine ⟨v, W, ?_, by simpa using HO, World.grownBy.refl W _, .inl rfl⟩
    rcases HO.2 with ⟨rfl, hn⟩ | ⟨g, cap, cur, rfl, _, _, hnc, _⟩
    · simp [Builtin.append_, run_underlying ht, sizeOf, typeInfo, hi, Builtin.lenOf, Builtin.firstCells]
    · simp [Builtin.append_, run_underlying ht, sizeOf, typeInfo, hi, Builtin.lenOf, Builtin.firstCells, hnc, storeCells]
  · have hcells : ∀ j u, ys[j]? = some u → W.cell? (ad.add j) = some u := by
      intro j u hu
      have hj : j < ys.length := by
        rcases Nat.lt_or_ge j ys.length with h | h
        · exact h
        · simp [List.getElem?_eq_none h] at hu
      obtain ⟨ad', h', hc⟩ := HR.2.2 (by omega)
      injection h' with h'
      subst h'
      rw [hc j (by omega), List.getD_eq_getElem?_getD, hu]
      rfl
    obtain ⟨v1, w1, hr, h2, h3, _, h5⟩ := run_append_own_at (P := P) W base t ty e i0 z size bytes ht hi hz0 hz1 hz2 hz hs0 v n xs HO ad m c ys hm hcells h1 (by simp only [maxLen]; omega) hl hbase
    exact ⟨v1, w1, hr, h2, h3, h5⟩
theorem append_row_wp {K : Act → World → Prop} {W : World} (base : Nat) (s x : Operand) (t e : TypeId) (z : Value) (size bytes : Nat)
    (ho : o.op = .call { callee := .builtin .append, args := #[s, x], argTypes := #[t, t] })
    (ht : P.underlying t = some (.slice e)) (hinfo : (P.info? e).map (fun i => (i.zero, i.size, i.bytes)) = some (some z, size, bytes)) (hz : z.cells.size = size) (hs0 : 0 < size) (hb0 : 0 < bytes)
    (v : Value) (n : Nat) (xs ys : List Value) (A : Option Addr) (m c : Nat) (hs : a.eval s = v) (hx : a.eval x = .slice A m c) (HO : W.ownsRow base e size v n xs) (HR : Row W A (m * size) ys) (h1 : ∀ u ∈ ys, u.oneCell' = true)
    (hbase : base ≤ W.heap.size) (hl : (n + m) * bytes ≤ 140737488355328)
    (h : ∀ v1 w1, w1.ownsRow base e size v1 (n + m) (xs ++ ys) → W.grownBy w1 v.ownBlock → (v1.ownBlock = v.ownBlock ∨ ∃ b, v1.ownBlock = some b ∧ W.heap.size ≤ b) → K (a.put o.dst v1) w1) : o.wp P a W K Q := by
  obtain ⟨v1, w1, hr, h2, h3, h5⟩ := run_append_row (P := P) W base t o.type e z size bytes ht hinfo hz hs0 hb0 v n xs ys A m c HO HR h1 hbase hl
  unfold Oper.wp execOp
  simp only [ho, resolve, invoke, builtin, Sem.run_bind, Sem.run_pure, Result.andThen_ok, List.map_toArray, List.map_cons, List.map_nil, hs, hx, hr]
  refine h v1 w1 h2 h3 ?_
  rcases h5 with h5 | h5
  · exact .inl h5
  · exact .inr ⟨_, h5, Nat.le_refl _⟩
theorem append_row {W : World} (base : Nat) (hgd : o.guard = none) (s x : Operand) (t e : TypeId) (z : Value) (size bytes : Nat)
    (ho : o.op = .call { callee := .builtin .append, args := #[s, x], argTypes := #[t, t] })
    (ht : P.underlying t = some (.slice e)) (hinfo : (P.info? e).map (fun i => (i.zero, i.size, i.bytes)) = some (some z, size, bytes)) (hz : z.cells.size = size) (hs0 : 0 < size) (hb0 : 0 < bytes)
    (v : Value) (n : Nat) (xs ys : List Value) (A : Option Addr) (m c : Nat) (hs : a.eval s = v) (hx : a.eval x = .slice A m c) (HO : W.ownsRow base e size v n xs) (HR : Row W A (m * size) ys) (h1 : ∀ u ∈ ys, u.oneCell' = true)
    (hbase : base ≤ W.heap.size) (hl : (n + m) * bytes ≤ 140737488355328)
    (h : ∀ v1 w1, w1.ownsRow base e size v1 (n + m) (xs ++ ys) → W.grownBy w1 v.ownBlock → (v1.ownBlock = v.ownBlock ∨ ∃ b, v1.ownBlock = some b ∧ W.heap.size ≤ b) → wpList P ops Q rest (a.put o.dst v1) w1) :
    wpList P ops Q (o :: rest) a W :=
  wpList_plain hgd fun _ hK => append_row_wp base s x t e z size bytes ho ht hinfo hz hs0 hb0 v n xs ys A m c hs hx HO HR h1 hbase hl fun v1 w1 h2 h3 h4 => hK _ _ (h v1 w1 h2 h3 h4)
end
section
variable {P : Program} {ops : Array Oper} {rest : List Oper} {o : Oper} {a : Act} {Q : Exit → Act → World → Prop}
/-- The same where the operation is guarded ('&&'): 'hw' by rfl. -/
theorem append_row_w {W : World} (base : Nat) (hw : Region.wanted o (yielded ops a.tmps) = true) (s x : Operand) (t e : TypeId) (z : Value) (size bytes : Nat)
    (ho : o.op = .call { callee := .builtin .append, args := #[s, x], argTypes := #[t, t] })
    (ht : P.underlying t = some (.slice e)) (hinfo : (P.info? e).map (fun i => (i.zero, i.size, i.bytes)) = some (some z, size, bytes)) (hz : z.cells.size = size) (hs0 : 0 < size) (hb0 : 0 < bytes)
    (v : Value) (n : Nat) (xs ys : List Value) (A : Option Addr) (m c : Nat) (hs : a.eval s = v) (hx : a.eval x = .slice A m c) (HO : W.ownsRow base e size v n xs) (HR : Row W A (m * size) ys) (h1 : ∀ u ∈ ys, u.oneCell' = true)
    (hbase : base ≤ W.heap.size) (hl : (n + m) * bytes ≤ 140737488355328)
    (h : ∀ v1 w1, w1.ownsRow base e size v1 (n + m) (xs ++ ys) → W.grownBy w1 v.ownBlock → (v1.ownBlock = v.ownBlock ∨ ∃ b, v1.ownBlock = some b ∧ W.heap.size ≤ b) → wpList P ops Q rest (a.put o.dst v1) w1) :
    wpList P ops Q (o :: rest) a W := by
  unfold wpList
  rw [if_pos hw]
  exact .inl (append_row_wp base s x t e z size bytes ho ht hinfo hz hs0 hb0 v n xs ys A m c hs hx HO HR h1 hbase hl h)
end
theorem ints_one (l : List Int) : ∀ u ∈ ints l, u.oneCell' = true := by
  intro u hu
  obtain ⟨x, _, rfl⟩ := List.mem_map.1 hu
  rfl
end Go.Proofs.YtmaiicpaalbcfaaDoor

namespace Go.Proofs.YtmaiicpaalbcfaaDoor
open Go.RowKit
attribute [local go_sem ↓] Go.wp_at_zero Go.wp_at_succ
theorem getD_ext {l m : List Int} (hl : l.length = m.length) (h : ∀ j, j < l.length → l.getD j 0 = m.getD j 0) : l = m := by
  apply List.ext_getElem hl
  intro j h1 h2
  have := h j h1
  simpa [List.getD_eq_getElem?_getD, List.getElem?_eq_getElem h1, List.getElem?_eq_getElem h2] using this
def IntsP (l m : List Int) (w : World) (e : Ending) (w' : World) : Prop := e = .returned (.bool (decide (l = m))) ∧ ∃ n, w' = w.drewN n
set_option maxHeartbeats 1000000 in
theorem ints_any (A B : Option Addr) (n n' c d : Nat) (l m : List Int) (w : World) (hr : Row w A n (ints l)) (hs : Row w B n' (ints m)) :
    Calls Tryd.prog 14 #[.slice A n c, .slice B n' d] w (IntsP l m w) := by
  have hl : l.length = n := by have := hr.1; rwa [ints_length] at this
  have hm : m.length = n' := by have := hs.1; rwa [ints_length] at this
  have hb := hr.2.1
  by_cases hn : n = n'
  · subst hn
    have HL := Lib.hid hl
    have HM := Lib.hid hm
    have HR := Lib.hid hr
    have HS := Lib.hid hs
    clear hl hm hr hs
    go_enter Tryd.func14, Tryd.ntmps14
    go_wp2
    go_loopw [5] (fun i wr => ∃ (k q : Nat), k ≤ n ∧ i = .int .i64 k ∧ wr = w.drewN q ∧ (∀ j, j < k → l.getD j 0 = m.getD j 0)) (fun i _ => n - (intOf i).toNat)
    case atStart => exact ⟨0, 0, by omega, rfl, rfl, fun j hj => absurd hj (by omega)⟩
    case round =>
      obtain ⟨k, q, hk, rfl, rfl, hall⟩ := hrel
      have HA := Lib.hid hall
      clear hall
      by_cases hlt : k < n
      · obtain ⟨ad, rfl, hc⟩ := HR.out.at_nat k hlt
        obtain ⟨bd, rfl, hd⟩ := HS.out.at_nat k hlt
        rw [ints_getD l k (by rw [HL.out]; exact hlt)] at hc
        rw [ints_getD m k (by rw [HM.out]; exact hlt)] at hd
        obtain ⟨x, hx⟩ : ∃ x, x = l.getD k 0 := ⟨_, rfl⟩
        obtain ⟨y, hy⟩ : ∃ y, y = m.getD k 0 := ⟨_, rfl⟩
        rw [← hx] at hc
        rw [← hy] at hd
        have HX := Lib.hid hx
        have HY := Lib.hid hy
        clear hx hy
        have p1 : (0 : Int) ≤ (k : Int) := by omega
        have p2 : (k : Int) < (n : Int) := by omega
        by_cases hxy : x = y
        · have t1 : (x != y) = false := by simp [hxy]
          have HE := Lib.hid hxy
          clear hxy
          go_wp2
          go_quiet (fail)
          go_wp2
          go_roundw
          case rel => exact ⟨k + 1, _, by omega, by go_num, (by first | rfl | exact World.drewN_drewN ..), fun j hj => by
            rcases Nat.lt_or_ge j k with h | h
            · exact HA.out j h
            · obtain rfl : j = k := by omega
              rw [← HX.out, ← HY.out, HE.out]⟩
          case measure => simp [intOf]; omega
        · have t1 : (x != y) = true := by simp [hxy]
          have HE := Lib.hid hxy
          clear hxy
          go_wp2
          go_quiet (fail)
          go_wp2
          go_ret
          exact ⟨ret_bool (by
            symm
            rw [decide_eq_false_iff_not]
            intro h
            exact HE.out (by rw [HX.out, HY.out, h])), _, by first | rfl | exact World.drewN_drewN ..⟩
      · go_wp2
        go_ret
        exact ⟨ret_bool (by
          symm
          rw [decide_eq_true_iff]
          exact getD_ext (by rw [HL.out, HM.out]) (fun j hj => HA.out j (by have := HL.out; omega))), _, rfl⟩
  · have t1 : ((n : Int) != (n' : Int)) = true := by simp; omega
    have t2 : (n != n') = true := by simp; omega
    have HE := Lib.hid (show ¬ l = m by intro h; subst h; omega)
    clear hn hl hm hr hs
    go_enter Tryd.func14, Tryd.ntmps14
    go_wp2
    go_ret
    exact ⟨ret_bool (by symm; rw [decide_eq_false_iff_not]; exact HE.out), 0, rfl⟩
end Go.Proofs.YtmaiicpaalbcfaaDoor

namespace Go.Proofs.YtmaiicpaalbcfaaDoor
open Go.RowKit
attribute [local go_sem ↓] Go.wp_at_zero Go.wp_at_succ
def PureP (v : Value) (w : World) (e : Ending) (w' : World) : Prop := e = .returned v ∧ ∃ n, w' = w.drewN n
theorem below_ex {w w' : World} (h : ∃ n, w' = w.drewN n) : Below w.heap.size w w' := by
  obtain ⟨n, rfl⟩ := h
  exact below_drewN (Below.refl _ _) n
def lowB (a b x y : Int) : Bool := decide (a < b) || (decide (a = b) && decide (x < y))
def belowB (p : List Int) (x y : Int) : Bool := lowB (p.getD x.toNat 0) (p.getD y.toNat 0) x y
def thereB (n x : Int) : Bool := decide (0 ≤ x) && decide (x < n)
theorem there_any (n x : Int) (w : World) : Calls Tryd.prog 32 #[.int .i64 n, .int .i64 x] w (PureP (.bool (thereB n x)) w) := by
  by_cases h0 : 0 ≤ x
  · by_cases h1 : x < n
    · have HE := Lib.hid (show thereB n x = true by simp [thereB, h0, h1])
      go_enter Tryd.func32, Tryd.ntmps32
      go_wp2
      go_ret
      exact ⟨ret_bool HE.out.symm, 0, rfl⟩
    · have HE := Lib.hid (show thereB n x = false by simp [thereB, h1])
      go_enter Tryd.func32, Tryd.ntmps32
      go_wp2
      go_ret
      exact ⟨ret_bool HE.out.symm, 0, rfl⟩
  · have HE := Lib.hid (show thereB n x = false by simp [thereB, h0])
    go_enter Tryd.func32, Tryd.ntmps32
    go_wp2
    go_ret
    exact ⟨ret_bool HE.out.symm, 0, rfl⟩
set_option maxHeartbeats 2000000 in
theorem below_any (A : Option Addr) (c : Nat) (p : List Int) (x y : Nat) (w : World) (hr : RowI w A p) (hx : x < p.length) (hy : y < p.length) :
    Calls Tryd.prog 50 #[.slice A p.length c, .int .i64 (x : Int), .int .i64 (y : Int)] w (PureP (.bool (belowB p x y)) w) := by
  obtain ⟨ad, rfl, hc⟩ := RowI.at_nat hr x hx
  obtain ⟨bd, e, hd⟩ := RowI.at_nat hr y hy
  obtain rfl : ad = bd := by injection e
  have HE := Lib.hid (show belowB p x y = lowB (p.getD x 0) (p.getD y 0) x y by simp [belowB])
  generalize p.getD x 0 = a at *
  generalize p.getD y 0 = b at *
  have p1 : (x : Int) < (p.length : Int) := by omega
  have p2 : (y : Int) < (p.length : Int) := by omega
  clear hr e
  by_cases h1 : a < b
  · have q0 : decide (a < b) = true := by simp [h1]
    have HV := Lib.hid (show belowB p x y = true by rw [HE.out]; simp [lowB, h1])
    go_enter Tryd.func50, Tryd.ntmps50
    go_wp2
    go_quiet (fail)
    go_wp2
    go_ret
    exact ⟨ret_bool (by first | exact HV.out.symm | (rw [HV.out]; simp; omega)), _, by first | rfl | exact World.drewN_drewN ..⟩
  · by_cases h2 : a = b
    · by_cases h3 : x < y
      · have HV := Lib.hid (show belowB p x y = true by rw [HE.out]; simp [lowB, h2, h3])
        have h4 : (x : Int) < (y : Int) := by omega
        clear h3
        subst h2
        go_enter Tryd.func50, Tryd.ntmps50
        go_wp2
        go_quiet (fail)
        go_wp2
        go_ret
        exact ⟨ret_bool (by first | exact HV.out.symm | (rw [HV.out]; simp; omega)), _, by first | rfl | exact World.drewN_drewN ..⟩
      · have HV := Lib.hid (show belowB p x y = false by rw [HE.out]; simp only [lowB]; simp; omega)
        have h4 : ¬ (x : Int) < (y : Int) := by omega
        clear h3
        subst h2
        go_enter Tryd.func50, Tryd.ntmps50
        go_wp2
        go_quiet (fail)
        go_wp2
        go_ret
        exact ⟨ret_bool (by first | exact HV.out.symm | (rw [HV.out]; simp; omega)), _, by first | rfl | exact World.drewN_drewN ..⟩
    · have q1 : (a == b) = false := by simp [h2]
      have HV := Lib.hid (show belowB p x y = false by rw [HE.out]; simp [lowB, h1, h2])
      go_enter Tryd.func50, Tryd.ntmps50
      go_wp2
      go_quiet (fail)
      go_wp2
      go_ret
      exact ⟨ret_bool (by first | exact HV.out.symm | (rw [HV.out]; simp; omega)), _, by first | rfl | exact World.drewN_drewN ..⟩
set_option maxHeartbeats 2000000 in
theorem rbelow_any (A : Option Addr) (c : Nat) (p : List Int) (x y : Nat) (w : World) (hr : RowI w A p) (hx : x < p.length) (hy : y < p.length) :
    Calls Tryd.prog 43 #[.slice A p.length c, .int .i64 (x : Int), .int .i64 (y : Int)] w (PureP (.bool (belowB p x y)) w) := by
  obtain ⟨ad, rfl, hc⟩ := RowI.at_nat hr x hx
  obtain ⟨bd, e, hd⟩ := RowI.at_nat hr y hy
  obtain rfl : ad = bd := by injection e
  have HE := Lib.hid (show belowB p x y = lowB (p.getD x 0) (p.getD y 0) x y by simp [belowB])
  generalize p.getD x 0 = a at *
  generalize p.getD y 0 = b at *
  have p1 : (x : Int) < (p.length : Int) := by omega
  have p2 : (y : Int) < (p.length : Int) := by omega
  clear hr e
  by_cases h1 : a < b
  · have q0 : decide (a < b) = true := by simp [h1]
    have HV := Lib.hid (show belowB p x y = true by rw [HE.out]; simp [lowB, h1])
    go_enter Tryd.func43, Tryd.ntmps43
    go_wp2
    go_quiet (fail)
    go_wp2
    go_ret
    exact ⟨ret_bool (by first | exact HV.out.symm | (rw [HV.out]; simp; omega)), _, by first | rfl | exact World.drewN_drewN ..⟩
  · by_cases h2 : a = b
    · by_cases h3 : x < y
      · have HV := Lib.hid (show belowB p x y = true by rw [HE.out]; simp [lowB, h2, h3])
        have h4 : (x : Int) < (y : Int) := by omega
        clear h3
        subst h2
        go_enter Tryd.func43, Tryd.ntmps43
        go_wp2
        go_quiet (fail)
        go_wp2
        go_ret
        exact ⟨ret_bool (by first | exact HV.out.symm | (rw [HV.out]; simp; omega)), _, by first | rfl | exact World.drewN_drewN ..⟩
      · have HV := Lib.hid (show belowB p x y = false by rw [HE.out]; simp only [lowB]; simp; omega)
        have h4 : ¬ (x : Int) < (y : Int) := by omega
        clear h3
        subst h2
        go_enter Tryd.func43, Tryd.ntmps43
        go_wp2
        go_quiet (fail)
        go_wp2
        go_ret
        exact ⟨ret_bool (by first | exact HV.out.symm | (rw [HV.out]; simp; omega)), _, by first | rfl | exact World.drewN_drewN ..⟩
    · have q1 : (a == b) = false := by simp [h2]
      have HV := Lib.hid (show belowB p x y = false by rw [HE.out]; simp [lowB, h1, h2])
      go_enter Tryd.func43, Tryd.ntmps43
      go_wp2
      go_quiet (fail)
      go_wp2
      go_ret
      exact ⟨ret_bool (by first | exact HV.out.symm | (rw [HV.out]; simp; omega)), _, by first | rfl | exact World.drewN_drewN ..⟩
def goodUp (up p : List Int) (j : Nat) : Bool := thereB up.length (up.getD j 0) && (decide (up.getD j 0 = j) || belowB p j (up.getD j 0))
def mayUp (up p : List Int) : Bool := decide (up.length = p.length) && (decide (up.length ≤ 65536) && decide (∀ j, j < up.length → goodUp up p j = true))
theorem mayUp_iff (up p : List Int) : mayUp up p = true ↔ (up.length = p.length ∧ up.length ≤ 65536 ∧ ∀ j, j < up.length → goodUp up p j = true) := by simp [mayUp]
theorem mayUp_bad {up p : List Int} (k : Nat) (hk : k < up.length) (h : goodUp up p k = false) : mayUp up p = false := by
  rw [← Bool.not_eq_true, mayUp_iff]
  intro hh
  rw [hh.2.2 k hk] at h
  cases h
theorem mayUp_len {up p : List Int} (h : ¬ up.length = p.length) : mayUp up p = false := by
  rw [← Bool.not_eq_true, mayUp_iff]
  exact fun hh => h hh.1
theorem mayUp_long {up p : List Int} (h : 65536 < up.length) : mayUp up p = false := by
  rw [← Bool.not_eq_true, mayUp_iff]
  intro hh
  omega
theorem goodUp_iff (up p : List Int) (j : Nat) : goodUp up p j = true ↔ (0 ≤ up.getD j 0 ∧ up.getD j 0 < up.length ∧ (up.getD j 0 = j ∨ belowB p j (up.getD j 0) = true)) := by
  simp [goodUp, thereB, and_assoc]
end Go.Proofs.YtmaiicpaalbcfaaDoor

namespace Go.Proofs.YtmaiicpaalbcfaaDoor
open Go.RowKit
structure T where
  k : Int
  x : Int
  y : Int
  s : Int
  u : Int
  v : Int
  w : Int
  r : Int
  is : Bool
  res : Int
deriving DecidableEq
def ov (k x y : Int) : Value := .agg #[.int .i64 k, .int .i64 x, .int .i64 y]
def tv (t : T) : Value := .agg #[.int .i64 t.k, .int .i64 t.x, .int .i64 t.y, .int .i64 t.s, .int .i64 t.u, .int .i64 t.v, .int .i64 t.w, .int .i64 t.r, .bool t.is, .int .i64 t.res]
def beginB (k x y n : Int) : Bool := decide (1 ≤ k) && (decide (k ≤ 3) && (thereB n x && (decide (k = 1) || thereB n y)))
def beginT (k x y n : Int) : T := if beginB k x y n then ⟨k, x, y, 1, x, y, 0, 0, false, 0⟩ else ⟨0, 0, 0, 0, 0, 0, 0, 0, false, 0⟩
def BeginP (k x y n : Int) (w : World) (e : Ending) (w' : World) : Prop := e = .returned (.tuple #[tv (beginT k x y n), .bool (beginB k x y n)]) ∧ Below w.heap.size w w'
/-- the reference's: a struct of both -/
def bv (t : T) (b : Bool) : Value := .agg #[.int .i64 t.k, .int .i64 t.x, .int .i64 t.y, .int .i64 t.s, .int .i64 t.u, .int .i64 t.v, .int .i64 t.w, .int .i64 t.r, .bool t.is, .int .i64 t.res, .bool b]
def RBeginP (k x y n : Int) (w : World) (e : Ending) (w' : World) : Prop := e = .returned (bv (beginT k x y n) (beginB k x y n)) ∧ Below w.heap.size w w'
theorem begin_no {k x y n : Int} (h : beginB k x y n = false) : beginT k x y n = ⟨0, 0, 0, 0, 0, 0, 0, 0, false, 0⟩ := by rw [beginT, if_neg (by simp [h])]
theorem begin_yes {k x y n : Int} (h : beginB k x y n = true) : beginT k x y n = ⟨k, x, y, 1, x, y, 0, 0, false, 0⟩ := by rw [beginT, if_pos h]
/-! ### what a step does -/
def finish (t : T) (n : Int) : T := { t with is := true, res := n }
def firstT (t : T) : T := if t.k = 1 then finish t t.u else { t with s := 4 }
def secondT (t : T) : T := if t.u = t.v then finish t (if t.k = 2 then 1 else 0) else { t with s := if t.k = 2 then 7 else 8 }
def at_ (up : List Int) (x : Int) : Int := up.getD x.toNat 0
def swapL (up : List Int) (x was now : Int) : List Int := if at_ up x = was then up.set x.toNat now else up
def stepL (up p : List Int) (t : T) : List Int × T :=
  if t.is then (up, t)
  else if t.s = 1 then (up, if at_ up t.u = t.u then firstT { t with w := at_ up t.u } else { t with w := at_ up t.u, s := 2 })
  else if t.s = 2 then (up, if at_ up t.w = t.w then firstT { t with r := at_ up t.w, u := t.w } else { t with r := at_ up t.w, s := 3 })
  else if t.s = 3 then (swapL up t.u t.w t.r, { t with u := t.w, s := 1 })
  else if t.s = 4 then (up, if at_ up t.v = t.v then secondT { t with w := at_ up t.v } else { t with w := at_ up t.v, s := 5 })
  else if t.s = 5 then (up, if at_ up t.w = t.w then secondT { t with r := at_ up t.w, v := t.w } else { t with r := at_ up t.w, s := 6 })
  else if t.s = 6 then (swapL up t.v t.w t.r, { t with v := t.w, s := 4 })
  else if t.s = 7 then (up, if at_ up t.u = t.u then finish { t with w := at_ up t.u } 0 else { t with w := at_ up t.u, s := 1 })
  else if belowB p t.u t.v then (if at_ up t.u = t.u then (up.set t.u.toNat t.v, finish t 1) else (up, { t with s := 1 }))
  else (if at_ up t.v = t.v then (up.set t.v.toNat t.u, finish t 1) else (up, { t with s := 1 }))
/-- what a task may be -/
def In (n x : Int) : Prop := 0 ≤ x ∧ x < n
structure Fit (n : Int) (t : T) : Prop where
  k0 : 1 ≤ t.k
  k1 : t.k ≤ 3
  u0 : In n t.u
  v0 : In n t.v
  s0 : 1 ≤ t.s
  s1 : t.s ≤ 8
  k2 : 4 ≤ t.s → t.k ≠ 1
  k7 : t.s = 7 → t.k = 2
  k8 : t.s = 8 → t.k = 3
  w0 : (t.s = 2 ∨ t.s = 3 ∨ t.s = 5 ∨ t.s = 6) → In n t.w
  r0 : (t.s = 3 ∨ t.s = 6) → In n t.r
def foundT (t : T) : T := if t.s ≤ 3 then firstT t else secondT t
def TP (t : T) (w : World) (e : Ending) (w' : World) : Prop := e = .returned (tv t) ∧ Below w.heap.size w w'
end Go.Proofs.YtmaiicpaalbcfaaDoor
