/-
Small words for the walks of the laws on steps: priorities and cells of so many, an operation's task. Condition: the numbers are bytes.
-/
import Derived.Test.YtcppmfmlafnmfaaCufR
import Derived.Test.YtcppmfmlafnmfaaCufI
namespace Go.Proofs.Ytcppmfmlafnmfaa
open Go.RowKit
theorem prio_n (A : Option Addr) (c : Nat) (ns : List Int) (n : Nat) (w : World) (hr : RowB w A ns) (hn : n ≤ 100) : Calls Try.prog 9 #[.slice A ns.length c, .int .i64 (n : Int)] w fun e w' => ∃ B d p, e = .returned (.slice B n d) ∧ p.length = n ∧ RowI w' B p ∧ Below w.heap.size w w' := by
  refine (prio_any A c ns n w hr hn).mono ?_
  rintro e w' ⟨B, d, rfl, hrow, hb⟩
  exact ⟨B, d, prio ns n, by rw [show (prio ns n).length = n from chain_length _ _], chain_length _ _, hrow, hb⟩
theorem cells_n {n : Nat} (A B : Option Addr) (c d : Nat) (ns p : List Int) (hp : p.length = n) (w : World) (hr : RowB w A ns) (hs : RowI w B p) (hl : ns.length ≤ 100) (h0 : 0 < n) (h1 : n ≤ 100) :
    Calls Try.prog 10 #[.slice A ns.length c, .slice B n d] w fun e w' => ∃ up D dc, e = .returned (.slice D n dc) ∧ RowI w' D up ∧ Ok up p ∧ Below w.heap.size w w' := by
  subst hp
  exact cells_any A B c d ns p w hr hs hl h0 h1
theorem add_0 (a : Addr) : a.add 0 = a := by unfold Addr.add; simp
theorem add_1 (a : Addr) : a.add 1 = ⟨a.block, a.off + 1, none⟩ := by unfold Addr.add; simp
theorem add_2 (a : Addr) : a.add 2 = ⟨a.block, a.off + 2, none⟩ := by unfold Addr.add; simp
theorem rbegin_op (a0 a1 a2 : Int) (n : Nat) (w : World) (hn : 0 < n) : Calls Try.prog 16 #[.agg #[.int .i64 (1 + a0 % 3), .int .i64 (a1 % n), .int .i64 (a2 % n)], .int .i64 (n : Int)] w fun e w' => e = .returned (.agg #[.int .i64 (1 + a0 % 3), .int .i64 (a1 % n), .int .i64 (a2 % n), .int .i64 1, .int .i64 (a1 % n), .int .i64 (a2 % n), .int .i64 0, .int .i64 0, .bool false, .int .i64 0, .bool true]) ∧ Below w.heap.size w w' := by
  have hq : OpOk n (1 + a0 % 3, a1 % n, a2 % n) := by
    have hn' : (0 : Int) < n := by omega
    exact ⟨by simp only; omega, by simp only; omega, ⟨Int.emod_nonneg _ (by omega), Int.emod_lt_of_pos _ hn'⟩, ⟨Int.emod_nonneg _ (by omega), Int.emod_lt_of_pos _ hn'⟩⟩
  have hc := rbegin_ok hq w
  rw [begin_yes (keep_begin (p := []) hq).1] at hc
  exact hc
theorem keeps_op (a0 a1 a2 : Int) (n : Nat) (p : List Int) (hn : 0 < n) : Keeps n p ⟨1 + a0 % 3, a1 % n, a2 % n, 1, a1 % n, a2 % n, 0, 0, false, 0⟩ := by
  have hq : OpOk n (1 + a0 % 3, a1 % n, a2 % n) := by
    have hn' : (0 : Int) < n := by omega
    exact ⟨by simp only; omega, by simp only; omega, ⟨Int.emod_nonneg _ (by omega), Int.emod_lt_of_pos _ hn'⟩, ⟨Int.emod_nonneg _ (by omega), Int.emod_lt_of_pos _ hn'⟩⟩
  have h := (keep_begin (p := p) hq).2
  rw [begin_yes (keep_begin (p := []) hq).1] at h
  exact h
theorem begin_op (a0 a1 a2 : Int) (n : Nat) (w : World) (hn : 0 < n) : Calls Try.prog 12 #[.agg #[.int .i64 (1 + a0 % 3), .int .i64 (a1 % n), .int .i64 (a2 % n)], .int .i64 (n : Int)] w fun e w' => e = .returned (.tuple #[.agg #[.int .i64 (1 + a0 % 3), .int .i64 (a1 % n), .int .i64 (a2 % n), .int .i64 1, .int .i64 (a1 % n), .int .i64 (a2 % n), .int .i64 0, .int .i64 0, .bool false, .int .i64 0], .bool true]) ∧ Below w.heap.size w w' := by
  have hn' : (0 : Int) < n := by omega
  have hq : OpOk n (1 + a0 % 3, a1 % n, a2 % n) := ⟨by simp only; omega, by simp only; omega, ⟨Int.emod_nonneg _ (by omega), Int.emod_lt_of_pos _ hn'⟩, ⟨Int.emod_nonneg _ (by omega), Int.emod_lt_of_pos _ hn'⟩⟩
  have hb := (keep_begin (p := []) hq).1
  have hc := begin_any (1 + a0 % 3) (a1 % n) (a2 % n) n w
  unfold BeginP at hc
  rw [begin_yes hb, hb] at hc
  exact hc
end Go.Proofs.Ytcppmfmlafnmfaa
