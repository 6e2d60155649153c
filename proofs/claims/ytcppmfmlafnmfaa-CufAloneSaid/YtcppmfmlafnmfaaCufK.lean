/-
What the law on chains asks of the program's and the reference's functions, said for chains: small words for its walk.
-/
import Derived.Test.YtcppmfmlafnmfaaCufO
import Derived.Test.YtcppmfmlafnmfaaCufC
import Derived.Test.YtcppmfmlafnmfaaCufH
namespace Go.Proofs.Ytcppmfmlafnmfaa
open Go.RowKit
theorem kmake (m : Nat) (hm : m ≤ 35184372088832) (W : World) : (Instr.makeSlice 24 (.int .i64 (m : Int)) (.int .i64 (m : Int))).run Try.prog W = .ok (.slice (some ⟨W.heap.size, 0, none⟩) m m) (W.alloc (.cells (madeCells #[.int .i64 0] m) 3)) :=
  run_make_row' 24 3 (.int .i64 0) 8 Try.underlying24 info3 rfl .i64 .i64 m (by omega) (by omega) W
theorem begin_chain (at' k : Nat) (h : at' < k) (w : World) : Calls Try.prog 12 #[.agg #[.int .i64 1, .int .i64 (at' : Int), .int .i64 0], .int .i64 (k : Int)] w fun e w' => e = .returned (.tuple #[.agg #[.int .i64 1, .int .i64 (at' : Int), .int .i64 0, .int .i64 1, .int .i64 (at' : Int), .int .i64 0, .int .i64 0, .int .i64 0, .bool false, .int .i64 0], .bool true]) ∧ Below w.heap.size w w' := by
  have hb : beginB 1 (at' : Int) 0 (k : Int) = true := by simp [beginB, thereB]; omega
  have h := begin_any 1 (at' : Int) 0 (k : Int) w
  unfold BeginP at h
  rw [begin_yes hb, hb] at h
  exact h
theorem may_ch {k : Nat} {cells : List Int} (A B : Option Addr) (c d : Nat) (h : CI k cells) (w : World) (hr : RowI w A cells) (hs : RowI w B (chain chP k)) : Calls Try.prog 19 #[.slice A k c, .slice B k d] w (PureP (.bool true) w) := by
  have hc := may_any A B c d cells (chain chP k) w hr hs
  rw [(ok_iff _ _).2 h.ok, h.len, chain_length] at hc
  exact hc
theorem mayr_ch {k : Nat} {cells : List Int} (A B : Option Addr) (c d : Nat) (h : CI k cells) (w : World) (hr : RowI w A cells) (hs : RowI w B (chain chP k)) : Calls Try.prog 14 #[.slice A k c, .slice B k d] w (PureP (.bool true) w) := by
  have hc := mayr_any A B c d cells (chain chP k) w hr hs
  rw [(ok_iff _ _).2 h.ok, h.len, chain_length] at hc
  exact hc
theorem rootL_ch {k : Nat} {cells : List Int} (h : CI k cells) {i : Nat} (hi : i < k) : rootL cells (i : Int) = (k : Int) - 1 := by
  rw [rootL_nat _ _ (by rw [h.len]; exact hi), h.root hi]
  omega
theorem root_ch {k : Nat} {cells : List Int} (A : Option Addr) (c : Nat) (h : CI k cells) (i : Nat) (hi : i < k) (w : World) (hr : RowI w A cells) : Calls Try.prog 20 #[.slice A k c, .int .i64 (i : Int)] w (PureP (.int .i64 ((k : Int) - 1)) w) := by
  have hc := root_any A c cells (i : Int) w hr
  rw [rootL_ch h hi, h.len] at hc
  exact hc
theorem rroot_ch {k : Nat} {cells : List Int} (A : Option Addr) (c : Nat) (h : CI k cells) (i : Nat) (hi : i < k) (w : World) (hr : RowI w A cells) : Calls Try.prog 15 #[.slice A k c, .int .i64 (i : Int)] w (PureP (.int .i64 ((k : Int) - 1)) w) := by
  have hc := rroot_any A c cells (chain chP k) (i : Int) w hr h.ok
  rw [rootL_ch h hi, h.len] at hc
  exact hc
def SP (k : Nat) (up' : List Int) (t' : T) (w : World) (e : Ending) (w' : World) : Prop := ∃ B d, e = .returned (.tuple #[.slice B k d, tv t']) ∧ RowI w' B up' ∧ (∀ a, B = some a → w.heap.size ≤ a.block) ∧ Below w.heap.size w w'
theorem step_ch {k : Nat} {cells : List Int} {t : T} (A B : Option Addr) (c d : Nat) (h : Ch k cells t) (h0 : 0 < k) (h1 : k ≤ 65536) (w : World) (hr : RowI w A cells) (hs : RowI w B (chain chP k)) :
    Calls Try.prog 13 #[.slice A k c, .slice B k d, tv t] w (SP k (stepL cells (chain chP k) t).1 (stepL cells (chain chP k) t).2 w) := by
  have hl := h.ci.len
  have hc := step_any A B c d cells (chain chP k) t w hr hs (by rw [hl, chain_length]) (by omega) (by omega) (by rw [hl]; exact h.keeps.fit)
  unfold StepP at hc
  rw [stepL_length, hl, chain_length] at hc
  exact hc
def tcs (t : T) : Array Value := #[.int .i64 t.k, .int .i64 t.x, .int .i64 t.y, .int .i64 t.s, .int .i64 t.u, .int .i64 t.v, .int .i64 t.w, .int .i64 t.r, .bool t.is, .int .i64 t.res]
theorem cell_block (W W' : World) (a : Addr) (h : W'.heap[a.block]? = W.heap[a.block]?) : W'.cell? a = W.cell? a := by
  unfold World.cell?
  rw [h]
theorem add_block (a : Addr) (j : Nat) : (a.add j).block = a.block := by unfold Addr.add; split <;> rfl
theorem row_other {W W' : World} {A : Option Addr} {l : List Int} {b : Nat} (h : RowI W A l) (hb : ∀ a, A = some a → a.block ≠ b) (hk : ∀ k, k ≠ b → W'.heap[k]? = W.heap[k]?) : RowI W' A l :=
  ⟨h.1, h.2.1, fun hn => by
    obtain ⟨ad, e, hc⟩ := h.2.2 hn
    exact ⟨ad, e, fun j hj => by rw [cell_block W W' _ (by rw [add_block]; exact hk _ (hb _ e))]; exact hc j hj⟩⟩
end Go.Proofs.Ytcppmfmlafnmfaa
