/-
The law's helpers on lists: priorities by numbers, a new partition; rows of their own. Condition: the numbers are bytes.
-/
import Derived.Test.YtcppmfmlafnmfaaCufK
namespace Go.Proofs.Ytcppmfmlafnmfaa
open Go.RowKit
attribute [local go_sem ↓] Go.wp_at_zero Go.wp_at_succ
def RowsP (l : List Int) (w : World) (e : Ending) (w' : World) : Prop := ∃ B d, e = .returned (.slice B l.length d) ∧ RowI w' B l ∧ Below w.heap.size w w'
theorem rows_of_own {w w' : World} {base : Nat} {v : Value} {l : List Int} {n : Nat} (hn : l.length = n) (h : w'.ownsRow base 3 1 v n (ints l)) (hb : Below w.heap.size w w') : RowsP l w (.returned v) w' := by
  subst hn
  obtain ⟨B, d, rfl, hd, hr⟩ := row_of_own h
  exact ⟨B, d, rfl, hr, hb⟩
def iota (n : Nat) : List Int := (List.range n).map fun (i : Nat) => (i : Int)
theorem iota_length (n : Nat) : (iota n).length = n := by simp [iota]
theorem iota_snoc (n : Nat) : iota (n + 1) = iota n ++ [(n : Int)] := by simp [iota, List.range_succ]
def nn (n : Int) : Nat := (max 0 (min n 65536)).toNat
theorem nn_eq (n : Int) (k : Nat) (h : k ≤ nn n) : k < nn n ↔ ((k : Int) < n ∧ (k : Int) < 65536) := by
  unfold nn at *
  omega
theorem nn_le (n : Int) : nn n ≤ 65536 := by unfold nn; omega
set_option maxHeartbeats 2000000 in
theorem rnew_any (n : Int) (w : World) : Calls Try.prog 21 #[.int .i64 n] w (RowsP (iota (nn n)) w) := by
  go_enter Try.func21, Try.ntmps21
  go_wp2
  go_loopw [3, 4] (fun v i wr => ∃ (k : Nat), k ≤ nn n ∧ i = .int .i64 k ∧ wr.ownsRow w.heap.size 3 1 v k (ints (iota k)) ∧ Below w.heap.size w wr) (fun _ i _ => nn n - (intOf i).toNat)
  case atStart => exact ⟨0, by omega, rfl, World.ownsRow_nil _ _ _ _, Below.refl _ _⟩
  case round =>
    obtain ⟨k, hk, rfl, hown, hB⟩ := hrel
    have HB := Lib.hid hB
    have HO := Lib.hid hown
    have hz := hB.size
    have hn := nn_eq n k hk
    have hn6 := nn_le n
    clear hown hB
    by_cases hlt : k < nn n
    · have p1 := (hn.1 hlt).1
      have p2 := (hn.1 hlt).2
      go_wp2_with (first
        | (at_builtin
           refine append1 w.heap.size rfl _ _ 24 3 (.int .i64 0) 8 rfl Try.underlying24 info3 rfl (by omega) u3 (ints (iota k)) (.int .i64 k) wr.heap.size rfl rfl (by go_simp) rfl (by rw [ints_length, iota_length]; exact HO.out.alloc _) (by simp; omega) (by rw [ints_length, iota_length]; omega) ?_
           intro v1 w2 hown hg hat
           have HB2 := Lib.hid ((HB.out.alloc (by omega) _).grown hg (by simp; omega) (fun j hj => by have := own_ge HO.out j hj; omega))
           have HO2 := Lib.hid hown
           clear hown hg hat))
      have h2 := HO2.out
      rw [show ints (iota k) ++ [Value.int .i64 (k : Int)] = ints (iota (k + 1)) by rw [iota_snoc, ints_append]; rfl, ints_length, iota_length] at h2
      go_roundw
      case rel => exact ⟨k + 1, by omega, by go_num, h2, HB2.out⟩
      case measure => simp [intOf]; omega
    · have HK := Lib.hid (show k = nn n by omega)
      by_cases p1 : (k : Int) < n
      · have p2 : ¬ (k : Int) < 65536 := fun h => hlt (hn.2 ⟨p1, h⟩)
        go_wp2
        go_ret
        exact rows_of_own (iota_length _) (by have := HO.out; rw [HK.out] at this; exact this) HB.out
      · go_wp2
        go_ret
        exact rows_of_own (iota_length _) (by have := HO.out; rw [HK.out] at this; exact this) HB.out
/-! ### rows of bytes -/
def bytesV (l : List Int) : List Value := l.map fun x => .int .u8 x
theorem bytesV_length (l : List Int) : (bytesV l).length = l.length := by simp [bytesV]
theorem bytesV_getD (l : List Int) (j : Nat) (h : j < l.length) : (bytesV l).getD j undef = .int .u8 (l.getD j 0) := by
  simp [bytesV, List.getD_eq_getElem?_getD, List.getElem?_eq_getElem h]
def RowB (w : World) (A : Option Addr) (l : List Int) : Prop := Row w A l.length (bytesV l) ∧ ∀ i, i < l.length → 0 ≤ l.getD i 0 ∧ l.getD i 0 < 256
theorem RowB.kept {w w1 : World} {A : Option Addr} {l : List Int} (h : RowB w A l) (hb : Below w.heap.size w w1) : RowB w1 A l := ⟨h.1.kept hb, h.2⟩
theorem RowB.at {w : World} {A : Option Addr} {l : List Int} (h : RowB w A l) (i : Nat) (hi : i < l.length) : ∃ ad, A = some ad ∧ w.cell? (ad.add i) = some (.int .u8 (l.getD i 0)) := by
  obtain ⟨ad, e, hc⟩ := h.1.at_nat i hi
  exact ⟨ad, e, by rw [hc, bytesV_getD l i hi]⟩
/-! ### priorities -/
def prF (ns : List Int) (_ i : Nat) : Int := if ns.length = 0 then 0 else ns.getD (i % ns.length) 0 % 5
def prio (ns : List Int) (n : Nat) : List Int := chain (prF ns) n
set_option maxHeartbeats 2000000 in
theorem prio_any (A : Option Addr) (c : Nat) (ns : List Int) (n : Nat) (w : World) (hr : RowB w A ns) (hn : n ≤ 100) : Calls Try.prog 9 #[.slice A ns.length c, .int .i64 (n : Int)] w (RowsP (prio ns n) w) := by
  have HR := Lib.hid hr
  have hl9 := hr.1.2.1
  clear hr
  have kk := kmake n (by omega)
  go_enter Try.func9, Try.ntmps9
  go_wp2
  have o0 := own_made w w.heap.size 3 (.int .i64 0) n (Nat.le_refl _) (by omega)
  rw [ints_replicate] at o0
  have HW := Lib.hid o0
  clear o0
  by_cases h0 : ns.length = 0
  · have he : List.replicate n 0 = prio ns n := by
      unfold prio chain
      apply List.ext_getElem (by simp)
      intro i h1 h2
      simp [prF, h0]
    have HE := Lib.hid he
    clear he
    have t0 : ¬ (0 : Int) < (ns.length : Int) := by omega
    go_loopw [6] (fun v wr => v = .int .i64 0 ∧ wr = w.alloc (.cells (madeCells #[.int .i64 0] n) 3)) (fun _ _ => 0)
    case atStart => exact ⟨rfl, rfl⟩
    case round =>
      obtain ⟨rfl, rfl⟩ := hrel
      by_cases hn0 : 0 < n
      · have p1 : (0 : Int) < (n : Int) := by omega
        go_wp2
        go_ret
        exact rows_of_own (show (prio ns n).length = n from chain_length _ _) (by have := HW.out; rw [HE.out] at this; exact this) (below_alloc (Below.refl _ _) _)
      · have p1 : ¬ (0 : Int) < (n : Int) := by omega
        go_wp2
        go_ret
        exact rows_of_own (show (prio ns n).length = n from chain_length _ _) (by have := HW.out; rw [HE.out] at this; exact this) (below_alloc (Below.refl _ _) _)
  · have t0 : (0 : Int) < (ns.length : Int) := by omega
    go_loopw [6] (fun v wr => ∃ (k : Nat), k ≤ n ∧ v = .int .i64 k ∧ wr.ownsRow w.heap.size 3 1 (.slice (some ⟨w.heap.size, 0, none⟩) n n) n (ints (fillF (prF ns) n k)) ∧ Below w.heap.size w wr) (fun v _ => n - (intOf v).toNat)
    case atStart => exact ⟨0, by omega, rfl, by rw [fillF_zero]; exact HW.out, below_alloc (Below.refl _ _) _⟩
    case round =>
      obtain ⟨k, hk, rfl, hown, hB⟩ := hrel
      have HB := Lib.hid hB
      by_cases hlt : k < n
      · have p1 : (0 : Int) ≤ (k : Int) := by omega
        have p2 : (k : Int) < (n : Int) := by omega
        have hm : k % ns.length < ns.length := Nat.mod_lt _ (by omega)
        obtain ⟨ad, rfl, hc⟩ := (HR.out.kept hB).at (k % ns.length) hm
        have hx := HR.out.2 (k % ns.length) hm
        have hv : prF ns n k = ns.getD (k % ns.length) 0 % 5 := by simp [prF, h0]
        have e0 := own_cell_int hown k hlt
        have e1 := hown.frozenAt k
        have hst := (hown.stored k (.int .i64 (prF ns n k))).1
        rw [ints_set, fillF_step (prF ns) hlt, hv] at hst
        have HS := Lib.hid hst
        have HMK := Lib.hid (show ((k % ns.length : Nat) : Int) = (k : Int) % (ns.length : Int) by omega)
        generalize ns.getD (k % ns.length) 0 = z at *
        clear hst hown hB hv
        have p3 : (0 : Int) ≤ (k : Int) % (ns.length : Int) := by rw [← HMK.out]; omega
        have p4 : (k : Int) % (ns.length : Int) < (ns.length : Int) := by rw [← HMK.out]; omega
        have p5 : ((k : Int) % (ns.length : Int)).toNat = k % ns.length := by rw [← HMK.out]; exact Int.toNat_natCast _
        have p6 : (ns.length : Int) ≠ 0 := by omega
        have hx0 := hx.1
        have hx1 := hx.2
        have wz : IntKind.i64.wrap z = z := IntWalk.i64_in _ (by omega)
        clear hx
        go_wp2
        go_roundw
        case rel => exact ⟨k + 1, by omega, by go_num, HS.out, HB.out.setCell (Nat.le_refl _) _⟩
        case measure => simp [intOf]; omega
      · obtain rfl : k = n := by omega
        have HO := Lib.hid hown
        clear hown hB
        go_wp2
        go_ret
        exact rows_of_own (show (prio ns k).length = k from chain_length _ _) (by have := HO.out; rw [fillF_all] at this; exact this) HB.out
end Go.Proofs.Ytcppmfmlafnmfaa
