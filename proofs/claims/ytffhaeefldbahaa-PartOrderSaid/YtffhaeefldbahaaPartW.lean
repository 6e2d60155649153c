/-
The law's function PartOrder returns true for every number, list of bytes and turn, and changes nothing that was there before.
-/
import Derived.Test.YtffhaeefldbahaaPartV
import Derived.Test.YtffhaeefldbahaaPartQ
namespace Go.Proofs.Ytffhaeefldbahaa
open Go.RowKit
attribute [local go_sem ↓] Go.wp_at_zero Go.wp_at_succ
theorem four_row (W : World) (x y : Int) : Row (W.alloc (.cells #[.int .i64 y, .int .i64 x, .int .i64 x, .int .i64 y] 26)) (some ⟨W.heap.size, 0, none⟩) (2 * 2) [.int .i64 y, .int .i64 x, .int .i64 x, .int .i64 y] :=
  ⟨rfl, by simp, fun _ => ⟨_, rfl, fun j hj => by
    rw [add_plain]
    rcases j with _ | _ | _ | _ | j
    · simp [World.cell?_alloc_at]
    · simp [World.cell?_alloc_at]
    · simp [World.cell?_alloc_at]
    · simp [World.cell?_alloc_at]
    · omega⟩⟩
set_option maxHeartbeats 8000000 in
theorem partOrder_small (A : Option Addr) (n t : Nat) (la : List Int) (c : Nat) (w : World) (hr : RowB w A la) (hn : n ≤ 255) (ht : t ≤ 255) (ha : la.length ≤ 60) :
    Calls Try.prog 3 #[.int .u8 n, .slice A la.length c, .int .u8 t] w (BoolP true w) := by
  have HB := Lib.hid (Below.refl w.heap.size w)
  have HR := Lib.hid hr
  clear hr
  go_enter Try.func3, Try.ntmps3
  go_wp2_with fail
  obtain ⟨K, hK⟩ : ∃ K, K = ((n : Int) % 30) := ⟨_, rfl⟩
  rw [← hK]
  have k0 : 0 ≤ K := by omega
  have k1 : K < 30 := by omega
  clear hK
  refine (pairs_row _ _ la K _ HR.out (by omega) (by omega)).mono ?_
  rintro e w1 ⟨P, pc, rfl, hp, hb⟩
  have HP := Lib.hid hp
  have HI := Lib.hid (pairsL_in (n := K) HR.out (by omega))
  have HB := Lib.hid hb
  have hpl := pairsL_length la K
  clear hp hb HR
  generalize pairsL la K = ps at *
  have hN : ps.length ≤ 60 := by omega
  clear hpl
  go_wp2
  go_loopw [9, 10, 11] (fun v i _ wr => ∃ (k : Nat), k ≤ ps.length ∧ i = .int .i64 (k : Int) ∧ wr.ownsRow w1.heap.size 26 2 v (2 * k) (cellsP (turnTo ps t k)) ∧ Below w1.heap.size w1 wr) (fun _ i _ _ => ps.length - (intOf i).toNat)
  case atStart => exact ⟨0, by omega, rfl, World.ownsRow_nil _ _ _ _, Below.refl _ _⟩
  case round =>
    obtain ⟨k, hk, rfl, hown, hB⟩ := hrel
    have HO := Lib.hid hown
    have HB2 := Lib.hid hB
    have hsz := hB.size
    clear hown
    by_cases hlt : k < ps.length
    · have hJ := Nat.mod_lt (ps.length - 1 - k + t) (show 0 < ps.length by omega)
      obtain ⟨ad, rfl, hc, hd⟩ := (HP.out.kept hB).at ((ps.length - 1 - k + t) % ps.length) hJ
      have hi1 : (((ps.length : Int) - 1 - (k : Int) + (t : Int)) % (ps.length : Int)) = (((ps.length - 1 - k + t) % ps.length : Nat) : Int) := by
        rw [Int.natCast_emod]
        congr 1
        omega
      have HS := Lib.hid (turnTo_snoc ps t k)
      rw [show ps.getD ((ps.length - 1 - k + t) % ps.length) (0, 0) = turnAt ps t k from rfl] at hc hd
      generalize turnAt ps t k = p at *
      obtain ⟨J, hJe⟩ : ∃ J, J = (ps.length - 1 - k + t) % ps.length := ⟨_, rfl⟩
      rw [← hJe] at hc hd hi1 hJ
      clear hJe hB
      have hd' : wr.cell? ⟨(ad.add (J * 2)).block, (ad.add (J * 2)).off + 1, none⟩ = some (.int .i64 p.2) := by
        have e : (ad.add (J * 2)).add 1 = ⟨(ad.add (J * 2)).block, (ad.add (J * 2)).off + 1, none⟩ := by
          unfold Addr.add
          simp
        rw [← e, Addr.add_add]
        exact hd
      have p1 : (k : Int) < (ps.length : Int) := by omega
      have j0 : (0 : Int) ≤ (J : Int) := by omega
      have j1 : (J : Int) < (ps.length : Int) := by omega
      have n0 : (ps.length : Int) ≠ 0 := by omega
      have O1 := below_alloc (Below.refl wr.heap.size wr) (.cells #[.int .i64 p.1, .int .i64 p.2] 26)
      have HF := Lib.hid (four_row (wr.alloc (.cells #[.int .i64 p.1, .int .i64 p.2] 26)) p.1 p.2)
      rw [show (wr.alloc (.cells #[.int .i64 p.1, .int .i64 p.2] 26)).heap.size = wr.heap.size + 1 by simp] at HF
      go_wp2_with
        (at_builtin
         refine append_row w1.heap.size rfl (.tmp 42) (.tmp 49) 24 26 (.agg #[.int .i64 0, .int .i64 0]) 2 16 rfl Try.underlying24 info26 rfl (by omega) (by omega) u9 (2 * k) (cellsP (turnTo ps t k)) [.int .i64 p.2, .int .i64 p.1, .int .i64 p.1, .int .i64 p.2] (some ⟨wr.heap.size + 1, 0, none⟩) 2 2 rfl rfl ((HO.out.alloc _).alloc _) HF.out (by simp [Value.oneCell']) (by simp; omega) (by omega) ?_
         intro v1 w2 hown hg hat
         have HO2 := Lib.hid hown
         have HB3 := Lib.hid (((HB2.out.alloc hsz _).alloc (by simp; omega) _).grown hg (by simp; omega) (fun j hj => own_ge HO.out j hj))
         clear hown hg hat)
      have h2 := HO2.out
      rw [show cellsP (turnTo ps t k) ++ [Value.int .i64 p.2, .int .i64 p.1, .int .i64 p.1, .int .i64 p.2] = cellsP (turnTo ps t (k + 1)) by rw [HS.out, cellsP_append]; rfl] at h2
      go_roundw
      case rel => exact ⟨k + 1, by omega, by go_num, h2, HB3.out⟩
      case measure => simp [intOf]; omega
    · obtain rfl : k = ps.length := by omega
      have hl2 := turnTo_length ps t ps.length
      have hown := HO.out
      rw [← hl2] at hown
      obtain ⟨B, bc, rfl, hrow⟩ := rowP_of_own (by omega) hown
      have HT := Lib.hid hrow
      have HP := Lib.hid (HP.out.kept hB)
      have HB := Lib.hid (below_next HB.out hB HB.out.size)
      have HI2 := Lib.hid (show ∀ q ∈ turnTo ps t ps.length, In64 q by
        intro q hq
        rcases Nat.eq_zero_or_pos ps.length with h | h
        · rw [h] at hq; simp [turnTo] at hq
        · rcases turn_mem ps t _ h q hq with h | h
          · exact HI.out q h
          · have := HI.out _ h; exact ⟨this.2, this.1⟩)
      have HE := Lib.hid (turn_same K ps t)
      clear hown hrow hB hl2 hsz
      go_wp2_with first
        | (go_at_call 12
           (with_reducible refine (of_any K _ _ ps _ HP.out HI.out).mono ?_)
           rintro e w' ⟨Q1, z1, rfl, _, hp, hb⟩
           have HA := Lib.hid hp
           have HT := Lib.hid (HT.out.kept hb)
           have HB := Lib.hid (below_next HB.out hb HB.out.size)
           clear hb hp HP)
        | (go_at_call 12
           (with_reducible refine (of_any K _ _ (turnTo ps t ps.length) _ HT.out HI2.out).mono ?_)
           rintro e w' ⟨Q2, z2, rfl, _, hp, hb⟩
           have HC := Lib.hid hp
           have HA := Lib.hid (HA.out.kept hb)
           have HB := Lib.hid (below_next HB.out hb HB.out.size)
           clear hb hp HT)
        | (go_at_call 11
           (with_reducible refine (ints_any _ _ _ _ _ _ _ _ _ HA.out HC.out).mono ?_)
           rintro e w' ⟨rfl, hq⟩
           have hb := below_ex hq
           have HB := Lib.hid (below_next HB.out hb HB.out.size)
           rw [decide_eq_true HE.out]
           clear hb)
        | (go_at_call 9
           (with_reducible refine (awake_any _).mono ?_)
           rintro e w' ⟨rfl, hb⟩
           have HB := Lib.hid (below_next HB.out hb HB.out.size)
           clear hb)
      go_ret
      exact ⟨rfl, HB.out⟩
set_option maxHeartbeats 2000000 in
theorem partOrder_any (A : Option Addr) (n t : Nat) (la : List Int) (c : Nat) (w : World) (hr : RowB w A la) (hn : n ≤ 255) (ht : t ≤ 255) :
    Calls Try.prog 3 #[.int .u8 n, .slice A la.length c, .int .u8 t] w (BoolP true w) := by
  by_cases ha : 60 < la.length
  · clear hr
    go_enter Try.func3, Try.ntmps3
    go_wp2_with (go_at_call 9; refine (awake_any _).mono ?_; rintro e w1 ⟨rfl, hb⟩)
    go_ret
    exact ⟨rfl, hb⟩
  exact partOrder_small A n t la c w hr hn ht (by omega)
end Go.Proofs.Ytffhaeefldbahaa
