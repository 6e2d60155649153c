/-
Contracts of the functions of layer 7 and of their references: each computes the fold 'fnv' over bytes, for every text that fits a machine; no condition beside the texts' lengths.
-/
import Derived.Test.YtbfglpmoomabbaaRows
import Derived.WalkKit
import Derived.WalkSpells
import Derived.WalkLawsBesides
import Derived.Lib.Hide
import Derived.Deep.RegionHeld3
import Derived.Deep.DrawnRows
import Derived.Laws.BytesArg
import Derived.BigQuiet
import Derived.Deep.QuietTactic
namespace Go.Proofs.Ytbfglpmoomabbaa
open Go.RowKit

def bstep (h b : Int) : Int := (Go.bits .xor .u32 h b * 16777619) % 4294967296
def bys (s : ByteArray) : List Int := s.data.toList.map fun b => (b.toNat : Int)
def fnv (l : List Int) : Int := l.foldl bstep 2166136261
theorem bys_length (s : ByteArray) : (bys s).length = s.size := by unfold bys; rw [List.length_map, Array.length_toList]; rfl
theorem fnv_snoc (l : List Int) (b : Int) : fnv (l ++ [b]) = bstep (fnv l) b := by simp [fnv]
theorem bys_take (s : ByteArray) (k : Nat) (h : k < s.size) : (bys s).take (k + 1) = (bys s).take k ++ [(s[k].toNat : Int)] := by
  rw [List.take_succ_eq_append_getElem (by rw [bys_length]; exact h)]
  congr 1
  simp [bys]; rfl

theorem ret_u32 {a b : Int} (h : a = b) : Ending.returned (.int .u32 a) = .returned (.int .u32 b) := by rw [h]
theorem val_u32 {a b : Int} (h : a = b) : Value.int .u32 a = .int .u32 b := by rw [h]
theorem bstep_of (h : Int) (b : UInt8) : bits BinOp.xor IntKind.u32 h (((b.toNat : Nat) : Int) % 4294967296) * 16777619 % 4294967296 = bstep h (b.toNat : Int) := by
  have h1 := b.toNat_lt
  have : ((b.toNat : Nat) : Int) % 4294967296 = (b.toNat : Int) := by omega
  rw [this]; rfl

set_option maxHeartbeats 400000 in
theorem sum_any (s : ByteArray) (w : World) (hs : s.size ≤ maxLen) :
    Calls Try.prog 12 #[.string s] w fun e w' => e = .returned (.int .u32 (fnv (bys s))) ∧ w = w' := by
  unfold maxLen at hs
  go_enter Try.func12, Try.ntmps12
  go_wp2
  go_loop [3, 7] (fun h i => ∃ k : Nat, k ≤ s.size ∧ i = .int .i64 k ∧ h = .int .u32 (fnv ((bys s).take k))) (fun _ i => s.size - (intOf i).toNat)
  case atStart => exact ⟨0, Nat.zero_le _, rfl, rfl⟩
  case round =>
    obtain ⟨k, hk, rfl, rfl⟩ := hrel
    by_cases hlt : k < s.size
    · have HS := Lib.hid (show fnv ((bys s).take (k + 1)) = bstep (fnv ((bys s).take k)) (s[k].toNat : Int) by rw [bys_take s k hlt, fnv_snoc])
      go_wp2
      go_round
      case rel => exact ⟨k + 1, by omega, by go_num, val_u32 (by rw [HS.out]; exact bstep_of _ _)⟩
      case measure => simp [intOf]; omega
    · go_wp2
      go_ret
      exact ⟨ret_u32 (by rw [List.take_of_length_le (by rw [bys_length]; omega)]), rfl⟩

set_option maxHeartbeats 400000 in
theorem rsum_any (s : ByteArray) (w : World) (hs : s.size ≤ maxLen) :
    Calls Try.prog 13 #[.string s] w fun e w' => e = .returned (.int .u32 (fnv (bys s))) ∧ w = w' := by
  unfold maxLen at hs
  go_enter Try.func13, Try.ntmps13
  go_wp2
  go_loop [3, 4] (fun h i => ∃ k : Nat, k ≤ s.size ∧ i = .int .i64 k ∧ h = .int .u32 (fnv ((bys s).take k))) (fun _ i => s.size - (intOf i).toNat)
  case atStart => exact ⟨0, Nat.zero_le _, rfl, rfl⟩
  case round =>
    obtain ⟨k, hk, rfl, rfl⟩ := hrel
    by_cases hlt : k < s.size
    · have HS := Lib.hid (show fnv ((bys s).take (k + 1)) = bstep (fnv ((bys s).take k)) (s[k].toNat : Int) by rw [bys_take s k hlt, fnv_snoc])
      go_wp2
      go_round
      case rel => exact ⟨k + 1, by omega, by go_num, val_u32 (by rw [HS.out]; exact bstep_of _ _)⟩
      case measure => simp [intOf]; omega
    · go_wp2
      go_ret
      exact ⟨ret_u32 (by rw [List.take_of_length_le (by rw [bys_length]; omega)]), rfl⟩

def le4 (n : Int) : List Int := [n % 4294967296 % 256, n % 4294967296 / 256 % 256, n % 4294967296 / 65536 % 256, n % 4294967296 / 16777216]
def Bytes4 (n : Int) (w : World) (e : Ending) (w' : World) : Prop := ∃ r : ByteArray, e = .returned (.string r) ∧ bys r = le4 n ∧ Below w.heap.size w w'
theorem bcell {W w1 : World} (hb : Below W.heap.size W w1) : (∀ b o, b < W.heap.size → w1.cell? ⟨b, o, none⟩ = W.cell? ⟨b, o, none⟩) ∧ (∀ b o, b < W.heap.size → w1.frozen? ⟨b, o, none⟩ = W.frozen? ⟨b, o, none⟩) :=
  ⟨fun b o h => hb.cell (p := ⟨b, o, none⟩) h, fun b o h => hb.frozen (p := ⟨b, o, none⟩) h⟩
theorem bys_strOfNums (xs : List Int) (h : ∀ x ∈ xs, 0 ≤ x ∧ x < 256) : bys (strOfNums xs) = xs := by
  unfold bys
  rw [strOfNums_data, List.map_map]
  conv => rhs; rw [← List.map_id xs]
  refine List.map_congr_left fun x hx => ?_
  have := h x hx
  simp only [Function.comp, UInt8.toNat_ofNat', id]
  omega
theorem bys_append (a b : ByteArray) : bys (a ++ b) = bys a ++ bys b := by
  unfold bys
  rw [← List.map_append]
  congr 1
theorem le4_range (n : Int) : ∀ x ∈ le4 n, 0 ≤ x ∧ x < 256 := by
  intro x hx
  simp only [le4, List.mem_cons, List.not_mem_nil, or_false] at hx
  omega
theorem le4_at (n : Int) (W : World) (i : Nat) (hi : i < 4) : (W.alloc (Obj.cells #[Value.int IntKind.u8 (n % 256), Value.int IntKind.u8 (n % 4294967296 / 256 % 256), Value.int IntKind.u8 (n % 4294967296 / 65536 % 256), Value.int IntKind.u8 (n % 4294967296 / 16777216)] 5)).cell? ⟨W.heap.size, 0 + i, none⟩ = some (.int .u8 ((le4 n).getD i 0)) := by
  match i, hi with
  | 0, _ => simp [le4, World.cell?_alloc_at, show n % 4294967296 % 256 = n % 256 by omega]
  | 1, _ => simp [le4, World.cell?_alloc_at]
  | 2, _ => simp [le4, World.cell?_alloc_at]
  | 3, _ => simp [le4, World.cell?_alloc_at]

set_option maxHeartbeats 400000 in
theorem bytes_any (n : Int) (w : World) :
    Calls Try.prog 27 #[.int .i64 n] w (Bytes4 n w) := by
  have kc := run_convert_bytes_arg (P := Try.prog) (w.alloc (Obj.cells #[Value.int IntKind.u8 (n % 256), Value.int IntKind.u8 (n % 4294967296 / 256 % 256), Value.int IntKind.u8 (n % 4294967296 / 65536 % 256), Value.int IntKind.u8 (n % 4294967296 / 16777216)] 5)) 31 5 Try.underlying31 Try.underlying5 w.heap.size 0 4 4 (le4 n) rfl (fun i hi => le4_at n w i hi) 9 Try.underlying9
  go_enter Try.func27, Try.ntmps27
  go_wp2
  go_ret
  exact ⟨_, rfl, bys_strOfNums _ (le4_range n), (Below.refl _ _).alloc (Nat.le_refl _) _⟩

def ofK (s : ByteArray) (a b : Int) : Int := fnv (bys s ++ le4 a ++ le4 b)
def OfK (s : ByteArray) (a b : Int) (w : World) (e : Ending) (w' : World) : Prop := e = .returned (.int .u32 (ofK s a b)) ∧ Below w.heap.size w w'
theorem bys_size {r : ByteArray} {n : Int} (h : bys r = le4 n) : r.size = 4 := by
  have := congrArg List.length h
  rw [bys_length] at this
  simpa [le4] using this

theorem cell_kept {w w1 : World} (h : Below w.heap.size w w1) {a : Addr} {v : Value} (hc : w.cell? a = some v) : w1.cell? a = some v := (h.cell (World.block_lt_of_cell? w a hc)).trans hc
theorem ofK_of {s r t : ByteArray} {a b : Int} (h1 : bys r = le4 a) (h2 : bys t = le4 b) : fnv (bys (s ++ r ++ t)) = ofK s a b := by rw [bys_append, bys_append, h1, h2]; rfl
theorem below_next {w W w' : World} (h : Below w.heap.size w W) (hb : Below W.heap.size W w') : Below w.heap.size w w' := h.trans (hb.mono h.size)
theorem below_alloc {w W : World} (h : Below w.heap.size w W) (o : Obj) : Below w.heap.size w (W.alloc o) := h.alloc h.size o
theorem below_drewN {B : Nat} {w W : World} (h : Below B w W) (n : Nat) : Below B w (W.drewN n) := ⟨h.os, h.tape, h.output, h.size, h.block⟩

attribute [local go_sem ↓] Go.wp_at_zero Go.wp_at_succ
set_option maxHeartbeats 1000000 in
theorem of_any (s : ByteArray) (a b : Int) (w : World) (hs : s.size ≤ 140737488355328) :
    Calls Try.prog 14 #[.agg #[.string s, .int .i64 a, .int .i64 b]] w (OfK s a b w) := by
  have q1 : ¬ 9223372036854775807 < s.size + 4 := by omega
  have q2 : ¬ 9223372036854775807 < s.size + 4 + 4 := by omega
  go_enter Try.func14, Try.ntmps14
  go_wp2
  go_region_held3 (fun w' => w'.cell? ⟨w.heap.size, 0, none⟩ = some (.string s) ∧ w'.cell? ⟨w.heap.size, 1, none⟩ = some (.int .i64 a) ∧ w'.cell? ⟨w.heap.size, 2, none⟩ = some (.int .i64 b) ∧ Below w.heap.size w w') 
    (first | (go_split_ands; refine ⟨cell_kept hb (by assumption), cell_kept hb (by assumption), cell_kept hb (by assumption), below_next (by assumption) hb⟩) | (refine ⟨by go_simp, by go_simp, by go_simp, below_drewN (below_alloc (Below.refl _ _) _) 1⟩) | go_keep)
    (first
      | (go_at_call 27; refine (bytes_any _ _).mono ?_; rintro e w' ⟨r, rfl, hr, hb⟩; have hz := bys_size hr)
      | (go_at_call 12; refine (sum_any _ _ (by simp [maxLen, *]; omega)).mono ?_; rintro e w' ⟨rfl, rfl⟩))
  go_wp2
  go_ret
  exact ⟨ret_u32 (ofK_of (by assumption) (by assumption)), by go_split_ands; assumption⟩

/-! the reference's -/
theorem str1_at (x : Int) (W : World) : (W.alloc (Obj.cells #[Value.int IntKind.u8 x] 5)).cell? ⟨W.heap.size, 0 + 0, none⟩ = some (.int .u8 ([x].getD 0 0)) := by simp [World.cell?_alloc_at]
theorem bys_one (x : Int) (h0 : 0 ≤ x) (h1 : x < 256) : bys (strOfNums [x]) = [x] := bys_strOfNums _ (by intro y hy; simp only [List.mem_cons, List.not_mem_nil, or_false] at hy; omega)
def part (a b : Int) (k : Nat) : List Int := (le4 a ++ le4 b).take k
theorem bys_len {s t : ByteArray} {l : List Int} (h : bys s = bys t ++ l) : s.size = t.size + l.length := by
  have := congrArg List.length h
  rw [bys_length, List.length_append, bys_length] at this
  exact this
theorem part_le (a b : Int) (k : Nat) : (part a b k).length ≤ 8 := by unfold part; rw [List.length_take]; simp only [le4, List.length_append, List.length_cons, List.length_nil]; omega
theorem kconv (x : Int) (W : World) : (convert 31 9 (.slice (some ⟨W.heap.size, 0, none⟩) 1 1)).run Try.prog (W.alloc (Obj.cells #[Value.int IntKind.u8 x] 5)) = .ok (.string (strOfNums [x])) (W.alloc (Obj.cells #[Value.int IntKind.u8 x] 5)) := by
  refine run_convert_bytes_arg (P := Try.prog) _ 31 5 Try.underlying31 Try.underlying5 W.heap.size 0 1 1 [x] rfl (fun i hi => ?_) 9 Try.underlying9
  obtain rfl : i = 0 := by omega
  exact str1_at x W
theorem size_one (x : Int) : (strOfNums [x]).size = 1 := by rw [strOfNums_size]; rfl
theorem part_step {s t : ByteArray} {a b : Int} {j : Nat} {v : Int} (h : bys t = bys s ++ part a b j) (hj : j < 8) (hv : (le4 a ++ le4 b).getD j 0 = v) : bys (t ++ strOfNums [v]) = bys s ++ part a b (j + 1) := by
  have hl : (le4 a ++ le4 b).length = 8 := rfl
  have hm : v ∈ le4 a ++ le4 b := by
    rw [← hv, List.getD_eq_getElem?_getD, List.getElem?_eq_getElem (by omega)]
    exact List.getElem_mem _
  have hr : 0 ≤ v ∧ v < 256 := by
    rcases List.mem_append.1 hm with hm | hm
    · exact le4_range a v hm
    · exact le4_range b v hm
  rw [bys_append, bys_one v hr.1 hr.2, h, List.append_assoc]
  congr 1
  unfold part
  rw [List.take_succ_eq_append_getElem (by omega)]
  congr 1
  rw [List.getD_eq_getElem?_getD, List.getElem?_eq_getElem (by omega)] at hv
  simpa using hv.symm
theorem part8 (s : ByteArray) (a b : Int) : bys s ++ part a b (4 * 2) = bys s ++ le4 a ++ le4 b := by rw [List.append_assoc]; rfl
set_option maxHeartbeats 2000000 in
theorem rof_any (s : ByteArray) (a b : Int) (w : World) (hs : s.size ≤ 140737488355328) :
    Calls Try.prog 15 #[.agg #[.string s, .int .i64 a, .int .i64 b]] w (OfK s a b w) := by
  have kc := kconv
  have kz := size_one
  go_enter Try.func15, Try.ntmps15
  go_wp2
  go_loopw [3, 4] (fun v3 v4 wr => ∃ (i : Nat) (s3 : ByteArray), i ≤ 2 ∧ v4 = .int .i64 i ∧ v3 = .string s3 ∧ bys s3 = bys s ++ part a b (4 * i) ∧
      wr.cell? ⟨w.heap.size, 0, none⟩ = some (.string s) ∧ wr.cell? ⟨w.heap.size, 1, none⟩ = some (.int .i64 a) ∧ wr.cell? ⟨w.heap.size, 2, none⟩ = some (.int .i64 b) ∧ Below w.heap.size w wr) (fun _ v4 _ => 2 - (intOf v4).toNat)
  case atStart => exact ⟨0, s, by omega, rfl, rfl, by simp [part], by go_simp, by go_simp, by go_simp, below_alloc (Below.refl _ _) _⟩
  case round =>
    obtain ⟨i, s3, hi, rfl, rfl, hs3, c0, c1, c2, hB⟩ := hrel
    have HB := Lib.hid hB
    have HS := Lib.hid hs3
    clear hB hs3
    by_cases h2 : i < 2
    · rcases (show i = 0 ∨ i = 1 by omega) with rfl | rfl
      · go_wp2
        go_loopw [3, 6] (fun v3 v6 wq => ∃ (j : Nat) (s4 : ByteArray), j ≤ 4 ∧ v6 = .int .i64 j ∧ v3 = .string s4 ∧ bys s4 = bys s ++ part a b j ∧
          wq.cell? ⟨w.heap.size, 0, none⟩ = some (.string s) ∧ wq.cell? ⟨w.heap.size, 1, none⟩ = some (.int .i64 a) ∧ wq.cell? ⟨w.heap.size, 2, none⟩ = some (.int .i64 b) ∧ Below w.heap.size w wq) (fun _ v6 _ => 4 - (intOf v6).toNat)
        case atStart => exact ⟨0, s3, by omega, rfl, rfl, HS.out, c0, c1, c2, HB.out⟩
        case round =>
          obtain ⟨j, s4, hj, rfl, rfl, hs4, d0, d1, d2, hB⟩ := hrel
          have HB2 := Lib.hid hB
          have HS2 := Lib.hid hs4
          have hz1 := bys_len hs4
          have hz2 := part_le a b j
          have q1 : ¬ 9223372036854775807 < s4.size + 1 := by omega
          have lt0 := World.block_lt_of_cell? _ _ d0
          clear hB hs4 hz1 hz2
          rcases (show j = 0 ∨ j = 1 ∨ j = 2 ∨ j = 3 ∨ j = 4 by omega) with rfl | rfl | rfl | rfl | rfl
          · go_wp2
            go_roundw
            case rel => exact ⟨0 + 1, _, by omega, rfl, rfl, part_step HS2.out (by omega) (by simp [le4]), by go_simp, by go_simp, by go_simp, below_alloc HB2.out _⟩
            case measure => simp [intOf]
          · go_wp2
            go_roundw
            case rel => exact ⟨1 + 1, _, by omega, rfl, rfl, part_step HS2.out (by omega) (by simp [le4]; omega), by go_simp, by go_simp, by go_simp, below_alloc HB2.out _⟩
            case measure => simp [intOf]
          · go_wp2
            go_roundw
            case rel => exact ⟨2 + 1, _, by omega, rfl, rfl, part_step HS2.out (by omega) (by simp [le4]; omega), by go_simp, by go_simp, by go_simp, below_alloc HB2.out _⟩
            case measure => simp [intOf]
          · go_wp2
            go_roundw
            case rel => exact ⟨3 + 1, _, by omega, rfl, rfl, part_step HS2.out (by omega) (by simp [le4]; omega), by go_simp, by go_simp, by go_simp, below_alloc HB2.out _⟩
            case measure => simp [intOf]
          · go_wp2
            go_roundw
            case rel => exact ⟨0 + 1, _, by omega, rfl, rfl, HS2.out, d0, d1, d2, HB2.out⟩
            case measure => simp [intOf]
      · go_wp2
        go_loopw [3, 6] (fun v3 v6 wq => ∃ (j : Nat) (s4 : ByteArray), j ≤ 4 ∧ v6 = .int .i64 j ∧ v3 = .string s4 ∧ bys s4 = bys s ++ part a b (4 + j) ∧
          wq.cell? ⟨w.heap.size, 0, none⟩ = some (.string s) ∧ wq.cell? ⟨w.heap.size, 1, none⟩ = some (.int .i64 a) ∧ wq.cell? ⟨w.heap.size, 2, none⟩ = some (.int .i64 b) ∧ Below w.heap.size w wq) (fun _ v6 _ => 4 - (intOf v6).toNat)
        case atStart => exact ⟨0, s3, by omega, rfl, rfl, HS.out, c0, c1, c2, HB.out⟩
        case round =>
          obtain ⟨j, s4, hj, rfl, rfl, hs4, d0, d1, d2, hB⟩ := hrel
          have HB2 := Lib.hid hB
          have HS2 := Lib.hid hs4
          have hz1 := bys_len hs4
          have hz2 := part_le a b (4 + j)
          have q1 : ¬ 9223372036854775807 < s4.size + 1 := by omega
          have lt0 := World.block_lt_of_cell? _ _ d0
          clear hB hs4 hz1 hz2
          rcases (show j = 0 ∨ j = 1 ∨ j = 2 ∨ j = 3 ∨ j = 4 by omega) with rfl | rfl | rfl | rfl | rfl
          · go_wp2
            go_roundw
            case rel => exact ⟨0 + 1, _, by omega, rfl, rfl, part_step HS2.out (by omega) (by simp [le4]), by go_simp, by go_simp, by go_simp, below_alloc HB2.out _⟩
            case measure => simp [intOf]
          · go_wp2
            go_roundw
            case rel => exact ⟨1 + 1, _, by omega, rfl, rfl, part_step HS2.out (by omega) (by simp [le4]; omega), by go_simp, by go_simp, by go_simp, below_alloc HB2.out _⟩
            case measure => simp [intOf]
          · go_wp2
            go_roundw
            case rel => exact ⟨2 + 1, _, by omega, rfl, rfl, part_step HS2.out (by omega) (by simp [le4]; omega), by go_simp, by go_simp, by go_simp, below_alloc HB2.out _⟩
            case measure => simp [intOf]
          · go_wp2
            go_roundw
            case rel => exact ⟨3 + 1, _, by omega, rfl, rfl, part_step HS2.out (by omega) (by simp [le4]; omega), by go_simp, by go_simp, by go_simp, below_alloc HB2.out _⟩
            case measure => simp [intOf]
          · go_wp2
            go_roundw
            case rel => exact ⟨1 + 1, _, by omega, rfl, rfl, HS2.out, d0, d1, d2, HB2.out⟩
            case measure => simp [intOf]
    · obtain rfl : i = 2 := by omega
      have hz3 : s3.size ≤ maxLen := by have h1 := bys_len HS.out; have := part_le a b (4 * 2); unfold maxLen; omega
      go_wp2_with fail
      refine (rsum_any s3 _ hz3).mono ?_
      rintro e w1 ⟨rfl, rfl⟩
      go_wp2
      go_ret
      exact ⟨ret_u32 (by rw [HS.out, part8]; rfl), HB.out⟩

theorem bstep_range (h b : Int) : 0 ≤ bstep h b ∧ bstep h b < 4294967296 := by unfold bstep; omega
theorem fold_range (l : List Int) : ∀ h : Int, 0 ≤ h ∧ h < 4294967296 → 0 ≤ l.foldl bstep h ∧ l.foldl bstep h < 4294967296 := by
  induction l with
  | nil => exact fun h hh => hh
  | cons b l ih => exact fun h _ => ih _ (bstep_range h b)
theorem fnv_range (l : List Int) : 0 ≤ fnv l ∧ fnv l < 4294967296 := fold_range l _ (by omega)
theorem ofK_range (s : ByteArray) (a b : Int) : 0 ≤ ofK s a b ∧ ofK s a b < 4294967296 := fnv_range _
def capS (n : Int) : Int := if 64 < n then 64 else if 1 < n then n else 1
theorem capS_range (n : Int) : 1 ≤ capS n ∧ capS n ≤ 64 := by unfold capS; split <;> (try split) <;> omega
def stripeK (s : ByteArray) (a b n : Int) : Int := (ofK s a b) % (capS n)
def StripeK (s : ByteArray) (a b n : Int) (w : World) (e : Ending) (w' : World) : Prop := e = .returned (.int .i64 (stripeK s a b n)) ∧ Below w.heap.size w w'
theorem stripe_of {s : ByteArray} {a b n m : Int} (h : capS n = m) : wrap64 ((ofK s a b).tmod m) = stripeK s a b n := by
  have h1 := ofK_range s a b
  have h2 := capS_range n
  subst h
  unfold stripeK
  rw [Int.tmod_eq_emod_of_nonneg h1.1]
  have h3 := Int.emod_nonneg (ofK s a b) (show capS n ≠ 0 by omega)
  have h4 := Int.emod_lt_of_pos (ofK s a b) (show 0 < capS n by omega)
  unfold wrap64
  omega
theorem stripe_one {s : ByteArray} {a b n : Int} (h : capS n = 1) : 0 = stripeK s a b n := by
  unfold stripeK
  rw [h]
  rw [Int.emod_one]
theorem ret_i64 {a b : Int} (h : a = b) : Ending.returned (.int .i64 a) = .returned (.int .i64 b) := by rw [h]
set_option maxHeartbeats 1000000 in
theorem stripe_any (s : ByteArray) (a b n : Int) (w : World) (hs : s.size ≤ 140737488355328) :
    Calls Try.prog 16 #[.agg #[.string s, .int .i64 a, .int .i64 b], .int .i64 n] w (StripeK s a b n w) := by
  by_cases h1 : 64 < n
  · have hc := Lib.hid (show capS n = 64 by unfold capS; rw [if_pos h1])
    go_enter Try.func16, Try.ntmps16
    go_wp2_with (go_at_call 14; refine (of_any _ _ _ _ hs).mono ?_; rintro e w1 ⟨rfl, hb⟩)
    go_ret
    exact ⟨ret_i64 (stripe_of hc.out), below_next (below_alloc (Below.refl _ _) _) hb⟩
  · by_cases h2 : 1 < n
    · have hc := Lib.hid (show capS n = n by unfold capS; rw [if_neg h1, if_pos h2])
      go_enter Try.func16, Try.ntmps16
      go_wp2_with (go_at_call 14; refine (of_any _ _ _ _ hs).mono ?_; rintro e w1 ⟨rfl, hb⟩)
      go_ret
      exact ⟨ret_i64 (stripe_of hc.out), below_next (below_alloc (Below.refl _ _) _) hb⟩
    · have hc := Lib.hid (show capS n = 1 by unfold capS; rw [if_neg h1, if_neg h2])
      go_enter Try.func16, Try.ntmps16
      go_wp2_with (go_at_call 14; refine (of_any _ _ _ _ hs).mono ?_; rintro e w1 ⟨rfl, hb⟩)
      go_ret
      exact ⟨ret_i64 (stripe_one hc.out), below_next (below_alloc (Below.refl _ _) _) hb⟩
set_option maxHeartbeats 1000000 in
theorem rstripe_any (s : ByteArray) (a b n : Int) (w : World) (hs : s.size ≤ 140737488355328) :
    Calls Try.prog 17 #[.agg #[.string s, .int .i64 a, .int .i64 b], .int .i64 n] w (StripeK s a b n w) := by
  by_cases h1 : 64 < n
  · have hc := Lib.hid (show capS n = 64 by unfold capS; rw [if_pos h1])
    go_enter Try.func17, Try.ntmps17
    go_wp2_with (go_at_call 15; refine (rof_any _ _ _ _ hs).mono ?_; rintro e w1 ⟨rfl, hb⟩)
    go_ret
    exact ⟨ret_i64 (stripe_of hc.out), below_next (below_alloc (Below.refl _ _) _) hb⟩
  · by_cases h2 : 1 < n
    · have hc := Lib.hid (show capS n = n by unfold capS; rw [if_neg h1, if_pos h2])
      go_enter Try.func17, Try.ntmps17
      go_wp2_with (go_at_call 15; refine (rof_any _ _ _ _ hs).mono ?_; rintro e w1 ⟨rfl, hb⟩)
      go_ret
      exact ⟨ret_i64 (stripe_of hc.out), below_next (below_alloc (Below.refl _ _) _) hb⟩
    · have hc := Lib.hid (show capS n = 1 by unfold capS; rw [if_neg h1, if_neg h2])
      go_enter Try.func17, Try.ntmps17
      go_wp2_with (go_at_call 15; refine (rof_any _ _ _ _ hs).mono ?_; rintro e w1 ⟨rfl, hb⟩)
      go_ret
      exact ⟨ret_i64 (stripe_one hc.out), below_next (below_alloc (Below.refl _ _) _) hb⟩

def Yes (w : World) (e : Ending) (w' : World) : Prop := e = .returned (.bool true) ∧ Below w.heap.size w w'
theorem fnv_a : fnv (bys ⟨#[97]⟩) = 3826002220 := by decide +kernel
theorem fnv_0 : fnv (bys ⟨#[]⟩) = 2166136261 := by decide +kernel
theorem stripe_a : stripeK ⟨#[97]⟩ 0 0 0 = 0 := by
  unfold stripeK
  rw [show capS 0 = 1 by decide +kernel, Int.emod_one]
theorem size_a : (⟨#[97]⟩ : ByteArray).size ≤ maxLen := by decide +kernel
theorem size_0 : (⟨#[]⟩ : ByteArray).size ≤ maxLen := by decide +kernel
theorem size_a' : (⟨#[97]⟩ : ByteArray).size ≤ 140737488355328 := by decide +kernel
theorem sum_a (w : World) : Calls Try.prog 12 #[.string ⟨#[97]⟩] w fun e w' => e = .returned (.int .u32 3826002220) ∧ w = w' :=
  (sum_any ⟨#[97]⟩ w size_a).mono fun _ _ h => ⟨by rw [h.1, fnv_a], h.2⟩
theorem sum_0 (w : World) : Calls Try.prog 12 #[.string ⟨#[]⟩] w fun e w' => e = .returned (.int .u32 2166136261) ∧ w = w' :=
  (sum_any ⟨#[]⟩ w size_0).mono fun _ _ h => ⟨by rw [h.1, fnv_0], h.2⟩
theorem stripe_a0 (w : World) : Calls Try.prog 16 #[.agg #[.string ⟨#[97]⟩, .int .i64 0, .int .i64 0], .int .i64 0] w fun e w' => e = .returned (.int .i64 0) ∧ Below w.heap.size w w' :=
  (stripe_any ⟨#[97]⟩ 0 0 0 w size_a').mono fun _ _ h => ⟨by rw [h.1, stripe_a], h.2⟩
set_option maxHeartbeats 1000000 in
theorem awake_any (w : World) : Calls Try.prog 11 #[] w (Yes w) := by
  go_enter Try.func11, Try.ntmps11
  go_wp2_with fail
  with_reducible refine (sum_a _).mono ?_
  rintro e w1 ⟨rfl, rfl⟩
  go_wp2_with fail
  with_reducible refine (sum_0 _).mono ?_
  rintro e w1 ⟨rfl, rfl⟩
  go_wp2_with fail
  with_reducible refine (stripe_a0 _).mono ?_
  rintro e w1 ⟨rfl, hb⟩
  go_wp2
  go_ret
  exact ⟨rfl, hb⟩
end Go.Proofs.Ytbfglpmoomabbaa
