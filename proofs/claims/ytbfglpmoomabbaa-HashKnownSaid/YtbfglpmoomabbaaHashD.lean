/-
The law's function HashKnown returns true for every argument, and changes nothing that was there before.
-/
import Derived.Test.YtbfglpmoomabbaaHashA
namespace Go.Proofs.Ytbfglpmoomabbaa
open Go.RowKit
attribute [local go_sem ↓] Go.wp_at_zero Go.wp_at_succ
theorem le4_small (a : Int) (h0 : 0 ≤ a) (h1 : a < 256) : le4 a = [a, 0, 0, 0] := by
  unfold le4
  rw [show a % 4294967296 % 256 = a by omega, show a % 4294967296 / 256 % 256 = 0 by omega, show a % 4294967296 / 65536 % 256 = 0 by omega, show a % 4294967296 / 16777216 = 0 by omega]
theorem le4_up (a : Int) : le4 (a + 4294967296) = le4 a := by
  unfold le4
  rw [show (a + 4294967296) % 4294967296 = a % 4294967296 by omega]
def eight (a b : Int) : List Int := [a, 0, 0, 0, b, 0, 0, 0]
theorem eight_range {a b : Int} (ha : 0 ≤ a ∧ a < 256) (hb : 0 ≤ b ∧ b < 256) : ∀ x ∈ eight a b, 0 ≤ x ∧ x < 256 := by
  intro x hx
  simp only [eight, List.mem_cons, List.not_mem_nil, or_false] at hx
  omega
theorem known_of (s : ByteArray) {a b : Int} (ha : 0 ≤ a ∧ a < 256) (hb : 0 ≤ b ∧ b < 256) : fnv (bys (s ++ strOfNums (eight a b))) = ofK s a b := by
  rw [bys_append, bys_strOfNums _ (eight_range ha hb)]
  unfold ofK
  rw [le4_small a ha.1 ha.2, le4_small b hb.1 hb.2, List.append_assoc]
  rfl
theorem ofK_up (s : ByteArray) (a b : Int) : ofK s (a + 4294967296) b = ofK s a b := by unfold ofK; rw [le4_up]
theorem eight_at (a b : Int) (W : World) (i : Nat) (hi : i < 8) : (W.alloc (Obj.cells #[Value.int IntKind.u8 a, Value.int IntKind.u8 0, Value.int IntKind.u8 0, Value.int IntKind.u8 0, Value.int IntKind.u8 b, Value.int IntKind.u8 0, Value.int IntKind.u8 0, Value.int IntKind.u8 0] 5)).cell? ⟨W.heap.size, 0 + i, none⟩ = some (.int .u8 ((eight a b).getD i 0)) := by
  match i, hi with
  | 0, _ => simp [eight, World.cell?_alloc_at]
  | 1, _ => simp [eight, World.cell?_alloc_at]
  | 2, _ => simp [eight, World.cell?_alloc_at]
  | 3, _ => simp [eight, World.cell?_alloc_at]
  | 4, _ => simp [eight, World.cell?_alloc_at]
  | 5, _ => simp [eight, World.cell?_alloc_at]
  | 6, _ => simp [eight, World.cell?_alloc_at]
  | 7, _ => simp [eight, World.cell?_alloc_at]
theorem keight (a b : Int) (W : World) (g : Nat) (hg : g = W.heap.size) : (convert 31 9 (.slice (some ⟨g, 0, none⟩) 8 8)).run Try.prog (W.alloc (Obj.cells #[Value.int IntKind.u8 a, Value.int IntKind.u8 0, Value.int IntKind.u8 0, Value.int IntKind.u8 0, Value.int IntKind.u8 b, Value.int IntKind.u8 0, Value.int IntKind.u8 0, Value.int IntKind.u8 0] 5)) =
    .ok (.string (strOfNums (eight a b))) (W.alloc (Obj.cells #[Value.int IntKind.u8 a, Value.int IntKind.u8 0, Value.int IntKind.u8 0, Value.int IntKind.u8 0, Value.int IntKind.u8 b, Value.int IntKind.u8 0, Value.int IntKind.u8 0, Value.int IntKind.u8 0] 5)) := by
  subst hg
  exact run_convert_bytes_arg (P := Try.prog) _ 31 5 Try.underlying31 Try.underlying5 W.heap.size 0 8 8 (eight a b) rfl (fun i hi => eight_at a b W i hi) 9 Try.underlying9
theorem size_eight (a b : Int) : (strOfNums (eight a b)).size = 8 := by rw [strOfNums_size]; rfl
theorem of_up (s : ByteArray) (a b : Int) (w : World) (hs : s.size ≤ 140737488355328) :
    Calls Try.prog 14 #[.agg #[.string s, .int .i64 (a + 4294967296), .int .i64 b]] w (OfK s a b w) :=
  (of_any s (a + 4294967296) b w hs).mono fun _ _ hh => ⟨by rw [hh.1, ofK_up], hh.2⟩
theorem sum_known (s : ByteArray) {a b : Int} (ha : 0 ≤ a ∧ a < 256) (hb : 0 ≤ b ∧ b < 256) (hz : (s ++ strOfNums (eight a b)).size ≤ maxLen) (w : World) :
    Calls Try.prog 12 #[.string (s ++ strOfNums (eight a b))] w fun e w' => e = .returned (.int .u32 (ofK s a b)) ∧ w = w' :=
  (sum_any _ w hz).mono fun _ _ hh => ⟨by rw [hh.1, known_of s ha hb], hh.2⟩
theorem size_known (s : ByteArray) (hs : s.size ≤ 400) (a b : Int) : (s ++ strOfNums (eight a b)).size ≤ maxLen := by
  rw [ByteArray.size_append, size_eight]; unfold maxLen; omega
theorem size_k0 : (⟨#[]⟩ : ByteArray).size ≤ 400 := by decide +kernel
theorem fnv_k0 : fnv (bys ⟨#[]⟩) = 2166136261 := by decide +kernel
theorem sum_k0 (w : World) : Calls Try.prog 12 #[.string ⟨#[]⟩] w fun e w' => e = .returned (.int .u32 2166136261) ∧ w = w' :=
  (sum_any ⟨#[]⟩ w (by have := size_k0; unfold maxLen; omega)).mono fun _ _ hh => ⟨by rw [hh.1, fnv_k0], hh.2⟩
set_option maxHeartbeats 4000000 in
theorem known_0 (x a b : Int) (w : World) (hx : 0 ≤ x ∧ x < 256) (rA : 0 ≤ a ∧ a < 256) (rB : 0 ≤ b ∧ b < 256) (hk : x % 4 = 0) : Calls Try.prog 6 #[.int .u8 x, .int .u8 a, .int .u8 b] w (Yes w) := by
  have ke := keight
  have kz := size_eight
  have hx0 := hx.1
  have ha0 := rA.1
  have hb0 := rB.1
  have ha1 := rA.2
  have hb1 := rB.2
  have hsz := size_k0
  have kk := size_known ⟨#[]⟩ hsz a b
  have kf : ¬ 9223372036854775807 < (⟨#[]⟩ : ByteArray).size + 8 := by omega
  clear hsz
  have hk2 : x.tmod 4 = 0 := by rw [Int.tmod_eq_emod_of_nonneg hx0]; exact hk
  have wa : IntKind.i64.wrap a = a := IntWalk.i64_in _ (by omega)
  have wb : IntKind.i64.wrap b = b := IntWalk.i64_in _ (by omega)
  have wc : IntKind.i64.wrap (a + 4294967296) = a + 4294967296 := IntWalk.i64_in _ (by omega)
  go_enter Try.func6, Try.ntmps6
  go_wp2
  go_region_held3 (fun w' => w'.cell? ⟨w.heap.size, 0, none⟩ = some (.string ⟨#[]⟩) ∧ w'.cell? ⟨w.heap.size + 1, 0, none⟩ = some (.int .u32 2166136261) ∧ Below w.heap.size w w')
    (first | (go_split_ands; refine ⟨cell_kept hb (by assumption), cell_kept hb (by assumption), below_next (by assumption) hb⟩) | (refine ⟨by go_simp, by go_simp, below_drewN (below_alloc (below_alloc (below_alloc (Below.refl _ _) _) _) _) 1⟩) | go_keep)
    (first
      | (go_at_call 12; (with_reducible refine (sum_k0 _).mono ?_); rintro e w' ⟨rfl, rfl⟩)
      | (go_at_call 12; (with_reducible refine (sum_known ⟨#[]⟩ rA rB kk _).mono ?_); rintro e w' ⟨rfl, rfl⟩)
      | (go_at_call 14; (with_reducible refine (of_up ⟨#[]⟩ a b _ (by have := size_k0; omega)).mono ?_); rintro e w' ⟨rfl, hb⟩)
      | (go_at_call 14; (with_reducible refine (of_any ⟨#[]⟩ a b _ (by have := size_k0; omega)).mono ?_); rintro e w' ⟨rfl, hb⟩)
      | (go_at_call 11; refine (awake_any _).mono ?_; rintro e w' ⟨rfl, hb⟩))
  go_wp2
  go_ret
  exact ⟨rfl, by go_split_ands; assumption⟩
theorem size_k1 : (⟨#[97]⟩ : ByteArray).size ≤ 400 := by decide +kernel
theorem fnv_k1 : fnv (bys ⟨#[97]⟩) = 3826002220 := by decide +kernel
theorem sum_k1 (w : World) : Calls Try.prog 12 #[.string ⟨#[97]⟩] w fun e w' => e = .returned (.int .u32 3826002220) ∧ w = w' :=
  (sum_any ⟨#[97]⟩ w (by have := size_k1; unfold maxLen; omega)).mono fun _ _ hh => ⟨by rw [hh.1, fnv_k1], hh.2⟩
set_option maxHeartbeats 4000000 in
theorem known_1 (x a b : Int) (w : World) (hx : 0 ≤ x ∧ x < 256) (rA : 0 ≤ a ∧ a < 256) (rB : 0 ≤ b ∧ b < 256) (hk : x % 4 = 1) : Calls Try.prog 6 #[.int .u8 x, .int .u8 a, .int .u8 b] w (Yes w) := by
  have ke := keight
  have kz := size_eight
  have hx0 := hx.1
  have ha0 := rA.1
  have hb0 := rB.1
  have ha1 := rA.2
  have hb1 := rB.2
  have hsz := size_k1
  have kk := size_known ⟨#[97]⟩ hsz a b
  have kf : ¬ 9223372036854775807 < (⟨#[97]⟩ : ByteArray).size + 8 := by omega
  clear hsz
  have hk2 : x.tmod 4 = 1 := by rw [Int.tmod_eq_emod_of_nonneg hx0]; exact hk
  have wa : IntKind.i64.wrap a = a := IntWalk.i64_in _ (by omega)
  have wb : IntKind.i64.wrap b = b := IntWalk.i64_in _ (by omega)
  have wc : IntKind.i64.wrap (a + 4294967296) = a + 4294967296 := IntWalk.i64_in _ (by omega)
  go_enter Try.func6, Try.ntmps6
  go_wp2
  go_region_held3 (fun w' => w'.cell? ⟨w.heap.size, 1, none⟩ = some (.string ⟨#[97]⟩) ∧ w'.cell? ⟨w.heap.size + 1, 1, none⟩ = some (.int .u32 3826002220) ∧ Below w.heap.size w w')
    (first | (go_split_ands; refine ⟨cell_kept hb (by assumption), cell_kept hb (by assumption), below_next (by assumption) hb⟩) | (refine ⟨by go_simp, by go_simp, below_drewN (below_alloc (below_alloc (below_alloc (Below.refl _ _) _) _) _) 1⟩) | go_keep)
    (first
      | (go_at_call 12; (with_reducible refine (sum_k1 _).mono ?_); rintro e w' ⟨rfl, rfl⟩)
      | (go_at_call 12; (with_reducible refine (sum_known ⟨#[97]⟩ rA rB kk _).mono ?_); rintro e w' ⟨rfl, rfl⟩)
      | (go_at_call 14; (with_reducible refine (of_up ⟨#[97]⟩ a b _ (by have := size_k1; omega)).mono ?_); rintro e w' ⟨rfl, hb⟩)
      | (go_at_call 14; (with_reducible refine (of_any ⟨#[97]⟩ a b _ (by have := size_k1; omega)).mono ?_); rintro e w' ⟨rfl, hb⟩)
      | (go_at_call 11; refine (awake_any _).mono ?_; rintro e w' ⟨rfl, hb⟩))
  go_wp2
  go_ret
  exact ⟨rfl, by go_split_ands; assumption⟩
theorem size_k2 : (⟨#[102, 111, 111, 98, 97, 114]⟩ : ByteArray).size ≤ 400 := by decide +kernel
theorem fnv_k2 : fnv (bys ⟨#[102, 111, 111, 98, 97, 114]⟩) = 3214735720 := by decide +kernel
theorem sum_k2 (w : World) : Calls Try.prog 12 #[.string ⟨#[102, 111, 111, 98, 97, 114]⟩] w fun e w' => e = .returned (.int .u32 3214735720) ∧ w = w' :=
  (sum_any ⟨#[102, 111, 111, 98, 97, 114]⟩ w (by have := size_k2; unfold maxLen; omega)).mono fun _ _ hh => ⟨by rw [hh.1, fnv_k2], hh.2⟩
set_option maxHeartbeats 4000000 in
theorem known_2 (x a b : Int) (w : World) (hx : 0 ≤ x ∧ x < 256) (rA : 0 ≤ a ∧ a < 256) (rB : 0 ≤ b ∧ b < 256) (hk : x % 4 = 2) : Calls Try.prog 6 #[.int .u8 x, .int .u8 a, .int .u8 b] w (Yes w) := by
  have ke := keight
  have kz := size_eight
  have hx0 := hx.1
  have ha0 := rA.1
  have hb0 := rB.1
  have ha1 := rA.2
  have hb1 := rB.2
  have hsz := size_k2
  have kk := size_known ⟨#[102, 111, 111, 98, 97, 114]⟩ hsz a b
  have kf : ¬ 9223372036854775807 < (⟨#[102, 111, 111, 98, 97, 114]⟩ : ByteArray).size + 8 := by omega
  clear hsz
  have hk2 : x.tmod 4 = 2 := by rw [Int.tmod_eq_emod_of_nonneg hx0]; exact hk
  have wa : IntKind.i64.wrap a = a := IntWalk.i64_in _ (by omega)
  have wb : IntKind.i64.wrap b = b := IntWalk.i64_in _ (by omega)
  have wc : IntKind.i64.wrap (a + 4294967296) = a + 4294967296 := IntWalk.i64_in _ (by omega)
  go_enter Try.func6, Try.ntmps6
  go_wp2
  go_region_held3 (fun w' => w'.cell? ⟨w.heap.size, 2, none⟩ = some (.string ⟨#[102, 111, 111, 98, 97, 114]⟩) ∧ w'.cell? ⟨w.heap.size + 1, 2, none⟩ = some (.int .u32 3214735720) ∧ Below w.heap.size w w')
    (first | (go_split_ands; refine ⟨cell_kept hb (by assumption), cell_kept hb (by assumption), below_next (by assumption) hb⟩) | (refine ⟨by go_simp, by go_simp, below_drewN (below_alloc (below_alloc (below_alloc (Below.refl _ _) _) _) _) 1⟩) | go_keep)
    (first
      | (go_at_call 12; (with_reducible refine (sum_k2 _).mono ?_); rintro e w' ⟨rfl, rfl⟩)
      | (go_at_call 12; (with_reducible refine (sum_known ⟨#[102, 111, 111, 98, 97, 114]⟩ rA rB kk _).mono ?_); rintro e w' ⟨rfl, rfl⟩)
      | (go_at_call 14; (with_reducible refine (of_up ⟨#[102, 111, 111, 98, 97, 114]⟩ a b _ (by have := size_k2; omega)).mono ?_); rintro e w' ⟨rfl, hb⟩)
      | (go_at_call 14; (with_reducible refine (of_any ⟨#[102, 111, 111, 98, 97, 114]⟩ a b _ (by have := size_k2; omega)).mono ?_); rintro e w' ⟨rfl, hb⟩)
      | (go_at_call 11; refine (awake_any _).mono ?_; rintro e w' ⟨rfl, hb⟩))
  go_wp2
  go_ret
  exact ⟨rfl, by go_split_ands; assumption⟩
theorem size_k3 : (⟨#[104, 101, 108, 108, 111]⟩ : ByteArray).size ≤ 400 := by decide +kernel
theorem fnv_k3 : fnv (bys ⟨#[104, 101, 108, 108, 111]⟩) = 1335831723 := by decide +kernel
theorem sum_k3 (w : World) : Calls Try.prog 12 #[.string ⟨#[104, 101, 108, 108, 111]⟩] w fun e w' => e = .returned (.int .u32 1335831723) ∧ w = w' :=
  (sum_any ⟨#[104, 101, 108, 108, 111]⟩ w (by have := size_k3; unfold maxLen; omega)).mono fun _ _ hh => ⟨by rw [hh.1, fnv_k3], hh.2⟩
set_option maxHeartbeats 4000000 in
theorem known_3 (x a b : Int) (w : World) (hx : 0 ≤ x ∧ x < 256) (rA : 0 ≤ a ∧ a < 256) (rB : 0 ≤ b ∧ b < 256) (hk : x % 4 = 3) : Calls Try.prog 6 #[.int .u8 x, .int .u8 a, .int .u8 b] w (Yes w) := by
  have ke := keight
  have kz := size_eight
  have hx0 := hx.1
  have ha0 := rA.1
  have hb0 := rB.1
  have ha1 := rA.2
  have hb1 := rB.2
  have hsz := size_k3
  have kk := size_known ⟨#[104, 101, 108, 108, 111]⟩ hsz a b
  have kf : ¬ 9223372036854775807 < (⟨#[104, 101, 108, 108, 111]⟩ : ByteArray).size + 8 := by omega
  clear hsz
  have hk2 : x.tmod 4 = 3 := by rw [Int.tmod_eq_emod_of_nonneg hx0]; exact hk
  have wa : IntKind.i64.wrap a = a := IntWalk.i64_in _ (by omega)
  have wb : IntKind.i64.wrap b = b := IntWalk.i64_in _ (by omega)
  have wc : IntKind.i64.wrap (a + 4294967296) = a + 4294967296 := IntWalk.i64_in _ (by omega)
  go_enter Try.func6, Try.ntmps6
  go_wp2
  go_region_held3 (fun w' => w'.cell? ⟨w.heap.size, 3, none⟩ = some (.string ⟨#[104, 101, 108, 108, 111]⟩) ∧ w'.cell? ⟨w.heap.size + 1, 3, none⟩ = some (.int .u32 1335831723) ∧ Below w.heap.size w w')
    (first | (go_split_ands; refine ⟨cell_kept hb (by assumption), cell_kept hb (by assumption), below_next (by assumption) hb⟩) | (refine ⟨by go_simp, by go_simp, below_drewN (below_alloc (below_alloc (below_alloc (Below.refl _ _) _) _) _) 1⟩) | go_keep)
    (first
      | (go_at_call 12; (with_reducible refine (sum_k3 _).mono ?_); rintro e w' ⟨rfl, rfl⟩)
      | (go_at_call 12; (with_reducible refine (sum_known ⟨#[104, 101, 108, 108, 111]⟩ rA rB kk _).mono ?_); rintro e w' ⟨rfl, rfl⟩)
      | (go_at_call 14; (with_reducible refine (of_up ⟨#[104, 101, 108, 108, 111]⟩ a b _ (by have := size_k3; omega)).mono ?_); rintro e w' ⟨rfl, hb⟩)
      | (go_at_call 14; (with_reducible refine (of_any ⟨#[104, 101, 108, 108, 111]⟩ a b _ (by have := size_k3; omega)).mono ?_); rintro e w' ⟨rfl, hb⟩)
      | (go_at_call 11; refine (awake_any _).mono ?_; rintro e w' ⟨rfl, hb⟩))
  go_wp2
  go_ret
  exact ⟨rfl, by go_split_ands; assumption⟩
theorem hashKnown_any (x a b : Int) (w : World) (hx : 0 ≤ x ∧ x < 256) (ha : 0 ≤ a ∧ a < 256) (hb : 0 ≤ b ∧ b < 256) : Calls Try.prog 6 #[.int .u8 x, .int .u8 a, .int .u8 b] w (Yes w) := by
  rcases (show x % 4 = 0 ∨ x % 4 = 1 ∨ x % 4 = 2 ∨ x % 4 = 3 by omega) with h | h | h | h
  · exact known_0 x a b w hx ha hb h
  · exact known_1 x a b w hx ha hb h
  · exact known_2 x a b w hx ha hb h
  · exact known_3 x a b w hx ha hb h
end Go.Proofs.Ytbfglpmoomabbaa
