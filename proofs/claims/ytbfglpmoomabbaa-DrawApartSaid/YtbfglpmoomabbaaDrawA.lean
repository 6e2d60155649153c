/-
Contracts of the functions of layer 1 and of their references; no condition beside the lists' lengths.
-/
import Derived.Test.YtbfglpmoomabbaaLib
import Derived.Laws.BitsAllLaws
namespace Go.Proofs.Ytbfglpmoomabbaa
open Go.RowKit
def mixA (n : Int) : Int := ((n % 4294967296) * 2654435769 + 12345) % 4294967296
def mixB (n : Int) : Int := bits .xor .u32 (mixA n) (mixA n / 65536) * 2246822519 % 4294967296
def mixV (n : Int) : Int := wrap64 (bits .and .u32 (bits .xor .u32 (mixB n) (mixB n / 8192)) 2147483647)
set_option maxHeartbeats 400000 in
theorem mix_any (n : Int) (w : World) : Calls Try.prog 21 #[.int .i64 n] w fun e w' => e = .returned (.int .i64 (mixV n)) ∧ w = w' := by
  go_enter Try.func21, Try.ntmps21
  go_wp2
  go_ret
  exact ⟨ret_i64 (by unfold mixV mixB mixA; with_reducible rfl), rfl⟩
set_option maxHeartbeats 400000 in
theorem rmix_any (n : Int) (w : World) : Calls Try.prog 25 #[.int .i64 n] w fun e w' => e = .returned (.int .i64 (mixV n)) ∧ w = w' := by
  go_enter Try.func25, Try.ntmps25
  go_wp2
  go_ret
  exact ⟨ret_i64 (by unfold mixV mixB mixA; with_reducible rfl), rfl⟩
theorem mixV_range (n : Int) : 0 ≤ mixV n ∧ mixV n ≤ 2147483647 := by
  have h1 : 0 ≤ bits .xor .u32 (mixB n) (mixB n / 8192) ∧ bits .xor .u32 (mixB n) (mixB n / 8192) < 4294967296 := by
    have hb : 0 ≤ mixB n ∧ mixB n < 4294967296 := by unfold mixB; omega
    rw [u32_xor _ _ hb.1 hb.2 (by omega) (by omega)]
    have : (mixB n).toNat ^^^ (mixB n / 8192).toNat < 2 ^ 32 := Nat.xor_lt_two_pow (by omega) (by omega)
    omega
  unfold mixV
  rw [u32_and _ _ h1.1 h1.2 (by omega) (by omega)]
  have h2 : (bits .xor .u32 (mixB n) (mixB n / 8192)).toNat &&& (2147483647 : Int).toNat ≤ 2147483647 := Nat.and_le_right
  unfold wrap64
  omega
def low (x : Int) : Int := x % 2147483648
theorem and_u32 (x : Int) : wrap64 (bits .and .u32 (x % 4294967296) 2147483647) = low x := by
  rw [u32_and _ _ (by omega) (by omega) (by omega) (by omega)]
  rw [show (2147483647 : Int).toNat = 2 ^ 31 - 1 by decide, Nat.and_two_pow_sub_one_eq_mod]
  unfold low wrap64
  omega
def nextN (l : List Int) (at_ : Int) : Int := if at_ < 0 ∨ 2147483648 < at_ then 0 else if at_ < l.length then low (l.getD at_.toNat 0) else mixV at_
def nextAt (at_ : Int) : Int := if at_ < 0 ∨ 2147483648 < at_ then at_ else at_ + 1
def NextP (A : Option Addr) (l : List Int) (c : Nat) (at_ : Int) (w : World) (e : Ending) (w' : World) : Prop := e = .returned (.tuple #[.int .i64 (nextN l at_), .agg #[.slice A l.length c, .int .i64 (nextAt at_)]]) ∧ Below w.heap.size w w'
theorem nextN_out {l : List Int} {x : Int} (h : x < 0 ∨ 2147483648 < x) : nextN l x = 0 := by unfold nextN; rw [if_pos h]
theorem nextAt_out {x : Int} (h : x < 0 ∨ 2147483648 < x) : nextAt x = x := by unfold nextAt; rw [if_pos h]
theorem nextN_in {l : List Int} {x : Int} (h0 : ¬ x < 0) (h1 : ¬ 2147483648 < x) (h : x < l.length) : nextN l x = low (l.getD x.toNat 0) := by unfold nextN; rw [if_neg (by omega), if_pos h]
theorem nextN_far {l : List Int} {x : Int} (h0 : ¬ x < 0) (h1 : ¬ 2147483648 < x) (h : ¬ x < l.length) : nextN l x = mixV x := by unfold nextN; rw [if_neg (by omega), if_neg h]
theorem nextAt_in {x : Int} (h0 : ¬ x < 0) (h1 : ¬ 2147483648 < x) : nextAt x = x + 1 := by unfold nextAt; rw [if_neg (by omega)]
theorem next_of {A : Option Addr} {l : List Int} {c : Nat} {x n y : Int} {w w' : World} (h1 : nextN l x = n) (h2 : nextAt x = y) (hb : Below w.heap.size w w') : NextP A l c x w (.returned (.tuple #[.int .i64 n, .agg #[.slice A l.length c, .int .i64 y]])) w' := ⟨by rw [h1, h2], hb⟩
set_option maxHeartbeats 1000000 in
theorem next_any (A : Option Addr) (l : List Int) (c : Nat) (x : Int) (w : World) (hr : RowI w A l) : Calls Try.prog 19 #[.agg #[.slice A l.length c, .int .i64 x]] w (NextP A l c x w) := by
  have HL := Lib.hid hr.2.1
  by_cases h0 : x < 0
  · go_enter Try.func19, Try.ntmps19
    go_wp2
    go_region
    go_wp2
    exact bodyPost_ret (v := .tuple #[.int .i64 0, .agg #[.slice A l.length c, .int .i64 x]]) (by simp [results, Try.results19, go_sem]) rfl (next_of (nextN_out (.inl h0)) (nextAt_out (.inl h0)) (below_drew (below_alloc (below_alloc (Below.refl _ _) _) _)))
  · by_cases h1 : 2147483648 < x
    · go_enter Try.func19, Try.ntmps19
      go_wp2
      go_region
      go_wp2
      exact bodyPost_ret (v := .tuple #[.int .i64 0, .agg #[.slice A l.length c, .int .i64 x]]) (by simp [results, Try.results19, go_sem]) rfl (next_of (nextN_out (.inr h1)) (nextAt_out (.inr h1)) (below_drew (below_alloc (below_alloc (Below.refl _ _) _) _)))
    · by_cases h2 : x < l.length
      · obtain ⟨ad, rfl, hc⟩ := hr.at_int x (by omega) h2
        have hc1 := cell_kept (below_alloc (below_alloc (Below.refl w.heap.size w) (.cells #[.slice (some ad) l.length c, .int .i64 x] 39)) (.cells #[.slice none 0 0, .int .i64 0] 39)) hc
        obtain ⟨z, hz⟩ : ∃ z, z = l.getD x.toNat 0 := ⟨_, rfl⟩
        have HZ := Lib.hid (show nextN l x = low z by rw [nextN_in h0 h1 h2, hz])
        rw [← hz] at hc1
        have ha := and_u32 z
        clear hr hc hz
        go_enter Try.func19, Try.ntmps19
        go_wp2_with (go_at_call 21; refine (mix_any _ _).mono ?_; rintro e w1 ⟨rfl, rfl⟩)
        go_region
        go_wp2
        exact bodyPost_ret (v := .tuple #[.int .i64 (low z), .agg #[.slice (some ad) l.length c, .int .i64 (x + 1)]]) (by simp [results, Try.results19, go_sem, ha]) rfl (next_of HZ.out (nextAt_in (by omega) (by omega)) (below_drew (below_alloc (below_alloc (Below.refl _ _) _) _)))
      · have HZ := Lib.hid (nextN_far h0 h1 h2)
        clear hr
        go_enter Try.func19, Try.ntmps19
        go_wp2_with (go_at_call 21; refine (mix_any _ _).mono ?_; rintro e w1 ⟨rfl, rfl⟩)
        go_region
        go_wp2
        exact bodyPost_ret (v := .tuple #[.int .i64 (mixV x), .agg #[.slice A l.length c, .int .i64 (x + 1)]]) (by simp [results, Try.results19, go_sem]) rfl (next_of HZ.out (nextAt_in (by omega) (by omega)) (below_drew (below_alloc (below_alloc (Below.refl _ _) _) _)))

def RDrawP (A : Option Addr) (l : List Int) (c : Nat) (x : Int) (w : World) (e : Ending) (w' : World) : Prop := e = .returned (.agg #[.int .i64 (nextN l x), .slice A l.length c, .int .i64 (nextAt x)]) ∧ Below w.heap.size w w'
theorem rdraw_of {A : Option Addr} {l : List Int} {c : Nat} {x n y : Int} {w w' : World} (h1 : nextN l x = n) (h2 : nextAt x = y) (hb : Below w.heap.size w w') : RDrawP A l c x w (.returned (.agg #[.int .i64 n, .slice A l.length c, .int .i64 y])) w' := ⟨by rw [h1, h2], hb⟩
theorem and_i64 (x : Int) : bits .and .i64 x 2147483647 = low x := by
  have h1 : (BitVec.ofInt 64 x &&& BitVec.ofInt 64 2147483647).toNat = (x % 18446744073709551616).toNat % 2147483648 := by
    rw [BitVec.toNat_and, BitVec.toNat_ofInt, BitVec.toNat_ofInt]
    rw [show ((2147483647 : Int) % ((2 ^ 64 : Nat) : Int)).toNat = 2 ^ 31 - 1 by decide, Nat.and_two_pow_sub_one_eq_mod]
    rfl
  show IntKind.i64.wrap ((BitVec.ofInt 64 x &&& BitVec.ofInt 64 2147483647).toNat : Int) = low x
  rw [h1, IntWalk.i64_in _ (by omega)]
  unfold low
  omega
set_option maxHeartbeats 1000000 in
theorem rdraw_any (A : Option Addr) (l : List Int) (c : Nat) (x : Int) (w : World) (hr : RowI w A l) : Calls Try.prog 22 #[.agg #[.slice A l.length c, .int .i64 x]] w (RDrawP A l c x w) := by
  have HL := Lib.hid hr.2.1
  by_cases h0 : x < 0
  · go_enter Try.func22, Try.ntmps22
    go_wp2
    exact bodyPost_ret (v := .agg #[.int .i64 0, .slice A l.length c, .int .i64 x]) (by simp [results, Try.results22, go_sem]) rfl (rdraw_of (nextN_out (.inl h0)) (nextAt_out (.inl h0)) ((below_alloc (below_alloc (Below.refl _ _) _) _)))
  · by_cases h1 : 2147483648 < x
    · go_enter Try.func22, Try.ntmps22
      go_wp2
      exact bodyPost_ret (v := .agg #[.int .i64 0, .slice A l.length c, .int .i64 x]) (by simp [results, Try.results22, go_sem]) rfl (rdraw_of (nextN_out (.inr h1)) (nextAt_out (.inr h1)) ((below_alloc (below_alloc (Below.refl _ _) _) _)))
    · by_cases h2 : x < l.length
      · obtain ⟨ad, rfl, hc⟩ := hr.at_int x (by omega) h2
        have hc1 := cell_kept (below_alloc (below_alloc (Below.refl w.heap.size w) (.cells #[.slice (some ad) l.length c, .int .i64 x] 39)) (.cells #[.int .i64 0, .slice none 0 0, .int .i64 0] 46)) hc
        obtain ⟨z, hz⟩ : ∃ z, z = l.getD x.toNat 0 := ⟨_, rfl⟩
        have HZ := Lib.hid (show nextN l x = low z by rw [nextN_in h0 h1 h2, hz])
        have ha := and_i64 z
        rw [← hz] at hc1
        clear hr hc hz
        go_enter Try.func22, Try.ntmps22
        go_wp2_with (go_at_call 25; refine (rmix_any _ _).mono ?_; rintro e w1 ⟨rfl, rfl⟩)
        exact bodyPost_ret (v := .agg #[.int .i64 (low z), .slice (some ad) l.length c, .int .i64 (x + 1)]) (by simp [results, Try.results22, go_sem]) rfl (rdraw_of HZ.out (nextAt_in (by omega) (by omega)) ((below_alloc (below_alloc (Below.refl _ _) _) _)))
      · have HZ := Lib.hid (nextN_far h0 h1 h2)
        clear hr
        go_enter Try.func22, Try.ntmps22
        go_wp2_with (go_at_call 25; refine (rmix_any _ _).mono ?_; rintro e w1 ⟨rfl, rfl⟩)
        exact bodyPost_ret (v := .agg #[.int .i64 (mixV x), .slice A l.length c, .int .i64 (x + 1)]) (by simp [results, Try.results22, go_sem]) rfl (rdraw_of HZ.out (nextAt_in (by omega) (by omega)) ((below_alloc (below_alloc (Below.refl _ _) _) _)))
end Go.Proofs.Ytbfglpmoomabbaa
