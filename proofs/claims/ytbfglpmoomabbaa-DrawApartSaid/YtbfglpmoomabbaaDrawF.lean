/-
The law's function DrawApart returns true for every two lists and count, and changes nothing that was there before; no condition.
-/
import Derived.Test.YtbfglpmoomabbaaDrawE
namespace Go.Proofs.Ytbfglpmoomabbaa
open Go.RowKit
attribute [local go_sem ↓] Go.wp_at_zero Go.wp_at_succ
theorem manyL_apart (l m : List Int) (h : l.length = m.length) (n : Nat) (hn : l.length + n ≤ 65536) : (manyL l 0 (l.length + n)).drop l.length = (manyL m 0 (l.length + n)).drop l.length := by
  have e1 : (manyL l 0 (l.length + n)).drop l.length = manyL l (atN l.length 0) n := by rw [manyL_add l, List.drop_left' (manyL_length ..)]
  have e2 : (manyL m 0 (l.length + n)).drop l.length = manyL m (atN l.length 0) n := by rw [manyL_add m, List.drop_left' (manyL_length ..)]
  rw [e1, e2]
  unfold manyL
  refine List.map_congr_left fun j hj => ?_
  have hj := List.mem_range.1 hj
  have e : atN j (atN l.length 0) = ((j + l.length : Nat) : Int) := by
    rw [← atN_add, atN_small _ (by omega)]
  rw [e, nextN_far (by omega) (by omega) (by omega), nextN_far (by omega) (by omega) (by omega)]
def ManyM (A : Option Addr) (N : Nat) (l : List Int) (c : Nat) (k : Nat) (y : Int) (w : World) (e : Ending) (w' : World) : Prop :=
  ∃ B d, e = .returned (.tuple #[.slice B k d, .agg #[.slice A N c, .int .i64 y]]) ∧ k ≤ d ∧ Row w' B k (ints (manyL l 0 k)) ∧ Below w.heap.size w w'
theorem many_len (A : Option Addr) (N : Nat) (l : List Int) (c : Nat) (n : Int) (k : Nat) (y : Int) (w : World) (hl : l.length = N) (hr : Row w A N (ints l)) (hn : n = (k : Int)) (hk : k ≤ 65536) (hy : n = y) :
    Calls Try.prog 23 #[.agg #[.slice A N c, .int .i64 0], .int .i64 n] w (ManyM A N l c k y w) := by
  subst hl hn hy
  refine (many_any A l c 0 _ w hr).mono fun e w' h => ?_
  obtain ⟨v, rfl, hown, hb⟩ := h
  have e1 : many l 0 (k : Int) = manyL l 0 k := by unfold many; rw [if_neg (by omega)]; rfl
  have e2 : manyAt 0 (k : Int) = (k : Int) := by unfold manyAt; rw [if_neg (by omega)]; exact atN_small k hk
  rw [e1, manyL_length] at hown
  obtain ⟨B, d, rfl, hle, hv⟩ := row_of_own hown
  exact ⟨B, d, by rw [e2], hle, hv, hb⟩
theorem Row.dropped {w : World} {A : Option Addr} {n : Nat} {xs : List Value} (h : Row w A n xs) (k : Nat) (ad : Addr) (hA : A = some ad) (hk : k ≤ n) : Row w (some (ad.add k)) (n - k) (xs.drop k) := by
  have hl := h.1
  have hn := h.2.1
  refine ⟨by simp [hl], by omega, fun hp => ⟨_, rfl, fun j hj => ?_⟩⟩
  obtain ⟨ad', e, hc⟩ := h.2.2 (by omega)
  obtain rfl : ad = ad' := by rw [hA] at e; injection e
  rw [Addr.add_add, hc (k + j) (by omega)]
  simp [List.getD_eq_getElem?_getD]
theorem Row.cut {w : World} {A : Option Addr} {n c k : Nat} {xs : List Value} (h : Row w A n xs) (hc : n ≤ c) (hk : k ≤ n) : Row w (if c = k then A else A.map (·.add k)) (n - k) (xs.drop k) := by
  by_cases he : c = k
  · obtain rfl : n = k := by omega
    rw [Nat.sub_self, List.drop_of_length_le (by rw [h.1]; omega)]
    exact Row.nil _ _
  · rw [if_neg he]
    rcases Nat.eq_zero_or_pos n with h0 | h0
    · have hl := h.1
      rw [show n - k = 0 by omega, List.drop_of_length_le (by omega)]
      exact Row.nil _ _
    · obtain ⟨ad, rfl, _⟩ := h.2.2 h0
      exact h.dropped k ad rfl hk
set_option maxHeartbeats 4000000 in
theorem drawApart_same (A B : Option Addr) (N : Nat) (l m : List Int) (hl : Hid (l.length = N)) (hm : Hid (m.length = N)) (c d : Nat) (n : Nat) (w : World) (hr : Row w A N (ints l)) (hs : Row w B N (ints m)) (hn : n ≤ 255) (h0 : ¬ 50 < N) : Calls Try.prog 10 #[.slice A N c, .slice B N d, .int .u8 n] w (Yes w) := by
  have HR := Lib.hid hr
  have HS := Lib.hid hs
  clear hr hs
  have t0 : ((N : Int) != (N : Int)) = false := by simp
  have t1 : (((N + n : Nat) : Int) != (N : Int) + (n : Int)) = false := by simp
  have t2 : (((N + n : Nat) : Int) != ((N + n : Nat) : Int)) = false := by simp
  go_enter Try.func10, Try.ntmps10
  go_wp2_with fail
  with_reducible refine (many_len A N l c (N + n) (N + n) (N + n) _ hl.out HR.out (by omega) (by omega) rfl).mono ?_
  rintro e w1 ⟨A1, d1, rfl, hd1, hv1, hb⟩
  have HS := Lib.hid (HS.out.kept hb)
  have HB := Lib.hid hb
  clear hb
  have O1 := below_alloc (Below.refl w1.heap.size w1) (.cells #[.slice A N c, .int .i64 (N + n)] 39)
  have HV1 := Lib.hid (hv1.kept O1)
  have HS := Lib.hid (HS.out.kept O1)
  have HB := Lib.hid (below_next HB.out O1 HB.out.size)
  clear hv1 O1
  go_wp2_with fail
  with_reducible refine (many_len B N m d (N + n) (N + n) (N + n) _ hm.out HS.out (by omega) (by omega) rfl).mono ?_
  rintro e w2 ⟨A2, d2, rfl, hd2, hv2, hb⟩
  have HV1 := Lib.hid (HV1.out.kept hb)
  have HB := Lib.hid (below_next HB.out hb HB.out.size)
  clear hb
  have O2 := below_alloc (Below.refl w2.heap.size w2) (.cells #[.slice B N d, .int .i64 (N + n)] 39)
  have HV1 := Lib.hid (HV1.out.kept O2)
  have HV2 := Lib.hid (hv2.kept O2)
  have HB := Lib.hid (below_next HB.out O2 HB.out.size)
  clear hv2 O2
  go_wp2_with fail
  have o2 : ((N : Int) ≤ ((N + n : Nat) : Int)) := by omega
  have o1 : (0 : Int) ≤ (N : Int) := by omega
  have o3 : (N : Int) ≤ (N : Int) + (n : Int) := by omega
  have G1 := HV1.out.cut hd1 (Nat.le_add_right N n)
  have G2 := HV2.out.cut hd2 (Nat.le_add_right N n)
  have HE := Lib.hid (show (ints (manyL l 0 (N + n))).drop N = ints ((manyL m 0 (N + n)).drop N) by
    have e := manyL_apart l m (by rw [hl.out, hm.out]) n (by rw [hl.out]; omega)
    rw [hl.out] at e
    rw [← e]
    simp [ints, List.map_drop])
  rw [HE.out] at G1
  rw [show (ints (manyL m 0 (N + n))).drop N = ints ((manyL m 0 (N + n)).drop N) by simp [ints, List.map_drop]] at G2
  rw [Nat.add_sub_cancel_left] at G1 G2
  have HB' := HB.out
  clear HB HV1 HV2 HE
  generalize w2.alloc (.cells #[.slice B N d, .int .i64 (N + n)] 39) = W2 at *
  have HB := Lib.hid HB'
  clear HB'
  by_cases e1 : d1 = N <;> by_cases e2 : d2 = N <;> simp only [e1, e2, if_true, if_false] at G1 G2 <;>
  (have G1 := Lib.hid G1
   have G2 := Lib.hid G2
   go_region_held3 (fun w' => Below W2.heap.size W2 w')
     (first | exact below_next (by assumption) hb (by rename_i hS _; exact Below.size hS) | exact below_next (by assumption) hb (Below.size (by assumption)) | exact below_drew (Below.refl _ _) | exact below_drewN (Below.refl _ _) 1 | go_keep)
     (first | (go_at_call 26; (with_reducible refine (ints_yes_rows _ _ _ _ _ _ (ints ((manyL m 0 (N + n)).drop N)) _ _ (G1.out.kept (by assumption)) (G2.out.kept (by assumption)) rfl).mono ?_); rintro e w' ⟨rfl, hb⟩) | (go_at_call 18; refine (dawake_any _).mono ?_; rintro e w' ⟨rfl, hb⟩))
   go_wp2
   go_ret
   exact ⟨rfl, below_next HB.out (by assumption) HB.out.size⟩)
theorem drawApart_any (A B : Option Addr) (l m : List Int) (c d : Nat) (n : Nat) (w : World) (hr : RowI w A l) (hs : RowI w B m) (hn : n ≤ 255) : Calls Try.prog 10 #[.slice A l.length c, .slice B m.length d, .int .u8 n] w (Yes w) := by
  have h1 := hr.2.1
  have h2 := hs.2.1
  by_cases h0 : 50 < l.length
  · clear hr hs
    go_enter Try.func10, Try.ntmps10
    go_wp2_with (go_at_call 18; refine (dawake_any _).mono ?_; rintro e w1 ⟨rfl, hb⟩)
    go_ret
    exact ⟨rfl, hb⟩
  · by_cases h3 : l.length = m.length
    · rw [← h3]
      exact drawApart_same A B l.length l m (Lib.hid rfl) (Lib.hid h3.symm) c d n w hr (by have := hs; rw [RowI, ← h3] at this; exact this) hn h0
    · clear hr hs
      have t0 : ((l.length : Int) != (m.length : Int)) = true := by simp; omega
      go_enter Try.func10, Try.ntmps10
      go_wp2_with (go_at_call 18; refine (dawake_any _).mono ?_; rintro e w1 ⟨rfl, hb⟩)
      go_ret
      exact ⟨rfl, hb⟩
end Go.Proofs.Ytbfglpmoomabbaa
