/-
What the printed functions of a set of those who are enabled come to: how many, the one at a place, how many are at most a number. Condition: fewer than 2^40 are asked of.
-/
import Derived.Test.YtmaiicpaalbcfaaDoorBits
import Derived.Test.YtmaiicpaalbcfaaDoorPx14
namespace Go.Proofs.YtmaiicpaalbcfaaDoor.P
open Go.RowKit Go.Proofs.YtmaiicpaalbcfaaDoor.Bits Go.Proofs.YtmaiicpaalbcfaaDoorW.PrintWords Go.Proofs.YtmaiicpaalbcfaaDoorW.PrintLast Go.Proofs.YtmaiicpaalbcfaaDoorW.PrintMore
set_option linter.unusedSimpArgs false
set_option linter.unusedVariables false
theorem wr64 {i : Int} (h0 : -9223372036854775808 ≤ i) (h1 : i ≤ 9223372036854775807) : wrap64 i = i := by unfold wrap64; omega
theorem wu64 {n : Nat} (h : n < 18446744073709551616) : IntKind.u64.wrap (n : Int) = n := by rw [IntKind.wrap_u64]; omega
theorem and64 {a b : Nat} (ha : a < 18446744073709551616) (hb : b < 18446744073709551616) : Go.bits .and .u64 (a : Int) (b : Int) = ((a &&& b : Nat) : Int) := bits_and_u64_nat a b ha hb
theorem wr64' {n : Int} (h0 : 0 ≤ n) (h1 : n < 2 ^ 63) : IntKind.i64.wrap n = n := by simp [IntKind.wrap, IntKind.bits, IntKind.signed]; omega
theorem ones_f (x : Nat) (hx : x < 18446744073709551616) : bits_OnesCount64.f (x : Int) = some ((bitsL x).length : Int) := by
  have hs := swar_bits x (by omega)
  unfold swar at hs
  simp only at hs
  have c1 : x / 2 &&& 6148914691236517205 ≤ 6148914691236517205 := Nat.and_le_right
  have c2 : x &&& 6148914691236517205 ≤ 6148914691236517205 := Nat.and_le_right
  have e1 : Go.bits .and .u64 ((x : Int) / 2) 6148914691236517205 = ((x / 2 &&& 6148914691236517205 : Nat) : Int) := and64 (a := x / 2) (b := 6148914691236517205) (by omega) (by omega)
  have e2 : Go.bits .and .u64 (x : Int) 6148914691236517205 = ((x &&& 6148914691236517205 : Nat) : Int) := and64 (a := x) (b := 6148914691236517205) (by omega) (by omega)
  unfold bits_OnesCount64.f
  rw [e1, e2]
  generalize x / 2 &&& 6148914691236517205 = a1 at *
  generalize x &&& 6148914691236517205 = a2 at *
  rw [← Int.natCast_add, wu64 (by omega)]
  have hy : a1 + a2 < 18446744073709551616 := by omega
  generalize a1 + a2 = y at *
  clear c1 c2 e1 e2
  have c1 : y / 4 &&& 3689348814741910323 ≤ 3689348814741910323 := Nat.and_le_right
  have c2 : y &&& 3689348814741910323 ≤ 3689348814741910323 := Nat.and_le_right
  have e1 : Go.bits .and .u64 ((y : Int) / 4) 3689348814741910323 = ((y / 4 &&& 3689348814741910323 : Nat) : Int) := and64 (a := y / 4) (b := 3689348814741910323) (by omega) (by omega)
  have e2 : Go.bits .and .u64 (y : Int) 3689348814741910323 = ((y &&& 3689348814741910323 : Nat) : Int) := and64 (a := y) (b := 3689348814741910323) (by omega) (by omega)
  rw [e1, e2]
  generalize y / 4 &&& 3689348814741910323 = b1 at *
  generalize y &&& 3689348814741910323 = b2 at *
  rw [← Int.natCast_add, wu64 (by omega)]
  have hz : b1 + b2 ≤ 7378697629483820646 := by omega
  generalize b1 + b2 = z at *
  clear c1 c2 e1 e2
  have e3 : ((z : Int) / 16 + (z : Int)) = ((z / 16 + z : Nat) : Int) := by omega
  rw [e3, wu64 (by omega)]
  have c1 : z / 16 + z &&& 1085102592571150095 ≤ 1085102592571150095 := Nat.and_le_right
  have e1 : Go.bits .and .u64 ((z / 16 + z : Nat) : Int) 1085102592571150095 = ((z / 16 + z &&& 1085102592571150095 : Nat) : Int) := and64 (a := z / 16 + z) (b := 1085102592571150095) (by omega) (by omega)
  rw [e1]
  generalize z / 16 + z &&& 1085102592571150095 = u at *
  clear e1 e3
  have e4 : ((u : Int) + (u : Int) / 256) = ((u + u / 256 : Nat) : Int) := by omega
  rw [e4, wu64 (by omega)]
  have hv : u + u / 256 ≤ 1089400000000000000 := by omega
  generalize u + u / 256 = v at *
  have e5 : ((v : Int) + (v : Int) / 65536) = ((v + v / 65536 : Nat) : Int) := by omega
  rw [e5, wu64 (by omega)]
  have hw : v + v / 65536 ≤ 1090000000000000000 := by omega
  generalize v + v / 65536 = q at *
  have e6 : ((q : Int) + (q : Int) / 4294967296) = ((q + q / 4294967296 : Nat) : Int) := by omega
  rw [e6, wu64 (by omega)]
  have hq : q + q / 4294967296 ≤ 1100000000000000000 := by omega
  generalize q + q / 4294967296 = s at *
  rw [wr64 (by omega) (by omega)]
  have e7 := bits_mask .i64 63 (by decide) (fun n h0 h1 => wr64' h0 h1) 7 (by omega) (s : Int) (by omega) (by omega)
  rw [show ((2 : Int) ^ 7 - 1) = 127 from rfl] at e7
  rw [e7, ← hs]
  congr 1
abbrev ints (W : List Nat) : List Int := W.map fun (x : Nat) => (x : Int)
theorem rd_nat (l : List Int) (i : Nat) : rd l (i : Int) = l.getD i 0 := by simp [rd]
theorem ints_getD (W : List Nat) (i : Nat) : (ints W).getD i 0 = ((W.getD i 0 : Nat) : Int) := by
  simp only [List.getD_eq_getElem?_getD, List.getElem?_map]
  cases W[i]? <;> rfl
theorem rd_ints (W : List Nat) (i : Nat) : rd (ints W) (i : Int) = ((W.getD i 0 : Nat) : Int) := by rw [rd_nat, ints_getD]
theorem and63 (i : Nat) (h : i < 1000000000) : Go.bits .and .i64 (i : Int) 63 = ((i % 64 : Nat) : Int) := by
  have e := bits_mask .i64 63 (by decide) (fun n h0 h1 => wr64' h0 h1) 6 (by omega) (i : Int) (by omega) (by omega)
  rw [show ((2 : Int) ^ 6 - 1) = 63 from rfl] at e
  rw [e]
  omega
theorem shl_one (i : Nat) (h : i < 64) : shl .u64 1 (i : Int) = ((2 ^ i : Nat) : Int) := by
  have hp : 2 ^ i < 18446744073709551616 := Nat.pow_lt_pow_right (by decide) h
  unfold shl
  rw [show IntKind.bits .u64 = 64 from rfl, Int.toNat_natCast, Nat.min_eq_left (by omega), Int.one_mul, show ((2 : Int) ^ i) = ((2 ^ i : Nat) : Int) by simp, wu64 hp]
theorem or64 (j b : Nat) (hj : j < 1000000000) (hb : b < 64) : Go.bits .or .i64 (wrap64 ((j : Int) * 64)) (b : Int) = ((64 * j + b : Nat) : Int) := by
  rw [wr64 (by omega) (by omega), bits_join .i64 63 (by decide) (fun n h0 h1 => wr64' h0 h1) 6 _ _ (by omega) (by omega) (by omega) (by omega) (by omega) (by omega)]
  omega
/-! ### the words of a set -/
theorem of_l0 (en : List Bool) (hl : en.length ≤ 1000000) : ∀ (d i : Nat) (W : List Nat), i + d = en.length → IsW en i W → ∃ W', IsW en en.length W' ∧ Ev (fun k => pick_of.l0 k (ints W) en (en.length : Int) (i : Int)) (ints W')
  | 0, i, W, h, hW => by
    obtain rfl : i = en.length := by omega
    refine ⟨W, hW, Ev.step (f := fun _ => some (ints W)) (fun k => ?_) (Ev.now _)⟩
    rw [pick_of.l0, if_neg (by omega)]
  | d + 1, i, W, h, hW => by
    have hj : i / 64 < W.length := by rw [hW.1]; omega
    by_cases he : en.getD i false = true
    · obtain ⟨W', h1, h2⟩ := of_l0 en hl d (i + 1) _ (by omega) (isW_put hW (by omega) he)
      refine ⟨W', h1, Ev.step (fun k => ?_) h2⟩
      have e : rdOf false en (i : Int) = true := by simpa [rdOf] using he
      have hw : W.getD (i / 64) 0 < 18446744073709551616 := by
        rw [List.getD_eq_getElem?_getD, List.getElem?_eq_getElem hj]
        exact hW.2.1 _ (List.getElem_mem hj)
      have hp : 2 ^ (i % 64) < 18446744073709551616 := Nat.pow_lt_pow_right (m := i % 64) (n := 64) (by decide) (by omega)
      have e1 : ((i : Int) / 64) = ((i / 64 : Nat) : Int) := by omega
      rw [pick_of.l0, if_pos (by omega), if_pos (by omega), if_pos (by omega), if_pos e, e1, if_pos (by omega), if_pos (by rw [List.length_map]; omega), and63 i (by omega), if_pos (by omega), wr64 (by omega) (by omega), shl_one _ (by omega), rd_ints, bits_or_u64_nat _ _ hw hp, Int.toNat_natCast]
      congr 1
      simp [ints, List.map_set]
    · replace he : en.getD i false = false := by simpa using he
      obtain ⟨W', h1, h2⟩ := of_l0 en hl d (i + 1) _ (by omega) (isW_skip hW he)
      refine ⟨W', h1, Ev.step (fun k => ?_) h2⟩
      have e : ¬ rdOf false en (i : Int) = true := by simpa [rdOf] using he
      rw [pick_of.l0, if_pos (by omega), if_pos (by omega), if_pos (by omega), if_neg e, wr64 (by omega) (by omega)]
      rfl
theorem of_ev (en : List Bool) (hl : en.length ≤ 1000000) : ∃ W, IsW en en.length W ∧ Ev (fun k => pick_of.f k en) (ints W) := by
  obtain ⟨W, h1, h2⟩ := of_l0 en hl en.length 0 _ (by omega) (isW_zero en)
  refine ⟨W, h1, Ev.congr (fun k => ?_) h2⟩
  unfold pick_of.f
  have e : wrap64 (wrap64 ((en.length : Int) / 64) + 1) = ((en.length / 64 + 1 : Nat) : Int) := by
    rw [wr64 (i := (en.length : Int) / 64) (by omega) (by omega), wr64 (by omega) (by omega)]
    omega
  rw [e, if_pos (by omega), Int.toNat_natCast, if_pos (by omega)]
  simp [ints]
/-! ### how many -/
theorem flat_length_cons (j w : Nat) (W : List Nat) : (flat j (w :: W)).length = (bitsL w).length + (flat (j + 1) W).length := by simp [flat]
theorem bits_le (w : Nat) : (bitsL w).length ≤ 64 := by
  have := List.length_filter_le (fun i => w.testBit i) (List.range 64)
  simpa [bitsL] using this
theorem flat_le : ∀ (W : List Nat) (j : Nat), (flat j W).length ≤ 64 * W.length
  | [], j => by simp [flat]
  | w :: W, j => by
    rw [flat_length_cons, List.length_cons]
    have h1 := bits_le w
    have h2 := flat_le W (j + 1)
    omega
theorem get_at (W1 : List Nat) (w : Nat) (W2 : List Nat) : rd (ints (W1 ++ w :: W2)) (W1.length : Int) = (w : Int) := by
  rw [rd_ints]
  simp [List.getD_eq_getElem?_getD]
theorem count_l0 (W : List Nat) (hl : W.length ≤ 1000000) (hW : ∀ w ∈ W, w < 18446744073709551616) : ∀ (W2 W1 : List Nat) (n : Nat), W = W1 ++ W2 → n ≤ 64 * W1.length → Ev (fun k => pick_set_count.l0 k (n : Int) (ints W) (W.length : Int) (W1.length : Int)) (((n + (flat W1.length W2).length : Nat) : Int))
  | [], W1, n, h, hn => by
    refine Ev.step (f := fun _ => some (n : Int)) (fun k => ?_) (by simpa [flat] using Ev.now _)
    rw [pick_set_count.l0, if_neg (by rw [h]; simp)]
  | w :: W2, W1, n, h, hn => by
    have hb := bits_le w
    have hlen : W.length = W1.length + (W2.length + 1) := by rw [h]; simp
    have ih := count_l0 W hl hW W2 (W1 ++ [w]) (n + (bitsL w).length) (by rw [h]; simp) (by simp; omega)
    rw [show n + (flat W1.length (w :: W2)).length = n + (bitsL w).length + (flat (W1 ++ [w]).length W2).length by rw [flat_length_cons]; simp; omega]
    rw [List.length_append, List.length_singleton] at ih ⊢
    refine Ev.step (fun k => ?_) ih
    rw [pick_set_count.l0, if_pos (by omega), if_pos (by omega), if_pos (by rw [List.length_map]; omega), h, get_at, ones_f w (hW w (by rw [h]; simp)), Option.bind_some, wr64 (by omega) (by omega), wr64 (by omega) (by omega)]
    rfl
theorem count_ev (W : List Nat) (hl : W.length ≤ 1000000) (hW : ∀ w ∈ W, w < 18446744073709551616) : Ev (fun k => pick_set_count.f k (ints W)) ((flat 0 W).length : Int) := by
  have h := count_l0 W hl hW W [] 0 rfl (by simp)
  refine Ev.congr (fun k => ?_) (by simpa using h)
  unfold pick_set_count.f
  rw [List.length_map]
/-! ### how many are at most a number -/
def cntLe (m : Int) (l : List Nat) : Nat := (l.filter fun (i : Nat) => decide ((i : Int) ≤ m)).length
theorem cntLe_cons (m : Int) (a : Nat) (l : List Nat) : cntLe m (a :: l) = (if (a : Int) ≤ m then 1 else 0) + cntLe m l := by
  unfold cntLe
  by_cases h : (a : Int) ≤ m
  · rw [List.filter_cons_of_pos (by simpa using h), if_pos h, List.length_cons, Nat.add_comm]
  · rw [List.filter_cons_of_neg (by simpa using h), if_neg h, Nat.zero_add]
theorem cntLe_append (m : Int) (a b : List Nat) : cntLe m (a ++ b) = cntLe m a + cntLe m b := by unfold cntLe; rw [List.filter_append, List.length_append]
theorem cntLe_le (m : Int) (l : List Nat) : cntLe m l ≤ l.length := List.length_filter_le _ _
theorem tz_f (w : Nat) (hw : w < 18446744073709551616) : bits_TrailingZeros64.f (w : Int) = some ((Lib.ctz 64 w : Nat) : Int) := by
  unfold bits_TrailingZeros64.f
  rw [if_pos ⟨by omega, by omega⟩, Int.toNat_natCast]
theorem less_one (w : Nat) (h0 : w ≠ 0) (hw : w < 18446744073709551616) : Go.bits .and .u64 (w : Int) (IntKind.u64.wrap ((w : Int) - 1)) = ((w &&& (w - 1) : Nat) : Int) := by
  rw [show ((w : Int) - 1) = ((w - 1 : Nat) : Int) by omega, wu64 (by omega), and64 hw (by omega)]
theorem ctz_lt (w : Nat) (h0 : w ≠ 0) (hw : w < 18446744073709551616) : Lib.ctz 64 w < 64 := by
  obtain ⟨m, _, h⟩ := ctz_form w h0 hw
  exact h
theorem below_l1 (W : List Nat) (hl : W.length ≤ 1000000) (hW : ∀ w ∈ W, w < 18446744073709551616) (m : Int) (j : Nat) (hj : j < W.length) (r : Int) : ∀ (d w n : Nat), (bitsL w).length ≤ d → w < 18446744073709551616 → n + (bitsL w).length ≤ 64 * (j + 1) →
    Ev (fun k => pick_set_below.l0 k m ((n + cntLe m ((bitsL w).map fun i => 64 * j + i) : Nat) : Int) (ints W) (W.length : Int) ((j + 1 : Nat) : Int)) r →
    Ev (fun k => pick_set_below.l1 k m (n : Int) (j : Int) (w : Int) (ints W) (W.length : Int) (j : Int)) r
  | d, w, n, hd, hw, hn, he => by
    by_cases h0 : w = 0
    · subst h0
      rw [bits_zero] at he
      refine Ev.step (fun k => ?_) he
      rw [pick_set_below.l1, if_pos (by rfl), wr64 (by omega) (by omega)]
      rfl
    · have hc := bits_cons w h0 hw
      have hlt := ctz_lt w h0 hw
      have hlen : (bitsL w).length = (bitsL (w &&& (w - 1))).length + 1 := by rw [hc]; rfl
      cases d with
      | zero => omega
      | succ d =>
        rw [hc, List.map_cons, cntLe_cons] at he
        by_cases hm : ((64 * j + Lib.ctz 64 w : Nat) : Int) ≤ m
        · rw [if_pos hm] at he
          have ih := below_l1 W hl hW m j hj r d (w &&& (w - 1)) (n + 1) (by omega) (and_lt w hw) (by omega) (by rw [show n + 1 + cntLe m ((bitsL (w &&& (w - 1))).map fun i => 64 * j + i) = n + (1 + cntLe m ((bitsL (w &&& (w - 1))).map fun i => 64 * j + i)) by omega]; exact he)
          refine Ev.step (fun k => ?_) ih
          rw [pick_set_below.l1, if_neg (by omega), tz_f w hw, Option.bind_some, or64 j _ (by omega) hlt, if_pos hm, less_one w h0 hw, wr64 (by omega) (by omega)]
          rfl
        · rw [if_neg hm] at he
          have ih := below_l1 W hl hW m j hj r d (w &&& (w - 1)) n (by omega) (and_lt w hw) (by omega) (by rw [Nat.zero_add] at he; exact he)
          refine Ev.step (fun k => ?_) ih
          rw [pick_set_below.l1, if_neg (by omega), tz_f w hw, Option.bind_some, or64 j _ (by omega) hlt, if_neg hm, less_one w h0 hw]
theorem below_l0 (W : List Nat) (hl : W.length ≤ 1000000) (hW : ∀ w ∈ W, w < 18446744073709551616) (m : Int) : ∀ (W2 W1 : List Nat) (n : Nat), W = W1 ++ W2 → n ≤ 64 * W1.length → Ev (fun k => pick_set_below.l0 k m (n : Int) (ints W) (W.length : Int) (W1.length : Int)) (((n + cntLe m (flat W1.length W2) : Nat) : Int))
  | [], W1, n, h, hn => by
    refine Ev.step (f := fun _ => some (n : Int)) (fun k => ?_) (by simpa [flat, cntLe] using Ev.now _)
    rw [pick_set_below.l0, if_neg (by rw [h]; simp)]
  | w :: W2, W1, n, h, hn => by
    have hb := bits_le w
    have hc := cntLe_le m ((bitsL w).map fun i => 64 * W1.length + i)
    rw [List.length_map] at hc
    have hlen : W.length = W1.length + (W2.length + 1) := by rw [h]; simp
    have ih := below_l0 W hl hW m W2 (W1 ++ [w]) (n + cntLe m ((bitsL w).map fun i => 64 * W1.length + i)) (by rw [h]; simp) (by simp; omega)
    rw [show n + cntLe m (flat W1.length (w :: W2)) = n + cntLe m ((bitsL w).map fun i => 64 * W1.length + i) + cntLe m (flat (W1 ++ [w]).length W2) by rw [flat, cntLe_append]; simp; omega]
    rw [List.length_append, List.length_singleton] at ih ⊢
    refine Ev.step (fun k => ?_) (below_l1 W hl hW m W1.length (by omega) _ (bitsL w).length w n (Nat.le_refl _) (hW w (by rw [h]; simp)) (by omega) ih)
    rw [pick_set_below.l0, if_pos (by omega), if_pos (by omega), if_pos (by rw [List.length_map]; omega), show rd (ints W) (W1.length : Int) = (w : Int) by rw [h]; exact get_at W1 w W2]
theorem below_ev (W : List Nat) (hl : W.length ≤ 1000000) (hW : ∀ w ∈ W, w < 18446744073709551616) (m : Int) : Ev (fun k => pick_set_below.f k (ints W) m) ((cntLe m (flat 0 W) : Nat) : Int) := by
  have h := below_l0 W hl hW m W [] 0 rfl (by simp)
  refine Ev.congr (fun k => ?_) (by simpa using h)
  unfold pick_set_below.f
  rw [List.length_map]
/-! ### the one at a place -/
theorem at_l1 (j : Nat) (hj : j < 1000000) (n : Nat) (hn : n < 64) : ∀ (d w i : Nat), i + d = n → w < 18446744073709551616 → d < (bitsL w).length → Ev (fun k => pick_set_at.l1 k (j : Int) (w : Int) (n : Int) (i : Int)) ((64 * j + (bitsL w).getD d 0 : Nat) : Int)
  | 0, w, i, h, hw, hd => by
    have h0 : w ≠ 0 := fun e => by rw [e, bits_zero] at hd; simp at hd
    rw [bits_cons w h0 hw]
    refine Ev.step (f := fun _ => some ((64 * j + Lib.ctz 64 w : Nat) : Int)) (fun k => ?_) (Ev.now _)
    rw [pick_set_at.l1, if_neg (by omega), tz_f w hw, Option.bind_some, or64 j _ (by omega) (ctz_lt w h0 hw)]
  | d + 1, w, i, h, hw, hd => by
    have h0 : w ≠ 0 := fun e => by rw [e, bits_zero] at hd; simp at hd
    rw [bits_cons w h0 hw] at hd ⊢
    refine Ev.step (fun k => ?_) (at_l1 j hj n hn d (w &&& (w - 1)) (i + 1) (by omega) (and_lt w hw) (by simpa using hd))
    rw [pick_set_at.l1, if_pos (by omega), less_one w h0 hw, wr64 (by omega) (by omega)]
    rfl
theorem at_l0 (W : List Nat) (hl : W.length ≤ 1000000) (hW : ∀ w ∈ W, w < 18446744073709551616) : ∀ (W2 W1 : List Nat) (n : Nat), W = W1 ++ W2 → n < (flat W1.length W2).length → Ev (fun k => pick_set_at.l0 k (n : Int) (ints W) (W.length : Int) (W1.length : Int)) (((flat W1.length W2).getD n 0 : Nat) : Int)
  | [], W1, n, h, hn => by simp [flat] at hn
  | w :: W2, W1, n, h, hn => by
    have hb := bits_le w
    have hlen : W.length = W1.length + (W2.length + 1) := by rw [h]; simp
    have hfl := flat_le W2 (W1.length + 1)
    have hw := hW w (by rw [h]; simp)
    have hg : rd (ints W) (W1.length : Int) = (w : Int) := by rw [h]; exact get_at W1 w W2
    rw [flat_length_cons] at hn
    by_cases hc : (bitsL w).length ≤ n
    · have ih := at_l0 W hl hW W2 (W1 ++ [w]) (n - (bitsL w).length) (by rw [h]; simp) (by simp; omega)
      have e : (flat W1.length (w :: W2)).getD n 0 = (flat (W1 ++ [w]).length W2).getD (n - (bitsL w).length) 0 := by
        simp only [flat, List.getD_eq_getElem?_getD, List.length_append, List.length_singleton]
        rw [List.getElem?_append_right (by simpa using hc), List.length_map]
      rw [e]
      refine Ev.step (fun k => ?_) ih
      rw [pick_set_at.l0, if_pos (by omega), if_pos (by omega), if_pos (by rw [List.length_map]; omega), hg, ones_f w hw, Option.bind_some, if_pos (by omega), wr64 (by omega) (by omega), wr64 (by omega) (by omega)]
      congr 1
      · omega
      · simp
    · have e : (flat W1.length (w :: W2)).getD n 0 = 64 * W1.length + (bitsL w).getD n 0 := by
        simp only [flat, List.getD_eq_getElem?_getD]
        rw [List.getElem?_append_left (by simpa using hc), List.getElem?_map, List.getElem?_eq_getElem (by omega)]
        rfl
      rw [e]
      refine Ev.step (fun k => ?_) (at_l1 W1.length (by omega) n (by omega) n w 0 (by omega) hw (by omega))
      rw [pick_set_at.l0, if_pos (by omega), if_pos (by omega), if_pos (by rw [List.length_map]; omega), hg, ones_f w hw, Option.bind_some, if_neg (by omega)]
      rfl
theorem at_ev (W : List Nat) (hl : W.length ≤ 1000000) (hW : ∀ w ∈ W, w < 18446744073709551616) (n : Nat) (hn : n < (flat 0 W).length) : Ev (fun k => pick_set_at.f k (ints W) (n : Int)) (((flat 0 W).getD n 0 : Nat) : Int) := by
  have h := at_l0 W hl hW W [] n rfl (by simpa using hn)
  refine Ev.congr (fun k => ?_) (by simpa using h)
  unfold pick_set_at.f
  rw [List.length_map]
end Go.Proofs.YtmaiicpaalbcfaaDoor.P
