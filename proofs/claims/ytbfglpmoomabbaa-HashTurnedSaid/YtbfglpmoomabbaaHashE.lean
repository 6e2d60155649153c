/-
One byte that is another one makes another sum (plain law); the law's function HashTurned returns true for every argument and changes nothing that was there before; the text's length is an int.
-/
import Derived.Test.YtbfglpmoomabbaaHashA
import Derived.Laws.BitsAllLaws
import Derived.Lib.ConvBytes
import Derived.Lib.SmallJoins
import Derived.Lib.AtoiErrMem
namespace Go.Proofs.Ytbfglpmoomabbaa
open Go.RowKit
theorem unmul (z : Int) : (z * 16777619 % 4294967296) * 899433627 % 4294967296 = z % 4294967296 := by
  rw [Int.emod_def (z * 16777619)]
  generalize z * 16777619 / 4294967296 = q
  rw [show (z * 16777619 - 4294967296 * q) * 899433627 = z + 4294967296 * (3513497 * z - 899433627 * q) by omega, Int.add_mul_emod_self_left]
theorem mul_inj (x y : Int) (hx : 0 ≤ x ∧ x < 4294967296) (hy : 0 ≤ y ∧ y < 4294967296) (h : x * 16777619 % 4294967296 = y * 16777619 % 4294967296) : x = y := by
  have h1 := unmul x
  rw [h, unmul y, Int.emod_eq_of_lt hx.1 hx.2, Int.emod_eq_of_lt hy.1 hy.2] at h1
  exact h1.symm
theorem toNat_inj {x y : Int} (hx : 0 ≤ x) (hy : 0 ≤ y) (h : x.toNat = y.toNat) : x = y := by
  rw [← Int.toNat_of_nonneg hx, ← Int.toNat_of_nonneg hy, h]
theorem bstep_eq (h b : Int) (hh : 0 ≤ h ∧ h < 4294967296) (hb : 0 ≤ b ∧ b < 256) : bstep h b = ((h.toNat ^^^ b.toNat : Nat) : Int) * 16777619 % 4294967296 := by
  unfold bstep
  rw [u32_xor h b hh.1 hh.2 hb.1 (by omega)]
theorem xor_lt (h b : Int) (hh : 0 ≤ h ∧ h < 4294967296) (hb : 0 ≤ b ∧ b < 256) : 0 ≤ ((h.toNat ^^^ b.toNat : Nat) : Int) ∧ ((h.toNat ^^^ b.toNat : Nat) : Int) < 4294967296 := by
  have : h.toNat ^^^ b.toNat < 2 ^ 32 := Nat.xor_lt_two_pow (by omega) (by omega)
  omega
theorem bstep_inj_h {h h' b : Int} (hh : 0 ≤ h ∧ h < 4294967296) (hh' : 0 ≤ h' ∧ h' < 4294967296) (hb : 0 ≤ b ∧ b < 256) (e : bstep h b = bstep h' b) : h = h' := by
  rw [bstep_eq h b hh hb, bstep_eq h' b hh' hb] at e
  have := mul_inj _ _ (xor_lt h b hh hb) (xor_lt h' b hh' hb) e
  have h2 := congrArg (· ^^^ b.toNat) (Int.ofNat_inj.1 this)
  simp only [Nat.xor_assoc, Nat.xor_self, Nat.xor_zero] at h2
  exact toNat_inj hh.1 hh'.1 h2
theorem bstep_inj_b {h b b' : Int} (hh : 0 ≤ h ∧ h < 4294967296) (hb : 0 ≤ b ∧ b < 256) (hb' : 0 ≤ b' ∧ b' < 256) (e : bstep h b = bstep h b') : b = b' := by
  rw [bstep_eq h b hh hb, bstep_eq h b' hh hb'] at e
  have := mul_inj _ _ (xor_lt h b hh hb) (xor_lt h b' hh hb') e
  have h2 := congrArg (h.toNat ^^^ ·) (Int.ofNat_inj.1 this)
  simp only [← Nat.xor_assoc, Nat.xor_self, Nat.zero_xor] at h2
  exact toNat_inj hb.1 hb'.1 h2
theorem fold_inj (l : List Int) (hl : ∀ x ∈ l, 0 ≤ x ∧ x < 256) : ∀ h h' : Int, 0 ≤ h ∧ h < 4294967296 → 0 ≤ h' ∧ h' < 4294967296 → h ≠ h' → l.foldl bstep h ≠ l.foldl bstep h' := by
  induction l with
  | nil => exact fun h h' _ _ hne => hne
  | cons b l ih =>
    intro h h' hh hh' hne
    exact ih (fun x hx => hl x (List.mem_cons_of_mem _ hx)) _ _ (bstep_range _ _) (bstep_range _ _) (fun e => hne (bstep_inj_h hh hh' (hl b List.mem_cons_self) e))
theorem fold_set (l : List Int) (hl : ∀ x ∈ l, 0 ≤ x ∧ x < 256) (v : Int) (hv : 0 ≤ v ∧ v < 256) : ∀ (i : Nat) (h : Int), 0 ≤ h ∧ h < 4294967296 → i < l.length → l.getD i 0 ≠ v → l.foldl bstep h ≠ (l.set i v).foldl bstep h := by
  induction l with
  | nil => exact fun i h _ hi => absurd hi (Nat.not_lt_zero _)
  | cons b l ih =>
    intro i h hh hi hne
    have hb := hl b List.mem_cons_self
    have hl' : ∀ x ∈ l, 0 ≤ x ∧ x < 256 := fun x hx => hl x (List.mem_cons_of_mem _ hx)
    cases i with
    | zero => exact fold_inj l hl' _ _ (bstep_range _ _) (bstep_range _ _) (fun e => hne (bstep_inj_b hh hb hv e))
    | succ i => exact ih hl' i _ (bstep_range _ _) (by simpa using hi) (by simpa using hne)
theorem bys_range (s : ByteArray) : ∀ x ∈ bys s, 0 ≤ x ∧ x < 256 := by
  intro x hx
  obtain ⟨b, _, rfl⟩ := List.mem_map.1 hx
  have := b.toNat_lt
  omega
def turn (s : ByteArray) (i : Nat) (y : Int) : List Int := (bys s).set i (bits .xor .u8 ((bys s).getD i 0) y)
theorem bys_getD (s : ByteArray) (i : Nat) (hi : i < s.size) : (bys s).getD i 0 = ((s.data.toList.getD i 0).toNat : Int) := by
  have h : i < s.data.toList.length := by rw [Array.length_toList]; exact hi
  unfold bys
  simp [List.getD_eq_getElem?_getD, List.getElem?_eq_getElem h]
theorem getD_range (s : ByteArray) (i : Nat) (hi : i < s.size) : 0 ≤ (bys s).getD i 0 ∧ (bys s).getD i 0 < 256 := by
  rw [bys_getD s i hi]
  have := (s.data.toList.getD i 0).toNat_lt
  omega
theorem xor8_range (x y : Int) (hx : 0 ≤ x ∧ x < 256) (hy : 0 ≤ y ∧ y < 256) : 0 ≤ bits .xor .u8 x y ∧ bits .xor .u8 x y < 256 := by
  rw [u8_xor x y hx.1 hx.2 hy.1 hy.2]
  have : x.toNat ^^^ y.toNat < 2 ^ 8 := Nat.xor_lt_two_pow (by omega) (by omega)
  omega
theorem xor8_ne (x y : Int) (hx : 0 ≤ x ∧ x < 256) (hy : 0 ≤ y ∧ y < 256) (hne : y ≠ 0) : x ≠ bits .xor .u8 x y := by
  rw [u8_xor x y hx.1 hx.2 hy.1 hy.2]
  intro e
  have h1 : x.toNat = x.toNat ^^^ y.toNat := by omega
  have h2 := congrArg (x.toNat ^^^ ·) h1
  simp only [← Nat.xor_assoc, Nat.xor_self, Nat.zero_xor] at h2
  omega
theorem turn_range (s : ByteArray) (i : Nat) (hi : i < s.size) (y : Int) (hy : 0 ≤ y ∧ y < 256) : ∀ x ∈ turn s i y, 0 ≤ x ∧ x < 256 := by
  intro x hx
  rcases List.mem_or_eq_of_mem_set hx with h | rfl
  · exact bys_range s x h
  · exact xor8_range _ _ (getD_range s i hi) hy
theorem turn_ne (s : ByteArray) (i : Nat) (hi : i < s.size) (y : Int) (hy : 0 ≤ y ∧ y < 256) (hne : y ≠ 0) : fnv (bys s) ≠ fnv (turn s i y) :=
  fold_set (bys s) (bys_range s) _ (xor8_range _ _ (getD_range s i hi) hy) i _ (by omega) (by rw [bys_length]; exact hi) (xor8_ne _ _ (getD_range s i hi) hy hne)

theorem bytes_free (w : World) (s : ByteArray) (j : Nat) (hj : j < s.size) : (Lib.bytesWorld w 5 s).frozen? ⟨w.heap.size, j, none⟩ = false := by
  have hs : s.size ≤ (Lib.bytesCells w 5 s).size := by
    unfold Lib.bytesCells
    rw [Array.size_append, Array.size_map]
    have : s.data.size = s.size := rfl
    omega
  simp [World.frozen?, Lib.bytesWorld_at_new]
  omega
theorem turned_cell (w : World) (s : ByteArray) (i : Nat) (hi : i < s.size) (y : Int) (j : Nat) (hj : j < s.size) :
    ((Lib.bytesWorld w 5 s).setCell ⟨w.heap.size, i, none⟩ (.int .u8 (bits .xor .u8 ((bys s).getD i 0) y))).cell? ⟨w.heap.size, 0 + j, none⟩ = some (.int .u8 ((turn s i y).getD j 0)) := by
  rw [Nat.zero_add]
  have hl : (bys s).length = s.size := bys_length s
  by_cases e : i = j
  · subst e
    rw [World.cell?_setCell_same _ _ _ (Lib.bytesWorld_cell w 5 s i hi)]
    congr 2
    unfold turn
    simp [List.getD_eq_getElem?_getD, List.getElem?_set_self (show i < (bys s).length by omega)]
  · rw [World.cell?_setCell_other _ _ _ _ (by intro h; injection h with _ h; exact e h), Lib.bytesWorld_cell w 5 s j hj, ← bys_getD s j hj]
    congr 2
    unfold turn
    simp [List.getD_eq_getElem?_getD, List.getElem?_set_ne e]
def TurnCells (g : Nat) (s : ByteArray) (i : Nat) (y : Int) (W : World) : Prop := ∀ j, j < s.size → W.cell? ⟨g, 0 + j, none⟩ = some (.int .u8 ((turn s i y).getD j 0))
theorem turned_run (g : Nat) (s : ByteArray) (i : Nat) (y : Int) (c : Nat) (W : World) (h : TurnCells g s i y W) :
    (convert 31 9 (.slice (some ⟨g, 0, none⟩) s.size c)).run Try.prog W = .ok (.string (strOfNums (turn s i y))) W :=
  run_convert_bytes_arg (P := Try.prog) W 31 5 Try.underlying31 Try.underlying5 g 0 s.size c (turn s i y) (by unfold turn; rw [List.length_set, bys_length]) h 9 Try.underlying9
theorem turned_now (w : World) (s : ByteArray) (i : Nat) (hi : i < s.size) (y : Int) : TurnCells w.heap.size s i y (((Lib.bytesWorld w 5 s).setCell ⟨w.heap.size, i, none⟩ (.int .u8 (bits .xor .u8 ((bys s)[i]?.getD 0) y))).drewN 1) := turned_cell w s i hi y
theorem turned_kept {g : Nat} {s : ByteArray} {i : Nat} {y : Int} {W W' : World} (h : TurnCells g s i y W) (hb : Below W.heap.size W W') : TurnCells g s i y W' := fun j hj => cell_kept hb (h j hj)
theorem sum_turn (s : ByteArray) (i : Nat) (hi : i < s.size) (hs : s.size ≤ 9223372036854775807) (y : Int) (hy : 0 ≤ y ∧ y < 256) (w : World) :
    Calls Try.prog 12 #[.string (strOfNums (turn s i y))] w fun e w' => e = .returned (.int .u32 (fnv (turn s i y))) ∧ w = w' :=
  (sum_any _ w (by rw [strOfNums_size]; unfold turn; rw [List.length_set, bys_length]; exact hs)).mono fun _ _ hh => ⟨by rw [hh.1, bys_strOfNums _ (turn_range s i hi y hy)], hh.2⟩
theorem le_maxLen {n : Nat} (h : n ≤ 9223372036854775807) : n ≤ maxLen := by unfold maxLen; exact h
attribute [local go_sem ↓] Go.wp_at_zero Go.wp_at_succ
set_option maxHeartbeats 2000000 in
theorem hashTurned_any (s : ByteArray) (x y : Int) (w : World) (hs : s.size ≤ 9223372036854775807) (hx : 0 ≤ x ∧ x < 65536) (hy : 0 ≤ y ∧ y < 256) :
    Calls Try.prog 4 #[.string s, .int .u16 x, .int .u8 y] w (Yes w) := by
  by_cases h1 : s.size = 0
  · have h1' : ((s.size : Int) == 0) = true := by simp [h1]
    go_enter Try.func4, Try.ntmps4
    go_wp2_with (go_at_call 11; refine (awake_any _).mono ?_; rintro e w1 ⟨rfl, hb⟩)
    go_ret
    exact ⟨rfl, hb⟩
  · have h1' : ((s.size : Int) == 0) = false := by simp [h1]
    by_cases h2 : 400 < s.size
    · go_enter Try.func4, Try.ntmps4
      go_wp2_with (go_at_call 11; refine (awake_any _).mono ?_; rintro e w1 ⟨rfl, hb⟩)
      go_ret
      exact ⟨rfl, hb⟩
    · by_cases h3 : y = 0
      · have h3' : (y == 0) = true := by simp [h3]
        clear h3
        go_enter Try.func4, Try.ntmps4
        go_wp2_with (go_at_call 11; refine (awake_any _).mono ?_; rintro e w1 ⟨rfl, hb⟩)
        go_ret
        exact ⟨rfl, hb⟩
      · have h3' : (y == 0) = false := by simp [h3]
        have hx0 := hx.1
        obtain ⟨i, hi⟩ : ∃ i : Nat, (i : Int) = x % (s.size : Int) := ⟨(x % (s.size : Int)).toNat, by have := Int.emod_nonneg x (show (s.size : Int) ≠ 0 by omega); omega⟩
        have hil : i < s.size := by have := Int.emod_lt_of_pos x (show (0 : Int) < (s.size : Int) by omega); omega
        have HN := Lib.hid (turn_ne s i hil y hy h3)
        have kb := fun W => Lib.run_convert_string_bytes (P := Try.prog) W 9 31 5 s Try.underlying9 Try.underlying31 Try.underlying5
        have hx' : x % (s.size : Int) = (i : Int) := hi.symm
        have hx'' : x.tmod (s.size : Int) = (i : Int) := by rw [Int.tmod_eq_emod_of_nonneg hx0, hx']
        have hc : (Lib.bytesWorld w 5 s).cell? ⟨w.heap.size, i, none⟩ = some (.int .u8 ((bys s).getD i 0)) := by rw [Lib.bytesWorld_cell w 5 s i hil, bys_getD s i hil]
        have hf := bytes_free w s i hil
        have q1 : (0 : Int) ≤ (i : Int) := by omega
        have q2 : (i : Int) < (s.size : Int) := by omega
        clear hi h3
        go_enter Try.func4, Try.ntmps4
        go_wp2
        have kt := turned_run w.heap.size s i y (grownCap w s.size 0 5)
        have hne : (fnv (bys s) != fnv (turn s i y)) = true := bne_iff_ne.mpr HN.out
        go_region_held3 (fun w' => TurnCells w.heap.size s i y w' ∧ Below w.heap.size w w')
          (first | (go_split_ands; exact ⟨turned_kept (by assumption) hb, below_next (by assumption) hb⟩) | (go_split_ands; exact ⟨by assumption, by assumption⟩) | (refine ⟨turned_now w s i hil y, below_drewN ((below_next (Below.refl _ _) (Lib.bytesWorld_below w 5 s)).setCell (Nat.le_refl _) _) 1⟩) | go_keep)
          (first
            | (go_at_call 12; (with_reducible refine (sum_any s _ (le_maxLen hs)).mono ?_); rintro e w' ⟨rfl, rfl⟩)
            | (go_at_call 12; (with_reducible refine (sum_turn s i hil hs y hy _).mono ?_); rintro e w' ⟨rfl, rfl⟩)
            | (go_at_call 11; refine (awake_any _).mono ?_; rintro e w' ⟨rfl, hb⟩))
        go_wp2
        go_ret
        exact ⟨rfl, by go_split_ands; assumption⟩
end Go.Proofs.Ytbfglpmoomabbaa
