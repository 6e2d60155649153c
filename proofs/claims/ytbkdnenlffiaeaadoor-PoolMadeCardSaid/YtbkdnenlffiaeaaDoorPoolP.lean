/-
The plain play of the pool: it comes to its end whoever is picked; what each step keeps is kept by the whole. Condition: the limits hold.
What the pool's plain play keeps: tasks of a wave stand in that wave, no wave begins ahead of the end of those ahead, no worker has two tasks at once; each task is done once; one worker does all in their order. Condition: the limits hold.
-/
import Derived.Test.YtbkdnenlffiaeaaDoorStubB
namespace Go.Proofs.YtbkdnenlffiaeaaDoor
open Go.RowKit Go.Proofs.YtbkdnenlffiaeaaDoorW.PrintWords Go.Proofs.YtbkdnenlffiaeaaDoorW.PrintLast Go.Proofs.YtbkdnenlffiaeaaDoorW.PrintMore Go.Proofs.YtbkdnenlffiaeaaDoor.P Go.Proofs.YtbkdnenlffiaeaaDoor.Bits
set_option linter.unusedVariables false
/-- how many below n -/
def cnt (n : Nat) (p : Nat → Bool) : Nat := ((List.range n).filter p).length
theorem cnt_succ (n : Nat) (p : Nat → Bool) : cnt (n + 1) p = cnt n p + if p n = true then 1 else 0 := by
  unfold cnt
  rw [List.range_succ, List.filter_append, List.length_append]
  by_cases h : p n = true
  · rw [if_pos h, List.filter_cons_of_pos h]; rfl
  · rw [if_neg h, List.filter_cons_of_neg h]; rfl
theorem cnt_same (n : Nat) (p q : Nat → Bool) (h : ∀ j, j < n → p j = q j) : cnt n p = cnt n q := by
  induction n with
  | zero => rfl
  | succ n ih => rw [cnt_succ, cnt_succ, ih fun j hj => h j (by omega), h n (by omega)]
theorem cnt_more (n i : Nat) (p q : Nat → Bool) (hi : i < n) (h : ∀ j, j < n → j ≠ i → p j = q j) (h0 : p i = false) (h1 : q i = true) : cnt n q = cnt n p + 1 := by
  induction n with
  | zero => omega
  | succ n ih =>
    rw [cnt_succ, cnt_succ]
    by_cases e : i = n
    · subst e
      rw [cnt_same i q p fun j hj => (h j (by omega) (by omega)).symm, h0, h1]
      simp
    · rw [ih (by omega) (fun j hj hne => h j (by omega) hne), h n (by omega) (by omega)]
      omega
theorem cnt_pos (n i : Nat) (p : Nat → Bool) (hi : i < n) (h : p i = true) : 0 < cnt n p := by
  unfold cnt
  exact List.length_pos_of_mem (List.mem_filter.2 ⟨List.mem_range.2 hi, h⟩)
theorem cnt_some (n : Nat) (p : Nat → Bool) (h : 0 < cnt n p) : ∃ i, i < n ∧ p i = true := by
  unfold cnt at h
  obtain ⟨i, hi⟩ := List.exists_mem_of_length_pos h
  exact ⟨i, List.mem_range.1 (List.mem_filter.1 hi).1, (List.mem_filter.1 hi).2⟩
theorem cnt_none (n : Nat) (p : Nat → Bool) (h : cnt n p = 0) (i : Nat) (hi : i < n) : p i = false := by
  by_cases c : p i = true
  · have := cnt_pos n i p hi c; omega
  · simpa using c
def cntB (n busy : Nat) : Nat := cnt n fun i => busy.testBit i
theorem bit_or (busy i j : Nat) : (busy ||| 2 ^ i).testBit j = (busy.testBit j || decide (i = j)) := by rw [Nat.testBit_or, Nat.testBit_two_pow]
theorem bit_xor (busy i j : Nat) : (busy ^^^ 2 ^ i).testBit j = (busy.testBit j ^^ decide (i = j)) := by rw [Nat.testBit_xor, Nat.testBit_two_pow]
theorem cntB_or (n busy i : Nat) (hi : i < n) (h : busy.testBit i = false) : cntB n (busy ||| 2 ^ i) = cntB n busy + 1 :=
  cnt_more n i _ _ hi (fun j hj hne => by rw [bit_or]; simp [Ne.symm hne]) h (by rw [bit_or]; simp)
theorem cntB_xor (n busy i : Nat) (hi : i < n) (h : busy.testBit i = true) : cntB n busy = cntB n (busy ^^^ 2 ^ i) + 1 :=
  cnt_more n i _ _ hi (fun j hj hne => by rw [bit_xor]; simp [Ne.symm hne]) (by rw [bit_xor, h]; simp) h
def sumL (W : List (List Int)) : Nat := (W.map List.length).sum
theorem sumL_cons (x : List Int) (W : List (List Int)) : sumL (x :: W) = x.length + sumL W := by simp [sumL]
theorem allS_eq : ∀ (W : List (List Int)) (a : Nat), (∀ x ∈ W, x.length ≤ 17592186044416) → a + W.length * 17592186044416 < 9223372036854775808 → allS (a : Int) W = ((a + sumL W : Nat) : Int)
  | [], a, _, _ => by simp [allS, sumL]
  | x :: W, a, h, hb => by
    have hx := h x (List.mem_cons_self ..)
    rw [List.length_cons] at hb
    have e : wrap64 ((a : Int) + (x.length : Int)) = ((a + x.length : Nat) : Int) := by rw [wr64 (by omega) (by omega)]; omega
    rw [allS, e, allS_eq W (a + x.length) (fun y hy => h y (List.mem_cons_of_mem _ hy)) (by omega), sumL_cons]
    omega
/-- who is next is enabled -/
theorem who_mem (L : List Int) (at_ last : Int) (en : List Bool) (h : idx en ≠ []) : ∃ i : Nat, whoS L at_ last (idx en) = (i : Int) ∧ i < en.length ∧ en.getD i false = true := by
  have h1 := placeS_lt L at_ last (idx en) h
  have h2 := idx_mem en _ h1
  refine ⟨(idx en).getD (placeS L at_ last (idx en)) 0, ?_, h2.1, h2.2⟩
  unfold whoS
  rw [if_neg h]
theorem enL_length (n busy : Nat) (R : List Int) : (enL n busy R).length = n := by simp [enL]
theorem enL_get (n busy : Nat) (R : List Int) (i : Nat) (hi : i < n) : (enL n busy R).getD i false = (busy.testBit i || decide (0 < R.length)) := by
  simp [enL, List.getD_eq_getElem?_getD, hi]
theorem idx_ne (en : List Bool) (i : Nat) (hi : i < en.length) (h : en.getD i false = true) : idx en ≠ [] := by
  intro e
  have : i ∈ idx en := List.mem_filter.2 ⟨List.mem_range.2 hi, by simpa using h⟩
  rw [e] at this
  cases this
/-- a refill keeps what is to be done -/
theorem refill_keeps (c : Nat) : ∀ (W : List (List Int)) (wave : Int) (R : List Int) (left : Int), left = ((R.length + c : Nat) : Int) →
    (refillS W wave R left).2.2.2 = (((refillS W wave R left).2.2.1.length + c : Nat) : Int) ∧ ((refillS W wave R left).2.2.2 = 0 → (refillS W wave R left).1 = []) ∧ sumL (refillS W wave R left).1 + (refillS W wave R left).2.2.1.length = sumL W + R.length
  | [], wave, R, left, h => ⟨h, fun _ => rfl, rfl⟩
  | x :: W, wave, R, left, h => by
    by_cases c0 : left = 0
    · have hR : R.length = 0 ∧ c = 0 := by omega
      have ih := refill_keeps c W (wrap64 (wave + 1)) x (x.length : Int) (by omega)
      rw [refillS, if_pos c0]
      refine ⟨ih.1, ih.2.1, ?_⟩
      rw [ih.2.2, sumL_cons, hR.1]; omega
    · rw [refillS, if_neg c0]
      exact ⟨h, fun e => absurd e c0, rfl⟩
/-- the counts of a play -/
def Ok (n N : Nat) (S : WS) (busy : Nat) (T : List Task) (l : List S54) (steps : Int) : Prop :=
  T.length = n ∧ S.2.2.2 = ((S.2.2.1.length + cntB n busy : Nat) : Int) ∧ (S.2.2.2 = 0 → S.1 = []) ∧ l.length + sumL S.1 + (S.2.2.1.length + cntB n busy) = N ∧ steps + ((2 * (sumL S.1 + S.2.2.1.length) + cntB n busy : Nat) : Int) = 2 * (N : Int)
theorem Ok.take {n N : Nat} {W : List (List Int)} {wave left : Int} {r : Int} {R : List Int} {busy : Nat} {T : List Task} {l : List S54} {steps : Int} (h : Ok n N (W, wave, r :: R, left) busy T l steps) (i : Nat) (hi : i < n) (hb : busy.testBit i = false) (p : Task) : Ok n N (W, wave, R, left) (busy ||| 2 ^ i) (T.set i p) l (steps + 1) := by
  obtain ⟨h1, h2, h3, h4, h5⟩ := h
  dsimp only at h2 h3 h4 h5
  have e := cntB_or n busy i hi hb
  refine ⟨by rw [List.length_set]; exact h1, ?_, h3, ?_, ?_⟩
  · rw [e]; dsimp only; rw [h2, List.length_cons]; omega
  · rw [e]; dsimp only; rw [List.length_cons] at h4; omega
  · rw [e]; dsimp only; rw [List.length_cons] at h5; omega
theorem Ok.done {n N : Nat} {W : List (List Int)} {wave left : Int} {R : List Int} {busy : Nat} {T : List Task} {l : List S54} {steps : Int} (h : Ok n N (W, wave, R, left) busy T l steps) (i : Nat) (hi : i < n) (hb : busy.testBit i = true) (e : S54) : Ok n N (refillS W wave R (left - 1)) (busy ^^^ 2 ^ i) T (l ++ [e]) (steps + 1) := by
  obtain ⟨h1, h2, h3, h4, h5⟩ := h
  dsimp only at h2 h3 h4 h5
  have ec := cntB_xor n busy i hi hb
  have hk := refill_keeps (cntB n (busy ^^^ 2 ^ i)) W wave R (left - 1) (by rw [h2]; omega)
  generalize refillS W wave R (left - 1) = S at *
  refine ⟨h1, hk.1, hk.2.1, ?_, ?_⟩
  · rw [List.length_append, List.length_singleton]; have := hk.2.2; omega
  · have := hk.2.2; omega
theorem play_run (n N : Nat) (L : List Int) (hn : 1 ≤ n) (hN : N ≤ 4096) (Inv : WS → Nat → List Task → List S54 → Int → Prop)
    (htake : ∀ W wave r R left busy T l (steps : Int) i, Ok n N (W, wave, r :: R, left) busy T l steps → i < n → busy.testBit i = false → Inv (W, wave, r :: R, left) busy T l steps → Inv (W, wave, R, left) (busy ||| 2 ^ i) (T.set i (r, wave, steps + 1)) l (steps + 1))
    (hdone : ∀ W wave R left busy T l (steps : Int) i, Ok n N (W, wave, R, left) busy T l steps → i < n → busy.testBit i = true → Inv (W, wave, R, left) busy T l steps → Inv (refillS W wave R (left - 1)) (busy ^^^ 2 ^ i) T (l ++ [⟨(i : Int), ⟨0, (T.getD i (0, 0, 0)).1, 0⟩, (T.getD i (0, 0, 0)).2.1, (T.getD i (0, 0, 0)).2.2, steps + 1, steps + 1⟩]) (steps + 1)) :
    ∀ (gas : Nat) (S : WS) (busy : Nat) (T : List Task) (at_ last : Int) (l : List S54) (steps : Int), 2 * (sumL S.1 + S.2.2.1.length) + cntB n busy < gas → 0 ≤ steps → Ok n N S busy T l steps → Inv S busy T l steps →
      ∃ l' S' busy' T', playL n L gas S busy T at_ last l steps = some (l', 2 * (N : Int)) ∧ Ok n N S' busy' T' l' (2 * (N : Int)) ∧ S'.2.2.2 = 0 ∧ Inv S' busy' T' l' (2 * (N : Int))
  | 0, _, _, _, _, _, _, _, h, _, _, _ => by omega
  | gas + 1, (W, wave, R, left), busy, T, at_, last, l, steps, h, h0, hO, hI => by
    obtain ⟨o1, o2, o3, o4, o5⟩ := id hO
    dsimp only at o2 o3 o4 o5 h
    rw [playL]
    dsimp only
    by_cases c : 0 < left
    · rw [if_pos c]
      have hne : idx (enL n busy R) ≠ [] := by
        by_cases hR : 0 < R.length
        · exact idx_ne _ 0 (by rw [enL_length]; omega) (by rw [enL_get n busy R 0 (by omega)]; simp [hR])
        · obtain ⟨i, hi, hb⟩ := cnt_some n _ (show 0 < cntB n busy by omega)
          exact idx_ne _ i (by rw [enL_length]; omega) (by rw [enL_get n busy R i hi, hb]; rfl)
      obtain ⟨i, hw, hi, he⟩ := who_mem L at_ last _ hne
      rw [enL_length] at hi
      rw [enL_get n busy R i hi] at he
      simp only [hw, Int.toNat_natCast]
      rw [if_pos ⟨by omega, by omega⟩]
      have hs : wrap64 (steps + 1) = steps + 1 := wr64 (by omega) (by omega)
      rw [hs]
      by_cases hb : busy.testBit i = true
      · rw [if_pos hb, if_pos (by omega)]
        have hl : wrap64 (left - 1) = left - 1 := wr64 (by omega) (by omega)
        rw [hl]
        have ec := cntB_xor n busy i hi hb
        have hk := refill_keeps (cntB n (busy ^^^ 2 ^ i)) W wave R (left - 1) (by rw [o2]; omega)
        exact play_run n N L hn hN Inv htake hdone gas _ _ _ _ _ _ _ (by have := hk.2.2; omega) (by omega) (hO.done i hi hb _) (hdone _ _ _ _ _ _ _ _ _ hO hi hb hI)
      · rw [if_neg hb]
        have hb2 : busy.testBit i = false := by simpa using hb
        cases R with
        | nil => rw [hb2] at he; simp at he
        | cons r R =>
          have ec := cntB_or n busy i hi hb2
          exact play_run n N L hn hN Inv htake hdone gas _ _ _ _ _ _ _ (by dsimp only; rw [List.length_cons] at h; omega) (by omega) (hO.take i hi hb2 _) (htake _ _ _ _ _ _ _ _ _ _ hO hi hb2 hI)
    · rw [if_neg c]
      have hl : left = 0 := by omega
      have hW := o3 hl
      have hs : steps = 2 * (N : Int) := by
        rw [hW] at o5
        simp [sumL] at o5
        omega
      exact ⟨l, (W, wave, R, left), busy, T, by rw [hs], by rw [← hs]; exact hO, hl, by rw [← hs]; exact hI⟩
/-- the whole play -/
theorem play_whole (l0 : List (List Int)) (n : Nat) (L : List Int) (hn1 : 1 ≤ n) (hn2 : n ≤ 64) (hN : sumL l0 ≤ 4096) (hx : ∀ x ∈ l0, x.length ≤ 17592186044416) (hl0 : l0.length ≤ 100000) (hL : L.length ≤ 1000000) (Inv : WS → Nat → List Task → List S54 → Int → Prop)
    (hstart : Inv (refillS l0 (-1) [] 0) 0 (List.replicate n (0, 0, 0)) [] 0)
    (htake : ∀ W wave r R left busy T l (steps : Int) i, Ok n (sumL l0) (W, wave, r :: R, left) busy T l steps → i < n → busy.testBit i = false → Inv (W, wave, r :: R, left) busy T l steps → Inv (W, wave, R, left) (busy ||| 2 ^ i) (T.set i (r, wave, steps + 1)) l (steps + 1))
    (hdone : ∀ W wave R left busy T l (steps : Int) i, Ok n (sumL l0) (W, wave, R, left) busy T l steps → i < n → busy.testBit i = true → Inv (W, wave, R, left) busy T l steps → Inv (refillS W wave R (left - 1)) (busy ^^^ 2 ^ i) T (l ++ [⟨(i : Int), ⟨0, (T.getD i (0, 0, 0)).1, 0⟩, (T.getD i (0, 0, 0)).2.1, (T.getD i (0, 0, 0)).2.2, steps + 1, steps + 1⟩]) (steps + 1)) :
    ∃ l' S' busy' T', pool_Play.f l0 n L = some (l', 2 * (sumL l0 : Int)) ∧ Ok n (sumL l0) S' busy' T' l' (2 * (sumL l0 : Int)) ∧ S'.2.2.2 = 0 ∧ Inv S' busy' T' l' (2 * (sumL l0 : Int)) := by
  have ha : allS 0 l0 = ((sumL l0 : Nat) : Int) := by
    have := allS_eq l0 0 hx (by omega)
    rw [Nat.zero_add] at this
    exact this
  have h00 : cntB n 0 = 0 := by
    unfold cntB
    rw [cnt_same n _ (fun _ => false) (fun j _ => Nat.zero_testBit j)]
    simp [cnt]
  have hk := refill_keeps 0 l0 (-1) [] 0 rfl
  have hO : Ok n (sumL l0) (refillS l0 (-1) [] 0) 0 (List.replicate n (0, 0, 0)) [] 0 := by
    refine ⟨by simp, ?_, hk.2.1, ?_, ?_⟩
    · rw [h00]; exact hk.1
    · rw [h00]; have := hk.2.2; simp at this ⊢; omega
    · rw [h00]; have := hk.2.2; simp at this ⊢; omega
  unfold pool_Play.f playF
  rw [if_neg (by rw [ha]; omega), if_pos hL, ha, Int.toNat_natCast, Int.toNat_natCast]
  exact play_run n (sumL l0) L hn1 hN Inv htake hdone _ _ _ _ _ _ _ _ (by rw [h00]; have := hk.2.2; simp at this; omega) (by omega) hO hstart
end Go.Proofs.YtbkdnenlffiaeaaDoor

namespace Go.Proofs.YtbkdnenlffiaeaaDoor
open Go.RowKit Go.Proofs.YtbkdnenlffiaeaaDoorW.PrintWords Go.Proofs.YtbkdnenlffiaeaaDoorW.PrintLast Go.Proofs.YtbkdnenlffiaeaaDoorW.PrintMore Go.Proofs.YtbkdnenlffiaeaaDoor.P Go.Proofs.YtbkdnenlffiaeaaDoor.Bits
set_option linter.unusedVariables false
theorem getD_set_task (T : List Task) (i j : Nat) (p : Task) (hi : i < T.length) : (T.set i p).getD j (0, 0, 0) = if j = i then p else T.getD j (0, 0, 0) := by
  simp only [List.getD_eq_getElem?_getD, List.getElem?_set]
  by_cases c : i = j
  · rw [if_pos c, if_pos (by omega), if_pos c.symm]; rfl
  · rw [if_neg c, if_neg (Ne.symm c)]
/-- where the waves stand -/
def AtW (x0 : List (List Int)) (S : WS) : Prop := ∃ m : Nat, S.2.1 = (m : Int) - 1 ∧ m ≤ x0.length ∧ S.1 = x0.drop m ∧ ∀ r ∈ S.2.2.1, 0 < m ∧ r ∈ x0.getD (m - 1) []
theorem refill_at (x0 : List (List Int)) (hx : x0.length ≤ 100000) : ∀ (W : List (List Int)) (wave : Int) (R : List Int) (left : Int), AtW x0 (W, wave, R, left) → AtW x0 (refillS W wave R left) ∧ wave ≤ (refillS W wave R left).2.1
  | [], wave, R, left, h => ⟨h, Int.le_refl _⟩
  | x :: W, wave, R, left, h => by
    by_cases c : left = 0
    · rw [refillS, if_pos c]
      obtain ⟨m, h1, h2, h3, h4⟩ := h
      dsimp only at h1 h3
      have hm : m < x0.length := by
        refine Nat.lt_of_le_of_ne h2 (fun e => ?_)
        rw [e, List.drop_length] at h3
        cases h3
      have e := List.drop_eq_getElem_cons hm
      rw [← h3] at e
      injection e with e1 e2
      have hw : wrap64 (wave + 1) = wave + 1 := wr64 (by omega) (by omega)
      rw [hw]
      have ih := refill_at x0 hx W (wave + 1) x (x.length : Int) ⟨m + 1, by dsimp only; omega, by omega, e2, fun r hr => ⟨by omega, ?_⟩⟩
      · exact ⟨ih.1, by have := ih.2; omega⟩
      · rw [Nat.add_sub_cancel, List.getD_eq_getElem?_getD, List.getElem?_eq_getElem hm, Option.getD_some, ← e1]
        exact hr
    · rw [refillS, if_neg c]
      exact ⟨h, Int.le_refl _⟩
theorem refill_stays (W : List (List Int)) (wave : Int) (R : List Int) (left : Int) (h : left ≠ 0) : refillS W wave R left = (W, wave, R, left) := by
  cases W with
  | nil => rfl
  | cons x W => rw [refillS, if_neg h]
theorem refill_flat (c : Nat) : ∀ (W : List (List Int)) (wave : Int) (R : List Int) (left : Int), left = ((R.length + c : Nat) : Int) → (refillS W wave R left).2.2.1 ++ (refillS W wave R left).1.flatten = R ++ W.flatten
  | [], _, _, _, _ => rfl
  | x :: W, wave, R, left, h => by
    by_cases c0 : left = 0
    · have hR : R = [] := List.length_eq_zero_iff.1 (by omega)
      rw [refillS, if_pos c0, refill_flat 0 W _ x _ (by omega), hR]
      rfl
    · rw [refillS, if_neg c0]
/-- waves in their order, workers with one task at once -/
def Waved (x0 : List (List Int)) (n : Nat) (S : WS) (busy : Nat) (T : List Task) (l : List S54) (steps : Int) : Prop :=
  AtW x0 S ∧
  (∀ i, i < n → busy.testBit i = true → (T.getD i (0, 0, 0)).2.1 = S.2.1 ∧ 0 ≤ S.2.1 ∧ (T.getD i (0, 0, 0)).1 ∈ x0.getD S.2.1.toNat [] ∧ 1 ≤ (T.getD i (0, 0, 0)).2.2 ∧ (T.getD i (0, 0, 0)).2.2 ≤ steps ∧ ∀ e ∈ l, (e.f0 = (i : Int) ∨ e.f2 < S.2.1) → e.f5 < (T.getD i (0, 0, 0)).2.2) ∧
  (∀ e ∈ l, 1 ≤ e.f3 ∧ e.f3 < e.f5 ∧ e.f5 ≤ steps ∧ 0 ≤ e.f2 ∧ e.f2 < (x0.length : Int) ∧ e.f2 ≤ S.2.1 ∧ e.f1.f1 ∈ x0.getD e.f2.toNat [] ∧ 0 ≤ e.f0 ∧ e.f0 < (n : Int)) ∧
  l.Pairwise (fun a b => a.f2 ≤ b.f2 ∧ ((a.f0 = b.f0 ∨ a.f2 < b.f2) → a.f5 < b.f3))
theorem Waved.start (x0 : List (List Int)) (hx : x0.length ≤ 100000) (n : Nat) : Waved x0 n (refillS x0 (-1) [] 0) 0 (List.replicate n (0, 0, 0)) [] 0 := by
  refine ⟨(refill_at x0 hx x0 (-1) [] 0 ⟨0, rfl, Nat.zero_le _, rfl, fun r h => by cases h⟩).1, fun i _ h => ?_, (fun e h => by cases h), List.Pairwise.nil⟩
  rw [Nat.zero_testBit] at h; cases h
theorem Waved.take {x0 : List (List Int)} {n N : Nat} {W : List (List Int)} {wave : Int} {r : Int} {R : List Int} {left : Int} {busy : Nat} {T : List Task} {l : List S54} {steps : Int} {i : Nat} (hO : Ok n N (W, wave, r :: R, left) busy T l steps) (hs : 0 ≤ steps) (hi : i < n) (hb : busy.testBit i = false) (h : Waved x0 n (W, wave, r :: R, left) busy T l steps) :
    Waved x0 n (W, wave, R, left) (busy ||| 2 ^ i) (T.set i (r, wave, steps + 1)) l (steps + 1) := by
  obtain ⟨⟨m, h1, h2, h3, h4⟩, hB, hE, hP⟩ := h
  dsimp only at h1 h3 h4 hB
  have hr := h4 r (List.mem_cons_self ..)
  refine ⟨⟨m, h1, h2, h3, fun q hq => h4 q (List.mem_cons_of_mem _ hq)⟩, fun j hj hbj => ?_, fun e he => ?_, hP⟩
  · dsimp only
    rw [getD_set_task T i j _ (by rw [hO.1]; exact hi)]
    by_cases c : j = i
    · rw [if_pos c]
      dsimp only
      refine ⟨rfl, by omega, ?_, by omega, by omega, fun e he _ => ?_⟩
      · rw [show wave.toNat = m - 1 by omega]; exact hr.2
      · have := (hE e he).2.2.1; omega
    · rw [if_neg c]
      rw [bit_or, decide_eq_false (Ne.symm c), Bool.or_false] at hbj
      obtain ⟨b1, b2, b3, b4, b5, b6⟩ := hB j hj hbj
      exact ⟨b1, b2, b3, b4, by omega, b6⟩
  · obtain ⟨b1, b2, b3, b4, b5, b6, b7⟩ := hE e he
    exact ⟨b1, b2, by omega, b4, b5, b6, b7⟩
theorem Waved.done {x0 : List (List Int)} (hx : x0.length ≤ 100000) {n N : Nat} {W : List (List Int)} {wave : Int} {R : List Int} {left : Int} {busy : Nat} {T : List Task} {l : List S54} {steps : Int} {i : Nat} (hO : Ok n N (W, wave, R, left) busy T l steps) (hi : i < n) (hb : busy.testBit i = true) (h : Waved x0 n (W, wave, R, left) busy T l steps) :
    Waved x0 n (refillS W wave R (left - 1)) (busy ^^^ 2 ^ i) T (l ++ [⟨(i : Int), ⟨0, (T.getD i (0, 0, 0)).1, 0⟩, (T.getD i (0, 0, 0)).2.1, (T.getD i (0, 0, 0)).2.2, steps + 1, steps + 1⟩]) (steps + 1) := by
  obtain ⟨hA, hB, hE, hP⟩ := h
  obtain ⟨t1, t2, t3, t4, t5, t6⟩ := hB i hi hb
  dsimp only at t1 t2 t3 t6 hB
  have ec := cntB_xor n busy i hi hb
  have o2 : left = ((R.length + cntB n busy : Nat) : Int) := hO.2.1
  have hA2 : AtW x0 (W, wave, R, left - 1) := hA
  have hr := refill_at x0 hx W wave R (left - 1) hA2
  have hm : wave < (x0.length : Int) := by obtain ⟨m, h1, h2, _⟩ := hA; dsimp only at h1; omega
  refine ⟨hr.1, fun j hj hbj => ?_, fun e he => ?_, ?_⟩
  · have hj2 : j ≠ i := fun e => by rw [e, bit_xor, hb] at hbj; simp at hbj
    have hbj2 : busy.testBit j = true := by rw [bit_xor, decide_eq_false (Ne.symm hj2)] at hbj; simpa using hbj
    have hp : 0 < cntB n (busy ^^^ 2 ^ i) := cnt_pos n j _ hj hbj
    rw [refill_stays W wave R (left - 1) (by omega)]
    obtain ⟨b1, b2, b3, b4, b5, b6⟩ := hB j hj hbj2
    refine ⟨b1, b2, b3, b4, by omega, fun e he hc => ?_⟩
    rcases List.mem_append.1 he with he | he
    · exact b6 e he hc
    · rw [List.mem_singleton] at he
      subst he
      dsimp only at hc ⊢
      rcases hc with hc | hc
      · omega
      · omega
  · rcases List.mem_append.1 he with he | he
    · obtain ⟨b1, b2, b3, b4, b5, b6, b7⟩ := hE e he
      exact ⟨b1, b2, by omega, b4, b5, by have := hr.2; dsimp only at b6; omega, b7⟩
    · rw [List.mem_singleton] at he
      subst he
      dsimp only
      rw [t1]
      exact ⟨t4, by omega, by omega, t2, hm, hr.2, t3, by omega, by omega⟩
  · rw [List.pairwise_append]
    refine ⟨hP, List.pairwise_singleton _ _, fun a ha b hb2 => ?_⟩
    rw [List.mem_singleton] at hb2
    subst hb2
    dsimp only
    rw [t1]
    exact ⟨(hE a ha).2.2.2.2.2.1, fun hc => t6 a ha hc⟩
/-- tasks that are done, in hand, and to be done -/
def Once (t : Int) (C n : Nat) (S : WS) (busy : Nat) (T : List Task) (l : List S54) : Prop :=
  (l.map fun e => e.f1.f1).count t + cnt n (fun i => busy.testBit i && (T.getD i (0, 0, 0)).1 == t) + (S.2.2.1 ++ S.1.flatten).count t = C
theorem Once.start (t : Int) (x0 : List (List Int)) (n : Nat) : Once t (x0.flatten.count t) n (refillS x0 (-1) [] 0) 0 (List.replicate n (0, 0, 0)) [] := by
  unfold Once
  rw [refill_flat 0 x0 (-1) [] 0 rfl, cnt_same n _ (fun _ => false) (fun j _ => by rw [Nat.zero_testBit]; rfl)]
  simp [cnt]
theorem Once.take {t : Int} {C n N : Nat} {W : List (List Int)} {wave : Int} {r : Int} {R : List Int} {left : Int} {busy : Nat} {T : List Task} {l : List S54} {steps b : Int} {i : Nat} (hO : Ok n N (W, wave, r :: R, left) busy T l steps) (hi : i < n) (hb : busy.testBit i = false) (h : Once t C n (W, wave, r :: R, left) busy T l) :
    Once t C n (W, wave, R, left) (busy ||| 2 ^ i) (T.set i (r, wave, b)) l := by
  unfold Once at h ⊢
  dsimp only at h ⊢
  rw [List.cons_append, List.count_cons] at h
  have hg : ∀ j, ((T.set i (r, wave, b)).getD j (0, 0, 0)) = if j = i then (r, wave, b) else T.getD j (0, 0, 0) := fun j => getD_set_task T i j _ (by rw [hO.1]; exact hi)
  have ho : ∀ j, j < n → j ≠ i → (busy.testBit j && (T.getD j (0, 0, 0)).1 == t) = ((busy ||| 2 ^ i).testBit j && ((T.set i (r, wave, b)).getD j (0, 0, 0)).1 == t) := fun j hj hne => by
    rw [hg, if_neg hne, bit_or, decide_eq_false (Ne.symm hne), Bool.or_false]
  by_cases c : r = t
  · have := cnt_more n i (fun j => busy.testBit j && (T.getD j (0, 0, 0)).1 == t) (fun j => (busy ||| 2 ^ i).testBit j && ((T.set i (r, wave, b)).getD j (0, 0, 0)).1 == t) hi ho (by rw [hb]; rfl) (by rw [hg, if_pos rfl, bit_or]; simp [c])
    rw [this]
    simp only [c, beq_self_eq_true, if_true] at h
    omega
  · have := cnt_same n (fun j => busy.testBit j && (T.getD j (0, 0, 0)).1 == t) (fun j => (busy ||| 2 ^ i).testBit j && ((T.set i (r, wave, b)).getD j (0, 0, 0)).1 == t) (fun j hj => by
      by_cases e : j = i
      · subst e
        rw [hg, if_pos rfl, hb]
        simp [c]
      · exact ho j hj e)
    rw [← this]
    rw [if_neg (by simpa using c)] at h
    omega
theorem Once.done {t : Int} {C n N : Nat} {W : List (List Int)} {wave : Int} {R : List Int} {left : Int} {busy : Nat} {T : List Task} {l : List S54} {steps w' b p q : Int} {i : Nat} (hO : Ok n N (W, wave, R, left) busy T l steps) (hi : i < n) (hb : busy.testBit i = true) (h : Once t C n (W, wave, R, left) busy T l) :
    Once t C n (refillS W wave R (left - 1)) (busy ^^^ 2 ^ i) T (l ++ [⟨(i : Int), ⟨0, (T.getD i (0, 0, 0)).1, 0⟩, w', b, p, q⟩]) := by
  unfold Once at h ⊢
  have ec := cntB_xor n busy i hi hb
  have o2 : left = ((R.length + cntB n busy : Nat) : Int) := hO.2.1
  rw [refill_flat (cntB n (busy ^^^ 2 ^ i)) W wave R (left - 1) (by rw [o2]; omega), List.map_append, List.count_append, List.map_singleton, List.count_singleton]
  dsimp only at h ⊢
  have ho : ∀ j, j < n → j ≠ i → ((busy ^^^ 2 ^ i).testBit j && (T.getD j (0, 0, 0)).1 == t) = (busy.testBit j && (T.getD j (0, 0, 0)).1 == t) := fun j hj hne => by
    rw [bit_xor, decide_eq_false (Ne.symm hne), Bool.xor_false]
  by_cases c : (T.getD i (0, 0, 0)).1 = t
  · have := cnt_more n i (fun j => (busy ^^^ 2 ^ i).testBit j && (T.getD j (0, 0, 0)).1 == t) (fun j => busy.testBit j && (T.getD j (0, 0, 0)).1 == t) hi ho (by rw [bit_xor, hb]; simp) (by rw [hb]; simpa using c)
    rw [if_pos (by simpa using c)]
    omega
  · have := cnt_same n (fun j => (busy ^^^ 2 ^ i).testBit j && (T.getD j (0, 0, 0)).1 == t) (fun j => busy.testBit j && (T.getD j (0, 0, 0)).1 == t) (fun j hj => by
      by_cases e : j = i
      · subst e
        have c2 : ((T.getD j (0, 0, 0)).1 == t) = false := by simpa using c
        rw [c2, Bool.and_false, Bool.and_false]
      · exact ho j hj e)
    rw [if_neg (by simpa using c), this]
    omega
/-- one worker: in their order -/
def InTurn (N : Nat) (S : WS) (busy : Nat) (T : List Task) (l : List S54) (steps : Int) : Prop :=
  S.2.2.1 ++ S.1.flatten = ((List.range N).drop (l.length + cntB 1 busy)).map (fun i : Nat => (i : Int)) ∧ steps = ((2 * l.length + cntB 1 busy : Nat) : Int) ∧ (busy.testBit 0 = true → (T.getD 0 (0, 0, 0)).1 = (l.length : Int) ∧ (T.getD 0 (0, 0, 0)).2.2 = ((2 * l.length + 1 : Nat) : Int)) ∧
  ∀ (i : Nat) (e : S54), l[i]? = some e → e.f1.f1 = (i : Int) ∧ e.f3 = 2 * (i : Int) + 1 ∧ e.f5 = 2 * (i : Int) + 2
theorem cntB1 (busy : Nat) : cntB 1 busy = if busy.testBit 0 = true then 1 else 0 := by
  unfold cntB
  rw [cnt_succ]
  simp [cnt]
theorem InTurn.start (x0 : List (List Int)) (N : Nat) (h : x0.flatten = (List.range N).map (fun i : Nat => (i : Int))) : InTurn N (refillS x0 (-1) [] 0) 0 (List.replicate 1 (0, 0, 0)) [] 0 := by
  have e : cntB 1 0 = 0 := by rw [cntB1, Nat.zero_testBit]; rfl
  refine ⟨?_, by rw [e]; rfl, (fun h => by rw [Nat.zero_testBit] at h; cases h), (fun i e h => by simp at h)⟩
  rw [refill_flat 0 x0 (-1) [] 0 rfl, e, List.nil_append, h]
  rfl
theorem InTurn.take {N : Nat} {W : List (List Int)} {wave : Int} {r : Int} {R : List Int} {left : Int} {busy : Nat} {T : List Task} {l : List S54} {steps : Int} (hT : T.length = 1) (hb : busy.testBit 0 = false) (h : InTurn N (W, wave, r :: R, left) busy T l steps) :
    InTurn N (W, wave, R, left) (busy ||| 2 ^ 0) (T.set 0 (r, wave, steps + 1)) l (steps + 1) := by
  obtain ⟨h1, h2, h3, h4⟩ := h
  have ec := cntB_or 1 busy 0 (by omega) hb
  have e0 : cntB 1 busy = 0 := by rw [cntB1, hb]; rfl
  dsimp only at h1
  rw [e0] at h1 h2
  have hl : l.length < N := by
    refine Nat.lt_of_not_le fun hc => ?_
    rw [List.drop_eq_nil_of_le (by simp; omega)] at h1
    simp at h1
  rw [Nat.add_zero, List.drop_eq_getElem_cons (by simpa using hl), List.map_cons, List.cons_append] at h1
  injection h1 with ha hb2
  refine ⟨?_, ?_, fun _ => ?_, h4⟩
  · dsimp only
    rw [ec, e0, hb2]
  · rw [ec, e0]; omega
  · rw [getD_set_task T 0 0 _ (by omega), if_pos rfl]
    dsimp only
    rw [ha, List.getElem_range]
    exact ⟨rfl, by omega⟩
theorem InTurn.done {N N2 : Nat} {W : List (List Int)} {wave : Int} {R : List Int} {left : Int} {busy : Nat} {T : List Task} {l : List S54} {steps w' p : Int} (hO : Ok 1 N2 (W, wave, R, left) busy T l steps) (hb : busy.testBit 0 = true) (h : InTurn N (W, wave, R, left) busy T l steps) :
    InTurn N (refillS W wave R (left - 1)) (busy ^^^ 2 ^ 0) T (l ++ [⟨((0 : Nat) : Int), ⟨0, (T.getD 0 (0, 0, 0)).1, 0⟩, w', (T.getD 0 (0, 0, 0)).2.2, p, steps + 1⟩]) (steps + 1) := by
  obtain ⟨h1, h2, h3, h4⟩ := h
  have ec := cntB_xor 1 busy 0 (by omega) hb
  have e1 : cntB 1 busy = 1 := by rw [cntB1, hb]; rfl
  have e0 : cntB 1 (busy ^^^ 2 ^ 0) = 0 := by omega
  have o2 : left = ((R.length + cntB 1 busy : Nat) : Int) := hO.2.1
  obtain ⟨a, b⟩ := h3 hb
  dsimp only at h1
  refine ⟨?_, ?_, fun hc => ?_, fun i e he => ?_⟩
  · rw [refill_flat (cntB 1 (busy ^^^ 2 ^ 0)) W wave R (left - 1) (by rw [o2]; omega), h1, e1, e0, List.length_append, List.length_singleton]
  · rw [e0, List.length_append, List.length_singleton, h2, e1]; omega
  · rw [bit_xor, hb] at hc; simp at hc
  · rcases Nat.lt_or_ge i l.length with hi | hi
    · rw [List.getElem?_append_left hi] at he
      exact h4 i e he
    · rw [List.getElem?_append_right hi] at he
      have hi2 : i = l.length := by
        refine Nat.le_antisymm (Nat.le_of_not_lt fun hc => ?_) hi
        rw [List.getElem?_eq_none (by simp; omega)] at he
        cases he
      subst hi2
      rw [Nat.sub_self] at he
      simp only [List.getElem?_cons_zero, Option.some.injEq] at he
      subst he
      dsimp only
      rw [a, b, h2, e1]
      exact ⟨rfl, by omega, by omega⟩
end Go.Proofs.YtbkdnenlffiaeaaDoor
