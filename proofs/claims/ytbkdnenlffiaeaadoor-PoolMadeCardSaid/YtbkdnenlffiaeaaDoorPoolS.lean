/-
The reference's Pool comes to what the program's plain play comes to. Condition: rows are short.
-/
import Derived.Test.YtbkdnenlffiaeaaDoorPoolR
import Derived.Test.YtbkdnenlffiaeaaDoorPx11
namespace Go.Proofs.YtbkdnenlffiaeaaDoor.P
open Go.RowKit Go.Proofs.YtbkdnenlffiaeaaDoor Go.Proofs.YtbkdnenlffiaeaaDoor.Bits Go.Proofs.YtbkdnenlffiaeaaDoorW.PrintWords Go.Proofs.YtbkdnenlffiaeaaDoorW.PrintLast Go.Proofs.YtbkdnenlffiaeaaDoorW.PrintMore
set_option linter.unusedSimpArgs false
set_option linter.unusedVariables false
theorem getD_set75 (T : List S75) (i j : Nat) (p : S75) (hi : i < T.length) : (T.set i p).getD j z75 = if j = i then p else T.getD j z75 := by
  simp only [List.getD_eq_getElem?_getD, List.getElem?_set]
  by_cases c : i = j
  · rw [if_pos c, if_pos (by omega), if_pos c.symm]; rfl
  · rw [if_neg c, if_neg (Ne.symm c)]
theorem rdL4_le (x0 : List (List Int)) (B : Nat) (h : ∀ x ∈ x0, x.length ≤ B) (i : Int) : (rd_L4 x0 i).length ≤ B := by
  unfold rd_L4
  rw [List.getD_eq_getElem?_getD]
  by_cases c : i.toNat < x0.length
  · rw [List.getElem?_eq_getElem c]
    exact h _ (List.getElem_mem c)
  · rw [List.getElem?_eq_none (by omega)]
    exact Nat.zero_le _
theorem len_le_sum : ∀ (W : List (List Int)) (x : List Int), x ∈ W → x.length ≤ sumL W
  | [], _, h => by cases h
  | y :: W, x, h => by
    rw [sumL_cons]
    rcases List.mem_cons.1 h with h | h
    · rw [h]; omega
    · have := len_le_sum W x h; omega
/-- where the reference stands in the waves -/
def RefAt (x0 : List (List Int)) (W : List (List Int)) (wave : Int) (R : List Int) (left : Int) (m next : Nat) : Prop :=
  wave = (m : Int) - 1 ∧ m ≤ x0.length ∧ W = x0.drop m ∧ (m = 0 → R = [] ∧ left = 0) ∧ (0 < m → R = (rd_L4 x0 wave).drop next) ∧ next ≤ (rd_L4 x0 wave).length
/-- the hands of the reference are the program's tasks -/
def Hands (n : Nat) (ws : List S75) (busy : Nat) (T : List Task) : Prop :=
  ws.length = n ∧ ∀ i, i < n → (ws.getD i z75).f0 = busy.testBit i ∧ (busy.testBit i = true → (ws.getD i z75).f1 = (T.getD i (0, 0, 0)).1 ∧ (ws.getD i z75).f2 = (T.getD i (0, 0, 0)).2.1 ∧ (ws.getD i z75).f3 = (T.getD i (0, 0, 0)).2.2)
theorem ref_l3 (x0 : List (List Int)) (n N : Nat) (hn1 : 1 ≤ n) (hn2 : n ≤ 64) (ws : List S75) (busy : Nat) (T : List Task) (hH : Hands n ws busy T) (W : List (List Int)) (wave : Int) (R : List Int) (left : Int) (m next : Nat) (hR : RefAt x0 W wave R left m next) (hm : 0 < m) (l : List S54) (steps : Int) (L : List Int) (at_ last : Int) (r : List S54 × Int)
    (h : Ev (fun k => warpref1_Pool.l3 k x0 (n : Int) (N : Int) ws wave (next : Int) left (enL n busy R) (n : Int) l steps L at_ last) r) :
    ∀ (d i : Nat) (en : List Bool), i + d = n → en.length = n → (∀ j, j < i → en.getD j false = (enL n busy R).getD j false) → Ev (fun k => warpref1_Pool.l3 k x0 (n : Int) (N : Int) ws wave (next : Int) left en (i : Int) l steps L at_ last) r
  | 0, i, en, hi, hl, he => by
    obtain rfl : i = n := by omega
    have e : en = enL i busy R := by
      apply List.ext_getElem
      · rw [hl, enL_length]
      · intro j h1 h2
        have h3 := he j (by omega)
        rw [List.getD_eq_getElem?_getD, List.getElem?_eq_getElem h1, List.getD_eq_getElem?_getD, List.getElem?_eq_getElem h2] at h3
        exact h3
    rw [e]
    exact h
  | d + 1, i, en, hi, hl, he => by
    obtain ⟨a1, a2, a3, a4, a5, a6⟩ := id hR
    have hlt : i < n := by omega
    obtain ⟨b1, b2⟩ := hH.2 i hlt
    have hbl : rd_T75 ws (i : Int) = ws.getD i z75 := rfl
    refine Ev.step (f := fun k => warpref1_Pool.l3 k x0 (n : Int) (N : Int) ws wave (next : Int) left (en.set i ((enL n busy R).getD i false)) ((i + 1 : Nat) : Int) l steps L at_ last) (fun k => ?_) (ref_l3 x0 n N hn1 hn2 ws busy T hH W wave R left m next hR hm l steps L at_ last r h d (i + 1) _ (by omega) (by rw [List.length_set]; exact hl) (fun j hj => ?_))
    · rw [warpref1_Pool.l3, if_pos (by omega), if_pos (by omega), if_pos (by rw [hH.1]; omega), hbl, b1, enL_get n busy R i hlt, wr64 (by omega) (by omega)]
      by_cases c : busy.testBit i = true
      · rw [if_pos c, if_pos (by omega), c]
        rfl
      · have c2 : busy.testBit i = false := by simpa using c
        rw [if_neg c, if_pos (by omega), if_pos (by omega), if_pos (by omega), c2]
        have e : decide ((next : Int) < ((rd_L4 x0 wave).length : Int)) = decide (0 < R.length) := by
          rw [a5 hm, List.length_drop]
          apply decide_eq_decide.2
          omega
        rw [e, Bool.false_or]
        rfl
    · by_cases c : j = i
      · subst c
        simp [List.getD_eq_getElem?_getD, List.getElem?_set, show j < en.length by omega]
      · have := he j (by omega)
        rw [← this]
        simp [List.getD_eq_getElem?_getD, List.getElem?_set, show i ≠ j by omega]
theorem ref_l2 (x0 : List (List Int)) (n N : Nat) (hn1 : 1 ≤ n) (hn2 : n ≤ 64) (hx : x0.length ≤ 100000) (ws : List S75) (c : Nat) (l : List S54) (steps : Int) (L : List Int) (at_ last : Int) (r : List S54 × Int) : ∀ (W : List (List Int)) (wave : Int) (R : List Int) (left : Int) (m next : Nat), RefAt x0 W wave R left m next → left = ((R.length + c : Nat) : Int) → (refillS W wave R left).2.2.2 ≠ 0 →
    (∀ m' next', RefAt x0 (refillS W wave R left).1 (refillS W wave R left).2.1 (refillS W wave R left).2.2.1 (refillS W wave R left).2.2.2 m' next' → 0 < m' → Ev (fun k => warpref1_Pool.l3 k x0 (n : Int) (N : Int) ws (refillS W wave R left).2.1 (next' : Int) (refillS W wave R left).2.2.2 (List.replicate n false) ((0 : Nat) : Int) l steps L at_ last) r) →
    Ev (fun k => warpref1_Pool.l2 k x0 (n : Int) (N : Int) ws wave (next : Int) left l steps L at_ last) r := by
  have out : ∀ (W : List (List Int)) (wave : Int) (R : List Int) (left : Int) (m next : Nat), RefAt x0 W wave R left m next → left ≠ 0 → (∀ m' next', RefAt x0 W wave R left m' next' → 0 < m' → Ev (fun k => warpref1_Pool.l3 k x0 (n : Int) (N : Int) ws wave (next' : Int) left (List.replicate n false) ((0 : Nat) : Int) l steps L at_ last) r) →
      Ev (fun k => warpref1_Pool.l2 k x0 (n : Int) (N : Int) ws wave (next : Int) left l steps L at_ last) r := fun W wave R left m next hR hl h => by
    have hm : 0 < m := by
      refine Nat.pos_of_ne_zero fun e => ?_
      exact hl (hR.2.2.2.1 e).2
    refine Ev.step (fun k => ?_) (h m next hR hm)
    rw [warpref1_Pool.l2, if_neg hl, if_pos (by omega), if_pos (by rw [Int.toNat_natCast]; omega), Int.toNat_natCast]
    rfl
  intro W
  induction W generalizing c with
  | nil =>
    intro wave R left m next hR hl hne h
    exact out [] wave R left m next hR hne h
  | cons x W ih =>
    intro wave R left m next hR hl hne h
    by_cases c0 : left = 0
    · obtain ⟨a1, a2, a3, a4, a5, a6⟩ := hR
      have hm : m < x0.length := by
        refine Nat.lt_of_le_of_ne a2 (fun e => ?_)
        rw [e, List.drop_length] at a3
        cases a3
      have e := List.drop_eq_getElem_cons hm
      rw [← a3] at e
      injection e with e1 e2
      have hw : wrap64 (wave + 1) = (m : Int) := by rw [wr64 (by omega) (by omega)]; omega
      have hrd : rd_L4 x0 (m : Int) = x := by
        unfold rd_L4
        rw [Int.toNat_natCast, List.getD_eq_getElem?_getD, List.getElem?_eq_getElem hm, Option.getD_some, e1]
      have hrf : refillS (x :: W) wave R left = refillS W (m : Int) x (x.length : Int) := by rw [refillS, if_pos c0, hw]
      rw [hrf] at hne h
      refine Ev.step (fun k => ?_) (ih 0 (m : Int) x (x.length : Int) (m + 1) 0 ⟨by omega, by omega, e2, fun h => by omega, fun _ => by rw [hrd]; rfl, Nat.zero_le _⟩ (by omega) hne h)
      rw [warpref1_Pool.l2, if_pos c0, hw, if_pos (by omega), if_pos (by omega), hrd]
      rfl
    · rw [refill_stays _ _ _ _ c0] at hne h
      exact out (x :: W) wave R left m next hR hne h
theorem ref_l1 (x0 : List (List Int)) (n N : Nat) (L : List Int) (hL : L.length ≤ 1000000) (hn1 : 1 ≤ n) (hn2 : n ≤ 64) (hx : x0.length ≤ 100000) (hB : ∀ x ∈ x0, x.length ≤ 4096) (hN : N ≤ 4096) (r1 : List S54) (r2 : Int) :
    ∀ (gas : Nat) (W : List (List Int)) (wave : Int) (R : List Int) (left : Int) (busy : Nat) (T : List Task) (at_ last : Int) (l : List S54) (steps : Int) (m next : Nat) (ws : List S75), RefAt x0 W wave R left m next → left = ((R.length + cntB n busy : Nat) : Int) → Hands n ws busy T → Ok n N (refillS W wave R left) busy T l steps → 0 ≤ steps →
      playL n L gas (refillS W wave R left) busy T at_ last l steps = some (r1, r2) → Ev (fun k => warpref1_Pool.l1 k x0 (n : Int) (N : Int) ws wave (next : Int) left l steps L at_ last) (r1, r2)
  | 0, _, _, _, _, _, _, _, _, _, _, _, _, _, _, _, _, _, _, h => by simp [playL] at h
  | gas + 1, W, wave, R, left, busy, T, at_, last, l, steps, m, next, ws, hR, hl, hH, hO, h0, hp => by
    have hk := refill_keeps (cntB n busy) W wave R left hl
    by_cases c : 0 < (refillS W wave R left).2.2.2
    · have hlN : l.length < N := by have := hO.2.2.2.1; have := hk.1; omega
      refine Ev.step (f := fun k => warpref1_Pool.l2 k x0 (n : Int) (N : Int) ws wave (next : Int) left l steps L at_ last) (fun k => by rw [warpref1_Pool.l1, if_pos (by omega)]) ?_
      refine ref_l2 x0 n N hn1 hn2 hx ws (cntB n busy) l steps L at_ last _ W wave R left m next hR hl (by omega) (fun m' next' hR' hm' => ?_)
      generalize refillS W wave R left = S at *
      obtain ⟨W1, wave1, R1, left1⟩ := S
      dsimp only at hk c hO hR' ⊢
      obtain ⟨o1, o2, o3, o4, o5⟩ := id hO
      dsimp only at o2 o3 o4 o5
      obtain ⟨a1, a2, a3, a4, a5, a6⟩ := id hR'
      have hBw := rdL4_le x0 4096 hB wave1
      refine ref_l3 x0 n N hn1 hn2 ws busy T hH W1 wave1 R1 left1 m' next' hR' hm' l steps L at_ last _ ?_ n 0 _ (by omega) (by simp) (fun j hj => by omega)
      rw [playL] at hp
      dsimp only at hp
      rw [if_pos c] at hp
      have hne : idx (enL n busy R1) ≠ [] := by
        by_cases hR1 : 0 < R1.length
        · exact idx_ne _ 0 (by rw [enL_length]; omega) (by rw [enL_get n busy R1 0 (by omega)]; simp [hR1])
        · obtain ⟨i, hi, hb⟩ := cnt_some n _ (show 0 < cntB n busy by omega)
          exact idx_ne _ i (by rw [enL_length]; omega) (by rw [enL_get n busy R1 i hi, hb]; rfl)
      obtain ⟨i, hw, hi, he⟩ := who_mem L at_ last _ hne
      rw [enL_length] at hi
      rw [enL_get n busy R1 i hi] at he
      have hpick := pick_ev L at_ last (enL n busy R1) hL (by rw [enL_length]; omega)
      unfold nextS at hpick
      simp only [hw, Int.toNat_natCast] at hp hpick
      generalize atS L at_ (idx (enL n busy R1)) = at2 at *
      generalize lastS L at_ last (idx (enL n busy R1)) = last2 at *
      rw [if_pos ⟨by omega, by omega⟩] at hp
      have hs : wrap64 (steps + 1) = steps + 1 := wr64 (by omega) (by omega)
      rw [hs] at hp
      obtain ⟨b1, b2⟩ := hH.2 i hi
      have hrd : rd_T75 ws ((i : Nat) : Int) = ws.getD i z75 := rfl
      by_cases hb : busy.testBit i = true
      · rw [if_pos hb, if_pos (by omega)] at hp
        have hl1 : wrap64 (left1 - 1) = left1 - 1 := wr64 (by omega) (by omega)
        rw [hl1] at hp
        have ec := cntB_xor n busy i hi hb
        have ih := ref_l1 x0 n N L hL hn1 hn2 hx hB hN r1 r2 gas W1 wave1 R1 (left1 - 1) (busy ^^^ 2 ^ i) T at2 last2 _ (steps + 1) m' next' (ws.set i ⟨false, 0, 0, 0⟩) ⟨a1, a2, a3, fun e => by omega, a5, a6⟩ (by omega) ?_ (hO.done i hi hb _) (by omega) hp
        · refine Ev.step (f := fun k => (warpref1_Pick.f k L at_ last (enL n busy R1)).bind fun bt371 => (if 0 ≤ bt371.1 then (if bt371.1 < (ws.length : Int) then (if ((rd_T75 ws bt371.1).f0 = true) then (if l.length < 2199023255552 then (warpref1_Pool.l1 k x0 (n : Int) (N : Int) (ws.set (bt371.1 : Int).toNat (⟨false, 0, 0, 0⟩ : S75)) wave1 (next' : Int) (wrap64 (left1 - 1)) (l ++ [(⟨bt371.1, (⟨0, (rd_T75 ws bt371.1).f1, 0⟩ : S52), (rd_T75 ws bt371.1).f2, (rd_T75 ws bt371.1).f3, wrap64 (steps + 1), wrap64 (steps + 1)⟩ : S54)]) (wrap64 (steps + 1)) bt371.2.1 bt371.2.2.1 bt371.2.2.2) else none) else (if 0 ≤ wave1 then (if wave1 < (x0.length : Int) then (if 0 ≤ (next' : Int) then (if (next' : Int) < ((rd_L4 x0 wave1).length : Int) then (warpref1_Pool.l1 k x0 (n : Int) (N : Int) (ws.set (bt371.1 : Int).toNat (⟨true, rd (rd_L4 x0 wave1) (next' : Int), wave1, wrap64 (steps + 1)⟩ : S75)) wave1 (wrap64 ((next' : Int) + 1)) left1 l (wrap64 (steps + 1)) bt371.2.1 bt371.2.2.1 bt371.2.2.2) else none) else none) else none) else none)) else none) else none)) (fun k => ?_) ?_
          · rw [warpref1_Pool.l3, if_neg (by omega)]
          · refine Ev.bind (f := fun k bt371 => _) hpick ?_
            refine Ev.congr (fun k => ?_) ih
            show (if 0 ≤ (i : Int) then _ else none) = _
            rw [if_pos (by omega), if_pos (by rw [hH.1]; omega), hrd, if_pos (by rw [b1]; exact hb), if_pos (by omega), hl1, hs, (b2 hb).1, (b2 hb).2.1, (b2 hb).2.2, Int.toNat_natCast]
        · refine ⟨by rw [List.length_set]; exact hH.1, fun j hj => ?_⟩
          rw [getD_set75 ws i j _ (by rw [hH.1]; exact hi)]
          by_cases e : j = i
          · rw [if_pos e, e, bit_xor, hb]
            simp
          · rw [if_neg e, bit_xor, decide_eq_false (Ne.symm e), Bool.xor_false]
            exact hH.2 j hj
      · rw [if_neg hb] at hp
        have hb2 : busy.testBit i = false := by simpa using hb
        cases R1 with
        | nil => cases hp
        | cons q R2 =>
          dsimp only at hp
          have ec := cntB_or n busy i hi hb2
          have hd := a5 hm'
          have hnx : next' < (rd_L4 x0 wave1).length := by
            refine Nat.lt_of_not_le fun hc => ?_
            rw [List.drop_eq_nil_of_le hc] at hd
            cases hd
          rw [List.drop_eq_getElem_cons hnx] at hd
          injection hd with d1 d2
          have hq : rd (rd_L4 x0 wave1) (next' : Int) = q := by
            unfold rd
            rw [Int.toNat_natCast, List.getD_eq_getElem?_getD, List.getElem?_eq_getElem hnx, Option.getD_some, d1]
          have hst : refillS W1 wave1 R2 left1 = (W1, wave1, R2, left1) := refill_stays _ _ _ _ (by omega)
          rw [← hst] at hp
          have ih := ref_l1 x0 n N L hL hn1 hn2 hx hB hN r1 r2 gas W1 wave1 R2 left1 (busy ||| 2 ^ i) (T.set i (q, wave1, steps + 1)) at2 last2 l (steps + 1) m' (next' + 1) (ws.set i ⟨true, q, wave1, steps + 1⟩) ⟨a1, a2, a3, fun e => by omega, fun _ => d2, hnx⟩ (by rw [List.length_cons] at o2; omega) ?_ (by rw [hst]; exact hO.take i hi hb2 _) (by omega) hp
          · refine Ev.step (f := fun k => (warpref1_Pick.f k L at_ last (enL n busy (q :: R2))).bind fun bt371 => (if 0 ≤ bt371.1 then (if bt371.1 < (ws.length : Int) then (if ((rd_T75 ws bt371.1).f0 = true) then (if l.length < 2199023255552 then (warpref1_Pool.l1 k x0 (n : Int) (N : Int) (ws.set (bt371.1 : Int).toNat (⟨false, 0, 0, 0⟩ : S75)) wave1 (next' : Int) (wrap64 (left1 - 1)) (l ++ [(⟨bt371.1, (⟨0, (rd_T75 ws bt371.1).f1, 0⟩ : S52), (rd_T75 ws bt371.1).f2, (rd_T75 ws bt371.1).f3, wrap64 (steps + 1), wrap64 (steps + 1)⟩ : S54)]) (wrap64 (steps + 1)) bt371.2.1 bt371.2.2.1 bt371.2.2.2) else none) else (if 0 ≤ wave1 then (if wave1 < (x0.length : Int) then (if 0 ≤ (next' : Int) then (if (next' : Int) < ((rd_L4 x0 wave1).length : Int) then (warpref1_Pool.l1 k x0 (n : Int) (N : Int) (ws.set (bt371.1 : Int).toNat (⟨true, rd (rd_L4 x0 wave1) (next' : Int), wave1, wrap64 (steps + 1)⟩ : S75)) wave1 (wrap64 ((next' : Int) + 1)) left1 l (wrap64 (steps + 1)) bt371.2.1 bt371.2.2.1 bt371.2.2.2) else none) else none) else none) else none)) else none) else none)) (fun k => ?_) ?_
            · rw [warpref1_Pool.l3, if_neg (by omega)]
            · refine Ev.bind (f := fun k bt371 => _) hpick ?_
              refine Ev.congr (fun k => ?_) ih
              show (if 0 ≤ (i : Int) then _ else none) = _
              rw [if_pos (by omega), if_pos (by rw [hH.1]; omega), hrd, if_neg (by rw [b1]; exact hb), if_pos (by omega), if_pos (by omega), if_pos (by omega), if_pos (by omega), hq, hs, Int.toNat_natCast, wr64 (i := (next' : Int) + 1) (by omega) (by omega)]
              rfl
          · refine ⟨by rw [List.length_set]; exact hH.1, fun j hj => ?_⟩
            rw [getD_set75 ws i j _ (by rw [hH.1]; exact hi), getD_set_task T i j _ (by rw [o1]; exact hi)]
            by_cases e : j = i
            · rw [if_pos e, if_pos e, e, bit_or]
              simp
            · rw [if_neg e, if_neg e, bit_or, decide_eq_false (Ne.symm e), Bool.or_false]
              exact hH.2 j hj
    · rw [playL, if_neg c] at hp
      simp only [Option.some.injEq, Prod.mk.injEq] at hp
      obtain ⟨rfl, rfl⟩ := hp
      obtain ⟨o1, o2, o3, o4, o5⟩ := hO
      have hW := o3 (by omega)
      rw [hW] at o4
      have e : l.length = N := by
        simp [sumL] at o4
        omega
      refine Ev.step (f := fun _ => some (l, steps)) (fun k => ?_) (Ev.now _)
      rw [warpref1_Pool.l1, if_neg (by omega)]
theorem ref_l0 (x0 : List (List Int)) (a1 : Int) (L : List Int) (hx : x0.length ≤ 100000) (hB : ∀ x ∈ x0, x.length ≤ 17592186044416) (r : List S54 × Int) (h : Ev (fun k => warpref1_Pool.j1 k x0 a1 L (sumL x0 : Int) (decide (a1 < 1 ∨ a1 > 64 ∨ (sumL x0 : Int) > 4096))) r) :
    ∀ d i : Nat, i + d = x0.length → sumL (x0.take i) ≤ i * 17592186044416 → Ev (fun k => warpref1_Pool.l0 k x0 a1 L (sumL (x0.take i) : Int) (i : Int)) r
  | 0, i, hi, _ => by
    obtain rfl : i = x0.length := by omega
    rw [List.take_length]
    refine Ev.step (fun k => ?_) h
    rw [warpref1_Pool.l0, if_neg (by omega)]
    by_cases c1 : a1 < 1
    · rw [if_pos c1, decide_eq_true (.inl c1)]
    · rw [if_neg c1]
      by_cases c2 : a1 > 64
      · rw [if_pos c2, decide_eq_true (.inr (.inl c2))]
      · rw [if_neg c2]
        congr 1
        apply decide_eq_decide.2
        omega
  | d + 1, i, hi, hs => by
    have hlt : i < x0.length := by omega
    have hb := hB x0[i] (List.getElem_mem hlt)
    have e : sumL (x0.take (i + 1)) = sumL (x0.take i) + x0[i].length := by
      rw [List.take_succ_eq_append_getElem hlt]
      unfold sumL
      rw [List.map_append, List.sum_append]
      simp only [List.map_cons, List.map_nil, List.sum_cons, List.sum_nil, Nat.add_zero]
    have hrd : rd_L4 x0 (i : Int) = x0[i] := by
      unfold rd_L4
      rw [Int.toNat_natCast, List.getD_eq_getElem?_getD, List.getElem?_eq_getElem hlt, Option.getD_some]
    refine Ev.step (fun k => ?_) (ref_l0 x0 a1 L hx hB r h d (i + 1) (by omega) (by omega))
    rw [warpref1_Pool.l0, if_pos (by omega), if_pos (by omega), hrd, wr64 (by omega) (by omega), wr64 (by omega) (by omega), e]
    rfl
/-- the reference's Pool is the program's play -/
theorem ref_pool (x0 : List (List Int)) (a1 : Int) (L : List Int) (hL : L.length ≤ 1000000) (hx : x0.length ≤ 100000) (hB : ∀ x ∈ x0, x.length ≤ 17592186044416) : ∃ (r1 : List S54) (r2 : Int), pool_Play.f x0 a1 L = some (r1, r2) ∧ r1.length ≤ 4096 ∧ Ev (fun k => warpref1_Pool.f k x0 a1 L) (r1, r2) := by
  have hall : allS 0 x0 = (sumL x0 : Int) := by
    have := allS_eq x0 0 hB (by omega)
    rw [Nat.zero_add] at this
    exact this
  by_cases c : a1 < 1 ∨ a1 > 64 ∨ (sumL x0 : Int) > 4096
  · refine ⟨[], 0, ?_, Nat.zero_le _, ?_⟩
    · unfold pool_Play.f playF
      rw [hall, if_pos c]
    · refine ref_l0 x0 a1 L hx hB _ (Ev.step (f := fun _ => some ([], 0)) (fun k => ?_) (Ev.now _)) x0.length 0 (by omega) (Nat.zero_le _)
      rw [decide_eq_true c, warpref1_Pool.j1, if_pos rfl]
  · obtain ⟨n, rfl⟩ : ∃ n : Nat, a1 = (n : Int) := ⟨a1.toNat, by omega⟩
    obtain ⟨l', S', busy', T', hp, hO, hl, _⟩ := play_whole x0 n L (by omega) (by omega) (by omega) hB hx hL (fun _ _ _ _ _ => True) trivial (fun _ _ _ _ _ _ _ _ _ _ _ _ _ _ => trivial) (fun _ _ _ _ _ _ _ _ _ _ _ _ _ => trivial)
    refine ⟨l', _, hp, by have := hO.2.2.2.1; omega, ?_⟩
    unfold pool_Play.f playF at hp
    rw [hall, if_neg c, if_pos hL, Int.toNat_natCast, Int.toNat_natCast] at hp
    have h00 : cntB n 0 = 0 := by
      unfold cntB
      rw [cnt_same n _ (fun _ => false) (fun j _ => Nat.zero_testBit j)]
      simp [cnt]
    have hk := refill_keeps 0 x0 (-1) [] 0 rfl
    have hO0 : Ok n (sumL x0) (refillS x0 (-1) [] 0) 0 (List.replicate n (0, 0, 0)) [] 0 := by
      refine ⟨by simp, ?_, hk.2.1, ?_, ?_⟩
      · rw [h00]; exact hk.1
      · rw [h00]; have := hk.2.2; simp at this ⊢; omega
      · rw [h00]; have := hk.2.2; simp at this ⊢; omega
    have hB2 : ∀ x ∈ x0, x.length ≤ 4096 := fun x hx => by
      have : x.length ≤ sumL x0 := len_le_sum x0 x hx
      omega
    have ih := ref_l1 x0 n (sumL x0) L hL (by omega) (by omega) hx hB2 (by omega) l' _ _ x0 (-1) [] 0 0 _ 0 (-1) [] 0 0 0 (List.replicate n z75) ⟨by omega, Nat.zero_le _, rfl, fun _ => ⟨rfl, rfl⟩, fun h => by omega, Nat.zero_le _⟩ (by rw [h00]; rfl) ⟨by simp, fun i hi => by rw [Nat.zero_testBit]; simp [List.getD_eq_getElem?_getD, hi, z75]⟩ hO0 (Int.le_refl _) hp
    refine ref_l0 x0 (n : Int) L hx hB _ (Ev.step (fun k => ?_) ih) x0.length 0 (by omega) (Nat.zero_le _)
    rw [decide_eq_false c, warpref1_Pool.j1, if_neg (by simp), if_pos (by omega), if_pos (by rw [Int.toNat_natCast]; omega), Int.toNat_natCast]
    rfl
end Go.Proofs.YtbkdnenlffiaeaaDoor.P
