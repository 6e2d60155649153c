/-
The plain statement of PlayLimits. Conditions: the three numbers are such as sixteen bits hold.
-/
import Derived.Test.YtmaiicpaalbcfaaDoorPx9
import Derived.Test.YtmaiicpaalbcfaaDoorPureB
namespace Go.Proofs.YtmaiicpaalbcfaaDoor.Pure
open Go.RowKit Go.Proofs.YtmaiicpaalbcfaaDoor.P Go.Proofs.YtmaiicpaalbcfaaDoorW.PrintWords Go.Proofs.YtmaiicpaalbcfaaDoorW.PrintLast Go.Proofs.YtmaiicpaalbcfaaDoor
set_option linter.unusedVariables false
theorem filt0 (n : Int) (m : Nat) : (List.replicate m z40).filter (validB n) = [] := by
  rw [List.filter_eq_nil_iff]
  intro x hx
  obtain rfl := List.eq_of_mem_replicate hx
  simp [validB, beginB, z40]
theorem going_none (L : List (List S40)) (h : ∀ x ∈ L, x = []) : ∀ i, goingTo L i = 0
  | 0 => rfl
  | i + 1 => by
    have : L.getD i [] = [] := by
      rw [List.getD_eq_getElem?_getD]
      cases hx : L[i]? with
      | none => rfl
      | some x => exact h x (List.mem_of_getElem? hx)
    rw [goingTo, if_pos this, going_none L h i]
theorem limits_play (e : Nat) (S : List (List S40)) (hS : ∀ x ∈ S, ∃ m, x = List.replicate m z40 ∧ m ≤ 1000000000000) (hl : S.length ≤ 1000000) (he : e ≤ 1000000) :
    play_Play.f (List.replicate e 0) S ([] : List Int) = some (if okS e S = true then ([], upS e, 0) else ([], [], 0)) := by
  unfold play_Play.f playF
  rw [if_pos ⟨by simpa using he, hl, by simp, fun x hx => by obtain ⟨m, rfl, hm⟩ := hS x hx; simpa using hm⟩, List.length_replicate]
  by_cases c : okS e S = true
  · rw [if_pos c, if_pos c, playL, if_pos (going_none _ (fun x hx => by
      obtain ⟨y, hy, rfl⟩ := List.mem_map.1 hx
      obtain ⟨m, rfl, _⟩ := hS y hy
      exact filt0 _ _) _)]
  · rw [if_neg c, if_neg c]
theorem allW_append (x : List S40) : ∀ (l : List (List S40)) (a : Int), allW a (l ++ [x]) = wrap64 (allW a l + (x.length : Int))
  | [], a => rfl
  | y :: l, a => allW_append x l _
theorem fin5 (e : Nat) (flag : Bool) (up : List Int) (hu : (up.length : Int) = if flag = true then 0 else (e : Int)) : Ev (fun k => warplaw5_PlayLimits.j5 k (e : Int) [] up 0 flag) true := by
  cases flag with
  | true =>
    rw [if_pos rfl] at hu
    exact Ev.step (fun k => by rw [warplaw5_PlayLimits.j5, if_pos rfl, if_pos (show (([] : List S42).length : Int) = 0 from rfl), if_pos hu, if_pos rfl]) (Ev.bind awake5 (Ev.now _))
  | false =>
    rw [if_neg (by decide)] at hu
    exact Ev.step (fun k => by rw [warplaw5_PlayLimits.j5, if_neg (by decide), if_pos (show (([] : List S42).length : Int) = 0 from rfl), if_pos hu, if_pos rfl]) (Ev.bind awake5 (Ev.now _))
/-- how many operations a worker has -/
def share (o w i : Nat) : Nat := if i = 0 then o - o / w * (w - 1) else o / w
def rowsTo (o w i : Nat) : List (List S40) := (List.range i).map fun j => List.replicate (share o w j) z40
theorem rowsTo_length (o w i : Nat) : (rowsTo o w i).length = i := by simp [rowsTo]
theorem rowsTo_succ (o w i : Nat) : rowsTo o w (i + 1) = rowsTo o w i ++ [List.replicate (share o w i) z40] := by simp [rowsTo, List.range_succ]
theorem share_le (o w i : Nat) : share o w i ≤ o := by
  unfold share
  split
  · omega
  · exact Nat.div_le_self _ _
theorem loop5 (e o w : Nat) (he : e < 5000) (ho : o < 6000) (hw : w < 70) : ∀ (d i : Nat), i + d = w →
    Ev (fun k => warplaw5_PlayLimits.l0 k (e : Int) (w : Int) (o : Int) (rowsTo o w i ++ List.replicate d []) (allW 0 (rowsTo o w i)) (i : Int)) true
  | 0, i, hi => by
    obtain rfl : i = w := by omega
    rw [List.replicate_zero, List.append_nil]
    have hp := limits_play e (rowsTo o i i) (fun x hx => by
      simp only [rowsTo, List.mem_map] at hx
      obtain ⟨j, _, rfl⟩ := hx
      exact ⟨_, rfl, by have := share_le o i j; omega⟩) (by rw [rowsTo_length]; omega) (by omega)
    have hok : okS (e : Int) (rowsTo o i i) = decide ((e : Int) ≤ 4096 ∧ (i : Int) ≤ 64 ∧ allW 0 (rowsTo o i i) ≤ 4096) := by unfold okS; rw [rowsTo_length]
    generalize allW 0 (rowsTo o i i) = a at *
    refine Ev.step (f := fun k => (play_Play.f (List.replicate (e : Int).toNat 0) (rowsTo o i i) ([] : List Int)).bind fun bt243 => (if (e : Int) > 4096 then (warplaw5_PlayLimits.j5 k e bt243.1 bt243.2.1 bt243.2.2 true) else (if (i : Int) > 64 then (warplaw5_PlayLimits.j5 k e bt243.1 bt243.2.1 bt243.2.2 true) else (warplaw5_PlayLimits.j5 k e bt243.1 bt243.2.1 bt243.2.2 (decide (a > 4096)))))) (fun k => by
      rw [warplaw5_PlayLimits.l0, if_neg (by omega), if_pos (by omega), if_pos (by omega)]) ?_
    rw [Int.toNat_natCast, hp]
    refine Ev.congr (fun k => Option.bind_some ..) ?_
    by_cases c : okS (e : Int) (rowsTo o i i) = true
    · rw [if_pos c]
      rw [hok] at c
      have c := of_decide_eq_true c
      refine Ev.congr (fun k => by rw [if_neg (by omega), if_neg (by omega), show decide (a > 4096) = false from decide_eq_false (by omega)]) (fin5 e false (upS e) (by simp [upS]))
    · rw [if_neg c]
      rw [hok] at c
      have c : ¬ ((e : Int) ≤ 4096 ∧ (i : Int) ≤ 64 ∧ a ≤ 4096) := fun h => c (decide_eq_true h)
      by_cases c1 : (e : Int) > 4096
      · exact Ev.congr (fun k => by rw [if_pos c1]) (fin5 e true [] (by simp))
      · by_cases c2 : (i : Int) > 64
        · exact Ev.congr (fun k => by rw [if_neg c1, if_pos c2]) (fin5 e true [] (by simp))
        · exact Ev.congr (fun k => by rw [if_neg c1, if_neg c2, show decide (a > 4096) = true from decide_eq_true (by omega)]) (fin5 e true [] (by simp))
  | d + 1, i, hi => by
    have ih := loop5 e o w he ho hw d (i + 1) (by omega)
    have hlen : (rowsTo o w i ++ List.replicate (d + 1) []).length = w := by rw [List.length_append, rowsTo_length, List.length_replicate]; omega
    have hset : ∀ x : List S40, (rowsTo o w i ++ List.replicate (d + 1) []).set i x = rowsTo o w i ++ [x] ++ List.replicate d [] := fun x => by
      rw [List.set_append_right _ _ (by rw [rowsTo_length]; exact Nat.le_refl _), rowsTo_length, Nat.sub_self, List.replicate_succ, List.set_cons_zero, List.append_assoc]; rfl
    have q1 : (i : Int) < (w : Int) := by omega
    have q2 : ¬ (w : Int) = 0 := by omega
    have hdiv : Int.tdiv (o : Int) (w : Int) = ((o / w : Nat) : Int) := rfl
    have hq : ∀ q : Nat, q ≤ o → wrap64 (q : Int) = (q : Int) := fun q hq => wr64 (by omega) (by omega)
    have hq2 : ∀ q : Nat, q ≤ o → wrap64 ((o : Int) - (q : Int)) = ((o - q : Nat) : Int) := fun q hq => by rw [wr64 (by omega) (by omega)]; omega
    have hd : wrap64 (Int.tdiv (o : Int) (w : Int)) = ((o / w : Nat) : Int) := by rw [hdiv]; exact hq _ (Nat.div_le_self o w)
    have hmul : o / w * (w - 1) ≤ o := Nat.le_trans (Nat.mul_le_mul_left _ (Nat.sub_le _ _)) (Nat.div_mul_le_self _ _)
    have hw1 : wrap64 ((w : Int) - 1) = ((w - 1 : Nat) : Int) := by rw [wr64 (by omega) (by omega)]; omega
    have hm : wrap64 (((o / w : Nat) : Int) * ((w - 1 : Nat) : Int)) = ((o / w * (w - 1) : Nat) : Int) := by
      rw [← Int.natCast_mul]; exact hq _ hmul
    have hs := hq2 _ hmul
    have hi1 : wrap64 ((i : Int) + 1) = ((i + 1 : Nat) : Int) := by rw [wr64 (by omega) (by omega)]; omega
    refine Ev.step (fun k => ?_) ih
    rw [warplaw5_PlayLimits.l0, if_pos q1, if_neg q2]
    by_cases c : i = 0
    · have hsh : share o w i = o - o / w * (w - 1) := by rw [share, if_pos c]
      rw [if_pos (show (i : Int) = 0 by rw [c]; rfl), hd, hw1, hm, hs, ← hsh]
      clear hm hs hmul hq hq2 hw1 hd hdiv hsh
      have := share_le o w i
      rw [if_pos (by omega), if_pos (by omega), if_pos (by omega), if_pos (by omega), Int.toNat_natCast, Int.toNat_natCast, hset, hi1, rowsTo_succ, allW_append, List.length_replicate]
    · have hsh : share o w i = o / w := by rw [share, if_neg c]
      rw [if_neg (show ¬ (i : Int) = 0 from fun h => c (Int.ofNat.inj h)), hd, ← hsh]
      clear hm hs hmul hq hq2 hw1 hd hdiv hsh
      have := share_le o w i
      rw [if_pos (by omega), if_pos (by omega), if_pos (by omega), if_pos (by omega), Int.toNat_natCast, Int.toNat_natCast, hset, hi1, rowsTo_succ, allW_append, List.length_replicate]
theorem from3 (e o w : Nat) (he : e < 5000) (ho : o < 6000) (hw : w < 70) : Ev (fun k => warplaw5_PlayLimits.j3 k (e : Int) (w : Int) (o : Int)) true :=
  Ev.step (fun k => by rw [warplaw5_PlayLimits.j3, if_pos (by omega), if_pos (by omega), Int.toNat_natCast]; rfl) (loop5 e o w he ho hw w 0 (by omega))
theorem from1 (e o w : Nat) (he : e < 5000) (ho : o < 6000) (hw : w < 70) : Ev (fun k => warplaw5_PlayLimits.j1 k (e : Int) (w : Int) (o : Int)) true := by
  have e40 := from3 e 40 w he (by omega) hw
  have eo := from3 e o w he ho hw
  by_cases c : (o : Int) > 40
  · by_cases c2 : (o : Int) ≤ 4096
    · exact Ev.step (f := fun k => warplaw5_PlayLimits.j2 k (e : Int) (w : Int) (o : Int) true) (fun k => by rw [warplaw5_PlayLimits.j1, if_pos c, decide_eq_true c2]) (Ev.step (fun k => by rw [warplaw5_PlayLimits.j2, if_pos rfl]; rfl) e40)
    · exact Ev.step (f := fun k => warplaw5_PlayLimits.j2 k (e : Int) (w : Int) (o : Int) false) (fun k => by rw [warplaw5_PlayLimits.j1, if_pos c, decide_eq_false c2]) (Ev.step (fun k => by rw [warplaw5_PlayLimits.j2, if_neg (by decide)]) eo)
  · exact Ev.step (f := fun k => warplaw5_PlayLimits.j2 k (e : Int) (w : Int) (o : Int) false) (fun k => by rw [warplaw5_PlayLimits.j1, if_neg c]) (Ev.step (fun k => by rw [warplaw5_PlayLimits.j2, if_neg (by decide)]) eo)
theorem less_of {a m : Int} (h : (Lit.int .u16 a).wf = true) (hm : 0 < m) : ∃ n : Nat, Int.tmod (wrap64 a) m = (n : Int) ∧ (n : Int) < m := by
  have ha : 0 ≤ a ∧ a < 65536 := by
    have h2 : IntKind.u16.min ≤ a ∧ a ≤ IntKind.u16.max := by simpa [Lit.wf] using h
    have e1 : IntKind.u16.min = 0 := rfl
    have e2 : IntKind.u16.max = 65535 := rfl
    omega
  rw [wr64 (by omega) (by omega), Int.tmod_eq_emod_of_nonneg ha.1]
  exact ⟨(a % m).toNat, (Int.toNat_of_nonneg (Int.emod_nonneg _ (by omega))).symm, by rw [Int.toNat_of_nonneg (Int.emod_nonneg _ (by omega))]; exact Int.emod_lt_of_pos _ hm⟩
theorem PlayLimits : warplaw5_PlayLimits.Pure := by
  intro a0 a1 a2 g0 g1 g2
  obtain ⟨e, he, he2⟩ := less_of (m := 5000) g0 (by decide)
  obtain ⟨w, hw, hw2⟩ := less_of (m := 70) g1 (by decide)
  obtain ⟨o, ho, ho2⟩ := less_of (m := 6000) g2 (by decide)
  have e64 := from1 64 o w (by omega) (by omega) (by omega)
  have ee := from1 e o w (by omega) (by omega) (by omega)
  refine Ev.rounds ?_
  unfold warplaw5_PlayLimits.f
  rw [he, hw, ho]
  by_cases c : (e : Int) > 64
  · by_cases c2 : (e : Int) ≤ 4096
    · exact Ev.congr (fun k => by rw [if_pos c, decide_eq_true c2]) (Ev.step (f := fun k => warplaw5_PlayLimits.j1 k 64 (w : Int) (o : Int)) (fun k => by rw [warplaw5_PlayLimits.j0, if_pos rfl]) e64)
    · exact Ev.congr (fun k => by rw [if_pos c, decide_eq_false c2]) (Ev.step (f := fun k => warplaw5_PlayLimits.j1 k (e : Int) (w : Int) (o : Int)) (fun k => by rw [warplaw5_PlayLimits.j0, if_neg (by decide)]) ee)
  · exact Ev.congr (fun k => by rw [if_neg c]) (Ev.step (f := fun k => warplaw5_PlayLimits.j1 k (e : Int) (w : Int) (o : Int)) (fun k => by rw [warplaw5_PlayLimits.j0, if_neg (by decide)]) ee)
end Go.Proofs.YtmaiicpaalbcfaaDoor.Pure
