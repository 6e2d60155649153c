/-
Keys by numbers: what the helper makes of numbers, few and short. Condition: the numbers are bytes.
-/
import Derived.Test.YtmgfkdnoclmbgaaDoorTabN
import Derived.Test.YtmgfkdnoclmbgaaDoorPx6
namespace Go.Proofs.YtmgfkdnoclmbgaaDoor
open Go.RowKit Go.Proofs.YtmgfkdnoclmbgaaDoorW.PrintWords Go.Proofs.YtmgfkdnoclmbgaaDoorW.PrintLast Go.Proofs.YtmgfkdnoclmbgaaDoorW.PrintMore Go.Proofs.YtmgfkdnoclmbgaaDoor.P Go.Proofs.YtmgfkdnoclmbgaaDoor.Bits
set_option linter.unusedVariables false
def names3 : List ByteArray := [(⟨#[73, 110, 116]⟩ : ByteArray), (⟨#[45, 62]⟩ : ByteArray), (⟨#[44]⟩ : ByteArray)]
def keyS (n : Int) : S26 := ⟨rdOf ByteArray.empty names3 (Int.tmod (wrap64 n) 3), Int.tmod (wrap64 (Int.tdiv (wrap64 n) 3)) 4, Int.tmod (wrap64 (Int.tdiv (wrap64 n) 12)) 3⟩
def keysS (l : List (List Int)) : List (List S26) := (l.take 10).map fun x => (x.take 12).map keyS
abbrev U8 (l : List (List Int)) : Prop := l.length ≤ maxLen ∧ ∀ x ∈ l, (fun l : List Int => l.length ≤ maxLen ∧ ∀ x ∈ l, (fun n : Int => (Lit.int .u8 n).wf = true) x) x
theorem keyS_rng {n : Int} (h0 : 0 ≤ n) (h1 : n < 256) : 0 ≤ Int.tmod (wrap64 n) 3 ∧ Int.tmod (wrap64 n) 3 < 3 := by
  rw [wr64 (by omega) (by omega)]
  exact ⟨Int.tmod_nonneg _ h0, Int.tmod_lt_of_pos _ (by omega)⟩
theorem keyS_g {n : Int} (h0 : 0 ≤ n) (h1 : n < 256) : Gk (keyS n) := by
  refine ⟨?_, ?_, ?_⟩
  · have h : ∀ x ∈ names3, x.size ≤ 10 := by decide
    have hr := keyS_rng h0 h1
    have : rdOf ByteArray.empty names3 (Int.tmod (wrap64 n) 3) ∈ names3 := by
      unfold rdOf
      rw [List.getD_eq_getElem?_getD, List.getElem?_eq_getElem (show (Int.tmod (wrap64 n) 3).toNat < names3.length by show _ < 3; omega)]
      exact List.getElem_mem _
    have := h _ this
    show (rdOf ByteArray.empty names3 (Int.tmod (wrap64 n) 3)).size ≤ _
    omega
  · have a : 0 ≤ Int.tdiv n 3 ∧ Int.tdiv n 3 ≤ 256 := by rw [Int.tdiv_eq_ediv_of_nonneg h0]; omega
    have : (keyS n).f1 = Int.tmod (Int.tdiv n 3) 4 := by show Int.tmod (wrap64 (Int.tdiv (wrap64 n) 3)) 4 = _; rw [wr64 (i := n) (by omega) (by omega), wr64 (by omega) (by omega)]
    rw [this]
    have b := Int.tmod_nonneg 4 a.1
    have c := Int.tmod_lt_of_pos (Int.tdiv n 3) (show (0:Int) < 4 by omega)
    simp [Lit.wf, IntKind.min, IntKind.max, IntKind.bits, IntKind.signed]
    omega
  · have a : 0 ≤ Int.tdiv n 12 ∧ Int.tdiv n 12 ≤ 256 := by rw [Int.tdiv_eq_ediv_of_nonneg h0]; omega
    have : (keyS n).f2 = Int.tmod (Int.tdiv n 12) 3 := by show Int.tmod (wrap64 (Int.tdiv (wrap64 n) 12)) 3 = _; rw [wr64 (i := n) (by omega) (by omega), wr64 (by omega) (by omega)]
    rw [this]
    have b := Int.tmod_nonneg 3 a.1
    have c := Int.tmod_lt_of_pos (Int.tdiv n 12) (show (0:Int) < 3 by omega)
    simp [Lit.wf, IntKind.min, IntKind.max, IntKind.bits, IntKind.signed]
    omega
theorem keysS_len (l : List (List Int)) : (keysS l).length ≤ 10 ∧ ∀ x ∈ keysS l, x.length ≤ 12 := by
  refine ⟨by simp [keysS]; omega, fun x hx => ?_⟩
  obtain ⟨y, _, rfl⟩ := List.mem_map.1 hx
  simp; omega
theorem keysS_g (l : List (List Int)) (h : U8 l) : ∀ x ∈ keysS l, ∀ k ∈ x, Gk k := by
  intro x hx k hk
  obtain ⟨y, hy, rfl⟩ := List.mem_map.1 hx
  obtain ⟨n, hn, rfl⟩ := List.mem_map.1 hk
  have := u8_rng ((h.2 y (List.mem_of_mem_take hy)).2 n (List.mem_of_mem_take hn))
  exact keyS_g this.1 this.2
theorem sumK_le (c : Nat) : ∀ W : List (List S26), (∀ x ∈ W, x.length ≤ c) → sumK W ≤ W.length * c
  | [], _ => by simp [sumK]
  | x :: W, h => by
    have h1 := h x (List.mem_cons_self ..)
    have h2 := sumK_le c W fun y hy => h y (List.mem_cons_of_mem _ hy)
    have e : sumK (x :: W) = x.length + sumK W := by simp [sumK]
    rw [e, List.length_cons, Nat.add_mul]
    omega
theorem keysS_sum (l : List (List Int)) : sumK (keysS l) ≤ 120 := by
  have h := keysS_len l
  have := sumK_le 12 (keysS l) h.2
  have := Nat.mul_le_mul_right 12 h.1
  omega
theorem keys_l1 (l : List (List Int)) (hl : U8 l) (i : Nat) (hi : i < l.length) (out : List (List S26)) (ho : out.length ≤ 10) (r : List (List S26)) (h : Ev (fun k => warplaw8_Keys.l0 k l (out ++ [((l.getD i []).take 12).map keyS]) (wrap64 ((i : Int) + 1))) r) :
    ∀ (d j : Nat), j + d = 12 → Ev (fun k => warplaw8_Keys.l1 k l out (i : Int) (((l.getD i []).take j).map keyS) (j : Int)) r
  | 0, j, hj => by
    obtain rfl : j = 12 := by omega
    have e8 : rd_L8 l (i : Int) = l.getD i [] := by simp [rd_L8]
    by_cases c : ((12 : Nat) : Int) < ((l.getD i []).length : Int)
    · exact Ev.step (fun k => by rw [warplaw8_Keys.l1, if_pos (by omega), if_pos (by omega), e8, if_pos c, if_neg (by omega), if_pos (by omega)]) h
    · exact Ev.step (fun k => by rw [warplaw8_Keys.l1, if_pos (by omega), if_pos (by omega), e8, if_neg c, if_pos (by omega)]) h
  | d + 1, j, hj => by
    have e8 : rd_L8 l (i : Int) = l.getD i [] := by simp [rd_L8]
    have q4 : (j : Int) < 12 := by clear h ho; omega
    have q6 : (((l.getD i []).take j).map keyS).length < 4398046511104 := by
      rw [List.length_map, List.length_take]
      exact Nat.lt_of_le_of_lt (Nat.min_le_left _ _) (by clear h ho; omega)
    have hx : l.getD i [] ∈ l := by
      rw [List.getD_eq_getElem?_getD, List.getElem?_eq_getElem hi]; exact List.getElem_mem _
    have hu := (hl.2 _ hx).2
    by_cases c : j < (l.getD i []).length
    · have hm : (l.getD i []).getD j 0 ∈ l.getD i [] := by
        rw [List.getD_eq_getElem?_getD (l := l.getD i []), List.getElem?_eq_getElem c]; exact List.getElem_mem _
      have hr := u8_rng (hu _ hm)
      have hk := keyS_rng hr.1 hr.2
      have ih := keys_l1 l hl i hi out ho r h d (j + 1) (by omega)
      have erd : rd (l.getD i []) (j : Int) = (l.getD i []).getD j 0 := by simp [rd]
      have ew : wrap64 ((j : Int) + 1) = ((j + 1 : Nat) : Int) := by rw [wr64 (by omega) (by omega)]; omega
      have e : ((l.getD i []).take (j + 1)).map keyS = ((l.getD i []).take j).map keyS ++ [keyS ((l.getD i []).getD j 0)] := by
        rw [List.take_add_one, List.map_append, List.getElem?_eq_getElem c, List.getD_eq_getElem?_getD (l := l.getD i []), List.getElem?_eq_getElem c]
        rfl
      rw [e] at ih
      have q1 : (0 : Int) ≤ (i : Int) := Int.natCast_nonneg _
      have q2 : (i : Int) < (l.length : Int) := Int.ofNat_lt.2 hi
      have q3 : (j : Int) < ((l.getD i []).length : Int) := Int.ofNat_lt.2 c
      have q5 : (0 : Int) ≤ (j : Int) := Int.natCast_nonneg _
      have q7 : Int.tmod (wrap64 ((l.getD i []).getD j 0)) 3 < (([(⟨#[73, 110, 116]⟩ : ByteArray), (⟨#[45, 62]⟩ : ByteArray), (⟨#[44]⟩ : ByteArray)] : List ByteArray).length : Int) := hk.2
      refine Ev.step (fun k => ?_) ih
      rw [warplaw8_Keys.l1, if_pos q1, if_pos q2, e8, if_pos q3, if_pos q4, if_pos q5, Option.bind_some, erd, if_pos hk.1, if_pos q7, if_pos q6, ew]
      rfl
    · rw [List.take_of_length_le (by omega)] at h ⊢
      exact Ev.step (fun k => by rw [warplaw8_Keys.l1, if_pos (by omega), if_pos (by omega), e8, if_neg (by omega), if_pos (by omega)]) h
theorem keys_l0 (l : List (List Int)) (hl : U8 l) : ∀ (d i : Nat), i + d = 10 → Ev (fun k => warplaw8_Keys.l0 k l ((l.take i).map fun x => (x.take 12).map keyS) (i : Int)) (keysS l)
  | 0, i, hi => by
    obtain rfl : i = 10 := by omega
    have hl1 := hl.1
    have fin : Ev (fun k => warplaw8_Keys.j1 k l ((l.take 10).map fun x => (x.take 12).map keyS) ((10 : Nat) : Int) false) (keysS l) :=
      Ev.step (f := fun _ => some (keysS l)) (fun k => by rw [warplaw8_Keys.j1, if_neg (by decide)]; rfl) (Ev.now _)
    refine Ev.step (f := fun k => warplaw8_Keys.j1 k l ((l.take 10).map fun x => (x.take 12).map keyS) ((10 : Nat) : Int) false) (fun k => ?_) fin
    rw [warplaw8_Keys.l0]
    split
    · rfl
    · rfl
  | d + 1, i, hi => by
    by_cases c : i < l.length
    · have ih := keys_l0 l hl d (i + 1) (by omega)
      refine Ev.step (f := fun k => warplaw8_Keys.j1 k l ((l.take i).map fun x => (x.take 12).map keyS) (i : Int) true) (fun k => by rw [warplaw8_Keys.l0, if_pos (by omega), decide_eq_true (by omega)]) ?_
      refine Ev.step (fun k => by rw [warplaw8_Keys.j1, if_pos rfl]) ?_
      refine keys_l1 l hl i c _ (by simp; omega) _ ?_ 12 0 (by omega)
      rw [show wrap64 ((i : Int) + 1) = ((i + 1 : Nat) : Int) by rw [wr64 (by omega) (by omega)]; omega]
      have e : ((l.take (i + 1)).map fun x => (x.take 12).map keyS) = ((l.take i).map fun x => (x.take 12).map keyS) ++ [((l.getD i []).take 12).map keyS] := by
        rw [List.take_add_one, List.map_append, List.getElem?_eq_getElem c, List.getD_eq_getElem?_getD, List.getElem?_eq_getElem c]
        rfl
      rw [e] at ih
      exact ih
    · refine Ev.step (f := fun k => warplaw8_Keys.j1 k l ((l.take i).map fun x => (x.take 12).map keyS) (i : Int) false) (fun k => by rw [warplaw8_Keys.l0, if_neg (by omega)]) ?_
      refine Ev.step (fun k => by rw [warplaw8_Keys.j1, if_neg (by decide)]) ?_
      unfold keysS
      rw [List.take_of_length_le (by omega), List.take_of_length_le (by omega)]
      exact Ev.now _
theorem keys_ev (l : List (List Int)) (hl : U8 l) : Ev (fun k => warplaw8_Keys.f k l) (keysS l) := keys_l0 l hl 10 0 (by omega)
end Go.Proofs.YtmgfkdnoclmbgaaDoor
