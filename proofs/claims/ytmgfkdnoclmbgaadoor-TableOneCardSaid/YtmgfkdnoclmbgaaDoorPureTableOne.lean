/-
The plain law of TableOne: no condition beside those named in each theorem.
-/
import Derived.Test.YtmgfkdnoclmbgaaDoorTabR
import Derived.Test.YtmgfkdnoclmbgaaDoorPx15
namespace Go.Proofs.YtmgfkdnoclmbgaaDoor.Pure
open Go.RowKit Go.Proofs.YtmgfkdnoclmbgaaDoorW.PrintWords Go.Proofs.YtmgfkdnoclmbgaaDoorW.PrintLast Go.Proofs.YtmgfkdnoclmbgaaDoorW.PrintMore Go.Proofs.YtmgfkdnoclmbgaaDoor.P Go.Proofs.YtmgfkdnoclmbgaaDoor
set_option linter.unusedVariables false
theorem rd26 (m : List S26) (i : Nat) (h : i < m.length) : rd_T26 m (i : Int) = m[i] := by
  simp [rd_T26, List.getD_eq_getElem?_getD, h]
theorem ints_l0 (l : List Int) (hl : l.length ≤ 1000000) : ∀ d i : Nat, i + d = l.length → Ev (fun k => warpref1_Ints.l0 k l l (i : Int)) true
  | 0, i, hi => Ev.step (fun k => by rw [warpref1_Ints.l0, if_neg (by omega)]) (Ev.now _)
  | d + 1, i, hi => by
    have ih := ints_l0 l hl d (i + 1) (by omega)
    refine Ev.step (fun k => ?_) ih
    rw [warpref1_Ints.l0, if_pos (by omega), if_pos (by omega), if_pos (by omega), if_pos rfl, wr64 (by omega) (by omega)]
    rfl
theorem ints_same (l : List Int) (hl : l.length ≤ 1000000) : Ev (fun k => warpref1_Ints.f k l l) true := by
  refine Ev.congr (fun k => ?_) (ints_l0 l hl l.length 0 (by omega))
  rw [warpref1_Ints.f, if_pos rfl]
  rfl
/-- the first of each -/
def stp {α : Type} [DecidableEq α] (a : List α) (k : α) : List α := if k ∈ a then a else a ++ [k]
def fs {α : Type} [DecidableEq α] (l : List α) : List α := l.foldl stp []
theorem fs_snoc {α : Type} [DecidableEq α] (l : List α) (k : α) : fs (l ++ [k]) = stp (fs l) k := by simp [fs]
theorem fs_take {α : Type} [DecidableEq α] (l : List α) (i : Nat) (h : i < l.length) : fs (l.take (i + 1)) = stp (fs (l.take i)) l[i] := by
  rw [List.take_add_one, List.getElem?_eq_getElem h]
  exact fs_snoc _ _
theorem fs_pre {α : Type} [DecidableEq α] (l : List α) (d i : Nat) : ∃ m, fs (l.take (i + d)) = fs (l.take i) ++ m := by
  induction d with
  | zero => exact ⟨[], by simp⟩
  | succ d ih =>
    obtain ⟨m, hm⟩ := ih
    by_cases h : i + d < l.length
    · rw [← Nat.add_assoc, fs_take l (i + d) h, hm]
      unfold stp
      split
      · exact ⟨m, rfl⟩
      · exact ⟨m ++ [l[i + d]], by simp⟩
    · exact ⟨m, by rw [List.take_of_length_le (by omega), ← hm, List.take_of_length_le (by omega)]⟩
theorem fs_len {α : Type} [DecidableEq α] (l : List α) : (fs l).length ≤ l.length := by
  have : ∀ (l : List α) (a : List α), (l.foldl stp a).length ≤ a.length + l.length := by
    intro l
    induction l with
    | nil => intro a; simp
    | cons x l ih =>
      intro a
      have := ih (stp a x)
      rw [List.foldl_cons, List.length_cons]
      have h2 : (stp a x).length ≤ a.length + 1 := by unfold stp; split <;> simp
      omega
  have h := this l []
  rw [List.length_nil, Nat.zero_add] at h
  exact h
def keyI (a : Int) : S26 := ⟨⟨#[107]⟩, a, 0⟩
theorem keyI_inj {a b : Int} (h : keyI a = keyI b) : a = b := congrArg S26.f1 h
theorem fs_map (l : List Int) : fs (l.map keyI) = (fs l).map keyI := by
  have : ∀ (l a : List Int), (l.map keyI).foldl stp (a.map keyI) = (l.foldl stp a).map keyI := by
    intro l
    induction l with
    | nil => intro a; rfl
    | cons x l ih =>
      intro a
      rw [List.map_cons, List.foldl_cons, List.foldl_cons, ← ih]
      congr 1
      unfold stp
      by_cases c : x ∈ a
      · rw [if_pos c, if_pos (List.mem_map_of_mem c)]
      · rw [if_neg c, if_neg (fun h => by obtain ⟨y, hy, e⟩ := List.mem_map.1 h; exact c (keyI_inj e ▸ hy)), List.map_append]
        rfl
  exact this l []
section
variable (L : List Int) (got : List (List Int)) (keys : List S26) (hL : L.length ≤ 1000) (hg : 0 < got.length) (hg0 : (got.getD 0 []).length = L.length)
theorem rdL (i : Nat) (h : i < L.length) : (rd_T26 (L.map keyI) (i : Int)).f1 = L.getD i 0 := by
  rw [rd26 _ i (by simpa using h), List.getElem_map, List.getD_eq_getElem?_getD, List.getElem?_eq_getElem h]
  rfl
theorem one_j6 (sn : List Int) (i k : Nat) (hi : i < L.length) (he : (got.getD 0 []).getD i 0 = (k : Int)) (hg : 0 < got.length) (hg0 : (got.getD 0 []).length = L.length) (hL : L.length ≤ 1000) (h : Ev (fun g => warplaw8_TableOne.l1 g (L.map keyI) got keys sn ((i + 1 : Nat) : Int)) true) :
    Ev (fun g => warplaw8_TableOne.j6 g (L.map keyI) got keys sn (i : Int) (k : Int)) true := by
  have e4 : rd_L4 got 0 = got.getD 0 [] := by simp [rd_L4]
  have er : rd (got.getD 0 []) (i : Int) = (got.getD 0 []).getD i 0 := by simp [rd]
  exact Ev.step (fun g => by rw [warplaw8_TableOne.j6, if_pos (by omega), if_pos (by omega), e4, if_pos (by omega), er, if_pos he, show wrap64 ((i : Int) + 1) = ((i + 1 : Nat) : Int) by rw [wr64 (by omega) (by omega)]; omega]) h
theorem one_j5 (sn : List Int) (i : Nat) (hi : i < L.length) (hs : sn.length ≤ 1000) (h : Ev (fun g => warplaw8_TableOne.j6 g (L.map keyI) got keys (stp sn (L.getD i 0)) (i : Int) ((sn.idxOf (L.getD i 0) : Nat) : Int)) true) :
    Ev (fun g => warplaw8_TableOne.j5 g (L.map keyI) got keys sn (i : Int) ((sn.idxOf (L.getD i 0) : Nat) : Int)) true := by
  refine Ev.step (fun g => ?_) h
  rw [warplaw8_TableOne.j5]
  by_cases c : L.getD i 0 ∈ sn
  · have := List.idxOf_lt_length_of_mem c
    rw [if_neg (by omega)]
    unfold stp
    rw [if_pos c]
  · have : sn.idxOf (L.getD i 0) = sn.length := List.idxOf_eq_length c
    rw [if_pos (by omega), if_pos (by omega), if_pos (by simp; omega), if_pos (by omega), rdL L i hi]
    unfold stp
    rw [if_neg c]
theorem one_l2 (sn : List Int) (i : Nat) (hi : i < L.length) (hs : sn.length ≤ 1000) (hL : L.length ≤ 1000) (h : Ev (fun g => warplaw8_TableOne.j5 g (L.map keyI) got keys sn (i : Int) ((sn.idxOf (L.getD i 0) : Nat) : Int)) true) :
    ∀ d j : Nat, j + d = sn.idxOf (L.getD i 0) → Ev (fun g => warplaw8_TableOne.l2 g (L.map keyI) got keys sn (i : Int) (j : Int)) true
  | 0, j, hj => by
    have hj2 : j = sn.idxOf (L.getD i 0) := by omega
    rw [← hj2] at h
    refine Ev.step (fun g => ?_) h
    rw [warplaw8_TableOne.l2]
    by_cases c : j < sn.length
    · have er : rd sn (j : Int) = L.getD i 0 := by
        have : sn[sn.idxOf (L.getD i 0)]'(hj2 ▸ c) = L.getD i 0 := List.getElem_idxOf _
        rw [show rd sn (j : Int) = sn.getD j 0 by simp [rd], hj2, List.getD_eq_getElem?_getD, List.getElem?_eq_getElem (hj2 ▸ c), Option.getD_some, this]
      rw [if_pos (by omega), if_pos (by omega), if_pos (by omega), if_pos (by simp; omega), er, rdL L i hi, if_pos rfl]
    · rw [if_neg (by omega)]
  | d + 1, j, hj => by
    have ih := one_l2 sn i hi hs hL h d (j + 1) (by omega)
    have hlt : j < sn.idxOf (L.getD i 0) := by omega
    have hle : sn.idxOf (L.getD i 0) ≤ sn.length := List.idxOf_le_length
    have hjl : j < sn.length := by omega
    have hne : sn.getD j 0 ≠ L.getD i 0 := by
      have := List.not_of_lt_findIdx (p := (· == L.getD i 0)) (xs := sn) (i := j) hlt
      rw [List.getD_eq_getElem?_getD, List.getElem?_eq_getElem hjl]
      simpa using this
    have er : rd sn (j : Int) = sn.getD j 0 := by simp [rd]
    refine Ev.step (fun g => ?_) ih
    rw [warplaw8_TableOne.l2, if_pos (by omega), if_pos (by omega), if_pos (by omega), if_pos (by simp; omega), er, rdL L i hi, if_neg hne, show wrap64 ((j : Int) + 1) = ((j + 1 : Nat) : Int) by rw [wr64 (by omega) (by omega)]; omega]
theorem one_l1 (hL : L.length ≤ 1000) (hg : 0 < got.length) (hg0 : (got.getD 0 []).length = L.length) (hk : keys.length = (fs L).length) (he : ∀ i, i < L.length → (got.getD 0 []).getD i 0 = (((fs (L.take i)).idxOf (L.getD i 0) : Nat) : Int)) :
    ∀ d i : Nat, i + d = L.length → Ev (fun g => warplaw8_TableOne.l1 g (L.map keyI) got keys (fs (L.take i)) (i : Int)) true
  | 0, i, hi => by
    have hi2 : i = L.length := by omega
    have e4 : rd_L4 got 0 = got.getD 0 [] := by simp [rd_L4]
    have hsame := ints_same (got.getD 0 []) (by omega)
    have fin : Ev (fun k => (warpref1_Ints.f k (got.getD 0 []) (got.getD 0 [])).bind fun t151 => if t151 = true then ((warplaw8_awake.f k).bind fun t152 => some t152) else some false) true := by
      refine Ev.bind (f := fun k t151 => if t151 = true then ((warplaw8_awake.f k).bind fun t152 => some t152) else some false) hsame ?_
      exact Ev.congr (fun k => if_pos rfl) (Ev.bind awake8 (Ev.now _))
    refine Ev.step (fun g => ?_) fin
    rw [warplaw8_TableOne.l1, if_neg (by simp; omega), hi2, List.take_length, if_pos (by omega), if_pos (by omega), e4]
  | d + 1, i, hi => by
    have hlt : i < L.length := by omega
    have ih := one_l1 hL hg hg0 hk he d (i + 1) (by omega)
    have hs : (fs (L.take i)).length ≤ 1000 := Nat.le_trans (fs_len _) (by simp; omega)
    have eg : L[i] = L.getD i 0 := by rw [List.getD_eq_getElem?_getD, List.getElem?_eq_getElem hlt]; rfl
    rw [fs_take L i hlt, eg] at ih
    have h6 := one_j6 L got keys _ i _ hlt (he i hlt) hg hg0 hL ih
    have h5 := one_j5 L got keys _ i hlt hs h6
    have h2 := one_l2 L got keys _ i hlt hs hL h5 _ 0 (Nat.zero_add _)
    exact Ev.step (fun g => by rw [warplaw8_TableOne.l1, if_pos (by simp; omega)]; rfl) h2
end
/-- the keys stand in the order in which they came -/
def InOrder (l0 : List (List S26)) (got : List (List Int)) (keys : List S26) : Prop :=
  keys = fs ((l0.getD 0 []).take (got.getD 0 []).length) ∧ ∀ p, p < (got.getD 0 []).length → ∀ k, (l0.getD 0 [])[p]? = some k → (got.getD 0 []).getD p 0 = (((fs ((l0.getD 0 []).take p)).idxOf k : Nat) : Int)
theorem one_play (l : List S26) (stripes : Int) (P : List Int) (hl : l.length ≤ 60) (hg : ∀ k ∈ l, Gk k) (hP : P.length ≤ 1000000) :
    ∃ got keys, table_Play.f [l] 100 stripes P = some (got, keys, 3 * (l.length : Int), 0) ∧ got.length = 1 ∧ (got.getD 0 []).length = l.length ∧ keys = fs l ∧ ∀ p, p < l.length → ∀ k, l[p]? = some k → (got.getD 0 []).getD p 0 = (((fs (l.take p)).idxOf k : Nat) : Int) := by
  have hs : sumK [l] = l.length := by simp [sumK]
  obtain ⟨L', st', got', keys', h1, h2, h3, h4⟩ := tab_whole [l] 100 stripes P (by simp) (by rw [hs]; omega) (fun x hx k hk => by rw [List.mem_singleton] at hx; exact hg k (hx ▸ hk)) hP (fun L st got keys held => Told 1 100 [l] L got keys ∧ InOrder [l] got keys) ⟨Told.start 100 [l], rfl, fun p hp => by cases hp⟩
    (fun L st got keys held steps i k r hO hi hl hs hh hI => hI)
    (fun L st got keys held steps i k r hO hi hr hs1 hI => by
      have hi0 : i = 0 := by simpa using hi
      subst hi0
      have hi3 : 0 < got.length := by rw [hO.len3]; exact Nat.one_pos
      refine ⟨hI.1.look hO 0 hi k r hr hs1, ?_⟩
      have ht := hO.told 0 hi
      rw [hs1, if_neg (by decide)] at ht
      have hre := hI.1.rest 0 (by omega)
      rw [hr] at hre ht
      have hd := drop_head hre.1
      have hp : (([l] : List (List S26)).getD 0 []).length - (k :: r).length = (got.getD 0 []).length := by omega
      rw [hp] at hd
      obtain ⟨o1, o2⟩ := hI.2
      have hlt : (got.getD 0 []).length < l.length := by
        have := (List.getElem?_eq_some_iff.1 hd.1).1
        exact this
      have hkl : l[(got.getD 0 []).length] = k := by
        have := hd.1
        rw [show ([l] : List (List S26)).getD 0 [] = l from rfl, List.getElem?_eq_getElem hlt] at this
        injection this
      have ek : (indexS 100 keys k).2 = stp keys k ∧ (indexS 100 keys k).1 = ((keys.idxOf k : Nat) : Int) := by
        unfold indexS stp
        by_cases c : k ∈ keys
        · rw [if_pos c, if_pos c]; exact ⟨rfl, rfl⟩
        · have : keys.length ≤ l.length := by have := hO.few; rw [hs] at this; omega
          rw [if_neg c, if_neg c, if_neg (by omega)]
          exact ⟨rfl, by rw [List.idxOf_eq_length c]⟩
      refine ⟨?_, fun p hp2 k2 hk2 => ?_⟩
      · rw [ek.1, getD_set_any got 0 0 _ [] hi3, if_pos rfl, List.length_append, List.length_singleton, o1]
        rw [show ([l] : List (List S26)).getD 0 [] = l from rfl, fs_take l _ hlt, hkl]
      · rw [getD_set_any got 0 0 _ [] hi3, if_pos rfl] at hp2 ⊢
        rw [List.length_append, List.length_singleton] at hp2
        by_cases c : p < (got.getD 0 []).length
        · rw [getD_app _ _ _ _ c]
          exact o2 p c k2 hk2
        · have e : p = (got.getD 0 []).length := by omega
          rw [e] at hk2 ⊢
          rw [hd.1] at hk2
          injection hk2 with hk2
          rw [List.getD_eq_getElem?_getD (l := _ ++ _), List.getElem?_append_right (Nat.le_refl _), Nat.sub_self, ← hk2]
          show (indexS 100 keys k).1 = _
          rw [ek.2, o1])
    (fun L st got keys held steps i k r hO hi hr hs1 hI => ⟨hI.1.leave hO i hi k r hr, hI.2⟩)
  have ht := h2.told 0 (by simp)
  rw [h3 0 (by simp)] at ht
  have hz : st'.getD 0 0 = 0 := by
    rcases h2.three 0 (by simp) with h | h | h
    · exact h
    · exact absurd (h3 0 (by simp)) h.2
    · exact absurd (h3 0 (by simp)) h.2
  rw [hz, if_neg (by decide)] at ht
  have hl0 : (got'.getD 0 []).length = l.length := by simpa using ht
  refine ⟨got', keys', by rw [h1, hs], by rw [h2.len3]; rfl, hl0, ?_, fun p hp k hk => h4.2.2 p (by omega) k hk⟩
  rw [h4.2.1, hl0]
  show fs (l.take l.length) = _
  rw [List.take_length]
theorem TableOne : warplaw8_TableOne.Pure := by
  intro l0 a1 l2 g0 g1 g2
  refine Ev.rounds ?_
  have big : Ev (fun k => warplaw8_TableOne.j0 k l0 a1 l2 true) true :=
    Ev.step (f := fun g => (warplaw8_awake.f g).bind fun t124 => some t124) (fun g => by rw [warplaw8_TableOne.j0, if_pos rfl]) (Ev.bind awake8 (Ev.now _))
  by_cases c : (l0.length : Int) > 60
  · exact Ev.congr (fun k => by rw [warplaw8_TableOne.f, if_pos c]) big
  · refine Ev.congr (f := fun k => warplaw8_TableOne.j0 k l0 a1 l2 (decide ((l2.length : Int) > 200))) (fun k => by rw [warplaw8_TableOne.f, if_neg c]) ?_
    by_cases c2 : (l2.length : Int) > 200
    · rw [decide_eq_true c2]; exact big
    · rw [decide_eq_false c2]
      have hrng : ∀ n ∈ l0, 0 ≤ Int.tmod (wrap64 n) 11 ∧ Int.tmod (wrap64 n) 11 < 11 := fun n hn => by
        have := u8_rng (g0.2 n hn)
        rw [wr64 (by omega) (by omega)]
        exact ⟨Int.tmod_nonneg _ this.1, Int.tmod_lt_of_pos _ (by omega)⟩
      let A : List Int := l0.map fun n => Int.tmod (wrap64 n) 11
      have hA : A.length = l0.length := by simp [A]
      have hgk : ∀ k ∈ A.map keyI, Gk k := fun k hk => by
        obtain ⟨a, ha, rfl⟩ := List.mem_map.1 hk
        obtain ⟨n, hn, rfl⟩ := List.mem_map.1 ha
        have := hrng n hn
        refine ⟨by show (1 : Nat) ≤ _; decide, ?_, show (Lit.int .i64 0).wf = true by decide⟩
        show (Lit.int .i64 (Int.tmod (wrap64 n) 11)).wf = true
        simp [Lit.wf, IntKind.min, IntKind.max, IntKind.bits, IntKind.signed]
        omega
      obtain ⟨got, keys, e1, x1, x2, x3, x4⟩ := one_play (A.map keyI) (wrap64 a1) l2 (by simp; omega) hgk (by omega)
      rw [List.length_map] at x2 e1
      have f1 := one_l1 A got keys (by omega) (by omega) x2 (by rw [x3, fs_map, List.length_map]) (fun i hi => by
        have := x4 i (by simpa using hi) (keyI (A.getD i 0)) (by rw [List.getElem?_map, List.getElem?_eq_getElem hi, List.getD_eq_getElem?_getD, List.getElem?_eq_getElem hi]; rfl)
        rw [this, ← List.map_take, fs_map]
        congr 1
        unfold List.idxOf
        rw [List.findIdx_map]
        congr 1
        funext x
        show (keyI x == keyI (A.getD i 0)) = (x == A.getD i 0)
        rw [Bool.eq_iff_iff, beq_iff_eq, beq_iff_eq]
        exact ⟨keyI_inj, fun h => by rw [h]⟩) A.length 0 (by omega)
      have fj : Ev (fun g => warplaw8_TableOne.j2 g (A.map keyI) got keys ((0 : Int) != 0)) true :=
        Ev.step (fun g => by rw [warplaw8_TableOne.j2, if_neg (by decide)]; rfl) f1
      -- the first loop
      have loop : ∀ d i : Nat, i + d = l0.length → Ev (fun g => warplaw8_TableOne.l0 g l0 a1 l2 ((A.take i).map keyI) (i : Int)) true := by
        intro d
        induction d with
        | zero =>
          intro i hi
          refine Ev.step (fun g => ?_) fj
          have hm : (A.map keyI).length = A.length := List.length_map ..
          rw [warplaw8_TableOne.l0, if_neg (by omega), List.take_of_length_le (by omega), e1]
          refine (Option.bind_some ..).trans ?_
          have e4 : rd_L4 got 0 = got.getD 0 [] := by simp [rd_L4]
          dsimp only
          rw [if_pos (by omega), if_pos (by omega), e4, if_pos (by rw [x2, hm]), if_pos (by rw [hm, wr64 (by omega) (by omega)])]
        | succ d ih =>
          intro i hi
          have hlt : i < l0.length := by omega
          have e : (A.take (i + 1)).map keyI = (A.take i).map keyI ++ [keyI (Int.tmod (wrap64 (l0.getD i 0)) 11)] := by
            rw [List.take_add_one, List.map_append, List.getElem?_eq_getElem (by omega), List.getD_eq_getElem?_getD, List.getElem?_eq_getElem hlt]
            simp [A]
          have h := ih (i + 1) (by omega)
          rw [e] at h
          have er : rd l0 (i : Int) = l0.getD i 0 := by simp [rd]
          have q6 : ((A.take i).map keyI).length < 4398046511104 := by
            rw [List.length_map, List.length_take]
            exact Nat.lt_of_le_of_lt (Nat.min_le_left _ _) (by omega)
          refine Ev.step (fun g => ?_) h
          rw [warplaw8_TableOne.l0, if_pos (by omega), if_pos (by omega), if_pos q6, er, show wrap64 ((i : Int) + 1) = ((i + 1 : Nat) : Int) by rw [wr64 (by omega) (by omega)]; omega]
          rfl
      exact Ev.step (fun g => by rw [warplaw8_TableOne.j0, if_neg (by decide)]; rfl) (loop l0.length 0 (by omega))
end Go.Proofs.YtmgfkdnoclmbgaaDoor.Pure
