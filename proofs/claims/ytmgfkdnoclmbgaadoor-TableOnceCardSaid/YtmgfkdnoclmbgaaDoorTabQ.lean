/-
The document's example answers true; keys by numbers: what comes of them, and that these are few. What the plain play of the table keeps: each entry tells the place of its key, or there is no room; keys are there once. Condition: the limits hold.
-/
import Derived.Test.YtmgfkdnoclmbgaaDoorTabP
import Derived.Test.YtmgfkdnoclmbgaaDoorPx3
import Derived.Test.YtmgfkdnoclmbgaaDoorPx6
namespace Go.Proofs.YtmgfkdnoclmbgaaDoor
open Go.RowKit Go.Proofs.YtmgfkdnoclmbgaaDoorW.PrintWords Go.Proofs.YtmgfkdnoclmbgaaDoorW.PrintLast Go.Proofs.YtmgfkdnoclmbgaaDoorW.PrintMore Go.Proofs.YtmgfkdnoclmbgaaDoor.P Go.Proofs.YtmgfkdnoclmbgaaDoor.Bits
set_option linter.unusedVariables false
theorem awake_play : warplaw8_awake.f 10 = some true := by kernel_rfl
theorem awake8 : Ev (fun k => warplaw8_awake.f k) true := Ev.of (fun k => warplaw8_awake.mono k) awake_play
def names3 : List ByteArray := [(⟨#[73, 110, 116]⟩ : ByteArray), (⟨#[45, 62]⟩ : ByteArray), (⟨#[44]⟩ : ByteArray)]
def keyS (n : Int) : S26 := ⟨rdOf ByteArray.empty names3 (Int.tmod (wrap64 n) 3), Int.tmod (wrap64 (Int.tdiv (wrap64 n) 3)) 4, Int.tmod (wrap64 (Int.tdiv (wrap64 n) 12)) 3⟩
def keysS (l : List (List Int)) : List (List S26) := (l.take 10).map fun x => (x.take 12).map keyS
abbrev U8 (l : List (List Int)) : Prop := l.length ≤ maxLen ∧ ∀ x ∈ l, (fun l : List Int => l.length ≤ maxLen ∧ ∀ x ∈ l, (fun n : Int => (Lit.int .u8 n).wf = true) x) x
theorem u8_rng {n : Int} (h : (Lit.int .u8 n).wf = true) : 0 ≤ n ∧ n < 256 := by
  simp [Lit.wf, IntKind.min, IntKind.max, IntKind.bits, IntKind.signed] at h
  omega
theorem keyS_rng {n : Int} (h0 : 0 ≤ n) (h1 : n < 256) : 0 ≤ Int.tmod (wrap64 n) 3 ∧ Int.tmod (wrap64 n) 3 < 3 := by
  rw [wr64 (by omega) (by omega)]
  exact ⟨Int.tmod_nonneg _ h0, Int.tmod_lt_of_pos _ (by omega)⟩
theorem keyS_g {n : Int} (h0 : 0 ≤ n) (h1 : n < 256) : Gk (keyS n) := by
  refine ⟨?_, ?_, ?_⟩
  · have h : ∀ x ∈ names3, x.size ≤ 10 := by decide
    have hr := keyS_rng h0 h1
    have : rdOf ByteArray.empty names3 (Int.tmod (wrap64 n) 3) ∈ names3 := by
      unfold rdOf
      rw [List.getD_eq_getElem?_getD, List.getElem?_eq_getElem (show (Int.tmod (wrap64 n) 3).toNat < names3.length by show _ < 3; omega)]
      exact List.getElem_mem _
    have := h _ this
    show (rdOf ByteArray.empty names3 (Int.tmod (wrap64 n) 3)).size ≤ _
    omega
  · have a : 0 ≤ Int.tdiv n 3 ∧ Int.tdiv n 3 ≤ 256 := by rw [Int.tdiv_eq_ediv_of_nonneg h0]; omega
    have : (keyS n).f1 = Int.tmod (Int.tdiv n 3) 4 := by show Int.tmod (wrap64 (Int.tdiv (wrap64 n) 3)) 4 = _; rw [wr64 (i := n) (by omega) (by omega), wr64 (by omega) (by omega)]
    rw [this]
    have b := Int.tmod_nonneg 4 a.1
    have c := Int.tmod_lt_of_pos (Int.tdiv n 3) (show (0:Int) < 4 by omega)
    simp [Lit.wf, IntKind.min, IntKind.max, IntKind.bits, IntKind.signed]
    omega
  · have a : 0 ≤ Int.tdiv n 12 ∧ Int.tdiv n 12 ≤ 256 := by rw [Int.tdiv_eq_ediv_of_nonneg h0]; omega
    have : (keyS n).f2 = Int.tmod (Int.tdiv n 12) 3 := by show Int.tmod (wrap64 (Int.tdiv (wrap64 n) 12)) 3 = _; rw [wr64 (i := n) (by omega) (by omega), wr64 (by omega) (by omega)]
    rw [this]
    have b := Int.tmod_nonneg 3 a.1
    have c := Int.tmod_lt_of_pos (Int.tdiv n 12) (show (0:Int) < 3 by omega)
    simp [Lit.wf, IntKind.min, IntKind.max, IntKind.bits, IntKind.signed]
    omega
theorem keysS_len (l : List (List Int)) : (keysS l).length ≤ 10 ∧ ∀ x ∈ keysS l, x.length ≤ 12 := by
  refine ⟨by simp [keysS]; omega, fun x hx => ?_⟩
  obtain ⟨y, _, rfl⟩ := List.mem_map.1 hx
  simp; omega
theorem keysS_g (l : List (List Int)) (h : U8 l) : ∀ x ∈ keysS l, ∀ k ∈ x, Gk k := by
  intro x hx k hk
  obtain ⟨y, hy, rfl⟩ := List.mem_map.1 hx
  obtain ⟨n, hn, rfl⟩ := List.mem_map.1 hk
  have := u8_rng ((h.2 y (List.mem_of_mem_take hy)).2 n (List.mem_of_mem_take hn))
  exact keyS_g this.1 this.2
theorem sumK_le (c : Nat) : ∀ W : List (List S26), (∀ x ∈ W, x.length ≤ c) → sumK W ≤ W.length * c
  | [], _ => by simp [sumK]
  | x :: W, h => by
    have h1 := h x (List.mem_cons_self ..)
    have h2 := sumK_le c W fun y hy => h y (List.mem_cons_of_mem _ hy)
    have e : sumK (x :: W) = x.length + sumK W := by simp [sumK]
    rw [e, List.length_cons, Nat.add_mul]
    omega
theorem keysS_sum (l : List (List Int)) : sumK (keysS l) ≤ 120 := by
  have h := keysS_len l
  have := sumK_le 12 (keysS l) h.2
  have := Nat.mul_le_mul_right 12 h.1
  omega
theorem keys_l1 (l : List (List Int)) (hl : U8 l) (i : Nat) (hi : i < l.length) (out : List (List S26)) (ho : out.length ≤ 10) (r : List (List S26)) (h : Ev (fun k => warplaw8_Keys.l0 k l (out ++ [((l.getD i []).take 12).map keyS]) (wrap64 ((i : Int) + 1))) r) :
    ∀ (d j : Nat), j + d = 12 → Ev (fun k => warplaw8_Keys.l1 k l out (i : Int) (((l.getD i []).take j).map keyS) (j : Int)) r
  | 0, j, hj => by
    obtain rfl : j = 12 := by omega
    have e8 : rd_L8 l (i : Int) = l.getD i [] := by simp [rd_L8]
    by_cases c : ((12 : Nat) : Int) < ((l.getD i []).length : Int)
    · exact Ev.step (fun k => by rw [warplaw8_Keys.l1, if_pos (by omega), if_pos (by omega), e8, if_pos c, if_neg (by omega), if_pos (by omega)]) h
    · exact Ev.step (fun k => by rw [warplaw8_Keys.l1, if_pos (by omega), if_pos (by omega), e8, if_neg c, if_pos (by omega)]) h
  | d + 1, j, hj => by
    have e8 : rd_L8 l (i : Int) = l.getD i [] := by simp [rd_L8]
    have q4 : (j : Int) < 12 := by clear h ho; omega
    have q6 : (((l.getD i []).take j).map keyS).length < 4398046511104 := by
      rw [List.length_map, List.length_take]
      exact Nat.lt_of_le_of_lt (Nat.min_le_left _ _) (by clear h ho; omega)
    have hx : l.getD i [] ∈ l := by
      rw [List.getD_eq_getElem?_getD, List.getElem?_eq_getElem hi]; exact List.getElem_mem _
    have hu := (hl.2 _ hx).2
    by_cases c : j < (l.getD i []).length
    · have hm : (l.getD i []).getD j 0 ∈ l.getD i [] := by
        rw [List.getD_eq_getElem?_getD (l := l.getD i []), List.getElem?_eq_getElem c]; exact List.getElem_mem _
      have hr := u8_rng (hu _ hm)
      have hk := keyS_rng hr.1 hr.2
      have ih := keys_l1 l hl i hi out ho r h d (j + 1) (by omega)
      have erd : rd (l.getD i []) (j : Int) = (l.getD i []).getD j 0 := by simp [rd]
      have ew : wrap64 ((j : Int) + 1) = ((j + 1 : Nat) : Int) := by rw [wr64 (by omega) (by omega)]; omega
      have e : ((l.getD i []).take (j + 1)).map keyS = ((l.getD i []).take j).map keyS ++ [keyS ((l.getD i []).getD j 0)] := by
        rw [List.take_add_one, List.map_append, List.getElem?_eq_getElem c, List.getD_eq_getElem?_getD (l := l.getD i []), List.getElem?_eq_getElem c]
        rfl
      rw [e] at ih
      have q1 : (0 : Int) ≤ (i : Int) := Int.natCast_nonneg _
      have q2 : (i : Int) < (l.length : Int) := Int.ofNat_lt.2 hi
      have q3 : (j : Int) < ((l.getD i []).length : Int) := Int.ofNat_lt.2 c
      have q5 : (0 : Int) ≤ (j : Int) := Int.natCast_nonneg _
      have q7 : Int.tmod (wrap64 ((l.getD i []).getD j 0)) 3 < (([(⟨#[73, 110, 116]⟩ : ByteArray), (⟨#[45, 62]⟩ : ByteArray), (⟨#[44]⟩ : ByteArray)] : List ByteArray).length : Int) := hk.2
      refine Ev.step (fun k => ?_) ih
      rw [warplaw8_Keys.l1, if_pos q1, if_pos q2, e8, if_pos q3, if_pos q4, if_pos q5, Option.bind_some, erd, if_pos hk.1, if_pos q7, if_pos q6, ew]
      rfl
    · rw [List.take_of_length_le (by omega)] at h ⊢
      exact Ev.step (fun k => by rw [warplaw8_Keys.l1, if_pos (by omega), if_pos (by omega), e8, if_neg (by omega), if_pos (by omega)]) h
theorem keys_l0 (l : List (List Int)) (hl : U8 l) : ∀ (d i : Nat), i + d = 10 → Ev (fun k => warplaw8_Keys.l0 k l ((l.take i).map fun x => (x.take 12).map keyS) (i : Int)) (keysS l)
  | 0, i, hi => by
    obtain rfl : i = 10 := by omega
    have hl1 := hl.1
    have fin : Ev (fun k => warplaw8_Keys.j1 k l ((l.take 10).map fun x => (x.take 12).map keyS) ((10 : Nat) : Int) false) (keysS l) :=
      Ev.step (f := fun _ => some (keysS l)) (fun k => by rw [warplaw8_Keys.j1, if_neg (by decide)]; rfl) (Ev.now _)
    refine Ev.step (f := fun k => warplaw8_Keys.j1 k l ((l.take 10).map fun x => (x.take 12).map keyS) ((10 : Nat) : Int) false) (fun k => ?_) fin
    rw [warplaw8_Keys.l0]
    split
    · rfl
    · rfl
  | d + 1, i, hi => by
    by_cases c : i < l.length
    · have ih := keys_l0 l hl d (i + 1) (by omega)
      refine Ev.step (f := fun k => warplaw8_Keys.j1 k l ((l.take i).map fun x => (x.take 12).map keyS) (i : Int) true) (fun k => by rw [warplaw8_Keys.l0, if_pos (by omega), decide_eq_true (by omega)]) ?_
      refine Ev.step (fun k => by rw [warplaw8_Keys.j1, if_pos rfl]) ?_
      refine keys_l1 l hl i c _ (by simp; omega) _ ?_ 12 0 (by omega)
      rw [show wrap64 ((i : Int) + 1) = ((i + 1 : Nat) : Int) by rw [wr64 (by omega) (by omega)]; omega]
      have e : ((l.take (i + 1)).map fun x => (x.take 12).map keyS) = ((l.take i).map fun x => (x.take 12).map keyS) ++ [((l.getD i []).take 12).map keyS] := by
        rw [List.take_add_one, List.map_append, List.getElem?_eq_getElem c, List.getD_eq_getElem?_getD, List.getElem?_eq_getElem c]
        rfl
      rw [e] at ih
      exact ih
    · refine Ev.step (f := fun k => warplaw8_Keys.j1 k l ((l.take i).map fun x => (x.take 12).map keyS) (i : Int) false) (fun k => by rw [warplaw8_Keys.l0, if_neg (by omega)]) ?_
      refine Ev.step (fun k => by rw [warplaw8_Keys.j1, if_neg (by decide)]) ?_
      unfold keysS
      rw [List.take_of_length_le (by omega), List.take_of_length_le (by omega)]
      exact Ev.now _
theorem keys_ev (l : List (List Int)) (hl : U8 l) : Ev (fun k => warplaw8_Keys.f k l) (keysS l) := keys_l0 l hl 10 0 (by omega)
/-- what the table keeps -/
structure Told (n : Nat) (room : Int) (l0 L : List (List S26)) (got : List (List Int)) (keys : List S26) : Prop where
  rest : ∀ i, i < n → L.getD i [] = (l0.getD i []).drop ((l0.getD i []).length - (L.getD i []).length) ∧ (L.getD i []).length ≤ (l0.getD i []).length
  entry : ∀ i, i < n → ∀ p k, p < (got.getD i []).length → (l0.getD i [])[p]? = some k → (∃ q : Nat, (got.getD i []).getD p 0 = (q : Int) ∧ q < keys.length ∧ keys.getD q z26 = k) ∨ ((got.getD i []).getD p 0 = -1 ∧ room ≤ (keys.length : Int))
  nodup : keys.Nodup
  from_ : ∀ x ∈ keys, ∃ i, i < n ∧ x ∈ l0.getD i []
  few : (keys.length : Int) ≤ room ∨ keys = []
theorem Told.start (room : Int) (l0 : List (List S26)) : Told l0.length room l0 l0 (List.replicate l0.length []) [] := by
  refine ⟨fun i hi => ⟨by simp, Nat.le_refl _⟩, fun i hi p k hp => ?_, List.nodup_nil, (fun x h => by cases h), .inr rfl⟩
  rw [getD_rep] at hp
  cases hp
theorem drop_head {l : List S26} {m : Nat} {k : S26} {r : List S26} (h : k :: r = l.drop m) : l[m]? = some k ∧ r = l.drop (m + 1) := by
  constructor
  · have := congrArg (·[0]?) h
    simp at this
    exact this.symm
  · have := congrArg List.tail h
    rw [List.tail_cons, List.tail_drop] at this
    exact this
theorem getD_app {α : Type} (l m : List α) (q : Nat) (z : α) (h : q < l.length) : (l ++ m).getD q z = l.getD q z := by
  rw [List.getD_eq_getElem?_getD, List.getElem?_append_left h, ← List.getD_eq_getElem?_getD]
theorem Told.look {n N : Nat} {stripes room : Int} {l0 L : List (List S26)} {st : List Int} {got : List (List Int)} {keys : List S26} {held : List Int} {steps : Int} (h : Told n room l0 L got keys) (hO : Okt n N stripes l0 L st got keys held steps) (i : Nat) (hi : i < n) (k : S26) (l : List S26) (hl : L.getD i [] = k :: l) (hs : st.getD i 0 = 1) :
    Told n room l0 L (got.set i (got.getD i [] ++ [(indexS room keys k).1])) (indexS room keys k).2 := by
  have hi3 : i < got.length := by rw [hO.len3]; exact hi
  have ht := hO.told i hi
  rw [hs, if_neg (by decide)] at ht
  have hr := h.rest i hi
  rw [hl] at hr ht
  have hd := drop_head hr.1
  have hp : (l0.getD i []).length - (k :: l).length = (got.getD i []).length := by omega
  rw [hp] at hd
  have hk0 : k ∈ l0.getD i [] := List.mem_of_getElem? hd.1
  -- an old entry stays, a new one is right
  have old : ∀ (keys2 : List S26), (∃ m, keys2 = keys ++ m) → (∀ p k2, p = (got.getD i []).length → (l0.getD i [])[p]? = some k2 → (∃ q : Nat, (indexS room keys k).1 = (q : Int) ∧ q < keys2.length ∧ keys2.getD q z26 = k2) ∨ ((indexS room keys k).1 = -1 ∧ room ≤ (keys2.length : Int))) →
      ∀ j, j < n → ∀ p k2, p < ((got.set i (got.getD i [] ++ [(indexS room keys k).1])).getD j []).length → (l0.getD j [])[p]? = some k2 → (∃ q : Nat, ((got.set i (got.getD i [] ++ [(indexS room keys k).1])).getD j []).getD p 0 = (q : Int) ∧ q < keys2.length ∧ keys2.getD q z26 = k2) ∨ (((got.set i (got.getD i [] ++ [(indexS room keys k).1])).getD j []).getD p 0 = -1 ∧ room ≤ (keys2.length : Int)) := by
    rintro keys2 ⟨m, rfl⟩ hnew j hj p k2 hp hk2
    have kept : ∀ g : Int, ((∃ q : Nat, g = (q : Int) ∧ q < keys.length ∧ keys.getD q z26 = k2) ∨ (g = -1 ∧ room ≤ (keys.length : Int))) → ((∃ q : Nat, g = (q : Int) ∧ q < (keys ++ m).length ∧ (keys ++ m).getD q z26 = k2) ∨ (g = -1 ∧ room ≤ ((keys ++ m).length : Int))) := by
      rintro g (⟨q, h1, h2, h3⟩ | ⟨h1, h2⟩)
      · exact .inl ⟨q, h1, by rw [List.length_append]; omega, by rw [getD_app _ _ _ _ h2]; exact h3⟩
      · exact .inr ⟨h1, by rw [List.length_append]; omega⟩
    rw [getD_set_any got i j _ [] hi3] at hp ⊢
    by_cases c : j = i
    · rw [if_pos c] at hp ⊢
      rw [c] at hk2
      rw [List.length_append, List.length_singleton] at hp
      by_cases c2 : p < (got.getD i []).length
      · rw [getD_app _ _ _ _ c2]
        exact kept _ (h.entry i hi p k2 c2 hk2)
      · have e : p = (got.getD i []).length := by omega
        have := hnew p k2 e hk2
        rw [List.getD_eq_getElem?_getD (l := _ ++ _), List.getElem?_append_right (by omega), e, Nat.sub_self]
        exact this
    · rw [if_neg c] at hp ⊢
      exact kept _ (h.entry j hj p k2 hp hk2)
  unfold indexS at old ⊢
  by_cases c : k ∈ keys
  · rw [if_pos c] at old ⊢
    refine ⟨h.rest, old keys ⟨[], by simp⟩ (fun p k2 hp hk2 => .inl ⟨keys.idxOf k, rfl, List.idxOf_lt_length_of_mem c, ?_⟩), h.nodup, h.from_, h.few⟩
    rw [hp, hd.1] at hk2
    injection hk2 with hk2
    have hlt := List.idxOf_lt_length_of_mem c
    rw [List.getD_eq_getElem?_getD, List.getElem?_eq_getElem hlt, Option.getD_some, List.getElem_idxOf, hk2]
  · rw [if_neg c] at old ⊢
    by_cases c2 : (keys.length : Int) ≥ room
    · rw [if_pos c2] at old ⊢
      exact ⟨h.rest, old keys ⟨[], by simp⟩ (fun p k2 hp hk2 => .inr ⟨rfl, c2⟩), h.nodup, h.from_, h.few⟩
    · rw [if_neg c2] at old ⊢
      refine ⟨h.rest, old (keys ++ [k]) ⟨[k], rfl⟩ (fun p k2 hp hk2 => .inl ⟨keys.length, rfl, by simp, ?_⟩), ?_, fun x hx => ?_, .inl ?_⟩
      · rw [hp, hd.1] at hk2
        injection hk2 with hk2
        rw [List.getD_eq_getElem?_getD, List.getElem?_append_right (Nat.le_refl _), Nat.sub_self]
        exact hk2
      · refine List.nodup_append.2 ⟨h.nodup, by simp, fun a ha b hb => ?_⟩
        rw [List.mem_singleton] at hb
        rw [hb]
        exact fun e => c (e ▸ ha)
      · rcases List.mem_append.1 hx with hx | hx
        · exact h.from_ x hx
        · rw [List.mem_singleton] at hx
          rw [hx]
          exact ⟨i, hi, hk0⟩
      · rw [List.length_append, List.length_singleton]
        omega
theorem Told.leave {n N : Nat} {stripes room : Int} {l0 L : List (List S26)} {st : List Int} {got : List (List Int)} {keys : List S26} {held : List Int} {steps : Int} (h : Told n room l0 L got keys) (hO : Okt n N stripes l0 L st got keys held steps) (i : Nat) (hi : i < n) (k : S26) (l : List S26) (hl : L.getD i [] = k :: l) :
    Told n room l0 (L.set i l) got keys := by
  have hi1 : i < L.length := by rw [hO.len1]; exact hi
  refine ⟨fun j hj => ?_, h.entry, h.nodup, h.from_, h.few⟩
  rw [getD_set_any L i j _ [] hi1]
  by_cases c : j = i
  · rw [if_pos c, c]
    have hr := h.rest i hi
    rw [hl] at hr
    have hd := drop_head hr.1
    rw [List.length_cons] at hr hd
    refine ⟨?_, by omega⟩
    rw [show (l0.getD i []).length - l.length = (l0.getD i []).length - (l.length + 1) + 1 by omega]
    exact hd.2
  · rw [if_neg c]; exact h.rest j hj
/-- the play of a table, and what is told at its end -/
theorem play_told (l0 : List (List S26)) (room stripes : Int) (P : List Int) (hn : l0.length ≤ 64) (hN : sumK l0 ≤ 4096) (hg : ∀ x ∈ l0, ∀ k ∈ x, Gk k) (hP : P.length ≤ 1000000) :
    ∃ got keys, table_Play.f l0 room stripes P = some (got, keys, 3 * (sumK l0 : Int), 0) ∧ got.length = l0.length ∧ (∀ i, i < l0.length → (got.getD i []).length = (l0.getD i []).length) ∧ keys.length ≤ sumK l0 ∧ Told l0.length room l0 (List.replicate l0.length []) got keys := by
  obtain ⟨L', st', got', keys', h1, h2, h3, h4⟩ := tab_whole l0 room stripes P hn hN hg hP (fun L st got keys held => Told l0.length room l0 L got keys) (Told.start room l0)
    (fun L st got keys held steps i k l hO hi hl hs hh hI => hI) (fun L st got keys held steps i k l hO hi hl hs hI => hI.look hO i hi k l hl hs) (fun L st got keys held steps i k l hO hi hl hs hI => hI.leave hO i hi k l hl)
  refine ⟨got', keys', h1, h2.len3, fun i hi => ?_, by have := h2.few; omega, ⟨fun i hi => ?_, h4.entry, h4.nodup, h4.from_, h4.few⟩⟩
  · have := h2.told i hi
    rw [h3 i hi] at this
    rcases h2.three i hi with h | h | h
    · rw [h, if_neg (by decide)] at this; simpa using this
    · exact absurd (h3 i hi) h.2
    · exact absurd (h3 i hi) h.2
  · rw [getD_rep]; simp
end Go.Proofs.YtmgfkdnoclmbgaaDoor
