/-
The document's example answers true; what the plain play of the table keeps: each entry tells the place of its key, or there is no room; keys are there once. Condition: the limits hold.
-/
import Derived.Test.YtmgfkdnoclmbgaaDoorTabP
import Derived.Test.YtmgfkdnoclmbgaaDoorAw
namespace Go.Proofs.YtmgfkdnoclmbgaaDoor
open Go.RowKit Go.Proofs.YtmgfkdnoclmbgaaDoorW.PrintWords Go.Proofs.YtmgfkdnoclmbgaaDoorW.PrintLast Go.Proofs.YtmgfkdnoclmbgaaDoorW.PrintMore Go.Proofs.YtmgfkdnoclmbgaaDoor.P Go.Proofs.YtmgfkdnoclmbgaaDoor.Bits
set_option linter.unusedVariables false
theorem awake_play : warplaw8_awake.f 10 = some true := by kernel_rfl
theorem awake8 : Ev (fun k => warplaw8_awake.f k) true := Ev.of (fun k => warplaw8_awake.mono k) awake_play
theorem u8_rng {n : Int} (h : (Lit.int .u8 n).wf = true) : 0 ≤ n ∧ n < 256 := by
  simp [Lit.wf, IntKind.min, IntKind.max, IntKind.bits, IntKind.signed] at h
  omega
/-- what the table keeps -/
structure Told (n : Nat) (room : Int) (l0 L : List (List S26)) (got : List (List Int)) (keys : List S26) : Prop where
  rest : ∀ i, i < n → L.getD i [] = (l0.getD i []).drop ((l0.getD i []).length - (L.getD i []).length) ∧ (L.getD i []).length ≤ (l0.getD i []).length
  entry : ∀ i, i < n → ∀ p k, p < (got.getD i []).length → (l0.getD i [])[p]? = some k → (∃ q : Nat, (got.getD i []).getD p 0 = (q : Int) ∧ q < keys.length ∧ keys.getD q z26 = k) ∨ ((got.getD i []).getD p 0 = -1 ∧ room ≤ (keys.length : Int))
  nodup : keys.Nodup
  from_ : ∀ x ∈ keys, ∃ i, i < n ∧ x ∈ l0.getD i []
  few : (keys.length : Int) ≤ room ∨ keys = []
theorem Told.start (room : Int) (l0 : List (List S26)) : Told l0.length room l0 l0 (List.replicate l0.length []) [] := by
  refine ⟨fun i hi => ⟨by simp, Nat.le_refl _⟩, fun i hi p k hp => ?_, List.nodup_nil, (fun x h => by cases h), .inr rfl⟩
  rw [getD_rep] at hp
  cases hp
theorem drop_head {l : List S26} {m : Nat} {k : S26} {r : List S26} (h : k :: r = l.drop m) : l[m]? = some k ∧ r = l.drop (m + 1) := by
  constructor
  · have := congrArg (·[0]?) h
    simp at this
    exact this.symm
  · have := congrArg List.tail h
    rw [List.tail_cons, List.tail_drop] at this
    exact this
theorem getD_app {α : Type} (l m : List α) (q : Nat) (z : α) (h : q < l.length) : (l ++ m).getD q z = l.getD q z := by
  rw [List.getD_eq_getElem?_getD, List.getElem?_append_left h, ← List.getD_eq_getElem?_getD]
theorem Told.look {n N : Nat} {stripes room : Int} {l0 L : List (List S26)} {st : List Int} {got : List (List Int)} {keys : List S26} {held : List Int} {steps : Int} (h : Told n room l0 L got keys) (hO : Okt n N stripes l0 L st got keys held steps) (i : Nat) (hi : i < n) (k : S26) (l : List S26) (hl : L.getD i [] = k :: l) (hs : st.getD i 0 = 1) :
    Told n room l0 L (got.set i (got.getD i [] ++ [(indexS room keys k).1])) (indexS room keys k).2 := by
  have hi3 : i < got.length := by rw [hO.len3]; exact hi
  have ht := hO.told i hi
  rw [hs, if_neg (by decide)] at ht
  have hr := h.rest i hi
  rw [hl] at hr ht
  have hd := drop_head hr.1
  have hp : (l0.getD i []).length - (k :: l).length = (got.getD i []).length := by omega
  rw [hp] at hd
  have hk0 : k ∈ l0.getD i [] := List.mem_of_getElem? hd.1
  -- an old entry stays, a new one is right
  have old : ∀ (keys2 : List S26), (∃ m, keys2 = keys ++ m) → (∀ p k2, p = (got.getD i []).length → (l0.getD i [])[p]? = some k2 → (∃ q : Nat, (indexS room keys k).1 = (q : Int) ∧ q < keys2.length ∧ keys2.getD q z26 = k2) ∨ ((indexS room keys k).1 = -1 ∧ room ≤ (keys2.length : Int))) →
      ∀ j, j < n → ∀ p k2, p < ((got.set i (got.getD i [] ++ [(indexS room keys k).1])).getD j []).length → (l0.getD j [])[p]? = some k2 → (∃ q : Nat, ((got.set i (got.getD i [] ++ [(indexS room keys k).1])).getD j []).getD p 0 = (q : Int) ∧ q < keys2.length ∧ keys2.getD q z26 = k2) ∨ (((got.set i (got.getD i [] ++ [(indexS room keys k).1])).getD j []).getD p 0 = -1 ∧ room ≤ (keys2.length : Int)) := by
    rintro keys2 ⟨m, rfl⟩ hnew j hj p k2 hp hk2
    have kept : ∀ g : Int, ((∃ q : Nat, g = (q : Int) ∧ q < keys.length ∧ keys.getD q z26 = k2) ∨ (g = -1 ∧ room ≤ (keys.length : Int))) → ((∃ q : Nat, g = (q : Int) ∧ q < (keys ++ m).length ∧ (keys ++ m).getD q z26 = k2) ∨ (g = -1 ∧ room ≤ ((keys ++ m).length : Int))) := by
      rintro g (⟨q, h1, h2, h3⟩ | ⟨h1, h2⟩)
      · exact .inl ⟨q, h1, by rw [List.length_append]; omega, by rw [getD_app _ _ _ _ h2]; exact h3⟩
      · exact .inr ⟨h1, by rw [List.length_append]; omega⟩
    rw [getD_set_any got i j _ [] hi3] at hp ⊢
    by_cases c : j = i
    · rw [if_pos c] at hp ⊢
      rw [c] at hk2
      rw [List.length_append, List.length_singleton] at hp
      by_cases c2 : p < (got.getD i []).length
      · rw [getD_app _ _ _ _ c2]
        exact kept _ (h.entry i hi p k2 c2 hk2)
      · have e : p = (got.getD i []).length := by omega
        have := hnew p k2 e hk2
        rw [List.getD_eq_getElem?_getD (l := _ ++ _), List.getElem?_append_right (by omega), e, Nat.sub_self]
        exact this
    · rw [if_neg c] at hp ⊢
      exact kept _ (h.entry j hj p k2 hp hk2)
  unfold indexS at old ⊢
  by_cases c : k ∈ keys
  · rw [if_pos c] at old ⊢
    refine ⟨h.rest, old keys ⟨[], by simp⟩ (fun p k2 hp hk2 => .inl ⟨keys.idxOf k, rfl, List.idxOf_lt_length_of_mem c, ?_⟩), h.nodup, h.from_, h.few⟩
    rw [hp, hd.1] at hk2
    injection hk2 with hk2
    have hlt := List.idxOf_lt_length_of_mem c
    rw [List.getD_eq_getElem?_getD, List.getElem?_eq_getElem hlt, Option.getD_some, List.getElem_idxOf, hk2]
  · rw [if_neg c] at old ⊢
    by_cases c2 : (keys.length : Int) ≥ room
    · rw [if_pos c2] at old ⊢
      exact ⟨h.rest, old keys ⟨[], by simp⟩ (fun p k2 hp hk2 => .inr ⟨rfl, c2⟩), h.nodup, h.from_, h.few⟩
    · rw [if_neg c2] at old ⊢
      refine ⟨h.rest, old (keys ++ [k]) ⟨[k], rfl⟩ (fun p k2 hp hk2 => .inl ⟨keys.length, rfl, by simp, ?_⟩), ?_, fun x hx => ?_, .inl ?_⟩
      · rw [hp, hd.1] at hk2
        injection hk2 with hk2
        rw [List.getD_eq_getElem?_getD, List.getElem?_append_right (Nat.le_refl _), Nat.sub_self]
        exact hk2
      · refine List.nodup_append.2 ⟨h.nodup, by simp, fun a ha b hb => ?_⟩
        rw [List.mem_singleton] at hb
        rw [hb]
        exact fun e => c (e ▸ ha)
      · rcases List.mem_append.1 hx with hx | hx
        · exact h.from_ x hx
        · rw [List.mem_singleton] at hx
          rw [hx]
          exact ⟨i, hi, hk0⟩
      · rw [List.length_append, List.length_singleton]
        omega
theorem Told.leave {n N : Nat} {stripes room : Int} {l0 L : List (List S26)} {st : List Int} {got : List (List Int)} {keys : List S26} {held : List Int} {steps : Int} (h : Told n room l0 L got keys) (hO : Okt n N stripes l0 L st got keys held steps) (i : Nat) (hi : i < n) (k : S26) (l : List S26) (hl : L.getD i [] = k :: l) :
    Told n room l0 (L.set i l) got keys := by
  have hi1 : i < L.length := by rw [hO.len1]; exact hi
  refine ⟨fun j hj => ?_, h.entry, h.nodup, h.from_, h.few⟩
  rw [getD_set_any L i j _ [] hi1]
  by_cases c : j = i
  · rw [if_pos c, c]
    have hr := h.rest i hi
    rw [hl] at hr
    have hd := drop_head hr.1
    rw [List.length_cons] at hr hd
    refine ⟨?_, by omega⟩
    rw [show (l0.getD i []).length - l.length = (l0.getD i []).length - (l.length + 1) + 1 by omega]
    exact hd.2
  · rw [if_neg c]; exact h.rest j hj
/-- the play of a table, and what is told at its end -/
theorem play_told (l0 : List (List S26)) (room stripes : Int) (P : List Int) (hn : l0.length ≤ 64) (hN : sumK l0 ≤ 4096) (hg : ∀ x ∈ l0, ∀ k ∈ x, Gk k) (hP : P.length ≤ 1000000) :
    ∃ got keys, table_Play.f l0 room stripes P = some (got, keys, 3 * (sumK l0 : Int), 0) ∧ got.length = l0.length ∧ (∀ i, i < l0.length → (got.getD i []).length = (l0.getD i []).length) ∧ keys.length ≤ sumK l0 ∧ Told l0.length room l0 (List.replicate l0.length []) got keys := by
  obtain ⟨L', st', got', keys', h1, h2, h3, h4⟩ := tab_whole l0 room stripes P hn hN hg hP (fun L st got keys held => Told l0.length room l0 L got keys) (Told.start room l0)
    (fun L st got keys held steps i k l hO hi hl hs hh hI => hI) (fun L st got keys held steps i k l hO hi hl hs hI => hI.look hO i hi k l hl hs) (fun L st got keys held steps i k l hO hi hl hs hI => hI.leave hO i hi k l hl)
  refine ⟨got', keys', h1, h2.len3, fun i hi => ?_, by have := h2.few; omega, ⟨fun i hi => ?_, h4.entry, h4.nodup, h4.from_, h4.few⟩⟩
  · have := h2.told i hi
    rw [h3 i hi] at this
    rcases h2.three i hi with h | h | h
    · rw [h, if_neg (by decide)] at this; simpa using this
    · exact absurd (h3 i hi) h.2
    · exact absurd (h3 i hi) h.2
  · rw [getD_rep]; simp
end Go.Proofs.YtmgfkdnoclmbgaaDoor
