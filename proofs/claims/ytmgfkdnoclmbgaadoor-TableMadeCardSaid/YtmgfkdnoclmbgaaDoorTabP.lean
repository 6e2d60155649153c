/-
The plain play of the table comes to its end, whoever is picked; what each step keeps is kept by the whole. Condition: the limits hold.
-/
import Derived.Test.YtmgfkdnoclmbgaaDoorStubB
namespace Go.Proofs.YtmgfkdnoclmbgaaDoor
open Go.RowKit Go.Proofs.YtmgfkdnoclmbgaaDoorW.PrintWords Go.Proofs.YtmgfkdnoclmbgaaDoorW.PrintLast Go.Proofs.YtmgfkdnoclmbgaaDoorW.PrintMore Go.Proofs.YtmgfkdnoclmbgaaDoor.P Go.Proofs.YtmgfkdnoclmbgaaDoor.Bits
set_option linter.unusedVariables false
/-- a sum below n -/
def sumR : Nat → (Nat → Nat) → Nat
  | 0, _ => 0
  | n + 1, f => sumR n f + f n
theorem sumR_same (n : Nat) (f g : Nat → Nat) (h : ∀ j, j < n → f j = g j) : sumR n f = sumR n g := by
  induction n with
  | zero => rfl
  | succ n ih => rw [sumR, sumR, ih fun j hj => h j (by omega), h n (by omega)]
theorem sumR_less (n i d : Nat) (f g : Nat → Nat) (hi : i < n) (h : ∀ j, j < n → j ≠ i → f j = g j) (hd : f i = g i + d) : sumR n f = sumR n g + d := by
  induction n with
  | zero => omega
  | succ n ih =>
    rw [sumR, sumR]
    by_cases e : i = n
    · subst e
      rw [sumR_same i f g fun j hj => h j (by omega) (by omega), hd]
      omega
    · rw [ih (by omega) (fun j hj hne => h j (by omega) hne), h n (by omega) (by omega)]
      omega
theorem sumR_le (n i : Nat) (f : Nat → Nat) (hi : i < n) : f i ≤ sumR n f := by
  induction n with
  | zero => omega
  | succ n ih =>
    rw [sumR]
    by_cases e : i = n
    · subst e; omega
    · have := ih (by omega); omega
theorem sumR_mul (n c : Nat) (f : Nat → Nat) : sumR n (fun i => c * f i) = c * sumR n f := by
  induction n with
  | zero => rfl
  | succ n ih => rw [sumR, sumR, ih, Nat.mul_add]
theorem sumR_zero (n : Nat) (f : Nat → Nat) (h : ∀ j, j < n → f j = 0) : sumR n f = 0 := by
  rw [sumR_same n f (fun _ => 0) h]
  induction n with
  | zero => rfl
  | succ n ih => rw [sumR, ih fun j hj => h j (by omega)]
/-- the stripe of a worker's key -/
def hdS (stripes : Int) : List S26 → Int
  | [] => -1
  | k :: _ => stripeS stripes k
def t3 (L : List (List S26)) (st : List Int) (i : Nat) : Nat := 3 * (L.getD i []).length - (st.getD i 0).toNat
def rm (L : List (List S26)) (st : List Int) (i : Nat) : Nat := (L.getD i []).length - (if st.getD i 0 = 2 then 1 else 0)
/-- what each step keeps -/
structure Okt (n N : Nat) (stripes : Int) (l0 : List (List S26)) (L : List (List S26)) (st : List Int) (got : List (List Int)) (keys : List S26) (held : List Int) (steps : Int) : Prop where
  len1 : L.length = n
  len2 : st.length = n
  len3 : got.length = n
  three : ∀ i, i < n → st.getD i 0 = 0 ∨ (st.getD i 0 = 1 ∧ L.getD i [] ≠ []) ∨ (st.getD i 0 = 2 ∧ L.getD i [] ≠ [])
  holds : ∀ i, i < n → st.getD i 0 ≠ 0 → hdS stripes (L.getD i []) ∈ held
  own : ∀ i j, i < n → j < n → i ≠ j → st.getD i 0 ≠ 0 → st.getD j 0 ≠ 0 → hdS stripes (L.getD i []) ≠ hdS stripes (L.getD j [])
  who : ∀ h ∈ held, ∃ i, i < n ∧ st.getD i 0 ≠ 0 ∧ hdS stripes (L.getD i []) = h
  nodup : held.Nodup
  count : steps + (sumR n (t3 L st) : Int) = 3 * (N : Int)
  told : ∀ i, i < n → (got.getD i []).length + (L.getD i []).length = (l0.getD i []).length + (if st.getD i 0 = 2 then 1 else 0)
  few : keys.length + sumR n (rm L st) ≤ N
theorem getD_set_any {α : Type} (T : List α) (i j : Nat) (p z : α) (hi : i < T.length) : (T.set i p).getD j z = if j = i then p else T.getD j z := by
  simp only [List.getD_eq_getElem?_getD, List.getElem?_set]
  by_cases c : i = j
  · rw [if_pos c, if_pos (by omega), if_pos c.symm]; rfl
  · rw [if_neg c, if_neg (Ne.symm c)]
section
variable {n N : Nat} {stripes : Int} {l0 L : List (List S26)} {st : List Int} {got : List (List Int)} {keys : List S26} {held : List Int} {steps : Int}
theorem Okt.lock (h : Okt n N stripes l0 L st got keys held steps) (i : Nat) (hi : i < n) (k : S26) (l : List S26) (hl : L.getD i [] = k :: l) (hs : st.getD i 0 = 0) (hh : stripeS stripes k ∉ held) :
    Okt n N stripes l0 L (st.set i 1) got keys (stripeS stripes k :: held) (steps + 1) := by
  have hi2 : i < st.length := by rw [h.len2]; exact hi
  have g : ∀ j, (st.set i 1).getD j 0 = if j = i then 1 else st.getD j 0 := fun j => getD_set_any st i j 1 0 hi2
  have e : hdS stripes (L.getD i []) = stripeS stripes k := by rw [hl]; rfl
  refine ⟨h.len1, by rw [List.length_set]; exact h.len2, h.len3, fun j hj => ?_, fun j hj hne => ?_, fun j1 j2 h1 h2 hne n1 n2 => ?_, fun x hx => ?_, List.nodup_cons.2 ⟨hh, h.nodup⟩, ?_, fun j hj => ?_, ?_⟩
  · rw [g]
    by_cases c : j = i
    · rw [if_pos c, c, hl]; exact .inr (.inl ⟨rfl, by simp⟩)
    · rw [if_neg c]; exact h.three j hj
  · rw [g] at hne
    by_cases c : j = i
    · rw [c, e]; exact List.mem_cons_self ..
    · rw [if_neg c] at hne; exact List.mem_cons_of_mem _ (h.holds j hj hne)
  · rw [g] at n1 n2
    by_cases c1 : j1 = i
    · rw [if_neg (fun c2 => hne (c1.trans c2.symm))] at n2
      rw [c1, e]
      exact fun x => hh (x ▸ h.holds j2 h2 n2)
    · rw [if_neg c1] at n1
      by_cases c2 : j2 = i
      · rw [c2, e]
        exact fun x => hh (x ▸ h.holds j1 h1 n1)
      · rw [if_neg c2] at n2
        exact h.own j1 j2 h1 h2 hne n1 n2
  · rcases List.mem_cons.1 hx with hx | hx
    · exact ⟨i, hi, by rw [g, if_pos rfl]; decide, by rw [e, hx]⟩
    · obtain ⟨j, hj, hn, he⟩ := h.who x hx
      refine ⟨j, hj, ?_, he⟩
      rw [g]
      by_cases c : j = i
      · rw [if_pos c]; decide
      · rw [if_neg c]; exact hn
  · have := sumR_less n i 1 (t3 L st) (t3 L (st.set i 1)) hi (fun j hj hne => by unfold t3; rw [g, if_neg hne]) (by unfold t3; rw [g, if_pos rfl, hs, hl, List.length_cons]; simp; omega)
    have := h.count
    omega
  · rw [g]
    have := h.told j hj
    by_cases c : j = i
    · rw [if_pos c, if_neg (by decide)]
      rw [c, hs, if_neg (by decide)] at this
      rw [c]; exact this
    · rw [if_neg c]; exact this
  · have := sumR_same n (rm L st) (rm L (st.set i 1)) (fun j hj => by
      unfold rm
      rw [g]
      by_cases c : j = i
      · rw [if_pos c, c, hs, if_neg (by decide), if_neg (by decide)]
      · rw [if_neg c])
    have := h.few
    omega
theorem indexS_len (room : Int) (keys : List S26) (k : S26) : (indexS room keys k).2.length ≤ keys.length + 1 := by
  unfold indexS
  split
  · simp
  · split <;> simp
theorem Okt.look (h : Okt n N stripes l0 L st got keys held steps) (room : Int) (i : Nat) (hi : i < n) (k : S26) (l : List S26) (hl : L.getD i [] = k :: l) (hs : st.getD i 0 = 1) :
    Okt n N stripes l0 L (st.set i 2) (got.set i (got.getD i [] ++ [(indexS room keys k).1])) (indexS room keys k).2 held (steps + 1) := by
  have hi2 : i < st.length := by rw [h.len2]; exact hi
  have hi3 : i < got.length := by rw [h.len3]; exact hi
  have g : ∀ j, (st.set i 2).getD j 0 = if j = i then 2 else st.getD j 0 := fun j => getD_set_any st i j 2 0 hi2
  have gn : ∀ j, (st.set i 2).getD j 0 ≠ 0 ↔ st.getD j 0 ≠ 0 := fun j => by
    rw [g]
    by_cases c : j = i
    · rw [if_pos c, c, hs]; decide
    · rw [if_neg c]
  refine ⟨h.len1, by rw [List.length_set]; exact h.len2, by rw [List.length_set]; exact h.len3, fun j hj => ?_, fun j hj hne => h.holds j hj ((gn j).1 hne), fun j1 j2 h1 h2 hne n1 n2 => h.own j1 j2 h1 h2 hne ((gn j1).1 n1) ((gn j2).1 n2), fun x hx => ?_, h.nodup, ?_, fun j hj => ?_, ?_⟩
  · rw [g]
    by_cases c : j = i
    · rw [if_pos c, c, hl]; exact .inr (.inr ⟨rfl, by simp⟩)
    · rw [if_neg c]; exact h.three j hj
  · obtain ⟨j, hj, hn, he⟩ := h.who x hx
    exact ⟨j, hj, (gn j).2 hn, he⟩
  · have := sumR_less n i 1 (t3 L st) (t3 L (st.set i 2)) hi (fun j hj hne => by unfold t3; rw [g, if_neg hne]) (by unfold t3; rw [g, if_pos rfl, hs, hl, List.length_cons]; simp; omega)
    have := h.count
    omega
  · rw [g, getD_set_any got i j _ [] hi3]
    have := h.told j hj
    by_cases c : j = i
    · rw [if_pos c, if_pos c, if_pos rfl, List.length_append, List.length_singleton]
      rw [c, hs, if_neg (by decide)] at this
      rw [c]; omega
    · rw [if_neg c, if_neg c]; exact this
  · have := sumR_less n i 1 (rm L st) (rm L (st.set i 2)) hi (fun j hj hne => by unfold rm; rw [g, if_neg hne]) (by unfold rm; rw [g, if_pos rfl, hs, hl, List.length_cons, if_neg (by decide), if_pos rfl]; omega)
    have := h.few
    have := indexS_len room keys k
    omega
theorem Okt.leave (h : Okt n N stripes l0 L st got keys held steps) (i : Nat) (hi : i < n) (k : S26) (l : List S26) (hl : L.getD i [] = k :: l) (hs : st.getD i 0 = 2) :
    Okt n N stripes l0 (L.set i l) (st.set i 0) got keys (held.erase (stripeS stripes k)) (steps + 1) ∧ stripeS stripes k ∈ held := by
  have hi1 : i < L.length := by rw [h.len1]; exact hi
  have hi2 : i < st.length := by rw [h.len2]; exact hi
  have g : ∀ j, (st.set i 0).getD j 0 = if j = i then 0 else st.getD j 0 := fun j => getD_set_any st i j 0 0 hi2
  have gL : ∀ j, (L.set i l).getD j [] = if j = i then l else L.getD j [] := fun j => getD_set_any L i j l [] hi1
  have hs0 : st.getD i 0 ≠ 0 := by rw [hs]; decide
  have e : hdS stripes (L.getD i []) = stripeS stripes k := by rw [hl]; rfl
  have hin : stripeS stripes k ∈ held := e ▸ h.holds i hi hs0
  refine ⟨⟨by rw [List.length_set]; exact h.len1, by rw [List.length_set]; exact h.len2, h.len3, fun j hj => ?_, fun j hj hne => ?_, fun j1 j2 h1 h2 hne n1 n2 => ?_, fun x hx => ?_, h.nodup.erase _, ?_, fun j hj => ?_, ?_⟩, hin⟩
  · rw [g, gL]
    by_cases c : j = i
    · rw [if_pos c]; exact .inl rfl
    · rw [if_neg c, if_neg c]; exact h.three j hj
  · rw [g] at hne
    by_cases c : j = i
    · rw [if_pos c] at hne; exact absurd rfl hne
    · rw [if_neg c] at hne
      rw [gL, if_neg c]
      refine (List.mem_erase_of_ne ?_).2 (h.holds j hj hne)
      rw [← e]
      exact h.own j i hj hi c hne hs0
  · rw [g] at n1 n2
    by_cases c1 : j1 = i
    · rw [if_pos c1] at n1; exact absurd rfl n1
    · by_cases c2 : j2 = i
      · rw [if_pos c2] at n2; exact absurd rfl n2
      · rw [if_neg c1] at n1
        rw [if_neg c2] at n2
        rw [gL, gL, if_neg c1, if_neg c2]
        exact h.own j1 j2 h1 h2 hne n1 n2
  · have hx2 := (h.nodup.mem_erase_iff).1 hx
    obtain ⟨j, hj, hn, he⟩ := h.who x hx2.2
    have c : j ≠ i := fun c => hx2.1 (by rw [← he, c, e])
    exact ⟨j, hj, by rw [g, if_neg c]; exact hn, by rw [gL, if_neg c]; exact he⟩
  · have := sumR_less n i 1 (t3 L st) (t3 (L.set i l) (st.set i 0)) hi (fun j hj hne => by unfold t3; rw [g, gL, if_neg hne, if_neg hne]) (by unfold t3; rw [g, gL, if_pos rfl, if_pos rfl, hs, hl, List.length_cons]; simp; omega)
    have := h.count
    omega
  · rw [g, gL]
    have := h.told j hj
    by_cases c : j = i
    · rw [if_pos c, if_pos c, if_neg (by decide)]
      rw [c, hs, if_pos rfl, hl, List.length_cons] at this
      rw [c]; omega
    · rw [if_neg c, if_neg c]; exact this
  · have := sumR_same n (rm L st) (rm (L.set i l) (st.set i 0)) (fun j hj => by
      unfold rm
      rw [g, gL]
      by_cases c : j = i
      · rw [if_pos c, if_pos c, c, hs, hl, List.length_cons, if_pos rfl, if_neg (by decide)]; omega
      · rw [if_neg c, if_neg c])
    have := h.few
    omega
/-- who is next is enabled -/
theorem who_mem (P : List Int) (at_ last : Int) (en : List Bool) (h : idx en ≠ []) : ∃ i : Nat, whoS P at_ last (idx en) = (i : Int) ∧ i < en.length ∧ en.getD i false = true := by
  have h1 := placeS_lt P at_ last (idx en) h
  have h2 := idx_mem en _ h1
  refine ⟨(idx en).getD (placeS P at_ last (idx en)) 0, ?_, h2.1, h2.2⟩
  unfold whoS
  rw [if_neg h]
theorem idx_ne (en : List Bool) (i : Nat) (hi : i < en.length) (h : en.getD i false = true) : idx en ≠ [] := by
  intro e
  have : i ∈ idx en := List.mem_filter.2 ⟨List.mem_range.2 hi, by simpa using h⟩
  rw [e] at this
  cases this
theorem enL_length : (enT stripes n L st held).length = n := by simp [enT]
theorem enL_get (i : Nat) (hi : i < n) : (enT stripes n L st held).getD i false = enB stripes held (L.getD i []) (st.getD i 0) := by
  simp [enT, List.getD_eq_getElem?_getD, hi]
theorem enB_true {stripes : Int} {held : List Int} {l : List S26} {s : Int} : enB stripes held l s = true ↔ ∃ k r, l = k :: r ∧ (s = 0 → stripeS stripes k ∉ held) := by
  cases l with
  | nil => simp [enB]
  | cons k r =>
    simp only [enB, Bool.not_eq_true', Bool.and_eq_false_iff, decide_eq_false_iff_not, beq_eq_false_iff_ne, ne_eq, List.cons.injEq]
    constructor
    · intro h
      exact ⟨k, r, ⟨rfl, rfl⟩, fun e => h.resolve_left (fun c => c e)⟩
    · rintro ⟨k2, r2, ⟨rfl, rfl⟩, h⟩
      by_cases c : s = 0
      · exact .inr (h c)
      · exact .inl c
/-- nobody waits for ever -/
theorem Okt.free (h : Okt n N stripes l0 L st got keys held steps) (he : idx (enT stripes n L st held) = []) : ∀ i, i < n → L.getD i [] = [] := by
  intro i hi
  refine Decidable.byContradiction fun hne => ?_
  obtain ⟨k, r, hk⟩ := List.exists_cons_of_ne_nil hne
  have stuck : ∀ j, j < n → enB stripes held (L.getD j []) (st.getD j 0) = false := fun j hj => by
    refine (Bool.not_eq_true _).mp fun c => ?_
    exact idx_ne (enT stripes n L st held) j (by rw [enL_length]; exact hj) (by rw [enL_get j hj]; exact c) he
  have busy : ∀ j, j < n → st.getD j 0 ≠ 0 → False := fun j hj hs => by
    have h1 := stuck j hj
    have : L.getD j [] ≠ [] := by
      rcases h.three j hj with h | h | h
      · exact absurd h hs
      · exact h.2
      · exact h.2
    obtain ⟨k2, r2, hk2⟩ := List.exists_cons_of_ne_nil this
    rw [enB_true.2 ⟨k2, r2, hk2, fun e => absurd e hs⟩] at h1
    cases h1
  have h1 := stuck i hi
  by_cases c : stripeS stripes k ∈ held
  · obtain ⟨j, hj, hn, _⟩ := h.who _ c
    exact busy j hj hn
  · rw [enB_true.2 ⟨k, r, hk, fun _ => c⟩] at h1
    cases h1
theorem Okt.done (h : Okt n N stripes l0 L st got keys held steps) (he : ∀ i, i < n → L.getD i [] = []) : held = [] ∧ steps = 3 * (N : Int) := by
  refine ⟨?_, ?_⟩
  · cases held with
    | nil => rfl
    | cons x held =>
      obtain ⟨i, hi, hn, _⟩ := h.who x (List.mem_cons_self ..)
      rcases h.three i hi with h | h | h
      · exact absurd h hn
      · exact absurd (he i hi) h.2
      · exact absurd (he i hi) h.2
  · have := h.count
    rw [sumR_zero n (t3 L st) (fun j hj => by unfold t3; rw [he j hj]; simp)] at this
    omega
end
theorem tab_run (n N : Nat) (room stripes : Int) (P : List Int) (l0 : List (List S26)) (hN : N ≤ 4096) (hl0 : ∀ i, i < n → (l0.getD i []).length ≤ N) (Inv : List (List S26) → List Int → List (List Int) → List S26 → List Int → Prop)
    (hlock : ∀ L st got keys held steps i k l, Okt n N stripes l0 L st got keys held steps → i < n → L.getD i [] = k :: l → st.getD i 0 = 0 → stripeS stripes k ∉ held → Inv L st got keys held → Inv L (st.set i 1) got keys (stripeS stripes k :: held))
    (hlook : ∀ L st got keys held steps i k l, Okt n N stripes l0 L st got keys held steps → i < n → L.getD i [] = k :: l → st.getD i 0 = 1 → Inv L st got keys held → Inv L (st.set i 2) (got.set i (got.getD i [] ++ [(indexS room keys k).1])) (indexS room keys k).2 held)
    (hleave : ∀ L st got keys held steps i k l, Okt n N stripes l0 L st got keys held steps → i < n → L.getD i [] = k :: l → st.getD i 0 = 2 → Inv L st got keys held → Inv (L.set i l) (st.set i 0) got keys (held.erase (stripeS stripes k))) :
    ∀ (g : Nat) (L : List (List S26)) (st : List Int) (got : List (List Int)) (keys : List S26) (held : List Int) (at_ last steps : Int), sumR n (t3 L st) < g → 0 ≤ steps → Okt n N stripes l0 L st got keys held steps → Inv L st got keys held →
      ∃ L' st' got' keys', tabL n room stripes P g L st got keys held at_ last steps = some (got', keys', 3 * (N : Int), 0) ∧ Okt n N stripes l0 L' st' got' keys' [] (3 * (N : Int)) ∧ (∀ i, i < n → L'.getD i [] = []) ∧ Inv L' st' got' keys' []
  | 0, _, _, _, _, _, _, _, _, h, _, _, _ => by omega
  | g + 1, L, st, got, keys, held, at_, last, steps, h, h0, hO, hI => by
    rw [tabL]
    by_cases c : idx (enT stripes n L st held) = []
    · rw [if_pos c]
      have hf := hO.free c
      obtain ⟨e1, e2⟩ := hO.done hf
      subst e1
      refine ⟨L, st, got, keys, by rw [e2]; rfl, by rw [← e2]; exact hO, hf, hI⟩
    · rw [if_neg c]
      obtain ⟨i, hw, hi, he⟩ := who_mem P at_ last _ c
      rw [enL_length] at hi
      rw [enL_get i hi] at he
      obtain ⟨k, l, hl, hfree⟩ := enB_true.1 he
      simp only [hw, Int.toNat_natCast]
      have hcount := hO.count
      rw [if_pos ⟨by omega, by omega, by omega, by omega⟩]
      rw [hl]
      dsimp only
      have hpos : 0 < sumR n (t3 L st) := by
        refine Nat.lt_of_lt_of_le ?_ (sumR_le n i (t3 L st) hi)
        unfold t3
        rw [hl, List.length_cons]
        rcases hO.three i hi with h | h | h
        · rw [h]; simp
        · rw [h.1]; simp; omega
        · rw [h.1]; simp; omega
      rcases hO.three i hi with h3 | h3 | h3
      · rw [if_pos h3, if_neg (hfree h3)]
        have hO2 := hO.lock i hi k l hl h3 (hfree h3)
        exact tab_run n N room stripes P l0 hN hl0 Inv hlock hlook hleave g _ _ _ _ _ _ _ _ (by have := hO2.count; omega) (by omega) hO2 (hlock _ _ _ _ _ _ _ _ _ hO hi hl h3 (hfree h3) hI)
      · rw [if_neg (by rw [h3.1]; decide), if_pos h3.1, if_pos ⟨by have := hO.few; omega, by have := hO.told i hi; have := hl0 i hi; rw [h3.1, if_neg (by decide)] at *; omega⟩]
        have hO2 := hO.look room i hi k l hl h3.1
        exact tab_run n N room stripes P l0 hN hl0 Inv hlock hlook hleave g _ _ _ _ _ _ _ _ (by have := hO2.count; omega) (by omega) hO2 (hlook _ _ _ _ _ _ _ _ _ hO hi hl h3.1 hI)
      · have hO2 := hO.leave i hi k l hl h3.1
        rw [if_neg (by rw [h3.1]; decide), if_neg (by rw [h3.1]; decide), if_pos h3.1, if_pos ⟨hO2.2, hO.nodup⟩]
        exact tab_run n N room stripes P l0 hN hl0 Inv hlock hlook hleave g _ _ _ _ _ _ _ _ (by have := hO2.1.count; omega) (by omega) hO2.1 (hleave _ _ _ _ _ _ _ _ _ hO hi hl h3.1 hI)
def sumK (W : List (List S26)) : Nat := (W.map List.length).sum
theorem allT_eq : ∀ (W : List (List S26)) (a : Nat), a + sumK W ≤ 1000000 → allT (a : Int) W = ((a + sumK W : Nat) : Int)
  | [], a, _ => by simp [allT, sumK]
  | x :: W, a, hb => by
    have e0 : sumK (x :: W) = x.length + sumK W := by simp [sumK]
    rw [e0] at hb
    have e : wrap64 ((a : Int) + (x.length : Int)) = ((a + x.length : Nat) : Int) := by rw [wr64 (by omega) (by omega)]; omega
    rw [allT, e, allT_eq W (a + x.length) (by omega), e0]
    omega
theorem sumK_R : ∀ W : List (List S26), sumK W = sumR W.length fun i => (W.getD i []).length := by
  intro W
  have : ∀ n, n ≤ W.length → sumK (W.take n) = sumR n fun i => (W.getD i []).length := by
    intro n
    induction n with
    | zero => intro _; simp [sumK, sumR]
    | succ n ih =>
      intro hn
      have e : W.take (n + 1) = W.take n ++ [W.getD n []] := by
        rw [List.take_add_one, List.getD_eq_getElem?_getD, List.getElem?_eq_getElem (by omega)]
        rfl
      rw [sumR, ← ih (by omega), e]
      simp [sumK]
  rw [← this W.length (Nat.le_refl _), List.take_length]
theorem getD_rep {α : Type} (n i : Nat) (a : α) : (List.replicate n a).getD i a = a := by
  rw [List.getD_eq_getElem?_getD, List.getElem?_replicate]
  split <;> rfl
/-- the whole play -/
theorem tab_whole (l0 : List (List S26)) (room stripes : Int) (P : List Int) (hn : l0.length ≤ 64) (hN : sumK l0 ≤ 4096) (hg : ∀ x ∈ l0, ∀ k ∈ x, Gk k) (hP : P.length ≤ 1000000) (Inv : List (List S26) → List Int → List (List Int) → List S26 → List Int → Prop)
    (hstart : Inv l0 (List.replicate l0.length 0) (List.replicate l0.length []) [] [])
    (hlock : ∀ L st got keys held steps i k l, Okt l0.length (sumK l0) stripes l0 L st got keys held steps → i < l0.length → L.getD i [] = k :: l → st.getD i 0 = 0 → stripeS stripes k ∉ held → Inv L st got keys held → Inv L (st.set i 1) got keys (stripeS stripes k :: held))
    (hlook : ∀ L st got keys held steps i k l, Okt l0.length (sumK l0) stripes l0 L st got keys held steps → i < l0.length → L.getD i [] = k :: l → st.getD i 0 = 1 → Inv L st got keys held → Inv L (st.set i 2) (got.set i (got.getD i [] ++ [(indexS room keys k).1])) (indexS room keys k).2 held)
    (hleave : ∀ L st got keys held steps i k l, Okt l0.length (sumK l0) stripes l0 L st got keys held steps → i < l0.length → L.getD i [] = k :: l → st.getD i 0 = 2 → Inv L st got keys held → Inv (L.set i l) (st.set i 0) got keys (held.erase (stripeS stripes k))) :
    ∃ L' st' got' keys', table_Play.f l0 room stripes P = some (got', keys', 3 * (sumK l0 : Int), 0) ∧ Okt l0.length (sumK l0) stripes l0 L' st' got' keys' [] (3 * (sumK l0 : Int)) ∧ (∀ i, i < l0.length → L'.getD i [] = []) ∧ Inv L' st' got' keys' [] := by
  have ha : allT 0 l0 = ((sumK l0 : Nat) : Int) := by
    have := allT_eq l0 0 (by omega)
    rw [Nat.zero_add] at this
    exact this
  have e3 : sumR l0.length (t3 l0 (List.replicate l0.length 0)) = 3 * sumK l0 := by
    rw [sumK_R, ← sumR_mul]
    refine sumR_same _ _ _ (fun j hj => ?_)
    unfold t3
    rw [getD_rep]
    simp
  have er : sumR l0.length (rm l0 (List.replicate l0.length 0)) = sumK l0 := by
    rw [sumK_R]
    refine sumR_same _ _ _ (fun j hj => ?_)
    unfold rm
    rw [getD_rep]
    simp
  have hO : Okt l0.length (sumK l0) stripes l0 l0 (List.replicate l0.length 0) (List.replicate l0.length []) [] [] 0 := by
    refine ⟨rfl, by simp, by simp, fun i hi => .inl (getD_rep _ _ _), fun i hi h => absurd (getD_rep _ _ _) h, fun i j hi hj _ h => absurd (getD_rep _ _ _) h, (fun h hh => by cases hh), List.nodup_nil, ?_, fun i hi => ?_, ?_⟩
    · rw [e3]; omega
    · rw [getD_rep, getD_rep]; simp
    · rw [er]; simp
  unfold table_Play.f tabF
  rw [if_pos ⟨by omega, hP, hg⟩, ha, if_neg (by omega), Int.toNat_natCast]
  exact tab_run l0.length (sumK l0) room stripes P l0 hN (fun i hi => by rw [sumK_R]; exact sumR_le _ i (fun i => (l0.getD i []).length) hi) Inv hlock hlook hleave _ _ _ _ _ _ _ _ _ (by rw [e3]; omega) (by omega) hO hstart
end Go.Proofs.YtmgfkdnoclmbgaaDoor
