/-
Marking along pairs from 0, as many rounds as there are elements, marks just the class of 0. No condition but that the pairs are of elements.
-/
import Derived.Test.YtffhaeefldbahaaPartX
import Derived.Test.YtffhaeefldbahaaPartQ
namespace Go.Proofs.Ytffhaeefldbahaa
open Go.RowKit
def bget (b : List Bool) (i : Nat) : Bool := b.getD i false
def markP (b : List Bool) (p : Int × Int) : List Bool := if bget b p.1.toNat || bget b p.2.toNat then (b.set p.1.toNat true).set p.2.toNat true else b
def marks (ps : Pairs) (b : List Bool) : List Bool := ps.foldl markP b
def rounds (ps : Pairs) (b : List Bool) : Nat → List Bool
  | 0 => b
  | r + 1 => marks ps (rounds ps b r)
theorem markP_length (b : List Bool) (p : Int × Int) : (markP b p).length = b.length := by
  unfold markP
  split <;> simp
theorem marks_length : ∀ (ps : Pairs) (b : List Bool), (marks ps b).length = b.length
  | [], _ => rfl
  | p :: ps, b => by
    show (marks ps (markP b p)).length = _
    rw [marks_length ps, markP_length]
theorem rounds_length (ps : Pairs) (b : List Bool) : ∀ r, (rounds ps b r).length = b.length
  | 0 => rfl
  | r + 1 => by rw [rounds, marks_length, rounds_length ps b r]
theorem bget_set (b : List Bool) (i j : Nat) (hj : j < b.length) (x : Bool) : bget (b.set i x) j = if i = j then x else bget b j := by
  unfold bget
  rw [List.getD_eq_getElem?_getD, List.getD_eq_getElem?_getD, List.getElem?_set]
  split
  · rename_i h
    subst h
    rw [if_pos hj]
    rfl
  · rfl
/-- what one pair marks -/
theorem bget_markP (b : List Bool) (p : Int × Int) (j : Nat) (hj : j < b.length) : bget (markP b p) j = (bget b j || ((bget b p.1.toNat || bget b p.2.toNat) && (decide (j = p.1.toNat) || decide (j = p.2.toNat)))) := by
  unfold markP
  split
  · rename_i h
    rw [bget_set _ _ _ (by simpa using hj), bget_set _ _ _ hj, h]
    by_cases h1 : p.2.toNat = j
    · simp [h1]
    · by_cases h2 : p.1.toNat = j
      · simp [h1, h2]
      · simp [h1, h2, Ne.symm h1, Ne.symm h2]
  · rename_i h
    simp only [Bool.not_eq_true] at h
    rw [h]
    simp
def Sub (b c : List Bool) : Prop := ∀ j, j < b.length → bget b j = true → bget c j = true
theorem sub_markP (b : List Bool) (p : Int × Int) : Sub b (markP b p) := fun j hj h => by rw [bget_markP _ _ _ hj, h]; rfl
theorem sub_marks : ∀ (ps : Pairs) (b : List Bool), Sub b (marks ps b)
  | [], _ => fun _ _ h => h
  | p :: ps, b => fun j hj h => sub_marks ps (markP b p) j (by rw [markP_length]; exact hj) (sub_markP b p j hj h)
theorem sub_rounds (ps : Pairs) (b : List Bool) : ∀ r, Sub b (rounds ps b r)
  | 0 => fun _ _ h => h
  | r + 1 => fun j hj h => sub_marks ps _ j (by rw [rounds_length]; exact hj) (sub_rounds ps b r j hj h)
/-- what is marked is of 0's class -/
def Sound (m : List Int) (b : List Bool) : Prop := ∀ j, j < b.length → bget b j = true → m.getD j 0 = m.getD 0 0
theorem sound_markP {m : List Int} {b : List Bool} {p : Int × Int} (h : Sound m b) (h1 : p.1.toNat < b.length) (h2 : p.2.toNat < b.length) (hm : m.getD p.1.toNat 0 = m.getD p.2.toNat 0) : Sound m (markP b p) := by
  intro j hj hb
  rw [markP_length] at hj
  rw [bget_markP _ _ _ hj] at hb
  simp only [Bool.or_eq_true, Bool.and_eq_true, decide_eq_true_eq] at hb
  have e1 := h _ h1
  have e2 := h _ h2
  rcases hb with hb | ⟨hb, rfl | rfl⟩
  · exact h j hj hb
  · rcases hb with hb | hb
    · exact e1 hb
    · rw [hm]; exact e2 hb
  · rcases hb with hb | hb
    · rw [← hm]; exact e1 hb
    · exact e2 hb
def InN (n : Nat) (p : Int × Int) : Prop := p.1.toNat < n ∧ p.2.toNat < n
theorem sound_marks {m : List Int} : ∀ (ps : Pairs) (b : List Bool), Sound m b → (∀ p ∈ ps, InN b.length p ∧ m.getD p.1.toNat 0 = m.getD p.2.toNat 0) → Sound m (marks ps b)
  | [], _, h, _ => h
  | p :: ps, b, h, hp => by
    have h0 := hp p (by simp)
    exact sound_marks ps _ (sound_markP h h0.1.1 h0.1.2 h0.2) (fun q hq => by rw [markP_length]; exact hp q (by simp [hq]))
theorem sound_rounds {m : List Int} (ps : Pairs) (b : List Bool) (h : Sound m b) (hp : ∀ p ∈ ps, InN b.length p ∧ m.getD p.1.toNat 0 = m.getD p.2.toNat 0) : ∀ r, Sound m (rounds ps b r)
  | 0 => h
  | r + 1 => sound_marks ps _ (sound_rounds ps b h hp r) (fun q hq => by rw [rounds_length]; exact hp q hq)
/-- closed under pairs -/
def Closed (ps : Pairs) (b : List Bool) : Prop := ∀ p ∈ ps, bget b p.1.toNat = bget b p.2.toNat
theorem count_set (b : List Bool) (i : Nat) (hi : i < b.length) (h : bget b i = false) : (b.set i true).count true = b.count true + 1 := by
  have : b[i] = false := by unfold bget at h; rw [List.getD_eq_getElem?_getD, List.getElem?_eq_getElem hi] at h; exact h
  rw [List.count_set hi, this]
  simp
theorem set_same (b : List Bool) (i : Nat) (h : bget b i = true) : b.set i true = b := by
  apply List.ext_getElem (by simp)
  intro j h1 h2
  rw [List.getElem_set]
  split
  · rename_i e
    subst e
    unfold bget at h
    rw [List.getD_eq_getElem?_getD, List.getElem?_eq_getElem h2] at h
    exact h.symm
  · rfl
theorem count_markP (b : List Bool) (p : Int × Int) (h1 : p.1.toNat < b.length) (h2 : p.2.toNat < b.length) : (bget b p.1.toNat = bget b p.2.toNat ∧ markP b p = b) ∨ b.count true + 1 ≤ (markP b p).count true := by
  unfold markP
  cases e1 : bget b p.1.toNat <;> cases e2 : bget b p.2.toNat
  · exact .inl ⟨rfl, by simp⟩
  · right
    have hne : p.1.toNat ≠ p.2.toNat := fun h => by rw [h, e2] at e1; cases e1
    have : bget (b.set p.1.toNat true) p.2.toNat = true := by rw [bget_set _ _ _ h2, e2]; split <;> rfl
    simp only [Bool.or_true, if_true]
    rw [set_same _ _ this, count_set _ _ h1 e1]
    exact Nat.le_refl _
  · right
    have hne : p.1.toNat ≠ p.2.toNat := fun h => by rw [h, e2] at e1; cases e1
    simp only [Bool.or_false, if_true]
    rw [set_same _ _ e1, count_set _ _ h2 e2]
    exact Nat.le_refl _
  · exact .inl ⟨rfl, by simp [set_same _ _ e1, set_same _ _ e2]⟩
theorem count_marks : ∀ (ps : Pairs) (b : List Bool), (∀ p ∈ ps, InN b.length p) → (Closed ps b ∧ marks ps b = b) ∨ b.count true + 1 ≤ (marks ps b).count true
  | [], _, _ => .inl ⟨fun _ h => absurd h (by simp), rfl⟩
  | p :: ps, b, hp => by
    have h0 := hp p (by simp)
    have hs : ∀ q ∈ ps, InN (markP b p).length q := fun q hq => by rw [markP_length]; exact hp q (by simp [hq])
    have ih := count_marks ps (markP b p) hs
    show (_ ∧ marks ps (markP b p) = b) ∨ _ ≤ (marks ps (markP b p)).count true
    rcases count_markP b p h0.1 h0.2 with ⟨e, hm⟩ | hc
    · rw [hm] at ih ⊢
      rcases ih with ⟨hcl, he⟩ | hc
      · refine .inl ⟨fun q hq => ?_, he⟩
        rcases List.mem_cons.1 hq with rfl | hq
        · exact e
        · exact hcl q hq
      · exact .inr hc
    · right
      rcases ih with ⟨_, he⟩ | hc2
      · rw [he]; exact hc
      · omega
theorem count_rounds (ps : Pairs) (b : List Bool) (hp : ∀ p ∈ ps, InN b.length p) (h1 : 1 ≤ b.count true) : ∀ r, Closed ps (rounds ps b r) ∨ r + 1 ≤ (rounds ps b r).count true
  | 0 => .inr h1
  | r + 1 => by
    have hl : ∀ p ∈ ps, InN (rounds ps b r).length p := fun q hq => by rw [rounds_length]; exact hp q hq
    show Closed ps (marks ps _) ∨ _ ≤ (marks ps _).count true
    rcases count_marks ps (rounds ps b r) hl with ⟨hcl, he⟩ | hc
    · rw [he]; exact .inl hcl
    · rcases count_rounds ps b hp h1 r with hcl | hr
      · -- closed already: then no mark is new
        exact .inl (by
          have : marks ps (rounds ps b r) = rounds ps b r := by
            generalize rounds ps b r = c at hcl hl
            clear hc h1 hp
            induction ps with
            | nil => rfl
            | cons p ps ih =>
              have h0 := hl p (by simp)
              have e : markP c p = c := by
                rcases count_markP c p h0.1 h0.2 with h | h
                · exact h.2
                · unfold markP at h ⊢
                  have := hcl p (by simp)
                  cases e1 : bget c p.1.toNat
                  · rw [e1] at this; simp [← this]
                  · rw [e1] at this; rw [if_pos (by simp), set_same _ _ e1, set_same _ _ this.symm]
              show marks ps (markP c p) = c
              rw [e]
              exact ih (fun q hq => hcl q (by simp [hq])) (fun q hq => hl q (by simp [hq]))
          rw [this]
          exact hcl)
      · exact .inr (by omega)
def b01 (x : Bool) : Int := if x then 1 else 0
theorem closed_all {n : Int} {ps : Pairs} {b : List Bool} (hb : b.length = nn n) (hcl : Closed ps b) (h0 : bget b 0 = true) (hn : 0 < nn n) (j : Nat) (hj : j < nn n) (he : (ofL n ps).getD j 0 = (ofL n ps).getD 0 0) : bget b j = true := by
  have hm : ∀ i, (b.map b01).getD i 0 = b01 (bget b i) := by
    intro i
    unfold bget
    simp only [List.getD_eq_getElem?_getD, List.getElem?_map]
    cases b[i]? <;> rfl
  have h := ofL_least n ps (b.map b01) (by simpa using hb) (fun p hp ht => by rw [hm, hm, hcl p hp])
  rw [leB_iff] at h
  have hl := ofL_length n ps
  have g1 := h.2 j (by rw [hl]; exact hj)
  have g2 := h.2 0 (by rw [hl]; exact hn)
  rw [he] at g1
  rw [hm, hm] at g1 g2
  rw [← g2, h0] at g1
  unfold b01 at g1
  cases e : bget b j
  · rw [e] at g1; simp at g1
  · rfl
/-- All rounds: just the class of 0. -/
theorem rounds_all (n : Int) (ps : Pairs) (k : Nat) (hk : nn n = k) (h0 : 0 < k) (hp : ∀ p ∈ ps, 0 ≤ p.1 ∧ p.1 < k ∧ 0 ≤ p.2 ∧ p.2 < k) (j : Nat) (hj : j < k) :
    bget (rounds ps ((List.replicate k false).set 0 true) k) j = decide ((ofL n ps).getD j 0 = (ofL n ps).getD 0 0) := by
  obtain ⟨b, hb⟩ : ∃ b, b = (List.replicate k false).set 0 true := ⟨_, rfl⟩
  rw [← hb]
  have hl : b.length = k := by rw [hb]; simp
  have hin : ∀ p ∈ ps, InN b.length p := fun p h => by have := hp p h; unfold InN; omega
  have b0 : bget b 0 = true := by rw [hb, bget_set _ _ _ (by simpa using h0)]; rfl
  have hc : 1 ≤ b.count true := by
    rw [hb, count_set _ _ (by simpa using h0) (by unfold bget; cases k <;> simp)]
    omega
  have hs : Sound (ofL n ps) b := by
    intro i hi h
    rw [hb, bget_set _ _ _ (by simpa [hl] using hi)] at h
    split at h
    · rename_i e; rw [← e]
    · unfold bget at h
      rw [List.getD_eq_getElem?_getD, List.getElem?_replicate] at h
      split at h <;> simp at h
  have hso := sound_rounds (m := ofL n ps) ps b hs (fun p h => ⟨hin p h, ofL_joins n ps p (.inl h) (by
    rw [ofL_length, hk]
    have := hp p h
    exact (thereB_iff _ _ _).2 ⟨by omega, by omega, by omega, by omega⟩)⟩) k
  have hcl : Closed ps (rounds ps b k) := by
    rcases count_rounds ps b hin hc k with h | h
    · exact h
    · have := List.count_le_length (a := true) (l := rounds ps b k)
      rw [rounds_length, hl] at this
      omega
  have r0 := sub_rounds ps b k 0 (by omega) b0
  cases e : bget (rounds ps b k) j
  · symm
    rw [decide_eq_false_iff_not]
    intro he
    rw [closed_all (by rw [rounds_length, hl, hk]) hcl r0 (by omega) j (by omega) he] at e
    cases e
  · symm
    rw [decide_eq_true_iff]
    exact hso j (by rw [rounds_length]; omega) e
theorem rounds_same (n : Int) (ps : Pairs) (k : Nat) (hk : nn n = k) (h0 : 0 < k) (hp : ∀ p ∈ ps, 0 ≤ p.1 ∧ p.1 < k ∧ 0 ≤ p.2 ∧ p.2 < k) (j : Nat) (hj : j < k) :
    bget (rounds ps ((List.replicate k false).set 0 true) k) j = sameB (ofL n ps) 0 j := by
  rw [rounds_all n ps k hk h0 hp j hj]
  have ht : thereB (ofL n ps).length 0 j = true := (thereB_iff _ _ _).2 (by rw [ofL_length, hk]; omega)
  unfold sameB
  rw [ht, Bool.true_and]
  simp only [Int.toNat_zero, Int.toNat_natCast]
  by_cases e : (ofL n ps).getD j 0 = (ofL n ps).getD 0 0
  · rw [decide_eq_true e, decide_eq_true e.symm]
  · have e2 : ¬ (ofL n ps).getD 0 0 = (ofL n ps).getD j 0 := fun h => e h.symm
    rw [decide_eq_false e, decide_eq_false e2]
theorem pairsL_range {w : World} {A : Option Addr} {l : List Int} {k : Nat} (hr : RowB w A l) (h0 : 0 < k) : ∀ p ∈ pairsL l k, 0 ≤ p.1 ∧ p.1 < k ∧ 0 ≤ p.2 ∧ p.2 < k := by
  intro p hp
  have hb : ∀ i, 0 ≤ l.getD i 0 := by
    intro i
    rcases Nat.lt_or_ge i l.length with h | h
    · exact (hr.2 i h).1
    · simp [List.getD_eq_getElem?_getD, List.getElem?_eq_none h]
  unfold pairsL pairsTo at hp
  obtain ⟨i, _, rfl⟩ := List.mem_map.1 hp
  have h1 := hb (2 * i)
  have h2 := hb (2 * i + 1)
  refine ⟨Int.tmod_nonneg _ h1, Int.tmod_lt_of_pos _ (by omega), Int.tmod_nonneg _ h2, Int.tmod_lt_of_pos _ (by omega)⟩
theorem cls_more' (n : Int) (ps qs : Pairs) : cls (ofL n (ps ++ qs)) (ofL n (ps ++ qs)).length ≤ cls (ofL n qs) (ofL n qs).length := by
  rw [ofL_same n (ps ++ qs) (qs ++ ps) (fun p hp => .inl (by simp only [List.mem_append] at hp ⊢; exact hp.symm)) (fun p hp => .inl (by simp only [List.mem_append] at hp ⊢; exact hp.symm))]
  exact cls_more n qs ps
theorem le_more' (n : Int) (ps qs : Pairs) : leB (ofL n qs) (ofL n (ps ++ qs)) = true := ofL_le n qs _ (fun _ hp => .inl (List.mem_append_right _ hp))
/-! ### rows of truths -/
def bools (b : List Bool) : List Value := b.map fun x => .bool x
theorem bools_length (b : List Bool) : (bools b).length = b.length := by simp [bools]
theorem bools_getD (b : List Bool) (j : Nat) (h : j < b.length) : (bools b).getD j undef = .bool (bget b j) := by
  simp [bools, bget, List.getD_eq_getElem?_getD, List.getElem?_eq_getElem h]
theorem bools_set (b : List Bool) (j : Nat) (x : Bool) : (bools b).set j (.bool x) = bools (b.set j x) := by simp [bools, List.map_set]
theorem bools_replicate (m : Nat) (x : Bool) : List.replicate m (Value.bool x) = bools (List.replicate m x) := by simp [bools]
theorem own_cell_bool {w : World} {base g n cap : Nat} {e : TypeId} {b : List Bool} (h : w.ownsRow base e 1 (.slice (some ⟨g, 0, none⟩) n cap) n (bools b)) (j : Nat) (hj : j < n) : w.cell? ⟨g, j, none⟩ = some (.bool (bget b j)) := by
  have hl : b.length = n := by have := h.1; rw [bools_length] at this; simpa using this
  rw [own_cell h j hj, bools_getD b j (by omega)]
theorem info4 : (Try.prog.info? 4).map (fun i => (i.zero, i.size, i.bytes)) = some (some (.bool false), 1, 1) := by kernel_rfl
theorem kmakeB (m : Nat) (hm : m ≤ 35184372088832) (W : World) : (Instr.makeSlice 37 (.int .i64 (m : Int)) (.int .i64 (m : Int))).run Try.prog W = .ok (.slice (some ⟨W.heap.size, 0, none⟩) m m) (W.alloc (.cells (madeCells #[.bool false] m) 4)) :=
  run_make_row' 37 4 (.bool false) 1 Try.underlying37 info4 rfl .i64 .i64 m (by omega) (by omega) W
theorem cellsP_add (a b : Pairs) : cellsP (a ++ b) = cellsP a ++ cellsP b := by simp [cellsP]
theorem oneP (ps : Pairs) : ∀ u ∈ cellsP ps, u.oneCell' = true := by
  intro u hu
  obtain ⟨p, _, hp⟩ := List.mem_flatMap.1 hu
  simp at hp
  rcases hp with rfl | rfl <;> rfl
theorem two_off (ad : Addr) (k : Nat) : ad.add (k * 2 + 1) = ⟨(ad.add (k * 2)).block, (ad.add (k * 2)).off + 1, none⟩ := by
  have e : (ad.add (k * 2)).add 1 = ⟨(ad.add (k * 2)).block, (ad.add (k * 2)).off + 1, none⟩ := by
    unfold Addr.add
    simp
  rw [← e, Addr.add_add]
end Go.Proofs.Ytffhaeefldbahaa
