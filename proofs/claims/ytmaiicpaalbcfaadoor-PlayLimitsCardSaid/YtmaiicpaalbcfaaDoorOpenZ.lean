/-
What a caller hands over, as plain data: whole numbers, truths, texts, lists and structs of such; each is a value of its kind in memory. No condition.
Rows that are handed over are no longer than memory allows: openers that keep each row's weight. Condition: the weights of what is handed over are small.
-/
import Derived.Test.YtmaiicpaalbcfaaDoorRows
import Derived.Test.YtmaiicpaalbcfaaDoorWMore
import Derived.Test.YtmaiicpaalbcfaaDoorWSized
import Derived.WalkKit
import Derived.ProofKit
import Derived.OpenShut
import Derived.ShutString
import Derived.ChangeOld
import Derived.Below
import Derived.SizedLaws
namespace Go.Proofs.YtmaiicpaalbcfaaDoor
open Go.ChangeShapes Go.WideShapes Go.ChangeAt Go.RowKit Go.Proofs.YtmaiicpaalbcfaaDoorW.PrintWords
/-- What is handed over at type t is a value of kind d; G is told of it. -/
def Opens (P : Program) (w : World) (t : TypeId) {α : Type} (d : Kd α) (G : α → Prop) : Prop :=
  ∀ {H : Type} (enc : TypeId × Value → H) (base : Nat) (spare : Nat → Bool) (held : Bool) (fuel : Nat) (cs : List Value) (x : DataW H × List MemPlace), DataW.trod enc P w base spare held fuel t cs = some x → ∃ a : α, d.K w a cs ∧ G a
section
variable {P : Program} {w : World} {t e : TypeId}
theorem opens_int {k : IntKind} (ht : P.underlying t = some (.int k)) : Opens P w t (Kd.int k) (fun n => (Lit.int k n).wf = true) := by
  intro H enc base spare held fuel cs x h
  obtain ⟨n, rfl, _, hw⟩ := DataW.trod_int ht h
  exact ⟨n, rfl, hw⟩
theorem opens_bool (ht : P.underlying t = some .bool) : Opens P w t Kd.bool (fun _ => True) := by
  intro H enc base spare held fuel cs x h
  obtain ⟨b, rfl, _⟩ := DataW.trod_bool ht h
  exact ⟨b, rfl, trivial⟩
theorem opens_string (ht : P.underlying t = some .string) : Opens P w t Kd.string (fun s => s.size ≤ maxLen) := by
  intro H enc base spare held fuel cs x h
  obtain ⟨s, rfl, _, hs⟩ := DataW.trod_string ht h
  exact ⟨s, rfl, hs⟩
theorem addr_add (a : Addr) (x y : Nat) : a.add (x + y) = (a.add x).add y := by
  unfold Addr.add
  by_cases hx : x = 0
  · subst hx; simp
  · by_cases hy : y = 0
    · subst hy; simp [hx]
    · simp [hx, hy, Nat.add_assoc]
theorem list_of {α : Type} {R : Nat → α → Prop} : ∀ n : Nat, (∀ i, i < n → ∃ a, R i a) → ∃ l : List α, l.length = n ∧ ∀ (i : Nat) (a : α), l[i]? = some a → R i a
  | 0, _ => ⟨[], rfl, fun i a h => by simp at h⟩
  | n + 1, h => by
    obtain ⟨l, hl, hr⟩ := list_of n (fun i hi => h i (by omega))
    obtain ⟨a, ha⟩ := h n (by omega)
    refine ⟨l ++ [a], by simp [hl], fun i b hb => ?_⟩
    rcases Nat.lt_or_ge i n with hi | hi
    · rw [List.getElem?_append_left (by omega)] at hb
      exact hr i b hb
    · rw [List.getElem?_append_right (by omega), hl] at hb
      obtain rfl : i = n := by
        have := (List.getElem?_eq_some_iff.1 hb).1
        simp at this
        omega
      simp at hb
      subst hb
      exact ha
theorem opens_slice {α : Type} {d : Kd α} {G : α → Prop} (ht : P.underlying t = some (.slice e)) (hc : P.cellsOf e = d.sz) (ho : Opens P w e d G) : Opens P w t (Kd.slice e d) (fun l => l.length ≤ maxLen ∧ ∀ x ∈ l, G x) := by
  intro H enc base spare held fuel cs x h
  rcases DataW.trod_slice ht h with ⟨rfl, _⟩ | ⟨a, len, cap, elems, rest, n, _, rfl, _, _, hl, hm, hlen, hel, _⟩
  · exact ⟨[], ⟨none, 0, rfl, Nat.le_refl _, rfl, by simp, fun hn => by simp at hn⟩, by simp, fun x hx => by simp at hx⟩
  · obtain ⟨l, hll, hr⟩ := list_of (R := fun i a' => ∃ c : List Value, c.length = d.sz ∧ d.K w a' c ∧ (∀ j u, c[j]? = some u → w.cell? (a.add (i * d.sz + j)) = some u) ∧ G a') len (fun i hi => by
      have h1 := hel i hi
      rw [List.getElem?_eq_getElem (by omega)] at h1
      obtain ⟨c, hcs, hy⟩ := Option.bind_eq_some_iff.1 h1
      obtain ⟨a', hk, hg⟩ := ho enc base spare held n c _ hy
      obtain ⟨_, hcl, hcell⟩ := World.cells?_some hcs
      rw [hc] at hcl hcell
      refine ⟨a', c, hcl, hk, fun j u hu => ?_, hg⟩
      have hj : j < d.sz := by rw [← hcl]; exact (List.getElem?_eq_some_iff.1 hu).1
      have h3 := hcell j hj
      rw [hu] at h3
      rw [← h3, addr_add])
    refine ⟨l, ⟨some a, cap, by rw [hll], by omega, rfl, by unfold maxLen at hm; omega, fun _ => ⟨a, rfl, fun j p hp => ?_⟩⟩, by omega, fun x hx => ?_⟩
    · obtain ⟨c, h1, h2, h3, _⟩ := hr j p hp
      exact ⟨c, h1, h2, h3⟩
    · obtain ⟨i, hi⟩ := List.getElem?_of_mem hx
      obtain ⟨_, _, _, _, hg⟩ := hr i x hi
      exact hg
/-- fields in line -/
def OpensF (P : Program) (w : World) (fs : List Field) (off n : Nat) {α : Type} (d : Kd α) (G : α → Prop) : Prop :=
  d.sz = n ∧ ∀ {H : Type} (enc : TypeId × Value → H) (base : Nat) (spare : Nat → Bool) (held : Bool) (fuel : Nat) (cs : List Value), (∀ f ∈ fs, ∃ x, DataW.trod enc P w base spare held fuel f.type ((cs.drop f.offset).take (P.cellsOf f.type)) = some x) → ∃ a : α, d.K w a ((cs.drop off).take n) ∧ G a
theorem opens_last {f : Field} {off n : Nat} {α : Type} {d : Kd α} {G : α → Prop} (ho : Opens P w f.type d G) (h1 : f.offset = off) (h2 : P.cellsOf f.type = n) (h3 : d.sz = n) : OpensF P w [f] off n d G := by
  refine ⟨h3, ?_⟩
  intro H enc base spare held fuel cs h
  obtain ⟨x, hx⟩ := h f (by simp)
  rw [h1, h2] at hx
  exact ho enc base spare held fuel _ x hx
theorem opens_cons {f : Field} {fs : List Field} {off off' n m : Nat} {α β : Type} {d : Kd α} {d' : Kd β} {G : α → Prop} {G' : β → Prop} (ho : Opens P w f.type d G) (hr : OpensF P w fs off' m d' G') (h1 : f.offset = off) (h2 : P.cellsOf f.type = n) (h3 : d.sz = n) (h4 : off' = off + n) :
    OpensF P w (f :: fs) off (n + m) (Kd.pair d d') (fun x => G x.1 ∧ G' x.2) := by
  refine ⟨by rw [← h3, ← hr.1]; rfl, ?_⟩
  intro H enc base spare held fuel cs h
  obtain ⟨x, hx⟩ := h f (by simp)
  rw [h1, h2] at hx
  obtain ⟨a, hk, hg⟩ := ho enc base spare held fuel _ x hx
  obtain ⟨b, hk', hg'⟩ := hr.2 enc base spare held fuel cs (fun f' hf => h f' (List.mem_cons_of_mem _ hf))
  refine ⟨(a, b), ⟨_, _, ?_, hk, hk'⟩, hg, hg'⟩
  rw [h4, List.take_add, List.drop_drop]
theorem opens_struct {fs : List Field} {n : Nat} {α : Type} {d : Kd α} {G : α → Prop} (ht : P.underlying t = some (.struct fs.toArray)) (hc : P.cellsOf t = n) (ho : OpensF P w fs 0 n d G) : Opens P w t d G := by
  intro H enc base spare held fuel cs x h
  obtain ⟨xs, m, _, _, hl, hxl, hf⟩ := DataW.trod_struct ht h
  obtain ⟨a, hk, hg⟩ := ho.2 enc base spare held m cs (fun f hm => by
    obtain ⟨i, hi⟩ := List.getElem?_of_mem hm
    have h1 := hf i f (by simpa using hi)
    have hi' : i < xs.length := by rw [hxl]; simpa using (List.getElem?_eq_some_iff.1 hi).1
    rw [List.getElem?_eq_getElem hi'] at h1
    exact ⟨_, h1⟩)
  refine ⟨a, ?_, hg⟩
  rw [List.drop_zero, List.take_of_length_le (by omega)] at hk
  exact hk
theorem opens_iso {α β : Type} {d : Kd α} {G : α → Prop} (f : β → α) (g : α → β) (hfg : ∀ a, f (g a) = a) (ho : Opens P w t d G) : Opens P w t (Kd.iso d f) (fun b => G (f b)) := by
  intro H enc base spare held fuel cs x h
  obtain ⟨a, hk, hg⟩ := ho enc base spare held fuel cs x h
  refine ⟨g a, ?_, by show G (f (g a)); rw [hfg]; exact hg⟩
  show d.K w (f (g a)) cs
  rw [hfg]
  exact hk
theorem opens_weak {α : Type} {d : Kd α} {G G' : α → Prop} (ho : Opens P w t d G) (h : ∀ a, G a → G' a) : Opens P w t d G' := by
  intro H enc base spare held fuel cs x hx
  obtain ⟨a, hk, hg⟩ := ho enc base spare held fuel cs x hx
  exact ⟨a, hk, h a hg⟩
/-- a list that is handed over -/
theorem opens_list {α : Type} {d : Kd α} {G : List α → Prop} {r : Reach} {b0 base : Nat} {spare : Nat → Bool} {held : Bool} {v : Value} {H : Type} {enc : TypeId × Value → H} {dd : DataW H} {p : List MemPlace} (ht : P.underlying t = some (.slice e)) (ho : Opens P w t (Kd.slice e d) G) (hv : Value.okWide P w r b0 t v) (h : DataW.Trod enc P w base spare held t v dd p) :
    ∃ (l : List α) (A : Option Addr) (c : Nat), v = .slice A l.length c ∧ l.length ≤ c ∧ d.C w A l.length l ∧ G l := by
  obtain ⟨a, len, cap, rfl⟩ := okWide_slice ht hv
  obtain ⟨fuel, hf⟩ := h
  obtain ⟨l, ⟨A, c, e1, e2, e3⟩, hg⟩ := ho enc base spare held fuel _ _ hf
  simp only [Value.cells, List.cons.injEq, and_true] at e1
  exact ⟨l, A, c, e1, e2, e3, hg⟩
/-- a struct that is handed over -/
theorem opens_agg {fs : Array Field} {α : Type} {d : Kd α} {G : α → Prop} {r : Reach} {b0 base : Nat} {spare : Nat → Bool} {held : Bool} {v : Value} {H : Type} {enc : TypeId × Value → H} {dd : DataW H} {p : List MemPlace} (ht : P.underlying t = some (.struct fs)) (ho : Opens P w t d G) (hv : Value.okWide P w r b0 t v) (h : DataW.Trod enc P w base spare held t v dd p) :
    ∃ (a : α) (cs : List Value), v = .agg cs.toArray ∧ d.K w a cs ∧ G a := by
  obtain ⟨⟨cs⟩, rfl, _⟩ := okWide_struct ht hv
  obtain ⟨fuel, hf⟩ := h
  obtain ⟨a, hk, hg⟩ := ho enc base spare held fuel _ _ hf
  exact ⟨a, cs, rfl, by simpa [Value.cells] using hk, hg⟩
end
end Go.Proofs.YtmaiicpaalbcfaaDoor

namespace Go.Proofs.YtmaiicpaalbcfaaDoor
open Go.ChangeShapes Go.WideShapes Go.RowKit Go.Proofs.YtmaiicpaalbcfaaDoorW.PrintWords
/-- as Opens, where what is read has small weights -/
def OpensZ (P : Program) (w : World) (t : TypeId) {α : Type} (d : Kd α) (G : α → Prop) : Prop :=
  ∀ {H : Type} (enc : TypeId × Value → H) (base : Nat) (spare : Nat → Bool) (held : Bool) (fuel : Nat) (cs : List Value) (x : DataW H × List MemPlace), DataW.trod enc P w base spare held fuel t cs = some x → (∀ n ∈ x.1.weights P t, n ≤ reachBytes) → ∃ a : α, d.K w a cs ∧ G a
section
variable {P : Program} {w : World} {t e : TypeId}
theorem Opens.z {α : Type} {d : Kd α} {G : α → Prop} (h : Opens P w t d G) : OpensZ P w t d G := fun enc base spare held fuel cs x hx _ => h enc base spare held fuel cs x hx
theorem weights_all {H : Type} : ∀ (l : List (DataW H)) (d : DataW H), d ∈ l → ∀ n ∈ d.weights P e, n ∈ DataW.weightsAll P e l
  | [], _, h, _, _ => by cases h
  | y :: l, d, h, n, hn => by
    simp only [DataW.weightsAll, List.mem_append]
    rcases List.mem_cons.1 h with h | h
    · exact .inl (h ▸ hn)
    · exact .inr (weights_all l d h n hn)
theorem opensZ_slice {α : Type} {d : Kd α} {G : α → Prop} (ht : P.underlying t = some (.slice e)) (hc : P.cellsOf e = d.sz) (ho : OpensZ P w e d G) : OpensZ P w t (Kd.slice e d) (fun l => (l.length ≤ maxLen ∧ l.length * P.bytesOf e ≤ reachBytes) ∧ ∀ x ∈ l, G x) := by
  intro H enc base spare held fuel cs x h hz
  rcases DataW.trod_slice ht h with ⟨rfl, _⟩ | ⟨a, len, cap, elems, rest, n, _, rfl, hx, _, hl, hm, hlen, hel, _⟩
  · exact ⟨[], ⟨none, 0, rfl, Nat.le_refl _, rfl, by simp, fun hn => by simp at hn⟩, ⟨by simp, by simp⟩, fun x hx => by simp at hx⟩
  · subst hx
    dsimp only at hz
    have hw : (DataW.weights P t (.slice (elems.map (·.1)) (rest.map (·.1)))) = ((elems.map (·.1)).length + (rest.map (·.1)).length) * P.bytesOf e :: (DataW.weightsAll P e (elems.map (·.1)) ++ DataW.weightsAll P e (rest.map (·.1))) := by
      rw [DataW.weights, ht]
    rw [hw] at hz
    have hz0 := hz _ (List.mem_cons_self ..)
    obtain ⟨l, hll, hr⟩ := list_of (R := fun i a' => ∃ c : List Value, c.length = d.sz ∧ d.K w a' c ∧ (∀ j u, c[j]? = some u → w.cell? (a.add (i * d.sz + j)) = some u) ∧ G a') len (fun i hi => by
      have h1 := hel i hi
      have hi2 : i < elems.length := by omega
      rw [List.getElem?_eq_getElem hi2] at h1
      obtain ⟨c, hcs, hy⟩ := Option.bind_eq_some_iff.1 h1
      obtain ⟨a', hk, hg⟩ := ho enc base spare held n c _ hy (fun m hm => hz m (List.mem_cons_of_mem _ (List.mem_append_left _ (weights_all _ _ (List.mem_map_of_mem (f := (·.1)) (List.getElem_mem hi2)) m hm))))
      obtain ⟨_, hcl, hcell⟩ := World.cells?_some hcs
      rw [hc] at hcl hcell
      refine ⟨a', c, hcl, hk, fun j u hu => ?_, hg⟩
      have hj : j < d.sz := by rw [← hcl]; exact (List.getElem?_eq_some_iff.1 hu).1
      have h3 := hcell j hj
      rw [hu] at h3
      rw [← h3, addr_add])
    refine ⟨l, ⟨some a, cap, by rw [hll], by omega, rfl, by unfold maxLen at hm; omega, fun _ => ⟨a, rfl, fun j p hp => ?_⟩⟩, ⟨by omega, ?_⟩, fun x hx => ?_⟩
    · obtain ⟨c, h1, h2, h3, _⟩ := hr j p hp
      exact ⟨c, h1, h2, h3⟩
    · refine Nat.le_trans (Nat.mul_le_mul_right _ ?_) hz0
      rw [List.length_map]
      omega
    · obtain ⟨i, hi⟩ := List.getElem?_of_mem hx
      obtain ⟨_, _, _, _, hg⟩ := hr i x hi
      exact hg
/-- a list that is handed over, with its weights -/
theorem opensZ_list {α : Type} {d : Kd α} {G : List α → Prop} {r : Reach} {b0 base : Nat} {spare : Nat → Bool} {held : Bool} {v : Value} {H : Type} {enc : TypeId × Value → H} {dd : DataW H} {p : List MemPlace} (ht : P.underlying t = some (.slice e)) (ho : OpensZ P w t (Kd.slice e d) G) (hv : Value.okWide P w r b0 t v) (h : DataW.Trod enc P w base spare held t v dd p)
    {ts : List TypeId} {ds : List (DataW H)} {j : Nat} (hsz : (DataW.weightsEach P ts ds).all (· ≤ reachBytes) = true) (hj : ts[j]? = some t) (hd : ds[j]? = some dd) :
    ∃ (l : List α) (A : Option Addr) (c : Nat), v = .slice A l.length c ∧ l.length ≤ c ∧ d.C w A l.length l ∧ G l := by
  obtain ⟨a, len, cap, rfl⟩ := okWide_slice ht hv
  obtain ⟨fuel, hf⟩ := h
  obtain ⟨l, ⟨A, c, e1, e2, e3⟩, hg⟩ := ho enc base spare held fuel _ _ hf (fun n hn => by
    have := List.all_eq_true.1 hsz n (DataW.weights_mem_each hj hd n hn)
    simpa using this)
  simp only [Value.cells, List.cons.injEq, and_true] at e1
  exact ⟨l, A, c, e1, e2, e3, hg⟩
end
end Go.Proofs.YtmaiicpaalbcfaaDoor
