/-
Rows that are handed over are no longer than memory allows: openers that keep each row's weight. Condition: the weights of what is handed over are small.
-/
import Derived.Test.YtmgfkdnoclmbgaaDoorOpen
import Derived.SizedLaws
namespace Go.Proofs.YtmgfkdnoclmbgaaDoor
open Go.ChangeShapes Go.WideShapes Go.RowKit Go.Proofs.YtmgfkdnoclmbgaaDoorW.PrintWords
/-- as Opens, where what is read has small weights -/
def OpensZ (P : Program) (w : World) (t : TypeId) {α : Type} (d : Kd α) (G : α → Prop) : Prop :=
  ∀ {H : Type} (enc : TypeId × Value → H) (base : Nat) (spare : Nat → Bool) (held : Bool) (fuel : Nat) (cs : List Value) (x : DataW H × List MemPlace), DataW.trod enc P w base spare held fuel t cs = some x → (∀ n ∈ x.1.weights P t, n ≤ reachBytes) → ∃ a : α, d.K w a cs ∧ G a
section
variable {P : Program} {w : World} {t e : TypeId}
theorem Opens.z {α : Type} {d : Kd α} {G : α → Prop} (h : Opens P w t d G) : OpensZ P w t d G := fun enc base spare held fuel cs x hx _ => h enc base spare held fuel cs x hx
theorem weights_all {H : Type} : ∀ (l : List (DataW H)) (d : DataW H), d ∈ l → ∀ n ∈ d.weights P e, n ∈ DataW.weightsAll P e l
  | [], _, h, _, _ => by cases h
  | y :: l, d, h, n, hn => by
    simp only [DataW.weightsAll, List.mem_append]
    rcases List.mem_cons.1 h with h | h
    · exact .inl (h ▸ hn)
    · exact .inr (weights_all l d h n hn)
theorem opensZ_slice {α : Type} {d : Kd α} {G : α → Prop} (ht : P.underlying t = some (.slice e)) (hc : P.cellsOf e = d.sz) (ho : OpensZ P w e d G) : OpensZ P w t (Kd.slice e d) (fun l => (l.length ≤ maxLen ∧ l.length * P.bytesOf e ≤ reachBytes) ∧ ∀ x ∈ l, G x) := by
  intro H enc base spare held fuel cs x h hz
  rcases DataW.trod_slice ht h with ⟨rfl, _⟩ | ⟨a, len, cap, elems, rest, n, _, rfl, hx, _, hl, hm, hlen, hel, _⟩
  · exact ⟨[], ⟨none, 0, rfl, Nat.le_refl _, rfl, by simp, fun hn => by simp at hn⟩, ⟨by simp, by simp⟩, fun x hx => by simp at hx⟩
  · subst hx
    dsimp only at hz
    have hw : (DataW.weights P t (.slice (elems.map (·.1)) (rest.map (·.1)))) = ((elems.map (·.1)).length + (rest.map (·.1)).length) * P.bytesOf e :: (DataW.weightsAll P e (elems.map (·.1)) ++ DataW.weightsAll P e (rest.map (·.1))) := by
      rw [DataW.weights, ht]
    rw [hw] at hz
    have hz0 := hz _ (List.mem_cons_self ..)
    obtain ⟨l, hll, hr⟩ := list_of (R := fun i a' => ∃ c : List Value, c.length = d.sz ∧ d.K w a' c ∧ (∀ j u, c[j]? = some u → w.cell? (a.add (i * d.sz + j)) = some u) ∧ G a') len (fun i hi => by
      have h1 := hel i hi
      have hi2 : i < elems.length := by omega
      rw [List.getElem?_eq_getElem hi2] at h1
      obtain ⟨c, hcs, hy⟩ := Option.bind_eq_some_iff.1 h1
      obtain ⟨a', hk, hg⟩ := ho enc base spare held n c _ hy (fun m hm => hz m (List.mem_cons_of_mem _ (List.mem_append_left _ (weights_all _ _ (List.mem_map_of_mem (f := (·.1)) (List.getElem_mem hi2)) m hm))))
      obtain ⟨_, hcl, hcell⟩ := World.cells?_some hcs
      rw [hc] at hcl hcell
      refine ⟨a', c, hcl, hk, fun j u hu => ?_, hg⟩
      have hj : j < d.sz := by rw [← hcl]; exact (List.getElem?_eq_some_iff.1 hu).1
      have h3 := hcell j hj
      rw [hu] at h3
      rw [← h3, addr_add])
    refine ⟨l, ⟨some a, cap, by rw [hll], by omega, rfl, by unfold maxLen at hm; omega, fun _ => ⟨a, rfl, fun j p hp => ?_⟩⟩, ⟨by omega, ?_⟩, fun x hx => ?_⟩
    · obtain ⟨c, h1, h2, h3, _⟩ := hr j p hp
      exact ⟨c, h1, h2, h3⟩
    · refine Nat.le_trans (Nat.mul_le_mul_right _ ?_) hz0
      rw [List.length_map]
      omega
    · obtain ⟨i, hi⟩ := List.getElem?_of_mem hx
      obtain ⟨_, _, _, _, hg⟩ := hr i x hi
      exact hg
/-- a list that is handed over, with its weights -/
theorem opensZ_list {α : Type} {d : Kd α} {G : List α → Prop} {r : Reach} {b0 base : Nat} {spare : Nat → Bool} {held : Bool} {v : Value} {H : Type} {enc : TypeId × Value → H} {dd : DataW H} {p : List MemPlace} (ht : P.underlying t = some (.slice e)) (ho : OpensZ P w t (Kd.slice e d) G) (hv : Value.okWide P w r b0 t v) (h : DataW.Trod enc P w base spare held t v dd p)
    {ts : List TypeId} {ds : List (DataW H)} {j : Nat} (hsz : (DataW.weightsEach P ts ds).all (· ≤ reachBytes) = true) (hj : ts[j]? = some t) (hd : ds[j]? = some dd) :
    ∃ (l : List α) (A : Option Addr) (c : Nat), v = .slice A l.length c ∧ l.length ≤ c ∧ d.C w A l.length l ∧ G l := by
  obtain ⟨a, len, cap, rfl⟩ := okWide_slice ht hv
  obtain ⟨fuel, hf⟩ := h
  obtain ⟨l, ⟨A, c, e1, e2, e3⟩, hg⟩ := ho enc base spare held fuel _ _ hf (fun n hn => by
    have := List.all_eq_true.1 hsz n (DataW.weights_mem_each hj hd n hn)
    simpa using this)
  simp only [Value.cells, List.cons.injEq, and_true] at e1
  exact ⟨l, A, c, e1, e2, e3, hg⟩
end
end Go.Proofs.YtmgfkdnoclmbgaaDoor
