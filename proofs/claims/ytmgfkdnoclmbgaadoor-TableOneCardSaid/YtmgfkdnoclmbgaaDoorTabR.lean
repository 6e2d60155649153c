/-
With room for all the table has each key that was asked for, and no other one. Condition: the limits hold.
-/
import Derived.Test.YtmgfkdnoclmbgaaDoorTabQ
namespace Go.Proofs.YtmgfkdnoclmbgaaDoor
open Go.RowKit Go.Proofs.YtmgfkdnoclmbgaaDoorW.PrintWords Go.Proofs.YtmgfkdnoclmbgaaDoorW.PrintLast Go.Proofs.YtmgfkdnoclmbgaaDoorW.PrintMore Go.Proofs.YtmgfkdnoclmbgaaDoor.P Go.Proofs.YtmgfkdnoclmbgaaDoor.Bits
set_option linter.unusedVariables false
theorem key_eq (a b : S26) : (a.f0.toList == b.f0.toList && (a.f1 == b.f1 && (a.f2 == b.f2))) = decide (a = b) := by
  rw [Bool.eq_iff_iff, decide_eq_true_eq, Bool.and_eq_true, Bool.and_eq_true, beq_iff_eq, beq_iff_eq, beq_iff_eq, ByteArray.toList_eq, ByteArray.toList_eq]
  constructor
  · rintro ⟨h1, h2, h3⟩
    have h0 := Go.WideShapes.bytes_inj h1
    cases a; cases b; simp_all
  · rintro rfl
    exact ⟨rfl, rfl, rfl⟩
theorem len_subset {α : Type} [DecidableEq α] : ∀ l m : List α, l.Nodup → (∀ x ∈ l, x ∈ m) → l.length ≤ m.length
  | [], m, _, _ => Nat.zero_le _
  | a :: l, m, hn, h => by
    rw [List.nodup_cons] at hn
    have hm := h a (List.mem_cons_self ..)
    have := len_subset l (m.erase a) hn.2 fun x hx => (List.mem_erase_of_ne (fun e => hn.1 (by rw [← e]; exact hx))).2 (h x (List.mem_cons_of_mem _ hx))
    rw [List.length_erase_of_mem hm] at this
    have := List.length_pos_of_mem hm
    rw [List.length_cons]
    omega
/-- all that were asked for -/
theorem Told.all {n : Nat} {room : Int} {l0 L : List (List S26)} {got : List (List Int)} {keys : List S26} (h : Told n room l0 L got keys) (hg : ∀ i, i < n → (got.getD i []).length = (l0.getD i []).length) (hr : (keys.length : Int) < room) (i : Nat) (hi : i < n) (x : S26) (hx : x ∈ l0.getD i []) : x ∈ keys := by
  obtain ⟨p, hp, e⟩ := List.mem_iff_getElem.1 hx
  rcases h.entry i hi p x (by rw [hg i hi]; exact hp) (by rw [List.getElem?_eq_getElem hp, e]) with ⟨q, h1, h2, h3⟩ | ⟨_, h2⟩
  · rw [← h3, List.getD_eq_getElem?_getD, List.getElem?_eq_getElem h2]
    exact List.getElem_mem _
  · omega
theorem told_same {n : Nat} {room : Int} {l0 L L2 : List (List S26)} {got got2 : List (List Int)} {keys keys2 : List S26} (h : Told n room l0 L got keys) (h2 : Told n room l0 L2 got2 keys2) (hg2 : ∀ i, i < n → (got2.getD i []).length = (l0.getD i []).length) (hr2 : (keys2.length : Int) < room) : ∀ x ∈ keys, x ∈ keys2 := fun x hx => by
  obtain ⟨i, hi, hm⟩ := h.from_ x hx
  exact h2.all hg2 hr2 i hi x hm
end Go.Proofs.YtmgfkdnoclmbgaaDoor
