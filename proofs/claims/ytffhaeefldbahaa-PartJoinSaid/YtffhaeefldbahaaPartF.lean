/-
A copy of a list is a row of its own; no condition but the list's length.
-/
import Derived.Test.YtffhaeefldbahaaPartD
import Derived.Lib.BufferMore
namespace Go.Proofs.Ytffhaeefldbahaa
open Go.RowKit
attribute [local go_sem ↓] Go.wp_at_zero Go.wp_at_succ
def mix (f : Int → Int) (l : List Int) (k : Nat) : List Int := (l.take k).map f ++ l.drop k
theorem mix_length (f : Int → Int) (l : List Int) (k : Nat) : (mix f l k).length = l.length := by simp [mix]; omega
theorem mix_zero (f : Int → Int) (l : List Int) : mix f l 0 = l := by simp [mix]
theorem mix_all (f : Int → Int) (l : List Int) : mix f l l.length = l.map f := by simp [mix]
theorem drop_cons (l : List Int) (k : Nat) (hk : k < l.length) : l.drop k = l.getD k 0 :: l.drop (k + 1) := by
  rw [List.drop_eq_getElem_cons hk]
  simp [List.getD_eq_getElem?_getD, hk]
theorem take_snoc (l : List Int) (k : Nat) (hk : k < l.length) : l.take (k + 1) = l.take k ++ [l.getD k 0] := by
  rw [List.take_succ_eq_append_getElem hk]
  simp [List.getD_eq_getElem?_getD, hk]
theorem mix_getD (f : Int → Int) (l : List Int) (k : Nat) (hk : k < l.length) : (mix f l k).getD k 0 = l.getD k 0 := by
  unfold mix
  rw [List.getD_eq_getElem?_getD, List.getElem?_append_right (by simp; omega), List.getD_eq_getElem?_getD]
  simp
  congr 2
  omega
theorem mix_step (f : Int → Int) (l : List Int) (k : Nat) (hk : k < l.length) : (mix f l k).set k (f (l.getD k 0)) = mix f l (k + 1) := by
  unfold mix
  rw [drop_cons l k hk, take_snoc l k hk, List.set_append_right _ _ (by simp; omega), List.map_append]
  have : k - ((l.take k).map f).length = 0 := by simp; omega
  rw [this]
  simp
theorem mix_stay (f : Int → Int) (l : List Int) (k : Nat) (hk : k < l.length) (h : f (l.getD k 0) = l.getD k 0) : mix f l k = mix f l (k + 1) := by
  rw [← mix_step f l k hk, h]
  apply List.ext_getElem (by simp)
  intro j h1 h2
  rw [List.getElem_set]
  split
  · rename_i e
    subst e
    have := mix_getD f l k hk
    rw [List.getD_eq_getElem?_getD, List.getElem?_eq_getElem h1] at this
    exact this
  · rfl
def OwnP (l : List Int) (w : World) (e : Ending) (w' : World) : Prop := ∃ v, e = .returned v ∧ w'.ownsRow w.heap.size 3 1 v l.length (ints l) ∧ Below w.heap.size w w'
set_option maxHeartbeats 2000000 in
theorem clone_any (A : Option Addr) (c : Nat) (l : List Int) (w : World) (hr : RowI w A l) (hl : l.length ≤ 65536) : Calls Try.prog 25 #[.slice A l.length c] w (OwnP l w) := by
  rcases A with _ | ad
  · have h0 : l = [] := by
      rcases Nat.eq_zero_or_pos l.length with h | h
      · exact List.eq_nil_of_length_eq_zero h
      · obtain ⟨ad, h, _⟩ := hr.2.2 h
        cases h
    clear hr
    subst h0
    have hq := Lib.run_eql_slice_nil_nil (P := Try.prog) w 0 c Try.underlying28
    go_enter Try.func25, Try.ntmps25
    go_wp2
    go_ret
    exact ⟨_, rfl, World.ownsRow_nil _ _ _ _, Below.refl _ _⟩
  · have HR := Lib.hid hr
    clear hr
    have hq := Lib.run_eql_slice_some_nil (P := Try.prog) w ad l.length c Try.underlying28
    go_enter Try.func25, Try.ntmps25
    go_wp2_with
      (at_builtin
       refine append_row w.heap.size rfl (.tmp 5) (.tmp 6) 28 3 (.int .i64 0) 1 8 rfl Try.underlying28 info3 rfl (by omega) (by omega) (.slice (some ⟨w.heap.size, 0, none⟩) 0 0) 0 [] (ints l) (some ad) l.length c rfl rfl (World.ownsRow_lit w #[] 0 (Nat.le_refl _) (by simp [maxLen]) rfl) (by rw [Nat.mul_one]; exact HR.out.kept (below_alloc (Below.refl _ _) _)) (ints_one _) (by simp) (by omega) ?_
       intro v1 w5 hown hg hat
       have HO := Lib.hid hown
       have HB := Lib.hid ((below_alloc (Below.refl w.heap.size w) (.cells #[] 3)).grown hg (by simp) (fun j hj => by simp [Value.ownBlock] at hj; omega))
       clear hown hg hat)
    go_ret
    exact ⟨_, rfl, by have := HO.out; rw [Nat.zero_add, List.nil_append] at this; exact this, HB.out⟩
end Go.Proofs.Ytffhaeefldbahaa
