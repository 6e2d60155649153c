/-
Two classes united, by the program and by the reference: a row of its own; no condition but the list's length.
-/
import Derived.Test.YtffhaeefldbahaaPartE
import Derived.Test.YtffhaeefldbahaaPartF
namespace Go.Proofs.Ytffhaeefldbahaa
open Go.RowKit
attribute [local go_sem ↓] Go.wp_at_zero Go.wp_at_succ
def swap (hi lo c : Int) : Int := if c = hi then lo else c
theorem swap_yes {hi lo c : Int} (h : c = hi) : swap hi lo c = lo := if_pos h
theorem swap_no {hi lo c : Int} (h : ¬ c = hi) : swap hi lo c = c := if_neg h
def uniteL (l : List Int) (x y : Int) : List Int := if thereB l.length x y = true then l.map (swap (max (l.getD x.toNat 0) (l.getD y.toNat 0)) (min (l.getD x.toNat 0) (l.getD y.toNat 0))) else l
theorem uniteL_no {l : List Int} {x y : Int} (h : ¬ thereB l.length x y = true) : uniteL l x y = l := if_neg h
theorem uniteL_yes {l : List Int} {x y lo hi : Int} (h : thereB l.length x y = true) (h1 : min (l.getD x.toNat 0) (l.getD y.toNat 0) = lo) (h2 : max (l.getD x.toNat 0) (l.getD y.toNat 0) = hi) : uniteL l x y = l.map (swap hi lo) := by rw [uniteL, if_pos h, h1, h2]
theorem uniteL_length (l : List Int) (x y : Int) : (uniteL l x y).length = l.length := by unfold uniteL; split <;> simp
theorem thereB_iff (n : Nat) (x y : Int) : thereB n x y = true ↔ 0 ≤ x ∧ 0 ≤ y ∧ x < n ∧ y < n := by simp [thereB]
set_option maxHeartbeats 4000000 in
theorem unite_any (A : Option Addr) (c : Nat) (l : List Int) (x y : Int) (w : World) (hr : RowI w A l) (hl : l.length ≤ 65536) : Calls Try.prog 13 #[.slice A l.length c, .int .i64 x, .int .i64 y] w (OwnP (uniteL l x y) w) := by
  have HR := Lib.hid hr
  clear hr
  go_enter Try.func13, Try.ntmps13
  go_wp2_with fail
  refine (clone_any A c l w HR.out hl).mono ?_
  rintro e w1 ⟨v, rfl, hown, hb⟩
  have HR := Lib.hid (HR.out.kept hb)
  have HO := Lib.hid hown
  have HB := Lib.hid hb
  clear hown hb
  go_wp2_with fail
  refine (there_any A l.length c x y w1).mono ?_
  rintro e w2 ⟨rfl, hb⟩
  have HR := Lib.hid (HR.out.kept hb)
  have HO := Lib.hid (own_kept HO.out hb)
  have HB := Lib.hid (below_next HB.out hb HB.out.size)
  clear hb
  by_cases ht : thereB l.length x y = true
  · have HT := Lib.hid ht
    have ⟨ht0, ht1, ht2, ht3⟩ := (thereB_iff _ _ _).1 HT.out
    obtain ⟨ad, rfl, hc⟩ := RowI.at_int HR.out x ht0 ht2
    obtain ⟨ad', e, hd⟩ := RowI.at_int HR.out y ht1 ht3
    obtain rfl : ad = ad' := by injection e
    obtain ⟨a, ha⟩ : ∃ a, a = l.getD x.toNat 0 := ⟨_, rfl⟩
    obtain ⟨b, hb'⟩ : ∃ b, b = l.getD y.toNat 0 := ⟨_, rfl⟩
    rw [← ha] at hc
    rw [← hb'] at hd
    have HA := Lib.hid ha
    have HBB := Lib.hid hb'
    clear e
    have hown := HO.out
    rcases hown.2 with ⟨_, h0⟩ | ⟨g, cap, cur, rfl, hgb, _⟩
    · omega
    clear hown
    rcases Int.lt_trichotomy a b with hab | hab | hab
    · have HE := Lib.hid (uniteL_yes (l := l) (x := x) (y := y) (lo := a) (hi := b) HT.out (by rw [← HA.out, ← HBB.out]; omega) (by rw [← HA.out, ← HBB.out]; omega))
      clear ha hb'
      go_wp2
      go_quiet (fail)
      go_wp2
      go_loopw [10, 11, 41] (fun _ _ v wr => ∃ k : Nat, k ≤ l.length ∧ v = .int .i64 k ∧ wr.ownsRow w.heap.size 3 1 (.slice (some ⟨g, 0, none⟩) l.length cap) l.length (ints (mix (swap b a) l k)) ∧ Below w.heap.size w wr) (fun _ _ v _ => l.length - (intOf v).toNat)
      case atStart => exact ⟨0, by omega, rfl, (by rw [mix_zero]; first | exact own_drewN HO.out _ | exact own_kept HO.out (below_drew (Below.refl _ _))), (by first | exact below_drewN HB.out _ | exact below_drew HB.out)⟩
      case round =>
        obtain ⟨k, hk, rfl, hown, hB⟩ := hrel
        have HB := Lib.hid hB
        by_cases hlt : k < l.length
        · have p1 : (0 : Int) ≤ (k : Int) := by omega
          have p2 : (k : Int) < (l.length : Int) := by omega
          have e0 := own_cell_int hown k hlt
          rw [mix_getD _ _ _ hlt] at e0
          obtain ⟨z, hz⟩ : ∃ z, z = l.getD k 0 := ⟨_, rfl⟩
          rw [← hz] at e0
          by_cases hzh : z = b
          · have e1 := hown.frozenAt k
            have hst := (hown.stored k (.int .i64 a)).1
            have hm := mix_step (swap b a) l k hlt
            rw [← hz, swap_yes hzh] at hm
            rw [ints_set, hm] at hst
            have HS := Lib.hid hst
            have q0 : (z == b) = true := by simp [hzh]
            clear hst hown hB hz hzh hm
            go_wp2
            go_roundw
            case rel => exact ⟨k + 1, by omega, by go_num, HS.out, HB.out.setCell hgb _⟩
            case measure => simp [intOf]; omega
          · have q0 : (z == b) = false := by simp [hzh]
            have HS := Lib.hid (show wr.ownsRow w.heap.size 3 1 (.slice (some ⟨g, 0, none⟩) l.length cap) l.length (ints (mix (swap b a) l (k + 1))) by
              rw [← mix_stay _ l k hlt (swap_no (by rw [← hz]; exact hzh))]
              exact hown)
            clear hown hB hz hzh
            go_wp2
            go_roundw
            case rel => exact ⟨k + 1, by omega, by go_num, HS.out, HB.out⟩
            case measure => simp [intOf]; omega
        · obtain rfl : k = l.length := by omega
          have HO := Lib.hid hown
          clear hown hB
          go_wp2
          go_ret
          exact ⟨_, rfl, by have := HO.out; rw [mix_all, ← HE.out] at this; rw [uniteL_length]; exact this, HB.out⟩
    · subst hab
      have HE := Lib.hid (uniteL_yes (l := l) (x := x) (y := y) (lo := a) (hi := a) HT.out (by rw [← HA.out, ← HBB.out]; omega) (by rw [← HA.out, ← HBB.out]; omega))
      clear ha hb'
      go_wp2
      go_quiet (fail)
      go_wp2
      go_loopw [10, 11, 41] (fun _ _ v wr => ∃ k : Nat, k ≤ l.length ∧ v = .int .i64 k ∧ wr.ownsRow w.heap.size 3 1 (.slice (some ⟨g, 0, none⟩) l.length cap) l.length (ints (mix (swap a a) l k)) ∧ Below w.heap.size w wr) (fun _ _ v _ => l.length - (intOf v).toNat)
      case atStart => exact ⟨0, by omega, rfl, (by rw [mix_zero]; first | exact own_drewN HO.out _ | exact own_kept HO.out (below_drew (Below.refl _ _))), (by first | exact below_drewN HB.out _ | exact below_drew HB.out)⟩
      case round =>
        obtain ⟨k, hk, rfl, hown, hB⟩ := hrel
        have HB := Lib.hid hB
        by_cases hlt : k < l.length
        · have p1 : (0 : Int) ≤ (k : Int) := by omega
          have p2 : (k : Int) < (l.length : Int) := by omega
          have e0 := own_cell_int hown k hlt
          rw [mix_getD _ _ _ hlt] at e0
          obtain ⟨z, hz⟩ : ∃ z, z = l.getD k 0 := ⟨_, rfl⟩
          rw [← hz] at e0
          by_cases hzh : z = a
          · have e1 := hown.frozenAt k
            have hst := (hown.stored k (.int .i64 a)).1
            have hm := mix_step (swap a a) l k hlt
            rw [← hz, swap_yes hzh] at hm
            rw [ints_set, hm] at hst
            have HS := Lib.hid hst
            have q0 : (z == a) = true := by simp [hzh]
            clear hst hown hB hz hzh hm
            go_wp2
            go_roundw
            case rel => exact ⟨k + 1, by omega, by go_num, HS.out, HB.out.setCell hgb _⟩
            case measure => simp [intOf]; omega
          · have q0 : (z == a) = false := by simp [hzh]
            have HS := Lib.hid (show wr.ownsRow w.heap.size 3 1 (.slice (some ⟨g, 0, none⟩) l.length cap) l.length (ints (mix (swap a a) l (k + 1))) by
              rw [← mix_stay _ l k hlt (swap_no (by rw [← hz]; exact hzh))]
              exact hown)
            clear hown hB hz hzh
            go_wp2
            go_roundw
            case rel => exact ⟨k + 1, by omega, by go_num, HS.out, HB.out⟩
            case measure => simp [intOf]; omega
        · obtain rfl : k = l.length := by omega
          have HO := Lib.hid hown
          clear hown hB
          go_wp2
          go_ret
          exact ⟨_, rfl, by have := HO.out; rw [mix_all, ← HE.out] at this; rw [uniteL_length]; exact this, HB.out⟩
    · have HE := Lib.hid (uniteL_yes (l := l) (x := x) (y := y) (lo := b) (hi := a) HT.out (by rw [← HA.out, ← HBB.out]; omega) (by rw [← HA.out, ← HBB.out]; omega))
      clear ha hb'
      go_wp2
      go_quiet (fail)
      go_wp2
      go_loopw [10, 11, 41] (fun _ _ v wr => ∃ k : Nat, k ≤ l.length ∧ v = .int .i64 k ∧ wr.ownsRow w.heap.size 3 1 (.slice (some ⟨g, 0, none⟩) l.length cap) l.length (ints (mix (swap a b) l k)) ∧ Below w.heap.size w wr) (fun _ _ v _ => l.length - (intOf v).toNat)
      case atStart => exact ⟨0, by omega, rfl, (by rw [mix_zero]; first | exact own_drewN HO.out _ | exact own_kept HO.out (below_drew (Below.refl _ _))), (by first | exact below_drewN HB.out _ | exact below_drew HB.out)⟩
      case round =>
        obtain ⟨k, hk, rfl, hown, hB⟩ := hrel
        have HB := Lib.hid hB
        by_cases hlt : k < l.length
        · have p1 : (0 : Int) ≤ (k : Int) := by omega
          have p2 : (k : Int) < (l.length : Int) := by omega
          have e0 := own_cell_int hown k hlt
          rw [mix_getD _ _ _ hlt] at e0
          obtain ⟨z, hz⟩ : ∃ z, z = l.getD k 0 := ⟨_, rfl⟩
          rw [← hz] at e0
          by_cases hzh : z = a
          · have e1 := hown.frozenAt k
            have hst := (hown.stored k (.int .i64 b)).1
            have hm := mix_step (swap a b) l k hlt
            rw [← hz, swap_yes hzh] at hm
            rw [ints_set, hm] at hst
            have HS := Lib.hid hst
            have q0 : (z == a) = true := by simp [hzh]
            clear hst hown hB hz hzh hm
            go_wp2
            go_roundw
            case rel => exact ⟨k + 1, by omega, by go_num, HS.out, HB.out.setCell hgb _⟩
            case measure => simp [intOf]; omega
          · have q0 : (z == a) = false := by simp [hzh]
            have HS := Lib.hid (show wr.ownsRow w.heap.size 3 1 (.slice (some ⟨g, 0, none⟩) l.length cap) l.length (ints (mix (swap a b) l (k + 1))) by
              rw [← mix_stay _ l k hlt (swap_no (by rw [← hz]; exact hzh))]
              exact hown)
            clear hown hB hz hzh
            go_wp2
            go_roundw
            case rel => exact ⟨k + 1, by omega, by go_num, HS.out, HB.out⟩
            case measure => simp [intOf]; omega
        · obtain rfl : k = l.length := by omega
          have HO := Lib.hid hown
          clear hown hB
          go_wp2
          go_ret
          exact ⟨_, rfl, by have := HO.out; rw [mix_all, ← HE.out] at this; rw [uniteL_length]; exact this, HB.out⟩
  · have HE := Lib.hid (uniteL_no ht)
    have ht : thereB l.length x y = false := by simpa using ht
    go_wp2
    go_ret
    exact ⟨v, rfl, by rw [HE.out]; exact HO.out, HB.out⟩
set_option maxHeartbeats 4000000 in
theorem runite_any (A : Option Addr) (c : Nat) (l : List Int) (x y : Int) (w : World) (hr : RowI w A l) (hl : l.length ≤ 65536) : Calls Try.prog 22 #[.slice A l.length c, .int .i64 x, .int .i64 y] w (OwnP (uniteL l x y) w) := by
  have HR := Lib.hid hr
  clear hr
  by_cases ht : thereB l.length x y = true
  · have HT := Lib.hid ht
    have ⟨ht0, ht1, ht2, ht3⟩ := (thereB_iff _ _ _).1 ht
    have t1 : decide (0 ≤ x ∧ x < (l.length : Int)) = true := by simp; omega
    have t2 : decide (0 ≤ y ∧ y < (l.length : Int)) = true := by simp; omega
    clear ht
    go_enter Try.func22, Try.ntmps22
    go_wp2_with first
      | (at_builtin
         refine append_row w.heap.size rfl (.tmp 11) (.tmp 12) 28 3 (.int .i64 0) 1 8 rfl Try.underlying28 info3 rfl (by omega) (by omega) (.slice (some ⟨w.heap.size, 0, none⟩) 0 0) 0 [] (ints l) A l.length c rfl rfl (World.ownsRow_lit w #[] 0 (Nat.le_refl _) (by simp [maxLen]) rfl) (by rw [Nat.mul_one]; exact HR.out.kept (below_alloc (Below.refl _ _) _)) (ints_one _) (by simp) (by omega) ?_
         intro v w1 hown hg hat
         rw [Nat.zero_add, List.nil_append] at hown
         have HO := Lib.hid hown
         have HB := Lib.hid ((below_alloc (Below.refl w.heap.size w) (.cells #[] 3)).grown hg (by simp) (fun j hj => by simp [Value.ownBlock] at hj; omega))
         have HR := Lib.hid (HR.out.kept HB.out)
         clear hown hg hat)
      | (go_at_call 27
         refine (rthere_any _ _ _).mono ?_
         rintro e w2 ⟨rfl, rfl⟩
         first | rw [t1] | rw [t2])
    obtain ⟨ad, rfl, hc⟩ := RowI.at_int HR.out x ht0 ht2
    obtain ⟨ad', e, hd⟩ := RowI.at_int HR.out y ht1 ht3
    obtain rfl : ad = ad' := by injection e
    obtain ⟨a, ha⟩ : ∃ a, a = l.getD x.toNat 0 := ⟨_, rfl⟩
    obtain ⟨b, hb'⟩ : ∃ b, b = l.getD y.toNat 0 := ⟨_, rfl⟩
    rw [← ha] at hc
    rw [← hb'] at hd
    have HA := Lib.hid ha
    have HBB := Lib.hid hb'
    clear e
    have hown := HO.out
    rcases hown.2 with ⟨_, h0⟩ | ⟨g, cap, cur, rfl, hgb, _⟩
    · omega
    clear hown
    rcases Int.lt_trichotomy a b with hab | hab | hab
    · have HE := Lib.hid (uniteL_yes (l := l) (x := x) (y := y) (lo := a) (hi := b) HT.out (by rw [← HA.out, ← HBB.out]; omega) (by rw [← HA.out, ← HBB.out]; omega))
      clear ha hb'
      go_wp2
      go_quiet (fail)
      go_wp2
      go_loopw [10] (fun v wr => ∃ k : Nat, k ≤ l.length ∧ v = .int .i64 k ∧ wr.ownsRow w.heap.size 3 1 (.slice (some ⟨g, 0, none⟩) l.length cap) l.length (ints (mix (swap b a) l k)) ∧ Below w.heap.size w wr) (fun v _ => l.length - (intOf v).toNat)
      case atStart => exact ⟨0, by omega, rfl, (by rw [mix_zero]; first | exact own_drewN HO.out _ | exact own_kept HO.out (below_drew (Below.refl _ _))), (by first | exact below_drewN HB.out _ | exact below_drew HB.out)⟩
      case round =>
        obtain ⟨k, hk, rfl, hown, hB⟩ := hrel
        have HB := Lib.hid hB
        by_cases hlt : k < l.length
        · have p1 : (0 : Int) ≤ (k : Int) := by omega
          have p2 : (k : Int) < (l.length : Int) := by omega
          have e0 := own_cell_int hown k hlt
          rw [mix_getD _ _ _ hlt] at e0
          obtain ⟨z, hz⟩ : ∃ z, z = l.getD k 0 := ⟨_, rfl⟩
          rw [← hz] at e0
          by_cases hzh : z = b
          · have e1 := hown.frozenAt k
            have hst := (hown.stored k (.int .i64 a)).1
            have hm := mix_step (swap b a) l k hlt
            rw [← hz, swap_yes hzh] at hm
            rw [ints_set, hm] at hst
            have HS := Lib.hid hst
            have q0 : (z == b) = true := by simp [hzh]
            clear hst hown hB hz hzh hm
            go_wp2
            go_roundw
            case rel => exact ⟨k + 1, by omega, by go_num, HS.out, HB.out.setCell hgb _⟩
            case measure => simp [intOf]; omega
          · have q0 : (z == b) = false := by simp [hzh]
            have HS := Lib.hid (show wr.ownsRow w.heap.size 3 1 (.slice (some ⟨g, 0, none⟩) l.length cap) l.length (ints (mix (swap b a) l (k + 1))) by
              rw [← mix_stay _ l k hlt (swap_no (by rw [← hz]; exact hzh))]
              exact hown)
            clear hown hB hz hzh
            go_wp2
            go_roundw
            case rel => exact ⟨k + 1, by omega, by go_num, HS.out, HB.out⟩
            case measure => simp [intOf]; omega
        · obtain rfl : k = l.length := by omega
          have HO := Lib.hid hown
          clear hown hB
          go_wp2
          go_ret
          exact ⟨_, rfl, by have := HO.out; rw [mix_all, ← HE.out] at this; rw [uniteL_length]; exact this, HB.out⟩
    · subst hab
      have HE := Lib.hid (uniteL_yes (l := l) (x := x) (y := y) (lo := a) (hi := a) HT.out (by rw [← HA.out, ← HBB.out]; omega) (by rw [← HA.out, ← HBB.out]; omega))
      clear ha hb'
      go_wp2
      go_quiet (fail)
      go_wp2
      go_loopw [10] (fun v wr => ∃ k : Nat, k ≤ l.length ∧ v = .int .i64 k ∧ wr.ownsRow w.heap.size 3 1 (.slice (some ⟨g, 0, none⟩) l.length cap) l.length (ints (mix (swap a a) l k)) ∧ Below w.heap.size w wr) (fun v _ => l.length - (intOf v).toNat)
      case atStart => exact ⟨0, by omega, rfl, (by rw [mix_zero]; first | exact own_drewN HO.out _ | exact own_kept HO.out (below_drew (Below.refl _ _))), (by first | exact below_drewN HB.out _ | exact below_drew HB.out)⟩
      case round =>
        obtain ⟨k, hk, rfl, hown, hB⟩ := hrel
        have HB := Lib.hid hB
        by_cases hlt : k < l.length
        · have p1 : (0 : Int) ≤ (k : Int) := by omega
          have p2 : (k : Int) < (l.length : Int) := by omega
          have e0 := own_cell_int hown k hlt
          rw [mix_getD _ _ _ hlt] at e0
          obtain ⟨z, hz⟩ : ∃ z, z = l.getD k 0 := ⟨_, rfl⟩
          rw [← hz] at e0
          by_cases hzh : z = a
          · have e1 := hown.frozenAt k
            have hst := (hown.stored k (.int .i64 a)).1
            have hm := mix_step (swap a a) l k hlt
            rw [← hz, swap_yes hzh] at hm
            rw [ints_set, hm] at hst
            have HS := Lib.hid hst
            have q0 : (z == a) = true := by simp [hzh]
            clear hst hown hB hz hzh hm
            go_wp2
            go_roundw
            case rel => exact ⟨k + 1, by omega, by go_num, HS.out, HB.out.setCell hgb _⟩
            case measure => simp [intOf]; omega
          · have q0 : (z == a) = false := by simp [hzh]
            have HS := Lib.hid (show wr.ownsRow w.heap.size 3 1 (.slice (some ⟨g, 0, none⟩) l.length cap) l.length (ints (mix (swap a a) l (k + 1))) by
              rw [← mix_stay _ l k hlt (swap_no (by rw [← hz]; exact hzh))]
              exact hown)
            clear hown hB hz hzh
            go_wp2
            go_roundw
            case rel => exact ⟨k + 1, by omega, by go_num, HS.out, HB.out⟩
            case measure => simp [intOf]; omega
        · obtain rfl : k = l.length := by omega
          have HO := Lib.hid hown
          clear hown hB
          go_wp2
          go_ret
          exact ⟨_, rfl, by have := HO.out; rw [mix_all, ← HE.out] at this; rw [uniteL_length]; exact this, HB.out⟩
    · have HE := Lib.hid (uniteL_yes (l := l) (x := x) (y := y) (lo := b) (hi := a) HT.out (by rw [← HA.out, ← HBB.out]; omega) (by rw [← HA.out, ← HBB.out]; omega))
      clear ha hb'
      go_wp2
      go_quiet (fail)
      go_wp2
      go_loopw [10] (fun v wr => ∃ k : Nat, k ≤ l.length ∧ v = .int .i64 k ∧ wr.ownsRow w.heap.size 3 1 (.slice (some ⟨g, 0, none⟩) l.length cap) l.length (ints (mix (swap a b) l k)) ∧ Below w.heap.size w wr) (fun v _ => l.length - (intOf v).toNat)
      case atStart => exact ⟨0, by omega, rfl, (by rw [mix_zero]; first | exact own_drewN HO.out _ | exact own_kept HO.out (below_drew (Below.refl _ _))), (by first | exact below_drewN HB.out _ | exact below_drew HB.out)⟩
      case round =>
        obtain ⟨k, hk, rfl, hown, hB⟩ := hrel
        have HB := Lib.hid hB
        by_cases hlt : k < l.length
        · have p1 : (0 : Int) ≤ (k : Int) := by omega
          have p2 : (k : Int) < (l.length : Int) := by omega
          have e0 := own_cell_int hown k hlt
          rw [mix_getD _ _ _ hlt] at e0
          obtain ⟨z, hz⟩ : ∃ z, z = l.getD k 0 := ⟨_, rfl⟩
          rw [← hz] at e0
          by_cases hzh : z = a
          · have e1 := hown.frozenAt k
            have hst := (hown.stored k (.int .i64 b)).1
            have hm := mix_step (swap a b) l k hlt
            rw [← hz, swap_yes hzh] at hm
            rw [ints_set, hm] at hst
            have HS := Lib.hid hst
            have q0 : (z == a) = true := by simp [hzh]
            clear hst hown hB hz hzh hm
            go_wp2
            go_roundw
            case rel => exact ⟨k + 1, by omega, by go_num, HS.out, HB.out.setCell hgb _⟩
            case measure => simp [intOf]; omega
          · have q0 : (z == a) = false := by simp [hzh]
            have HS := Lib.hid (show wr.ownsRow w.heap.size 3 1 (.slice (some ⟨g, 0, none⟩) l.length cap) l.length (ints (mix (swap a b) l (k + 1))) by
              rw [← mix_stay _ l k hlt (swap_no (by rw [← hz]; exact hzh))]
              exact hown)
            clear hown hB hz hzh
            go_wp2
            go_roundw
            case rel => exact ⟨k + 1, by omega, by go_num, HS.out, HB.out⟩
            case measure => simp [intOf]; omega
        · obtain rfl : k = l.length := by omega
          have HO := Lib.hid hown
          clear hown hB
          go_wp2
          go_ret
          exact ⟨_, rfl, by have := HO.out; rw [mix_all, ← HE.out] at this; rw [uniteL_length]; exact this, HB.out⟩
  · have HE := Lib.hid (uniteL_no ht)
    have ht' : ¬ (0 ≤ x ∧ 0 ≤ y ∧ x < (l.length : Int) ∧ y < (l.length : Int)) := fun h => ht ((thereB_iff _ _ _).2 h)
    clear ht
    by_cases h1 : decide (0 ≤ x ∧ x < (l.length : Int)) = true
    · have t2 : decide (0 ≤ y ∧ y < (l.length : Int)) = false := by simp at h1 ⊢; omega
      clear ht'
      go_enter Try.func22, Try.ntmps22
      go_wp2_with first
        | (at_builtin
           refine append_row w.heap.size rfl (.tmp 11) (.tmp 12) 28 3 (.int .i64 0) 1 8 rfl Try.underlying28 info3 rfl (by omega) (by omega) (.slice (some ⟨w.heap.size, 0, none⟩) 0 0) 0 [] (ints l) A l.length c rfl rfl (World.ownsRow_lit w #[] 0 (Nat.le_refl _) (by simp [maxLen]) rfl) (by rw [Nat.mul_one]; exact HR.out.kept (below_alloc (Below.refl _ _) _)) (ints_one _) (by simp) (by omega) ?_
           intro v w1 hown hg hat
           rw [Nat.zero_add, List.nil_append] at hown
           have HO := Lib.hid hown
           have HB := Lib.hid ((below_alloc (Below.refl w.heap.size w) (.cells #[] 3)).grown hg (by simp) (fun j hj => by simp [Value.ownBlock] at hj; omega))
           clear hown hg hat)
        | (go_at_call 27
           refine (rthere_any _ _ _).mono ?_
           rintro e w2 ⟨rfl, rfl⟩
           first | rw [h1] | rw [t2])
      go_ret
      exact ⟨_, rfl, by rw [HE.out]; exact HO.out, HB.out⟩
    · have h1 : decide (0 ≤ x ∧ x < (l.length : Int)) = false := by simpa using h1
      clear ht'
      go_enter Try.func22, Try.ntmps22
      go_wp2_with first
        | (at_builtin
           refine append_row w.heap.size rfl (.tmp 11) (.tmp 12) 28 3 (.int .i64 0) 1 8 rfl Try.underlying28 info3 rfl (by omega) (by omega) (.slice (some ⟨w.heap.size, 0, none⟩) 0 0) 0 [] (ints l) A l.length c rfl rfl (World.ownsRow_lit w #[] 0 (Nat.le_refl _) (by simp [maxLen]) rfl) (by rw [Nat.mul_one]; exact HR.out.kept (below_alloc (Below.refl _ _) _)) (ints_one _) (by simp) (by omega) ?_
           intro v w1 hown hg hat
           rw [Nat.zero_add, List.nil_append] at hown
           have HO := Lib.hid hown
           have HB := Lib.hid ((below_alloc (Below.refl w.heap.size w) (.cells #[] 3)).grown hg (by simp) (fun j hj => by simp [Value.ownBlock] at hj; omega))
           clear hown hg hat)
        | (go_at_call 27
           refine (rthere_any _ _ _).mono ?_
           rintro e w2 ⟨rfl, rfl⟩
           first | rw [h1] | rw [t2])
      go_ret
      exact ⟨_, rfl, by rw [HE.out]; exact HO.out, HB.out⟩
end Go.Proofs.Ytffhaeefldbahaa
