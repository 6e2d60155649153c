/-
The plain statement of PoolOne.
-/
import Derived.Test.YtbkdnenlffiaeaaDoorPoolR
import Derived.Test.YtbkdnenlffiaeaaDoorPx18
namespace Go.Proofs.YtbkdnenlffiaeaaDoor.Pure
open Go.RowKit Go.Proofs.YtbkdnenlffiaeaaDoor Go.Proofs.YtbkdnenlffiaeaaDoor.P Go.Proofs.YtbkdnenlffiaeaaDoorW.PrintWords Go.Proofs.YtbkdnenlffiaeaaDoorW.PrintLast
set_option linter.unusedVariables false
theorem play4 : pool_Play.f [[5, 6, 7, 8]] 4 [] = some ([(⟨0, ⟨0, 5, 0⟩, 0, 1, 5, 5⟩ : S54), ⟨1, ⟨0, 6, 0⟩, 0, 2, 6, 6⟩, ⟨2, ⟨0, 7, 0⟩, 0, 3, 7, 7⟩, ⟨3, ⟨0, 8, 0⟩, 0, 4, 8, 8⟩], 8) := by kernel_rfl
/-- two tasks in two waves: in their order -/
theorem play_two (L : List Int) (hL : L.length ≤ 1000000) : ∃ a b : S54, pool_Play.f [[], [1], [], [2], []] 3 L = some ([a, b], 4) ∧ a.f2 = 1 ∧ b.f2 = 3 := by
  obtain ⟨l', S', busy', T', hp, hO, hl, hI⟩ := play_whole [[], [1], [], [2], []] 3 L (by omega) (by omega) (by decide) (by decide) (by decide) hL (fun S busy T l steps => 0 ≤ steps ∧ Waved [[], [1], [], [2], []] 3 S busy T l steps ∧ Once 1 1 3 S busy T l ∧ Once 2 1 3 S busy T l)
    ⟨Int.le_refl _, Waved.start _ (by decide) 3, Once.start 1 _ 3, Once.start 2 _ 3⟩ (fun W wave r R left busy T l steps i hO hi hb h => ⟨by omega, Waved.take hO h.1 hi hb h.2.1, Once.take (steps := steps) hO hi hb h.2.2.1, Once.take (steps := steps) hO hi hb h.2.2.2⟩)
    (fun W wave R left busy T l steps i hO hi hb h => ⟨by omega, Waved.done (by decide) hO hi hb h.2.1, Once.done (steps := steps) hO hi hb h.2.2.1, Once.done (steps := steps) hO hi hb h.2.2.2⟩)
  obtain ⟨_, hW, h1, h2⟩ := hI
  obtain ⟨o1, o2, o3, o4, o5⟩ := hO
  have hS := o3 hl
  rw [hl] at o2
  have hR : S'.2.2.1 = [] := List.length_eq_zero_iff.1 (by omega)
  have hc : cntB 3 busy' = 0 := by omega
  rw [hS, hR, hc] at o4
  have hlen : l'.length = 2 := o4
  have hcz : ∀ t : Int, cnt 3 (fun i => busy'.testBit i && (T'.getD i (0, 0, 0)).1 == t) = 0 := fun t => by
    rw [cnt_same 3 _ (fun _ => false) (fun j hj => by rw [cnt_none 3 _ hc j hj]; rfl)]
    rfl
  unfold Once at h1 h2
  rw [hcz, hS, hR] at h1 h2
  obtain ⟨_, _, hE, hP⟩ := hW
  match l', hlen, h1, h2, hE, hP, hp with
  | [a, b], _, h1, h2, hE, hP, hp =>
    refine ⟨a, b, hp, ?_⟩
    have ha := hE a (by simp)
    have hb := hE b (by simp)
    have hab := (List.pairwise_cons.1 hP).1 b (by simp)
    have fa : ∀ e : S54, 0 ≤ e.f2 → e.f2 < 5 → e.f1.f1 ∈ ([[], [1], [], [2], []] : List (List Int)).getD e.f2.toNat [] → (e.f2 = 1 ∧ e.f1.f1 = 1) ∨ (e.f2 = 3 ∧ e.f1.f1 = 2) := fun e h0 h5 hm => by
      obtain ⟨n, hn⟩ := Int.eq_ofNat_of_zero_le h0
      rw [hn] at hm h5 ⊢
      rw [Int.toNat_natCast] at hm
      match n, hm with
      | 0, hm => simp at hm
      | 1, hm => exact .inl ⟨rfl, by simpa using hm⟩
      | 2, hm => simp at hm
      | 3, hm => exact .inr ⟨rfl, by simpa using hm⟩
      | 4, hm => simp at hm
      | n + 5, hm => omega
    have e1 := fa a ha.2.2.2.1 ha.2.2.2.2.1 ha.2.2.2.2.2.2.1
    have e2 := fa b hb.2.2.2.1 hb.2.2.2.2.1 hb.2.2.2.2.2.2.1
    simp only [List.map_cons, List.map_nil, List.flatten_nil, List.append_nil, List.count_cons, List.count_nil] at h1 h2
    rcases e1 with ⟨p1, p2⟩ | ⟨p1, p2⟩ <;> rcases e2 with ⟨q1, q2⟩ | ⟨q1, q2⟩
    · rw [p2, q2] at h1; simp at h1
    · exact ⟨p1, q1⟩
    · exact absurd hab.1 (by omega)
    · rw [p2, q2] at h2; simp at h2
theorem one_l1 (a b : S54) (ha : a.f2 = 1) (hb : b.f2 = 3) : Ev (fun k => warplaw24_PoolOne.l1 k [(⟨0, ⟨0, 5, 0⟩, 0, 1, 5, 5⟩ : S54), ⟨1, ⟨0, 6, 0⟩, 0, 2, 6, 6⟩, ⟨2, ⟨0, 7, 0⟩, 0, 3, 7, 7⟩, ⟨3, ⟨0, 8, 0⟩, 0, 4, 8, 8⟩] [a, b] 0) true := by
  have hr : ∀ (m : List S54) (i : Int) (e : S54), 0 ≤ i → i < 4 → (m.length : Int) = 4 → rd_T54 m i = e → e.f3 = i + 1 → e.f5 = i + 5 → e.f1.f1 = 5 + i → Ev (fun k => warplaw24_PoolOne.l1 k m [a, b] (i + 1)) true → Ev (fun k => warplaw24_PoolOne.l1 k m [a, b] i) true := fun m i e h0 h4 hm he h3 h5 h1 h => by
    refine Ev.step (f := fun k => warplaw24_PoolOne.j4 k m [a, b] i false) (fun k => ?_) (Ev.step (fun k => ?_) h)
    · rw [warplaw24_PoolOne.l1, if_pos h4, if_pos h0, if_pos (by omega), he, if_pos (by rw [wr64 (by omega) (by omega)]; exact h3), if_pos (by rw [wr64 (by omega) (by omega)]; exact h5), h1, wr64 (by omega) (by omega)]
      simp
    · rw [warplaw24_PoolOne.j4, if_neg (by simp), wr64 (by omega) (by omega)]
  refine hr _ 0 _ (by omega) (by omega) rfl rfl rfl rfl rfl ?_
  refine hr _ (0 + 1) _ (by omega) (by omega) rfl rfl rfl rfl rfl ?_
  refine hr _ (0 + 1 + 1) _ (by omega) (by omega) rfl rfl rfl rfl rfl ?_
  refine hr _ (0 + 1 + 1 + 1) _ (by omega) (by omega) rfl rfl rfl rfl rfl ?_
  refine Ev.step (fun k => ?_) (Ev.bind_now (f := fun k t => if t = true then (warplaw24_awake.f).bind fun t525 => (some t525) else some false) (ints_same [] (Nat.zero_le _)) fun k => by rw [if_pos rfl]; exact awake24_some k)
  rw [warplaw24_PoolOne.l1, if_neg (by omega), if_pos (by simp), if_pos (show (rd_T54 [a, b] 0).f2 = 1 from ha), if_pos (by simp), if_pos (show (rd_T54 [a, b] 1).f2 = 3 from hb)]
theorem one_l0 (L : List Int) (hL : L.length ≤ 1000000) (l : List S54) (hl : l.length ≤ 4096) (h : ∀ (i : Nat) (e : S54), l[i]? = some e → e.f1.f1 = (i : Int) ∧ e.f3 = 2 * (i : Int) + 1 ∧ e.f5 = 2 * (i : Int) + 2) : ∀ d i : Nat, i + d = l.length → Ev (fun k => warplaw24_PoolOne.l0 k L l (i : Int)) true
  | 0, i, hi => by
    obtain ⟨a, b, hp, ha, hb⟩ := play_two L hL
    refine Ev.step (f := fun k => warplaw24_PoolOne.j2 k [(⟨0, ⟨0, 5, 0⟩, 0, 1, 5, 5⟩ : S54), ⟨1, ⟨0, 6, 0⟩, 0, 2, 6, 6⟩, ⟨2, ⟨0, 7, 0⟩, 0, 3, 7, 7⟩, ⟨3, ⟨0, 8, 0⟩, 0, 4, 8, 8⟩] [a, b] false) (fun k => ?_) (Ev.step (fun k => ?_) (one_l1 a b ha hb))
    · rw [warplaw24_PoolOne.l0, if_neg (by omega), play4, hp]
      rfl
    · rw [warplaw24_PoolOne.j2, if_neg (by simp)]
  | d + 1, i, hi => by
    have hlt : i < l.length := by omega
    obtain ⟨e1, e2, e3⟩ := h i l[i] (List.getElem?_eq_getElem hlt)
    refine Ev.step (f := fun k => warplaw24_PoolOne.j1 k L l (i : Int) false) (fun k => ?_) (Ev.step (fun k => ?_) (one_l0 L hL l hl h d (i + 1) (by omega)))
    · rw [warplaw24_PoolOne.l0, if_pos (by omega), if_pos (by omega), rd54_get l i hlt, if_pos e1, wr64 (i := 2 * (i : Int)) (by omega) (by omega), wr64 (by omega) (by omega), wr64 (by omega) (by omega), if_pos e2, e3]
      simp
    · rw [warplaw24_PoolOne.j1, if_neg (by simp), wr64 (by omega) (by omega)]
      rfl
theorem PoolOne : warplaw24_PoolOne.Pure := by
  intro ns L _ _
  refine Ev.rounds ?_
  by_cases c : (L.length : Int) > 200
  · exact Ev.congr (f := fun k => some true) (fun k => by unfold warplaw24_PoolOne.f; rw [if_pos c]; exact awake24_some k) (Ev.now _)
  · refine Ev.congr (g := fun k => _) (f := fun k => _) (fun k => if_neg c) ?_
    obtain ⟨r, N, hr, hN, hr12, hf, h5⟩ := make_ev ns
    have hs : sumL r = N := sumL_made r N hf
    refine Ev.bind (f := fun k t486 => _) hr ?_
    obtain ⟨l', S', busy', T', hp, hO, hl, hI⟩ := play_whole r 1 L (by omega) (by omega) (by omega) (fun x hx => by have := h5 x hx; omega) (by omega) (by omega) (fun S busy T l steps => T.length = 1 ∧ InTurn N S busy T l steps)
      ⟨rfl, InTurn.start r N hf⟩ (fun W wave r R left busy T l steps i hO hi hb h => by
        obtain rfl : i = 0 := by omega
        exact ⟨by rw [List.length_set]; exact h.1, h.2.take h.1 hb⟩)
      (fun W wave R left busy T l steps i hO hi hb h => by
        obtain rfl : i = 0 := by omega
        exact ⟨h.1, InTurn.done hO hb h.2⟩)
    have hp' : pool_Play.f r 1 L = some (l', 2 * (sumL r : Int)) := hp
    rw [hp']
    have hlen : l'.length ≤ 4096 := by obtain ⟨_, _, _, o4, _⟩ := hO; omega
    exact one_l0 L (by omega) l' hlen hI.2.2.2.2 l'.length 0 (by omega)
end Go.Proofs.YtbkdnenlffiaeaaDoor.Pure
