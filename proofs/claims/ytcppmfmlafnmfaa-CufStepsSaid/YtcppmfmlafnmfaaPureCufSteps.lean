/-
The plain statement of CufSteps: each step of three operations, interleaved in any way, is one in both texts; the cells may be; what was handed in stays. No condition.
-/
import Derived.Test.YtcppmfmlafnmfaaPx5
import Derived.Test.YtcppmfmlafnmfaaPureA
set_option linter.unusedSimpArgs false
set_option linter.unusedVariables false
namespace Go.Proofs.Ytcppmfmlafnmfaa.Pure
open Go.RowKit Go.Proofs.Ytcppmfmlafnmfaa.P Go.Proofs.YtcppmfmlafnmfaaW.PrintWords Go.Proofs.YtcppmfmlafnmfaaW.PrintLast
theorem bytes_of {l : List Int} (h : ∀ x ∈ l, (Lit.int .u8 x).wf = true) : Bytes l := by
  intro i
  unfold rd
  rcases Nat.lt_or_ge i.toNat l.length with hi | hi
  · have h2 := h _ (List.getElem_mem hi)
    rw [List.getD_eq_getElem?_getD, List.getElem?_eq_getElem hi]
    simp [Lit.wf, IntKind.min, IntKind.max, IntKind.signed, IntKind.bits] at h2
    exact ⟨by simp only [Option.getD_some]; omega, by simp only [Option.getD_some]; omega⟩
  · rw [List.getD_eq_getElem?_getD, List.getElem?_eq_none hi]
    exact ⟨by simp, by simp⟩
def toT (q : S31) : T := ⟨q.f0.f0, q.f0.f1, q.f0.f2, q.f1, q.f2, q.f3, q.f4, q.f5, q.f6, q.f7⟩
def ofT (t : T) : S31 := ⟨⟨t.k, t.x, t.y⟩, t.s, t.u, t.v, t.w, t.r, t.is, t.res⟩
theorem step_f {up p : List Int} {q : S31} (hs : Steps up p (toT q)) : cuf_Step.f up p q.f0.f0 q.f0.f1 q.f0.f2 q.f1 q.f2 q.f3 q.f4 q.f5 q.f6 q.f7 = some ((stepL up p (toT q)).1, tt (stepL up p (toT q)).2) := by
  unfold cuf_Step.f
  exact if_pos hs
theorem rstep_f {up p : List Int} {q : S31} (hs : Steps up p (toT q)) : warpref1_Step.f up p q.f0.f0 q.f0.f1 q.f0.f2 q.f1 q.f2 q.f3 q.f4 q.f5 q.f6 q.f7 = some ((stepL up p (toT q)).1, tt (stepL up p (toT q)).2) := by
  unfold warpref1_Step.f
  exact if_pos hs
theorem rd31 {ts : List S31} {m : Int} {j : Nat} (hm : m = (j : Int)) (hj : j < ts.length) : rd_T31 ts m = ts[j] := by
  subst hm
  simp [rd_T31, List.getD_eq_getElem?_getD, hj]
theorem steps_l0 {p : List Int} (n1 : p.length ≤ 65536) (n0 : 0 < p.length) (l5 : List Int) (hl : l5.length ≤ 100) (hb : Bytes l5) : ∀ (d i : Nat) (up : List Int) (ts : List S31), i + d = l5.length → Ok up p → ts.length = 3 → (∀ q ∈ ts, Keeps p.length p (toT q)) →
    Ev (fun k => warplaw4_CufSteps.l0 k l5 p up ts (i : Int)) true
  | 0, i, up, ts, h, ho, ht, hk => by
    refine Ev.step (f := fun _ => some true) (fun k => ?_) (Ev.now _)
    rw [warplaw4_CufSteps.l0, if_neg (by omega)]
    rfl
  | d + 1, i, up, ts, h, ho, ht, hk => by
    obtain ⟨b0, b1⟩ := hb (i : Int)
    obtain ⟨j, hj⟩ : ∃ j : Nat, Int.tmod (wrap64 (rd l5 (i : Int))) 3 = (j : Int) ∧ j < 3 := by
      rw [wr64 (by omega) (by omega), tmod_nat b0]
      exact ⟨(rd l5 (i : Int) % 3).toNat, by omega, by omega⟩
    have hjt : j < ts.length := by omega
    have hq := hk ts[j] (List.getElem_mem hjt)
    have hul := ho.1
    have hs := step_keeps ho (by rw [hul]; exact hq)
    have hst := steps_ok ho (by omega) (show Keeps up.length p (toT ts[j]) by rw [hul]; exact hq)
    have e1 := step_f hst
    have e2 := rstep_f hst
    have hlen : up.length ≤ 65536 := ho.2.1
    generalize stepL up p (toT ts[j]) = r at *
    obtain ⟨up', t'⟩ := r
    simp only at hs e1 e2
    have ih := steps_l0 n1 n0 l5 hl hb d (i + 1) up' (ts.set j (ofT t')) (by omega) hs.1 (by rw [List.length_set]; exact ht) (fun q hq => by
      rcases List.mem_or_eq_of_mem_set hq with hq | hq
      · exact hk q hq
      · rw [hq, ← hul]; exact hs.2.2)
    refine Ev.step (f := fun k => (warpref1_Ints.f k up' up').bind fun a => if a = true then (warpref1_Ints.f k up up).bind fun b => if b = true then (cuf_May.f k up' p).bind fun c => warplaw4_CufSteps.j2 k l5 p ts (i : Int) (j : Int) (!c) up' t'.k t'.x t'.y t'.s t'.u t'.v t'.w t'.r t'.is t'.res else warplaw4_CufSteps.j2 k l5 p ts (i : Int) (j : Int) true up' t'.k t'.x t'.y t'.s t'.u t'.v t'.w t'.r t'.is t'.res else warplaw4_CufSteps.j2 k l5 p ts (i : Int) (j : Int) true up' t'.k t'.x t'.y t'.s t'.u t'.v t'.w t'.r t'.is t'.res) (fun k => ?_) ?_
    · rw [warplaw4_CufSteps.l0, if_pos (by omega), if_pos (by omega), hj.1, rd31 rfl hjt, e1, e2]
      simp only [Option.bind_some, List.length_nil, List.nil_append, tt]
      rw [if_pos (by omega), if_pos (by omega), if_pos (by omega)]
      simp
    · refine Ev.bind (ints_same up' (by rw [hs.2.1]; omega)) ?_
      simp only [if_true]
      refine Ev.bind (ints_same up (by omega)) ?_
      simp only [if_true]
      refine Ev.bind (may_ev hs.1) ?_
      refine Ev.step (fun k => ?_) ih
      rw [warplaw4_CufSteps.j2, if_neg (by simp), if_pos (by omega), if_pos (by omega), wr64 (by omega) (by omega)]
      rfl
theorem three {a b c : S31} {Q : S31 → Prop} (h1 : Q a) (h2 : Q b) (h3 : Q c) : ∀ q ∈ [a, b, c], Q q := by
  intro q hq
  simp only [List.mem_cons, List.not_mem_nil, or_false] at hq
  rcases hq with rfl | rfl | rfl
  · exact h1
  · exact h2
  · exact h3
theorem CufSteps : warplaw4_CufSteps.Pure := by
  intro l0 l1 l2 l3 l4 l5 _ _ hb0 m1 _ hb1 _ _ hb2 _ _ hb3 _ _ hb4 _ _ hb5
  have hn : 1 + ((l1.length : Int) % 16) = ((1 + l1.length % 16 : Nat) : Int) := by omega
  refine Ev.rounds ?_
  have aw : Ev (fun k => warplaw4_CufSteps.j0 k l0 l1 l2 l3 l4 l5 (1 + ((l1.length : Int) % 16)) true) true :=
    Ev.step (f := fun _ => some true) (fun k => by rw [warplaw4_CufSteps.j0, if_pos rfl]; rfl) (Ev.now _)
  unfold warplaw4_CufSteps.f
  by_cases c0 : (l0.length : Int) > 60
  · simp only [if_pos c0]; exact aw
  by_cases c2 : (l2.length : Int) < 3
  · simp only [if_neg c0, if_pos c2]; exact aw
  by_cases c3 : (l3.length : Int) < 3
  · simp only [if_neg c0, if_neg c2, if_pos c3]; exact aw
  by_cases c4 : (l4.length : Int) < 3
  · simp only [if_neg c0, if_neg c2, if_neg c3, if_pos c4]; exact aw
  simp only [if_neg c0, if_neg c2, if_neg c3, if_neg c4]
  by_cases c5 : (l5.length : Int) > 100
  · rw [show decide ((l5.length : Int) > 100) = true by simpa using c5]; exact aw
  rw [show decide ((l5.length : Int) > 100) = false by simpa using c5, hn]
  generalize hN : 1 + l1.length % 16 = n
  have n0 : 0 < n := by omega
  have n1 : n ≤ 16 := by omega
  obtain ⟨p, hp, hpe⟩ := prio_ev l1 n (by omega)
  obtain ⟨up, ho, hue⟩ := cells_ev l0 p (bytes_of hb0) (by omega) (by omega) (by omega)
  have k2 : OpOk n (1 + rd l2 0 % 3, rd l2 1 % n, rd l2 2 % n) := op_ok n0
  have k3 : OpOk n (1 + rd l3 0 % 3, rd l3 1 % n, rd l3 2 % n) := op_ok n0
  have k4 : OpOk n (1 + rd l4 0 % 3, rd l4 1 % n, rd l4 2 % n) := op_ok n0
  have o2 := op_f (n := n) (bytes_of hb2 0) (bytes_of hb2 1) (bytes_of hb2 2) n0 (by omega)
  have o3 := op_f (n := n) (bytes_of hb3 0) (bytes_of hb3 1) (bytes_of hb3 2) n0 (by omega)
  have o4 := op_f (n := n) (bytes_of hb4 0) (bytes_of hb4 1) (bytes_of hb4 2) n0 (by omega)
  have g2 := rbegin_f k2
  have g3 := rbegin_f k3
  have g4 := rbegin_f k4
  have w2 := keeps_new (p := p) k2
  have w3 := keeps_new (p := p) k3
  have w4 := keeps_new (p := p) k4
  simp only at g2 g3 g4 w2 w3 w4
  refine Ev.step (f := fun k => (warplaw4_Prio.f k l1 (n : Int)).bind fun a => (warplaw4_Cells.f k l0 a).bind fun b => warplaw4_CufSteps.l0 k l5 a b [ofT ⟨1 + rd l2 0 % 3, rd l2 1 % n, rd l2 2 % n, 1, rd l2 1 % n, rd l2 2 % n, 0, 0, false, 0⟩, ofT ⟨1 + rd l3 0 % 3, rd l3 1 % n, rd l3 2 % n, 1, rd l3 1 % n, rd l3 2 % n, 0, 0, false, 0⟩, ofT ⟨1 + rd l4 0 % 3, rd l4 1 % n, rd l4 2 % n, 1, rd l4 1 % n, rd l4 2 % n, 0, 0, false, 0⟩] 0) (fun k => ?_) ?_
  · rw [warplaw4_CufSteps.j0, if_neg (by simp)]
    simp only [if_pos (show 0 < (l2.length : Int) by omega), if_pos (show 1 < (l2.length : Int) by omega), if_pos (show 2 < (l2.length : Int) by omega), if_pos (show 0 < (l3.length : Int) by omega), if_pos (show 1 < (l3.length : Int) by omega), if_pos (show 2 < (l3.length : Int) by omega), if_pos (show 0 < (l4.length : Int) by omega), if_pos (show 1 < (l4.length : Int) by omega), if_pos (show 2 < (l4.length : Int) by omega), o2, o3, o4, Option.bind_some, g2, g3, g4]
    rfl
  · refine Ev.bind hpe (Ev.bind hue ?_)
    subst hp
    exact steps_l0 (by omega) n0 l5 (by omega) (bytes_of hb5) l5.length 0 up _ (by omega) ho rfl (three w2 w3 w4)
end Go.Proofs.Ytcppmfmlafnmfaa.Pure
