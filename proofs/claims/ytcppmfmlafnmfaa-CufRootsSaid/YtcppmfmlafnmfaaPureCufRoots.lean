/-
The plain statement of CufRoots: whatever steps are done, roots change by one step alone, that of a uniting; of two that had one root none is parted. No condition.
-/
import Derived.Test.YtcppmfmlafnmfaaPx7
import Derived.Test.YtcppmfmlafnmfaaPureA
import Derived.Test.YtcppmfmlafnmfaaCufV
set_option linter.unusedSimpArgs false
set_option linter.unusedVariables false
namespace Go.Proofs.Ytcppmfmlafnmfaa.Pure.R
open Go.RowKit Go.Proofs.Ytcppmfmlafnmfaa.P Go.Proofs.YtcppmfmlafnmfaaW.PrintWords Go.Proofs.YtcppmfmlafnmfaaW.PrintLast
theorem bytes_of {l : List Int} (h : ∀ x ∈ l, (Lit.int .u8 x).wf = true) : Bytes l := by
  intro i
  unfold rd
  rcases Nat.lt_or_ge i.toNat l.length with hi | hi
  · have h2 := h _ (List.getElem_mem hi)
    rw [List.getD_eq_getElem?_getD, List.getElem?_eq_getElem hi]
    simp [Lit.wf, IntKind.min, IntKind.max, IntKind.signed, IntKind.bits] at h2
    exact ⟨by simp only [Option.getD_some]; omega, by simp only [Option.getD_some]; omega⟩
  · rw [List.getD_eq_getElem?_getD, List.getElem?_eq_none hi]
    exact ⟨by simp, by simp⟩
def toT (q : S31) : T := ⟨q.f0.f0, q.f0.f1, q.f0.f2, q.f1, q.f2, q.f3, q.f4, q.f5, q.f6, q.f7⟩
def ofT (t : T) : S31 := ⟨⟨t.k, t.x, t.y⟩, t.s, t.u, t.v, t.w, t.r, t.is, t.res⟩
theorem step_f {up p : List Int} {q : S31} (hs : Steps up p (toT q)) : cuf_Step.f up p q.f0.f0 q.f0.f1 q.f0.f2 q.f1 q.f2 q.f3 q.f4 q.f5 q.f6 q.f7 = some ((stepL up p (toT q)).1, tt (stepL up p (toT q)).2) := by
  unfold cuf_Step.f
  exact if_pos hs
theorem rd31 {ts : List S31} {m : Int} {j : Nat} (hm : m = (j : Int)) (hj : j < ts.length) : rd_T31 ts m = ts[j] := by
  subst hm
  simp [rd_T31, List.getD_eq_getElem?_getD, hj]
theorem roots_le (up : List Int) : ∀ k, nRoots up k ≤ k
  | 0 => Nat.le_refl _
  | k + 1 => by
    have := roots_le up k
    rw [nRoots]
    unfold isRoot
    split <;> omega
section
variable {p up up' : List Int} {t' : T} {ts : List S31} {l3 : List Int} {i m : Nat}
/-- behind the count of roots -/
theorem end_l2 (hm : m < ts.length) (hi : i ≤ 100) (hp : p.length ≤ 65536) (hwon : (toT ts[m]).s = 8 → (toT ts[m]).is = false → t'.is = true → nRoots up' p.length + 1 = nRoots up p.length)
    (hnone : ¬ ((toT ts[m]).s = 8 ∧ (toT ts[m]).is = false ∧ t'.is = true) → nRoots up' p.length = nRoots up p.length)
    (hnext : Ev (fun k => warplaw4_CufRoots.l1 k l3 (p.length : Int) p up' (ts.set m (ofT t')) ((i + 1 : Nat) : Int)) true) :
    Ev (fun k => warplaw4_CufRoots.l2 k l3 (p.length : Int) p up ts (i : Int) (m : Int) up' ((nRoots up' p.length : Int) - (nRoots up p.length : Int)) (p.length : Int) t'.k t'.x t'.y t'.s t'.u t'.v t'.w t'.r t'.is t'.res) true := by
  have h8 : Ev (fun k => warplaw4_CufRoots.j8 k l3 (p.length : Int) p ts (i : Int) (m : Int) up' false t'.k t'.x t'.y t'.s t'.u t'.v t'.w t'.r t'.is t'.res) true := by
    refine Ev.step (fun k => ?_) hnext
    rw [warplaw4_CufRoots.j8, if_neg (by simp), if_pos (by omega), if_pos (by omega), wr64 (by omega) (by omega)]
    rfl
  have hnl := roots_le up p.length
  have hnl' := roots_le up' p.length
  by_cases hw : (toT ts[m]).s = 8 ∧ (toT ts[m]).is = false ∧ t'.is = true
  · obtain ⟨w1, w2, w3⟩ := hw
    have hd := hwon w1 w2 w3
    have h7 : Ev (fun k => warplaw4_CufRoots.j7 k l3 (p.length : Int) p ts (i : Int) (m : Int) up' ((nRoots up' p.length : Int) - (nRoots up p.length : Int)) true t'.k t'.x t'.y t'.s t'.u t'.v t'.w t'.r t'.is t'.res) true := by
      refine Ev.step (fun k => ?_) h8
      rw [warplaw4_CufRoots.j7, show ((nRoots up' p.length : Int) - (nRoots up p.length : Int)) = -1 by omega]
      rw [if_neg (by simp), if_neg (by omega)]
      rfl
    refine Ev.step (fun k => ?_) h7
    rw [warplaw4_CufRoots.l2, if_neg (by omega), if_pos (by omega), if_pos (by omega), rd31 rfl hm, if_pos (show ts[m].f1 = 8 from w1), if_neg (by rw [show ts[m].f6 = false from w2]; simp), w3]
  · have hd := hnone hw
    have h7 : Ev (fun k => warplaw4_CufRoots.j7 k l3 (p.length : Int) p ts (i : Int) (m : Int) up' ((nRoots up' p.length : Int) - (nRoots up p.length : Int)) false t'.k t'.x t'.y t'.s t'.u t'.v t'.w t'.r t'.is t'.res) true := by
      refine Ev.step (fun k => ?_) h8
      rw [warplaw4_CufRoots.j7, show ((nRoots up' p.length : Int) - (nRoots up p.length : Int)) = 0 by omega]
      rw [if_neg (by simp), if_pos rfl]
    refine Ev.step (fun k => ?_) h7
    rw [warplaw4_CufRoots.l2, if_neg (by omega), if_pos (by omega), if_pos (by omega), rd31 rfl hm]
    by_cases c8 : ts[m].f1 = 8
    · rw [if_pos c8]
      rcases c6 : ts[m].f6 with _ | _
      · rw [if_neg (by simp)]
        have : t'.is = false := by
          rcases c : t'.is with _ | _
          · rfl
          · exact absurd ⟨c8, c6, c⟩ hw
        rw [this]
      · rw [if_pos rfl]
    · rw [if_neg c8]
theorem roots_l2 (ho : Ok up p) (ho' : Ok up' p) (hm : m < ts.length) (hi : i ≤ 100) (hback : ∀ j, j < p.length → rootN up' j = rootN up' (rootN up j)) (hwon : (toT ts[m]).s = 8 → (toT ts[m]).is = false → t'.is = true → nRoots up' p.length + 1 = nRoots up p.length)
    (hnone : ¬ ((toT ts[m]).s = 8 ∧ (toT ts[m]).is = false ∧ t'.is = true) → nRoots up' p.length = nRoots up p.length)
    (hnext : Ev (fun k => warplaw4_CufRoots.l1 k l3 (p.length : Int) p up' (ts.set m (ofT t')) ((i + 1 : Nat) : Int)) true) : ∀ (d j : Nat), j + d = p.length →
    Ev (fun k => warplaw4_CufRoots.l2 k l3 (p.length : Int) p up ts (i : Int) (m : Int) up' ((nRoots up' j : Int) - (nRoots up j : Int)) (j : Int) t'.k t'.x t'.y t'.s t'.u t'.v t'.w t'.r t'.is t'.res) true
  | 0, j, h => by
    obtain rfl : j = p.length := by omega
    exact end_l2 hm hi (by rw [← ho.1]; exact ho.2.1) hwon hnone hnext
  | d + 1, j, h => by
    have hp : p.length ≤ 65536 := by rw [← ho.1]; exact ho.2.1
    have hul := ho.1
    have hul' := ho'.1
    have hnl := roots_le up j
    have hnl' := roots_le up' j
    have ih := roots_l2 ho ho' hm hi hback hwon hnone hnext d (j + 1) (by omega)
    have h6 : Ev (fun k => warplaw4_CufRoots.j6 k l3 (p.length : Int) p up ts (i : Int) (m : Int) up' ((nRoots up' (j + 1) : Int) - (nRoots up (j + 1) : Int)) (j : Int) t'.k t'.x t'.y t'.s t'.u t'.v t'.w t'.r t'.is t'.res) true := by
      have r1 := root_ev ho' j (by omega)
      have r2 := root_ev ho j (by omega)
      have r3 := root_ev ho' (rootN up j) (by rw [hul', ← hul]; exact root_lt (by omega))
      refine Ev.step (f := fun k => (warpref1_Root.f k up' (j : Int)).bind fun a => (warpref1_Root.f k up (j : Int)).bind fun b => (warpref1_Root.f k up' b).bind fun c => if a = c then warplaw4_CufRoots.l2 k l3 (p.length : Int) p up ts (i : Int) (m : Int) up' ((nRoots up' (j + 1) : Int) - (nRoots up (j + 1) : Int)) ((j + 1 : Nat) : Int) t'.k t'.x t'.y t'.s t'.u t'.v t'.w t'.r t'.is t'.res else some false) (fun k => ?_) ?_
      · rw [warplaw4_CufRoots.j6, wr64 (i := (j : Int) + 1) (by omega) (by omega)]
        rfl
      · refine Ev.bind r1 (Ev.bind r2 (Ev.bind r3 ?_))
        simp only [if_pos (show (rootN up' j : Int) = (rootN up' (rootN up j) : Int) by rw [hback j (by omega)])]
        exact ih
    have h5 : Ev (fun k => warplaw4_CufRoots.j5 k l3 (p.length : Int) p up ts (i : Int) (m : Int) up' ((nRoots up' (j + 1) : Int) - (nRoots up j : Int)) (j : Int) t'.k t'.x t'.y t'.s t'.u t'.v t'.w t'.r t'.is t'.res) true := by
      refine Ev.step (fun k => ?_) h6
      have hs := roots_le up' (j + 1)
      rw [warplaw4_CufRoots.j5, if_pos (by omega), if_pos (by omega), rd_nat]
      by_cases e : up.getD j 0 = (j : Int)
      · rw [if_pos e, wr64 (by omega) (by omega), show (nRoots up (j + 1) : Int) = (nRoots up j : Int) + 1 by rw [nRoots, isRoot, if_pos e]; omega]
        congr 1
        omega
      · rw [if_neg e, show nRoots up (j + 1) = nRoots up j by rw [nRoots, isRoot, if_neg e]; omega]
    refine Ev.step (fun k => ?_) h5
    rw [warplaw4_CufRoots.l2, if_pos (by omega), if_pos (by omega), if_pos (by omega), rd_nat]
    by_cases e : up'.getD j 0 = (j : Int)
    · rw [if_pos e, wr64 (by omega) (by omega), show (nRoots up' (j + 1) : Int) = (nRoots up' j : Int) + 1 by rw [nRoots, isRoot, if_pos e]; omega]
      congr 1
      omega
    · rw [if_neg e, show nRoots up' (j + 1) = nRoots up' j by rw [nRoots, isRoot, if_neg e]; omega]
end
theorem roots_l1 {p : List Int} (n0 : 0 < p.length) (n1 : p.length ≤ 65536) (l3 : List Int) (hl : l3.length ≤ 100) (hb : Bytes l3) : ∀ (d i : Nat) (up : List Int) (ts : List S31), i + d = l3.length → Ok up p → ts.length = 4 → (∀ q ∈ ts, Keeps p.length p (toT q) ∧ RI up (toT q)) →
    Ev (fun k => warplaw4_CufRoots.l1 k l3 (p.length : Int) p up ts (i : Int)) true
  | 0, i, up, ts, h, ho, ht, hk => by
    refine Ev.step (f := fun _ => some true) (fun k => ?_) (Ev.now _)
    rw [warplaw4_CufRoots.l1, if_neg (by omega)]
    rfl
  | d + 1, i, up, ts, h, ho, ht, hk => by
    obtain ⟨b0, b1⟩ := hb (i : Int)
    obtain ⟨j, hj⟩ : ∃ j : Nat, Int.tmod (wrap64 (rd l3 (i : Int))) 4 = (j : Int) ∧ j < 4 := by
      rw [wr64 (by omega) (by omega), tmod_nat b0]
      exact ⟨(rd l3 (i : Int) % 4).toNat, by omega, by omega⟩
    have hjt : j < ts.length := by omega
    have hq := hk ts[j] (List.getElem_mem hjt)
    have hul := ho.1
    have hk1 : Keeps up.length p (toT ts[j]) := by rw [hul]; exact hq.1
    have hs := step_keeps ho hk1
    have hst := steps_ok ho (by omega) hk1
    have hmv := step_moves ho hk1 hq.2
    have e1 := step_f hst
    generalize stepL up p (toT ts[j]) = r at *
    obtain ⟨up', t'⟩ := r
    simp only at hs e1 hmv
    have hul' : up'.length = p.length := by rw [hs.2.1, hul]
    have ih := roots_l1 n0 n1 l3 hl hb d (i + 1) up' (ts.set j (ofT t')) (by omega) hs.1 (by rw [List.length_set]; exact ht) (fun q hq' => by
      rcases List.mem_or_eq_of_mem_set hq' with hq' | hq'
      · have := hk q hq'
        exact ⟨this.1, this.2.goes (by rw [hul]; exact this.1.fit) hmv.goes⟩
      · rw [hq']; exact ⟨by rw [← hul]; exact hs.2.2, hmv.ri⟩)
    have h2 := roots_l2 (t' := t') (l3 := l3) (i := i) ho hs.1 hjt (by omega) (fun j hj => hmv.back j (by omega)) (fun a b c => by rw [← hul]; exact hmv.won a b c) (fun a => by rw [← hul]; exact hmv.none a) ih p.length 0 (by omega)
    simp only [nRoots] at h2
    have h3 : Ev (fun k => warplaw4_CufRoots.j3 k l3 (p.length : Int) p up ts (i : Int) (j : Int) up' false t'.k t'.x t'.y t'.s t'.u t'.v t'.w t'.r t'.is t'.res) true := by
      refine Ev.step (fun k => ?_) h2
      rw [warplaw4_CufRoots.j3, if_neg (by simp)]
      rfl
    refine Ev.step (f := fun k => (warpref1_MayUp.f k up' p).bind fun a => if a = true then warplaw4_CufRoots.j3 k l3 (p.length : Int) p up ts (i : Int) (j : Int) up' false t'.k t'.x t'.y t'.s t'.u t'.v t'.w t'.r t'.is t'.res else warplaw4_CufRoots.j3 k l3 (p.length : Int) p up ts (i : Int) (j : Int) up' true t'.k t'.x t'.y t'.s t'.u t'.v t'.w t'.r t'.is t'.res) (fun k => ?_) ?_
    · rw [warplaw4_CufRoots.l1, if_pos (by omega), if_pos (by omega), hj.1, rd31 rfl hjt, e1]
      simp only [Option.bind_some, tt]
      rw [if_pos (by omega), if_pos (by omega), show ((up'.length : Int) != (p.length : Int)) = false by simp [hul']]
    · refine Ev.bind (rmay_ev hs.1) ?_
      simp only [if_true]
      exact h3
theorem roots_l0 {p up : List Int} (n0 : 0 < p.length) (n1 : p.length ≤ 65536) (l2 l3 : List Int) (h2 : 12 ≤ l2.length) (hb2 : Bytes l2) (hl : l3.length ≤ 100) (hb : Bytes l3) (ho : Ok up p) : ∀ (d i : Nat) (ts : List S31), i + d = 4 → ts.length = i → (∀ q ∈ ts, Keeps p.length p (toT q) ∧ RI up (toT q)) →
    Ev (fun k => warplaw4_CufRoots.l0 k l2 l3 (p.length : Int) p up ts (i : Int)) true
  | 0, i, ts, h, ht, hk => by
    refine Ev.step (fun k => ?_) (roots_l1 n0 n1 l3 hl hb l3.length 0 up ts (by omega) ho (by omega) hk)
    rw [warplaw4_CufRoots.l0, if_neg (by omega)]
    rfl
  | d + 1, i, ts, h, ht, hk => by
    have hok : OpOk p.length (1 + rd l2 (3 * (i : Int)) % 3, rd l2 (3 * (i : Int) + 1) % p.length, rd l2 (3 * (i : Int) + 2) % p.length) := op_ok n0
    have hf := op_f (n := p.length) (hb2 (3 * (i : Int))) (hb2 (3 * (i : Int) + 1)) (hb2 (3 * (i : Int) + 2)) n0 n1
    have hg := begin_f hok
    have hw := keeps_new (p := p) hok
    simp only at hg hw
    refine Ev.step (fun k => ?_) (roots_l0 n0 n1 l2 l3 h2 hb2 hl hb ho d (i + 1) (ts ++ [ofT ⟨1 + rd l2 (3 * (i : Int)) % 3, rd l2 (3 * (i : Int) + 1) % p.length, rd l2 (3 * (i : Int) + 2) % p.length, 1, rd l2 (3 * (i : Int) + 1) % p.length, rd l2 (3 * (i : Int) + 2) % p.length, 0, 0, false, 0⟩]) (by omega) (by simp [ht]) (fun q hq => by
      rcases List.mem_append.1 hq with hq | hq
      · exact hk q hq
      · rw [List.mem_singleton.1 hq]
        exact ⟨hw, ri_none (.inr (.inl rfl))⟩))
    rw [warplaw4_CufRoots.l0, if_pos (by omega), wr64 (i := 3 * (i : Int)) (by omega) (by omega), wr64 (i := 3 * (i : Int) + 1) (by omega) (by omega), wr64 (i := 3 * (i : Int) + 2) (by omega) (by omega), wr64 (i := (i : Int) + 1) (by omega) (by omega), if_pos (by omega), if_pos (by omega), if_pos (by omega), if_pos (by omega), if_pos (by omega), if_pos (by omega), hf]
    simp only [Option.bind_some, hg]
    rw [if_pos trivial, if_pos (by omega)]
    rfl
end Go.Proofs.Ytcppmfmlafnmfaa.Pure.R
namespace Go.Proofs.Ytcppmfmlafnmfaa.Pure
open Go.RowKit Go.Proofs.Ytcppmfmlafnmfaa.P Go.Proofs.YtcppmfmlafnmfaaW.PrintWords Go.Proofs.YtcppmfmlafnmfaaW.PrintLast
theorem CufRoots : warplaw4_CufRoots.Pure := by
  intro l0 l1 l2 l3 _ _ hb0 m1 _ hb1 _ _ hb2 _ _ hb3
  have hn : 2 + ((l1.length : Int) % 14) = ((2 + l1.length % 14 : Nat) : Int) := by omega
  refine Ev.rounds ?_
  have aw : Ev (fun k => warplaw4_CufRoots.j0 k l0 l1 l2 l3 (2 + ((l1.length : Int) % 14)) true) true :=
    Ev.step (f := fun _ => some true) (fun k => by rw [warplaw4_CufRoots.j0, if_pos rfl]; rfl) (Ev.now _)
  unfold warplaw4_CufRoots.f
  by_cases c0 : (l0.length : Int) > 60
  · simp only [if_pos c0]; exact aw
  by_cases c2 : (l2.length : Int) < 12
  · simp only [if_neg c0, if_pos c2]; exact aw
  simp only [if_neg c0, if_neg c2]
  by_cases c3 : (l3.length : Int) > 100
  · rw [show decide ((l3.length : Int) > 100) = true by simpa using c3]; exact aw
  rw [show decide ((l3.length : Int) > 100) = false by simpa using c3, hn]
  generalize hN : 2 + l1.length % 14 = n
  have n0 : 0 < n := by omega
  have n1 : n ≤ 16 := by omega
  obtain ⟨p, hp, hpe⟩ := prio_ev l1 n (by omega)
  obtain ⟨up, ho, hue⟩ := cells_ev l0 p (R.bytes_of hb0) (by omega) (by omega) (by omega)
  refine Ev.step (f := fun k => (warplaw4_Prio.f k l1 (n : Int)).bind fun a => (warplaw4_Cells.f k l0 a).bind fun b => warplaw4_CufRoots.l0 k l2 l3 (n : Int) a b [] 0) (fun k => ?_) ?_
  · rw [warplaw4_CufRoots.j0, if_neg (by simp)]
  · refine Ev.bind hpe (Ev.bind hue ?_)
    subst hp
    exact R.roots_l0 n0 (by omega) l2 l3 (by omega) (R.bytes_of hb2) (by omega) (R.bytes_of hb3) ho 4 0 [] rfl rfl (fun q hq => by simp at hq)
end Go.Proofs.Ytcppmfmlafnmfaa.Pure
