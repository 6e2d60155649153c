/-
The plain law of TableOnce: no condition beside those named in each theorem.
-/
import Derived.Test.YtmgfkdnoclmbgaaDoorTabR
import Derived.Test.YtmgfkdnoclmbgaaDoorPx8
namespace Go.Proofs.YtmgfkdnoclmbgaaDoor.Pure
open Go.RowKit Go.Proofs.YtmgfkdnoclmbgaaDoorW.PrintWords Go.Proofs.YtmgfkdnoclmbgaaDoorW.PrintLast Go.Proofs.YtmgfkdnoclmbgaaDoorW.PrintMore Go.Proofs.YtmgfkdnoclmbgaaDoor.P Go.Proofs.YtmgfkdnoclmbgaaDoor
set_option linter.unusedVariables false
theorem rd26 (m : List S26) (i : Nat) (h : i < m.length) : rd_T26 m (i : Int) = m[i] := by
  simp [rd_T26, List.getD_eq_getElem?_getD, h]
theorem once_l1 (a : Int) (s : List (List S26)) (got : List (List Int)) (keys : List S26) (hk : keys.length ≤ 1000) (hn : keys.Nodup) (i : Nat) (hi : i < keys.length) (h : Ev (fun g => warplaw8_TableOnce.l0 g a s got keys (wrap64 ((i : Int) + 1))) true) :
    ∀ d j : Nat, j + d = i → Ev (fun g => warplaw8_TableOnce.l1 g a s got keys (i : Int) (j : Int)) true
  | 0, j, hj => Ev.step (fun g => by rw [warplaw8_TableOnce.l1, if_neg (by omega)]) h
  | d + 1, j, hj => by
    have ih := once_l1 a s got keys hk hn i hi h d (j + 1) (by omega)
    have hlt : j < keys.length := by omega
    have ew : wrap64 ((j : Int) + 1) = ((j + 1 : Nat) : Int) := by rw [wr64 (by omega) (by omega)]; omega
    have hne : keys[i] ≠ keys[j] := fun e => by
      have := (List.getElem_inj hn).1 e
      omega
    refine Ev.step (fun g => ?_) ih
    rw [warplaw8_TableOnce.l1, if_pos (by omega), if_pos (by omega), if_pos (by omega), if_pos (by omega), if_pos (by omega), rd26 keys i hi, rd26 keys j hlt, key_eq, if_neg (by simpa using hne), ew]
theorem once_l0 (a : Int) (s : List (List S26)) (got : List (List Int)) (keys : List S26) (hk : keys.length ≤ 1000) (hn : keys.Nodup) (h : Ev (fun g => warplaw8_TableOnce.l2 g a s got keys 0) true) : ∀ d i : Nat, i + d = keys.length → Ev (fun g => warplaw8_TableOnce.l0 g a s got keys (i : Int)) true
  | 0, i, hi => Ev.step (fun g => by rw [warplaw8_TableOnce.l0, if_neg (by omega)]) h
  | d + 1, i, hi => by
    have ih := once_l0 a s got keys hk hn h d (i + 1) (by omega)
    have e := once_l1 a s got keys hk hn i (by omega) (by rw [show wrap64 ((i : Int) + 1) = ((i + 1 : Nat) : Int) by rw [wr64 (by omega) (by omega)]; omega]; exact ih) i 0 (by omega)
    exact Ev.step (fun g => by rw [warplaw8_TableOnce.l0, if_pos (by omega)]; rfl) e
theorem once_l3 (a : Int) (s : List (List S26)) (got : List (List Int)) (keys : List S26) (i : Nat) (hi : i < s.length) (hi2 : i < got.length) (hl : (got.getD i []).length = (s.getD i []).length) (hb : (s.getD i []).length ≤ 1000)
    (he : ∀ p k, p < (got.getD i []).length → (s.getD i [])[p]? = some k → (∃ q : Nat, (got.getD i []).getD p 0 = (q : Int) ∧ q < keys.length ∧ keys.getD q z26 = k) ∨ ((got.getD i []).getD p 0 = -1 ∧ Int.tmod (wrap64 a) 40 ≤ (keys.length : Int)))
    (h : Ev (fun g => warplaw8_TableOnce.l2 g a s got keys (wrap64 ((i : Int) + 1))) true) : ∀ d p : Nat, p + d = (s.getD i []).length → Ev (fun g => warplaw8_TableOnce.l3 g a s got keys (i : Int) (p : Int)) true
  | 0, p, hp => by
    have e8 : rd_L3 s (i : Int) = s.getD i [] := by simp [rd_L3]
    exact Ev.step (fun g => by rw [warplaw8_TableOnce.l3, if_pos (by omega), if_pos (by omega), e8, if_neg (by omega)]) h
  | d + 1, p, hp => by
    have e8 : rd_L3 s (i : Int) = s.getD i [] := by simp [rd_L3]
    have e9 : rd_L4 got (i : Int) = got.getD i [] := by simp [rd_L4]
    have er : rd (got.getD i []) (p : Int) = (got.getD i []).getD p 0 := by simp [rd]
    have ih := once_l3 a s got keys i hi hi2 hl hb he h d (p + 1) (by omega)
    have ew : wrap64 ((p : Int) + 1) = ((p + 1 : Nat) : Int) := by rw [wr64 (by omega) (by omega)]; omega
    have hlt : p < (s.getD i []).length := by omega
    have fin : Ev (fun g => warplaw8_TableOnce.j5 g a s got keys (i : Int) (p : Int) false) true := Ev.step (fun g => by rw [warplaw8_TableOnce.j5, if_neg (by decide), ew]) ih
    refine Ev.step (fun g => ?_) fin
    rw [warplaw8_TableOnce.l3, if_pos (by omega), if_pos (by omega), e8, e9, if_pos (by omega), if_pos (by omega), if_pos (by omega), if_pos (by omega), er]
    rcases he p (s.getD i [])[p] (by omega) (List.getElem?_eq_getElem hlt) with ⟨q, h1, h2, h3⟩ | ⟨h1, h2⟩
    · have h4 : rd_T26 keys (q : Int) = rd_T26 (s.getD i []) (p : Int) := by
        rw [rd26 _ p hlt, ← h3]
        simp [rd_T26]
      rw [h1, if_neg (by omega), if_neg (by omega), if_pos (by omega), if_pos (by omega), if_pos (by omega), h4, if_neg (by simp), if_neg (by omega)]
    · rw [h1, if_neg (by omega), if_neg (by omega), if_neg (by omega), if_pos (by omega), decide_eq_false (by omega)]
theorem once_l2 (a : Int) (s : List (List S26)) (got : List (List Int)) (keys : List S26) (h0 : s.length ≤ 1000) (h1 : got.length = s.length) (hl : ∀ i, i < s.length → (got.getD i []).length = (s.getD i []).length) (hb : ∀ i, i < s.length → (s.getD i []).length ≤ 1000)
    (he : ∀ i, i < s.length → ∀ p k, p < (got.getD i []).length → (s.getD i [])[p]? = some k → (∃ q : Nat, (got.getD i []).getD p 0 = (q : Int) ∧ q < keys.length ∧ keys.getD q z26 = k) ∨ ((got.getD i []).getD p 0 = -1 ∧ Int.tmod (wrap64 a) 40 ≤ (keys.length : Int))) : ∀ d i : Nat, i + d = s.length → Ev (fun g => warplaw8_TableOnce.l2 g a s got keys (i : Int)) true
  | 0, i, hi => Ev.step (f := fun g => (warplaw8_awake.f g).bind fun t220 => some t220) (fun g => by rw [warplaw8_TableOnce.l2, if_neg (by omega)]) (Ev.bind awake8 (Ev.now _))
  | d + 1, i, hi => by
    have e8 : rd_L3 s (i : Int) = s.getD i [] := by simp [rd_L3]
    have e9 : rd_L4 got (i : Int) = got.getD i [] := by simp [rd_L4]
    have ih := once_l2 a s got keys h0 h1 hl hb he d (i + 1) (by omega)
    have e := once_l3 a s got keys i (by omega) (by omega) (hl i (by omega)) (hb i (by omega)) (he i (by omega)) (by rw [show wrap64 ((i : Int) + 1) = ((i + 1 : Nat) : Int) by rw [wr64 (by omega) (by omega)]; omega]; exact ih) (s.getD i []).length 0 (by omega)
    refine Ev.step (fun g => ?_) e
    rw [warplaw8_TableOnce.l2, if_pos (by omega), if_pos (by omega), if_pos (by omega), e8, e9, if_pos (by rw [hl i (by omega)])]
    rfl
theorem TableOnce : warplaw8_TableOnce.Pure := by
  intro l0 a1 a2 l3 g0 g1 g2 g3
  refine Ev.rounds ?_
  by_cases c : (l3.length : Int) > 500
  · exact Ev.congr (f := fun g => (warplaw8_awake.f g).bind fun t198 => some t198) (fun k => by rw [warplaw8_TableOnce.f, if_pos c]) (Ev.bind awake8 (Ev.now _))
  · refine Ev.congr (f := fun k => _) (fun k => by rw [warplaw8_TableOnce.f, if_neg c]) ?_
    have hs := keysS_sum l0
    have hn := keysS_len l0
    have hg := keysS_g l0 g0
    have ha := u8_rng g1
    have hr : 0 ≤ Int.tmod (wrap64 a1) 40 := by rw [wr64 (by omega) (by omega)]; exact Int.tmod_nonneg _ ha.1
    obtain ⟨x, k, e1, x1, x2, x3, x4⟩ := play_told (keysS l0) (Int.tmod (wrap64 a1) 40) (Int.tmod (wrap64 a2) 70) l3 (by omega) (by omega) hg (by omega)
    have hb : ∀ i, i < (keysS l0).length → ((keysS l0).getD i []).length ≤ 1000 := fun i hi => by
      rw [List.getD_eq_getElem?_getD, List.getElem?_eq_getElem hi]
      have := hn.2 _ (List.getElem_mem hi)
      exact Nat.le_trans this (by decide)
    have f2 := once_l2 a1 (keysS l0) x k (by omega) x1 x2 hb x4.entry (keysS l0).length 0 (by omega)
    have f0 := once_l0 a1 (keysS l0) x k (by omega) x4.nodup f2 k.length 0 (by omega)
    have hroom : ¬ ((k.length : Int) > Int.tmod (wrap64 a1) 40) := by
      rcases x4.few with h | h
      · omega
      · rw [h]; simp; omega
    have fj : Ev (fun g => warplaw8_TableOnce.j0 g a1 (keysS l0) x k (decide ((k.length : Int) > Int.tmod (wrap64 a1) 40))) true := by
      rw [decide_eq_false hroom]
      exact Ev.step (fun g => by rw [warplaw8_TableOnce.j0, if_neg (by decide)]; rfl) f0
    refine Ev.bind (f := fun k t199 => _) (keys_ev l0 g0) ?_
    refine Ev.congr (fun g => ?_) fj
    rw [e1]
    refine (Option.bind_some ..).trans ?_
    dsimp only
    rw [if_pos (by rw [x1])]
end Go.Proofs.YtmgfkdnoclmbgaaDoor.Pure
