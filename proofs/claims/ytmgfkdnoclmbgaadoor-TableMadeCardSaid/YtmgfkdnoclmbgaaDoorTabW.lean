/-
What the reference's play keeps in its rounds, under each step of it. Condition: the blocks are apart.
The reference's play under each step of a round: a step more, a lock, a key, an index told, a worker. Condition: the blocks are apart.
What the reference's play calls: a key's place in a row, the reference's pick; the workers' row as cells. Condition: the rows are not too long.
-/
import Derived.Test.YtmgfkdnoclmbgaaDoorTabL
import Derived.Test.YtmgfkdnoclmbgaaDoorTabJ
import Derived.Test.YtmgfkdnoclmbgaaDoorPx14
namespace Go.Proofs.YtmgfkdnoclmbgaaDoor
open Go.RowKit Go.Maps Go.Proofs.YtmgfkdnoclmbgaaDoorW.PrintWords Go.Proofs.YtmgfkdnoclmbgaaDoorW.PrintLast Go.Proofs.YtmgfkdnoclmbgaaDoorW.PrintMore Go.Proofs.YtmgfkdnoclmbgaaDoor.P
set_option linter.unusedVariables false
/-- the stripes that are held, as flags -/
def lockV (held : List Int) : Array Value := ((List.range 64).map fun (i : Nat) => Value.bool (decide ((i : Int) ∈ held))).toArray
theorem lockV_size (held : List Int) : (lockV held).size = 64 := by simp [lockV]
theorem lockV_get (held : List Int) (s : Int) (h : 0 ≤ s) (h2 : s < 64) : (lockV held)[s.toNat]? = some (.bool (decide (s ∈ held))) := by
  have e : ((s.toNat : Nat) : Int) = s := by omega
  have hs : s.toNat < 64 := by omega
  simp [lockV, hs, e]
theorem lockV_set (held held2 : List Int) (s : Int) (h : 0 ≤ s) (h2 : s < 64) (b : Bool) (hb : decide (s ∈ held2) = b) (ho : ∀ t : Int, t ≠ s → (t ∈ held2 ↔ t ∈ held)) : (lockV held).setIfInBounds s.toNat (.bool b) = lockV held2 := by
  apply Array.ext
  · simp [lockV]
  · intro i h3 h4
    have hi : i < 64 := by simpa [lockV] using h4
    by_cases c : i = s.toNat
    · subst c
      have e : ((s.toNat : Nat) : Int) = s := by omega
      simp [lockV, e, ← hb]
    · rw [Array.getElem_setIfInBounds_ne (by simpa [lockV] using hi) (Ne.symm c)]
      have e : (i : Int) ≠ s := by omega
      simp [lockV, ho _ e]
theorem lockV_nil : lockV [] = (List.replicate 64 (Value.bool false)).toArray := by
  simp [lockV, List.map_const']
/-- the result's cells, none yet -/
def rz : Array Value := #[.slice none 0 0, .slice none 0 0, .int .i64 0, .int .i64 0]
/-- the state of the reference's play -/
structure RSt (w0 w : World) (n br bo bl bp gw : Nat) (L : List (List S26)) (st : List Int) (got : List (List Int)) (keys : List S26) (held : List Int) (V : Array Value) (GA : Option Addr) (gc : Nat) (KA : Option Addr) (kc : Nat) (steps at_ last : Int) (P : List Int) (uv : Value) (Y : Nat → Prop) (N : Nat) : Prop where
  rs : w.heap[br]? = some (.cells rz 32 (0, 0))
  out : w.heap[bo]? = some (.cells #[.slice GA n gc, .slice KA keys.length kc, .int .i64 steps, .int .i64 0] 32 (0, 0))
  ne : br ≠ bo
  lk : w.heap[bl]? = some (.cells (lockV held) 4 (0, 0))
  wk : 0 < n → w.heap[gw]? = some (.cells V 62 (0, 0))
  gr : Kd.S (Kd.slice 3 (Kd.int .i64)) 23 w w0.heap.size Y (.slice GA n gc) got
  kr : Kd.R k26 26 w w0.heap.size (fun _ => True) (.slice KA keys.length kc) keys
  row : ∀ i, i < n → ∃ A c, V[i * 2]? = some (.slice A (L.getD i []).length c) ∧ (L.getD i []).length ≤ c ∧ Kd.C k26 w0 A (L.getD i []).length (L.getD i []) ∧ V[i * 2 + 1]? = some (.int .i64 (st.getD i 0))
  below : Below w0.heap.size w0 w
  len1 : L.length = n
  len2 : st.length = n
  len3 : got.length = n
  pk : w.heap[bp]? = some (.cells #[uv, .int .i64 at_, .int .i64 last] 53 (0, 0))
  pv : Kd.V (Kd.int .i64) 3 w w0.heap.size (fun k => (k ≠ br ∧ k ≠ bo ∧ k ≠ bl ∧ k ≠ bp ∧ k ≠ gw) ∧ some k ≠ (Value.slice KA keys.length kc).ownBlock ∧ ¬ Y k ∧ k < N) uv P
  yt : ∀ k, Y k → ∃ q, (q = 23 ∨ q = 3) ∧ ∃ cs, w.heap[k]? = some (.cells cs q (0, 0))
  old : N ≤ w.heap.size ∧ br < N ∧ bo < N ∧ bl < N ∧ bp < N ∧ gw < N
  mine : w0.heap.size ≤ br ∧ w0.heap.size ≤ bo ∧ w0.heap.size ≤ bl ∧ w0.heap.size ≤ bp ∧ w0.heap.size ≤ gw
section
variable {w0 w w2 w3 : World} {n br bo bl bp gw : Nat} {L L2 : List (List S26)} {st st2 : List Int} {got got2 : List (List Int)} {keys keys2 : List S26} {held held2 : List Int} {V V2 : Array Value} {GA GA2 KA KA2 : Option Addr} {gc gc2 kc kc2 : Nat} {steps steps2 at_ last : Int} {P : List Int} {uv : Value} {Y Y2 : Nat → Prop} {N : Nat}
theorem RSt.below2 (h : RSt w0 w n br bo bl bp gw L st got keys held V GA gc KA kc steps at_ last P uv Y N) (hb : Below w.heap.size w w2) : RSt w0 w2 n br bo bl bp gw L st got keys held V GA gc KA kc steps at_ last P uv Y N where
  rs := blk_below h.rs hb
  out := blk_below h.out hb
  ne := h.ne
  lk := blk_below h.lk hb
  wk hn := blk_below (h.wk hn) hb
  gr := Kd.S_below h.gr hb
  kr := Kd.R_below h.kr hb
  row := h.row
  below := below_step h.below hb
  len1 := h.len1
  len2 := h.len2
  len3 := h.len3
  pk := blk_below h.pk hb
  pv := Kd.V_below h.pv hb
  yt k hk := by
    obtain ⟨q, hq, cs, hc⟩ := h.yt k hk
    exact ⟨q, hq, cs, blk_below hc hb⟩
  old := ⟨Nat.le_trans h.old.1 (below_size hb), h.old.2⟩
  mine := h.mine
theorem RSt.yne (h : RSt w0 w n br bo bl bp gw L st got keys held V GA gc KA kc steps at_ last P uv Y N) {g t : Nat} {cs : Array Value} (hc : w.heap[g]? = some (.cells cs t (0, 0))) (h3 : t ≠ 3) (h23 : t ≠ 23) : ¬ Y g := fun hy => by
  obtain ⟨q, hq, cs2, h2⟩ := h.yt g hy
  rcases hq with rfl | rfl
  · exact ne_block hc h2 h23 rfl
  · exact ne_block hc h2 h3 rfl
/-- a store into a box that is none of the play's blocks -/
theorem RSt.far (h : RSt w0 w n br bo bl bp gw L st got keys held V GA gc KA kc steps at_ last P uv Y N) {g t : Nat} {cs : Array Value} (hc : w.heap[g]? = some (.cells cs t (0, 0))) (hN : N ≤ g) (h3 : t ≠ 3) (h23 : t ≠ 23) (h26 : t ≠ 26) (j : Nat) (v : Value) :
    RSt w0 (w.setCell ⟨g, j, none⟩ v) n br bo bl bp gw L st got keys held V GA gc KA kc steps at_ last P uv Y N := by
  obtain ⟨o1, o2, o3, o4, o5, o6⟩ := h.old
  have hy := h.yne hc h3 h23
  have hlt := below_size h.below
  refine ⟨blk_far (p := ⟨g, j, none⟩) h.rs (by show _ ≠ g; omega) v, blk_far (p := ⟨g, j, none⟩) h.out (by show _ ≠ g; omega) v, h.ne, blk_far (p := ⟨g, j, none⟩) h.lk (by show _ ≠ g; omega) v, fun hn => blk_far (p := ⟨g, j, none⟩) (h.wk hn) (by show _ ≠ g; omega) v, Kd.S_far (p := ⟨g, j, none⟩) h.gr (fun k hk e => hy (by rw [← show k = g from e]; exact hk)) v,
    Kd.R_mono (Kd.R_far (p := ⟨g, j, none⟩) (Kd.R_types h.kr hc (fun q hq => by
      rcases List.mem_cons.1 hq with e | e
      · rw [e]; exact Ne.symm h26
      · exact absurd (show q ∈ ([] : List Nat) from e) (by simp))) (fun _ hk => hk.2) v) (fun _ _ => trivial), h.row, below_set h.below (by have := h.mine; omega), h.len1, h.len2, h.len3, blk_far (p := ⟨g, j, none⟩) h.pk (by show _ ≠ g; omega) v, Kd.V_far (p := ⟨g, j, none⟩) h.pv (fun k hk => by have := hk.2.2.2; show k ≠ g; omega) v, fun k hk => ?_, ⟨by simpa [World.setCell] using o1, o2, o3, o4, o5, o6⟩, h.mine⟩
  obtain ⟨q, hq, cs2, h2⟩ := h.yt k hk
  exact ⟨q, hq, cs2, blk_far (p := ⟨g, j, none⟩) h2 (fun e => hy (by rw [← show k = g from e]; exact hk)) v⟩
/-- a step: the result, the locks, the workers, the keys, the rows; the rest is kept -/
theorem RSt.step (h : RSt w0 w n br bo bl bp gw L st got keys held V GA gc KA kc steps at_ last P uv Y N) (hn : 0 < n) (hk : Kept w w2 (fun q => q = bo ∨ q = bl ∨ q = gw ∨ some q = (Value.slice KA keys.length kc).ownBlock ∨ Y q)) (hb : Below w0.heap.size w0 w2)
    (out : w2.heap[bo]? = some (.cells #[.slice GA2 n gc2, .slice KA2 keys2.length kc2, .int .i64 steps2, .int .i64 0] 32 (0, 0))) (lk : w2.heap[bl]? = some (.cells (lockV held2) 4 (0, 0))) (wk : w2.heap[gw]? = some (.cells V2 62 (0, 0)))
    (gr : Kd.S (Kd.slice 3 (Kd.int .i64)) 23 w2 w0.heap.size Y2 (.slice GA2 n gc2) got2) (kr : Kd.R k26 26 w2 w0.heap.size (fun _ => True) (.slice KA2 keys2.length kc2) keys2)
    (row : ∀ i, i < n → ∃ A c, V2[i * 2]? = some (.slice A (L2.getD i []).length c) ∧ (L2.getD i []).length ≤ c ∧ Kd.C k26 w0 A (L2.getD i []).length (L2.getD i []) ∧ V2[i * 2 + 1]? = some (.int .i64 (st2.getD i 0)))
    (hk2 : (Value.slice KA2 keys2.length kc2).ownBlock = (Value.slice KA keys.length kc).ownBlock ∨ ∃ b, (Value.slice KA2 keys2.length kc2).ownBlock = some b ∧ w.heap.size ≤ b) (hy : ∀ k, Y2 k → Y k ∨ w.heap.size ≤ k) (yt : ∀ k, Y2 k → ∃ q, (q = 23 ∨ q = 3) ∧ ∃ cs, w2.heap[k]? = some (.cells cs q (0, 0)))
    (l1 : L2.length = n) (l2 : st2.length = n) (l3 : got2.length = n) : RSt w0 w2 n br bo bl bp gw L2 st2 got2 keys2 held2 V2 GA2 gc2 KA2 kc2 steps2 at_ last P uv Y2 N := by
  obtain ⟨o1, o2, o3, o4, o5, o6⟩ := h.old
  have kne : ∀ {g t : Nat} {cs : Array Value}, w.heap[g]? = some (.cells cs t (0, 0)) → t ≠ 26 → some g ≠ (Value.slice KA keys.length kc).ownBlock := fun hc ht => Kd.R_ne h.kr hc (Ne.symm ht)
  refine ⟨blk_kept h.rs hk (fun e => ?_), out, h.ne, lk, fun _ => wk, gr, kr, row, hb, l1, l2, l3, blk_kept h.pk hk (fun e => ?_), ?_, yt, ⟨Nat.le_trans o1 hk.1, o2, o3, o4, o5, o6⟩, h.mine⟩
  · rcases e with e | e | e | e | e
    · exact h.ne e
    · exact ne_block h.rs h.lk (by decide) e
    · exact ne_block h.rs (h.wk hn) (by decide) e
    · exact kne h.rs (by decide) e
    · exact h.yne h.rs (by decide) (by decide) e
  · rcases e with e | e | e | e | e
    · exact ne_block h.pk h.out (by decide) e
    · exact ne_block h.pk h.lk (by decide) e
    · exact ne_block h.pk (h.wk hn) (by decide) e
    · exact kne h.pk (by decide) e
    · exact h.yne h.pk (by decide) (by decide) e
  · have hp := Kd.V_kept h.pv hk (fun q hq hs => by
      rcases hs with hs | hs | hs | hs | hs
      · exact hq.1.2.1 hs
      · exact hq.1.2.2.1 hs
      · exact hq.1.2.2.2.2 hs
      · exact hq.2.1 hs
      · exact hq.2.2.1 hs)
    refine Kd.V_mono hp (fun q hq => ⟨hq.1, ?_, fun hy2 => ?_, hq.2.2.2⟩)
    · rcases hk2 with hk2 | ⟨b, hk2, hle⟩
      · rw [hk2]; exact hq.2.1
      · rw [hk2]
        intro e
        injection e with e
        have := hq.2.2.2
        omega
    · rcases hy q hy2 with hh | hh
      · exact hq.2.2.1 hh
      · have := hq.2.2.2
        omega
/-- the picker anew -/
theorem RSt.picked (h : RSt w0 w n br bo bl bp gw L st got keys held V GA gc KA kc steps at_ last P uv Y N) (hb : Below w.heap.size w w2) (v : Value) (at2 last2 : Int)
    (hv : Kd.V (Kd.int .i64) 3 w2 w.heap.size (fun q => ((q ≠ br ∧ q ≠ bo ∧ q ≠ bl ∧ q ≠ bp ∧ q ≠ gw) ∧ some q ≠ (Value.slice KA keys.length kc).ownBlock ∧ ¬ Y q ∧ q < N) ∨ w.heap.size ≤ q) v P) (hb3 : Below w2.heap.size w2 w3) :
    RSt w0 (((w3.setCell ⟨bp, 0, none⟩ v).setCell ⟨bp, 1, none⟩ (.int .i64 at2)).setCell ⟨bp, 2, none⟩ (.int .i64 last2)) n br bo bl bp gw L st got keys held V GA gc KA kc steps at2 last2 P v Y w2.heap.size := by
  obtain ⟨o1, o2, o3, o4, o5, o6⟩ := h.old
  have sz := below_size hb
  have sz3 := below_size hb3
  have z7 := Kd.R_lt h.kr
  have zy : ∀ k, Y k → k < w.heap.size := fun k hk => by
    obtain ⟨q, hq, cs, hc⟩ := h.yt k hk
    exact blk_lt hc
  have h2 := (h.below2 hb).below2 hb3
  have hy := h2.yne h2.pk (by decide) (by decide)
  have far : ∀ {d : Nat} {cs : Array Value} {g : Nat}, w3.heap[g]? = some (.cells cs d (0, 0)) → g ≠ bp → (((w3.setCell ⟨bp, 0, none⟩ v).setCell ⟨bp, 1, none⟩ (.int .i64 at2)).setCell ⟨bp, 2, none⟩ (.int .i64 last2)).heap[g]? = some (.cells cs d (0, 0)) := fun hc hne => blk_far (p := ⟨bp, 2, none⟩) (blk_far (p := ⟨bp, 1, none⟩) (blk_far (p := ⟨bp, 0, none⟩) hc hne _) hne _) hne _
  have yf : ∀ k, Y k → k ≠ bp := fun k hk e => hy (by rw [← e]; exact hk)
  refine ⟨far h2.rs (ne_block h2.rs h2.pk (by decide)), far h2.out (ne_block h2.out h2.pk (by decide)), h2.ne, far h2.lk (ne_block h2.lk h2.pk (by decide)), fun hn => far (h2.wk hn) (ne_block (h2.wk hn) h2.pk (by decide)),
    Kd.S_far (p := ⟨bp, 2, none⟩) (Kd.S_far (p := ⟨bp, 1, none⟩) (Kd.S_far (p := ⟨bp, 0, none⟩) h2.gr yf _) yf _) yf _,
    Kd.R_mono (Kd.R_far (p := ⟨bp, 2, none⟩) (Kd.R_far (p := ⟨bp, 1, none⟩) (Kd.R_far (p := ⟨bp, 0, none⟩) (Kd.R_types h2.kr h2.pk (by decide)) (fun _ hk => hk.2) _) (fun _ hk => hk.2) _) (fun _ hk => hk.2) _) (fun _ _ => trivial), h2.row, below_set (below_set (below_set h2.below h.mine.2.2.2.1) h.mine.2.2.2.1) h.mine.2.2.2.1, h2.len1, h2.len2, h2.len3, blk_put (blk_put (blk_put h2.pk 0 v rfl) 1 (.int .i64 at2) rfl) 2 (.int .i64 last2) rfl, ?_, fun k hk => ?_, ⟨by simpa [World.setCell] using sz3, by omega, by omega, by omega, by omega, by omega⟩, h.mine⟩
  · have hv2 : Kd.V (Kd.int .i64) 3 w3 w0.heap.size (fun k => (k ≠ br ∧ k ≠ bo ∧ k ≠ bl ∧ k ≠ bp ∧ k ≠ gw) ∧ some k ≠ (Value.slice KA keys.length kc).ownBlock ∧ ¬ Y k ∧ k < w2.heap.size) v P := by
      refine Kd.V_map (Kd.V_below (Kd.V_mono (Kd.V_bound hv) (fun q hq => ?_)) hb3) (fun _ hf => hf)
      rcases hq with ⟨hq | hq, hl⟩
      · exact ⟨hq.1, hq.2.1, hq.2.2.1, by omega⟩
      · exact ⟨⟨by omega, by omega, by omega, by omega, by omega⟩, fun e => by have := z7 q e.symm; omega, fun hy2 => by have := zy q hy2; omega, hl⟩
    exact Kd.V_far (p := ⟨bp, 2, none⟩) (Kd.V_far (p := ⟨bp, 1, none⟩) (Kd.V_far (p := ⟨bp, 0, none⟩) hv2 (fun _ hk => hk.1.2.2.2.1) _) (fun _ hk => hk.1.2.2.2.1) _) (fun _ hk => hk.1.2.2.2.1) _
  · obtain ⟨q, hq, cs2, hc2⟩ := h2.yt k hk
    exact ⟨q, hq, cs2, far hc2 (yf k hk)⟩
end
end Go.Proofs.YtmgfkdnoclmbgaaDoor

namespace Go.Proofs.YtmgfkdnoclmbgaaDoor
open Go.RowKit Go.Maps Go.Proofs.YtmgfkdnoclmbgaaDoorW.PrintWords Go.Proofs.YtmgfkdnoclmbgaaDoorW.PrintLast Go.Proofs.YtmgfkdnoclmbgaaDoorW.PrintMore Go.Proofs.YtmgfkdnoclmbgaaDoor.P
set_option linter.unusedVariables false
section
variable {w0 w w1 w2 w3 : World} {n br bo bl bp gw : Nat} {L L2 : List (List S26)} {st st2 : List Int} {got got2 : List (List Int)} {keys keys2 : List S26} {held held2 : List Int} {V V2 : Array Value} {GA GA2 KA KA2 : Option Addr} {gc gc2 kc kc2 : Nat} {steps steps2 at_ last : Int} {P : List Int} {uv : Value} {Y Y2 : Nat → Prop} {N : Nat}
theorem RSt.counted (h : RSt w0 w n br bo bl bp gw L st got keys held V GA gc KA kc steps at_ last P uv Y N) (hn : 0 < n) (s : Int) :
    RSt w0 (w.setCell ⟨bo, 2, none⟩ (.int .i64 s)) n br bo bl bp gw L st got keys held V GA gc KA kc s at_ last P uv Y N := by
  have hy := h.yne h.out (by decide) (by decide)
  have yf : ∀ k, Y k → k ≠ bo := fun k hk e => hy (by rw [← e]; exact hk)
  refine h.step hn ((Kept.refl w _).setCell (.inl (.inl rfl)) _) (below_set h.below h.mine.2.1) (blk_put h.out 2 (.int .i64 s) rfl) (blk_far (p := ⟨bo, 2, none⟩) h.lk (ne_block h.lk h.out (by decide)) _) (blk_far (p := ⟨bo, 2, none⟩) (h.wk hn) (ne_block (h.wk hn) h.out (by decide)) _)
    (Kd.S_far (p := ⟨bo, 2, none⟩) h.gr yf _) (Kd.R_mono (Kd.R_far (p := ⟨bo, 2, none⟩) (Kd.R_types h.kr h.out (by decide)) (fun _ hk => hk.2) _) (fun _ _ => trivial)) h.row (.inl rfl) (fun _ hk => .inl hk) (fun k hk => ?_) h.len1 h.len2 h.len3
  obtain ⟨q, hq, cs, hc⟩ := h.yt k hk
  exact ⟨q, hq, cs, blk_far (p := ⟨bo, 2, none⟩) hc (yf k hk) _⟩
theorem RSt.locking (h : RSt w0 w n br bo bl bp gw L st got keys held V GA gc KA kc steps at_ last P uv Y N) (hn : 0 < n) (s : Int) (h1 : 0 ≤ s) (h2 : s < 64) (b : Bool) (hb : decide (s ∈ held2) = b) (ho : ∀ t : Int, t ≠ s → (t ∈ held2 ↔ t ∈ held)) :
    RSt w0 (w.setCell ⟨bl, s.toNat, none⟩ (.bool b)) n br bo bl bp gw L st got keys held2 V GA gc KA kc steps at_ last P uv Y N := by
  have hy := h.yne h.lk (by decide) (by decide)
  have yf : ∀ k, Y k → k ≠ bl := fun k hk e => hy (by rw [← e]; exact hk)
  refine h.step hn ((Kept.refl w _).setCell (.inl (.inr (.inl rfl))) _) (below_set h.below h.mine.2.2.1) (blk_far (p := ⟨bl, s.toNat, none⟩) h.out (ne_block h.out h.lk (by decide)) _) (blk_put h.lk s.toNat (.bool b) (lockV_set held held2 s h1 h2 b hb ho)) (blk_far (p := ⟨bl, s.toNat, none⟩) (h.wk hn) (ne_block (h.wk hn) h.lk (by decide)) _)
    (Kd.S_far (p := ⟨bl, s.toNat, none⟩) h.gr yf _) (Kd.R_mono (Kd.R_far (p := ⟨bl, s.toNat, none⟩) (Kd.R_types h.kr h.lk (by decide)) (fun _ hk => hk.2) _) (fun _ _ => trivial)) h.row (.inl rfl) (fun _ hk => .inl hk) (fun k hk => ?_) h.len1 h.len2 h.len3
  obtain ⟨q, hq, cs, hc⟩ := h.yt k hk
  exact ⟨q, hq, cs, blk_far (p := ⟨bl, s.toNat, none⟩) hc (yf k hk) _⟩
/-- a worker's cells anew -/
theorem RSt.worker (h : RSt w0 w n br bo bl bp gw L st got keys held V GA gc KA kc steps at_ last P uv Y N) (i : Nat) (hi : i < n) {A : Option Addr} {c : Nat} {l : List S26} {s : Int} (hlc : l.length ≤ c) (hC : Kd.C k26 w0 A l.length l) (e1 : L2.getD i [] = l) (e2 : st2.getD i 0 = s) (o1 : ∀ j, j ≠ i → L2.getD j [] = L.getD j []) (o2 : ∀ j, j ≠ i → st2.getD j 0 = st.getD j 0) (l1 : L2.length = n) (l2 : st2.length = n) :
    RSt w0 ((w.setCell ⟨gw, i * 2, none⟩ (.slice A l.length c)).setCell ⟨gw, i * 2 + 1, none⟩ (.int .i64 s)) n br bo bl bp gw L2 st2 got keys held ((V.setIfInBounds (i * 2) (.slice A l.length c)).setIfInBounds (i * 2 + 1) (.int .i64 s)) GA gc KA kc steps at_ last P uv Y N := by
  have hn : 0 < n := by omega
  have hw := h.wk hn
  have hy := h.yne hw (by decide) (by decide)
  have yf : ∀ k, Y k → k ≠ gw := fun k hk e => hy (by rw [← e]; exact hk)
  have far : ∀ {d : Nat} {cs : Array Value} {g : Nat}, w.heap[g]? = some (.cells cs d (0, 0)) → g ≠ gw → ((w.setCell ⟨gw, i * 2, none⟩ (.slice A l.length c)).setCell ⟨gw, i * 2 + 1, none⟩ (.int .i64 s)).heap[g]? = some (.cells cs d (0, 0)) := fun hc hne => blk_far (p := ⟨gw, i * 2 + 1, none⟩) (blk_far (p := ⟨gw, i * 2, none⟩) hc hne _) hne _
  refine h.step hn (((Kept.refl w _).setCell (.inl (.inr (.inr (.inl rfl)))) _).setCell (.inl (.inr (.inr (.inl rfl)))) _) (below_set (below_set h.below h.mine.2.2.2.2) h.mine.2.2.2.2) (far h.out (ne_block h.out hw (by decide))) (far h.lk (ne_block h.lk hw (by decide))) (blk_set (blk_set hw _ _) _ _)
    (Kd.S_far (p := ⟨gw, i * 2 + 1, none⟩) (Kd.S_far (p := ⟨gw, i * 2, none⟩) h.gr yf _) yf _) (Kd.R_mono (Kd.R_far (p := ⟨gw, i * 2 + 1, none⟩) (Kd.R_far (p := ⟨gw, i * 2, none⟩) (Kd.R_types h.kr hw (by decide)) (fun _ hk => hk.2) _) (fun _ hk => hk.2) _) (fun _ _ => trivial)) (fun j hj => ?_) (.inl rfl) (fun _ hk => .inl hk) (fun k hk => ?_) l1 l2 h.len3
  · obtain ⟨A', c', b1, b2, b3, b4⟩ := h.row j hj
    by_cases e : j = i
    · subst e
      rw [e1, e2]
      exact ⟨A, c, by rw [Array.getElem?_setIfInBounds_ne (by omega)]; exact Array.getElem?_setIfInBounds_self_of_lt (vlt b1), hlc, hC, Array.getElem?_setIfInBounds_self_of_lt (by simpa using vlt b4)⟩
    · rw [o1 j e, o2 j e]
      refine ⟨A', c', ?_, b2, b3, ?_⟩ <;> rw [Array.getElem?_setIfInBounds_ne (by omega), Array.getElem?_setIfInBounds_ne (by omega)]
      · exact b1
      · exact b4
  · obtain ⟨q, hq, cs, hc⟩ := h.yt k hk
    exact ⟨q, hq, cs, far hc (yf k hk)⟩
/-- a key more -/
theorem RSt.keyed (h : RSt w0 w n br bo bl bp gw L st got keys held V GA gc KA kc steps at_ last P uv Y N) (hn : 0 < n) (hr : Kd.R k26 26 w1 w0.heap.size (fun _ => True) (.slice KA2 keys2.length kc2) keys2) (hb : Below w0.heap.size w0 w1) (hg : w.grownBy w1 (Value.slice KA keys.length kc).ownBlock)
    (hat : (Value.slice KA2 keys2.length kc2).ownBlock = (Value.slice KA keys.length kc).ownBlock ∨ ∃ b, (Value.slice KA2 keys2.length kc2).ownBlock = some b ∧ w.heap.size ≤ b) :
    RSt w0 (w1.setCell ⟨bo, 1, none⟩ (.slice KA2 keys2.length kc2)) n br bo bl bp gw L st got keys2 held V GA gc KA2 kc2 steps at_ last P uv Y N := by
  have kt := Kd.R_typed h.kr
  have ne : ∀ {g t : Nat} {cs : Array Value}, w.heap[g]? = some (.cells cs t (0, 0)) → t ≠ 26 → some g ≠ (Value.slice KA keys.length kc).ownBlock := fun hc ht => Kd.R_ne h.kr hc (Ne.symm ht)
  have ho1 := blk_grown h.out hg (ne h.out (by decide))
  have hy := h.yne h.out (by decide) (by decide)
  have yf : ∀ k, Y k → k ≠ bo := fun k hk e => hy (by rw [← e]; exact hk)
  refine h.step hn ((Kept.of_grown hg (Kept.refl w _) (fun k hk => .inl (.inr (.inr (.inr (.inl hk.symm)))))).setCell (.inl (.inl rfl)) _) (below_set hb h.mine.2.1) (blk_put ho1 1 _ rfl) (blk_far (p := ⟨bo, 1, none⟩) (blk_grown h.lk hg (ne h.lk (by decide))) (ne_block h.lk h.out (by decide)) _)
    (blk_far (p := ⟨bo, 1, none⟩) (blk_grown (h.wk hn) hg (ne (h.wk hn) (by decide))) (ne_block (h.wk hn) h.out (by decide)) _) (Kd.S_far (p := ⟨bo, 1, none⟩) (Kd.S_over' h.gr kt (by decide) hg) yf _) (Kd.R_mono (Kd.R_far (p := ⟨bo, 1, none⟩) (Kd.R_types hr ho1 (by decide)) (fun _ hk => hk.2) _) (fun _ _ => trivial)) h.row hat (fun _ hk => .inl hk) (fun k hk => ?_) h.len1 h.len2 h.len3
  obtain ⟨q, hq, cs, hc⟩ := h.yt k hk
  exact ⟨q, hq, cs, blk_far (p := ⟨bo, 1, none⟩) (blk_grown hc hg (ne hc (by rcases hq with rfl | rfl <;> decide))) (yf k hk) _⟩
/-- a worker's own row, lent; and back with one index more -/
theorem RSt.logged (h : RSt w0 w n br bo bl bp gw L st got keys held V GA gc KA kc steps at_ last P uv Y N) (i : Nat) (hi : i < n) (x : Int) :
    ∃ (gg : Nat) (IA : Option Addr) (ic : Nat) (oki : Nat → Prop), GA = some ⟨gg, 0, none⟩ ∧ w.cell? ⟨gg, i, none⟩ = some (.slice IA (got.getD i []).length ic) ∧ (∃ cells, w.heap[gg]? = some (.cells cells 23 (0, 0))) ∧ Kd.R (Kd.int .i64) 3 w w0.heap.size (fun k => oki k ∨ w.heap.size ≤ k) (.slice IA (got.getD i []).length ic) (got.getD i []) ∧
      ∀ (v1 : Value) (w1 : World), Kd.R (Kd.int .i64) 3 w1 w0.heap.size (fun k => oki k ∨ w.heap.size ≤ k) v1 (got.getD i [] ++ [x]) → Below w0.heap.size w0 w1 → w.grownBy w1 (Value.slice IA (got.getD i []).length ic).ownBlock → w1.frozen? ⟨gg, i, none⟩ = false ∧ w1.cell? ⟨gg, i, none⟩ = some (.slice IA (got.getD i []).length ic) ∧
        ∃ Y2, RSt w0 (w1.setCell ⟨gg, i, none⟩ v1) n br bo bl bp gw L st (got.set i (got.getD i [] ++ [x])) keys held V GA gc KA kc steps at_ last P uv Y2 N := by
  have hn : 0 < n := by omega
  obtain ⟨gg, cap, ev, hbg, hgl, cells, hgc⟩ := Kd.S_form h.gr (by rw [h.len3]; exact hn)
  simp only [Value.slice.injEq] at ev
  obtain ⟨rfl, _, rfl⟩ := ev
  obtain ⟨oki, c, hcl, hM, hcc, hfr, hoki, hH⟩ := Kd.S_elem h.gr [] (i : Int) (by omega) (by omega)
  rw [Int.toNat_natCast] at hM hcc hfr
  obtain ⟨v, rfl, hR⟩ := hM
  obtain ⟨IA, ic, rfl⟩ := Kd.R_slice hR
  have c0 := hcc 0 _ rfl
  rw [show i * (Kd.slice 3 (Kd.int .i64)).sz + 0 = i by show i * 1 + 0 = i; omega] at c0
  refine ⟨gg, IA, ic, oki, rfl, c0, ⟨_, hgc⟩, Kd.R_mono hR (fun _ hk => .inl hk), fun v1 w1 hR1 hb1 hg1 => ?_⟩
  have hty := Kd.R_typed hR
  have ne : ∀ {g t : Nat} {cs : Array Value}, w.heap[g]? = some (.cells cs t (0, 0)) → t ≠ 3 → some g ≠ (Value.slice IA (got.getD i []).length ic).ownBlock := fun hc ht => Kd.R_ne hR hc (Ne.symm ht)
  have hgo : ∀ k, (Value.slice IA (got.getD i []).length ic).ownBlock = some k → oki k := fun k hk => hR.1 k hk
  have hH2 := Kd.H_grown (Kd.H_widen (Kd.H_mono hH (ok' := fun k => Y k ∨ w.heap.size ≤ k) (fun _ hk => .inl hk))) hg1 (fun k hk => .inl (hgo k hk))
  have hat := Kd.H_at hH2 (by omega) (by omega)
  rw [Int.toNat_natCast] at hat
  have d0 := hat.1 0 _ rfl
  have d1 := hat.2 0
  have ei : i * (Kd.slice 3 (Kd.int .i64)).sz + 0 = i := by show i * 1 + 0 = i; omega
  rw [ei] at d0 d1
  have hgc1 := blk_grown hgc hg1 (ne hgc (by decide))
  obtain ⟨hS, hgS⟩ := Kd.S_seg0 hH2 (by omega) (by omega) (seg := [v1]) (j := 0) (Nat.le_refl _) (Kd.M_row (xs := got.getD i [] ++ [x]) hR1) (fun k hk => hk.elim .inl (fun h2 => .inr ⟨.inr h2, h2⟩))
  rw [Int.toNat_natCast, ei] at hS hgS
  have eS : w1.setCells gg i [v1] = w1.setCell ⟨gg, i, none⟩ v1 := rfl
  rw [eS] at hS hgS
  refine ⟨d1, d0, _, h.step hn (Kept.of_grown hgS (Kept.of_grown hg1 (Kept.refl w _) (fun k hk => .inl (.inr (.inr (.inr (.inr (hoki k (hgo k hk)).1)))))) (fun k hk => .inl (.inr (.inr (.inr (.inr ?_)))))) (pw_below_grown hb1 (some gg) (below_size hb1) hgS (fun k hk => by injection hk with hk; omega)) (blk_far (p := ⟨gg, i, none⟩) (blk_grown h.out hg1 (ne h.out (by decide))) (ne_block h.out hgc (by decide)) _)
    (blk_far (p := ⟨gg, i, none⟩) (blk_grown h.lk hg1 (ne h.lk (by decide))) (ne_block h.lk hgc (by decide)) _) (blk_far (p := ⟨gg, i, none⟩) (blk_grown (h.wk hn) hg1 (ne (h.wk hn) (by decide))) (ne_block (h.wk hn) hgc (by decide)) _) (Kd.S_bound hS) ?_ h.row (.inl rfl) (fun k hk => hk.1) (fun k hk => ?_) h.len1 h.len2 (by rw [List.length_set]; exact h.len3)⟩
  · injection hk with hk
    subst hk
    exact (Kd.S_R h.gr).1 _ rfl
  · refine Kd.R_mono (Kd.R_far (p := ⟨gg, i, none⟩) (Kd.R_types (Kd.R_over' h.kr hty (by decide) hg1) hgc1 (by decide)) (fun _ hk => hk.2) _) (fun _ _ => trivial)
  · obtain ⟨_, _, _, q, hq, cs, hc⟩ := hk
    refine ⟨q, ?_, cs, hc⟩
    rcases List.mem_cons.1 hq with e | e
    · exact .inl e
    · exact .inr (List.mem_singleton.1 (show q ∈ [3] from e))
end
end Go.Proofs.YtmgfkdnoclmbgaaDoor

namespace Go.Proofs.YtmgfkdnoclmbgaaDoor
open Go.RowKit Go.Maps Go.Proofs.YtmgfkdnoclmbgaaDoorW.PrintWords Go.Proofs.YtmgfkdnoclmbgaaDoorW.PrintLast Go.Proofs.YtmgfkdnoclmbgaaDoorW.PrintMore Go.Proofs.YtmgfkdnoclmbgaaDoor.P Go.Proofs.YtmgfkdnoclmbgaaDoor.Bits
set_option linter.unusedVariables false
theorem key_eq2 (a b : S26) : (a.f0.toList == b.f0.toList && (a.f1 == b.f1 && (a.f2 == b.f2))) = decide (a = b) := by
  rw [Bool.eq_iff_iff, decide_eq_true_eq, Bool.and_eq_true, Bool.and_eq_true, beq_iff_eq, beq_iff_eq, beq_iff_eq, ByteArray.toList_eq, ByteArray.toList_eq]
  constructor
  · rintro ⟨h1, h2, h3⟩
    have h0 := Go.WideShapes.bytes_inj h1
    cases a; cases b; simp_all
  · rintro rfl
    exact ⟨rfl, rfl, rfl⟩
/-- a key's place, or none -/
def findS (keys : List S26) (k : S26) : Int := if k ∈ keys then (keys.idxOf k : Nat) else -1
theorem find_l0 (k : S26) (X : List S26) (hX : X.length ≤ 5000) : ∀ d i : Nat, i + d = X.length → (∀ j, j < i → X[j]? ≠ some k) → Ev (fun g => warpref1_find.l0 g X (i : Int) k.f0 k.f1 k.f2) (findS X k)
  | 0, i, h, hn => by
    have hk : k ∉ X := fun c => by
      obtain ⟨j, hj, e⟩ := List.mem_iff_getElem.1 c
      exact hn j (by omega) (by rw [List.getElem?_eq_getElem hj, e])
    refine Ev.step (f := fun _ => some (-1)) (fun g => ?_) (by rw [findS, if_neg hk]; exact Ev.now _)
    rw [warpref1_find.l0, if_neg (by omega)]
  | d + 1, i, h, hn => by
    have hi : i < X.length := by omega
    have e0 : rd_T26 X (i : Int) = X[i] := by
      show X.getD ((i : Int).toNat) _ = _
      rw [Int.toNat_natCast, List.getD_eq_getElem?_getD, List.getElem?_eq_getElem hi]; rfl
    by_cases c : X[i] = k
    · have hm : k ∈ X := c ▸ List.getElem_mem hi
      have hx : X.idxOf k = i := by
        have h1 : X.idxOf k < X.length := List.idxOf_lt_length_of_mem hm
        have h2 : X[X.idxOf k] = k := List.getElem_idxOf h1
        have h3 : ¬ X.idxOf k < i := fun c2 => hn _ c2 (by rw [List.getElem?_eq_getElem h1, h2])
        have h4 : ¬ i < X.idxOf k := fun c2 => by
          have h5 := List.not_of_lt_findIdx (show i < X.findIdx (· == k) from c2)
          rw [c] at h5
          simp at h5
        omega
      refine Ev.step (f := fun _ => some (i : Int)) (fun g => ?_) (by rw [findS, if_pos hm, hx]; exact Ev.now _)
      rw [warpref1_find.l0, if_pos (by omega), if_pos (by omega), e0, key_eq2, if_pos (decide_eq_true c)]
    · refine Ev.step (fun g => ?_) (find_l0 k X hX d (i + 1) (by omega) (fun j hj => ?_))
      · rw [warpref1_find.l0, if_pos (by omega), if_pos (by omega), e0, key_eq2, if_neg (by simpa using c), wr64 (by omega) (by omega)]
        rfl
      · by_cases e : j = i
        · subst e
          rw [List.getElem?_eq_getElem hi]
          intro e2
          injection e2 with e2
          exact c e2
        · exact hn j (by omega)
theorem find_ev (k : S26) (X : List S26) (hX : X.length ≤ 5000) : Ev (fun g => warpref1_find.f g X k.f0 k.f1 k.f2) (findS X k) := find_l0 k X hX X.length 0 (by omega) (fun j hj => by omega)
theorem find_call (k : S26) (X : List S26) (hX : X.length ≤ 5000) (A : Option Addr) (c : Nat) (w : World) (hr : Kd.C k26 w A X.length X) (hc : X.length ≤ c) :
    Calls Tryd.prog 22 #[.slice A X.length c, .agg #[.string k.f0, .int .i64 k.f1, .int .i64 k.f2]] w fun e w' => e = .returned (.int .i64 (findS X k)) ∧ Below w.heap.size w w' := by
  obtain ⟨g, hg⟩ := (find_ev k X hX).rounds
  exact warpref1_find.calls g A c X k.f0 k.f1 k.f2 _ w hr hc hg
theorem rstripe_call (k : S26) (n : Int) (h : Gk k) (r : Int) (hr : stripeS n k = r) (w : World) :
    Calls Tryd.prog 20 #[.agg #[.string k.f0, .int .i64 k.f1, .int .i64 k.f2], .int .i64 n] w fun e w' => e = .returned (.int .i64 r) ∧ Below w.heap.size w w' := by
  subst hr
  obtain ⟨g, hg⟩ := (rstripe_ev k n (by have := h.1; omega)).rounds
  exact warpref1_Stripe.calls g k.f0 k.f1 k.f2 n _ w hg
theorem rpick_call (E : List Bool) (n : Nat) (hn : E.length = n) (hl : n ≤ 64) (P : Nat → Prop) (A : Option Addr) (c : Nat) (L : List Int) (at_ last : Int) (hL : L.length ≤ 1000000) (g : Nat) (w : World) (hV : Kd.V (Kd.int .i64) 3 w w.heap.size P (.slice A L.length c) L) (hE : w.heap[g]? = some (.cells (E.map Value.bool).toArray 4 (0, 0))) (who at2 last2 : Int) (h1 : whoS L at_ last (Bits.idx E) = who) (h2 : atS L at_ (Bits.idx E) = at2) (h3 : lastS L at_ last (Bits.idx E) = last2) :
    Calls Tryd.prog 21 #[.agg #[.slice A L.length c, .int .i64 at_, .int .i64 last], .slice (some ⟨g, 0, none⟩) n n] w fun e w' => ∃ (A' : Option Addr) (c' : Nat), e = .returned (.agg #[.int .i64 who, .slice A' L.length c', .int .i64 at2, .int .i64 last2]) ∧ Kd.V (Kd.int .i64) 3 w' w.heap.size (fun k_ => P k_ ∨ w.heap.size ≤ k_) (.slice A' L.length c') L ∧ Below w.heap.size w w' := by
  subst hn h1 h2 h3
  obtain ⟨k, hk⟩ := (pick_ev L at_ last E hL (by omega)).rounds
  refine (warpref1_Pick.calls k P A c L at_ last (some ⟨g, 0, none⟩) E.length E _ _ _ _ w hV (bools_C E w g hE hl) (Nat.le_refl _) hk).mono ?_
  rintro e w' ⟨v1, rfl, ho, hb⟩
  obtain ⟨A', c', rfl⟩ := Kd.V_slice ho
  exact ⟨A', c', rfl, ho, hb⟩
theorem info62 : (Tryd.prog.info? 62).map (fun i => (i.zero, i.size, i.bytes)) = some (some (.agg #[.slice none 0 0, .int .i64 0]), 2, 32) := by kernel_rfl
/-- the workers' row as cells -/
theorem ws_cells {w : World} {base n wc : Nat} {ok : Nat → Prop} {WA : Option Addr} {rows : List (List Value)} (h : (Kd.raw 2).R 62 w base ok (.slice WA n wc) rows) (hn : 0 < n) :
    ∃ (gw : Nat) (V : Array Value), WA = some ⟨gw, 0, none⟩ ∧ base ≤ gw ∧ w.heap[gw]? = some (.cells V 62 (0, 0)) ∧ ∀ i, i < n → ∀ j u, (rows.getD i [])[j]? = some u → V[i * 2 + j]? = some u := by
  have hl := (Kd.R_reads' h).1
  obtain ⟨g, cap, e, hb, hlt, cells, hc⟩ := Kd.R_form h (by omega)
  simp only [Value.slice.injEq] at e
  obtain ⟨rfl, _, rfl⟩ := e
  refine ⟨g, cells, rfl, hb, hc, fun i hi j u hu => ?_⟩
  obtain ⟨c, hcl, hM, hcc, _⟩ := Kd.R_elem h [] (i : Int) (by omega) (by omega)
  rw [Int.toNat_natCast] at hM hcc
  have ec : c = rows.getD i [] := hM.1
  subst ec
  exact (blk_cell hc _).symm.trans (hcc j u hu)
/-- the workers' row at the start -/
theorem ws_start {w0 w : World} {bo n wc : Nat} {WA : Option Addr} {rows : List (List Value)} {l0 : List (List S26)} (h : (Kd.raw 2).R 62 w w0.heap.size (fun _ => True) (.slice WA n wc) rows) (hbo : w0.heap.size ≤ bo ∧ bo < w.heap.size)
    (hrow : ∀ j, j < n → ∃ A c, rows.getD j [] = [.slice A (l0.getD j []).length c, .int .i64 0] ∧ (l0.getD j []).length ≤ c ∧ Kd.C k26 w0 A (l0.getD j []).length (l0.getD j [])) :
    ∃ (gw : Nat) (V : Array Value), (0 < n → WA = some ⟨gw, 0, none⟩) ∧ (w0.heap.size ≤ gw ∧ gw < w.heap.size) ∧ (0 < n → w.heap[gw]? = some (.cells V 62 (0, 0))) ∧ ∀ i, i < n → ∃ A c, V[i * 2]? = some (.slice A (l0.getD i []).length c) ∧ (l0.getD i []).length ≤ c ∧ Kd.C k26 w0 A (l0.getD i []).length (l0.getD i []) ∧ V[i * 2 + 1]? = some (.int .i64 ((List.replicate n (0 : Int)).getD i 0)) := by
  by_cases hn : 0 < n
  · obtain ⟨gw, V, e, h1, h2, h3⟩ := ws_cells h hn
    refine ⟨gw, V, fun _ => e, ⟨h1, blk_lt h2⟩, fun _ => h2, fun i hi => ?_⟩
    obtain ⟨A, c, e1, e2, e3⟩ := hrow i hi
    have g := h3 i hi
    rw [e1] at g
    refine ⟨A, c, g 0 _ rfl, e2, e3, (g 1 _ rfl).trans ?_⟩
    rw [List.getD_eq_getElem?_getD, List.getElem?_replicate, if_pos hi]
    rfl
  · exact ⟨bo, #[], fun h => absurd h hn, hbo, fun h => absurd h hn, fun i hi => absurd hi (by omega)⟩
/-- the play's state at the start -/
theorem RSt.start {w0 w w10 w11 : World} {br bo gw bp gc : Nat} {GA : Option Addr} {l0 : List (List S26)} {P : List Int} {V : Array Value} {v : Value} (hne : br < bo) (hbr : w0.heap.size ≤ br) (hrs : w.heap[br]? = some (.cells rz 32 (0, 0))) (hout : w.heap[bo]? = some (.cells #[.slice GA l0.length gc, .slice none 0 0, .int .i64 0, .int .i64 0] 32 (0, 0)))
    (hgs : Kd.S (Kd.slice 3 (Kd.int .i64)) 23 w w0.heap.size (fun _ => True) (.slice GA l0.length gc) (List.replicate l0.length ([] : List Int))) (hb : Below w0.heap.size w0 w) (hgw : w0.heap.size ≤ gw ∧ gw < w.heap.size) (hwk : 0 < l0.length → w.heap[gw]? = some (.cells V 62 (0, 0)))
    (hrow : ∀ i, i < l0.length → ∃ A c, V[i * 2]? = some (.slice A (l0.getD i []).length c) ∧ (l0.getD i []).length ≤ c ∧ Kd.C k26 w0 A (l0.getD i []).length (l0.getD i []) ∧ V[i * 2 + 1]? = some (.int .i64 ((List.replicate l0.length (0 : Int)).getD i 0)))
    (hb10 : Below (w.alloc (.cells (List.replicate 64 (Value.bool false)).toArray 4 (0, 0))).heap.size (w.alloc (.cells (List.replicate 64 (Value.bool false)).toArray 4 (0, 0))) w10)
    (hv : Kd.V (Kd.int .i64) 3 w10 w0.heap.size (fun k => k < w0.heap.size ∨ (w.alloc (.cells (List.replicate 64 (Value.bool false)).toArray 4 (0, 0))).heap.size ≤ k) v P) (hb11 : Below w10.heap.size w10 w11) (hbp : bp = w10.heap.size) (hbx : w11.heap[bp]? = some (.cells #[.slice none 0 0, .int .i64 0, .int .i64 0] 53 (0, 0))) :
    ∃ Y N, RSt w0 (((w11.setCell ⟨bp, 0, none⟩ v).setCell ⟨bp, 1, none⟩ (.int .i64 0)).setCell ⟨bp, 2, none⟩ (.int .i64 (-1))) l0.length br bo w.heap.size bp gw l0 (List.replicate l0.length 0) (List.replicate l0.length []) [] [] V GA gc none 0 0 0 (-1) P v Y N := by
  have sz1 : (w.alloc (.cells (List.replicate 64 (Value.bool false)).toArray 4 (0, 0))).heap.size = w.heap.size + 1 := Array.size_push _
  have sz10 := below_size hb10
  have sz11 := below_size hb11
  have szb := below_size hb
  have lbo := blk_lt hout
  have hbl := blk_new w (.cells (List.replicate 64 (Value.bool false)).toArray 4 (0, 0))
  have hlt := blk_lt hbx
  have hbw : Below w.heap.size w w11 := below_step (below_step (below_alloc (Below.refl w.heap.size w) _) hb10) hb11
  have hbz : Below w0.heap.size w0 w11 := below_step hb hbw
  have far : ∀ {d : Nat} {cs : Array Value} {g : Nat}, w11.heap[g]? = some (.cells cs d (0, 0)) → g ≠ bp → (((w11.setCell ⟨bp, 0, none⟩ v).setCell ⟨bp, 1, none⟩ (.int .i64 0)).setCell ⟨bp, 2, none⟩ (.int .i64 (-1))).heap[g]? = some (.cells cs d (0, 0)) := fun hc hne => blk_far (p := ⟨bp, 2, none⟩) (blk_far (p := ⟨bp, 1, none⟩) (blk_far (p := ⟨bp, 0, none⟩) hc hne _) hne _) hne _
  have hs2 := Kd.S_far (p := ⟨bp, 2, none⟩) (Kd.S_far (p := ⟨bp, 1, none⟩) (Kd.S_far (p := ⟨bp, 0, none⟩) (Kd.S_below (Kd.S_bound hgs) hbw) (fun k hk => by have := hk.2.2.1; show k ≠ bp; omega) v) (fun k hk => by have := hk.2.2.1; show k ≠ bp; omega) (.int .i64 0)) (fun k hk => by have := hk.2.2.1; show k ≠ bp; omega) (.int .i64 (-1))
  have hw0 : w0.heap.size ≤ w.heap.size := szb
  refine ⟨fun k => (w0.heap.size ≤ k ∧ k < w.heap.size) ∧ ∃ q, (q = 23 ∨ q = 3) ∧ ∃ cs, (((w11.setCell ⟨bp, 0, none⟩ v).setCell ⟨bp, 1, none⟩ (.int .i64 0)).setCell ⟨bp, 2, none⟩ (.int .i64 (-1))).heap[k]? = some (.cells cs q (0, 0)), w11.heap.size, far (blk_below hrs hbw) (by omega), far (blk_below hout hbw) (by omega), by omega, ?_, fun hn => far (blk_below (hwk hn) hbw) (by omega), ?_, Kd.R_nil _ _ _ _ _, hrow, below_set (below_set (below_set hbz (by omega)) (by omega)) (by omega), rfl, by simp, by simp, blk_put (blk_put (blk_put hbx 0 v rfl) 1 (.int .i64 0) rfl) 2 (.int .i64 (-1)) rfl, ?_, fun k hk => hk.2, ⟨by simp [World.setCell], by omega, by omega, by omega, by omega, by omega⟩, ⟨by omega, by omega, by omega, by omega, hgw.1⟩⟩
  · rw [lockV_nil]
    exact far (blk_below (blk_below hbl hb10) hb11) (by omega)
  · refine Kd.S_mono hs2 (fun k hk => ?_)
    obtain ⟨_, h1, h2, q, hq, cs, hc⟩ := hk
    refine ⟨⟨h1, h2⟩, q, ?_, cs, far (blk_below hc hbw) (by omega)⟩
    rcases List.mem_cons.1 hq with e | e
    · exact .inl e
    · exact .inr (List.mem_singleton.1 (show q ∈ [3] from e))
  · have hp := Kd.V_below (Kd.V_bound hv) hb11
    have hp2 := Kd.V_far (p := ⟨bp, 2, none⟩) (Kd.V_far (p := ⟨bp, 1, none⟩) (Kd.V_far (p := ⟨bp, 0, none⟩) hp (fun k hk => by have := hk.2; show k ≠ bp; omega) v) (fun k hk => by have := hk.2; show k ≠ bp; omega) (.int .i64 0)) (fun k hk => by have := hk.2; show k ≠ bp; omega) (.int .i64 (-1))
    refine Kd.V_mono hp2 (fun k hk => ?_)
    obtain ⟨hk1, hk2⟩ := hk
    refine ⟨⟨by omega, by omega, by omega, by omega, by omega⟩, by simp [Value.ownBlock], fun hy => ?_, by omega⟩
    have := hy.1
    omega
/-- how many of the first so many stripes are held -/
def heldN (held : List Int) (i : Nat) : Nat := ((List.range i).filter fun (j : Nat) => decide ((j : Int) ∈ held)).length
theorem heldN_succ (held : List Int) (i : Nat) : heldN held (i + 1) = heldN held i + (if ((i : Nat) : Int) ∈ held then 1 else 0) := by
  unfold heldN
  rw [List.range_succ, List.filter_append, List.length_append]
  congr 1
  by_cases h : ((i : Nat) : Int) ∈ held
  · rw [if_pos h]; simp [h]
  · rw [if_neg h]; simp [h]
theorem heldN_le (held : List Int) (i : Nat) : heldN held i ≤ i := by
  unfold heldN
  have := List.length_filter_le (fun (j : Nat) => decide ((j : Int) ∈ held)) (List.range i)
  simpa using this
theorem heldN_all (held : List Int) (hn : held.Nodup) (hr : ∀ s ∈ held, 0 ≤ s ∧ s < 64) : heldN held 64 = held.length := by
  have hp : List.Perm (((List.range 64).filter fun (j : Nat) => decide ((j : Int) ∈ held)).map fun (j : Nat) => (j : Int)) held := by
    rw [List.perm_ext_iff_of_nodup _ hn]
    · intro a
      simp only [List.mem_map, List.mem_filter, List.mem_range, decide_eq_true_eq]
      constructor
      · rintro ⟨j, ⟨_, h⟩, rfl⟩
        exact h
      · intro h
        have := hr a h
        exact ⟨a.toNat, ⟨by omega, by rw [Int.toNat_of_nonneg this.1]; exact h⟩, by omega⟩
    · refine List.Pairwise.map _ (fun a b h => ?_) (List.Pairwise.filter _ List.nodup_range)
      intro e
      exact h (by omega)
  have := hp.length_eq
  rwa [List.length_map] at this
end Go.Proofs.YtmgfkdnoclmbgaaDoor
