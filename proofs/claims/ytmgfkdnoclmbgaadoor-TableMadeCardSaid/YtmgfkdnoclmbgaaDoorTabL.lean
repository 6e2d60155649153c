/-
What the table's play keeps in its rounds, under each step of it. Condition: the blocks are apart.
What the table's play comes to: a plain function that follows its loop; none where a bound of ours is passed.
The table's play: the walk. Conditions: the rows can be read; the plain play answers.
The table's state under each step of a worker. Condition: the step's contract.
What the table's play keeps where it hands back. Condition: the blocks are apart.
-/
import Derived.Test.YtmgfkdnoclmbgaaDoorTabF
import Derived.Laws.MakeOwn
import Derived.Laws.OwnMore
namespace Go.Proofs.YtmgfkdnoclmbgaaDoor
open Go.RowKit Go.Maps Go.Proofs.YtmgfkdnoclmbgaaDoorW.PrintWords Go.Proofs.YtmgfkdnoclmbgaaDoorW.PrintLast Go.Proofs.YtmgfkdnoclmbgaaDoorW.PrintMore Go.Proofs.YtmgfkdnoclmbgaaDoor.P
set_option linter.unusedVariables false
/-- the block of a worker's own row -/
def gOwn (V : Array Value) (i : Nat) : Option Nat := (V[i * 3 + 2]?).bind Value.ownBlock
/-- the state of the play -/
structure FSt (w0 w : World) (n gt bp bl gw gn ge : Nat) (room stripes : Int) (L : List (List S26)) (st : List Int) (got : List (List Int)) (keys : List S26) (held : List Int) (m : Nat) (V : Array Value) (KA : Option Addr) (kc : Nat) (at_ last : Int) (P : List Int) (uv : Value) (E : List Bool) : Prop where
  tab : w.heap[gt]? = some (.cells (tabV room stripes bp bl (.slice KA keys.length kc)) 51 (0, 0))
  pl : Places bp keys w
  lk : Locks bl m held w
  kr : Kd.R k26 26 w w0.heap.size (fun _ => True) (.slice KA keys.length kc) keys
  wk : w.heap[gw]? = some (.cells V 46 (0, 0))
  row : ∀ i, i < n → ∃ A c GA gc, V[i * 3]? = some (.slice A (L.getD i []).length c) ∧ (L.getD i []).length ≤ c ∧ Kd.C k26 w0 A (L.getD i []).length (L.getD i []) ∧ V[i * 3 + 1]? = some (.int .i64 (st.getD i 0)) ∧ V[i * 3 + 2]? = some (.slice GA (got.getD i []).length gc) ∧ Kd.R (Kd.int .i64) 3 w w0.heap.size (fun _ => True) (.slice GA (got.getD i []).length gc) (got.getD i [])
  sep : ∀ i j, i < n → j < n → i ≠ j → ∀ q, gOwn V i = some q → gOwn V j ≠ some q
  below : Below w0.heap.size w0 w
  len1 : L.length = n
  len2 : st.length = n
  len3 : got.length = n
  pk : w.heap[gn]? = some (.cells #[uv, .int .i64 at_, .int .i64 last] 53 (0, 0))
  en : w.heap[ge]? = some (.cells (E.map Value.bool).toArray 4 (0, 0))
  pv : Kd.V (Kd.int .i64) 3 w w0.heap.size (fun k => (k ≠ gn ∧ k ≠ gw ∧ k ≠ gt ∧ k ≠ ge ∧ k ≠ bp ∧ k ≠ bl) ∧ some k ≠ (Value.slice KA keys.length kc).ownBlock ∧ ∀ i, i < n → gOwn V i ≠ some k) uv P
section
variable {w0 w w2 : World} {n gt bp bl gw gn ge : Nat} {room stripes : Int} {L L2 : List (List S26)} {st st2 : List Int} {got got2 : List (List Int)} {keys keys2 : List S26} {held held2 : List Int} {m m2 : Nat} {V V2 : Array Value} {KA KA2 : Option Addr} {kc kc2 : Nat} {at_ last : Int} {P : List Int} {uv : Value} {E : List Bool}
theorem FSt.own (h : FSt w0 w n gt bp bl gw gn ge room stripes L st got keys held m V KA kc at_ last P uv E) (i : Nat) (hi : i < n) : ∀ q, gOwn V i = some q → ∃ cs, w.heap[q]? = some (.cells cs 3 (0, 0)) := by
  intro q hq
  obtain ⟨A, c, GA, gc, _, _, _, _, h5, h6⟩ := h.row i hi
  unfold gOwn at hq
  rw [h5] at hq
  exact Kd.R_typed h6 q hq
theorem ne_block {w : World} {g g2 t t2 : Nat} {cs cs2 : Array Value} (h : w.heap[g]? = some (.cells cs t (0, 0))) (h2 : w.heap[g2]? = some (.cells cs2 t2 (0, 0))) (hne : t ≠ t2) : g ≠ g2 := fun e => by
  rw [e, h2] at h
  simp only [Option.some.injEq, Obj.cells.injEq] at h
  exact hne h.2.1.symm
/-- what is beside the workers, the table, its maps and rows -/
theorem FSt.away (h : FSt w0 w n gt bp bl gw gn ge room stripes L st got keys held m V KA kc at_ last P uv E) {g t : Nat} {cs : Array Value} (hc : w.heap[g]? = some (.cells cs t (0, 0))) (h3 : t ≠ 3) (h26 : t ≠ 26) (h46 : t ≠ 46) (h51 : t ≠ 51) :
    g ≠ gw ∧ g ≠ gt ∧ g ≠ bp ∧ g ≠ bl ∧ some g ≠ (Value.slice KA keys.length kc).ownBlock ∧ ∀ i, i < n → gOwn V i ≠ some g :=
  ⟨ne_block hc h.wk h46, ne_block hc h.tab h51, h.pl.ne hc, h.lk.ne hc, Kd.R_ne h.kr hc (Ne.symm h26), fun i hi e => by
    obtain ⟨cs2, h2⟩ := h.own i hi g e
    exact ne_block hc h2 h3 rfl⟩
theorem FSt.below2 (h : FSt w0 w n gt bp bl gw gn ge room stripes L st got keys held m V KA kc at_ last P uv E) (hb : Below w.heap.size w w2) : FSt w0 w2 n gt bp bl gw gn ge room stripes L st got keys held m V KA kc at_ last P uv E where
  tab := blk_below h.tab hb
  pl := h.pl.below hb
  lk := h.lk.below hb
  kr := Kd.R_below h.kr hb
  wk := blk_below h.wk hb
  row i hi := by
    obtain ⟨A, c, GA, gc, h1, h2, h3, h4, h5, h6⟩ := h.row i hi
    exact ⟨A, c, GA, gc, h1, h2, h3, h4, h5, Kd.R_below h6 hb⟩
  sep := h.sep
  below := below_step h.below hb
  len1 := h.len1
  len2 := h.len2
  len3 := h.len3
  pk := blk_below h.pk hb
  en := blk_below h.en hb
  pv := Kd.V_below h.pv hb
/-- a step of the worker i, the table and its maps: the rest is kept -/
theorem FSt.step (h : FSt w0 w n gt bp bl gw gn ge room stripes L st got keys held m V KA kc at_ last P uv E) (i : Nat) (hi : i < n) (hk : Kept w w2 (fun q => q = gw ∨ q = gt ∨ q = bp ∨ q = bl ∨ some q = (Value.slice KA keys.length kc).ownBlock ∨ gOwn V i = some q)) (hb : Below w0.heap.size w0 w2)
    (tab : w2.heap[gt]? = some (.cells (tabV room stripes bp bl (.slice KA2 keys2.length kc2)) 51 (0, 0))) (pl : Places bp keys2 w2) (lk : Locks bl m2 held2 w2) (kr : Kd.R k26 26 w2 w0.heap.size (fun _ => True) (.slice KA2 keys2.length kc2) keys2) (wk : w2.heap[gw]? = some (.cells V2 46 (0, 0)))
    (hi2 : ∃ A c GA gc, V2[i * 3]? = some (.slice A (L2.getD i []).length c) ∧ (L2.getD i []).length ≤ c ∧ Kd.C k26 w0 A (L2.getD i []).length (L2.getD i []) ∧ V2[i * 3 + 1]? = some (.int .i64 (st2.getD i 0)) ∧ V2[i * 3 + 2]? = some (.slice GA (got2.getD i []).length gc) ∧ Kd.R (Kd.int .i64) 3 w2 w0.heap.size (fun _ => True) (.slice GA (got2.getD i []).length gc) (got2.getD i []))
    (hj : ∀ j, j < n → j ≠ i → V2[j * 3]? = V[j * 3]? ∧ V2[j * 3 + 1]? = V[j * 3 + 1]? ∧ V2[j * 3 + 2]? = V[j * 3 + 2]? ∧ L2.getD j [] = L.getD j [] ∧ st2.getD j 0 = st.getD j 0 ∧ got2.getD j [] = got.getD j [])
    (hk2 : (Value.slice KA2 keys2.length kc2).ownBlock = (Value.slice KA keys.length kc).ownBlock ∨ ∃ b, (Value.slice KA2 keys2.length kc2).ownBlock = some b ∧ w.heap.size ≤ b) (hg2 : gOwn V2 i = gOwn V i ∨ ∃ b, gOwn V2 i = some b ∧ w.heap.size ≤ b)
    (l1 : L2.length = n) (l2 : st2.length = n) (l3 : got2.length = n) : FSt w0 w2 n gt bp bl gw gn ge room stripes L2 st2 got2 keys2 held2 m2 V2 KA2 kc2 at_ last P uv E := by
  obtain ⟨a1, a2, a3, a4, a5, a6⟩ := h.away h.pk (by decide) (by decide) (by decide) (by decide)
  obtain ⟨e1, e2, e3, e4, e5, e6⟩ := h.away h.en (by decide) (by decide) (by decide) (by decide)
  have own2 : ∀ j, j < n → j ≠ i → gOwn V2 j = gOwn V j := fun j hj1 hj2 => by unfold gOwn; rw [(hj j hj1 hj2).2.2.1]
  refine ⟨tab, pl, lk, kr, wk, fun j hjn => ?_, ?_, hb, l1, l2, l3, ?_, ?_, ?_⟩
  · by_cases c : j = i
    · rw [c]; exact hi2
    · obtain ⟨b1, b2, b3, b4, b5, b6⟩ := hj j hjn c
      obtain ⟨A, c', GA, gc, h1, h2, h3, h4, h5, h6⟩ := h.row j hjn
      rw [b4, b5, b6, b1, b2, b3]
      refine ⟨A, c', GA, gc, h1, h2, h3, h4, h5, ?_⟩
      have own_j : gOwn V j = (Value.slice GA (got.getD j []).length gc).ownBlock := by unfold gOwn; rw [h5]; rfl
      refine Kd.R_mono (Kd.R_kept (Kd.R_tight rfl h6) hk (fun q hq hs => ?_)) (fun _ _ => trivial)
      rw [← own_j] at hq
      obtain ⟨cs, hcs⟩ := h.own j hjn q hq.symm
      rcases hs with hs | hs | hs | hs | hs | hs
      · exact ne_block hcs h.wk (by decide) hs
      · exact ne_block hcs h.tab (by decide) hs
      · exact h.pl.ne hcs hs
      · exact h.lk.ne hcs hs
      · obtain ⟨cs2, hcs2⟩ := Kd.R_typed h.kr q hs.symm
        exact ne_block hcs hcs2 (by decide) rfl
      · exact h.sep j i hjn hi c q hq.symm hs
  · have lt : ∀ j, j < n → ∀ q, gOwn V j = some q → q < w.heap.size := fun j hjn q hq => by
      obtain ⟨cs, hcs⟩ := h.own j hjn q hq
      exact blk_lt hcs
    intro j1 j2 h1 h2 hne q hq hq2
    by_cases c1 : j1 = i
    · subst c1
      rw [own2 j2 h2 (Ne.symm hne)] at hq2
      rcases hg2 with hg2 | ⟨b, hg2, hle⟩
      · exact h.sep j1 j2 h1 h2 hne q (hg2 ▸ hq) hq2
      · rw [hg2] at hq
        injection hq with hq
        have := lt j2 h2 q hq2
        omega
    · rw [own2 j1 h1 c1] at hq
      by_cases c2 : j2 = i
      · subst c2
        rcases hg2 with hg2 | ⟨b, hg2, hle⟩
        · exact h.sep j1 j2 h1 h2 hne q hq (hg2 ▸ hq2)
        · rw [hg2] at hq2
          injection hq2 with hq2
          have := lt j1 h1 q hq
          omega
      · rw [own2 j2 h2 c2] at hq2
        exact h.sep j1 j2 h1 h2 hne q hq hq2
  · refine blk_kept h.pk hk (fun hs => ?_)
    rcases hs with hs | hs | hs | hs | hs | hs
    · exact a1 hs
    · exact a2 hs
    · exact a3 hs
    · exact a4 hs
    · exact a5 hs
    · exact a6 i hi hs
  · refine blk_kept h.en hk (fun hs => ?_)
    rcases hs with hs | hs | hs | hs | hs | hs
    · exact e1 hs
    · exact e2 hs
    · exact e3 hs
    · exact e4 hs
    · exact e5 hs
    · exact e6 i hi hs
  · have hp := Kd.V_kept (Kd.V_bound h.pv) hk (fun q hq hs => by
      rcases hs with hs | hs | hs | hs | hs | hs
      · exact hq.1.1.2.1 hs
      · exact hq.1.1.2.2.1 hs
      · exact hq.1.1.2.2.2.2.1 hs
      · exact hq.1.1.2.2.2.2.2 hs
      · exact hq.1.2.1 hs
      · exact hq.1.2.2 i hi hs)
    refine Kd.V_mono hp (fun q hq => ⟨hq.1.1, ?_, fun j hjn e => ?_⟩)
    · rcases hk2 with hk2 | ⟨b, hk2, hle⟩
      · rw [hk2]; exact hq.1.2.1
      · rw [hk2]
        intro e
        injection e with e
        have := hq.2
        omega
    · by_cases c : j = i
      · subst c
        rcases hg2 with hg2 | ⟨b, hg2, hle⟩
        · exact hq.1.2.2 j hjn (hg2 ▸ e)
        · rw [hg2] at e
          injection e with e
          have := hq.2
          omega
      · rw [own2 j hjn c] at e
        exact hq.1.2.2 j hjn e
theorem FSt.flagged (h : FSt w0 w n gt bp bl gw gn ge room stripes L st got keys held m V KA kc at_ last P uv E) (hge : w0.heap.size ≤ ge) (i : Nat) (b : Bool) : FSt w0 (w.setCell ⟨ge, i, none⟩ (.bool b)) n gt bp bl gw gn ge room stripes L st got keys held m V KA kc at_ last P uv (E.set i b) := by
  obtain ⟨e1, e2, e3, e4, e5, e6⟩ := h.away h.en (by decide) (by decide) (by decide) (by decide)
  have e7 : gn ≠ ge := ne_block h.pk h.en (by decide)
  refine ⟨blk_far (p := ⟨ge, i, none⟩) h.tab (Ne.symm e2) _, h.pl.set (Ne.symm e3) _, h.lk.set (Ne.symm e4) _, ?_, blk_far (p := ⟨ge, i, none⟩) h.wk (Ne.symm e1) _, fun j hj => ?_, h.sep, below_set h.below hge, h.len1, h.len2, h.len3, blk_far (p := ⟨ge, i, none⟩) h.pk e7 _, blk_put h.en i _ (by simp), Kd.V_far (p := ⟨ge, i, none⟩) h.pv (fun _ hk => hk.1.2.2.2.1) _⟩
  · exact Kd.R_mono (Kd.R_far (p := ⟨ge, i, none⟩) (Kd.R_types h.kr h.en (by decide)) (fun _ hk => hk.2) _) (fun _ _ => trivial)
  · obtain ⟨A, c', GA, gc, h1, h2, h3, h4, h5, h6⟩ := h.row j hj
    exact ⟨A, c', GA, gc, h1, h2, h3, h4, h5, Kd.R_mono (Kd.R_far (p := ⟨ge, i, none⟩) (Kd.R_types h6 h.en (by decide)) (fun _ hk => hk.2) _) (fun _ _ => trivial)⟩
/-- the picker anew -/
theorem FSt.picked (h : FSt w0 w n gt bp bl gw gn ge room stripes L st got keys held m V KA kc at_ last P uv E) (hgn : w0.heap.size ≤ gn) (hb : Below w.heap.size w w2) (v : Value) (at2 last2 : Int)
    (hv : Kd.V (Kd.int .i64) 3 w2 w.heap.size (fun q => ((q ≠ gn ∧ q ≠ gw ∧ q ≠ gt ∧ q ≠ ge ∧ q ≠ bp ∧ q ≠ bl) ∧ some q ≠ (Value.slice KA keys.length kc).ownBlock ∧ ∀ i, i < n → gOwn V i ≠ some q) ∨ w.heap.size ≤ q) v P) :
    FSt w0 (((w2.setCell ⟨gn, 0, none⟩ v).setCell ⟨gn, 1, none⟩ (.int .i64 at2)).setCell ⟨gn, 2, none⟩ (.int .i64 last2)) n gt bp bl gw gn ge room stripes L st got keys held m V KA kc at2 last2 P v E := by
  have z1 := blk_lt h.pk
  have z2 := blk_lt h.wk
  have z3 := blk_lt h.tab
  have z4 := blk_lt h.en
  have z5 := h.pl.lt
  have z6 := h.lk.lt
  have z7 := Kd.R_lt h.kr
  have z8 : ∀ i, i < n → ∀ q, gOwn V i = some q → q < w.heap.size := fun j hjn q hq => by
    obtain ⟨cs, hcs⟩ := h.own j hjn q hq
    exact blk_lt hcs
  have h2 := h.below2 hb
  obtain ⟨a1, a2, a3, a4, a5, a6⟩ := h2.away h2.pk (by decide) (by decide) (by decide) (by decide)
  have a7 : ge ≠ gn := Ne.symm (ne_block h2.pk h2.en (by decide))
  have far : ∀ {d : Nat} {cs : Array Value} {g : Nat}, w2.heap[g]? = some (.cells cs d (0, 0)) → g ≠ gn → (((w2.setCell ⟨gn, 0, none⟩ v).setCell ⟨gn, 1, none⟩ (.int .i64 at2)).setCell ⟨gn, 2, none⟩ (.int .i64 last2)).heap[g]? = some (.cells cs d (0, 0)) := fun hc hne => blk_far (p := ⟨gn, 2, none⟩) (blk_far (p := ⟨gn, 1, none⟩) (blk_far (p := ⟨gn, 0, none⟩) hc hne _) hne _) hne _
  refine ⟨far h2.tab (Ne.symm a2), ((h2.pl.set (Ne.symm a3) _).set (Ne.symm a3) _).set (Ne.symm a3) _, ((h2.lk.set (Ne.symm a4) _).set (Ne.symm a4) _).set (Ne.symm a4) _, ?_, far h2.wk (Ne.symm a1), fun j hj => ?_, h2.sep, below_set (below_set (below_set h2.below hgn) hgn) hgn, h2.len1, h2.len2, h2.len3, blk_put (blk_put (blk_put h2.pk 0 v rfl) 1 (.int .i64 at2) rfl) 2 (.int .i64 last2) rfl, far h2.en a7, ?_⟩
  · exact Kd.R_mono (Kd.R_far (p := ⟨gn, 2, none⟩) (Kd.R_far (p := ⟨gn, 1, none⟩) (Kd.R_far (p := ⟨gn, 0, none⟩) (Kd.R_types h2.kr h2.pk (by decide)) (fun _ hk => hk.2) _) (fun _ hk => hk.2) _) (fun _ hk => hk.2) _) (fun _ _ => trivial)
  · obtain ⟨A, c', GA, gc, h1, h2', h3, h4, h5, h6⟩ := h2.row j hj
    exact ⟨A, c', GA, gc, h1, h2', h3, h4, h5, Kd.R_mono (Kd.R_far (p := ⟨gn, 2, none⟩) (Kd.R_far (p := ⟨gn, 1, none⟩) (Kd.R_far (p := ⟨gn, 0, none⟩) (Kd.R_types h6 h2.pk (by decide)) (fun _ hk => hk.2) _) (fun _ hk => hk.2) _) (fun _ hk => hk.2) _) (fun _ _ => trivial)⟩
  · have hv2 : Kd.V (Kd.int .i64) 3 w2 w0.heap.size (fun k => (k ≠ gn ∧ k ≠ gw ∧ k ≠ gt ∧ k ≠ ge ∧ k ≠ bp ∧ k ≠ bl) ∧ some k ≠ (Value.slice KA keys.length kc).ownBlock ∧ ∀ i, i < n → gOwn V i ≠ some k) v P := by
      refine Kd.V_map (Kd.V_mono hv (fun q hq => ?_)) (fun _ hf => hf)
      rcases hq with hq | hq
      · exact hq
      · exact ⟨⟨by omega, by omega, by omega, by omega, by omega, by omega⟩, fun e => by have := z7 q e.symm; omega, fun i hi e => by have := z8 i hi q e; omega⟩
    exact Kd.V_far (p := ⟨gn, 2, none⟩) (Kd.V_far (p := ⟨gn, 1, none⟩) (Kd.V_far (p := ⟨gn, 0, none⟩) hv2 (fun _ hk => hk.1.1) _) (fun _ hk => hk.1.1) _) (fun _ hk => hk.1.1) _
end
end Go.Proofs.YtmgfkdnoclmbgaaDoor

namespace Go.Proofs.YtmgfkdnoclmbgaaDoor
open Go.RowKit Go.Maps Go.Proofs.YtmgfkdnoclmbgaaDoorW.PrintWords Go.Proofs.YtmgfkdnoclmbgaaDoorW.PrintLast Go.Proofs.YtmgfkdnoclmbgaaDoorW.PrintMore Go.Proofs.YtmgfkdnoclmbgaaDoor.P
set_option linter.unusedVariables false
instance decGk (k : S26) : Decidable (Gk k) := inferInstanceAs (Decidable (_ ∧ _ ∧ _))
/-- how many -/
def allT (n : Int) : List (List S26) → Int
  | [] => n
  | x :: W => allT (wrap64 (n + x.length)) W
/-- who may go on -/
def enT (stripes : Int) (n : Nat) (L : List (List S26)) (st : List Int) (held : List Int) : List Bool := (List.range n).map fun i => enB stripes held (L.getD i []) (st.getD i 0)
def tabL (n : Nat) (room stripes : Int) (P : List Int) : Nat → List (List S26) → List Int → List (List Int) → List S26 → List Int → Int → Int → Int → Option (List (List Int) × List S26 × Int × Int)
  | 0, _, _, _, _, _, _, _, _ => none
  | g + 1, L, st, got, keys, held, at_, last, steps =>
    if Bits.idx (enT stripes n L st held) = [] then some (got, keys, steps, (held.length : Nat))
    else if 0 ≤ whoS P at_ last (Bits.idx (enT stripes n L st held)) ∧ whoS P at_ last (Bits.idx (enT stripes n L st held)) < n ∧ 0 ≤ steps ∧ steps < 500000 then
      match L.getD (whoS P at_ last (Bits.idx (enT stripes n L st held))).toNat [] with
      | [] => none
      | k :: l =>
        if st.getD (whoS P at_ last (Bits.idx (enT stripes n L st held))).toNat 0 = 0 then
          if stripeS stripes k ∈ held then none
          else tabL n room stripes P g L (st.set (whoS P at_ last (Bits.idx (enT stripes n L st held))).toNat 1) got keys (stripeS stripes k :: held) (atS P at_ (Bits.idx (enT stripes n L st held))) (lastS P at_ last (Bits.idx (enT stripes n L st held))) (steps + 1)
        else if st.getD (whoS P at_ last (Bits.idx (enT stripes n L st held))).toNat 0 = 1 then
          if keys.length < 5000 ∧ (got.getD (whoS P at_ last (Bits.idx (enT stripes n L st held))).toNat []).length < 5000 then
            tabL n room stripes P g L (st.set (whoS P at_ last (Bits.idx (enT stripes n L st held))).toNat 2) (got.set (whoS P at_ last (Bits.idx (enT stripes n L st held))).toNat (got.getD (whoS P at_ last (Bits.idx (enT stripes n L st held))).toNat [] ++ [(indexS room keys k).1])) (indexS room keys k).2 held
              (atS P at_ (Bits.idx (enT stripes n L st held))) (lastS P at_ last (Bits.idx (enT stripes n L st held))) (steps + 1)
          else none
        else if st.getD (whoS P at_ last (Bits.idx (enT stripes n L st held))).toNat 0 = 2 then
          if stripeS stripes k ∈ held ∧ held.Nodup then
            tabL n room stripes P g (L.set (whoS P at_ last (Bits.idx (enT stripes n L st held))).toNat l) (st.set (whoS P at_ last (Bits.idx (enT stripes n L st held))).toNat 0) got keys (held.erase (stripeS stripes k)) (atS P at_ (Bits.idx (enT stripes n L st held))) (lastS P at_ last (Bits.idx (enT stripes n L st held))) (steps + 1)
          else none
        else none
    else none
/-- the whole play -/
def tabF (l0 : List (List S26)) (room stripes : Int) (P : List Int) : Option (List (List Int) × List S26 × Int × Int) :=
  if l0.length ≤ 100000 ∧ P.length ≤ 1000000 ∧ (∀ x ∈ l0, ∀ k ∈ x, Gk k) then
    if 64 < l0.length ∨ 4096 < allT 0 l0 then some ([], [], 0, 0)
    else tabL l0.length room stripes P (3 * (allT 0 l0).toNat + 1) l0 (List.replicate l0.length 0) (List.replicate l0.length []) [] [] 0 (-1) 0
  else none
theorem made_workers : ∀ n : Nat, ((List.replicate n (Value.agg #[.slice none 0 0, .int .i64 0, .slice none 0 0])).flatMap fun v => v.cells.toList).length = 3 * n
  | 0 => rfl
  | n + 1 => by
    rw [List.replicate_succ, List.flatMap_cons, List.length_append, made_workers n]
    show 3 + 3 * n = _
    omega
end Go.Proofs.YtmgfkdnoclmbgaaDoor

namespace Go.Proofs.YtmgfkdnoclmbgaaDoor
open Go.RowKit Go.Maps Go.Proofs.YtmgfkdnoclmbgaaDoorW.PrintWords Go.Proofs.YtmgfkdnoclmbgaaDoorW.PrintLast Go.Proofs.YtmgfkdnoclmbgaaDoorW.PrintMore Go.Proofs.YtmgfkdnoclmbgaaDoor.P
set_option linter.unusedVariables false
set_option linter.unusedSimpArgs false
theorem info46 : (Tryd.prog.info? 46).map (fun i => (i.zero, i.size, i.bytes)) = some (some (.agg #[.slice none 0 0, .int .i64 0, .slice none 0 0]), 3, 56) := by kernel_rfl
theorem info4b : (Tryd.prog.info? 4).map (fun i => (i.zero, i.size, i.bytes)) = some (some (.bool false), 1, 1) := by kernel_rfl
theorem res_four {fn : Func} {t u v x : Tmp} (h : fn.results = #[.tmp t, .tmp u, .tmp v, .tmp x]) (tmps : Array Value) (P : Program) (w : World) :
    (results fn tmps).run P w = .ok (.tuple #[tmps.getD t undef, tmps.getD u undef, tmps.getD v undef, tmps.getD x undef]) w := by
  simp [results, h, go_sem]
theorem bools_C (E : List Bool) (w : World) (g : Nat) (h : w.heap[g]? = some (.cells (E.map Value.bool).toArray 4 (0, 0))) (hl : E.length ≤ 64) : Kd.C Kd.bool w (some ⟨g, 0, none⟩) E.length E := by
  refine ⟨rfl, by omega, fun _ => ⟨⟨g, 0, none⟩, rfl, fun j p hp => ⟨[.bool p], rfl, rfl, fun i u hu => ?_⟩⟩⟩
  have hi : i = 0 := by
    rcases i with _ | i
    · rfl
    · simp at hu
  subst hi
  obtain rfl : Value.bool p = u := by simpa using hu
  have e : (Addr.add ⟨g, 0, none⟩ (j * Kd.bool.sz + 0)) = ⟨g, j, none⟩ := by
    rw [show Kd.bool.sz = 1 from rfl]
    simp [Addr.add]
    exact Eq.symm
  rw [e]
  refine (blk_cell h j).trans ?_
  simp [hp]
theorem next_call (E : List Bool) (n : Nat) (hn : E.length = n) (hl : n ≤ 64) (P : Nat → Prop) (A : Option Addr) (c : Nat) (L : List Int) (at_ last : Int) (hL : L.length ≤ 1000000) (g : Nat) (w : World) (hV : Kd.V (Kd.int .i64) 3 w w.heap.size P (.slice A L.length c) L) (hE : w.heap[g]? = some (.cells (E.map Value.bool).toArray 4 (0, 0))) (hT : Tab w) (who at2 last2 : Int) (h1 : whoS L at_ last (Bits.idx E) = who) (h2 : atS L at_ (Bits.idx E) = at2) (h3 : lastS L at_ last (Bits.idx E) = last2) :
    Calls Tryd.prog 17 #[.agg #[.slice A L.length c, .int .i64 at_, .int .i64 last], .slice (some ⟨g, 0, none⟩) n n] w fun e w' => ∃ (A' : Option Addr) (c' : Nat), e = .returned (.tuple #[.int .i64 who, .agg #[.slice A' L.length c', .int .i64 at2, .int .i64 last2]]) ∧ Kd.V (Kd.int .i64) 3 w' w.heap.size (fun k_ => P k_ ∨ w.heap.size ≤ k_) (.slice A' L.length c') L ∧ Below w.heap.size w w' := by
  subst hn h1 h2 h3
  obtain ⟨k, hk⟩ := (next_ev L at_ last E hL (by omega)).rounds
  refine (pick_Next.calls k P A c L at_ last (some ⟨g, 0, none⟩) E.length E _ _ _ _ w hV (bools_C E w g hE hl) (Nat.le_refl _) hk hT).mono ?_
  rintro e w' ⟨v1, rfl, ho, hb⟩
  obtain ⟨A', c', rfl⟩ := Kd.V_slice ho
  exact ⟨A', c', rfl, ho, hb⟩
/-- the workers' cells, new -/
def V0 (n : Nat) : Array Value := madeCells (Value.agg #[.slice none 0 0, .int .i64 0, .slice none 0 0]).cells (n * 3)
theorem V0_size (n : Nat) : (V0 n).size = n * 3 := by unfold V0 madeCells; simp
theorem V0_get (n i j : Nat) (hi : i < n) (hj : j < 3) : (V0 n)[i * 3 + j]? = [Value.slice none 0 0, .int .i64 0, .slice none 0 0][j]? := by
  have h : i * 3 + j < (V0 n).size := by rw [V0_size]; omega
  rw [Array.getElem?_eq_getElem h]
  have hc : (Value.agg #[.slice none 0 0, .int .i64 0, .slice none 0 0]).cells = #[.slice none 0 0, .int .i64 0, .slice none 0 0] := by kernel_rfl
  have e : (V0 n)[i * 3 + j] = (#[Value.slice none 0 0, .int .i64 0, .slice none 0 0] : Array Value)[(i * 3 + j) % 3]! := by
    simp only [V0, madeCells, hc, Array.getElem_map, Array.getElem_range]
    rfl
  rw [e, show (i * 3 + j) % 3 = j by omega]
  match j, hj with
  | 0, _ => rfl
  | 1, _ => rfl
  | 2, _ => rfl
theorem make_workers (W : World) (n : Nat) (hn : n ≤ 100000) : (Instr.makeSlice 44 (.int .i64 (n : Int)) (.int .i64 (n : Int))).run Tryd.prog W = .ok (.slice (some ⟨W.heap.size, 0, none⟩) n n) (W.alloc (.cells (V0 n) 46 (0, 0))) := by
  obtain ⟨i, hi, h⟩ := Option.map_eq_some_iff.1 info46
  simp only [Prod.mk.injEq] at h
  obtain ⟨h1, h2, h3⟩ := h
  have := run_makeSlice (P := Tryd.prog) W 44 46 i _ Tryd.underlying44 hi h1 .i64 .i64 (n : Int) (n : Int) (by omega) (by omega) (by rw [h2, Int.toNat_natCast]; omega) (by rw [h3]; omega) (by omega)
  rw [h2, Int.toNat_natCast] at this
  exact this
theorem made1 (n : Nat) : madeCells (Value.bool false).cells (n * 1) = (List.replicate n (Value.bool false)).toArray := by
  apply Array.ext'
  rw [Nat.mul_one]
  exact toList_madeCells_one _ n
theorem make_bools (W : World) (n : Nat) (hn : n ≤ 64) : (Instr.makeSlice 55 (.int .i64 (n : Int)) (.int .i64 (n : Int))).run Tryd.prog W = .ok (.slice (some ⟨W.heap.size, 0, none⟩) n n) (W.alloc (.cells (List.replicate n (Value.bool false)).toArray 4 (0, 0))) := by
  obtain ⟨i, hi, h⟩ := Option.map_eq_some_iff.1 info4b
  simp only [Prod.mk.injEq] at h
  obtain ⟨h1, h2, h3⟩ := h
  have := run_makeSlice (P := Tryd.prog) W 55 4 i _ Tryd.underlying55 hi h1 .i64 .i64 (n : Int) (n : Int) (by omega) (by omega) (by rw [h2, Int.toNat_natCast]; omega) (by rw [h3]; omega) (by omega)
  rw [h2, Int.toNat_natCast, made1] at this
  exact this
/-- the workers' cells, of which the first have their scripts -/
def Begun (w0 : World) (l0 : List (List S26)) (V : Array Value) (i : Nat) : Prop :=
  (∀ j, j < l0.length → V[j * 3 + 1]? = some (.int .i64 0) ∧ V[j * 3 + 2]? = some (.slice none 0 0)) ∧ (∀ j, j < l0.length → ∃ v, V[j * 3]? = some v) ∧
  ∀ j, j < i → ∃ A c, V[j * 3]? = some (.slice A (l0.getD j []).length c) ∧ (l0.getD j []).length ≤ c ∧ Kd.C k26 w0 A (l0.getD j []).length (l0.getD j [])
theorem Begun.next {w0 : World} {l0 : List (List S26)} {V : Array Value} {i : Nat} (h : Begun w0 l0 V i) (hi : i < l0.length) {A : Option Addr} {c : Nat} (hc : (l0.getD i []).length ≤ c) (hC : Kd.C k26 w0 A (l0.getD i []).length (l0.getD i [])) : Begun w0 l0 (V.setIfInBounds (i * 3) (.slice A (l0.getD i []).length c)) (i + 1) := by
  obtain ⟨h1, h2, h3⟩ := h
  have hs : i * 3 < V.size := by
    obtain ⟨v, hv⟩ := h2 i hi
    exact (Array.getElem?_eq_some_iff.1 hv).1
  refine ⟨fun j hj => ?_, fun j hj => ?_, fun j hj => ?_⟩
  · rw [Array.getElem?_setIfInBounds_ne (by omega), Array.getElem?_setIfInBounds_ne (by omega)]
    exact h1 j hj
  · by_cases e : j = i
    · subst e
      exact ⟨_, Array.getElem?_setIfInBounds_self_of_lt hs⟩
    · rw [Array.getElem?_setIfInBounds_ne (by omega)]
      exact h2 j hj
  · by_cases e : j = i
    · subst e
      exact ⟨A, c, Array.getElem?_setIfInBounds_self_of_lt hs, hc, hC⟩
    · rw [Array.getElem?_setIfInBounds_ne (by omega)]
      exact h3 j (by omega)
end Go.Proofs.YtmgfkdnoclmbgaaDoor

namespace Go.Proofs.YtmgfkdnoclmbgaaDoor
open Go.RowKit Go.Maps Go.Proofs.YtmgfkdnoclmbgaaDoorW.PrintWords Go.Proofs.YtmgfkdnoclmbgaaDoorW.PrintLast Go.Proofs.YtmgfkdnoclmbgaaDoorW.PrintMore Go.Proofs.YtmgfkdnoclmbgaaDoor.P
set_option linter.unusedVariables false
theorem Places.of_heap {b : Nat} {l : List S26} {w w' : World} (h : Places b l w) (e : w'.heap[b]? = w.heap[b]?) : Places b l w' := by
  obtain ⟨n, D, h1, ⟨es, clock, hb, F, hs, hD⟩, h3, h4⟩ := h
  exact ⟨n, D, h1, ⟨es, clock, e.trans hb, F, hs, hD⟩, h3, h4⟩
theorem Locks.of_heap {b m : Nat} {l : List Int} {w w' : World} (h : Locks b m l w) (e : w'.heap[b]? = w.heap[b]?) : Locks b m l w' := by
  obtain ⟨n, D, h1, ⟨es, clock, hb, F, hs, hD⟩, h3, h4⟩ := h
  exact ⟨n, D, h1, ⟨es, clock, e.trans hb, F, hs, hD⟩, h3, h4⟩
theorem Locks.more {b m m' : Nat} {l : List Int} {w : World} (h : Locks b m l w) (hm : m ≤ m') : Locks b m' l w := by
  obtain ⟨n, D, h1, h2⟩ := h
  exact ⟨n, D, Nat.le_trans h1 hm, h2⟩
theorem getD_set_ne {α : Type} (l : List α) (i j : Nat) (v d : α) (h : j ≠ i) : (l.set i v).getD j d = l.getD j d := by
  simp only [List.getD_eq_getElem?_getD, List.getElem?_set, if_neg (Ne.symm h)]
theorem getD_set_self {α : Type} (l : List α) (i : Nat) (v d : α) (h : i < l.length) : (l.set i v).getD i d = v := by
  simp [List.getD_eq_getElem?_getD, h]
section
variable {w0 w w2 : World} {n gt bp bl gw gn ge : Nat} {room stripes : Int} {L : List (List S26)} {st : List Int} {got : List (List Int)} {keys : List S26} {held : List Int} {m : Nat} {V : Array Value} {KA : Option Addr} {kc : Nat} {at_ last : Int} {P : List Int} {uv : Value} {E : List Bool}
theorem FSt.keys_kept (h : FSt w0 w n gt bp bl gw gn ge room stripes L st got keys held m V KA kc at_ last P uv E) (hbb : bp ≠ bl) (hk : Kept w w2 (fun q => q = gw ∨ q = bl)) :
    w2.heap[gt]? = some (.cells (tabV room stripes bp bl (.slice KA keys.length kc)) 51 (0, 0)) ∧ Places bp keys w2 ∧ Kd.R k26 26 w2 w0.heap.size (fun _ => True) (.slice KA keys.length kc) keys ∧ ∀ (GA : Option Addr) (gc : Nat) (xs : List Int), Kd.R (Kd.int .i64) 3 w w0.heap.size (fun _ => True) (.slice GA xs.length gc) xs → Kd.R (Kd.int .i64) 3 w2 w0.heap.size (fun _ => True) (.slice GA xs.length gc) xs := by
  refine ⟨blk_kept h.tab hk (fun e => ?_), h.pl.of_heap (hk.2 bp h.pl.lt (fun e => ?_)), ?_, fun GA gc xs hx => ?_⟩
  · rcases e with e | e
    · exact ne_block h.tab h.wk (by decide) e
    · exact h.lk.ne h.tab e
  · rcases e with e | e
    · exact h.pl.ne h.wk e.symm
    · exact hbb e
  · refine Kd.R_mono (Kd.R_kept (Kd.R_tight rfl h.kr) hk (fun q hq e => ?_)) (fun _ _ => trivial)
    obtain ⟨cs, hcs⟩ := Kd.R_typed h.kr q hq.symm
    rcases e with e | e
    · exact ne_block hcs h.wk (by decide) e
    · exact h.lk.ne hcs e
  · refine Kd.R_mono (Kd.R_kept (Kd.R_tight rfl hx) hk (fun q hq e => ?_)) (fun _ _ => trivial)
    obtain ⟨cs, hcs⟩ := Kd.R_typed hx q hq.symm
    rcases e with e | e
    · exact ne_block hcs h.wk (by decide) e
    · exact h.lk.ne hcs e
theorem vlt {V : Array Value} {j : Nat} {v : Value} (h : V[j]? = some v) : j < V.size := (Array.getElem?_eq_some_iff.1 h).1
theorem FSt.locked (h : FSt w0 w n gt bp bl gw gn ge room stripes L st got keys held m V KA kc at_ last P uv E) (hbb : bp ≠ bl) (i : Nat) (hi : i < n) {s : Int} {m2 : Nat} (hm : m + 1 ≤ m2)
    (hw : w2.heap[gw]? = some (.cells (V.setIfInBounds (i * 3 + 1) (.int .i64 1)) 46 (0, 0))) (hl : Locks bl (m + 1) (s :: held) w2) (hb : Below w0.heap.size w0 w2) (hk : Kept w w2 (fun q => q = gw ∨ q = bl)) :
    FSt w0 w2 n gt bp bl gw gn ge room stripes L (st.set i 1) got keys (s :: held) m2 (V.setIfInBounds (i * 3 + 1) (.int .i64 1)) KA kc at_ last P uv E := by
  obtain ⟨k1, k2, k3, k4⟩ := h.keys_kept hbb hk
  obtain ⟨A, c, GA, gc, b1, b2, b3, b4, b5, b6⟩ := h.row i hi
  refine h.step i hi (hk.mono (fun q hq => by rcases hq with hq | hq; exact .inl hq; exact .inr (.inr (.inr (.inl hq))))) hb k1 k2 (hl.more hm) k3 hw ?_ (fun j hj hne => ?_) (.inl rfl) (.inl ?_) h.len1 (by rw [List.length_set]; exact h.len2) h.len3
  · refine ⟨A, c, GA, gc, ?_, b2, b3, ?_, ?_, k4 _ _ _ b6⟩
    · rw [Array.getElem?_setIfInBounds_ne (by omega)]; exact b1
    · rw [getD_set_self _ _ _ _ (by rw [h.len2]; exact hi)]; exact Array.getElem?_setIfInBounds_self_of_lt (vlt b4)
    · rw [Array.getElem?_setIfInBounds_ne (by omega)]; exact b5
  · exact ⟨Array.getElem?_setIfInBounds_ne (by omega), Array.getElem?_setIfInBounds_ne (by omega), Array.getElem?_setIfInBounds_ne (by omega), rfl, getD_set_ne _ _ _ _ _ hne, rfl⟩
  · unfold gOwn; rw [Array.getElem?_setIfInBounds_ne (by omega)]
theorem FSt.left (h : FSt w0 w n gt bp bl gw gn ge room stripes L st got keys held m V KA kc at_ last P uv E) (hbb : bp ≠ bl) (i : Nat) (hi : i < n) {m2 : Nat} (hm : m ≤ m2) {l : List S26} {held2 : List Int} {A' : Option Addr} {c' : Nat} (hlc : l.length ≤ c') (hC : Kd.C k26 w0 A' l.length l)
    (hw : w2.heap[gw]? = some (.cells ((V.setIfInBounds (i * 3) (.slice A' l.length c')).setIfInBounds (i * 3 + 1) (.int .i64 0)) 46 (0, 0))) (hl : Locks bl m held2 w2) (hb : Below w0.heap.size w0 w2) (hk : Kept w w2 (fun q => q = gw ∨ q = bl)) :
    FSt w0 w2 n gt bp bl gw gn ge room stripes (L.set i l) (st.set i 0) got keys held2 m2 ((V.setIfInBounds (i * 3) (.slice A' l.length c')).setIfInBounds (i * 3 + 1) (.int .i64 0)) KA kc at_ last P uv E := by
  obtain ⟨k1, k2, k3, k4⟩ := h.keys_kept hbb hk
  obtain ⟨A, c, GA, gc, b1, b2, b3, b4, b5, b6⟩ := h.row i hi
  refine h.step i hi (hk.mono (fun q hq => by rcases hq with hq | hq; exact .inl hq; exact .inr (.inr (.inr (.inl hq))))) hb k1 k2 (hl.more hm) k3 hw ?_ (fun j hj hne => ?_) (.inl rfl) (.inl ?_) (by rw [List.length_set]; exact h.len1) (by rw [List.length_set]; exact h.len2) h.len3
  · have e1 : (L.set i l).getD i [] = l := getD_set_self _ _ _ _ (by rw [h.len1]; exact hi)
    rw [e1, getD_set_self _ _ _ _ (by rw [h.len2]; exact hi)]
    refine ⟨A', c', GA, gc, ?_, hlc, hC, ?_, ?_, k4 _ _ _ b6⟩
    · rw [Array.getElem?_setIfInBounds_ne (by omega)]; exact Array.getElem?_setIfInBounds_self_of_lt (vlt b1)
    · exact Array.getElem?_setIfInBounds_self_of_lt (by simpa using vlt b4)
    · rw [Array.getElem?_setIfInBounds_ne (by omega), Array.getElem?_setIfInBounds_ne (by omega)]; exact b5
  · refine ⟨?_, ?_, ?_, getD_set_ne _ _ _ _ _ hne, getD_set_ne _ _ _ _ _ hne, rfl⟩ <;> rw [Array.getElem?_setIfInBounds_ne (by omega), Array.getElem?_setIfInBounds_ne (by omega)]
  · unfold gOwn; rw [Array.getElem?_setIfInBounds_ne (by omega), Array.getElem?_setIfInBounds_ne (by omega)]
theorem FSt.looked (h : FSt w0 w n gt bp bl gw gn ge room stripes L st got keys held m V KA kc at_ last P uv E) (hbb : bp ≠ bl) (i : Nat) (hi : i < n) {m2 : Nat} (hm : m ≤ m2) {keys2 : List S26} {x : Int} {GA : Option Addr} {gc : Nat} (hg : V[i * 3 + 2]? = some (.slice GA (got.getD i []).length gc))
    (hlk : Looked w0 w w2 gw i gt bp bl stripes room keys keys2 x (got.getD i []) V (.slice KA keys.length kc) (.slice GA (got.getD i []).length gc)) :
    ∃ V2 KA2 kc2, FSt w0 w2 n gt bp bl gw gn ge room stripes L (st.set i 2) (got.set i (got.getD i [] ++ [x])) keys2 held m2 V2 KA2 kc2 at_ last P uv E := by
  obtain ⟨KA2, kc2, GA2, gc2, t1, t2, t3, t4, t5, t6, t7, t8, t9⟩ := hlk
  obtain ⟨A, c, GA', gc', b1, b2, b3, b4, b5, b6⟩ := h.row i hi
  have own : gOwn V i = (Value.slice GA (got.getD i []).length gc).ownBlock := by unfold gOwn; rw [hg]; rfl
  have nbl : ¬ (bl = gw ∨ bl = gt ∨ bl = bp ∨ some bl = (Value.slice KA keys.length kc).ownBlock ∨ some bl = (Value.slice GA (got.getD i []).length gc).ownBlock) := fun e => by
    rcases e with e | e | e | e | e
    · exact h.lk.ne h.wk e.symm
    · exact h.lk.ne h.tab e.symm
    · exact hbb e.symm
    · obtain ⟨cs, hcs⟩ := Kd.R_typed h.kr bl e.symm
      exact h.lk.ne hcs rfl
    · obtain ⟨cs, hcs⟩ := h.own i hi bl (by rw [own]; exact e.symm)
      exact h.lk.ne hcs rfl
  have eg : (got.set i (got.getD i [] ++ [x])).getD i [] = got.getD i [] ++ [x] := getD_set_self _ _ _ _ (by rw [h.len3]; exact hi)
  refine ⟨_, KA2, kc2, h.step i hi (t7.mono (fun q hq => ?_)) t6 t1 t3 ((h.lk.of_heap (t7.2 bl h.lk.lt nbl)).more hm) t4 t2 ?_ (fun j hj hne => ?_) t8 ?_ h.len1 (by rw [List.length_set]; exact h.len2) (by rw [List.length_set]; exact h.len3)⟩
  · rcases hq with hq | hq | hq | hq | hq
    · exact .inl hq
    · exact .inr (.inl hq)
    · exact .inr (.inr (.inl hq))
    · exact .inr (.inr (.inr (.inr (.inl hq))))
    · exact .inr (.inr (.inr (.inr (.inr (by rw [own]; exact hq.symm)))))
  · rw [eg, getD_set_self _ _ _ _ (by rw [h.len2]; exact hi)]
    refine ⟨A, c, GA2, gc2, ?_, b2, b3, ?_, ?_, t5⟩
    · rw [Array.getElem?_setIfInBounds_ne (by omega), Array.getElem?_setIfInBounds_ne (by omega)]; exact b1
    · exact Array.getElem?_setIfInBounds_self_of_lt (by simpa using vlt b4)
    · rw [Array.getElem?_setIfInBounds_ne (by omega)]; exact Array.getElem?_setIfInBounds_self_of_lt (vlt b5)
  · refine ⟨?_, ?_, ?_, rfl, getD_set_ne _ _ _ _ _ hne, getD_set_ne _ _ _ _ _ hne⟩ <;> rw [Array.getElem?_setIfInBounds_ne (by omega), Array.getElem?_setIfInBounds_ne (by omega)]
  · have e2 : gOwn ((V.setIfInBounds (i * 3 + 2) (.slice GA2 (got.getD i [] ++ [x]).length gc2)).setIfInBounds (i * 3 + 1) (.int .i64 2)) i = (Value.slice GA2 (got.getD i [] ++ [x]).length gc2).ownBlock := by
      unfold gOwn
      rw [Array.getElem?_setIfInBounds_ne (by omega), Array.getElem?_setIfInBounds_self_of_lt (vlt b5)]
      rfl
    rw [e2, own]
    exact t9
end
end Go.Proofs.YtmgfkdnoclmbgaaDoor

namespace Go.Proofs.YtmgfkdnoclmbgaaDoor
open Go.RowKit Go.Maps Go.Proofs.YtmgfkdnoclmbgaaDoorW.PrintWords Go.Proofs.YtmgfkdnoclmbgaaDoorW.PrintLast Go.Proofs.YtmgfkdnoclmbgaaDoorW.PrintMore Go.Proofs.YtmgfkdnoclmbgaaDoor.P
set_option linter.unusedVariables false
theorem info23b : (Tryd.prog.info? 23).map (fun i => (i.zero, i.size, i.bytes)) = some (some (.slice none 0 0), 1, 24) := by kernel_rfl
/-- the end of the play: the table, the workers, their rows -/
structure Fin5 (w0 w : World) (n gt bp bl gw : Nat) (room stripes : Int) (got : List (List Int)) (keys : List S26) (held : List Int) (m : Nat) (V : Array Value) (KA : Option Addr) (kc : Nat) : Prop where
  tab : w.heap[gt]? = some (.cells (tabV room stripes bp bl (.slice KA keys.length kc)) 51 (0, 0))
  lk : Locks bl m held w
  kr : Kd.R k26 26 w w0.heap.size (fun _ => True) (.slice KA keys.length kc) keys
  wk : w.heap[gw]? = some (.cells V 46 (0, 0))
  row : ∀ i, i < n → ∃ Aa na ca sb GA gc, V[i * 3]? = some (.slice Aa na ca) ∧ V[i * 3 + 1]? = some (.int .i64 sb) ∧ V[i * 3 + 2]? = some (.slice GA (got.getD i []).length gc) ∧ Kd.R (Kd.int .i64) 3 w w0.heap.size (fun _ => True) (.slice GA (got.getD i []).length gc) (got.getD i [])
  below : Below w0.heap.size w0 w
section
variable {w0 w w2 : World} {n gt bp bl gw gn ge : Nat} {room stripes : Int} {L : List (List S26)} {st : List Int} {got : List (List Int)} {keys : List S26} {held : List Int} {m : Nat} {V : Array Value} {KA : Option Addr} {kc : Nat} {at_ last : Int} {P : List Int} {uv : Value} {E : List Bool}
theorem FSt.fin (h : FSt w0 w n gt bp bl gw gn ge room stripes L st got keys held m V KA kc at_ last P uv E) : Fin5 w0 w n gt bp bl gw room stripes got keys held m V KA kc where
  tab := h.tab
  lk := h.lk
  kr := h.kr
  wk := h.wk
  row i hi := by
    obtain ⟨A, c, GA, gc, h1, h2, h3, h4, h5, h6⟩ := h.row i hi
    exact ⟨_, _, _, _, GA, gc, h1, h4, h5, h6⟩
  below := h.below
theorem Fin5.below2 (h : Fin5 w0 w n gt bp bl gw room stripes got keys held m V KA kc) (hb : Below w.heap.size w w2) : Fin5 w0 w2 n gt bp bl gw room stripes got keys held m V KA kc where
  tab := blk_below h.tab hb
  lk := h.lk.below hb
  kr := Kd.R_below h.kr hb
  wk := blk_below h.wk hb
  row i hi := by
    obtain ⟨Aa, na, ca, sb, GA, gc, h1, h4, h5, h6⟩ := h.row i hi
    exact ⟨Aa, na, ca, sb, GA, gc, h1, h4, h5, Kd.R_below h6 hb⟩
  below := below_step h.below hb
/-- another row, of another type, grows -/
theorem Fin5.grown (h : Fin5 w0 w n gt bp bl gw room stripes got keys held m V KA kc) {row : Option Nat} (hg : w.grownBy w2 row) (hty : ∀ q, row = some q → ∃ cs, w.heap[q]? = some (.cells cs 23 (0, 0))) (hb : Below w0.heap.size w0 w2) : Fin5 w0 w2 n gt bp bl gw room stripes got keys held m V KA kc := by
  have ne : ∀ {g t : Nat} {cs : Array Value}, w.heap[g]? = some (.cells cs t (0, 0)) → t ≠ 23 → some g ≠ row := fun hc ht e => by
    obtain ⟨cs2, h2⟩ := hty _ e.symm
    exact ne_block hc h2 ht rfl
  refine ⟨blk_grown h.tab hg (ne h.tab (by decide)), h.lk.kept hg (fun e => ?_), ?_, blk_grown h.wk hg (ne h.wk (by decide)), fun i hi => ?_, hb⟩
  · obtain ⟨cs2, h2⟩ := hty bl e.symm
    exact h.lk.ne h2 rfl
  · refine Kd.R_grown2 h.kr rfl hg (fun q hq e => ?_)
    obtain ⟨cs, hcs⟩ := Kd.R_typed h.kr q e.symm
    exact ne hcs (by decide) hq.symm
  · obtain ⟨Aa, na, ca, sb, GA, gc, h1, h4, h5, h6⟩ := h.row i hi
    refine ⟨Aa, na, ca, sb, GA, gc, h1, h4, h5, Kd.R_grown2 h6 rfl hg (fun q hq e => ?_)⟩
    obtain ⟨cs, hcs⟩ := Kd.R_typed h6 q e.symm
    exact ne hcs (by decide) hq.symm
end
end Go.Proofs.YtmgfkdnoclmbgaaDoor
