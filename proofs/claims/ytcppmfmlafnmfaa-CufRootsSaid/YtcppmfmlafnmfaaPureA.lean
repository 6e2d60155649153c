/-
What the printed functions of cells and tasks come to: plain lemmas, with enough rounds. Conditions: the cells may be (Ok), numbers are bytes, lists are short.
-/
import Derived.Test.YtcppmfmlafnmfaaPx2
import Derived.Test.YtcppmfmlafnmfaaPx3
import Derived.Test.YtcppmfmlafnmfaaPx4
import Derived.Test.YtcppmfmlafnmfaaPx6
import Derived.Test.YtcppmfmlafnmfaaStubA
import Derived.Test.YtcppmfmlafnmfaaCufN
set_option linter.unusedSimpArgs false
set_option linter.unusedVariables false
namespace Go.Proofs.Ytcppmfmlafnmfaa.P
open Go.RowKit Go.Proofs.YtcppmfmlafnmfaaW.PrintWords Go.Proofs.YtcppmfmlafnmfaaW.PrintLast
theorem wr64 {i : Int} (h0 : -9223372036854775808 ≤ i) (h1 : i ≤ 9223372036854775807) : wrap64 i = i := by unfold wrap64; omega
theorem rd_nat (l : List Int) (i : Nat) : rd l (i : Int) = l.getD i 0 := by simp [rd]
theorem there_f (n x : Int) : warpref1_there.f n x = some (thereB n x) := by
  unfold warpref1_there.f thereB
  by_cases h : 0 ≤ x
  · rw [if_pos h]; simp [h]
  · rw [if_neg h]; simp [h]
theorem belowB_eq (p : List Int) (x y : Int) : belowB p x y = if rd p x < rd p y then true else if rd p x = rd p y then decide (x < y) else false := by
  unfold belowB lowB rd
  by_cases h : p.getD x.toNat 0 < p.getD y.toNat 0
  · simp [h]
  · by_cases e : p.getD x.toNat 0 = p.getD y.toNat 0
    · simp [h, e]
    · simp [h, e]
theorem rbelow_f (p : List Int) (x y : Int) (hx : In p.length x) (hy : In p.length y) : warpref1_below.f p x y = some (belowB p x y) := by
  unfold warpref1_below.f
  rw [if_pos hx.1, if_pos hx.2, if_pos hy.1, if_pos hy.2, belowB_eq]
  split
  · rfl
  · split <;> rfl
theorem below_f (p : List Int) (x y : Int) (hx : In p.length x) (hy : In p.length y) : cuf_below.f p x y = some (belowB p x y) := by
  unfold cuf_below.f
  rw [if_pos hx.1, if_pos hx.2, if_pos hy.1, if_pos hy.2, belowB_eq]
  split
  · rfl
  · split <;> rfl
/-! ### two lists are one -/
theorem ints_l0 (l : List Int) (hl : l.length ≤ 1000000) : ∀ d i : Nat, i + d = l.length → Ev (fun k => warpref1_Ints.l0 k l l (i : Int)) true
  | 0, i, h => by
    refine Ev.step (f := fun _ => some true) (fun k => ?_) (Ev.now _)
    simp only [warpref1_Ints.l0]
    rw [if_neg (by omega)]
  | d + 1, i, h => by
    refine Ev.step (f := fun k => warpref1_Ints.l0 k l l ((i + 1 : Nat) : Int)) (fun k => ?_) (ints_l0 l hl d (i + 1) (by omega))
    rw [warpref1_Ints.l0, if_pos (by omega), if_pos (by omega), if_pos (by omega), if_pos rfl, wr64 (by omega) (by omega)]
    rfl
theorem ints_same (l : List Int) (hl : l.length ≤ 1000000) : Ev (fun k => warpref1_Ints.f k l l) true := by
  refine Ev.congr (fun k => ?_) (ints_l0 l hl l.length 0 (by omega))
  unfold warpref1_Ints.f
  rw [if_pos rfl]
  rfl
/-! ### a new partition, priorities, operations -/
def iotaL (n : Nat) : List Int := (List.range n).map fun (i : Nat) => (i : Int)
theorem iotaL_length (n : Nat) : (iotaL n).length = n := by simp [iotaL]
theorem iotaL_succ (n : Nat) : iotaL n ++ [(n : Int)] = iotaL (n + 1) := by simp [iotaL, List.range_succ]
theorem iotaL_getD (n i : Nat) (h : i < n) : (iotaL n).getD i 0 = (i : Int) := by simp [iotaL, List.getD_eq_getElem?_getD, h]
theorem iotaL_ok {n : Nat} {p : List Int} (hp : p.length = n) (hn : n ≤ 65536) : Ok (iotaL n) p :=
  ⟨by rw [iotaL_length, hp], by rw [iotaL_length]; exact hn, fun j hj => ⟨j, iotaL_getD n j (by rw [iotaL_length] at hj; exact hj), hj, .inl rfl⟩⟩
theorem new_l0 (n : Nat) (hn : n ≤ 65536) : ∀ d i : Nat, i + d = n → Ev (fun k => warpref1_NewPart.l0 k (n : Int) (iotaL i) (i : Int)) (iotaL n)
  | 0, i, h => by
    obtain rfl : i = n := by omega
    refine Ev.step (f := fun _ => some (iotaL i)) (fun k => ?_) (Ev.now _)
    rw [warpref1_NewPart.l0, if_neg (by omega)]
  | d + 1, i, h => by
    refine Ev.step (f := fun k => warpref1_NewPart.l0 k (n : Int) (iotaL (i + 1)) ((i + 1 : Nat) : Int)) (fun k => ?_) (new_l0 n hn d (i + 1) (by omega))
    rw [warpref1_NewPart.l0, if_pos (by omega), if_pos (by omega), if_pos (by rw [iotaL_length]; omega), iotaL_succ, wr64 (by omega) (by omega)]
    rfl
theorem new_ev (n : Nat) (hn : n ≤ 65536) : Ev (fun k => warpref1_NewPart.f k (n : Int)) (iotaL n) := new_l0 n hn n 0 (by omega)
theorem tmod_nat {i n : Int} (h0 : 0 ≤ i) : Int.tmod i n = i % n := Int.tmod_eq_emod_of_nonneg h0
theorem prio_l0 (ns : List Int) (n : Nat) (hn : n ≤ 65536) : ∀ (d i : Nat) (l : List Int), i + d = n → l.length = n → ∃ p, p.length = n ∧ Ev (fun k => warplaw4_Prio.l0 k ns (n : Int) l (i : Int)) p
  | 0, i, l, h, hl => by
    refine ⟨l, hl, Ev.step (f := fun _ => some l) (fun k => ?_) (Ev.now _)⟩
    rw [warplaw4_Prio.l0, if_neg (by omega)]
  | d + 1, i, l, h, hl => by
    by_cases e : ns.length = 0
    · refine ⟨l, hl, Ev.step (f := fun _ => some l) (fun k => ?_) (Ev.now _)⟩
      rw [warplaw4_Prio.l0, if_pos (by omega), if_neg (by omega)]
    · obtain ⟨p, hp, hev⟩ := prio_l0 ns n hn d (i + 1) (l.set i (Int.tmod (wrap64 (rd ns (Int.tmod (i : Int) (ns.length : Int)))) 5)) (by omega) (by rw [List.length_set]; exact hl)
      refine ⟨p, hp, Ev.step (fun k => ?_) hev⟩
      have h1 : Int.tmod (i : Int) (ns.length : Int) = (i : Int) % (ns.length : Int) := tmod_nat (by omega)
      have h2 := Int.emod_nonneg (i : Int) (show (ns.length : Int) ≠ 0 by omega)
      have h3 := Int.emod_lt_of_pos (i : Int) (show (0 : Int) < ns.length by omega)
      rw [warplaw4_Prio.l0, if_pos (by omega), if_pos (by omega), if_neg (by omega), if_pos (by omega), if_pos (by omega), if_pos (by omega), if_pos (by omega), wr64 (i := (i : Int) + 1) (by omega) (by omega)]
      rfl
theorem prio_ev (ns : List Int) (n : Nat) (hn : n ≤ 65536) : ∃ p, p.length = n ∧ Ev (fun k => warplaw4_Prio.f k ns (n : Int)) p := by
  obtain ⟨p, hp, hev⟩ := prio_l0 ns n hn n 0 (List.replicate n 0) (by omega) (by simp)
  refine ⟨p, hp, Ev.congr (fun k => ?_) hev⟩
  unfold warplaw4_Prio.f
  rw [if_pos (by omega), if_pos (by omega)]
  rfl
def Byte (x : Int) : Prop := 0 ≤ x ∧ x < 256
def Bytes (l : List Int) : Prop := ∀ i, Byte (rd l i)
/-- what an operation may be -/
def OpOk (n : Nat) (p : Int × Int × Int) : Prop := 1 ≤ p.1 ∧ p.1 ≤ 3 ∧ (0 ≤ p.2.1 ∧ p.2.1 < n) ∧ (0 ≤ p.2.2 ∧ p.2.2 < n)
theorem keep_begin {n : Nat} {p : List Int} {q : Int × Int × Int} (h : OpOk n q) : beginB q.1 q.2.1 q.2.2 n = true ∧ Keeps n p (beginT q.1 q.2.1 q.2.2 n) := by
  obtain ⟨h1, h2, h3, h4⟩ := h
  have hb : beginB q.1 q.2.1 q.2.2 n = true := by simp [beginB, thereB, h1, h2, h3, h4]
  refine ⟨hb, ?_⟩
  rw [begin_yes hb]
  refine ⟨⟨h1, h2, ⟨h3.1, h3.2⟩, ⟨h4.1, h4.2⟩, ?_, ?_, ?_, ?_, ?_, ?_, ?_⟩, ⟨?_, ?_, ?_, ?_, ?_⟩⟩ <;> simp only <;> intros <;> first | omega | contradiction
theorem op_f {a b c : Int} {n : Nat} (ha : Byte a) (hb : Byte b) (hc : Byte c) (h0 : 0 < n) (h1 : n ≤ 65536) : warplaw4_op.f a b c (n : Int) = some (1 + a % 3, b % n, c % n) := by
  obtain ⟨a0, a1⟩ := ha
  obtain ⟨b0, b1⟩ := hb
  obtain ⟨c0, c1⟩ := hc
  unfold warplaw4_op.f
  rw [if_neg (by omega), wr64 (i := a) (by omega) (by omega), wr64 (i := b) (by omega) (by omega), wr64 (i := c) (by omega) (by omega), tmod_nat a0, tmod_nat b0, tmod_nat c0, wr64 (by omega) (by omega)]
theorem op_ok {a b c : Int} {n : Nat} (h0 : 0 < n) : OpOk n (1 + a % 3, b % n, c % n) := by
  have hn : (0 : Int) < n := by omega
  exact ⟨by simp only; omega, by simp only; omega, ⟨Int.emod_nonneg _ (by omega), Int.emod_lt_of_pos _ hn⟩, ⟨Int.emod_nonneg _ (by omega), Int.emod_lt_of_pos _ hn⟩⟩
def OpsOk (n : Nat) (l : List S28) : Prop := ∀ q ∈ l, OpOk n (q.f0, q.f1, q.f2)
theorem ops_l0 (ns : List Int) (n : Nat) (hb : Bytes ns) (h0 : 0 < n) (h1 : n ≤ 65536) (hl : ns.length ≤ 1000000) : ∀ (d i : Nat) (l : List S28), ns.length ≤ i + d → l.length ≤ i → i ≤ 1000003 → OpsOk n l →
    ∃ r, OpsOk n r ∧ r.length ≤ 1000003 ∧ Ev (fun k => warplaw4_Ops.l0 k ns (n : Int) l (i : Int)) r
  | 0, i, l, h, h2, h3, ho => by
    refine ⟨l, ho, by omega, Ev.step (f := fun _ => some l) (fun k => ?_) (Ev.now _)⟩
    rw [warplaw4_Ops.l0, if_neg (by rw [wr64 (by omega) (by omega)]; omega)]
  | d + 1, i, l, h, h2, h3, ho => by
    by_cases e : i + 2 < ns.length
    · obtain ⟨r, hr, hrl, hev⟩ := ops_l0 ns n hb h0 h1 hl d (i + 3) (l ++ [⟨1 + rd ns (i : Int) % 3, rd ns ((i : Int) + 1) % n, rd ns ((i : Int) + 2) % n⟩]) (by omega) (by simp; omega) (by omega) (fun q hq => by
        rcases List.mem_append.1 hq with hq | hq
        · exact ho q hq
        · rw [List.mem_singleton.1 hq]; exact op_ok h0)
      refine ⟨r, hr, hrl, Ev.step (fun k => ?_) hev⟩
      rw [warplaw4_Ops.l0, wr64 (i := (i : Int) + 2) (by omega) (by omega), wr64 (i := (i : Int) + 1) (by omega) (by omega), wr64 (i := (i : Int) + 3) (by omega) (by omega), if_pos (by omega), if_pos (by omega), if_pos (by omega), if_pos (by omega), if_pos (by omega), if_pos (by omega), if_pos (by omega), op_f (hb _) (hb _) (hb _) h0 h1]
      simp only [Option.bind_some]
      rw [if_pos (by omega)]
      rfl
    · refine ⟨l, ho, by omega, Ev.step (f := fun _ => some l) (fun k => ?_) (Ev.now _)⟩
      rw [warplaw4_Ops.l0, if_neg (by rw [wr64 (by omega) (by omega)]; omega)]
theorem ops_ev (ns : List Int) (n : Nat) (hb : Bytes ns) (h0 : 0 < n) (h1 : n ≤ 65536) (hl : ns.length ≤ 1000000) : ∃ r, OpsOk n r ∧ r.length ≤ 1000003 ∧ Ev (fun k => warplaw4_Ops.f k ns (n : Int)) r :=
  ops_l0 ns n hb h0 h1 hl ns.length 0 [] (by omega) (by simp) (by omega) (fun q hq => by simp at hq)
/-! ### the reference's Begin -/
theorem rbegin_f {n : Nat} {q : Int × Int × Int} (h : OpOk n q) : warpref1_Begin.f q.1 q.2.1 q.2.2 (n : Int) = some (q.1, q.2.1, q.2.2, 1, q.2.1, q.2.2, 0, 0, false, 0, true) := by
  obtain ⟨h1, h2, h3, h4⟩ := h
  unfold warpref1_Begin.f
  rw [if_neg (by omega), if_neg (by omega), there_f, there_f]
  have t1 : thereB n q.2.1 = true := by simp [thereB, h3]
  have t2 : thereB n q.2.2 = true := by simp [thereB, h4]
  rw [t1, t2]
  simp only [Option.bind_some, if_true]
  split <;> rfl
theorem begin_f {n : Nat} {q : Int × Int × Int} (h : OpOk n q) : cuf_Begin.f q.1 q.2.1 q.2.2 (n : Int) = some (q.1, q.2.1, q.2.2, 1, q.2.1, q.2.2, 0, 0, false, 0, true) := by
  have hb := (keep_begin (p := []) h).1
  unfold cuf_Begin.f
  rw [begin_yes hb, hb]
theorem keeps_new {n : Nat} {p : List Int} {q : Int × Int × Int} (h : OpOk n q) : Keeps n p ⟨q.1, q.2.1, q.2.2, 1, q.2.1, q.2.2, 0, 0, false, 0⟩ := by
  have hb := keep_begin (p := p) h
  rw [begin_yes hb.1] at hb
  exact hb.2
/-! ### steps -/
theorem steps_ok {up p : List Int} {t : T} (ho : Ok up p) (h0 : 0 < up.length) (hk : Keeps up.length p t) : Steps up p t := ⟨ho.1, ho.2.1, h0, hk.fit⟩
/-! ### cells that some operations left -/
mutual
theorem cells_l0 (p : List Int) (ops : List S28) (h0 : 0 < p.length) (hl : ops.length ≤ 1000003) (hq : OpsOk p.length ops) : ∀ (d i : Nat) (up : List Int), i + d = ops.length → Ok up p → ∃ r, Ok r p ∧ Ev (fun k => warplaw4_Cells.l0 k p up ops (i : Int)) r
  | 0, i, up, h, ho => by
    refine ⟨up, ho, Ev.step (f := fun _ => some up) (fun k => ?_) (Ev.now _)⟩
    rw [warplaw4_Cells.l0, if_neg (by omega)]
  | d + 1, i, up, h, ho => by
    have hi : i < ops.length := by omega
    have he : rd_T28 ops (i : Int) = ops[i] := by simp [rd_T28, List.getD_eq_getElem?_getD, hi]
    have hok := hq ops[i] (List.getElem_mem hi)
    have hk := keeps_new (p := p) hok
    obtain ⟨r, hr, hev⟩ := cells_l1 p ops h0 hl hq d i up ⟨ops[i].f0, ops[i].f1, ops[i].f2, 1, ops[i].f1, ops[i].f2, 0, 0, false, 0⟩ h ho (by rw [ho.1]; exact hk) 1000 0 (by omega)
    refine ⟨r, hr, Ev.step (fun k => ?_) hev⟩
    rw [warplaw4_Cells.l0, if_pos (by omega), if_pos (by omega), he]
    rw [show warpref1_Begin.f ops[i].f0 ops[i].f1 ops[i].f2 (p.length : Int) = _ from rbegin_f hok]
    rfl
termination_by d => (d, 1, 0)
theorem cells_l1 (p : List Int) (ops : List S28) (h0 : 0 < p.length) (hl : ops.length ≤ 1000003) (hq : OpsOk p.length ops) (d i : Nat) (up : List Int) (t : T) (h : i + (d + 1) = ops.length) (ho : Ok up p) (hk : Keeps up.length p t) : ∀ (e j : Nat), j + e = 1000 →
    ∃ r, Ok r p ∧ Ev (fun k => warplaw4_Cells.l1 k p up ops (i : Int) (j : Int) t.k t.x t.y t.s t.u t.v t.w t.r t.is t.res) r
  | 0, j, hj => by
    obtain ⟨r, hr, hev⟩ := cells_l0 p ops h0 hl hq d (i + 1) up (by omega) ho
    refine ⟨r, hr, Ev.step (fun k => ?_) hev⟩
    rw [warplaw4_Cells.l1, if_neg (by omega), wr64 (by omega) (by omega)]
    rfl
  | e + 1, j, hj => by
    rcases hi : t.is with _ | _
    · have hs := step_keeps ho hk
      have h0u : 0 < up.length := by rw [ho.1]; exact h0
      obtain ⟨r, hr, hev⟩ := cells_l1 p ops h0 hl hq d i (stepL up p t).1 (stepL up p t).2 h hs.1 (by rw [hs.2.1]; exact hs.2.2) e (j + 1) (by omega)
      refine ⟨r, hr, Ev.step (fun k => ?_) hev⟩
      rw [warplaw4_Cells.l1, if_pos (by omega), if_neg (by simp), ← hi]
      unfold warpref1_Step.f
      rw [if_pos (steps_ok ho h0u hk), wr64 (by omega) (by omega)]
      rfl
    · obtain ⟨r, hr, hev⟩ := cells_l0 p ops h0 hl hq d (i + 1) up (by omega) ho
      refine ⟨r, hr, Ev.step (fun k => ?_) hev⟩
      rw [warplaw4_Cells.l1, if_pos (by omega), if_pos rfl, wr64 (by omega) (by omega)]
      rfl
termination_by e => (d, 2, e)
end
theorem cells_ev (ns p : List Int) (hb : Bytes ns) (h0 : 0 < p.length) (h1 : p.length ≤ 65536) (hl : ns.length ≤ 1000000) : ∃ up, Ok up p ∧ Ev (fun k => warplaw4_Cells.f k ns p) up := by
  obtain ⟨ops, hq, hol, hops⟩ := ops_ev ns p.length hb h0 h1 hl
  obtain ⟨r, hr, hev⟩ := cells_l0 p ops h0 hol hq ops.length 0 (iotaL p.length) (by omega) (iotaL_ok rfl h1)
  exact ⟨r, hr, Ev.bind (new_ev p.length h1) (Ev.bind hops hev)⟩
/-! ### cells may be; roots -/
theorem may_l0 {up p : List Int} (ho : Ok up p) : ∀ d i : Nat, i + d = up.length → Ev (fun k => cuf_May.l0 k up p up (up.length : Int) (i : Int)) true
  | 0, i, h => by
    refine Ev.step (f := fun _ => some true) (fun k => ?_) (Ev.now _)
    rw [cuf_May.l0, if_neg (by omega)]
  | d + 1, i, h => by
    have hl := ho.2.1
    obtain ⟨y, hy, hy1, hy2⟩ := ho.2.2 i (by omega)
    have ih := may_l0 ho d (i + 1) (by omega)
    refine Ev.step (f := fun k => cuf_May.l0 k up p up (up.length : Int) ((i + 1 : Nat) : Int)) (fun k => ?_) ih
    rw [cuf_May.l0, if_pos (by omega), if_pos (by omega), if_pos (by omega), rd_nat, hy, if_neg (by omega), if_neg (by omega), wr64 (by omega) (by omega)]
    by_cases e : (y : Int) = i
    · rw [if_pos e]; rfl
    · have hlt : LT p i y := hy2.resolve_left (by omega)
      rw [if_neg e, below_f p _ _ ⟨by omega, by rw [← ho.1]; omega⟩ ⟨by omega, by rw [← ho.1]; omega⟩]
      rw [show belowB p (i : Int) (y : Int) = true from hlt]
      rfl
theorem may_ev {up p : List Int} (ho : Ok up p) : Ev (fun k => cuf_May.f k up p) true := by
  have hl := ho.2.1
  refine Ev.congr (f := fun k => cuf_May.j0 k up p false) (fun k => ?_) (Ev.step (f := fun k => cuf_May.l0 k up p up (up.length : Int) 0) (fun k => ?_) (may_l0 ho up.length 0 (by omega)))
  · unfold cuf_May.f
    rw [if_pos (by rw [ho.1]), show decide ((up.length : Int) > 65536) = false by simp; omega]
  · rw [cuf_May.j0, if_neg (by simp)]
theorem rmay_l0 {up p : List Int} (ho : Ok up p) : ∀ d i : Nat, i + d = up.length → Ev (fun k => warpref1_MayUp.l0 k up p (i : Int)) true
  | 0, i, h => by
    refine Ev.step (f := fun _ => some true) (fun k => ?_) (Ev.now _)
    rw [warpref1_MayUp.l0, if_neg (by omega)]
  | d + 1, i, h => by
    have hl := ho.2.1
    obtain ⟨y, hy, hy1, hy2⟩ := ho.2.2 i (by omega)
    have ih := rmay_l0 ho d (i + 1) (by omega)
    refine Ev.step (f := fun k => warpref1_MayUp.l0 k up p ((i + 1 : Nat) : Int)) (fun k => ?_) ih
    rw [warpref1_MayUp.l0, if_pos (by omega), if_pos (by omega), rd_nat, hy, there_f, show thereB (up.length : Int) (y : Int) = true by simp [thereB]; omega, wr64 (by omega) (by omega)]
    simp only [Option.bind_some, if_true]
    by_cases e : (y : Int) = i
    · rw [if_pos e]; rfl
    · have hlt : LT p i y := hy2.resolve_left (by omega)
      rw [if_neg e, rbelow_f p _ _ ⟨by omega, by rw [← ho.1]; omega⟩ ⟨by omega, by rw [← ho.1]; omega⟩]
      rw [show belowB p (i : Int) (y : Int) = true from hlt]
      rfl
theorem rmay_ev {up p : List Int} (ho : Ok up p) : Ev (fun k => warpref1_MayUp.f k up p) true := by
  have hl := ho.2.1
  refine Ev.congr (f := fun k => warpref1_MayUp.j0 k up p false) (fun k => ?_) (Ev.step (f := fun k => warpref1_MayUp.l0 k up p 0) (fun k => ?_) (rmay_l0 ho up.length 0 (by omega)))
  · unfold warpref1_MayUp.f
    rw [if_pos (by rw [ho.1]), show decide ((up.length : Int) > 65536) = false by simp; omega]
  · rw [warpref1_MayUp.j0, if_neg (by simp)]
theorem root_l0 {up p : List Int} (ho : Ok up p) : ∀ (d c : Nat), c < up.length → above p up.length c ≤ d → Ev (fun k => warpref1_Root.l0 k up (c : Int)) (rootN up c : Int)
  | d, c, hc, ha => by
    have h1 := ho.step hc
    by_cases e : stepUp up c = c
    · refine Ev.step (f := fun _ => some (c : Int)) (fun k => ?_) (by rw [root_of_fix e]; exact Ev.now _)
      rw [warpref1_Root.l0, if_pos (by omega), if_pos (by omega), rd_nat, h1.1, if_pos (by rw [e])]
    · have hlt := above_lt (stepUp_lt hc) (h1.2.resolve_left e)
      have ih := root_l0 ho (d - 1) (stepUp up c) (stepUp_lt hc) (by omega)
      rw [root_up ho hc] at ih
      refine Ev.step (f := fun k => warpref1_Root.l0 k up (stepUp up c : Int)) (fun k => ?_) ih
      rw [warpref1_Root.l0, if_pos (by omega), if_pos (by omega), rd_nat, h1.1, if_neg (by omega)]
termination_by d => d
decreasing_by omega
theorem root_ev {up p : List Int} (ho : Ok up p) (c : Nat) (hc : c < up.length) : Ev (fun k => warpref1_Root.f k up (c : Int)) (rootN up c : Int) := by
  refine Ev.congr (fun k => ?_) (root_l0 ho _ c hc (Nat.le_refl _))
  unfold warpref1_Root.f
  rw [there_f, show thereB (up.length : Int) (c : Int) = true by simp [thereB]; omega]
  rfl
end Go.Proofs.Ytcppmfmlafnmfaa.P
