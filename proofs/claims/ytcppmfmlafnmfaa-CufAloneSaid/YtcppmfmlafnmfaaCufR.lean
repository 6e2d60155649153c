/-
The law's helper Cells: what operations one behind the other left: cells that may be. Condition: the numbers are bytes.
-/
import Derived.Test.YtcppmfmlafnmfaaCufQ
import Derived.Test.YtcppmfmlafnmfaaCufM
import Derived.Test.YtcppmfmlafnmfaaCufD
namespace Go.Proofs.Ytcppmfmlafnmfaa
open Go.RowKit
attribute [local go_sem ↓] Go.wp_at_zero Go.wp_at_succ
theorem cellsO_at : ∀ (ps : OpL) (k : Nat), k < ps.length → (cellsO ps).getD (k * 3) undef = .int .i64 (ps.getD k (0, 0, 0)).1 ∧ (cellsO ps).getD (k * 3 + 1) undef = .int .i64 (ps.getD k (0, 0, 0)).2.1 ∧ (cellsO ps).getD (k * 3 + 2) undef = .int .i64 (ps.getD k (0, 0, 0)).2.2
  | [], k, h => absurd h (by simp)
  | p :: ps, 0, _ => ⟨rfl, rfl, rfl⟩
  | p :: ps, k + 1, h => by
    have := cellsO_at ps k (by simpa using h)
    rw [show (k + 1) * 3 = k * 3 + 3 by omega]
    exact this
def RowO (w : World) (A : Option Addr) (ps : OpL) : Prop := Row w A (ps.length * 3) (cellsO ps)
theorem RowO.kept {w w1 : World} {A : Option Addr} {ps : OpL} (h : RowO w A ps) (hb : Below w.heap.size w w1) : RowO w1 A ps := Row.kept h hb
theorem RowO.at {w : World} {A : Option Addr} {ps : OpL} (h : RowO w A ps) (k : Nat) (hk : k < ps.length) :
    ∃ ad, A = some ad ∧ w.cell? (ad.add (k * 3)) = some (.int .i64 (ps.getD k (0, 0, 0)).1) ∧ w.cell? ⟨(ad.add (k * 3)).block, (ad.add (k * 3)).off + 1, none⟩ = some (.int .i64 (ps.getD k (0, 0, 0)).2.1) ∧ w.cell? ⟨(ad.add (k * 3)).block, (ad.add (k * 3)).off + 2, none⟩ = some (.int .i64 (ps.getD k (0, 0, 0)).2.2) := by
  obtain ⟨ad, e, hc⟩ := Row.pos h (by omega)
  have := cellsO_at ps k hk
  have q1 : (ad.add (k * 3)).add 1 = ⟨(ad.add (k * 3)).block, (ad.add (k * 3)).off + 1, none⟩ := by
    unfold Addr.add
    simp
  have q2 : (ad.add (k * 3)).add 2 = ⟨(ad.add (k * 3)).block, (ad.add (k * 3)).off + 2, none⟩ := by
    unfold Addr.add
    simp
  refine ⟨ad, e, ?_, ?_, ?_⟩
  · rw [hc _ (by omega), this.1]
  · rw [← q1, Addr.add_add, hc _ (by omega), this.2.1]
  · rw [← q2, Addr.add_add, hc _ (by omega), this.2.2]
theorem rowO_of_own {w : World} {base : Nat} {v : Value} {ps : OpL} (hl : ps.length ≤ 65536) (h : w.ownsRow base 28 3 v ps.length (cellsO ps)) : ∃ A c, v = .slice A ps.length c ∧ RowO w A ps := by
  rcases Nat.eq_zero_or_pos ps.length with h0 | h0
  · rcases h.2 with ⟨rfl, _⟩ | ⟨g, cap, cur, rfl, _⟩
    · exact ⟨none, 0, by rw [h0], by unfold RowO; rw [h0]; rw [List.eq_nil_of_length_eq_zero h0]; exact Row.nil _ _⟩
    · exact ⟨_, cap, rfl, by unfold RowO; rw [h0]; rw [List.eq_nil_of_length_eq_zero h0]; exact Row.nil _ _⟩
  · rcases h.2 with ⟨_, h1⟩ | ⟨g, cap, cur, rfl, _, _, h1, h2, _⟩
    · omega
    · refine ⟨_, cap, rfl, cellsO_length ps, by omega, fun _ => ⟨_, rfl, fun j hj => h.cells (g := g) rfl j _ ?_⟩⟩
      simp [List.getD_eq_getElem?_getD, List.getElem?_eq_getElem (show j < (cellsO ps).length by rw [cellsO_length]; omega)]
/-- what an operation may be -/
def OpOk (n : Nat) (p : Int × Int × Int) : Prop := 1 ≤ p.1 ∧ p.1 ≤ 3 ∧ (0 ≤ p.2.1 ∧ p.2.1 < n) ∧ (0 ≤ p.2.2 ∧ p.2.2 < n)
theorem opsL_ok {w : World} {A : Option Addr} {l : List Int} {n : Nat} (_ : RowB w A l) (h0 : 0 < n) (i : Nat) (hi : i < (opsL l n).length) : OpOk n ((opsL l n).getD i (0, 0, 0)) := by
  unfold opsL at hi ⊢
  rw [opsTo_length] at hi
  have e : (opsTo l n (l.length / 3)).getD i (0, 0, 0) = opAt l n i := by simp [opsTo, List.getD_eq_getElem?_getD, hi]
  rw [e]
  unfold opAt OpOk
  have hn : (0 : Int) < n := by omega
  exact ⟨by simp only; omega, by simp only; omega, ⟨Int.emod_nonneg _ (by omega), Int.emod_lt_of_pos _ hn⟩, ⟨Int.emod_nonneg _ (by omega), Int.emod_lt_of_pos _ hn⟩⟩
theorem keep_begin {n : Nat} {p : List Int} {q : Int × Int × Int} (h : OpOk n q) : beginB q.1 q.2.1 q.2.2 n = true ∧ Keeps n p (beginT q.1 q.2.1 q.2.2 n) := by
  obtain ⟨h1, h2, h3, h4⟩ := h
  have hb : beginB q.1 q.2.1 q.2.2 n = true := by simp [beginB, thereB, h1, h2, h3, h4]
  refine ⟨hb, ?_⟩
  rw [begin_yes hb]
  refine ⟨⟨h1, h2, ⟨h3.1, h3.2⟩, ⟨h4.1, h4.2⟩, ?_, ?_, ?_, ?_, ?_, ?_, ?_⟩, ⟨?_, ?_, ?_, ?_, ?_⟩⟩ <;> simp only <;> intros <;> first | omega | contradiction
theorem iota_getD (n i : Nat) (h : i < n) : (iota n).getD i 0 = (i : Int) := by simp [iota, List.getD_eq_getElem?_getD, h]
theorem iota_ok {n : Nat} {p : List Int} (hp : p.length = n) (hn : n ≤ 65536) : Ok (iota n) p :=
  ⟨by rw [iota_length, hp], by rw [iota_length]; exact hn, fun j hj => ⟨j, iota_getD n j (by rw [iota_length] at hj; exact hj), hj, .inl rfl⟩⟩
def CellsP (p : List Int) (w : World) (e : Ending) (w' : World) : Prop := ∃ up B d, e = .returned (.slice B p.length d) ∧ RowI w' B up ∧ Ok up p ∧ Below w.heap.size w w'
/-- the reference's Begin, of an operation that may be: its task -/
theorem rbegin_ok {n : Nat} {q : Int × Int × Int} (h : OpOk n q) (w : World) : Calls Try.prog 16 #[.agg #[.int .i64 q.1, .int .i64 q.2.1, .int .i64 q.2.2], .int .i64 (n : Int)] w fun e w' => e = .returned (bv (beginT q.1 q.2.1 q.2.2 n) true) ∧ Below w.heap.size w w' := by
  have hb := (keep_begin (p := []) h).1
  have hc := rbegin_any q.1 q.2.1 q.2.2 n w
  unfold RBeginP at hc
  rw [hb] at hc
  exact hc
theorem rstep_ok {n : Nat} {up p : List Int} {t : T} (D B : Option Addr) (dc d : Nat) (hk : Keeps n p t) (ho : Ok up p) (hn : p.length = n) (h0 : 0 < n) (w : World) (hr : RowI w D up) (hs : RowI w B p) :
    Calls Try.prog 17 #[.slice D n dc, .slice B n d, tv t] w fun e w' => ∃ C d2, e = .returned (sv (.slice C n d2) (stepL up p t).2) ∧ RowI w' C (stepL up p t).1 ∧ (∀ a, C = some a → w.heap.size ≤ a.block) ∧ Below w.heap.size w w' := by
  have hl : up.length = n := ho.1.trans hn
  have hc := rstep_any D B dc d up p t w hr hs ho.1 ho.2.1 (by omega) (by rw [hl]; exact hk.fit)
  unfold RStepP at hc
  rw [stepL_length, hl, hn] at hc
  exact hc
theorem keeps_ok {n : Nat} {up p : List Int} {t : T} (hk : Keeps n p t) (ho : Ok up p) (hn : p.length = n) : Ok (stepL up p t).1 p ∧ Keeps n p (stepL up p t).2 := by
  have hl : up.length = n := ho.1.trans hn
  have h := step_keeps ho (t := t) (by rw [hl]; exact hk)
  rw [hl] at h
  exact ⟨h.1, h.2.2⟩
theorem row_lt {w : World} {A : Option Addr} {l : List Int} (h : RowI w A l) (hn : 0 < l.length) : ∀ a, A = some a → a.block < w.heap.size := by
  intro a ha
  obtain ⟨ad, e, hc⟩ := RowI.at_nat h 0 hn
  have := World.block_lt_of_cell? _ _ hc
  rw [add_block] at this
  rw [ha] at e
  injection e with e
  rw [e]
  exact this
set_option maxRecDepth 100000 in
set_option maxHeartbeats 8000000 in
theorem cells_any (A B : Option Addr) (c d : Nat) (ns p : List Int) (w : World) (hr : RowB w A ns) (hs : RowI w B p) (hl : ns.length ≤ 100) (h0 : 0 < p.length) (h1 : p.length ≤ 100) : Calls Try.prog 10 #[.slice A ns.length c, .slice B p.length d] w (CellsP p w) := by
  have HR := Lib.hid hr
  have HP := Lib.hid hs
  clear hr hs
  obtain ⟨n, hn⟩ : ∃ n, n = p.length := ⟨_, rfl⟩
  rw [← hn] at h0 h1 ⊢
  have HN := Lib.hid hn
  clear hn
  unfold CellsP
  rw [← HN.out]
  go_enter Try.func10, Try.ntmps10
  go_wp2_with fail
  refine (rnew_any n w).mono ?_
  rintro e w1 ⟨U, uc, rfl, hu, hb⟩
  have HU := Lib.hid hu
  have hnn : nn (n : Int) = n := by unfold nn; omega
  rw [hnn] at HU
  rw [show (iota (nn (n : Int))).length = n by rw [iota_length, hnn]]
  have HB := Lib.hid hb
  have HR := Lib.hid (HR.out.kept hb)
  have HP := Lib.hid (HP.out.kept hb)
  clear hu hb hnn
  go_wp2_with fail
  refine (ops_any A c ns n w1 HR.out hl h0 h1).mono ?_
  rintro e w2 ⟨v, rfl, hown, hb⟩
  have hlen : (opsL ns n).length ≤ 65536 := by rw [opsL, opsTo_length]; omega
  obtain ⟨O, oc, rfl, hrow⟩ := rowO_of_own hlen hown
  have HO := Lib.hid hrow
  have HU := Lib.hid (HU.out.kept hb)
  have HP := Lib.hid (HP.out.kept hb)
  have HB := Lib.hid (below_next HB.out hb HB.out.size)
  have HOK := Lib.hid (fun i hi => opsL_ok HR.out h0 i hi)
  clear hown hb hrow
  generalize opsL ns n = ops at *
  go_wp2
  go_loopw [5, 7, 8, 9, 10] (fun u i _ _ _ wr => ∃ (m : Nat) (up : List Int) (D : Option Addr) (dc : Nat), m ≤ ops.length ∧ i = .int .i64 (m : Int) ∧ u = .slice D n dc ∧ RowI wr D up ∧ Ok up p ∧ Below w2.heap.size w2 wr) (fun _ i _ _ _ _ => ops.length - (intOf i).toNat)
  case atStart => exact ⟨0, iota n, _, _, by omega, rfl, rfl, HU.out, iota_ok HN.out.symm (by omega), Below.refl _ _⟩
  case round =>
    obtain ⟨m, up, D, dc, hm, rfl, rfl, hrow, hok, hB⟩ := hrel
    have HV := Lib.hid hrow
    have HK := Lib.hid hok
    have HW := Lib.hid hB
    have hz := hB.size
    clear hrow hok hB
    by_cases hlt : m < ops.length
    · obtain ⟨ad, rfl, hc, hd, he⟩ := (HO.out.kept HW.out).at m hlt
      have HQ := Lib.hid (HOK.out m hlt)
      obtain ⟨q, hq⟩ : ∃ q, q = ops.getD m (0, 0, 0) := ⟨_, rfl⟩
      rw [← hq] at hc hd he HQ
      clear hq
      have p1 : (m : Int) < (ops.length : Int) := by omega
      have p0 : (0 : Int) ≤ (m : Int) := by omega
      have HLT := Lib.hid hlt
      clear hlt
      go_wp2_with fail
      refine (rbegin_ok HQ.out _).mono ?_
      rintro e w3 ⟨he', hb⟩
      have HKB := Lib.hid (keep_begin (p := p) HQ.out).2
      generalize beginT q.1 q.2.1 q.2.2 n = t at *
      obtain ⟨k', x', y', s', u', v', ww', r', is', res'⟩ := t
      simp only [bv] at he'
      subst he'
      have HV := Lib.hid (HV.out.kept hb)
      have HW := Lib.hid (below_next HW.out hb HW.out.size)
      have hlu := row_lt HV.out (by rw [HK.out.1, ← HN.out]; exact h0)
      have HX := Lib.hid (below_alloc (Below.refl w3.heap.size w3) (.cells #[.int .i64 k', .int .i64 x', .int .i64 y', .int .i64 s', .int .i64 u', .int .i64 v', .int .i64 ww', .int .i64 r', .bool is', .int .i64 res'] 31))
      have HT := Lib.hid (heap_alloc_new w3 (.cells #[.int .i64 k', .int .i64 x', .int .i64 y', .int .i64 s', .int .i64 u', .int .i64 v', .int .i64 ww', .int .i64 r', .bool is', .int .i64 res'] 31))
      have HV := Lib.hid (HV.out.kept HX.out)
      have HPw := Lib.hid (HP.out.kept HW.out)
      clear hb hc hd he
      have hfd : ∀ W : World, (Instr.field 42 (.agg #[.int .i64 k', .int .i64 x', .int .i64 y', .int .i64 s', .int .i64 u', .int .i64 v', .int .i64 ww', .int .i64 r', .bool is', .int .i64 res', .bool true]) 0).run Try.prog W = .ok (.agg #[.int .i64 k', .int .i64 x', .int .i64 y', .int .i64 s', .int .i64 u', .int .i64 v', .int .i64 ww', .int .i64 r', .bool is', .int .i64 res']) W := fun _ => by kernel_rfl
      go_wp2
      clear hfd
      go_loopw [5, 9, 10] (fun u i _ wr' => ∃ (j : Nat) (up : List Int) (t : T) (D : Option Addr) (dc : Nat), j ≤ 1000 ∧ i = .int .i64 (j : Int) ∧ u = .slice D n dc ∧ RowI wr' D up ∧ Ok up p ∧ Keeps n p t ∧ wr'.heap[w3.heap.size]? = some (.cells (tcs t) 31 (0, 0)) ∧ (∀ a, D = some a → a.block ≠ w3.heap.size) ∧ Below w3.heap.size w3 wr') (fun _ i _ _ => 1000 - (intOf i).toNat)
      case atStart => exact ⟨0, up, ⟨k', x', y', s', u', v', ww', r', is', res'⟩, D, dc, by omega, rfl, rfl, HV.out, HK.out, HKB.out, HT.out, fun a ha => by have := hlu a ha; omega, HX.out⟩
      case round =>
        obtain ⟨j, up, t, D, dc, hj, rfl, rfl, hrow, hok, hkp, hheap, hbl, hB⟩ := hrel
        have HV := Lib.hid hrow
        have HK := Lib.hid hok
        have HKP := Lib.hid hkp
        have HH := Lib.hid hheap
        have HL := Lib.hid hbl
        have HY := Lib.hid hB
        have HPy := Lib.hid (HPw.out.kept hB)
        have hzy := hB.size
        have hc := rstep_ok D B dc d HKP.out HK.out HN.out.symm h0 wr HV.out HPy.out
        have HS := Lib.hid (keeps_ok HKP.out HK.out HN.out.symm)
        obtain ⟨k', x', y', s', u', v', ww', r', is', res'⟩ := t
        simp only [tcs] at hheap
        have D0 := cells10 hheap
        have HH := Lib.hid hheap
        obtain ⟨pr, hpr⟩ : ∃ pr, pr = stepL up p ⟨k', x', y', s', u', v', ww', r', is', res'⟩ := ⟨_, rfl⟩
        rw [← hpr] at hc HS
        clear hpr hrow hok hkp hheap hbl hB
        obtain ⟨up2, ⟨k2, x2, y2, s2, u2, v2, ww2, r2, is2, res2⟩⟩ := pr
        simp only [tv] at hc
        simp only at HS
        have HCC := Lib.hid hc
        clear hc
        obtain ⟨c0, c1, c2, c3, c4, c5, c6, c7, c8, c9, f0, f1, f2, f3, f4, f5, f6, f7, f8, f9⟩ := D0
        have HLT2 := Lib.hid (World.block_lt_of_cell? _ _ c0)
        by_cases hj1 : j < 1000
        · have p2 : (j : Int) < 1000 := by omega
          rcases is' with _ | _
          · go_wp2_with fail
            refine HCC.out.mono ?_
            rintro e w4 ⟨C, d2, he, hrow2, hbl2, hb⟩
            simp only [sv] at he
            subst he
            have HR2 := Lib.hid hrow2
            have HL2 := Lib.hid hbl2
            have HH := Lib.hid ((hb.block w3.heap.size HLT2.out).trans HH.out)
            have HPy := Lib.hid (HPy.out.kept hb)
            have HY := Lib.hid (below_next HY.out hb HY.out.size)
            have hz2 := hb.size
            have hwr : w3.heap.size < wr.heap.size := HLT2.out
            have D0 := cells10 HH.out
            clear hrow2 hbl2 hb c0 c1 c2 c3 c4 c5 c6 c7 c8 c9 f0 f1 f2 f3 f4 f5 f6 f7 f8 f9
            obtain ⟨c0, c1, c2, c3, c4, c5, c6, c7, c8, c9, f0, f1, f2, f3, f4, f5, f6, f7, f8, f9⟩ := D0
            have hlt9 : w3.heap.size < w4.heap.size := by omega
            go_wp2
            have RZ : RowI (put10 w4 w3.heap.size (.int .i64 k2) (.int .i64 x2) (.int .i64 y2) (.int .i64 s2) (.int .i64 u2) (.int .i64 v2) (.int .i64 ww2) (.int .i64 r2) (.bool is2) (.int .i64 res2)) C up2 := row_other HR2.out (fun b hb => by have := HL2.out b hb; omega) (fun z hz => put10_other w4 hz (.int .i64 k2) (.int .i64 x2) (.int .i64 y2) (.int .i64 s2) (.int .i64 u2) (.int .i64 v2) (.int .i64 ww2) (.int .i64 r2) (.bool is2) (.int .i64 res2))
            have BZ := put10_below HY.out (Nat.le_refl _) (.int .i64 k2) (.int .i64 x2) (.int .i64 y2) (.int .i64 s2) (.int .i64 u2) (.int .i64 v2) (.int .i64 ww2) (.int .i64 r2) (.bool is2) (.int .i64 res2)
            have HZ := put10_block HH.out (.int .i64 k2) (.int .i64 x2) (.int .i64 y2) (.int .i64 s2) (.int .i64 u2) (.int .i64 v2) (.int .i64 ww2) (.int .i64 r2) (.bool is2) (.int .i64 res2)
            have hsZ := put10_size w4 w3.heap.size (.int .i64 k2) (.int .i64 x2) (.int .i64 y2) (.int .i64 s2) (.int .i64 u2) (.int .i64 v2) (.int .i64 ww2) (.int .i64 r2) (.bool is2) (.int .i64 res2)
            obtain ⟨Z, hZ⟩ : ∃ Z, Z = put10 w4 w3.heap.size (.int .i64 k2) (.int .i64 x2) (.int .i64 y2) (.int .i64 s2) (.int .i64 u2) (.int .i64 v2) (.int .i64 ww2) (.int .i64 r2) (.bool is2) (.int .i64 res2) := ⟨_, rfl⟩
            rw [← hZ] at RZ BZ HZ hsZ
            unfold put10 at hZ
            rw [← hZ]
            clear hZ
            have RZ := RZ.kept (below_alloc (Below.refl _ _) (.cells #[.slice C n d2, .int .i64 k2, .int .i64 x2, .int .i64 y2, .int .i64 s2, .int .i64 u2, .int .i64 v2, .int .i64 ww2, .int .i64 r2, .bool is2, .int .i64 res2] 45))
            have BZ := BZ.alloc BZ.size (.cells #[.slice C n d2, .int .i64 k2, .int .i64 x2, .int .i64 y2, .int .i64 s2, .int .i64 u2, .int .i64 v2, .int .i64 ww2, .int .i64 r2, .bool is2, .int .i64 res2] 45)
            have HZ := (heap_alloc_old Z (.cells #[.slice C n d2, .int .i64 k2, .int .i64 x2, .int .i64 y2, .int .i64 s2, .int .i64 u2, .int .i64 v2, .int .i64 ww2, .int .i64 r2, .bool is2, .int .i64 res2] 45) (by rw [hsZ]; exact hlt9)).trans HZ
            refine ⟨⟨j + 1, up2, ⟨k2, x2, y2, s2, u2, v2, ww2, r2, is2, res2⟩, C, d2, by omega, by go_num, rfl, RZ, HS.out.1, HS.out.2, HZ, fun b hb => ?_, BZ⟩, ?_⟩
            · have := HL2.out b hb
              omega
            · simp [intOf]
              omega
          · go_wp2
            refine ⟨⟨m + 1, up, D, dc, by have := HLT.out; omega, by go_num, rfl, HV.out, HK.out, below_next HW.out HY.out HW.out.size⟩, ?_⟩
            simp [intOf]
            have := HLT.out
            omega
        · have p2 : ¬ (j : Int) < 1000 := by omega
          clear hj hj1
          go_wp2
          refine ⟨⟨m + 1, up, D, dc, by have := HLT.out; omega, by go_num, rfl, HV.out, HK.out, below_next HW.out HY.out HW.out.size⟩, ?_⟩
          simp [intOf]
          have := HLT.out
          omega
    · go_wp2
      go_ret
      exact ⟨up, D, dc, by first | rfl | rw [HN.out], HV.out, HK.out, below_next HB.out HW.out HB.out.size⟩
end Go.Proofs.Ytcppmfmlafnmfaa
