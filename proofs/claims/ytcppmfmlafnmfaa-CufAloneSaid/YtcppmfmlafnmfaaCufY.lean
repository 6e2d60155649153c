/-
The law's function CufAlone returns true for every two lists of bytes, the first not too long, and three bytes, and changes nothing that was there before.
-/
import Derived.Test.YtcppmfmlafnmfaaCufS
import Derived.Test.YtcppmfmlafnmfaaCufX
namespace Go.Proofs.Ytcppmfmlafnmfaa
open Go.RowKit
attribute [local go_sem ↓] Go.wp_at_zero Go.wp_at_succ
theorem firstT_k (t : T) : (firstT t).k = t.k := by unfold firstT; split <;> rfl
theorem secondT_k (t : T) : (secondT t).k = t.k := by unfold secondT; split <;> rfl
theorem stepL_k (up p : List Int) (t : T) : (stepL up p t).2.k = t.k := by
  simp only [stepL, apply_ite Prod.snd, apply_ite T.k, firstT_k, secondT_k, finish, ite_self]
theorem left_pos (p : List Int) (n : Nat) (t : T) : 1 ≤ left p n t := by
  unfold left
  split
  · (repeat' split) <;> omega
  · split
    · (repeat' split) <;> omega
    · omega
theorem step_w {n : Nat} {p was up : List Int} {t : T} {X Y : Nat} (A B : Option Addr) (c d : Nat) (h : Way n p was up t X Y) (hp : p.length = n) (h0 : 0 < n) (h1 : n ≤ 16) (w : World) (hr : RowI w A up) (hs : RowI w B p) :
    Calls Try.prog 13 #[.slice A n c, .slice B n d, tv t] w (SP n (stepL up p t).1 (stepL up p t).2 w) := by
  have hl := h.len
  have hc := step_any A B c d up p t w hr hs (by omega) (by omega) (by omega) (by rw [hl]; exact h.keeps.fit)
  unfold StepP at hc
  rw [stepL_length, hl, hp] at hc
  exact hc
theorem rroot_w {n : Nat} {p up : List Int} (A : Option Addr) (c : Nat) (ho : Ok up p) (hl : up.length = n) (i : Nat) (hi : i < n) (w : World) (hr : RowI w A up) : Calls Try.prog 15 #[.slice A n c, .int .i64 (i : Int)] w (PureP (.int .i64 (rootN up i : Int)) w) := by
  have hc := rroot_any A c up p (i : Int) w hr ho
  rw [rootL_nat _ _ (by omega), hl] at hc
  exact hc
theorem mayr_w {n : Nat} {p up : List Int} (A B : Option Addr) (c d : Nat) (ho : Ok up p) (hl : up.length = n) (hp : p.length = n) (w : World) (hr : RowI w A up) (hs : RowI w B p) : Calls Try.prog 14 #[.slice A n c, .slice B n d] w (PureP (.bool true) w) := by
  have hc := mayr_any A B c d up p w hr hs
  rw [(ok_iff _ _).2 ho, hl, hp] at hc
  exact hc
theorem quiet_add' {P : Program} {f : FuncId} {args : Array Value} {w : World} {q n : Nat} {v : Value} (h : Calls P f args (w.drewN (q + n)) (PureP v (w.drewN (q + n)))) : Calls P f args (w.drewN (q + n)) fun e w'' => e = .returned v ∧ ∃ m, w'' = w.drewN (q + m) :=
  h.mono fun _ _ ⟨he, m, hm⟩ => ⟨he, n + m, by rw [hm, World.drewN_drewN, Nat.add_assoc]⟩
theorem cells3 {W : World} {b : Nat} {t : TypeId} {v0 v1 v2 : Value} (h : W.heap[b]? = some (.cells #[v0, v1, v2] t (0, 0))) : W.cell? ⟨b, 0, none⟩ = some v0 ∧ W.cell? ⟨b, 1, none⟩ = some v1 ∧ W.cell? ⟨b, 2, none⟩ = some v2 := by
  simp [World.cell?, h]
set_option maxRecDepth 100000 in
set_option maxHeartbeats 8000000 in
theorem cufAlone_small (A0 A1 : Option Addr) (m0 m1 : Nat) (ns ps : List Int) (a b c : Int) (w : World) (h0 : RowB w A0 ns) (h1 : RowB w A1 ps) (g0 : ns.length ≤ 60) (ha : 0 ≤ a ∧ a < 256) (hb : 0 ≤ b ∧ b < 256) (hc : 0 ≤ c ∧ c < 256) :
    Calls Try.prog 3 #[.slice A0 ns.length m0, .slice A1 ps.length m1, .int .u8 a, .int .u8 b, .int .u8 c] w (BoolP true w) := by
  have hps := h1.1.2.1
  have H0 := Lib.hid h0
  have H1 := Lib.hid h1
  have Ha := Lib.hid ha
  have Hb := Lib.hid hb
  have Hc := Lib.hid hc
  clear h0 h1 ha hb hc
  obtain ⟨n, hn⟩ : ∃ n : Nat, (n : Int) = 1 + (ps.length : Int) % 16 := ⟨1 + ps.length % 16, by omega⟩
  have n0 : 0 < n := by omega
  have n1 : n ≤ 16 := by omega
  have HN := Lib.hid hn
  clear hn
  have r0 : ¬ (60 : Int) < (ns.length : Int) := by omega
  go_enter Try.func3, Try.ntmps3
  go_wp2_with fail
  rw [← HN.out]
  refine (prio_n A1 m1 ps n w H1.out (by omega)).mono ?_
  rintro e w1 ⟨B, d, p, rfl, hp, hrow, hb⟩
  have HP := Lib.hid hrow
  have HPL := Lib.hid hp
  have H0 := Lib.hid (H0.out.kept hb)
  have HB := Lib.hid hb
  clear hrow hp hb
  go_wp2_with fail
  refine (cells_n A0 B m0 d ns p HPL.out w1 H0.out HP.out (by omega) n0 (by omega)).mono ?_
  rintro e w2 ⟨was, D, dc, rfl, hrow, hok, hb⟩
  have HU := Lib.hid hrow
  have HK := Lib.hid hok
  have HP := Lib.hid (HP.out.kept hb)
  have HB := Lib.hid (below_next HB.out hb HB.out.size)
  clear hrow hok hb H0 H1
  go_wp2_with fail
  refine (op_any a b c n w2 Ha.out Hb.out Hc.out n0 (by omega)).mono ?_
  rintro e w3 ⟨rfl, hb⟩
  have HU := Lib.hid (HU.out.kept hb)
  have HP := Lib.hid (HP.out.kept hb)
  have HB := Lib.hid (below_next HB.out hb HB.out.size)
  clear hb
  have hbeg := fun w => begin_op a b c n w n0
  have hkp := keeps_op a b c n p n0
  have hx0 : In n (b % n) := ⟨Int.emod_nonneg _ (by omega), Int.emod_lt_of_pos _ (by omega)⟩
  have hy0 : In n (c % n) := ⟨Int.emod_nonneg _ (by omega), Int.emod_lt_of_pos _ (by omega)⟩
  have hk13 : 1 ≤ 1 + a % 3 ∧ 1 + a % 3 ≤ 3 := by omega
  generalize 1 + a % 3 = K at *
  obtain ⟨X, hX, hxn⟩ := in_nat hx0
  obtain ⟨Y, hY, hyn⟩ := in_nat hy0
  rw [hX, hY] at hbeg hkp ⊢
  clear hX hY hx0 hy0
  have HBG := Lib.hid hbeg
  have HKP := Lib.hid hkp
  clear hbeg hkp
  go_wp2_with fail
  refine (HBG.out _).mono ?_
  rintro e w4 ⟨rfl, hb⟩
  have HOB := Lib.hid ((hb.block w3.heap.size (by simp)).trans (heap_alloc_new w3 (.cells #[.int .i64 K, .int .i64 (X : Int), .int .i64 (Y : Int)] 28)))
  have hz4 := hb.size
  have hlt4 : w3.heap.size < w4.heap.size := by simp at hz4; omega
  have HU := Lib.hid ((HU.out.kept (below_alloc (Below.refl _ _) _)).kept hb)
  have HP := Lib.hid ((HP.out.kept (below_alloc (Below.refl _ _) _)).kept hb)
  have HB := Lib.hid (below_next (HB.out.alloc HB.out.size _) hb (HB.out.alloc HB.out.size _).size)
  clear hb hz4
  have hwl : was.length = n := HK.out.1.trans HPL.out
  have HW := Lib.hid (way_begin (k := K) (x := (X : Int)) (y := (Y : Int)) HK.out hwl HKP.out)
  have HLB := Lib.hid (left_begin (p := p) (k := K) (x := (X : Int)) (y := (Y : Int)) n1 ⟨by omega, by omega⟩)
  simp only [Int.toNat_natCast] at HW
  have HX := Lib.hid (below_alloc (Below.refl w4.heap.size w4) (.cells #[.int .i64 K, .int .i64 (X : Int), .int .i64 (Y : Int), .int .i64 1, .int .i64 (X : Int), .int .i64 (Y : Int), .int .i64 0, .int .i64 0, .bool false, .int .i64 0] 31))
  have HT := Lib.hid (heap_alloc_new w4 (.cells #[.int .i64 K, .int .i64 (X : Int), .int .i64 (Y : Int), .int .i64 1, .int .i64 (X : Int), .int .i64 (Y : Int), .int .i64 0, .int .i64 0, .bool false, .int .i64 0] 31))
  have hul := row_lt HU.out (by omega)
  have HUL := Lib.hid hul
  clear hul
  go_wp2
  go_loopw [17, 18, 19, 20] (fun u i _ _ wr => ∃ (m : Nat) (up : List Int) (t : T) (D2 : Option Addr) (d2 : Nat), i = .int .i64 (m : Int) ∧ u = .slice D2 n d2 ∧ RowI wr D2 up ∧ up.length = n ∧ t.k = K ∧ (t.is = false → Way n p was up t (rootN was X) (rootN was Y) ∧ m + left p n t ≤ 107) ∧ (t.is = true → End n p was up t (rootN was X) (rootN was Y)) ∧ m ≤ 108 ∧ wr.heap[w4.heap.size]? = some (.cells (tcs t) 31 (0, 0)) ∧ (∀ a, D2 = some a → a.block ≠ w4.heap.size) ∧ Below w4.heap.size w4 wr) (fun _ i _ _ _ => 300 - (intOf i).toNat)
  case atStart => exact ⟨0, was, ⟨K, X, Y, 1, X, Y, 0, 0, false, 0⟩, _, _, rfl, rfl, HU.out.kept HX.out, hwl, rfl, fun _ => ⟨HW.out, by have := HLB.out; omega⟩, fun h => by simp at h, by omega, HT.out, fun a ha => by have := HUL.out a ha; omega, HX.out⟩
  case round =>
    obtain ⟨m, up, t, D2, d2, rfl, rfl, hrow, hul, htk, hway, hend, hm, hheap, hbl, hB⟩ := hrel
    have HR := Lib.hid hrow
    have HLn := Lib.hid hul
    have HTK := Lib.hid htk
    have HWY := Lib.hid hway
    have HEN := Lib.hid hend
    have HBL := Lib.hid hbl
    have HH := Lib.hid hheap
    have HY := Lib.hid hB
    have HPw := Lib.hid (HP.out.kept hB)
    have HUw := Lib.hid (HU.out.kept hB)
    have hzy := hB.size
    clear hrow hul htk hway hend hbl hheap hB
    rcases hi : t.is with _ | _
    · have hw1 := HWY.out hi
      have hst := way_step n1 hw1.1 hi
      have hmm : m + 1 ≤ 107 := by
        have h := hw1.2
        have := left_pos p n t
        omega
      have HLFT := Lib.hid hw1.2
      have HST := Lib.hid hst
      have HSK := Lib.hid ((stepL_k up p t).trans HTK.out)
      have HSL := Lib.hid ((stepL_length up p t).trans HLn.out)
      have hc := step_w D2 B d2 d hw1.1 HPL.out n0 n1 wr HR.out HPw.out
      clear hw1 hst
      have p3 : (m : Int) < 300 := by omega
      obtain ⟨k', x', y', s', u', v', ww', r', is', res'⟩ := t
      simp only at hi
      subst hi
      obtain ⟨pr, hpr⟩ : ∃ pr, pr = stepL up p ⟨k', x', y', s', u', v', ww', r', false, res'⟩ := ⟨_, rfl⟩
      rw [← hpr] at hc HST HSK HSL
      clear hpr HWY HEN
      obtain ⟨up2, ⟨k2, x2, y2, s2, u2, v2, ww2, r2, is2, res2⟩⟩ := pr
      simp only [tv] at hc
      simp only at HST HSK HSL
      have HCC := Lib.hid hc
      have hh := HH.out
      simp only [tcs] at hh
      have D0 := cells10 hh
      have HH := Lib.hid hh
      clear hc hh
      obtain ⟨c0, c1, c2, c3, c4, c5, c6, c7, c8, c9, f0, f1, f2, f3, f4, f5, f6, f7, f8, f9⟩ := D0
      have HLT2 := Lib.hid (World.block_lt_of_cell? _ _ c0)
      go_wp2_with fail
      refine HCC.out.mono ?_
      rintro e w5 ⟨C, d3, he, hrow2, hbl2, hb⟩
      simp only [tv] at he
      subst he
      have HR2 := Lib.hid hrow2
      have HL2 := Lib.hid hbl2
      have HH := Lib.hid ((hb.block w4.heap.size HLT2.out).trans HH.out)
      have HY := Lib.hid (below_next HY.out hb HY.out.size)
      have hz2 := hb.size
      have hwr : w4.heap.size < wr.heap.size := HLT2.out
      have D0 := cells10 HH.out
      clear hrow2 hbl2 hb c0 c1 c2 c3 c4 c5 c6 c7 c8 c9 f0 f1 f2 f3 f4 f5 f6 f7 f8 f9
      obtain ⟨c0, c1, c2, c3, c4, c5, c6, c7, c8, c9, f0, f1, f2, f3, f4, f5, f6, f7, f8, f9⟩ := D0
      have hlt9 : w4.heap.size < w5.heap.size := by omega
      go_wp2
      have RZ : RowI (put10 w5 w4.heap.size (.int .i64 k2) (.int .i64 x2) (.int .i64 y2) (.int .i64 s2) (.int .i64 u2) (.int .i64 v2) (.int .i64 ww2) (.int .i64 r2) (.bool is2) (.int .i64 res2)) C up2 := row_other HR2.out (fun b hb => by have := HL2.out b hb; omega) (fun z hz => put10_other w5 hz (.int .i64 k2) (.int .i64 x2) (.int .i64 y2) (.int .i64 s2) (.int .i64 u2) (.int .i64 v2) (.int .i64 ww2) (.int .i64 r2) (.bool is2) (.int .i64 res2))
      have BZ := put10_below HY.out (Nat.le_refl _) (.int .i64 k2) (.int .i64 x2) (.int .i64 y2) (.int .i64 s2) (.int .i64 u2) (.int .i64 v2) (.int .i64 ww2) (.int .i64 r2) (.bool is2) (.int .i64 res2)
      have HZ := put10_block HH.out (.int .i64 k2) (.int .i64 x2) (.int .i64 y2) (.int .i64 s2) (.int .i64 u2) (.int .i64 v2) (.int .i64 ww2) (.int .i64 r2) (.bool is2) (.int .i64 res2)
      have hsZ := put10_size w5 w4.heap.size (.int .i64 k2) (.int .i64 x2) (.int .i64 y2) (.int .i64 s2) (.int .i64 u2) (.int .i64 v2) (.int .i64 ww2) (.int .i64 r2) (.bool is2) (.int .i64 res2)
      obtain ⟨Z, hZ⟩ : ∃ Z, Z = put10 w5 w4.heap.size (.int .i64 k2) (.int .i64 x2) (.int .i64 y2) (.int .i64 s2) (.int .i64 u2) (.int .i64 v2) (.int .i64 ww2) (.int .i64 r2) (.bool is2) (.int .i64 res2) := ⟨_, rfl⟩
      rw [← hZ] at RZ BZ HZ hsZ
      unfold put10 at hZ
      rw [← hZ]
      clear hZ
      have RZ := RZ.kept (below_alloc (Below.refl _ _) (.cells #[.int .i64 k2, .int .i64 x2, .int .i64 y2, .int .i64 s2, .int .i64 u2, .int .i64 v2, .int .i64 ww2, .int .i64 r2, .bool is2, .int .i64 res2] 31))
      have BZ := BZ.alloc BZ.size (.cells #[.int .i64 k2, .int .i64 x2, .int .i64 y2, .int .i64 s2, .int .i64 u2, .int .i64 v2, .int .i64 ww2, .int .i64 r2, .bool is2, .int .i64 res2] 31)
      have HZ := (heap_alloc_old Z (.cells #[.int .i64 k2, .int .i64 x2, .int .i64 y2, .int .i64 s2, .int .i64 u2, .int .i64 v2, .int .i64 ww2, .int .i64 r2, .bool is2, .int .i64 res2] 31) (by rw [hsZ]; exact hlt9)).trans HZ
      refine ⟨⟨m + 1, up2, ⟨k2, x2, y2, s2, u2, v2, ww2, r2, is2, res2⟩, C, d3, by go_num, rfl, RZ, HSL.out, HSK.out, fun h => ⟨(HST.out.1 h).1, ?_⟩, HST.out.2, by omega, HZ, fun b hb => ?_, BZ⟩, ?_⟩
      · have := (HST.out.1 h).2
        have := HLFT.out
        omega
      · have := HL2.out b hb
        omega
      · simp [intOf]
        omega
    · have HE := Lib.hid (HEN.out hi)
      have HBw := Lib.hid (below_next HB.out HY.out HB.out.size)
      obtain ⟨k', x', y', s', u', v', ww', r', is', res'⟩ := t
      simp only at hi
      subst hi
      have hh := HH.out
      simp only [tcs] at hh
      have D0 := cells10 hh
      have O0 := cells3 ((HY.out.block w3.heap.size hlt4).trans HOB.out)
      obtain ⟨o0, o1, o2⟩ := O0
      have hkk : k' = K := HTK.out
      subst hkk
      clear hh HWY HEN HTK
      obtain ⟨c0, c1, c2, c3, c4, c5, c6, c7, c8, c9, f0, f1, f2, f3, f4, f5, f6, f7, f8, f9⟩ := D0
      have HXn := Lib.hid hxn
      have HYn := Lib.hid hyn
      obtain ⟨RX, hRX⟩ : ∃ z, z = rootN was X := ⟨_, rfl⟩
      obtain ⟨RY, hRY⟩ : ∃ z, z = rootN was Y := ⟨_, rfl⟩
      have HRX := Lib.hid hRX
      have HRY := Lib.hid hRY
      rw [← hRX, ← hRY] at HE
      clear hRX hRY
      have hcx := fun q => rroot_w D dc HK.out hwl X hxn (wr.drewN q) (HUw.out.kept (below_drewN (Below.refl _ _) q))
      have hcy := fun q => rroot_w D dc HK.out hwl Y hyn (wr.drewN q) (HUw.out.kept (below_drewN (Below.refl _ _) q))
      rw [← HRX.out] at hcx
      rw [← HRY.out] at hcy
      have HCX := Lib.hid hcx
      have HCY := Lib.hid hcy
      clear hcx hcy
      go_wp2_with first
        | (go_at_call 14
           (with_reducible refine (mayr_w _ _ _ _ HE.out.ok HLn.out HPL.out _ HR.out HPw.out).mono ?_)
           rintro e w' ⟨rfl, q1, rfl⟩)
      go_quiet (first
        | (go_at_call 15; with_reducible exact quiet_add' (HCX.out _))
        | (go_at_call 15; with_reducible exact quiet_add' (HCY.out _)))
      rw [World.drewN_drewN]
      have HEQ := Lib.hid (show ∀ z, z < n → rootN was z = rootN up z ∨ (k' = 3 ∧ (rootN was z = RX ∨ rootN was z = RY) ∧ (rootN up z = RX ∨ rootN up z = RY)) by
        intro z hz
        by_cases e : rootN was z = rootN up z
        · exact .inl e
        · have h3 : k' = 3 := Classical.byContradiction fun h => e (HE.out.stay (.inl h) z hz).symm
          have hne : RX ≠ RY := fun h => e (HE.out.stay (.inr h) z hz).symm
          exact .inr ⟨h3, (HE.out.moves h3 hne).1 z hz e⟩)
      go_wp2
      go_loopw [23, 24, 25] (fun i _ _ w9 => ∃ (z q : Nat), z ≤ n ∧ i = .int .i64 (z : Int) ∧ w9 = wr.drewN q) (fun i _ _ _ => n - (intOf i).toNat)
      case atStart => exact ⟨0, _, by omega, rfl, rfl⟩
      case round =>
        obtain ⟨z, q, hz, rfl, rfl⟩ := hrel
        by_cases hlt : z < n
        · have p1 : (z : Int) < (n : Int) := by omega
          have hp := fun q => rroot_w D dc HK.out hwl z hlt (wr.drewN q) (HUw.out.kept (below_drewN (Below.refl _ _) q))
          have hq := fun q => rroot_w D2 d2 HE.out.ok HLn.out z hlt (wr.drewN q) (HR.out.kept (below_drewN (Below.refl _ _) q))
          have hh := HEQ.out z hlt
          generalize rootN was z = P1 at *
          generalize rootN up z = Q1 at *
          have HP15 := Lib.hid hp
          have HQ15 := Lib.hid hq
          clear hp hq
          rcases hh with rfl | ⟨k3, e1, e2⟩
          · have t0 : ((P1 : Int) != (P1 : Int)) = false := by simp
            go_wp2_with first
              | (go_at_call 15; (with_reducible refine (HP15.out _).mono ?_); rintro e w' ⟨rfl, q', rfl⟩)
              | (go_at_call 15; (with_reducible refine (HQ15.out _).mono ?_); rintro e w' ⟨rfl, q', rfl⟩)
            go_roundw
            case rel => exact ⟨z + 1, _, by omega, by go_num, by first | rfl | (simp only [World.drewN_drewN]; rfl)⟩
            case measure => simp [intOf]; omega
          · subst k3
            by_cases e0 : P1 = Q1
            · subst e0
              have t0 : ((P1 : Int) != (P1 : Int)) = false := by simp
              go_wp2_with first
                | (go_at_call 15; (with_reducible refine (HP15.out _).mono ?_); rintro e w' ⟨rfl, q', rfl⟩)
                | (go_at_call 15; (with_reducible refine (HQ15.out _).mono ?_); rintro e w' ⟨rfl, q', rfl⟩)
              go_roundw
              case rel => exact ⟨z + 1, _, by omega, by go_num, by first | rfl | (simp only [World.drewN_drewN]; rfl)⟩
              case measure => simp [intOf]; omega
            · have t0 : ((P1 : Int) != (Q1 : Int)) = true := by simp; omega
              by_cases f1 : P1 = RX
              · have t1 : ((P1 : Int) != (RX : Int)) = false := by simp; omega
                by_cases f2 : Q1 = RX
                · have t2 : ((Q1 : Int) != (RX : Int)) = false := by simp; omega
                  clear e0 f1 f2 e1 e2
                  go_wp2_with first
                    | (go_at_call 15; (with_reducible refine (HP15.out _).mono ?_); rintro e w' ⟨rfl, q', rfl⟩)
                    | (go_at_call 15; (with_reducible refine (HQ15.out _).mono ?_); rintro e w' ⟨rfl, q', rfl⟩)
                  go_roundw
                  case rel => exact ⟨z + 1, _, by omega, by go_num, by first | rfl | (simp only [World.drewN_drewN]; rfl)⟩
                  case measure => simp [intOf]; omega
                · have t2 : ((Q1 : Int) != (RX : Int)) = true := by simp; omega
                  have t3 : ((Q1 : Int) != (RY : Int)) = false := by simp; omega
                  clear e0 f1 f2 e1 e2
                  go_wp2_with first
                    | (go_at_call 15; (with_reducible refine (HP15.out _).mono ?_); rintro e w' ⟨rfl, q', rfl⟩)
                    | (go_at_call 15; (with_reducible refine (HQ15.out _).mono ?_); rintro e w' ⟨rfl, q', rfl⟩)
                  go_roundw
                  case rel => exact ⟨z + 1, _, by omega, by go_num, by first | rfl | (simp only [World.drewN_drewN]; rfl)⟩
                  case measure => simp [intOf]; omega
              · have t1 : ((P1 : Int) != (RX : Int)) = true := by simp; omega
                have t4 : ((P1 : Int) != (RY : Int)) = false := by simp; omega
                by_cases f2 : Q1 = RX
                · have t2 : ((Q1 : Int) != (RX : Int)) = false := by simp; omega
                  clear e0 f1 f2 e1 e2
                  go_wp2_with first
                    | (go_at_call 15; (with_reducible refine (HP15.out _).mono ?_); rintro e w' ⟨rfl, q', rfl⟩)
                    | (go_at_call 15; (with_reducible refine (HQ15.out _).mono ?_); rintro e w' ⟨rfl, q', rfl⟩)
                  go_roundw
                  case rel => exact ⟨z + 1, _, by omega, by go_num, by first | rfl | (simp only [World.drewN_drewN]; rfl)⟩
                  case measure => simp [intOf]; omega
                · have t2 : ((Q1 : Int) != (RX : Int)) = true := by simp; omega
                  have t3 : ((Q1 : Int) != (RY : Int)) = false := by simp; omega
                  clear e0 f1 f2 e1 e2
                  go_wp2_with first
                    | (go_at_call 15; (with_reducible refine (HP15.out _).mono ?_); rintro e w' ⟨rfl, q', rfl⟩)
                    | (go_at_call 15; (with_reducible refine (HQ15.out _).mono ?_); rintro e w' ⟨rfl, q', rfl⟩)
                  go_roundw
                  case rel => exact ⟨z + 1, _, by omega, by go_num, by first | rfl | (simp only [World.drewN_drewN]; rfl)⟩
                  case measure => simp [intOf]; omega
        · have hxy : rootN up X = rootN up Y ∨ k' ≠ 3 := by
            by_cases h3 : k' = 3
            · left
              by_cases e : RX = RY
              · rw [HE.out.stay (.inr e) X HXn.out, HE.out.stay (.inr e) Y HYn.out, ← HRX.out, ← HRY.out, e]
              · exact (HE.out.moves h3 e).2 X Y HXn.out HYn.out HRX.out.symm HRY.out.symm
            · exact .inr h3
          have hfind := HE.out.find
          have hask := HE.out.ask
          have huni := HE.out.unite
          simp only at hfind hask huni
          rcases (show k' = 1 ∨ k' = 2 ∨ k' = 3 by omega) with rfl | rfl | rfl
          · have hr : res' = (RX : Int) := hfind rfl
            subst hr
            clear hxy hfind hask huni hk13
            go_wp2_with (go_at_call 8; refine (awake_any _).mono ?_; rintro e w9 ⟨rfl, hb⟩)
            go_ret
            exact ⟨rfl, below_next (below_drewN HBw.out q) hb (below_drewN HBw.out q).size⟩
          · clear hxy hfind huni hk13
            by_cases e : RX = RY
            · have hr : res' = 1 := by rw [hask rfl, if_pos e]
              subst hr
              subst e
              clear hask
              go_wp2_with (go_at_call 8; refine (awake_any _).mono ?_; rintro e w9 ⟨rfl, hb⟩)
              go_ret
              exact ⟨rfl, below_next (below_drewN HBw.out q) hb (below_drewN HBw.out q).size⟩
            · have hr : res' = 0 := by rw [hask rfl, if_neg e]
              subst hr
              have t1 : ((RX : Int) == (RY : Int)) = false := by simp; omega
              clear hask e
              go_wp2_with (go_at_call 8; refine (awake_any _).mono ?_; rintro e w9 ⟨rfl, hb⟩)
              go_ret
              exact ⟨rfl, below_next (below_drewN HBw.out q) hb (below_drewN HBw.out q).size⟩
          · have hxy := hxy.resolve_right (by simp)
            have hqx := fun W h => rroot_w D2 d2 HE.out.ok HLn.out X HXn.out W h
            have hqy := fun W h => rroot_w D2 d2 HE.out.ok HLn.out Y HYn.out W h
            rw [hxy] at hqx
            generalize rootN up Y = RU at *
            have hqq : ∀ (W : World) (z : Nat), (z = X ∨ z = Y) → RowI W D2 up → Calls Try.prog 15 #[.slice D2 n d2, .int .i64 (z : Int)] W (PureP (.int .i64 (RU : Int)) W) := by
              rintro W z (rfl | rfl) h
              · exact hqx W h
              · exact hqy W h
            have HQQ := Lib.hid hqq
            clear hxy hqx hqy hqq hfind hask hk13
            have t9 : ((RU : Int) == (RU : Int)) = true := by simp
            by_cases e : RX = RY
            · have hr : res' = 0 := by rw [huni rfl, if_pos e]
              subst hr
              have t1 : ((RX : Int) != (RY : Int)) = false := by simp [e]
              clear huni e
              go_wp2
              go_region_held3 (fun w' => w'.cell? ⟨w4.heap.size, 9, none⟩ = some (.int .i64 0) ∧ w'.cell? ⟨w3.heap.size, 1, none⟩ = some (.int .i64 (X : Int)) ∧ w'.cell? ⟨w3.heap.size, 2, none⟩ = some (.int .i64 (Y : Int)) ∧ Below wr.heap.size wr w')
                (first
                 | (go_split_ands; refine ⟨cell_kept hb (by assumption), cell_kept hb (by assumption), cell_kept hb (by assumption), below_next (by assumption) hb (Below.size (by assumption))⟩)
                 | (refine ⟨by go_simp, by go_simp, by go_simp, below_drew (below_drewN (Below.refl _ _) _)⟩)
                 | (refine ⟨by go_simp, by go_simp, by go_simp, below_drewN (Below.refl _ _) _⟩)
                 | go_keep)
                (first
                 | (go_at_call 15; (refine (HQQ.out _ _ (by first | exact Or.inl rfl | exact Or.inr rfl) (HR.out.kept (by go_split_ands; assumption))).mono ?_); rintro e w' ⟨rfl, hq⟩; have hb := below_ex hq)
                 | (go_at_call 8; refine (awake_any _).mono ?_; rintro e w' ⟨rfl, hb⟩))
              go_wp2
              go_ret
              exact ⟨rfl, below_next HBw.out (And.right (And.right (And.right (by assumption)))) HBw.out.size⟩
            · have hr : res' = 1 := by rw [huni rfl, if_neg e]
              subst hr
              have t1 : ((RX : Int) != (RY : Int)) = true := by simp; omega
              clear huni e
              go_wp2
              go_region_held3 (fun w' => w'.cell? ⟨w4.heap.size, 9, none⟩ = some (.int .i64 1) ∧ w'.cell? ⟨w3.heap.size, 1, none⟩ = some (.int .i64 (X : Int)) ∧ w'.cell? ⟨w3.heap.size, 2, none⟩ = some (.int .i64 (Y : Int)) ∧ Below wr.heap.size wr w')
                (first
                 | (go_split_ands; refine ⟨cell_kept hb (by assumption), cell_kept hb (by assumption), cell_kept hb (by assumption), below_next (by assumption) hb (Below.size (by assumption))⟩)
                 | (refine ⟨by go_simp, by go_simp, by go_simp, below_drew (below_drewN (Below.refl _ _) _)⟩)
                 | (refine ⟨by go_simp, by go_simp, by go_simp, below_drewN (Below.refl _ _) _⟩)
                 | go_keep)
                (first
                 | (go_at_call 15; (refine (HQQ.out _ _ (by first | exact Or.inl rfl | exact Or.inr rfl) (HR.out.kept (by go_split_ands; assumption))).mono ?_); rintro e w' ⟨rfl, hq⟩; have hb := below_ex hq)
                 | (go_at_call 8; refine (awake_any _).mono ?_; rintro e w' ⟨rfl, hb⟩))
              go_wp2
              go_ret
              exact ⟨rfl, below_next HBw.out (And.right (And.right (And.right (by assumption)))) HBw.out.size⟩
end Go.Proofs.Ytcppmfmlafnmfaa
