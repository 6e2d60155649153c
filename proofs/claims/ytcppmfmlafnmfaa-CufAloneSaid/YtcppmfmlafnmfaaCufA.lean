/-
Cells and priorities: what is below what, whether cells may be, and where the way up leads, by the program and by the reference; no condition but that the elements are there, and for the reference's way that the cells may be.
-/
import Derived.Test.YtcppmfmlafnmfaaInts
namespace Go.Proofs.Ytcppmfmlafnmfaa
open Go.RowKit
attribute [local go_sem ↓] Go.wp_at_zero Go.wp_at_succ
def PureP (v : Value) (w : World) (e : Ending) (w' : World) : Prop := e = .returned v ∧ ∃ n, w' = w.drewN n
theorem below_ex {w w' : World} (h : ∃ n, w' = w.drewN n) : Below w.heap.size w w' := by
  obtain ⟨n, rfl⟩ := h
  exact below_drewN (Below.refl _ _) n
def lowB (a b x y : Int) : Bool := decide (a < b) || (decide (a = b) && decide (x < y))
def belowB (p : List Int) (x y : Int) : Bool := lowB (p.getD x.toNat 0) (p.getD y.toNat 0) x y
def thereB (n x : Int) : Bool := decide (0 ≤ x) && decide (x < n)
theorem there_any (n x : Int) (w : World) : Calls Try.prog 29 #[.int .i64 n, .int .i64 x] w (PureP (.bool (thereB n x)) w) := by
  by_cases h0 : 0 ≤ x
  · by_cases h1 : x < n
    · have HE := Lib.hid (show thereB n x = true by simp [thereB, h0, h1])
      go_enter Try.func29, Try.ntmps29
      go_wp2
      go_ret
      exact ⟨ret_bool HE.out.symm, 0, rfl⟩
    · have HE := Lib.hid (show thereB n x = false by simp [thereB, h1])
      go_enter Try.func29, Try.ntmps29
      go_wp2
      go_ret
      exact ⟨ret_bool HE.out.symm, 0, rfl⟩
  · have HE := Lib.hid (show thereB n x = false by simp [thereB, h0])
    go_enter Try.func29, Try.ntmps29
    go_wp2
    go_ret
    exact ⟨ret_bool HE.out.symm, 0, rfl⟩
set_option maxHeartbeats 2000000 in
theorem below_any (A : Option Addr) (c : Nat) (p : List Int) (x y : Nat) (w : World) (hr : RowI w A p) (hx : x < p.length) (hy : y < p.length) :
    Calls Try.prog 27 #[.slice A p.length c, .int .i64 (x : Int), .int .i64 (y : Int)] w (PureP (.bool (belowB p x y)) w) := by
  obtain ⟨ad, rfl, hc⟩ := RowI.at_nat hr x hx
  obtain ⟨bd, e, hd⟩ := RowI.at_nat hr y hy
  obtain rfl : ad = bd := by injection e
  have HE := Lib.hid (show belowB p x y = lowB (p.getD x 0) (p.getD y 0) x y by simp [belowB])
  generalize p.getD x 0 = a at *
  generalize p.getD y 0 = b at *
  have p1 : (x : Int) < (p.length : Int) := by omega
  have p2 : (y : Int) < (p.length : Int) := by omega
  clear hr e
  by_cases h1 : a < b
  · have q0 : decide (a < b) = true := by simp [h1]
    have HV := Lib.hid (show belowB p x y = true by rw [HE.out]; simp [lowB, h1])
    go_enter Try.func27, Try.ntmps27
    go_wp2
    go_quiet (fail)
    go_wp2
    go_ret
    exact ⟨ret_bool (by first | exact HV.out.symm | (rw [HV.out]; simp; omega)), _, by first | rfl | exact World.drewN_drewN ..⟩
  · by_cases h2 : a = b
    · by_cases h3 : x < y
      · have HV := Lib.hid (show belowB p x y = true by rw [HE.out]; simp [lowB, h2, h3])
        have h4 : (x : Int) < (y : Int) := by omega
        clear h3
        subst h2
        go_enter Try.func27, Try.ntmps27
        go_wp2
        go_quiet (fail)
        go_wp2
        go_ret
        exact ⟨ret_bool (by first | exact HV.out.symm | (rw [HV.out]; simp; omega)), _, by first | rfl | exact World.drewN_drewN ..⟩
      · have HV := Lib.hid (show belowB p x y = false by rw [HE.out]; simp only [lowB]; simp; omega)
        have h4 : ¬ (x : Int) < (y : Int) := by omega
        clear h3
        subst h2
        go_enter Try.func27, Try.ntmps27
        go_wp2
        go_quiet (fail)
        go_wp2
        go_ret
        exact ⟨ret_bool (by first | exact HV.out.symm | (rw [HV.out]; simp; omega)), _, by first | rfl | exact World.drewN_drewN ..⟩
    · have q1 : (a == b) = false := by simp [h2]
      have HV := Lib.hid (show belowB p x y = false by rw [HE.out]; simp [lowB, h1, h2])
      go_enter Try.func27, Try.ntmps27
      go_wp2
      go_quiet (fail)
      go_wp2
      go_ret
      exact ⟨ret_bool (by first | exact HV.out.symm | (rw [HV.out]; simp; omega)), _, by first | rfl | exact World.drewN_drewN ..⟩
set_option maxHeartbeats 2000000 in
theorem rbelow_any (A : Option Addr) (c : Nat) (p : List Int) (x y : Nat) (w : World) (hr : RowI w A p) (hx : x < p.length) (hy : y < p.length) :
    Calls Try.prog 30 #[.slice A p.length c, .int .i64 (x : Int), .int .i64 (y : Int)] w (PureP (.bool (belowB p x y)) w) := by
  obtain ⟨ad, rfl, hc⟩ := RowI.at_nat hr x hx
  obtain ⟨bd, e, hd⟩ := RowI.at_nat hr y hy
  obtain rfl : ad = bd := by injection e
  have HE := Lib.hid (show belowB p x y = lowB (p.getD x 0) (p.getD y 0) x y by simp [belowB])
  generalize p.getD x 0 = a at *
  generalize p.getD y 0 = b at *
  have p1 : (x : Int) < (p.length : Int) := by omega
  have p2 : (y : Int) < (p.length : Int) := by omega
  clear hr e
  by_cases h1 : a < b
  · have q0 : decide (a < b) = true := by simp [h1]
    have HV := Lib.hid (show belowB p x y = true by rw [HE.out]; simp [lowB, h1])
    go_enter Try.func30, Try.ntmps30
    go_wp2
    go_quiet (fail)
    go_wp2
    go_ret
    exact ⟨ret_bool (by first | exact HV.out.symm | (rw [HV.out]; simp; omega)), _, by first | rfl | exact World.drewN_drewN ..⟩
  · by_cases h2 : a = b
    · by_cases h3 : x < y
      · have HV := Lib.hid (show belowB p x y = true by rw [HE.out]; simp [lowB, h2, h3])
        have h4 : (x : Int) < (y : Int) := by omega
        clear h3
        subst h2
        go_enter Try.func30, Try.ntmps30
        go_wp2
        go_quiet (fail)
        go_wp2
        go_ret
        exact ⟨ret_bool (by first | exact HV.out.symm | (rw [HV.out]; simp; omega)), _, by first | rfl | exact World.drewN_drewN ..⟩
      · have HV := Lib.hid (show belowB p x y = false by rw [HE.out]; simp only [lowB]; simp; omega)
        have h4 : ¬ (x : Int) < (y : Int) := by omega
        clear h3
        subst h2
        go_enter Try.func30, Try.ntmps30
        go_wp2
        go_quiet (fail)
        go_wp2
        go_ret
        exact ⟨ret_bool (by first | exact HV.out.symm | (rw [HV.out]; simp; omega)), _, by first | rfl | exact World.drewN_drewN ..⟩
    · have q1 : (a == b) = false := by simp [h2]
      have HV := Lib.hid (show belowB p x y = false by rw [HE.out]; simp [lowB, h1, h2])
      go_enter Try.func30, Try.ntmps30
      go_wp2
      go_quiet (fail)
      go_wp2
      go_ret
      exact ⟨ret_bool (by first | exact HV.out.symm | (rw [HV.out]; simp; omega)), _, by first | rfl | exact World.drewN_drewN ..⟩
def goodUp (up p : List Int) (j : Nat) : Bool := thereB up.length (up.getD j 0) && (decide (up.getD j 0 = j) || belowB p j (up.getD j 0))
def mayUp (up p : List Int) : Bool := decide (up.length = p.length) && (decide (up.length ≤ 65536) && decide (∀ j, j < up.length → goodUp up p j = true))
theorem mayUp_iff (up p : List Int) : mayUp up p = true ↔ (up.length = p.length ∧ up.length ≤ 65536 ∧ ∀ j, j < up.length → goodUp up p j = true) := by simp [mayUp]
theorem mayUp_bad {up p : List Int} (k : Nat) (hk : k < up.length) (h : goodUp up p k = false) : mayUp up p = false := by
  rw [← Bool.not_eq_true, mayUp_iff]
  intro hh
  rw [hh.2.2 k hk] at h
  cases h
theorem mayUp_len {up p : List Int} (h : ¬ up.length = p.length) : mayUp up p = false := by
  rw [← Bool.not_eq_true, mayUp_iff]
  exact fun hh => h hh.1
theorem mayUp_long {up p : List Int} (h : 65536 < up.length) : mayUp up p = false := by
  rw [← Bool.not_eq_true, mayUp_iff]
  intro hh
  omega
theorem goodUp_iff (up p : List Int) (j : Nat) : goodUp up p j = true ↔ (0 ≤ up.getD j 0 ∧ up.getD j 0 < up.length ∧ (up.getD j 0 = j ∨ belowB p j (up.getD j 0) = true)) := by
  simp [goodUp, thereB, and_assoc]
set_option maxHeartbeats 2000000 in
theorem may_any (A B : Option Addr) (c d : Nat) (up p : List Int) (w : World) (hr : RowI w A up) (hs : RowI w B p) : Calls Try.prog 19 #[.slice A up.length c, .slice B p.length d] w (PureP (.bool (mayUp up p)) w) := by
  by_cases hne : up.length = p.length
  · by_cases hlong : 65536 < up.length
    · have HV := Lib.hid (mayUp_long (p := p) hlong)
      have HL := Lib.hid hne
      have g0 : ((up.length : Int) != (p.length : Int)) = false := by simp [hne]
      have g1 : decide ((65536 : Int) < (up.length : Int)) = true := by simp; omega
      clear hr hs hne
      go_enter Try.func19, Try.ntmps19
      go_wp2
      go_ret
      exact ⟨ret_bool HV.out.symm, 0, rfl⟩
    · have HL := Lib.hid hne
      have HR := Lib.hid hr
      have HP := Lib.hid hs
      have g0 : ((up.length : Int) != (p.length : Int)) = false := by simp [hne]
      have g1 : decide ((65536 : Int) < (up.length : Int)) = false := by simp; omega
      have g2 : up.length ≤ 65536 := by omega
      clear hr hs hne hlong
      go_enter Try.func19, Try.ntmps19
      go_wp2
      clear g0
      go_loopw [5, 6, 19] (fun _ _ v wr => ∃ (k q : Nat), k ≤ up.length ∧ v = .int .i64 k ∧ wr = w.drewN q ∧ (∀ j, j < k → goodUp up p j = true)) (fun _ _ v _ => up.length - (intOf v).toNat)
      case atStart => exact ⟨0, 0, by omega, rfl, rfl, fun j hj => absurd hj (by omega)⟩
      case round =>
        obtain ⟨k, q, hk, rfl, rfl, hall⟩ := hrel
        have HA := Lib.hid hall
        clear hall
        by_cases hlt : k < up.length
        · obtain ⟨ad, rfl, hc⟩ := RowI.at_nat HR.out k hlt
          obtain ⟨y, hy⟩ : ∃ y, y = up.getD k 0 := ⟨_, rfl⟩
          rw [← hy] at hc
          have HG := Lib.hid (goodUp_iff up p k)
          rw [← hy] at HG
          have HK := Lib.hid hlt
          have KP := Lib.hid (show k < p.length by have := HL.out; omega)
          clear hy
          have p1 : (0 : Int) ≤ (k : Int) := by omega
          have p2 : (k : Int) < (up.length : Int) := by omega
          by_cases h1 : y < 0
          · have q0 : decide (y < 0) = true := by simp; omega
            have HT := Lib.hid (show thereB up.length y = false by simp [thereB]; omega)
            have HE := Lib.hid (show goodUp up p k = false by rw [← Bool.not_eq_true, HG.out]; omega)
            clear h1
            go_wp2
            go_ret
            exact ⟨ret_bool (mayUp_bad k HK.out HE.out).symm, _, by first | rfl | exact World.drewN_drewN ..⟩
          · by_cases h2 : (up.length : Int) ≤ y
            · have q0 : decide (y < 0) = false := by simp; omega
              have HT := Lib.hid (show thereB up.length y = false by simp [thereB]; omega)
              have HE := Lib.hid (show goodUp up p k = false by rw [← Bool.not_eq_true, HG.out]; omega)
              go_wp2
              go_ret
              exact ⟨ret_bool (mayUp_bad k HK.out HE.out).symm, _, by first | rfl | exact World.drewN_drewN ..⟩
            · obtain ⟨y, rfl⟩ := Int.eq_ofNat_of_zero_le (show 0 ≤ y by omega)
              have q0 : decide ((y : Int) < 0) = false := by simp
              have HT := Lib.hid (show thereB up.length (y : Int) = true by simp [thereB]; omega)
              have YP := Lib.hid (show y < p.length by have := HL.out; omega)
              have q2 : (y : Int) < (up.length : Int) := by omega
              have q3 : decide ((up.length : Int) ≤ (y : Int)) = false := by simp; omega
              by_cases h3 : y = k
              · have q1 : ((y : Int) != (k : Int)) = false := by simp [h3]
                have HE := Lib.hid (show goodUp up p k = true by rw [HG.out]; omega)
                clear h3 h1 h2
                go_wp2
                go_roundw
                case rel => exact ⟨k + 1, _, by omega, by go_num, (by first | rfl | (simp only [World.drewN_drewN]; rfl)), fun j hj => by
                  rcases Nat.lt_or_ge j k with h | h
                  · exact HA.out j h
                  · obtain rfl : j = k := by omega
                    exact HE.out⟩
                case measure => simp [intOf]; omega
              · have q1 : ((y : Int) != (k : Int)) = true := by simp; omega
                cases hb : belowB p k y
                · have HE := Lib.hid (show goodUp up p k = false by rw [← Bool.not_eq_true, HG.out, hb]; simp; omega)
                  have HBB := Lib.hid hb
                  clear h3 hb h1 h2
                  go_wp2_with first
                    | (go_at_call 29
                       (with_reducible refine (there_any _ _ _).mono ?_)
                       rintro e w' ⟨rfl, q', rfl⟩
                       rw [HT.out])
                    | (go_at_call 27
                       (with_reducible refine (below_any _ _ p k y _ (HP.out.kept (below_ex (by exact ⟨_, rfl⟩))) KP.out YP.out).mono ?_)
                       rintro e w' ⟨rfl, q', rfl⟩
                       rw [HBB.out])
                  go_ret
                  exact ⟨ret_bool (mayUp_bad k HK.out HE.out).symm, _, by first | rfl | exact World.drewN_drewN ..⟩
                · have HE := Lib.hid (show goodUp up p k = true by rw [HG.out, hb]; simp <;> omega)
                  have HBB := Lib.hid hb
                  clear h3 hb h1 h2
                  go_wp2_with first
                    | (go_at_call 29
                       (with_reducible refine (there_any _ _ _).mono ?_)
                       rintro e w' ⟨rfl, q', rfl⟩
                       rw [HT.out])
                    | (go_at_call 27
                       (with_reducible refine (below_any _ _ p k y _ (HP.out.kept (below_ex (by exact ⟨_, rfl⟩))) KP.out YP.out).mono ?_)
                       rintro e w' ⟨rfl, q', rfl⟩
                       rw [HBB.out])
                  go_roundw
                  case rel => exact ⟨k + 1, _, by omega, by go_num, (by first | rfl | (simp only [World.drewN_drewN]; rfl)), fun j hj => by
                    rcases Nat.lt_or_ge j k with h | h
                    · exact HA.out j h
                    · obtain rfl : j = k := by omega
                      exact HE.out⟩
                  case measure => simp [intOf]; omega
        · have HV := Lib.hid (show mayUp up p = true from (mayUp_iff _ _).2 ⟨HL.out, g2, fun j hj => HA.out j (by omega)⟩)
          go_wp2
          go_ret
          exact ⟨ret_bool HV.out.symm, _, rfl⟩
  · have HV := Lib.hid (mayUp_len (p := p) hne)
    have g0 : ((up.length : Int) != (p.length : Int)) = true := by simp; omega
    have g1 : (up.length != p.length) = true := by simp [hne]
    clear hr hs hne
    go_enter Try.func19, Try.ntmps19
    go_wp2
    go_ret
    exact ⟨ret_bool HV.out.symm, 0, rfl⟩
set_option maxHeartbeats 2000000 in
theorem mayr_any (A B : Option Addr) (c d : Nat) (up p : List Int) (w : World) (hr : RowI w A up) (hs : RowI w B p) : Calls Try.prog 14 #[.slice A up.length c, .slice B p.length d] w (PureP (.bool (mayUp up p)) w) := by
  by_cases hne : up.length = p.length
  · by_cases hlong : 65536 < up.length
    · have HV := Lib.hid (mayUp_long (p := p) hlong)
      have HL := Lib.hid hne
      have g0 : ((up.length : Int) != (p.length : Int)) = false := by simp [hne]
      have g1 : decide ((65536 : Int) < (up.length : Int)) = true := by simp; omega
      clear hr hs hne
      go_enter Try.func14, Try.ntmps14
      go_wp2
      go_ret
      exact ⟨ret_bool HV.out.symm, 0, rfl⟩
    · have HL := Lib.hid hne
      have HR := Lib.hid hr
      have HP := Lib.hid hs
      have g0 : ((up.length : Int) != (p.length : Int)) = false := by simp [hne]
      have g1 : decide ((65536 : Int) < (up.length : Int)) = false := by simp; omega
      have g2 : up.length ≤ 65536 := by omega
      clear hr hs hne hlong
      go_enter Try.func14, Try.ntmps14
      go_wp2
      clear g0
      go_loopw [5] (fun v wr => ∃ (k q : Nat), k ≤ up.length ∧ v = .int .i64 k ∧ wr = w.drewN q ∧ (∀ j, j < k → goodUp up p j = true)) (fun v _ => up.length - (intOf v).toNat)
      case atStart => exact ⟨0, 0, by omega, rfl, rfl, fun j hj => absurd hj (by omega)⟩
      case round =>
        obtain ⟨k, q, hk, rfl, rfl, hall⟩ := hrel
        have HA := Lib.hid hall
        clear hall
        by_cases hlt : k < up.length
        · obtain ⟨ad, rfl, hc⟩ := RowI.at_nat HR.out k hlt
          obtain ⟨y, hy⟩ : ∃ y, y = up.getD k 0 := ⟨_, rfl⟩
          rw [← hy] at hc
          have HG := Lib.hid (goodUp_iff up p k)
          rw [← hy] at HG
          have HK := Lib.hid hlt
          have KP := Lib.hid (show k < p.length by have := HL.out; omega)
          clear hy
          have p1 : (0 : Int) ≤ (k : Int) := by omega
          have p2 : (k : Int) < (up.length : Int) := by omega
          by_cases h1 : y < 0
          · have q0 : decide (y < 0) = true := by simp; omega
            have HT := Lib.hid (show thereB up.length y = false by simp [thereB]; omega)
            have HE := Lib.hid (show goodUp up p k = false by rw [← Bool.not_eq_true, HG.out]; omega)
            clear h1
            go_wp2_with first
              | (go_at_call 29
                 (with_reducible refine (there_any _ _ _).mono ?_)
                 rintro e w' ⟨rfl, q', rfl⟩
                 rw [HT.out])
              | (go_at_call 30
                 (with_reducible refine (rbelow_any _ _ p k y _ (HP.out.kept (below_ex (by exact ⟨_, rfl⟩))) KP.out YP.out).mono ?_)
                 rintro e w' ⟨rfl, q', rfl⟩
                 rw [HBB.out])
            go_ret
            exact ⟨ret_bool (mayUp_bad k HK.out HE.out).symm, _, by first | rfl | exact World.drewN_drewN ..⟩
          · by_cases h2 : (up.length : Int) ≤ y
            · have q0 : decide (y < 0) = false := by simp; omega
              have HT := Lib.hid (show thereB up.length y = false by simp [thereB]; omega)
              have HE := Lib.hid (show goodUp up p k = false by rw [← Bool.not_eq_true, HG.out]; omega)
              go_wp2_with first
                | (go_at_call 29
                   (with_reducible refine (there_any _ _ _).mono ?_)
                   rintro e w' ⟨rfl, q', rfl⟩
                   rw [HT.out])
                | (go_at_call 30
                   (with_reducible refine (rbelow_any _ _ p k y _ (HP.out.kept (below_ex (by exact ⟨_, rfl⟩))) KP.out YP.out).mono ?_)
                   rintro e w' ⟨rfl, q', rfl⟩
                   rw [HBB.out])
              go_ret
              exact ⟨ret_bool (mayUp_bad k HK.out HE.out).symm, _, by first | rfl | exact World.drewN_drewN ..⟩
            · obtain ⟨y, rfl⟩ := Int.eq_ofNat_of_zero_le (show 0 ≤ y by omega)
              have q0 : decide ((y : Int) < 0) = false := by simp
              have HT := Lib.hid (show thereB up.length (y : Int) = true by simp [thereB]; omega)
              have YP := Lib.hid (show y < p.length by have := HL.out; omega)
              have q2 : (y : Int) < (up.length : Int) := by omega
              have q3 : decide ((up.length : Int) ≤ (y : Int)) = false := by simp; omega
              by_cases h3 : y = k
              · have q1 : ((y : Int) != (k : Int)) = false := by simp [h3]
                have HE := Lib.hid (show goodUp up p k = true by rw [HG.out]; omega)
                clear h3 h1 h2
                go_wp2_with first
                  | (go_at_call 29
                     (with_reducible refine (there_any _ _ _).mono ?_)
                     rintro e w' ⟨rfl, q', rfl⟩
                     rw [HT.out])
                  | (go_at_call 30
                     (with_reducible refine (rbelow_any _ _ p k y _ (HP.out.kept (below_ex (by exact ⟨_, rfl⟩))) KP.out YP.out).mono ?_)
                     rintro e w' ⟨rfl, q', rfl⟩
                     rw [HBB.out])
                go_roundw
                case rel => exact ⟨k + 1, _, by omega, by go_num, (by first | rfl | (simp only [World.drewN_drewN]; rfl)), fun j hj => by
                  rcases Nat.lt_or_ge j k with h | h
                  · exact HA.out j h
                  · obtain rfl : j = k := by omega
                    exact HE.out⟩
                case measure => simp [intOf]; omega
              · have q1 : ((y : Int) != (k : Int)) = true := by simp; omega
                cases hb : belowB p k y
                · have HE := Lib.hid (show goodUp up p k = false by rw [← Bool.not_eq_true, HG.out, hb]; simp; omega)
                  have HBB := Lib.hid hb
                  clear h3 hb h1 h2
                  go_wp2_with first
                    | (go_at_call 29
                       (with_reducible refine (there_any _ _ _).mono ?_)
                       rintro e w' ⟨rfl, q', rfl⟩
                       rw [HT.out])
                    | (go_at_call 30
                       (with_reducible refine (rbelow_any _ _ p k y _ (HP.out.kept (below_ex (by exact ⟨_, rfl⟩))) KP.out YP.out).mono ?_)
                       rintro e w' ⟨rfl, q', rfl⟩
                       rw [HBB.out])
                  go_ret
                  exact ⟨ret_bool (mayUp_bad k HK.out HE.out).symm, _, by first | rfl | exact World.drewN_drewN ..⟩
                · have HE := Lib.hid (show goodUp up p k = true by rw [HG.out, hb]; simp <;> omega)
                  have HBB := Lib.hid hb
                  clear h3 hb h1 h2
                  go_wp2_with first
                    | (go_at_call 29
                       (with_reducible refine (there_any _ _ _).mono ?_)
                       rintro e w' ⟨rfl, q', rfl⟩
                       rw [HT.out])
                    | (go_at_call 30
                       (with_reducible refine (rbelow_any _ _ p k y _ (HP.out.kept (below_ex (by exact ⟨_, rfl⟩))) KP.out YP.out).mono ?_)
                       rintro e w' ⟨rfl, q', rfl⟩
                       rw [HBB.out])
                  go_roundw
                  case rel => exact ⟨k + 1, _, by omega, by go_num, (by first | rfl | (simp only [World.drewN_drewN]; rfl)), fun j hj => by
                    rcases Nat.lt_or_ge j k with h | h
                    · exact HA.out j h
                    · obtain rfl : j = k := by omega
                      exact HE.out⟩
                  case measure => simp [intOf]; omega
        · have HV := Lib.hid (show mayUp up p = true from (mayUp_iff _ _).2 ⟨HL.out, g2, fun j hj => HA.out j (by omega)⟩)
          go_wp2
          go_ret
          exact ⟨ret_bool HV.out.symm, _, rfl⟩
  · have HV := Lib.hid (mayUp_len (p := p) hne)
    have g0 : ((up.length : Int) != (p.length : Int)) = true := by simp; omega
    have g1 : (up.length != p.length) = true := by simp [hne]
    clear hr hs hne
    go_enter Try.func14, Try.ntmps14
    go_wp2
    go_ret
    exact ⟨ret_bool HV.out.symm, 0, rfl⟩
end Go.Proofs.Ytcppmfmlafnmfaa
