/-
The law's function CufAlone returns true for any two lists of bytes and three bytes, long lists too: its contract in the form of the printed texts.
-/
import Derived.Test.YtcppmfmlafnmfaaPx0
import Derived.Test.YtcppmfmlafnmfaaCufY
namespace Go.Proofs.Ytcppmfmlafnmfaa
open Go.RowKit Go.Proofs.YtcppmfmlafnmfaaW.PrintWords
theorem byte_of {n : Int} (h : (Lit.int .u8 n).wf = true) : 0 ≤ n ∧ n < 256 := by
  simp [Lit.wf, IntKind.min, IntKind.max, IntKind.signed, IntKind.bits] at h
  omega
theorem rowB_of_C {w : World} {A : Option Addr} {l : List Int} (h : Kd.C (Kd.int .u8) w A l.length l) (hb : ∀ x ∈ l, (Lit.int .u8 x).wf = true) : RowB w A l := by
  have h2 := Kd.reads_of_C (d := (0 : Int)) h
  refine ⟨⟨by rw [bytesV_length], h2.2.1, fun hn => ?_⟩, fun i hi => ?_⟩
  · obtain ⟨ad, e, hc⟩ := h2.2.2 hn
    exact ⟨ad, e, fun j hj => by rw [hc j hj, bytesV_getD l j hj]⟩
  · rw [List.getD_eq_getElem?_getD, List.getElem?_eq_getElem hi]
    exact byte_of (hb _ (List.getElem_mem hi))
set_option maxRecDepth 100000 in
set_option maxHeartbeats 4000000 in
theorem cufAlone_any (A0 A1 : Option Addr) (m0 m1 : Nat) (ns ps : List Int) (a b c : Int) (w : World) (h0 : RowB w A0 ns) (h1 : RowB w A1 ps) (ha : 0 ≤ a ∧ a < 256) (hb : 0 ≤ b ∧ b < 256) (hc : 0 ≤ c ∧ c < 256) :
    Calls Try.prog 3 #[.slice A0 ns.length m0, .slice A1 ps.length m1, .int .u8 a, .int .u8 b, .int .u8 c] w (BoolP true w) := by
  by_cases g : 60 < ns.length
  · have hl := h1.1.2.1
    have hln := h0.1.2.1
    have q1 : decide ((60 : Int) < (ns.length : Int)) = true := by simp; omega
    clear h0 h1 ha hb hc g
    go_enter Try.func3, Try.ntmps3
    go_wp2_with (go_at_call 8; refine (awake_any _).mono ?_; rintro e w1 ⟨rfl, hb⟩)
    go_ret
    exact ⟨rfl, hb⟩
  · exact cufAlone_small A0 A1 m0 m1 ns ps a b c w h0 h1 (by omega) ha hb hc
end Go.Proofs.Ytcppmfmlafnmfaa
namespace Go.Proofs.Ytcppmfmlafnmfaa.P
open Go.RowKit Go.Proofs.YtcppmfmlafnmfaaW.PrintWords
def warplaw4_CufAlone.f (l0 : List Int) (l1 : List Int) (a2 : Int) (a3 : Int) (a4 : Int) : Option Bool :=
  if (∀ x ∈ l0, (Lit.int .u8 x).wf = true) ∧ (∀ x ∈ l1, (Lit.int .u8 x).wf = true) ∧ (Lit.int .u8 a2).wf = true ∧ (Lit.int .u8 a3).wf = true ∧ (Lit.int .u8 a4).wf = true then some true else none
theorem warplaw4_CufAlone.calls (A0 : Option Addr) (c0 : Nat) (l0 : List Int) (A1 : Option Addr) (c1 : Nat) (l1 : List Int) (a2 : Int) (a3 : Int) (a4 : Int) (r : Bool) (w : World) (hr0 : Kd.C (Kd.int .u8) w A0 l0.length l0) (_hc0 : l0.length ≤ c0) (hr1 : Kd.C (Kd.int .u8) w A1 l1.length l1) (_hc1 : l1.length ≤ c1) (h : warplaw4_CufAlone.f l0 l1 a2 a3 a4 = some r) :
    Calls Try.prog 3 #[.slice A0 l0.length c0, .slice A1 l1.length c1, .int .u8 a2, .int .u8 a3, .int .u8 a4] w fun e w' => e = .returned (.bool r) ∧ Below w.heap.size w w' := by
  unfold warplaw4_CufAlone.f at h
  split at h
  · rename_i hs
    obtain ⟨s0, s1, s2, s3, s4⟩ := hs
    obtain rfl := Option.some.inj h
    exact (cufAlone_any A0 A1 c0 c1 l0 l1 a2 a3 a4 w (rowB_of_C hr0 s0) (rowB_of_C hr1 s1) (byte_of s2) (byte_of s3) (byte_of s4)).mono fun _ _ h => h
  · cases h
def warplaw4_CufAlone.Pure : Prop := ∀ (l0 : List Int) (l1 : List Int) (a2 : Int) (a3 : Int) (a4 : Int), ((fun l : List Int => l.length ≤ maxLen ∧ ∀ x ∈ l, (fun n : Int => (Lit.int .u8 n).wf = true) x) l0) → ((fun l : List Int => l.length ≤ maxLen ∧ ∀ x ∈ l, (fun n : Int => (Lit.int .u8 n).wf = true) x) l1) → ((fun n : Int => (Lit.int .u8 n).wf = true) a2) → ((fun n : Int => (Lit.int .u8 n).wf = true) a3) → ((fun n : Int => (Lit.int .u8 n).wf = true) a4) → warplaw4_CufAlone.f l0 l1 a2 a3 a4 = some true
end Go.Proofs.Ytcppmfmlafnmfaa.P
