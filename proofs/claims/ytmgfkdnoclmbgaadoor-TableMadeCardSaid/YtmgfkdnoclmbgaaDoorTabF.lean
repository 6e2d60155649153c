/-
A key's stripe: the program's and the reference's hash come to one plain number. Condition: the key's name is not too long.
The table's two maps: which keys have which index, which stripes are held: what a look into them says, what a store and a delete leave; keys and stripes of whole numbers in range.
The table's index: a key's place in the table, a new one if there is room. Conditions: the table's block, its map and its row are the call's own and apart.
Whether a worker of the table may go on. Conditions: the worker's cells, the table's cells, its locks; what is read can be read.
What a worker of the table does next: it locks, it looks, it leaves. Conditions: the worker's block, the table's block, its maps and rows are the call's own and apart.
What a worker of the table does next: it looks. Conditions: the worker's block, the table's block, its maps and rows are the call's own and apart.
-/
import Derived.Test.YtmgfkdnoclmbgaaDoorPx11
import Derived.Test.YtmgfkdnoclmbgaaDoorPx12
import Derived.Test.YtmgfkdnoclmbgaaDoorPickB
import Derived.Maps.Own
import Derived.Maps.OwnSet
import Derived.Maps.Views
import Derived.DeepKeys4
import Derived.BigRegion
import Derived.Great.Walk
import Derived.Deep.RegionHeld3
import Derived.Deep.AppendLies
namespace Go.Proofs.YtmgfkdnoclmbgaaDoor.P
open Go.RowKit Go.Proofs.YtmgfkdnoclmbgaaDoorW.PrintWords Go.Proofs.YtmgfkdnoclmbgaaDoorW.PrintLast Go.Proofs.YtmgfkdnoclmbgaaDoorW.PrintMore
set_option linter.unusedVariables false
def hashFrom (x : ByteArray) : Nat → Nat → Int → Int
  | 0, _, h => h
  | d + 1, i, h => hashFrom x d (i + 1) (((Go.bits .xor .u32 h ((bt x (i : Int)) % 4294967296)) * 16777619) % 4294967296)
def hashS (x : ByteArray) : Int := hashFrom x x.size 0 2166136261
def bytesS (a : Int) : ByteArray := strOfNums [(a % 4294967296) % 256, ((a % 4294967296) / 256) % 256, ((a % 4294967296) / 65536) % 256, (a % 4294967296) / 16777216]
def keyB (k : S26) : ByteArray := (k.f0 ++ bytesS k.f1) ++ bytesS k.f2
/-- a key's stripe of so many -/
def stripeS (n : Int) (k : S26) : Int := Int.tmod (hashS (keyB k)) (mx 1 (mn n 64))
theorem mx_rng (n : Int) : 1 ≤ mx 1 (mn n 64) ∧ mx 1 (mn n 64) ≤ 64 := by
  unfold mx mn
  split <;> split <;> omega
theorem hashFrom_rng (x : ByteArray) : ∀ (d i : Nat) (h : Int), 0 ≤ h ∧ h < 4294967296 → 0 ≤ hashFrom x d i h ∧ hashFrom x d i h < 4294967296
  | 0, _, _, hh => hh
  | d + 1, i, h, hh => by
    rw [hashFrom]
    exact hashFrom_rng x d (i + 1) _ ⟨Int.emod_nonneg _ (by omega), Int.emod_lt_of_pos _ (by omega)⟩
theorem hashS_rng (x : ByteArray) : 0 ≤ hashS x ∧ hashS x < 4294967296 := hashFrom_rng x _ _ _ (by omega)
theorem stripeS_rng (n : Int) (k : S26) : 0 ≤ stripeS n k ∧ stripeS n k < 64 := by
  have h := mx_rng n
  have h1 := hashS_rng (keyB k)
  unfold stripeS
  have a := Int.tmod_nonneg (mx 1 (mn n 64)) h1.1
  have b := Int.tmod_lt_of_pos (hashS (keyB k)) (show 0 < mx 1 (mn n 64) by omega)
  omega
theorem sum_l0 (x : ByteArray) (hx : x.size < 9223372036854775807) : ∀ (d i : Nat) (h : Int), i + d = x.size → Ev (fun k => hash_Sum.l0 k x h (x.size : Int) (i : Int)) (hashFrom x d i h)
  | 0, i, h, hi => by
    refine Ev.step (f := fun _ => some h) (fun k => ?_) (Ev.now _)
    rw [hash_Sum.l0, if_neg (by omega)]
  | d + 1, i, h, hi => by
    refine Ev.step (fun k => ?_) (sum_l0 x hx d (i + 1) _ (by omega))
    rw [hash_Sum.l0, if_pos (by omega), if_pos (by omega), if_pos (by omega), wr64 (by omega) (by omega)]
    rfl
theorem sum_ev (x : ByteArray) (hx : x.size < 9223372036854775807) : Ev (fun k => hash_Sum.f k x) (hashS x) := sum_l0 x hx x.size 0 _ (by omega)
theorem rsum_l0 (x : ByteArray) (hx : x.size < 9223372036854775807) : ∀ (d i : Nat) (h : Int), i + d = x.size → Ev (fun k => warpref1_Sum.l0 k x h (i : Int)) (hashFrom x d i h)
  | 0, i, h, hi => by
    refine Ev.step (f := fun _ => some h) (fun k => ?_) (Ev.now _)
    rw [warpref1_Sum.l0, if_neg (by omega)]
  | d + 1, i, h, hi => by
    refine Ev.step (fun k => ?_) (rsum_l0 x hx d (i + 1) _ (by omega))
    rw [warpref1_Sum.l0, if_pos (by omega), if_pos (by omega), wr64 (by omega) (by omega)]
    rfl
theorem rsum_ev (x : ByteArray) (hx : x.size < 9223372036854775807) : Ev (fun k => warpref1_Sum.f k x) (hashS x) := rsum_l0 x hx x.size 0 _ (by omega)
theorem nums_size (l : List Int) : (strOfNums l).size = l.length := by
  show (l.map _).toArray.size = _
  simp
theorem nums_cat (a b : List Int) : strOfNums a ++ strOfNums b = strOfNums (a ++ b) := by
  apply ByteArray.ext
  rw [ByteArray.data_append]
  show (a.map _).toArray ++ (b.map _).toArray = ((a ++ b).map _).toArray
  simp
theorem bytesS_size (a : Int) : (bytesS a).size = 4 := nums_size _
theorem keyB_size (k : S26) : (keyB k).size = k.f0.size + 8 := by
  unfold keyB
  rw [ByteArray.size_append, ByteArray.size_append, bytesS_size, bytesS_size]
theorem stripe_ev (k : S26) (n : Int) (h : k.f0.size ≤ 9223372036854775000) : Ev (fun g => hash_Stripe.f g k.f0 k.f1 k.f2 n) (stripeS n k) := by
  have hm := mx_rng n
  have hr := stripeS_rng n k
  have hs := sum_ev (keyB k) (by rw [keyB_size]; omega)
  have e : ∀ g, hash_Of.f g k.f0 k.f1 k.f2 = (hash_Sum.f g (keyB k)).bind fun t => some t := fun g => by
    show (if k.f0.size + (bytesS k.f1).size ≤ 9223372036854775807 then (if (k.f0 ++ bytesS k.f1).size + (bytesS k.f2).size ≤ 9223372036854775807 then _ else none) else none) = _
    rw [if_pos (by rw [bytesS_size]; omega), if_pos (by rw [ByteArray.size_append, bytesS_size, bytesS_size]; omega)]
    rfl
  refine Ev.bind_now (g := fun g => hash_Of.f g k.f0 k.f1 k.f2) (f := fun g t308 => (if (mx 1 (mn n 64)) = 0 then (none) else (some (wrap64 (Int.tmod t308 (mx 1 (mn n 64))))))) (Ev.congr e (Ev.bind_now (f := fun _ t => some t) hs fun _ => rfl)) fun g => ?_
  rw [if_neg (by omega)]
  exact congrArg some (wr64 (by unfold stripeS at hr; omega) (by unfold stripeS at hr; omega))
theorem shr_at (a : Int) : shr .i64 a 0 = a ∧ shr .i64 a 8 = a / 256 ∧ shr .i64 a 16 = a / 65536 ∧ shr .i64 a 24 = a / 16777216 :=
  ⟨show a / 1 = a by omega, rfl, rfl, rfl⟩
theorem shr8 (a : Int) : shr .i64 a 0 % 256 = (a % 4294967296) % 256 ∧ shr .i64 a 8 % 256 = ((a % 4294967296) / 256) % 256 ∧ shr .i64 a 16 % 256 = ((a % 4294967296) / 65536) % 256 ∧ shr .i64 a 24 % 256 = (a % 4294967296) / 16777216 := by
  obtain ⟨h0, h1, h2, h3⟩ := shr_at a
  rw [h0, h1, h2, h3]
  omega
theorem rof_l1 (x : ByteArray) (hx : x.size ≤ 9223372036854775700) (i a : Int) (y : ByteArray) (b c r : Int) (h : Ev (fun g => warpref1_Of.l0 g (x ++ bytesS a) (wrap64 (i + 1)) y b c) r) : Ev (fun g => warpref1_Of.l1 g x i a 0 y b c) r := by
  obtain ⟨s0, s1, s2, s3⟩ := shr8 a
  have step : ∀ (z : ByteArray) (hz : z.size ≤ 9223372036854775800) (j v : Int), 0 ≤ j → j < 4 → shr .i64 a (8 * j) % 256 = v → Ev (fun g => warpref1_Of.l1 g (z ++ strOfNums [v]) i a (j + 1) y b c) r → Ev (fun g => warpref1_Of.l1 g z i a j y b c) r := fun z hz j v h0 h4 hv h => by
    refine Ev.step (fun g => ?_) h
    have e : wrap64 (8 * j) = 8 * j := wr64 (by omega) (by omega)
    rw [warpref1_Of.l1, if_pos h4, e, if_pos (by omega), hv, wr64 (i := j + 1) (by omega) (by omega)]
    show (if z.size + (strOfNums [v]).size ≤ 9223372036854775807 then _ else none) = _
    rw [if_pos (by rw [nums_size]; simp; omega)]
  refine step x (by omega) 0 _ (by omega) (by omega) s0 ?_
  refine step _ (by rw [ByteArray.size_append, nums_size]; simp; omega) (0 + 1) _ (by omega) (by omega) s1 ?_
  refine step _ (by rw [ByteArray.size_append, ByteArray.size_append, nums_size, nums_size]; simp; omega) (0 + 1 + 1) _ (by omega) (by omega) s2 ?_
  refine step _ (by rw [ByteArray.size_append, ByteArray.size_append, ByteArray.size_append, nums_size, nums_size, nums_size]; simp; omega) (0 + 1 + 1 + 1) _ (by omega) (by omega) s3 ?_
  rw [ByteArray.append_assoc, ByteArray.append_assoc, ByteArray.append_assoc, nums_cat, nums_cat, nums_cat]
  refine Ev.step (fun g => ?_) h
  rw [warpref1_Of.l1, if_neg (by omega)]
  rfl
theorem rof_ev (k : S26) (h : k.f0.size ≤ 9223372036854775000) : Ev (fun g => warpref1_Of.f g k.f0 k.f1 k.f2) (hashS (keyB k)) := by
  have hs := rsum_ev (keyB k) (by rw [keyB_size]; omega)
  show Ev (fun g => warpref1_Of.l0 g k.f0 0 k.f0 k.f1 k.f2) _
  refine Ev.step (f := fun g => warpref1_Of.j1 g k.f0 0 k.f1 k.f0 k.f1 k.f2) (fun g => by rw [warpref1_Of.l0, if_pos (by omega), if_neg (by omega)]) ?_
  refine Ev.step (fun g => by rw [warpref1_Of.j1]) (rof_l1 k.f0 (by omega) 0 k.f1 _ _ _ _ ?_)
  refine Ev.step (f := fun g => warpref1_Of.j1 g (k.f0 ++ bytesS k.f1) 1 k.f2 k.f0 k.f1 k.f2) (fun g => by rw [wr64 (by omega) (by omega), warpref1_Of.l0, if_pos (by omega), if_pos (by omega)]; rfl) ?_
  refine Ev.step (fun g => by rw [warpref1_Of.j1]) (rof_l1 (k.f0 ++ bytesS k.f1) (by rw [ByteArray.size_append, bytesS_size]; omega) 1 k.f2 _ _ _ _ ?_)
  refine Ev.step (fun g => by rw [wr64 (by omega) (by omega), warpref1_Of.l0, if_neg (by omega)]) ?_
  exact Ev.bind_now (f := fun _ t => some t) hs fun _ => rfl
theorem rstripe_ev (k : S26) (n : Int) (h : k.f0.size ≤ 9223372036854775000) : Ev (fun g => warpref1_Stripe.f g k.f0 k.f1 k.f2 n) (stripeS n k) := by
  have hm := mx_rng n
  have hr := stripeS_rng n k
  refine Ev.bind_now (g := fun g => warpref1_Of.f g k.f0 k.f1 k.f2) (f := fun g t308 => (if (mx 1 (mn n 64)) = 0 then (none) else (some (wrap64 (Int.tmod t308 (mx 1 (mn n 64))))))) (rof_ev k h) fun g => ?_
  rw [if_neg (by omega)]
  exact congrArg some (wr64 (by unfold stripeS at hr; omega) (by unfold stripeS at hr; omega))
end Go.Proofs.YtmgfkdnoclmbgaaDoor.P

namespace Go.Proofs.YtmgfkdnoclmbgaaDoor
open Go.RowKit Go.Maps Go.ChangeMaps Go.Proofs.YtmgfkdnoclmbgaaDoorW.PrintWords Go.Proofs.YtmgfkdnoclmbgaaDoor.P
set_option linter.unusedVariables false
instance decS26 : DecidableEq S26 := fun a b => decidable_of_iff (a.f0 = b.f0 ∧ a.f1 = b.f1 ∧ a.f2 = b.f2) ⟨fun h => by cases a; cases b; simp_all, fun h => by subst h; exact ⟨rfl, rfl, rfl⟩⟩
def pv (k : S26) : Value := .agg #[.string k.f0, .int .i64 k.f1, .int .i64 k.f2]
/-- a key in range -/
def Gk (k : S26) : Prop := k.f0.size ≤ 4611686018427387904 ∧ (Lit.int .i64 k.f1).wf = true ∧ (Lit.int .i64 k.f2).wf = true
theorem hrow26 : 26 < Tryd.prog.types.size := of_decide_eq_true (by kernel_rfl)
theorem kMap26 : Keyed Tryd.prog 26 := Keyed.of_law (deep_law_laid (by kernel_rfl) (m := 5) (by omega) hrow26 (by kernel_rfl) (by kernel_rfl))
theorem kMap3 : Keyed Tryd.prog 3 := int_keyed Tryd.underlying3
theorem kt26 : Tryd.prog.keyType 26 = true := by kernel_rfl
theorem co26 : Tryd.prog.cellsOf 26 = 3 := by kernel_rfl
theorem co3 : Tryd.prog.cellsOf 3 = 1 := by kernel_rfl
theorem co9 : Tryd.prog.cellsOf 9 = 1 := by kernel_rfl
theorem lits3 (d : Nat) (x : Int) (h : (Lit.int .i64 x).wf = true) : Tryd.prog.keyLits (d + 1) 3 [.int .i64 x] = some [.int .i64 x] := by
  unfold Program.keyLits
  rw [Tryd.underlying3]
  exact if_pos ⟨rfl, h⟩
theorem lits9 (d : Nat) (x : ByteArray) (h : x.size ≤ maxLen) : Tryd.prog.keyLits (d + 1) 9 [.string x] = some [.string x.data.toList] := by
  unfold Program.keyLits
  rw [Tryd.underlying9]
  exact if_pos h
theorem lits26 (d : Nat) (k : S26) (h : Gk k) : Tryd.prog.keyLits (d + 1 + 1) 26 [.string k.f0, .int .i64 k.f1, .int .i64 k.f2] = some [.string k.f0.data.toList, .int .i64 k.f1, .int .i64 k.f2] := by
  have hl : k.f0.size ≤ maxLen := by have := h.1; unfold maxLen; omega
  unfold Program.keyLits
  rw [Tryd.underlying26]
  dsimp only
  rw [if_pos ⟨by rw [co26]; rfl, by kernel_rfl⟩]
  simp only [List.mapM_cons, List.mapM_nil, co9, co3, List.drop_zero, List.take_succ_cons, List.take_zero, List.drop_succ_cons]
  rw [lits9 d _ hl, lits3 d _ h.2.1, lits3 d _ h.2.2]
  rfl
theorem key26_is (k : S26) (h : Gk k) : ∃ l, keyOf Tryd.prog 26 (pv k) = some l := by
  obtain ⟨d, hd⟩ : ∃ d, Tryd.prog.types.size + 1 = d + 1 + 1 := ⟨Tryd.prog.types.size - 1, by have := hrow26; omega⟩
  refine ⟨.string (keyBytes [.string k.f0.data.toList, .int .i64 k.f1, .int .i64 k.f2]), ?_⟩
  unfold keyOf
  rw [Tryd.underlying26, hd]
  dsimp only
  rw [kt26, if_pos (by show (true && (pv k).formed Tryd.prog 26) = true; unfold pv Value.formed; rw [Tryd.underlying26, co26]; rfl)]
  show Option.map _ (Tryd.prog.keyLits (d + 1 + 1) 26 [.string k.f0, .int .i64 k.f1, .int .i64 k.f2]) = _
  rw [lits26 d k h]
  rfl
theorem pv_inj {a b : S26} (h : pv a = pv b) : a = b := by
  simp only [pv, Value.agg.injEq, Array.mk.injEq, List.cons.injEq, Value.int.injEq, Value.string.injEq, true_and, and_true] at h
  cases a; cases b; simp_all
theorem key3_is (s : Int) (h : (Lit.int .i64 s).wf = true) : keyOf Tryd.prog 3 (.int .i64 s) = some (.int .i64 s) := by
  unfold keyOf
  rw [Tryd.underlying3]
  show mapKey Tryd.prog 3 (.int .i64 s) = _
  unfold mapKey
  rw [Tryd.underlying3]
  exact if_pos ⟨rfl, h⟩
theorem plain4 (x : Bool) : plainElem (H := Unit) Tryd.prog 4 (.bool x) = some (.lit (.bool x), []) := plainElem_bool Tryd.underlying4 x
theorem nat_wf (n : Nat) (h : n ≤ maxLen) : (Lit.int .i64 (n : Int)).wf = true := by
  unfold maxLen at h
  simp [Lit.wf, IntKind.min, IntKind.max, IntKind.bits, IntKind.signed]
  omega
/-- the map says each key's place in a list -/
def Places (b : Nat) (keys : List S26) (w : World) : Prop :=
  ∃ (n : Nat) (D : DataW Unit), n ≤ keys.length ∧ w.ownsMap Tryd.prog 26 (plainElem Tryd.prog 3) b n D ∧ IsMap D ∧
    ∀ k kl, keyOf Tryd.prog 26 (pv k) = some kl → has D kl = decide (k ∈ keys) ∧ ∀ z, D.atKey kl z = if k ∈ keys then .lit (.int .i64 (keys.idxOf k : Nat)) else z
theorem Places.made (w : World) : Places w.heap.size [] (w.alloc (.map #[] 0)) :=
  ⟨0, .map [], Nat.le_refl _, World.ownsMap_made _ _ _ _, isMap_empty, fun _ _ _ => ⟨by simp [has], fun z => by simp [DataW.atKey]⟩⟩
theorem Places.kept {b : Nat} {l : List S26} {w w' : World} {row : Option Nat} (h : Places b l w) (hg : w.grownBy w' row) (hne : some b ≠ row) : Places b l w' := by
  obtain ⟨n, D, h1, h2, h3, h4⟩ := h
  exact ⟨n, D, h1, h2.kept hg hne, h3, h4⟩
theorem Places.below {b : Nat} {l : List S26} {w w' : World} (h : Places b l w) (hb : Below w.heap.size w w') : Places b l w' := h.kept (grown_of_below hb none) (by simp)
theorem Places.set {b : Nat} {l : List S26} {w : World} (h : Places b l w) {a : Addr} (ha : b ≠ a.block) (u : Value) : Places b l (w.setCell a u) := by
  obtain ⟨n, D, h1, h2, h3, h4⟩ := h
  exact ⟨n, D, h1, h2.setCell ha u, h3, h4⟩
theorem Places.lt {b : Nat} {l : List S26} {w : World} (h : Places b l w) : b < w.heap.size := by
  obtain ⟨n, D, h1, h2, h3, h4⟩ := h
  exact h2.lt
theorem Places.look {b : Nat} {l : List S26} {w : World} (h : Places b l w) (k : S26) (hk : Gk k) : (Instr.lookup 48 (.map (some b)) (pv k) true).run Tryd.prog w = .ok (.tuple #[.int .i64 (if k ∈ l then (l.idxOf k : Int) else 0), .bool (decide (k ∈ l))]) w := by
  obtain ⟨n, D, h1, h2, h3, h4⟩ := h
  obtain ⟨kl, hkl⟩ := key26_is k hk
  obtain ⟨v, ps, hrun, hv⟩ := h2.look_ok kMap26 Tryd.underlying48 (z := .int .i64 0) (by rfl) (plainElem_int Tryd.underlying3 (nat_wf 0 (Nat.zero_le _))) hkl
  obtain ⟨a, ha⟩ := h4 k kl hkl
  rw [ha] at hv
  rw [a] at hrun
  rw [hrun]
  obtain ⟨x, rfl, hx, _⟩ := plainElem_int_inv Tryd.underlying3 hv
  by_cases c : k ∈ l
  · rw [if_pos c] at hx ⊢
    simp only [Prod.mk.injEq, DataW.lit.injEq, Lit.int.injEq, true_and] at hx
    rw [hx.1]
  · rw [if_neg c] at hx ⊢
    simp only [Prod.mk.injEq, DataW.lit.injEq, Lit.int.injEq, true_and] at hx
    rw [← hx.1]
theorem Places.put {b : Nat} {l : List S26} {w : World} (h : Places b l w) (k : S26) (hk : Gk k) (hn : k ∉ l) (hl : l.length < 1000000000) :
    ∃ w', (Instr.mapUpdate 48 (.map (some b)) (pv k) (.int .i64 (l.length : Nat))).run Tryd.prog w = .ok () w' ∧ Places b (l ++ [k]) w' ∧ w.grownBy w' (some b) := by
  obtain ⟨n, D, h1, h2, h3, h4⟩ := h
  obtain ⟨kl, hkl⟩ := key26_is k hk
  obtain ⟨w', hrun, h5, h6⟩ := h2.update kMap26 Tryd.underlying48 (by unfold maxLen; omega) hkl (plainElem_int Tryd.underlying3 (nat_wf l.length (by unfold maxLen; omega)))
  refine ⟨w', hrun, ⟨n + 1, D.put kl _, by simp; omega, h5, h3.put _ _, fun q ql hq => ?_⟩, h6⟩
  by_cases he : ql = kl
  · subst he
    obtain rfl : q = k := pv_inj (kMap26.inj hq hkl)
    refine ⟨by rw [has_put_same h3 (kMap26.key hkl)]; simp, fun z => ?_⟩
    rw [atKey_put_same h3 (kMap26.key hkl), if_pos (by simp), List.idxOf_append, if_neg hn]
    simp
  · obtain ⟨a1, a2⟩ := h4 q ql hq
    have hne : q ≠ k := fun e => he (by rw [e, hkl] at hq; injection hq with hq; exact hq.symm)
    refine ⟨by rw [has_put_other he, a1]; simp [hne], fun z => ?_⟩
    rw [atKey_put_other he, a2]
    by_cases c : q ∈ l
    · rw [if_pos c, if_pos (by simp [c]), List.idxOf_append, if_pos c]
    · rw [if_neg c, if_neg (by simp [c, hne])]
theorem Places.ne {b g : Nat} {l : List S26} {w : World} (h : Places b l w) {cs : Array Value} {t : TypeId} (hc : w.heap[g]? = some (.cells cs t (0, 0))) : g ≠ b := by
  obtain ⟨n, D, h1, ⟨es, clock, hb, _⟩, _⟩ := h
  intro e
  rw [e, hb] at hc
  cases hc
/-- the map says which stripes are held -/
def Locks (b m : Nat) (held : List Int) (w : World) : Prop :=
  ∃ (n : Nat) (D : DataW Unit), n ≤ m ∧ w.ownsMap Tryd.prog 3 (plainElem Tryd.prog 4) b n D ∧ Tidy D ∧ size D = held.length ∧
    ∀ s, (Lit.int .i64 s).wf = true → has D (.int .i64 s) = decide (s ∈ held) ∧ ∀ z, D.atKey (.int .i64 s) (.lit (.bool z)) = .lit (.bool (decide (s ∈ held) || z))
theorem Locks.made (w : World) : Locks w.heap.size 0 [] (w.alloc (.map #[] 0)) :=
  ⟨0, .map [], Nat.le_refl _, World.ownsMap_made _ _ _ _, tidy_empty, rfl, fun _ _ => ⟨by simp [has], fun z => by simp [DataW.atKey]⟩⟩
theorem Locks.kept {b m : Nat} {l : List Int} {w w' : World} {row : Option Nat} (h : Locks b m l w) (hg : w.grownBy w' row) (hne : some b ≠ row) : Locks b m l w' := by
  obtain ⟨n, D, h1, h2, h3, h4⟩ := h
  exact ⟨n, D, h1, h2.kept hg hne, h3, h4⟩
theorem Locks.below {b m : Nat} {l : List Int} {w w' : World} (h : Locks b m l w) (hb : Below w.heap.size w w') : Locks b m l w' := h.kept (grown_of_below hb none) (by simp)
theorem Locks.set {b m : Nat} {l : List Int} {w : World} (h : Locks b m l w) {a : Addr} (ha : b ≠ a.block) (u : Value) : Locks b m l (w.setCell a u) := by
  obtain ⟨n, D, h1, h2, h3, h4⟩ := h
  exact ⟨n, D, h1, h2.setCell ha u, h3, h4⟩
theorem Locks.lt {b m : Nat} {l : List Int} {w : World} (h : Locks b m l w) : b < w.heap.size := by
  obtain ⟨n, D, h1, h2, h3, h4⟩ := h
  exact h2.lt
theorem Locks.ne {b m g : Nat} {l : List Int} {w : World} (h : Locks b m l w) {cs : Array Value} {t : TypeId} (hc : w.heap[g]? = some (.cells cs t (0, 0))) : g ≠ b := by
  obtain ⟨n, D, h1, ⟨es, clock, hb, _⟩, _⟩ := h
  intro e
  rw [e, hb] at hc
  cases hc
theorem Locks.len {b m : Nat} {l : List Int} {w : World} (h : Locks b m l w) (ty : TypeId) : (Builtin.len_ #[49] ty #[.map (some b)]).run Tryd.prog w = .ok (.int .i64 (l.length : Nat)) w := by
  obtain ⟨n, D, h1, h2, h3, h4, h5⟩ := h
  rw [h2.len Tryd.underlying49 ty, h4]
theorem Locks.look {b m : Nat} {l : List Int} {w : World} (h : Locks b m l w) (s : Int) (hs : (Lit.int .i64 s).wf = true) : (Instr.lookup 49 (.map (some b)) (.int .i64 s) false).run Tryd.prog w = .ok (.bool (decide (s ∈ l))) w := by
  obtain ⟨n, D, h1, h2, h3, h4, h5⟩ := h
  obtain ⟨v, ps, hrun, hv⟩ := h2.lookup kMap3 Tryd.underlying49 (z := .bool false) (by rfl) (plain4 false) (key3_is s hs)
  rw [(h5 s hs).2 false, Bool.or_false] at hv
  rw [hrun]
  unfold plainElem at hv
  rw [Tryd.underlying4] at hv
  split at hv <;> simp_all
theorem Locks.put {b m : Nat} {l : List Int} {w : World} (h : Locks b m l w) (s : Int) (hs : (Lit.int .i64 s).wf = true) (hn : s ∉ l) (hm : m < 1000000000) :
    ∃ w', (Instr.mapUpdate 49 (.map (some b)) (.int .i64 s) (.bool true)).run Tryd.prog w = .ok () w' ∧ Locks b (m + 1) (s :: l) w' ∧ w.grownBy w' (some b) := by
  obtain ⟨n, D, h1, h2, h3, h4, h5⟩ := h
  obtain ⟨w', hrun, h6, h7⟩ := h2.update kMap3 Tryd.underlying49 (by unfold maxLen; omega) (key3_is s hs) (plain4 true)
  refine ⟨w', hrun, ⟨n + 1, _, by omega, h6, h3.put (kMap3.key (key3_is s hs)) _, ?_, fun q hq => ?_⟩, h7⟩
  · rw [size_put h3, (h5 s hs).1, if_neg (by simpa using hn), h4]; rfl
  · by_cases e : q = s
    · subst e
      exact ⟨by rw [has_put_same h3.isMap (kMap3.key (key3_is q hs))]; simp, fun z => by rw [atKey_put_same h3.isMap (kMap3.key (key3_is q hs))]; simp⟩
    · have he : (Lit.int .i64 q) ≠ .int .i64 s := fun h => e (by injection h)
      exact ⟨by rw [has_put_other he, (h5 q hq).1]; simp [e], fun z => by rw [atKey_put_other he, (h5 q hq).2]; simp [e]⟩
theorem Locks.drop {b m : Nat} {l : List Int} {w : World} (h : Locks b m l w) (s : Int) (hs : (Lit.int .i64 s).wf = true) (hin : s ∈ l) (hnd : l.Nodup) (ty : TypeId) :
    ∃ w', (Builtin.delete_ #[49, 3] ty #[.map (some b), .int .i64 s]).run Tryd.prog w = .ok (.tuple #[]) w' ∧ Locks b m (l.erase s) w' ∧ w.grownBy w' (some b) := by
  obtain ⟨n, D, h1, h2, h3, h4, h5⟩ := h
  obtain ⟨w', hrun, h6, h7⟩ := h2.drop kMap3 Tryd.underlying49 (key3_is s hs) ty
  refine ⟨w', hrun, ⟨n, _, h1, h6, h3.del _, ?_, fun q hq => ?_⟩, h7.grown⟩
  · have e := size_del h3 (k := .int .i64 s)
    rw [(h5 s hs).1, if_pos (by simpa using hin), h4] at e
    have := List.length_pos_of_mem hin
    rw [List.length_erase_of_mem hin]
    omega
  · by_cases e : q = s
    · subst e
      have hni : q ∉ l.erase q := hnd.not_mem_erase
      exact ⟨by rw [has_del_same]; simp [hni], fun z => by rw [atKey_del_same]; simp [hni]⟩
    · have he : (Lit.int .i64 q) ≠ .int .i64 s := fun h => e (by injection h)
      have hi : (q ∈ l.erase s) = (q ∈ l) := propext (List.mem_erase_of_ne e)
      exact ⟨by rw [has_del_other he, (h5 q hq).1]; simp only [hi], fun z => by rw [atKey_del_other he, (h5 q hq).2]; simp only [hi]⟩
end Go.Proofs.YtmgfkdnoclmbgaaDoor

namespace Go.Proofs.YtmgfkdnoclmbgaaDoor
open Go.RowKit Go.Maps Go.Proofs.YtmgfkdnoclmbgaaDoorW.PrintWords Go.Proofs.YtmgfkdnoclmbgaaDoorW.PrintLast Go.Proofs.YtmgfkdnoclmbgaaDoorW.PrintMore Go.Proofs.YtmgfkdnoclmbgaaDoor.P
set_option linter.unusedVariables false
set_option linter.unusedSimpArgs false
/-- an append, as a step of a region -/
theorem R_append_w {P : Program} {o : Oper} {a : Act} {Q : Exit → Act → World → Prop} {Kc : Act → World → Prop} {α : Type} (d : Kd α) {w0 W : World} (base : Nat) (hgd : o.guard = none) (s x : Operand) (t e : TypeId) (z : Value) (bytes : Nat)
    (ho : o.op = .call { callee := .builtin .append, args := #[s, x], argTypes := #[t, t] })
    (ht : P.underlying t = some (.slice e)) (hinfo : (P.info? e).map (fun i => (i.zero, i.size, i.bytes)) = some (some z, d.sz, bytes)) (hz : z.cells.size = d.sz) (hs0 : 0 < d.sz) (hb0 : 0 < bytes)
    (v : Value) (xs : List α) (p : α) (cs : List Value) (ok okp : Nat → Prop) (hs : a.eval s = v) (hx : a.eval x = .slice (some ⟨W.heap.size, 0, none⟩) 1 1) (hp : d.M W base okp p cs) (hokp : ∀ k, okp k → ok k ∧ some k ≠ v.ownBlock) (hfresh : ∀ k, W.heap.size ≤ k → ok k)
    (HO : d.R e W base ok v xs) (HB : Below base w0 W) (hbase : base ≤ W.heap.size) (hl : (xs.length + 1) * bytes ≤ 140737488355328)
    (h : ∀ v1 w1, d.R e w1 base ok v1 (xs ++ [p]) → Below base w0 w1 → W.grownBy w1 v.ownBlock → (v1.ownBlock = v.ownBlock ∨ ∃ b, v1.ownBlock = some b ∧ W.heap.size ≤ b) → Kc (a.put o.dst v1) w1) : Oper.wp P o a (W.alloc (.cells cs.toArray e)) Kc Q := by
  have hw : Region.wanted o (yielded #[] a.tmps) = true := by simp [Region.wanted, hgd]
  have r := Kd.R_append_step (ops := #[]) (Q := Q) d base hw s x t e z bytes ho ht hinfo hz hs0 hb0 v xs p cs ok okp hs hx hp hokp hfresh HO HB hbase hl h
  rwa [if_pos hw] at r
/-- a key's index, and the table behind it -/
def indexS (room : Int) (keys : List S26) (k : S26) : Int × List S26 := if k ∈ keys then ((keys.idxOf k : Nat), keys) else if (keys.length : Int) ≥ room then (-1, keys) else ((keys.length : Nat), keys ++ [k])
def tabV (room stripes : Int) (bp bl : Nat) (kv : Value) : Array Value := #[.int .i64 room, .int .i64 stripes, .map (some bp), kv, .map (some bl)]
set_option maxHeartbeats 4000000 in
theorem index_any (w0 : World) (gt bp bl : Nat) (room stripes : Int) (keys : List S26) (KA : Option Addr) (kc : Nat) (k : S26) (hk : Gk k) (w : World) (hgt : w0.heap.size ≤ gt) (hbp : w0.heap.size ≤ bp) (hB : Below w0.heap.size w0 w)
    (hb : w.heap[gt]? = some (.cells (tabV room stripes bp bl (.slice KA keys.length kc)) 51 (0, 0))) (hp : Places bp keys w) (hr : Kd.R k26 26 w w0.heap.size (fun _ => True) (.slice KA keys.length kc) keys) (hl : keys.length < 5000) :
    Calls Tryd.prog 29 #[.pointer (some ⟨gt, 0, none⟩), pv k] w fun e w' => e = .returned (.int .i64 (indexS room keys k).1) ∧ ∃ (KA' : Option Addr) (kc' : Nat), w'.heap[gt]? = some (.cells (tabV room stripes bp bl (.slice KA' (indexS room keys k).2.length kc')) 51 (0, 0)) ∧ Places bp (indexS room keys k).2 w' ∧
      Kd.R k26 26 w' w0.heap.size (fun _ => True) (.slice KA' (indexS room keys k).2.length kc') (indexS room keys k).2 ∧ Below w0.heap.size w0 w' ∧ Kept w w' (fun q => q = gt ∨ q = bp ∨ some q = (Value.slice KA keys.length kc).ownBlock) ∧
      ((Value.slice KA' (indexS room keys k).2.length kc').ownBlock = (Value.slice KA keys.length kc).ownBlock ∨ ∃ b, (Value.slice KA' (indexS room keys k).2.length kc').ownBlock = some b ∧ w.heap.size ≤ b) := by
  have HG := Aside0.mk hgt
  have HBP := Aside0.mk hbp
  have HB := Aside0.mk hB
  have HBK := Aside0.mk hb
  have HP := Aside0.mk hp
  have HR := Aside0.mk hr
  have HK := Aside0.mk hk
  have hu51 := Tryd.underlying51
  have hu26 := Tryd.underlying26
  clear hgt hbp hB hb hp hr hk
  unfold pv
  go_enter Tryd.func29, Tryd.ntmps29
  go_upto_region 1 with (fail)
  have hbx := blk_new w (.cells #[.string k.f0, .int .i64 k.f1, .int .i64 k.f2] 26 (0, 0))
  have HB1 := Aside0.mk (below_alloc HB.out (.cells #[.string k.f0, .int .i64 k.f1, .int .i64 k.f2] 26 (0, 0)))
  have hbk := blk_alloc HBK.out (.cells #[.string k.f0, .int .i64 k.f1, .int .i64 k.f2] 26 (0, 0))
  have HP1 := Aside0.mk (HP.out.below (below_alloc (Below.refl _ _) (.cells #[.string k.f0, .int .i64 k.f1, .int .i64 k.f2] 26 (0, 0))))
  have HR1 := Aside0.mk (Kd.R_alloc HR.out (.cells #[.string k.f0, .int .i64 k.f1, .int .i64 k.f2] 26 (0, 0)))
  have HK1 := Aside0.mk ((Kept.refl w (fun q => q = gt ∨ q = bp ∨ some q = (Value.slice KA keys.length kc).ownBlock)).alloc (.cells #[.string k.f0, .int .i64 k.f1, .int .i64 k.f2] 26 (0, 0)))
  have HS := Aside0.mk (below_size HB.out)
  have g1 : gt < w.heap.size := blk_lt HBK.out
  have g2 : bp < w.heap.size := HP.out.lt
  have HRL := Aside0.mk (Kd.R_lt HR.out)
  clear HBK HP HR HB
  generalize w.alloc (.cells #[.string k.f0, .int .i64 k.f1, .int .i64 k.f2] 26 (0, 0)) = w1 at *
  generalize hgb : w.heap.size = gb at *
  have HBX := Aside0.mk hbx
  have HBK := Aside0.mk hbk
  unfold tabV at hbk
  have b0 : w1.cell? ⟨gb, 0, none⟩ = some (.string k.f0) := (blk_cell hbx 0).trans rfl
  have b1 : w1.cell? ⟨gb, 1, none⟩ = some (.int .i64 k.f1) := (blk_cell hbx 1).trans rfl
  have b2 : w1.cell? ⟨gb, 2, none⟩ = some (.int .i64 k.f2) := (blk_cell hbx 2).trans rfl
  have c0 : w1.cell? ⟨gt, 0, none⟩ = some (.int .i64 room) := (blk_cell hbk 0).trans rfl
  have c2 : w1.cell? ⟨gt, 2, none⟩ = some (.map (some bp)) := (blk_cell hbk 2).trans rfl
  have c3 : w1.cell? ⟨gt, 3, none⟩ = some (.slice KA keys.length kc) := (blk_cell hbk 3).trans rfl
  have f3 := blk_frozen hbk 3
  clear hbx hbk
  have hlook0 := HP1.out.look k HK.out
  have hlook := (show Places bp keys w1.drew from HP1.out.below (below_drew1 (Below.refl _ _))).look k HK.out
  unfold pv at hlook hlook0
  by_cases hin : k ∈ keys
  · have HE := Aside0.mk (show indexS room keys k = (((keys.idxOf k : Nat) : Int), keys) from if_pos hin)
    rw [if_pos hin, show decide (k ∈ keys) = true by simp [hin]] at hlook hlook0
    clear hin
    go_wp2
    go_region
    go_wp2
    go_ret
    rw [HE.out]
    exact ⟨rfl, KA, kc, blk_drew HBK.out, HP1.out.below (below_drew1 (Below.refl _ _)), Kd.R_drew HR1.out, below_drew1 HB1.out, HK1.out.drew, .inl rfl⟩
  · rw [if_neg hin, show decide (k ∈ keys) = false by simp [hin]] at hlook hlook0
    by_cases hro : room ≤ (keys.length : Int)
    · have HE := Aside0.mk (show indexS room keys k = (-1, keys) from (if_neg hin).trans (if_pos hro))
      have t1 : decide (room ≤ (keys.length : Int)) = true := decide_eq_true hro
      clear hin hro
      go_wp2
      go_region
      go_wp2
      go_ret
      rw [HE.out]
      exact ⟨rfl, KA, kc, blk_drew HBK.out, HP1.out.below (below_drew1 (Below.refl _ _)), Kd.R_drew HR1.out, below_drew1 HB1.out, HK1.out.drew, .inl rfl⟩
    · have HE := Aside0.mk (show indexS room keys k = (((keys.length : Nat) : Int), keys ++ [k]) from (if_neg hin).trans (if_neg hro))
      have t1 : decide (room ≤ (keys.length : Int)) = false := decide_eq_false hro
      obtain ⟨w3, hrun, hpl, hg⟩ := (show Places bp keys w1.drew.drew from HP1.out.below (below_drew1 (below_drew1 (Below.refl _ _)))).put k HK.out hin (by omega)
      unfold pv at hrun
      have HPL := Aside0.mk hpl
      have HGR := Aside0.mk hg
      clear hin hro hpl hg
      go_wp2
      go_region
      go_wp2
      clear hlook hlook0
      go_region
      have hbk2 : w1.drew.drew.heap[gt]? = _ := HBK.out
      have n1 : gt ≠ bp := HP1.out.ne HBK.out
      have n2 : gb ≠ bp := HP1.out.ne HBX.out
      have HN3 := Aside0.mk (show some bp ≠ (Value.slice KA keys.length kc).ownBlock from fun e => by
        obtain ⟨cs, hcs⟩ := Kd.R_typed HR1.out bp e.symm
        exact HP1.out.ne hcs rfl)
      have HBK3 := Aside0.mk (blk_grown (blk_drew (blk_drew HBK.out)) HGR.out (by simpa using n1))
      have hbx := blk_grown (blk_drew (blk_drew HBX.out)) HGR.out (by simpa using n2)
      have HR3 := Aside0.mk (Kd.R_grown1 (Kd.R_drew (Kd.R_drew HR1.out)) rfl HGR.out HN3.out)
      have HB3 := Aside0.mk (pw_below_grown (below_drew1 (below_drew1 HB1.out)) (some bp) (by have h1 := HK1.out.1; have h2 := HS.out; show w0.heap.size ≤ w1.heap.size; omega) HGR.out (fun q hq => by injection hq with hq; have := HBP.out; omega))
      have HK3 := Aside0.mk (Kept.of_grown HGR.out HK1.out.drew.drew (fun q hq => .inl (.inr (.inl (by injection hq with hq; exact hq.symm)))))
      clear HBK HBX HR1 HB1 HK1 HP1 hbk2 b0 b1 b2 c0 c2 c3 f3 hrun
      have hbk := HBK3.out
      unfold tabV at hbk
      have b0 : w3.cell? ⟨gb, 0, none⟩ = some (.string k.f0) := (blk_cell hbx 0).trans rfl
      have b1 : w3.cell? ⟨gb, 1, none⟩ = some (.int .i64 k.f1) := (blk_cell hbx 1).trans rfl
      have b2 : w3.cell? ⟨gb, 2, none⟩ = some (.int .i64 k.f2) := (blk_cell hbx 2).trans rfl
      have c3 : w3.cell? ⟨gt, 3, none⟩ = some (.slice KA keys.length kc) := (blk_cell hbk 3).trans rfl
      have f3 := blk_frozen hbk 3
      have HBX3 := Aside0.mk hbx
      clear hbk hbx
      have HCK := Aside0.mk (show ∀ w20, w3.drew.grownBy w20 (Value.slice KA keys.length kc).ownBlock → w20.cell? ⟨gt, 3, none⟩ = some (.slice KA keys.length kc) ∧ w20.cell? ⟨gb, 0, none⟩ = some (.string k.f0) ∧ w20.cell? ⟨gb, 1, none⟩ = some (.int .i64 k.f1) ∧ w20.cell? ⟨gb, 2, none⟩ = some (.int .i64 k.f2) from fun w20 hg => by
        have a := blk_grown (blk_drew HBK3.out) hg (Kd.R_ne HR3.out HBK3.out (by decide))
        have b := blk_grown (blk_drew HBX3.out) hg (fun e => by have := HRL.out gb e.symm; omega)
        exact ⟨(blk_cell a 3).trans rfl, (blk_cell b 0).trans rfl, (blk_cell b 1).trans rfl, (blk_cell b 2).trans rfl⟩)
      have HFIN := Aside0.mk (show ∀ (KA' : Option Addr) (kc' : Nat) (w20 : World), Kd.R k26 26 w20 w0.heap.size (fun _ => True) (.slice KA' (keys ++ [k]).length kc') (keys ++ [k]) → Below w0.heap.size w0 w20 → w3.drew.grownBy w20 (Value.slice KA keys.length kc).ownBlock →
          ((Value.slice KA' (keys ++ [k]).length kc').ownBlock = (Value.slice KA keys.length kc).ownBlock ∨ ∃ b, (Value.slice KA' (keys ++ [k]).length kc').ownBlock = some b ∧ w3.drew.heap.size ≤ b) →
          ∃ (KA2 : Option Addr) (kc2 : Nat), (w20.setCell ⟨gt, 3, none⟩ (.slice KA' (keys.length + 1) kc')).heap[gt]? = some (.cells (tabV room stripes bp bl (.slice KA2 (keys ++ [k]).length kc2)) 51 (0, 0)) ∧ Places bp (keys ++ [k]) (w20.setCell ⟨gt, 3, none⟩ (.slice KA' (keys.length + 1) kc')) ∧
            Kd.R k26 26 (w20.setCell ⟨gt, 3, none⟩ (.slice KA' (keys.length + 1) kc')) w0.heap.size (fun _ => True) (.slice KA2 (keys ++ [k]).length kc2) (keys ++ [k]) ∧ Below w0.heap.size w0 (w20.setCell ⟨gt, 3, none⟩ (.slice KA' (keys.length + 1) kc')) ∧ Kept w (w20.setCell ⟨gt, 3, none⟩ (.slice KA' (keys.length + 1) kc')) (fun q => q = gt ∨ q = bp ∨ some q = (Value.slice KA keys.length kc).ownBlock) ∧
            ((Value.slice KA2 (keys ++ [k]).length kc2).ownBlock = (Value.slice KA keys.length kc).ownBlock ∨ ∃ b, (Value.slice KA2 (keys ++ [k]).length kc2).ownBlock = some b ∧ w.heap.size ≤ b) from fun KA' kc' w20 ho hb hg hat => by
        have hbk4 := blk_grown (blk_drew HBK3.out) hg (Kd.R_ne HR3.out HBK3.out (by decide))
        unfold tabV at hbk4
        have e : (keys ++ [k]).length = keys.length + 1 := by rw [List.length_append, List.length_singleton]
        have hrt := Kd.R_types ho hbk4 (by decide)
        rw [e] at hrt hat ⊢
        refine ⟨KA', kc', blk_put hbk4 3 _ rfl, ((show Places bp (keys ++ [k]) w3.drew from HPL.out.below (below_drew1 (Below.refl _ _))).kept (w' := w20) hg HN3.out).set (Ne.symm n1) _, ?_, below_set hb HG.out, (Kept.of_grown hg HK3.out.drew (fun q hq => .inl (.inr (.inr hq.symm)))).setCell (.inl (.inl rfl)) _, ?_⟩
        · exact Kd.R_mono (Kd.R_far (p := ⟨gt, 3, none⟩) hrt (fun _ hk => hk.2) _) (fun _ _ => trivial)
        · rcases hat with hat | ⟨b, hb1, hb2⟩
          · exact .inl hat
          · exact .inr ⟨b, hb1, Nat.le_trans HK3.out.1 hb2⟩)
      have HFK := Aside0.mk (show ∀ w20, w3.drew.grownBy w20 (Value.slice KA keys.length kc).ownBlock → w20.frozen? ⟨gt, 3, none⟩ = false from fun w20 hg => blk_frozen (blk_grown (blk_drew HBK3.out) hg (Kd.R_ne HR3.out HBK3.out (by decide))) 3)
      have c3a : (w3.alloc (.cells #[.string k.f0, .int .i64 k.f1, .int .i64 k.f2] 26 (0, 0))).cell? ⟨gt, 3, none⟩ = some (.slice KA keys.length kc) := (blk_cell (blk_alloc HBK3.out _) 3).trans rfl
      have c3b : (w3.alloc (.cells #[.string k.f0, .int .i64 k.f1, .int .i64 k.f2] 26 (0, 0))).drew.cell? ⟨gt, 3, none⟩ = some (.slice KA keys.length kc) := (blk_cell (blk_alloc HBK3.out _) 3).trans rfl
      go_wp2
      go_region_law
        (first | (refine R_append_w k26 (w0 := w0) (W := w3.drew) w0.heap.size rfl (.tmp 40) (.tmp 42) 24 26 (.agg #[(.string ⟨#[]⟩), (.int .i64 0), (.int .i64 0)]) 32 rfl Tryd.underlying24 info26 rfl (by decide) (by omega) (.slice KA keys.length kc) keys k [.string k.f0, .int .i64 k.f1, .int .i64 k.f2] (fun _ => True) (fun _ => False) rfl (by first | (go_simp; done) | (go_simp; rfl)) ?aP (fun _ hk => hk.elim) ?aF ?aO ?aB ?aS ?aL ?_; (case aP => exact k26_mkM _ _ _ k); (case aB => first | exact HB3.out | exact below_drew1 HB3.out); (case aF => exact (fun _ _ => trivial)); (case aO => first | exact HR3.out | exact Kd.R_drew HR3.out); (case aS => exact below_size (by first | exact HB3.out | exact below_drew1 HB3.out)); (case aL => omega); intro v20 w20 ho hb hg hat; obtain ⟨KA', kc', rfl⟩ := Kd.R_slice ho; have HO := Aside0.mk ho; have HB4 := Aside0.mk hb; have HG4 := Aside0.mk hg; have HAT := Aside0.mk hat; have hS4 : w20.cell? ⟨gt, 3, none⟩ = some (.slice KA keys.length kc) ∧ w20.cell? ⟨gb, 0, none⟩ = some (.string k.f0) ∧ w20.cell? ⟨gb, 1, none⟩ = some (.int .i64 k.f1) ∧ w20.cell? ⟨gb, 2, none⟩ = some (.int .i64 k.f2) := HCK.out w20 hg; have f20 := HFK.out w20 hg; have c20 := hS4.1; clear ho hb hg hat))
      all_goals
        go_wp2
        go_ret
        rw [HE.out]
        exact ⟨rfl, HFIN.out _ _ _ HO.out HB4.out HG4.out HAT.out⟩
end Go.Proofs.YtmgfkdnoclmbgaaDoor

namespace Go.Proofs.YtmgfkdnoclmbgaaDoor
open Go.RowKit Go.Maps Go.Proofs.YtmgfkdnoclmbgaaDoorW.PrintWords Go.Proofs.YtmgfkdnoclmbgaaDoorW.PrintLast Go.Proofs.YtmgfkdnoclmbgaaDoorW.PrintMore Go.Proofs.YtmgfkdnoclmbgaaDoor.P
set_option linter.unusedVariables false
set_option linter.unusedSimpArgs false
/-- may a worker go on? -/
def enB (stripes : Int) (held : List Int) (l : List S26) (st : Int) : Bool :=
  match l with
  | [] => false
  | k :: _ => !(st == 0 && decide (stripeS stripes k ∈ held))
theorem stripe_wf (n : Int) (k : S26) : (Lit.int .i64 (stripeS n k)).wf = true := by
  have := stripeS_rng n k
  simp [Lit.wf, IntKind.min, IntKind.max, IntKind.bits, IntKind.signed]
  omega
set_option maxHeartbeats 4000000 in
theorem enabled_any (gw i gt bl m : Nat) (stripes : Int) (held : List Int) (A : Option Addr) (c : Nat) (l : List S26) (st : Int) (w : World) (hg : ∀ k ∈ l, Gk k)
    (hc0 : w.cell? ⟨gw, i * 3, none⟩ = some (.slice A l.length c)) (hc1 : w.cell? ⟨gw, i * 3 + 1, none⟩ = some (.int .i64 st)) (ht1 : w.cell? ⟨gt, 1, none⟩ = some (.int .i64 stripes)) (ht4 : w.cell? ⟨gt, 4, none⟩ = some (.map (some bl)))
    (hl : Locks bl m held w) (hr : Kd.C k26 w A l.length l) :
    Calls Tryd.prog 16 #[.pointer (some ⟨gw, i * 3, none⟩), .pointer (some ⟨gt, 0, none⟩)] w fun e w' => e = .returned (.bool (enB stripes held l st)) ∧ Below w.heap.size w w' := by
  have hu46 := Tryd.underlying46
  have hu51 := Tryd.underlying51
  have hu26 := Tryd.underlying26
  have HL := Aside0.mk hl
  have HR := Aside0.mk hr
  have HG := Aside0.mk hg
  clear hl hr hg
  cases l with
  | nil =>
    replace hc0 : w.cell? ⟨gw, i * 3, none⟩ = some (.slice A 0 c) := hc0
    go_enter Tryd.func16, Tryd.ntmps16
    go_wp2
    go_region
    go_wp2
    go_ret
    exact ⟨rfl, below_drew1 (Below.refl _ _)⟩
  | cons k l =>
    obtain ⟨ad, hA, k0, k1, k2⟩ := at_T26 HR.out 0 (by omega) (by simp)
    subst hA
    have hkk := HG.out k (List.mem_cons_self ..)
    have e0 : rd_T26 (k :: l) 0 = k := rfl
    rw [e0] at k0 k1 k2
    simp only [Int.toNat_zero, Nat.zero_mul] at k0 k1 k2
    have ea : ad.add 0 = ad := by cases ad; simp [Addr.add]
    rw [ea] at k0 k1 k2
    by_cases hst : st = 0
    · subst hst
      have HE := Aside0.mk (show enB stripes held (k :: l) 0 = !(decide (stripeS stripes k ∈ held)) from rfl)
      have p0 : decide (0 < (k :: l).length) = true := by simp
      have p1 : (0 : Int) < (((k :: l).length : Nat) : Int) := by rw [List.length_cons]; omega
      obtain ⟨r, hr⟩ : ∃ r, stripeS stripes k = r := ⟨_, rfl⟩
      have HRW := Aside0.mk (show (Lit.int .i64 r).wf = true by rw [← hr]; exact stripe_wf _ _)
      rw [hr] at HE
      obtain ⟨g, hk⟩ := (stripe_ev k stripes (by have := hkk.1; omega)).rounds
      rw [hr] at hk
      have HS := Aside0.mk hk
      have HCK := Aside0.mk (show ∀ w', Below w.drew.heap.size w.drew w' → w'.cell? ⟨gw, i * 3, none⟩ = some (.slice (some ad) (k :: l).length c) ∧ w'.cell? ⟨gw, i * 3 + 1, none⟩ = some (.int .i64 0) ∧ w'.cell? ⟨gt, 1, none⟩ = some (.int .i64 stripes) ∧ w'.cell? ⟨gt, 4, none⟩ = some (.map (some bl)) ∧ w'.cell? ad = some (.string k.f0) ∧ w'.cell? ⟨ad.block, ad.off + 1, none⟩ = some (.int .i64 k.f1) ∧ w'.cell? ⟨ad.block, ad.off + 2, none⟩ = some (.int .i64 k.f2) from fun w' hb =>
        ⟨(hb.cell (World.block_lt_of_cell? _ _ hc0)).trans hc0, (hb.cell (World.block_lt_of_cell? _ _ hc1)).trans hc1, (hb.cell (World.block_lt_of_cell? _ _ ht1)).trans ht1, (hb.cell (World.block_lt_of_cell? _ _ ht4)).trans ht4, (hb.cell (World.block_lt_of_cell? _ _ k0)).trans k0, (hb.cell (World.block_lt_of_cell? _ _ k1)).trans k1, (hb.cell (World.block_lt_of_cell? _ _ k2)).trans k2⟩)
      clear hr hk e0
      have p2 : 0 < (k :: l).length := by simp
      generalize (k :: l).length = n at *
      go_enter Tryd.func16, Tryd.ntmps16
      go_wp2
      go_region_held3 (fun w' => w'.cell? ⟨gw, i * 3, none⟩ = some (.slice (some ad) n c) ∧ w'.cell? ⟨gw, i * 3 + 1, none⟩ = some (.int .i64 0) ∧ w'.cell? ⟨gt, 1, none⟩ = some (.int .i64 stripes) ∧ w'.cell? ⟨gt, 4, none⟩ = some (.map (some bl)) ∧ w'.cell? ad = some (.string k.f0) ∧ w'.cell? ⟨ad.block, ad.off + 1, none⟩ = some (.int .i64 k.f1) ∧ w'.cell? ⟨ad.block, ad.off + 2, none⟩ = some (.int .i64 k.f2))
        (first | go_keep | assumption)
        (first | (go_at_call 24; refine (hash_Stripe.calls g k.f0 k.f1 k.f2 stripes r _ HS.out).mono ?_; rintro e w5 ⟨rfl, hb⟩; have hS5 := HCK.out w5 hb; have hlook := ((show Locks bl m held w.drew from HL.out.below (below_drew1 (Below.refl _ _))).below hb).look r HRW.out; have HB5 := Aside0.mk hb; clear hb))
      go_wp2
      go_ret
      exact ⟨by rw [HE.out]; rfl, Below.trans (below_drew1 (Below.refl _ _)) HB5.out⟩
    · have q0 : (st == 0) = false := by simpa using hst
      have HE := Aside0.mk (show enB stripes held (k :: l) st = true by unfold enB; rw [q0]; rfl)
      have p0 : decide (0 < (k :: l).length) = true := by simp
      clear hst e0
      generalize (k :: l).length = n at *
      go_enter Tryd.func16, Tryd.ntmps16
      go_wp2
      go_region
      go_wp2
      go_ret
      exact ⟨by rw [HE.out]; rfl, below_drew1 (Below.refl _ _)⟩
end Go.Proofs.YtmgfkdnoclmbgaaDoor

namespace Go.Proofs.YtmgfkdnoclmbgaaDoor
open Go.RowKit Go.Maps Go.Proofs.YtmgfkdnoclmbgaaDoorW.PrintWords Go.Proofs.YtmgfkdnoclmbgaaDoorW.PrintLast Go.Proofs.YtmgfkdnoclmbgaaDoorW.PrintMore Go.Proofs.YtmgfkdnoclmbgaaDoor.P
set_option linter.unusedVariables false
set_option linter.unusedSimpArgs false
set_option maxHeartbeats 4000000 in
theorem next_lock (w0 : World) (gw i gt bl m : Nat) (stripes room : Int) (held : List Int) (A : Option Addr) (c : Nat) (k : S26) (l : List S26) (V : Array Value) (bp : Nat) (kv : Value) (w : World) (hg : Gk k) (hgw : w0.heap.size ≤ gw) (hbl : w0.heap.size ≤ bl) (hB : Below w0.heap.size w0 w)
    (hw : w.heap[gw]? = some (.cells V 46 (0, 0))) (hv0 : V[i * 3]? = some (.slice A (k :: l).length c)) (hv1 : V[i * 3 + 1]? = some (.int .i64 0)) (ht : w.heap[gt]? = some (.cells (tabV room stripes bp bl kv) 51 (0, 0)))
    (hl : Locks bl m held w) (hm : m < 1000000) (hr : Kd.C k26 w A (k :: l).length (k :: l)) (hn : stripeS stripes k ∉ held) :
    Calls Tryd.prog 18 #[.pointer (some ⟨gw, i * 3, none⟩), .pointer (some ⟨gt, 0, none⟩)] w fun e w' => e = .returned (.tuple #[]) ∧ w'.heap[gw]? = some (.cells (V.setIfInBounds (i * 3 + 1) (.int .i64 1)) 46 (0, 0)) ∧ Locks bl (m + 1) (stripeS stripes k :: held) w' ∧ Below w0.heap.size w0 w' ∧ Kept w w' (fun q => q = gw ∨ q = bl) := by
  have hu46 := Tryd.underlying46
  have hu51 := Tryd.underlying51
  have hu26 := Tryd.underlying26
  have HL := Aside0.mk hl
  have HW := Aside0.mk hw
  have HT := Aside0.mk ht
  have HB := Aside0.mk hB
  have HGW := Aside0.mk hgw
  have HBL := Aside0.mk hbl
  have HN := Aside0.mk hn
  have hc0 : w.cell? ⟨gw, i * 3, none⟩ = some (.slice A (k :: l).length c) := (blk_cell hw _).trans hv0
  have hc1 : w.cell? ⟨gw, i * 3 + 1, none⟩ = some (.int .i64 0) := (blk_cell hw _).trans hv1
  unfold tabV at ht
  have ht1 : w.cell? ⟨gt, 1, none⟩ = some (.int .i64 stripes) := (blk_cell ht 1).trans rfl
  have ht4 : w.cell? ⟨gt, 4, none⟩ = some (.map (some bl)) := (blk_cell ht 4).trans rfl
  obtain ⟨ad, hA, k0, k1, k2⟩ := at_T26 hr 0 (by omega) (by simp)
  subst hA
  have e0 : rd_T26 (k :: l) 0 = k := rfl
  rw [e0] at k0 k1 k2
  simp only [Int.toNat_zero, Nat.zero_mul] at k0 k1 k2
  have ea : ad.add 0 = ad := by cases ad; simp [Addr.add]
  rw [ea] at k0 k1 k2
  have p1 : (0 : Int) < (((k :: l).length : Nat) : Int) := by rw [List.length_cons]; omega
  obtain ⟨r, hrr⟩ : ∃ r, stripeS stripes k = r := ⟨_, rfl⟩
  have HRW := Aside0.mk (show (Lit.int .i64 r).wf = true by rw [← hrr]; exact stripe_wf _ _)
  rw [hrr] at HN ⊢
  obtain ⟨g, hk⟩ := (stripe_ev k stripes (by have := hg.1; omega)).rounds
  rw [hrr] at hk
  have HS := Aside0.mk hk
  have HCK := Aside0.mk (show ∀ w', Below w.drew.heap.size w.drew w' → w'.cell? ⟨gw, i * 3, none⟩ = some (.slice (some ad) (k :: l).length c) ∧ w'.cell? ⟨gt, 1, none⟩ = some (.int .i64 stripes) ∧ w'.cell? ad = some (.string k.f0) ∧ w'.cell? ⟨ad.block, ad.off + 1, none⟩ = some (.int .i64 k.f1) ∧ w'.cell? ⟨ad.block, ad.off + 2, none⟩ = some (.int .i64 k.f2) from fun w' hb =>
    ⟨(hb.cell (World.block_lt_of_cell? _ _ hc0)).trans hc0, (hb.cell (World.block_lt_of_cell? _ _ ht1)).trans ht1, (hb.cell (World.block_lt_of_cell? _ _ k0)).trans k0, (hb.cell (World.block_lt_of_cell? _ _ k1)).trans k1, (hb.cell (World.block_lt_of_cell? _ _ k2)).trans k2⟩)
  have HV0 := Aside0.mk hv0
  have HV1 := Aside0.mk hv1
  clear hrr hk e0 hv0 hv1 hl hw hn hB hgw hbl hr ht
  have p2 : 0 < (k :: l).length := by simp
  generalize (k :: l).length = n at *
  go_enter Tryd.func18, Tryd.ntmps18
  go_wp2
  go_region_held3 (fun w' => w'.cell? ⟨gw, i * 3, none⟩ = some (.slice (some ad) n c) ∧ w'.cell? ⟨gt, 1, none⟩ = some (.int .i64 stripes) ∧ w'.cell? ad = some (.string k.f0) ∧ w'.cell? ⟨ad.block, ad.off + 1, none⟩ = some (.int .i64 k.f1) ∧ w'.cell? ⟨ad.block, ad.off + 2, none⟩ = some (.int .i64 k.f2))
    (first | go_keep | assumption)
    (first | (go_at_call 24; refine (hash_Stripe.calls g k.f0 k.f1 k.f2 stripes r _ HS.out).mono ?_; rintro e w5 ⟨rfl, hb⟩; have hS5 := HCK.out w5 hb; have HB5 := Aside0.mk hb; clear hb))
  have hb5 : Below w.heap.size w w5 := Below.trans (below_drew1 (Below.refl _ _)) HB5.out
  have HB6 := Aside0.mk (below_step HB.out hb5)
  have HW6 := Aside0.mk (blk_below HW.out hb5)
  have HT6 := blk_below HT.out hb5
  have HL6 := Aside0.mk (HL.out.below hb5)
  have HK6 := Aside0.mk (Kept.of_below hb5 (fun q => q = gw ∨ q = bl))
  have HGB := Aside0.mk (show gw < w5.heap.size from blk_lt HW6.out)
  unfold tabV at HT6
  clear hS5 HB5 hb5 hc0 hc1 ht1 ht4 HW HT HL HB
  have hc1 : w5.cell? ⟨gw, i * 3 + 1, none⟩ = some (.int .i64 0) := (blk_cell HW6.out _).trans HV1.out
  have ht4 : w5.cell? ⟨gt, 4, none⟩ = some (.map (some bl)) := (blk_cell HT6 4).trans rfl
  have nwl : gw ≠ bl := HL6.out.ne HW6.out
  clear HT6
  obtain ⟨w7, hrun, hlk, hgr⟩ := HL6.out.put r HRW.out HN.out (by omega)
  have HW7 := Aside0.mk (blk_grown HW6.out hgr (by simpa using nwl))
  have hc7 : w7.cell? ⟨gw, i * 3 + 1, none⟩ = some (.int .i64 0) := (blk_cell HW7.out _).trans HV1.out
  have hf7 := blk_frozen HW7.out (i * 3 + 1)
  have HLK := Aside0.mk hlk
  have HGR := Aside0.mk hgr
  clear hlk hgr
  go_wp2
  go_end0
  exact ⟨rfl, blk_set HW7.out _ _, HLK.out.set (Ne.symm nwl) _, below_set (pw_below_grown HB6.out (some bl) (below_size HB6.out) HGR.out (fun q hq => by injection hq with hq; have := HBL.out; omega)) HGW.out, (Kept.of_grown HGR.out HK6.out (fun q hq => .inl (.inr (by injection hq with hq; exact hq.symm)))).setCell (.inl (.inl rfl)) _⟩
set_option maxHeartbeats 4000000 in
theorem next_leave (w0 : World) (gw i gt bl m : Nat) (stripes room : Int) (held : List Int) (A : Option Addr) (c : Nat) (k : S26) (l : List S26) (V : Array Value) (bp : Nat) (kv : Value) (w : World) (hg : Gk k) (hgw : w0.heap.size ≤ gw) (hbl : w0.heap.size ≤ bl) (hB : Below w0.heap.size w0 w)
    (hw : w.heap[gw]? = some (.cells V 46 (0, 0))) (hv0 : V[i * 3]? = some (.slice A (k :: l).length c)) (hv1 : V[i * 3 + 1]? = some (.int .i64 2)) (ht : w.heap[gt]? = some (.cells (tabV room stripes bp bl kv) 51 (0, 0)))
    (hl : Locks bl m held w) (hnd : held.Nodup) (hkc : (k :: l).length ≤ c) (hr : Kd.C k26 w0 A (k :: l).length (k :: l)) (hn : stripeS stripes k ∈ held) :
    Calls Tryd.prog 18 #[.pointer (some ⟨gw, i * 3, none⟩), .pointer (some ⟨gt, 0, none⟩)] w fun e w' => e = .returned (.tuple #[]) ∧ (∃ (A' : Option Addr) (c' : Nat), w'.heap[gw]? = some (.cells ((V.setIfInBounds (i * 3) (.slice A' l.length c')).setIfInBounds (i * 3 + 1) (.int .i64 0)) 46 (0, 0)) ∧ l.length ≤ c' ∧ Kd.C k26 w0 A' l.length l) ∧ Locks bl m (held.erase (stripeS stripes k)) w' ∧ Below w0.heap.size w0 w' ∧ Kept w w' (fun q => q = gw ∨ q = bl) := by
  have hu46 := Tryd.underlying46
  have hu51 := Tryd.underlying51
  have hu26 := Tryd.underlying26
  have HL := Aside0.mk hl
  have HW := Aside0.mk hw
  have HT := Aside0.mk ht
  have HB := Aside0.mk hB
  have HGW := Aside0.mk hgw
  have HBL := Aside0.mk hbl
  have HN := Aside0.mk hn
  have HND := Aside0.mk hnd
  have HKC := Aside0.mk hkc
  have HR := Aside0.mk hr
  have hc0 : w.cell? ⟨gw, i * 3, none⟩ = some (.slice A (k :: l).length c) := (blk_cell hw _).trans hv0
  have hc1 : w.cell? ⟨gw, i * 3 + 1, none⟩ = some (.int .i64 2) := (blk_cell hw _).trans hv1
  unfold tabV at ht
  have ht1 : w.cell? ⟨gt, 1, none⟩ = some (.int .i64 stripes) := (blk_cell ht 1).trans rfl
  have ht4 : w.cell? ⟨gt, 4, none⟩ = some (.map (some bl)) := (blk_cell ht 4).trans rfl
  obtain ⟨ad, hA, k0, k1, k2⟩ := at_T26 (Kd.C_below hr hB) 0 (by omega) (by simp)
  subst hA
  have e0 : rd_T26 (k :: l) 0 = k := rfl
  rw [e0] at k0 k1 k2
  simp only [Int.toNat_zero, Nat.zero_mul] at k0 k1 k2
  have ea : ad.add 0 = ad := by cases ad; simp [Addr.add]
  rw [ea] at k0 k1 k2
  have p1 : (0 : Int) < (((k :: l).length : Nat) : Int) := by rw [List.length_cons]; omega
  obtain ⟨r, hrr⟩ : ∃ r, stripeS stripes k = r := ⟨_, rfl⟩
  have HRW := Aside0.mk (show (Lit.int .i64 r).wf = true by rw [← hrr]; exact stripe_wf _ _)
  rw [hrr] at HN ⊢
  obtain ⟨g, hk⟩ := (stripe_ev k stripes (by have := hg.1; omega)).rounds
  rw [hrr] at hk
  have HS := Aside0.mk hk
  have HCK := Aside0.mk (show ∀ w', Below w.drew.heap.size w.drew w' → w'.cell? ⟨gw, i * 3, none⟩ = some (.slice (some ad) (k :: l).length c) ∧ w'.cell? ⟨gt, 1, none⟩ = some (.int .i64 stripes) ∧ w'.cell? ad = some (.string k.f0) ∧ w'.cell? ⟨ad.block, ad.off + 1, none⟩ = some (.int .i64 k.f1) ∧ w'.cell? ⟨ad.block, ad.off + 2, none⟩ = some (.int .i64 k.f2) from fun w' hb =>
    ⟨(hb.cell (World.block_lt_of_cell? _ _ hc0)).trans hc0, (hb.cell (World.block_lt_of_cell? _ _ ht1)).trans ht1, (hb.cell (World.block_lt_of_cell? _ _ k0)).trans k0, (hb.cell (World.block_lt_of_cell? _ _ k1)).trans k1, (hb.cell (World.block_lt_of_cell? _ _ k2)).trans k2⟩)
  have HV0 := Aside0.mk hv0
  have HV1 := Aside0.mk hv1
  clear hnd hkc hrr hk e0 hv0 hv1 hl hw hn hB hgw hbl hr ht
  have p2 : 0 < (k :: l).length := by simp
  have HNL := Aside0.mk (show (k :: l).length = l.length + 1 from rfl)
  generalize (k :: l).length = n at *
  go_enter Tryd.func18, Tryd.ntmps18
  go_wp2
  go_region_held3 (fun w' => w'.cell? ⟨gw, i * 3, none⟩ = some (.slice (some ad) n c) ∧ w'.cell? ⟨gt, 1, none⟩ = some (.int .i64 stripes) ∧ w'.cell? ad = some (.string k.f0) ∧ w'.cell? ⟨ad.block, ad.off + 1, none⟩ = some (.int .i64 k.f1) ∧ w'.cell? ⟨ad.block, ad.off + 2, none⟩ = some (.int .i64 k.f2))
    (first | go_keep | assumption)
    (first | (go_at_call 24; refine (hash_Stripe.calls g k.f0 k.f1 k.f2 stripes r _ HS.out).mono ?_; rintro e w5 ⟨rfl, hb⟩; have hS5 := HCK.out w5 hb; have HB5 := Aside0.mk hb; clear hb))
  have hb5 : Below w.heap.size w w5 := Below.trans (below_drew1 (Below.refl _ _)) HB5.out
  have HB6 := Aside0.mk (below_step HB.out hb5)
  have HW6 := Aside0.mk (blk_below HW.out hb5)
  have HT6 := blk_below HT.out hb5
  have HL6 := Aside0.mk (HL.out.below hb5)
  have HK6 := Aside0.mk (Kept.of_below hb5 (fun q => q = gw ∨ q = bl))
  have HGB := Aside0.mk (show gw < w5.heap.size from blk_lt HW6.out)
  unfold tabV at HT6
  clear hS5 HB5 hb5 hc0 hc1 ht1 ht4 HW HT HL HB
  have hc1 : w5.cell? ⟨gw, i * 3 + 1, none⟩ = some (.int .i64 2) := (blk_cell HW6.out _).trans HV1.out
  have ht4 : w5.cell? ⟨gt, 4, none⟩ = some (.map (some bl)) := (blk_cell HT6 4).trans rfl
  have nwl : gw ≠ bl := HL6.out.ne HW6.out
  clear HT6
  obtain ⟨w7, hrun, hlk, hgr⟩ := HL6.out.drop r HRW.out HN.out HND.out 0
  have HW7 := Aside0.mk (blk_grown HW6.out hgr (by simpa using nwl))
  have hc7 : w7.cell? ⟨gw, i * 3 + 1, none⟩ = some (.int .i64 2) := (blk_cell HW7.out _).trans HV1.out
  have hc8 : w7.cell? ⟨gw, i * 3, none⟩ = some (.slice (some ad) n c) := (blk_cell HW7.out _).trans HV0.out
  have hf7 := blk_frozen HW7.out (i * 3 + 1)
  have hf8 := blk_frozen HW7.out (i * 3)
  have HLK := Aside0.mk hlk
  have HGR := Aside0.mk hgr
  clear hlk hgr
  have HFIN := Aside0.mk (show ∀ (A' : Option Addr) (c' : Nat), l.length ≤ c' → Kd.C k26 w0 A' l.length l → (∃ (A2 : Option Addr) (c2 : Nat), ((w7.setCell ⟨gw, i * 3, none⟩ (.slice A' (n - 1) c')).setCell ⟨gw, i * 3 + 1, none⟩ (.int .i64 0)).heap[gw]? = some (.cells ((V.setIfInBounds (i * 3) (.slice A2 l.length c2)).setIfInBounds (i * 3 + 1) (.int .i64 0)) 46 (0, 0)) ∧ l.length ≤ c2 ∧ Kd.C k26 w0 A2 l.length l) ∧ Locks bl m (held.erase r) ((w7.setCell ⟨gw, i * 3, none⟩ (.slice A' (n - 1) c')).setCell ⟨gw, i * 3 + 1, none⟩ (.int .i64 0)) ∧ Below w0.heap.size w0 ((w7.setCell ⟨gw, i * 3, none⟩ (.slice A' (n - 1) c')).setCell ⟨gw, i * 3 + 1, none⟩ (.int .i64 0)) ∧ Kept w ((w7.setCell ⟨gw, i * 3, none⟩ (.slice A' (n - 1) c')).setCell ⟨gw, i * 3 + 1, none⟩ (.int .i64 0)) (fun q => q = gw ∨ q = bl) from fun A' c' h1 h2 => by
    have en : n - 1 = l.length := by have := HNL.out; omega
    rw [en]
    exact ⟨⟨A', c', blk_set (blk_set HW7.out _ _) _ _, h1, h2⟩, (HLK.out.set (Ne.symm nwl) _).set (Ne.symm nwl) _, below_set (below_set (pw_below_grown HB6.out (some bl) (below_size HB6.out) HGR.out (fun q hq => by injection hq with hq; have := HBL.out; omega)) HGW.out) HGW.out, ((Kept.of_grown HGR.out HK6.out (fun q hq => .inl (.inr (by injection hq with hq; exact hq.symm)))).setCell (.inl (.inl rfl)) _).setCell (.inl (.inl rfl)) _⟩)
  by_cases hc1 : c = 1
  · subst hc1
    go_wp2
    go_end0
    have hC := Kd.C_drop (m := 1) (c := 1) (show Kd.C k26 w0 (some ad) (k :: l).length (k :: l) by rw [show (k :: l).length = n from HNL.out.symm]; exact HR.out) (by simp) (by rw [show (k :: l).length = n from HNL.out.symm]; exact HKC.out)
    rw [if_pos rfl] at hC
    exact ⟨rfl, HFIN.out _ _ (by have := HKC.out; have := HNL.out; omega) hC⟩
  · go_wp2
    go_end0
    have hC := Kd.C_drop (m := 1) (c := c) (show Kd.C k26 w0 (some ad) (k :: l).length (k :: l) by rw [show (k :: l).length = n from HNL.out.symm]; exact HR.out) (by simp) (by rw [show (k :: l).length = n from HNL.out.symm]; exact HKC.out)
    rw [if_neg hc1] at hC
    exact ⟨rfl, HFIN.out _ _ (by have := HKC.out; have := HNL.out; omega) hC⟩
end Go.Proofs.YtmgfkdnoclmbgaaDoor

namespace Go.Proofs.YtmgfkdnoclmbgaaDoor
open Go.RowKit Go.Maps Go.Proofs.YtmgfkdnoclmbgaaDoorW.PrintWords Go.Proofs.YtmgfkdnoclmbgaaDoorW.PrintLast Go.Proofs.YtmgfkdnoclmbgaaDoorW.PrintMore Go.Proofs.YtmgfkdnoclmbgaaDoor.P
set_option linter.unusedVariables false
set_option linter.unusedSimpArgs false
/-- what a look leaves -/
def Looked (w0 w w' : World) (gw i gt bp bl : Nat) (stripes room : Int) (keys keys' : List S26) (x : Int) (got : List Int) (V : Array Value) (kv gv : Value) : Prop :=
  ∃ (KA' : Option Addr) (kc' : Nat) (GA' : Option Addr) (gc' : Nat), w'.heap[gt]? = some (.cells (tabV room stripes bp bl (.slice KA' keys'.length kc')) 51 (0, 0)) ∧ w'.heap[gw]? = some (.cells ((V.setIfInBounds (i * 3 + 2) (.slice GA' (got ++ [x]).length gc')).setIfInBounds (i * 3 + 1) (.int .i64 2)) 46 (0, 0)) ∧ Places bp keys' w' ∧
    Kd.R k26 26 w' w0.heap.size (fun _ => True) (.slice KA' keys'.length kc') keys' ∧ Kd.R (Kd.int .i64) 3 w' w0.heap.size (fun _ => True) (.slice GA' (got ++ [x]).length gc') (got ++ [x]) ∧ Below w0.heap.size w0 w' ∧
    Kept w w' (fun q => q = gw ∨ q = gt ∨ q = bp ∨ some q = kv.ownBlock ∨ some q = gv.ownBlock) ∧
    ((Value.slice KA' keys'.length kc').ownBlock = kv.ownBlock ∨ ∃ b, (Value.slice KA' keys'.length kc').ownBlock = some b ∧ w.heap.size ≤ b) ∧ ((Value.slice GA' (got ++ [x]).length gc').ownBlock = gv.ownBlock ∨ ∃ b, (Value.slice GA' (got ++ [x]).length gc').ownBlock = some b ∧ w.heap.size ≤ b)
set_option maxHeartbeats 4000000 in
theorem next_look (w0 : World) (gw i gt bp bl : Nat) (stripes room : Int) (keys : List S26) (KA : Option Addr) (kc : Nat) (got : List Int) (GA : Option Addr) (gc : Nat) (A : Option Addr) (c : Nat) (k : S26) (l : List S26) (V : Array Value) (w : World) (hg : Gk k) (hgw : w0.heap.size ≤ gw) (hgt : w0.heap.size ≤ gt) (hbp : w0.heap.size ≤ bp) (hB : Below w0.heap.size w0 w)
    (hw : w.heap[gw]? = some (.cells V 46 (0, 0))) (hv0 : V[i * 3]? = some (.slice A (k :: l).length c)) (hv1 : V[i * 3 + 1]? = some (.int .i64 1)) (hv2 : V[i * 3 + 2]? = some (.slice GA got.length gc)) (ht : w.heap[gt]? = some (.cells (tabV room stripes bp bl (.slice KA keys.length kc)) 51 (0, 0)))
    (hp : Places bp keys w) (hkr : Kd.R k26 26 w w0.heap.size (fun _ => True) (.slice KA keys.length kc) keys) (hgr : Kd.R (Kd.int .i64) 3 w w0.heap.size (fun _ => True) (.slice GA got.length gc) got) (hkl : keys.length < 5000) (hgl : got.length < 5000) (hr : Kd.C k26 w A (k :: l).length (k :: l)) :
    Calls Tryd.prog 18 #[.pointer (some ⟨gw, i * 3, none⟩), .pointer (some ⟨gt, 0, none⟩)] w fun e w' => e = .returned (.tuple #[]) ∧ Looked w0 w w' gw i gt bp bl stripes room keys (indexS room keys k).2 (indexS room keys k).1 got V (.slice KA keys.length kc) (.slice GA got.length gc) := by
  obtain ⟨⟨x, keys2⟩, hix⟩ : ∃ p, indexS room keys k = p := ⟨_, rfl⟩
  have HIX := Aside0.mk hix
  rw [hix]
  dsimp only
  clear hix
  have hu46 := Tryd.underlying46
  have hu51 := Tryd.underlying51
  have hu26 := Tryd.underlying26
  have HP := Aside0.mk hp
  have HW := Aside0.mk hw
  have HT := Aside0.mk ht
  have HB := Aside0.mk hB
  have HKR := Aside0.mk hkr
  have HGR := Aside0.mk hgr
  have HG := Aside0.mk hg
  have hc0 : w.cell? ⟨gw, i * 3, none⟩ = some (.slice A (k :: l).length c) := (blk_cell hw _).trans hv0
  have ht2 := ht
  unfold tabV at ht2
  have ht1 : w.cell? ⟨gt, 1, none⟩ = some (.int .i64 stripes) := (blk_cell ht2 1).trans rfl
  obtain ⟨ad, hA, k0, k1, k2⟩ := at_T26 hr 0 (by omega) (by simp)
  subst hA
  have e0 : rd_T26 (k :: l) 0 = k := rfl
  rw [e0] at k0 k1 k2
  simp only [Int.toNat_zero, Nat.zero_mul] at k0 k1 k2
  have ea : ad.add 0 = ad := by cases ad; simp [Addr.add]
  rw [ea] at k0 k1 k2
  have p1 : (0 : Int) < (((k :: l).length : Nat) : Int) := by rw [List.length_cons]; omega
  obtain ⟨r, hrr⟩ : ∃ r, stripeS stripes k = r := ⟨_, rfl⟩
  obtain ⟨g, hk⟩ := (stripe_ev k stripes (by have := hg.1; omega)).rounds
  rw [hrr] at hk
  have HS := Aside0.mk hk
  have HCK := Aside0.mk (show ∀ w', Below w.drew.heap.size w.drew w' → w'.cell? ⟨gw, i * 3, none⟩ = some (.slice (some ad) (k :: l).length c) ∧ w'.cell? ⟨gt, 1, none⟩ = some (.int .i64 stripes) ∧ w'.cell? ad = some (.string k.f0) ∧ w'.cell? ⟨ad.block, ad.off + 1, none⟩ = some (.int .i64 k.f1) ∧ w'.cell? ⟨ad.block, ad.off + 2, none⟩ = some (.int .i64 k.f2) from fun w' hb =>
    ⟨(hb.cell (World.block_lt_of_cell? _ _ hc0)).trans hc0, (hb.cell (World.block_lt_of_cell? _ _ ht1)).trans ht1, (hb.cell (World.block_lt_of_cell? _ _ k0)).trans k0, (hb.cell (World.block_lt_of_cell? _ _ k1)).trans k1, (hb.cell (World.block_lt_of_cell? _ _ k2)).trans k2⟩)
  have HV0 := Aside0.mk hv0
  have HV1 := Aside0.mk hv1
  have HV2 := Aside0.mk hv2
  clear hrr hk e0 hv0 hv1 hv2 hp hw hkr hgr hB hr ht ht2 hg
  have p2 : 0 < (k :: l).length := by simp
  generalize (k :: l).length = n at *
  go_enter Tryd.func18, Tryd.ntmps18
  go_wp2
  go_region_held3 (fun w' => w'.cell? ⟨gw, i * 3, none⟩ = some (.slice (some ad) n c) ∧ w'.cell? ⟨gt, 1, none⟩ = some (.int .i64 stripes) ∧ w'.cell? ad = some (.string k.f0) ∧ w'.cell? ⟨ad.block, ad.off + 1, none⟩ = some (.int .i64 k.f1) ∧ w'.cell? ⟨ad.block, ad.off + 2, none⟩ = some (.int .i64 k.f2))
    (first | go_keep | assumption)
    (first | (go_at_call 24; refine (hash_Stripe.calls g k.f0 k.f1 k.f2 stripes r _ HS.out).mono ?_; rintro e w5 ⟨rfl, hb⟩; have hS5 := HCK.out w5 hb; have HB5 := Aside0.mk hb; clear hb))
  have hb5 : Below w.heap.size w w5 := Below.trans (below_drew1 (Below.refl _ _)) HB5.out
  have HB6 := Aside0.mk (below_step HB.out hb5)
  have HW6 := Aside0.mk (blk_below HW.out hb5)
  have HT6 := Aside0.mk (blk_below HT.out hb5)
  have HP6 := Aside0.mk (HP.out.below hb5)
  have HKR6 := Aside0.mk (Kd.R_below HKR.out hb5)
  have HGR6 := Aside0.mk (Kd.R_below HGR.out hb5)
  have HK6 := Aside0.mk (Kept.of_below hb5 (fun q => q = gw ∨ q = gt ∨ q = bp ∨ some q = (Value.slice KA keys.length kc).ownBlock ∨ some q = (Value.slice GA got.length gc).ownBlock))
  have k0 : w5.cell? ad = some (.string k.f0) := hS5.2.2.1
  have k1 : w5.cell? ⟨ad.block, ad.off + 1, none⟩ = some (.int .i64 k.f1) := hS5.2.2.2.1
  have k2 : w5.cell? ⟨ad.block, ad.off + 2, none⟩ = some (.int .i64 k.f2) := hS5.2.2.2.2
  clear hS5 HB5 hb5 hc0 ht1 HW HT HP HB HKR HGR
  have hc0 : w5.cell? ⟨gw, i * 3, none⟩ = some (.slice (some ad) n c) := (blk_cell HW6.out _).trans HV0.out
  have hc1 : w5.cell? ⟨gw, i * 3 + 1, none⟩ = some (.int .i64 1) := (blk_cell HW6.out _).trans HV1.out
  have hc2 : w5.cell? ⟨gw, i * 3 + 2, none⟩ = some (.slice GA got.length gc) := (blk_cell HW6.out _).trans HV2.out
  have HIDX := Aside0.mk (by
    have h := index_any w0 gt bp bl room stripes keys KA kc k HG.out w5.drew hgt hbp (below_drew1 HB6.out) (blk_drew HT6.out) (HP6.out.below (below_drew1 (Below.refl _ _))) (Kd.R_drew HKR6.out) hkl
    rw [HIX.out] at h
    unfold pv at h
    exact h)
  have nwt : gw ≠ gt := fun e => by
    have h1 := HW6.out
    rw [e, HT6.out] at h1
    simp at h1
  have nwp : gw ≠ bp := HP6.out.ne HW6.out
  have ntp : gt ≠ bp := HP6.out.ne HT6.out
  have HN1 := Aside0.mk (Kd.R_ne HKR6.out HW6.out (by decide))
  have HN2 := Aside0.mk (Kd.R_ne HGR6.out HW6.out (by decide))
  have HN3 := Aside0.mk (Kd.R_ne HGR6.out HT6.out (by decide))
  have HN4 := Aside0.mk (show some bp ≠ (Value.slice GA got.length gc).ownBlock from fun e => by
    obtain ⟨cs, hcs⟩ := Kd.R_typed HGR6.out bp e.symm
    exact HP6.out.ne hcs rfl)
  have HN5 := Aside0.mk (show ∀ q, (Value.slice KA keys.length kc).ownBlock = some q → some q ≠ (Value.slice GA got.length gc).ownBlock from fun q e e2 => by
    obtain ⟨cs, hcs⟩ := Kd.R_typed HKR6.out q e
    obtain ⟨cs2, hcs2⟩ := Kd.R_typed HGR6.out q e2.symm
    rw [hcs] at hcs2
    simp at hcs2)
  have HLT := Aside0.mk (Kd.R_lt HGR6.out)
  have HCW := Aside0.mk (show ∀ w6, Kept w5.drew w6 (fun q => q = gt ∨ q = bp ∨ some q = (Value.slice KA keys.length kc).ownBlock) → w6.heap[gw]? = some (.cells V 46 (0, 0)) ∧ Kd.R (Kd.int .i64) 3 w6 w0.heap.size (fun _ => True) (.slice GA got.length gc) got from fun w6 hk =>
    ⟨blk_kept (blk_drew HW6.out) hk (fun h => by rcases h with h | h | h; exact nwt h; exact nwp h; exact HN1.out h), Kd.R_mono (Kd.R_kept (Kd.R_tight rfl (Kd.R_drew HGR6.out)) hk (fun q hq h => by
      rcases h with h | h | h
      · exact HN3.out (by rw [← h]; exact hq)
      · exact HN4.out (by rw [← h]; exact hq)
      · exact HN5.out q h.symm hq)) (fun _ _ => trivial)⟩)
  have HFIN := Aside0.mk (show ∀ (KA2 : Option Addr) (kc2 : Nat) (w6 : World) (GA' : Option Addr) (gc' : Nat) (w20 : World), w6.heap[gt]? = some (.cells (tabV room stripes bp bl (.slice KA2 keys2.length kc2)) 51 (0, 0)) → Places bp keys2 w6 → Kd.R k26 26 w6 w0.heap.size (fun _ => True) (.slice KA2 keys2.length kc2) keys2 → Kept w5.drew w6 (fun q => q = gt ∨ q = bp ∨ some q = (Value.slice KA keys.length kc).ownBlock) →
      ((Value.slice KA2 keys2.length kc2).ownBlock = (Value.slice KA keys.length kc).ownBlock ∨ ∃ b, (Value.slice KA2 keys2.length kc2).ownBlock = some b ∧ w5.drew.heap.size ≤ b) → Kd.R (Kd.int .i64) 3 w20 w0.heap.size (fun _ => True) (.slice GA' (got ++ [x]).length gc') (got ++ [x]) → Below w0.heap.size w0 w20 → w6.grownBy w20 (Value.slice GA got.length gc).ownBlock →
      ((Value.slice GA' (got ++ [x]).length gc').ownBlock = (Value.slice GA got.length gc).ownBlock ∨ ∃ b, (Value.slice GA' (got ++ [x]).length gc').ownBlock = some b ∧ w6.heap.size ≤ b) → w20.heap[gw]? = some (.cells V 46 (0, 0)) →
      Looked w0 w ((w20.setCell ⟨gw, i * 3 + 2, none⟩ (.slice GA' (got.length + 1) gc')).setCell ⟨gw, i * 3 + 1, none⟩ (.int .i64 2)) gw i gt bp bl stripes room keys keys2 x got V (.slice KA keys.length kc) (.slice GA got.length gc) from fun KA2 kc2 w6 GA' gc' w20 ht6 hp6 hr6 hk6 hat6 ho hb hg hat hw20 => by
    have e : (got ++ [x]).length = got.length + 1 := by rw [List.length_append, List.length_singleton]
    have hr20 := Kd.R_grown2 hr6 rfl hg (fun q hq hq2 => by
      rcases hat6 with h | ⟨b, h1, h2⟩
      · exact HN5.out q (by rw [← h]; exact hq2.symm) hq.symm
      · have h3 := HLT.out q hq
        rw [h1] at hq2
        injection hq2 with hq2
        have h4 : w5.heap.size ≤ b := h2
        omega)
    refine ⟨KA2, kc2, GA', gc', blk_far (p := ⟨gw, i * 3 + 1, none⟩) (blk_far (p := ⟨gw, i * 3 + 2, none⟩) (blk_grown ht6 hg HN3.out) (Ne.symm nwt) _) (Ne.symm nwt) _, ?_, ((hp6.kept hg HN4.out).set (Ne.symm nwp) _).set (Ne.symm nwp) _, ?_, ?_, below_set (below_set hb hgw) hgw, ?_, ?_, ?_⟩
    · rw [e]
      exact blk_set (blk_set hw20 _ _) _ _
    · exact Kd.R_mono (Kd.R_far (p := ⟨gw, i * 3 + 1, none⟩) (Kd.R_far (p := ⟨gw, i * 3 + 2, none⟩) (Kd.R_types hr20 hw20 (by decide)) (fun _ hk => hk.2) _) (fun _ hk => hk.2) _) (fun _ _ => trivial)
    · exact Kd.R_mono (Kd.R_far (p := ⟨gw, i * 3 + 1, none⟩) (Kd.R_far (p := ⟨gw, i * 3 + 2, none⟩) (Kd.R_types ho hw20 (by decide)) (fun _ hk => hk.2) _) (fun _ hk => hk.2) _) (fun _ _ => trivial)
    · refine Kept.setCell (Kept.setCell (Kept.of_grown hg (Kept.then_ HK6.out.drew hk6 (fun q h => .inl ?_)) (fun q hq => .inl (.inr (.inr (.inr (.inr hq.symm)))))) (.inl (.inl rfl)) _) (.inl (.inl rfl)) _
      rcases h with h | h | h
      · exact .inr (.inl h)
      · exact .inr (.inr (.inl h))
      · exact .inr (.inr (.inr (.inl h)))
    · rcases hat6 with h | ⟨b, h1, h2⟩
      · exact .inl h
      · exact .inr ⟨b, h1, Nat.le_trans HK6.out.1 h2⟩
    · rcases hat with h | ⟨b, h1, h2⟩
      · exact .inl h
      · exact .inr ⟨b, h1, Nat.le_trans HK6.out.1 (Nat.le_trans hk6.1 h2)⟩)
  go_upto_region 5 with (fail)
  go_region_law
    (first
      | (go_simp; go_at_call 29; refine HIDX.out.mono ?_; rintro e w6 ⟨rfl, KA2, kc2, ht6, hp6, hr6, hb6, hk6, hat6⟩; have HX6 := HCW.out w6 hk6; have hc2 : w6.cell? ⟨gw, i * 3 + 2, none⟩ = some (.slice GA got.length gc) := (blk_cell HX6.1 _).trans HV2.out; have hc2a : (w6.alloc (.cells #[.int .i64 x] 3 (0, 0))).cell? ⟨gw, i * 3 + 2, none⟩ = some (.slice GA got.length gc) := (blk_cell (blk_alloc HX6.1 _) _).trans HV2.out; have HY6 := Aside0.mk HX6; have HT7 := Aside0.mk ht6; have HP7 := Aside0.mk hp6; have HR7 := Aside0.mk hr6; have HB7 := Aside0.mk hb6; have HK7 := Aside0.mk hk6; have HA7 := Aside0.mk hat6; clear HX6 ht6 hp6 hr6 hb6 hk6 hat6)
      | (refine R_append_w (Kd.int .i64) (w0 := w0) (W := w6) w0.heap.size rfl (.tmp 33) (.tmp 42) 23 3 (.int .i64 0) 8 rfl Tryd.underlying23 info3 rfl (by decide) (by omega) (.slice GA got.length gc) got x [.int .i64 x] (fun _ => True) (fun _ => False) rfl (by first | (go_simp; done) | (go_simp; rfl)) ?aP (fun _ hk => hk.elim) ?aF ?aO ?aB ?aS ?aL ?_; (case aP => exact rfl); (case aB => exact HB7.out); (case aF => exact (fun _ _ => trivial)); (case aO => exact HY6.out.2); (case aS => exact below_size HB7.out); (case aL => omega); intro v20 w20 ho hb hg hat; obtain ⟨GA', gc', rfl⟩ := Kd.R_slice ho; have hb20 := blk_grown HY6.out.1 hg HN2.out; have f20 := blk_frozen hb20 (i * 3 + 2); have c20 : w20.cell? ⟨gw, i * 3 + 2, none⟩ = some (.slice GA got.length gc) := (blk_cell hb20 _).trans HV2.out; have HW8 := Aside0.mk hb20; have HO := Aside0.mk ho; have HB8 := Aside0.mk hb; have HG8 := Aside0.mk hg; have HA8 := Aside0.mk hat; clear hb20 ho hb hg hat))
  all_goals
    have hb21 := blk_set HW8.out (i * 3 + 2) (.slice GA' (got.length + 1) gc')
    have c21 : (w20.setCell ⟨gw, i * 3 + 2, none⟩ (.slice GA' (got.length + 1) gc')).cell? ⟨gw, i * 3 + 1, none⟩ = some (.int .i64 1) := (blk_cell hb21 _).trans (by rw [Array.getElem?_setIfInBounds_ne (by omega)]; exact HV1.out)
    have f21 := blk_frozen hb21 (i * 3 + 1)
    clear hb21
    go_wp2
    go_end0
    exact ⟨rfl, HFIN.out _ _ _ _ _ _ HT7.out HP7.out HR7.out HK7.out HA7.out HO.out HB8.out HG8.out HA8.out HW8.out⟩
end Go.Proofs.YtmgfkdnoclmbgaaDoor
