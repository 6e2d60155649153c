/-
Bits of whole numbers below 2^64, without Go: the list of the bits that are set, how many there are, the lowest, and what is left without it. No condition beside the size.
-/
import Derived.Lib.TrailingZeros
import Derived.Laws.Bits64b
namespace Go.Proofs.YtmaiicpaalbcfaaDoor.Bits
theorem and_split {a b r s : Nat} (c : Nat) (hr : r < 2 ^ c) (hs : s < 2 ^ c) : (2 ^ c * a + r) &&& (2 ^ c * b + s) = 2 ^ c * (a &&& b) + (r &&& s) := by
  apply Nat.eq_of_testBit_eq
  intro i
  have hrs : r &&& s < 2 ^ c := Nat.lt_of_le_of_lt Nat.and_le_left hr
  rw [Nat.testBit_and, Nat.testBit_two_pow_mul_add _ hr, Nat.testBit_two_pow_mul_add _ hs, Nat.testBit_two_pow_mul_add _ hrs]
  split
  · rw [Nat.testBit_and]
  · rw [Nat.testBit_and]
/-! ### numbers as lists of digits -/
def val (k : Nat) : List Nat → Nat
  | [] => 0
  | a :: l => 2 ^ k * val k l + a
theorem digit_sum (k : Nat) : ∀ L : List (Nat × Nat), (∀ p ∈ L, p.1 < 2 ^ k ∧ p.2 < 2 ^ k) →
    (val (2 * k) (L.map fun p => p.1 + 2 ^ k * p.2) &&& val (2 * k) (L.map fun _ => 2 ^ k - 1)) = val (2 * k) (L.map (·.1)) ∧
    (val (2 * k) (L.map fun p => p.1 + 2 ^ k * p.2) / 2 ^ k &&& val (2 * k) (L.map fun _ => 2 ^ k - 1)) = val (2 * k) (L.map (·.2))
  | [], _ => by simp [val]
  | (a, b) :: L, h => by
    obtain ⟨ha, hb⟩ := h (a, b) (by simp)
    simp only at ha hb
    obtain ⟨i1, i2⟩ := digit_sum k L (fun p hp => h p (List.mem_cons_of_mem _ hp))
    have e2 : 2 ^ (2 * k) = 2 ^ k * 2 ^ k := by rw [Nat.two_mul, Nat.pow_add]
    have hp : 0 < 2 ^ k := Nat.two_pow_pos k
    have hab : a + 2 ^ k * b < 2 ^ (2 * k) := by
      rw [e2]
      calc a + 2 ^ k * b < 2 ^ k + 2 ^ k * b := by omega
        _ = 2 ^ k * (b + 1) := by rw [Nat.mul_add]; omega
        _ ≤ 2 ^ k * 2 ^ k := Nat.mul_le_mul_left _ hb
    have hm : 2 ^ k - 1 < 2 ^ (2 * k) := by
      rw [e2]
      have : 2 ^ k ≤ 2 ^ k * 2 ^ k := Nat.le_mul_of_pos_left _ hp
      omega
    have low : ∀ r q : Nat, r < 2 ^ k → (r + 2 ^ k * q) &&& (2 ^ k - 1) = r := by
      intro r q hr
      rw [Nat.and_two_pow_sub_one_eq_mod, Nat.add_mul_mod_self_left, Nat.mod_eq_of_lt hr]
    simp only [List.map_cons, val]
    generalize val (2 * k) (L.map fun p => p.1 + 2 ^ k * p.2) = X at *
    generalize val (2 * k) (L.map fun _ => 2 ^ k - 1) = M at *
    generalize val (2 * k) (L.map (·.1)) = V1 at *
    generalize val (2 * k) (L.map (·.2)) = V2 at *
    constructor
    · rw [and_split (2 * k) hab hm, i1, low a b ha]
    · have e3 : (2 ^ (2 * k) * X + (a + 2 ^ k * b)) / 2 ^ k = 2 ^ (2 * k) * (X / 2 ^ k) + (b + 2 ^ k * (X % 2 ^ k)) := by
        have h1 : 2 ^ (2 * k) * X + (a + 2 ^ k * b) = a + 2 ^ k * (2 ^ k * X + b) := by rw [e2, Nat.mul_assoc, Nat.mul_add]; omega
        rw [h1, Nat.add_mul_div_left _ _ hp, Nat.div_eq_of_lt ha, Nat.zero_add, e2, Nat.mul_assoc]
        have h2 := Nat.div_add_mod X (2 ^ k)
        calc 2 ^ k * X + b = 2 ^ k * (2 ^ k * (X / 2 ^ k) + X % 2 ^ k) + b := by rw [h2]
          _ = 2 ^ k * (2 ^ k * (X / 2 ^ k)) + (b + 2 ^ k * (X % 2 ^ k)) := by rw [Nat.mul_add]; omega
      have hxb : b + 2 ^ k * (X % 2 ^ k) < 2 ^ (2 * k) := by
        have h1 := Nat.mod_lt X hp
        rw [e2]
        calc b + 2 ^ k * (X % 2 ^ k) < 2 ^ k + 2 ^ k * (X % 2 ^ k) := by omega
          _ = 2 ^ k * (X % 2 ^ k + 1) := by rw [Nat.mul_add]; omega
          _ ≤ 2 ^ k * 2 ^ k := Nat.mul_le_mul_left _ h1
      rw [e3, and_split (2 * k) hxb hm, i2, low b _ hb]
theorem val_add (k : Nat) : ∀ L : List (Nat × Nat), val k (L.map (·.1)) + val k (L.map (·.2)) = val k (L.map fun p => p.1 + p.2)
  | [] => rfl
  | p :: L => by
    have := val_add k L
    simp only [List.map_cons, val]
    rw [← this, Nat.mul_add]
    omega
/-- two digits in one -/
def pr : List Nat → List (Nat × Nat)
  | a :: b :: l => (a, b) :: pr l
  | _ => []
theorem pr_length : ∀ (n : Nat) (l : List Nat), l.length = 2 * n → (pr l).length = n
  | 0, l, h => by
    obtain rfl : l = [] := List.eq_nil_of_length_eq_zero (by omega)
    rfl
  | n + 1, a :: b :: l, h => by
    simp only [List.length_cons] at h
    simp only [pr, List.length_cons, pr_length n l (by omega)]
  | n + 1, [a], h => by simp at h; omega
  | n + 1, [], h => by simp at h
theorem pr_val (k : Nat) : ∀ (n : Nat) (l : List Nat), l.length = 2 * n → val k l = val (2 * k) ((pr l).map fun p => p.1 + 2 ^ k * p.2)
  | 0, l, h => by
    obtain rfl : l = [] := List.eq_nil_of_length_eq_zero (by omega)
    rfl
  | n + 1, a :: b :: l, h => by
    simp only [List.length_cons] at h
    simp only [pr, List.map_cons, val, ← pr_val k n l (by omega)]
    rw [Nat.two_mul k, Nat.pow_add, Nat.mul_add, ← Nat.mul_assoc]
    omega
  | n + 1, [a], h => by simp at h; omega
  | n + 1, [], h => by simp at h
theorem pr_sum : ∀ (n : Nat) (l : List Nat), l.length = 2 * n → ((pr l).map fun p => p.1 + p.2).sum = l.sum
  | 0, l, h => by
    obtain rfl : l = [] := List.eq_nil_of_length_eq_zero (by omega)
    rfl
  | n + 1, a :: b :: l, h => by
    simp only [List.length_cons] at h
    simp only [pr, List.map_cons, List.sum_cons, pr_sum n l (by omega)]
    omega
  | n + 1, [a], h => by simp at h; omega
  | n + 1, [], h => by simp at h
theorem pr_mem : ∀ (l : List Nat) (p : Nat × Nat), p ∈ pr l → p.1 ∈ l ∧ p.2 ∈ l
  | [], p, h => by simp [pr] at h
  | [a], p, h => by simp [pr] at h
  | a :: b :: l, p, h => by
    simp only [pr, List.mem_cons] at h
    rcases h with rfl | h
    · simp
    · have := pr_mem l p h
      exact ⟨by simp [this.1], by simp [this.2]⟩
/-- one round: the digits' sums, two by two -/
def half (l : List Nat) : List Nat := (pr l).map fun p => p.1 + p.2
theorem half_step (k n m : Nat) (l : List Nat) (hl : l.length = 2 * n) (h : ∀ a ∈ l, a < 2 ^ k) (hm : val (2 * k) (List.replicate n (2 ^ k - 1)) = m) : (val k l / 2 ^ k &&& m) + (val k l &&& m) = val (2 * k) (half l) ∧ (half l).length = n ∧ (half l).sum = l.sum := by
  have hp := pr_length n l hl
  obtain ⟨h1, h2⟩ := digit_sum k (pr l) (fun p hp => ⟨h _ (pr_mem l p hp).1, h _ (pr_mem l p hp).2⟩)
  have e : (pr l).map (fun _ => 2 ^ k - 1) = List.replicate n (2 ^ k - 1) := by rw [List.map_const', hp]
  rw [e, hm, ← pr_val k n l hl] at h1 h2
  refine ⟨?_, by rw [half, List.length_map, hp], pr_sum n l hl⟩
  rw [h1, h2, Nat.add_comm, val_add]
  rfl
theorem half_le {l : List Nat} {q : Nat} (h : ∀ a ∈ l, a ≤ q) : ∀ a ∈ half l, a ≤ 2 * q := by
  intro a ha
  simp only [half, List.mem_map] at ha
  obtain ⟨p, hp, rfl⟩ := ha
  have h1 := h _ (pr_mem l p hp).1
  have h2 := h _ (pr_mem l p hp).2
  omega
/-! ### each digit and the next one -/
def sums : List Nat → List Nat
  | a :: b :: l => (a + b) :: sums (b :: l)
  | l => l
theorem sums_length : ∀ l : List Nat, (sums l).length = l.length
  | [] => rfl
  | [_] => rfl
  | a :: b :: l => by rw [sums, List.length_cons, sums_length (b :: l)]; rfl
theorem sums_le {q : Nat} : ∀ l : List Nat, (∀ a ∈ l, a ≤ q) → ∀ a ∈ sums l, a ≤ 2 * q
  | [], _, a, ha => by simp [sums] at ha
  | [b], h, a, ha => by
    simp only [sums, List.mem_singleton] at ha
    have := h b (by simp)
    omega
  | b :: c :: l, h, a, ha => by
    rw [sums, List.mem_cons] at ha
    rcases ha with rfl | ha
    · have h1 := h b (by simp)
      have h2 := h c (by simp)
      omega
    · exact sums_le (c :: l) (fun x hx => h x (List.mem_cons_of_mem _ hx)) a ha
theorem val_div (k a : Nat) (l : List Nat) (ha : a < 2 ^ k) : val k (a :: l) / 2 ^ k = val k l := by
  rw [val, Nat.add_comm, Nat.add_mul_div_left _ _ (Nat.two_pow_pos k), Nat.div_eq_of_lt ha, Nat.zero_add]
theorem sums_val (k : Nat) : ∀ l : List Nat, (∀ a ∈ l, a < 2 ^ k) → val k l / 2 ^ k + val k l = val k (sums l)
  | [], _ => by simp [val, sums]
  | [a], h => by
    rw [val_div k a [] (h a (by simp))]
    simp [val, sums]
  | a :: b :: l, h => by
    have ih := sums_val k (b :: l) (fun x hx => h x (List.mem_cons_of_mem _ hx))
    rw [val_div k b l (h b (by simp))] at ih
    rw [val_div k a (b :: l) (h a (by simp)), sums]
    rw [show val k ((a + b) :: sums (b :: l)) = 2 ^ k * val k (sums (b :: l)) + (a + b) from rfl, ← ih, Nat.mul_add]
    rw [show val k (a :: b :: l) = 2 ^ k * val k (b :: l) + a from rfl, show val k (b :: l) = 2 ^ k * val k l + b from rfl]
    omega
theorem pr_sums : ∀ (n : Nat) (l : List Nat), l.length = 2 * n → (pr (sums l)).map (·.1) = half l
  | 0, l, h => by
    obtain rfl : l = [] := List.eq_nil_of_length_eq_zero (by omega)
    rfl
  | n + 1, [a, b], h => rfl
  | n + 1, a :: b :: c :: l, h => by
    simp only [List.length_cons] at h
    have ih := pr_sums n (c :: l) (by simp only [List.length_cons]; omega)
    match l, ih with
    | d :: l, ih =>
      simp only [sums, pr, List.map_cons, half] at ih ⊢
      rw [ih]
    | [], ih => simp at h; omega
  | n + 1, [a], h => by simp at h; omega
  | n + 1, [], h => by simp at h
theorem quarter (l : List Nat) (n m : Nat) (hl : l.length = 2 * n) (h : ∀ a ∈ l, a ≤ 4) (hm : val 8 (List.replicate n 15) = m) : ((val 4 l / 16 + val 4 l) &&& m) = val 8 (half l) := by
  have hs := sums_le l h
  have hsl := sums_length l
  have h1 := sums_val 4 l (fun a ha => by have := h a ha; omega)
  rw [show (2 : Nat) ^ 4 = 16 from rfl] at h1
  rw [h1, pr_val 4 n (sums l) (by omega)]
  obtain ⟨h2, _⟩ := digit_sum 4 (pr (sums l)) (fun p hp => by
    have a1 := hs _ (pr_mem _ p hp).1
    have a2 := hs _ (pr_mem _ p hp).2
    exact ⟨by omega, by omega⟩)
  have e : (pr (sums l)).map (fun _ => 2 ^ 4 - 1) = List.replicate n 15 := by rw [List.map_const', pr_length n _ (by omega)]
  rw [e, show 2 * 4 = 8 from rfl, hm, pr_sums n l hl] at h2
  exact h2
/-! ### how many bits are set -/
def bl (n x : Nat) : List Nat := (List.range n).map fun i => x / 2 ^ i % 2
theorem bl_succ (n x : Nat) : bl (n + 1) x = x % 2 :: bl n (x / 2) := by
  unfold bl
  rw [List.range_succ_eq_map, List.map_cons, List.map_map]
  congr 1
  · simp
  · apply List.map_congr_left
    intro i _
    simp only [Function.comp, Nat.succ_eq_add_one]
    rw [Nat.pow_succ, Nat.mul_comm, ← Nat.div_div_eq_div_mul]
theorem bl_val : ∀ n x : Nat, x < 2 ^ n → val 1 (bl n x) = x
  | 0, x, h => by
    have : x = 0 := by simpa using h
    subst this
    rfl
  | n + 1, x, h => by
    rw [bl_succ, val, bl_val n (x / 2) (by rw [Nat.pow_succ] at h; omega)]
    omega
theorem bl_le (n x : Nat) : ∀ a ∈ bl n x, a ≤ 1 := by
  intro a ha
  simp only [bl, List.mem_map] at ha
  obtain ⟨i, _, rfl⟩ := ha
  omega
def swar (x : Nat) : Nat :=
  let y := (x / 2 &&& 6148914691236517205) + (x &&& 6148914691236517205)
  let z := (y / 4 &&& 3689348814741910323) + (y &&& 3689348814741910323)
  let u := (z / 16 + z) &&& 1085102592571150095
  let v := u + u / 256
  let w := v + v / 65536
  (w + w / 4294967296) % 128
theorem val_lt (k : Nat) : ∀ l : List Nat, (∀ a ∈ l, a < 2 ^ k) → val k l < 2 ^ (k * l.length)
  | [], _ => by simp [val]
  | a :: l, h => by
    have ih := val_lt k l (fun x hx => h x (List.mem_cons_of_mem _ hx))
    have ha := h a (by simp)
    rw [val, List.length_cons, Nat.mul_add, Nat.mul_one, Nat.pow_add, Nat.mul_comm (2 ^ (k * l.length))]
    calc 2 ^ k * val k l + a < 2 ^ k * val k l + 2 ^ k := by omega
      _ = 2 ^ k * (val k l + 1) := by rw [Nat.mul_add]; omega
      _ ≤ 2 ^ k * 2 ^ (k * l.length) := Nat.mul_le_mul_left _ ih
theorem eight_v (a b c d e f g i : Nat) (ha : a ≤ 8) : val 8 [a, b, c, d, e, f, g, i] + val 8 [a, b, c, d, e, f, g, i] / 256 = val 8 [a + b, b + c, c + d, d + e, e + f, f + g, g + i, i] := by
  rw [show (256 : Nat) = 2 ^ 8 from rfl, val_div 8 a _ (by omega)]
  simp only [val]
  omega
theorem eight_w (a b c d e f g i : Nat) (ha : a ≤ 16) (hb : b ≤ 16) : val 8 [a, b, c, d, e, f, g, i] + val 8 [a, b, c, d, e, f, g, i] / 65536 = val 8 [a + c, b + d, c + e, d + f, e + g, f + i, g, i] := by
  rw [show (65536 : Nat) = 2 ^ 8 * 2 ^ 8 from rfl, ← Nat.div_div_eq_div_mul, val_div 8 a _ (by omega), val_div 8 b _ (by omega)]
  simp only [val]
  omega
theorem eight_s (a b c d e f g i : Nat) (ha : a ≤ 32) (hb : b ≤ 32) (hc : c ≤ 32) (hd : d ≤ 32) : val 8 [a, b, c, d, e, f, g, i] + val 8 [a, b, c, d, e, f, g, i] / 4294967296 = val 8 [a + e, b + f, c + g, d + i, e, f, g, i] := by
  rw [show (4294967296 : Nat) = 2 ^ 8 * 2 ^ 8 * 2 ^ 8 * 2 ^ 8 from rfl, ← Nat.div_div_eq_div_mul, ← Nat.div_div_eq_div_mul, ← Nat.div_div_eq_div_mul, val_div 8 a _ (by omega), val_div 8 b _ (by omega), val_div 8 c _ (by omega), val_div 8 d _ (by omega)]
  simp only [val]
  omega
theorem all8 {a b c d e f g i q : Nat} (h : a < q ∧ b < q ∧ c < q ∧ d < q ∧ e < q ∧ f < q ∧ g < q ∧ i < q) : ∀ x ∈ [a, b, c, d, e, f, g, i], x < q := by
  intro x hx
  simp only [List.mem_cons, List.not_mem_nil, or_false] at hx
  obtain ⟨h0, h1, h2, h3, h4, h5, h6, h7⟩ := h
  rcases hx with rfl | rfl | rfl | rfl | rfl | rfl | rfl | rfl <;> assumption
theorem val8_lt (l : List Nat) (hl : l.length = 8) (h : ∀ a ∈ l, a < 256) : val 8 l < 18446744073709551616 := by
  have h1 := val_lt 8 l (fun a ha => h a ha)
  rw [hl] at h1
  exact Nat.lt_of_lt_of_eq h1 (by decide)
theorem eight (h : List Nat) (hl : h.length = 8) (hb : ∀ a ∈ h, a ≤ 8) :
    val 8 h < 18446744073709551616 ∧ val 8 h + val 8 h / 256 < 18446744073709551616 ∧ (val 8 h + val 8 h / 256) + (val 8 h + val 8 h / 256) / 65536 < 18446744073709551616 ∧
    ((val 8 h + val 8 h / 256) + (val 8 h + val 8 h / 256) / 65536) + ((val 8 h + val 8 h / 256) + (val 8 h + val 8 h / 256) / 65536) / 4294967296 < 18446744073709551616 ∧
    (((val 8 h + val 8 h / 256) + (val 8 h + val 8 h / 256) / 65536) + ((val 8 h + val 8 h / 256) + (val 8 h + val 8 h / 256) / 65536) / 4294967296) % 128 = h.sum := by
  match h, hl with
  | [a, b, c, d, e, f, g, i], _ =>
    have h0 := hb a (by simp)
    have h1 := hb b (by simp)
    have h2 := hb c (by simp)
    have h3 := hb d (by simp)
    have h4 := hb e (by simp)
    have h5 := hb f (by simp)
    have h6 := hb g (by simp)
    have h7 := hb i (by simp)
    clear hb
    rw [eight_v a b c d e f g i h0, eight_w _ _ _ _ _ _ _ _ (by omega) (by omega), eight_s _ _ _ _ _ _ _ _ (by omega) (by omega) (by omega) (by omega)]
    refine ⟨val8_lt _ rfl (all8 (by omega)), val8_lt _ rfl (all8 (by omega)), val8_lt _ rfl (all8 (by omega)), val8_lt _ rfl (all8 (by omega)), ?_⟩
    have hv : ∀ (x : Nat) (l : List Nat), val 8 (x :: l) % 128 = x % 128 := fun x l => by
      rw [val]
      omega
    rw [hv]
    simp only [List.sum_cons, List.sum_nil]
    omega
theorem swar_sum (x : Nat) (hx : x < 2 ^ 64) : swar x = (bl 64 x).sum := by
  have l0 : (bl 64 x).length = 64 := by simp [bl]
  have v0 := bl_val 64 x hx
  obtain ⟨s1, n1, m1⟩ := half_step 1 32 6148914691236517205 (bl 64 x) l0 (fun a ha => by have := bl_le 64 x a ha; omega) (by rfl)
  have b1 := half_le (bl_le 64 x)
  rw [v0] at s1
  obtain ⟨s2, n2, m2⟩ := half_step 2 16 3689348814741910323 (half (bl 64 x)) n1 (fun a ha => by have := b1 a ha; omega) (by rfl)
  have b2 := half_le b1
  have s3 := quarter (half (half (bl 64 x))) 8 1085102592571150095 n2 (fun a ha => by have := b2 a ha; omega) (by rfl)
  have n3 : (half (half (half (bl 64 x)))).length = 8 := by rw [half, List.length_map]; exact pr_length 8 _ n2
  have m3 : (half (half (half (bl 64 x)))).sum = (half (half (bl 64 x))).sum := pr_sum 8 _ n2
  have b3 := half_le b2
  have he := (eight _ n3 (fun a ha => by have := b3 a ha; omega)).2.2.2.2
  unfold swar
  simp only
  rw [show (x / 2 &&& 6148914691236517205) + (x &&& 6148914691236517205) = val 2 (half (bl 64 x)) from s1]
  rw [show (val 2 (half (bl 64 x)) / 4 &&& 3689348814741910323) + (val 2 (half (bl 64 x)) &&& 3689348814741910323) = val 4 (half (half (bl 64 x))) from s2]
  rw [s3, he, m3, m2, m1]
/-! ### the bits that are set, in order -/
def bitsL (x : Nat) : List Nat := (List.range 64).filter fun i => x.testBit i
theorem sum_filter {f : Nat → Nat} {q : Nat → Bool} : ∀ l : List Nat, (∀ i ∈ l, f i = if q i = true then 1 else 0) → (l.map f).sum = (l.filter q).length
  | [], _ => rfl
  | a :: l, h => by
    have ih := sum_filter l (fun i hi => h i (List.mem_cons_of_mem _ hi))
    have ha := h a (by simp)
    rw [List.map_cons, List.sum_cons, ih, ha]
    by_cases hq : q a = true
    · rw [if_pos hq, List.filter_cons_of_pos hq, List.length_cons]; omega
    · rw [if_neg hq, List.filter_cons_of_neg hq]; omega
theorem bl_sum (x : Nat) : (bl 64 x).sum = (bitsL x).length := by
  refine sum_filter _ (fun i _ => ?_)
  rw [Nat.testBit_eq_decide_div_mod_eq]
  by_cases h : x / 2 ^ i % 2 = 1
  · rw [if_pos (by simpa using h), h]
  · rw [if_neg (by simpa using h)]; omega
theorem swar_bits (x : Nat) (hx : x < 2 ^ 64) : swar x = (bitsL x).length := (swar_sum x hx).trans (bl_sum x)
theorem clear_low (c m : Nat) : (2 ^ c * (2 * m + 1)) &&& (2 ^ c * (2 * m + 1) - 1) = 2 ^ c * (2 * m) := by
  have hp := Nat.two_pow_pos c
  have e : 2 ^ c * (2 * m + 1) - 1 = 2 ^ c * (2 * m) + (2 ^ c - 1) := by rw [Nat.mul_add, Nat.mul_one]; omega
  have h1 := and_split (a := 2 * m + 1) (b := 2 * m) c (r := 0) (s := 2 ^ c - 1) hp (by omega)
  have h2 := and_split (a := m) (b := m) 1 (r := 1) (s := 0) (by omega) (by omega)
  rw [Nat.add_zero] at h1
  rw [e, h1]
  simp only [Nat.pow_one, Nat.add_zero, Nat.and_self, Nat.and_zero] at h2
  rw [h2, Nat.zero_and, Nat.add_zero]
theorem ctz_form (x : Nat) (h0 : x ≠ 0) (hx : x < 2 ^ 64) : ∃ m, x = 2 ^ Lib.ctz 64 x * (2 * m + 1) ∧ Lib.ctz 64 x < 64 := by
  unfold Lib.ctz
  rw [if_neg h0]
  exact Lib.ctzFrom_spec 64 x (by omega) hx
theorem range_split (c : Nat) (hc : c < 64) : List.range 64 = List.range c ++ (c :: (List.range (63 - c)).map fun i => c + 1 + i) := by
  have h1 : (64 : Nat) = c + (63 - c + 1) := by omega
  have h2 := List.range_add (n := c) (m := 63 - c + 1)
  rw [← h1] at h2
  rw [h2, List.range_succ_eq_map, List.map_cons, List.map_map]
  congr 1
  congr 1
  apply List.map_congr_left
  intro i _
  simp only [Function.comp]
  omega
theorem bits_cons (x : Nat) (h0 : x ≠ 0) (hx : x < 2 ^ 64) : bitsL x = Lib.ctz 64 x :: bitsL (x &&& (x - 1)) := by
  obtain ⟨m, hm, hc⟩ := ctz_form x h0 hx
  generalize Lib.ctz 64 x = c at *
  subst hm
  rw [clear_low]
  have t1 : ∀ i, (2 ^ c * (2 * m + 1)).testBit i = (decide (i ≥ c) && (2 * m + 1).testBit (i - c)) := fun i => Nat.testBit_two_pow_mul
  have t2 : ∀ i, (2 ^ c * (2 * m)).testBit i = (decide (i ≥ c) && (2 * m).testBit (i - c)) := fun i => Nat.testBit_two_pow_mul
  unfold bitsL
  rw [range_split c hc, List.filter_append, List.filter_append]
  have e1 : (List.range c).filter (fun i => (2 ^ c * (2 * m + 1)).testBit i) = [] := by
    rw [List.filter_eq_nil_iff]
    intro i hi
    rw [t1]
    have := List.mem_range.1 hi
    simp
    omega
  have e2 : (List.range c).filter (fun i => (2 ^ c * (2 * m)).testBit i) = [] := by
    rw [List.filter_eq_nil_iff]
    intro i hi
    rw [t2]
    have := List.mem_range.1 hi
    simp
    omega
  rw [e1, e2, List.nil_append, List.nil_append]
  rw [List.filter_cons_of_pos (by rw [t1]; simp), List.filter_cons_of_neg (by rw [t2]; simp)]
  congr 1
  apply List.filter_congr
  intro i hi
  obtain ⟨j, _, rfl⟩ := List.mem_map.1 hi
  rw [t1, t2, show c + 1 + j - c = j + 1 by omega, Nat.testBit_add_one, Nat.testBit_add_one]
  congr 2
  omega
theorem bits_zero : bitsL 0 = [] := by
  unfold bitsL
  rw [List.filter_eq_nil_iff]
  intro i _
  simp
theorem bits_lt (x i : Nat) (h : i ∈ bitsL x) : i < 64 := List.mem_range.1 (List.mem_filter.1 h).1
theorem and_lt (x : Nat) (hx : x < 2 ^ 64) : x &&& (x - 1) < 2 ^ 64 := Nat.lt_of_le_of_lt Nat.and_le_left hx
/-! ### words in line -/
def flat (off : Nat) : List Nat → List Nat
  | [] => []
  | w :: ws => (bitsL w).map (fun i => 64 * off + i) ++ flat (off + 1) ws
/-- who is enabled, in order -/
def idx (en : List Bool) : List Nat := (List.range en.length).filter fun i => en.getD i false
def IsW (en : List Bool) (i : Nat) (W : List Nat) : Prop := W.length = en.length / 64 + 1 ∧ (∀ w ∈ W, w < 2 ^ 64) ∧ ∀ j b, j < W.length → b < 64 → (W.getD j 0).testBit b = (decide (64 * j + b < i) && en.getD (64 * j + b) false)
theorem isW_zero (en : List Bool) : IsW en 0 (List.replicate (en.length / 64 + 1) 0) := by
  refine ⟨by simp, fun w hw => by rw [(List.mem_replicate.1 hw).2]; omega, fun j b hj hb => ?_⟩
  rw [List.getD_eq_getElem?_getD, List.getElem?_replicate]
  split <;> simp
theorem isW_skip {en : List Bool} {i : Nat} {W : List Nat} (h : IsW en i W) (he : en.getD i false = false) : IsW en (i + 1) W := by
  refine ⟨h.1, h.2.1, fun j b hj hb => ?_⟩
  rw [h.2.2 j b hj hb]
  by_cases e : 64 * j + b = i
  · rw [e, he]; simp
  · congr 1
    rw [decide_eq_decide]
    omega
theorem isW_put {en : List Bool} {i : Nat} {W : List Nat} (h : IsW en i W) (hi : i < en.length) (he : en.getD i false = true) : IsW en (i + 1) (W.set (i / 64) (W.getD (i / 64) 0 ||| 2 ^ (i % 64))) := by
  have hl := h.1
  have hj : i / 64 < W.length := by omega
  have hw : W.getD (i / 64) 0 < 2 ^ 64 := by
    rw [List.getD_eq_getElem?_getD, List.getElem?_eq_getElem hj]
    exact h.2.1 _ (List.getElem_mem hj)
  refine ⟨by rw [List.length_set]; exact hl, fun w hw' => ?_, fun j b hj' hb => ?_⟩
  · rcases List.mem_or_eq_of_mem_set hw' with hw' | rfl
    · exact h.2.1 w hw'
    · exact Nat.or_lt_two_pow hw (Nat.pow_lt_pow_right (by omega) (by omega))
  · rw [List.length_set] at hj'
    have hd := h.2.2 j b hj' hb
    by_cases e : i / 64 = j
    · subst e
      rw [show (W.set (i / 64) (W.getD (i / 64) 0 ||| 2 ^ (i % 64))).getD (i / 64) 0 = W.getD (i / 64) 0 ||| 2 ^ (i % 64) by simp [List.getD_eq_getElem?_getD, hj']]
      rw [Nat.testBit_or, hd, Nat.testBit_two_pow]
      by_cases f : i % 64 = b
      · have : 64 * (i / 64) + b = i := by omega
        rw [this, he]
        simp [f]
      · rw [show decide (i % 64 = b) = false by simpa using f, Bool.or_false]
        congr 1
        rw [decide_eq_decide]
        omega
    · rw [show (W.set (i / 64) (W.getD (i / 64) 0 ||| 2 ^ (i % 64))).getD j 0 = W.getD j 0 by simp [List.getD_eq_getElem?_getD, e], hd]
      congr 1
      rw [decide_eq_decide]
      omega
theorem flat_range (p : Nat → Bool) : ∀ (W : List Nat) (off : Nat), (∀ j b, j < W.length → b < 64 → (W.getD j 0).testBit b = p (64 * (off + j) + b)) → flat off W = ((List.range (64 * W.length)).map fun i => 64 * off + i).filter p
  | [], off, _ => by simp [flat]
  | w :: ws, off, h => by
    have ih := flat_range p ws (off + 1) (fun j b hj hb => by
      have := h (j + 1) b (by simp; omega) hb
      rw [List.getD_cons_succ] at this
      rw [this]
      congr 1
      omega)
    have e : 64 * (ws.length + 1) = 64 + 64 * ws.length := by omega
    rw [flat, ih, List.length_cons, e, List.range_add, List.map_append, List.filter_append, List.map_map]
    congr 1
    · rw [bitsL, List.filter_map]
      congr 1
      apply List.filter_congr
      intro b hb
      have := h 0 b (by simp) (List.mem_range.1 hb)
      simpa using this
    · congr 1
      apply List.map_congr_left
      intro i _
      simp only [Function.comp]
      omega
theorem flat_idx {en : List Bool} {W : List Nat} (h : IsW en en.length W) : flat 0 W = idx en := by
  rw [flat_range (fun i => en.getD i false) W 0 (fun j b hj hb => by
    rw [h.2.2 j b hj hb, Nat.zero_add]
    by_cases hlt : 64 * j + b < en.length
    · simp [hlt]
    · simp [List.getD_eq_getElem?_getD, List.getElem?_eq_none (show en.length ≤ 64 * j + b by omega)])]
  have e : 64 * W.length = en.length + (64 * W.length - en.length) := by have := h.1; omega
  rw [e, List.range_add]
  simp only [Nat.mul_zero, Nat.zero_add, List.map_id']
  rw [List.filter_append, idx]
  rw [show (List.map (fun x => en.length + x) (List.range (64 * W.length - en.length))).filter (fun i => en.getD i false) = [] by
    rw [List.filter_eq_nil_iff]
    intro i hi
    obtain ⟨j, _, rfl⟩ := List.mem_map.1 hi
    simp [List.getD_eq_getElem?_getD], List.append_nil]
theorem idx_lt {en : List Bool} {i : Nat} (h : i ∈ idx en) : i < en.length ∧ en.getD i false = true := by
  have := List.mem_filter.1 h
  exact ⟨List.mem_range.1 this.1, this.2⟩
theorem idx_sorted (en : List Bool) : (idx en).Pairwise (· < ·) := List.Pairwise.filter _ List.pairwise_lt_range
end Go.Proofs.YtmaiicpaalbcfaaDoor.Bits
