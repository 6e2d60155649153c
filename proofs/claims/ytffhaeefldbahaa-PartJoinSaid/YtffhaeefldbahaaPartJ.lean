/-
The least partition in which pairs are of one class: the program's Of folds Unite over the pairs; of pairs of whole numbers, as many as there is room for.
-/
import Derived.Test.YtffhaeefldbahaaPartI
namespace Go.Proofs.Ytffhaeefldbahaa
open Go.RowKit
attribute [local go_sem ↓] Go.wp_at_zero Go.wp_at_succ
abbrev Pairs := List (Int × Int)
def cellsP (ps : Pairs) : List Value := ps.flatMap fun p => [.int .i64 p.1, .int .i64 p.2]
theorem cellsP_length (ps : Pairs) : (cellsP ps).length = ps.length * 2 := by
  unfold cellsP
  induction ps with
  | nil => rfl
  | cons p ps ih => simp only [List.flatMap_cons, List.length_append, ih, List.length_cons, List.length_nil]; omega
theorem cellsP_at : ∀ (ps : Pairs) (k : Nat), k < ps.length → (cellsP ps).getD (k * 2) undef = .int .i64 (ps.getD k (0, 0)).1 ∧ (cellsP ps).getD (k * 2 + 1) undef = .int .i64 (ps.getD k (0, 0)).2
  | [], k, h => absurd h (by simp)
  | p :: ps, 0, _ => ⟨rfl, rfl⟩
  | p :: ps, k + 1, h => by
    have := cellsP_at ps k (by simpa using h)
    rw [show (k + 1) * 2 = k * 2 + 2 by omega]
    exact this
def RowP (w : World) (A : Option Addr) (ps : Pairs) : Prop := Row w A (ps.length * 2) (cellsP ps)
theorem RowP.kept {w w1 : World} {A : Option Addr} {ps : Pairs} (h : RowP w A ps) (hb : Below w.heap.size w w1) : RowP w1 A ps := Row.kept h hb
theorem RowP.at {w : World} {A : Option Addr} {ps : Pairs} (h : RowP w A ps) (k : Nat) (hk : k < ps.length) :
    ∃ ad, A = some ad ∧ w.cell? (ad.add (k * 2)) = some (.int .i64 (ps.getD k (0, 0)).1) ∧ w.cell? (ad.add (k * 2 + 1)) = some (.int .i64 (ps.getD k (0, 0)).2) := by
  obtain ⟨ad, e, hc⟩ := Row.pos h (by omega)
  have := cellsP_at ps k hk
  exact ⟨ad, e, by rw [hc _ (by omega), this.1], by rw [hc _ (by omega), this.2]⟩
def ofL (n : Int) (ps : Pairs) : List Int := ps.foldl (fun q p => uniteL q p.1 p.2) (iota (nn n))
theorem ofL_snoc (n : Int) (ps : Pairs) (p : Int × Int) : ofL n (ps ++ [p]) = uniteL (ofL n ps) p.1 p.2 := by simp [ofL]
theorem ofL_nil (n : Int) : ofL n [] = iota (nn n) := rfl
theorem fold_length : ∀ (ps : Pairs) (q : List Int), (ps.foldl (fun q p => uniteL q p.1 p.2) q).length = q.length
  | [], _ => rfl
  | p :: ps, q => by rw [List.foldl_cons, fold_length ps, uniteL_length]
theorem ofL_length (n : Int) (ps : Pairs) : (ofL n ps).length = nn n := by rw [ofL, fold_length, iota_length]
theorem uniteL_stay {l : List Int} {x y : Int} (h : thereB l.length x y = true → l.getD x.toNat 0 = l.getD y.toNat 0) : uniteL l x y = l := by
  unfold uniteL
  split
  · rename_i ht
    rw [h ht, show ∀ a : Int, max a a = a from fun a => by omega, show ∀ a : Int, min a a = a from fun a => by omega]
    have : ∀ c : Int, swap (l.getD y.toNat 0) (l.getD y.toNat 0) c = c := fun c => by unfold swap; split <;> simp_all
    rw [show swap (l.getD y.toNat 0) (l.getD y.toNat 0) = id from funext this, List.map_id]
  · rfl
theorem map_getD (f : Int → Int) (l : List Int) (i : Nat) (hi : i < l.length) : (l.map f).getD i 0 = f (l.getD i 0) := by
  simp [List.getD_eq_getElem?_getD, hi]
theorem uniteL_joins (l : List Int) (x y : Int) (h : thereB l.length x y = true) : (uniteL l x y).getD x.toNat 0 = (uniteL l x y).getD y.toNat 0 := by
  have ⟨h0, h1, h2, h3⟩ := (thereB_iff _ _ _).1 h
  unfold uniteL
  rw [if_pos h, map_getD _ _ _ (by omega), map_getD _ _ _ (by omega)]
  unfold swap
  split <;> split <;> omega
theorem uniteL_keeps (l : List Int) (x y : Int) (i j : Nat) (hi : i < l.length) (hj : j < l.length) (h : l.getD i 0 = l.getD j 0) : (uniteL l x y).getD i 0 = (uniteL l x y).getD j 0 := by
  unfold uniteL
  split
  · rw [map_getD _ _ _ hi, map_getD _ _ _ hj, h]
  · exact h
theorem fold_joined : ∀ (ps : Pairs) (q : List Int) (i j : Nat), i < q.length → j < q.length → q.getD i 0 = q.getD j 0 → (ps.foldl (fun q p => uniteL q p.1 p.2) q).getD i 0 = (ps.foldl (fun q p => uniteL q p.1 p.2) q).getD j 0
  | [], _, _, _, _, _, h => h
  | p :: ps, q, i, j, hi, hj, h => by
    rw [List.foldl_cons]
    exact fold_joined ps _ i j (by rw [uniteL_length]; exact hi) (by rw [uniteL_length]; exact hj) (uniteL_keeps q p.1 p.2 i j hi hj h)
theorem fold_had : ∀ (ps : Pairs) (q : List Int) (p : Int × Int), p ∈ ps → thereB q.length p.1 p.2 = true →
    (ps.foldl (fun q p => uniteL q p.1 p.2) q).getD p.1.toNat 0 = (ps.foldl (fun q p => uniteL q p.1 p.2) q).getD p.2.toNat 0
  | [], _, _, h, _ => absurd h (by simp)
  | r :: ps, q, p, h, ht => by
    rw [List.foldl_cons]
    rcases List.mem_cons.1 h with rfl | h
    · have ⟨h0, h1, h2, h3⟩ := (thereB_iff _ _ _).1 ht
      exact fold_joined ps _ _ _ (by rw [uniteL_length]; omega) (by rw [uniteL_length]; omega) (uniteL_joins q p.1 p.2 ht)
    · exact fold_had ps _ p h (by rw [uniteL_length]; exact ht)
theorem ofL_had (n : Int) (ps : Pairs) (p : Int × Int) (h : p ∈ ps) : ofL n (ps ++ [p]) = ofL n ps := by
  rw [ofL_snoc]
  refine uniteL_stay fun ht => fold_had ps _ p h ?_
  rwa [ofL, fold_length] at ht
theorem takeP (ps : Pairs) (k : Nat) (hk : k < ps.length) : ps.take (k + 1) = ps.take k ++ [ps.getD k (0, 0)] := by
  rw [List.take_succ_eq_append_getElem hk]
  simp [List.getD_eq_getElem?_getD, hk]
theorem Had.far {b : Nat} {l : Pairs} {w : World} (h : Had b l w) {a : Addr} {v : Value} (hc : w.cell? a = some v) : a.block ≠ b := by
  obtain ⟨n, D, h1, ⟨es, clock, hb, _⟩, _⟩ := h
  intro e
  unfold World.cell? at hc
  rw [e, hb] at hc
  cases hc
theorem Had.row {b : Nat} {l : Pairs} {w w' : World} (h : Had b l w) (hg : w.grownBy w' (some b)) {A : Option Addr} {n : Nat} {xs : List Value} (hr : Row w A n xs) : Row w' A n xs :=
  ⟨hr.1, hr.2.1, fun hn => by
    obtain ⟨ad, e, hc⟩ := hr.2.2 hn
    exact ⟨ad, e, fun j hj => cell_grown hg (hc j hj) (by intro e2; injection e2 with e2; exact h.far (hc j hj) e2.symm)⟩⟩
set_option maxHeartbeats 4000000 in
theorem of_any (n : Int) (A : Option Addr) (c : Nat) (ps : Pairs) (w : World) (hr : RowP w A ps) (hin : ∀ p ∈ ps, In64 p) : Calls Try.prog 12 #[.int .i64 n, .slice A ps.length c] w (RowsP (ofL n ps) w) := by
  have HR := Lib.hid hr
  have HI := Lib.hid hin
  have hl := hr.2.1
  clear hr hin
  go_enter Try.func12, Try.ntmps12
  go_wp2_with fail
  refine (new_any n w).mono ?_
  rintro e w1 ⟨B, d, rfl, hd, hrow, hb⟩
  have HM := Lib.hid (Had.made w1)
  have HR := Lib.hid (HR.out.kept hb)
  have HV := Lib.hid (hrow.kept (below_alloc (Below.refl w1.heap.size w1) (.map #[] 0)))
  have HB := Lib.hid hb
  have hz := hb.size
  have hmk := run_makeMap (P := Try.prog) 42 w1
  have HD := Lib.hid hd
  clear hrow hb hd
  go_wp2
  clear hmk
  go_loopw [5, 8, 14] (fun v _ i wr => ∃ (k : Nat), k ≤ ps.length ∧ i = .int .i64 k ∧ (∃ B d, v = .slice B (ofL n (ps.take k)).length d ∧ Hid ((ofL n (ps.take k)).length ≤ d) ∧ RowI wr B (ofL n (ps.take k))) ∧ Had w1.heap.size (ps.take k) wr ∧ Below w1.heap.size w1 wr) (fun _ _ i _ => ps.length - (intOf i).toNat)
  case atStart => exact ⟨0, by omega, rfl, ⟨_, _, by rw [List.take_zero, ofL_nil], by rw [List.take_zero, ofL_nil]; exact HD, by rw [List.take_zero, ofL_nil]; exact HV.out⟩, by rw [List.take_zero]; exact HM.out, below_alloc (Below.refl _ _) _⟩
  case round =>
    obtain ⟨k, hk, rfl, ⟨B2, d2, rfl, HD2, hrow⟩, hhad, hB⟩ := hrel
    have HV := Lib.hid hrow
    have HM := Lib.hid hhad
    have HB2 := Lib.hid hB
    clear hrow hhad
    by_cases hlt : k < ps.length
    · obtain ⟨ad, rfl, hc, hd⟩ := (HR.out.kept hB).at k hlt
      have hp := HI.out (ps.getD k (0, 0)) (by rw [List.getD_eq_getElem?_getD, List.getElem?_eq_getElem hlt]; exact List.getElem_mem hlt)
      have HT := Lib.hid (takeP ps k hlt)
      obtain ⟨p, hpe⟩ : ∃ p, p = ps.getD k (0, 0) := ⟨_, rfl⟩
      rw [← hpe] at hc hd hp HT
      have HP := Lib.hid hp
      have hsz := hB.size
      clear hpe hp hB
      have p1 : (0 : Int) ≤ (k : Int) := by omega
      have p2 : (k : Int) < (ps.length : Int) := by omega
      have hd' : wr.cell? ⟨(ad.add (k * 2)).block, (ad.add (k * 2)).off + 1, none⟩ = some (.int .i64 p.2) := by
        have e : (ad.add (k * 2)).add 1 = ⟨(ad.add (k * 2)).block, (ad.add (k * 2)).off + 1, none⟩ := by
          unfold Addr.add
          simp
        rw [← e, Addr.add_add]
        exact hd
      have O := below_alloc (Below.refl wr.heap.size wr) (.cells #[.int .i64 p.1, .int .i64 p.2] 26)
      have hlook := (HM.out.kept O).look p HP.out
      have HH := Lib.hid (HM.out.kept O)
      have HV := Lib.hid (HV.out.kept O)
      have HBa := Lib.hid (below_next HB2.out O hsz)
      clear O
      have c0 : (wr.alloc (.cells #[.int .i64 p.1, .int .i64 p.2] 26)).cell? ⟨wr.heap.size, 0, none⟩ = some (.int .i64 p.1) := by go_simp
      have c1 : (wr.alloc (.cells #[.int .i64 p.1, .int .i64 p.2] 26)).cell? ⟨wr.heap.size, 1, none⟩ = some (.int .i64 p.2) := by go_simp
      unfold pv at hlook
      have hlen : (ps.take k).length < 9223372036854775807 := by rw [List.length_take]; omega
      by_cases hm : p ∈ ps.take k
      · rw [show decide (p ∈ ps.take k) = true by simp [hm]] at hlook
        obtain ⟨w3, hrun, hhad, hg⟩ := HH.out.put p HP.out hlen
        unfold pv at hrun
        have HV := Lib.hid (HH.out.row hg HV.out)
        have HB3 := Lib.hid (HBa.out.grown hg HBa.out.size (fun j hj => by injection hj with hj; omega))
        have HM := Lib.hid hhad
        have HE := Lib.hid (ofL_had n (ps.take k) p hm)
        clear hm hg hhad
        go_wp2
        go_roundw
        case rel => exact ⟨k + 1, by omega, by go_num, ⟨B2, d2, by rw [HT.out, HE.out], by rw [HT.out, HE.out]; exact HD2, by rw [HT.out, HE.out]; exact HV.out⟩, by rw [HT.out]; exact HM.out, HB3.out⟩
        case measure => simp [intOf]; omega
      · rw [show decide (p ∈ ps.take k) = false by simp [hm]] at hlook
        clear hm
        go_wp2_with fail
        refine (unite_any B2 d2 (ofL n (ps.take k)) p.1 p.2 _ HV.out (by rw [ofL_length]; exact nn_le n)).mono ?_
        rintro e w2 ⟨v, rfl, hown, hb⟩
        obtain ⟨B3, d3, rfl, hd3, hrow3⟩ := row_of_own hown
        have HH := Lib.hid (HH.out.kept hb)
        have HBa := Lib.hid (below_next HBa.out hb HBa.out.size)
        have c0 := cell_kept hb c0
        have c1 := cell_kept hb c1
        clear hown hb hlook
        obtain ⟨w3, hrun, hhad, hg⟩ := HH.out.put p HP.out hlen
        unfold pv at hrun
        have HV := Lib.hid (HH.out.row hg hrow3)
        have HB3 := Lib.hid (HBa.out.grown hg HBa.out.size (fun j hj => by injection hj with hj; omega))
        have HM := Lib.hid hhad
        have HE := Lib.hid (ofL_snoc n (ps.take k) p)
        clear hg hhad hrow3
        go_wp2
        go_roundw
        case rel => exact ⟨k + 1, by omega, by go_num, ⟨B3, d3, by rw [HT.out, HE.out], by rw [HT.out, HE.out]; exact Lib.hid hd3, by rw [HT.out, HE.out]; exact HV.out⟩, by rw [HT.out]; exact HM.out, HB3.out⟩
        case measure => simp [intOf]; omega
    · obtain rfl : k = ps.length := by omega
      clear hB
      have HE := Lib.hid (show ps.take ps.length = ps from List.take_length)
      go_wp2
      go_ret
      exact ⟨B2, d2, by first | rfl | (rw [HE.out]; rfl), by have := HD2.out; rw [HE.out] at this; exact this, by have := HV.out; rw [HE.out] at this; exact this, below_next HB.out HB2.out hz⟩
end Go.Proofs.Ytffhaeefldbahaa
