/-
The play: the walk. Conditions: the rows can be read; the plain play answers.
The contract, in the form of the printed texts, of play.Play, which was walked by hand. Where the plain play gives none, nothing is claimed.
-/
import Derived.Test.YtmaiicpaalbcfaaDoorPlayK
import Derived.Laws.MakeOwn
import Derived.Laws.OwnMore
namespace Go.Proofs.YtmaiicpaalbcfaaDoor
open Go.RowKit Go.Proofs.YtmaiicpaalbcfaaDoorW.PrintWords Go.Proofs.YtmaiicpaalbcfaaDoorW.PrintLast Go.Proofs.YtmaiicpaalbcfaaDoorW.PrintMore Go.Proofs.YtmaiicpaalbcfaaDoor.P
set_option linter.unusedVariables false
set_option linter.unusedSimpArgs false
/-- who goes on at the start -/
def goingTo (L : List (List S40)) : Nat → Int
  | 0 => 0
  | i + 1 => if L.getD i [] = [] then goingTo L i else Go.bits .or .u64 (goingTo L i) (shl .u64 1 (i : Int))
def upS (n : Nat) : List Int := (List.range n).map fun (i : Nat) => (i : Int)
/-- the whole play -/
def playF (prio : List Int) (S : List (List S40)) (P : List Int) : Option (List S42 × List Int × Int) :=
  if prio.length ≤ 1000000 ∧ S.length ≤ 1000000 ∧ P.length ≤ 1000000 ∧ (∀ x ∈ S, x.length ≤ 1000000000000) then
    if okS prio.length S = true then playL S.length prio P (100 * ((allW 0 S).toNat + 1) * (prio.length + 1) + 1) ((S.map fun l => l.filter (validB prio.length)).map fun l => ⟨l, t0, false, 0, 0⟩) (upS prio.length) (goingTo (S.map fun l => l.filter (validB prio.length)) S.length) 0 (-1) 0 []
    else some ([], [], 0)
  else none
theorem res_three {fn : Func} {t u v : Tmp} (h : fn.results = #[.tmp t, .tmp u, .tmp v]) (tmps : Array Value) (P : Program) (w : World) :
    (results fn tmps).run P w = .ok (.tuple #[tmps.getD t undef, tmps.getD u undef, tmps.getD v undef]) w := by
  simp [results, h, go_sem]
theorem int_put {w : World} {base n uc : Nat} {UA : Option Addr} {xs : List Int} (h : Kd.R (Kd.int .i64) 3 w base (fun _ => True) (.slice UA n uc) xs) (i : Nat) (hi : i < n) :
    ∃ gu, UA = some ⟨gu, 0, none⟩ ∧ (∃ q, w.cell? ⟨gu, i, none⟩ = some q) ∧ w.frozen? ⟨gu, i, none⟩ = false ∧ base ≤ gu ∧ ∀ x : Int, Kd.R (Kd.int .i64) 3 (w.setCell ⟨gu, i, none⟩ (.int .i64 x)) base (fun _ => True) (.slice UA n uc) (xs.set i x) ∧ w.grownBy (w.setCell ⟨gu, i, none⟩ (.int .i64 x)) (some gu) := by
  have hn : n = xs.length := (Kd.R_reads' h).1
  subst hn
  obtain ⟨gu, cap, e, hb, _, _⟩ := Kd.R_form h (by omega)
  simp only [Value.slice.injEq] at e
  obtain ⟨rfl, _, rfl⟩ := e
  obtain ⟨hc, hf⟩ := Kd.R_cell (0 : Int) h (i : Int) (by omega) (by omega)
  rw [Int.toNat_natCast] at hc hf
  refine ⟨gu, rfl, ⟨_, hc⟩, hf, hb, fun x => ?_⟩
  have hp := Kd.R_put h (i : Int) x
  rw [Int.toNat_natCast] at hp
  exact hp
/-- a row as cells, and what each part of it says -/
theorem R_toraw {α : Type} {d : Kd α} {e g n cap base : Nat} {ok : Nat → Prop} {W : World} {xs : List α} (h : d.R e W base ok (.slice (some ⟨g, 0, none⟩) n cap) xs) : ∃ rows : List (List Value), rows.length = xs.length ∧ (Kd.raw d.sz).R e W base (fun _ => True) (.slice (some ⟨g, 0, none⟩) n cap) rows ∧ ∀ i x, xs[i]? = some x → d.M W base (fun k => ok k ∧ k ≠ g) x (rows.getD i []) := by
  obtain ⟨hok, inner, ho, hr⟩ := h
  have hlen : inner.length = xs.length * d.sz := hr.1
  have hgo : some g = (Value.slice (some ⟨g, 0, none⟩) n cap).ownBlock := by simp [Value.ownBlock]
  refine ⟨(List.range xs.length).map fun j => (inner.drop (j * d.sz)).take d.sz, by rw [List.length_map, List.length_range], ⟨fun _ _ => trivial, inner, ?_, ?_, fun j p hj => ?_⟩, fun i x hx => ?_⟩
  · rw [List.length_map, List.length_range]; exact ho
  · rw [List.length_map, List.length_range]; exact hlen
  · rw [List.getElem?_map] at hj
    obtain ⟨j', hj', rfl⟩ := Option.map_eq_some_iff.1 hj
    obtain ⟨hl, he⟩ := List.getElem?_eq_some_iff.1 hj'
    rw [List.getElem_range] at he
    subst he
    rw [List.length_range] at hl
    have hm := d.K_of_M (hr.2 j _ (List.getElem?_eq_getElem hl))
    exact ⟨rfl, d.K_len hm, d.K_one hm⟩
  · have hi := (List.getElem?_eq_some_iff.1 hx).1
    have e1 : (((List.range xs.length).map fun j => (inner.drop (j * d.sz)).take d.sz).getD i []) = (inner.drop (i * d.sz)).take d.sz := by
      rw [List.getD_eq_getElem?_getD, List.getElem?_map, List.getElem?_range hi]; rfl
    rw [e1]
    exact d.M_mono (fun k hk => ⟨hk.1, fun he => hk.2 (by rw [he]; exact hgo)⟩) (hr.2 i x hx)
/-- the workers at the start, as cells -/
theorem ws_raw {w0 w : World} {wc : Nat} {WA : Option Addr} {n : Int} {S : List (List S40)} (h : Kd.S k65 65 w w0.heap.size (fun _ => True) (.slice WA S.length wc) (startS n S)) (hs : 0 < S.length) :
    ∃ (gw : Nat) (R : List (List Value)), WA = some ⟨gw, 0, none⟩ ∧ w0.heap.size ≤ gw ∧ gw < w.heap.size ∧ (Kd.raw 14).R 65 w w0.heap.size (fun _ => True) (.slice WA S.length wc) R ∧ ∀ i, i < S.length → ∃ A c, R.getD i [] = wrow A (((S.getD i []).filter (validB n)).length) c t0 false 0 0 ∧ ((S.getD i []).filter (validB n)).length ≤ c ∧ ∀ W', Kept w W' (fun q => q = gw) → Kd.C k40 W' A ((S.getD i []).filter (validB n)).length ((S.getD i []).filter (validB n)) := by
  have hR := Kd.S_R h
  obtain ⟨gw, cap, e, hb, hlt, cells, hc⟩ := Kd.R_form hR (by simp [startS]; omega)
  simp only [Value.slice.injEq] at e
  obtain ⟨rfl, _, rfl⟩ := e
  obtain ⟨rows, hl, hraw, hM⟩ := R_toraw hR
  refine ⟨gw, rows, rfl, hb, hlt, hraw, fun i hi => ?_⟩
  have hx : (startS n S)[i]? = some (st65 ((S.getD i []).filter (validB n))) := by
    rw [startS, List.getElem?_map, List.getD_eq_getElem?_getD, List.getElem?_eq_getElem hi]; rfl
  obtain ⟨v0, e2, hr⟩ := k65_openM (hM i _ hx)
  obtain ⟨A, c, rfl⟩ := Kd.R_slice hr
  refine ⟨A, c, e2, (Kd.R_reads' hr).2.1, fun W' hk => ?_⟩
  exact (Kd.R_reads' (Kd.R_kept hr hk (fun q hq => hq.2))).2.2
theorem info4b : (Tryd.prog.info? 4).map (fun i => (i.zero, i.size, i.bytes)) = some (some (.bool false), 1, 1) := by kernel_rfl
theorem made1 (n : Nat) : madeCells (Value.bool false).cells (n * 1) = (List.replicate n (Value.bool false)).toArray := by
  apply Array.ext'
  rw [Nat.mul_one]
  exact toList_madeCells_one _ n
theorem make_bools (W : World) (n : Nat) (hn : n ≤ 64) : (Instr.makeSlice 60 (.int .i64 (n : Int)) (.int .i64 (n : Int))).run Tryd.prog W = .ok (.slice (some ⟨W.heap.size, 0, none⟩) n n) (W.alloc (.cells (List.replicate n (Value.bool false)).toArray 4 (0, 0))) := by
  obtain ⟨i, hi, h⟩ := Option.map_eq_some_iff.1 info4b
  simp only [Prod.mk.injEq] at h
  obtain ⟨h1, h2, h3⟩ := h
  have := run_makeSlice (P := Tryd.prog) W 60 4 i _ Tryd.underlying60 hi h1 .i64 .i64 (n : Int) (n : Int) (by omega) (by omega) (by rw [h2, Int.toNat_natCast]; omega) (by rw [h3]; omega) (by omega)
  rw [h2, Int.toNat_natCast, made1] at this
  exact this
def upTo (n i : Nat) : List Int := (List.range n).map fun (j : Nat) => if j < i then (j : Int) else 0
theorem upTo_zero (n : Nat) : upTo n 0 = List.replicate n 0 := by simp [upTo, List.map_const']
theorem upTo_all (n : Nat) : upTo n n = upS n := by
  unfold upTo upS
  apply List.map_congr_left
  intro j hj
  rw [if_pos (List.mem_range.1 hj)]
theorem upTo_set (n i : Nat) : (upTo n i).set i (i : Int) = upTo n (i + 1) := by
  apply List.ext_getElem
  · simp [upTo]
  · intro j h1 h2
    have hj : j < n := by simpa [upTo] using h2
    by_cases c : i = j
    · subst c
      simp [upTo]
    · rw [List.getElem_set_ne c]
      simp only [upTo, List.getElem_map, List.getElem_range]
      by_cases c2 : j < i
      · rw [if_pos c2, if_pos (by omega)]
      · rw [if_neg c2, if_neg (by omega)]
set_option maxRecDepth 100000 in
set_option maxHeartbeats 2000000 in
theorem play_play (A0 : Option Addr) (c0 : Nat) (prio : List Int) (A1 : Option Addr) (c1 : Nat) (S : List (List S40)) (A2 : Option Addr) (c2 : Nat) (P : List Int) (r1 : List S42) (r2 : List Int) (r3 : Int) (w : World) (hT_ : Tab w) (hr0 : Kd.C (Kd.int .i64) w A0 prio.length prio) (hc0 : prio.length ≤ c0) (hr1 : Kd.C (Kd.slice 40 k40) w A1 S.length S) (hc1 : S.length ≤ c1) (hr2 : Kd.C (Kd.int .i64) w A2 P.length P) (hc2 : P.length ≤ c2) (hf : playF prio S P = some (r1, r2, r3)) :
    Calls Tryd.prog 11 #[.slice A0 prio.length c0, .slice A1 S.length c1, .slice A2 P.length c2] w fun e w' => ∃ v0_ v1_ : Value, e = .returned (.tuple #[v0_, v1_, .int .i64 r3]) ∧ Kd.R k42 42 w' w.heap.size (fun _ => True) v0_ r1 ∧ Kd.R (Kd.int .i64) 3 w' w.heap.size (fun _ => True) v1_ r2 ∧ Below w.heap.size w w' := by
  unfold playF at hf
  have hlim : prio.length ≤ 1000000 ∧ S.length ≤ 1000000 ∧ P.length ≤ 1000000 ∧ (∀ x ∈ S, x.length ≤ 1000000000000) := Decidable.byContradiction fun c => by rw [if_neg c] at hf; cases hf
  rw [if_pos hlim] at hf
  obtain ⟨hn1, hs1, hp1, hx1⟩ := hlim
  obtain ⟨g, hg⟩ := (start_ev prio.length S hs1 hx1).rounds
  have hu65 := Tryd.underlying65
  have hu58 := Tryd.underlying58
  have HST := Aside0.mk (fun (w5 : World) (hb : Below w.heap.size w w5) => play_start.calls g prio.length A1 c1 S (startS prio.length S) (okS prio.length S) w5 (Kd.C_below hr1 hb) hc1 hg)
  have HR0 := Aside0.mk hr0
  have HC0 := Aside0.mk hc0
  have HR2 := Aside0.mk hr2
  have HC2 := Aside0.mk hc2
  have HTAB := Aside0.mk hT_
  have HF := Aside0.mk hf
  have HN1 := Aside0.mk hn1
  have HS1 := Aside0.mk hs1
  have HP1 := Aside0.mk hp1
  have HLS := Aside0.mk (show (startS prio.length S).length = S.length by simp [startS])
  clear hT_ hr0 hc0 hr1 hc1 hr2 hc2 hf hn1 hs1 hp1 hx1 hg
  go_enter Tryd.func11, Tryd.ntmps11
  go_upto_region 2 with (first | (go_at_call 22; refine (HST.out _ (by first | exact Below.refl _ _ | exact below_drew1 (Below.refl _ _) | exact below_drewN (Below.refl _ _) _)).mono ?_; rintro e w1 ⟨v0, rfl, ho, hb⟩; have hb : Below w.heap.size w w1 := (by first | exact hb | exact Below.trans (below_drew1 (Below.refl _ _)) hb); obtain ⟨WA, wc, e1⟩ := Kd.S_slice ho; rw [HLS.out] at e1; subst e1; have HW := Aside0.mk ho; have HB1 := Aside0.mk hb; clear ho hb))
  cases hok : okS prio.length S with
  | false =>
    have H := HF.out
    rw [hok, if_neg (by decide)] at H
    simp only [Option.some.injEq, Prod.mk.injEq] at H
    obtain ⟨rfl, rfl, rfl⟩ := H
    clear HF hok
    go_wp2
    (try simp only [Exit.inBlock, Exit.then])
    refine bodyPost_ret (res_three rfl _ _ _) rfl ?_
    exact ⟨_, _, rfl, Kd.R_nil _ _ _ _ _, Kd.R_nil _ _ _ _ _, HB1.out⟩
  | true =>
    have H := HF.out
    rw [hok, if_pos rfl] at H
    have HF1 := Aside0.mk H
    have HOK := Aside0.mk hok
    clear HF H hok
    go_wp2_with (first | ((with_reducible refine gate_dst (N := 32) rfl ?_); refine Kd.R_make (Kd.int .i64) (w0 := w) w.heap.size 3 rfl (N := 32) rfl 22 _ _ rfl (prio.length : Int) rfl rfl Tryd.underlying22 (.int .i64 0) 8 info3 rfl (by decide) (by omega) 0 (ok := fun _ => True) (okp := fun _ => True) rfl (fun _ hk => hk) trivial (by omega) (by have := HN1.out; omega) HB1.out (below_size HB1.out) ?_; intro v2 w2 ho hb hg hnew; rw [Int.toNat_natCast] at ho; obtain ⟨UA, uc, e2⟩ := Kd.R_slice ho; rw [List.length_replicate] at e2; subst e2; rw [← upTo_zero] at ho; have HU := Aside0.mk ho; have HB2 := Aside0.mk hb; have HW2 := Aside0.mk (Kd.S_grown HW.out hg (fun _ _ => by simp)); clear ho hb hg hnew))
    go_loopg [35] prio.length (fun k v35 w' => ∃ i : Nat, i + k = prio.length ∧ v35 = .int .i64 i ∧ Aside0 (Kd.R (Kd.int .i64) 3 w' w.heap.size (fun _ => True) (.slice UA prio.length uc) (upTo prio.length i)) ∧ Aside0 (Kd.S k65 65 w' w.heap.size (fun _ => True) (.slice WA S.length wc) (startS prio.length S)) ∧ Aside0 (Below w.heap.size w w'))
    case atStart => exact ⟨0, by omega, rfl, HU, HW2, HB2⟩
    case round =>
      obtain ⟨i, hik, rfl, HU3, HW3, HB3⟩ := hrel
      clear HU HW2 HB2
      have HIK := Aside0.mk hik
      by_cases hi : i < prio.length
      · have v1 : (i : Int) < (prio.length : Int) := by omega
        have v0 : (0 : Int) ≤ (i : Int) := by omega
        have HI := Aside0.mk hi
        obtain ⟨gu, hUA, ⟨q, hq⟩, hf, hgu, hput⟩ := int_put HU3.out i hi
        subst hUA
        have HPU := Aside0.mk (hput (i : Int))
        have HGU := Aside0.mk hgu
        have HSX := Aside0.mk (Kd.S_over' HW3.out (Kd.R_typed HU3.out) (by decide) HPU.out.2)
        clear hput hgu hik hi
        go_wp2
        go_roundg (prio.length - (i + 1))
        case measure => have := HIK.out; have := HI.out; omega
        case rel => exact ⟨i + 1, by have := HIK.out; have := HI.out; omega, by have := HN1.out; have := HI.out; first | rfl | (congr 1; done) | (congr 1; unfold wrap64; omega), ⟨by rw [← upTo_set]; exact HPU.out.1⟩, HSX, ⟨below_set HB3.out HGU.out⟩⟩
      · have v1 : ¬ (i : Int) < (prio.length : Int) := by omega
        have hie : i = prio.length := by omega
        subst hie
        have HIU := Aside0.mk (show Kd.R (Kd.int .i64) 3 wr w.heap.size (fun _ => True) (.slice UA prio.length uc) (upS prio.length) by rw [← upTo_all]; exact HU3.out)
        have HPS := Aside0.mk (show pick_Start.f P = some (P, 0, -1) by
          unfold pick_Start.f
          rw [if_pos (by have := HP1.out; simp; omega)]
          rfl)
        clear hi hik HU3 HIK
        by_cases hs : 0 < S.length
        · obtain ⟨gw, R, hWA, hg1, hg2, hraw, hrw⟩ := ws_raw (w0 := w) HW3.out hs
          subst hWA
          have HRAW := Aside0.mk hraw
          have HGW := Aside0.mk hg2
          have HROW := Aside0.mk hrw
          have HSP := Aside0.mk hs
          clear hraw hg1 hg2 hrw hs
          go_upto_region 11 with (first | (go_at_call 23; refine (pick_Start.calls A2 c2 P P 0 (-1) wr (Kd.C_below HR2.out HB3.out) HC2.out HPS.out).mono ?_; rintro e w4 ⟨v0, rfl, ho, hb⟩; obtain ⟨Av, cv, e3⟩ := Kd.R_slice ho; subst e3; have HPV := Aside0.mk ho; have HB4 := Aside0.mk hb; clear ho hb) | ((with_reducible refine gate_dst (N := 12) rfl ?_); (try (refine gate_guard (by rfl) ?_; dsimp only)); refine box_event ?hg (N := 12) ?hd (cs := #[.slice none 0 0, .int .i64 0, .int .i64 0]) (t := 58) ?hr ?_; (case hd => rfl); (case hg => rfl); (case hr => first | (go_simp; done) | (go_simp; rfl)); intro bp hbp w5 hbox hb5; have z0 : w5.cell? ⟨bp, 0, none⟩ = some (.slice none 0 0) := (blk_cell hbox 0).trans rfl; have z1 : w5.cell? ⟨bp, 1, none⟩ = some (.int .i64 0) := (blk_cell hbox 1).trans rfl; have z2 : w5.cell? ⟨bp, 2, none⟩ = some (.int .i64 0) := (blk_cell hbox 2).trans rfl; have y0 := blk_frozen hbox 0; have y1 := blk_frozen hbox 1; have y2 := blk_frozen hbox 2; have HBPE := Aside0.mk hbp; have HBX := Aside0.mk hbox; have HB5 := Aside0.mk hb5; clear hbp hbox hb5))
          obtain ⟨ws0, hws0⟩ : ∃ ws0, ((S.map fun l => l.filter (validB prio.length)).map fun l => (⟨l, t0, false, 0, 0⟩ : W5)) = ws0 := ⟨_, rfl⟩
          have HWS := Aside0.mk hws0
          have hew : ∀ i, i < S.length → ws0.getD i z5 = ⟨(S.getD i []).filter (validB prio.length), t0, false, 0, 0⟩ := fun i hi => by
            rw [← hws0]
            simp [List.getD_eq_getElem?_getD, hi]
          have hul : (upS prio.length).length = prio.length := by simp [upS]
          have hst := PSt.start (n := S.length) (ws := ws0) (up := upS prio.length) (UA := UA) (uc := uc) HRAW.out rfl HGW.out (by rw [← hws0]; simp) (fun i hi => by
            obtain ⟨A, c, b1, b2, b3⟩ := HROW.out i hi
            rw [hew i hi]
            exact ⟨A, c, b1, b2, b3⟩) (by rw [hul]; exact HIU.out) HB3.out HB4.out HPV.out HB5.out HBPE.out HBX.out
          rw [show (((w5.setCell ⟨bp, 0, none⟩ (.slice Av P.length cv)).setCell ⟨bp, 1, none⟩ (.int .i64 0)).setCell ⟨bp, 2, none⟩ (.int .i64 (-1))).heap.size = w5.heap.size by simp [World.setCell]] at hst
          have HS0 := Aside0.mk hst
          clear hst hws0 hew hul z0 z1 z2 y0 y1 y2
          have h64 : S.length ≤ 64 := by
            have h := HOK.out
            unfold okS at h
            have := of_decide_eq_true h
            omega
          have hmk := make_bools (((w5.setCell ⟨bp, 0, none⟩ (.slice Av P.length cv)).setCell ⟨bp, 1, none⟩ (.int .i64 0)).setCell ⟨bp, 2, none⟩ (.int .i64 (-1))) S.length h64
          go_upto_region 12 with (fail)
          clear hmk HB4 HB5 HPV HBX HBPE HRAW HROW HW3 HB3 HIU
          obtain ⟨wq, hwq⟩ : ∃ x, x = wr := ⟨_, rfl⟩
          subst hwq
          simp only [Array.replicate] at *
          generalize (((w5.setCell ⟨bp, 0, none⟩ (.slice Av P.length cv)).setCell ⟨bp, 1, none⟩ (.int .i64 0)).setCell ⟨bp, 2, none⟩ (.int .i64 (-1))).alloc (.cells (List.replicate S.length (Value.bool false)).toArray 4 (0, 0)) = W7 at *
          generalize w5.heap.size = ge at *
          have HEL := Aside0.mk (show ∀ i, i < S.length → (S.map fun l => l.filter (validB prio.length)).getD i [] = (ws0.getD i z5).l from fun i hi => by
            rw [← HWS.out]
            simp [List.getD_eq_getElem?_getD, hi])
          generalize (S.map fun l => l.filter (validB prio.length)) = L at *
          go_wp2
          go_loopg [50, 14] S.length (fun k v50 v14 w' => ∃ i : Nat, i + k = S.length ∧ v50 = .int .i64 i ∧ v14 = .int .u64 (goingTo L i) ∧ Aside0 (PSt w wq w' S.length gw bp ge (some ⟨gw, 0, none⟩) wc ws0 R (upS prio.length) UA uc [] none 0 0 (-1) P (.slice Av P.length cv) (List.replicate S.length false)))
          case atStart => exact ⟨0, by omega, rfl, rfl, HS0⟩
          case round =>
            obtain ⟨i, hik, rfl, rfl, HS⟩ := hrel
            clear HS0
            have HIK := Aside0.mk hik
            by_cases hi : i < S.length
            · have v1 : (i : Int) < (S.length : Int) := by omega
              have v0 : (0 : Int) ≤ (i : Int) := by omega
              have HI := Aside0.mk hi
              obtain ⟨A, c, b1, b2, b3⟩ := HS.out.row i hi
              obtain ⟨_, _, g2, _⟩ := raw_row HS.out.wk i hi
              rw [b1] at g2
              have cl : wr.cell? ⟨gw, i * 14, none⟩ = some (.slice A (ws0.getD i z5).l.length c) := g2 0 _ rfl
              have HLI := Aside0.mk (HEL.out i hi)
              generalize (ws0.getD i z5).l = li at *
              clear b1 b2 b3 g2 hi hik
              by_cases hl : li = []
              · have HG := Aside0.mk (show goingTo L (i + 1) = goingTo L i by rw [goingTo, HLI.out, if_pos hl])
                subst hl
                replace cl : wr.cell? ⟨gw, i * 14, none⟩ = some (.slice A 0 c) := cl
                go_wp2
                go_roundg (S.length - (i + 1))
                case measure => have := HIK.out; have := HI.out; omega
                case rel => exact ⟨i + 1, by have := HIK.out; have := HI.out; omega, by have := HI.out; first | rfl | (congr 1; done) | (congr 1; unfold wrap64; omega), by rw [HG.out], HS⟩
              · have HG := Aside0.mk (show goingTo L (i + 1) = Go.bits .or .u64 (goingTo L i) (shl .u64 1 (i : Int)) by rw [goingTo, HLI.out, if_neg hl])
                have hpos : 0 < li.length := by cases li with | nil => exact absurd rfl hl | cons a b => simp
                have t1 : decide (0 < li.length) = true := decide_eq_true hpos
                have t2 : decide ((0 : Int) < (li.length : Int)) = true := decide_eq_true (by omega)
                clear hl
                generalize li.length = nl at *
                go_wp2
                go_roundg (S.length - (i + 1))
                case measure => have := HIK.out; have := HI.out; omega
                case rel => exact ⟨i + 1, by have := HIK.out; have := HI.out; omega, by have := HI.out; first | rfl | (congr 1; done) | (congr 1; unfold wrap64; omega), by rw [HG.out]; have hm : min i IntKind.u64.bits = i := (by have := HI.out; show min i 64 = i; omega); simp [shl, hm], HS⟩
            · have v1 : ¬ (i : Int) < (S.length : Int) := by omega
              have hie : i = S.length := by omega
              subst hie
              clear hi hik HIK HEL
              have HGO := Aside0.mk (show goingTo L S.length = goingTo L S.length from rfl)
              generalize hgas : 100 * ((allW 0 S).toNat + 1) * (prio.length + 1) + 1 = gas at *
              rw [HWS.out] at HF1
              generalize goingTo L S.length = going0 at *
              go_wp2
              go_loopg [6, 7, 8, 14] gas (fun k v6 v7 v8 v14 w' => ∃ (ws : List W5) (R : List (List Value)) (up : List Int) (UA : Option Addr) (uc : Nat) (ev : List S42) (EA : Option Addr) (ec : Nat) (going at_ last steps : Int) (uv : Value) (E : List Bool), v6 = .slice EA ev.length ec ∧ v7 = .slice UA up.length uc ∧ v8 = .int .i64 steps ∧ v14 = .int .u64 going ∧ Aside0 (playL S.length prio P k ws up going at_ last steps ev = some (r1, r2, r3)) ∧ Aside0 (E.length = S.length) ∧ Aside0 (PSt w wq w' S.length gw bp ge (some ⟨gw, 0, none⟩) wc ws R up UA uc ev EA ec at_ last P uv E))
              case atStart =>
                have hul : (upS prio.length).length = prio.length := by simp [upS]
                exact ⟨ws0, R, upS prio.length, UA, uc, [], none, 0, going0, 0, -1, 0, _, _, rfl, by rw [hul], rfl, rfl, HF1, ⟨by simp⟩, HS⟩
              case round =>
                obtain ⟨ws, R, up, UA, uc, ev, EA, ec, going, at_, last, steps, uv, E, rfl, rfl, rfl, rfl, HF2, HE2, HS1⟩ := hrel
                clear HF1 HS
                cases gk with
                | zero => exact absurd HF2.out (by simp [playL])
                | succ k1 =>
                  by_cases hg0 : going = 0
                  · have H := HF2.out
                    rw [playL, if_pos hg0] at H
                    simp only [Option.some.injEq, Prod.mk.injEq] at H
                    obtain ⟨rfl, rfl, rfl⟩ := H
                    subst hg0
                    clear HF2
                    go_wp2
                    (try simp only [Exit.inBlock, Exit.then])
                    refine bodyPost_ret (res_three rfl _ _ _) rfl ?_
                    exact ⟨_, _, rfl, HS1.out.er, HS1.out.ur, HS1.out.below⟩
                  · have t0 : (going != 0) = true := by simpa using hg0
                    have HG0 := Aside0.mk hg0
                    clear hg0
                    go_wp2
                    go_loopg [69, 16] S.length (fun k v69 v16 w' => ∃ (i : Nat) (E1 : List Bool), i + k = S.length ∧ v69 = .int .i64 i ∧ Aside0 (E1.length = S.length ∧ ∀ j, j < i → E1.getD j false = bitOn going j) ∧ Aside0 (PSt w wq w' S.length gw bp ge (some ⟨gw, 0, none⟩) wc ws R up UA uc ev EA ec at_ last P uv E1))
                    case atStart => exact ⟨0, E, by omega, rfl, ⟨HE2.out, fun j h => by omega⟩, HS1⟩
                    case round =>
                      obtain ⟨i, E1, hik, rfl, HL1, HS2⟩ := hrel
                      clear HS1
                      have HIK := Aside0.mk hik
                      by_cases hi : i < S.length
                      · have v1 : (i : Int) < (S.length : Int) := by omega
                        have v0 : (0 : Int) ≤ (i : Int) := by omega
                        have HI := Aside0.mk hi
                        have hce : wr.cell? ⟨ge, i, none⟩ = some (.bool (E1.getD i false)) := by
                          refine (blk_cell HS2.out.en i).trans ?_
                          have := HL1.out.1
                          simp [List.getD_eq_getElem?_getD, show i < E1.length by omega]
                        have hfe : wr.frozen? ⟨ge, i, none⟩ = false := blk_frozen HS2.out.en i
                        have HBT := Aside0.mk (show bitOn going i = decide (0 < Go.bits .and .u64 (going / 2 ^ i) 1) by
                          unfold bitOn shr
                          rw [show min ((i : Int)).toNat IntKind.u64.bits = i by show min ((i : Int)).toNat 64 = i; omega])
                        clear hik hi
                        go_wp2
                        go_roundg (S.length - (i + 1))
                        case measure => have := HIK.out; have := HI.out; omega
                        case rel =>
                          refine ⟨i + 1, E1.set i (bitOn going i), by have := HIK.out; have := HI.out; omega, by have := HI.out; first | rfl | (congr 1; done) | (congr 1; unfold wrap64; omega), ⟨by rw [List.length_set]; exact HL1.out.1, fun j hj => ?_⟩, ⟨by rw [← HBT.out]; exact HS2.out.flagged i (bitOn going i)⟩⟩
                          rw [set_getDb E1 i j _ (by have := HL1.out.1; have := HI.out; omega)]
                          by_cases c : j = i
                          · subst c; rw [if_pos rfl]
                          · rw [if_neg c]; exact HL1.out.2 j (by omega)
                      · have v1 : ¬ (i : Int) < (S.length : Int) := by omega
                        have hE : E1 = enG S.length going := enG_of _ _ _ HL1.out.1 (fun j hj => HL1.out.2 j (by omega))
                        subst hE
                        clear hik hi HL1 HIK HE2
                        have hps := HP1.out
                        obtain ⟨Au, cu, rfl⟩ := Kd.V_slice HS2.out.pv
                        have hx := HS2.out.pk
                        have z0 : wr.cell? ⟨bp, 0, none⟩ = some (.slice Au P.length cu) := (blk_cell hx 0).trans rfl
                        have z1 : wr.cell? ⟨bp, 1, none⟩ = some (.int .i64 at_) := (blk_cell hx 1).trans rfl
                        have z2 : wr.cell? ⟨bp, 2, none⟩ = some (.int .i64 last) := (blk_cell hx 2).trans rfl
                        clear hx
                        obtain ⟨who, hwho⟩ : ∃ z, whoS P at_ last (Bits.idx (enG S.length going)) = z := ⟨_, rfl⟩
                        obtain ⟨at2, hat2⟩ : ∃ z, atS P at_ (Bits.idx (enG S.length going)) = z := ⟨_, rfl⟩
                        obtain ⟨last2, hlast2⟩ : ∃ z, lastS P at_ last (Bits.idx (enG S.length going)) = z := ⟨_, rfl⟩
                        have HNX := Aside0.mk (next_call (enG S.length going) S.length (enG_length _ _) h64 _ Au cu P at_ last hps ge wr (Kd.V_map HS2.out.pv (fun _ hf => hf)) HS2.out.en (Tab.below HTAB.out HS2.out.below) who at2 last2 hwho hat2 hlast2)
                        have HWH := Aside0.mk hwho
                        have HAT := Aside0.mk hat2
                        have HLA := Aside0.mk hlast2
                        clear hwho hat2 hlast2 hps
                        go_upto_region 26 with (first | (go_at_call 24; refine HNX.out.mono ?_; rintro e w15 ⟨A', c', rfl, ho, hb⟩; have HV2 := Aside0.mk ho; have HB2 := Aside0.mk hb; clear ho hb) | ((with_reducible refine gate_dst (N := 18) rfl ?_); (try (refine gate_guard (by rfl) ?_; dsimp only)); refine box_event ?hg (N := 18) ?hd (cs := #[.slice none 0 0, .int .i64 0, .int .i64 0]) (t := 58) ?hr ?_; (case hd => rfl); (case hg => rfl); (case hr => first | (go_simp; done) | (go_simp; rfl)); intro gx hgx w17 hbox hb17; have z0 : w17.cell? ⟨gx, 0, none⟩ = some (.slice none 0 0) := (blk_cell hbox 0).trans rfl; have z1 : w17.cell? ⟨gx, 1, none⟩ = some (.int .i64 0) := (blk_cell hbox 1).trans rfl; have z2 : w17.cell? ⟨gx, 2, none⟩ = some (.int .i64 0) := (blk_cell hbox 2).trans rfl; have y0 := blk_frozen hbox 0; have y1 := blk_frozen hbox 1; have y2 := blk_frozen hbox 2; have HGX := Aside0.mk hgx; have HBX := Aside0.mk hbox; have HB17 := Aside0.mk hb17; clear hgx hbox hb17))
                        have hgx := HGX.out
                        have l15 : wr.heap.size ≤ w15.heap.size := below_size HB2.out
                        have e5 : wr.heap.size ≤ gx := by omega
                        clear hgx l15
                        have hb18 := below_set (j := 2) (v := .int .i64 last2) (below_set (j := 1) (v := .int .i64 at2) (below_set (j := 0) (v := .slice A' P.length c') (below_step HB2.out HB17.out) e5) e5) e5
                        have HX3 := Aside0.mk (blk_put (blk_put (blk_put HBX.out 0 (.slice A' P.length c') rfl) 1 (.int .i64 at2) rfl) 2 (.int .i64 last2) rfl)
                        have HV3 := Aside0.mk (Kd.V_mono (Kd.V_far (p := ⟨gx, 2, none⟩) (Kd.V_far (p := ⟨gx, 1, none⟩) (Kd.V_far (p := ⟨gx, 0, none⟩) (Kd.V_below (Kd.V_bound HV2.out) HB17.out) (fun q hq e => by have h1 := hq.2; have h2 := HGX.out; have h3 : q = gx := e; omega) (.slice A' P.length c')) (fun q hq e => by have h1 := hq.2; have h2 := HGX.out; have h3 : q = gx := e; omega) (.int .i64 at2)) (fun q hq e => by have h1 := hq.2; have h2 := HGX.out; have h3 : q = gx := e; omega) (.int .i64 last2)) (fun q hq => hq.1))
                        have HB18 := Aside0.mk hb18
                        clear hb18 HB2 HB17 HBX HV2 HGX z0 z1 z2 y0 y1 y2
                        generalize ((w17.setCell ⟨gx, 0, none⟩ (.slice A' P.length c')).setCell ⟨gx, 1, none⟩ (.int .i64 at2)).setCell ⟨gx, 2, none⟩ (.int .i64 last2) = w18 at *
                        have H := HF2.out
                        rw [playL, if_neg HG0.out] at H
                        rw [HWH.out, HAT.out, HLA.out] at H
                        have hq : 0 ≤ who ∧ who < (S.length : Int) ∧ 0 ≤ steps ∧ steps < 1000000000 ∧ ev.length < 1000000 := Decidable.byContradiction fun c => by rw [if_neg c] at H; cases H
                        rw [if_pos hq] at H
                        obtain ⟨hq1, hq2, hq3, hq4, hq5⟩ := hq
                        obtain ⟨i2, rfl⟩ := Int.eq_ofNat_of_zero_le hq1
                        have hi2 : i2 < S.length := by omega
                        rw [Int.toNat_natCast] at H
                        have HS3 := Aside0.mk (PSt.picked (HS2.out) HB18.out (.slice A' P.length c') at2 last2 (Kd.V_map HV3.out (fun _ hf => hf)))
                        have hx3 := HX3.out
                        have x0 : w18.cell? ⟨gx, 0, none⟩ = some (.slice A' P.length c') := (blk_cell hx3 0).trans rfl
                        have x1 : w18.cell? ⟨gx, 1, none⟩ = some (.int .i64 at2) := (blk_cell hx3 1).trans rfl
                        have x2 : w18.cell? ⟨gx, 2, none⟩ = some (.int .i64 last2) := (blk_cell hx3 2).trans rfl
                        have hpk := blk_below HS2.out.pk HB18.out
                        have z0 : w18.cell? ⟨bp, 0, none⟩ = some (.slice Au P.length cu) := (blk_cell hpk 0).trans rfl
                        have z1 : w18.cell? ⟨bp, 1, none⟩ = some (.int .i64 at_) := (blk_cell hpk 1).trans rfl
                        have z2 : w18.cell? ⟨bp, 2, none⟩ = some (.int .i64 last) := (blk_cell hpk 2).trans rfl
                        have y0 := blk_frozen hpk 0
                        have y1 := blk_frozen hpk 1
                        have y2 := blk_frozen hpk 2
                        have p2 : (0 : Int) ≤ (i2 : Int) := by omega
                        have p3 : (i2 : Int) < (S.length : Int) := by omega
                        have HF4 := Aside0.mk H
                        have HI2 := Aside0.mk hi2
                        have HST4 := Aside0.mk (And.intro hq3 hq4)
                        have HEV4 := Aside0.mk hq5
                        clear hx3 hpk HS2 HF2 HV3 HX3 H hq1 hq2 hq3 hq4 hq5 hi2 HWH HAT HLA HNX HG0 t0
                        go_upto_region 27 with (fail)
                        clear HB18 x0 x1 x2 z0 z1 z2 y0 y1 y2
                        generalize ((w18.setCell ⟨bp, 0, none⟩ (.slice A' P.length c')).setCell ⟨bp, 1, none⟩ (.int .i64 at2)).setCell ⟨bp, 2, none⟩ (.int .i64 last2) = w20 at *
                        have hst : wrap64 (steps + 1) = steps + 1 := by have := HST4.out; exact wr64 (by omega) (by omega)
                        have H := HF4.out
                        cases hgo : goesOn prio.length (steps + 1) (ws.getD i2 z5) with
                        | none => rw [hgo] at H; cases H
                        | some x =>
                          obtain ⟨l, t, b⟩ := x
                          rw [hgo] at H
                          dsimp only at H
                          have hst5 : Steps up prio t := Decidable.byContradiction fun c => by rw [if_neg c] at H; cases H
                          rw [if_pos hst5] at H
                          obtain ⟨A, c, b1, b2, b3, b4⟩ := HS3.out.cells i2 HI2.out
                          have cfd : w20.cell? ⟨gw, i2 * 14 + 13, none⟩ = some (.int .i64 (ws.getD i2 z5).pl) := b4 13 _ rfl
                          have HCL := Aside0.mk (HS3.out.step5 i2 HI2.out HR0.out HC0.out (steps + 1) hgo hst5)
                          clear hgo hst5 b1 b2 b3 b4
                          generalize (ws.getD i2 z5).pl = found at *
                          obtain ⟨up2, hup2⟩ : ∃ x, (stepL up prio t).1 = x := ⟨_, rfl⟩
                          obtain ⟨t2, ht2⟩ : ∃ x, (stepL up prio t).2 = x := ⟨_, rfl⟩
                          rw [hup2, ht2] at H
                          rw [hup2, ht2] at HCL
                          generalize placeW t t2 (steps + 1) found = pl2 at *
                          have HF5 := Aside0.mk H
                          have HLW := Aside0.mk HS3.out.lenW
                          clear H HF4 hup2 ht2
                          go_upto_region 31 with (first | (go_at_call 25; (try rw [hst]); refine HCL.out.mono ?_; rintro e w21 ⟨A9, c9, R9, rfl, hs⟩; have HS4 := Aside0.mk hs; clear hs))
                          have HLI := Aside0.mk (show i2 < ws.length by rw [HLW.out]; exact HI2.out)
                          obtain ⟨A7, c7, b1, b2, b3, b4⟩ := HS4.out.cells i2 HI2.out
                          rw [show (ws.set i2 ⟨l, t2, true, b, pl2⟩).getD i2 z5 = ⟨l, t2, true, b, pl2⟩ by have := HLI.out; simp [List.getD_eq_getElem?_getD, this]] at b1 b2 b3 b4
                          dsimp only at b1 b2 b3 b4
                          have c9 : w21.cell? ⟨gw, i2 * 14 + 9, none⟩ = some (.bool t2.is) := b4 9 _ rfl
                          have HWC := Aside0.mk b2
                          have HWR := Aside0.mk b3
                          have HWO := Aside0.mk b1
                          have HWV := Aside0.mk b4
                          clear b1 b2 b3 b4 cfd HCL
                          cases his : t2.is with
                          | false =>
                            rw [his] at c9
                            have H := HF5.out
                            rw [his, if_neg (by decide)] at H
                            have HFN := Aside0.mk H
                            clear H HF5 his
                            go_wp2
                            go_roundg k1
                            case measure => omega
                            case rel => exact ⟨_, _, _, _, _, _, _, _, _, _, _, _, _, _, rfl, rfl, rfl, rfl, HFN, ⟨enG_length _ _⟩, HS4⟩
                          | true =>
                            rw [his] at c9
                            have H := HF5.out
                            rw [his, if_pos rfl] at H
                            have c1 : w21.cell? ⟨gw, i2 * 14 + 1, none⟩ = some (.int .i64 t2.k) := HWV.out 1 _ rfl
                            have c2 : w21.cell? ⟨gw, i2 * 14 + 2, none⟩ = some (.int .i64 t2.x) := HWV.out 2 _ rfl
                            have c3 : w21.cell? ⟨gw, i2 * 14 + 3, none⟩ = some (.int .i64 t2.y) := HWV.out 3 _ rfl
                            have c10 : w21.cell? ⟨gw, i2 * 14 + 10, none⟩ = some (.int .i64 t2.res) := HWV.out 10 _ rfl
                            have c12 : w21.cell? ⟨gw, i2 * 14 + 12, none⟩ = some (.int .i64 b) := HWV.out 12 _ rfl
                            have hec := event_any gw i2 t2 b (steps + 1) found i2 w21 c1 c2 c3 c10 c12
                            unfold ev42 at hec
                            obtain ⟨e5, he5⟩ : ∃ x, eventS i2 t2 b (steps + 1) found = x := ⟨_, rfl⟩
                            rw [he5] at hec H
                            obtain ⟨f0, ⟨f10, f11, f12⟩, f2, f3, f4, f5⟩ := e5
                            dsimp only at hec
                            obtain ⟨ev2, hev2⟩ : ∃ x, ev ++ [(⟨f0, ⟨f10, f11, f12⟩, f2, f3, f4, f5⟩ : S42)] = x := ⟨_, rfl⟩
                            rw [hev2] at H
                            have HEC := Aside0.mk hec
                            have HE2 := Aside0.mk hev2
                            have HF6 := Aside0.mk H
                            have HIS := Aside0.mk his
                            clear H HF5 hec hev2 he5 c1 c2 c3 c10 c12 his
                            go_upto_region 33 with (first | (go_at_call 26; (try rw [hst]); refine HEC.out.mono ?_; rintro e w22 ⟨rfl, hb⟩; have HS5 := Aside0.mk (HS4.out.below2 hb); clear hb) | ((with_reducible refine gate_builtin (b := .append) (xs := #[.tmp 107, .tmp 113]) rfl ?_); (try (refine gate_guard (by rfl) ?_; dsimp only)); at_builtin; refine Kd.R_append k42 (w0 := w) w.heap.size rfl (.tmp 107) (.tmp 113) 26 42 (.agg #[(.int .i64 0), (.int .i64 0), (.int .i64 0), (.int .i64 0), (.int .i64 0), (.int .i64 0), (.int .i64 0), (.int .i64 0)]) 64 rfl Tryd.underlying26 info42 rfl (by decide) (by omega) (.slice EA ev.length ec) ev (⟨f0, ⟨f10, f11, f12⟩, f2, f3, f4, f5⟩ : S42) [.int .i64 f0, .int .i64 f10, .int .i64 f11, .int .i64 f12, .int .i64 f2, .int .i64 f3, .int .i64 f4, .int .i64 f5] (fun _ => True) (fun _ => False) rfl (by first | (go_simp; done) | (go_simp; rfl)) ?aP (fun _ hk => hk.elim) ?aF ?aO ?aB ?aS ?aL ?_; (case aP => exact k42_mkM _ _ _ (⟨f0, ⟨f10, f11, f12⟩, f2, f3, f4, f5⟩ : S42)); (case aB => exact HS5.out.below); (case aF => exact (fun _ _ => trivial)); (case aO => exact HS5.out.er); (case aS => exact below_size HS5.out.below); (case aL => have := HEV4.out; omega); intro v23 w23 ho hb hg hat; rw [HE2.out] at ho; obtain ⟨EA2, ec2, rfl⟩ := Kd.R_slice ho; have HS6 := Aside0.mk (HS5.out.logged ho hb hg hat); clear ho hb hg hat))
                            have HOV := Aside0.mk (HS6.out.cells i2 HI2.out)
                            have HIW := Aside0.mk (show (ws.set i2 ⟨l, t2, true, b, pl2⟩).getD i2 z5 = ⟨l, t2, true, b, pl2⟩ by have := HLI.out; simp [List.getD_eq_getElem?_getD, this])
                            go_upto_region 34 with (first | ((with_reducible refine gate_store (t := 4) (p := 117) rfl ?_); refine Kd.R_store (Kd.raw 14) (w0 := w) w.heap.size rfl rfl 4 (.tmp 117) (.const (.bool false)) rfl 65 (i2 : Int) 11 R9 (wrow A7 l.length c7 t2 false b pl2) (.bool false) [.bool false] (wrow A7 l.length c7 t2 true b pl2) (fun _ => True) (fun _ => False) rfl (by simp [Kd.raw]) rfl rfl (by kernel_rfl) ?a1 HS6.out.wk (by omega) (by have := HI2.out; omega) rfl ?a2 (by show 11 + 1 ≤ 14; omega) ?a3 (fun _ h => h.elim) HS6.out.below ?_; (case a1 => intro q hq; simp at hq; rcases hq with rfl; rfl); (case a2 => have h := raw_row HS6.out.wk i2 HI2.out; rw [HWO.out] at h; intro j q hq; rw [Int.toNat_natCast]; exact h.2.2.1 j q hq); (case a3 => exact ⟨rfl, rfl, wrow_one A7 l.length c7 t2 false b pl2⟩); intro w24 ho hb hg; rw [Int.toNat_natCast] at ho; have HW24 := Aside0.mk ho; have HB24 := Aside0.mk hb; have HG24 := Aside0.mk hg; clear ho hb hg))
                            have hs7 := HS6.out.worked0 i2 HI2.out ⟨l, t2, false, b, pl2⟩ (A := A7) (c := c7) HWC.out HWR.out (Kd.R_over' HS6.out.ur (Kd.R_typed HS6.out.wk) (by decide) HG24.out) HW24.out (Kept.of_grown HG24.out (Kept.refl _ _) (fun k hk => .inl (by injection hk with hk; exact hk.symm))) HB24.out
                            rw [List.set_set] at hs7
                            have HS7 := Aside0.mk hs7
                            obtain ⟨A8, c8, d1, d2, d3, d4⟩ := HS7.out.cells i2 HI2.out
                            rw [show (ws.set i2 ⟨l, t2, false, b, pl2⟩).getD i2 z5 = ⟨l, t2, false, b, pl2⟩ by have := HLI.out; simp [List.getD_eq_getElem?_getD, this]] at d1 d2 d3 d4
                            dsimp only at d4
                            have cl : w24.cell? ⟨gw, i2 * 14, none⟩ = some (.slice A8 l.length c8) := d4 0 _ rfl
                            have HM := Aside0.mk (show min i2 IntKind.u64.bits = i2 by show min i2 64 = i2; have := HI2.out; omega)
                            clear d1 d2 d3 d4 hs7 c9
                            by_cases hl : l = []
                            · subst hl
                              have H := HF6.out
                              rw [if_pos rfl] at H
                              have HFN := Aside0.mk H
                              clear H HF6
                              replace cl : w24.cell? ⟨gw, i2 * 14, none⟩ = some (.slice A8 0 c8) := cl
                              go_wp2
                              go_roundg k1
                              case measure => omega
                              case rel => exact ⟨_, _, _, _, _, _, _, _, _, _, _, _, _, _, rfl, rfl, rfl, by first | rfl | (have hm := HM.out; simp [shl, hm]), HFN, ⟨enG_length _ _⟩, HS7⟩
                            · have H := HF6.out
                              rw [if_neg hl] at H
                              have HFN := Aside0.mk H
                              have hpos : 0 < l.length := by cases l with | nil => exact absurd rfl hl | cons a b => simp
                              have t1 : ((l.length : Int) == 0) = false := by simp; omega
                              clear H HF6
                              generalize l.length = nl at *
                              go_wp2
                              go_roundg k1
                              case measure => omega
                              case rel => exact ⟨_, _, _, _, _, _, _, _, _, _, _, _, _, _, rfl, rfl, rfl, rfl, HFN, ⟨enG_length _ _⟩, HS7⟩
        · have hS : S = [] := by cases S with | nil => rfl | cons a b => exact absurd (by simp) hs
          subst hS
          have H := HF1.out
          simp only [List.map_nil, List.length_nil, goingTo] at H
          rw [playL, if_pos rfl] at H
          simp only [Option.some.injEq, Prod.mk.injEq] at H
          obtain ⟨rfl, rfl, rfl⟩ := H
          clear HF1 HOK HW3 HST HLS hs
          try simp only [List.length_nil] at *
          go_upto_region 11 with (first | (go_at_call 23; refine (pick_Start.calls A2 c2 P P 0 (-1) wr (Kd.C_below HR2.out HB3.out) HC2.out HPS.out).mono ?_; rintro e w4 ⟨v0, rfl, ho, hb⟩; obtain ⟨Av, cv, e3⟩ := Kd.R_slice ho; subst e3; have HPV := Aside0.mk ho; have HB4 := Aside0.mk hb; clear ho hb) | ((with_reducible refine gate_dst (N := 12) rfl ?_); (try (refine gate_guard (by rfl) ?_; dsimp only)); refine box_event ?hg (N := 12) ?hd (cs := #[.slice none 0 0, .int .i64 0, .int .i64 0]) (t := 58) ?hr ?_; (case hd => rfl); (case hg => rfl); (case hr => first | (go_simp; done) | (go_simp; rfl)); intro bp hbp w5 hbox hb5; have z0 : w5.cell? ⟨bp, 0, none⟩ = some (.slice none 0 0) := (blk_cell hbox 0).trans rfl; have z1 : w5.cell? ⟨bp, 1, none⟩ = some (.int .i64 0) := (blk_cell hbox 1).trans rfl; have z2 : w5.cell? ⟨bp, 2, none⟩ = some (.int .i64 0) := (blk_cell hbox 2).trans rfl; have y0 := blk_frozen hbox 0; have y1 := blk_frozen hbox 1; have y2 := blk_frozen hbox 2; have HBPE := Aside0.mk hbp; have HBX := Aside0.mk hbox; have HB5 := Aside0.mk hb5; clear hbp hbox hb5))
          have HB6 := Aside0.mk (show Below w.heap.size w (((w5.setCell ⟨bp, 0, none⟩ (.slice Av P.length cv)).setCell ⟨bp, 1, none⟩ (.int .i64 0)).setCell ⟨bp, 2, none⟩ (.int .i64 (-1))) by
            have h0 := below_size HB3.out
            have h4 := below_size HB4.out
            have hbp : w.heap.size ≤ bp := by have := HBPE.out; omega
            exact below_set (below_set (below_set (below_step (below_step HB3.out HB4.out) HB5.out) hbp) hbp) hbp)
          have HIU6 := Aside0.mk (show Kd.R (Kd.int .i64) 3 (((w5.setCell ⟨bp, 0, none⟩ (.slice Av P.length cv)).setCell ⟨bp, 1, none⟩ (.int .i64 0)).setCell ⟨bp, 2, none⟩ (.int .i64 (-1))) w.heap.size (fun _ => True) (.slice UA prio.length uc) (upS prio.length) from
            Kd.R_mono (Kd.R_far (p := ⟨bp, 2, none⟩) (Kd.R_far (p := ⟨bp, 1, none⟩) (Kd.R_far (p := ⟨bp, 0, none⟩) (Kd.R_types (Kd.R_below (Kd.R_below HIU.out HB4.out) HB5.out) HBX.out (by decide)) (fun _ hk => hk.2) (.slice Av P.length cv)) (fun _ hk => hk.2) (.int .i64 0)) (fun _ hk => hk.2) (.int .i64 (-1))) (fun _ _ => trivial))
          clear HB3 HB4 HB5 HIU HBX HBPE HPV z0 z1 z2 y0 y1 y2
          have hse : (((w5.setCell ⟨bp, 0, none⟩ (.slice Av P.length cv)).setCell ⟨bp, 1, none⟩ (.int .i64 0)).setCell ⟨bp, 2, none⟩ (.int .i64 (-1))).heap.size = w5.heap.size := by simp [World.setCell]
          generalize (((w5.setCell ⟨bp, 0, none⟩ (.slice Av P.length cv)).setCell ⟨bp, 1, none⟩ (.int .i64 0)).setCell ⟨bp, 2, none⟩ (.int .i64 (-1))) = w6 at *
          have hmk := make_bools w6 0 (by omega)
          rw [show ((0 : Nat) : Int) = 0 from rfl] at hmk
          go_upto_region 12 with (fail)
          have HB7 := Aside0.mk (below_alloc HB6.out (.cells (List.replicate 0 (Value.bool false)).toArray 4 (0, 0)))
          have HIU7 := Aside0.mk (Kd.R_alloc HIU6.out (.cells (List.replicate 0 (Value.bool false)).toArray 4 (0, 0)))
          go_wp2
          go_loopg [50, 14] 0 (fun k v50 v14 w' => k = 0 ∧ v50 = .int .i64 0 ∧ v14 = .int .u64 0 ∧ Aside0 (Below w.heap.size w w') ∧ Aside0 (Kd.R (Kd.int .i64) 3 w' w.heap.size (fun _ => True) (.slice UA prio.length uc) (upS prio.length)))
          case atStart => exact ⟨rfl, rfl, rfl, HB7, HIU7⟩
          case round =>
            obtain ⟨rfl, rfl, rfl, HB8, HIU8⟩ := hrel
            clear HB7 HIU7 HB6 HIU6
            go_wp2
            go_loopg [6, 7, 8, 14] 0 (fun k v6 v7 v8 v14 w' => k = 0 ∧ v6 = .slice none 0 0 ∧ v7 = .slice UA prio.length uc ∧ v8 = .int .i64 0 ∧ v14 = .int .u64 0 ∧ Aside0 (Below w.heap.size w w') ∧ Aside0 (Kd.R (Kd.int .i64) 3 w' w.heap.size (fun _ => True) (.slice UA prio.length uc) (upS prio.length)))
            case atStart => exact ⟨rfl, rfl, rfl, rfl, rfl, HB8, HIU8⟩
            case round =>
              obtain ⟨rfl, rfl, rfl, rfl, rfl, HB9, HIU9⟩ := hrel
              clear HB8 HIU8
              go_wp2
              (try simp only [Exit.inBlock, Exit.then])
              refine bodyPost_ret (res_three rfl _ _ _) rfl ?_
              exact ⟨_, _, rfl, Kd.R_nil _ _ _ _ _, HIU9.out, HB9.out⟩
end Go.Proofs.YtmaiicpaalbcfaaDoor

namespace Go.Proofs.YtmaiicpaalbcfaaDoor.P
open Go.RowKit Go.Proofs.YtmaiicpaalbcfaaDoorW.PrintWords
def play_Play.f (l0 : List Int) (l1 : List (List (S40))) (l2 : List Int) : Option ((List (S42)) × List Int × Int) := playF l0 l1 l2
theorem play_Play.calls (A0 : Option Addr) (c0 : Nat) (l0 : List Int) (A1 : Option Addr) (c1 : Nat) (l1 : List (List (S40))) (A2 : Option Addr) (c2 : Nat) (l2 : List Int) (r1 : List (S42)) (r2 : List Int) (r3 : Int) (w : World) (hr0 : Kd.C (Kd.int .i64) w A0 l0.length l0) (hc0 : l0.length ≤ c0) (hr1 : Kd.C (Kd.slice 40 k40) w A1 l1.length l1) (hc1 : l1.length ≤ c1) (hr2 : Kd.C (Kd.int .i64) w A2 l2.length l2) (hc2 : l2.length ≤ c2) (h : play_Play.f l0 l1 l2 = some (r1, r2, r3)) (hT_ : Tab w := by first | exact hT_ | exact Tab.drewN hT_ _ | (refine Tab.below hT_ ?_; repeat (first | (with_reducible first | exact HB.out | apply below_alloc | apply pw_below_drewN | apply below_drew1) | exact HB.out))) :
    Calls Tryd.prog 11 #[.slice A0 l0.length c0, .slice A1 l1.length c1, .slice A2 l2.length c2] w fun e w' => ∃ v0_ v1_ : Value, e = .returned (.tuple #[v0_, v1_, .int .i64 r3]) ∧ Kd.R k42 42 w' w.heap.size (fun _ => True) v0_ r1 ∧ Kd.R (Kd.int .i64) 3 w' w.heap.size (fun _ => True) v1_ r2 ∧ Below w.heap.size w w' :=
  play_play A0 c0 l0 A1 c1 l1 A2 c2 l2 r1 r2 r3 w hT_ hr0 hc0 hr1 hc1 hr2 hc2 h
end Go.Proofs.YtmaiicpaalbcfaaDoor.P
