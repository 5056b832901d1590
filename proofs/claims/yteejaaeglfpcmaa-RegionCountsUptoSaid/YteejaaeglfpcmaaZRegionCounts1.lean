/- RegionCounts: texts of this session's (PXx_arboretlaw12_RegionCounts, Rdr, PXKinds, PXStateRegionCounts, Aid, Tree, Num, One, Counts, PureRegionCounts, LawRegionCounts), laid together for one claim. -/
import Derived.Test.YteejaaeglfpcmaaZRegionCounts0
set_option linter.unusedVariables false
set_option linter.unusedSimpArgs false
/- Contracts of the functions that the seat's laws reach, each beside a plain Lean function: by a program of this session's (tools/myprint.py over the kit's print.py), with some of its own proof. -/
namespace Go.Proofs.Yteejaaeglfpcmaa.PX
open Go.RowKit Go.Proofs.YteejaaeglfpcmaaW.PrintWords Go.Proofs.YteejaaeglfpcmaaW.PrintLast Go.Proofs.YteejaaeglfpcmaaW.PrintMore
attribute [local go_sem] max2_int min2_int max_two min_two max_three min_three max_four min_four   -- for this text's walks alone
set_option linter.unusedVariables false
set_option linter.unusedSimpArgs false

/-! ### arboretlaw12_RegionCounts: function 7 -/
def arboretlaw12_RegionCounts.j0 : Nat → Bool → ByteArray → List (S104) → List (S39) → Option (Bool)
  | 0, _, _, _, _ => none
  | k + 1, x15, x312000, x312001, x312002 => if x15 = true then ((arboretlaw12_awake.f k).bind fun t314 => (some t314)) else ((region_Counts.f k x312000 x312001 x312002).bind fun bt315 => ((arboretref12_Counts.f k x312000 x312001 x312002).bind fun bt318 => (if bt318.2.2 = true then (if bt315.2.2 = 0 then (if bt315.1 = bt318.1 then (some (bt315.2.1 == bt318.2.1)) else (some false)) else (some false)) else (if bt315.2.2 = 10 then (if bt315.1 = 0 then (some (bt315.2.1 == 0)) else (some false)) else (some false)))))
def arboretlaw12_RegionCounts.f (k : Nat) (a0_0 : ByteArray) (l0_1 : List (S104)) (l0_2 : List (S39)) : Option (Bool) := (arboretlaw12_awake.f k).bind fun t312 => (if t312 = true then ((arboretlaw12_few.f k a0_0 l0_1 l0_2).bind fun t313 => (arboretlaw12_RegionCounts.j0 k (!t313) a0_0 l0_1 l0_2)) else (arboretlaw12_RegionCounts.j0 k true a0_0 l0_1 l0_2))
theorem arboretlaw12_RegionCounts.mono_l : ∀ k, (∀ y0 y1 y2 y3, LeO (arboretlaw12_RegionCounts.j0 k y0 y1 y2 y3) (arboretlaw12_RegionCounts.j0 (k + 1) y0 y1 y2 y3))
  | 0 => fun _ _ _ _ r h => by simp [arboretlaw12_RegionCounts.j0] at h
  | k + 1 => by
    have ih0 := arboretlaw12_RegionCounts.mono_l k
    · intro y0 y1 y2 y3
      unfold arboretlaw12_RegionCounts.j0
      repeat' first
      | (with_reducible exact ih0 _ _ _ _)
      | (with_reducible exact arboretlaw12_awake.mono _)
      | (with_reducible exact arboretlaw12_few.mono _ _ _ _)
      | (with_reducible exact arboretref12_Counts.mono _ _ _ _)
      | (with_reducible exact region_Counts.mono _ _ _ _)
      | (with_reducible exact LeO.refl _)
      | (with_reducible exact LeO.none _)
      | (with_reducible refine LeO.ite ?_ ?_)
      | (with_reducible refine LeO.bind ?_ (fun _ => ?_))
      | exact ih0 _ _ _ _
      | exact arboretlaw12_awake.mono _
      | exact arboretlaw12_few.mono _ _ _ _
      | exact arboretref12_Counts.mono _ _ _ _
      | exact region_Counts.mono _ _ _ _
      | exact LeO.none _
      | refine LeO.ite ?_ ?_
      | refine LeO.bind ?_ (fun _ => ?_)
theorem arboretlaw12_RegionCounts.mono : ∀ a0 a1 a2 k, LeO (arboretlaw12_RegionCounts.f k a0 a1 a2) (arboretlaw12_RegionCounts.f (k + 1) a0 a1 a2) := by
  intro a0 a1 a2 k
  have ih0 := arboretlaw12_RegionCounts.mono_l k
  unfold arboretlaw12_RegionCounts.f
  repeat' first
      | (with_reducible exact ih0 _ _ _ _)
      | (with_reducible exact arboretlaw12_awake.mono _)
      | (with_reducible exact arboretlaw12_few.mono _ _ _ _)
      | (with_reducible exact arboretref12_Counts.mono _ _ _ _)
      | (with_reducible exact region_Counts.mono _ _ _ _)
      | (with_reducible exact LeO.refl _)
      | (with_reducible exact LeO.none _)
      | (with_reducible refine LeO.ite ?_ ?_)
      | (with_reducible refine LeO.bind ?_ (fun _ => ?_))
      | exact ih0 _ _ _ _
      | exact arboretlaw12_awake.mono _
      | exact arboretlaw12_few.mono _ _ _ _
      | exact arboretref12_Counts.mono _ _ _ _
      | exact region_Counts.mono _ _ _ _
      | exact LeO.none _
      | refine LeO.ite ?_ ?_
      | refine LeO.bind ?_ (fun _ => ?_)
set_option maxHeartbeats 8000000 in
set_option maxRecDepth 100000 in
theorem arboretlaw12_RegionCounts.calls (k : Nat) (a0_0 : ByteArray) (A0_1 : Option Addr) (c0_1 : Nat) (l0_1 : List (S104)) (A0_2 : Option Addr) (c0_2 : Nat) (l0_2 : List (S39)) (r : Bool) (w : World) (hr0_1 : Kd.C k104 w A0_1 l0_1.length l0_1) (hc0_1 : l0_1.length ≤ c0_1) (hr0_2 : Kd.C k39 w A0_2 l0_2.length l0_2) (hc0_2 : l0_2.length ≤ c0_2) (h : arboretlaw12_RegionCounts.f k a0_0 l0_1 l0_2 = some r) :
    Calls Try.prog 7 #[.agg #[.string a0_0, .slice A0_1 l0_1.length c0_1, .slice A0_2 l0_2.length c0_2]] w fun e w' => e = .returned (.bool r) ∧ Below w.heap.size w w' := by
  have hu39 := Try.underlying39
  have HR0_1 := Aside0.mk hr0_1
  have HC0_1 := Aside0.mk hc0_1
  clear hr0_1 hc0_1
  have HR0_2 := Aside0.mk hr0_2
  have HC0_2 := Aside0.mk hc0_2
  clear hr0_2 hc0_2
  have HB := Aside0.mk (Below.refl w.heap.size w)
  have H : ((arboretlaw12_awake.f k).bind fun t312 => (if t312 = true then ((arboretlaw12_few.f k a0_0 l0_1 l0_2).bind fun t313 => (arboretlaw12_RegionCounts.j0 k (!t313) a0_0 l0_1 l0_2)) else (arboretlaw12_RegionCounts.j0 k true a0_0 l0_1 l0_2))) = some r := h
  clear h
  have HC2 := Aside0.mk H
  clear H
  go_enter Try.func7, Try.ntmps7
  go_upto_region 1 with (first | ((with_reducible refine gate_dst (N := 1) rfl ?_); refine box_event ?hg (N := 1) ?hd (cs := #[.string a0_0, .slice A0_1 l0_1.length c0_1, .slice A0_2 l0_2.length c0_2]) (t := 39) ?hr ?_; (case hd => rfl); (case hg => rfl); (case hr => first | (go_simp; done) | (go_simp; rfl)); intro gb311 hg w3 hbox hb; have n0_ := Aside0.mk (below_step (by repeat (first | (with_reducible first | exact HB.out | apply below_alloc | apply pw_below_drewN | apply below_drew1) | exact HB.out)) hb); have n1_ := Aside0.mk (hbox); have n2_ := Aside0.mk ((by rw [hg]; exact (below_size (by repeat (first | (with_reducible first | exact HB.out | apply below_alloc | apply pw_below_drewN | apply below_drew1) | exact HB.out))) : w.heap.size ≤ gb311)); have n3_ := Aside0.mk ((by rw [hg]; exact (below_size (by repeat (first | (with_reducible first | exact HB.out | apply below_alloc | apply pw_below_drewN | apply below_drew1) | exact HB.out))) : w.heap.size ≤ gb311)); clear HB; have HB := n0_; have BK311 := n1_; have GW311 := n2_; have GE311 := n3_; clear n0_ n1_ n2_ n3_; clear hb hbox hg))
  (try simp only [Act.put, List.setIfInBounds_toArray, List.set_cons_zero, List.set_cons_succ])
  go_cut [15] (fun v15 wc => ∃ (kq : Nat) (x15_1 : Bool), v15 = .bool x15_1 ∧ Aside0 (arboretlaw12_RegionCounts.j0 kq x15_1 a0_0 l0_1 l0_2 = some r) ∧ Aside0 (kq ≤ k) ∧ Aside0 (wc.heap[gb311]? = some (.cells #[.string a0_0, (.slice A0_1 l0_1.length c0_1), (.slice A0_2 l0_2.length c0_2)] 39 (0, 0))) ∧ Aside0 (Below w.heap.size w wc))
  case first =>
    have H := HC2.out
    clear HC2
    replace H := Option.bind_eq_some_iff.mp H
    obtain ⟨t312, A40, H⟩ := H
    replace H : (if t312 = true then ((arboretlaw12_few.f k a0_0 l0_1 l0_2).bind fun t313 => (arboretlaw12_RegionCounts.j0 k (!t313) a0_0 l0_1 l0_2)) else (arboretlaw12_RegionCounts.j0 k true a0_0 l0_1 l0_2)) = some r := H
    have A4 := Aside0.mk A40
    clear A40
    by_cases c5 : t312 = true
    · subst c5
      have H1 : ((arboretlaw12_few.f k a0_0 l0_1 l0_2).bind fun t313 => (arboretlaw12_RegionCounts.j0 k (!t313) a0_0 l0_1 l0_2)) = some r := by rw [if_pos rfl] at H; exact H
      clear H
      have H := H1
      clear H1
      replace H := Option.bind_eq_some_iff.mp H
      obtain ⟨t313, A60, H⟩ := H
      replace H : (arboretlaw12_RegionCounts.j0 k (!t313) a0_0 l0_1 l0_2) = some r := H
      have A6 := Aside0.mk A60
      clear A60
      have H' := Aside0.mk H
      clear H
      go_wp2_with (first | ((with_reducible refine gate_callee (f := 28) rfl ?_); refine goesL_ (some 9) rfl rfl Try.func28 (by kernel_rfl) rfl #[] rfl (by (try simp only [List.map_toArray, List.map_cons, List.map_nil]); first | done | rfl | (simp only [List.length_drop, List.length_take]; rfl)) ?_; (with_reducible refine (arboretlaw12_awake.calls k  true _ A4.out).mono ?_); rintro e w7 ⟨rfl, hb⟩; refine ⟨_, rfl, ?_⟩; have n0_ := Aside0.mk (blk_below (g := gb311) (o := .cells #[.string a0_0, .slice A0_1 l0_1.length c0_1, .slice A0_2 l0_2.length c0_2] 39 (0, 0)) (by (with_reducible repeat (first | refine blk_drewN ?_ _ | refine blk_drew ?_ | refine blk_alloc ?_ _)); exact BK311.out) hb); have n1_ := Aside0.mk (below_step (by repeat (first | (with_reducible first | exact HB.out | apply below_alloc | apply pw_below_drewN | apply below_drew1 | refine below_set ?_ GE311.out) | exact HB.out)) hb); clear BK311; clear HB; have BK311 := n0_; have HB := n1_; clear n0_ n1_; (try clear hb); (try clear hb2); (try clear hk); (try clear hi); have hcz8_0 : w7.cell? ⟨gb311, 0, none⟩ = some (.string a0_0) := (blk_cell BK311.out 0).trans rfl; have hcz8_1 : w7.cell? ⟨gb311, 1, none⟩ = some (.slice A0_1 l0_1.length c0_1) := (blk_cell BK311.out 1).trans rfl; have hcz8_2 : w7.cell? ⟨gb311, 2, none⟩ = some (.slice A0_2 l0_2.length c0_2) := (blk_cell BK311.out 2).trans rfl; have hfz8_0 := blk_frozen BK311.out 0; have hfz8_1 := blk_frozen BK311.out 1; have hfz8_2 := blk_frozen BK311.out 2) | (go_at_call 29; (with_reducible refine (arboretlaw12_few.calls k a0_0 _ _ l0_1 _ _ l0_2 t313 _ ?side1 ?side2 ?side3 ?side4 A6.out).mono ?_); (case side1 => repeat (first | exact (Kd.C_below HR0_1.out HB.out) | (with_reducible refine Kd.C_alloc ?_ _) | (with_reducible refine Kd.C_drewN ?_ _) | (with_reducible refine Kd.C_drew ?_))); (case side2 => exact HC0_1.out); (case side3 => repeat (first | exact (Kd.C_below HR0_2.out HB.out) | (with_reducible refine Kd.C_alloc ?_ _) | (with_reducible refine Kd.C_drewN ?_ _) | (with_reducible refine Kd.C_drew ?_))); (case side4 => exact HC0_2.out); rintro e w9 ⟨rfl, hb⟩; have n0_ := Aside0.mk (blk_below (g := gb311) (o := .cells #[.string a0_0, .slice A0_1 l0_1.length c0_1, .slice A0_2 l0_2.length c0_2] 39 (0, 0)) (by (with_reducible repeat (first | refine blk_drewN ?_ _ | refine blk_drew ?_ | refine blk_alloc ?_ _)); exact BK311.out) hb); have n1_ := Aside0.mk (below_step (by repeat (first | (with_reducible first | exact HB.out | apply below_alloc | apply pw_below_drewN | apply below_drew1 | refine below_set ?_ GE311.out) | exact HB.out)) hb); clear BK311; clear HB; have BK311 := n0_; have HB := n1_; clear n0_ n1_; (try clear hb); (try clear hb2); (try clear hk); (try clear hi)))
      go_meet
      case rel => exact ⟨_, (!t313), (by first | rfl | (simp; done) | (simp [*]; done)), H', ⟨by first | omega | exact Nat.le_refl _⟩, ⟨by (with_reducible repeat (first | refine blk_drewN ?_ _ | refine blk_drew ?_ | refine blk_alloc ?_ _)); exact BK311.out⟩, ⟨by repeat (first | (with_reducible first | exact HB.out | apply below_alloc | apply pw_below_drewN | apply below_drew1 | refine below_set ?_ GE311.out) | exact HB.out)⟩⟩
    · replace c5 := Bool.eq_false_iff.mpr c5
      subst c5
      have H1 : (arboretlaw12_RegionCounts.j0 k true a0_0 l0_1 l0_2) = some r := by rw [if_neg (show ¬ (false = true) by decide)] at H; exact H
      clear H
      have H := H1
      clear H1
      have H' := Aside0.mk H
      clear H
      go_wp2_with (first | ((with_reducible refine gate_callee (f := 28) rfl ?_); refine goesL_ (some 9) rfl rfl Try.func28 (by kernel_rfl) rfl #[] rfl (by (try simp only [List.map_toArray, List.map_cons, List.map_nil]); first | done | rfl | (simp only [List.length_drop, List.length_take]; rfl)) ?_; (with_reducible refine (arboretlaw12_awake.calls k  false _ A4.out).mono ?_); rintro e w10 ⟨rfl, hb⟩; refine ⟨_, rfl, ?_⟩; have n0_ := Aside0.mk (blk_below (g := gb311) (o := .cells #[.string a0_0, .slice A0_1 l0_1.length c0_1, .slice A0_2 l0_2.length c0_2] 39 (0, 0)) (by (with_reducible repeat (first | refine blk_drewN ?_ _ | refine blk_drew ?_ | refine blk_alloc ?_ _)); exact BK311.out) hb); have n1_ := Aside0.mk (below_step (by repeat (first | (with_reducible first | exact HB.out | apply below_alloc | apply pw_below_drewN | apply below_drew1 | refine below_set ?_ GE311.out) | exact HB.out)) hb); clear BK311; clear HB; have BK311 := n0_; have HB := n1_; clear n0_ n1_; (try clear hb); (try clear hb2); (try clear hk); (try clear hi)))
      go_meet
      case rel => exact ⟨_, (true), (by first | rfl | (simp; done) | (simp [*]; done)), H', ⟨by first | omega | exact Nat.le_refl _⟩, ⟨by (with_reducible repeat (first | refine blk_drewN ?_ _ | refine blk_drew ?_ | refine blk_alloc ?_ _)); exact BK311.out⟩, ⟨by repeat (first | (with_reducible first | exact HB.out | apply below_alloc | apply pw_below_drewN | apply below_drew1 | refine below_set ?_ GE311.out) | exact HB.out)⟩⟩
  case rest =>
    clear HC2
    try clear c2
    try clear p2
    try clear c5
    try clear c7
    try clear hcz8_0
    try clear hcz8_1
    try clear hcz8_2
    try clear hfz8_0
    try clear hfz8_1
    try clear hfz8_2
    obtain ⟨kq, x15_1, rfl, HA, HJ1, BK311, HB⟩ := hcut
    cases kq with
    | zero => exact absurd HA.out (by simp [arboretlaw12_RegionCounts.j0])
    | succ kj1 =>
      have H := HA.out
      clear HA
      simp only [arboretlaw12_RegionCounts.j0] at H
      by_cases c11 : x15_1 = true
      · subst c11
        have H1 : ((arboretlaw12_awake.f kj1).bind fun t314 => (some t314)) = some r := by rw [if_pos rfl] at H; exact H
        clear H
        have H := H1
        clear H1
        replace H := Option.bind_eq_some_iff.mp H
        obtain ⟨t314, A120, H⟩ := H
        replace H : (some t314) = some r := H
        have A12 := Aside0.mk A120
        clear A120
        obtain rfl := Option.some.inj H
        go_wp2_with (first | ((with_reducible refine gate_callee (f := 28) rfl ?_); refine goesL_ (some 16) rfl rfl Try.func28 (by kernel_rfl) rfl #[] rfl (by (try simp only [List.map_toArray, List.map_cons, List.map_nil]); first | done | rfl | (simp only [List.length_drop, List.length_take]; rfl)) ?_; (with_reducible refine (arboretlaw12_awake.calls kj1  t314 _ A12.out).mono ?_); rintro e w13 ⟨rfl, hb⟩; refine ⟨_, rfl, ?_⟩; have n0_ := Aside0.mk (blk_below (g := gb311) (o := .cells #[.string a0_0, .slice A0_1 l0_1.length c0_1, .slice A0_2 l0_2.length c0_2] 39 (0, 0)) (by (with_reducible repeat (first | refine blk_drewN ?_ _ | refine blk_drew ?_ | refine blk_alloc ?_ _)); exact BK311.out) hb); have n1_ := Aside0.mk (below_step (by repeat (first | (with_reducible first | exact HB.out | apply below_alloc | apply pw_below_drewN | apply below_drew1 | refine below_set ?_ GE311.out) | exact HB.out)) hb); clear BK311; clear HB; have BK311 := n0_; have HB := n1_; clear n0_ n1_; (try clear hb); (try clear hb2); (try clear hk); (try clear hi)))
        go_ret
        exact ⟨by first | rfl | (simp [errW_none, errW_some] <;> rfl) | (simp [*, errW_none, errW_some] <;> rfl), by repeat (first | (with_reducible first | exact HB.out | apply below_alloc | apply pw_below_drewN | apply below_drew1 | refine below_set ?_ GE311.out) | exact HB.out)⟩
      · replace c11 := Bool.eq_false_iff.mpr c11
        subst c11
        have H1 : ((region_Counts.f kj1 a0_0 l0_1 l0_2).bind fun bt315 => ((arboretref12_Counts.f kj1 a0_0 l0_1 l0_2).bind fun bt318 => (if bt318.2.2 = true then (if bt315.2.2 = 0 then (if bt315.1 = bt318.1 then (some (bt315.2.1 == bt318.2.1)) else (some false)) else (some false)) else (if bt315.2.2 = 10 then (if bt315.1 = 0 then (some (bt315.2.1 == 0)) else (some false)) else (some false))))) = some r := by rw [if_neg (show ¬ (false = true) by decide)] at H; exact H
        clear H
        have H := H1
        clear H1
        replace H := Option.bind_eq_some_iff.mp H
        obtain ⟨⟨t315, t316, t317⟩, A140, H⟩ := H
        replace H : ((arboretref12_Counts.f kj1 a0_0 l0_1 l0_2).bind fun bt318 => (if bt318.2.2 = true then (if t317 = 0 then (if t315 = bt318.1 then (some (t316 == bt318.2.1)) else (some false)) else (some false)) else (if t317 = 10 then (if t315 = 0 then (some (t316 == 0)) else (some false)) else (some false)))) = some r := H
        have A14 := Aside0.mk A140
        clear A140
        replace H := Option.bind_eq_some_iff.mp H
        obtain ⟨⟨t318, t319, t320⟩, A150, H⟩ := H
        replace H : (if t320 = true then (if t317 = 0 then (if t315 = t318 then (some (t316 == t319)) else (some false)) else (some false)) else (if t317 = 10 then (if t315 = 0 then (some (t316 == 0)) else (some false)) else (some false))) = some r := H
        have A15 := Aside0.mk A150
        clear A150
        by_cases c16 : t320 = true
        · subst c16
          have H1 : (if t317 = 0 then (if t315 = t318 then (some (t316 == t319)) else (some false)) else (some false)) = some r := by rw [if_pos rfl] at H; exact H
          clear H
          have H := H1
          clear H1
          by_cases c17 : t317 = 0
          · rw [if_pos c17] at H
            have c17b0 : (t317 == 0) = true := beq_iff_eq.mpr c17
            have c17b1 : (t317 != 0) = false := bne_eq_false_iff_eq.mpr c17
            clear c17
            by_cases c18 : t315 = t318
            · rw [if_pos c18] at H
              have c18b0 : (t315 == t318) = true := beq_iff_eq.mpr c18
              have c18b1 : (t315 != t318) = false := bne_eq_false_iff_eq.mpr c18
              clear c18
              obtain rfl := Option.some.inj H
              have hcz19_0 : wc.cell? ⟨gb311, 0, none⟩ = some (.string a0_0) := (blk_cell BK311.out 0).trans rfl
              have hcz19_1 : wc.cell? ⟨gb311, 1, none⟩ = some (.slice A0_1 l0_1.length c0_1) := (blk_cell BK311.out 1).trans rfl
              have hcz19_2 : wc.cell? ⟨gb311, 2, none⟩ = some (.slice A0_2 l0_2.length c0_2) := (blk_cell BK311.out 2).trans rfl
              have hfz19_0 := blk_frozen BK311.out 0
              have hfz19_1 := blk_frozen BK311.out 1
              have hfz19_2 := blk_frozen BK311.out 2
              go_wp2_with (first | ((with_reducible refine gate_callee (f := 30) rfl ?_); refine goesL_ (some 19) rfl rfl Try.func30 (by kernel_rfl) rfl #[.agg #[.string a0_0, .slice A0_1 l0_1.length c0_1, .slice A0_2 l0_2.length c0_2]] rfl (by (try simp only [List.map_toArray, List.map_cons, List.map_nil]); first | done | rfl | (simp only [List.length_drop, List.length_take]; rfl)) ?_; (with_reducible refine (region_Counts.calls kj1 a0_0 _ _ l0_1 _ _ l0_2 t315 t316 t317 _ ?side1 ?side2 ?side3 ?side4 A14.out).mono ?_); (case side1 => repeat (first | exact (Kd.C_below HR0_1.out HB.out) | (with_reducible refine Kd.C_alloc ?_ _) | (with_reducible refine Kd.C_drewN ?_ _) | (with_reducible refine Kd.C_drew ?_))); (case side2 => exact HC0_1.out); (case side3 => repeat (first | exact (Kd.C_below HR0_2.out HB.out) | (with_reducible refine Kd.C_alloc ?_ _) | (with_reducible refine Kd.C_drewN ?_ _) | (with_reducible refine Kd.C_drew ?_))); (case side4 => exact HC0_2.out); rintro e w20 ⟨rfl, hb⟩; refine ⟨_, rfl, ?_⟩; have n0_ := Aside0.mk (blk_below (g := gb311) (o := .cells #[.string a0_0, .slice A0_1 l0_1.length c0_1, .slice A0_2 l0_2.length c0_2] 39 (0, 0)) (by (with_reducible repeat (first | refine blk_drewN ?_ _ | refine blk_drew ?_ | refine blk_alloc ?_ _)); exact BK311.out) hb); have n1_ := Aside0.mk (below_step (by repeat (first | (with_reducible first | exact HB.out | apply below_alloc | apply pw_below_drewN | apply below_drew1 | refine below_set ?_ GE311.out) | exact HB.out)) hb); clear BK311; clear HB; have BK311 := n0_; have HB := n1_; clear n0_ n1_; (try clear hb); (try clear hb2); (try clear hk); (try clear hi); have hcz21_0 : w20.cell? ⟨gb311, 0, none⟩ = some (.string a0_0) := (blk_cell BK311.out 0).trans rfl; have hcz21_1 : w20.cell? ⟨gb311, 1, none⟩ = some (.slice A0_1 l0_1.length c0_1) := (blk_cell BK311.out 1).trans rfl; have hcz21_2 : w20.cell? ⟨gb311, 2, none⟩ = some (.slice A0_2 l0_2.length c0_2) := (blk_cell BK311.out 2).trans rfl; have hfz21_0 := blk_frozen BK311.out 0; have hfz21_1 := blk_frozen BK311.out 1; have hfz21_2 := blk_frozen BK311.out 2) | ((with_reducible refine gate_callee (f := 31) rfl ?_); refine goesL_ (some 25) rfl rfl Try.func31 (by kernel_rfl) rfl #[.agg #[.string a0_0, .slice A0_1 l0_1.length c0_1, .slice A0_2 l0_2.length c0_2]] rfl (by (try simp only [List.map_toArray, List.map_cons, List.map_nil]); first | done | rfl | (simp only [List.length_drop, List.length_take]; rfl)) ?_; (with_reducible refine (arboretref12_Counts.calls kj1 a0_0 _ _ l0_1 _ _ l0_2 t318 t319 true _ ?side1 ?side2 ?side3 ?side4 A15.out).mono ?_); (case side1 => repeat (first | exact (Kd.C_below HR0_1.out HB.out) | (with_reducible refine Kd.C_alloc ?_ _) | (with_reducible refine Kd.C_drewN ?_ _) | (with_reducible refine Kd.C_drew ?_))); (case side2 => exact HC0_1.out); (case side3 => repeat (first | exact (Kd.C_below HR0_2.out HB.out) | (with_reducible refine Kd.C_alloc ?_ _) | (with_reducible refine Kd.C_drewN ?_ _) | (with_reducible refine Kd.C_drew ?_))); (case side4 => exact HC0_2.out); rintro e w22 ⟨rfl, hb⟩; refine ⟨_, rfl, ?_⟩; have n0_ := Aside0.mk (blk_below (g := gb311) (o := .cells #[.string a0_0, .slice A0_1 l0_1.length c0_1, .slice A0_2 l0_2.length c0_2] 39 (0, 0)) (by (with_reducible repeat (first | refine blk_drewN ?_ _ | refine blk_drew ?_ | refine blk_alloc ?_ _)); exact BK311.out) hb); have n1_ := Aside0.mk (below_step (by repeat (first | (with_reducible first | exact HB.out | apply below_alloc | apply pw_below_drewN | apply below_drew1 | refine below_set ?_ GE311.out) | exact HB.out)) hb); clear BK311; clear HB; have BK311 := n0_; have HB := n1_; clear n0_ n1_; (try clear hb); (try clear hb2); (try clear hk); (try clear hi)))
              go_ret
              exact ⟨by first | rfl | (simp [errW_none, errW_some] <;> rfl) | (simp [*, errW_none, errW_some] <;> rfl), by repeat (first | (with_reducible first | exact HB.out | apply below_alloc | apply pw_below_drewN | apply below_drew1 | refine below_set ?_ GE311.out) | exact HB.out)⟩
            · rw [if_neg c18] at H
              have c18b0 : (t315 == t318) = false := beq_eq_false_iff_ne.mpr c18
              have c18b1 : (t315 != t318) = true := bne_iff_ne.mpr c18
              obtain rfl := Option.some.inj H
              have hcz23_0 : wc.cell? ⟨gb311, 0, none⟩ = some (.string a0_0) := (blk_cell BK311.out 0).trans rfl
              have hcz23_1 : wc.cell? ⟨gb311, 1, none⟩ = some (.slice A0_1 l0_1.length c0_1) := (blk_cell BK311.out 1).trans rfl
              have hcz23_2 : wc.cell? ⟨gb311, 2, none⟩ = some (.slice A0_2 l0_2.length c0_2) := (blk_cell BK311.out 2).trans rfl
              have hfz23_0 := blk_frozen BK311.out 0
              have hfz23_1 := blk_frozen BK311.out 1
              have hfz23_2 := blk_frozen BK311.out 2
              go_wp2_with (first | ((with_reducible refine gate_callee (f := 30) rfl ?_); refine goesL_ (some 19) rfl rfl Try.func30 (by kernel_rfl) rfl #[.agg #[.string a0_0, .slice A0_1 l0_1.length c0_1, .slice A0_2 l0_2.length c0_2]] rfl (by (try simp only [List.map_toArray, List.map_cons, List.map_nil]); first | done | rfl | (simp only [List.length_drop, List.length_take]; rfl)) ?_; (with_reducible refine (region_Counts.calls kj1 a0_0 _ _ l0_1 _ _ l0_2 t315 t316 t317 _ ?side1 ?side2 ?side3 ?side4 A14.out).mono ?_); (case side1 => repeat (first | exact (Kd.C_below HR0_1.out HB.out) | (with_reducible refine Kd.C_alloc ?_ _) | (with_reducible refine Kd.C_drewN ?_ _) | (with_reducible refine Kd.C_drew ?_))); (case side2 => exact HC0_1.out); (case side3 => repeat (first | exact (Kd.C_below HR0_2.out HB.out) | (with_reducible refine Kd.C_alloc ?_ _) | (with_reducible refine Kd.C_drewN ?_ _) | (with_reducible refine Kd.C_drew ?_))); (case side4 => exact HC0_2.out); rintro e w24 ⟨rfl, hb⟩; refine ⟨_, rfl, ?_⟩; have n0_ := Aside0.mk (blk_below (g := gb311) (o := .cells #[.string a0_0, .slice A0_1 l0_1.length c0_1, .slice A0_2 l0_2.length c0_2] 39 (0, 0)) (by (with_reducible repeat (first | refine blk_drewN ?_ _ | refine blk_drew ?_ | refine blk_alloc ?_ _)); exact BK311.out) hb); have n1_ := Aside0.mk (below_step (by repeat (first | (with_reducible first | exact HB.out | apply below_alloc | apply pw_below_drewN | apply below_drew1 | refine below_set ?_ GE311.out) | exact HB.out)) hb); clear BK311; clear HB; have BK311 := n0_; have HB := n1_; clear n0_ n1_; (try clear hb); (try clear hb2); (try clear hk); (try clear hi); have hcz25_0 : w24.cell? ⟨gb311, 0, none⟩ = some (.string a0_0) := (blk_cell BK311.out 0).trans rfl; have hcz25_1 : w24.cell? ⟨gb311, 1, none⟩ = some (.slice A0_1 l0_1.length c0_1) := (blk_cell BK311.out 1).trans rfl; have hcz25_2 : w24.cell? ⟨gb311, 2, none⟩ = some (.slice A0_2 l0_2.length c0_2) := (blk_cell BK311.out 2).trans rfl; have hfz25_0 := blk_frozen BK311.out 0; have hfz25_1 := blk_frozen BK311.out 1; have hfz25_2 := blk_frozen BK311.out 2) | ((with_reducible refine gate_callee (f := 31) rfl ?_); refine goesL_ (some 25) rfl rfl Try.func31 (by kernel_rfl) rfl #[.agg #[.string a0_0, .slice A0_1 l0_1.length c0_1, .slice A0_2 l0_2.length c0_2]] rfl (by (try simp only [List.map_toArray, List.map_cons, List.map_nil]); first | done | rfl | (simp only [List.length_drop, List.length_take]; rfl)) ?_; (with_reducible refine (arboretref12_Counts.calls kj1 a0_0 _ _ l0_1 _ _ l0_2 t318 t319 true _ ?side1 ?side2 ?side3 ?side4 A15.out).mono ?_); (case side1 => repeat (first | exact (Kd.C_below HR0_1.out HB.out) | (with_reducible refine Kd.C_alloc ?_ _) | (with_reducible refine Kd.C_drewN ?_ _) | (with_reducible refine Kd.C_drew ?_))); (case side2 => exact HC0_1.out); (case side3 => repeat (first | exact (Kd.C_below HR0_2.out HB.out) | (with_reducible refine Kd.C_alloc ?_ _) | (with_reducible refine Kd.C_drewN ?_ _) | (with_reducible refine Kd.C_drew ?_))); (case side4 => exact HC0_2.out); rintro e w26 ⟨rfl, hb⟩; refine ⟨_, rfl, ?_⟩; have n0_ := Aside0.mk (blk_below (g := gb311) (o := .cells #[.string a0_0, .slice A0_1 l0_1.length c0_1, .slice A0_2 l0_2.length c0_2] 39 (0, 0)) (by (with_reducible repeat (first | refine blk_drewN ?_ _ | refine blk_drew ?_ | refine blk_alloc ?_ _)); exact BK311.out) hb); have n1_ := Aside0.mk (below_step (by repeat (first | (with_reducible first | exact HB.out | apply below_alloc | apply pw_below_drewN | apply below_drew1 | refine below_set ?_ GE311.out) | exact HB.out)) hb); clear BK311; clear HB; have BK311 := n0_; have HB := n1_; clear n0_ n1_; (try clear hb); (try clear hb2); (try clear hk); (try clear hi)))
              go_ret
              exact ⟨by first | rfl | (simp [errW_none, errW_some] <;> rfl) | (simp [*, errW_none, errW_some] <;> rfl), by repeat (first | (with_reducible first | exact HB.out | apply below_alloc | apply pw_below_drewN | apply below_drew1 | refine below_set ?_ GE311.out) | exact HB.out)⟩
          · rw [if_neg c17] at H
            have c17b0 : (t317 == 0) = false := beq_eq_false_iff_ne.mpr c17
            have c17b1 : (t317 != 0) = true := bne_iff_ne.mpr c17
            obtain rfl := Option.some.inj H
            have hcz27_0 : wc.cell? ⟨gb311, 0, none⟩ = some (.string a0_0) := (blk_cell BK311.out 0).trans rfl
            have hcz27_1 : wc.cell? ⟨gb311, 1, none⟩ = some (.slice A0_1 l0_1.length c0_1) := (blk_cell BK311.out 1).trans rfl
            have hcz27_2 : wc.cell? ⟨gb311, 2, none⟩ = some (.slice A0_2 l0_2.length c0_2) := (blk_cell BK311.out 2).trans rfl
            have hfz27_0 := blk_frozen BK311.out 0
            have hfz27_1 := blk_frozen BK311.out 1
            have hfz27_2 := blk_frozen BK311.out 2
            go_wp2_with (first | ((with_reducible refine gate_callee (f := 30) rfl ?_); refine goesL_ (some 19) rfl rfl Try.func30 (by kernel_rfl) rfl #[.agg #[.string a0_0, .slice A0_1 l0_1.length c0_1, .slice A0_2 l0_2.length c0_2]] rfl (by (try simp only [List.map_toArray, List.map_cons, List.map_nil]); first | done | rfl | (simp only [List.length_drop, List.length_take]; rfl)) ?_; (with_reducible refine (region_Counts.calls kj1 a0_0 _ _ l0_1 _ _ l0_2 t315 t316 t317 _ ?side1 ?side2 ?side3 ?side4 A14.out).mono ?_); (case side1 => repeat (first | exact (Kd.C_below HR0_1.out HB.out) | (with_reducible refine Kd.C_alloc ?_ _) | (with_reducible refine Kd.C_drewN ?_ _) | (with_reducible refine Kd.C_drew ?_))); (case side2 => exact HC0_1.out); (case side3 => repeat (first | exact (Kd.C_below HR0_2.out HB.out) | (with_reducible refine Kd.C_alloc ?_ _) | (with_reducible refine Kd.C_drewN ?_ _) | (with_reducible refine Kd.C_drew ?_))); (case side4 => exact HC0_2.out); rintro e w28 ⟨rfl, hb⟩; refine ⟨_, rfl, ?_⟩; have n0_ := Aside0.mk (blk_below (g := gb311) (o := .cells #[.string a0_0, .slice A0_1 l0_1.length c0_1, .slice A0_2 l0_2.length c0_2] 39 (0, 0)) (by (with_reducible repeat (first | refine blk_drewN ?_ _ | refine blk_drew ?_ | refine blk_alloc ?_ _)); exact BK311.out) hb); have n1_ := Aside0.mk (below_step (by repeat (first | (with_reducible first | exact HB.out | apply below_alloc | apply pw_below_drewN | apply below_drew1 | refine below_set ?_ GE311.out) | exact HB.out)) hb); clear BK311; clear HB; have BK311 := n0_; have HB := n1_; clear n0_ n1_; (try clear hb); (try clear hb2); (try clear hk); (try clear hi); have hcz29_0 : w28.cell? ⟨gb311, 0, none⟩ = some (.string a0_0) := (blk_cell BK311.out 0).trans rfl; have hcz29_1 : w28.cell? ⟨gb311, 1, none⟩ = some (.slice A0_1 l0_1.length c0_1) := (blk_cell BK311.out 1).trans rfl; have hcz29_2 : w28.cell? ⟨gb311, 2, none⟩ = some (.slice A0_2 l0_2.length c0_2) := (blk_cell BK311.out 2).trans rfl; have hfz29_0 := blk_frozen BK311.out 0; have hfz29_1 := blk_frozen BK311.out 1; have hfz29_2 := blk_frozen BK311.out 2) | ((with_reducible refine gate_callee (f := 31) rfl ?_); refine goesL_ (some 25) rfl rfl Try.func31 (by kernel_rfl) rfl #[.agg #[.string a0_0, .slice A0_1 l0_1.length c0_1, .slice A0_2 l0_2.length c0_2]] rfl (by (try simp only [List.map_toArray, List.map_cons, List.map_nil]); first | done | rfl | (simp only [List.length_drop, List.length_take]; rfl)) ?_; (with_reducible refine (arboretref12_Counts.calls kj1 a0_0 _ _ l0_1 _ _ l0_2 t318 t319 true _ ?side1 ?side2 ?side3 ?side4 A15.out).mono ?_); (case side1 => repeat (first | exact (Kd.C_below HR0_1.out HB.out) | (with_reducible refine Kd.C_alloc ?_ _) | (with_reducible refine Kd.C_drewN ?_ _) | (with_reducible refine Kd.C_drew ?_))); (case side2 => exact HC0_1.out); (case side3 => repeat (first | exact (Kd.C_below HR0_2.out HB.out) | (with_reducible refine Kd.C_alloc ?_ _) | (with_reducible refine Kd.C_drewN ?_ _) | (with_reducible refine Kd.C_drew ?_))); (case side4 => exact HC0_2.out); rintro e w30 ⟨rfl, hb⟩; refine ⟨_, rfl, ?_⟩; have n0_ := Aside0.mk (blk_below (g := gb311) (o := .cells #[.string a0_0, .slice A0_1 l0_1.length c0_1, .slice A0_2 l0_2.length c0_2] 39 (0, 0)) (by (with_reducible repeat (first | refine blk_drewN ?_ _ | refine blk_drew ?_ | refine blk_alloc ?_ _)); exact BK311.out) hb); have n1_ := Aside0.mk (below_step (by repeat (first | (with_reducible first | exact HB.out | apply below_alloc | apply pw_below_drewN | apply below_drew1 | refine below_set ?_ GE311.out) | exact HB.out)) hb); clear BK311; clear HB; have BK311 := n0_; have HB := n1_; clear n0_ n1_; (try clear hb); (try clear hb2); (try clear hk); (try clear hi)))
            go_ret
            exact ⟨by first | rfl | (simp [errW_none, errW_some] <;> rfl) | (simp [*, errW_none, errW_some] <;> rfl), by repeat (first | (with_reducible first | exact HB.out | apply below_alloc | apply pw_below_drewN | apply below_drew1 | refine below_set ?_ GE311.out) | exact HB.out)⟩
        · replace c16 := Bool.eq_false_iff.mpr c16
          subst c16
          have H1 : (if t317 = 10 then (if t315 = 0 then (some (t316 == 0)) else (some false)) else (some false)) = some r := by rw [if_neg (show ¬ (false = true) by decide)] at H; exact H
          clear H
          have H := H1
          clear H1
          by_cases c31 : t317 = 10
          · rw [if_pos c31] at H
            have c31b0 : (t317 == 10) = true := beq_iff_eq.mpr c31
            have c31b1 : (t317 != 10) = false := bne_eq_false_iff_eq.mpr c31
            clear c31
            by_cases c32 : t315 = 0
            · rw [if_pos c32] at H
              have c32b0 : (t315 == 0) = true := beq_iff_eq.mpr c32
              have c32b1 : (t315 != 0) = false := bne_eq_false_iff_eq.mpr c32
              clear c32
              obtain rfl := Option.some.inj H
              have hcz33_0 : wc.cell? ⟨gb311, 0, none⟩ = some (.string a0_0) := (blk_cell BK311.out 0).trans rfl
              have hcz33_1 : wc.cell? ⟨gb311, 1, none⟩ = some (.slice A0_1 l0_1.length c0_1) := (blk_cell BK311.out 1).trans rfl
              have hcz33_2 : wc.cell? ⟨gb311, 2, none⟩ = some (.slice A0_2 l0_2.length c0_2) := (blk_cell BK311.out 2).trans rfl
              have hfz33_0 := blk_frozen BK311.out 0
              have hfz33_1 := blk_frozen BK311.out 1
              have hfz33_2 := blk_frozen BK311.out 2
              go_wp2_with (first | ((with_reducible refine gate_callee (f := 30) rfl ?_); refine goesL_ (some 19) rfl rfl Try.func30 (by kernel_rfl) rfl #[.agg #[.string a0_0, .slice A0_1 l0_1.length c0_1, .slice A0_2 l0_2.length c0_2]] rfl (by (try simp only [List.map_toArray, List.map_cons, List.map_nil]); first | done | rfl | (simp only [List.length_drop, List.length_take]; rfl)) ?_; (with_reducible refine (region_Counts.calls kj1 a0_0 _ _ l0_1 _ _ l0_2 t315 t316 t317 _ ?side1 ?side2 ?side3 ?side4 A14.out).mono ?_); (case side1 => repeat (first | exact (Kd.C_below HR0_1.out HB.out) | (with_reducible refine Kd.C_alloc ?_ _) | (with_reducible refine Kd.C_drewN ?_ _) | (with_reducible refine Kd.C_drew ?_))); (case side2 => exact HC0_1.out); (case side3 => repeat (first | exact (Kd.C_below HR0_2.out HB.out) | (with_reducible refine Kd.C_alloc ?_ _) | (with_reducible refine Kd.C_drewN ?_ _) | (with_reducible refine Kd.C_drew ?_))); (case side4 => exact HC0_2.out); rintro e w34 ⟨rfl, hb⟩; refine ⟨_, rfl, ?_⟩; have n0_ := Aside0.mk (blk_below (g := gb311) (o := .cells #[.string a0_0, .slice A0_1 l0_1.length c0_1, .slice A0_2 l0_2.length c0_2] 39 (0, 0)) (by (with_reducible repeat (first | refine blk_drewN ?_ _ | refine blk_drew ?_ | refine blk_alloc ?_ _)); exact BK311.out) hb); have n1_ := Aside0.mk (below_step (by repeat (first | (with_reducible first | exact HB.out | apply below_alloc | apply pw_below_drewN | apply below_drew1 | refine below_set ?_ GE311.out) | exact HB.out)) hb); clear BK311; clear HB; have BK311 := n0_; have HB := n1_; clear n0_ n1_; (try clear hb); (try clear hb2); (try clear hk); (try clear hi); have hcz35_0 : w34.cell? ⟨gb311, 0, none⟩ = some (.string a0_0) := (blk_cell BK311.out 0).trans rfl; have hcz35_1 : w34.cell? ⟨gb311, 1, none⟩ = some (.slice A0_1 l0_1.length c0_1) := (blk_cell BK311.out 1).trans rfl; have hcz35_2 : w34.cell? ⟨gb311, 2, none⟩ = some (.slice A0_2 l0_2.length c0_2) := (blk_cell BK311.out 2).trans rfl; have hfz35_0 := blk_frozen BK311.out 0; have hfz35_1 := blk_frozen BK311.out 1; have hfz35_2 := blk_frozen BK311.out 2) | ((with_reducible refine gate_callee (f := 31) rfl ?_); refine goesL_ (some 25) rfl rfl Try.func31 (by kernel_rfl) rfl #[.agg #[.string a0_0, .slice A0_1 l0_1.length c0_1, .slice A0_2 l0_2.length c0_2]] rfl (by (try simp only [List.map_toArray, List.map_cons, List.map_nil]); first | done | rfl | (simp only [List.length_drop, List.length_take]; rfl)) ?_; (with_reducible refine (arboretref12_Counts.calls kj1 a0_0 _ _ l0_1 _ _ l0_2 t318 t319 false _ ?side1 ?side2 ?side3 ?side4 A15.out).mono ?_); (case side1 => repeat (first | exact (Kd.C_below HR0_1.out HB.out) | (with_reducible refine Kd.C_alloc ?_ _) | (with_reducible refine Kd.C_drewN ?_ _) | (with_reducible refine Kd.C_drew ?_))); (case side2 => exact HC0_1.out); (case side3 => repeat (first | exact (Kd.C_below HR0_2.out HB.out) | (with_reducible refine Kd.C_alloc ?_ _) | (with_reducible refine Kd.C_drewN ?_ _) | (with_reducible refine Kd.C_drew ?_))); (case side4 => exact HC0_2.out); rintro e w36 ⟨rfl, hb⟩; refine ⟨_, rfl, ?_⟩; have n0_ := Aside0.mk (blk_below (g := gb311) (o := .cells #[.string a0_0, .slice A0_1 l0_1.length c0_1, .slice A0_2 l0_2.length c0_2] 39 (0, 0)) (by (with_reducible repeat (first | refine blk_drewN ?_ _ | refine blk_drew ?_ | refine blk_alloc ?_ _)); exact BK311.out) hb); have n1_ := Aside0.mk (below_step (by repeat (first | (with_reducible first | exact HB.out | apply below_alloc | apply pw_below_drewN | apply below_drew1 | refine below_set ?_ GE311.out) | exact HB.out)) hb); clear BK311; clear HB; have BK311 := n0_; have HB := n1_; clear n0_ n1_; (try clear hb); (try clear hb2); (try clear hk); (try clear hi)))
              go_ret
              exact ⟨by first | rfl | (simp [errW_none, errW_some] <;> rfl) | (simp [*, errW_none, errW_some] <;> rfl), by repeat (first | (with_reducible first | exact HB.out | apply below_alloc | apply pw_below_drewN | apply below_drew1 | refine below_set ?_ GE311.out) | exact HB.out)⟩
            · rw [if_neg c32] at H
              have c32b0 : (t315 == 0) = false := beq_eq_false_iff_ne.mpr c32
              have c32b1 : (t315 != 0) = true := bne_iff_ne.mpr c32
              obtain rfl := Option.some.inj H
              have hcz37_0 : wc.cell? ⟨gb311, 0, none⟩ = some (.string a0_0) := (blk_cell BK311.out 0).trans rfl
              have hcz37_1 : wc.cell? ⟨gb311, 1, none⟩ = some (.slice A0_1 l0_1.length c0_1) := (blk_cell BK311.out 1).trans rfl
              have hcz37_2 : wc.cell? ⟨gb311, 2, none⟩ = some (.slice A0_2 l0_2.length c0_2) := (blk_cell BK311.out 2).trans rfl
              have hfz37_0 := blk_frozen BK311.out 0
              have hfz37_1 := blk_frozen BK311.out 1
              have hfz37_2 := blk_frozen BK311.out 2
              go_wp2_with (first | ((with_reducible refine gate_callee (f := 30) rfl ?_); refine goesL_ (some 19) rfl rfl Try.func30 (by kernel_rfl) rfl #[.agg #[.string a0_0, .slice A0_1 l0_1.length c0_1, .slice A0_2 l0_2.length c0_2]] rfl (by (try simp only [List.map_toArray, List.map_cons, List.map_nil]); first | done | rfl | (simp only [List.length_drop, List.length_take]; rfl)) ?_; (with_reducible refine (region_Counts.calls kj1 a0_0 _ _ l0_1 _ _ l0_2 t315 t316 t317 _ ?side1 ?side2 ?side3 ?side4 A14.out).mono ?_); (case side1 => repeat (first | exact (Kd.C_below HR0_1.out HB.out) | (with_reducible refine Kd.C_alloc ?_ _) | (with_reducible refine Kd.C_drewN ?_ _) | (with_reducible refine Kd.C_drew ?_))); (case side2 => exact HC0_1.out); (case side3 => repeat (first | exact (Kd.C_below HR0_2.out HB.out) | (with_reducible refine Kd.C_alloc ?_ _) | (with_reducible refine Kd.C_drewN ?_ _) | (with_reducible refine Kd.C_drew ?_))); (case side4 => exact HC0_2.out); rintro e w38 ⟨rfl, hb⟩; refine ⟨_, rfl, ?_⟩; have n0_ := Aside0.mk (blk_below (g := gb311) (o := .cells #[.string a0_0, .slice A0_1 l0_1.length c0_1, .slice A0_2 l0_2.length c0_2] 39 (0, 0)) (by (with_reducible repeat (first | refine blk_drewN ?_ _ | refine blk_drew ?_ | refine blk_alloc ?_ _)); exact BK311.out) hb); have n1_ := Aside0.mk (below_step (by repeat (first | (with_reducible first | exact HB.out | apply below_alloc | apply pw_below_drewN | apply below_drew1 | refine below_set ?_ GE311.out) | exact HB.out)) hb); clear BK311; clear HB; have BK311 := n0_; have HB := n1_; clear n0_ n1_; (try clear hb); (try clear hb2); (try clear hk); (try clear hi); have hcz39_0 : w38.cell? ⟨gb311, 0, none⟩ = some (.string a0_0) := (blk_cell BK311.out 0).trans rfl; have hcz39_1 : w38.cell? ⟨gb311, 1, none⟩ = some (.slice A0_1 l0_1.length c0_1) := (blk_cell BK311.out 1).trans rfl; have hcz39_2 : w38.cell? ⟨gb311, 2, none⟩ = some (.slice A0_2 l0_2.length c0_2) := (blk_cell BK311.out 2).trans rfl; have hfz39_0 := blk_frozen BK311.out 0; have hfz39_1 := blk_frozen BK311.out 1; have hfz39_2 := blk_frozen BK311.out 2) | ((with_reducible refine gate_callee (f := 31) rfl ?_); refine goesL_ (some 25) rfl rfl Try.func31 (by kernel_rfl) rfl #[.agg #[.string a0_0, .slice A0_1 l0_1.length c0_1, .slice A0_2 l0_2.length c0_2]] rfl (by (try simp only [List.map_toArray, List.map_cons, List.map_nil]); first | done | rfl | (simp only [List.length_drop, List.length_take]; rfl)) ?_; (with_reducible refine (arboretref12_Counts.calls kj1 a0_0 _ _ l0_1 _ _ l0_2 t318 t319 false _ ?side1 ?side2 ?side3 ?side4 A15.out).mono ?_); (case side1 => repeat (first | exact (Kd.C_below HR0_1.out HB.out) | (with_reducible refine Kd.C_alloc ?_ _) | (with_reducible refine Kd.C_drewN ?_ _) | (with_reducible refine Kd.C_drew ?_))); (case side2 => exact HC0_1.out); (case side3 => repeat (first | exact (Kd.C_below HR0_2.out HB.out) | (with_reducible refine Kd.C_alloc ?_ _) | (with_reducible refine Kd.C_drewN ?_ _) | (with_reducible refine Kd.C_drew ?_))); (case side4 => exact HC0_2.out); rintro e w40 ⟨rfl, hb⟩; refine ⟨_, rfl, ?_⟩; have n0_ := Aside0.mk (blk_below (g := gb311) (o := .cells #[.string a0_0, .slice A0_1 l0_1.length c0_1, .slice A0_2 l0_2.length c0_2] 39 (0, 0)) (by (with_reducible repeat (first | refine blk_drewN ?_ _ | refine blk_drew ?_ | refine blk_alloc ?_ _)); exact BK311.out) hb); have n1_ := Aside0.mk (below_step (by repeat (first | (with_reducible first | exact HB.out | apply below_alloc | apply pw_below_drewN | apply below_drew1 | refine below_set ?_ GE311.out) | exact HB.out)) hb); clear BK311; clear HB; have BK311 := n0_; have HB := n1_; clear n0_ n1_; (try clear hb); (try clear hb2); (try clear hk); (try clear hi)))
              go_ret
              exact ⟨by first | rfl | (simp [errW_none, errW_some] <;> rfl) | (simp [*, errW_none, errW_some] <;> rfl), by repeat (first | (with_reducible first | exact HB.out | apply below_alloc | apply pw_below_drewN | apply below_drew1 | refine below_set ?_ GE311.out) | exact HB.out)⟩
          · rw [if_neg c31] at H
            have c31b0 : (t317 == 10) = false := beq_eq_false_iff_ne.mpr c31
            have c31b1 : (t317 != 10) = true := bne_iff_ne.mpr c31
            obtain rfl := Option.some.inj H
            have hcz41_0 : wc.cell? ⟨gb311, 0, none⟩ = some (.string a0_0) := (blk_cell BK311.out 0).trans rfl
            have hcz41_1 : wc.cell? ⟨gb311, 1, none⟩ = some (.slice A0_1 l0_1.length c0_1) := (blk_cell BK311.out 1).trans rfl
            have hcz41_2 : wc.cell? ⟨gb311, 2, none⟩ = some (.slice A0_2 l0_2.length c0_2) := (blk_cell BK311.out 2).trans rfl
            have hfz41_0 := blk_frozen BK311.out 0
            have hfz41_1 := blk_frozen BK311.out 1
            have hfz41_2 := blk_frozen BK311.out 2
            go_wp2_with (first | ((with_reducible refine gate_callee (f := 30) rfl ?_); refine goesL_ (some 19) rfl rfl Try.func30 (by kernel_rfl) rfl #[.agg #[.string a0_0, .slice A0_1 l0_1.length c0_1, .slice A0_2 l0_2.length c0_2]] rfl (by (try simp only [List.map_toArray, List.map_cons, List.map_nil]); first | done | rfl | (simp only [List.length_drop, List.length_take]; rfl)) ?_; (with_reducible refine (region_Counts.calls kj1 a0_0 _ _ l0_1 _ _ l0_2 t315 t316 t317 _ ?side1 ?side2 ?side3 ?side4 A14.out).mono ?_); (case side1 => repeat (first | exact (Kd.C_below HR0_1.out HB.out) | (with_reducible refine Kd.C_alloc ?_ _) | (with_reducible refine Kd.C_drewN ?_ _) | (with_reducible refine Kd.C_drew ?_))); (case side2 => exact HC0_1.out); (case side3 => repeat (first | exact (Kd.C_below HR0_2.out HB.out) | (with_reducible refine Kd.C_alloc ?_ _) | (with_reducible refine Kd.C_drewN ?_ _) | (with_reducible refine Kd.C_drew ?_))); (case side4 => exact HC0_2.out); rintro e w42 ⟨rfl, hb⟩; refine ⟨_, rfl, ?_⟩; have n0_ := Aside0.mk (blk_below (g := gb311) (o := .cells #[.string a0_0, .slice A0_1 l0_1.length c0_1, .slice A0_2 l0_2.length c0_2] 39 (0, 0)) (by (with_reducible repeat (first | refine blk_drewN ?_ _ | refine blk_drew ?_ | refine blk_alloc ?_ _)); exact BK311.out) hb); have n1_ := Aside0.mk (below_step (by repeat (first | (with_reducible first | exact HB.out | apply below_alloc | apply pw_below_drewN | apply below_drew1 | refine below_set ?_ GE311.out) | exact HB.out)) hb); clear BK311; clear HB; have BK311 := n0_; have HB := n1_; clear n0_ n1_; (try clear hb); (try clear hb2); (try clear hk); (try clear hi); have hcz43_0 : w42.cell? ⟨gb311, 0, none⟩ = some (.string a0_0) := (blk_cell BK311.out 0).trans rfl; have hcz43_1 : w42.cell? ⟨gb311, 1, none⟩ = some (.slice A0_1 l0_1.length c0_1) := (blk_cell BK311.out 1).trans rfl; have hcz43_2 : w42.cell? ⟨gb311, 2, none⟩ = some (.slice A0_2 l0_2.length c0_2) := (blk_cell BK311.out 2).trans rfl; have hfz43_0 := blk_frozen BK311.out 0; have hfz43_1 := blk_frozen BK311.out 1; have hfz43_2 := blk_frozen BK311.out 2) | ((with_reducible refine gate_callee (f := 31) rfl ?_); refine goesL_ (some 25) rfl rfl Try.func31 (by kernel_rfl) rfl #[.agg #[.string a0_0, .slice A0_1 l0_1.length c0_1, .slice A0_2 l0_2.length c0_2]] rfl (by (try simp only [List.map_toArray, List.map_cons, List.map_nil]); first | done | rfl | (simp only [List.length_drop, List.length_take]; rfl)) ?_; (with_reducible refine (arboretref12_Counts.calls kj1 a0_0 _ _ l0_1 _ _ l0_2 t318 t319 false _ ?side1 ?side2 ?side3 ?side4 A15.out).mono ?_); (case side1 => repeat (first | exact (Kd.C_below HR0_1.out HB.out) | (with_reducible refine Kd.C_alloc ?_ _) | (with_reducible refine Kd.C_drewN ?_ _) | (with_reducible refine Kd.C_drew ?_))); (case side2 => exact HC0_1.out); (case side3 => repeat (first | exact (Kd.C_below HR0_2.out HB.out) | (with_reducible refine Kd.C_alloc ?_ _) | (with_reducible refine Kd.C_drewN ?_ _) | (with_reducible refine Kd.C_drew ?_))); (case side4 => exact HC0_2.out); rintro e w44 ⟨rfl, hb⟩; refine ⟨_, rfl, ?_⟩; have n0_ := Aside0.mk (blk_below (g := gb311) (o := .cells #[.string a0_0, .slice A0_1 l0_1.length c0_1, .slice A0_2 l0_2.length c0_2] 39 (0, 0)) (by (with_reducible repeat (first | refine blk_drewN ?_ _ | refine blk_drew ?_ | refine blk_alloc ?_ _)); exact BK311.out) hb); have n1_ := Aside0.mk (below_step (by repeat (first | (with_reducible first | exact HB.out | apply below_alloc | apply pw_below_drewN | apply below_drew1 | refine below_set ?_ GE311.out) | exact HB.out)) hb); clear BK311; clear HB; have BK311 := n0_; have HB := n1_; clear n0_ n1_; (try clear hb); (try clear hb2); (try clear hk); (try clear hi)))
            go_ret
            exact ⟨by first | rfl | (simp [errW_none, errW_some] <;> rfl) | (simp [*, errW_none, errW_some] <;> rfl), by repeat (first | (with_reducible first | exact HB.out | apply below_alloc | apply pw_below_drewN | apply below_drew1 | refine below_set ?_ GE311.out) | exact HB.out)⟩

end Go.Proofs.Yteejaaeglfpcmaa.PX

/- How the kinds of the printed words are read out of what a row's arguments hold: slices, strings, numbers; lists' bulk. Own text, no statement of its own. -/
set_option linter.unusedVariables false
namespace Go.Proofs.Yteejaaeglfpcmaa.Rdr
open Go.RowKit Go.Proofs.YteejaaeglfpcmaaW.PrintWords Go.ChangeShapes Go.WideShapes

/-- The bulk of a list, by its elements'. -/
def sumB {α : Type} (B : α → Nat) : List α → Nat
  | [] => 0
  | x :: r => B x + sumB B r

theorem sumB_le {α : Type} {H : Type} {B : α → Nat} : ∀ {xs : List α} {ds : List (DataW H)}, xs.length = ds.length → (∀ (i : Nat) (x : α) (d : DataW H), xs[i]? = some x → ds[i]? = some d → B x ≤ Rows.uptoBulk d) → sumB B xs ≤ Rows.uptoBulkAll ds
  | [], [], _, _ => Nat.le_refl _
  | x :: xs, d :: ds, hl, h => by
    have h0 := h 0 x d rfl rfl
    have h1 := sumB_le (xs := xs) (ds := ds) (by simpa using hl) (fun i a b ha hb => h (i + 1) a b (by simpa using ha) (by simpa using hb))
    simp only [sumB, Rows.uptoBulkAll]
    omega
  | [], _ :: _, hl, _ => by simp at hl
  | _ :: _, [], hl, _ => by simp at hl

theorem sumB_mem {α : Type} {B : α → Nat} {x : α} : ∀ {xs : List α}, x ∈ xs → B x ≤ sumB B xs
  | a :: r, h => by
    simp only [sumB]
    rcases List.mem_cons.1 h with rfl | h
    · omega
    · have := sumB_mem (B := B) h
      omega
theorem sumB_len {α : Type} {B : α → Nat} (h1 : ∀ x, 1 ≤ B x) : ∀ xs : List α, xs.length ≤ sumB B xs
  | [] => Nat.le_refl _
  | x :: r => by
    have := h1 x
    have := sumB_len h1 r
    simp only [sumB, List.length_cons]
    omega
theorem sumB_one {α : Type} (xs : List α) : sumB (fun _ => 1) xs = xs.length := by
  induction xs with
  | nil => rfl
  | cons x r ih => simp only [sumB, ih, List.length_cons]; omega

theorem list_of {α : Type} {n : Nat} {Q : Nat → α → Prop} (h : ∀ i, i < n → ∃ x, Q i x) : ∃ xs : List α, xs.length = n ∧ ∀ (i : Nat) (x : α), xs[i]? = some x → Q i x := by
  induction n with
  | zero => exact ⟨[], rfl, fun i x hx => by simp at hx⟩
  | succ n ih =>
    obtain ⟨xs, hl, hq⟩ := ih (fun i hi => h i (by omega))
    obtain ⟨y, hy⟩ := h n (by omega)
    refine ⟨xs ++ [y], by simp [hl], fun i x hx => ?_⟩
    rcases Nat.lt_trichotomy i xs.length with hi | hi | hi
    · rw [List.getElem?_append_left hi] at hx
      exact hq i x hx
    · subst hi
      rw [List.getElem?_append_right (Nat.le_refl _)] at hx
      simp at hx
      subst hx
      rw [hl]
      exact hy
    · rw [List.getElem?_append_right (by omega), List.getElem?_eq_none (by simp; omega)] at hx
      cases hx

/-- What reads at a depth below n as data of type t is of the kind d; its bulk is no greater, and it is 'G'. -/
def RdF (P : Program) (W : World) (n : Nat) {α : Type} (d : Kd α) (t : TypeId) (B : α → Nat) (G : α → Prop) : Prop :=
  ∀ (H : Type) (enc : TypeId × Value → H) (fuel : Nat), fuel ≤ n → ∀ (cs : List Value) (x : DataW H × List MemPlace),
    DataW.trod enc P W 0 (fun _ => true) true fuel t cs = some x → ∃ a, d.K W a cs ∧ B a ≤ Rows.uptoBulk x.1 ∧ G a
section
variable {P : Program} {W : World} {n : Nat}
theorem RdF.mono {n' : Nat} {α : Type} {d : Kd α} {t : TypeId} {B : α → Nat} {G : α → Prop} (h : RdF P W n d t B G) (hn : n' ≤ n) : RdF P W n' d t B G :=
  fun H enc fuel hf cs x hx => h H enc fuel (Nat.le_trans hf hn) cs x hx

def wfI (k : IntKind) (x : Int) : Prop := (Lit.int k x).wf = true

theorem rd_int {t : TypeId} {k : IntKind} (ht : P.underlying t = some (.int k)) : RdF P W n (Kd.int k) t (fun _ => 1) (wfI k) := by
  intro H enc fuel hf cs x h
  cases fuel with
  | zero => simp [DataW.trod] at h
  | succ m =>
    unfold DataW.trod at h
    rw [ht] at h
    split at h <;> simp_all
    rename_i k' y z
    obtain ⟨⟨rfl, hw⟩, rfl⟩ := h
    exact ⟨y, rfl, by simp [Rows.uptoBulk], hw⟩
theorem rd_bool {t : TypeId} (ht : P.underlying t = some .bool) : RdF P W n Kd.bool t (fun _ => 1) (fun _ => True) := by
  intro H enc fuel hf cs x h
  cases fuel with
  | zero => simp [DataW.trod] at h
  | succ m =>
    unfold DataW.trod at h
    rw [ht] at h
    split at h <;> simp_all
    subst h
    rename_i b0
    simp only [Rows.uptoBulk]
    first | exact ⟨b0, rfl, Nat.le_refl _, trivial⟩ | (cases b0 <;> simp [Kd.bool, Kd.scalar])
theorem rd_string {t : TypeId} (ht : P.underlying t = some .string) : RdF P W n Kd.string t (fun s => s.size + 1) (fun _ => True) := by
  intro H enc fuel hf cs x h
  cases fuel with
  | zero => simp [DataW.trod] at h
  | succ m =>
    unfold DataW.trod at h
    rw [ht] at h
    split at h <;> simp_all
    obtain ⟨_, rfl⟩ := h
    refine ⟨_, rfl, ?_⟩
    simp [Rows.uptoBulk]

theorem rd_slice {t e : TypeId} {α : Type} {d : Kd α} {B : α → Nat} {G : α → Prop} (ht : P.underlying t = some (.slice e)) (hc : P.cellsOf e = d.sz) (h : RdF P W n d e B G) : RdF P W (n + 1) (Kd.slice e d) t (fun xs => sumB B xs + 1) (fun xs => ∀ x ∈ xs, G x) := by
  intro H enc fuel hf cs x hx
  rcases DataW.trod_slice ht hx with ⟨rfl, rfl⟩ | ⟨a, len, cap, elems, rest, m, rfl, rfl, rfl, hb, hl, hm, hlen, hel, _⟩
  · exact ⟨[], ⟨none, 0, rfl, Nat.le_refl _, rfl, by simp, fun h0 => absurd h0 (by simp)⟩, by simp [sumB, Rows.uptoBulk], fun x hx => by simp at hx⟩
  · have each : ∀ i, i < len → ∃ y : α, ∃ c : List Value, ∃ z, elems[i]? = some z ∧ W.cells? 0 (a.add (i * P.cellsOf e)) (P.cellsOf e) = some c ∧ d.K W y c ∧ B y ≤ Rows.uptoBulk z.1 ∧ G y := by
      intro i hi
      have h1 := hel i hi
      obtain ⟨z, hz⟩ : ∃ z, elems[i]? = some z := ⟨_, List.getElem?_eq_getElem (by omega)⟩
      rw [hz] at h1
      obtain ⟨c, hc1, hc2⟩ := Option.bind_eq_some_iff.1 h1
      obtain ⟨y, k1, k2, k3⟩ := h H enc m (by omega) c z hc2
      exact ⟨y, c, z, hz, hc1, k1, k2, k3⟩
    obtain ⟨ys, hyl, hy⟩ := list_of each
    refine ⟨ys, ⟨some a, cap, by rw [hyl], by omega, ?_⟩, ?_, ?_⟩
    · refine ⟨rfl, ?_, fun _ => ⟨a, rfl, fun j p hj => ?_⟩⟩
      · have : cap ≤ 9223372036854775807 := by simpa [maxLen] using hm
        omega
      · obtain ⟨c, z, _, hcs, hk, _, _⟩ := hy j p hj
        obtain ⟨_, hcl, hcc⟩ := World.cells?_some hcs
        refine ⟨c, by rw [hcl, hc], hk, fun i u hu => ?_⟩
        have hi : i < P.cellsOf e := by
          rw [← hcl]
          exact (List.getElem?_eq_some_iff.1 hu).1
        have h2 := hcc i hi
        rw [hu] at h2
        rw [← h2, hc]
        rw [Deep.add_add]
    · have : sumB B ys ≤ Rows.uptoBulkAll (elems.map (·.1)) := by
        refine sumB_le (by simp [hyl, hlen]) (fun i y dd hyi hdi => ?_)
        obtain ⟨c, z, hz, _, _, hB, _⟩ := hy i y hyi
        rw [List.getElem?_map, hz] at hdi
        simp at hdi
        rw [← hdi]
        exact hB
      simp only [Rows.uptoBulk]
      omega
    · intro y hyy
      obtain ⟨i, hi, he⟩ := List.getElem_of_mem hyy
      obtain ⟨_, _, _, _, _, _, hg⟩ := hy i y (by rw [List.getElem?_eq_getElem hi, he])
      exact hg
end

theorem len_of_trod {P : Program} {W : World} {H : Type} {enc : TypeId × Value → H} {t e : TypeId} {fuel n c B M : Nat} {a : Option Addr} {d : DataW H} {ps : List MemPlace} (ht : P.underlying t = some (.slice e))
    (h : DataW.trod enc P W 0 (fun _ => true) true fuel t [.slice a n c] = some (d, ps)) (hy : ∀ xs ys, d = .slice xs ys → (xs.length + ys.length) * B ≤ M) : n * B ≤ M := by
  rcases DataW.trod_slice ht h with ⟨he, _⟩ | ⟨a', len, cap, elems, rest, m, _, he, hx, _, _, _, hlen, _⟩
  · injection he with he
    injection he with _ h2 _
    subst h2
    simp
  · injection he with he
    injection he with _ h2 _
    subst h2
    injection hx with hx _
    have := hy _ _ hx
    simp only [List.length_map] at this
    rw [hlen] at this
    exact Nat.le_trans (Nat.mul_le_mul_right _ (Nat.le_add_right _ _)) this
theorem len_1 {α : Type} {l : List α} (h : l.length = 1) : ∃ a0, l = [a0] := by
  match l, h with
  | [b0], _ => exact ⟨b0, rfl⟩
theorem len_2 {α : Type} {l : List α} (h : l.length = 2) : ∃ a0 a1, l = [a0, a1] := by
  match l, h with
  | [b0, b1], _ => exact ⟨b0, b1, rfl⟩
theorem len_3 {α : Type} {l : List α} (h : l.length = 3) : ∃ a0 a1 a2, l = [a0, a1, a2] := by
  match l, h with
  | [b0, b1, b2], _ => exact ⟨b0, b1, b2, rfl⟩
theorem len_4 {α : Type} {l : List α} (h : l.length = 4) : ∃ a0 a1 a2 a3, l = [a0, a1, a2, a3] := by
  match l, h with
  | [b0, b1, b2, b3], _ => exact ⟨b0, b1, b2, b3, rfl⟩
theorem len_5 {α : Type} {l : List α} (h : l.length = 5) : ∃ a0 a1 a2 a3 a4, l = [a0, a1, a2, a3, a4] := by
  match l, h with
  | [b0, b1, b2, b3, b4], _ => exact ⟨b0, b1, b2, b3, b4, rfl⟩
theorem len_6 {α : Type} {l : List α} (h : l.length = 6) : ∃ a0 a1 a2 a3 a4 a5, l = [a0, a1, a2, a3, a4, a5] := by
  match l, h with
  | [b0, b1, b2, b3, b4, b5], _ => exact ⟨b0, b1, b2, b3, b4, b5, rfl⟩
theorem len_7 {α : Type} {l : List α} (h : l.length = 7) : ∃ a0 a1 a2 a3 a4 a5 a6, l = [a0, a1, a2, a3, a4, a5, a6] := by
  match l, h with
  | [b0, b1, b2, b3, b4, b5, b6], _ => exact ⟨b0, b1, b2, b3, b4, b5, b6, rfl⟩
theorem len_8 {α : Type} {l : List α} (h : l.length = 8) : ∃ a0 a1 a2 a3 a4 a5 a6 a7, l = [a0, a1, a2, a3, a4, a5, a6, a7] := by
  match l, h with
  | [b0, b1, b2, b3, b4, b5, b6, b7], _ => exact ⟨b0, b1, b2, b3, b4, b5, b6, b7, rfl⟩
theorem len_9 {α : Type} {l : List α} (h : l.length = 9) : ∃ a0 a1 a2 a3 a4 a5 a6 a7 a8, l = [a0, a1, a2, a3, a4, a5, a6, a7, a8] := by
  match l, h with
  | [b0, b1, b2, b3, b4, b5, b6, b7, b8], _ => exact ⟨b0, b1, b2, b3, b4, b5, b6, b7, b8, rfl⟩
theorem len_10 {α : Type} {l : List α} (h : l.length = 10) : ∃ a0 a1 a2 a3 a4 a5 a6 a7 a8 a9, l = [a0, a1, a2, a3, a4, a5, a6, a7, a8, a9] := by
  match l, h with
  | [b0, b1, b2, b3, b4, b5, b6, b7, b8, b9], _ => exact ⟨b0, b1, b2, b3, b4, b5, b6, b7, b8, b9, rfl⟩
theorem len_11 {α : Type} {l : List α} (h : l.length = 11) : ∃ a0 a1 a2 a3 a4 a5 a6 a7 a8 a9 a10, l = [a0, a1, a2, a3, a4, a5, a6, a7, a8, a9, a10] := by
  match l, h with
  | [b0, b1, b2, b3, b4, b5, b6, b7, b8, b9, b10], _ => exact ⟨b0, b1, b2, b3, b4, b5, b6, b7, b8, b9, b10, rfl⟩
theorem len_12 {α : Type} {l : List α} (h : l.length = 12) : ∃ a0 a1 a2 a3 a4 a5 a6 a7 a8 a9 a10 a11, l = [a0, a1, a2, a3, a4, a5, a6, a7, a8, a9, a10, a11] := by
  match l, h with
  | [b0, b1, b2, b3, b4, b5, b6, b7, b8, b9, b10, b11], _ => exact ⟨b0, b1, b2, b3, b4, b5, b6, b7, b8, b9, b10, b11, rfl⟩
/-- a struct's fields, told one by one -/
theorem all_1 {H : Type} {x : DataW H} : Rows.uptoBulkAll [x] = Rows.uptoBulk x := by simp [Rows.uptoBulkAll]
theorem bound {H : Type} {l : List (DataW H)} (hk : Rows.uptoSmall H l = true) : Rows.uptoBulkAll l ≤ 1048576 := of_decide_eq_true hk
end Go.Proofs.Yteejaaeglfpcmaa.Rdr

/- The kinds of structs that laws take: their bulk, what is good of them, and how they are read out of a row's arguments. Own text. -/
set_option linter.unusedVariables false
set_option linter.unusedSimpArgs false
namespace Go.Proofs.Yteejaaeglfpcmaa.PX
open Go.RowKit Go.Proofs.Yteejaaeglfpcmaa.Rdr Go.Proofs.YteejaaeglfpcmaaW.PrintWords Go.Proofs.YteejaaeglfpcmaaW.PrintLast Go.Proofs.YteejaaeglfpcmaaW.PrintMore
def bulk151 (x : S151) : Nat := (fun _ => 1) x.f0 + (fun _ => 1) x.f1 + 1
def good151 (x : S151) : Prop := (wfI .u64) x.f0 ∧ (wfI .u64) x.f1
theorem rd151 (W : World) (n : Nat) : RdF Try.prog W n k151 151 bulk151 good151 := by
  intro H enc fuel hfu cs x h
  cases n with
  | zero =>
    obtain rfl : fuel = 0 := by omega
    simp [DataW.trod] at h
  | succ n =>
  obtain ⟨xs, m, rfl, rfl, hl, hlen, hf⟩ := DataW.trod_struct Try.underlying151 h
  have hl' : cs.length = 2 := hl.trans (by kernel_rfl)
  clear hl
  obtain ⟨u0, u1, rfl⟩ := len_2 hl'
  have z24 : Try.prog.cellsOf 24 = 1 := by kernel_rfl
  obtain ⟨y0, hy0⟩ : ∃ y, xs[0]? = some y := ⟨_, List.getElem?_eq_getElem (by rw [hlen]; decide)⟩
  have h0 := hf 0 _ rfl
  rw [hy0] at h0
  simp only [z24, List.getElem_toArray, List.getElem_cons_zero, List.getElem_cons_succ, List.drop_zero, List.drop_succ_cons, List.take_succ_cons, List.take_zero] at h0
  have h0' : DataW.trod enc Try.prog W 0 (fun _ => true) true m 24 [u0] = some y0 := h0
  obtain ⟨y1, hy1⟩ : ∃ y, xs[1]? = some y := ⟨_, List.getElem?_eq_getElem (by rw [hlen]; decide)⟩
  have h1 := hf 1 _ rfl
  rw [hy1] at h1
  simp only [z24, List.getElem_toArray, List.getElem_cons_zero, List.getElem_cons_succ, List.drop_zero, List.drop_succ_cons, List.take_succ_cons, List.take_zero] at h1
  have h1' : DataW.trod enc Try.prog W 0 (fun _ => true) true m 24 [u1] = some y1 := h1
  obtain ⟨a0, k0, b0, g0⟩ := (rd_int (n := (n + 1)) Try.underlying24) H enc m (by omega) _ _ h0'
  obtain ⟨a1, k1, b1, g1⟩ := (rd_int (n := (n + 1)) Try.underlying24) H enc m (by omega) _ _ h1'
  have hall : xs = [y0, y1] := by
    obtain ⟨q0, q1, rfl⟩ := len_2 (l := xs) hlen
    simp only [List.getElem?_cons_zero, List.getElem?_cons_succ, Option.some.injEq] at hy0 hy1
    rw [hy0, hy1]
  subst hall
  refine ⟨⟨a0, a1⟩, ⟨[u0], [u1], rfl, k0, k1⟩, ?_, ?_⟩
  · (try dsimp only at b0); (try dsimp only at b1); simp only [bulk151, Rows.uptoBulk, Rows.uptoBulkAll, List.map_cons, List.map_nil]; omega
  · exact ⟨g0, g1⟩
def bulk104 (x : S104) : Nat := (fun s => s.size + 1) x.f0 + (fun xs => sumB (fun _ => 1) xs + 1) x.f1 + 1
def good104 (x : S104) : Prop := (fun _ => True) x.f0 ∧ (fun xs => ∀ x ∈ xs, (wfI .u8) x) x.f1
theorem rd104 (W : World) (n : Nat) : RdF Try.prog W n k104 104 bulk104 good104 := by
  intro H enc fuel hfu cs x h
  cases n with
  | zero =>
    obtain rfl : fuel = 0 := by omega
    simp [DataW.trod] at h
  | succ n =>
  obtain ⟨xs, m, rfl, rfl, hl, hlen, hf⟩ := DataW.trod_struct Try.underlying104 h
  have hl' : cs.length = 2 := hl.trans (by kernel_rfl)
  clear hl
  obtain ⟨u0, u1, rfl⟩ := len_2 hl'
  have z9 : Try.prog.cellsOf 9 = 1 := by kernel_rfl
  have z95 : Try.prog.cellsOf 95 = 1 := by kernel_rfl
  obtain ⟨y0, hy0⟩ : ∃ y, xs[0]? = some y := ⟨_, List.getElem?_eq_getElem (by rw [hlen]; decide)⟩
  have h0 := hf 0 _ rfl
  rw [hy0] at h0
  simp only [z9, List.getElem_toArray, List.getElem_cons_zero, List.getElem_cons_succ, List.drop_zero, List.drop_succ_cons, List.take_succ_cons, List.take_zero] at h0
  have h0' : DataW.trod enc Try.prog W 0 (fun _ => true) true m 9 [u0] = some y0 := h0
  obtain ⟨y1, hy1⟩ : ∃ y, xs[1]? = some y := ⟨_, List.getElem?_eq_getElem (by rw [hlen]; decide)⟩
  have h1 := hf 1 _ rfl
  rw [hy1] at h1
  simp only [z95, List.getElem_toArray, List.getElem_cons_zero, List.getElem_cons_succ, List.drop_zero, List.drop_succ_cons, List.take_succ_cons, List.take_zero] at h1
  have h1' : DataW.trod enc Try.prog W 0 (fun _ => true) true m 95 [u1] = some y1 := h1
  obtain ⟨a0, k0, b0, g0⟩ := (rd_string (n := (n + 1)) Try.underlying9) H enc m (by omega) _ _ h0'
  obtain ⟨a1, k1, b1, g1⟩ := (rd_slice (n := n) Try.underlying95 (by kernel_rfl) (rd_int (n := n) Try.underlying5)) H enc m (by omega) _ _ h1'
  have hall : xs = [y0, y1] := by
    obtain ⟨q0, q1, rfl⟩ := len_2 (l := xs) hlen
    simp only [List.getElem?_cons_zero, List.getElem?_cons_succ, Option.some.injEq] at hy0 hy1
    rw [hy0, hy1]
  subst hall
  refine ⟨⟨a0, a1⟩, ⟨[u0], [u1], rfl, k0, k1⟩, ?_, ?_⟩
  · (try dsimp only at b0); (try dsimp only at b1); simp only [bulk104, Rows.uptoBulk, Rows.uptoBulkAll, List.map_cons, List.map_nil]; omega
  · exact ⟨g0, g1⟩
mutual
def bulk39 : S39 → Nat
  | ⟨x0, x1, x2⟩ => (fun s => s.size + 1) x0 + (fun xs => sumB bulk104 xs + 1) x1 + (bulks39 x2 + 1) + 1
def bulks39 : List S39 → Nat
  | [] => 0
  | x :: r => bulk39 x + bulks39 r
end
theorem bulks39_eq (l : List S39) : bulks39 l = sumB bulk39 l := by
  induction l with
  | nil => rfl
  | cons x r ih => simp only [bulks39, sumB, ih]
mutual
def good39 : S39 → Prop
  | ⟨x0, x1, x2⟩ => (fun _ => True) x0 ∧ (fun xs => ∀ x ∈ xs, good104 x) x1 ∧ goods39 x2
def goods39 : List S39 → Prop
  | [] => True
  | x :: r => good39 x ∧ goods39 r
end
theorem goods39_iff (l : List S39) : goods39 l ↔ ∀ x ∈ l, good39 x := by
  induction l with
  | nil => simp [goods39]
  | cons x r ih => simp [goods39, ih]
theorem rd39 (W : World) (n : Nat) : RdF Try.prog W n k39 39 bulk39 good39 := by
  induction n with
  | zero =>
    intro H enc fuel hf cs x h
    obtain rfl : fuel = 0 := by omega
    simp [DataW.trod] at h
  | succ n ih =>
  intro H enc fuel hfu cs x h
  obtain ⟨xs, m, rfl, rfl, hl, hlen, hf⟩ := DataW.trod_struct Try.underlying39 h
  have hl' : cs.length = 3 := hl.trans (by kernel_rfl)
  clear hl
  obtain ⟨u0, u1, u2, rfl⟩ := len_3 hl'
  have z9 : Try.prog.cellsOf 9 = 1 := by kernel_rfl
  have z36 : Try.prog.cellsOf 36 = 1 := by kernel_rfl
  have z37 : Try.prog.cellsOf 37 = 1 := by kernel_rfl
  obtain ⟨y0, hy0⟩ : ∃ y, xs[0]? = some y := ⟨_, List.getElem?_eq_getElem (by rw [hlen]; decide)⟩
  have h0 := hf 0 _ rfl
  rw [hy0] at h0
  simp only [z9, List.getElem_toArray, List.getElem_cons_zero, List.getElem_cons_succ, List.drop_zero, List.drop_succ_cons, List.take_succ_cons, List.take_zero] at h0
  have h0' : DataW.trod enc Try.prog W 0 (fun _ => true) true m 9 [u0] = some y0 := h0
  obtain ⟨y1, hy1⟩ : ∃ y, xs[1]? = some y := ⟨_, List.getElem?_eq_getElem (by rw [hlen]; decide)⟩
  have h1 := hf 1 _ rfl
  rw [hy1] at h1
  simp only [z36, List.getElem_toArray, List.getElem_cons_zero, List.getElem_cons_succ, List.drop_zero, List.drop_succ_cons, List.take_succ_cons, List.take_zero] at h1
  have h1' : DataW.trod enc Try.prog W 0 (fun _ => true) true m 36 [u1] = some y1 := h1
  obtain ⟨y2, hy2⟩ : ∃ y, xs[2]? = some y := ⟨_, List.getElem?_eq_getElem (by rw [hlen]; decide)⟩
  have h2 := hf 2 _ rfl
  rw [hy2] at h2
  simp only [z37, List.getElem_toArray, List.getElem_cons_zero, List.getElem_cons_succ, List.drop_zero, List.drop_succ_cons, List.take_succ_cons, List.take_zero] at h2
  have h2' : DataW.trod enc Try.prog W 0 (fun _ => true) true m 37 [u2] = some y2 := h2
  obtain ⟨a0, k0, b0, g0⟩ := (rd_string (n := (n + 1)) Try.underlying9) H enc m (by omega) _ _ h0'
  obtain ⟨a1, k1, b1, g1⟩ := (rd_slice (n := n) Try.underlying36 (by kernel_rfl) (rd104 W n)) H enc m (by omega) _ _ h1'
  obtain ⟨a2, k2, b2, g2⟩ := (rd_slice (n := n) Try.underlying37 (by kernel_rfl) ih) H enc m (by omega) _ _ h2'
  have hall : xs = [y0, y1, y2] := by
    obtain ⟨q0, q1, q2, rfl⟩ := len_3 (l := xs) hlen
    simp only [List.getElem?_cons_zero, List.getElem?_cons_succ, Option.some.injEq] at hy0 hy1 hy2
    rw [hy0, hy1, hy2]
  subst hall
  cases k0
  obtain ⟨A1, c1, e1, l1, r1⟩ := k1
  cases e1
  obtain ⟨A2, c2, e2, l2, r2⟩ := k2
  cases e2
  refine ⟨⟨a0, a1, a2⟩, k39_mk W ⟨a0, a1, a2⟩ l1 r1 l2 r2, ?_, ?_⟩
  · (try dsimp only at b0); (try dsimp only at b1); (try dsimp only at b2); simp only [bulk39, bulks39_eq, Rows.uptoBulk, Rows.uptoBulkAll, List.map_cons, List.map_nil]; omega
  · exact ⟨g0, g1, (goods39_iff _).mpr g2⟩
def bulk43 (x : S43) : Nat := (fun _ => 1) x.f0 + (fun xs => sumB bulk151 xs + 1) x.f1 + bulk39 x.f2 + 1
def good43 (x : S43) : Prop := (wfI .u32) x.f0 ∧ (fun xs => ∀ x ∈ xs, good151 x) x.f1 ∧ good39 x.f2
theorem rd43 (W : World) (n : Nat) : RdF Try.prog W n k43 43 bulk43 good43 := by
  intro H enc fuel hfu cs x h
  cases n with
  | zero =>
    obtain rfl : fuel = 0 := by omega
    simp [DataW.trod] at h
  | succ n =>
  obtain ⟨xs, m, rfl, rfl, hl, hlen, hf⟩ := DataW.trod_struct Try.underlying43 h
  have hl' : cs.length = 5 := hl.trans (by kernel_rfl)
  clear hl
  obtain ⟨u0, u1, u2, u3, u4, rfl⟩ := len_5 hl'
  have z28 : Try.prog.cellsOf 28 = 1 := by kernel_rfl
  have z39 : Try.prog.cellsOf 39 = 3 := by kernel_rfl
  have z41 : Try.prog.cellsOf 41 = 1 := by kernel_rfl
  obtain ⟨y0, hy0⟩ : ∃ y, xs[0]? = some y := ⟨_, List.getElem?_eq_getElem (by rw [hlen]; decide)⟩
  have h0 := hf 0 _ rfl
  rw [hy0] at h0
  simp only [z28, List.getElem_toArray, List.getElem_cons_zero, List.getElem_cons_succ, List.drop_zero, List.drop_succ_cons, List.take_succ_cons, List.take_zero] at h0
  have h0' : DataW.trod enc Try.prog W 0 (fun _ => true) true m 28 [u0] = some y0 := h0
  obtain ⟨y1, hy1⟩ : ∃ y, xs[1]? = some y := ⟨_, List.getElem?_eq_getElem (by rw [hlen]; decide)⟩
  have h1 := hf 1 _ rfl
  rw [hy1] at h1
  simp only [z41, List.getElem_toArray, List.getElem_cons_zero, List.getElem_cons_succ, List.drop_zero, List.drop_succ_cons, List.take_succ_cons, List.take_zero] at h1
  have h1' : DataW.trod enc Try.prog W 0 (fun _ => true) true m 41 [u1] = some y1 := h1
  obtain ⟨y2, hy2⟩ : ∃ y, xs[2]? = some y := ⟨_, List.getElem?_eq_getElem (by rw [hlen]; decide)⟩
  have h2 := hf 2 _ rfl
  rw [hy2] at h2
  simp only [z39, List.getElem_toArray, List.getElem_cons_zero, List.getElem_cons_succ, List.drop_zero, List.drop_succ_cons, List.take_succ_cons, List.take_zero] at h2
  have h2' : DataW.trod enc Try.prog W 0 (fun _ => true) true m 39 [u2, u3, u4] = some y2 := h2
  obtain ⟨a0, k0, b0, g0⟩ := (rd_int (n := (n + 1)) Try.underlying28) H enc m (by omega) _ _ h0'
  obtain ⟨a1, k1, b1, g1⟩ := (rd_slice (n := n) Try.underlying41 (by kernel_rfl) (rd151 W n)) H enc m (by omega) _ _ h1'
  obtain ⟨a2, k2, b2, g2⟩ := (rd39 W (n + 1)) H enc m (by omega) _ _ h2'
  have hall : xs = [y0, y1, y2] := by
    obtain ⟨q0, q1, q2, rfl⟩ := len_3 (l := xs) hlen
    simp only [List.getElem?_cons_zero, List.getElem?_cons_succ, Option.some.injEq] at hy0 hy1 hy2
    rw [hy0, hy1, hy2]
  subst hall
  refine ⟨⟨a0, a1, a2⟩, ⟨[u0], [u1, u2, u3, u4], rfl, k0, ⟨[u1], [u2, u3, u4], rfl, k1, k2⟩⟩, ?_, ?_⟩
  · (try dsimp only at b0); (try dsimp only at b1); (try dsimp only at b2); simp only [bulk43, Rows.uptoBulk, Rows.uptoBulkAll, List.map_cons, List.map_nil]; omega
  · exact ⟨g0, g1, g2⟩
def bulk57 (x : S57) : Nat := (fun _ => 1) x.f0 + (fun _ => 1) x.f1 + 1
def good57 (x : S57) : Prop := (wfI .u64) x.f0 ∧ (wfI .u64) x.f1
theorem rd57 (W : World) (n : Nat) : RdF Try.prog W n k57 57 bulk57 good57 := by
  intro H enc fuel hfu cs x h
  cases n with
  | zero =>
    obtain rfl : fuel = 0 := by omega
    simp [DataW.trod] at h
  | succ n =>
  obtain ⟨xs, m, rfl, rfl, hl, hlen, hf⟩ := DataW.trod_struct Try.underlying57 h
  have hl' : cs.length = 2 := hl.trans (by kernel_rfl)
  clear hl
  obtain ⟨u0, u1, rfl⟩ := len_2 hl'
  have z24 : Try.prog.cellsOf 24 = 1 := by kernel_rfl
  obtain ⟨y0, hy0⟩ : ∃ y, xs[0]? = some y := ⟨_, List.getElem?_eq_getElem (by rw [hlen]; decide)⟩
  have h0 := hf 0 _ rfl
  rw [hy0] at h0
  simp only [z24, List.getElem_toArray, List.getElem_cons_zero, List.getElem_cons_succ, List.drop_zero, List.drop_succ_cons, List.take_succ_cons, List.take_zero] at h0
  have h0' : DataW.trod enc Try.prog W 0 (fun _ => true) true m 24 [u0] = some y0 := h0
  obtain ⟨y1, hy1⟩ : ∃ y, xs[1]? = some y := ⟨_, List.getElem?_eq_getElem (by rw [hlen]; decide)⟩
  have h1 := hf 1 _ rfl
  rw [hy1] at h1
  simp only [z24, List.getElem_toArray, List.getElem_cons_zero, List.getElem_cons_succ, List.drop_zero, List.drop_succ_cons, List.take_succ_cons, List.take_zero] at h1
  have h1' : DataW.trod enc Try.prog W 0 (fun _ => true) true m 24 [u1] = some y1 := h1
  obtain ⟨a0, k0, b0, g0⟩ := (rd_int (n := (n + 1)) Try.underlying24) H enc m (by omega) _ _ h0'
  obtain ⟨a1, k1, b1, g1⟩ := (rd_int (n := (n + 1)) Try.underlying24) H enc m (by omega) _ _ h1'
  have hall : xs = [y0, y1] := by
    obtain ⟨q0, q1, rfl⟩ := len_2 (l := xs) hlen
    simp only [List.getElem?_cons_zero, List.getElem?_cons_succ, Option.some.injEq] at hy0 hy1
    rw [hy0, hy1]
  subst hall
  refine ⟨⟨a0, a1⟩, ⟨[u0], [u1], rfl, k0, k1⟩, ?_, ?_⟩
  · (try dsimp only at b0); (try dsimp only at b1); simp only [bulk57, Rows.uptoBulk, Rows.uptoBulkAll, List.map_cons, List.map_nil]; omega
  · exact ⟨g0, g1⟩
end Go.Proofs.Yteejaaeglfpcmaa.PX

/- The pure statement of RegionCounts, as its row wants it. -/
namespace Go.Proofs.Yteejaaeglfpcmaa.PX
open Go.RowKit Go.Proofs.Yteejaaeglfpcmaa.Rdr Go.Proofs.YteejaaeglfpcmaaW.PrintWords Go.Proofs.YteejaaeglfpcmaaW.PrintLast Go.Proofs.YteejaaeglfpcmaaW.PrintMore
def arboretlaw12_RegionCounts.Pure : Prop := ∀ (x0 : S39), bulk39 x0 ≤ 1048576 → good39 x0 → ∃ k, arboretlaw12_RegionCounts.f k x0.f0 x0.f1 x0.f2 = some true
end Go.Proofs.Yteejaaeglfpcmaa.PX

/- Small words for pure statements over rounds: what answers from some number of rounds on; wraps that do nothing; bits that don't meet. Own text. -/
set_option linter.unusedVariables false
set_option linter.unusedSimpArgs false
namespace Go.Proofs.Yteejaaeglfpcmaa.Aid
open Go.RowKit Go.Proofs.YteejaaeglfpcmaaW.PrintWords
section
variable {α β : Type} {r : α}
theorem Ev.pos {c : Prop} [Decidable c] {A B : Nat → Option α} (h : c) (hA : Ev A r) : Ev (fun k => if c then A k else B k) r := by
  simp only [if_pos h]
  exact hA
theorem Ev.neg {c : Prop} [Decidable c] {A B : Nat → Option α} (h : ¬ c) (hB : Ev B r) : Ev (fun k => if c then A k else B k) r := by
  simp only [if_neg h]
  exact hB
theorem Ev.ite {c : Prop} [Decidable c] {A B : Nat → Option α} {a b : α} (hA : c → Ev A a) (hB : ¬ c → Ev B b) : Ev (fun k => if c then A k else B k) (if c then a else b) := by
  by_cases h : c
  · rw [if_pos h]; exact Ev.pos h (hA h)
  · rw [if_neg h]; exact Ev.neg h (hB h)
theorem Ev.succ {g : Nat → Option α} (h : Ev (fun k => g (k + 1)) r) : Ev g r := Ev.step (fun _ => rfl) h
theorem Ev.some (r : α) : Ev (fun _ => some r) r := ⟨0, fun _ _ => rfl⟩
theorem Ev.fix {g : Option α} (h : g = Option.some r) : Ev (fun _ => g) r := ⟨0, fun _ _ => h⟩
theorem Ev.then {g : Nat → Option α} {f : Nat → α → Option β} {a : α} {b : β} (h : Ev g a) (k : Ev (fun n => f n a) b) : Ev (fun n => (g n).bind (f n)) b := Ev.bind h k
theorem Ev.out {g : Nat → Option α} (h : Ev g r) : ∃ k, g k = Option.some r := Ev.rounds h
theorem Ev.unique {g : Nat → Option α} {a b : α} (h : Ev g a) (k : Ev g b) : a = b := by
  obtain ⟨K, h⟩ := h
  obtain ⟨K', k⟩ := k
  have h1 := h (max K K') (by omega)
  rw [k (max K K') (by omega)] at h1
  exact (Option.some.inj h1).symm
end

/-! ### numbers -/
theorem w64 {x : Int} (h0 : -9223372036854775808 ≤ x) (h1 : x ≤ 9223372036854775807) : wrap64 x = x := by unfold wrap64; omega
theorem wu64 {x : Int} (h0 : 0 ≤ x) (h1 : x < 18446744073709551616) : IntKind.u64.wrap x = x := by
  simp only [IntKind.wrap, IntKind.bits, IntKind.signed]
  simp
  omega
theorem wu64_def (x : Int) : IntKind.u64.wrap x = x % 18446744073709551616 := by
  simp only [IntKind.wrap, IntKind.bits, IntKind.signed]
  simp
theorem or_low (i : Nat) (hi : i ≤ 64) {x y : Int} (hx : 0 ≤ x) (hxm : x % 2 ^ i = 0) (hx1 : x < 18446744073709551616) (hy : 0 ≤ y) (hy1 : y < 2 ^ i) : Go.bits .or .u64 x y = x + y := by
  have h2 : (2 : Int) ^ i ≤ 18446744073709551616 := by
    have h : (2 : Nat) ^ i ≤ 2 ^ 64 := Nat.pow_le_pow_right (by decide) hi
    have h' : ((2 ^ i : Nat) : Int) ≤ ((2 ^ 64 : Nat) : Int) := Int.ofNat_le.mpr h
    simpa using h'
  exact Go.bits_join .u64 64 (by decide) (fun n h0 h1 => wu64 h0 (by simpa using h1)) i x y hx hxm (by simpa using hx1) hy hy1 (by simpa using Int.lt_of_lt_of_le hy1 h2)
theorem wf_u8 {x : Int} : (Lit.int .u8 x).wf = true ↔ 0 ≤ x ∧ x ≤ 255 := by simp [Lit.wf, IntKind.min, IntKind.max, IntKind.signed, IntKind.bits]
theorem wf_u16 {x : Int} : (Lit.int .u16 x).wf = true ↔ 0 ≤ x ∧ x ≤ 65535 := by simp [Lit.wf, IntKind.min, IntKind.max, IntKind.signed, IntKind.bits]
theorem wf_u32 {x : Int} : (Lit.int .u32 x).wf = true ↔ 0 ≤ x ∧ x ≤ 4294967295 := by simp [Lit.wf, IntKind.min, IntKind.max, IntKind.signed, IntKind.bits]
theorem wf_u64 {x : Int} : (Lit.int .u64 x).wf = true ↔ 0 ≤ x ∧ x ≤ 18446744073709551615 := by simp [Lit.wf, IntKind.min, IntKind.max, IntKind.signed, IntKind.bits]
theorem wf_i64 {x : Int} : (Lit.int .i64 x).wf = true ↔ -9223372036854775808 ≤ x ∧ x ≤ 9223372036854775807 := by simp [Lit.wf, IntKind.min, IntKind.max, IntKind.signed, IntKind.bits]

/-! ### lists read by an index -/
theorem getD_at {α : Type} {l : List α} {d : α} {i : Nat} (h : i < l.length) : l.getD i d = l[i] := by simp [List.getD_eq_getElem?_getD, List.getElem?_eq_getElem h]
theorem drop_at {α : Type} {l : List α} {d : α} {i : Nat} (h : i < l.length) : l.drop i = l.getD i d :: l.drop (i + 1) := by rw [getD_at h]; exact List.drop_eq_getElem_cons h
/-- A loop over an index: what it comes to from i on is told by what lies behind i. -/
theorem loop {α β : Type} (l : List α) (F : List α → β) (g : Nat → Int → Option β)
    (hend : Ev (fun k => g k (l.length : Int)) (F []))
    (hstep : ∀ i : Nat, (h : i < l.length) → Ev (fun k => g k ((i + 1 : Nat) : Int)) (F (l.drop (i + 1))) → Ev (fun k => g k (i : Int)) (F (l[i] :: l.drop (i + 1)))) :
    ∀ i : Nat, i ≤ l.length → Ev (fun k => g k (i : Int)) (F (l.drop i)) := by
  have key : ∀ (d i : Nat), i + d = l.length → Ev (fun k => g k (i : Int)) (F (l.drop i)) := by
    intro d
    induction d with
    | zero =>
      intro i hi
      have : i = l.length := by omega
      subst this
      rw [List.drop_length]
      exact hend
    | succ d ih =>
      intro i hi
      have h : i < l.length := by omega
      rw [List.drop_eq_getElem_cons h]
      exact hstep i h (ih (i + 1) (by omega))
  intro i hi
  exact key (l.length - i) i (by omega)
end Go.Proofs.Yteejaaeglfpcmaa.Aid

/- Plain facts on nodes: how their bulk bounds what they hold; that looking at a tree's size ends; the places of all nodes. Own text. -/
set_option linter.unusedVariables false
set_option linter.unusedSimpArgs false
namespace Go.Proofs.Yteejaaeglfpcmaa.PX
open Go.RowKit Go.Proofs.Yteejaaeglfpcmaa.Rdr Go.Proofs.Yteejaaeglfpcmaa.Aid Go.Proofs.YteejaaeglfpcmaaW.PrintWords

theorem rdN (xs : List S39) (i : Nat) : rd_T39 xs (i : Int) = xs.getD i z39 := by simp [rd_T39]
theorem rdP (xs : List S104) (i : Nat) : rd_T104 xs (i : Int) = xs.getD i z104 := by simp [rd_T104]
theorem getN {xs : List S39} {i : Nat} (h : i < xs.length) : xs.getD i z39 ∈ xs := by rw [getD_at h]; exact List.getElem_mem h
theorem getP {xs : List S104} {i : Nat} (h : i < xs.length) : xs.getD i z104 ∈ xs := by rw [getD_at h]; exact List.getElem_mem h
theorem bulk_pos (x : S39) : 1 ≤ bulk39 x := by
  cases x
  simp only [bulk39]
  omega
theorem bulk_eq (x : S39) : bulk39 x = x.f0.size + sumB bulk104 x.f1 + sumB bulk39 x.f2 + 4 := by
  cases x
  simp only [bulk39, bulks39_eq]
  omega
theorem bulk_kid {x k : S39} (h : k ∈ x.f2) : bulk39 k + 4 ≤ bulk39 x := by
  have := sumB_mem (B := bulk39) h
  rw [bulk_eq x]
  omega
theorem bulk_prop {x : S39} {p : S104} (h : p ∈ x.f1) : bulk104 p + 4 ≤ bulk39 x := by
  have := sumB_mem (B := bulk104) h
  rw [bulk_eq x]
  omega
theorem bulk_kids (x : S39) : x.f2.length + 4 ≤ bulk39 x := by
  have := sumB_len bulk_pos x.f2
  rw [bulk_eq x]
  omega
theorem bulk_props (x : S39) : x.f1.length + 4 ≤ bulk39 x := by
  have := sumB_len (B := bulk104) (fun p => by unfold bulk104; omega) x.f1
  rw [bulk_eq x]
  omega
theorem bulk_name (x : S39) : x.f0.size + 4 ≤ bulk39 x := by
  rw [bulk_eq x]
  omega
theorem bulk_value (p : S104) : p.f0.size + p.f1.length + 3 ≤ bulk104 p := by
  unfold bulk104
  simp only [sumB_one]
  omega
theorem good_eq (x : S39) : good39 x ↔ (∀ p ∈ x.f1, good104 p) ∧ (∀ k ∈ x.f2, good39 k) := by
  cases x
  simp only [good39, goods39_iff]
  exact ⟨fun h => h.2, fun h => ⟨trivial, h⟩⟩
theorem good_value (p : S104) (h : good104 p) : ∀ b ∈ p.f1, 0 ≤ b ∧ b ≤ 255 := fun b hb => wf_u8.mp (h.2 b hb)
theorem step64 {i n : Nat} (h : i < n) (hn : n ≤ 1048576) : wrap64 ((i : Int) + 1) = ((i + 1 : Nat) : Int) := by unfold wrap64; omega

/-- Looking at a tree's size ends, with whatever number. -/
theorem size_ends (m : Nat) (hm : m ≤ 1048576) : ∀ x : S39, bulk39 x ≤ m → ∀ d : Int, ∃ v, Ev (fun k => arboretlaw03_size.f k x.f0 x.f1 x.f2 d) v := by
  induction m with
  | zero => intro x hx; have := bulk_pos x; omega
  | succ m ih =>
    intro x hx d
    have hk := bulk_kids x
    have hp := bulk_props x
    have kids : ∀ (j i : Nat) (acc : Int), i + j = x.f2.length → ∃ v, Ev (fun k => arboretlaw03_size.l1 k d acc (x.f2.length : Int) (i : Int) x.f0 x.f1 x.f2) v := by
      intro j
      induction j with
      | zero =>
        intro i acc hi
        refine ⟨acc, Ev.succ ?_⟩
        simp only [arboretlaw03_size.l1]
        exact Ev.neg (by omega) (Ev.some _)
      | succ j ihj =>
        intro i acc hi
        have hw := step64 (i := i) (n := x.f2.length) (by omega) (by omega)
        by_cases h1 : d > 20
        · refine ⟨1048576, Ev.succ ?_⟩
          simp only [arboretlaw03_size.l1]
          exact Ev.pos (by omega) (Ev.pos h1 (Ev.some _))
        by_cases h2 : acc > 100000
        · refine ⟨1048576, Ev.succ ?_⟩
          simp only [arboretlaw03_size.l1]
          exact Ev.pos (by omega) (Ev.neg h1 (Ev.pos h2 (Ev.some _)))
        have hmem := getN (xs := x.f2) (i := i) (by omega)
        obtain ⟨v, hv⟩ := ih (by omega) (x.f2.getD i z39) (by have := bulk_kid hmem; omega) (wrap64 (d + 1))
        obtain ⟨r, hr⟩ := ihj (i + 1) (wrap64 (acc + v)) (by omega)
        refine ⟨r, Ev.succ ?_⟩
        simp only [arboretlaw03_size.l1, rdN, hw]
        exact Ev.pos (by omega) (Ev.neg h1 (Ev.neg h2 (Ev.pos (by omega) (Ev.pos (by omega) (Ev.then hv hr)))))
    have props : ∀ (j i : Nat) (acc : Int), i + j = x.f1.length → ∃ v, Ev (fun k => arboretlaw03_size.l0 k d acc (x.f1.length : Int) (i : Int) x.f0 x.f1 x.f2) v := by
      intro j
      induction j with
      | zero =>
        intro i acc hi
        obtain ⟨v, hv⟩ := kids x.f2.length 0 acc (by omega)
        refine ⟨v, Ev.succ ?_⟩
        simp only [arboretlaw03_size.l0]
        exact Ev.neg (by omega) hv
      | succ j ihj =>
        intro i acc hi
        have hw := step64 (i := i) (n := x.f1.length) (by omega) (by omega)
        obtain ⟨v, hv⟩ := ihj (i + 1) (wrap64 ((wrap64 ((wrap64 (acc + 1)) + (((rd_T104 x.f1 i).f0).size : Int))) + (((rd_T104 x.f1 i).f1).length : Int))) (by omega)
        refine ⟨v, Ev.succ ?_⟩
        simp only [arboretlaw03_size.l0, hw]
        exact Ev.pos (by omega) (Ev.pos (by omega) (Ev.pos (by omega) hv))
    obtain ⟨v, hv⟩ := props x.f1.length 0 (wrap64 (1 + (x.f0.size : Int))) (by omega)
    refine ⟨v, Ev.succ ?_⟩
    simp only [arboretlaw03_size.f]
    exact hv
theorem few_ends (b : Int) (l : List S151) (x : S39) (hx : bulk39 x ≤ 1048576) : ∃ v, Ev (fun k => arboretlaw03_Few.f k b l x.f0 x.f1 x.f2) v := by
  obtain ⟨v, hv⟩ := size_ends 1048576 (by omega) x hx 0
  by_cases h : v ≤ 100000
  · refine ⟨decide ((l.length : Int) ≤ 200), ?_⟩
    unfold arboretlaw03_Few.f
    exact Ev.then hv (Ev.pos h (Ev.some _))
  · refine ⟨false, ?_⟩
    unfold arboretlaw03_Few.f
    exact Ev.then hv (Ev.neg h (Ev.some _))
end Go.Proofs.Yteejaaeglfpcmaa.PX

/- Bytes as numbers, the greatest first; cells of a value: as the program reads them. Own text. -/
set_option linter.unusedVariables false
set_option linter.unusedSimpArgs false
namespace Go.Proofs.Yteejaaeglfpcmaa.PX
open Go.RowKit Go.Proofs.Yteejaaeglfpcmaa.Aid Go.Proofs.YteejaaeglfpcmaaW.PrintWords
/-- Bytes behind a number. -/
def numOn (v : Int) (l : List Int) : Int := l.foldl (fun v c => v * 256 + c) v
def num (l : List Int) : Int := numOn 0 l
def isBytes (l : List Int) : Prop := ∀ b ∈ l, 0 ≤ b ∧ b ≤ 255
theorem isBytes.drop {l : List Int} (h : isBytes l) (i : Nat) : isBytes (l.drop i) := fun b hb => h b (List.mem_of_mem_drop hb)
theorem isBytes.take {l : List Int} (h : isBytes l) (i : Nat) : isBytes (l.take i) := fun b hb => h b (List.mem_of_mem_take hb)
theorem isBytes.tail {a : Int} {l : List Int} (h : isBytes (a :: l)) : isBytes l := fun b hb => h b (List.mem_cons_of_mem _ hb)
theorem isBytes.head {a : Int} {l : List Int} (h : isBytes (a :: l)) : 0 ≤ a ∧ a ≤ 255 := h a List.mem_cons_self
theorem pow_step (j : Nat) : (256 : Int) ^ (j + 1) = 256 ^ j * 256 := by rw [Int.pow_succ]
theorem pow_le (j : Nat) (h : j ≤ 8) : (256 : Int) ^ j ≤ 18446744073709551616 := by
  have h1 : (256 : Nat) ^ j ≤ 256 ^ 8 := Nat.pow_le_pow_right (by decide) h
  have h2 : ((256 ^ j : Nat) : Int) ≤ ((256 ^ 8 : Nat) : Int) := Int.ofNat_le.mpr h1
  simpa using h2
theorem numOn_range : ∀ (l : List Int) (j : Nat) (v : Int), isBytes l → 0 ≤ v → v < 256 ^ j → 0 ≤ numOn v l ∧ numOn v l < 256 ^ (j + l.length)
  | [], j, v, _, h0, h1 => ⟨h0, h1⟩
  | a :: l, j, v, hb, h0, h1 => by
    obtain ⟨a0, a1⟩ := hb.head
    have h := numOn_range l (j + 1) (v * 256 + a) hb.tail (by omega) (by rw [pow_step]; omega)
    have e : j + 1 + l.length = j + (a :: l).length := by rw [List.length_cons]; omega
    rw [e] at h
    exact h
theorem num_range (l : List Int) (hb : isBytes l) : 0 ≤ num l ∧ num l < 256 ^ l.length := by
  have h := numOn_range l 0 0 hb (Int.le_refl 0) (by decide)
  simpa [num] using h
theorem numbOn (l : List Int) : ∀ (j : Nat) (v : Int), isBytes l → 0 ≤ v → v < 256 ^ j → j + l.length ≤ 8 → l.foldl (fun v c => Go.bits .or .u64 (IntKind.u64.wrap (v * 256)) (IntKind.u64.wrap c)) v = numOn v l := by
  induction l with
  | nil => intro j v _ _ _ _; rfl
  | cons a l ih =>
    intro j v hb h0 h1 hl
    obtain ⟨a0, a1⟩ := hb.head
    rw [List.length_cons] at hl
    have hp := pow_le (j + 1) (by omega)
    rw [pow_step] at hp
    have e1 : IntKind.u64.wrap (v * 256) = v * 256 := wu64 (by omega) (by omega)
    have e2 : IntKind.u64.wrap a = a := wu64 a0 (by omega)
    have e3 : Go.bits .or .u64 (v * 256) a = v * 256 + a := or_low 8 (by decide) (by omega) (by simp only [Int.reducePow]; omega) (by omega) a0 (by simp only [Int.reducePow]; omega)
    rw [List.foldl_cons, e1, e2, e3]
    exact ih (j + 1) (v * 256 + a) hb.tail (by omega) (by rw [pow_step]; omega) (by omega)
theorem numb_eq (l : List Int) (hb : isBytes l) (hl : l.length ≤ 8) : numb l = num l := numbOn l 0 0 hb (Int.le_refl 0) (by decide) (by omega)
/-- A cell at a place that lies in the bytes. -/
theorem get_at (l : List Int) (i : Nat) (hb : isBytes l) (h : i + 4 ≤ l.length) : words_Get.f l (i : Int) = some (num ((l.drop i).take 4), true) := by
  unfold words_Get.f
  rw [if_pos ⟨Int.natCast_nonneg i, by omega⟩]
  have e : ((i : Int) + 4).toNat = i + 4 := by omega
  rw [e, Int.toNat_natCast, List.drop_take, show i + 4 - i = 4 by omega, numb_eq _ ((hb.drop i).take 4) (by rw [List.length_take]; omega)]
  have hr := num_range ((l.drop i).take 4) ((hb.drop i).take 4)
  have hl : ((l.drop i).take 4).length = 4 := by rw [List.length_take, List.length_drop]; omega
  rw [hl] at hr
  have : num ((l.drop i).take 4) % 4294967296 = num ((l.drop i).take 4) := Int.emod_eq_of_lt hr.1 (by simpa using hr.2)
  rw [this]
theorem get_no (l : List Int) (i : Nat) (h : l.length < i + 4) : words_Get.f l (i : Int) = some (0, false) := by
  unfold words_Get.f
  rw [if_neg (by omega)]
/-- The cells of a value. -/
def cellsOf : List Int → List Int
  | a :: b :: c :: d :: r => num [a, b, c, d] :: cellsOf r
  | _ => []
theorem cells_step (l : List Int) (i : Nat) (h : i + 4 ≤ l.length) : cellsOf (l.drop i) = num ((l.drop i).take 4) :: cellsOf (l.drop (i + 4)) := by
  have h1 : ∃ a b c d r, l.drop i = a :: b :: c :: d :: r := by
    match hh : l.drop i, (by rw [List.length_drop]; omega : 4 ≤ (l.drop i).length) with
    | a :: b :: c :: d :: r, _ => exact ⟨a, b, c, d, r, rfl⟩
  obtain ⟨a, b, c, d, r, e⟩ := h1
  have h2 : l.drop (i + 4) = r := by rw [← List.drop_drop, e]; rfl
  rw [e, h2]
  rfl
theorem cells_length : ∀ (n : Nat) (l : List Int), l.length ≤ n → (cellsOf l).length = l.length / 4
  | 0, l, h => by
    obtain rfl : l = [] := List.eq_nil_of_length_eq_zero (by omega)
    rfl
  | n + 1, l, h => by
    match l, h with
    | [], _ => simp [cellsOf]
    | [_], _ => simp [cellsOf]
    | [_, _], _ => simp [cellsOf]
    | [_, _, _], _ => simp [cellsOf]
    | a :: b :: c :: d :: r, h =>
      have := cells_length n r (by simp only [List.length_cons] at h; omega)
      simp only [cellsOf, List.length_cons, this]
      omega
theorem cells_len (l : List Int) : (cellsOf l).length = l.length / 4 := cells_length l.length l (Nat.le_refl _)
theorem cells_range : ∀ (n : Nat) (l : List Int), l.length ≤ n → isBytes l → ∀ x ∈ cellsOf l, 0 ≤ x ∧ x ≤ 4294967295
  | 0, l, h, _ => by
    obtain rfl : l = [] := List.eq_nil_of_length_eq_zero (by omega)
    intro x hx
    simp [cellsOf] at hx
  | n + 1, l, h, hb => by
    match l, h, hb with
    | [], _, _ => intro x hx; simp [cellsOf] at hx
    | [_], _, _ => intro x hx; simp [cellsOf] at hx
    | [_, _], _, _ => intro x hx; simp [cellsOf] at hx
    | [_, _, _], _, _ => intro x hx; simp [cellsOf] at hx
    | a :: b :: c :: d :: r, h, hb =>
      intro x hx
      simp only [cellsOf, List.mem_cons] at hx
      rcases hx with rfl | hx
      · have h4 : isBytes [a, b, c, d] := fun y hy => hb y (by simp only [List.mem_cons, List.not_mem_nil, or_false] at hy ⊢; rcases hy with rfl | rfl | rfl | rfl <;> simp)
        have hr := num_range [a, b, c, d] h4
        simp only [List.length_cons, List.length_nil] at hr
        have h2 := hr.2
        simp at h2
        exact ⟨hr.1, by omega⟩
      · exact cells_range n r (by simp only [List.length_cons] at h; omega) hb.tail.tail.tail.tail x hx
end Go.Proofs.Yteejaaeglfpcmaa.PX

/- A property's value, and its one cell, as the program and the reference tell them. Own text. -/
set_option linter.unusedVariables false
set_option linter.unusedSimpArgs false
namespace Go.Proofs.Yteejaaeglfpcmaa.PX
open Go.RowKit Go.Proofs.Yteejaaeglfpcmaa.Rdr Go.Proofs.Yteejaaeglfpcmaa.Aid Go.Proofs.YteejaaeglfpcmaaW.PrintWords
/-- Which property has a name, counted from i on; -1: none. -/
def ixP (s : List UInt8) : List S104 → Nat → Int
  | [], _ => -1
  | p :: r, i => if p.f0.toList = s then (i : Int) else ixP s r (i + 1)
/-- Its value. -/
def valP (s : List UInt8) : List S104 → Option (List Int)
  | [] => none
  | p :: r => if p.f0.toList = s then some p.f1 else valP s r
theorem valP_mem {s : List UInt8} {v : List Int} : ∀ {l : List S104}, valP s l = some v → ∃ p ∈ l, p.f1 = v
  | [], h => by simp [valP] at h
  | p :: r, h => by
    simp only [valP] at h
    by_cases c : p.f0.toList = s
    · rw [if_pos c] at h
      exact ⟨p, List.mem_cons_self, Option.some.inj h⟩
    · rw [if_neg c] at h
      obtain ⟨q, hq, e⟩ := valP_mem h
      exact ⟨q, List.mem_cons_of_mem _ hq, e⟩
/-- Where the first of them stands, and what it holds. -/
theorem ixP_val (s : List UInt8) : ∀ (l : List S104) (i : Nat), (valP s l = none ∧ ixP s l i = -1) ∨ ∃ j : Nat, j < l.length ∧ ixP s l i = ((i + j : Nat) : Int) ∧ valP s l = some (l.getD j z104).f1
  | [], i => .inl ⟨rfl, rfl⟩
  | p :: r, i => by
    simp only [valP, ixP]
    by_cases c : p.f0.toList = s
    · rw [if_pos c, if_pos c]
      exact .inr ⟨0, by simp, by simp, by simp⟩
    · rw [if_neg c, if_neg c]
      rcases ixP_val s r (i + 1) with ⟨h1, h2⟩ | ⟨j, h1, h2, h3⟩
      · exact .inl ⟨h1, h2⟩
      · exact .inr ⟨j + 1, by simp; omega, by rw [h2]; congr 1; omega, by rw [h3]; simp⟩
theorem clone_bytes (v : List Int) (h : v.length ≤ 1048576) : bytes_Clone.f v = some v := by
  unfold bytes_Clone.f
  rw [if_pos (by omega)]
/-- What the program's Find answers. -/
def findN (s : List UInt8) (l : List S104) : List Int × Bool := match valP s l with
  | some v => (v, true)
  | none => ([], false)
theorem find_ev (x : S39) (s : ByteArray) (hx : bulk39 x ≤ 1048576) : Ev (fun k => tree_Find.f k x.f0 x.f1 x.f2 s) (findN s.toList x.f1) := by
  have hp := bulk_props x
  have key : ∀ (j i : Nat), i + j = x.f1.length → Ev (fun k => tree_Find.l0 k s x.f1 (x.f1.length : Int) (i : Int)) (findN s.toList (x.f1.drop i)) := by
    intro j
    induction j with
    | zero =>
      intro i hi
      rw [List.drop_of_length_le (by omega)]
      refine Ev.succ ?_
      simp only [tree_Find.l0, findN, valP]
      exact Ev.neg (by omega) (Ev.some _)
    | succ j ih =>
      intro i hi
      have hw := step64 (i := i) (n := x.f1.length) (by omega) (by omega)
      have hm := getP (xs := x.f1) (i := i) (by omega)
      have hb := bulk_prop hm
      have hv := bulk_value (x.f1.getD i z104)
      have hc := clone_bytes (x.f1.getD i z104).f1 (by omega)
      rw [drop_at (l := x.f1) (d := z104) (i := i) (by omega)]
      refine Ev.succ ?_
      simp only [tree_Find.l0, rdP, hw, hc, Option.bind_some]
      refine Ev.pos (by omega) (Ev.pos (Int.natCast_nonneg i) (Ev.pos (by omega) ?_))
      by_cases c : (x.f1.getD i z104).f0.toList = s.toList
      · have e : findN s.toList (x.f1.getD i z104 :: x.f1.drop (i + 1)) = ((x.f1.getD i z104).f1, true) := by simp only [findN, valP, if_pos c]
        rw [e]
        exact Ev.pos c (Ev.some _)
      · have e : findN s.toList (x.f1.getD i z104 :: x.f1.drop (i + 1)) = findN s.toList (x.f1.drop (i + 1)) := by simp only [findN, valP, if_neg c]
        rw [e]
        exact Ev.neg c (ih (i + 1) (by omega))
  have := key x.f1.length 0 (by omega)
  unfold tree_Find.f
  simpa using this
theorem reffind_ev (x : S39) (s : ByteArray) (hx : bulk39 x ≤ 1048576) : Ev (fun k => arboretref01_Find.f k x.f0 x.f1 x.f2 s) (ixP s.toList x.f1 0) := by
  have hp := bulk_props x
  have key : ∀ (j i : Nat), i + j = x.f1.length → Ev (fun k => arboretref01_Find.l0 k s (x.f1.length : Int) (i : Int) x.f0 x.f1 x.f2) (ixP s.toList (x.f1.drop i) i) := by
    intro j
    induction j with
    | zero =>
      intro i hi
      rw [List.drop_of_length_le (by omega)]
      refine Ev.succ ?_
      simp only [arboretref01_Find.l0, ixP]
      exact Ev.neg (by omega) (Ev.some _)
    | succ j ih =>
      intro i hi
      have hw := step64 (i := i) (n := x.f1.length) (by omega) (by omega)
      rw [drop_at (l := x.f1) (d := z104) (i := i) (by omega)]
      refine Ev.succ ?_
      simp only [arboretref01_Find.l0, rdP, hw, ixP]
      refine Ev.pos (by omega) (Ev.pos (Int.natCast_nonneg i) (Ev.pos (by omega) ?_))
      by_cases c : (x.f1.getD i z104).f0.toList = s.toList
      · rw [if_pos c]
        exact Ev.pos c (Ev.some _)
      · rw [if_neg c]
        exact Ev.neg c (ih (i + 1) (by omega))
  have := key x.f1.length 0 (by omega)
  unfold arboretref01_Find.f
  simpa using this
/-! ### the reference's numbers and cells -/
theorem number_loop (l : List Int) (hb : isBytes l) (hl : l.length ≤ 1048576) (i n : Nat) (hi : i + n ≤ l.length) (hn : n ≤ 8) : ∀ (j q : Nat) (v : Int), q + j = n → 0 ≤ v → v < 256 ^ q →
    Ev (fun k => arboretref01_Number.l0 k l (i : Int) v (n : Int) (q : Int)) (numOn v ((l.drop (i + q)).take j), true) := by
  intro j
  induction j with
  | zero =>
    intro q v hq h0 h1
    refine Ev.succ ?_
    simp only [arboretref01_Number.l0]
    exact Ev.neg (by omega) (Ev.some _)
  | succ j ih =>
    intro q v hq h0 h1
    have hw : wrap64 ((q : Int) + 1) = ((q + 1 : Nat) : Int) := by unfold wrap64; omega
    have hw2 : wrap64 ((i : Int) + (q : Int)) = ((i + q : Nat) : Int) := by unfold wrap64; omega
    have hrd : rd l ((i + q : Nat) : Int) = l[i + q]'(by omega) := by
      unfold rd
      rw [Int.toNat_natCast, getD_at (by omega)]
    obtain ⟨a0, a1⟩ := hb _ (List.getElem_mem (l := l) (n := i + q) (by omega))
    have hp := pow_le (q + 1) (by omega)
    rw [pow_step] at hp
    generalize hx : l[i + q]'(by omega) = x at *
    have e1 : IntKind.u64.wrap (v * 256) = v * 256 := wu64 (by omega) (by omega)
    have e2 : IntKind.u64.wrap x = x := wu64 a0 (by omega)
    have e3 : IntKind.u64.wrap (v * 256 + x) = v * 256 + x := wu64 (by omega) (by omega)
    have hd : l.drop (i + q) = x :: l.drop (i + (q + 1)) := by rw [List.drop_eq_getElem_cons (by omega), hx]; rfl
    have h2 := ih (q + 1) (v * 256 + x) (by omega) (by omega) (by rw [pow_step]; omega)
    rw [hd]
    refine Ev.succ ?_
    simp only [arboretref01_Number.l0, hw, hw2, hrd, e1, e2, e3]
    exact Ev.pos (by omega) (Ev.pos (Int.natCast_nonneg _) (Ev.pos (by omega) h2))
theorem number_ev (l : List Int) (hb : isBytes l) (hl : l.length ≤ 1048576) (i n : Nat) (hi : i + n ≤ l.length) (hn : n ≤ 8) :
    Ev (fun k => arboretref01_Number.f k l (i : Int) (n : Int)) (num ((l.drop i).take n), true) := by
  have h := number_loop l hb hl i n hi hn n 0 0 (by omega) (Int.le_refl 0) (by decide)
  unfold arboretref01_Number.f
  have hw : wrap64 ((l.length : Int) - (i : Int)) = (l.length : Int) - (i : Int) := by unfold wrap64; omega
  refine Ev.neg (by omega) (Ev.neg (by omega) (Ev.succ ?_))
  have hd : decide (wrap64 ((l.length : Int) - (i : Int)) < (n : Int)) = false := by rw [hw]; exact decide_eq_false (by omega)
  simp only [arboretref01_Number.j0, hd]
  exact Ev.neg (by decide) h
theorem refcells_loop (l : List Int) (hb : isBytes l) (hl : l.length ≤ 1048576) (h4 : l.length % 4 = 0) : ∀ (j i : Nat) (acc : List Int), i + 4 * j = l.length → acc.length + j ≤ 1048576 →
    Ev (fun k => arboretref06_Cells.l0 k l acc (i : Int)) (acc ++ cellsOf (l.drop i), 0) := by
  intro j
  induction j with
  | zero =>
    intro i acc hi ha
    rw [List.drop_of_length_le (by omega)]
    simp only [cellsOf, List.append_nil]
    refine Ev.succ ?_
    simp only [arboretref06_Cells.l0]
    exact Ev.neg (by omega) (Ev.some _)
  | succ j ih =>
    intro i acc hi ha
    have hw : wrap64 ((i : Int) + 4) = ((i + 4 : Nat) : Int) := by unfold wrap64; omega
    have hn := number_ev l hb hl i 4 (by omega) (by decide)
    have hr := num_range ((l.drop i).take 4) ((hb.drop i).take 4)
    have hlen : ((l.drop i).take 4).length = 4 := by rw [List.length_take, List.length_drop]; omega
    rw [hlen] at hr
    have hm : num ((l.drop i).take 4) % 4294967296 = num ((l.drop i).take 4) := Int.emod_eq_of_lt hr.1 (by simpa using hr.2)
    have h2 := ih (i + 4) (acc ++ [num ((l.drop i).take 4)]) (by omega) (by rw [List.length_append, List.length_singleton]; omega)
    rw [cells_step l i (by omega)]
    rw [List.append_assoc, List.singleton_append] at h2
    refine Ev.succ ?_
    simp only [arboretref06_Cells.l0, hw]
    refine Ev.pos (by omega) (Ev.then hn (Ev.pos (by omega) ?_))
    simp only [hm]
    exact h2
theorem refcells_ev (l : List Int) (hb : isBytes l) (hl : l.length ≤ 1048576) : Ev (fun k => arboretref06_Cells.f k l) (if l.length % 4 = 0 then (cellsOf l, 0) else ([], 4)) := by
  unfold arboretref06_Cells.f
  by_cases h : l.length % 4 = 0
  · rw [if_pos h]
    have := refcells_loop l hb hl h (l.length / 4) 0 [] (by omega) (by simp only [List.length_nil]; omega)
    exact Ev.pos (by omega) (by simpa using this)
  · rw [if_neg h]
    exact Ev.neg (by omega) (Ev.some _)
/-! ### the one cell of a property -/
def oneOf (s : List UInt8) (l : List S104) : Int × Bool × Int := match valP s l with
  | none => (0, false, 0)
  | some v => if v.length = 4 then (num v, true, 0) else (0, false, 4)
theorem one_ev (x : S39) (s : ByteArray) (hx : bulk39 x ≤ 1048576) (hg : good39 x) : Ev (fun k => prop_One.f k x.f0 x.f1 x.f2 s) (oneOf s.toList x.f1) := by
  unfold prop_One.f
  refine Ev.then (find_ev x s hx) ?_
  unfold findN oneOf
  cases hv : valP s.toList x.f1 with
  | none => exact Ev.neg (by decide) (Ev.some _)
  | some v =>
    obtain ⟨p, hp, rfl⟩ := valP_mem hv
    have hby : isBytes p.f1 := good_value p (((good_eq x).mp hg).1 p hp)
    refine Ev.pos rfl ?_
    by_cases h4 : 4 ≤ p.f1.length
    · have hget := get_at p.f1 0 hby (by omega)
      simp only [Int.natCast_zero, List.drop_zero] at hget
      simp only [hget, Option.bind_some]
      refine Ev.pos trivial ?_
      by_cases h : p.f1.length = 4
      · rw [if_pos h, List.take_of_length_le (by omega)]
        exact Ev.pos (by omega) (Ev.some _)
      · rw [if_neg h]
        exact Ev.neg (by omega) (Ev.some _)
    · have hget := get_no p.f1 0 (by omega)
      simp only [Int.natCast_zero] at hget
      have h5 : ¬ p.f1.length = 4 := by omega
      simp only [hget, Option.bind_some]
      rw [if_neg h5]
      exact Ev.neg (by decide) (Ev.some _)
theorem refone_ev (x : S39) (s : ByteArray) (hx : bulk39 x ≤ 1048576) (hg : good39 x) : Ev (fun k => arboretref06_One.f k x.f0 x.f1 x.f2 s) (oneOf s.toList x.f1) := by
  unfold arboretref06_One.f
  refine Ev.then (reffind_ev x s hx) ?_
  unfold oneOf
  rcases ixP_val s.toList x.f1 0 with ⟨h1, h2⟩ | ⟨j, hj, h2, h3⟩
  · rw [h1, h2]
    exact Ev.pos (by decide) (Ev.some _)
  · rw [h2, h3, Nat.zero_add]
    have hp := getP (xs := x.f1) (i := j) hj
    have hby : isBytes (x.f1.getD j z104).f1 := good_value _ (((good_eq x).mp hg).1 _ hp)
    have hb := bulk_prop hp
    have hv := bulk_value (x.f1.getD j z104)
    simp only [rdP]
    refine Ev.neg (by omega) (Ev.pos (Int.natCast_nonneg j) (Ev.pos (by omega) (Ev.then (refcells_ev _ hby (by omega)) ?_)))
    generalize hvv : (x.f1.getD j z104).f1 = v at *
    by_cases h : v.length % 4 = 0
    · rw [if_pos h]
      have hcl := cells_len v
      refine Ev.pos rfl ?_
      by_cases h4 : v.length = 4
      · rw [if_pos h4]
        match v, h4 with
        | [a, b, c, d], _ => exact Ev.pos (by rfl) (Ev.pos (by simp [cellsOf]) (Ev.some _))
      · rw [if_neg h4]
        exact Ev.neg (by simp only [hcl]; omega) (Ev.some _)
    · have h5 : ¬ v.length = 4 := by omega
      rw [if_neg h, if_neg h5]
      exact Ev.neg (by decide) (Ev.some _)
end Go.Proofs.Yteejaaeglfpcmaa.PX

/- Of how many cells addresses and sizes are: the program's count and the reference's. Own text. -/
set_option linter.unusedVariables false
set_option linter.unusedSimpArgs false
namespace Go.Proofs.Yteejaaeglfpcmaa.PX
open Go.RowKit Go.Proofs.Yteejaaeglfpcmaa.Rdr Go.Proofs.Yteejaaeglfpcmaa.Aid Go.Proofs.YteejaaeglfpcmaaW.PrintWords
abbrev sAddr : ByteArray := ⟨#[35, 97, 100, 100, 114, 101, 115, 115, 45, 99, 101, 108, 108, 115]⟩
abbrev sSize : ByteArray := ⟨#[35, 115, 105, 122, 101, 45, 99, 101, 108, 108, 115]⟩
theorem oneOf_range (s : List UInt8) (x : S39) (hg : good39 x) : 0 ≤ (oneOf s x.f1).1 := by
  unfold oneOf
  cases hv : valP s x.f1 with
  | none => exact Int.le_refl 0
  | some v =>
    obtain ⟨p, hp, rfl⟩ := valP_mem hv
    have hby : isBytes p.f1 := good_value p (((good_eq x).mp hg).1 p hp)
    by_cases h : p.f1.length = 4
    · simp only [if_pos h]
      exact (num_range _ hby).1
    · simp only [if_neg h]
      exact Int.le_refl 0
/-- A count of cells; -1: it may not be. -/
def cntI (s : List UInt8) (w : Int) (l : List S104) : Int := if (oneOf s l).2.2 = 0 ∧ (oneOf s l).1 ≤ 2 then (if (oneOf s l).2.1 = true then (oneOf s l).1 else w) else -1
theorem cntI_range (s : List UInt8) (w : Int) (x : S39) (hg : good39 x) (hw : 0 ≤ w ∧ w ≤ 2) : -1 ≤ cntI s w x.f1 ∧ cntI s w x.f1 ≤ 2 := by
  have := oneOf_range s x hg
  unfold cntI
  split
  · split <;> omega
  · omega
def cntR (c : Int) : Int × Int := if c < 0 then (0, 10) else (c, 0)
theorem cntR_no {c : Int} (h : c < 0) : cntR c = (0, 10) := if_pos h
theorem cntR_yes {c : Int} (h : ¬ c < 0) : cntR c = (c, 0) := if_neg h
theorem count_ev (x : S39) (s : ByteArray) (w : Int) (hx : bulk39 x ≤ 1048576) (hg : good39 x) (hw : 0 ≤ w ∧ w ≤ 2) :
    Ev (fun k => region_count.f k x.f0 x.f1 x.f2 s w) (cntR (cntI s.toList w x.f1)) := by
  have h0 := oneOf_range s.toList x hg
  unfold region_count.f
  refine Ev.then (one_ev x s hx hg) ?_
  unfold cntI
  generalize oneOf s.toList x.f1 = o at *
  obtain ⟨v, b, e⟩ := o
  simp only at h0 ⊢
  by_cases he : e = 0
  · by_cases hv : v ≤ 2
    · rw [if_pos ⟨he, hv⟩]
      have hd : decide (v > 2) = false := decide_eq_false (by omega)
      have hw64 : wrap64 v = v := w64 (by omega) (by omega)
      refine Ev.pos he (Ev.succ ?_)
      simp only [region_count.j0, hd, hw64]
      refine Ev.neg (by decide) ?_
      cases b with
      | true => exact Ev.pos rfl (Ev.fix (by simp [cntR]; omega))
      | false => exact Ev.neg (by decide) (Ev.fix (by simp [cntR]; omega))
    · have hd : decide (v > 2) = true := decide_eq_true (by omega)
      rw [if_neg (by omega), cntR_no (by decide)]
      refine Ev.pos he (Ev.succ ?_)
      simp only [region_count.j0, hd]
      exact Ev.pos trivial (Ev.some _)
  · rw [if_neg (fun h => he h.1), cntR_no (by decide)]
    refine Ev.neg he (Ev.succ ?_)
    simp only [region_count.j0]
    exact Ev.pos trivial (Ev.some _)
theorem refcount_ev (x : S39) (s : ByteArray) (w : Int) (hx : bulk39 x ≤ 1048576) (hg : good39 x) (hw : 0 ≤ w ∧ w ≤ 2) :
    Ev (fun k => arboretref12_count.f k x.f0 x.f1 x.f2 s w) (cntI s.toList w x.f1) := by
  have h0 := oneOf_range s.toList x hg
  unfold arboretref12_count.f
  refine Ev.then (refone_ev x s hx hg) ?_
  unfold cntI
  generalize oneOf s.toList x.f1 = o at *
  obtain ⟨v, b, e⟩ := o
  simp only at h0 ⊢
  by_cases he : e = 0
  · by_cases hv : v ≤ 2
    · rw [if_pos ⟨he, hv⟩]
      have hd : decide (v > 2) = false := decide_eq_false (by omega)
      have hw64 : wrap64 v = v := w64 (by omega) (by omega)
      refine Ev.pos he (Ev.succ ?_)
      simp only [arboretref12_count.j0, hd, hw64]
      refine Ev.neg (by decide) ?_
      cases b with
      | true => exact Ev.pos rfl (Ev.fix (by simp))
      | false => exact Ev.neg (by decide) (Ev.fix (by simp))
    · have hd : decide (v > 2) = true := decide_eq_true (by omega)
      rw [if_neg (by omega)]
      refine Ev.pos he (Ev.succ ?_)
      simp only [arboretref12_count.j0, hd]
      exact Ev.pos trivial (Ev.some _)
  · rw [if_neg (fun h => he h.1)]
    refine Ev.neg he (Ev.succ ?_)
    simp only [arboretref12_count.j0]
    exact Ev.pos trivial (Ev.some _)
def cAddr (x : S39) : Int := cntI sAddr.toList 2 x.f1
def cSize (x : S39) : Int := cntI sSize.toList 1 x.f1
theorem cAddr_range (x : S39) (hg : good39 x) : -1 ≤ cAddr x ∧ cAddr x ≤ 2 := cntI_range _ _ x hg (by decide)
theorem cSize_range (x : S39) (hg : good39 x) : -1 ≤ cSize x ∧ cSize x ≤ 2 := cntI_range _ _ x hg (by decide)
def countsOf (x : S39) : Int × Int × Int := if 0 ≤ cAddr x ∧ 0 ≤ cSize x then (cAddr x, cSize x, 0) else (0, 0, 10)
theorem counts_ev (x : S39) (hx : bulk39 x ≤ 1048576) (hg : good39 x) : Ev (fun k => region_Counts.f k x.f0 x.f1 x.f2) (countsOf x) := by
  unfold region_Counts.f
  refine Ev.then (count_ev x sAddr 2 hx hg (by decide)) ?_
  have ha : cntI sAddr.toList 2 x.f1 = cAddr x := rfl
  have hs : cntI sSize.toList 1 x.f1 = cSize x := rfl
  rw [ha]
  by_cases h : cAddr x < 0
  · rw [cntR_no h]
    have e : countsOf x = (0, 0, 10) := if_neg (by omega)
    rw [e]
    exact Ev.neg (by decide) (Ev.some _)
  · rw [cntR_yes h]
    refine Ev.pos rfl (Ev.then (count_ev x sSize 1 hx hg (by decide)) ?_)
    rw [hs]
    by_cases h2 : cSize x < 0
    · rw [cntR_no h2]
      have e : countsOf x = (0, 0, 10) := if_neg (by omega)
      rw [e]
      exact Ev.neg (by decide) (Ev.some _)
    · rw [cntR_yes h2]
      have e : countsOf x = (cAddr x, cSize x, 0) := if_pos (by omega)
      rw [e]
      exact Ev.pos rfl (Ev.some _)
theorem refcounts_ev (x : S39) (hx : bulk39 x ≤ 1048576) (hg : good39 x) : Ev (fun k => arboretref12_Counts.f k x.f0 x.f1 x.f2) (cAddr x, cSize x, decide (0 ≤ cAddr x ∧ 0 ≤ cSize x)) := by
  unfold arboretref12_Counts.f
  refine Ev.then (refcount_ev x sAddr 2 hx hg (by decide)) (Ev.then (refcount_ev x sSize 1 hx hg (by decide)) ?_)
  have ha : cntI sAddr.toList 2 x.f1 = cAddr x := rfl
  have hs : cntI sSize.toList 1 x.f1 = cSize x := rfl
  rw [ha, hs]
  by_cases h : cAddr x ≥ 0
  · have : decide (0 ≤ cAddr x ∧ 0 ≤ cSize x) = decide (cSize x ≥ 0) := by
      rw [decide_eq_decide]
      exact ⟨fun h => h.2, fun h2 => ⟨h, h2⟩⟩
    rw [this]
    exact Ev.pos h (Ev.some _)
  · have : decide (0 ≤ cAddr x ∧ 0 ≤ cSize x) = false := decide_eq_false (fun h2 => h h2.1)
    rw [this]
    exact Ev.neg h (Ev.some _)
theorem region_awake : Ev (fun k => arboretlaw12_awake.f k) true := Ev.of (k := 6) (fun k => arboretlaw12_awake.mono k) (by decide +kernel)
theorem few12_ends (x : S39) (hx : bulk39 x ≤ 1048576) : ∃ v, Ev (fun k => arboretlaw12_few.f k x.f0 x.f1 x.f2) v := by
  obtain ⟨v, hv⟩ := few_ends 0 [] x hx
  exact ⟨v, Ev.then hv (Ev.some _)⟩
end Go.Proofs.Yteejaaeglfpcmaa.PX

/- The pure side of RegionCounts: both tell alike of how many cells addresses and sizes are. Bulk at most 1048576. -/
set_option linter.unusedVariables false
set_option linter.unusedSimpArgs false
namespace Go.Proofs.Yteejaaeglfpcmaa.Pure
open Go.RowKit Go.Proofs.Yteejaaeglfpcmaa.PX Go.Proofs.Yteejaaeglfpcmaa.Rdr Go.Proofs.Yteejaaeglfpcmaa.Aid Go.Proofs.YteejaaeglfpcmaaW.PrintWords
theorem RegionCounts : arboretlaw12_RegionCounts.Pure := by
  intro x hx hg
  obtain ⟨v, hv⟩ := few12_ends x hx
  refine Ev.out (?_ : Ev (fun k => arboretlaw12_RegionCounts.f k x.f0 x.f1 x.f2) true)
  unfold arboretlaw12_RegionCounts.f
  refine Ev.then region_awake (Ev.pos rfl (Ev.then hv (Ev.succ ?_)))
  simp only [arboretlaw12_RegionCounts.j0]
  cases v with
  | false => exact Ev.pos rfl (Ev.then region_awake (Ev.some _))
  | true =>
    refine Ev.neg (by decide) (Ev.then (counts_ev x hx hg) (Ev.then (refcounts_ev x hx hg) ?_))
    unfold countsOf
    by_cases h : 0 ≤ cAddr x ∧ 0 ≤ cSize x
    · rw [if_pos h, decide_eq_true h]
      refine Ev.pos rfl (Ev.pos rfl (Ev.pos rfl ?_))
      simp only [beq_self_eq_true]
      exact Ev.some _
    · rw [if_neg h, decide_eq_false h]
      exact Ev.neg (by simp) (Ev.pos rfl (Ev.pos rfl (Ev.some _)))
end Go.Proofs.Yteejaaeglfpcmaa.Pure

/- RegionCounts: the given statement RegionCountsUptoSaid, out of the walk's contract and the pure statement. Conditions: the row's own. -/
namespace Go.Proofs.Yteejaaeglfpcmaa.regionCounts
open Go.ChangeShapes Go.WideShapes Go.ChangeAt Go.RowKit Go.Proofs.Yteejaaeglfpcmaa.Rdr Go.Proofs.Yteejaaeglfpcmaa.PX
open Go.ChangeMaps (open_string shut_string)
set_option linter.unusedVariables false
set_option linter.unusedSimpArgs false
theorem own : ownKnob Try.prog.godebug = none := by kernel_rfl
theorem laidOut : laidOutB Try.prog = true := by kernel_rfl
set_option maxRecDepth 100000 in
theorem contract (H : Type) (enc : TypeId × Value → H) (W : World) (base : Nat) (args : Array Value) (ds gs : List (DataW H)) (before : List MemPlace)
    (hval0 : ∀ (j : Nat) t v, Try.f7.params[j]? = some t → args[j]? = some v → Value.okWide Try.prog W .any base t v)
    (hW : DataW.Whole enc Try.prog Try.f7.params.toList Rows.regionCountsSpec.vars false W args.toList ds gs before) (hk : Rows.uptoSmall H (ds ++ gs) = true) :
    Calls Try.prog 7 args W fun e W' => ∃ v, e = .returned v ∧ Rows.regionCountsSpec.post enc Try.prog Try.f7 false true false false W args v W' := by
  have hval : ∀ (j : Nat) t v, Try.f7.params[j]? = some t → args[j]? = some v → Value.okWide Try.prog W .any base t v := hval0
  have hW' := hW
  obtain ⟨p, q, hA0, hV, rfl, hfz, hnd⟩ := hW
  have hA : DataW.TrodAll enc Try.prog W 0 (fun _ => true) true Try.f7.params.toList args.toList ds p := hA0
  rw [Try.params7] at hA hval
  obtain ⟨v0, vs0, d0, ds0, p0, q0, hargs, rfl, rfl, h0, tr0⟩ := trodAll_cons hA
  obtain ⟨rfl, rfl, rfl⟩ := trodAll_nil tr0
  obtain rfl : args = #[v0] := by cases args; simp_all
  obtain ⟨rfl, rfl⟩ := trodVars_none hV
  have hb := bound hk
  simp only [List.append_nil, Rows.uptoBulkAll, List.nil_append] at hb
  have k0 := h0
  have lt0 : ∀ x ∈ p0, x.block < W.heap.size := by obtain ⟨m, hm⟩ := k0; exact DataW.trod_lt m _ _ _ hm
  obtain ⟨cs0, rfl, hcs0⟩ : ∃ cs, v0 = .agg cs ∧ True := by
    have z := (hval 0 39 v0 rfl rfl)
    simp only [Value.okWide, Try.underlying39] at z
    obtain ⟨cs, hc, _⟩ := z
    exact ⟨cs, hc, trivial⟩
  obtain ⟨f0, hf0⟩ := h0
  obtain ⟨x0, K0, b0, g0⟩ := rd39 W f0 H enc f0 (Nat.le_refl _) _ _ hf0
  obtain ⟨A0_1, c0_1, A0_2, c0_2, e0, l0_1, r0_1, l0_2, r0_2⟩ := k39_open K0
  obtain ⟨cl0⟩ := cs0
  have e0' : cl0 = _ := e0
  subst e0'
  obtain ⟨k, hk_⟩ := Pure.RegionCounts x0 (by (try simp only [Rows.uptoBulk, Array.length_toList] at hb); first | omega | (simp only [ByteArray.size] at *; omega)) g0
  refine (arboretlaw12_RegionCounts.calls k x0.f0 A0_1 c0_1 x0.f1 A0_2 c0_2 x0.f2 true W r0_1 l0_1 r0_2 l0_2 hk_).mono fun e W' ⟨he, bel0⟩ => ?_
  have bel : Below W.heap.size W W' := bel0
  subst he
  exact ⟨_, rfl, _, _, _, [], _, [], hW', trodAll_mk1 (shut_bool Try.underlying4 _), (trodAll_cons_mk (Below.trod laidOut (by kernel_rfl) (of_decide_eq_true (by kernel_rfl)) k0 bel lt0) trodAll_mk0), rfl, bel.frame _, fun h => by cases h⟩
set_option maxRecDepth 100000 in
theorem lifted (os : Os) (started : os.Started) (H : Type) (enc : TypeId × Value → H) (F : Stop.Interp) :
    ReturnsInHanded {} Try.checked os 7 .any ((Rows.OpenSpec.upto Rows.regionCountsSpec).pre6 enc Try.prog Try.f7 Rows.regionCountsUptoRow.domain false) (((Rows.OpenSpec.upto Rows.regionCountsSpec).at F).post enc Try.prog Try.f7 false true false false) := by
  refine returnsInHanded_of_cond (C := Try.checked) (s := Rows.OpenSpec.upto Rows.regionCountsSpec) (k := Rows.uptoSmall) rfl own started (by kernel_rfl) Try.func7
    (OpenSpec.witness (enc := enc) (C := Try.checked) (s := Rows.OpenSpec.upto Rows.regionCountsSpec) (k := Rows.uptoSmall) rfl false ⟨#[], #[.agg #[.string ByteArray.empty, .slice none 0 0, .slice none 0 0]], []⟩ 16 (by kernel_rfl) (by kernel_rfl) (by kernel_rfl)
      (x := ([.agg [.lit (.string []), .nil, .nil]], [], [])) (by kernel_rfl) rfl (by kernel_rfl)) ?_
  intro W base args ds gs before hval hW _ hk _
  exact contract H enc W base args ds gs before hval hW hk
theorem over : Rows.regionCountsUptoRow.holds Try.pinned (Rows.OpenSpec.upto Rows.regionCountsSpec) :=
  OpenClaim.holds_of_cond 7 Try.f7 rfl rfl rfl rfl rfl rfl rfl ⟨rfl, rfl, rfl, rfl, rfl⟩ rfl rfl rfl rfl rfl (by kernel_rfl) Try.func7 (by kernel_rfl)
    (of_decide_eq_true (by kernel_rfl)) (by unfold Func.isWrapper; first | (rw [if_pos (by decide +kernel)]; kernel_rfl) | (rw [if_neg (by decide +kernel)]; exact ⟨rfl, rfl⟩))
    (fun os started H enc _ F => lifted os started H enc F)
theorem proved : Rows.RegionCountsUptoSaid := over
end Go.Proofs.Yteejaaeglfpcmaa.regionCounts
namespace Go.Proofs.Yteejaaeglfpcmaa
/-- The row, under a short name, for the claim. -/
theorem regionCounts_holds : Rows.RegionCountsUptoSaid := regionCounts.proved
end Go.Proofs.Yteejaaeglfpcmaa
