/- HandleFinds: texts of this session's, and what the kit's print laid for this seat, as far as the law's row uses them (PHx_arboretlaw08_HandleFinds, Rdr, PHKinds, PHStateHandleFinds, Aid, Tree, PlacesD, Num, One, RGet, HandlesC, Equal, RAll, PHx_handle_Most, PHx_arboretref06_Most, Handles, HandlesLaw, PureHandleFinds, LawHandleFinds). -/
import Derived.Test.YteejaaeglfpcmaaRows
import Derived.ChangeArms
import Derived.DataReads
import Derived.Deep.Slices
import Derived.Lib.EndianBits
import Derived.ProofKit
import Derived.OpenShut
import Derived.ShutString
import Derived.ChangeOld
import Derived.JoinedCond
import Derived.Deep.CondSized
import Derived.Test.YteejaaeglfpcmaaZHandleFinds3
set_option linter.unusedVariables false
set_option linter.unusedSimpArgs false
namespace Go.Proofs.Yteejaaeglfpcmaa.PH
open Go.RowKit Go.Proofs.YteejaaeglfpcmaaW.PrintWords Go.Proofs.YteejaaeglfpcmaaW.PrintLast Go.Proofs.YteejaaeglfpcmaaW.PrintMore
attribute [local go_sem] max2_int min2_int max_two min_two max_three min_three max_four min_four   -- for this text's walks alone
set_option linter.unusedVariables false
set_option linter.unusedSimpArgs false
def arboretlaw08_HandleFinds.j0 : Nat → Int → Bool → Int → List (S151) → ByteArray → List (S104) → List (S39) → Option (Bool)
  | 0, _, _, _, _, _, _, _ => none
  | k + 1, x1, x17, x217000, x217001, x217002, x217003, x217004 => if x17 = true then ((arboretlaw08_awake.f k).bind fun t219 => (some t219)) else ((handle_Find.f k x217000 x217001 x217002 x217003 x217004 x1).bind fun bt220 => ((arboretref06_Index.f k x217000 x217001 x217002 x217003 x217004).bind fun bt224 => ((arboretref06_Handle.f k x217000 x217001 x217002 x217003 x217004 x1).bind fun bt228 => (if bt224.2 = 0 then (if ((bt220.2 == 0) == bt228.2) = true then (if bt228.2 = true then ((arboretref12_Equal.f k bt220.1 bt228.1).bind fun t232 => (some t232)) else (if bt220.2 = 11 then ((arboretref12_Equal.f k bt220.1 bt228.1).bind fun t233 => (some t233)) else (some false))) else (some false)) else (if bt220.2 = bt224.2 then (some ((bt220.1.length : Int) == 0)) else (some false))))))
def arboretlaw08_HandleFinds.f (k : Nat) (a0_0 : Int) (l0_1 : List (S151)) (a0_2 : ByteArray) (l0_3 : List (S104)) (l0_4 : List (S39)) (a1 : Int) : Option (Bool) := (arboretlaw08_awake.f k).bind fun t217 => (if t217 = true then ((arboretlaw03_Few.f k a0_0 l0_1 a0_2 l0_3 l0_4).bind fun t218 => (arboretlaw08_HandleFinds.j0 k a1 (!t218) a0_0 l0_1 a0_2 l0_3 l0_4)) else (arboretlaw08_HandleFinds.j0 k a1 true a0_0 l0_1 a0_2 l0_3 l0_4))
set_option maxHeartbeats 8000000 in
set_option maxRecDepth 100000 in
theorem arboretlaw08_HandleFinds.calls (k : Nat) (a0_0 : Int) (A0_1 : Option Addr) (c0_1 : Nat) (l0_1 : List (S151)) (a0_2 : ByteArray) (A0_3 : Option Addr) (c0_3 : Nat) (l0_3 : List (S104)) (A0_4 : Option Addr) (c0_4 : Nat) (l0_4 : List (S39)) (a1 : Int) (r : Bool) (w : World) (hr0_1 : Kd.C k151 w A0_1 l0_1.length l0_1) (hc0_1 : l0_1.length ≤ c0_1) (hr0_3 : Kd.C k104 w A0_3 l0_3.length l0_3) (hc0_3 : l0_3.length ≤ c0_3) (hr0_4 : Kd.C k39 w A0_4 l0_4.length l0_4) (hc0_4 : l0_4.length ≤ c0_4) (h : arboretlaw08_HandleFinds.f k a0_0 l0_1 a0_2 l0_3 l0_4 a1 = some r) :
    Calls Try.prog 10 #[.agg #[.int .u32 a0_0, .slice A0_1 l0_1.length c0_1, .string a0_2, .slice A0_3 l0_3.length c0_3, .slice A0_4 l0_4.length c0_4], .int .u32 a1] w fun e w' => e = .returned (.bool r) ∧ Below w.heap.size w w' := by
  have hu43 := Try.underlying43
  have HR0_1 := Aside0.mk hr0_1
  have HC0_1 := Aside0.mk hc0_1
  clear hr0_1 hc0_1
  have HR0_3 := Aside0.mk hr0_3
  have HC0_3 := Aside0.mk hc0_3
  clear hr0_3 hc0_3
  have HR0_4 := Aside0.mk hr0_4
  have HC0_4 := Aside0.mk hc0_4
  clear hr0_4 hc0_4
  have HB := Aside0.mk (Below.refl w.heap.size w)
  have H : ((arboretlaw08_awake.f k).bind fun t217 => (if t217 = true then ((arboretlaw03_Few.f k a0_0 l0_1 a0_2 l0_3 l0_4).bind fun t218 => (arboretlaw08_HandleFinds.j0 k a1 (!t218) a0_0 l0_1 a0_2 l0_3 l0_4)) else (arboretlaw08_HandleFinds.j0 k a1 true a0_0 l0_1 a0_2 l0_3 l0_4))) = some r := h
  clear h
  have HC3 := Aside0.mk H
  clear H
  go_enter Try.func10, Try.ntmps10
  go_upto_region 1 with (first | ((with_reducible refine gate_dst (N := 2) rfl ?_); (try (refine gate_guard (by rfl) ?_; dsimp only)); refine box_event ?hg (N := 2) ?hd (cs := #[.int .u32 a0_0, .slice A0_1 l0_1.length c0_1, .string a0_2, .slice A0_3 l0_3.length c0_3, .slice A0_4 l0_4.length c0_4]) (t := 43) ?hr ?_; (case hd => rfl); (case hg => rfl); (case hr => first | (go_simp; done) | (go_simp; rfl)); intro gb216 hg w4 hbox hb; have n0_ := Aside0.mk (below_step (by repeat (first | (with_reducible first | exact HB.out | apply below_alloc | apply pw_below_drewN | apply below_drew1) | exact HB.out)) hb); have n1_ := Aside0.mk (hbox); have n2_ := Aside0.mk ((by rw [hg]; exact (below_size (by repeat (first | (with_reducible first | exact HB.out | apply below_alloc | apply pw_below_drewN | apply below_drew1) | exact HB.out))) : w.heap.size ≤ gb216)); have n3_ := Aside0.mk ((by rw [hg]; exact (below_size (by repeat (first | (with_reducible first | exact HB.out | apply below_alloc | apply pw_below_drewN | apply below_drew1) | exact HB.out))) : w.heap.size ≤ gb216)); clear HB; have HB := n0_; have BK216 := n1_; have GW216 := n2_; have GE216 := n3_; clear n0_ n1_ n2_ n3_; clear hb hbox hg))
  (try simp only [Act.put, List.setIfInBounds_toArray, List.set_cons_zero, List.set_cons_succ])
  go_cut [17] (fun v17 wc => ∃ (kq : Nat) (x17_2 : Bool), v17 = .bool x17_2 ∧ Aside0 (arboretlaw08_HandleFinds.j0 kq a1 x17_2 a0_0 l0_1 a0_2 l0_3 l0_4 = some r) ∧ Aside0 (kq ≤ k) ∧ Aside0 (wc.heap[gb216]? = some (.cells #[.int .u32 a0_0, (.slice A0_1 l0_1.length c0_1), .string a0_2, (.slice A0_3 l0_3.length c0_3), (.slice A0_4 l0_4.length c0_4)] 43 (0, 0))) ∧ Aside0 (Below w.heap.size w wc))
  case first =>
    have H := HC3.out
    clear HC3
    replace H := Option.bind_eq_some_iff.mp H
    obtain ⟨t217, A50, H⟩ := H
    replace H : (if t217 = true then ((arboretlaw03_Few.f k a0_0 l0_1 a0_2 l0_3 l0_4).bind fun t218 => (arboretlaw08_HandleFinds.j0 k a1 (!t218) a0_0 l0_1 a0_2 l0_3 l0_4)) else (arboretlaw08_HandleFinds.j0 k a1 true a0_0 l0_1 a0_2 l0_3 l0_4)) = some r := H
    have A5 := Aside0.mk A50
    clear A50
    by_cases c6 : t217 = true
    · subst c6
      have H1 : ((arboretlaw03_Few.f k a0_0 l0_1 a0_2 l0_3 l0_4).bind fun t218 => (arboretlaw08_HandleFinds.j0 k a1 (!t218) a0_0 l0_1 a0_2 l0_3 l0_4)) = some r := by rw [if_pos rfl] at H; exact H
      clear H
      have H := H1
      clear H1
      replace H := Option.bind_eq_some_iff.mp H
      obtain ⟨t218, A70, H⟩ := H
      replace H : (arboretlaw08_HandleFinds.j0 k a1 (!t218) a0_0 l0_1 a0_2 l0_3 l0_4) = some r := H
      have A7 := Aside0.mk A70
      clear A70
      have H' := Aside0.mk H
      clear H
      go_wp2_with (first | ((with_reducible refine gate_callee (f := 36) rfl ?_); refine goesL_ (some 11) rfl rfl Try.func36 (by kernel_rfl) rfl #[] rfl (by (try simp only [List.map_toArray, List.map_cons, List.map_nil]); first | done | rfl | (simp only [List.length_drop, List.length_take]; rfl)) ?_; (with_reducible refine (arboretlaw08_awake.calls k  true _ A5.out).mono ?_); rintro e w8 ⟨rfl, hb⟩; refine ⟨_, rfl, ?_⟩; have n0_ := Aside0.mk (blk_below (g := gb216) (o := .cells #[.int .u32 a0_0, .slice A0_1 l0_1.length c0_1, .string a0_2, .slice A0_3 l0_3.length c0_3, .slice A0_4 l0_4.length c0_4] 43 (0, 0)) (by (with_reducible repeat (first | refine blk_drewN ?_ _ | refine blk_drew ?_ | refine blk_alloc ?_ _)); exact BK216.out) hb); have n1_ := Aside0.mk (below_step (by repeat (first | (with_reducible first | exact HB.out | apply below_alloc | apply pw_below_drewN | apply below_drew1 | refine below_set ?_ GE216.out) | exact HB.out)) hb); clear BK216; clear HB; have BK216 := n0_; have HB := n1_; clear n0_ n1_; (try clear hb); (try clear hb2); (try clear hk); (try clear hi); have hcz9_0 : w8.cell? ⟨gb216, 0, none⟩ = some (.int .u32 a0_0) := (blk_cell BK216.out 0).trans rfl; have hcz9_1 : w8.cell? ⟨gb216, 1, none⟩ = some (.slice A0_1 l0_1.length c0_1) := (blk_cell BK216.out 1).trans rfl; have hcz9_2 : w8.cell? ⟨gb216, 2, none⟩ = some (.string a0_2) := (blk_cell BK216.out 2).trans rfl; have hcz9_3 : w8.cell? ⟨gb216, 3, none⟩ = some (.slice A0_3 l0_3.length c0_3) := (blk_cell BK216.out 3).trans rfl; have hcz9_4 : w8.cell? ⟨gb216, 4, none⟩ = some (.slice A0_4 l0_4.length c0_4) := (blk_cell BK216.out 4).trans rfl; have hfz9_0 := blk_frozen BK216.out 0; have hfz9_1 := blk_frozen BK216.out 1; have hfz9_2 := blk_frozen BK216.out 2; have hfz9_3 := blk_frozen BK216.out 3; have hfz9_4 := blk_frozen BK216.out 4) | (go_at_call 21; (with_reducible refine (arboretlaw03_Few.calls k a0_0 _ _ l0_1 a0_2 _ _ l0_3 _ _ l0_4 t218 _ ?side1 ?side2 ?side3 ?side4 ?side5 ?side6 A7.out).mono ?_); (case side1 => repeat (first | exact (Kd.C_below HR0_1.out HB.out) | (with_reducible refine Kd.C_alloc ?_ _) | (with_reducible refine Kd.C_drewN ?_ _) | (with_reducible refine Kd.C_drew ?_))); (case side2 => exact HC0_1.out); (case side3 => repeat (first | exact (Kd.C_below HR0_3.out HB.out) | (with_reducible refine Kd.C_alloc ?_ _) | (with_reducible refine Kd.C_drewN ?_ _) | (with_reducible refine Kd.C_drew ?_))); (case side4 => exact HC0_3.out); (case side5 => repeat (first | exact (Kd.C_below HR0_4.out HB.out) | (with_reducible refine Kd.C_alloc ?_ _) | (with_reducible refine Kd.C_drewN ?_ _) | (with_reducible refine Kd.C_drew ?_))); (case side6 => exact HC0_4.out); rintro e w10 ⟨rfl, hb⟩; have n0_ := Aside0.mk (blk_below (g := gb216) (o := .cells #[.int .u32 a0_0, .slice A0_1 l0_1.length c0_1, .string a0_2, .slice A0_3 l0_3.length c0_3, .slice A0_4 l0_4.length c0_4] 43 (0, 0)) (by (with_reducible repeat (first | refine blk_drewN ?_ _ | refine blk_drew ?_ | refine blk_alloc ?_ _)); exact BK216.out) hb); have n1_ := Aside0.mk (below_step (by repeat (first | (with_reducible first | exact HB.out | apply below_alloc | apply pw_below_drewN | apply below_drew1 | refine below_set ?_ GE216.out) | exact HB.out)) hb); clear BK216; clear HB; have BK216 := n0_; have HB := n1_; clear n0_ n1_; (try clear hb); (try clear hb2); (try clear hk); (try clear hi)))
      go_meet
      case rel => exact ⟨_, (!t218), (by first | rfl | (simp; done) | (simp [*]; done)), H', ⟨by first | omega | exact Nat.le_refl _⟩, ⟨by (with_reducible repeat (first | refine blk_drewN ?_ _ | refine blk_drew ?_ | refine blk_alloc ?_ _)); exact BK216.out⟩, ⟨by repeat (first | (with_reducible first | exact HB.out | apply below_alloc | apply pw_below_drewN | apply below_drew1 | refine below_set ?_ GE216.out) | exact HB.out)⟩⟩
    · replace c6 := Bool.eq_false_iff.mpr c6
      subst c6
      have H1 : (arboretlaw08_HandleFinds.j0 k a1 true a0_0 l0_1 a0_2 l0_3 l0_4) = some r := by rw [if_neg (show ¬ (false = true) by decide)] at H; exact H
      clear H
      have H := H1
      clear H1
      have H' := Aside0.mk H
      clear H
      go_wp2_with (first | ((with_reducible refine gate_callee (f := 36) rfl ?_); refine goesL_ (some 11) rfl rfl Try.func36 (by kernel_rfl) rfl #[] rfl (by (try simp only [List.map_toArray, List.map_cons, List.map_nil]); first | done | rfl | (simp only [List.length_drop, List.length_take]; rfl)) ?_; (with_reducible refine (arboretlaw08_awake.calls k  false _ A5.out).mono ?_); rintro e w11 ⟨rfl, hb⟩; refine ⟨_, rfl, ?_⟩; have n0_ := Aside0.mk (blk_below (g := gb216) (o := .cells #[.int .u32 a0_0, .slice A0_1 l0_1.length c0_1, .string a0_2, .slice A0_3 l0_3.length c0_3, .slice A0_4 l0_4.length c0_4] 43 (0, 0)) (by (with_reducible repeat (first | refine blk_drewN ?_ _ | refine blk_drew ?_ | refine blk_alloc ?_ _)); exact BK216.out) hb); have n1_ := Aside0.mk (below_step (by repeat (first | (with_reducible first | exact HB.out | apply below_alloc | apply pw_below_drewN | apply below_drew1 | refine below_set ?_ GE216.out) | exact HB.out)) hb); clear BK216; clear HB; have BK216 := n0_; have HB := n1_; clear n0_ n1_; (try clear hb); (try clear hb2); (try clear hk); (try clear hi)))
      go_meet
      case rel => exact ⟨_, (true), (by first | rfl | (simp; done) | (simp [*]; done)), H', ⟨by first | omega | exact Nat.le_refl _⟩, ⟨by (with_reducible repeat (first | refine blk_drewN ?_ _ | refine blk_drew ?_ | refine blk_alloc ?_ _)); exact BK216.out⟩, ⟨by repeat (first | (with_reducible first | exact HB.out | apply below_alloc | apply pw_below_drewN | apply below_drew1 | refine below_set ?_ GE216.out) | exact HB.out)⟩⟩
  case rest =>
    clear HC3
    try clear c1
    try clear p2
    try clear c3
    try clear c6
    try clear c10
    try clear hcz9_0
    try clear hcz9_1
    try clear hcz9_2
    try clear hcz9_3
    try clear hcz9_4
    try clear hfz9_0
    try clear hfz9_1
    try clear hfz9_2
    try clear hfz9_3
    try clear hfz9_4
    obtain ⟨kq, x17_2, rfl, HA, HJ2, BK216, HB⟩ := hcut
    cases kq with
    | zero => exact absurd HA.out (by simp [arboretlaw08_HandleFinds.j0])
    | succ kj2 =>
      have H := HA.out
      clear HA
      simp only [arboretlaw08_HandleFinds.j0] at H
      by_cases c12 : x17_2 = true
      · subst c12
        have H1 : ((arboretlaw08_awake.f kj2).bind fun t219 => (some t219)) = some r := by rw [if_pos rfl] at H; exact H
        clear H
        have H := H1
        clear H1
        replace H := Option.bind_eq_some_iff.mp H
        obtain ⟨t219, A130, H⟩ := H
        replace H : (some t219) = some r := H
        have A13 := Aside0.mk A130
        clear A130
        obtain rfl := Option.some.inj H
        go_wp2_with (first | ((with_reducible refine gate_callee (f := 36) rfl ?_); refine goesL_ (some 18) rfl rfl Try.func36 (by kernel_rfl) rfl #[] rfl (by (try simp only [List.map_toArray, List.map_cons, List.map_nil]); first | done | rfl | (simp only [List.length_drop, List.length_take]; rfl)) ?_; (with_reducible refine (arboretlaw08_awake.calls kj2  t219 _ A13.out).mono ?_); rintro e w14 ⟨rfl, hb⟩; refine ⟨_, rfl, ?_⟩; have n0_ := Aside0.mk (blk_below (g := gb216) (o := .cells #[.int .u32 a0_0, .slice A0_1 l0_1.length c0_1, .string a0_2, .slice A0_3 l0_3.length c0_3, .slice A0_4 l0_4.length c0_4] 43 (0, 0)) (by (with_reducible repeat (first | refine blk_drewN ?_ _ | refine blk_drew ?_ | refine blk_alloc ?_ _)); exact BK216.out) hb); have n1_ := Aside0.mk (below_step (by repeat (first | (with_reducible first | exact HB.out | apply below_alloc | apply pw_below_drewN | apply below_drew1 | refine below_set ?_ GE216.out) | exact HB.out)) hb); clear BK216; clear HB; have BK216 := n0_; have HB := n1_; clear n0_ n1_; (try clear hb); (try clear hb2); (try clear hk); (try clear hi)))
        go_ret
        exact ⟨by first | rfl | (simp [errW_none, errW_some] <;> rfl) | (simp [*, errW_none, errW_some] <;> rfl), by repeat (first | (with_reducible first | exact HB.out | apply below_alloc | apply pw_below_drewN | apply below_drew1 | refine below_set ?_ GE216.out) | exact HB.out)⟩
      · replace c12 := Bool.eq_false_iff.mpr c12
        subst c12
        have H1 : ((handle_Find.f kj2 a0_0 l0_1 a0_2 l0_3 l0_4 a1).bind fun bt220 => ((arboretref06_Index.f kj2 a0_0 l0_1 a0_2 l0_3 l0_4).bind fun bt224 => ((arboretref06_Handle.f kj2 a0_0 l0_1 a0_2 l0_3 l0_4 a1).bind fun bt228 => (if bt224.2 = 0 then (if ((bt220.2 == 0) == bt228.2) = true then (if bt228.2 = true then ((arboretref12_Equal.f kj2 bt220.1 bt228.1).bind fun t232 => (some t232)) else (if bt220.2 = 11 then ((arboretref12_Equal.f kj2 bt220.1 bt228.1).bind fun t233 => (some t233)) else (some false))) else (some false)) else (if bt220.2 = bt224.2 then (some ((bt220.1.length : Int) == 0)) else (some false)))))) = some r := by rw [if_neg (show ¬ (false = true) by decide)] at H; exact H
        clear H
        have H := H1
        clear H1
        replace H := Option.bind_eq_some_iff.mp H
        obtain ⟨⟨t220, t223⟩, A150, H⟩ := H
        replace H : ((arboretref06_Index.f kj2 a0_0 l0_1 a0_2 l0_3 l0_4).bind fun bt224 => ((arboretref06_Handle.f kj2 a0_0 l0_1 a0_2 l0_3 l0_4 a1).bind fun bt228 => (if bt224.2 = 0 then (if ((t223 == 0) == bt228.2) = true then (if bt228.2 = true then ((arboretref12_Equal.f kj2 t220 bt228.1).bind fun t232 => (some t232)) else (if t223 = 11 then ((arboretref12_Equal.f kj2 t220 bt228.1).bind fun t233 => (some t233)) else (some false))) else (some false)) else (if t223 = bt224.2 then (some ((t220.length : Int) == 0)) else (some false))))) = some r := H
        have A15 := Aside0.mk A150
        clear A150
        replace H := Option.bind_eq_some_iff.mp H
        obtain ⟨⟨t224, t227⟩, A160, H⟩ := H
        replace H : ((arboretref06_Handle.f kj2 a0_0 l0_1 a0_2 l0_3 l0_4 a1).bind fun bt228 => (if t227 = 0 then (if ((t223 == 0) == bt228.2) = true then (if bt228.2 = true then ((arboretref12_Equal.f kj2 t220 bt228.1).bind fun t232 => (some t232)) else (if t223 = 11 then ((arboretref12_Equal.f kj2 t220 bt228.1).bind fun t233 => (some t233)) else (some false))) else (some false)) else (if t223 = t227 then (some ((t220.length : Int) == 0)) else (some false)))) = some r := H
        have A16 := Aside0.mk A160
        clear A160
        replace H := Option.bind_eq_some_iff.mp H
        obtain ⟨⟨t228, t231⟩, A170, H⟩ := H
        replace H : (if t227 = 0 then (if ((t223 == 0) == t231) = true then (if t231 = true then ((arboretref12_Equal.f kj2 t220 t228).bind fun t232 => (some t232)) else (if t223 = 11 then ((arboretref12_Equal.f kj2 t220 t228).bind fun t233 => (some t233)) else (some false))) else (some false)) else (if t223 = t227 then (some ((t220.length : Int) == 0)) else (some false))) = some r := H
        have A17 := Aside0.mk A170
        clear A170
        by_cases c18 : t227 = 0
        · rw [if_pos c18] at H
          have c18b0 : (t227 == 0) = true := beq_iff_eq.mpr c18
          have c18b1 : (t227 != 0) = false := bne_eq_false_iff_eq.mpr c18
          clear c18
          by_cases c19 : ((t223 == 0) == t231) = true
          · rw [if_pos c19] at H
            have c19b0 : ((t223 == 0) == t231) = true := c19
            (try (have c19b1 : decide ((t223 == 0) = t231) = true := by simpa using c19))
            (try (have c19b2 : ((t223 == 0) == t231) = true := by simpa using c19))
            clear c19
            by_cases c20 : t231 = true
            · subst c20
              have H1 : ((arboretref12_Equal.f kj2 t220 t228).bind fun t232 => (some t232)) = some r := by rw [if_pos rfl] at H; exact H
              clear H
              have H := H1
              clear H1
              replace H := Option.bind_eq_some_iff.mp H
              obtain ⟨t232, A210, H⟩ := H
              replace H : (some t232) = some r := H
              have A21 := Aside0.mk A210
              clear A210
              obtain rfl := Option.some.inj H
              have hcz22_0 : wc.cell? ⟨gb216, 0, none⟩ = some (.int .u32 a0_0) := (blk_cell BK216.out 0).trans rfl
              have hcz22_1 : wc.cell? ⟨gb216, 1, none⟩ = some (.slice A0_1 l0_1.length c0_1) := (blk_cell BK216.out 1).trans rfl
              have hcz22_2 : wc.cell? ⟨gb216, 2, none⟩ = some (.string a0_2) := (blk_cell BK216.out 2).trans rfl
              have hcz22_3 : wc.cell? ⟨gb216, 3, none⟩ = some (.slice A0_3 l0_3.length c0_3) := (blk_cell BK216.out 3).trans rfl
              have hcz22_4 : wc.cell? ⟨gb216, 4, none⟩ = some (.slice A0_4 l0_4.length c0_4) := (blk_cell BK216.out 4).trans rfl
              have hfz22_0 := blk_frozen BK216.out 0
              have hfz22_1 := blk_frozen BK216.out 1
              have hfz22_2 := blk_frozen BK216.out 2
              have hfz22_3 := blk_frozen BK216.out 3
              have hfz22_4 := blk_frozen BK216.out 4
              go_wp2_with (first | ((with_reducible refine gate_callee (f := 37) rfl ?_); refine goesL_ (some 22) rfl rfl Try.func37 (by kernel_rfl) rfl #[.agg #[.int .u32 a0_0, .slice A0_1 l0_1.length c0_1, .string a0_2, .slice A0_3 l0_3.length c0_3, .slice A0_4 l0_4.length c0_4], .int .u32 a1] rfl (by (try simp only [List.map_toArray, List.map_cons, List.map_nil]); first | done | rfl | (simp only [List.length_drop, List.length_take]; rfl)) ?_; (with_reducible refine (handle_Find.calls kj2 a0_0 _ _ l0_1 a0_2 _ _ l0_3 _ _ l0_4 a1 t220 t223 _ ?side1 ?side2 ?side3 ?side4 ?side5 ?side6 A15.out).mono ?_); (case side1 => repeat (first | exact (Kd.C_below HR0_1.out HB.out) | (with_reducible refine Kd.C_alloc ?_ _) | (with_reducible refine Kd.C_drewN ?_ _) | (with_reducible refine Kd.C_drew ?_))); (case side2 => exact HC0_1.out); (case side3 => repeat (first | exact (Kd.C_below HR0_3.out HB.out) | (with_reducible refine Kd.C_alloc ?_ _) | (with_reducible refine Kd.C_drewN ?_ _) | (with_reducible refine Kd.C_drew ?_))); (case side4 => exact HC0_3.out); (case side5 => repeat (first | exact (Kd.C_below HR0_4.out HB.out) | (with_reducible refine Kd.C_alloc ?_ _) | (with_reducible refine Kd.C_drewN ?_ _) | (with_reducible refine Kd.C_drew ?_))); (case side6 => exact HC0_4.out); rintro e w23 ⟨v221, rfl, ho0, hb⟩; refine ⟨_, rfl, ?_⟩; have n0_ := Aside0.mk (Kd.R_lower ho0 (below_size (by repeat (first | (with_reducible first | exact HB.out | apply below_alloc | apply pw_below_drewN | apply below_drew1 | refine below_set ?_ GE216.out) | exact HB.out)))); have n1_ := Aside0.mk (blk_below (g := gb216) (o := .cells #[.int .u32 a0_0, .slice A0_1 l0_1.length c0_1, .string a0_2, .slice A0_3 l0_3.length c0_3, .slice A0_4 l0_4.length c0_4] 43 (0, 0)) (by (with_reducible repeat (first | refine blk_drewN ?_ _ | refine blk_drew ?_ | refine blk_alloc ?_ _)); exact BK216.out) hb); have n2_ := Aside0.mk (below_step (by repeat (first | (with_reducible first | exact HB.out | apply below_alloc | apply pw_below_drewN | apply below_drew1 | refine below_set ?_ GE216.out) | exact HB.out)) hb); clear BK216; clear HB; have HO222 := n0_; have BK216 := n1_; have HB := n2_; clear n0_ n1_ n2_; (try clear hb); (try clear hb2); (try clear hk); (try clear hi); (try clear ho0); have hcz24_0 : w23.cell? ⟨gb216, 0, none⟩ = some (.int .u32 a0_0) := (blk_cell BK216.out 0).trans rfl; have hcz24_1 : w23.cell? ⟨gb216, 1, none⟩ = some (.slice A0_1 l0_1.length c0_1) := (blk_cell BK216.out 1).trans rfl; have hcz24_2 : w23.cell? ⟨gb216, 2, none⟩ = some (.string a0_2) := (blk_cell BK216.out 2).trans rfl; have hcz24_3 : w23.cell? ⟨gb216, 3, none⟩ = some (.slice A0_3 l0_3.length c0_3) := (blk_cell BK216.out 3).trans rfl; have hcz24_4 : w23.cell? ⟨gb216, 4, none⟩ = some (.slice A0_4 l0_4.length c0_4) := (blk_cell BK216.out 4).trans rfl; have hfz24_0 := blk_frozen BK216.out 0; have hfz24_1 := blk_frozen BK216.out 1; have hfz24_2 := blk_frozen BK216.out 2; have hfz24_3 := blk_frozen BK216.out 3; have hfz24_4 := blk_frozen BK216.out 4) | ((with_reducible refine gate_callee (f := 38) rfl ?_); refine goesL_ (some 27) rfl rfl Try.func38 (by kernel_rfl) rfl #[.agg #[.int .u32 a0_0, .slice A0_1 l0_1.length c0_1, .string a0_2, .slice A0_3 l0_3.length c0_3, .slice A0_4 l0_4.length c0_4]] rfl (by (try simp only [List.map_toArray, List.map_cons, List.map_nil]); first | done | rfl | (simp only [List.length_drop, List.length_take]; rfl)) ?_; (with_reducible refine (arboretref06_Index.calls kj2 a0_0 _ _ l0_1 a0_2 (fun k_ => k_ < w.heap.size) _ _ l0_3 (fun k_ => k_ < w.heap.size) _ _ l0_4 t224 t227 _ ?side1 ?side2 ?side3 ?side4 A16.out).mono ?_); (case side1 => repeat (first | exact (Kd.C_below HR0_1.out HB.out) | (with_reducible refine Kd.C_alloc ?_ _) | (with_reducible refine Kd.C_drewN ?_ _) | (with_reducible refine Kd.C_drew ?_))); (case side2 => exact HC0_1.out); (case side3 => exact Kd.V_mk HC0_3.out (Kd.F_below (Kd.C_F k104_heap HR0_3.out) (by repeat (first | (with_reducible first | exact HB.out | apply below_alloc | apply pw_below_drewN | apply below_drew1 | refine below_set ?_ GE216.out) | exact HB.out)))); (case side4 => exact Kd.V_mk HC0_4.out (Kd.F_below (Kd.C_F k39_heap HR0_4.out) (by repeat (first | (with_reducible first | exact HB.out | apply below_alloc | apply pw_below_drewN | apply below_drew1 | refine below_set ?_ GE216.out) | exact HB.out)))); rintro e w25 ⟨v225, rfl, ho0, hb⟩; refine ⟨_, rfl, ?_⟩; have n0_ := Aside0.mk (Kd.R_below (by (with_reducible repeat (first | apply Kd.R_alloc | apply Kd.R_drewN | apply Kd.R_drew)); exact HO222.out) hb); have n1_ := Aside0.mk (Kd.N_lower (Kd.N_mono (ok' := fun k_ => some k_ ≠ (v221 : Value).ownBlock ∧ k_ ≠ gb216) ho0 (fun k_ hk_ => ⟨Or.elim hk_ (fun hs_ => Or.elim hs_ (fun hs_ => fun e_ => Nat.not_le.2 hs_ (Kd.R_base HO222.out k_ e_.symm)) (fun hs_ => fun e_ => Nat.not_le.2 hs_ (Kd.R_base HO222.out k_ e_.symm))) (fun hn_ => (Kd.fresh' (Kd.R_lt (by (with_reducible repeat (first | apply Kd.R_alloc | apply Kd.R_drewN | apply Kd.R_drew)); exact HO222.out)) k_ hn_)), Or.elim hk_ (fun hs_ => Or.elim hs_ (fun hs_ => fun e_ => Nat.not_le.2 hs_ (by rw [e_]; exact GW216.out)) (fun hs_ => fun e_ => Nat.not_le.2 hs_ (by rw [e_]; exact GW216.out))) (fun hn_ => (Kd.freshB (g := gb216) (o := .cells #[.int .u32 a0_0, .slice A0_1 l0_1.length c0_1, .string a0_2, .slice A0_3 l0_3.length c0_3, .slice A0_4 l0_4.length c0_4] 43 (0, 0)) (by (with_reducible repeat (first | refine blk_drewN ?_ _ | refine blk_drew ?_ | refine blk_alloc ?_ _)); exact BK216.out) k_ hn_))⟩)) (below_size (by repeat (first | (with_reducible first | exact HB.out | apply below_alloc | apply pw_below_drewN | apply below_drew1 | refine below_set ?_ GE216.out) | exact HB.out)))); have n2_ := Aside0.mk (blk_below (g := gb216) (o := .cells #[.int .u32 a0_0, .slice A0_1 l0_1.length c0_1, .string a0_2, .slice A0_3 l0_3.length c0_3, .slice A0_4 l0_4.length c0_4] 43 (0, 0)) (by (with_reducible repeat (first | refine blk_drewN ?_ _ | refine blk_drew ?_ | refine blk_alloc ?_ _)); exact BK216.out) hb); have n3_ := Aside0.mk (below_step (by repeat (first | (with_reducible first | exact HB.out | apply below_alloc | apply pw_below_drewN | apply below_drew1 | refine below_set ?_ GE216.out) | exact HB.out)) hb); clear HO222; clear BK216; clear HB; have HO222 := n0_; have HO226 := n1_; have BK216 := n2_; have HB := n3_; clear n0_ n1_ n2_ n3_; (try clear hb); (try clear hb2); (try clear hk); (try clear hi); (try clear ho0); have hcz26_0 : w25.cell? ⟨gb216, 0, none⟩ = some (.int .u32 a0_0) := (blk_cell BK216.out 0).trans rfl; have hcz26_1 : w25.cell? ⟨gb216, 1, none⟩ = some (.slice A0_1 l0_1.length c0_1) := (blk_cell BK216.out 1).trans rfl; have hcz26_2 : w25.cell? ⟨gb216, 2, none⟩ = some (.string a0_2) := (blk_cell BK216.out 2).trans rfl; have hcz26_3 : w25.cell? ⟨gb216, 3, none⟩ = some (.slice A0_3 l0_3.length c0_3) := (blk_cell BK216.out 3).trans rfl; have hcz26_4 : w25.cell? ⟨gb216, 4, none⟩ = some (.slice A0_4 l0_4.length c0_4) := (blk_cell BK216.out 4).trans rfl; have hfz26_0 := blk_frozen BK216.out 0; have hfz26_1 := blk_frozen BK216.out 1; have hfz26_2 := blk_frozen BK216.out 2; have hfz26_3 := blk_frozen BK216.out 3; have hfz26_4 := blk_frozen BK216.out 4) | ((with_reducible refine gate_callee (f := 39) rfl ?_); refine goesL_ (some 33) rfl rfl Try.func39 (by kernel_rfl) rfl #[.agg #[.int .u32 a0_0, .slice A0_1 l0_1.length c0_1, .string a0_2, .slice A0_3 l0_3.length c0_3, .slice A0_4 l0_4.length c0_4], .int .u32 a1] rfl (by (try simp only [List.map_toArray, List.map_cons, List.map_nil]); first | done | rfl | (simp only [List.length_drop, List.length_take]; rfl)) ?_; (with_reducible refine (arboretref06_Handle.calls kj2 a0_0 _ _ l0_1 a0_2 (fun k_ => k_ < w.heap.size) _ _ l0_3 (fun k_ => k_ < w.heap.size) _ _ l0_4 a1 t228 true _ ?side1 ?side2 ?side3 ?side4 A17.out).mono ?_); (case side1 => repeat (first | exact (Kd.C_below HR0_1.out HB.out) | (with_reducible refine Kd.C_alloc ?_ _) | (with_reducible refine Kd.C_drewN ?_ _) | (with_reducible refine Kd.C_drew ?_))); (case side2 => exact HC0_1.out); (case side3 => exact Kd.V_mk HC0_3.out (Kd.F_below (Kd.C_F k104_heap HR0_3.out) (by repeat (first | (with_reducible first | exact HB.out | apply below_alloc | apply pw_below_drewN | apply below_drew1 | refine below_set ?_ GE216.out) | exact HB.out)))); (case side4 => exact Kd.V_mk HC0_4.out (Kd.F_below (Kd.C_F k39_heap HR0_4.out) (by repeat (first | (with_reducible first | exact HB.out | apply below_alloc | apply pw_below_drewN | apply below_drew1 | refine below_set ?_ GE216.out) | exact HB.out)))); rintro e w27 ⟨v229, rfl, ho0, hb⟩; refine ⟨_, rfl, ?_⟩; have n0_ := Aside0.mk (Kd.R_below (by (with_reducible repeat (first | apply Kd.R_alloc | apply Kd.R_drewN | apply Kd.R_drew)); exact HO222.out) hb); have n1_ := Aside0.mk (Kd.N_below (by (with_reducible repeat (first | apply Kd.N_alloc | apply Kd.N_drewN | apply Kd.N_drew)); exact HO226.out) hb); have n2_ := Aside0.mk (Kd.V_lower (Kd.V_mono (ok' := fun k_ => some k_ ≠ (v221 : Value).ownBlock ∧ some k_ ≠ (v225 : Value).ownBlock ∧ k_ ≠ gb216) ho0 (fun k_ hk_ => ⟨Or.elim hk_ (fun hs_ => Or.elim hs_ (fun hs_ => fun e_ => Nat.not_le.2 hs_ (Kd.R_base HO222.out k_ e_.symm)) (fun hs_ => fun e_ => Nat.not_le.2 hs_ (Kd.R_base HO222.out k_ e_.symm))) (fun hn_ => (Kd.fresh' (Kd.R_lt (by (with_reducible repeat (first | apply Kd.R_alloc | apply Kd.R_drewN | apply Kd.R_drew)); exact HO222.out)) k_ hn_)), Or.elim hk_ (fun hs_ => Or.elim hs_ (fun hs_ => fun e_ => Nat.not_le.2 hs_ (Kd.N_base HO226.out k_ e_.symm)) (fun hs_ => fun e_ => Nat.not_le.2 hs_ (Kd.N_base HO226.out k_ e_.symm))) (fun hn_ => (Kd.fresh' (Kd.N_lt (by (with_reducible repeat (first | apply Kd.N_alloc | apply Kd.N_drewN | apply Kd.N_drew)); exact HO226.out)) k_ hn_)), Or.elim hk_ (fun hs_ => Or.elim hs_ (fun hs_ => fun e_ => Nat.not_le.2 hs_ (by rw [e_]; exact GW216.out)) (fun hs_ => fun e_ => Nat.not_le.2 hs_ (by rw [e_]; exact GW216.out))) (fun hn_ => (Kd.freshB (g := gb216) (o := .cells #[.int .u32 a0_0, .slice A0_1 l0_1.length c0_1, .string a0_2, .slice A0_3 l0_3.length c0_3, .slice A0_4 l0_4.length c0_4] 43 (0, 0)) (by (with_reducible repeat (first | refine blk_drewN ?_ _ | refine blk_drew ?_ | refine blk_alloc ?_ _)); exact BK216.out) k_ hn_))⟩)) (below_size (by repeat (first | (with_reducible first | exact HB.out | apply below_alloc | apply pw_below_drewN | apply below_drew1 | refine below_set ?_ GE216.out) | exact HB.out)))); have n3_ := Aside0.mk (blk_below (g := gb216) (o := .cells #[.int .u32 a0_0, .slice A0_1 l0_1.length c0_1, .string a0_2, .slice A0_3 l0_3.length c0_3, .slice A0_4 l0_4.length c0_4] 43 (0, 0)) (by (with_reducible repeat (first | refine blk_drewN ?_ _ | refine blk_drew ?_ | refine blk_alloc ?_ _)); exact BK216.out) hb); have n4_ := Aside0.mk (below_step (by repeat (first | (with_reducible first | exact HB.out | apply below_alloc | apply pw_below_drewN | apply below_drew1 | refine below_set ?_ GE216.out) | exact HB.out)) hb); clear HO222; clear HO226; clear BK216; clear HB; have HO222 := n0_; have HO226 := n1_; have HO230 := n2_; have BK216 := n3_; have HB := n4_; clear n0_ n1_ n2_ n3_ n4_; (try clear hb); (try clear hb2); (try clear hk); (try clear hi); (try clear ho0); obtain ⟨Ao28, co28, eo28⟩ := Kd.R_slice HO222.out; subst eo28; obtain ⟨Ao29, co29, eo29⟩ := Kd.V_slice HO230.out; subst eo29) | (go_at_call 40; (with_reducible refine (arboretref12_Equal.calls kj2 _ _ t220 _ _ t228 t232 _ ?side1 ?side2 ?side3 ?side4 A21.out).mono ?_); (case side1 => repeat (first | exact (Kd.R_reads' HO222.out).2.2 | (with_reducible refine Kd.C_alloc ?_ _) | (with_reducible refine Kd.C_drewN ?_ _) | (with_reducible refine Kd.C_drew ?_))); (case side2 => exact (Kd.R_reads' HO222.out).2.1); (case side3 => repeat (first | exact (Kd.V_reads' HO230.out).2.2 | (with_reducible refine Kd.C_alloc ?_ _) | (with_reducible refine Kd.C_drewN ?_ _) | (with_reducible refine Kd.C_drew ?_))); (case side4 => exact (Kd.V_reads' HO230.out).2.1); rintro e w' ⟨rfl, ⟨nd, rfl⟩⟩))
              go_ret
              exact ⟨by first | rfl | (simp [errW_none, errW_some] <;> rfl) | (simp [*, errW_none, errW_some] <;> rfl), by repeat (first | (with_reducible first | exact HB.out | apply below_alloc | apply pw_below_drewN | apply below_drew1 | refine below_set ?_ GE216.out) | exact HB.out)⟩
            · replace c20 := Bool.eq_false_iff.mpr c20
              subst c20
              have H1 : (if t223 = 11 then ((arboretref12_Equal.f kj2 t220 t228).bind fun t233 => (some t233)) else (some false)) = some r := by rw [if_neg (show ¬ (false = true) by decide)] at H; exact H
              clear H
              have H := H1
              clear H1
              by_cases c30 : t223 = 11
              · rw [if_pos c30] at H
                have c30b0 : (t223 == 11) = true := beq_iff_eq.mpr c30
                have c30b1 : (t223 != 11) = false := bne_eq_false_iff_eq.mpr c30
                clear c30
                replace H := Option.bind_eq_some_iff.mp H
                obtain ⟨t233, A310, H⟩ := H
                replace H : (some t233) = some r := H
                have A31 := Aside0.mk A310
                clear A310
                obtain rfl := Option.some.inj H
                have hcz32_0 : wc.cell? ⟨gb216, 0, none⟩ = some (.int .u32 a0_0) := (blk_cell BK216.out 0).trans rfl
                have hcz32_1 : wc.cell? ⟨gb216, 1, none⟩ = some (.slice A0_1 l0_1.length c0_1) := (blk_cell BK216.out 1).trans rfl
                have hcz32_2 : wc.cell? ⟨gb216, 2, none⟩ = some (.string a0_2) := (blk_cell BK216.out 2).trans rfl
                have hcz32_3 : wc.cell? ⟨gb216, 3, none⟩ = some (.slice A0_3 l0_3.length c0_3) := (blk_cell BK216.out 3).trans rfl
                have hcz32_4 : wc.cell? ⟨gb216, 4, none⟩ = some (.slice A0_4 l0_4.length c0_4) := (blk_cell BK216.out 4).trans rfl
                have hfz32_0 := blk_frozen BK216.out 0
                have hfz32_1 := blk_frozen BK216.out 1
                have hfz32_2 := blk_frozen BK216.out 2
                have hfz32_3 := blk_frozen BK216.out 3
                have hfz32_4 := blk_frozen BK216.out 4
                go_wp2_with (first | ((with_reducible refine gate_callee (f := 37) rfl ?_); refine goesL_ (some 22) rfl rfl Try.func37 (by kernel_rfl) rfl #[.agg #[.int .u32 a0_0, .slice A0_1 l0_1.length c0_1, .string a0_2, .slice A0_3 l0_3.length c0_3, .slice A0_4 l0_4.length c0_4], .int .u32 a1] rfl (by (try simp only [List.map_toArray, List.map_cons, List.map_nil]); first | done | rfl | (simp only [List.length_drop, List.length_take]; rfl)) ?_; (with_reducible refine (handle_Find.calls kj2 a0_0 _ _ l0_1 a0_2 _ _ l0_3 _ _ l0_4 a1 t220 t223 _ ?side1 ?side2 ?side3 ?side4 ?side5 ?side6 A15.out).mono ?_); (case side1 => repeat (first | exact (Kd.C_below HR0_1.out HB.out) | (with_reducible refine Kd.C_alloc ?_ _) | (with_reducible refine Kd.C_drewN ?_ _) | (with_reducible refine Kd.C_drew ?_))); (case side2 => exact HC0_1.out); (case side3 => repeat (first | exact (Kd.C_below HR0_3.out HB.out) | (with_reducible refine Kd.C_alloc ?_ _) | (with_reducible refine Kd.C_drewN ?_ _) | (with_reducible refine Kd.C_drew ?_))); (case side4 => exact HC0_3.out); (case side5 => repeat (first | exact (Kd.C_below HR0_4.out HB.out) | (with_reducible refine Kd.C_alloc ?_ _) | (with_reducible refine Kd.C_drewN ?_ _) | (with_reducible refine Kd.C_drew ?_))); (case side6 => exact HC0_4.out); rintro e w33 ⟨v221, rfl, ho0, hb⟩; refine ⟨_, rfl, ?_⟩; have n0_ := Aside0.mk (Kd.R_lower ho0 (below_size (by repeat (first | (with_reducible first | exact HB.out | apply below_alloc | apply pw_below_drewN | apply below_drew1 | refine below_set ?_ GE216.out) | exact HB.out)))); have n1_ := Aside0.mk (blk_below (g := gb216) (o := .cells #[.int .u32 a0_0, .slice A0_1 l0_1.length c0_1, .string a0_2, .slice A0_3 l0_3.length c0_3, .slice A0_4 l0_4.length c0_4] 43 (0, 0)) (by (with_reducible repeat (first | refine blk_drewN ?_ _ | refine blk_drew ?_ | refine blk_alloc ?_ _)); exact BK216.out) hb); have n2_ := Aside0.mk (below_step (by repeat (first | (with_reducible first | exact HB.out | apply below_alloc | apply pw_below_drewN | apply below_drew1 | refine below_set ?_ GE216.out) | exact HB.out)) hb); clear BK216; clear HB; have HO222 := n0_; have BK216 := n1_; have HB := n2_; clear n0_ n1_ n2_; (try clear hb); (try clear hb2); (try clear hk); (try clear hi); (try clear ho0); have hcz34_0 : w33.cell? ⟨gb216, 0, none⟩ = some (.int .u32 a0_0) := (blk_cell BK216.out 0).trans rfl; have hcz34_1 : w33.cell? ⟨gb216, 1, none⟩ = some (.slice A0_1 l0_1.length c0_1) := (blk_cell BK216.out 1).trans rfl; have hcz34_2 : w33.cell? ⟨gb216, 2, none⟩ = some (.string a0_2) := (blk_cell BK216.out 2).trans rfl; have hcz34_3 : w33.cell? ⟨gb216, 3, none⟩ = some (.slice A0_3 l0_3.length c0_3) := (blk_cell BK216.out 3).trans rfl; have hcz34_4 : w33.cell? ⟨gb216, 4, none⟩ = some (.slice A0_4 l0_4.length c0_4) := (blk_cell BK216.out 4).trans rfl; have hfz34_0 := blk_frozen BK216.out 0; have hfz34_1 := blk_frozen BK216.out 1; have hfz34_2 := blk_frozen BK216.out 2; have hfz34_3 := blk_frozen BK216.out 3; have hfz34_4 := blk_frozen BK216.out 4) | ((with_reducible refine gate_callee (f := 38) rfl ?_); refine goesL_ (some 27) rfl rfl Try.func38 (by kernel_rfl) rfl #[.agg #[.int .u32 a0_0, .slice A0_1 l0_1.length c0_1, .string a0_2, .slice A0_3 l0_3.length c0_3, .slice A0_4 l0_4.length c0_4]] rfl (by (try simp only [List.map_toArray, List.map_cons, List.map_nil]); first | done | rfl | (simp only [List.length_drop, List.length_take]; rfl)) ?_; (with_reducible refine (arboretref06_Index.calls kj2 a0_0 _ _ l0_1 a0_2 (fun k_ => k_ < w.heap.size) _ _ l0_3 (fun k_ => k_ < w.heap.size) _ _ l0_4 t224 t227 _ ?side1 ?side2 ?side3 ?side4 A16.out).mono ?_); (case side1 => repeat (first | exact (Kd.C_below HR0_1.out HB.out) | (with_reducible refine Kd.C_alloc ?_ _) | (with_reducible refine Kd.C_drewN ?_ _) | (with_reducible refine Kd.C_drew ?_))); (case side2 => exact HC0_1.out); (case side3 => exact Kd.V_mk HC0_3.out (Kd.F_below (Kd.C_F k104_heap HR0_3.out) (by repeat (first | (with_reducible first | exact HB.out | apply below_alloc | apply pw_below_drewN | apply below_drew1 | refine below_set ?_ GE216.out) | exact HB.out)))); (case side4 => exact Kd.V_mk HC0_4.out (Kd.F_below (Kd.C_F k39_heap HR0_4.out) (by repeat (first | (with_reducible first | exact HB.out | apply below_alloc | apply pw_below_drewN | apply below_drew1 | refine below_set ?_ GE216.out) | exact HB.out)))); rintro e w35 ⟨v225, rfl, ho0, hb⟩; refine ⟨_, rfl, ?_⟩; have n0_ := Aside0.mk (Kd.R_below (by (with_reducible repeat (first | apply Kd.R_alloc | apply Kd.R_drewN | apply Kd.R_drew)); exact HO222.out) hb); have n1_ := Aside0.mk (Kd.N_lower (Kd.N_mono (ok' := fun k_ => some k_ ≠ (v221 : Value).ownBlock ∧ k_ ≠ gb216) ho0 (fun k_ hk_ => ⟨Or.elim hk_ (fun hs_ => Or.elim hs_ (fun hs_ => fun e_ => Nat.not_le.2 hs_ (Kd.R_base HO222.out k_ e_.symm)) (fun hs_ => fun e_ => Nat.not_le.2 hs_ (Kd.R_base HO222.out k_ e_.symm))) (fun hn_ => (Kd.fresh' (Kd.R_lt (by (with_reducible repeat (first | apply Kd.R_alloc | apply Kd.R_drewN | apply Kd.R_drew)); exact HO222.out)) k_ hn_)), Or.elim hk_ (fun hs_ => Or.elim hs_ (fun hs_ => fun e_ => Nat.not_le.2 hs_ (by rw [e_]; exact GW216.out)) (fun hs_ => fun e_ => Nat.not_le.2 hs_ (by rw [e_]; exact GW216.out))) (fun hn_ => (Kd.freshB (g := gb216) (o := .cells #[.int .u32 a0_0, .slice A0_1 l0_1.length c0_1, .string a0_2, .slice A0_3 l0_3.length c0_3, .slice A0_4 l0_4.length c0_4] 43 (0, 0)) (by (with_reducible repeat (first | refine blk_drewN ?_ _ | refine blk_drew ?_ | refine blk_alloc ?_ _)); exact BK216.out) k_ hn_))⟩)) (below_size (by repeat (first | (with_reducible first | exact HB.out | apply below_alloc | apply pw_below_drewN | apply below_drew1 | refine below_set ?_ GE216.out) | exact HB.out)))); have n2_ := Aside0.mk (blk_below (g := gb216) (o := .cells #[.int .u32 a0_0, .slice A0_1 l0_1.length c0_1, .string a0_2, .slice A0_3 l0_3.length c0_3, .slice A0_4 l0_4.length c0_4] 43 (0, 0)) (by (with_reducible repeat (first | refine blk_drewN ?_ _ | refine blk_drew ?_ | refine blk_alloc ?_ _)); exact BK216.out) hb); have n3_ := Aside0.mk (below_step (by repeat (first | (with_reducible first | exact HB.out | apply below_alloc | apply pw_below_drewN | apply below_drew1 | refine below_set ?_ GE216.out) | exact HB.out)) hb); clear HO222; clear BK216; clear HB; have HO222 := n0_; have HO226 := n1_; have BK216 := n2_; have HB := n3_; clear n0_ n1_ n2_ n3_; (try clear hb); (try clear hb2); (try clear hk); (try clear hi); (try clear ho0); have hcz36_0 : w35.cell? ⟨gb216, 0, none⟩ = some (.int .u32 a0_0) := (blk_cell BK216.out 0).trans rfl; have hcz36_1 : w35.cell? ⟨gb216, 1, none⟩ = some (.slice A0_1 l0_1.length c0_1) := (blk_cell BK216.out 1).trans rfl; have hcz36_2 : w35.cell? ⟨gb216, 2, none⟩ = some (.string a0_2) := (blk_cell BK216.out 2).trans rfl; have hcz36_3 : w35.cell? ⟨gb216, 3, none⟩ = some (.slice A0_3 l0_3.length c0_3) := (blk_cell BK216.out 3).trans rfl; have hcz36_4 : w35.cell? ⟨gb216, 4, none⟩ = some (.slice A0_4 l0_4.length c0_4) := (blk_cell BK216.out 4).trans rfl; have hfz36_0 := blk_frozen BK216.out 0; have hfz36_1 := blk_frozen BK216.out 1; have hfz36_2 := blk_frozen BK216.out 2; have hfz36_3 := blk_frozen BK216.out 3; have hfz36_4 := blk_frozen BK216.out 4) | ((with_reducible refine gate_callee (f := 39) rfl ?_); refine goesL_ (some 33) rfl rfl Try.func39 (by kernel_rfl) rfl #[.agg #[.int .u32 a0_0, .slice A0_1 l0_1.length c0_1, .string a0_2, .slice A0_3 l0_3.length c0_3, .slice A0_4 l0_4.length c0_4], .int .u32 a1] rfl (by (try simp only [List.map_toArray, List.map_cons, List.map_nil]); first | done | rfl | (simp only [List.length_drop, List.length_take]; rfl)) ?_; (with_reducible refine (arboretref06_Handle.calls kj2 a0_0 _ _ l0_1 a0_2 (fun k_ => k_ < w.heap.size) _ _ l0_3 (fun k_ => k_ < w.heap.size) _ _ l0_4 a1 t228 false _ ?side1 ?side2 ?side3 ?side4 A17.out).mono ?_); (case side1 => repeat (first | exact (Kd.C_below HR0_1.out HB.out) | (with_reducible refine Kd.C_alloc ?_ _) | (with_reducible refine Kd.C_drewN ?_ _) | (with_reducible refine Kd.C_drew ?_))); (case side2 => exact HC0_1.out); (case side3 => exact Kd.V_mk HC0_3.out (Kd.F_below (Kd.C_F k104_heap HR0_3.out) (by repeat (first | (with_reducible first | exact HB.out | apply below_alloc | apply pw_below_drewN | apply below_drew1 | refine below_set ?_ GE216.out) | exact HB.out)))); (case side4 => exact Kd.V_mk HC0_4.out (Kd.F_below (Kd.C_F k39_heap HR0_4.out) (by repeat (first | (with_reducible first | exact HB.out | apply below_alloc | apply pw_below_drewN | apply below_drew1 | refine below_set ?_ GE216.out) | exact HB.out)))); rintro e w37 ⟨v229, rfl, ho0, hb⟩; refine ⟨_, rfl, ?_⟩; have n0_ := Aside0.mk (Kd.R_below (by (with_reducible repeat (first | apply Kd.R_alloc | apply Kd.R_drewN | apply Kd.R_drew)); exact HO222.out) hb); have n1_ := Aside0.mk (Kd.N_below (by (with_reducible repeat (first | apply Kd.N_alloc | apply Kd.N_drewN | apply Kd.N_drew)); exact HO226.out) hb); have n2_ := Aside0.mk (Kd.V_lower (Kd.V_mono (ok' := fun k_ => some k_ ≠ (v221 : Value).ownBlock ∧ some k_ ≠ (v225 : Value).ownBlock ∧ k_ ≠ gb216) ho0 (fun k_ hk_ => ⟨Or.elim hk_ (fun hs_ => Or.elim hs_ (fun hs_ => fun e_ => Nat.not_le.2 hs_ (Kd.R_base HO222.out k_ e_.symm)) (fun hs_ => fun e_ => Nat.not_le.2 hs_ (Kd.R_base HO222.out k_ e_.symm))) (fun hn_ => (Kd.fresh' (Kd.R_lt (by (with_reducible repeat (first | apply Kd.R_alloc | apply Kd.R_drewN | apply Kd.R_drew)); exact HO222.out)) k_ hn_)), Or.elim hk_ (fun hs_ => Or.elim hs_ (fun hs_ => fun e_ => Nat.not_le.2 hs_ (Kd.N_base HO226.out k_ e_.symm)) (fun hs_ => fun e_ => Nat.not_le.2 hs_ (Kd.N_base HO226.out k_ e_.symm))) (fun hn_ => (Kd.fresh' (Kd.N_lt (by (with_reducible repeat (first | apply Kd.N_alloc | apply Kd.N_drewN | apply Kd.N_drew)); exact HO226.out)) k_ hn_)), Or.elim hk_ (fun hs_ => Or.elim hs_ (fun hs_ => fun e_ => Nat.not_le.2 hs_ (by rw [e_]; exact GW216.out)) (fun hs_ => fun e_ => Nat.not_le.2 hs_ (by rw [e_]; exact GW216.out))) (fun hn_ => (Kd.freshB (g := gb216) (o := .cells #[.int .u32 a0_0, .slice A0_1 l0_1.length c0_1, .string a0_2, .slice A0_3 l0_3.length c0_3, .slice A0_4 l0_4.length c0_4] 43 (0, 0)) (by (with_reducible repeat (first | refine blk_drewN ?_ _ | refine blk_drew ?_ | refine blk_alloc ?_ _)); exact BK216.out) k_ hn_))⟩)) (below_size (by repeat (first | (with_reducible first | exact HB.out | apply below_alloc | apply pw_below_drewN | apply below_drew1 | refine below_set ?_ GE216.out) | exact HB.out)))); have n3_ := Aside0.mk (blk_below (g := gb216) (o := .cells #[.int .u32 a0_0, .slice A0_1 l0_1.length c0_1, .string a0_2, .slice A0_3 l0_3.length c0_3, .slice A0_4 l0_4.length c0_4] 43 (0, 0)) (by (with_reducible repeat (first | refine blk_drewN ?_ _ | refine blk_drew ?_ | refine blk_alloc ?_ _)); exact BK216.out) hb); have n4_ := Aside0.mk (below_step (by repeat (first | (with_reducible first | exact HB.out | apply below_alloc | apply pw_below_drewN | apply below_drew1 | refine below_set ?_ GE216.out) | exact HB.out)) hb); clear HO222; clear HO226; clear BK216; clear HB; have HO222 := n0_; have HO226 := n1_; have HO230 := n2_; have BK216 := n3_; have HB := n4_; clear n0_ n1_ n2_ n3_ n4_; (try clear hb); (try clear hb2); (try clear hk); (try clear hi); (try clear ho0); obtain ⟨Ao38, co38, eo38⟩ := Kd.R_slice HO222.out; subst eo38; obtain ⟨Ao39, co39, eo39⟩ := Kd.V_slice HO230.out; subst eo39) | (go_at_call 40; (with_reducible refine (arboretref12_Equal.calls kj2 _ _ t220 _ _ t228 t233 _ ?side1 ?side2 ?side3 ?side4 A31.out).mono ?_); (case side1 => repeat (first | exact (Kd.R_reads' HO222.out).2.2 | (with_reducible refine Kd.C_alloc ?_ _) | (with_reducible refine Kd.C_drewN ?_ _) | (with_reducible refine Kd.C_drew ?_))); (case side2 => exact (Kd.R_reads' HO222.out).2.1); (case side3 => repeat (first | exact (Kd.V_reads' HO230.out).2.2 | (with_reducible refine Kd.C_alloc ?_ _) | (with_reducible refine Kd.C_drewN ?_ _) | (with_reducible refine Kd.C_drew ?_))); (case side4 => exact (Kd.V_reads' HO230.out).2.1); rintro e w' ⟨rfl, ⟨nd, rfl⟩⟩))
                go_ret
                exact ⟨by first | rfl | (simp [errW_none, errW_some] <;> rfl) | (simp [*, errW_none, errW_some] <;> rfl), by repeat (first | (with_reducible first | exact HB.out | apply below_alloc | apply pw_below_drewN | apply below_drew1 | refine below_set ?_ GE216.out) | exact HB.out)⟩
              · rw [if_neg c30] at H
                have c30b0 : (t223 == 11) = false := beq_eq_false_iff_ne.mpr c30
                have c30b1 : (t223 != 11) = true := bne_iff_ne.mpr c30
                obtain rfl := Option.some.inj H
                have hcz40_0 : wc.cell? ⟨gb216, 0, none⟩ = some (.int .u32 a0_0) := (blk_cell BK216.out 0).trans rfl
                have hcz40_1 : wc.cell? ⟨gb216, 1, none⟩ = some (.slice A0_1 l0_1.length c0_1) := (blk_cell BK216.out 1).trans rfl
                have hcz40_2 : wc.cell? ⟨gb216, 2, none⟩ = some (.string a0_2) := (blk_cell BK216.out 2).trans rfl
                have hcz40_3 : wc.cell? ⟨gb216, 3, none⟩ = some (.slice A0_3 l0_3.length c0_3) := (blk_cell BK216.out 3).trans rfl
                have hcz40_4 : wc.cell? ⟨gb216, 4, none⟩ = some (.slice A0_4 l0_4.length c0_4) := (blk_cell BK216.out 4).trans rfl
                have hfz40_0 := blk_frozen BK216.out 0
                have hfz40_1 := blk_frozen BK216.out 1
                have hfz40_2 := blk_frozen BK216.out 2
                have hfz40_3 := blk_frozen BK216.out 3
                have hfz40_4 := blk_frozen BK216.out 4
                go_wp2_with (first | ((with_reducible refine gate_callee (f := 37) rfl ?_); refine goesL_ (some 22) rfl rfl Try.func37 (by kernel_rfl) rfl #[.agg #[.int .u32 a0_0, .slice A0_1 l0_1.length c0_1, .string a0_2, .slice A0_3 l0_3.length c0_3, .slice A0_4 l0_4.length c0_4], .int .u32 a1] rfl (by (try simp only [List.map_toArray, List.map_cons, List.map_nil]); first | done | rfl | (simp only [List.length_drop, List.length_take]; rfl)) ?_; (with_reducible refine (handle_Find.calls kj2 a0_0 _ _ l0_1 a0_2 _ _ l0_3 _ _ l0_4 a1 t220 t223 _ ?side1 ?side2 ?side3 ?side4 ?side5 ?side6 A15.out).mono ?_); (case side1 => repeat (first | exact (Kd.C_below HR0_1.out HB.out) | (with_reducible refine Kd.C_alloc ?_ _) | (with_reducible refine Kd.C_drewN ?_ _) | (with_reducible refine Kd.C_drew ?_))); (case side2 => exact HC0_1.out); (case side3 => repeat (first | exact (Kd.C_below HR0_3.out HB.out) | (with_reducible refine Kd.C_alloc ?_ _) | (with_reducible refine Kd.C_drewN ?_ _) | (with_reducible refine Kd.C_drew ?_))); (case side4 => exact HC0_3.out); (case side5 => repeat (first | exact (Kd.C_below HR0_4.out HB.out) | (with_reducible refine Kd.C_alloc ?_ _) | (with_reducible refine Kd.C_drewN ?_ _) | (with_reducible refine Kd.C_drew ?_))); (case side6 => exact HC0_4.out); rintro e w41 ⟨v221, rfl, ho0, hb⟩; refine ⟨_, rfl, ?_⟩; have n0_ := Aside0.mk (Kd.R_lower ho0 (below_size (by repeat (first | (with_reducible first | exact HB.out | apply below_alloc | apply pw_below_drewN | apply below_drew1 | refine below_set ?_ GE216.out) | exact HB.out)))); have n1_ := Aside0.mk (blk_below (g := gb216) (o := .cells #[.int .u32 a0_0, .slice A0_1 l0_1.length c0_1, .string a0_2, .slice A0_3 l0_3.length c0_3, .slice A0_4 l0_4.length c0_4] 43 (0, 0)) (by (with_reducible repeat (first | refine blk_drewN ?_ _ | refine blk_drew ?_ | refine blk_alloc ?_ _)); exact BK216.out) hb); have n2_ := Aside0.mk (below_step (by repeat (first | (with_reducible first | exact HB.out | apply below_alloc | apply pw_below_drewN | apply below_drew1 | refine below_set ?_ GE216.out) | exact HB.out)) hb); clear BK216; clear HB; have HO222 := n0_; have BK216 := n1_; have HB := n2_; clear n0_ n1_ n2_; (try clear hb); (try clear hb2); (try clear hk); (try clear hi); (try clear ho0); have hcz42_0 : w41.cell? ⟨gb216, 0, none⟩ = some (.int .u32 a0_0) := (blk_cell BK216.out 0).trans rfl; have hcz42_1 : w41.cell? ⟨gb216, 1, none⟩ = some (.slice A0_1 l0_1.length c0_1) := (blk_cell BK216.out 1).trans rfl; have hcz42_2 : w41.cell? ⟨gb216, 2, none⟩ = some (.string a0_2) := (blk_cell BK216.out 2).trans rfl; have hcz42_3 : w41.cell? ⟨gb216, 3, none⟩ = some (.slice A0_3 l0_3.length c0_3) := (blk_cell BK216.out 3).trans rfl; have hcz42_4 : w41.cell? ⟨gb216, 4, none⟩ = some (.slice A0_4 l0_4.length c0_4) := (blk_cell BK216.out 4).trans rfl; have hfz42_0 := blk_frozen BK216.out 0; have hfz42_1 := blk_frozen BK216.out 1; have hfz42_2 := blk_frozen BK216.out 2; have hfz42_3 := blk_frozen BK216.out 3; have hfz42_4 := blk_frozen BK216.out 4) | ((with_reducible refine gate_callee (f := 38) rfl ?_); refine goesL_ (some 27) rfl rfl Try.func38 (by kernel_rfl) rfl #[.agg #[.int .u32 a0_0, .slice A0_1 l0_1.length c0_1, .string a0_2, .slice A0_3 l0_3.length c0_3, .slice A0_4 l0_4.length c0_4]] rfl (by (try simp only [List.map_toArray, List.map_cons, List.map_nil]); first | done | rfl | (simp only [List.length_drop, List.length_take]; rfl)) ?_; (with_reducible refine (arboretref06_Index.calls kj2 a0_0 _ _ l0_1 a0_2 (fun k_ => k_ < w.heap.size) _ _ l0_3 (fun k_ => k_ < w.heap.size) _ _ l0_4 t224 t227 _ ?side1 ?side2 ?side3 ?side4 A16.out).mono ?_); (case side1 => repeat (first | exact (Kd.C_below HR0_1.out HB.out) | (with_reducible refine Kd.C_alloc ?_ _) | (with_reducible refine Kd.C_drewN ?_ _) | (with_reducible refine Kd.C_drew ?_))); (case side2 => exact HC0_1.out); (case side3 => exact Kd.V_mk HC0_3.out (Kd.F_below (Kd.C_F k104_heap HR0_3.out) (by repeat (first | (with_reducible first | exact HB.out | apply below_alloc | apply pw_below_drewN | apply below_drew1 | refine below_set ?_ GE216.out) | exact HB.out)))); (case side4 => exact Kd.V_mk HC0_4.out (Kd.F_below (Kd.C_F k39_heap HR0_4.out) (by repeat (first | (with_reducible first | exact HB.out | apply below_alloc | apply pw_below_drewN | apply below_drew1 | refine below_set ?_ GE216.out) | exact HB.out)))); rintro e w43 ⟨v225, rfl, ho0, hb⟩; refine ⟨_, rfl, ?_⟩; have n0_ := Aside0.mk (Kd.R_below (by (with_reducible repeat (first | apply Kd.R_alloc | apply Kd.R_drewN | apply Kd.R_drew)); exact HO222.out) hb); have n1_ := Aside0.mk (Kd.N_lower (Kd.N_mono (ok' := fun k_ => some k_ ≠ (v221 : Value).ownBlock ∧ k_ ≠ gb216) ho0 (fun k_ hk_ => ⟨Or.elim hk_ (fun hs_ => Or.elim hs_ (fun hs_ => fun e_ => Nat.not_le.2 hs_ (Kd.R_base HO222.out k_ e_.symm)) (fun hs_ => fun e_ => Nat.not_le.2 hs_ (Kd.R_base HO222.out k_ e_.symm))) (fun hn_ => (Kd.fresh' (Kd.R_lt (by (with_reducible repeat (first | apply Kd.R_alloc | apply Kd.R_drewN | apply Kd.R_drew)); exact HO222.out)) k_ hn_)), Or.elim hk_ (fun hs_ => Or.elim hs_ (fun hs_ => fun e_ => Nat.not_le.2 hs_ (by rw [e_]; exact GW216.out)) (fun hs_ => fun e_ => Nat.not_le.2 hs_ (by rw [e_]; exact GW216.out))) (fun hn_ => (Kd.freshB (g := gb216) (o := .cells #[.int .u32 a0_0, .slice A0_1 l0_1.length c0_1, .string a0_2, .slice A0_3 l0_3.length c0_3, .slice A0_4 l0_4.length c0_4] 43 (0, 0)) (by (with_reducible repeat (first | refine blk_drewN ?_ _ | refine blk_drew ?_ | refine blk_alloc ?_ _)); exact BK216.out) k_ hn_))⟩)) (below_size (by repeat (first | (with_reducible first | exact HB.out | apply below_alloc | apply pw_below_drewN | apply below_drew1 | refine below_set ?_ GE216.out) | exact HB.out)))); have n2_ := Aside0.mk (blk_below (g := gb216) (o := .cells #[.int .u32 a0_0, .slice A0_1 l0_1.length c0_1, .string a0_2, .slice A0_3 l0_3.length c0_3, .slice A0_4 l0_4.length c0_4] 43 (0, 0)) (by (with_reducible repeat (first | refine blk_drewN ?_ _ | refine blk_drew ?_ | refine blk_alloc ?_ _)); exact BK216.out) hb); have n3_ := Aside0.mk (below_step (by repeat (first | (with_reducible first | exact HB.out | apply below_alloc | apply pw_below_drewN | apply below_drew1 | refine below_set ?_ GE216.out) | exact HB.out)) hb); clear HO222; clear BK216; clear HB; have HO222 := n0_; have HO226 := n1_; have BK216 := n2_; have HB := n3_; clear n0_ n1_ n2_ n3_; (try clear hb); (try clear hb2); (try clear hk); (try clear hi); (try clear ho0); have hcz44_0 : w43.cell? ⟨gb216, 0, none⟩ = some (.int .u32 a0_0) := (blk_cell BK216.out 0).trans rfl; have hcz44_1 : w43.cell? ⟨gb216, 1, none⟩ = some (.slice A0_1 l0_1.length c0_1) := (blk_cell BK216.out 1).trans rfl; have hcz44_2 : w43.cell? ⟨gb216, 2, none⟩ = some (.string a0_2) := (blk_cell BK216.out 2).trans rfl; have hcz44_3 : w43.cell? ⟨gb216, 3, none⟩ = some (.slice A0_3 l0_3.length c0_3) := (blk_cell BK216.out 3).trans rfl; have hcz44_4 : w43.cell? ⟨gb216, 4, none⟩ = some (.slice A0_4 l0_4.length c0_4) := (blk_cell BK216.out 4).trans rfl; have hfz44_0 := blk_frozen BK216.out 0; have hfz44_1 := blk_frozen BK216.out 1; have hfz44_2 := blk_frozen BK216.out 2; have hfz44_3 := blk_frozen BK216.out 3; have hfz44_4 := blk_frozen BK216.out 4) | ((with_reducible refine gate_callee (f := 39) rfl ?_); refine goesL_ (some 33) rfl rfl Try.func39 (by kernel_rfl) rfl #[.agg #[.int .u32 a0_0, .slice A0_1 l0_1.length c0_1, .string a0_2, .slice A0_3 l0_3.length c0_3, .slice A0_4 l0_4.length c0_4], .int .u32 a1] rfl (by (try simp only [List.map_toArray, List.map_cons, List.map_nil]); first | done | rfl | (simp only [List.length_drop, List.length_take]; rfl)) ?_; (with_reducible refine (arboretref06_Handle.calls kj2 a0_0 _ _ l0_1 a0_2 (fun k_ => k_ < w.heap.size) _ _ l0_3 (fun k_ => k_ < w.heap.size) _ _ l0_4 a1 t228 false _ ?side1 ?side2 ?side3 ?side4 A17.out).mono ?_); (case side1 => repeat (first | exact (Kd.C_below HR0_1.out HB.out) | (with_reducible refine Kd.C_alloc ?_ _) | (with_reducible refine Kd.C_drewN ?_ _) | (with_reducible refine Kd.C_drew ?_))); (case side2 => exact HC0_1.out); (case side3 => exact Kd.V_mk HC0_3.out (Kd.F_below (Kd.C_F k104_heap HR0_3.out) (by repeat (first | (with_reducible first | exact HB.out | apply below_alloc | apply pw_below_drewN | apply below_drew1 | refine below_set ?_ GE216.out) | exact HB.out)))); (case side4 => exact Kd.V_mk HC0_4.out (Kd.F_below (Kd.C_F k39_heap HR0_4.out) (by repeat (first | (with_reducible first | exact HB.out | apply below_alloc | apply pw_below_drewN | apply below_drew1 | refine below_set ?_ GE216.out) | exact HB.out)))); rintro e w45 ⟨v229, rfl, ho0, hb⟩; refine ⟨_, rfl, ?_⟩; have n0_ := Aside0.mk (Kd.R_below (by (with_reducible repeat (first | apply Kd.R_alloc | apply Kd.R_drewN | apply Kd.R_drew)); exact HO222.out) hb); have n1_ := Aside0.mk (Kd.N_below (by (with_reducible repeat (first | apply Kd.N_alloc | apply Kd.N_drewN | apply Kd.N_drew)); exact HO226.out) hb); have n2_ := Aside0.mk (Kd.V_lower (Kd.V_mono (ok' := fun k_ => some k_ ≠ (v221 : Value).ownBlock ∧ some k_ ≠ (v225 : Value).ownBlock ∧ k_ ≠ gb216) ho0 (fun k_ hk_ => ⟨Or.elim hk_ (fun hs_ => Or.elim hs_ (fun hs_ => fun e_ => Nat.not_le.2 hs_ (Kd.R_base HO222.out k_ e_.symm)) (fun hs_ => fun e_ => Nat.not_le.2 hs_ (Kd.R_base HO222.out k_ e_.symm))) (fun hn_ => (Kd.fresh' (Kd.R_lt (by (with_reducible repeat (first | apply Kd.R_alloc | apply Kd.R_drewN | apply Kd.R_drew)); exact HO222.out)) k_ hn_)), Or.elim hk_ (fun hs_ => Or.elim hs_ (fun hs_ => fun e_ => Nat.not_le.2 hs_ (Kd.N_base HO226.out k_ e_.symm)) (fun hs_ => fun e_ => Nat.not_le.2 hs_ (Kd.N_base HO226.out k_ e_.symm))) (fun hn_ => (Kd.fresh' (Kd.N_lt (by (with_reducible repeat (first | apply Kd.N_alloc | apply Kd.N_drewN | apply Kd.N_drew)); exact HO226.out)) k_ hn_)), Or.elim hk_ (fun hs_ => Or.elim hs_ (fun hs_ => fun e_ => Nat.not_le.2 hs_ (by rw [e_]; exact GW216.out)) (fun hs_ => fun e_ => Nat.not_le.2 hs_ (by rw [e_]; exact GW216.out))) (fun hn_ => (Kd.freshB (g := gb216) (o := .cells #[.int .u32 a0_0, .slice A0_1 l0_1.length c0_1, .string a0_2, .slice A0_3 l0_3.length c0_3, .slice A0_4 l0_4.length c0_4] 43 (0, 0)) (by (with_reducible repeat (first | refine blk_drewN ?_ _ | refine blk_drew ?_ | refine blk_alloc ?_ _)); exact BK216.out) k_ hn_))⟩)) (below_size (by repeat (first | (with_reducible first | exact HB.out | apply below_alloc | apply pw_below_drewN | apply below_drew1 | refine below_set ?_ GE216.out) | exact HB.out)))); have n3_ := Aside0.mk (blk_below (g := gb216) (o := .cells #[.int .u32 a0_0, .slice A0_1 l0_1.length c0_1, .string a0_2, .slice A0_3 l0_3.length c0_3, .slice A0_4 l0_4.length c0_4] 43 (0, 0)) (by (with_reducible repeat (first | refine blk_drewN ?_ _ | refine blk_drew ?_ | refine blk_alloc ?_ _)); exact BK216.out) hb); have n4_ := Aside0.mk (below_step (by repeat (first | (with_reducible first | exact HB.out | apply below_alloc | apply pw_below_drewN | apply below_drew1 | refine below_set ?_ GE216.out) | exact HB.out)) hb); clear HO222; clear HO226; clear BK216; clear HB; have HO222 := n0_; have HO226 := n1_; have HO230 := n2_; have BK216 := n3_; have HB := n4_; clear n0_ n1_ n2_ n3_ n4_; (try clear hb); (try clear hb2); (try clear hk); (try clear hi); (try clear ho0)))
                go_ret
                exact ⟨by first | rfl | (simp [errW_none, errW_some] <;> rfl) | (simp [*, errW_none, errW_some] <;> rfl), by repeat (first | (with_reducible first | exact HB.out | apply below_alloc | apply pw_below_drewN | apply below_drew1 | refine below_set ?_ GE216.out) | exact HB.out)⟩
          · rw [if_neg c19] at H
            have c19b0 : ((t223 == 0) == t231) = false := by simpa using c19
            (try (have c19b1 : decide ((t223 == 0) = t231) = false := by simpa using c19))
            (try (have c19b2 : ((t223 == 0) == t231) = false := by simpa using c19))
            (try (have c19b3 : ¬ ((t223 == 0) = t231) := by simpa using c19))
            clear c19
            obtain rfl := Option.some.inj H
            have hcz46_0 : wc.cell? ⟨gb216, 0, none⟩ = some (.int .u32 a0_0) := (blk_cell BK216.out 0).trans rfl
            have hcz46_1 : wc.cell? ⟨gb216, 1, none⟩ = some (.slice A0_1 l0_1.length c0_1) := (blk_cell BK216.out 1).trans rfl
            have hcz46_2 : wc.cell? ⟨gb216, 2, none⟩ = some (.string a0_2) := (blk_cell BK216.out 2).trans rfl
            have hcz46_3 : wc.cell? ⟨gb216, 3, none⟩ = some (.slice A0_3 l0_3.length c0_3) := (blk_cell BK216.out 3).trans rfl
            have hcz46_4 : wc.cell? ⟨gb216, 4, none⟩ = some (.slice A0_4 l0_4.length c0_4) := (blk_cell BK216.out 4).trans rfl
            have hfz46_0 := blk_frozen BK216.out 0
            have hfz46_1 := blk_frozen BK216.out 1
            have hfz46_2 := blk_frozen BK216.out 2
            have hfz46_3 := blk_frozen BK216.out 3
            have hfz46_4 := blk_frozen BK216.out 4
            go_wp2_with (first | ((with_reducible refine gate_callee (f := 37) rfl ?_); refine goesL_ (some 22) rfl rfl Try.func37 (by kernel_rfl) rfl #[.agg #[.int .u32 a0_0, .slice A0_1 l0_1.length c0_1, .string a0_2, .slice A0_3 l0_3.length c0_3, .slice A0_4 l0_4.length c0_4], .int .u32 a1] rfl (by (try simp only [List.map_toArray, List.map_cons, List.map_nil]); first | done | rfl | (simp only [List.length_drop, List.length_take]; rfl)) ?_; (with_reducible refine (handle_Find.calls kj2 a0_0 _ _ l0_1 a0_2 _ _ l0_3 _ _ l0_4 a1 t220 t223 _ ?side1 ?side2 ?side3 ?side4 ?side5 ?side6 A15.out).mono ?_); (case side1 => repeat (first | exact (Kd.C_below HR0_1.out HB.out) | (with_reducible refine Kd.C_alloc ?_ _) | (with_reducible refine Kd.C_drewN ?_ _) | (with_reducible refine Kd.C_drew ?_))); (case side2 => exact HC0_1.out); (case side3 => repeat (first | exact (Kd.C_below HR0_3.out HB.out) | (with_reducible refine Kd.C_alloc ?_ _) | (with_reducible refine Kd.C_drewN ?_ _) | (with_reducible refine Kd.C_drew ?_))); (case side4 => exact HC0_3.out); (case side5 => repeat (first | exact (Kd.C_below HR0_4.out HB.out) | (with_reducible refine Kd.C_alloc ?_ _) | (with_reducible refine Kd.C_drewN ?_ _) | (with_reducible refine Kd.C_drew ?_))); (case side6 => exact HC0_4.out); rintro e w47 ⟨v221, rfl, ho0, hb⟩; refine ⟨_, rfl, ?_⟩; have n0_ := Aside0.mk (Kd.R_lower ho0 (below_size (by repeat (first | (with_reducible first | exact HB.out | apply below_alloc | apply pw_below_drewN | apply below_drew1 | refine below_set ?_ GE216.out) | exact HB.out)))); have n1_ := Aside0.mk (blk_below (g := gb216) (o := .cells #[.int .u32 a0_0, .slice A0_1 l0_1.length c0_1, .string a0_2, .slice A0_3 l0_3.length c0_3, .slice A0_4 l0_4.length c0_4] 43 (0, 0)) (by (with_reducible repeat (first | refine blk_drewN ?_ _ | refine blk_drew ?_ | refine blk_alloc ?_ _)); exact BK216.out) hb); have n2_ := Aside0.mk (below_step (by repeat (first | (with_reducible first | exact HB.out | apply below_alloc | apply pw_below_drewN | apply below_drew1 | refine below_set ?_ GE216.out) | exact HB.out)) hb); clear BK216; clear HB; have HO222 := n0_; have BK216 := n1_; have HB := n2_; clear n0_ n1_ n2_; (try clear hb); (try clear hb2); (try clear hk); (try clear hi); (try clear ho0); have hcz48_0 : w47.cell? ⟨gb216, 0, none⟩ = some (.int .u32 a0_0) := (blk_cell BK216.out 0).trans rfl; have hcz48_1 : w47.cell? ⟨gb216, 1, none⟩ = some (.slice A0_1 l0_1.length c0_1) := (blk_cell BK216.out 1).trans rfl; have hcz48_2 : w47.cell? ⟨gb216, 2, none⟩ = some (.string a0_2) := (blk_cell BK216.out 2).trans rfl; have hcz48_3 : w47.cell? ⟨gb216, 3, none⟩ = some (.slice A0_3 l0_3.length c0_3) := (blk_cell BK216.out 3).trans rfl; have hcz48_4 : w47.cell? ⟨gb216, 4, none⟩ = some (.slice A0_4 l0_4.length c0_4) := (blk_cell BK216.out 4).trans rfl; have hfz48_0 := blk_frozen BK216.out 0; have hfz48_1 := blk_frozen BK216.out 1; have hfz48_2 := blk_frozen BK216.out 2; have hfz48_3 := blk_frozen BK216.out 3; have hfz48_4 := blk_frozen BK216.out 4) | ((with_reducible refine gate_callee (f := 38) rfl ?_); refine goesL_ (some 27) rfl rfl Try.func38 (by kernel_rfl) rfl #[.agg #[.int .u32 a0_0, .slice A0_1 l0_1.length c0_1, .string a0_2, .slice A0_3 l0_3.length c0_3, .slice A0_4 l0_4.length c0_4]] rfl (by (try simp only [List.map_toArray, List.map_cons, List.map_nil]); first | done | rfl | (simp only [List.length_drop, List.length_take]; rfl)) ?_; (with_reducible refine (arboretref06_Index.calls kj2 a0_0 _ _ l0_1 a0_2 (fun k_ => k_ < w.heap.size) _ _ l0_3 (fun k_ => k_ < w.heap.size) _ _ l0_4 t224 t227 _ ?side1 ?side2 ?side3 ?side4 A16.out).mono ?_); (case side1 => repeat (first | exact (Kd.C_below HR0_1.out HB.out) | (with_reducible refine Kd.C_alloc ?_ _) | (with_reducible refine Kd.C_drewN ?_ _) | (with_reducible refine Kd.C_drew ?_))); (case side2 => exact HC0_1.out); (case side3 => exact Kd.V_mk HC0_3.out (Kd.F_below (Kd.C_F k104_heap HR0_3.out) (by repeat (first | (with_reducible first | exact HB.out | apply below_alloc | apply pw_below_drewN | apply below_drew1 | refine below_set ?_ GE216.out) | exact HB.out)))); (case side4 => exact Kd.V_mk HC0_4.out (Kd.F_below (Kd.C_F k39_heap HR0_4.out) (by repeat (first | (with_reducible first | exact HB.out | apply below_alloc | apply pw_below_drewN | apply below_drew1 | refine below_set ?_ GE216.out) | exact HB.out)))); rintro e w49 ⟨v225, rfl, ho0, hb⟩; refine ⟨_, rfl, ?_⟩; have n0_ := Aside0.mk (Kd.R_below (by (with_reducible repeat (first | apply Kd.R_alloc | apply Kd.R_drewN | apply Kd.R_drew)); exact HO222.out) hb); have n1_ := Aside0.mk (Kd.N_lower (Kd.N_mono (ok' := fun k_ => some k_ ≠ (v221 : Value).ownBlock ∧ k_ ≠ gb216) ho0 (fun k_ hk_ => ⟨Or.elim hk_ (fun hs_ => Or.elim hs_ (fun hs_ => fun e_ => Nat.not_le.2 hs_ (Kd.R_base HO222.out k_ e_.symm)) (fun hs_ => fun e_ => Nat.not_le.2 hs_ (Kd.R_base HO222.out k_ e_.symm))) (fun hn_ => (Kd.fresh' (Kd.R_lt (by (with_reducible repeat (first | apply Kd.R_alloc | apply Kd.R_drewN | apply Kd.R_drew)); exact HO222.out)) k_ hn_)), Or.elim hk_ (fun hs_ => Or.elim hs_ (fun hs_ => fun e_ => Nat.not_le.2 hs_ (by rw [e_]; exact GW216.out)) (fun hs_ => fun e_ => Nat.not_le.2 hs_ (by rw [e_]; exact GW216.out))) (fun hn_ => (Kd.freshB (g := gb216) (o := .cells #[.int .u32 a0_0, .slice A0_1 l0_1.length c0_1, .string a0_2, .slice A0_3 l0_3.length c0_3, .slice A0_4 l0_4.length c0_4] 43 (0, 0)) (by (with_reducible repeat (first | refine blk_drewN ?_ _ | refine blk_drew ?_ | refine blk_alloc ?_ _)); exact BK216.out) k_ hn_))⟩)) (below_size (by repeat (first | (with_reducible first | exact HB.out | apply below_alloc | apply pw_below_drewN | apply below_drew1 | refine below_set ?_ GE216.out) | exact HB.out)))); have n2_ := Aside0.mk (blk_below (g := gb216) (o := .cells #[.int .u32 a0_0, .slice A0_1 l0_1.length c0_1, .string a0_2, .slice A0_3 l0_3.length c0_3, .slice A0_4 l0_4.length c0_4] 43 (0, 0)) (by (with_reducible repeat (first | refine blk_drewN ?_ _ | refine blk_drew ?_ | refine blk_alloc ?_ _)); exact BK216.out) hb); have n3_ := Aside0.mk (below_step (by repeat (first | (with_reducible first | exact HB.out | apply below_alloc | apply pw_below_drewN | apply below_drew1 | refine below_set ?_ GE216.out) | exact HB.out)) hb); clear HO222; clear BK216; clear HB; have HO222 := n0_; have HO226 := n1_; have BK216 := n2_; have HB := n3_; clear n0_ n1_ n2_ n3_; (try clear hb); (try clear hb2); (try clear hk); (try clear hi); (try clear ho0); have hcz50_0 : w49.cell? ⟨gb216, 0, none⟩ = some (.int .u32 a0_0) := (blk_cell BK216.out 0).trans rfl; have hcz50_1 : w49.cell? ⟨gb216, 1, none⟩ = some (.slice A0_1 l0_1.length c0_1) := (blk_cell BK216.out 1).trans rfl; have hcz50_2 : w49.cell? ⟨gb216, 2, none⟩ = some (.string a0_2) := (blk_cell BK216.out 2).trans rfl; have hcz50_3 : w49.cell? ⟨gb216, 3, none⟩ = some (.slice A0_3 l0_3.length c0_3) := (blk_cell BK216.out 3).trans rfl; have hcz50_4 : w49.cell? ⟨gb216, 4, none⟩ = some (.slice A0_4 l0_4.length c0_4) := (blk_cell BK216.out 4).trans rfl; have hfz50_0 := blk_frozen BK216.out 0; have hfz50_1 := blk_frozen BK216.out 1; have hfz50_2 := blk_frozen BK216.out 2; have hfz50_3 := blk_frozen BK216.out 3; have hfz50_4 := blk_frozen BK216.out 4) | ((with_reducible refine gate_callee (f := 39) rfl ?_); refine goesL_ (some 33) rfl rfl Try.func39 (by kernel_rfl) rfl #[.agg #[.int .u32 a0_0, .slice A0_1 l0_1.length c0_1, .string a0_2, .slice A0_3 l0_3.length c0_3, .slice A0_4 l0_4.length c0_4], .int .u32 a1] rfl (by (try simp only [List.map_toArray, List.map_cons, List.map_nil]); first | done | rfl | (simp only [List.length_drop, List.length_take]; rfl)) ?_; (with_reducible refine (arboretref06_Handle.calls kj2 a0_0 _ _ l0_1 a0_2 (fun k_ => k_ < w.heap.size) _ _ l0_3 (fun k_ => k_ < w.heap.size) _ _ l0_4 a1 t228 t231 _ ?side1 ?side2 ?side3 ?side4 A17.out).mono ?_); (case side1 => repeat (first | exact (Kd.C_below HR0_1.out HB.out) | (with_reducible refine Kd.C_alloc ?_ _) | (with_reducible refine Kd.C_drewN ?_ _) | (with_reducible refine Kd.C_drew ?_))); (case side2 => exact HC0_1.out); (case side3 => exact Kd.V_mk HC0_3.out (Kd.F_below (Kd.C_F k104_heap HR0_3.out) (by repeat (first | (with_reducible first | exact HB.out | apply below_alloc | apply pw_below_drewN | apply below_drew1 | refine below_set ?_ GE216.out) | exact HB.out)))); (case side4 => exact Kd.V_mk HC0_4.out (Kd.F_below (Kd.C_F k39_heap HR0_4.out) (by repeat (first | (with_reducible first | exact HB.out | apply below_alloc | apply pw_below_drewN | apply below_drew1 | refine below_set ?_ GE216.out) | exact HB.out)))); rintro e w51 ⟨v229, rfl, ho0, hb⟩; refine ⟨_, rfl, ?_⟩; have n0_ := Aside0.mk (Kd.R_below (by (with_reducible repeat (first | apply Kd.R_alloc | apply Kd.R_drewN | apply Kd.R_drew)); exact HO222.out) hb); have n1_ := Aside0.mk (Kd.N_below (by (with_reducible repeat (first | apply Kd.N_alloc | apply Kd.N_drewN | apply Kd.N_drew)); exact HO226.out) hb); have n2_ := Aside0.mk (Kd.V_lower (Kd.V_mono (ok' := fun k_ => some k_ ≠ (v221 : Value).ownBlock ∧ some k_ ≠ (v225 : Value).ownBlock ∧ k_ ≠ gb216) ho0 (fun k_ hk_ => ⟨Or.elim hk_ (fun hs_ => Or.elim hs_ (fun hs_ => fun e_ => Nat.not_le.2 hs_ (Kd.R_base HO222.out k_ e_.symm)) (fun hs_ => fun e_ => Nat.not_le.2 hs_ (Kd.R_base HO222.out k_ e_.symm))) (fun hn_ => (Kd.fresh' (Kd.R_lt (by (with_reducible repeat (first | apply Kd.R_alloc | apply Kd.R_drewN | apply Kd.R_drew)); exact HO222.out)) k_ hn_)), Or.elim hk_ (fun hs_ => Or.elim hs_ (fun hs_ => fun e_ => Nat.not_le.2 hs_ (Kd.N_base HO226.out k_ e_.symm)) (fun hs_ => fun e_ => Nat.not_le.2 hs_ (Kd.N_base HO226.out k_ e_.symm))) (fun hn_ => (Kd.fresh' (Kd.N_lt (by (with_reducible repeat (first | apply Kd.N_alloc | apply Kd.N_drewN | apply Kd.N_drew)); exact HO226.out)) k_ hn_)), Or.elim hk_ (fun hs_ => Or.elim hs_ (fun hs_ => fun e_ => Nat.not_le.2 hs_ (by rw [e_]; exact GW216.out)) (fun hs_ => fun e_ => Nat.not_le.2 hs_ (by rw [e_]; exact GW216.out))) (fun hn_ => (Kd.freshB (g := gb216) (o := .cells #[.int .u32 a0_0, .slice A0_1 l0_1.length c0_1, .string a0_2, .slice A0_3 l0_3.length c0_3, .slice A0_4 l0_4.length c0_4] 43 (0, 0)) (by (with_reducible repeat (first | refine blk_drewN ?_ _ | refine blk_drew ?_ | refine blk_alloc ?_ _)); exact BK216.out) k_ hn_))⟩)) (below_size (by repeat (first | (with_reducible first | exact HB.out | apply below_alloc | apply pw_below_drewN | apply below_drew1 | refine below_set ?_ GE216.out) | exact HB.out)))); have n3_ := Aside0.mk (blk_below (g := gb216) (o := .cells #[.int .u32 a0_0, .slice A0_1 l0_1.length c0_1, .string a0_2, .slice A0_3 l0_3.length c0_3, .slice A0_4 l0_4.length c0_4] 43 (0, 0)) (by (with_reducible repeat (first | refine blk_drewN ?_ _ | refine blk_drew ?_ | refine blk_alloc ?_ _)); exact BK216.out) hb); have n4_ := Aside0.mk (below_step (by repeat (first | (with_reducible first | exact HB.out | apply below_alloc | apply pw_below_drewN | apply below_drew1 | refine below_set ?_ GE216.out) | exact HB.out)) hb); clear HO222; clear HO226; clear BK216; clear HB; have HO222 := n0_; have HO226 := n1_; have HO230 := n2_; have BK216 := n3_; have HB := n4_; clear n0_ n1_ n2_ n3_ n4_; (try clear hb); (try clear hb2); (try clear hk); (try clear hi); (try clear ho0)))
            go_ret
            exact ⟨by first | rfl | (simp [errW_none, errW_some] <;> rfl) | (simp [*, errW_none, errW_some] <;> rfl), by repeat (first | (with_reducible first | exact HB.out | apply below_alloc | apply pw_below_drewN | apply below_drew1 | refine below_set ?_ GE216.out) | exact HB.out)⟩
        · rw [if_neg c18] at H
          have c18b0 : (t227 == 0) = false := beq_eq_false_iff_ne.mpr c18
          have c18b1 : (t227 != 0) = true := bne_iff_ne.mpr c18
          by_cases c52 : t223 = t227
          · rw [if_pos c52] at H
            have c52b0 : (t223 == t227) = true := beq_iff_eq.mpr c52
            have c52b1 : (t223 != t227) = false := bne_eq_false_iff_eq.mpr c52
            clear c52
            obtain rfl := Option.some.inj H
            have hcz53_0 : wc.cell? ⟨gb216, 0, none⟩ = some (.int .u32 a0_0) := (blk_cell BK216.out 0).trans rfl
            have hcz53_1 : wc.cell? ⟨gb216, 1, none⟩ = some (.slice A0_1 l0_1.length c0_1) := (blk_cell BK216.out 1).trans rfl
            have hcz53_2 : wc.cell? ⟨gb216, 2, none⟩ = some (.string a0_2) := (blk_cell BK216.out 2).trans rfl
            have hcz53_3 : wc.cell? ⟨gb216, 3, none⟩ = some (.slice A0_3 l0_3.length c0_3) := (blk_cell BK216.out 3).trans rfl
            have hcz53_4 : wc.cell? ⟨gb216, 4, none⟩ = some (.slice A0_4 l0_4.length c0_4) := (blk_cell BK216.out 4).trans rfl
            have hfz53_0 := blk_frozen BK216.out 0
            have hfz53_1 := blk_frozen BK216.out 1
            have hfz53_2 := blk_frozen BK216.out 2
            have hfz53_3 := blk_frozen BK216.out 3
            have hfz53_4 := blk_frozen BK216.out 4
            go_wp2_with (first | ((with_reducible refine gate_callee (f := 37) rfl ?_); refine goesL_ (some 22) rfl rfl Try.func37 (by kernel_rfl) rfl #[.agg #[.int .u32 a0_0, .slice A0_1 l0_1.length c0_1, .string a0_2, .slice A0_3 l0_3.length c0_3, .slice A0_4 l0_4.length c0_4], .int .u32 a1] rfl (by (try simp only [List.map_toArray, List.map_cons, List.map_nil]); first | done | rfl | (simp only [List.length_drop, List.length_take]; rfl)) ?_; (with_reducible refine (handle_Find.calls kj2 a0_0 _ _ l0_1 a0_2 _ _ l0_3 _ _ l0_4 a1 t220 t223 _ ?side1 ?side2 ?side3 ?side4 ?side5 ?side6 A15.out).mono ?_); (case side1 => repeat (first | exact (Kd.C_below HR0_1.out HB.out) | (with_reducible refine Kd.C_alloc ?_ _) | (with_reducible refine Kd.C_drewN ?_ _) | (with_reducible refine Kd.C_drew ?_))); (case side2 => exact HC0_1.out); (case side3 => repeat (first | exact (Kd.C_below HR0_3.out HB.out) | (with_reducible refine Kd.C_alloc ?_ _) | (with_reducible refine Kd.C_drewN ?_ _) | (with_reducible refine Kd.C_drew ?_))); (case side4 => exact HC0_3.out); (case side5 => repeat (first | exact (Kd.C_below HR0_4.out HB.out) | (with_reducible refine Kd.C_alloc ?_ _) | (with_reducible refine Kd.C_drewN ?_ _) | (with_reducible refine Kd.C_drew ?_))); (case side6 => exact HC0_4.out); rintro e w54 ⟨v221, rfl, ho0, hb⟩; refine ⟨_, rfl, ?_⟩; have n0_ := Aside0.mk (Kd.R_lower ho0 (below_size (by repeat (first | (with_reducible first | exact HB.out | apply below_alloc | apply pw_below_drewN | apply below_drew1 | refine below_set ?_ GE216.out) | exact HB.out)))); have n1_ := Aside0.mk (blk_below (g := gb216) (o := .cells #[.int .u32 a0_0, .slice A0_1 l0_1.length c0_1, .string a0_2, .slice A0_3 l0_3.length c0_3, .slice A0_4 l0_4.length c0_4] 43 (0, 0)) (by (with_reducible repeat (first | refine blk_drewN ?_ _ | refine blk_drew ?_ | refine blk_alloc ?_ _)); exact BK216.out) hb); have n2_ := Aside0.mk (below_step (by repeat (first | (with_reducible first | exact HB.out | apply below_alloc | apply pw_below_drewN | apply below_drew1 | refine below_set ?_ GE216.out) | exact HB.out)) hb); clear BK216; clear HB; have HO222 := n0_; have BK216 := n1_; have HB := n2_; clear n0_ n1_ n2_; (try clear hb); (try clear hb2); (try clear hk); (try clear hi); (try clear ho0); have hcz55_0 : w54.cell? ⟨gb216, 0, none⟩ = some (.int .u32 a0_0) := (blk_cell BK216.out 0).trans rfl; have hcz55_1 : w54.cell? ⟨gb216, 1, none⟩ = some (.slice A0_1 l0_1.length c0_1) := (blk_cell BK216.out 1).trans rfl; have hcz55_2 : w54.cell? ⟨gb216, 2, none⟩ = some (.string a0_2) := (blk_cell BK216.out 2).trans rfl; have hcz55_3 : w54.cell? ⟨gb216, 3, none⟩ = some (.slice A0_3 l0_3.length c0_3) := (blk_cell BK216.out 3).trans rfl; have hcz55_4 : w54.cell? ⟨gb216, 4, none⟩ = some (.slice A0_4 l0_4.length c0_4) := (blk_cell BK216.out 4).trans rfl; have hfz55_0 := blk_frozen BK216.out 0; have hfz55_1 := blk_frozen BK216.out 1; have hfz55_2 := blk_frozen BK216.out 2; have hfz55_3 := blk_frozen BK216.out 3; have hfz55_4 := blk_frozen BK216.out 4) | ((with_reducible refine gate_callee (f := 38) rfl ?_); refine goesL_ (some 27) rfl rfl Try.func38 (by kernel_rfl) rfl #[.agg #[.int .u32 a0_0, .slice A0_1 l0_1.length c0_1, .string a0_2, .slice A0_3 l0_3.length c0_3, .slice A0_4 l0_4.length c0_4]] rfl (by (try simp only [List.map_toArray, List.map_cons, List.map_nil]); first | done | rfl | (simp only [List.length_drop, List.length_take]; rfl)) ?_; (with_reducible refine (arboretref06_Index.calls kj2 a0_0 _ _ l0_1 a0_2 (fun k_ => k_ < w.heap.size) _ _ l0_3 (fun k_ => k_ < w.heap.size) _ _ l0_4 t224 t227 _ ?side1 ?side2 ?side3 ?side4 A16.out).mono ?_); (case side1 => repeat (first | exact (Kd.C_below HR0_1.out HB.out) | (with_reducible refine Kd.C_alloc ?_ _) | (with_reducible refine Kd.C_drewN ?_ _) | (with_reducible refine Kd.C_drew ?_))); (case side2 => exact HC0_1.out); (case side3 => exact Kd.V_mk HC0_3.out (Kd.F_below (Kd.C_F k104_heap HR0_3.out) (by repeat (first | (with_reducible first | exact HB.out | apply below_alloc | apply pw_below_drewN | apply below_drew1 | refine below_set ?_ GE216.out) | exact HB.out)))); (case side4 => exact Kd.V_mk HC0_4.out (Kd.F_below (Kd.C_F k39_heap HR0_4.out) (by repeat (first | (with_reducible first | exact HB.out | apply below_alloc | apply pw_below_drewN | apply below_drew1 | refine below_set ?_ GE216.out) | exact HB.out)))); rintro e w56 ⟨v225, rfl, ho0, hb⟩; refine ⟨_, rfl, ?_⟩; have n0_ := Aside0.mk (Kd.R_below (by (with_reducible repeat (first | apply Kd.R_alloc | apply Kd.R_drewN | apply Kd.R_drew)); exact HO222.out) hb); have n1_ := Aside0.mk (Kd.N_lower (Kd.N_mono (ok' := fun k_ => some k_ ≠ (v221 : Value).ownBlock ∧ k_ ≠ gb216) ho0 (fun k_ hk_ => ⟨Or.elim hk_ (fun hs_ => Or.elim hs_ (fun hs_ => fun e_ => Nat.not_le.2 hs_ (Kd.R_base HO222.out k_ e_.symm)) (fun hs_ => fun e_ => Nat.not_le.2 hs_ (Kd.R_base HO222.out k_ e_.symm))) (fun hn_ => (Kd.fresh' (Kd.R_lt (by (with_reducible repeat (first | apply Kd.R_alloc | apply Kd.R_drewN | apply Kd.R_drew)); exact HO222.out)) k_ hn_)), Or.elim hk_ (fun hs_ => Or.elim hs_ (fun hs_ => fun e_ => Nat.not_le.2 hs_ (by rw [e_]; exact GW216.out)) (fun hs_ => fun e_ => Nat.not_le.2 hs_ (by rw [e_]; exact GW216.out))) (fun hn_ => (Kd.freshB (g := gb216) (o := .cells #[.int .u32 a0_0, .slice A0_1 l0_1.length c0_1, .string a0_2, .slice A0_3 l0_3.length c0_3, .slice A0_4 l0_4.length c0_4] 43 (0, 0)) (by (with_reducible repeat (first | refine blk_drewN ?_ _ | refine blk_drew ?_ | refine blk_alloc ?_ _)); exact BK216.out) k_ hn_))⟩)) (below_size (by repeat (first | (with_reducible first | exact HB.out | apply below_alloc | apply pw_below_drewN | apply below_drew1 | refine below_set ?_ GE216.out) | exact HB.out)))); have n2_ := Aside0.mk (blk_below (g := gb216) (o := .cells #[.int .u32 a0_0, .slice A0_1 l0_1.length c0_1, .string a0_2, .slice A0_3 l0_3.length c0_3, .slice A0_4 l0_4.length c0_4] 43 (0, 0)) (by (with_reducible repeat (first | refine blk_drewN ?_ _ | refine blk_drew ?_ | refine blk_alloc ?_ _)); exact BK216.out) hb); have n3_ := Aside0.mk (below_step (by repeat (first | (with_reducible first | exact HB.out | apply below_alloc | apply pw_below_drewN | apply below_drew1 | refine below_set ?_ GE216.out) | exact HB.out)) hb); clear HO222; clear BK216; clear HB; have HO222 := n0_; have HO226 := n1_; have BK216 := n2_; have HB := n3_; clear n0_ n1_ n2_ n3_; (try clear hb); (try clear hb2); (try clear hk); (try clear hi); (try clear ho0); have hcz57_0 : w56.cell? ⟨gb216, 0, none⟩ = some (.int .u32 a0_0) := (blk_cell BK216.out 0).trans rfl; have hcz57_1 : w56.cell? ⟨gb216, 1, none⟩ = some (.slice A0_1 l0_1.length c0_1) := (blk_cell BK216.out 1).trans rfl; have hcz57_2 : w56.cell? ⟨gb216, 2, none⟩ = some (.string a0_2) := (blk_cell BK216.out 2).trans rfl; have hcz57_3 : w56.cell? ⟨gb216, 3, none⟩ = some (.slice A0_3 l0_3.length c0_3) := (blk_cell BK216.out 3).trans rfl; have hcz57_4 : w56.cell? ⟨gb216, 4, none⟩ = some (.slice A0_4 l0_4.length c0_4) := (blk_cell BK216.out 4).trans rfl; have hfz57_0 := blk_frozen BK216.out 0; have hfz57_1 := blk_frozen BK216.out 1; have hfz57_2 := blk_frozen BK216.out 2; have hfz57_3 := blk_frozen BK216.out 3; have hfz57_4 := blk_frozen BK216.out 4) | ((with_reducible refine gate_callee (f := 39) rfl ?_); refine goesL_ (some 33) rfl rfl Try.func39 (by kernel_rfl) rfl #[.agg #[.int .u32 a0_0, .slice A0_1 l0_1.length c0_1, .string a0_2, .slice A0_3 l0_3.length c0_3, .slice A0_4 l0_4.length c0_4], .int .u32 a1] rfl (by (try simp only [List.map_toArray, List.map_cons, List.map_nil]); first | done | rfl | (simp only [List.length_drop, List.length_take]; rfl)) ?_; (with_reducible refine (arboretref06_Handle.calls kj2 a0_0 _ _ l0_1 a0_2 (fun k_ => k_ < w.heap.size) _ _ l0_3 (fun k_ => k_ < w.heap.size) _ _ l0_4 a1 t228 t231 _ ?side1 ?side2 ?side3 ?side4 A17.out).mono ?_); (case side1 => repeat (first | exact (Kd.C_below HR0_1.out HB.out) | (with_reducible refine Kd.C_alloc ?_ _) | (with_reducible refine Kd.C_drewN ?_ _) | (with_reducible refine Kd.C_drew ?_))); (case side2 => exact HC0_1.out); (case side3 => exact Kd.V_mk HC0_3.out (Kd.F_below (Kd.C_F k104_heap HR0_3.out) (by repeat (first | (with_reducible first | exact HB.out | apply below_alloc | apply pw_below_drewN | apply below_drew1 | refine below_set ?_ GE216.out) | exact HB.out)))); (case side4 => exact Kd.V_mk HC0_4.out (Kd.F_below (Kd.C_F k39_heap HR0_4.out) (by repeat (first | (with_reducible first | exact HB.out | apply below_alloc | apply pw_below_drewN | apply below_drew1 | refine below_set ?_ GE216.out) | exact HB.out)))); rintro e w58 ⟨v229, rfl, ho0, hb⟩; refine ⟨_, rfl, ?_⟩; have n0_ := Aside0.mk (Kd.R_below (by (with_reducible repeat (first | apply Kd.R_alloc | apply Kd.R_drewN | apply Kd.R_drew)); exact HO222.out) hb); have n1_ := Aside0.mk (Kd.N_below (by (with_reducible repeat (first | apply Kd.N_alloc | apply Kd.N_drewN | apply Kd.N_drew)); exact HO226.out) hb); have n2_ := Aside0.mk (Kd.V_lower (Kd.V_mono (ok' := fun k_ => some k_ ≠ (v221 : Value).ownBlock ∧ some k_ ≠ (v225 : Value).ownBlock ∧ k_ ≠ gb216) ho0 (fun k_ hk_ => ⟨Or.elim hk_ (fun hs_ => Or.elim hs_ (fun hs_ => fun e_ => Nat.not_le.2 hs_ (Kd.R_base HO222.out k_ e_.symm)) (fun hs_ => fun e_ => Nat.not_le.2 hs_ (Kd.R_base HO222.out k_ e_.symm))) (fun hn_ => (Kd.fresh' (Kd.R_lt (by (with_reducible repeat (first | apply Kd.R_alloc | apply Kd.R_drewN | apply Kd.R_drew)); exact HO222.out)) k_ hn_)), Or.elim hk_ (fun hs_ => Or.elim hs_ (fun hs_ => fun e_ => Nat.not_le.2 hs_ (Kd.N_base HO226.out k_ e_.symm)) (fun hs_ => fun e_ => Nat.not_le.2 hs_ (Kd.N_base HO226.out k_ e_.symm))) (fun hn_ => (Kd.fresh' (Kd.N_lt (by (with_reducible repeat (first | apply Kd.N_alloc | apply Kd.N_drewN | apply Kd.N_drew)); exact HO226.out)) k_ hn_)), Or.elim hk_ (fun hs_ => Or.elim hs_ (fun hs_ => fun e_ => Nat.not_le.2 hs_ (by rw [e_]; exact GW216.out)) (fun hs_ => fun e_ => Nat.not_le.2 hs_ (by rw [e_]; exact GW216.out))) (fun hn_ => (Kd.freshB (g := gb216) (o := .cells #[.int .u32 a0_0, .slice A0_1 l0_1.length c0_1, .string a0_2, .slice A0_3 l0_3.length c0_3, .slice A0_4 l0_4.length c0_4] 43 (0, 0)) (by (with_reducible repeat (first | refine blk_drewN ?_ _ | refine blk_drew ?_ | refine blk_alloc ?_ _)); exact BK216.out) k_ hn_))⟩)) (below_size (by repeat (first | (with_reducible first | exact HB.out | apply below_alloc | apply pw_below_drewN | apply below_drew1 | refine below_set ?_ GE216.out) | exact HB.out)))); have n3_ := Aside0.mk (blk_below (g := gb216) (o := .cells #[.int .u32 a0_0, .slice A0_1 l0_1.length c0_1, .string a0_2, .slice A0_3 l0_3.length c0_3, .slice A0_4 l0_4.length c0_4] 43 (0, 0)) (by (with_reducible repeat (first | refine blk_drewN ?_ _ | refine blk_drew ?_ | refine blk_alloc ?_ _)); exact BK216.out) hb); have n4_ := Aside0.mk (below_step (by repeat (first | (with_reducible first | exact HB.out | apply below_alloc | apply pw_below_drewN | apply below_drew1 | refine below_set ?_ GE216.out) | exact HB.out)) hb); clear HO222; clear HO226; clear BK216; clear HB; have HO222 := n0_; have HO226 := n1_; have HO230 := n2_; have BK216 := n3_; have HB := n4_; clear n0_ n1_ n2_ n3_ n4_; (try clear hb); (try clear hb2); (try clear hk); (try clear hi); (try clear ho0); obtain ⟨Ao59, co59, eo59⟩ := Kd.R_slice HO222.out; subst eo59))
            go_ret
            exact ⟨by first | rfl | (simp [errW_none, errW_some] <;> rfl) | (simp [*, errW_none, errW_some] <;> rfl), by repeat (first | (with_reducible first | exact HB.out | apply below_alloc | apply pw_below_drewN | apply below_drew1 | refine below_set ?_ GE216.out) | exact HB.out)⟩
          · rw [if_neg c52] at H
            have c52b0 : (t223 == t227) = false := beq_eq_false_iff_ne.mpr c52
            have c52b1 : (t223 != t227) = true := bne_iff_ne.mpr c52
            obtain rfl := Option.some.inj H
            have hcz60_0 : wc.cell? ⟨gb216, 0, none⟩ = some (.int .u32 a0_0) := (blk_cell BK216.out 0).trans rfl
            have hcz60_1 : wc.cell? ⟨gb216, 1, none⟩ = some (.slice A0_1 l0_1.length c0_1) := (blk_cell BK216.out 1).trans rfl
            have hcz60_2 : wc.cell? ⟨gb216, 2, none⟩ = some (.string a0_2) := (blk_cell BK216.out 2).trans rfl
            have hcz60_3 : wc.cell? ⟨gb216, 3, none⟩ = some (.slice A0_3 l0_3.length c0_3) := (blk_cell BK216.out 3).trans rfl
            have hcz60_4 : wc.cell? ⟨gb216, 4, none⟩ = some (.slice A0_4 l0_4.length c0_4) := (blk_cell BK216.out 4).trans rfl
            have hfz60_0 := blk_frozen BK216.out 0
            have hfz60_1 := blk_frozen BK216.out 1
            have hfz60_2 := blk_frozen BK216.out 2
            have hfz60_3 := blk_frozen BK216.out 3
            have hfz60_4 := blk_frozen BK216.out 4
            go_wp2_with (first | ((with_reducible refine gate_callee (f := 37) rfl ?_); refine goesL_ (some 22) rfl rfl Try.func37 (by kernel_rfl) rfl #[.agg #[.int .u32 a0_0, .slice A0_1 l0_1.length c0_1, .string a0_2, .slice A0_3 l0_3.length c0_3, .slice A0_4 l0_4.length c0_4], .int .u32 a1] rfl (by (try simp only [List.map_toArray, List.map_cons, List.map_nil]); first | done | rfl | (simp only [List.length_drop, List.length_take]; rfl)) ?_; (with_reducible refine (handle_Find.calls kj2 a0_0 _ _ l0_1 a0_2 _ _ l0_3 _ _ l0_4 a1 t220 t223 _ ?side1 ?side2 ?side3 ?side4 ?side5 ?side6 A15.out).mono ?_); (case side1 => repeat (first | exact (Kd.C_below HR0_1.out HB.out) | (with_reducible refine Kd.C_alloc ?_ _) | (with_reducible refine Kd.C_drewN ?_ _) | (with_reducible refine Kd.C_drew ?_))); (case side2 => exact HC0_1.out); (case side3 => repeat (first | exact (Kd.C_below HR0_3.out HB.out) | (with_reducible refine Kd.C_alloc ?_ _) | (with_reducible refine Kd.C_drewN ?_ _) | (with_reducible refine Kd.C_drew ?_))); (case side4 => exact HC0_3.out); (case side5 => repeat (first | exact (Kd.C_below HR0_4.out HB.out) | (with_reducible refine Kd.C_alloc ?_ _) | (with_reducible refine Kd.C_drewN ?_ _) | (with_reducible refine Kd.C_drew ?_))); (case side6 => exact HC0_4.out); rintro e w61 ⟨v221, rfl, ho0, hb⟩; refine ⟨_, rfl, ?_⟩; have n0_ := Aside0.mk (Kd.R_lower ho0 (below_size (by repeat (first | (with_reducible first | exact HB.out | apply below_alloc | apply pw_below_drewN | apply below_drew1 | refine below_set ?_ GE216.out) | exact HB.out)))); have n1_ := Aside0.mk (blk_below (g := gb216) (o := .cells #[.int .u32 a0_0, .slice A0_1 l0_1.length c0_1, .string a0_2, .slice A0_3 l0_3.length c0_3, .slice A0_4 l0_4.length c0_4] 43 (0, 0)) (by (with_reducible repeat (first | refine blk_drewN ?_ _ | refine blk_drew ?_ | refine blk_alloc ?_ _)); exact BK216.out) hb); have n2_ := Aside0.mk (below_step (by repeat (first | (with_reducible first | exact HB.out | apply below_alloc | apply pw_below_drewN | apply below_drew1 | refine below_set ?_ GE216.out) | exact HB.out)) hb); clear BK216; clear HB; have HO222 := n0_; have BK216 := n1_; have HB := n2_; clear n0_ n1_ n2_; (try clear hb); (try clear hb2); (try clear hk); (try clear hi); (try clear ho0); have hcz62_0 : w61.cell? ⟨gb216, 0, none⟩ = some (.int .u32 a0_0) := (blk_cell BK216.out 0).trans rfl; have hcz62_1 : w61.cell? ⟨gb216, 1, none⟩ = some (.slice A0_1 l0_1.length c0_1) := (blk_cell BK216.out 1).trans rfl; have hcz62_2 : w61.cell? ⟨gb216, 2, none⟩ = some (.string a0_2) := (blk_cell BK216.out 2).trans rfl; have hcz62_3 : w61.cell? ⟨gb216, 3, none⟩ = some (.slice A0_3 l0_3.length c0_3) := (blk_cell BK216.out 3).trans rfl; have hcz62_4 : w61.cell? ⟨gb216, 4, none⟩ = some (.slice A0_4 l0_4.length c0_4) := (blk_cell BK216.out 4).trans rfl; have hfz62_0 := blk_frozen BK216.out 0; have hfz62_1 := blk_frozen BK216.out 1; have hfz62_2 := blk_frozen BK216.out 2; have hfz62_3 := blk_frozen BK216.out 3; have hfz62_4 := blk_frozen BK216.out 4) | ((with_reducible refine gate_callee (f := 38) rfl ?_); refine goesL_ (some 27) rfl rfl Try.func38 (by kernel_rfl) rfl #[.agg #[.int .u32 a0_0, .slice A0_1 l0_1.length c0_1, .string a0_2, .slice A0_3 l0_3.length c0_3, .slice A0_4 l0_4.length c0_4]] rfl (by (try simp only [List.map_toArray, List.map_cons, List.map_nil]); first | done | rfl | (simp only [List.length_drop, List.length_take]; rfl)) ?_; (with_reducible refine (arboretref06_Index.calls kj2 a0_0 _ _ l0_1 a0_2 (fun k_ => k_ < w.heap.size) _ _ l0_3 (fun k_ => k_ < w.heap.size) _ _ l0_4 t224 t227 _ ?side1 ?side2 ?side3 ?side4 A16.out).mono ?_); (case side1 => repeat (first | exact (Kd.C_below HR0_1.out HB.out) | (with_reducible refine Kd.C_alloc ?_ _) | (with_reducible refine Kd.C_drewN ?_ _) | (with_reducible refine Kd.C_drew ?_))); (case side2 => exact HC0_1.out); (case side3 => exact Kd.V_mk HC0_3.out (Kd.F_below (Kd.C_F k104_heap HR0_3.out) (by repeat (first | (with_reducible first | exact HB.out | apply below_alloc | apply pw_below_drewN | apply below_drew1 | refine below_set ?_ GE216.out) | exact HB.out)))); (case side4 => exact Kd.V_mk HC0_4.out (Kd.F_below (Kd.C_F k39_heap HR0_4.out) (by repeat (first | (with_reducible first | exact HB.out | apply below_alloc | apply pw_below_drewN | apply below_drew1 | refine below_set ?_ GE216.out) | exact HB.out)))); rintro e w63 ⟨v225, rfl, ho0, hb⟩; refine ⟨_, rfl, ?_⟩; have n0_ := Aside0.mk (Kd.R_below (by (with_reducible repeat (first | apply Kd.R_alloc | apply Kd.R_drewN | apply Kd.R_drew)); exact HO222.out) hb); have n1_ := Aside0.mk (Kd.N_lower (Kd.N_mono (ok' := fun k_ => some k_ ≠ (v221 : Value).ownBlock ∧ k_ ≠ gb216) ho0 (fun k_ hk_ => ⟨Or.elim hk_ (fun hs_ => Or.elim hs_ (fun hs_ => fun e_ => Nat.not_le.2 hs_ (Kd.R_base HO222.out k_ e_.symm)) (fun hs_ => fun e_ => Nat.not_le.2 hs_ (Kd.R_base HO222.out k_ e_.symm))) (fun hn_ => (Kd.fresh' (Kd.R_lt (by (with_reducible repeat (first | apply Kd.R_alloc | apply Kd.R_drewN | apply Kd.R_drew)); exact HO222.out)) k_ hn_)), Or.elim hk_ (fun hs_ => Or.elim hs_ (fun hs_ => fun e_ => Nat.not_le.2 hs_ (by rw [e_]; exact GW216.out)) (fun hs_ => fun e_ => Nat.not_le.2 hs_ (by rw [e_]; exact GW216.out))) (fun hn_ => (Kd.freshB (g := gb216) (o := .cells #[.int .u32 a0_0, .slice A0_1 l0_1.length c0_1, .string a0_2, .slice A0_3 l0_3.length c0_3, .slice A0_4 l0_4.length c0_4] 43 (0, 0)) (by (with_reducible repeat (first | refine blk_drewN ?_ _ | refine blk_drew ?_ | refine blk_alloc ?_ _)); exact BK216.out) k_ hn_))⟩)) (below_size (by repeat (first | (with_reducible first | exact HB.out | apply below_alloc | apply pw_below_drewN | apply below_drew1 | refine below_set ?_ GE216.out) | exact HB.out)))); have n2_ := Aside0.mk (blk_below (g := gb216) (o := .cells #[.int .u32 a0_0, .slice A0_1 l0_1.length c0_1, .string a0_2, .slice A0_3 l0_3.length c0_3, .slice A0_4 l0_4.length c0_4] 43 (0, 0)) (by (with_reducible repeat (first | refine blk_drewN ?_ _ | refine blk_drew ?_ | refine blk_alloc ?_ _)); exact BK216.out) hb); have n3_ := Aside0.mk (below_step (by repeat (first | (with_reducible first | exact HB.out | apply below_alloc | apply pw_below_drewN | apply below_drew1 | refine below_set ?_ GE216.out) | exact HB.out)) hb); clear HO222; clear BK216; clear HB; have HO222 := n0_; have HO226 := n1_; have BK216 := n2_; have HB := n3_; clear n0_ n1_ n2_ n3_; (try clear hb); (try clear hb2); (try clear hk); (try clear hi); (try clear ho0); have hcz64_0 : w63.cell? ⟨gb216, 0, none⟩ = some (.int .u32 a0_0) := (blk_cell BK216.out 0).trans rfl; have hcz64_1 : w63.cell? ⟨gb216, 1, none⟩ = some (.slice A0_1 l0_1.length c0_1) := (blk_cell BK216.out 1).trans rfl; have hcz64_2 : w63.cell? ⟨gb216, 2, none⟩ = some (.string a0_2) := (blk_cell BK216.out 2).trans rfl; have hcz64_3 : w63.cell? ⟨gb216, 3, none⟩ = some (.slice A0_3 l0_3.length c0_3) := (blk_cell BK216.out 3).trans rfl; have hcz64_4 : w63.cell? ⟨gb216, 4, none⟩ = some (.slice A0_4 l0_4.length c0_4) := (blk_cell BK216.out 4).trans rfl; have hfz64_0 := blk_frozen BK216.out 0; have hfz64_1 := blk_frozen BK216.out 1; have hfz64_2 := blk_frozen BK216.out 2; have hfz64_3 := blk_frozen BK216.out 3; have hfz64_4 := blk_frozen BK216.out 4) | ((with_reducible refine gate_callee (f := 39) rfl ?_); refine goesL_ (some 33) rfl rfl Try.func39 (by kernel_rfl) rfl #[.agg #[.int .u32 a0_0, .slice A0_1 l0_1.length c0_1, .string a0_2, .slice A0_3 l0_3.length c0_3, .slice A0_4 l0_4.length c0_4], .int .u32 a1] rfl (by (try simp only [List.map_toArray, List.map_cons, List.map_nil]); first | done | rfl | (simp only [List.length_drop, List.length_take]; rfl)) ?_; (with_reducible refine (arboretref06_Handle.calls kj2 a0_0 _ _ l0_1 a0_2 (fun k_ => k_ < w.heap.size) _ _ l0_3 (fun k_ => k_ < w.heap.size) _ _ l0_4 a1 t228 t231 _ ?side1 ?side2 ?side3 ?side4 A17.out).mono ?_); (case side1 => repeat (first | exact (Kd.C_below HR0_1.out HB.out) | (with_reducible refine Kd.C_alloc ?_ _) | (with_reducible refine Kd.C_drewN ?_ _) | (with_reducible refine Kd.C_drew ?_))); (case side2 => exact HC0_1.out); (case side3 => exact Kd.V_mk HC0_3.out (Kd.F_below (Kd.C_F k104_heap HR0_3.out) (by repeat (first | (with_reducible first | exact HB.out | apply below_alloc | apply pw_below_drewN | apply below_drew1 | refine below_set ?_ GE216.out) | exact HB.out)))); (case side4 => exact Kd.V_mk HC0_4.out (Kd.F_below (Kd.C_F k39_heap HR0_4.out) (by repeat (first | (with_reducible first | exact HB.out | apply below_alloc | apply pw_below_drewN | apply below_drew1 | refine below_set ?_ GE216.out) | exact HB.out)))); rintro e w65 ⟨v229, rfl, ho0, hb⟩; refine ⟨_, rfl, ?_⟩; have n0_ := Aside0.mk (Kd.R_below (by (with_reducible repeat (first | apply Kd.R_alloc | apply Kd.R_drewN | apply Kd.R_drew)); exact HO222.out) hb); have n1_ := Aside0.mk (Kd.N_below (by (with_reducible repeat (first | apply Kd.N_alloc | apply Kd.N_drewN | apply Kd.N_drew)); exact HO226.out) hb); have n2_ := Aside0.mk (Kd.V_lower (Kd.V_mono (ok' := fun k_ => some k_ ≠ (v221 : Value).ownBlock ∧ some k_ ≠ (v225 : Value).ownBlock ∧ k_ ≠ gb216) ho0 (fun k_ hk_ => ⟨Or.elim hk_ (fun hs_ => Or.elim hs_ (fun hs_ => fun e_ => Nat.not_le.2 hs_ (Kd.R_base HO222.out k_ e_.symm)) (fun hs_ => fun e_ => Nat.not_le.2 hs_ (Kd.R_base HO222.out k_ e_.symm))) (fun hn_ => (Kd.fresh' (Kd.R_lt (by (with_reducible repeat (first | apply Kd.R_alloc | apply Kd.R_drewN | apply Kd.R_drew)); exact HO222.out)) k_ hn_)), Or.elim hk_ (fun hs_ => Or.elim hs_ (fun hs_ => fun e_ => Nat.not_le.2 hs_ (Kd.N_base HO226.out k_ e_.symm)) (fun hs_ => fun e_ => Nat.not_le.2 hs_ (Kd.N_base HO226.out k_ e_.symm))) (fun hn_ => (Kd.fresh' (Kd.N_lt (by (with_reducible repeat (first | apply Kd.N_alloc | apply Kd.N_drewN | apply Kd.N_drew)); exact HO226.out)) k_ hn_)), Or.elim hk_ (fun hs_ => Or.elim hs_ (fun hs_ => fun e_ => Nat.not_le.2 hs_ (by rw [e_]; exact GW216.out)) (fun hs_ => fun e_ => Nat.not_le.2 hs_ (by rw [e_]; exact GW216.out))) (fun hn_ => (Kd.freshB (g := gb216) (o := .cells #[.int .u32 a0_0, .slice A0_1 l0_1.length c0_1, .string a0_2, .slice A0_3 l0_3.length c0_3, .slice A0_4 l0_4.length c0_4] 43 (0, 0)) (by (with_reducible repeat (first | refine blk_drewN ?_ _ | refine blk_drew ?_ | refine blk_alloc ?_ _)); exact BK216.out) k_ hn_))⟩)) (below_size (by repeat (first | (with_reducible first | exact HB.out | apply below_alloc | apply pw_below_drewN | apply below_drew1 | refine below_set ?_ GE216.out) | exact HB.out)))); have n3_ := Aside0.mk (blk_below (g := gb216) (o := .cells #[.int .u32 a0_0, .slice A0_1 l0_1.length c0_1, .string a0_2, .slice A0_3 l0_3.length c0_3, .slice A0_4 l0_4.length c0_4] 43 (0, 0)) (by (with_reducible repeat (first | refine blk_drewN ?_ _ | refine blk_drew ?_ | refine blk_alloc ?_ _)); exact BK216.out) hb); have n4_ := Aside0.mk (below_step (by repeat (first | (with_reducible first | exact HB.out | apply below_alloc | apply pw_below_drewN | apply below_drew1 | refine below_set ?_ GE216.out) | exact HB.out)) hb); clear HO222; clear HO226; clear BK216; clear HB; have HO222 := n0_; have HO226 := n1_; have HO230 := n2_; have BK216 := n3_; have HB := n4_; clear n0_ n1_ n2_ n3_ n4_; (try clear hb); (try clear hb2); (try clear hk); (try clear hi); (try clear ho0)))
            go_ret
            exact ⟨by first | rfl | (simp [errW_none, errW_some] <;> rfl) | (simp [*, errW_none, errW_some] <;> rfl), by repeat (first | (with_reducible first | exact HB.out | apply below_alloc | apply pw_below_drewN | apply below_drew1 | refine below_set ?_ GE216.out) | exact HB.out)⟩
end Go.Proofs.Yteejaaeglfpcmaa.PH

set_option linter.unusedVariables false
namespace Go.Proofs.Yteejaaeglfpcmaa.Rdr
open Go.RowKit Go.Proofs.YteejaaeglfpcmaaW.PrintWords Go.ChangeShapes Go.WideShapes
def sumB {α : Type} (B : α → Nat) : List α → Nat
  | [] => 0
  | x :: r => B x + sumB B r
theorem sumB_le {α : Type} {H : Type} {B : α → Nat} : ∀ {xs : List α} {ds : List (DataW H)}, xs.length = ds.length → (∀ (i : Nat) (x : α) (d : DataW H), xs[i]? = some x → ds[i]? = some d → B x ≤ Rows.uptoBulk d) → sumB B xs ≤ Rows.uptoBulkAll ds
  | [], [], _, _ => Nat.le_refl _
  | x :: xs, d :: ds, hl, h => by
    have h0 := h 0 x d rfl rfl
    have h1 := sumB_le (xs := xs) (ds := ds) (by simpa using hl) (fun i a b ha hb => h (i + 1) a b (by simpa using ha) (by simpa using hb))
    simp only [sumB, Rows.uptoBulkAll]
    omega
  | [], _ :: _, hl, _ => by simp at hl
  | _ :: _, [], hl, _ => by simp at hl
theorem sumB_mem {α : Type} {B : α → Nat} {x : α} : ∀ {xs : List α}, x ∈ xs → B x ≤ sumB B xs
  | a :: r, h => by
    simp only [sumB]
    rcases List.mem_cons.1 h with rfl | h
    · omega
    · have := sumB_mem (B := B) h
      omega
theorem sumB_len {α : Type} {B : α → Nat} (h1 : ∀ x, 1 ≤ B x) : ∀ xs : List α, xs.length ≤ sumB B xs
  | [] => Nat.le_refl _
  | x :: r => by
    have := h1 x
    have := sumB_len h1 r
    simp only [sumB, List.length_cons]
    omega
theorem sumB_one {α : Type} (xs : List α) : sumB (fun _ => 1) xs = xs.length := by
  induction xs with
  | nil => rfl
  | cons x r ih => simp only [sumB, ih, List.length_cons]; omega
theorem list_of {α : Type} {n : Nat} {Q : Nat → α → Prop} (h : ∀ i, i < n → ∃ x, Q i x) : ∃ xs : List α, xs.length = n ∧ ∀ (i : Nat) (x : α), xs[i]? = some x → Q i x := by
  induction n with
  | zero => exact ⟨[], rfl, fun i x hx => by simp at hx⟩
  | succ n ih =>
    obtain ⟨xs, hl, hq⟩ := ih (fun i hi => h i (by omega))
    obtain ⟨y, hy⟩ := h n (by omega)
    refine ⟨xs ++ [y], by simp [hl], fun i x hx => ?_⟩
    rcases Nat.lt_trichotomy i xs.length with hi | hi | hi
    · rw [List.getElem?_append_left hi] at hx
      exact hq i x hx
    · subst hi
      rw [List.getElem?_append_right (Nat.le_refl _)] at hx
      simp at hx
      subst hx
      rw [hl]
      exact hy
    · rw [List.getElem?_append_right (by omega), List.getElem?_eq_none (by simp; omega)] at hx
      cases hx
def RdF (P : Program) (W : World) (n : Nat) {α : Type} (d : Kd α) (t : TypeId) (B : α → Nat) (G : α → Prop) : Prop :=
  ∀ (H : Type) (enc : TypeId × Value → H) (fuel : Nat), fuel ≤ n → ∀ (cs : List Value) (x : DataW H × List MemPlace),
    DataW.trod enc P W 0 (fun _ => true) true fuel t cs = some x → ∃ a, d.K W a cs ∧ B a ≤ Rows.uptoBulk x.1 ∧ G a
section
variable {P : Program} {W : World} {n : Nat}
def wfI (k : IntKind) (x : Int) : Prop := (Lit.int k x).wf = true
theorem rd_int {t : TypeId} {k : IntKind} (ht : P.underlying t = some (.int k)) : RdF P W n (Kd.int k) t (fun _ => 1) (wfI k) := by
  intro H enc fuel hf cs x h
  cases fuel with
  | zero => simp [DataW.trod] at h
  | succ m =>
    unfold DataW.trod at h
    rw [ht] at h
    split at h <;> simp_all
    rename_i k' y z
    obtain ⟨⟨rfl, hw⟩, rfl⟩ := h
    exact ⟨y, rfl, by simp [Rows.uptoBulk], hw⟩
theorem rd_string {t : TypeId} (ht : P.underlying t = some .string) : RdF P W n Kd.string t (fun s => s.size + 1) (fun _ => True) := by
  intro H enc fuel hf cs x h
  cases fuel with
  | zero => simp [DataW.trod] at h
  | succ m =>
    unfold DataW.trod at h
    rw [ht] at h
    split at h <;> simp_all
    obtain ⟨_, rfl⟩ := h
    refine ⟨_, rfl, ?_⟩
    simp [Rows.uptoBulk]
theorem rd_slice {t e : TypeId} {α : Type} {d : Kd α} {B : α → Nat} {G : α → Prop} (ht : P.underlying t = some (.slice e)) (hc : P.cellsOf e = d.sz) (h : RdF P W n d e B G) : RdF P W (n + 1) (Kd.slice e d) t (fun xs => sumB B xs + 1) (fun xs => ∀ x ∈ xs, G x) := by
  intro H enc fuel hf cs x hx
  rcases DataW.trod_slice ht hx with ⟨rfl, rfl⟩ | ⟨a, len, cap, elems, rest, m, rfl, rfl, rfl, hb, hl, hm, hlen, hel, _⟩
  · exact ⟨[], ⟨none, 0, rfl, Nat.le_refl _, rfl, by simp, fun h0 => absurd h0 (by simp)⟩, by simp [sumB, Rows.uptoBulk], fun x hx => by simp at hx⟩
  · have each : ∀ i, i < len → ∃ y : α, ∃ c : List Value, ∃ z, elems[i]? = some z ∧ W.cells? 0 (a.add (i * P.cellsOf e)) (P.cellsOf e) = some c ∧ d.K W y c ∧ B y ≤ Rows.uptoBulk z.1 ∧ G y := by
      intro i hi
      have h1 := hel i hi
      obtain ⟨z, hz⟩ : ∃ z, elems[i]? = some z := ⟨_, List.getElem?_eq_getElem (by omega)⟩
      rw [hz] at h1
      obtain ⟨c, hc1, hc2⟩ := Option.bind_eq_some_iff.1 h1
      obtain ⟨y, k1, k2, k3⟩ := h H enc m (by omega) c z hc2
      exact ⟨y, c, z, hz, hc1, k1, k2, k3⟩
    obtain ⟨ys, hyl, hy⟩ := list_of each
    refine ⟨ys, ⟨some a, cap, by rw [hyl], by omega, ?_⟩, ?_, ?_⟩
    · refine ⟨rfl, ?_, fun _ => ⟨a, rfl, fun j p hj => ?_⟩⟩
      · have : cap ≤ 9223372036854775807 := by simpa [maxLen] using hm
        omega
      · obtain ⟨c, z, _, hcs, hk, _, _⟩ := hy j p hj
        obtain ⟨_, hcl, hcc⟩ := World.cells?_some hcs
        refine ⟨c, by rw [hcl, hc], hk, fun i u hu => ?_⟩
        have hi : i < P.cellsOf e := by
          rw [← hcl]
          exact (List.getElem?_eq_some_iff.1 hu).1
        have h2 := hcc i hi
        rw [hu] at h2
        rw [← h2, hc]
        rw [Deep.add_add]
    · have : sumB B ys ≤ Rows.uptoBulkAll (elems.map (·.1)) := by
        refine sumB_le (by simp [hyl, hlen]) (fun i y dd hyi hdi => ?_)
        obtain ⟨c, z, hz, _, _, hB, _⟩ := hy i y hyi
        rw [List.getElem?_map, hz] at hdi
        simp at hdi
        rw [← hdi]
        exact hB
      simp only [Rows.uptoBulk]
      omega
    · intro y hyy
      obtain ⟨i, hi, he⟩ := List.getElem_of_mem hyy
      obtain ⟨_, _, _, _, _, _, hg⟩ := hy i y (by rw [List.getElem?_eq_getElem hi, he])
      exact hg
end
theorem len_2 {α : Type} {l : List α} (h : l.length = 2) : ∃ a0 a1, l = [a0, a1] := by
  match l, h with
  | [b0, b1], _ => exact ⟨b0, b1, rfl⟩
theorem len_3 {α : Type} {l : List α} (h : l.length = 3) : ∃ a0 a1 a2, l = [a0, a1, a2] := by
  match l, h with
  | [b0, b1, b2], _ => exact ⟨b0, b1, b2, rfl⟩
theorem len_5 {α : Type} {l : List α} (h : l.length = 5) : ∃ a0 a1 a2 a3 a4, l = [a0, a1, a2, a3, a4] := by
  match l, h with
  | [b0, b1, b2, b3, b4], _ => exact ⟨b0, b1, b2, b3, b4, rfl⟩
theorem bound {H : Type} {l : List (DataW H)} (hk : Rows.uptoSmall H l = true) : Rows.uptoBulkAll l ≤ 1048576 := of_decide_eq_true hk
end Go.Proofs.Yteejaaeglfpcmaa.Rdr

set_option linter.unusedVariables false
set_option linter.unusedSimpArgs false
namespace Go.Proofs.Yteejaaeglfpcmaa.PH
open Go.RowKit Go.Proofs.Yteejaaeglfpcmaa.Rdr Go.Proofs.YteejaaeglfpcmaaW.PrintWords Go.Proofs.YteejaaeglfpcmaaW.PrintLast Go.Proofs.YteejaaeglfpcmaaW.PrintMore
def bulk151 (x : S151) : Nat := (fun _ => 1) x.f0 + (fun _ => 1) x.f1 + 1
def good151 (x : S151) : Prop := (wfI .u64) x.f0 ∧ (wfI .u64) x.f1
theorem rd151 (W : World) (n : Nat) : RdF Try.prog W n k151 151 bulk151 good151 := by
  intro H enc fuel hfu cs x h
  cases n with
  | zero =>
    obtain rfl : fuel = 0 := by omega
    simp [DataW.trod] at h
  | succ n =>
  obtain ⟨xs, m, rfl, rfl, hl, hlen, hf⟩ := DataW.trod_struct Try.underlying151 h
  have hl' : cs.length = 2 := hl.trans (by kernel_rfl)
  clear hl
  obtain ⟨u0, u1, rfl⟩ := len_2 hl'
  have z24 : Try.prog.cellsOf 24 = 1 := by kernel_rfl
  obtain ⟨y0, hy0⟩ : ∃ y, xs[0]? = some y := ⟨_, List.getElem?_eq_getElem (by rw [hlen]; decide)⟩
  have h0 := hf 0 _ rfl
  rw [hy0] at h0
  simp only [z24, List.getElem_toArray, List.getElem_cons_zero, List.getElem_cons_succ, List.drop_zero, List.drop_succ_cons, List.take_succ_cons, List.take_zero] at h0
  have h0' : DataW.trod enc Try.prog W 0 (fun _ => true) true m 24 [u0] = some y0 := h0
  obtain ⟨y1, hy1⟩ : ∃ y, xs[1]? = some y := ⟨_, List.getElem?_eq_getElem (by rw [hlen]; decide)⟩
  have h1 := hf 1 _ rfl
  rw [hy1] at h1
  simp only [z24, List.getElem_toArray, List.getElem_cons_zero, List.getElem_cons_succ, List.drop_zero, List.drop_succ_cons, List.take_succ_cons, List.take_zero] at h1
  have h1' : DataW.trod enc Try.prog W 0 (fun _ => true) true m 24 [u1] = some y1 := h1
  obtain ⟨a0, k0, b0, g0⟩ := (rd_int (n := (n + 1)) Try.underlying24) H enc m (by omega) _ _ h0'
  obtain ⟨a1, k1, b1, g1⟩ := (rd_int (n := (n + 1)) Try.underlying24) H enc m (by omega) _ _ h1'
  have hall : xs = [y0, y1] := by
    obtain ⟨q0, q1, rfl⟩ := len_2 (l := xs) hlen
    simp only [List.getElem?_cons_zero, List.getElem?_cons_succ, Option.some.injEq] at hy0 hy1
    rw [hy0, hy1]
  subst hall
  refine ⟨⟨a0, a1⟩, ⟨[u0], [u1], rfl, k0, k1⟩, ?_, ?_⟩
  · (try dsimp only at b0); (try dsimp only at b1); simp only [bulk151, Rows.uptoBulk, Rows.uptoBulkAll, List.map_cons, List.map_nil]; omega
  · exact ⟨g0, g1⟩
def bulk104 (x : S104) : Nat := (fun s => s.size + 1) x.f0 + (fun xs => sumB (fun _ => 1) xs + 1) x.f1 + 1
def good104 (x : S104) : Prop := (fun _ => True) x.f0 ∧ (fun xs => ∀ x ∈ xs, (wfI .u8) x) x.f1
theorem rd104 (W : World) (n : Nat) : RdF Try.prog W n k104 104 bulk104 good104 := by
  intro H enc fuel hfu cs x h
  cases n with
  | zero =>
    obtain rfl : fuel = 0 := by omega
    simp [DataW.trod] at h
  | succ n =>
  obtain ⟨xs, m, rfl, rfl, hl, hlen, hf⟩ := DataW.trod_struct Try.underlying104 h
  have hl' : cs.length = 2 := hl.trans (by kernel_rfl)
  clear hl
  obtain ⟨u0, u1, rfl⟩ := len_2 hl'
  have z9 : Try.prog.cellsOf 9 = 1 := by kernel_rfl
  have z95 : Try.prog.cellsOf 95 = 1 := by kernel_rfl
  obtain ⟨y0, hy0⟩ : ∃ y, xs[0]? = some y := ⟨_, List.getElem?_eq_getElem (by rw [hlen]; decide)⟩
  have h0 := hf 0 _ rfl
  rw [hy0] at h0
  simp only [z9, List.getElem_toArray, List.getElem_cons_zero, List.getElem_cons_succ, List.drop_zero, List.drop_succ_cons, List.take_succ_cons, List.take_zero] at h0
  have h0' : DataW.trod enc Try.prog W 0 (fun _ => true) true m 9 [u0] = some y0 := h0
  obtain ⟨y1, hy1⟩ : ∃ y, xs[1]? = some y := ⟨_, List.getElem?_eq_getElem (by rw [hlen]; decide)⟩
  have h1 := hf 1 _ rfl
  rw [hy1] at h1
  simp only [z95, List.getElem_toArray, List.getElem_cons_zero, List.getElem_cons_succ, List.drop_zero, List.drop_succ_cons, List.take_succ_cons, List.take_zero] at h1
  have h1' : DataW.trod enc Try.prog W 0 (fun _ => true) true m 95 [u1] = some y1 := h1
  obtain ⟨a0, k0, b0, g0⟩ := (rd_string (n := (n + 1)) Try.underlying9) H enc m (by omega) _ _ h0'
  obtain ⟨a1, k1, b1, g1⟩ := (rd_slice (n := n) Try.underlying95 (by kernel_rfl) (rd_int (n := n) Try.underlying5)) H enc m (by omega) _ _ h1'
  have hall : xs = [y0, y1] := by
    obtain ⟨q0, q1, rfl⟩ := len_2 (l := xs) hlen
    simp only [List.getElem?_cons_zero, List.getElem?_cons_succ, Option.some.injEq] at hy0 hy1
    rw [hy0, hy1]
  subst hall
  refine ⟨⟨a0, a1⟩, ⟨[u0], [u1], rfl, k0, k1⟩, ?_, ?_⟩
  · (try dsimp only at b0); (try dsimp only at b1); simp only [bulk104, Rows.uptoBulk, Rows.uptoBulkAll, List.map_cons, List.map_nil]; omega
  · exact ⟨g0, g1⟩
mutual
def bulk39 : S39 → Nat
  | ⟨x0, x1, x2⟩ => (fun s => s.size + 1) x0 + (fun xs => sumB bulk104 xs + 1) x1 + (bulks39 x2 + 1) + 1
def bulks39 : List S39 → Nat
  | [] => 0
  | x :: r => bulk39 x + bulks39 r
end
theorem bulks39_eq (l : List S39) : bulks39 l = sumB bulk39 l := by
  induction l with
  | nil => rfl
  | cons x r ih => simp only [bulks39, sumB, ih]
mutual
def good39 : S39 → Prop
  | ⟨x0, x1, x2⟩ => (fun _ => True) x0 ∧ (fun xs => ∀ x ∈ xs, good104 x) x1 ∧ goods39 x2
def goods39 : List S39 → Prop
  | [] => True
  | x :: r => good39 x ∧ goods39 r
end
theorem goods39_iff (l : List S39) : goods39 l ↔ ∀ x ∈ l, good39 x := by
  induction l with
  | nil => simp [goods39]
  | cons x r ih => simp [goods39, ih]
theorem rd39 (W : World) (n : Nat) : RdF Try.prog W n k39 39 bulk39 good39 := by
  induction n with
  | zero =>
    intro H enc fuel hf cs x h
    obtain rfl : fuel = 0 := by omega
    simp [DataW.trod] at h
  | succ n ih =>
  intro H enc fuel hfu cs x h
  obtain ⟨xs, m, rfl, rfl, hl, hlen, hf⟩ := DataW.trod_struct Try.underlying39 h
  have hl' : cs.length = 3 := hl.trans (by kernel_rfl)
  clear hl
  obtain ⟨u0, u1, u2, rfl⟩ := len_3 hl'
  have z9 : Try.prog.cellsOf 9 = 1 := by kernel_rfl
  have z36 : Try.prog.cellsOf 36 = 1 := by kernel_rfl
  have z37 : Try.prog.cellsOf 37 = 1 := by kernel_rfl
  obtain ⟨y0, hy0⟩ : ∃ y, xs[0]? = some y := ⟨_, List.getElem?_eq_getElem (by rw [hlen]; decide)⟩
  have h0 := hf 0 _ rfl
  rw [hy0] at h0
  simp only [z9, List.getElem_toArray, List.getElem_cons_zero, List.getElem_cons_succ, List.drop_zero, List.drop_succ_cons, List.take_succ_cons, List.take_zero] at h0
  have h0' : DataW.trod enc Try.prog W 0 (fun _ => true) true m 9 [u0] = some y0 := h0
  obtain ⟨y1, hy1⟩ : ∃ y, xs[1]? = some y := ⟨_, List.getElem?_eq_getElem (by rw [hlen]; decide)⟩
  have h1 := hf 1 _ rfl
  rw [hy1] at h1
  simp only [z36, List.getElem_toArray, List.getElem_cons_zero, List.getElem_cons_succ, List.drop_zero, List.drop_succ_cons, List.take_succ_cons, List.take_zero] at h1
  have h1' : DataW.trod enc Try.prog W 0 (fun _ => true) true m 36 [u1] = some y1 := h1
  obtain ⟨y2, hy2⟩ : ∃ y, xs[2]? = some y := ⟨_, List.getElem?_eq_getElem (by rw [hlen]; decide)⟩
  have h2 := hf 2 _ rfl
  rw [hy2] at h2
  simp only [z37, List.getElem_toArray, List.getElem_cons_zero, List.getElem_cons_succ, List.drop_zero, List.drop_succ_cons, List.take_succ_cons, List.take_zero] at h2
  have h2' : DataW.trod enc Try.prog W 0 (fun _ => true) true m 37 [u2] = some y2 := h2
  obtain ⟨a0, k0, b0, g0⟩ := (rd_string (n := (n + 1)) Try.underlying9) H enc m (by omega) _ _ h0'
  obtain ⟨a1, k1, b1, g1⟩ := (rd_slice (n := n) Try.underlying36 (by kernel_rfl) (rd104 W n)) H enc m (by omega) _ _ h1'
  obtain ⟨a2, k2, b2, g2⟩ := (rd_slice (n := n) Try.underlying37 (by kernel_rfl) ih) H enc m (by omega) _ _ h2'
  have hall : xs = [y0, y1, y2] := by
    obtain ⟨q0, q1, q2, rfl⟩ := len_3 (l := xs) hlen
    simp only [List.getElem?_cons_zero, List.getElem?_cons_succ, Option.some.injEq] at hy0 hy1 hy2
    rw [hy0, hy1, hy2]
  subst hall
  cases k0
  obtain ⟨A1, c1, e1, l1, r1⟩ := k1
  cases e1
  obtain ⟨A2, c2, e2, l2, r2⟩ := k2
  cases e2
  refine ⟨⟨a0, a1, a2⟩, k39_mk W ⟨a0, a1, a2⟩ l1 r1 l2 r2, ?_, ?_⟩
  · (try dsimp only at b0); (try dsimp only at b1); (try dsimp only at b2); simp only [bulk39, bulks39_eq, Rows.uptoBulk, Rows.uptoBulkAll, List.map_cons, List.map_nil]; omega
  · exact ⟨g0, g1, (goods39_iff _).mpr g2⟩
def bulk43 (x : S43) : Nat := (fun _ => 1) x.f0 + (fun xs => sumB bulk151 xs + 1) x.f1 + bulk39 x.f2 + 1
def good43 (x : S43) : Prop := (wfI .u32) x.f0 ∧ (fun xs => ∀ x ∈ xs, good151 x) x.f1 ∧ good39 x.f2
theorem rd43 (W : World) (n : Nat) : RdF Try.prog W n k43 43 bulk43 good43 := by
  intro H enc fuel hfu cs x h
  cases n with
  | zero =>
    obtain rfl : fuel = 0 := by omega
    simp [DataW.trod] at h
  | succ n =>
  obtain ⟨xs, m, rfl, rfl, hl, hlen, hf⟩ := DataW.trod_struct Try.underlying43 h
  have hl' : cs.length = 5 := hl.trans (by kernel_rfl)
  clear hl
  obtain ⟨u0, u1, u2, u3, u4, rfl⟩ := len_5 hl'
  have z28 : Try.prog.cellsOf 28 = 1 := by kernel_rfl
  have z39 : Try.prog.cellsOf 39 = 3 := by kernel_rfl
  have z41 : Try.prog.cellsOf 41 = 1 := by kernel_rfl
  obtain ⟨y0, hy0⟩ : ∃ y, xs[0]? = some y := ⟨_, List.getElem?_eq_getElem (by rw [hlen]; decide)⟩
  have h0 := hf 0 _ rfl
  rw [hy0] at h0
  simp only [z28, List.getElem_toArray, List.getElem_cons_zero, List.getElem_cons_succ, List.drop_zero, List.drop_succ_cons, List.take_succ_cons, List.take_zero] at h0
  have h0' : DataW.trod enc Try.prog W 0 (fun _ => true) true m 28 [u0] = some y0 := h0
  obtain ⟨y1, hy1⟩ : ∃ y, xs[1]? = some y := ⟨_, List.getElem?_eq_getElem (by rw [hlen]; decide)⟩
  have h1 := hf 1 _ rfl
  rw [hy1] at h1
  simp only [z41, List.getElem_toArray, List.getElem_cons_zero, List.getElem_cons_succ, List.drop_zero, List.drop_succ_cons, List.take_succ_cons, List.take_zero] at h1
  have h1' : DataW.trod enc Try.prog W 0 (fun _ => true) true m 41 [u1] = some y1 := h1
  obtain ⟨y2, hy2⟩ : ∃ y, xs[2]? = some y := ⟨_, List.getElem?_eq_getElem (by rw [hlen]; decide)⟩
  have h2 := hf 2 _ rfl
  rw [hy2] at h2
  simp only [z39, List.getElem_toArray, List.getElem_cons_zero, List.getElem_cons_succ, List.drop_zero, List.drop_succ_cons, List.take_succ_cons, List.take_zero] at h2
  have h2' : DataW.trod enc Try.prog W 0 (fun _ => true) true m 39 [u2, u3, u4] = some y2 := h2
  obtain ⟨a0, k0, b0, g0⟩ := (rd_int (n := (n + 1)) Try.underlying28) H enc m (by omega) _ _ h0'
  obtain ⟨a1, k1, b1, g1⟩ := (rd_slice (n := n) Try.underlying41 (by kernel_rfl) (rd151 W n)) H enc m (by omega) _ _ h1'
  obtain ⟨a2, k2, b2, g2⟩ := (rd39 W (n + 1)) H enc m (by omega) _ _ h2'
  have hall : xs = [y0, y1, y2] := by
    obtain ⟨q0, q1, q2, rfl⟩ := len_3 (l := xs) hlen
    simp only [List.getElem?_cons_zero, List.getElem?_cons_succ, Option.some.injEq] at hy0 hy1 hy2
    rw [hy0, hy1, hy2]
  subst hall
  refine ⟨⟨a0, a1, a2⟩, ⟨[u0], [u1, u2, u3, u4], rfl, k0, ⟨[u1], [u2, u3, u4], rfl, k1, k2⟩⟩, ?_, ?_⟩
  · (try dsimp only at b0); (try dsimp only at b1); (try dsimp only at b2); simp only [bulk43, Rows.uptoBulk, Rows.uptoBulkAll, List.map_cons, List.map_nil]; omega
  · exact ⟨g0, g1, g2⟩
end Go.Proofs.Yteejaaeglfpcmaa.PH

namespace Go.Proofs.Yteejaaeglfpcmaa.PH
open Go.RowKit Go.Proofs.Yteejaaeglfpcmaa.Rdr Go.Proofs.YteejaaeglfpcmaaW.PrintWords Go.Proofs.YteejaaeglfpcmaaW.PrintLast Go.Proofs.YteejaaeglfpcmaaW.PrintMore
def arboretlaw08_HandleFinds.Pure : Prop := ∀ (x0 : S43) (x1 : Int), bulk43 x0 + (fun _ => 1) x1 ≤ 1048576 → good43 x0 → (wfI .u32) x1 → ∃ k, arboretlaw08_HandleFinds.f k x0.f0 x0.f1 x0.f2.f0 x0.f2.f1 x0.f2.f2 x1 = some true
end Go.Proofs.Yteejaaeglfpcmaa.PH

set_option linter.unusedVariables false
set_option linter.unusedSimpArgs false
namespace Go.Proofs.Yteejaaeglfpcmaa.Aid
open Go.RowKit Go.Proofs.YteejaaeglfpcmaaW.PrintWords
section
variable {α β : Type} {r : α}
theorem Ev.pos {c : Prop} [Decidable c] {A B : Nat → Option α} (h : c) (hA : Ev A r) : Ev (fun k => if c then A k else B k) r := by
  simp only [if_pos h]
  exact hA
theorem Ev.neg {c : Prop} [Decidable c] {A B : Nat → Option α} (h : ¬ c) (hB : Ev B r) : Ev (fun k => if c then A k else B k) r := by
  simp only [if_neg h]
  exact hB
theorem Ev.succ {g : Nat → Option α} (h : Ev (fun k => g (k + 1)) r) : Ev g r := Ev.step (fun _ => rfl) h
theorem Ev.some (r : α) : Ev (fun _ => some r) r := ⟨0, fun _ _ => rfl⟩
theorem Ev.fix {g : Option α} (h : g = Option.some r) : Ev (fun _ => g) r := ⟨0, fun _ _ => h⟩
theorem Ev.then {g : Nat → Option α} {f : Nat → α → Option β} {a : α} {b : β} (h : Ev g a) (k : Ev (fun n => f n a) b) : Ev (fun n => (g n).bind (f n)) b := Ev.bind h k
theorem Ev.out {g : Nat → Option α} (h : Ev g r) : ∃ k, g k = Option.some r := Ev.rounds h
end
theorem wu64 {x : Int} (h0 : 0 ≤ x) (h1 : x < 18446744073709551616) : IntKind.u64.wrap x = x := by
  simp only [IntKind.wrap, IntKind.bits, IntKind.signed]
  simp
  omega
theorem or_low (i : Nat) (hi : i ≤ 64) {x y : Int} (hx : 0 ≤ x) (hxm : x % 2 ^ i = 0) (hx1 : x < 18446744073709551616) (hy : 0 ≤ y) (hy1 : y < 2 ^ i) : Go.bits .or .u64 x y = x + y := by
  have h2 : (2 : Int) ^ i ≤ 18446744073709551616 := by
    have h : (2 : Nat) ^ i ≤ 2 ^ 64 := Nat.pow_le_pow_right (by decide) hi
    have h' : ((2 ^ i : Nat) : Int) ≤ ((2 ^ 64 : Nat) : Int) := Int.ofNat_le.mpr h
    simpa using h'
  exact Go.bits_join .u64 64 (by decide) (fun n h0 h1 => wu64 h0 (by simpa using h1)) i x y hx hxm (by simpa using hx1) hy hy1 (by simpa using Int.lt_of_lt_of_le hy1 h2)
theorem wf_u8 {x : Int} : (Lit.int .u8 x).wf = true ↔ 0 ≤ x ∧ x ≤ 255 := by simp [Lit.wf, IntKind.min, IntKind.max, IntKind.signed, IntKind.bits]
theorem getD_at {α : Type} {l : List α} {d : α} {i : Nat} (h : i < l.length) : l.getD i d = l[i] := by simp [List.getD_eq_getElem?_getD, List.getElem?_eq_getElem h]
theorem drop_at {α : Type} {l : List α} {d : α} {i : Nat} (h : i < l.length) : l.drop i = l.getD i d :: l.drop (i + 1) := by rw [getD_at h]; exact List.drop_eq_getElem_cons h
end Go.Proofs.Yteejaaeglfpcmaa.Aid

set_option linter.unusedVariables false
set_option linter.unusedSimpArgs false
namespace Go.Proofs.Yteejaaeglfpcmaa.PH
open Go.RowKit Go.Proofs.Yteejaaeglfpcmaa.Rdr Go.Proofs.Yteejaaeglfpcmaa.Aid Go.Proofs.YteejaaeglfpcmaaW.PrintWords
theorem rdN (xs : List S39) (i : Nat) : rd_T39 xs (i : Int) = xs.getD i z39 := by simp [rd_T39]
theorem rdP (xs : List S104) (i : Nat) : rd_T104 xs (i : Int) = xs.getD i z104 := by simp [rd_T104]
theorem getN {xs : List S39} {i : Nat} (h : i < xs.length) : xs.getD i z39 ∈ xs := by rw [getD_at h]; exact List.getElem_mem h
theorem getP {xs : List S104} {i : Nat} (h : i < xs.length) : xs.getD i z104 ∈ xs := by rw [getD_at h]; exact List.getElem_mem h
theorem bulk_pos (x : S39) : 1 ≤ bulk39 x := by
  cases x
  simp only [bulk39]
  omega
theorem bulk_eq (x : S39) : bulk39 x = x.f0.size + sumB bulk104 x.f1 + sumB bulk39 x.f2 + 4 := by
  cases x
  simp only [bulk39, bulks39_eq]
  omega
theorem bulk_kid {x k : S39} (h : k ∈ x.f2) : bulk39 k + 4 ≤ bulk39 x := by
  have := sumB_mem (B := bulk39) h
  rw [bulk_eq x]
  omega
theorem bulk_prop {x : S39} {p : S104} (h : p ∈ x.f1) : bulk104 p + 4 ≤ bulk39 x := by
  have := sumB_mem (B := bulk104) h
  rw [bulk_eq x]
  omega
theorem bulk_kids (x : S39) : x.f2.length + 4 ≤ bulk39 x := by
  have := sumB_len bulk_pos x.f2
  rw [bulk_eq x]
  omega
theorem bulk_props (x : S39) : x.f1.length + 4 ≤ bulk39 x := by
  have := sumB_len (B := bulk104) (fun p => by unfold bulk104; omega) x.f1
  rw [bulk_eq x]
  omega
theorem bulk_value (p : S104) : p.f0.size + p.f1.length + 3 ≤ bulk104 p := by
  unfold bulk104
  simp only [sumB_one]
  omega
theorem good_eq (x : S39) : good39 x ↔ (∀ p ∈ x.f1, good104 p) ∧ (∀ k ∈ x.f2, good39 k) := by
  cases x
  simp only [good39, goods39_iff]
  exact ⟨fun h => h.2, fun h => ⟨trivial, h⟩⟩
theorem good_value (p : S104) (h : good104 p) : ∀ b ∈ p.f1, 0 ≤ b ∧ b ≤ 255 := fun b hb => wf_u8.mp (h.2 b hb)
theorem step64 {i n : Nat} (h : i < n) (hn : n ≤ 1048576) : wrap64 ((i : Int) + 1) = ((i + 1 : Nat) : Int) := by unfold wrap64; omega
theorem size_ends (m : Nat) (hm : m ≤ 1048576) : ∀ x : S39, bulk39 x ≤ m → ∀ d : Int, ∃ v, Ev (fun k => arboretlaw03_size.f k x.f0 x.f1 x.f2 d) v := by
  induction m with
  | zero => intro x hx; have := bulk_pos x; omega
  | succ m ih =>
    intro x hx d
    have hk := bulk_kids x
    have hp := bulk_props x
    have kids : ∀ (j i : Nat) (acc : Int), i + j = x.f2.length → ∃ v, Ev (fun k => arboretlaw03_size.l1 k d acc (x.f2.length : Int) (i : Int) x.f0 x.f1 x.f2) v := by
      intro j
      induction j with
      | zero =>
        intro i acc hi
        refine ⟨acc, Ev.succ ?_⟩
        simp only [arboretlaw03_size.l1]
        exact Ev.neg (by omega) (Ev.some _)
      | succ j ihj =>
        intro i acc hi
        have hw := step64 (i := i) (n := x.f2.length) (by omega) (by omega)
        by_cases h1 : d > 20
        · refine ⟨1048576, Ev.succ ?_⟩
          simp only [arboretlaw03_size.l1]
          exact Ev.pos (by omega) (Ev.pos h1 (Ev.some _))
        by_cases h2 : acc > 100000
        · refine ⟨1048576, Ev.succ ?_⟩
          simp only [arboretlaw03_size.l1]
          exact Ev.pos (by omega) (Ev.neg h1 (Ev.pos h2 (Ev.some _)))
        have hmem := getN (xs := x.f2) (i := i) (by omega)
        obtain ⟨v, hv⟩ := ih (by omega) (x.f2.getD i z39) (by have := bulk_kid hmem; omega) (wrap64 (d + 1))
        obtain ⟨r, hr⟩ := ihj (i + 1) (wrap64 (acc + v)) (by omega)
        refine ⟨r, Ev.succ ?_⟩
        simp only [arboretlaw03_size.l1, rdN, hw]
        exact Ev.pos (by omega) (Ev.neg h1 (Ev.neg h2 (Ev.pos (by omega) (Ev.pos (by omega) (Ev.then hv hr)))))
    have props : ∀ (j i : Nat) (acc : Int), i + j = x.f1.length → ∃ v, Ev (fun k => arboretlaw03_size.l0 k d acc (x.f1.length : Int) (i : Int) x.f0 x.f1 x.f2) v := by
      intro j
      induction j with
      | zero =>
        intro i acc hi
        obtain ⟨v, hv⟩ := kids x.f2.length 0 acc (by omega)
        refine ⟨v, Ev.succ ?_⟩
        simp only [arboretlaw03_size.l0]
        exact Ev.neg (by omega) hv
      | succ j ihj =>
        intro i acc hi
        have hw := step64 (i := i) (n := x.f1.length) (by omega) (by omega)
        obtain ⟨v, hv⟩ := ihj (i + 1) (wrap64 ((wrap64 ((wrap64 (acc + 1)) + (((rd_T104 x.f1 i).f0).size : Int))) + (((rd_T104 x.f1 i).f1).length : Int))) (by omega)
        refine ⟨v, Ev.succ ?_⟩
        simp only [arboretlaw03_size.l0, hw]
        exact Ev.pos (by omega) (Ev.pos (by omega) (Ev.pos (by omega) hv))
    obtain ⟨v, hv⟩ := props x.f1.length 0 (wrap64 (1 + (x.f0.size : Int))) (by omega)
    refine ⟨v, Ev.succ ?_⟩
    simp only [arboretlaw03_size.f]
    exact hv
theorem few_ends (b : Int) (l : List S151) (x : S39) (hx : bulk39 x ≤ 1048576) : ∃ v, Ev (fun k => arboretlaw03_Few.f k b l x.f0 x.f1 x.f2) v := by
  obtain ⟨v, hv⟩ := size_ends 1048576 (by omega) x hx 0
  by_cases h : v ≤ 100000
  · refine ⟨decide ((l.length : Int) ≤ 200), ?_⟩
    unfold arboretlaw03_Few.f
    exact Ev.then hv (Ev.pos h (Ev.some _))
  · refine ⟨false, ?_⟩
    unfold arboretlaw03_Few.f
    exact Ev.then hv (Ev.neg h (Ev.some _))
end Go.Proofs.Yteejaaeglfpcmaa.PH

set_option linter.unusedVariables false
set_option linter.unusedSimpArgs false
namespace Go.Proofs.Yteejaaeglfpcmaa.PH
open Go.RowKit Go.Proofs.Yteejaaeglfpcmaa.Rdr Go.Proofs.Yteejaaeglfpcmaa.Aid Go.Proofs.YteejaaeglfpcmaaW.PrintWords
mutual
def placesN : S39 → List Int → List (List Int)
  | ⟨_, _, ks⟩, p => p :: placesL ks 0 p
def placesL : List S39 → Nat → List Int → List (List Int)
  | [], _, _ => []
  | x :: r, i, p => placesN x (p ++ [(i : Int)]) ++ placesL r (i + 1) p
end
theorem placesN_eq (x : S39) (p : List Int) : placesN x p = p :: placesL x.f2 0 p := by cases x; simp only [placesN]
theorem placesL_len (m : Nat) (ih : ∀ x : S39, bulk39 x ≤ m → ∀ p, (placesN x p).length ≤ bulk39 x) : ∀ (l : List S39) (i : Nat) (p : List Int), sumB bulk39 l ≤ m → (placesL l i p).length ≤ sumB bulk39 l
  | [], i, p, _ => by simp [placesL, sumB]
  | x :: r, i, p, h => by
    simp only [sumB] at h
    have h1 := ih x (by omega) (p ++ [(i : Int)])
    have h2 := placesL_len m ih r (i + 1) p (by omega)
    simp only [placesL, List.length_append, sumB]
    omega
theorem places_len (m : Nat) : ∀ (x : S39) (p : List Int), bulk39 x ≤ m → (placesN x p).length ≤ bulk39 x := by
  induction m with
  | zero => intro x p hx; have := bulk_pos x; omega
  | succ m ih =>
    intro x p hx
    rw [placesN_eq, List.length_cons]
    have hb := bulk_eq x
    have := placesL_len m (fun x hx p => ih x p hx) x.f2 0 p (by omega)
    omega
theorem placesL_each (m : Nat) (ih : ∀ x : S39, bulk39 x ≤ m → ∀ p, ∀ q ∈ placesN x p, q.length ≤ p.length + bulk39 x) : ∀ (l : List S39) (i : Nat) (p : List Int), sumB bulk39 l ≤ m → ∀ q ∈ placesL l i p, q.length ≤ p.length + 1 + sumB bulk39 l
  | [], i, p, _ => by simp [placesL]
  | x :: r, i, p, h => by
    simp only [sumB] at h
    intro q hq
    simp only [placesL, List.mem_append] at hq
    simp only [sumB]
    rcases hq with hq | hq
    · have := ih x (by omega) _ q hq
      simp at this
      omega
    · have := placesL_each m ih r (i + 1) p (by omega) q hq
      omega
theorem places_each (m : Nat) : ∀ (x : S39) (p : List Int), bulk39 x ≤ m → ∀ q ∈ placesN x p, q.length ≤ p.length + bulk39 x := by
  induction m with
  | zero => intro x p hx; have := bulk_pos x; omega
  | succ m ih =>
    intro x p hx q hq
    rw [placesN_eq, List.mem_cons] at hq
    have hb := bulk_eq x
    rcases hq with rfl | hq
    · omega
    · have := placesL_each m (fun x hx p => ih x p hx) x.f2 0 p (by omega) q hq
      omega
end Go.Proofs.Yteejaaeglfpcmaa.PH

set_option linter.unusedVariables false
set_option linter.unusedSimpArgs false
namespace Go.Proofs.Yteejaaeglfpcmaa.PH
open Go.RowKit Go.Proofs.Yteejaaeglfpcmaa.Aid Go.Proofs.YteejaaeglfpcmaaW.PrintWords
def numOn (v : Int) (l : List Int) : Int := l.foldl (fun v c => v * 256 + c) v
def num (l : List Int) : Int := numOn 0 l
def isBytes (l : List Int) : Prop := ∀ b ∈ l, 0 ≤ b ∧ b ≤ 255
theorem isBytes.drop {l : List Int} (h : isBytes l) (i : Nat) : isBytes (l.drop i) := fun b hb => h b (List.mem_of_mem_drop hb)
theorem isBytes.take {l : List Int} (h : isBytes l) (i : Nat) : isBytes (l.take i) := fun b hb => h b (List.mem_of_mem_take hb)
theorem isBytes.tail {a : Int} {l : List Int} (h : isBytes (a :: l)) : isBytes l := fun b hb => h b (List.mem_cons_of_mem _ hb)
theorem isBytes.head {a : Int} {l : List Int} (h : isBytes (a :: l)) : 0 ≤ a ∧ a ≤ 255 := h a List.mem_cons_self
theorem pow_step (j : Nat) : (256 : Int) ^ (j + 1) = 256 ^ j * 256 := by rw [Int.pow_succ]
theorem pow_le (j : Nat) (h : j ≤ 8) : (256 : Int) ^ j ≤ 18446744073709551616 := by
  have h1 : (256 : Nat) ^ j ≤ 256 ^ 8 := Nat.pow_le_pow_right (by decide) h
  have h2 : ((256 ^ j : Nat) : Int) ≤ ((256 ^ 8 : Nat) : Int) := Int.ofNat_le.mpr h1
  simpa using h2
theorem numOn_range : ∀ (l : List Int) (j : Nat) (v : Int), isBytes l → 0 ≤ v → v < 256 ^ j → 0 ≤ numOn v l ∧ numOn v l < 256 ^ (j + l.length)
  | [], j, v, _, h0, h1 => ⟨h0, h1⟩
  | a :: l, j, v, hb, h0, h1 => by
    obtain ⟨a0, a1⟩ := hb.head
    have h := numOn_range l (j + 1) (v * 256 + a) hb.tail (by omega) (by rw [pow_step]; omega)
    have e : j + 1 + l.length = j + (a :: l).length := by rw [List.length_cons]; omega
    rw [e] at h
    exact h
theorem num_range (l : List Int) (hb : isBytes l) : 0 ≤ num l ∧ num l < 256 ^ l.length := by
  have h := numOn_range l 0 0 hb (Int.le_refl 0) (by decide)
  simpa [num] using h
theorem numbOn (l : List Int) : ∀ (j : Nat) (v : Int), isBytes l → 0 ≤ v → v < 256 ^ j → j + l.length ≤ 8 → l.foldl (fun v c => Go.bits .or .u64 (IntKind.u64.wrap (v * 256)) (IntKind.u64.wrap c)) v = numOn v l := by
  induction l with
  | nil => intro j v _ _ _ _; rfl
  | cons a l ih =>
    intro j v hb h0 h1 hl
    obtain ⟨a0, a1⟩ := hb.head
    rw [List.length_cons] at hl
    have hp := pow_le (j + 1) (by omega)
    rw [pow_step] at hp
    have e1 : IntKind.u64.wrap (v * 256) = v * 256 := wu64 (by omega) (by omega)
    have e2 : IntKind.u64.wrap a = a := wu64 a0 (by omega)
    have e3 : Go.bits .or .u64 (v * 256) a = v * 256 + a := or_low 8 (by decide) (by omega) (by simp only [Int.reducePow]; omega) (by omega) a0 (by simp only [Int.reducePow]; omega)
    rw [List.foldl_cons, e1, e2, e3]
    exact ih (j + 1) (v * 256 + a) hb.tail (by omega) (by rw [pow_step]; omega) (by omega)
theorem numb_eq (l : List Int) (hb : isBytes l) (hl : l.length ≤ 8) : numb l = num l := numbOn l 0 0 hb (Int.le_refl 0) (by decide) (by omega)
theorem get_at (l : List Int) (i : Nat) (hb : isBytes l) (h : i + 4 ≤ l.length) : words_Get.f l (i : Int) = some (num ((l.drop i).take 4), true) := by
  unfold words_Get.f
  rw [if_pos ⟨Int.natCast_nonneg i, by omega⟩]
  have e : ((i : Int) + 4).toNat = i + 4 := by omega
  rw [e, Int.toNat_natCast, List.drop_take, show i + 4 - i = 4 by omega, numb_eq _ ((hb.drop i).take 4) (by rw [List.length_take]; omega)]
  have hr := num_range ((l.drop i).take 4) ((hb.drop i).take 4)
  have hl : ((l.drop i).take 4).length = 4 := by rw [List.length_take, List.length_drop]; omega
  rw [hl] at hr
  have : num ((l.drop i).take 4) % 4294967296 = num ((l.drop i).take 4) := Int.emod_eq_of_lt hr.1 (by simpa using hr.2)
  rw [this]
theorem get_no (l : List Int) (i : Nat) (h : l.length < i + 4) : words_Get.f l (i : Int) = some (0, false) := by
  unfold words_Get.f
  rw [if_neg (by omega)]
def cellsOf : List Int → List Int
  | a :: b :: c :: d :: r => num [a, b, c, d] :: cellsOf r
  | _ => []
theorem cells_step (l : List Int) (i : Nat) (h : i + 4 ≤ l.length) : cellsOf (l.drop i) = num ((l.drop i).take 4) :: cellsOf (l.drop (i + 4)) := by
  have h1 : ∃ a b c d r, l.drop i = a :: b :: c :: d :: r := by
    match hh : l.drop i, (by rw [List.length_drop]; omega : 4 ≤ (l.drop i).length) with
    | a :: b :: c :: d :: r, _ => exact ⟨a, b, c, d, r, rfl⟩
  obtain ⟨a, b, c, d, r, e⟩ := h1
  have h2 : l.drop (i + 4) = r := by rw [← List.drop_drop, e]; rfl
  rw [e, h2]
  rfl
theorem cells_length : ∀ (n : Nat) (l : List Int), l.length ≤ n → (cellsOf l).length = l.length / 4
  | 0, l, h => by
    obtain rfl : l = [] := List.eq_nil_of_length_eq_zero (by omega)
    rfl
  | n + 1, l, h => by
    match l, h with
    | [], _ => simp [cellsOf]
    | [_], _ => simp [cellsOf]
    | [_, _], _ => simp [cellsOf]
    | [_, _, _], _ => simp [cellsOf]
    | a :: b :: c :: d :: r, h =>
      have := cells_length n r (by simp only [List.length_cons] at h; omega)
      simp only [cellsOf, List.length_cons, this]
      omega
theorem cells_len (l : List Int) : (cellsOf l).length = l.length / 4 := cells_length l.length l (Nat.le_refl _)
end Go.Proofs.Yteejaaeglfpcmaa.PH

set_option linter.unusedVariables false
set_option linter.unusedSimpArgs false
namespace Go.Proofs.Yteejaaeglfpcmaa.PH
open Go.RowKit Go.Proofs.Yteejaaeglfpcmaa.Rdr Go.Proofs.Yteejaaeglfpcmaa.Aid Go.Proofs.YteejaaeglfpcmaaW.PrintWords
def ixP (s : List UInt8) : List S104 → Nat → Int
  | [], _ => -1
  | p :: r, i => if p.f0.toList = s then (i : Int) else ixP s r (i + 1)
def valP (s : List UInt8) : List S104 → Option (List Int)
  | [] => none
  | p :: r => if p.f0.toList = s then some p.f1 else valP s r
theorem valP_mem {s : List UInt8} {v : List Int} : ∀ {l : List S104}, valP s l = some v → ∃ p ∈ l, p.f1 = v
  | [], h => by simp [valP] at h
  | p :: r, h => by
    simp only [valP] at h
    by_cases c : p.f0.toList = s
    · rw [if_pos c] at h
      exact ⟨p, List.mem_cons_self, Option.some.inj h⟩
    · rw [if_neg c] at h
      obtain ⟨q, hq, e⟩ := valP_mem h
      exact ⟨q, List.mem_cons_of_mem _ hq, e⟩
theorem ixP_val (s : List UInt8) : ∀ (l : List S104) (i : Nat), (valP s l = none ∧ ixP s l i = -1) ∨ ∃ j : Nat, j < l.length ∧ ixP s l i = ((i + j : Nat) : Int) ∧ valP s l = some (l.getD j z104).f1
  | [], i => .inl ⟨rfl, rfl⟩
  | p :: r, i => by
    simp only [valP, ixP]
    by_cases c : p.f0.toList = s
    · rw [if_pos c, if_pos c]
      exact .inr ⟨0, by simp, by simp, by simp⟩
    · rw [if_neg c, if_neg c]
      rcases ixP_val s r (i + 1) with ⟨h1, h2⟩ | ⟨j, h1, h2, h3⟩
      · exact .inl ⟨h1, h2⟩
      · exact .inr ⟨j + 1, by simp; omega, by rw [h2]; congr 1; omega, by rw [h3]; simp⟩
theorem clone_bytes (v : List Int) (h : v.length ≤ 1048576) : bytes_Clone.f v = some v := by
  unfold bytes_Clone.f
  rw [if_pos (by omega)]
def findN (s : List UInt8) (l : List S104) : List Int × Bool := match valP s l with
  | some v => (v, true)
  | none => ([], false)
theorem find_ev (x : S39) (s : ByteArray) (hx : bulk39 x ≤ 1048576) : Ev (fun k => tree_Find.f k x.f0 x.f1 x.f2 s) (findN s.toList x.f1) := by
  have hp := bulk_props x
  have key : ∀ (j i : Nat), i + j = x.f1.length → Ev (fun k => tree_Find.l0 k s x.f1 (x.f1.length : Int) (i : Int)) (findN s.toList (x.f1.drop i)) := by
    intro j
    induction j with
    | zero =>
      intro i hi
      rw [List.drop_of_length_le (by omega)]
      refine Ev.succ ?_
      simp only [tree_Find.l0, findN, valP]
      exact Ev.neg (by omega) (Ev.some _)
    | succ j ih =>
      intro i hi
      have hw := step64 (i := i) (n := x.f1.length) (by omega) (by omega)
      have hm := getP (xs := x.f1) (i := i) (by omega)
      have hb := bulk_prop hm
      have hv := bulk_value (x.f1.getD i z104)
      have hc := clone_bytes (x.f1.getD i z104).f1 (by omega)
      rw [drop_at (l := x.f1) (d := z104) (i := i) (by omega)]
      refine Ev.succ ?_
      simp only [tree_Find.l0, rdP, hw, hc, Option.bind_some]
      refine Ev.pos (by omega) (Ev.pos (Int.natCast_nonneg i) (Ev.pos (by omega) ?_))
      by_cases c : (x.f1.getD i z104).f0.toList = s.toList
      · have e : findN s.toList (x.f1.getD i z104 :: x.f1.drop (i + 1)) = ((x.f1.getD i z104).f1, true) := by simp only [findN, valP, if_pos c]
        rw [e]
        exact Ev.pos c (Ev.some _)
      · have e : findN s.toList (x.f1.getD i z104 :: x.f1.drop (i + 1)) = findN s.toList (x.f1.drop (i + 1)) := by simp only [findN, valP, if_neg c]
        rw [e]
        exact Ev.neg c (ih (i + 1) (by omega))
  have := key x.f1.length 0 (by omega)
  unfold tree_Find.f
  simpa using this
theorem reffind_ev (x : S39) (s : ByteArray) (hx : bulk39 x ≤ 1048576) : Ev (fun k => arboretref01_Find.f k x.f0 x.f1 x.f2 s) (ixP s.toList x.f1 0) := by
  have hp := bulk_props x
  have key : ∀ (j i : Nat), i + j = x.f1.length → Ev (fun k => arboretref01_Find.l0 k s (x.f1.length : Int) (i : Int) x.f0 x.f1 x.f2) (ixP s.toList (x.f1.drop i) i) := by
    intro j
    induction j with
    | zero =>
      intro i hi
      rw [List.drop_of_length_le (by omega)]
      refine Ev.succ ?_
      simp only [arboretref01_Find.l0, ixP]
      exact Ev.neg (by omega) (Ev.some _)
    | succ j ih =>
      intro i hi
      have hw := step64 (i := i) (n := x.f1.length) (by omega) (by omega)
      rw [drop_at (l := x.f1) (d := z104) (i := i) (by omega)]
      refine Ev.succ ?_
      simp only [arboretref01_Find.l0, rdP, hw, ixP]
      refine Ev.pos (by omega) (Ev.pos (Int.natCast_nonneg i) (Ev.pos (by omega) ?_))
      by_cases c : (x.f1.getD i z104).f0.toList = s.toList
      · rw [if_pos c]
        exact Ev.pos c (Ev.some _)
      · rw [if_neg c]
        exact Ev.neg c (ih (i + 1) (by omega))
  have := key x.f1.length 0 (by omega)
  unfold arboretref01_Find.f
  simpa using this
theorem number_loop (l : List Int) (hb : isBytes l) (hl : l.length ≤ 1048576) (i n : Nat) (hi : i + n ≤ l.length) (hn : n ≤ 8) : ∀ (j q : Nat) (v : Int), q + j = n → 0 ≤ v → v < 256 ^ q →
    Ev (fun k => arboretref01_Number.l0 k l (i : Int) v (n : Int) (q : Int)) (numOn v ((l.drop (i + q)).take j), true) := by
  intro j
  induction j with
  | zero =>
    intro q v hq h0 h1
    refine Ev.succ ?_
    simp only [arboretref01_Number.l0]
    exact Ev.neg (by omega) (Ev.some _)
  | succ j ih =>
    intro q v hq h0 h1
    have hw : wrap64 ((q : Int) + 1) = ((q + 1 : Nat) : Int) := by unfold wrap64; omega
    have hw2 : wrap64 ((i : Int) + (q : Int)) = ((i + q : Nat) : Int) := by unfold wrap64; omega
    have hrd : rd l ((i + q : Nat) : Int) = l[i + q]'(by omega) := by
      unfold rd
      rw [Int.toNat_natCast, getD_at (by omega)]
    obtain ⟨a0, a1⟩ := hb _ (List.getElem_mem (l := l) (n := i + q) (by omega))
    have hp := pow_le (q + 1) (by omega)
    rw [pow_step] at hp
    generalize hx : l[i + q]'(by omega) = x at *
    have e1 : IntKind.u64.wrap (v * 256) = v * 256 := wu64 (by omega) (by omega)
    have e2 : IntKind.u64.wrap x = x := wu64 a0 (by omega)
    have e3 : IntKind.u64.wrap (v * 256 + x) = v * 256 + x := wu64 (by omega) (by omega)
    have hd : l.drop (i + q) = x :: l.drop (i + (q + 1)) := by rw [List.drop_eq_getElem_cons (by omega), hx]; rfl
    have h2 := ih (q + 1) (v * 256 + x) (by omega) (by omega) (by rw [pow_step]; omega)
    rw [hd]
    refine Ev.succ ?_
    simp only [arboretref01_Number.l0, hw, hw2, hrd, e1, e2, e3]
    exact Ev.pos (by omega) (Ev.pos (Int.natCast_nonneg _) (Ev.pos (by omega) h2))
theorem number_ev (l : List Int) (hb : isBytes l) (hl : l.length ≤ 1048576) (i n : Nat) (hi : i + n ≤ l.length) (hn : n ≤ 8) :
    Ev (fun k => arboretref01_Number.f k l (i : Int) (n : Int)) (num ((l.drop i).take n), true) := by
  have h := number_loop l hb hl i n hi hn n 0 0 (by omega) (Int.le_refl 0) (by decide)
  unfold arboretref01_Number.f
  have hw : wrap64 ((l.length : Int) - (i : Int)) = (l.length : Int) - (i : Int) := by unfold wrap64; omega
  refine Ev.neg (by omega) (Ev.neg (by omega) (Ev.succ ?_))
  have hd : decide (wrap64 ((l.length : Int) - (i : Int)) < (n : Int)) = false := by rw [hw]; exact decide_eq_false (by omega)
  simp only [arboretref01_Number.j0, hd]
  exact Ev.neg (by decide) h
theorem refcells_loop (l : List Int) (hb : isBytes l) (hl : l.length ≤ 1048576) (h4 : l.length % 4 = 0) : ∀ (j i : Nat) (acc : List Int), i + 4 * j = l.length → acc.length + j ≤ 1048576 →
    Ev (fun k => arboretref06_Cells.l0 k l acc (i : Int)) (acc ++ cellsOf (l.drop i), 0) := by
  intro j
  induction j with
  | zero =>
    intro i acc hi ha
    rw [List.drop_of_length_le (by omega)]
    simp only [cellsOf, List.append_nil]
    refine Ev.succ ?_
    simp only [arboretref06_Cells.l0]
    exact Ev.neg (by omega) (Ev.some _)
  | succ j ih =>
    intro i acc hi ha
    have hw : wrap64 ((i : Int) + 4) = ((i + 4 : Nat) : Int) := by unfold wrap64; omega
    have hn := number_ev l hb hl i 4 (by omega) (by decide)
    have hr := num_range ((l.drop i).take 4) ((hb.drop i).take 4)
    have hlen : ((l.drop i).take 4).length = 4 := by rw [List.length_take, List.length_drop]; omega
    rw [hlen] at hr
    have hm : num ((l.drop i).take 4) % 4294967296 = num ((l.drop i).take 4) := Int.emod_eq_of_lt hr.1 (by simpa using hr.2)
    have h2 := ih (i + 4) (acc ++ [num ((l.drop i).take 4)]) (by omega) (by rw [List.length_append, List.length_singleton]; omega)
    rw [cells_step l i (by omega)]
    rw [List.append_assoc, List.singleton_append] at h2
    refine Ev.succ ?_
    simp only [arboretref06_Cells.l0, hw]
    refine Ev.pos (by omega) (Ev.then hn (Ev.pos (by omega) ?_))
    simp only [hm]
    exact h2
theorem refcells_ev (l : List Int) (hb : isBytes l) (hl : l.length ≤ 1048576) : Ev (fun k => arboretref06_Cells.f k l) (if l.length % 4 = 0 then (cellsOf l, 0) else ([], 4)) := by
  unfold arboretref06_Cells.f
  by_cases h : l.length % 4 = 0
  · rw [if_pos h]
    have := refcells_loop l hb hl h (l.length / 4) 0 [] (by omega) (by simp only [List.length_nil]; omega)
    exact Ev.pos (by omega) (by simpa using this)
  · rw [if_neg h]
    exact Ev.neg (by omega) (Ev.some _)
def oneOf (s : List UInt8) (l : List S104) : Int × Bool × Int := match valP s l with
  | none => (0, false, 0)
  | some v => if v.length = 4 then (num v, true, 0) else (0, false, 4)
theorem one_ev (x : S39) (s : ByteArray) (hx : bulk39 x ≤ 1048576) (hg : good39 x) : Ev (fun k => prop_One.f k x.f0 x.f1 x.f2 s) (oneOf s.toList x.f1) := by
  unfold prop_One.f
  refine Ev.then (find_ev x s hx) ?_
  unfold findN oneOf
  cases hv : valP s.toList x.f1 with
  | none => exact Ev.neg (by decide) (Ev.some _)
  | some v =>
    obtain ⟨p, hp, rfl⟩ := valP_mem hv
    have hby : isBytes p.f1 := good_value p (((good_eq x).mp hg).1 p hp)
    refine Ev.pos rfl ?_
    by_cases h4 : 4 ≤ p.f1.length
    · have hget := get_at p.f1 0 hby (by omega)
      simp only [Int.natCast_zero, List.drop_zero] at hget
      simp only [hget, Option.bind_some]
      refine Ev.pos trivial ?_
      by_cases h : p.f1.length = 4
      · rw [if_pos h, List.take_of_length_le (by omega)]
        exact Ev.pos (by omega) (Ev.some _)
      · rw [if_neg h]
        exact Ev.neg (by omega) (Ev.some _)
    · have hget := get_no p.f1 0 (by omega)
      simp only [Int.natCast_zero] at hget
      have h5 : ¬ p.f1.length = 4 := by omega
      simp only [hget, Option.bind_some]
      rw [if_neg h5]
      exact Ev.neg (by decide) (Ev.some _)
theorem refone_ev (x : S39) (s : ByteArray) (hx : bulk39 x ≤ 1048576) (hg : good39 x) : Ev (fun k => arboretref06_One.f k x.f0 x.f1 x.f2 s) (oneOf s.toList x.f1) := by
  unfold arboretref06_One.f
  refine Ev.then (reffind_ev x s hx) ?_
  unfold oneOf
  rcases ixP_val s.toList x.f1 0 with ⟨h1, h2⟩ | ⟨j, hj, h2, h3⟩
  · rw [h1, h2]
    exact Ev.pos (by decide) (Ev.some _)
  · rw [h2, h3, Nat.zero_add]
    have hp := getP (xs := x.f1) (i := j) hj
    have hby : isBytes (x.f1.getD j z104).f1 := good_value _ (((good_eq x).mp hg).1 _ hp)
    have hb := bulk_prop hp
    have hv := bulk_value (x.f1.getD j z104)
    simp only [rdP]
    refine Ev.neg (by omega) (Ev.pos (Int.natCast_nonneg j) (Ev.pos (by omega) (Ev.then (refcells_ev _ hby (by omega)) ?_)))
    generalize hvv : (x.f1.getD j z104).f1 = v at *
    by_cases h : v.length % 4 = 0
    · rw [if_pos h]
      have hcl := cells_len v
      refine Ev.pos rfl ?_
      by_cases h4 : v.length = 4
      · rw [if_pos h4]
        match v, h4 with
        | [a, b, c, d], _ => exact Ev.pos (by rfl) (Ev.pos (by simp [cellsOf]) (Ev.some _))
      · rw [if_neg h4]
        exact Ev.neg (by simp only [hcl]; omega) (Ev.some _)
    · have h5 : ¬ v.length = 4 := by omega
      rw [if_neg h, if_neg h5]
      exact Ev.neg (by decide) (Ev.some _)
end Go.Proofs.Yteejaaeglfpcmaa.PH

set_option linter.unusedVariables false
set_option linter.unusedSimpArgs false
namespace Go.Proofs.Yteejaaeglfpcmaa.PH
open Go.RowKit Go.Proofs.Yteejaaeglfpcmaa.Rdr Go.Proofs.Yteejaaeglfpcmaa.Aid Go.Proofs.YteejaaeglfpcmaaW.PrintWords
def getS : S39 → List Int → Option S39
  | x, [] => some x
  | x, i :: r => if 0 ≤ i ∧ i < x.f2.length then getS (x.f2.getD i.toNat z39) r else none
theorem kid_mem {x : S39} {i : Int} (h : 0 ≤ i ∧ i < x.f2.length) : x.f2.getD i.toNat z39 ∈ x.f2 := getN (by omega)
theorem getS_bulk : ∀ (l : List Int) (x n : S39), getS x l = some n → bulk39 n ≤ bulk39 x
  | [], x, n, h => by
    simp only [getS, Option.some.injEq] at h
    rw [h]
    exact Nat.le_refl _
  | i :: r, x, n, h => by
    simp only [getS] at h
    by_cases c : 0 ≤ i ∧ i < x.f2.length
    · rw [if_pos c] at h
      have := getS_bulk r _ n h
      have := bulk_kid (kid_mem c)
      omega
    · rw [if_neg c] at h
      cases h
theorem getS_good : ∀ (l : List Int) (x n : S39), getS x l = some n → good39 x → good39 n
  | [], x, n, h, g => by
    simp only [getS, Option.some.injEq] at h
    rw [← h]
    exact g
  | i :: r, x, n, h, g => by
    simp only [getS] at h
    by_cases c : 0 ≤ i ∧ i < x.f2.length
    · rw [if_pos c] at h
      exact getS_good r _ n h (((good_eq x).mp g).2 _ (kid_mem c))
    · rw [if_neg c] at h
      cases h
def rgetR : Option S39 → ByteArray × List S104 × List S39 × Bool
  | some n => (n.f0, n.f1, n.f2, true)
  | none => (⟨#[]⟩, [], [], false)
theorem rget_ev (b : Int) (res : List S151) (x : S39) (l : List Int) (hl : l.length ≤ 1048576) :
    Ev (fun k => arboretref06_Get.f k b res x.f0 x.f1 x.f2 l) (rgetR (getS x l)) := by
  have key : ∀ (j i : Nat) (y : S39), i + j = l.length → Ev (fun k => arboretref06_Get.l0 k l (l.length : Int) (i : Int) y.f0 y.f1 y.f2) (rgetR (getS y (l.drop i))) := by
    intro j
    induction j with
    | zero =>
      intro i y hi
      rw [List.drop_of_length_le (by omega)]
      refine Ev.succ ?_
      simp only [arboretref06_Get.l0, getS, rgetR]
      exact Ev.neg (by omega) (Ev.some _)
    | succ j ih =>
      intro i y hi
      have hw := step64 (i := i) (n := l.length) (by omega) (by omega)
      have hd := drop_at (l := l) (d := 0) (i := i) (by omega)
      have hr : rd l (i : Int) = l.getD i 0 := by unfold rd; rw [Int.toNat_natCast]
      rw [hd]
      refine Ev.succ ?_
      simp only [arboretref06_Get.l0, hr, hw, getS]
      refine Ev.pos (by omega) (Ev.pos (Int.natCast_nonneg i) (Ev.pos (by omega) ?_))
      generalize l.getD i 0 = q
      by_cases h0 : q < 0
      · rw [if_neg (by omega)]
        exact Ev.pos h0 (Ev.some _)
      by_cases h1 : q ≥ (y.f2.length : Int)
      · rw [if_neg (by omega)]
        exact Ev.neg h0 (Ev.pos h1 (Ev.some _))
      have c : 0 ≤ q ∧ q < (y.f2.length : Int) := ⟨by omega, by omega⟩
      rw [if_pos c]
      exact Ev.neg h0 (Ev.neg h1 (Ev.pos c.1 (Ev.pos c.2 (ih (i + 1) (y.f2.getD q.toNat z39) (by omega)))))
  unfold arboretref06_Get.f
  have := key l.length 0 x (by omega)
  simpa using this
end Go.Proofs.Yteejaaeglfpcmaa.PH

set_option linter.unusedVariables false
set_option linter.unusedSimpArgs false
namespace Go.Proofs.Yteejaaeglfpcmaa.PH
open Go.RowKit Go.Proofs.Yteejaaeglfpcmaa.Rdr Go.Proofs.Yteejaaeglfpcmaa.Aid Go.Proofs.YteejaaeglfpcmaaW.PrintWords Go.Proofs.YteejaaeglfpcmaaW.PrintMore
mutual
def nodesN : S39 → List Int → List (S39 × List Int)
  | ⟨a, b, ks⟩, p => (⟨a, b, ks⟩, p) :: nodesL ks 0 p
def nodesL : List S39 → Nat → List Int → List (S39 × List Int)
  | [], _, _ => []
  | x :: r, i, p => nodesN x (p ++ [(i : Int)]) ++ nodesL r (i + 1) p
end
theorem nodesN_eq (x : S39) (p : List Int) : nodesN x p = (x, p) :: nodesL x.f2 0 p := by cases x; simp only [nodesN]
theorem nodesL_places (m : Nat) (ih : ∀ x : S39, bulk39 x ≤ m → ∀ p, (nodesN x p).map (·.2) = placesN x p) : ∀ (l : List S39) (i : Nat) (p : List Int), sumB bulk39 l ≤ m → (nodesL l i p).map (·.2) = placesL l i p
  | [], i, p, _ => by simp [nodesL, placesL]
  | x :: r, i, p, h => by
    simp only [sumB] at h
    simp only [nodesL, placesL, List.map_append]
    rw [ih x (by omega), nodesL_places m ih r (i + 1) p (by omega)]
theorem nodes_places (m : Nat) : ∀ (x : S39) (p : List Int), bulk39 x ≤ m → (nodesN x p).map (·.2) = placesN x p := by
  induction m with
  | zero => intro x p hx; have := bulk_pos x; omega
  | succ m ih =>
    intro x p hx
    have hb := bulk_eq x
    rw [nodesN_eq, placesN_eq, List.map_cons, nodesL_places m (fun x hx p => ih x p hx) x.f2 0 p (by omega)]
theorem nodes_len (x : S39) (p : List Int) : (nodesN x p).length ≤ bulk39 x := by
  have h := nodes_places (bulk39 x) x p (Nat.le_refl _)
  have h2 := places_len (bulk39 x) x p (Nat.le_refl _)
  rw [← h, List.length_map] at h2
  exact h2
theorem nodesL_get (m : Nat) (ih : ∀ x : S39, bulk39 x ≤ m → ∀ p n q, (n, q) ∈ nodesN x p → ∃ s, q = p ++ s ∧ getS x s = some n) : ∀ (l : List S39) (i : Nat) (p : List Int) (n : S39) (q : List Int), sumB bulk39 l ≤ m → (n, q) ∈ nodesL l i p →
    ∃ (j : Nat) (s : List Int), j < l.length ∧ q = p ++ (((i + j : Nat) : Int) :: s) ∧ getS (l.getD j z39) s = some n
  | [], i, p, n, q, _, h => by simp [nodesL] at h
  | x :: r, i, p, n, q, hs, h => by
    simp only [sumB] at hs
    simp only [nodesL, List.mem_append] at h
    rcases h with h | h
    · obtain ⟨s, h1, h2⟩ := ih x (by omega) _ n q h
      exact ⟨0, s, by simp, by rw [h1, List.append_assoc]; rfl, by simpa using h2⟩
    · obtain ⟨j, s, h1, h2, h3⟩ := nodesL_get m ih r (i + 1) p n q (by omega) h
      exact ⟨j + 1, s, by simp; omega, by rw [h2]; congr 3; omega, by simpa using h3⟩
theorem nodes_get (m : Nat) : ∀ (x : S39), bulk39 x ≤ m → ∀ (p : List Int) (n : S39) (q : List Int), (n, q) ∈ nodesN x p → ∃ s, q = p ++ s ∧ getS x s = some n := by
  induction m with
  | zero => intro x hx; have := bulk_pos x; omega
  | succ m ih =>
    intro x hx p n q h
    have hb := bulk_eq x
    rw [nodesN_eq, List.mem_cons] at h
    rcases h with h | h
    · cases h
      exact ⟨[], by simp, by simp [getS]⟩
    · obtain ⟨j, s, h1, h2, h3⟩ := nodesL_get m (fun x hx => ih x hx) x.f2 0 p n q (by omega) h
      refine ⟨((0 + j : Nat) : Int) :: s, h2, ?_⟩
      simp only [getS]
      rw [if_pos ⟨by omega, by omega⟩, Nat.zero_add, Int.toNat_natCast]
      exact h3
def ph : List UInt8 := (⟨#[112, 104, 97, 110, 100, 108, 101]⟩ : ByteArray).toList
def gather : List (S39 × List Int) → List (Int × List Int) → List (Int × List Int) × Int
  | [], acc => (acc, 0)
  | q :: r, acc => if (oneOf ph q.1.f1).2.2 = 0 then (if (oneOf ph q.1.f1).2.1 = true then (if (oneOf ph q.1.f1).1 = 0 ∨ (oneOf ph q.1.f1).1 = 4294967295 then ([], 11) else if (oneOf ph q.1.f1).1 ∈ acc.map (·.1) then ([], 9) else gather r (acc ++ [((oneOf ph q.1.f1).1, q.2)])) else gather r acc) else ([], (oneOf ph q.1.f1).2.2)
theorem gather_append : ∀ (a b : List (S39 × List Int)) (acc : List (Int × List Int)), gather (a ++ b) acc = if (gather a acc).2 = 0 then gather b (gather a acc).1 else ([], (gather a acc).2)
  | [], b, acc => by simp [gather]
  | q :: r, b, acc => by
    simp only [List.cons_append, gather]
    by_cases h1 : (oneOf ph q.1.f1).2.2 = 0
    · simp only [if_pos h1]
      by_cases h2 : (oneOf ph q.1.f1).2.1 = true
      · simp only [if_pos h2]
        by_cases h3 : (oneOf ph q.1.f1).1 = 0 ∨ (oneOf ph q.1.f1).1 = 4294967295
        · simp only [if_pos h3]
          rw [if_neg (by decide)]
        · simp only [if_neg h3]
          by_cases h4 : (oneOf ph q.1.f1).1 ∈ acc.map (·.1)
          · simp only [if_pos h4]
            rw [if_neg (by decide)]
          · simp only [if_neg h4]
            exact gather_append r b _
      · simp only [if_neg h2]
        exact gather_append r b _
    · simp only [if_neg h1]
theorem gather_len : ∀ (a : List (S39 × List Int)) (acc : List (Int × List Int)), (gather a acc).1.length ≤ acc.length + a.length
  | [], acc => by simp [gather]
  | q :: r, acc => by
    simp only [gather]
    split
    · split
      · split
        · simp
        · split
          · simp
          · have := gather_len r (acc ++ [((oneOf ph q.1.f1).1, q.2)])
            simp only [List.length_append, List.length_cons, List.length_nil] at this ⊢
            omega
      · have := gather_len r acc
        simp only [List.length_cons]
        omega
    · simp
theorem gather_places : ∀ (a : List (S39 × List Int)) (acc : List (Int × List Int)) (p : Int × List Int), p ∈ (gather a acc).1 → p ∈ acc ∨ p.2 ∈ a.map (·.2)
  | [], acc, p, h => .inl (by simpa [gather] using h)
  | q :: r, acc, p, h => by
    simp only [gather] at h
    split at h
    · split at h
      · split at h
        · simp at h
        · split at h
          · simp at h
          · rcases gather_places r _ p h with h | h
            · rw [List.mem_append, List.mem_singleton] at h
              rcases h with h | h
              · exact .inl h
              · exact .inr (by rw [h]; simp)
            · exact .inr (by simp only [List.map_cons, List.mem_cons]; exact .inr h)
      · rcases gather_places r _ p h with h | h
        · exact .inl h
        · exact .inr (by simp only [List.map_cons, List.mem_cons]; exact .inr h)
    · simp at h
theorem oneOf_range (s : List UInt8) (x : S39) (hx : bulk39 x ≤ 1048576) (hg : good39 x) (h : (oneOf s x.f1).2.1 = true) : 0 ≤ (oneOf s x.f1).1 ∧ (oneOf s x.f1).1 ≤ 4294967295 := by
  unfold oneOf at h ⊢
  cases hv : valP s x.f1 with
  | none => simp [hv] at h
  | some v =>
    obtain ⟨p, hp, rfl⟩ := valP_mem hv
    have hby : isBytes p.f1 := good_value p (((good_eq x).mp hg).1 p hp)
    have hr := num_range p.f1 hby
    simp only [hv] at h ⊢
    by_cases h4 : p.f1.length = 4
    · rw [if_pos h4]
      rw [h4] at hr
      have : (256 : Int) ^ 4 = 4294967296 := by decide
      simp only
      omega
    · rw [if_neg h4] at h
      simp at h
def toC (p : Int × List Int) : S79 := ⟨p.1, p.2⟩
def resC (g : List (Int × List Int) × Int) : List S79 × Int := (g.1.map toC, g.2)
theorem toC_fst (acc : List (Int × List Int)) : (acc.map toC).map (·.f0) = acc.map (·.1) := by simp [toC]
theorem clone_ints (p : List Int) (h : p.length ≤ 4194304) : slices_Clone_int_int.f p = some p := by
  unfold slices_Clone_int_int.f
  rw [if_pos (by omega)]
theorem of_ev (m : Nat) (hm : m ≤ 1048576) : ∀ (x : S39) (p : List Int) (acc : List (Int × List Int)), bulk39 x ≤ m → good39 x → p.length + bulk39 x ≤ 2097152 → acc.length + bulk39 x ≤ 2097152 →
    Ev (fun k => handle_of.f k x.f0 x.f1 x.f2 p (acc.map toC)) (resC (gather (nodesN x p) acc)) := by
  induction m with
  | zero => intro x p acc hx; have := bulk_pos x; omega
  | succ m ih =>
    intro x p acc hx hg hp ha
    have hk := bulk_kids x
    have hbe := bulk_eq x
    have hcl := clone_ints p (by omega)
    have kids : ∀ (j i : Nat) (acc : List (Int × List Int)), i + j = x.f2.length → acc.length + sumB bulk39 (x.f2.drop i) ≤ 2097152 → Ev (fun k => handle_of.l0 k p (acc.map toC) x.f2 (x.f2.length : Int) (i : Int)) (resC (gather (nodesL (x.f2.drop i) i p) acc)) := by
      intro j
      induction j with
      | zero =>
        intro i acc hi ha
        rw [List.drop_of_length_le (by omega)]
        refine Ev.succ ?_
        simp only [handle_of.l0, nodesL, gather]
        exact Ev.neg (by omega) (Ev.some _)
      | succ j ihj =>
        intro i acc hi ha
        have hw := step64 (i := i) (n := x.f2.length) (by omega) (by omega)
        have hmem := getN (xs := x.f2) (i := i) (by omega)
        have hbk := bulk_kid hmem
        have hd := drop_at (l := x.f2) (d := z39) (i := i) (by omega)
        rw [hd] at ha ⊢
        simp only [sumB] at ha
        have h1 := ih (by omega) (x.f2.getD i z39) (p ++ [(i : Int)]) acc (by omega) (((good_eq x).mp hg).2 _ hmem) (by simp only [List.length_append, List.length_singleton]; omega) (by omega)
        have hl := nodes_len (x.f2.getD i z39) (p ++ [(i : Int)])
        have hgl := gather_len (nodesN (x.f2.getD i z39) (p ++ [(i : Int)])) acc
        simp only [nodesL]
        rw [gather_append]
        refine Ev.succ ?_
        simp only [handle_of.l0, rdN, hw, hcl, Option.bind_some]
        refine Ev.pos (by omega) (Ev.pos (Int.natCast_nonneg i) (Ev.pos (by omega) (Ev.pos (by omega) (Ev.then h1 ?_))))
        by_cases h0 : (gather (nodesN (x.f2.getD i z39) (p ++ [(i : Int)])) acc).2 = 0
        · rw [if_pos h0]
          exact Ev.pos h0 (ihj (i + 1) _ (by omega) (by omega))
        · rw [if_neg h0]
          exact Ev.neg h0 (Ev.some _)
    have hone := one_ev x ⟨#[112, 104, 97, 110, 100, 108, 101]⟩ (by omega) hg
    have hr := oneOf_range ph x (by omega) hg
    have hsum : sumB bulk39 x.f2 + 1 ≤ bulk39 x := by omega
    rw [nodesN_eq]
    refine Ev.succ ?_
    simp only [handle_of.f, gather]
    refine Ev.then hone ?_
    rw [show (⟨#[112, 104, 97, 110, 100, 108, 101]⟩ : ByteArray).toList = ph from rfl]
    by_cases h1 : (oneOf ph x.f1).2.2 = 0
    · rw [if_pos h1]
      refine Ev.pos h1 ?_
      by_cases h2 : (oneOf ph x.f1).2.1 = true
      · rw [if_pos h2]
        have hr := hr h2
        refine Ev.pos h2 ?_
        by_cases h3 : (oneOf ph x.f1).1 = 0 ∨ (oneOf ph x.f1).1 = 4294967295
        · rw [if_pos h3]
          by_cases h4 : (oneOf ph x.f1).1 < 1
          · exact Ev.pos h4 (Ev.some _)
          · exact Ev.neg h4 (Ev.pos (by omega) (Ev.some _))
        · rw [if_neg h3]
          refine Ev.neg (by omega) (Ev.neg (by omega) ?_)
          by_cases h4 : (oneOf ph x.f1).1 ∈ acc.map (·.1)
          · rw [if_pos h4]
            exact Ev.pos (by rw [toC_fst]; exact h4) (Ev.some _)
          · rw [if_neg h4]
            refine Ev.neg (by rw [toC_fst]; exact h4) ?_
            simp only [hcl, Option.bind_some]
            have := kids x.f2.length 0 (acc ++ [((oneOf ph x.f1).1, p)]) (by omega) (by simp only [List.length_append, List.length_singleton, List.drop_zero]; omega)
            rw [List.map_append] at this
            simp only [List.drop_zero] at this
            exact Ev.pos (by rw [List.length_map]; omega) this
      · rw [if_neg h2]
        have := kids x.f2.length 0 acc (by omega) (by simp only [List.drop_zero]; omega)
        simp only [List.drop_zero] at this
        exact Ev.neg h2 this
    · rw [if_neg h1]
      exact Ev.neg h1 (Ev.some _)
theorem index_ev (b : Int) (res : List S151) (x : S39) (hx : bulk39 x ≤ 1048576) (hg : good39 x) : Ev (fun k => handle_Index.f k b res x.f0 x.f1 x.f2) (resC (gather (nodesN x []) [])) := by
  unfold handle_Index.f
  exact of_ev 1048576 (by omega) x [] [] hx hg (by simp; omega) (by simp; omega)
theorem rdC (xs : List S79) (i : Nat) : rd_T79 xs (i : Int) = xs.getD i z79 := by simp [rd_T79]
theorem getD_map {α β : Type} (f : α → β) (l : List α) (d : α) (d' : β) (i : Nat) (h : i < l.length) : (l.map f).getD i d' = f (l.getD i d) := by
  rw [getD_at (by rw [List.length_map]; exact h), getD_at h, List.getElem_map]
def firstOf (h : Int) : List (Int × List Int) → Option (List Int)
  | [] => none
  | p :: r => if p.1 = h then some p.2 else firstOf h r
def findR (h : Int) (g : List (Int × List Int) × Int) : List Int × Int := if g.2 = 0 then (match firstOf h g.1 with | some p => (p, 0) | none => ([], 11)) else ([], g.2)
theorem g_len (x : S39) (hx : bulk39 x ≤ 1048576) : (gather (nodesN x []) []).1.length ≤ 1048576 := by
  have h1 := gather_len (nodesN x []) []
  have h2 := nodes_len x []
  simp only [List.length_nil] at h1
  omega
theorem hfind_ev (b : Int) (res : List S151) (x : S39) (hx : bulk39 x ≤ 1048576) (hg : good39 x) (h : Int) : Ev (fun k => handle_Find.f k b res x.f0 x.f1 x.f2 h) (findR h (gather (nodesN x []) [])) := by
  have hl := g_len x hx
  unfold handle_Find.f findR
  refine Ev.then (index_ev b res x hx hg) ?_
  generalize gather (nodesN x []) [] = g at *
  simp only [resC]
  by_cases h0 : g.2 = 0
  · rw [if_pos h0]
    refine Ev.pos h0 ?_
    have key : ∀ (j i : Nat), i + j = g.1.length → Ev (fun k => handle_Find.l0 k h (g.1.map toC) ((g.1.map toC).length : Int) (i : Int)) (match firstOf h (g.1.drop i) with | some p => (p, 0) | none => ([], 11)) := by
      intro j
      induction j with
      | zero =>
        intro i hi
        rw [List.drop_of_length_le (by omega)]
        refine Ev.succ ?_
        simp only [handle_Find.l0, firstOf]
        exact Ev.neg (by rw [List.length_map]; omega) (Ev.some _)
      | succ j ih =>
        intro i hi
        have hw := step64 (i := i) (n := g.1.length) (by omega) hl
        have hd := drop_at (l := g.1) (d := ((0 : Int), ([] : List Int))) (i := i) (by omega)
        have hrd : rd_T79 (g.1.map toC) (i : Int) = toC (g.1.getD i (0, [])) := by rw [rdC, getD_map toC g.1 (0, []) _ i (by omega)]
        rw [hd]
        refine Ev.succ ?_
        simp only [handle_Find.l0, hrd, hw, firstOf]
        refine Ev.pos (by rw [List.length_map]; omega) (Ev.pos (Int.natCast_nonneg i) (Ev.pos (by rw [List.length_map]; omega) ?_))
        by_cases c : (g.1.getD i (0, [])).1 = h
        · rw [if_pos c]
          exact Ev.pos c (Ev.some _)
        · rw [if_neg c]
          exact Ev.neg c (ih (i + 1) (by omega))
    have := key g.1.length 0 (by omega)
    simpa using this
  · rw [if_neg h0]
    exact Ev.neg h0 (Ev.some _)
theorem g_places (x : S39) (hx : bulk39 x ≤ 1048576) (p : Int × List Int) (h : p ∈ (gather (nodesN x []) []).1) : p.2.length ≤ 1048576 := by
  rcases gather_places _ _ _ h with h | h
  · simp at h
  · rw [nodes_places 1048576 x [] hx] at h
    have := places_each 1048576 x [] hx _ h
    simp at this
    omega
end Go.Proofs.Yteejaaeglfpcmaa.PH

set_option linter.unusedVariables false
set_option linter.unusedSimpArgs false
namespace Go.Proofs.Yteejaaeglfpcmaa.PH
open Go.RowKit Go.Proofs.Yteejaaeglfpcmaa.Aid Go.Proofs.YteejaaeglfpcmaaW.PrintWords
theorem equal_same (p : List Int) (hp : p.length ≤ 4194304) : Ev (fun k => arboretref12_Equal.f k p p) true := by
  have key : ∀ (j i : Nat), i + j = p.length → Ev (fun k => arboretref12_Equal.l0 k p p (p.length : Int) (i : Int)) true := by
    intro j
    induction j with
    | zero =>
      intro i hi
      refine Ev.succ ?_
      simp only [arboretref12_Equal.l0]
      exact Ev.neg (by omega) (Ev.some _)
    | succ j ihj =>
      intro i hi
      have hw : wrap64 ((i : Int) + 1) = ((i + 1 : Nat) : Int) := by unfold wrap64; omega
      refine Ev.succ ?_
      simp only [arboretref12_Equal.l0, hw]
      exact Ev.pos (by omega) (Ev.pos (by omega) (Ev.pos (by omega) (Ev.pos (by omega) (Ev.pos (by trivial) (ihj (i + 1) (by omega))))))
  unfold arboretref12_Equal.f
  exact Ev.pos rfl (key p.length 0 (by omega))
end Go.Proofs.Yteejaaeglfpcmaa.PH

set_option linter.unusedVariables false
set_option linter.unusedSimpArgs false
namespace Go.Proofs.Yteejaaeglfpcmaa.PH
open Go.RowKit Go.Proofs.Yteejaaeglfpcmaa.Rdr Go.Proofs.Yteejaaeglfpcmaa.Aid Go.Proofs.YteejaaeglfpcmaaW.PrintWords
theorem refall_ev (m : Nat) (hm : m ≤ 1048576) : ∀ (x : S39) (p : List Int), bulk39 x ≤ m → p.length + bulk39 x ≤ 2097152 → Ev (fun k => arboretref06_All.f k x.f0 x.f1 x.f2 p) (placesN x p) := by
  induction m with
  | zero => intro x p hx; have := bulk_pos x; omega
  | succ m ih =>
    intro x p hx hp
    have hk := bulk_kids x
    have hbe := bulk_eq x
    have kids : ∀ (j i : Nat) (acc : List (List Int)), i + j = x.f2.length → acc.length + sumB bulk39 (x.f2.drop i) ≤ 2097152 → Ev (fun k => arboretref06_All.l0 k p acc (x.f2.length : Int) (i : Int) x.f0 x.f1 x.f2) (acc ++ placesL (x.f2.drop i) i p) := by
      intro j
      induction j with
      | zero =>
        intro i acc hi ha
        refine Ev.succ ?_
        simp only [arboretref06_All.l0]
        rw [List.drop_of_length_le (by omega)]
        simp only [placesL, List.append_nil]
        exact Ev.neg (by omega) (Ev.some _)
      | succ j ihj =>
        intro i acc hi ha
        have hw := step64 (i := i) (n := x.f2.length) (by omega) (by omega)
        have hmem := getN (xs := x.f2) (i := i) (by omega)
        have hbk := bulk_kid hmem
        have hd := drop_at (l := x.f2) (d := z39) (i := i) (by omega)
        rw [hd] at ha ⊢
        simp only [sumB] at ha
        have h1 := ih (by omega) (x.f2.getD i z39) (p ++ [(i : Int)]) (by omega) (by simp only [List.length_append, List.length_singleton]; omega)
        have hl := places_len (m + 1) (x.f2.getD i z39) (p ++ [(i : Int)]) (by omega)
        have h2 := ihj (i + 1) (acc ++ placesN (x.f2.getD i z39) (p ++ [(i : Int)])) (by omega) (by rw [List.length_append]; omega)
        simp only [placesL]
        rw [← List.append_assoc]
        refine Ev.succ ?_
        simp only [arboretref06_All.l0, rdN, hw, Option.bind_some, List.nil_append]
        exact Ev.pos (by omega) (Ev.pos (Int.natCast_nonneg i) (Ev.pos (by omega) (Ev.pos (by simp only [List.length_nil]; omega) (Ev.pos (by simp only [List.length_singleton]; omega) (Ev.then h1 (Ev.pos (by omega) h2))))))
    refine Ev.succ ?_
    simp only [arboretref06_All.f, Option.bind_some, List.nil_append]
    rw [placesN_eq]
    have := kids x.f2.length 0 [p] (by omega) (by simp only [List.length_singleton, List.drop_zero]; omega)
    simp only [List.drop_zero, List.singleton_append] at this
    exact Ev.pos (by simp only [List.length_nil]; omega) this
end Go.Proofs.Yteejaaeglfpcmaa.PH

namespace Go.Proofs.Yteejaaeglfpcmaa.PH
open Go.RowKit Go.Proofs.YteejaaeglfpcmaaW.PrintWords Go.Proofs.YteejaaeglfpcmaaW.PrintLast Go.Proofs.YteejaaeglfpcmaaW.PrintMore
attribute [local go_sem] max2_int min2_int max_two min_two max_three min_three max_four min_four   -- for this text's walks alone
set_option linter.unusedVariables false
set_option linter.unusedSimpArgs false
def handle_Most.l0 : Nat → Int → Int → List (S79) → Int → Int → Option (Int × Int)
  | 0, _, _, _, _, _ => none
  | k + 1, x5, x6, x14, x15, x16 => if x16 < x15 then (if 0 ≤ x16 then (if x16 < (x14.length : Int) then (handle_Most.l0 k x5 (mx x6 ((rd_T79 x14 x16).f0)) x14 x15 (wrap64 (x16 + 1))) else (none)) else (none)) else (some (x6, x5))
def handle_Most.f (k : Nat) (a0_0 : Int) (l0_1 : List (S151)) (a0_2 : ByteArray) (l0_3 : List (S104)) (l0_4 : List (S39)) : Option (Int × Int) := (handle_Index.f k a0_0 l0_1 a0_2 l0_3 l0_4).bind fun bt250 => (handle_Most.l0 k bt250.2 0 bt250.1 (bt250.1.length : Int) 0)
end Go.Proofs.Yteejaaeglfpcmaa.PH

namespace Go.Proofs.Yteejaaeglfpcmaa.PH
open Go.RowKit Go.Proofs.YteejaaeglfpcmaaW.PrintWords Go.Proofs.YteejaaeglfpcmaaW.PrintLast Go.Proofs.YteejaaeglfpcmaaW.PrintMore
attribute [local go_sem] max2_int min2_int max_two min_two max_three min_three max_four min_four   -- for this text's walks alone
set_option linter.unusedVariables false
set_option linter.unusedSimpArgs false
def arboretref06_Most.l0 : Nat → List (S83) → Int → Int → Int → Option (Int)
  | 0, _, _, _, _ => none
  | k + 1, x3, x5, x13, x14 => if x14 < x13 then (if 0 ≤ x14 then (if x14 < (x3.length : Int) then (arboretref06_Most.l0 k x3 (mx x5 ((rd_T83 x3 x14).f0)) x13 (wrap64 (x14 + 1))) else (none)) else (none)) else (some x5)
def arboretref06_Most.f (k : Nat) (a0_0 : Int) (l0_1 : List (S151)) (a0_2 : ByteArray) (l0_3 : List (S104)) (l0_4 : List (S39)) : Option (Int) := (arboretref06_Index.f k a0_0 l0_1 a0_2 l0_3 l0_4).bind fun bt257 => (arboretref06_Most.l0 k bt257.1 0 (bt257.1.length : Int) 0)
end Go.Proofs.Yteejaaeglfpcmaa.PH

set_option linter.unusedVariables false
set_option linter.unusedSimpArgs false
namespace Go.Proofs.Yteejaaeglfpcmaa.PH
open Go.RowKit Go.Proofs.Yteejaaeglfpcmaa.Rdr Go.Proofs.Yteejaaeglfpcmaa.Aid Go.Proofs.YteejaaeglfpcmaaW.PrintWords Go.Proofs.YteejaaeglfpcmaaW.PrintMore
def toR (p : Int × List Int) : S83 := ⟨p.1, p.2⟩
def resR (g : List (Int × List Int) × Int) : List S83 × Int := (g.1.map toR, g.2)
theorem rdR (xs : List S83) (i : Nat) : rd_T83 xs (i : Int) = xs.getD i z83 := by simp [rd_T83]
theorem ref_twice (b : Int) (res : List S151) (x : S39) (ps : List (List Int)) (i : Nat) (hi : i < ps.length) (hps : ps.length ≤ 1048576) (h : Int) (acc : List (Int × List Int)) (ha : acc.length ≤ 1048576) (r : List S83 × Int)
    (next : Ev (fun k => arboretref06_Index.l0 k ((acc ++ [(h, ps.getD i [])]).map toR) ps (ps.length : Int) ((i + 1 : Nat) : Int) b res x.f0 x.f1 x.f2) r) :
    Ev (fun k => arboretref06_Index.l1 k (acc.map toR) ps (i : Int) h (ps.length : Int) (i : Int) ((acc.map toR).length : Int) 0 b res x.f0 x.f1 x.f2) (if h ∈ acc.map (·.1) then ([], 9) else r) := by
  have key : ∀ (j q : Nat), q + j = acc.length → Ev (fun k => arboretref06_Index.l1 k (acc.map toR) ps (i : Int) h (ps.length : Int) (i : Int) ((acc.map toR).length : Int) (q : Int) b res x.f0 x.f1 x.f2) (if h ∈ (acc.drop q).map (·.1) then ([], 9) else r) := by
    intro j
    induction j with
    | zero =>
      intro q hq
      rw [List.drop_of_length_le (by omega)]
      have hw := step64 (i := i) (n := ps.length) hi hps
      have hrd : rd_L13 ps (i : Int) = ps.getD i [] := by simp [rd_L13]
      refine Ev.succ ?_
      simp only [arboretref06_Index.l1, List.length_map, hw, hrd, List.map_nil, List.not_mem_nil, if_false]
      rw [List.map_append] at next
      exact Ev.neg (by omega) (Ev.pos (Int.natCast_nonneg i) (Ev.pos (by omega) (Ev.pos (by omega) next)))
    | succ j ih =>
      intro q hq
      have hw := step64 (i := q) (n := acc.length) (by omega) ha
      have hd := drop_at (l := acc) (d := ((0 : Int), ([] : List Int))) (i := q) (by omega)
      have hrd : (rd_T83 (acc.map toR) (q : Int)).f0 = (acc.getD q (0, [])).1 := by
        rw [rdR, getD_map toR acc (0, []) _ q (by omega)]
        rfl
      have := ih (q + 1) (by omega)
      rw [hd, List.map_cons]
      refine Ev.succ ?_
      simp only [arboretref06_Index.l1, hrd, hw]
      refine Ev.pos (by rw [List.length_map]; omega) (Ev.pos (Int.natCast_nonneg q) (Ev.pos (by rw [List.length_map]; omega) ?_))
      by_cases c : (acc.getD q (0, [])).1 = h
      · rw [if_pos (by rw [← c]; exact List.mem_cons_self)]
        exact Ev.pos c (Ev.some _)
      · have e : (h ∈ (acc.getD q (0, [])).1 :: (acc.drop (q + 1)).map (·.1)) = (h ∈ (acc.drop (q + 1)).map (·.1)) := by
          rw [List.mem_cons, eq_iff_iff]
          exact ⟨fun h2 => h2.resolve_left (fun e => c e.symm), .inr⟩
        simp only [e]
        exact Ev.neg c this
  exact key acc.length 0 (by omega)
theorem refindex_ev (b : Int) (res : List S151) (x : S39) (hx : bulk39 x ≤ 1048576) (hg : good39 x) : Ev (fun k => arboretref06_Index.f k b res x.f0 x.f1 x.f2) (resR (gather (nodesN x []) [])) := by
  obtain ⟨ns, hns⟩ : ∃ ns, ns = nodesN x [] := ⟨_, rfl⟩
  have hps : ns.map (·.2) = placesN x [] := by rw [hns]; exact nodes_places 1048576 x [] hx
  have hlen : ns.length ≤ 1048576 := by rw [hns]; exact Nat.le_trans (nodes_len x []) hx
  have hat : ∀ i, i < ns.length → getS x (ns.getD i (z39, [])).2 = some (ns.getD i (z39, [])).1 := by
    intro i hi
    have hm : (ns.getD i (z39, [])) ∈ nodesN x [] := by rw [← hns, getD_at hi]; exact List.getElem_mem _
    generalize ns.getD i (z39, []) = q at hm ⊢
    obtain ⟨n, p⟩ := q
    obtain ⟨s, h1, h2⟩ := nodes_get 1048576 x hx [] n p hm
    simp only at h1 ⊢
    rw [h1]
    exact h2
  have hpl : ∀ i, i < ns.length → (ns.getD i (z39, [])).2.length ≤ 1048576 := by
    intro i hi
    have hm : (ns.getD i (z39, [])).2 ∈ placesN x [] := by rw [← hps]; exact List.mem_map.mpr ⟨_, by rw [getD_at hi]; exact List.getElem_mem _, rfl⟩
    have := places_each 1048576 x [] hx _ hm
    rw [List.length_nil] at this
    omega
  rw [← hns]
  have l0 : ∀ (j i : Nat) (acc : List (Int × List Int)), i + j = ns.length → acc.length ≤ i → Ev (fun k => arboretref06_Index.l0 k (acc.map toR) (ns.map (·.2)) ((ns.map (·.2)).length : Int) (i : Int) b res x.f0 x.f1 x.f2) (resR (gather (ns.drop i) acc)) := by
    intro j
    induction j with
    | zero =>
      intro i acc hi ha
      rw [List.drop_of_length_le (by omega)]
      refine Ev.succ ?_
      simp only [arboretref06_Index.l0, gather]
      exact Ev.neg (by rw [List.length_map]; omega) (Ev.some _)
    | succ j ih =>
      intro i acc hi ha
      have hw := step64 (i := i) (n := ns.length) (by omega) hlen
      have hd := drop_at (l := ns) (d := (z39, ([] : List Int))) (i := i) (by omega)
      have hget := rget_ev b res x (ns.getD i (z39, [])).2 (hpl i (by omega))
      rw [hat i (by omega)] at hget
      have hb := getS_bulk _ _ _ (hat i (by omega))
      have hgn := getS_good _ _ _ (hat i (by omega)) hg
      have hone := refone_ev (ns.getD i (z39, [])).1 ⟨#[112, 104, 97, 110, 100, 108, 101]⟩ (by omega) hgn
      have hrd : rd_L13 (ns.map (·.2)) (i : Int) = (ns.getD i (z39, [])).2 := by
        have : rd_L13 (ns.map (·.2)) (i : Int) = (ns.map (·.2)).getD i [] := by simp [rd_L13]
        rw [this, getD_map (·.2) ns (z39, []) _ i (by omega)]
      have hgd : (ns.map (·.2)).getD i [] = (ns.getD i (z39, [])).2 := getD_map (·.2) ns (z39, []) _ i (by omega)
      rw [hd]
      simp only [gather]
      refine Ev.succ ?_
      simp only [arboretref06_Index.l0, hrd]
      refine Ev.pos (by rw [List.length_map]; omega) (Ev.pos (Int.natCast_nonneg i) (Ev.pos (by rw [List.length_map]; omega) (Ev.then hget ?_)))
      simp only [rgetR]
      refine Ev.then hone ?_
      rw [show (⟨#[112, 104, 97, 110, 100, 108, 101]⟩ : ByteArray).toList = ph from rfl]
      generalize hq : ns.getD i (z39, []) = q at *
      by_cases h1 : (oneOf ph q.1.f1).2.2 = 0
      · rw [if_pos h1]
        refine Ev.pos h1 ?_
        by_cases h2 : (oneOf ph q.1.f1).2.1 = true
        · rw [if_pos h2]
          refine Ev.pos h2 ?_
          have nxt := ih (i + 1) (acc ++ [((oneOf ph q.1.f1).1, q.2)]) (by omega) (by simp only [List.length_append, List.length_singleton]; omega)
          rw [← hgd] at nxt
          have tw := ref_twice b res x (ns.map (·.2)) i (by rw [List.length_map]; omega) (by rw [List.length_map]; exact hlen) (oneOf ph q.1.f1).1 acc (by omega) _ nxt
          rw [hgd] at tw
          have no : ∀ (c : Bool), c = false → Ev (fun k => arboretref06_Index.j1 k (acc.map toR) (ns.map (·.2)) (i : Int) (oneOf ph q.1.f1).1 ((ns.map (·.2)).length : Int) (i : Int) c b res x.f0 x.f1 x.f2) (if (oneOf ph q.1.f1).1 ∈ acc.map (·.1) then ([], 9) else resR (gather (ns.drop (i + 1)) (acc ++ [((oneOf ph q.1.f1).1, q.2)]))) := by
            intro c hc
            refine Ev.succ ?_
            simp only [arboretref06_Index.j1]
            exact Ev.neg (by rw [hc]; decide) tw
          have yes : Ev (fun k => arboretref06_Index.j1 k (acc.map toR) (ns.map (·.2)) (i : Int) (oneOf ph q.1.f1).1 ((ns.map (·.2)).length : Int) (i : Int) true b res x.f0 x.f1 x.f2) ([], 11) := by
            refine Ev.succ ?_
            simp only [arboretref06_Index.j1]
            exact Ev.pos trivial (Ev.some _)
          by_cases h3 : (oneOf ph q.1.f1).1 = 0
          · rw [if_pos (.inl h3)]
            exact Ev.pos h3 yes
          · refine Ev.neg h3 ?_
            by_cases h4 : (oneOf ph q.1.f1).1 = 4294967295
            · rw [if_pos (.inr h4)]
              have e : ((oneOf ph q.1.f1).1 == 4294967295) = true := beq_iff_eq.mpr h4
              rw [e]
              exact yes
            · rw [if_neg (by omega)]
              have := no ((oneOf ph q.1.f1).1 == 4294967295) (beq_eq_false_iff_ne.mpr h4)
              by_cases h5 : (oneOf ph q.1.f1).1 ∈ acc.map (·.1)
              · rw [if_pos h5] at this ⊢
                exact this
              · rw [if_neg h5] at this ⊢
                exact this
        · rw [if_neg h2]
          have hw2 : wrap64 ((i : Int) + 1) = ((i + 1 : Nat) : Int) := hw
          simp only [hw2]
          exact Ev.neg h2 (ih (i + 1) acc (by omega) (by omega))
      · rw [if_neg h1]
        exact Ev.neg h1 (Ev.some _)
  unfold arboretref06_Index.f
  have hall := refall_ev 1048576 (by omega) x [] hx (by simp; omega)
  rw [← hps] at hall
  refine Ev.then hall ?_
  have := l0 ns.length 0 [] (by omega) (by simp)
  simpa using this
theorem refhandle_ev (b : Int) (res : List S151) (x : S39) (hx : bulk39 x ≤ 1048576) (hg : good39 x) (h : Int) : Ev (fun k => arboretref06_Handle.f k b res x.f0 x.f1 x.f2 h) (if (gather (nodesN x []) []).2 = 0 then (match firstOf h (gather (nodesN x []) []).1 with | some p => (p, true) | none => ([], false)) else ([], false)) := by
  have hl := g_len x hx
  unfold arboretref06_Handle.f
  refine Ev.then (refindex_ev b res x hx hg) ?_
  generalize gather (nodesN x []) [] = g at *
  simp only [resR]
  have key : ∀ (j i : Nat), i + j = g.1.length → Ev (fun k => arboretref06_Handle.l0 k h (g.1.map toR) g.2 ((g.1.map toR).length : Int) (i : Int)) (if g.2 = 0 then (match firstOf h (g.1.drop i) with | some p => (p, true) | none => ([], false)) else ([], false)) := by
    intro j
    induction j with
    | zero =>
      intro i hi
      rw [List.drop_of_length_le (by omega)]
      have e : (if g.2 = 0 then (match firstOf h [] with | some p => (p, true) | none => (([] : List Int), false)) else ([], false)) = ([], false) := by simp [firstOf]
      rw [e]
      refine Ev.succ ?_
      simp only [arboretref06_Handle.l0]
      exact Ev.neg (by rw [List.length_map]; omega) (Ev.some _)
    | succ j ih =>
      intro i hi
      have hw := step64 (i := i) (n := g.1.length) (by omega) hl
      have hd := drop_at (l := g.1) (d := ((0 : Int), ([] : List Int))) (i := i) (by omega)
      have hrd : rd_T83 (g.1.map toR) (i : Int) = toR (g.1.getD i (0, [])) := by rw [rdR, getD_map toR g.1 (0, []) _ i (by omega)]
      rw [hd]
      refine Ev.succ ?_
      simp only [arboretref06_Handle.l0, hrd, hw, firstOf]
      refine Ev.pos (by rw [List.length_map]; omega) ?_
      have nx := ih (i + 1) (by omega)
      by_cases h0 : g.2 = 0
      · rw [if_pos h0] at nx ⊢
        refine Ev.pos h0 (Ev.pos (Int.natCast_nonneg i) (Ev.pos (by rw [List.length_map]; omega) ?_))
        by_cases c : (g.1.getD i (0, [])).1 = h
        · rw [if_pos c]
          exact Ev.pos c (Ev.some _)
        · rw [if_neg c]
          exact Ev.neg c nx
      · rw [if_neg h0] at nx ⊢
        exact Ev.neg h0 nx
  have := key g.1.length 0 (by omega)
  simpa using this
end Go.Proofs.Yteejaaeglfpcmaa.PH

set_option linter.unusedVariables false
set_option linter.unusedSimpArgs false
namespace Go.Proofs.Yteejaaeglfpcmaa.PH
open Go.RowKit Go.Proofs.Yteejaaeglfpcmaa.Rdr Go.Proofs.Yteejaaeglfpcmaa.Aid Go.Proofs.YteejaaeglfpcmaaW.PrintWords
theorem awake_ev : Ev (fun k => arboretlaw08_awake.f k) true := by
  have h := hfind_ev 0 [] ⟨⟨#[]⟩, [], []⟩ (by rw [bulk_eq]; simp [sumB]; decide) ((good_eq _).mpr ⟨by simp, by simp⟩) 0
  unfold arboretlaw08_awake.f
  refine Ev.then h ?_
  have e : findR 0 (gather (nodesN ⟨⟨#[]⟩, [], []⟩ []) []) = ([], 11) := by
    simp [nodesN, nodesL, gather, oneOf, valP, findR, firstOf]
  rw [e]
  exact Ev.some _
end Go.Proofs.Yteejaaeglfpcmaa.PH

set_option linter.unusedVariables false
set_option linter.unusedSimpArgs false
namespace Go.Proofs.Yteejaaeglfpcmaa.Pure
open Go.RowKit Go.Proofs.Yteejaaeglfpcmaa.PH Go.Proofs.Yteejaaeglfpcmaa.Rdr Go.Proofs.Yteejaaeglfpcmaa.Aid Go.Proofs.YteejaaeglfpcmaaW.PrintWords
theorem firstOf_mem (h : Int) : ∀ (l : List (Int × List Int)) (p : List Int), firstOf h l = some p → ∃ q ∈ l, q.2 = p
  | [], p, e => by simp [firstOf] at e
  | q :: r, p, e => by
    simp only [firstOf] at e
    by_cases c : q.1 = h
    · rw [if_pos c] at e
      exact ⟨q, List.mem_cons_self, Option.some.inj e⟩
    · rw [if_neg c] at e
      obtain ⟨s, h1, h2⟩ := firstOf_mem h r p e
      exact ⟨s, List.mem_cons_of_mem _ h1, h2⟩
theorem HandleFinds : arboretlaw08_HandleFinds.Pure := by
  intro t h hb gt gh
  have hb2 : 1 + (sumB bulk151 t.f1 + 1) + bulk39 t.f2 + 1 + 1 ≤ 1048576 := hb
  have hx : bulk39 t.f2 ≤ 1048576 := by omega
  have hg : good39 t.f2 := gt.2.2
  obtain ⟨v, hv⟩ := few_ends t.f0 t.f1 t.f2 hx
  have aw := awake_ev
  have hi := hfind_ev t.f0 t.f1 t.f2 hx hg h
  have ri := refindex_ev t.f0 t.f1 t.f2 hx hg
  have rh := refhandle_ev t.f0 t.f1 t.f2 hx hg h
  have hpl := g_places t.f2 hx
  refine Ev.out (?_ : Ev (fun k => arboretlaw08_HandleFinds.f k t.f0 t.f1 t.f2.f0 t.f2.f1 t.f2.f2 h) true)
  unfold arboretlaw08_HandleFinds.f
  refine Ev.then aw (Ev.pos rfl (Ev.then hv (Ev.succ ?_)))
  simp only [arboretlaw08_HandleFinds.j0]
  cases v with
  | false => exact Ev.pos rfl (Ev.then aw (Ev.some _))
  | true =>
    refine Ev.neg (by decide) (Ev.then hi (Ev.then ri (Ev.then rh ?_)))
    generalize gather (nodesN t.f2 []) [] = g at *
    simp only [resR, findR]
    by_cases h0 : g.2 = 0
    · simp only [if_pos h0]
      cases hf : firstOf h g.1 with
      | none =>
        dsimp only
        exact Ev.pos rfl (Ev.neg (by decide) (Ev.pos rfl (Ev.then (equal_same [] (by simp)) (Ev.some _))))
      | some p =>
        obtain ⟨q, hq, e⟩ := firstOf_mem h g.1 p hf
        have := hpl q hq
        rw [e] at this
        dsimp only
        exact Ev.pos rfl (Ev.pos rfl (Ev.then (equal_same p (by omega)) (Ev.some _)))
    · simp only [if_neg h0]
      exact Ev.pos trivial (Ev.fix rfl)
end Go.Proofs.Yteejaaeglfpcmaa.Pure

namespace Go.Proofs.Yteejaaeglfpcmaa.handleFinds
open Go.ChangeShapes Go.WideShapes Go.ChangeAt Go.RowKit Go.Proofs.Yteejaaeglfpcmaa.Rdr Go.Proofs.Yteejaaeglfpcmaa.PH
open Go.ChangeMaps (open_string shut_string)
set_option linter.unusedVariables false
set_option linter.unusedSimpArgs false
theorem own : ownKnob Try.prog.godebug = none := by kernel_rfl
theorem laidOut : laidOutB Try.prog = true := by kernel_rfl
set_option maxRecDepth 100000 in
theorem contract (H : Type) (enc : TypeId × Value → H) (W : World) (base : Nat) (args : Array Value) (ds gs : List (DataW H)) (before : List MemPlace)
    (hval0 : ∀ (j : Nat) t v, Try.f10.params[j]? = some t → args[j]? = some v → Value.okWide Try.prog W .any base t v)
    (hW : DataW.Whole enc Try.prog Try.f10.params.toList Rows.handleFindsSpec.vars false W args.toList ds gs before) (hk : Rows.uptoSmall H (ds ++ gs) = true) :
    Calls Try.prog 10 args W fun e W' => ∃ v, e = .returned v ∧ Rows.handleFindsSpec.post enc Try.prog Try.f10 false true false false W args v W' := by
  have hval : ∀ (j : Nat) t v, Try.f10.params[j]? = some t → args[j]? = some v → Value.okWide Try.prog W .any base t v := hval0
  have hW' := hW
  obtain ⟨p, q, hA0, hV, rfl, hfz, hnd⟩ := hW
  have hA : DataW.TrodAll enc Try.prog W 0 (fun _ => true) true Try.f10.params.toList args.toList ds p := hA0
  rw [Try.params10] at hA hval
  obtain ⟨v0, vs0, d0, ds0, p0, q0, hargs, rfl, rfl, h0, tr0⟩ := trodAll_cons hA
  obtain ⟨v1, vs1, d1, ds1, p1, q1, rfl, rfl, rfl, h1, tr1⟩ := trodAll_cons tr0
  obtain ⟨rfl, rfl, rfl⟩ := trodAll_nil tr1
  obtain rfl : args = #[v0, v1] := by cases args; simp_all
  obtain ⟨rfl, rfl⟩ := trodVars_none hV
  have hb := bound hk
  simp only [List.append_nil, Rows.uptoBulkAll, List.nil_append] at hb
  have k0 := h0
  have lt0 : ∀ x ∈ p0, x.block < W.heap.size := by obtain ⟨m, hm⟩ := k0; exact DataW.trod_lt m _ _ _ hm
  have k1 := h1
  have lt1 : ∀ x ∈ p1, x.block < W.heap.size := by obtain ⟨m, hm⟩ := k1; exact DataW.trod_lt m _ _ _ hm
  obtain ⟨cs0, rfl, hcs0⟩ : ∃ cs, v0 = .agg cs ∧ True := by
    have z := (hval 0 43 v0 rfl rfl)
    simp only [Value.okWide, Try.underlying43] at z
    obtain ⟨cs, hc, _⟩ := z
    exact ⟨cs, hc, trivial⟩
  obtain ⟨f0, hf0⟩ := h0
  obtain ⟨x0, K0, b0, g0⟩ := rd43 W f0 H enc f0 (Nat.le_refl _) _ _ hf0
  obtain ⟨A0_1, c0_1, A0_3, c0_3, A0_4, c0_4, e0, l0_1, r0_1, l0_3, r0_3, l0_4, r0_4⟩ := k43_open K0
  obtain ⟨cl0⟩ := cs0
  have e0' : cl0 = _ := e0
  subst e0'
  obtain ⟨x1, rfl, rfl, rfl, g1⟩ := open_int Try.underlying28 (hval 1 28 v1 rfl rfl) h1
  obtain ⟨k, hk_⟩ := Pure.HandleFinds x0 x1 (by (try simp only [Rows.uptoBulk, Array.length_toList] at hb); first | omega | (simp only [ByteArray.size] at *; omega)) g0 g1
  refine (arboretlaw08_HandleFinds.calls k x0.f0 A0_1 c0_1 x0.f1 x0.f2.f0 A0_3 c0_3 x0.f2.f1 A0_4 c0_4 x0.f2.f2 x1 true W r0_1 l0_1 r0_3 l0_3 r0_4 l0_4 hk_).mono fun e W' ⟨he, bel0⟩ => ?_
  have bel : Below W.heap.size W W' := bel0
  subst he
  exact ⟨_, rfl, _, _, _, [], _, [], hW', trodAll_mk1 (shut_bool Try.underlying4 _), (trodAll_cons_mk (Below.trod laidOut (by kernel_rfl) (of_decide_eq_true (by kernel_rfl)) k0 bel lt0) (trodAll_cons_mk (Below.trod laidOut (by kernel_rfl) (of_decide_eq_true (by kernel_rfl)) k1 bel lt1) trodAll_mk0)), rfl, bel.frame _, fun h => by cases h⟩
set_option maxRecDepth 100000 in
theorem lifted (os : Os) (started : os.Started) (H : Type) (enc : TypeId × Value → H) (F : Stop.Interp) :
    ReturnsInHanded {} Try.checked os 10 .any ((Rows.OpenSpec.upto Rows.handleFindsSpec).pre6 enc Try.prog Try.f10 Rows.handleFindsUptoRow.domain false) (((Rows.OpenSpec.upto Rows.handleFindsSpec).at F).post enc Try.prog Try.f10 false true false false) := by
  refine returnsInHanded_of_cond (C := Try.checked) (s := Rows.OpenSpec.upto Rows.handleFindsSpec) (k := Rows.uptoSmall) rfl own started (by kernel_rfl) Try.func10
    (OpenSpec.witness (enc := enc) (C := Try.checked) (s := Rows.OpenSpec.upto Rows.handleFindsSpec) (k := Rows.uptoSmall) rfl false ⟨#[], #[.agg #[.int .u32 0, .slice none 0 0, .string ByteArray.empty, .slice none 0 0, .slice none 0 0], .int .u32 0], []⟩ 16 (by kernel_rfl) (by kernel_rfl) (by kernel_rfl)
      (x := ([.agg [.lit (.int .u32 0), .nil, .agg [.lit (.string []), .nil, .nil]], .lit (.int .u32 0)], [], [])) (by kernel_rfl) rfl (by kernel_rfl)) ?_
  intro W base args ds gs before hval hW _ hk _
  exact contract H enc W base args ds gs before hval hW hk
theorem over : Rows.handleFindsUptoRow.holds Try.pinned (Rows.OpenSpec.upto Rows.handleFindsSpec) :=
  OpenClaim.holds_of_cond 10 Try.f10 rfl rfl rfl rfl rfl rfl rfl ⟨rfl, rfl, rfl, rfl, rfl⟩ rfl rfl rfl rfl rfl (by kernel_rfl) Try.func10 (by kernel_rfl)
    (of_decide_eq_true (by kernel_rfl)) (by unfold Func.isWrapper; first | (rw [if_pos (by decide +kernel)]; kernel_rfl) | (rw [if_neg (by decide +kernel)]; exact ⟨rfl, rfl⟩))
    (fun os started H enc _ F => lifted os started H enc F)
theorem proved : Rows.HandleFindsUptoSaid := over
end Go.Proofs.Yteejaaeglfpcmaa.handleFinds
namespace Go.Proofs.Yteejaaeglfpcmaa
theorem handleFinds_holds : Rows.HandleFindsUptoSaid := handleFinds.proved
end Go.Proofs.Yteejaaeglfpcmaa
