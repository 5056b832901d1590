/- HandleEach: texts of this session's, and what the kit's print laid for this seat, as far as the law's row uses them (PHx_arboretlaw08_HandleEach, Rdr, PHKinds, PHStateHandleEach, Aid, Tree, PHx_arboretref06_All, RAll, Num, PHx_arboretref01_Find, PHx_arboretref01_Number, PHx_arboretref06_Cells, PHx_arboretref06_One, One, PHx_arboretref06_Get, RGet, PHx_handle_Most, PHx_arboretref06_Index, PHx_arboretref06_Handle, PHx_arboretref06_Most, Handles, HandlesLaw, PureHandleEach, LawHandleEach). -/
import Derived.Test.YteejaaeglfpcmaaRows
import Derived.ChangeArms
import Derived.DataReads
import Derived.Deep.Slices
import Derived.Lib.EndianBits
import Derived.ProofKit
import Derived.OpenShut
import Derived.ShutString
import Derived.ChangeOld
import Derived.JoinedCond
import Derived.Deep.CondSized
import Derived.Test.YteejaaeglfpcmaaZHandleEach1
set_option linter.unusedVariables false
set_option linter.unusedSimpArgs false
namespace Go.Proofs.Yteejaaeglfpcmaa.PH
open Go.RowKit Go.Proofs.YteejaaeglfpcmaaW.PrintWords Go.Proofs.YteejaaeglfpcmaaW.PrintLast Go.Proofs.YteejaaeglfpcmaaW.PrintMore
attribute [local go_sem] max2_int min2_int max_two min_two max_three min_three max_four min_four   -- for this text's walks alone
set_option linter.unusedVariables false
set_option linter.unusedSimpArgs false
mutual
def arboretlaw08_HandleEach.j0 : Nat → Bool → Int → List (S151) → ByteArray → List (S104) → List (S39) → Option (Bool)
  | 0, _, _, _, _, _, _ => none
  | k + 1, x14, x235000, x235001, x235002, x235003, x235004 => if x14 = true then ((arboretlaw08_awake.f k).bind fun t237 => (some t237)) else ((handle_Index.f k x235000 x235001 x235002 x235003 x235004).bind fun bt238 => (if bt238.2 = 0 then (arboretlaw08_HandleEach.l0 k bt238.1 (bt238.1.length : Int) 0 x235000 x235001 x235002 x235003 x235004) else (some ((bt238.1.length : Int) == 0))))
def arboretlaw08_HandleEach.l0 : Nat → List (S79) → Int → Int → Int → List (S151) → ByteArray → List (S104) → List (S39) → Option (Bool)
  | 0, _, _, _, _, _, _, _, _ => none
  | k + 1, x3, x27, x28, x235000, x235001, x235002, x235003, x235004 => if x28 < x27 then (if 0 ≤ x28 then (if x28 < (x3.length : Int) then ((handle_Find.f k x235000 x235001 x235002 x235003 x235004 ((rd_T79 x3 x28).f0)).bind fun bt243 => (if bt243.2 = 0 then ((arboretref12_Equal.f k bt243.1 ((rd_T79 x3 x28).f1)).bind fun t248 => (if t248 = true then (arboretlaw08_HandleEach.l0 k x3 x27 (wrap64 (x28 + 1)) x235000 x235001 x235002 x235003 x235004) else (some false))) else (some false))) else (none)) else (none)) else (some true)
end
def arboretlaw08_HandleEach.f (k : Nat) (a0_0 : Int) (l0_1 : List (S151)) (a0_2 : ByteArray) (l0_3 : List (S104)) (l0_4 : List (S39)) : Option (Bool) := (arboretlaw08_awake.f k).bind fun t235 => (if t235 = true then ((arboretlaw03_Few.f k a0_0 l0_1 a0_2 l0_3 l0_4).bind fun t236 => (arboretlaw08_HandleEach.j0 k (!t236) a0_0 l0_1 a0_2 l0_3 l0_4)) else (arboretlaw08_HandleEach.j0 k true a0_0 l0_1 a0_2 l0_3 l0_4))
def arboretlaw08_HandleEach.T9 : Bool × List (List Nat × List Nat) := (true, [([], []), ([], []), ([], []), ([1, 2], [1, 2]), ([3], [3]), ([4], [4]), ([0, 5], [0, 5]), ([6], [6]), ([7], [7]), ([7], [7]), ([8, 6, 0, 1, 2, 3, 4, 5, 6, 7, 8], [8]), ([9, 10, 0, 1, 2, 3, 4, 5, 6, 7, 8, 9, 10], [9])])
def arboretlaw08_HandleEach.B9 : List Nat := [0, 0, 0, 6, 14, 30, 63, 127, 255, 255, 511, 2047]
theorem arboretlaw08_HandleEach.tab9 : rtab .any (opsOf Try.f11 9) = arboretlaw08_HandleEach.T9 := by kernel_rfl
theorem arboretlaw08_HandleEach.bits9 : waitsOk arboretlaw08_HandleEach.T9.2 arboretlaw08_HandleEach.B9 = true := by kernel_rfl
set_option maxHeartbeats 8000000 in
set_option maxRecDepth 100000 in
theorem arboretlaw08_HandleEach.calls (k : Nat) (a0_0 : Int) (A0_1 : Option Addr) (c0_1 : Nat) (l0_1 : List (S151)) (a0_2 : ByteArray) (A0_3 : Option Addr) (c0_3 : Nat) (l0_3 : List (S104)) (A0_4 : Option Addr) (c0_4 : Nat) (l0_4 : List (S39)) (r : Bool) (w : World) (hr0_1 : Kd.C k151 w A0_1 l0_1.length l0_1) (hc0_1 : l0_1.length ≤ c0_1) (hr0_3 : Kd.C k104 w A0_3 l0_3.length l0_3) (hc0_3 : l0_3.length ≤ c0_3) (hr0_4 : Kd.C k39 w A0_4 l0_4.length l0_4) (hc0_4 : l0_4.length ≤ c0_4) (h : arboretlaw08_HandleEach.f k a0_0 l0_1 a0_2 l0_3 l0_4 = some r) :
    Calls Try.prog 11 #[.agg #[.int .u32 a0_0, .slice A0_1 l0_1.length c0_1, .string a0_2, .slice A0_3 l0_3.length c0_3, .slice A0_4 l0_4.length c0_4]] w fun e w' => e = .returned (.bool r) ∧ Below w.heap.size w w' := by
  have hu43 := Try.underlying43
  have HR0_1 := Aside0.mk hr0_1
  have HC0_1 := Aside0.mk hc0_1
  clear hr0_1 hc0_1
  have HR0_3 := Aside0.mk hr0_3
  have HC0_3 := Aside0.mk hc0_3
  clear hr0_3 hc0_3
  have HR0_4 := Aside0.mk hr0_4
  have HC0_4 := Aside0.mk hc0_4
  clear hr0_4 hc0_4
  have HB := Aside0.mk (Below.refl w.heap.size w)
  have H : ((arboretlaw08_awake.f k).bind fun t235 => (if t235 = true then ((arboretlaw03_Few.f k a0_0 l0_1 a0_2 l0_3 l0_4).bind fun t236 => (arboretlaw08_HandleEach.j0 k (!t236) a0_0 l0_1 a0_2 l0_3 l0_4)) else (arboretlaw08_HandleEach.j0 k true a0_0 l0_1 a0_2 l0_3 l0_4))) = some r := h
  clear h
  have HC2 := Aside0.mk H
  clear H
  go_enter Try.func11, Try.ntmps11
  go_upto_region 1 with (first | ((with_reducible refine gate_dst (N := 1) rfl ?_); refine box_event ?hg (N := 1) ?hd (cs := #[.int .u32 a0_0, .slice A0_1 l0_1.length c0_1, .string a0_2, .slice A0_3 l0_3.length c0_3, .slice A0_4 l0_4.length c0_4]) (t := 43) ?hr ?_; (case hd => rfl); (case hg => rfl); (case hr => first | (go_simp; done) | (go_simp; rfl)); intro gb234 hg w3 hbox hb; have n0_ := Aside0.mk (below_step (by repeat (first | (with_reducible first | exact HB.out | apply below_alloc | apply pw_below_drewN | apply below_drew1) | exact HB.out)) hb); have n1_ := Aside0.mk (hbox); have n2_ := Aside0.mk ((by rw [hg]; exact (below_size (by repeat (first | (with_reducible first | exact HB.out | apply below_alloc | apply pw_below_drewN | apply below_drew1) | exact HB.out))) : w.heap.size ≤ gb234)); have n3_ := Aside0.mk ((by rw [hg]; exact (below_size (by repeat (first | (with_reducible first | exact HB.out | apply below_alloc | apply pw_below_drewN | apply below_drew1) | exact HB.out))) : w.heap.size ≤ gb234)); clear HB; have HB := n0_; have BK234 := n1_; have GW234 := n2_; have GE234 := n3_; clear n0_ n1_ n2_ n3_; clear hb hbox hg))
  (try simp only [Act.put, List.setIfInBounds_toArray, List.set_cons_zero, List.set_cons_succ])
  go_cut [14] (fun v14 wc => ∃ (kq : Nat) (x14_1 : Bool), v14 = .bool x14_1 ∧ Aside0 (arboretlaw08_HandleEach.j0 kq x14_1 a0_0 l0_1 a0_2 l0_3 l0_4 = some r) ∧ Aside0 (kq ≤ k) ∧ Aside0 (wc.heap[gb234]? = some (.cells #[.int .u32 a0_0, (.slice A0_1 l0_1.length c0_1), .string a0_2, (.slice A0_3 l0_3.length c0_3), (.slice A0_4 l0_4.length c0_4)] 43 (0, 0))) ∧ Aside0 (Below w.heap.size w wc))
  case first =>
    have H := HC2.out
    clear HC2
    replace H := Option.bind_eq_some_iff.mp H
    obtain ⟨t235, A40, H⟩ := H
    replace H : (if t235 = true then ((arboretlaw03_Few.f k a0_0 l0_1 a0_2 l0_3 l0_4).bind fun t236 => (arboretlaw08_HandleEach.j0 k (!t236) a0_0 l0_1 a0_2 l0_3 l0_4)) else (arboretlaw08_HandleEach.j0 k true a0_0 l0_1 a0_2 l0_3 l0_4)) = some r := H
    have A4 := Aside0.mk A40
    clear A40
    by_cases c5 : t235 = true
    · subst c5
      have H1 : ((arboretlaw03_Few.f k a0_0 l0_1 a0_2 l0_3 l0_4).bind fun t236 => (arboretlaw08_HandleEach.j0 k (!t236) a0_0 l0_1 a0_2 l0_3 l0_4)) = some r := by rw [if_pos rfl] at H; exact H
      clear H
      have H := H1
      clear H1
      replace H := Option.bind_eq_some_iff.mp H
      obtain ⟨t236, A60, H⟩ := H
      replace H : (arboretlaw08_HandleEach.j0 k (!t236) a0_0 l0_1 a0_2 l0_3 l0_4) = some r := H
      have A6 := Aside0.mk A60
      clear A60
      have H' := Aside0.mk H
      clear H
      go_wp2_with (first | ((with_reducible refine gate_callee (f := 36) rfl ?_); refine goesL_ (some 8) rfl rfl Try.func36 (by kernel_rfl) rfl #[] rfl (by (try simp only [List.map_toArray, List.map_cons, List.map_nil]); first | done | rfl | (simp only [List.length_drop, List.length_take]; rfl)) ?_; (with_reducible refine (arboretlaw08_awake.calls k  true _ A4.out).mono ?_); rintro e w7 ⟨rfl, hb⟩; refine ⟨_, rfl, ?_⟩; have n0_ := Aside0.mk (blk_below (g := gb234) (o := .cells #[.int .u32 a0_0, .slice A0_1 l0_1.length c0_1, .string a0_2, .slice A0_3 l0_3.length c0_3, .slice A0_4 l0_4.length c0_4] 43 (0, 0)) (by (with_reducible repeat (first | refine blk_drewN ?_ _ | refine blk_drew ?_ | refine blk_alloc ?_ _)); exact BK234.out) hb); have n1_ := Aside0.mk (below_step (by repeat (first | (with_reducible first | exact HB.out | apply below_alloc | apply pw_below_drewN | apply below_drew1 | refine below_set ?_ GE234.out) | exact HB.out)) hb); clear BK234; clear HB; have BK234 := n0_; have HB := n1_; clear n0_ n1_; (try clear hb); (try clear hb2); (try clear hk); (try clear hi); have hcz8_0 : w7.cell? ⟨gb234, 0, none⟩ = some (.int .u32 a0_0) := (blk_cell BK234.out 0).trans rfl; have hcz8_1 : w7.cell? ⟨gb234, 1, none⟩ = some (.slice A0_1 l0_1.length c0_1) := (blk_cell BK234.out 1).trans rfl; have hcz8_2 : w7.cell? ⟨gb234, 2, none⟩ = some (.string a0_2) := (blk_cell BK234.out 2).trans rfl; have hcz8_3 : w7.cell? ⟨gb234, 3, none⟩ = some (.slice A0_3 l0_3.length c0_3) := (blk_cell BK234.out 3).trans rfl; have hcz8_4 : w7.cell? ⟨gb234, 4, none⟩ = some (.slice A0_4 l0_4.length c0_4) := (blk_cell BK234.out 4).trans rfl; have hfz8_0 := blk_frozen BK234.out 0; have hfz8_1 := blk_frozen BK234.out 1; have hfz8_2 := blk_frozen BK234.out 2; have hfz8_3 := blk_frozen BK234.out 3; have hfz8_4 := blk_frozen BK234.out 4) | (go_at_call 21; (with_reducible refine (arboretlaw03_Few.calls k a0_0 _ _ l0_1 a0_2 _ _ l0_3 _ _ l0_4 t236 _ ?side1 ?side2 ?side3 ?side4 ?side5 ?side6 A6.out).mono ?_); (case side1 => repeat (first | exact (Kd.C_below HR0_1.out HB.out) | (with_reducible refine Kd.C_alloc ?_ _) | (with_reducible refine Kd.C_drewN ?_ _) | (with_reducible refine Kd.C_drew ?_))); (case side2 => exact HC0_1.out); (case side3 => repeat (first | exact (Kd.C_below HR0_3.out HB.out) | (with_reducible refine Kd.C_alloc ?_ _) | (with_reducible refine Kd.C_drewN ?_ _) | (with_reducible refine Kd.C_drew ?_))); (case side4 => exact HC0_3.out); (case side5 => repeat (first | exact (Kd.C_below HR0_4.out HB.out) | (with_reducible refine Kd.C_alloc ?_ _) | (with_reducible refine Kd.C_drewN ?_ _) | (with_reducible refine Kd.C_drew ?_))); (case side6 => exact HC0_4.out); rintro e w9 ⟨rfl, hb⟩; have n0_ := Aside0.mk (blk_below (g := gb234) (o := .cells #[.int .u32 a0_0, .slice A0_1 l0_1.length c0_1, .string a0_2, .slice A0_3 l0_3.length c0_3, .slice A0_4 l0_4.length c0_4] 43 (0, 0)) (by (with_reducible repeat (first | refine blk_drewN ?_ _ | refine blk_drew ?_ | refine blk_alloc ?_ _)); exact BK234.out) hb); have n1_ := Aside0.mk (below_step (by repeat (first | (with_reducible first | exact HB.out | apply below_alloc | apply pw_below_drewN | apply below_drew1 | refine below_set ?_ GE234.out) | exact HB.out)) hb); clear BK234; clear HB; have BK234 := n0_; have HB := n1_; clear n0_ n1_; (try clear hb); (try clear hb2); (try clear hk); (try clear hi)))
      go_meet
      case rel => exact ⟨_, (!t236), (by first | rfl | (simp; done) | (simp [*]; done)), H', ⟨by first | omega | exact Nat.le_refl _⟩, ⟨by (with_reducible repeat (first | refine blk_drewN ?_ _ | refine blk_drew ?_ | refine blk_alloc ?_ _)); exact BK234.out⟩, ⟨by repeat (first | (with_reducible first | exact HB.out | apply below_alloc | apply pw_below_drewN | apply below_drew1 | refine below_set ?_ GE234.out) | exact HB.out)⟩⟩
    · replace c5 := Bool.eq_false_iff.mpr c5
      subst c5
      have H1 : (arboretlaw08_HandleEach.j0 k true a0_0 l0_1 a0_2 l0_3 l0_4) = some r := by rw [if_neg (show ¬ (false = true) by decide)] at H; exact H
      clear H
      have H := H1
      clear H1
      have H' := Aside0.mk H
      clear H
      go_wp2_with (first | ((with_reducible refine gate_callee (f := 36) rfl ?_); refine goesL_ (some 8) rfl rfl Try.func36 (by kernel_rfl) rfl #[] rfl (by (try simp only [List.map_toArray, List.map_cons, List.map_nil]); first | done | rfl | (simp only [List.length_drop, List.length_take]; rfl)) ?_; (with_reducible refine (arboretlaw08_awake.calls k  false _ A4.out).mono ?_); rintro e w10 ⟨rfl, hb⟩; refine ⟨_, rfl, ?_⟩; have n0_ := Aside0.mk (blk_below (g := gb234) (o := .cells #[.int .u32 a0_0, .slice A0_1 l0_1.length c0_1, .string a0_2, .slice A0_3 l0_3.length c0_3, .slice A0_4 l0_4.length c0_4] 43 (0, 0)) (by (with_reducible repeat (first | refine blk_drewN ?_ _ | refine blk_drew ?_ | refine blk_alloc ?_ _)); exact BK234.out) hb); have n1_ := Aside0.mk (below_step (by repeat (first | (with_reducible first | exact HB.out | apply below_alloc | apply pw_below_drewN | apply below_drew1 | refine below_set ?_ GE234.out) | exact HB.out)) hb); clear BK234; clear HB; have BK234 := n0_; have HB := n1_; clear n0_ n1_; (try clear hb); (try clear hb2); (try clear hk); (try clear hi)))
      go_meet
      case rel => exact ⟨_, (true), (by first | rfl | (simp; done) | (simp [*]; done)), H', ⟨by first | omega | exact Nat.le_refl _⟩, ⟨by (with_reducible repeat (first | refine blk_drewN ?_ _ | refine blk_drew ?_ | refine blk_alloc ?_ _)); exact BK234.out⟩, ⟨by repeat (first | (with_reducible first | exact HB.out | apply below_alloc | apply pw_below_drewN | apply below_drew1 | refine below_set ?_ GE234.out) | exact HB.out)⟩⟩
  case rest =>
    clear HC2
    try clear c1
    try clear p2
    try clear c3
    try clear c5
    try clear hcz8_0
    try clear hcz8_1
    try clear hcz8_2
    try clear hcz8_3
    try clear hcz8_4
    try clear hfz8_0
    try clear hfz8_1
    try clear hfz8_2
    try clear hfz8_3
    try clear hfz8_4
    obtain ⟨kq, x14_1, rfl, HA, HJ1, BK234, HB⟩ := hcut
    cases kq with
    | zero => exact absurd HA.out (by simp [arboretlaw08_HandleEach.j0])
    | succ kj1 =>
      have H := HA.out
      clear HA
      simp only [arboretlaw08_HandleEach.j0] at H
      by_cases c11 : x14_1 = true
      · subst c11
        have H1 : ((arboretlaw08_awake.f kj1).bind fun t237 => (some t237)) = some r := by rw [if_pos rfl] at H; exact H
        clear H
        have H := H1
        clear H1
        replace H := Option.bind_eq_some_iff.mp H
        obtain ⟨t237, A120, H⟩ := H
        replace H : (some t237) = some r := H
        have A12 := Aside0.mk A120
        clear A120
        obtain rfl := Option.some.inj H
        go_wp2_with (first | ((with_reducible refine gate_callee (f := 36) rfl ?_); refine goesL_ (some 15) rfl rfl Try.func36 (by kernel_rfl) rfl #[] rfl (by (try simp only [List.map_toArray, List.map_cons, List.map_nil]); first | done | rfl | (simp only [List.length_drop, List.length_take]; rfl)) ?_; (with_reducible refine (arboretlaw08_awake.calls kj1  t237 _ A12.out).mono ?_); rintro e w13 ⟨rfl, hb⟩; refine ⟨_, rfl, ?_⟩; have n0_ := Aside0.mk (blk_below (g := gb234) (o := .cells #[.int .u32 a0_0, .slice A0_1 l0_1.length c0_1, .string a0_2, .slice A0_3 l0_3.length c0_3, .slice A0_4 l0_4.length c0_4] 43 (0, 0)) (by (with_reducible repeat (first | refine blk_drewN ?_ _ | refine blk_drew ?_ | refine blk_alloc ?_ _)); exact BK234.out) hb); have n1_ := Aside0.mk (below_step (by repeat (first | (with_reducible first | exact HB.out | apply below_alloc | apply pw_below_drewN | apply below_drew1 | refine below_set ?_ GE234.out) | exact HB.out)) hb); clear BK234; clear HB; have BK234 := n0_; have HB := n1_; clear n0_ n1_; (try clear hb); (try clear hb2); (try clear hk); (try clear hi)))
        go_ret
        exact ⟨by first | rfl | (simp [errW_none, errW_some] <;> rfl) | (simp [*, errW_none, errW_some] <;> rfl), by repeat (first | (with_reducible first | exact HB.out | apply below_alloc | apply pw_below_drewN | apply below_drew1 | refine below_set ?_ GE234.out) | exact HB.out)⟩
      · replace c11 := Bool.eq_false_iff.mpr c11
        subst c11
        have H1 : ((handle_Index.f kj1 a0_0 l0_1 a0_2 l0_3 l0_4).bind fun bt238 => (if bt238.2 = 0 then (arboretlaw08_HandleEach.l0 kj1 bt238.1 (bt238.1.length : Int) 0 a0_0 l0_1 a0_2 l0_3 l0_4) else (some ((bt238.1.length : Int) == 0)))) = some r := by rw [if_neg (show ¬ (false = true) by decide)] at H; exact H
        clear H
        have H := H1
        clear H1
        replace H := Option.bind_eq_some_iff.mp H
        obtain ⟨⟨t238, t241⟩, A140, H⟩ := H
        replace H : (if t241 = 0 then (arboretlaw08_HandleEach.l0 kj1 t238 (t238.length : Int) 0 a0_0 l0_1 a0_2 l0_3 l0_4) else (some ((t238.length : Int) == 0))) = some r := H
        have A14 := Aside0.mk A140
        clear A140
        by_cases c15 : t241 = 0
        · rw [if_pos c15] at H
          have c15b0 : (t241 == 0) = true := beq_iff_eq.mpr c15
          have c15b1 : (t241 != 0) = false := bne_eq_false_iff_eq.mpr c15
          clear c15
          have H' := Aside0.mk H
          clear H
          have hcz16_0 : wc.cell? ⟨gb234, 0, none⟩ = some (.int .u32 a0_0) := (blk_cell BK234.out 0).trans rfl
          have hcz16_1 : wc.cell? ⟨gb234, 1, none⟩ = some (.slice A0_1 l0_1.length c0_1) := (blk_cell BK234.out 1).trans rfl
          have hcz16_2 : wc.cell? ⟨gb234, 2, none⟩ = some (.string a0_2) := (blk_cell BK234.out 2).trans rfl
          have hcz16_3 : wc.cell? ⟨gb234, 3, none⟩ = some (.slice A0_3 l0_3.length c0_3) := (blk_cell BK234.out 3).trans rfl
          have hcz16_4 : wc.cell? ⟨gb234, 4, none⟩ = some (.slice A0_4 l0_4.length c0_4) := (blk_cell BK234.out 4).trans rfl
          have hfz16_0 := blk_frozen BK234.out 0
          have hfz16_1 := blk_frozen BK234.out 1
          have hfz16_2 := blk_frozen BK234.out 2
          have hfz16_3 := blk_frozen BK234.out 3
          have hfz16_4 := blk_frozen BK234.out 4
          go_wp2_with (first | ((with_reducible refine gate_callee (f := 41) rfl ?_); refine goesL_ (some 18) rfl rfl Try.func41 (by kernel_rfl) rfl #[.agg #[.int .u32 a0_0, .slice A0_1 l0_1.length c0_1, .string a0_2, .slice A0_3 l0_3.length c0_3, .slice A0_4 l0_4.length c0_4]] rfl (by (try simp only [List.map_toArray, List.map_cons, List.map_nil]); first | done | rfl | (simp only [List.length_drop, List.length_take]; rfl)) ?_; (with_reducible refine (handle_Index.calls kj1 a0_0 _ _ l0_1 a0_2 _ _ l0_3 _ _ l0_4 t238 t241 _ ?side1 ?side2 ?side3 ?side4 ?side5 ?side6 A14.out).mono ?_); (case side1 => repeat (first | exact (Kd.C_below HR0_1.out HB.out) | (with_reducible refine Kd.C_alloc ?_ _) | (with_reducible refine Kd.C_drewN ?_ _) | (with_reducible refine Kd.C_drew ?_))); (case side2 => exact HC0_1.out); (case side3 => repeat (first | exact (Kd.C_below HR0_3.out HB.out) | (with_reducible refine Kd.C_alloc ?_ _) | (with_reducible refine Kd.C_drewN ?_ _) | (with_reducible refine Kd.C_drew ?_))); (case side4 => exact HC0_3.out); (case side5 => repeat (first | exact (Kd.C_below HR0_4.out HB.out) | (with_reducible refine Kd.C_alloc ?_ _) | (with_reducible refine Kd.C_drewN ?_ _) | (with_reducible refine Kd.C_drew ?_))); (case side6 => exact HC0_4.out); rintro e w17 ⟨v239, rfl, ho0, hb⟩; refine ⟨_, rfl, ?_⟩; have n0_ := Aside0.mk (Kd.S_lower ho0 (below_size (by repeat (first | (with_reducible first | exact HB.out | apply below_alloc | apply pw_below_drewN | apply below_drew1 | refine below_set ?_ GE234.out) | exact HB.out)))); have n1_ := Aside0.mk (blk_below (g := gb234) (o := .cells #[.int .u32 a0_0, .slice A0_1 l0_1.length c0_1, .string a0_2, .slice A0_3 l0_3.length c0_3, .slice A0_4 l0_4.length c0_4] 43 (0, 0)) (by (with_reducible repeat (first | refine blk_drewN ?_ _ | refine blk_drew ?_ | refine blk_alloc ?_ _)); exact BK234.out) hb); have n2_ := Aside0.mk (below_step (by repeat (first | (with_reducible first | exact HB.out | apply below_alloc | apply pw_below_drewN | apply below_drew1 | refine below_set ?_ GE234.out) | exact HB.out)) hb); clear BK234; clear HB; have HO240 := n0_; have BK234 := n1_; have HB := n2_; clear n0_ n1_ n2_; (try clear hb); (try clear hb2); (try clear hk); (try clear hi); (try clear ho0); obtain ⟨Ao18, co18, eo18⟩ := Kd.S_slice HO240.out; subst eo18))
          go_loopg [28] kj1 (fun kq v28 w' => ∃ (x28_2 : Int), v28 = .int .i64 x28_2 ∧ Aside0 (arboretlaw08_HandleEach.l0 kq t238 (t238.length : Int) x28_2 a0_0 l0_1 a0_2 l0_3 l0_4 = some r) ∧ Aside0 (kq ≤ kj1) ∧ Aside0 (Kd.S k79 79 w' w.heap.size (fun _ => True) (.slice Ao18 t238.length co18) t238) ∧ Aside0 (w'.heap[gb234]? = some (.cells #[.int .u32 a0_0, (.slice A0_1 l0_1.length c0_1), .string a0_2, (.slice A0_3 l0_3.length c0_3), (.slice A0_4 l0_4.length c0_4)] 43 (0, 0))) ∧ Aside0 (Below w.heap.size w w'))
          case atStart => exact ⟨(0), (by first | rfl | (simp; done) | (simp [*]; done)), H', ⟨Nat.le_refl _⟩, ⟨by (with_reducible repeat (first | apply Kd.S_alloc | apply Kd.S_drewN | apply Kd.S_drew)); exact HO240.out⟩, ⟨by (with_reducible repeat (first | refine blk_drewN ?_ _ | refine blk_drew ?_ | refine blk_alloc ?_ _)); exact BK234.out⟩, ⟨by repeat (first | (with_reducible first | exact HB.out | apply below_alloc | apply pw_below_drewN | apply below_drew1 | refine below_set ?_ GE234.out) | exact HB.out)⟩⟩
          case round =>
            clear H'
            try clear c1
            try clear p2
            try clear c3
            try clear c4
            try clear c5
            try clear c11
            try clear c15
            try clear c15b0
            try clear c15b1
            try clear hcz16_0
            try clear hcz16_1
            try clear hcz16_2
            try clear hcz16_3
            try clear hcz16_4
            try clear hcz8_0
            try clear hcz8_1
            try clear hcz8_2
            try clear hcz8_3
            try clear hcz8_4
            try clear hfz16_0
            try clear hfz16_1
            try clear hfz16_2
            try clear hfz16_3
            try clear hfz16_4
            try clear hfz8_0
            try clear hfz8_1
            try clear hfz8_2
            try clear hfz8_3
            try clear hfz8_4
            try clear p2
            obtain ⟨x28_2, rfl, HA, HK2, HO_3, BK234, HB⟩ := hrel
            cases gk with
            | zero => exact absurd HA.out (by simp [arboretlaw08_HandleEach.l0])
            | succ k2 =>
              have H := HA.out
              clear HA
              simp only [arboretlaw08_HandleEach.l0] at H
              by_cases c19 : x28_2 < (t238.length : Int)
              · rw [if_pos c19] at H
                have c19b0 : decide (x28_2 < (t238.length : Int)) = true := decide_eq_true c19
                clear c19
                by_cases c20 : 0 ≤ x28_2
                · rw [if_pos c20] at H
                  have c20b0 : decide (0 ≤ x28_2) = true := decide_eq_true c20
                  clear c20
                  by_cases c21 : x28_2 < (t238.length : Int)
                  · rw [if_pos c21] at H
                    have c21b0 : decide (x28_2 < (t238.length : Int)) = true := decide_eq_true c21
                    clear c21
                    replace H := Option.bind_eq_some_iff.mp H
                    obtain ⟨⟨t243, t246⟩, A220, H⟩ := H
                    replace H : (if t246 = 0 then ((arboretref12_Equal.f k2 t243 ((rd_T79 t238 x28_2).f1)).bind fun t248 => (if t248 = true then (arboretlaw08_HandleEach.l0 k2 t238 (t238.length : Int) (wrap64 (x28_2 + 1)) a0_0 l0_1 a0_2 l0_3 l0_4) else (some false))) else (some false)) = some r := H
                    have A22 := Aside0.mk A220
                    clear A220
                    by_cases c23 : t246 = 0
                    · rw [if_pos c23] at H
                      have c23b0 : (t246 == 0) = true := beq_iff_eq.mpr c23
                      have c23b1 : (t246 != 0) = false := bne_eq_false_iff_eq.mpr c23
                      clear c23
                      replace H := Option.bind_eq_some_iff.mp H
                      obtain ⟨t248, A240, H⟩ := H
                      replace H : (if t248 = true then (arboretlaw08_HandleEach.l0 k2 t238 (t238.length : Int) (wrap64 (x28_2 + 1)) a0_0 l0_1 a0_2 l0_3 l0_4) else (some false)) = some r := H
                      have A24 := Aside0.mk A240
                      clear A240
                      by_cases c25 : t248 = true
                      · subst c25
                        have H1 : (arboretlaw08_HandleEach.l0 k2 t238 (t238.length : Int) (wrap64 (x28_2 + 1)) a0_0 l0_1 a0_2 l0_3 l0_4) = some r := by rw [if_pos rfl] at H; exact H
                        clear H
                        have H := H1
                        clear H1
                        have H' := Aside0.mk H
                        clear H
                        try go_wp2
                        have n0_ := Aside0.mk (Kd.S_drew HO_3.out)
                        have n1_ := Aside0.mk (blk_drew BK234.out)
                        have n2_ := Aside0.mk (below_drew1 HB.out)
                        clear HO_3
                        clear BK234
                        clear HB
                        have HO_3 := n0_
                        have BK234 := n1_
                        have HB := n2_
                        clear n0_ n1_ n2_
                        have p242 : 0 ≤ (x28_2 : Int) := of_decide_eq_true (by first | (with_reducible assumption) | assumption)
                        have q242 : x28_2 < (t238.length : Int) := of_decide_eq_true (by first | (with_reducible assumption) | assumption)
                        obtain ⟨ad242, A242_1, c242_1, e242, hx242_0, hx242_1, hl242_1, hi242_1⟩ := at_T79 (Kd.S_reads' HO_3.out).2.2 x28_2 p242 q242
                        cases e242
                        obtain ⟨ce242, hce242, hMe242, hcc242⟩ := Kd.S_get HO_3.out z79 x28_2 p242 (by first | exact q242 | exact of_decide_eq_true (by first | (with_reducible assumption) | assumption) | (have e_ := (Kd.S_reads' HO_3.out).1; omega))
                        obtain ⟨ve242_1, rfl, ge242_1⟩ := k79_openM hMe242
                        have hv242_1 := hcc242 1 _ rfl
                        rw [add_field _ _ 1 (by omega)] at hv242_1
                        replace hv242_1 := Option.some.inj (hv242_1.symm.trans hx242_1)
                        rw [hv242_1] at ge242_1
                        have HL242_1 := Aside0.mk (show Kd.R (Kd.int .i64) 3 _ _ _ _ ((rd_T79 t238 x28_2).f1) from ge242_1)
                        clear hv242_1 ge242_1
                        clear hcc242 hce242
                        have HR242_1 := Aside0.mk hi242_1
                        have HC242_1 := Aside0.mk hl242_1
                        clear hi242_1 hl242_1
                        replace p242 := eq_true p242
                        replace q242 := eq_true q242
                        refine start_ (n := 12) (S := fun w' => w'.cell? ⟨gb234, 0, none⟩ = some (.int .u32 a0_0) ∧ w'.cell? ⟨gb234, 1, none⟩ = some (.slice A0_1 l0_1.length c0_1) ∧ w'.cell? ⟨gb234, 2, none⟩ = some (.string a0_2) ∧ w'.cell? ⟨gb234, 3, none⟩ = some (.slice A0_3 l0_3.length c0_3) ∧ w'.cell? ⟨gb234, 4, none⟩ = some (.slice A0_4 l0_4.length c0_4) ∧ w'.cell? (ad242.add ((x28_2).toNat * 2)) = some (.int .u32 ((rd_T79 t238 x28_2).f0)) ∧ w'.cell? ⟨(ad242.add ((x28_2).toNat * 2)).block, (ad242.add ((x28_2).toNat * 2)).off + 1, none⟩ = some (.slice A242_1 ((rd_T79 t238 x28_2).f1).length c242_1)) (ds := []) #[false, false, false, false, false, false, false, false, false, false, false, false] (by kernel_rfl) rfl rfl ⟨(blk_cell BK234.out 0).trans rfl, (blk_cell BK234.out 1).trans rfl, (blk_cell BK234.out 2).trans rfl, (blk_cell BK234.out 3).trans rfl, (blk_cell BK234.out 4).trans rfl, hx242_0, hx242_1⟩ (fun hHeld => ?_); refine with_tabW arboretlaw08_HandleEach.tab9 arboretlaw08_HandleEach.bits9 (fun HT_ HW_ => ?_)
                        generalize wr.drew = w26 at HO_3 BK234 HB HL242_1 HR242_1 hx242_0 hx242_1 hHeld ⊢
                        refine pure_ (i := 1) (N := some 33) (v := ?_) (a' := ?_) #[false, true, false, false, false, false, false, false, false, false, false, false] rfl rfl (any_of HT_.out (by kernel_rfl)) (fun _ _ _ h => h) (Or.inl ⟨by rfl, ?_⟩) ?_ ?_
                        rotate_left
                        · intro w'
                          go_simp
                          with_reducible rfl
                        rotate_left
                        · simp only [Act.put, List.setIfInBounds_toArray, List.set_cons_zero, List.set_cons_succ, i64_w, i32_w]
                          rfl
                        refine pure_ (i := 2) (N := some 34) (v := ?_) (a' := ?_) #[false, true, true, false, false, false, false, false, false, false, false, false] rfl rfl (any_of HT_.out (by kernel_rfl)) (fun _ _ _ h => h) (Or.inl ⟨by rfl, ?_⟩) ?_ ?_
                        rotate_left
                        · intro w'
                          go_simp
                          with_reducible rfl
                        rotate_left
                        · simp only [Act.put, List.setIfInBounds_toArray, List.set_cons_zero, List.set_cons_succ, i64_w, i32_w]
                          rfl
                        refine pure_ (i := 3) (N := some 35) (v := ?_) (a' := ?_) #[false, true, true, true, false, false, false, false, false, false, false, false] rfl rfl (any_of HT_.out (by kernel_rfl)) (fun _ _ _ h => h) (Or.inl ⟨by rfl, ?_⟩) ?_ ?_
                        rotate_left
                        · intro w'
                          go_simp
                          with_reducible rfl
                        rotate_left
                        · simp only [Act.put, List.setIfInBounds_toArray, List.set_cons_zero, List.set_cons_succ, i64_w, i32_w]
                          rfl
                        refine pure_ (i := 4) (N := some 36) (v := ?_) (a' := ?_) #[false, true, true, true, true, false, false, false, false, false, false, false] rfl rfl (any_of HT_.out (by kernel_rfl)) (fun _ _ _ h => h) (Or.inl ⟨by rfl, ?_⟩) ?_ ?_
                        rotate_left
                        · intro w'
                          go_simp
                          with_reducible rfl
                        rotate_left
                        · simp only [Act.put, List.setIfInBounds_toArray, List.set_cons_zero, List.set_cons_succ, i64_w, i32_w]
                          rfl
                        refine take_ (i := 0) (N := some 32) (v := ?_) (a' := ?_) #[true, true, true, true, true, false, false, false, false, false, false, false] rfl rfl (take_ofW HT_.out HW_.out (by kernel_rfl)) (fun _ _ _ h => h) (Or.inl ⟨by rfl, ?_⟩) hHeld ?_ ?_
                        rotate_left
                        · rintro w' ⟨s0, s1, s2, s3, s4, s5, s6⟩
                          go_simp
                          with_reducible rfl
                        rotate_left
                        · simp only [Act.put, List.setIfInBounds_toArray, List.set_cons_zero, List.set_cons_succ, i64_w, i32_w]
                          rfl
                        refine take_ (i := 5) (N := some 37) (v := ?_) (a' := ?_) #[true, true, true, true, true, true, false, false, false, false, false, false] rfl rfl (take_ofW HT_.out HW_.out (by kernel_rfl)) (fun _ _ _ h => h) (Or.inl ⟨by rfl, ?_⟩) hHeld ?_ ?_
                        rotate_left
                        · rintro w' ⟨s0, s1, s2, s3, s4, s5, s6⟩
                          go_simp
                          with_reducible rfl
                        rotate_left
                        · simp only [Act.put, List.setIfInBounds_toArray, List.set_cons_zero, List.set_cons_succ, i64_w, i32_w]
                          rfl
                        refine one_ (i := 6) (N := some 38) #[true, true, true, true, true, true, true, false, false, false, false, false] rfl rfl (one_of HT_.out (by kernel_rfl)) (by decide) (fun K hK => ?_)
                        refine goes_ Try.func37 (by kernel_rfl) rfl #[.agg #[.int .u32 a0_0, .slice A0_1 l0_1.length c0_1, .string a0_2, .slice A0_3 l0_3.length c0_3, .slice A0_4 l0_4.length c0_4], .int .u32 ((rd_T79 t238 x28_2).f0)] (by rfl) rfl rfl (by (try simp only [List.map_toArray, List.map_cons, List.map_nil]); first | done | rfl | (simp only [List.length_drop, List.length_take]; rfl)) ?_
                        with_reducible refine (handle_Find.calls k2 a0_0 _ _ l0_1 a0_2 _ _ l0_3 _ _ l0_4 ((rd_T79 t238 x28_2).f0) t243 t246 _ ?side1 ?side2 ?side3 ?side4 ?side5 ?side6 A22.out).mono ?_
                        (case side1 => repeat (first | exact (Kd.C_below HR0_1.out HB.out) | (with_reducible refine Kd.C_alloc ?_ _) | (with_reducible refine Kd.C_drewN ?_ _) | (with_reducible refine Kd.C_drew ?_)))
                        (case side2 => exact HC0_1.out)
                        (case side3 => repeat (first | exact (Kd.C_below HR0_3.out HB.out) | (with_reducible refine Kd.C_alloc ?_ _) | (with_reducible refine Kd.C_drewN ?_ _) | (with_reducible refine Kd.C_drew ?_)))
                        (case side4 => exact HC0_3.out)
                        (case side5 => repeat (first | exact (Kd.C_below HR0_4.out HB.out) | (with_reducible refine Kd.C_alloc ?_ _) | (with_reducible refine Kd.C_drewN ?_ _) | (with_reducible refine Kd.C_drew ?_)))
                        (case side6 => exact HC0_4.out)
                        rintro e w27 ⟨v244, rfl, ho0, hb⟩
                        have HS5_ := (hb.cell (World.block_lt_of_cell? _ _ (hHeld.2.2.2.2.2.1))).trans (hHeld.2.2.2.2.2.1)
                        have HS6_ := (hb.cell (World.block_lt_of_cell? _ _ (hHeld.2.2.2.2.2.2))).trans (hHeld.2.2.2.2.2.2)
                        refine ⟨_, rfl, ?_⟩
                        have n0_ := Aside0.mk (Kd.S_elder' (by (with_reducible repeat (first | apply Kd.S_alloc | apply Kd.S_drewN | apply Kd.S_drew)); exact HO_3.out) (Kd.R_base ho0) hb)
                        have n1_ := Aside0.mk (Kd.R_elder' (by (with_reducible repeat (first | apply Kd.R_alloc | apply Kd.R_drewN | apply Kd.R_drew)); exact HL242_1.out) (Kd.R_base ho0) hb)
                        have n2_ := Aside0.mk (Kd.R_lower (Kd.R_new' ho0 (Kd.R_lt (by (with_reducible repeat (first | apply Kd.R_alloc | apply Kd.R_drewN | apply Kd.R_drew)); exact HL242_1.out))) (below_size (by repeat (first | (with_reducible first | exact HB.out | apply below_alloc | apply pw_below_drewN | apply below_drew1 | refine below_set ?_ GE234.out) | exact HB.out))))
                        have n3_ := Aside0.mk (blk_below (g := gb234) (o := .cells #[.int .u32 a0_0, .slice A0_1 l0_1.length c0_1, .string a0_2, .slice A0_3 l0_3.length c0_3, .slice A0_4 l0_4.length c0_4] 43 (0, 0)) (by (with_reducible repeat (first | refine blk_drewN ?_ _ | refine blk_drew ?_ | refine blk_alloc ?_ _)); exact BK234.out) hb)
                        have n4_ := Aside0.mk (Kd.C_below (by repeat (first | (with_reducible exact HR242_1.out) | (with_reducible refine Kd.C_alloc ?_ _) | (with_reducible refine Kd.C_drewN ?_ _) | (with_reducible refine Kd.C_drew ?_) | exact HR242_1.out)) hb)
                        have n5_ := Aside0.mk (below_step (by repeat (first | (with_reducible first | exact HB.out | apply below_alloc | apply pw_below_drewN | apply below_drew1 | refine below_set ?_ GE234.out) | exact HB.out)) hb)
                        clear HO_3
                        clear HL242_1
                        clear BK234
                        clear HR242_1
                        clear HB
                        have HO_3 := n0_
                        have HL242_1 := n1_
                        have HO245 := n2_
                        have BK234 := n3_
                        have HR242_1 := n4_
                        have HB := n5_
                        clear n0_ n1_ n2_ n3_ n4_ n5_
                        (try clear hb)
                        (try clear hb2)
                        (try clear hk)
                        (try clear hi)
                        (try clear ho0)
                        refine hK.out _ _ ⟨(blk_cell BK234.out 0).trans rfl, (blk_cell BK234.out 1).trans rfl, (blk_cell BK234.out 2).trans rfl, (blk_cell BK234.out 3).trans rfl, (blk_cell BK234.out 4).trans rfl, HS5_, HS6_⟩ (fun hHeld => ?_)
                        clear hK K
                        refine norm_ (a' := ?_) ?_ ?_
                        rotate_left
                        · show Act.put _ (some 38) _ = _
                          simp only [Act.put, List.setIfInBounds_toArray, List.set_cons_zero, List.set_cons_succ, i64_w, i32_w]
                          rfl
                        refine pure_ (i := 7) (N := some 31) (v := ?_) (a' := ?_) #[true, true, true, true, true, true, true, true, false, false, false, false] rfl rfl (any_of HT_.out (by kernel_rfl)) (fun _ _ _ h => h) (Or.inl ⟨by rfl, ?_⟩) ?_ ?_
                        rotate_left
                        · intro w'
                          go_simp
                          with_reducible rfl
                        rotate_left
                        · simp only [Act.put, List.setIfInBounds_toArray, List.set_cons_zero, List.set_cons_succ, i64_w, i32_w]
                          rfl
                        refine pure_ (i := 8) (N := some 39) (v := ?_) (a' := ?_) #[true, true, true, true, true, true, true, true, true, false, false, false] rfl rfl (any_of HT_.out (by kernel_rfl)) (fun _ _ _ h => h) (Or.inl ⟨by rfl, ?_⟩) ?_ ?_
                        rotate_left
                        · intro w'
                          go_simp
                          with_reducible rfl
                        rotate_left
                        · simp only [Act.put, List.setIfInBounds_toArray, List.set_cons_zero, List.set_cons_succ, i64_w, i32_w]
                          rfl
                        refine pure_ (i := 9) (N := some 40) (v := ?_) (a' := ?_) #[true, true, true, true, true, true, true, true, true, true, false, false] rfl rfl (any_of HT_.out (by kernel_rfl)) (fun _ _ _ h => h) (Or.inl ⟨by rfl, ?_⟩) ?_ ?_
                        rotate_left
                        · intro w'
                          go_simp
                          with_reducible rfl
                        rotate_left
                        · simp only [Act.put, List.setIfInBounds_toArray, List.set_cons_zero, List.set_cons_succ, i64_w, i32_w]
                          rfl
                        refine pure_ (i := 10) (N := some 6) (v := ?_) (a' := ?_) #[true, true, true, true, true, true, true, true, true, true, true, false] rfl rfl (any_of HT_.out (by kernel_rfl)) (fun _ _ _ h => h) (Or.inl ⟨by rfl, ?_⟩) ?_ ?_
                        rotate_left
                        · intro w'
                          go_simp
                          with_reducible rfl
                        rotate_left
                        · simp only [Act.put, List.setIfInBounds_toArray, List.set_cons_zero, List.set_cons_succ, i64_w, i32_w]
                          rfl
                        refine pure_ (i := 11) (N := some 7) (v := ?_) (a' := ?_) #[true, true, true, true, true, true, true, true, true, true, true, true] rfl rfl (any_of HT_.out (by kernel_rfl)) (fun _ _ _ h => h) (Or.inl ⟨by rfl, ?_⟩) ?_ ?_
                        rotate_left
                        · intro w'
                          go_simp
                          with_reducible rfl
                        rotate_left
                        · simp only [Act.put, List.setIfInBounds_toArray, List.set_cons_zero, List.set_cons_succ, i64_w, i32_w]
                          rfl
                        refine done_ (done_of HT_.out (by kernel_rfl)) ?_
                        have p247 : 0 ≤ (x28_2 : Int) := of_decide_eq_true (by first | (with_reducible assumption) | assumption)
                        have q247 : x28_2 < (t238.length : Int) := of_decide_eq_true (by first | (with_reducible assumption) | assumption)
                        obtain ⟨ad247, A247_1, c247_1, e247, hx247_0, hx247_1, hl247_1, hi247_1⟩ := at_T79 (Kd.S_reads' HO_3.out).2.2 x28_2 p247 q247
                        obtain rfl : ad242 = ad247 := (by injection e247)
                        (try clear hHeld); (try clear HS0_); (try clear HS1_); (try clear HS2_); (try clear HS3_); (try clear HS4_); (try clear HS5_); (try clear HS6_); (try clear HS7_); (try clear HS8_); (try clear HS9_)
                        obtain ⟨ce247, hce247, hMe247, hcc247⟩ := Kd.S_get HO_3.out z79 x28_2 p247 (by first | exact q247 | exact of_decide_eq_true (by first | (with_reducible assumption) | assumption) | (have e_ := (Kd.S_reads' HO_3.out).1; omega))
                        obtain ⟨ve247_1, rfl, ge247_1⟩ := k79_openM hMe247
                        have hv247_1 := hcc247 1 _ rfl
                        rw [add_field _ _ 1 (by omega)] at hv247_1
                        replace hv247_1 := Option.some.inj (hv247_1.symm.trans hx247_1)
                        rw [hv247_1] at ge247_1
                        have HL247_1 := Aside0.mk (show Kd.R (Kd.int .i64) 3 _ _ _ _ ((rd_T79 t238 x28_2).f1) from ge247_1)
                        clear hv247_1 ge247_1
                        clear hcc247 hce247
                        have HR247_1 := Aside0.mk hi247_1
                        have HC247_1 := Aside0.mk hl247_1
                        clear hi247_1 hl247_1
                        replace p247 := eq_true p247
                        replace q247 := eq_true q247
                        obtain ⟨Ao28, co28, eo28⟩ := Kd.R_slice HO245.out
                        subst eo28
                        try go_wp2_with (first | (go_at_call 40; (with_reducible refine (arboretref12_Equal.calls k2 _ _ t243 _ _ ((rd_T79 t238 x28_2).f1) true _ ?side1 ?side2 ?side3 ?side4 A24.out).mono ?_); (case side1 => repeat (first | exact (Kd.R_reads' HO245.out).2.2 | (with_reducible refine Kd.C_alloc ?_ _) | (with_reducible refine Kd.C_drewN ?_ _) | (with_reducible refine Kd.C_drew ?_))); (case side2 => exact (Kd.R_reads' HO245.out).2.1); (case side3 => repeat (first | exact (by repeat (first | (with_reducible exact HR247_1.out) | (with_reducible refine Kd.C_alloc ?_ _) | (with_reducible refine Kd.C_drewN ?_ _) | (with_reducible refine Kd.C_drew ?_) | exact HR247_1.out)) | (with_reducible refine Kd.C_alloc ?_ _) | (with_reducible refine Kd.C_drewN ?_ _) | (with_reducible refine Kd.C_drew ?_))); (case side4 => exact HC247_1.out); rintro e w' ⟨rfl, ⟨nd, rfl⟩⟩))
                        go_roundg k2
                        case measure => have := HJ1.out; have := HK2.out; omega
                        case rel => exact ⟨(wrap64 (x28_2 + 1)), (by first | rfl | (simp; done) | (simp [*]; done)), H', ⟨by have := HJ1.out; have := HK2.out; omega⟩, ⟨by (with_reducible repeat (first | apply Kd.S_alloc | apply Kd.S_drewN | apply Kd.S_drew)); exact Kd.S_mono HO_3.out (fun _ hk => trivial)⟩, ⟨by (with_reducible repeat (first | refine blk_drewN ?_ _ | refine blk_drew ?_ | refine blk_alloc ?_ _)); exact BK234.out⟩, ⟨by repeat (first | (with_reducible first | exact HB.out | apply below_alloc | apply pw_below_drewN | apply below_drew1 | refine below_set ?_ GE234.out) | exact HB.out)⟩⟩
                      · replace c25 := Bool.eq_false_iff.mpr c25
                        subst c25
                        have H1 : (some false) = some r := by rw [if_neg (show ¬ (false = true) by decide)] at H; exact H
                        clear H
                        have H := H1
                        clear H1
                        obtain rfl := Option.some.inj H
                        try go_wp2
                        have n0_ := Aside0.mk (Kd.S_drew HO_3.out)
                        have n1_ := Aside0.mk (blk_drew BK234.out)
                        have n2_ := Aside0.mk (below_drew1 HB.out)
                        clear HO_3
                        clear BK234
                        clear HB
                        have HO_3 := n0_
                        have BK234 := n1_
                        have HB := n2_
                        clear n0_ n1_ n2_
                        have p242 : 0 ≤ (x28_2 : Int) := of_decide_eq_true (by first | (with_reducible assumption) | assumption)
                        have q242 : x28_2 < (t238.length : Int) := of_decide_eq_true (by first | (with_reducible assumption) | assumption)
                        obtain ⟨ad242, A242_1, c242_1, e242, hx242_0, hx242_1, hl242_1, hi242_1⟩ := at_T79 (Kd.S_reads' HO_3.out).2.2 x28_2 p242 q242
                        cases e242
                        obtain ⟨ce242, hce242, hMe242, hcc242⟩ := Kd.S_get HO_3.out z79 x28_2 p242 (by first | exact q242 | exact of_decide_eq_true (by first | (with_reducible assumption) | assumption) | (have e_ := (Kd.S_reads' HO_3.out).1; omega))
                        obtain ⟨ve242_1, rfl, ge242_1⟩ := k79_openM hMe242
                        have hv242_1 := hcc242 1 _ rfl
                        rw [add_field _ _ 1 (by omega)] at hv242_1
                        replace hv242_1 := Option.some.inj (hv242_1.symm.trans hx242_1)
                        rw [hv242_1] at ge242_1
                        have HL242_1 := Aside0.mk (show Kd.R (Kd.int .i64) 3 _ _ _ _ ((rd_T79 t238 x28_2).f1) from ge242_1)
                        clear hv242_1 ge242_1
                        clear hcc242 hce242
                        have HR242_1 := Aside0.mk hi242_1
                        have HC242_1 := Aside0.mk hl242_1
                        clear hi242_1 hl242_1
                        replace p242 := eq_true p242
                        replace q242 := eq_true q242
                        refine start_ (n := 12) (S := fun w' => w'.cell? ⟨gb234, 0, none⟩ = some (.int .u32 a0_0) ∧ w'.cell? ⟨gb234, 1, none⟩ = some (.slice A0_1 l0_1.length c0_1) ∧ w'.cell? ⟨gb234, 2, none⟩ = some (.string a0_2) ∧ w'.cell? ⟨gb234, 3, none⟩ = some (.slice A0_3 l0_3.length c0_3) ∧ w'.cell? ⟨gb234, 4, none⟩ = some (.slice A0_4 l0_4.length c0_4) ∧ w'.cell? (ad242.add ((x28_2).toNat * 2)) = some (.int .u32 ((rd_T79 t238 x28_2).f0)) ∧ w'.cell? ⟨(ad242.add ((x28_2).toNat * 2)).block, (ad242.add ((x28_2).toNat * 2)).off + 1, none⟩ = some (.slice A242_1 ((rd_T79 t238 x28_2).f1).length c242_1)) (ds := []) #[false, false, false, false, false, false, false, false, false, false, false, false] (by kernel_rfl) rfl rfl ⟨(blk_cell BK234.out 0).trans rfl, (blk_cell BK234.out 1).trans rfl, (blk_cell BK234.out 2).trans rfl, (blk_cell BK234.out 3).trans rfl, (blk_cell BK234.out 4).trans rfl, hx242_0, hx242_1⟩ (fun hHeld => ?_); refine with_tabW arboretlaw08_HandleEach.tab9 arboretlaw08_HandleEach.bits9 (fun HT_ HW_ => ?_)
                        generalize wr.drew = w29 at HO_3 BK234 HB HL242_1 HR242_1 hx242_0 hx242_1 hHeld ⊢
                        refine pure_ (i := 1) (N := some 33) (v := ?_) (a' := ?_) #[false, true, false, false, false, false, false, false, false, false, false, false] rfl rfl (any_of HT_.out (by kernel_rfl)) (fun _ _ _ h => h) (Or.inl ⟨by rfl, ?_⟩) ?_ ?_
                        rotate_left
                        · intro w'
                          go_simp
                          with_reducible rfl
                        rotate_left
                        · simp only [Act.put, List.setIfInBounds_toArray, List.set_cons_zero, List.set_cons_succ, i64_w, i32_w]
                          rfl
                        refine pure_ (i := 2) (N := some 34) (v := ?_) (a' := ?_) #[false, true, true, false, false, false, false, false, false, false, false, false] rfl rfl (any_of HT_.out (by kernel_rfl)) (fun _ _ _ h => h) (Or.inl ⟨by rfl, ?_⟩) ?_ ?_
                        rotate_left
                        · intro w'
                          go_simp
                          with_reducible rfl
                        rotate_left
                        · simp only [Act.put, List.setIfInBounds_toArray, List.set_cons_zero, List.set_cons_succ, i64_w, i32_w]
                          rfl
                        refine pure_ (i := 3) (N := some 35) (v := ?_) (a' := ?_) #[false, true, true, true, false, false, false, false, false, false, false, false] rfl rfl (any_of HT_.out (by kernel_rfl)) (fun _ _ _ h => h) (Or.inl ⟨by rfl, ?_⟩) ?_ ?_
                        rotate_left
                        · intro w'
                          go_simp
                          with_reducible rfl
                        rotate_left
                        · simp only [Act.put, List.setIfInBounds_toArray, List.set_cons_zero, List.set_cons_succ, i64_w, i32_w]
                          rfl
                        refine pure_ (i := 4) (N := some 36) (v := ?_) (a' := ?_) #[false, true, true, true, true, false, false, false, false, false, false, false] rfl rfl (any_of HT_.out (by kernel_rfl)) (fun _ _ _ h => h) (Or.inl ⟨by rfl, ?_⟩) ?_ ?_
                        rotate_left
                        · intro w'
                          go_simp
                          with_reducible rfl
                        rotate_left
                        · simp only [Act.put, List.setIfInBounds_toArray, List.set_cons_zero, List.set_cons_succ, i64_w, i32_w]
                          rfl
                        refine take_ (i := 0) (N := some 32) (v := ?_) (a' := ?_) #[true, true, true, true, true, false, false, false, false, false, false, false] rfl rfl (take_ofW HT_.out HW_.out (by kernel_rfl)) (fun _ _ _ h => h) (Or.inl ⟨by rfl, ?_⟩) hHeld ?_ ?_
                        rotate_left
                        · rintro w' ⟨s0, s1, s2, s3, s4, s5, s6⟩
                          go_simp
                          with_reducible rfl
                        rotate_left
                        · simp only [Act.put, List.setIfInBounds_toArray, List.set_cons_zero, List.set_cons_succ, i64_w, i32_w]
                          rfl
                        refine take_ (i := 5) (N := some 37) (v := ?_) (a' := ?_) #[true, true, true, true, true, true, false, false, false, false, false, false] rfl rfl (take_ofW HT_.out HW_.out (by kernel_rfl)) (fun _ _ _ h => h) (Or.inl ⟨by rfl, ?_⟩) hHeld ?_ ?_
                        rotate_left
                        · rintro w' ⟨s0, s1, s2, s3, s4, s5, s6⟩
                          go_simp
                          with_reducible rfl
                        rotate_left
                        · simp only [Act.put, List.setIfInBounds_toArray, List.set_cons_zero, List.set_cons_succ, i64_w, i32_w]
                          rfl
                        refine one_ (i := 6) (N := some 38) #[true, true, true, true, true, true, true, false, false, false, false, false] rfl rfl (one_of HT_.out (by kernel_rfl)) (by decide) (fun K hK => ?_)
                        refine goes_ Try.func37 (by kernel_rfl) rfl #[.agg #[.int .u32 a0_0, .slice A0_1 l0_1.length c0_1, .string a0_2, .slice A0_3 l0_3.length c0_3, .slice A0_4 l0_4.length c0_4], .int .u32 ((rd_T79 t238 x28_2).f0)] (by rfl) rfl rfl (by (try simp only [List.map_toArray, List.map_cons, List.map_nil]); first | done | rfl | (simp only [List.length_drop, List.length_take]; rfl)) ?_
                        with_reducible refine (handle_Find.calls k2 a0_0 _ _ l0_1 a0_2 _ _ l0_3 _ _ l0_4 ((rd_T79 t238 x28_2).f0) t243 t246 _ ?side1 ?side2 ?side3 ?side4 ?side5 ?side6 A22.out).mono ?_
                        (case side1 => repeat (first | exact (Kd.C_below HR0_1.out HB.out) | (with_reducible refine Kd.C_alloc ?_ _) | (with_reducible refine Kd.C_drewN ?_ _) | (with_reducible refine Kd.C_drew ?_)))
                        (case side2 => exact HC0_1.out)
                        (case side3 => repeat (first | exact (Kd.C_below HR0_3.out HB.out) | (with_reducible refine Kd.C_alloc ?_ _) | (with_reducible refine Kd.C_drewN ?_ _) | (with_reducible refine Kd.C_drew ?_)))
                        (case side4 => exact HC0_3.out)
                        (case side5 => repeat (first | exact (Kd.C_below HR0_4.out HB.out) | (with_reducible refine Kd.C_alloc ?_ _) | (with_reducible refine Kd.C_drewN ?_ _) | (with_reducible refine Kd.C_drew ?_)))
                        (case side6 => exact HC0_4.out)
                        rintro e w30 ⟨v244, rfl, ho0, hb⟩
                        have HS5_ := (hb.cell (World.block_lt_of_cell? _ _ (hHeld.2.2.2.2.2.1))).trans (hHeld.2.2.2.2.2.1)
                        have HS6_ := (hb.cell (World.block_lt_of_cell? _ _ (hHeld.2.2.2.2.2.2))).trans (hHeld.2.2.2.2.2.2)
                        refine ⟨_, rfl, ?_⟩
                        have n0_ := Aside0.mk (Kd.S_elder' (by (with_reducible repeat (first | apply Kd.S_alloc | apply Kd.S_drewN | apply Kd.S_drew)); exact HO_3.out) (Kd.R_base ho0) hb)
                        have n1_ := Aside0.mk (Kd.R_elder' (by (with_reducible repeat (first | apply Kd.R_alloc | apply Kd.R_drewN | apply Kd.R_drew)); exact HL242_1.out) (Kd.R_base ho0) hb)
                        have n2_ := Aside0.mk (Kd.R_lower (Kd.R_new' ho0 (Kd.R_lt (by (with_reducible repeat (first | apply Kd.R_alloc | apply Kd.R_drewN | apply Kd.R_drew)); exact HL242_1.out))) (below_size (by repeat (first | (with_reducible first | exact HB.out | apply below_alloc | apply pw_below_drewN | apply below_drew1 | refine below_set ?_ GE234.out) | exact HB.out))))
                        have n3_ := Aside0.mk (blk_below (g := gb234) (o := .cells #[.int .u32 a0_0, .slice A0_1 l0_1.length c0_1, .string a0_2, .slice A0_3 l0_3.length c0_3, .slice A0_4 l0_4.length c0_4] 43 (0, 0)) (by (with_reducible repeat (first | refine blk_drewN ?_ _ | refine blk_drew ?_ | refine blk_alloc ?_ _)); exact BK234.out) hb)
                        have n4_ := Aside0.mk (Kd.C_below (by repeat (first | (with_reducible exact HR242_1.out) | (with_reducible refine Kd.C_alloc ?_ _) | (with_reducible refine Kd.C_drewN ?_ _) | (with_reducible refine Kd.C_drew ?_) | exact HR242_1.out)) hb)
                        have n5_ := Aside0.mk (below_step (by repeat (first | (with_reducible first | exact HB.out | apply below_alloc | apply pw_below_drewN | apply below_drew1 | refine below_set ?_ GE234.out) | exact HB.out)) hb)
                        clear HO_3
                        clear HL242_1
                        clear BK234
                        clear HR242_1
                        clear HB
                        have HO_3 := n0_
                        have HL242_1 := n1_
                        have HO245 := n2_
                        have BK234 := n3_
                        have HR242_1 := n4_
                        have HB := n5_
                        clear n0_ n1_ n2_ n3_ n4_ n5_
                        (try clear hb)
                        (try clear hb2)
                        (try clear hk)
                        (try clear hi)
                        (try clear ho0)
                        refine hK.out _ _ ⟨(blk_cell BK234.out 0).trans rfl, (blk_cell BK234.out 1).trans rfl, (blk_cell BK234.out 2).trans rfl, (blk_cell BK234.out 3).trans rfl, (blk_cell BK234.out 4).trans rfl, HS5_, HS6_⟩ (fun hHeld => ?_)
                        clear hK K
                        refine norm_ (a' := ?_) ?_ ?_
                        rotate_left
                        · show Act.put _ (some 38) _ = _
                          simp only [Act.put, List.setIfInBounds_toArray, List.set_cons_zero, List.set_cons_succ, i64_w, i32_w]
                          rfl
                        refine pure_ (i := 7) (N := some 31) (v := ?_) (a' := ?_) #[true, true, true, true, true, true, true, true, false, false, false, false] rfl rfl (any_of HT_.out (by kernel_rfl)) (fun _ _ _ h => h) (Or.inl ⟨by rfl, ?_⟩) ?_ ?_
                        rotate_left
                        · intro w'
                          go_simp
                          with_reducible rfl
                        rotate_left
                        · simp only [Act.put, List.setIfInBounds_toArray, List.set_cons_zero, List.set_cons_succ, i64_w, i32_w]
                          rfl
                        refine pure_ (i := 8) (N := some 39) (v := ?_) (a' := ?_) #[true, true, true, true, true, true, true, true, true, false, false, false] rfl rfl (any_of HT_.out (by kernel_rfl)) (fun _ _ _ h => h) (Or.inl ⟨by rfl, ?_⟩) ?_ ?_
                        rotate_left
                        · intro w'
                          go_simp
                          with_reducible rfl
                        rotate_left
                        · simp only [Act.put, List.setIfInBounds_toArray, List.set_cons_zero, List.set_cons_succ, i64_w, i32_w]
                          rfl
                        refine pure_ (i := 9) (N := some 40) (v := ?_) (a' := ?_) #[true, true, true, true, true, true, true, true, true, true, false, false] rfl rfl (any_of HT_.out (by kernel_rfl)) (fun _ _ _ h => h) (Or.inl ⟨by rfl, ?_⟩) ?_ ?_
                        rotate_left
                        · intro w'
                          go_simp
                          with_reducible rfl
                        rotate_left
                        · simp only [Act.put, List.setIfInBounds_toArray, List.set_cons_zero, List.set_cons_succ, i64_w, i32_w]
                          rfl
                        refine pure_ (i := 10) (N := some 6) (v := ?_) (a' := ?_) #[true, true, true, true, true, true, true, true, true, true, true, false] rfl rfl (any_of HT_.out (by kernel_rfl)) (fun _ _ _ h => h) (Or.inl ⟨by rfl, ?_⟩) ?_ ?_
                        rotate_left
                        · intro w'
                          go_simp
                          with_reducible rfl
                        rotate_left
                        · simp only [Act.put, List.setIfInBounds_toArray, List.set_cons_zero, List.set_cons_succ, i64_w, i32_w]
                          rfl
                        refine pure_ (i := 11) (N := some 7) (v := ?_) (a' := ?_) #[true, true, true, true, true, true, true, true, true, true, true, true] rfl rfl (any_of HT_.out (by kernel_rfl)) (fun _ _ _ h => h) (Or.inl ⟨by rfl, ?_⟩) ?_ ?_
                        rotate_left
                        · intro w'
                          go_simp
                          with_reducible rfl
                        rotate_left
                        · simp only [Act.put, List.setIfInBounds_toArray, List.set_cons_zero, List.set_cons_succ, i64_w, i32_w]
                          rfl
                        refine done_ (done_of HT_.out (by kernel_rfl)) ?_
                        have p247 : 0 ≤ (x28_2 : Int) := of_decide_eq_true (by first | (with_reducible assumption) | assumption)
                        have q247 : x28_2 < (t238.length : Int) := of_decide_eq_true (by first | (with_reducible assumption) | assumption)
                        obtain ⟨ad247, A247_1, c247_1, e247, hx247_0, hx247_1, hl247_1, hi247_1⟩ := at_T79 (Kd.S_reads' HO_3.out).2.2 x28_2 p247 q247
                        obtain rfl : ad242 = ad247 := (by injection e247)
                        (try clear hHeld); (try clear HS0_); (try clear HS1_); (try clear HS2_); (try clear HS3_); (try clear HS4_); (try clear HS5_); (try clear HS6_); (try clear HS7_); (try clear HS8_); (try clear HS9_)
                        obtain ⟨ce247, hce247, hMe247, hcc247⟩ := Kd.S_get HO_3.out z79 x28_2 p247 (by first | exact q247 | exact of_decide_eq_true (by first | (with_reducible assumption) | assumption) | (have e_ := (Kd.S_reads' HO_3.out).1; omega))
                        obtain ⟨ve247_1, rfl, ge247_1⟩ := k79_openM hMe247
                        have hv247_1 := hcc247 1 _ rfl
                        rw [add_field _ _ 1 (by omega)] at hv247_1
                        replace hv247_1 := Option.some.inj (hv247_1.symm.trans hx247_1)
                        rw [hv247_1] at ge247_1
                        have HL247_1 := Aside0.mk (show Kd.R (Kd.int .i64) 3 _ _ _ _ ((rd_T79 t238 x28_2).f1) from ge247_1)
                        clear hv247_1 ge247_1
                        clear hcc247 hce247
                        have HR247_1 := Aside0.mk hi247_1
                        have HC247_1 := Aside0.mk hl247_1
                        clear hi247_1 hl247_1
                        replace p247 := eq_true p247
                        replace q247 := eq_true q247
                        obtain ⟨Ao31, co31, eo31⟩ := Kd.R_slice HO245.out
                        subst eo31
                        try go_wp2_with (first | (go_at_call 40; (with_reducible refine (arboretref12_Equal.calls k2 _ _ t243 _ _ ((rd_T79 t238 x28_2).f1) false _ ?side1 ?side2 ?side3 ?side4 A24.out).mono ?_); (case side1 => repeat (first | exact (Kd.R_reads' HO245.out).2.2 | (with_reducible refine Kd.C_alloc ?_ _) | (with_reducible refine Kd.C_drewN ?_ _) | (with_reducible refine Kd.C_drew ?_))); (case side2 => exact (Kd.R_reads' HO245.out).2.1); (case side3 => repeat (first | exact (by repeat (first | (with_reducible exact HR247_1.out) | (with_reducible refine Kd.C_alloc ?_ _) | (with_reducible refine Kd.C_drewN ?_ _) | (with_reducible refine Kd.C_drew ?_) | exact HR247_1.out)) | (with_reducible refine Kd.C_alloc ?_ _) | (with_reducible refine Kd.C_drewN ?_ _) | (with_reducible refine Kd.C_drew ?_))); (case side4 => exact HC247_1.out); rintro e w' ⟨rfl, ⟨nd, rfl⟩⟩))
                        go_ret
                        exact ⟨by first | rfl | (simp [errW_none, errW_some] <;> rfl) | (simp [*, errW_none, errW_some] <;> rfl), by repeat (first | (with_reducible first | exact HB.out | apply below_alloc | apply pw_below_drewN | apply below_drew1 | refine below_set ?_ GE234.out) | exact HB.out)⟩
                    · rw [if_neg c23] at H
                      have c23b0 : (t246 == 0) = false := beq_eq_false_iff_ne.mpr c23
                      have c23b1 : (t246 != 0) = true := bne_iff_ne.mpr c23
                      obtain rfl := Option.some.inj H
                      try go_wp2
                      have n0_ := Aside0.mk (Kd.S_drew HO_3.out)
                      have n1_ := Aside0.mk (blk_drew BK234.out)
                      have n2_ := Aside0.mk (below_drew1 HB.out)
                      clear HO_3
                      clear BK234
                      clear HB
                      have HO_3 := n0_
                      have BK234 := n1_
                      have HB := n2_
                      clear n0_ n1_ n2_
                      have p242 : 0 ≤ (x28_2 : Int) := of_decide_eq_true (by first | (with_reducible assumption) | assumption)
                      have q242 : x28_2 < (t238.length : Int) := of_decide_eq_true (by first | (with_reducible assumption) | assumption)
                      obtain ⟨ad242, A242_1, c242_1, e242, hx242_0, hx242_1, hl242_1, hi242_1⟩ := at_T79 (Kd.S_reads' HO_3.out).2.2 x28_2 p242 q242
                      cases e242
                      obtain ⟨ce242, hce242, hMe242, hcc242⟩ := Kd.S_get HO_3.out z79 x28_2 p242 (by first | exact q242 | exact of_decide_eq_true (by first | (with_reducible assumption) | assumption) | (have e_ := (Kd.S_reads' HO_3.out).1; omega))
                      obtain ⟨ve242_1, rfl, ge242_1⟩ := k79_openM hMe242
                      have hv242_1 := hcc242 1 _ rfl
                      rw [add_field _ _ 1 (by omega)] at hv242_1
                      replace hv242_1 := Option.some.inj (hv242_1.symm.trans hx242_1)
                      rw [hv242_1] at ge242_1
                      have HL242_1 := Aside0.mk (show Kd.R (Kd.int .i64) 3 _ _ _ _ ((rd_T79 t238 x28_2).f1) from ge242_1)
                      clear hv242_1 ge242_1
                      clear hcc242 hce242
                      have HR242_1 := Aside0.mk hi242_1
                      have HC242_1 := Aside0.mk hl242_1
                      clear hi242_1 hl242_1
                      replace p242 := eq_true p242
                      replace q242 := eq_true q242
                      refine start_ (n := 12) (S := fun w' => w'.cell? ⟨gb234, 0, none⟩ = some (.int .u32 a0_0) ∧ w'.cell? ⟨gb234, 1, none⟩ = some (.slice A0_1 l0_1.length c0_1) ∧ w'.cell? ⟨gb234, 2, none⟩ = some (.string a0_2) ∧ w'.cell? ⟨gb234, 3, none⟩ = some (.slice A0_3 l0_3.length c0_3) ∧ w'.cell? ⟨gb234, 4, none⟩ = some (.slice A0_4 l0_4.length c0_4) ∧ w'.cell? (ad242.add ((x28_2).toNat * 2)) = some (.int .u32 ((rd_T79 t238 x28_2).f0)) ∧ w'.cell? ⟨(ad242.add ((x28_2).toNat * 2)).block, (ad242.add ((x28_2).toNat * 2)).off + 1, none⟩ = some (.slice A242_1 ((rd_T79 t238 x28_2).f1).length c242_1)) (ds := []) #[false, false, false, false, false, false, false, false, false, false, false, false] (by kernel_rfl) rfl rfl ⟨(blk_cell BK234.out 0).trans rfl, (blk_cell BK234.out 1).trans rfl, (blk_cell BK234.out 2).trans rfl, (blk_cell BK234.out 3).trans rfl, (blk_cell BK234.out 4).trans rfl, hx242_0, hx242_1⟩ (fun hHeld => ?_); refine with_tabW arboretlaw08_HandleEach.tab9 arboretlaw08_HandleEach.bits9 (fun HT_ HW_ => ?_)
                      generalize wr.drew = w32 at HO_3 BK234 HB HL242_1 HR242_1 hx242_0 hx242_1 hHeld ⊢
                      refine pure_ (i := 1) (N := some 33) (v := ?_) (a' := ?_) #[false, true, false, false, false, false, false, false, false, false, false, false] rfl rfl (any_of HT_.out (by kernel_rfl)) (fun _ _ _ h => h) (Or.inl ⟨by rfl, ?_⟩) ?_ ?_
                      rotate_left
                      · intro w'
                        go_simp
                        with_reducible rfl
                      rotate_left
                      · simp only [Act.put, List.setIfInBounds_toArray, List.set_cons_zero, List.set_cons_succ, i64_w, i32_w]
                        rfl
                      refine pure_ (i := 2) (N := some 34) (v := ?_) (a' := ?_) #[false, true, true, false, false, false, false, false, false, false, false, false] rfl rfl (any_of HT_.out (by kernel_rfl)) (fun _ _ _ h => h) (Or.inl ⟨by rfl, ?_⟩) ?_ ?_
                      rotate_left
                      · intro w'
                        go_simp
                        with_reducible rfl
                      rotate_left
                      · simp only [Act.put, List.setIfInBounds_toArray, List.set_cons_zero, List.set_cons_succ, i64_w, i32_w]
                        rfl
                      refine pure_ (i := 3) (N := some 35) (v := ?_) (a' := ?_) #[false, true, true, true, false, false, false, false, false, false, false, false] rfl rfl (any_of HT_.out (by kernel_rfl)) (fun _ _ _ h => h) (Or.inl ⟨by rfl, ?_⟩) ?_ ?_
                      rotate_left
                      · intro w'
                        go_simp
                        with_reducible rfl
                      rotate_left
                      · simp only [Act.put, List.setIfInBounds_toArray, List.set_cons_zero, List.set_cons_succ, i64_w, i32_w]
                        rfl
                      refine pure_ (i := 4) (N := some 36) (v := ?_) (a' := ?_) #[false, true, true, true, true, false, false, false, false, false, false, false] rfl rfl (any_of HT_.out (by kernel_rfl)) (fun _ _ _ h => h) (Or.inl ⟨by rfl, ?_⟩) ?_ ?_
                      rotate_left
                      · intro w'
                        go_simp
                        with_reducible rfl
                      rotate_left
                      · simp only [Act.put, List.setIfInBounds_toArray, List.set_cons_zero, List.set_cons_succ, i64_w, i32_w]
                        rfl
                      refine take_ (i := 0) (N := some 32) (v := ?_) (a' := ?_) #[true, true, true, true, true, false, false, false, false, false, false, false] rfl rfl (take_ofW HT_.out HW_.out (by kernel_rfl)) (fun _ _ _ h => h) (Or.inl ⟨by rfl, ?_⟩) hHeld ?_ ?_
                      rotate_left
                      · rintro w' ⟨s0, s1, s2, s3, s4, s5, s6⟩
                        go_simp
                        with_reducible rfl
                      rotate_left
                      · simp only [Act.put, List.setIfInBounds_toArray, List.set_cons_zero, List.set_cons_succ, i64_w, i32_w]
                        rfl
                      refine take_ (i := 5) (N := some 37) (v := ?_) (a' := ?_) #[true, true, true, true, true, true, false, false, false, false, false, false] rfl rfl (take_ofW HT_.out HW_.out (by kernel_rfl)) (fun _ _ _ h => h) (Or.inl ⟨by rfl, ?_⟩) hHeld ?_ ?_
                      rotate_left
                      · rintro w' ⟨s0, s1, s2, s3, s4, s5, s6⟩
                        go_simp
                        with_reducible rfl
                      rotate_left
                      · simp only [Act.put, List.setIfInBounds_toArray, List.set_cons_zero, List.set_cons_succ, i64_w, i32_w]
                        rfl
                      refine one_ (i := 6) (N := some 38) #[true, true, true, true, true, true, true, false, false, false, false, false] rfl rfl (one_of HT_.out (by kernel_rfl)) (by decide) (fun K hK => ?_)
                      refine goes_ Try.func37 (by kernel_rfl) rfl #[.agg #[.int .u32 a0_0, .slice A0_1 l0_1.length c0_1, .string a0_2, .slice A0_3 l0_3.length c0_3, .slice A0_4 l0_4.length c0_4], .int .u32 ((rd_T79 t238 x28_2).f0)] (by rfl) rfl rfl (by (try simp only [List.map_toArray, List.map_cons, List.map_nil]); first | done | rfl | (simp only [List.length_drop, List.length_take]; rfl)) ?_
                      with_reducible refine (handle_Find.calls k2 a0_0 _ _ l0_1 a0_2 _ _ l0_3 _ _ l0_4 ((rd_T79 t238 x28_2).f0) t243 t246 _ ?side1 ?side2 ?side3 ?side4 ?side5 ?side6 A22.out).mono ?_
                      (case side1 => repeat (first | exact (Kd.C_below HR0_1.out HB.out) | (with_reducible refine Kd.C_alloc ?_ _) | (with_reducible refine Kd.C_drewN ?_ _) | (with_reducible refine Kd.C_drew ?_)))
                      (case side2 => exact HC0_1.out)
                      (case side3 => repeat (first | exact (Kd.C_below HR0_3.out HB.out) | (with_reducible refine Kd.C_alloc ?_ _) | (with_reducible refine Kd.C_drewN ?_ _) | (with_reducible refine Kd.C_drew ?_)))
                      (case side4 => exact HC0_3.out)
                      (case side5 => repeat (first | exact (Kd.C_below HR0_4.out HB.out) | (with_reducible refine Kd.C_alloc ?_ _) | (with_reducible refine Kd.C_drewN ?_ _) | (with_reducible refine Kd.C_drew ?_)))
                      (case side6 => exact HC0_4.out)
                      rintro e w33 ⟨v244, rfl, ho0, hb⟩
                      have HS5_ := (hb.cell (World.block_lt_of_cell? _ _ (hHeld.2.2.2.2.2.1))).trans (hHeld.2.2.2.2.2.1)
                      have HS6_ := (hb.cell (World.block_lt_of_cell? _ _ (hHeld.2.2.2.2.2.2))).trans (hHeld.2.2.2.2.2.2)
                      refine ⟨_, rfl, ?_⟩
                      have n0_ := Aside0.mk (Kd.S_elder' (by (with_reducible repeat (first | apply Kd.S_alloc | apply Kd.S_drewN | apply Kd.S_drew)); exact HO_3.out) (Kd.R_base ho0) hb)
                      have n1_ := Aside0.mk (Kd.R_elder' (by (with_reducible repeat (first | apply Kd.R_alloc | apply Kd.R_drewN | apply Kd.R_drew)); exact HL242_1.out) (Kd.R_base ho0) hb)
                      have n2_ := Aside0.mk (Kd.R_lower (Kd.R_new' ho0 (Kd.R_lt (by (with_reducible repeat (first | apply Kd.R_alloc | apply Kd.R_drewN | apply Kd.R_drew)); exact HL242_1.out))) (below_size (by repeat (first | (with_reducible first | exact HB.out | apply below_alloc | apply pw_below_drewN | apply below_drew1 | refine below_set ?_ GE234.out) | exact HB.out))))
                      have n3_ := Aside0.mk (blk_below (g := gb234) (o := .cells #[.int .u32 a0_0, .slice A0_1 l0_1.length c0_1, .string a0_2, .slice A0_3 l0_3.length c0_3, .slice A0_4 l0_4.length c0_4] 43 (0, 0)) (by (with_reducible repeat (first | refine blk_drewN ?_ _ | refine blk_drew ?_ | refine blk_alloc ?_ _)); exact BK234.out) hb)
                      have n4_ := Aside0.mk (Kd.C_below (by repeat (first | (with_reducible exact HR242_1.out) | (with_reducible refine Kd.C_alloc ?_ _) | (with_reducible refine Kd.C_drewN ?_ _) | (with_reducible refine Kd.C_drew ?_) | exact HR242_1.out)) hb)
                      have n5_ := Aside0.mk (below_step (by repeat (first | (with_reducible first | exact HB.out | apply below_alloc | apply pw_below_drewN | apply below_drew1 | refine below_set ?_ GE234.out) | exact HB.out)) hb)
                      clear HO_3
                      clear HL242_1
                      clear BK234
                      clear HR242_1
                      clear HB
                      have HO_3 := n0_
                      have HL242_1 := n1_
                      have HO245 := n2_
                      have BK234 := n3_
                      have HR242_1 := n4_
                      have HB := n5_
                      clear n0_ n1_ n2_ n3_ n4_ n5_
                      (try clear hb)
                      (try clear hb2)
                      (try clear hk)
                      (try clear hi)
                      (try clear ho0)
                      refine hK.out _ _ ⟨(blk_cell BK234.out 0).trans rfl, (blk_cell BK234.out 1).trans rfl, (blk_cell BK234.out 2).trans rfl, (blk_cell BK234.out 3).trans rfl, (blk_cell BK234.out 4).trans rfl, HS5_, HS6_⟩ (fun hHeld => ?_)
                      clear hK K
                      refine norm_ (a' := ?_) ?_ ?_
                      rotate_left
                      · show Act.put _ (some 38) _ = _
                        simp only [Act.put, List.setIfInBounds_toArray, List.set_cons_zero, List.set_cons_succ, i64_w, i32_w]
                        rfl
                      refine pure_ (i := 7) (N := some 31) (v := ?_) (a' := ?_) #[true, true, true, true, true, true, true, true, false, false, false, false] rfl rfl (any_of HT_.out (by kernel_rfl)) (fun _ _ _ h => h) (Or.inl ⟨by rfl, ?_⟩) ?_ ?_
                      rotate_left
                      · intro w'
                        go_simp
                        with_reducible rfl
                      rotate_left
                      · simp only [Act.put, List.setIfInBounds_toArray, List.set_cons_zero, List.set_cons_succ, i64_w, i32_w]
                        rfl
                      refine pure_ (i := 8) (N := some 39) (v := ?_) (a' := ?_) #[true, true, true, true, true, true, true, true, true, false, false, false] rfl rfl (any_of HT_.out (by kernel_rfl)) (fun _ _ _ h => h) (Or.inl ⟨by rfl, ?_⟩) ?_ ?_
                      rotate_left
                      · intro w'
                        go_simp
                        with_reducible rfl
                      rotate_left
                      · simp only [Act.put, List.setIfInBounds_toArray, List.set_cons_zero, List.set_cons_succ, i64_w, i32_w]
                        rfl
                      refine pure_ (i := 9) (N := some 40) (v := ?_) (a' := ?_) #[true, true, true, true, true, true, true, true, true, true, false, false] rfl rfl (any_of HT_.out (by kernel_rfl)) (fun _ _ _ h => h) (Or.inl ⟨by rfl, ?_⟩) ?_ ?_
                      rotate_left
                      · intro w'
                        go_simp
                        with_reducible rfl
                      rotate_left
                      · simp only [Act.put, List.setIfInBounds_toArray, List.set_cons_zero, List.set_cons_succ, i64_w, i32_w]
                        rfl
                      refine pure_ (i := 10) (N := some 6) (v := ?_) (a' := ?_) #[true, true, true, true, true, true, true, true, true, true, true, false] rfl rfl (any_of HT_.out (by kernel_rfl)) (fun _ _ _ h => h) (Or.inl ⟨by rfl, ?_⟩) ?_ ?_
                      rotate_left
                      · intro w'
                        go_simp
                        with_reducible rfl
                      rotate_left
                      · simp only [Act.put, List.setIfInBounds_toArray, List.set_cons_zero, List.set_cons_succ, i64_w, i32_w]
                        rfl
                      refine pure_ (i := 11) (N := some 7) (v := ?_) (a' := ?_) #[true, true, true, true, true, true, true, true, true, true, true, true] rfl rfl (any_of HT_.out (by kernel_rfl)) (fun _ _ _ h => h) (Or.inl ⟨by rfl, ?_⟩) ?_ ?_
                      rotate_left
                      · intro w'
                        go_simp
                        with_reducible rfl
                      rotate_left
                      · simp only [Act.put, List.setIfInBounds_toArray, List.set_cons_zero, List.set_cons_succ, i64_w, i32_w]
                        rfl
                      refine done_ (done_of HT_.out (by kernel_rfl)) ?_
                      try go_wp2
                      go_ret
                      exact ⟨by first | rfl | (simp [errW_none, errW_some] <;> rfl) | (simp [*, errW_none, errW_some] <;> rfl), by repeat (first | (with_reducible first | exact HB.out | apply below_alloc | apply pw_below_drewN | apply below_drew1 | refine below_set ?_ GE234.out) | exact HB.out)⟩
                  · rw [if_neg c21] at H
                    exact absurd H (by simp)
                · rw [if_neg c20] at H
                  exact absurd H (by simp)
              · rw [if_neg c19] at H
                have c19b0 : decide (x28_2 < (t238.length : Int)) = false := decide_eq_false c19
                clear c19
                obtain rfl := Option.some.inj H
                go_wp2
                go_ret
                exact ⟨by first | rfl | (simp [errW_none, errW_some] <;> rfl) | (simp [*, errW_none, errW_some] <;> rfl), by repeat (first | (with_reducible first | exact HB.out | apply below_alloc | apply pw_below_drewN | apply below_drew1 | refine below_set ?_ GE234.out) | exact HB.out)⟩
        · rw [if_neg c15] at H
          have c15b0 : (t241 == 0) = false := beq_eq_false_iff_ne.mpr c15
          have c15b1 : (t241 != 0) = true := bne_iff_ne.mpr c15
          obtain rfl := Option.some.inj H
          have hcz34_0 : wc.cell? ⟨gb234, 0, none⟩ = some (.int .u32 a0_0) := (blk_cell BK234.out 0).trans rfl
          have hcz34_1 : wc.cell? ⟨gb234, 1, none⟩ = some (.slice A0_1 l0_1.length c0_1) := (blk_cell BK234.out 1).trans rfl
          have hcz34_2 : wc.cell? ⟨gb234, 2, none⟩ = some (.string a0_2) := (blk_cell BK234.out 2).trans rfl
          have hcz34_3 : wc.cell? ⟨gb234, 3, none⟩ = some (.slice A0_3 l0_3.length c0_3) := (blk_cell BK234.out 3).trans rfl
          have hcz34_4 : wc.cell? ⟨gb234, 4, none⟩ = some (.slice A0_4 l0_4.length c0_4) := (blk_cell BK234.out 4).trans rfl
          have hfz34_0 := blk_frozen BK234.out 0
          have hfz34_1 := blk_frozen BK234.out 1
          have hfz34_2 := blk_frozen BK234.out 2
          have hfz34_3 := blk_frozen BK234.out 3
          have hfz34_4 := blk_frozen BK234.out 4
          go_wp2_with (first | ((with_reducible refine gate_callee (f := 41) rfl ?_); refine goesL_ (some 18) rfl rfl Try.func41 (by kernel_rfl) rfl #[.agg #[.int .u32 a0_0, .slice A0_1 l0_1.length c0_1, .string a0_2, .slice A0_3 l0_3.length c0_3, .slice A0_4 l0_4.length c0_4]] rfl (by (try simp only [List.map_toArray, List.map_cons, List.map_nil]); first | done | rfl | (simp only [List.length_drop, List.length_take]; rfl)) ?_; (with_reducible refine (handle_Index.calls kj1 a0_0 _ _ l0_1 a0_2 _ _ l0_3 _ _ l0_4 t238 t241 _ ?side1 ?side2 ?side3 ?side4 ?side5 ?side6 A14.out).mono ?_); (case side1 => repeat (first | exact (Kd.C_below HR0_1.out HB.out) | (with_reducible refine Kd.C_alloc ?_ _) | (with_reducible refine Kd.C_drewN ?_ _) | (with_reducible refine Kd.C_drew ?_))); (case side2 => exact HC0_1.out); (case side3 => repeat (first | exact (Kd.C_below HR0_3.out HB.out) | (with_reducible refine Kd.C_alloc ?_ _) | (with_reducible refine Kd.C_drewN ?_ _) | (with_reducible refine Kd.C_drew ?_))); (case side4 => exact HC0_3.out); (case side5 => repeat (first | exact (Kd.C_below HR0_4.out HB.out) | (with_reducible refine Kd.C_alloc ?_ _) | (with_reducible refine Kd.C_drewN ?_ _) | (with_reducible refine Kd.C_drew ?_))); (case side6 => exact HC0_4.out); rintro e w35 ⟨v239, rfl, ho0, hb⟩; refine ⟨_, rfl, ?_⟩; have n0_ := Aside0.mk (Kd.S_lower ho0 (below_size (by repeat (first | (with_reducible first | exact HB.out | apply below_alloc | apply pw_below_drewN | apply below_drew1 | refine below_set ?_ GE234.out) | exact HB.out)))); have n1_ := Aside0.mk (blk_below (g := gb234) (o := .cells #[.int .u32 a0_0, .slice A0_1 l0_1.length c0_1, .string a0_2, .slice A0_3 l0_3.length c0_3, .slice A0_4 l0_4.length c0_4] 43 (0, 0)) (by (with_reducible repeat (first | refine blk_drewN ?_ _ | refine blk_drew ?_ | refine blk_alloc ?_ _)); exact BK234.out) hb); have n2_ := Aside0.mk (below_step (by repeat (first | (with_reducible first | exact HB.out | apply below_alloc | apply pw_below_drewN | apply below_drew1 | refine below_set ?_ GE234.out) | exact HB.out)) hb); clear BK234; clear HB; have HO240 := n0_; have BK234 := n1_; have HB := n2_; clear n0_ n1_ n2_; (try clear hb); (try clear hb2); (try clear hk); (try clear hi); (try clear ho0); obtain ⟨Ao36, co36, eo36⟩ := Kd.S_slice HO240.out; subst eo36))
          go_ret
          exact ⟨by first | rfl | (simp [errW_none, errW_some] <;> rfl) | (simp [*, errW_none, errW_some] <;> rfl), by repeat (first | (with_reducible first | exact HB.out | apply below_alloc | apply pw_below_drewN | apply below_drew1 | refine below_set ?_ GE234.out) | exact HB.out)⟩
end Go.Proofs.Yteejaaeglfpcmaa.PH

set_option linter.unusedVariables false
namespace Go.Proofs.Yteejaaeglfpcmaa.Rdr
open Go.RowKit Go.Proofs.YteejaaeglfpcmaaW.PrintWords Go.ChangeShapes Go.WideShapes
def sumB {α : Type} (B : α → Nat) : List α → Nat
  | [] => 0
  | x :: r => B x + sumB B r
theorem sumB_le {α : Type} {H : Type} {B : α → Nat} : ∀ {xs : List α} {ds : List (DataW H)}, xs.length = ds.length → (∀ (i : Nat) (x : α) (d : DataW H), xs[i]? = some x → ds[i]? = some d → B x ≤ Rows.uptoBulk d) → sumB B xs ≤ Rows.uptoBulkAll ds
  | [], [], _, _ => Nat.le_refl _
  | x :: xs, d :: ds, hl, h => by
    have h0 := h 0 x d rfl rfl
    have h1 := sumB_le (xs := xs) (ds := ds) (by simpa using hl) (fun i a b ha hb => h (i + 1) a b (by simpa using ha) (by simpa using hb))
    simp only [sumB, Rows.uptoBulkAll]
    omega
  | [], _ :: _, hl, _ => by simp at hl
  | _ :: _, [], hl, _ => by simp at hl
theorem sumB_mem {α : Type} {B : α → Nat} {x : α} : ∀ {xs : List α}, x ∈ xs → B x ≤ sumB B xs
  | a :: r, h => by
    simp only [sumB]
    rcases List.mem_cons.1 h with rfl | h
    · omega
    · have := sumB_mem (B := B) h
      omega
theorem sumB_len {α : Type} {B : α → Nat} (h1 : ∀ x, 1 ≤ B x) : ∀ xs : List α, xs.length ≤ sumB B xs
  | [] => Nat.le_refl _
  | x :: r => by
    have := h1 x
    have := sumB_len h1 r
    simp only [sumB, List.length_cons]
    omega
theorem sumB_one {α : Type} (xs : List α) : sumB (fun _ => 1) xs = xs.length := by
  induction xs with
  | nil => rfl
  | cons x r ih => simp only [sumB, ih, List.length_cons]; omega
theorem list_of {α : Type} {n : Nat} {Q : Nat → α → Prop} (h : ∀ i, i < n → ∃ x, Q i x) : ∃ xs : List α, xs.length = n ∧ ∀ (i : Nat) (x : α), xs[i]? = some x → Q i x := by
  induction n with
  | zero => exact ⟨[], rfl, fun i x hx => by simp at hx⟩
  | succ n ih =>
    obtain ⟨xs, hl, hq⟩ := ih (fun i hi => h i (by omega))
    obtain ⟨y, hy⟩ := h n (by omega)
    refine ⟨xs ++ [y], by simp [hl], fun i x hx => ?_⟩
    rcases Nat.lt_trichotomy i xs.length with hi | hi | hi
    · rw [List.getElem?_append_left hi] at hx
      exact hq i x hx
    · subst hi
      rw [List.getElem?_append_right (Nat.le_refl _)] at hx
      simp at hx
      subst hx
      rw [hl]
      exact hy
    · rw [List.getElem?_append_right (by omega), List.getElem?_eq_none (by simp; omega)] at hx
      cases hx
def RdF (P : Program) (W : World) (n : Nat) {α : Type} (d : Kd α) (t : TypeId) (B : α → Nat) (G : α → Prop) : Prop :=
  ∀ (H : Type) (enc : TypeId × Value → H) (fuel : Nat), fuel ≤ n → ∀ (cs : List Value) (x : DataW H × List MemPlace),
    DataW.trod enc P W 0 (fun _ => true) true fuel t cs = some x → ∃ a, d.K W a cs ∧ B a ≤ Rows.uptoBulk x.1 ∧ G a
section
variable {P : Program} {W : World} {n : Nat}
def wfI (k : IntKind) (x : Int) : Prop := (Lit.int k x).wf = true
theorem rd_int {t : TypeId} {k : IntKind} (ht : P.underlying t = some (.int k)) : RdF P W n (Kd.int k) t (fun _ => 1) (wfI k) := by
  intro H enc fuel hf cs x h
  cases fuel with
  | zero => simp [DataW.trod] at h
  | succ m =>
    unfold DataW.trod at h
    rw [ht] at h
    split at h <;> simp_all
    rename_i k' y z
    obtain ⟨⟨rfl, hw⟩, rfl⟩ := h
    exact ⟨y, rfl, by simp [Rows.uptoBulk], hw⟩
theorem rd_string {t : TypeId} (ht : P.underlying t = some .string) : RdF P W n Kd.string t (fun s => s.size + 1) (fun _ => True) := by
  intro H enc fuel hf cs x h
  cases fuel with
  | zero => simp [DataW.trod] at h
  | succ m =>
    unfold DataW.trod at h
    rw [ht] at h
    split at h <;> simp_all
    obtain ⟨_, rfl⟩ := h
    refine ⟨_, rfl, ?_⟩
    simp [Rows.uptoBulk]
theorem rd_slice {t e : TypeId} {α : Type} {d : Kd α} {B : α → Nat} {G : α → Prop} (ht : P.underlying t = some (.slice e)) (hc : P.cellsOf e = d.sz) (h : RdF P W n d e B G) : RdF P W (n + 1) (Kd.slice e d) t (fun xs => sumB B xs + 1) (fun xs => ∀ x ∈ xs, G x) := by
  intro H enc fuel hf cs x hx
  rcases DataW.trod_slice ht hx with ⟨rfl, rfl⟩ | ⟨a, len, cap, elems, rest, m, rfl, rfl, rfl, hb, hl, hm, hlen, hel, _⟩
  · exact ⟨[], ⟨none, 0, rfl, Nat.le_refl _, rfl, by simp, fun h0 => absurd h0 (by simp)⟩, by simp [sumB, Rows.uptoBulk], fun x hx => by simp at hx⟩
  · have each : ∀ i, i < len → ∃ y : α, ∃ c : List Value, ∃ z, elems[i]? = some z ∧ W.cells? 0 (a.add (i * P.cellsOf e)) (P.cellsOf e) = some c ∧ d.K W y c ∧ B y ≤ Rows.uptoBulk z.1 ∧ G y := by
      intro i hi
      have h1 := hel i hi
      obtain ⟨z, hz⟩ : ∃ z, elems[i]? = some z := ⟨_, List.getElem?_eq_getElem (by omega)⟩
      rw [hz] at h1
      obtain ⟨c, hc1, hc2⟩ := Option.bind_eq_some_iff.1 h1
      obtain ⟨y, k1, k2, k3⟩ := h H enc m (by omega) c z hc2
      exact ⟨y, c, z, hz, hc1, k1, k2, k3⟩
    obtain ⟨ys, hyl, hy⟩ := list_of each
    refine ⟨ys, ⟨some a, cap, by rw [hyl], by omega, ?_⟩, ?_, ?_⟩
    · refine ⟨rfl, ?_, fun _ => ⟨a, rfl, fun j p hj => ?_⟩⟩
      · have : cap ≤ 9223372036854775807 := by simpa [maxLen] using hm
        omega
      · obtain ⟨c, z, _, hcs, hk, _, _⟩ := hy j p hj
        obtain ⟨_, hcl, hcc⟩ := World.cells?_some hcs
        refine ⟨c, by rw [hcl, hc], hk, fun i u hu => ?_⟩
        have hi : i < P.cellsOf e := by
          rw [← hcl]
          exact (List.getElem?_eq_some_iff.1 hu).1
        have h2 := hcc i hi
        rw [hu] at h2
        rw [← h2, hc]
        rw [Deep.add_add]
    · have : sumB B ys ≤ Rows.uptoBulkAll (elems.map (·.1)) := by
        refine sumB_le (by simp [hyl, hlen]) (fun i y dd hyi hdi => ?_)
        obtain ⟨c, z, hz, _, _, hB, _⟩ := hy i y hyi
        rw [List.getElem?_map, hz] at hdi
        simp at hdi
        rw [← hdi]
        exact hB
      simp only [Rows.uptoBulk]
      omega
    · intro y hyy
      obtain ⟨i, hi, he⟩ := List.getElem_of_mem hyy
      obtain ⟨_, _, _, _, _, _, hg⟩ := hy i y (by rw [List.getElem?_eq_getElem hi, he])
      exact hg
end
theorem len_2 {α : Type} {l : List α} (h : l.length = 2) : ∃ a0 a1, l = [a0, a1] := by
  match l, h with
  | [b0, b1], _ => exact ⟨b0, b1, rfl⟩
theorem len_3 {α : Type} {l : List α} (h : l.length = 3) : ∃ a0 a1 a2, l = [a0, a1, a2] := by
  match l, h with
  | [b0, b1, b2], _ => exact ⟨b0, b1, b2, rfl⟩
theorem len_5 {α : Type} {l : List α} (h : l.length = 5) : ∃ a0 a1 a2 a3 a4, l = [a0, a1, a2, a3, a4] := by
  match l, h with
  | [b0, b1, b2, b3, b4], _ => exact ⟨b0, b1, b2, b3, b4, rfl⟩
theorem bound {H : Type} {l : List (DataW H)} (hk : Rows.uptoSmall H l = true) : Rows.uptoBulkAll l ≤ 1048576 := of_decide_eq_true hk
end Go.Proofs.Yteejaaeglfpcmaa.Rdr

set_option linter.unusedVariables false
set_option linter.unusedSimpArgs false
namespace Go.Proofs.Yteejaaeglfpcmaa.PH
open Go.RowKit Go.Proofs.Yteejaaeglfpcmaa.Rdr Go.Proofs.YteejaaeglfpcmaaW.PrintWords Go.Proofs.YteejaaeglfpcmaaW.PrintLast Go.Proofs.YteejaaeglfpcmaaW.PrintMore
def bulk151 (x : S151) : Nat := (fun _ => 1) x.f0 + (fun _ => 1) x.f1 + 1
def good151 (x : S151) : Prop := (wfI .u64) x.f0 ∧ (wfI .u64) x.f1
theorem rd151 (W : World) (n : Nat) : RdF Try.prog W n k151 151 bulk151 good151 := by
  intro H enc fuel hfu cs x h
  cases n with
  | zero =>
    obtain rfl : fuel = 0 := by omega
    simp [DataW.trod] at h
  | succ n =>
  obtain ⟨xs, m, rfl, rfl, hl, hlen, hf⟩ := DataW.trod_struct Try.underlying151 h
  have hl' : cs.length = 2 := hl.trans (by kernel_rfl)
  clear hl
  obtain ⟨u0, u1, rfl⟩ := len_2 hl'
  have z24 : Try.prog.cellsOf 24 = 1 := by kernel_rfl
  obtain ⟨y0, hy0⟩ : ∃ y, xs[0]? = some y := ⟨_, List.getElem?_eq_getElem (by rw [hlen]; decide)⟩
  have h0 := hf 0 _ rfl
  rw [hy0] at h0
  simp only [z24, List.getElem_toArray, List.getElem_cons_zero, List.getElem_cons_succ, List.drop_zero, List.drop_succ_cons, List.take_succ_cons, List.take_zero] at h0
  have h0' : DataW.trod enc Try.prog W 0 (fun _ => true) true m 24 [u0] = some y0 := h0
  obtain ⟨y1, hy1⟩ : ∃ y, xs[1]? = some y := ⟨_, List.getElem?_eq_getElem (by rw [hlen]; decide)⟩
  have h1 := hf 1 _ rfl
  rw [hy1] at h1
  simp only [z24, List.getElem_toArray, List.getElem_cons_zero, List.getElem_cons_succ, List.drop_zero, List.drop_succ_cons, List.take_succ_cons, List.take_zero] at h1
  have h1' : DataW.trod enc Try.prog W 0 (fun _ => true) true m 24 [u1] = some y1 := h1
  obtain ⟨a0, k0, b0, g0⟩ := (rd_int (n := (n + 1)) Try.underlying24) H enc m (by omega) _ _ h0'
  obtain ⟨a1, k1, b1, g1⟩ := (rd_int (n := (n + 1)) Try.underlying24) H enc m (by omega) _ _ h1'
  have hall : xs = [y0, y1] := by
    obtain ⟨q0, q1, rfl⟩ := len_2 (l := xs) hlen
    simp only [List.getElem?_cons_zero, List.getElem?_cons_succ, Option.some.injEq] at hy0 hy1
    rw [hy0, hy1]
  subst hall
  refine ⟨⟨a0, a1⟩, ⟨[u0], [u1], rfl, k0, k1⟩, ?_, ?_⟩
  · (try dsimp only at b0); (try dsimp only at b1); simp only [bulk151, Rows.uptoBulk, Rows.uptoBulkAll, List.map_cons, List.map_nil]; omega
  · exact ⟨g0, g1⟩
def bulk104 (x : S104) : Nat := (fun s => s.size + 1) x.f0 + (fun xs => sumB (fun _ => 1) xs + 1) x.f1 + 1
def good104 (x : S104) : Prop := (fun _ => True) x.f0 ∧ (fun xs => ∀ x ∈ xs, (wfI .u8) x) x.f1
theorem rd104 (W : World) (n : Nat) : RdF Try.prog W n k104 104 bulk104 good104 := by
  intro H enc fuel hfu cs x h
  cases n with
  | zero =>
    obtain rfl : fuel = 0 := by omega
    simp [DataW.trod] at h
  | succ n =>
  obtain ⟨xs, m, rfl, rfl, hl, hlen, hf⟩ := DataW.trod_struct Try.underlying104 h
  have hl' : cs.length = 2 := hl.trans (by kernel_rfl)
  clear hl
  obtain ⟨u0, u1, rfl⟩ := len_2 hl'
  have z9 : Try.prog.cellsOf 9 = 1 := by kernel_rfl
  have z95 : Try.prog.cellsOf 95 = 1 := by kernel_rfl
  obtain ⟨y0, hy0⟩ : ∃ y, xs[0]? = some y := ⟨_, List.getElem?_eq_getElem (by rw [hlen]; decide)⟩
  have h0 := hf 0 _ rfl
  rw [hy0] at h0
  simp only [z9, List.getElem_toArray, List.getElem_cons_zero, List.getElem_cons_succ, List.drop_zero, List.drop_succ_cons, List.take_succ_cons, List.take_zero] at h0
  have h0' : DataW.trod enc Try.prog W 0 (fun _ => true) true m 9 [u0] = some y0 := h0
  obtain ⟨y1, hy1⟩ : ∃ y, xs[1]? = some y := ⟨_, List.getElem?_eq_getElem (by rw [hlen]; decide)⟩
  have h1 := hf 1 _ rfl
  rw [hy1] at h1
  simp only [z95, List.getElem_toArray, List.getElem_cons_zero, List.getElem_cons_succ, List.drop_zero, List.drop_succ_cons, List.take_succ_cons, List.take_zero] at h1
  have h1' : DataW.trod enc Try.prog W 0 (fun _ => true) true m 95 [u1] = some y1 := h1
  obtain ⟨a0, k0, b0, g0⟩ := (rd_string (n := (n + 1)) Try.underlying9) H enc m (by omega) _ _ h0'
  obtain ⟨a1, k1, b1, g1⟩ := (rd_slice (n := n) Try.underlying95 (by kernel_rfl) (rd_int (n := n) Try.underlying5)) H enc m (by omega) _ _ h1'
  have hall : xs = [y0, y1] := by
    obtain ⟨q0, q1, rfl⟩ := len_2 (l := xs) hlen
    simp only [List.getElem?_cons_zero, List.getElem?_cons_succ, Option.some.injEq] at hy0 hy1
    rw [hy0, hy1]
  subst hall
  refine ⟨⟨a0, a1⟩, ⟨[u0], [u1], rfl, k0, k1⟩, ?_, ?_⟩
  · (try dsimp only at b0); (try dsimp only at b1); simp only [bulk104, Rows.uptoBulk, Rows.uptoBulkAll, List.map_cons, List.map_nil]; omega
  · exact ⟨g0, g1⟩
mutual
def bulk39 : S39 → Nat
  | ⟨x0, x1, x2⟩ => (fun s => s.size + 1) x0 + (fun xs => sumB bulk104 xs + 1) x1 + (bulks39 x2 + 1) + 1
def bulks39 : List S39 → Nat
  | [] => 0
  | x :: r => bulk39 x + bulks39 r
end
theorem bulks39_eq (l : List S39) : bulks39 l = sumB bulk39 l := by
  induction l with
  | nil => rfl
  | cons x r ih => simp only [bulks39, sumB, ih]
mutual
def good39 : S39 → Prop
  | ⟨x0, x1, x2⟩ => (fun _ => True) x0 ∧ (fun xs => ∀ x ∈ xs, good104 x) x1 ∧ goods39 x2
def goods39 : List S39 → Prop
  | [] => True
  | x :: r => good39 x ∧ goods39 r
end
theorem goods39_iff (l : List S39) : goods39 l ↔ ∀ x ∈ l, good39 x := by
  induction l with
  | nil => simp [goods39]
  | cons x r ih => simp [goods39, ih]
theorem rd39 (W : World) (n : Nat) : RdF Try.prog W n k39 39 bulk39 good39 := by
  induction n with
  | zero =>
    intro H enc fuel hf cs x h
    obtain rfl : fuel = 0 := by omega
    simp [DataW.trod] at h
  | succ n ih =>
  intro H enc fuel hfu cs x h
  obtain ⟨xs, m, rfl, rfl, hl, hlen, hf⟩ := DataW.trod_struct Try.underlying39 h
  have hl' : cs.length = 3 := hl.trans (by kernel_rfl)
  clear hl
  obtain ⟨u0, u1, u2, rfl⟩ := len_3 hl'
  have z9 : Try.prog.cellsOf 9 = 1 := by kernel_rfl
  have z36 : Try.prog.cellsOf 36 = 1 := by kernel_rfl
  have z37 : Try.prog.cellsOf 37 = 1 := by kernel_rfl
  obtain ⟨y0, hy0⟩ : ∃ y, xs[0]? = some y := ⟨_, List.getElem?_eq_getElem (by rw [hlen]; decide)⟩
  have h0 := hf 0 _ rfl
  rw [hy0] at h0
  simp only [z9, List.getElem_toArray, List.getElem_cons_zero, List.getElem_cons_succ, List.drop_zero, List.drop_succ_cons, List.take_succ_cons, List.take_zero] at h0
  have h0' : DataW.trod enc Try.prog W 0 (fun _ => true) true m 9 [u0] = some y0 := h0
  obtain ⟨y1, hy1⟩ : ∃ y, xs[1]? = some y := ⟨_, List.getElem?_eq_getElem (by rw [hlen]; decide)⟩
  have h1 := hf 1 _ rfl
  rw [hy1] at h1
  simp only [z36, List.getElem_toArray, List.getElem_cons_zero, List.getElem_cons_succ, List.drop_zero, List.drop_succ_cons, List.take_succ_cons, List.take_zero] at h1
  have h1' : DataW.trod enc Try.prog W 0 (fun _ => true) true m 36 [u1] = some y1 := h1
  obtain ⟨y2, hy2⟩ : ∃ y, xs[2]? = some y := ⟨_, List.getElem?_eq_getElem (by rw [hlen]; decide)⟩
  have h2 := hf 2 _ rfl
  rw [hy2] at h2
  simp only [z37, List.getElem_toArray, List.getElem_cons_zero, List.getElem_cons_succ, List.drop_zero, List.drop_succ_cons, List.take_succ_cons, List.take_zero] at h2
  have h2' : DataW.trod enc Try.prog W 0 (fun _ => true) true m 37 [u2] = some y2 := h2
  obtain ⟨a0, k0, b0, g0⟩ := (rd_string (n := (n + 1)) Try.underlying9) H enc m (by omega) _ _ h0'
  obtain ⟨a1, k1, b1, g1⟩ := (rd_slice (n := n) Try.underlying36 (by kernel_rfl) (rd104 W n)) H enc m (by omega) _ _ h1'
  obtain ⟨a2, k2, b2, g2⟩ := (rd_slice (n := n) Try.underlying37 (by kernel_rfl) ih) H enc m (by omega) _ _ h2'
  have hall : xs = [y0, y1, y2] := by
    obtain ⟨q0, q1, q2, rfl⟩ := len_3 (l := xs) hlen
    simp only [List.getElem?_cons_zero, List.getElem?_cons_succ, Option.some.injEq] at hy0 hy1 hy2
    rw [hy0, hy1, hy2]
  subst hall
  cases k0
  obtain ⟨A1, c1, e1, l1, r1⟩ := k1
  cases e1
  obtain ⟨A2, c2, e2, l2, r2⟩ := k2
  cases e2
  refine ⟨⟨a0, a1, a2⟩, k39_mk W ⟨a0, a1, a2⟩ l1 r1 l2 r2, ?_, ?_⟩
  · (try dsimp only at b0); (try dsimp only at b1); (try dsimp only at b2); simp only [bulk39, bulks39_eq, Rows.uptoBulk, Rows.uptoBulkAll, List.map_cons, List.map_nil]; omega
  · exact ⟨g0, g1, (goods39_iff _).mpr g2⟩
def bulk43 (x : S43) : Nat := (fun _ => 1) x.f0 + (fun xs => sumB bulk151 xs + 1) x.f1 + bulk39 x.f2 + 1
def good43 (x : S43) : Prop := (wfI .u32) x.f0 ∧ (fun xs => ∀ x ∈ xs, good151 x) x.f1 ∧ good39 x.f2
theorem rd43 (W : World) (n : Nat) : RdF Try.prog W n k43 43 bulk43 good43 := by
  intro H enc fuel hfu cs x h
  cases n with
  | zero =>
    obtain rfl : fuel = 0 := by omega
    simp [DataW.trod] at h
  | succ n =>
  obtain ⟨xs, m, rfl, rfl, hl, hlen, hf⟩ := DataW.trod_struct Try.underlying43 h
  have hl' : cs.length = 5 := hl.trans (by kernel_rfl)
  clear hl
  obtain ⟨u0, u1, u2, u3, u4, rfl⟩ := len_5 hl'
  have z28 : Try.prog.cellsOf 28 = 1 := by kernel_rfl
  have z39 : Try.prog.cellsOf 39 = 3 := by kernel_rfl
  have z41 : Try.prog.cellsOf 41 = 1 := by kernel_rfl
  obtain ⟨y0, hy0⟩ : ∃ y, xs[0]? = some y := ⟨_, List.getElem?_eq_getElem (by rw [hlen]; decide)⟩
  have h0 := hf 0 _ rfl
  rw [hy0] at h0
  simp only [z28, List.getElem_toArray, List.getElem_cons_zero, List.getElem_cons_succ, List.drop_zero, List.drop_succ_cons, List.take_succ_cons, List.take_zero] at h0
  have h0' : DataW.trod enc Try.prog W 0 (fun _ => true) true m 28 [u0] = some y0 := h0
  obtain ⟨y1, hy1⟩ : ∃ y, xs[1]? = some y := ⟨_, List.getElem?_eq_getElem (by rw [hlen]; decide)⟩
  have h1 := hf 1 _ rfl
  rw [hy1] at h1
  simp only [z41, List.getElem_toArray, List.getElem_cons_zero, List.getElem_cons_succ, List.drop_zero, List.drop_succ_cons, List.take_succ_cons, List.take_zero] at h1
  have h1' : DataW.trod enc Try.prog W 0 (fun _ => true) true m 41 [u1] = some y1 := h1
  obtain ⟨y2, hy2⟩ : ∃ y, xs[2]? = some y := ⟨_, List.getElem?_eq_getElem (by rw [hlen]; decide)⟩
  have h2 := hf 2 _ rfl
  rw [hy2] at h2
  simp only [z39, List.getElem_toArray, List.getElem_cons_zero, List.getElem_cons_succ, List.drop_zero, List.drop_succ_cons, List.take_succ_cons, List.take_zero] at h2
  have h2' : DataW.trod enc Try.prog W 0 (fun _ => true) true m 39 [u2, u3, u4] = some y2 := h2
  obtain ⟨a0, k0, b0, g0⟩ := (rd_int (n := (n + 1)) Try.underlying28) H enc m (by omega) _ _ h0'
  obtain ⟨a1, k1, b1, g1⟩ := (rd_slice (n := n) Try.underlying41 (by kernel_rfl) (rd151 W n)) H enc m (by omega) _ _ h1'
  obtain ⟨a2, k2, b2, g2⟩ := (rd39 W (n + 1)) H enc m (by omega) _ _ h2'
  have hall : xs = [y0, y1, y2] := by
    obtain ⟨q0, q1, q2, rfl⟩ := len_3 (l := xs) hlen
    simp only [List.getElem?_cons_zero, List.getElem?_cons_succ, Option.some.injEq] at hy0 hy1 hy2
    rw [hy0, hy1, hy2]
  subst hall
  refine ⟨⟨a0, a1, a2⟩, ⟨[u0], [u1, u2, u3, u4], rfl, k0, ⟨[u1], [u2, u3, u4], rfl, k1, k2⟩⟩, ?_, ?_⟩
  · (try dsimp only at b0); (try dsimp only at b1); (try dsimp only at b2); simp only [bulk43, Rows.uptoBulk, Rows.uptoBulkAll, List.map_cons, List.map_nil]; omega
  · exact ⟨g0, g1, g2⟩
end Go.Proofs.Yteejaaeglfpcmaa.PH

namespace Go.Proofs.Yteejaaeglfpcmaa.PH
open Go.RowKit Go.Proofs.Yteejaaeglfpcmaa.Rdr Go.Proofs.YteejaaeglfpcmaaW.PrintWords Go.Proofs.YteejaaeglfpcmaaW.PrintLast Go.Proofs.YteejaaeglfpcmaaW.PrintMore
def arboretlaw08_HandleEach.Pure : Prop := ∀ (x0 : S43), bulk43 x0 ≤ 1048576 → good43 x0 → ∃ k, arboretlaw08_HandleEach.f k x0.f0 x0.f1 x0.f2.f0 x0.f2.f1 x0.f2.f2 = some true
end Go.Proofs.Yteejaaeglfpcmaa.PH

set_option linter.unusedVariables false
set_option linter.unusedSimpArgs false
namespace Go.Proofs.Yteejaaeglfpcmaa.Aid
open Go.RowKit Go.Proofs.YteejaaeglfpcmaaW.PrintWords
section
variable {α β : Type} {r : α}
theorem Ev.pos {c : Prop} [Decidable c] {A B : Nat → Option α} (h : c) (hA : Ev A r) : Ev (fun k => if c then A k else B k) r := by
  simp only [if_pos h]
  exact hA
theorem Ev.neg {c : Prop} [Decidable c] {A B : Nat → Option α} (h : ¬ c) (hB : Ev B r) : Ev (fun k => if c then A k else B k) r := by
  simp only [if_neg h]
  exact hB
theorem Ev.succ {g : Nat → Option α} (h : Ev (fun k => g (k + 1)) r) : Ev g r := Ev.step (fun _ => rfl) h
theorem Ev.some (r : α) : Ev (fun _ => some r) r := ⟨0, fun _ _ => rfl⟩
theorem Ev.fix {g : Option α} (h : g = Option.some r) : Ev (fun _ => g) r := ⟨0, fun _ _ => h⟩
theorem Ev.then {g : Nat → Option α} {f : Nat → α → Option β} {a : α} {b : β} (h : Ev g a) (k : Ev (fun n => f n a) b) : Ev (fun n => (g n).bind (f n)) b := Ev.bind h k
theorem Ev.out {g : Nat → Option α} (h : Ev g r) : ∃ k, g k = Option.some r := Ev.rounds h
end
theorem wu64 {x : Int} (h0 : 0 ≤ x) (h1 : x < 18446744073709551616) : IntKind.u64.wrap x = x := by
  simp only [IntKind.wrap, IntKind.bits, IntKind.signed]
  simp
  omega
theorem or_low (i : Nat) (hi : i ≤ 64) {x y : Int} (hx : 0 ≤ x) (hxm : x % 2 ^ i = 0) (hx1 : x < 18446744073709551616) (hy : 0 ≤ y) (hy1 : y < 2 ^ i) : Go.bits .or .u64 x y = x + y := by
  have h2 : (2 : Int) ^ i ≤ 18446744073709551616 := by
    have h : (2 : Nat) ^ i ≤ 2 ^ 64 := Nat.pow_le_pow_right (by decide) hi
    have h' : ((2 ^ i : Nat) : Int) ≤ ((2 ^ 64 : Nat) : Int) := Int.ofNat_le.mpr h
    simpa using h'
  exact Go.bits_join .u64 64 (by decide) (fun n h0 h1 => wu64 h0 (by simpa using h1)) i x y hx hxm (by simpa using hx1) hy hy1 (by simpa using Int.lt_of_lt_of_le hy1 h2)
theorem wf_u8 {x : Int} : (Lit.int .u8 x).wf = true ↔ 0 ≤ x ∧ x ≤ 255 := by simp [Lit.wf, IntKind.min, IntKind.max, IntKind.signed, IntKind.bits]
theorem getD_at {α : Type} {l : List α} {d : α} {i : Nat} (h : i < l.length) : l.getD i d = l[i] := by simp [List.getD_eq_getElem?_getD, List.getElem?_eq_getElem h]
theorem drop_at {α : Type} {l : List α} {d : α} {i : Nat} (h : i < l.length) : l.drop i = l.getD i d :: l.drop (i + 1) := by rw [getD_at h]; exact List.drop_eq_getElem_cons h
end Go.Proofs.Yteejaaeglfpcmaa.Aid

set_option linter.unusedVariables false
set_option linter.unusedSimpArgs false
namespace Go.Proofs.Yteejaaeglfpcmaa.PH
open Go.RowKit Go.Proofs.Yteejaaeglfpcmaa.Rdr Go.Proofs.Yteejaaeglfpcmaa.Aid Go.Proofs.YteejaaeglfpcmaaW.PrintWords
theorem rdN (xs : List S39) (i : Nat) : rd_T39 xs (i : Int) = xs.getD i z39 := by simp [rd_T39]
theorem rdP (xs : List S104) (i : Nat) : rd_T104 xs (i : Int) = xs.getD i z104 := by simp [rd_T104]
theorem getN {xs : List S39} {i : Nat} (h : i < xs.length) : xs.getD i z39 ∈ xs := by rw [getD_at h]; exact List.getElem_mem h
theorem getP {xs : List S104} {i : Nat} (h : i < xs.length) : xs.getD i z104 ∈ xs := by rw [getD_at h]; exact List.getElem_mem h
theorem bulk_pos (x : S39) : 1 ≤ bulk39 x := by
  cases x
  simp only [bulk39]
  omega
theorem bulk_eq (x : S39) : bulk39 x = x.f0.size + sumB bulk104 x.f1 + sumB bulk39 x.f2 + 4 := by
  cases x
  simp only [bulk39, bulks39_eq]
  omega
theorem bulk_kid {x k : S39} (h : k ∈ x.f2) : bulk39 k + 4 ≤ bulk39 x := by
  have := sumB_mem (B := bulk39) h
  rw [bulk_eq x]
  omega
theorem bulk_prop {x : S39} {p : S104} (h : p ∈ x.f1) : bulk104 p + 4 ≤ bulk39 x := by
  have := sumB_mem (B := bulk104) h
  rw [bulk_eq x]
  omega
theorem bulk_kids (x : S39) : x.f2.length + 4 ≤ bulk39 x := by
  have := sumB_len bulk_pos x.f2
  rw [bulk_eq x]
  omega
theorem bulk_props (x : S39) : x.f1.length + 4 ≤ bulk39 x := by
  have := sumB_len (B := bulk104) (fun p => by unfold bulk104; omega) x.f1
  rw [bulk_eq x]
  omega
theorem bulk_value (p : S104) : p.f0.size + p.f1.length + 3 ≤ bulk104 p := by
  unfold bulk104
  simp only [sumB_one]
  omega
theorem good_eq (x : S39) : good39 x ↔ (∀ p ∈ x.f1, good104 p) ∧ (∀ k ∈ x.f2, good39 k) := by
  cases x
  simp only [good39, goods39_iff]
  exact ⟨fun h => h.2, fun h => ⟨trivial, h⟩⟩
theorem good_value (p : S104) (h : good104 p) : ∀ b ∈ p.f1, 0 ≤ b ∧ b ≤ 255 := fun b hb => wf_u8.mp (h.2 b hb)
theorem step64 {i n : Nat} (h : i < n) (hn : n ≤ 1048576) : wrap64 ((i : Int) + 1) = ((i + 1 : Nat) : Int) := by unfold wrap64; omega
theorem size_ends (m : Nat) (hm : m ≤ 1048576) : ∀ x : S39, bulk39 x ≤ m → ∀ d : Int, ∃ v, Ev (fun k => arboretlaw03_size.f k x.f0 x.f1 x.f2 d) v := by
  induction m with
  | zero => intro x hx; have := bulk_pos x; omega
  | succ m ih =>
    intro x hx d
    have hk := bulk_kids x
    have hp := bulk_props x
    have kids : ∀ (j i : Nat) (acc : Int), i + j = x.f2.length → ∃ v, Ev (fun k => arboretlaw03_size.l1 k d acc (x.f2.length : Int) (i : Int) x.f0 x.f1 x.f2) v := by
      intro j
      induction j with
      | zero =>
        intro i acc hi
        refine ⟨acc, Ev.succ ?_⟩
        simp only [arboretlaw03_size.l1]
        exact Ev.neg (by omega) (Ev.some _)
      | succ j ihj =>
        intro i acc hi
        have hw := step64 (i := i) (n := x.f2.length) (by omega) (by omega)
        by_cases h1 : d > 20
        · refine ⟨1048576, Ev.succ ?_⟩
          simp only [arboretlaw03_size.l1]
          exact Ev.pos (by omega) (Ev.pos h1 (Ev.some _))
        by_cases h2 : acc > 100000
        · refine ⟨1048576, Ev.succ ?_⟩
          simp only [arboretlaw03_size.l1]
          exact Ev.pos (by omega) (Ev.neg h1 (Ev.pos h2 (Ev.some _)))
        have hmem := getN (xs := x.f2) (i := i) (by omega)
        obtain ⟨v, hv⟩ := ih (by omega) (x.f2.getD i z39) (by have := bulk_kid hmem; omega) (wrap64 (d + 1))
        obtain ⟨r, hr⟩ := ihj (i + 1) (wrap64 (acc + v)) (by omega)
        refine ⟨r, Ev.succ ?_⟩
        simp only [arboretlaw03_size.l1, rdN, hw]
        exact Ev.pos (by omega) (Ev.neg h1 (Ev.neg h2 (Ev.pos (by omega) (Ev.pos (by omega) (Ev.then hv hr)))))
    have props : ∀ (j i : Nat) (acc : Int), i + j = x.f1.length → ∃ v, Ev (fun k => arboretlaw03_size.l0 k d acc (x.f1.length : Int) (i : Int) x.f0 x.f1 x.f2) v := by
      intro j
      induction j with
      | zero =>
        intro i acc hi
        obtain ⟨v, hv⟩ := kids x.f2.length 0 acc (by omega)
        refine ⟨v, Ev.succ ?_⟩
        simp only [arboretlaw03_size.l0]
        exact Ev.neg (by omega) hv
      | succ j ihj =>
        intro i acc hi
        have hw := step64 (i := i) (n := x.f1.length) (by omega) (by omega)
        obtain ⟨v, hv⟩ := ihj (i + 1) (wrap64 ((wrap64 ((wrap64 (acc + 1)) + (((rd_T104 x.f1 i).f0).size : Int))) + (((rd_T104 x.f1 i).f1).length : Int))) (by omega)
        refine ⟨v, Ev.succ ?_⟩
        simp only [arboretlaw03_size.l0, hw]
        exact Ev.pos (by omega) (Ev.pos (by omega) (Ev.pos (by omega) hv))
    obtain ⟨v, hv⟩ := props x.f1.length 0 (wrap64 (1 + (x.f0.size : Int))) (by omega)
    refine ⟨v, Ev.succ ?_⟩
    simp only [arboretlaw03_size.f]
    exact hv
theorem few_ends (b : Int) (l : List S151) (x : S39) (hx : bulk39 x ≤ 1048576) : ∃ v, Ev (fun k => arboretlaw03_Few.f k b l x.f0 x.f1 x.f2) v := by
  obtain ⟨v, hv⟩ := size_ends 1048576 (by omega) x hx 0
  by_cases h : v ≤ 100000
  · refine ⟨decide ((l.length : Int) ≤ 200), ?_⟩
    unfold arboretlaw03_Few.f
    exact Ev.then hv (Ev.pos h (Ev.some _))
  · refine ⟨false, ?_⟩
    unfold arboretlaw03_Few.f
    exact Ev.then hv (Ev.neg h (Ev.some _))
end Go.Proofs.Yteejaaeglfpcmaa.PH

namespace Go.Proofs.Yteejaaeglfpcmaa.PH
open Go.RowKit Go.Proofs.YteejaaeglfpcmaaW.PrintWords Go.Proofs.YteejaaeglfpcmaaW.PrintLast Go.Proofs.YteejaaeglfpcmaaW.PrintMore
attribute [local go_sem] max2_int min2_int max_two min_two max_three min_three max_four min_four   -- for this text's walks alone
set_option linter.unusedVariables false
set_option linter.unusedSimpArgs false
mutual
def arboretref06_All.l0 : Nat → List Int → List (List Int) → Int → Int → ByteArray → List (S104) → List (S39) → Option ((List (List Int)))
  | 0, _, _, _, _, _, _, _ => none
  | k + 1, x1, x5, x13, x14, x150000, x150001, x150002 => if x14 < x13 then (if 0 ≤ x14 then (if x14 < (x150002.length : Int) then ((some (([] : List Int) : List Int)).bind fun y160 => (if y160.length + x1.length < 17592186044416 then ((some (y160 ++ x1 : List Int)).bind fun y163 => ((some (([x14] : List Int) : List Int)).bind fun y166 => (if y163.length + y166.length < 17592186044416 then ((arboretref06_All.f k ((rd_T39 x150002 x14).f0) ((rd_T39 x150002 x14).f1) ((rd_T39 x150002 x14).f2) (y163 ++ y166)).bind fun t172 => (if x5.length + t172.length < 5864062014805 then (arboretref06_All.l0 k x1 (x5 ++ t172) x13 (wrap64 (x14 + 1)) x150000 x150001 x150002) else (none))) else (none)))) else (none))) else (none)) else (none)) else (some x5)
def arboretref06_All.f : Nat → ByteArray → List (S104) → List (S39) → List Int → Option ((List (List Int)))
  | 0, _, _, _, _ => none
  | k + 1, a0_0, l0_1, l0_2, l1 => (some (([] : List Int) : List Int)).bind fun y150 => (if y150.length + l1.length < 17592186044416 then (arboretref06_All.l0 k l1 (([(y150 ++ l1)] : List (List Int))) (l0_2.length : Int) 0 a0_0 l0_1 l0_2) else (none))
end
end Go.Proofs.Yteejaaeglfpcmaa.PH

set_option linter.unusedVariables false
set_option linter.unusedSimpArgs false
namespace Go.Proofs.Yteejaaeglfpcmaa.PH
open Go.RowKit Go.Proofs.Yteejaaeglfpcmaa.Rdr Go.Proofs.Yteejaaeglfpcmaa.Aid Go.Proofs.YteejaaeglfpcmaaW.PrintWords
mutual
def placesN : S39 → List Int → List (List Int)
  | ⟨_, _, ks⟩, p => p :: placesL ks 0 p
def placesL : List S39 → Nat → List Int → List (List Int)
  | [], _, _ => []
  | x :: r, i, p => placesN x (p ++ [(i : Int)]) ++ placesL r (i + 1) p
end
theorem placesN_eq (x : S39) (p : List Int) : placesN x p = p :: placesL x.f2 0 p := by cases x; simp only [placesN]
theorem placesL_len (m : Nat) (ih : ∀ x : S39, bulk39 x ≤ m → ∀ p, (placesN x p).length ≤ bulk39 x) : ∀ (l : List S39) (i : Nat) (p : List Int), sumB bulk39 l ≤ m → (placesL l i p).length ≤ sumB bulk39 l
  | [], i, p, _ => by simp [placesL, sumB]
  | x :: r, i, p, h => by
    simp only [sumB] at h
    have h1 := ih x (by omega) (p ++ [(i : Int)])
    have h2 := placesL_len m ih r (i + 1) p (by omega)
    simp only [placesL, List.length_append, sumB]
    omega
theorem places_len (m : Nat) : ∀ (x : S39) (p : List Int), bulk39 x ≤ m → (placesN x p).length ≤ bulk39 x := by
  induction m with
  | zero => intro x p hx; have := bulk_pos x; omega
  | succ m ih =>
    intro x p hx
    rw [placesN_eq, List.length_cons]
    have hb := bulk_eq x
    have := placesL_len m (fun x hx p => ih x p hx) x.f2 0 p (by omega)
    omega
theorem placesL_each (m : Nat) (ih : ∀ x : S39, bulk39 x ≤ m → ∀ p, ∀ q ∈ placesN x p, q.length ≤ p.length + bulk39 x) : ∀ (l : List S39) (i : Nat) (p : List Int), sumB bulk39 l ≤ m → ∀ q ∈ placesL l i p, q.length ≤ p.length + 1 + sumB bulk39 l
  | [], i, p, _ => by simp [placesL]
  | x :: r, i, p, h => by
    simp only [sumB] at h
    intro q hq
    simp only [placesL, List.mem_append] at hq
    simp only [sumB]
    rcases hq with hq | hq
    · have := ih x (by omega) _ q hq
      simp at this
      omega
    · have := placesL_each m ih r (i + 1) p (by omega) q hq
      omega
theorem places_each (m : Nat) : ∀ (x : S39) (p : List Int), bulk39 x ≤ m → ∀ q ∈ placesN x p, q.length ≤ p.length + bulk39 x := by
  induction m with
  | zero => intro x p hx; have := bulk_pos x; omega
  | succ m ih =>
    intro x p hx q hq
    rw [placesN_eq, List.mem_cons] at hq
    have hb := bulk_eq x
    rcases hq with rfl | hq
    · omega
    · have := placesL_each m (fun x hx p => ih x p hx) x.f2 0 p (by omega) q hq
      omega
theorem equal_same (p : List Int) (hp : p.length ≤ 4194304) : Ev (fun k => arboretref12_Equal.f k p p) true := by
  have key : ∀ (j i : Nat), i + j = p.length → Ev (fun k => arboretref12_Equal.l0 k p p (p.length : Int) (i : Int)) true := by
    intro j
    induction j with
    | zero =>
      intro i hi
      refine Ev.succ ?_
      simp only [arboretref12_Equal.l0]
      exact Ev.neg (by omega) (Ev.some _)
    | succ j ihj =>
      intro i hi
      have hw : wrap64 ((i : Int) + 1) = ((i + 1 : Nat) : Int) := by unfold wrap64; omega
      refine Ev.succ ?_
      simp only [arboretref12_Equal.l0, hw]
      exact Ev.pos (by omega) (Ev.pos (by omega) (Ev.pos (by omega) (Ev.pos (by omega) (Ev.pos (by trivial) (ihj (i + 1) (by omega))))))
  unfold arboretref12_Equal.f
  exact Ev.pos rfl (key p.length 0 (by omega))
end Go.Proofs.Yteejaaeglfpcmaa.PH

set_option linter.unusedVariables false
set_option linter.unusedSimpArgs false
namespace Go.Proofs.Yteejaaeglfpcmaa.PH
open Go.RowKit Go.Proofs.Yteejaaeglfpcmaa.Aid Go.Proofs.YteejaaeglfpcmaaW.PrintWords
def numOn (v : Int) (l : List Int) : Int := l.foldl (fun v c => v * 256 + c) v
def num (l : List Int) : Int := numOn 0 l
def isBytes (l : List Int) : Prop := ∀ b ∈ l, 0 ≤ b ∧ b ≤ 255
theorem isBytes.drop {l : List Int} (h : isBytes l) (i : Nat) : isBytes (l.drop i) := fun b hb => h b (List.mem_of_mem_drop hb)
theorem isBytes.take {l : List Int} (h : isBytes l) (i : Nat) : isBytes (l.take i) := fun b hb => h b (List.mem_of_mem_take hb)
theorem isBytes.tail {a : Int} {l : List Int} (h : isBytes (a :: l)) : isBytes l := fun b hb => h b (List.mem_cons_of_mem _ hb)
theorem isBytes.head {a : Int} {l : List Int} (h : isBytes (a :: l)) : 0 ≤ a ∧ a ≤ 255 := h a List.mem_cons_self
theorem pow_step (j : Nat) : (256 : Int) ^ (j + 1) = 256 ^ j * 256 := by rw [Int.pow_succ]
theorem pow_le (j : Nat) (h : j ≤ 8) : (256 : Int) ^ j ≤ 18446744073709551616 := by
  have h1 : (256 : Nat) ^ j ≤ 256 ^ 8 := Nat.pow_le_pow_right (by decide) h
  have h2 : ((256 ^ j : Nat) : Int) ≤ ((256 ^ 8 : Nat) : Int) := Int.ofNat_le.mpr h1
  simpa using h2
theorem numOn_range : ∀ (l : List Int) (j : Nat) (v : Int), isBytes l → 0 ≤ v → v < 256 ^ j → 0 ≤ numOn v l ∧ numOn v l < 256 ^ (j + l.length)
  | [], j, v, _, h0, h1 => ⟨h0, h1⟩
  | a :: l, j, v, hb, h0, h1 => by
    obtain ⟨a0, a1⟩ := hb.head
    have h := numOn_range l (j + 1) (v * 256 + a) hb.tail (by omega) (by rw [pow_step]; omega)
    have e : j + 1 + l.length = j + (a :: l).length := by rw [List.length_cons]; omega
    rw [e] at h
    exact h
theorem num_range (l : List Int) (hb : isBytes l) : 0 ≤ num l ∧ num l < 256 ^ l.length := by
  have h := numOn_range l 0 0 hb (Int.le_refl 0) (by decide)
  simpa [num] using h
theorem numbOn (l : List Int) : ∀ (j : Nat) (v : Int), isBytes l → 0 ≤ v → v < 256 ^ j → j + l.length ≤ 8 → l.foldl (fun v c => Go.bits .or .u64 (IntKind.u64.wrap (v * 256)) (IntKind.u64.wrap c)) v = numOn v l := by
  induction l with
  | nil => intro j v _ _ _ _; rfl
  | cons a l ih =>
    intro j v hb h0 h1 hl
    obtain ⟨a0, a1⟩ := hb.head
    rw [List.length_cons] at hl
    have hp := pow_le (j + 1) (by omega)
    rw [pow_step] at hp
    have e1 : IntKind.u64.wrap (v * 256) = v * 256 := wu64 (by omega) (by omega)
    have e2 : IntKind.u64.wrap a = a := wu64 a0 (by omega)
    have e3 : Go.bits .or .u64 (v * 256) a = v * 256 + a := or_low 8 (by decide) (by omega) (by simp only [Int.reducePow]; omega) (by omega) a0 (by simp only [Int.reducePow]; omega)
    rw [List.foldl_cons, e1, e2, e3]
    exact ih (j + 1) (v * 256 + a) hb.tail (by omega) (by rw [pow_step]; omega) (by omega)
theorem numb_eq (l : List Int) (hb : isBytes l) (hl : l.length ≤ 8) : numb l = num l := numbOn l 0 0 hb (Int.le_refl 0) (by decide) (by omega)
theorem get_at (l : List Int) (i : Nat) (hb : isBytes l) (h : i + 4 ≤ l.length) : words_Get.f l (i : Int) = some (num ((l.drop i).take 4), true) := by
  unfold words_Get.f
  rw [if_pos ⟨Int.natCast_nonneg i, by omega⟩]
  have e : ((i : Int) + 4).toNat = i + 4 := by omega
  rw [e, Int.toNat_natCast, List.drop_take, show i + 4 - i = 4 by omega, numb_eq _ ((hb.drop i).take 4) (by rw [List.length_take]; omega)]
  have hr := num_range ((l.drop i).take 4) ((hb.drop i).take 4)
  have hl : ((l.drop i).take 4).length = 4 := by rw [List.length_take, List.length_drop]; omega
  rw [hl] at hr
  have : num ((l.drop i).take 4) % 4294967296 = num ((l.drop i).take 4) := Int.emod_eq_of_lt hr.1 (by simpa using hr.2)
  rw [this]
theorem get_no (l : List Int) (i : Nat) (h : l.length < i + 4) : words_Get.f l (i : Int) = some (0, false) := by
  unfold words_Get.f
  rw [if_neg (by omega)]
end Go.Proofs.Yteejaaeglfpcmaa.PH

namespace Go.Proofs.Yteejaaeglfpcmaa.PH
open Go.RowKit Go.Proofs.YteejaaeglfpcmaaW.PrintWords Go.Proofs.YteejaaeglfpcmaaW.PrintLast Go.Proofs.YteejaaeglfpcmaaW.PrintMore
attribute [local go_sem] max2_int min2_int max_two min_two max_three min_three max_four min_four   -- for this text's walks alone
set_option linter.unusedVariables false
set_option linter.unusedSimpArgs false
def arboretref01_Find.l0 : Nat → ByteArray → Int → Int → ByteArray → List (S104) → List (S39) → Option (Int)
  | 0, _, _, _, _, _, _ => none
  | k + 1, x1, x8, x9, x134000, x134001, x134002 => if x9 < x8 then (if 0 ≤ x9 then (if x9 < (x134001.length : Int) then (if ((rd_T104 x134001 x9).f0).toList = x1.toList then (some x9) else (arboretref01_Find.l0 k x1 x8 (wrap64 (x9 + 1)) x134000 x134001 x134002)) else (none)) else (none)) else (some (-1))
def arboretref01_Find.f (k : Nat) (a0_0 : ByteArray) (l0_1 : List (S104)) (l0_2 : List (S39)) (a1 : ByteArray) : Option (Int) := arboretref01_Find.l0 k a1 (l0_1.length : Int) 0 a0_0 l0_1 l0_2
end Go.Proofs.Yteejaaeglfpcmaa.PH

namespace Go.Proofs.Yteejaaeglfpcmaa.PH
open Go.RowKit Go.Proofs.YteejaaeglfpcmaaW.PrintWords Go.Proofs.YteejaaeglfpcmaaW.PrintLast Go.Proofs.YteejaaeglfpcmaaW.PrintMore
attribute [local go_sem] max2_int min2_int max_two min_two max_three min_three max_four min_four   -- for this text's walks alone
set_option linter.unusedVariables false
set_option linter.unusedSimpArgs false
mutual
def arboretref01_Number.j0 : Nat → List Int → Int → Int → Bool → Option (Int × Bool)
  | 0, _, _, _, _ => none
  | k + 1, x0, x1, x2, x25 => if x25 = true then (some (0, false)) else (arboretref01_Number.l0 k x0 x1 0 x2 0)
def arboretref01_Number.l0 : Nat → List Int → Int → Int → Int → Int → Option (Int × Bool)
  | 0, _, _, _, _, _ => none
  | k + 1, x0, x1, x8, x26, x27 => if x27 < x26 then (if 0 ≤ (wrap64 (x1 + x27)) then (if (wrap64 (x1 + x27)) < (x0.length : Int) then (arboretref01_Number.l0 k x0 x1 (IntKind.u64.wrap ((IntKind.u64.wrap (x8 * 256)) + (IntKind.u64.wrap (rd x0 (wrap64 (x1 + x27)))))) x26 (wrap64 (x27 + 1))) else (none)) else (none)) else (some (x8, true))
end
def arboretref01_Number.f (k : Nat) (l0 : List Int) (a1 : Int) (a2 : Int) : Option (Int × Bool) := if a1 < 0 then (arboretref01_Number.j0 k l0 a1 a2 true) else (if a1 > (l0.length : Int) then (arboretref01_Number.j0 k l0 a1 a2 true) else (arboretref01_Number.j0 k l0 a1 a2 (decide ((wrap64 ((l0.length : Int) - a1)) < a2))))
end Go.Proofs.Yteejaaeglfpcmaa.PH

namespace Go.Proofs.Yteejaaeglfpcmaa.PH
open Go.RowKit Go.Proofs.YteejaaeglfpcmaaW.PrintWords Go.Proofs.YteejaaeglfpcmaaW.PrintLast Go.Proofs.YteejaaeglfpcmaaW.PrintMore
attribute [local go_sem] max2_int min2_int max_two min_two max_three min_three max_four min_four   -- for this text's walks alone
set_option linter.unusedVariables false
set_option linter.unusedSimpArgs false
def arboretref06_Cells.l0 : Nat → List Int → List Int → Int → Option (List Int × Int)
  | 0, _, _, _ => none
  | k + 1, x0, x4, x5 => if x5 < (x0.length : Int) then ((arboretref01_Number.f k x0 x5 4).bind fun bt136 => (if x4.length < 35184372088832 then (arboretref06_Cells.l0 k x0 (x4 ++ [(bt136.1) % 4294967296]) (wrap64 (x5 + 4))) else (none))) else (some (x4, 0))
def arboretref06_Cells.f (k : Nat) (l0 : List Int) : Option (List Int × Int) := if ((l0.length : Int) % 4) = 0 then (arboretref06_Cells.l0 k l0 ([] : List Int) 0) else (some (([] : List Int), 4))
end Go.Proofs.Yteejaaeglfpcmaa.PH

namespace Go.Proofs.Yteejaaeglfpcmaa.PH
open Go.RowKit Go.Proofs.YteejaaeglfpcmaaW.PrintWords Go.Proofs.YteejaaeglfpcmaaW.PrintLast Go.Proofs.YteejaaeglfpcmaaW.PrintMore
attribute [local go_sem] max2_int min2_int max_two min_two max_three min_three max_four min_four   -- for this text's walks alone
set_option linter.unusedVariables false
set_option linter.unusedSimpArgs false
def arboretref06_One.f (k : Nat) (a0_0 : ByteArray) (l0_1 : List (S104)) (l0_2 : List (S39)) (a1 : ByteArray) : Option (Int × Bool × Int) := (arboretref01_Find.f k a0_0 l0_1 l0_2 a1).bind fun t142 => (if t142 < 0 then (some (0, false, 0)) else (if 0 ≤ t142 then (if t142 < (l0_1.length : Int) then ((arboretref06_Cells.f k ((rd_T104 l0_1 t142).f1)).bind fun bt144 => (if bt144.2 = 0 then (if (bt144.1.length : Int) = 1 then (if 0 < (bt144.1.length : Int) then (some (rd bt144.1 0, true, 0)) else (none)) else (some (0, false, 4))) else (some (0, false, 4)))) else (none)) else (none)))
end Go.Proofs.Yteejaaeglfpcmaa.PH

set_option linter.unusedVariables false
set_option linter.unusedSimpArgs false
namespace Go.Proofs.Yteejaaeglfpcmaa.PH
open Go.RowKit Go.Proofs.Yteejaaeglfpcmaa.Rdr Go.Proofs.Yteejaaeglfpcmaa.Aid Go.Proofs.YteejaaeglfpcmaaW.PrintWords
def valP (s : List UInt8) : List S104 → Option (List Int)
  | [] => none
  | p :: r => if p.f0.toList = s then some p.f1 else valP s r
theorem valP_mem {s : List UInt8} {v : List Int} : ∀ {l : List S104}, valP s l = some v → ∃ p ∈ l, p.f1 = v
  | [], h => by simp [valP] at h
  | p :: r, h => by
    simp only [valP] at h
    by_cases c : p.f0.toList = s
    · rw [if_pos c] at h
      exact ⟨p, List.mem_cons_self, Option.some.inj h⟩
    · rw [if_neg c] at h
      obtain ⟨q, hq, e⟩ := valP_mem h
      exact ⟨q, List.mem_cons_of_mem _ hq, e⟩
theorem clone_bytes (v : List Int) (h : v.length ≤ 1048576) : bytes_Clone.f v = some v := by
  unfold bytes_Clone.f
  rw [if_pos (by omega)]
def findN (s : List UInt8) (l : List S104) : List Int × Bool := match valP s l with
  | some v => (v, true)
  | none => ([], false)
theorem find_ev (x : S39) (s : ByteArray) (hx : bulk39 x ≤ 1048576) : Ev (fun k => tree_Find.f k x.f0 x.f1 x.f2 s) (findN s.toList x.f1) := by
  have hp := bulk_props x
  have key : ∀ (j i : Nat), i + j = x.f1.length → Ev (fun k => tree_Find.l0 k s x.f1 (x.f1.length : Int) (i : Int)) (findN s.toList (x.f1.drop i)) := by
    intro j
    induction j with
    | zero =>
      intro i hi
      rw [List.drop_of_length_le (by omega)]
      refine Ev.succ ?_
      simp only [tree_Find.l0, findN, valP]
      exact Ev.neg (by omega) (Ev.some _)
    | succ j ih =>
      intro i hi
      have hw := step64 (i := i) (n := x.f1.length) (by omega) (by omega)
      have hm := getP (xs := x.f1) (i := i) (by omega)
      have hb := bulk_prop hm
      have hv := bulk_value (x.f1.getD i z104)
      have hc := clone_bytes (x.f1.getD i z104).f1 (by omega)
      rw [drop_at (l := x.f1) (d := z104) (i := i) (by omega)]
      refine Ev.succ ?_
      simp only [tree_Find.l0, rdP, hw, hc, Option.bind_some]
      refine Ev.pos (by omega) (Ev.pos (Int.natCast_nonneg i) (Ev.pos (by omega) ?_))
      by_cases c : (x.f1.getD i z104).f0.toList = s.toList
      · have e : findN s.toList (x.f1.getD i z104 :: x.f1.drop (i + 1)) = ((x.f1.getD i z104).f1, true) := by simp only [findN, valP, if_pos c]
        rw [e]
        exact Ev.pos c (Ev.some _)
      · have e : findN s.toList (x.f1.getD i z104 :: x.f1.drop (i + 1)) = findN s.toList (x.f1.drop (i + 1)) := by simp only [findN, valP, if_neg c]
        rw [e]
        exact Ev.neg c (ih (i + 1) (by omega))
  have := key x.f1.length 0 (by omega)
  unfold tree_Find.f
  simpa using this
def oneOf (s : List UInt8) (l : List S104) : Int × Bool × Int := match valP s l with
  | none => (0, false, 0)
  | some v => if v.length = 4 then (num v, true, 0) else (0, false, 4)
theorem one_ev (x : S39) (s : ByteArray) (hx : bulk39 x ≤ 1048576) (hg : good39 x) : Ev (fun k => prop_One.f k x.f0 x.f1 x.f2 s) (oneOf s.toList x.f1) := by
  unfold prop_One.f
  refine Ev.then (find_ev x s hx) ?_
  unfold findN oneOf
  cases hv : valP s.toList x.f1 with
  | none => exact Ev.neg (by decide) (Ev.some _)
  | some v =>
    obtain ⟨p, hp, rfl⟩ := valP_mem hv
    have hby : isBytes p.f1 := good_value p (((good_eq x).mp hg).1 p hp)
    refine Ev.pos rfl ?_
    by_cases h4 : 4 ≤ p.f1.length
    · have hget := get_at p.f1 0 hby (by omega)
      simp only [Int.natCast_zero, List.drop_zero] at hget
      simp only [hget, Option.bind_some]
      refine Ev.pos trivial ?_
      by_cases h : p.f1.length = 4
      · rw [if_pos h, List.take_of_length_le (by omega)]
        exact Ev.pos (by omega) (Ev.some _)
      · rw [if_neg h]
        exact Ev.neg (by omega) (Ev.some _)
    · have hget := get_no p.f1 0 (by omega)
      simp only [Int.natCast_zero] at hget
      have h5 : ¬ p.f1.length = 4 := by omega
      simp only [hget, Option.bind_some]
      rw [if_neg h5]
      exact Ev.neg (by decide) (Ev.some _)
end Go.Proofs.Yteejaaeglfpcmaa.PH

namespace Go.Proofs.Yteejaaeglfpcmaa.PH
open Go.RowKit Go.Proofs.YteejaaeglfpcmaaW.PrintWords Go.Proofs.YteejaaeglfpcmaaW.PrintLast Go.Proofs.YteejaaeglfpcmaaW.PrintMore
attribute [local go_sem] max2_int min2_int max_two min_two max_three min_three max_four min_four   -- for this text's walks alone
set_option linter.unusedVariables false
set_option linter.unusedSimpArgs false
def arboretref06_Get.l0 : Nat → List Int → Int → Int → ByteArray → List (S104) → List (S39) → Option (ByteArray × (List (S104)) × (List (S39)) × Bool)
  | 0, _, _, _, _, _, _ => none
  | k + 1, x1, x11, x12, x181000, x181001, x181002 => if x12 < x11 then (if 0 ≤ x12 then (if x12 < (x1.length : Int) then (if (rd x1 x12) < 0 then (some ((⟨#[]⟩ : ByteArray), ([] : List (S104)), ([] : List (S39)), false)) else (if (rd x1 x12) ≥ (x181002.length : Int) then (some ((⟨#[]⟩ : ByteArray), ([] : List (S104)), ([] : List (S39)), false)) else (if 0 ≤ (rd x1 x12) then (if (rd x1 x12) < (x181002.length : Int) then (arboretref06_Get.l0 k x1 x11 (wrap64 (x12 + 1)) ((rd_T39 x181002 (rd x1 x12)).f0) ((rd_T39 x181002 (rd x1 x12)).f1) ((rd_T39 x181002 (rd x1 x12)).f2)) else (none)) else (none)))) else (none)) else (none)) else (some (x181000, x181001, x181002, true))
def arboretref06_Get.f (k : Nat) (a0_0 : Int) (l0_1 : List (S151)) (a0_2 : ByteArray) (l0_3 : List (S104)) (l0_4 : List (S39)) (l1 : List Int) : Option (ByteArray × (List (S104)) × (List (S39)) × Bool) := arboretref06_Get.l0 k l1 (l1.length : Int) 0 a0_2 l0_3 l0_4
end Go.Proofs.Yteejaaeglfpcmaa.PH

namespace Go.Proofs.Yteejaaeglfpcmaa.PH
end Go.Proofs.Yteejaaeglfpcmaa.PH

namespace Go.Proofs.Yteejaaeglfpcmaa.PH
open Go.RowKit Go.Proofs.YteejaaeglfpcmaaW.PrintWords Go.Proofs.YteejaaeglfpcmaaW.PrintLast Go.Proofs.YteejaaeglfpcmaaW.PrintMore
attribute [local go_sem] max2_int min2_int max_two min_two max_three min_three max_four min_four   -- for this text's walks alone
set_option linter.unusedVariables false
set_option linter.unusedSimpArgs false
def handle_Most.l0 : Nat → Int → Int → List (S79) → Int → Int → Option (Int × Int)
  | 0, _, _, _, _, _ => none
  | k + 1, x5, x6, x14, x15, x16 => if x16 < x15 then (if 0 ≤ x16 then (if x16 < (x14.length : Int) then (handle_Most.l0 k x5 (mx x6 ((rd_T79 x14 x16).f0)) x14 x15 (wrap64 (x16 + 1))) else (none)) else (none)) else (some (x6, x5))
def handle_Most.f (k : Nat) (a0_0 : Int) (l0_1 : List (S151)) (a0_2 : ByteArray) (l0_3 : List (S104)) (l0_4 : List (S39)) : Option (Int × Int) := (handle_Index.f k a0_0 l0_1 a0_2 l0_3 l0_4).bind fun bt250 => (handle_Most.l0 k bt250.2 0 bt250.1 (bt250.1.length : Int) 0)
end Go.Proofs.Yteejaaeglfpcmaa.PH

namespace Go.Proofs.Yteejaaeglfpcmaa.PH
open Go.RowKit Go.Proofs.YteejaaeglfpcmaaW.PrintWords Go.Proofs.YteejaaeglfpcmaaW.PrintLast Go.Proofs.YteejaaeglfpcmaaW.PrintMore
attribute [local go_sem] max2_int min2_int max_two min_two max_three min_three max_four min_four   -- for this text's walks alone
set_option linter.unusedVariables false
set_option linter.unusedSimpArgs false
mutual
def arboretref06_Index.l0 : Nat → List (S83) → List (List Int) → Int → Int → Int → List (S151) → ByteArray → List (S104) → List (S39) → Option ((List (S83)) × Int)
  | 0, _, _, _, _, _, _, _, _, _ => none
  | k + 1, x4, x5, x17, x18, x186000, x186001, x186002, x186003, x186004 => if x18 < x17 then (if 0 ≤ x18 then (if x18 < (x5.length : Int) then ((arboretref06_Get.f k x186000 x186001 x186002 x186003 x186004 (rd_L13 x5 x18)).bind fun bt190 => ((arboretref06_One.f k bt190.1 bt190.2.1 bt190.2.2.1 (⟨#[112, 104, 97, 110, 100, 108, 101]⟩ : ByteArray)).bind fun bt199 => (if bt199.2.2 = 0 then (if bt199.2.1 = true then (if bt199.1 = 0 then (arboretref06_Index.j1 k x4 x5 x18 bt199.1 x17 x18 true x186000 x186001 x186002 x186003 x186004) else (arboretref06_Index.j1 k x4 x5 x18 bt199.1 x17 x18 (bt199.1 == 4294967295) x186000 x186001 x186002 x186003 x186004)) else (arboretref06_Index.l0 k x4 x5 x17 (wrap64 (x18 + 1)) x186000 x186001 x186002 x186003 x186004)) else (some (([] : List (S83)), bt199.2.2))))) else (none)) else (none)) else (some (x4, 0))
def arboretref06_Index.j1 : Nat → List (S83) → List (List Int) → Int → Int → Int → Int → Bool → Int → List (S151) → ByteArray → List (S104) → List (S39) → Option ((List (S83)) × Int)
  | 0, _, _, _, _, _, _, _, _, _, _, _, _ => none
  | k + 1, x4, x5, x6, x9, x17, x18, x46, x186000, x186001, x186002, x186003, x186004 => if x46 = true then (some (([] : List (S83)), 11)) else (arboretref06_Index.l1 k x4 x5 x6 x9 x17 x18 (x4.length : Int) 0 x186000 x186001 x186002 x186003 x186004)
def arboretref06_Index.l1 : Nat → List (S83) → List (List Int) → Int → Int → Int → Int → Int → Int → Int → List (S151) → ByteArray → List (S104) → List (S39) → Option ((List (S83)) × Int)
  | 0, _, _, _, _, _, _, _, _, _, _, _, _, _ => none
  | k + 1, x4, x5, x6, x9, x17, x18, x48, x49, x186000, x186001, x186002, x186003, x186004 => if x49 < x48 then (if 0 ≤ x49 then (if x49 < (x4.length : Int) then (if ((rd_T83 x4 x49).f0) = x9 then (some (([] : List (S83)), 9)) else (arboretref06_Index.l1 k x4 x5 x6 x9 x17 x18 x48 (wrap64 (x49 + 1)) x186000 x186001 x186002 x186003 x186004)) else (none)) else (none)) else (if 0 ≤ x6 then (if x6 < (x5.length : Int) then (if x4.length < 4398046511104 then (arboretref06_Index.l0 k (x4 ++ [(⟨x9, rd_L13 x5 x6⟩ : S83)]) x5 x17 (wrap64 (x18 + 1)) x186000 x186001 x186002 x186003 x186004) else (none)) else (none)) else (none))
end
def arboretref06_Index.f (k : Nat) (a0_0 : Int) (l0_1 : List (S151)) (a0_2 : ByteArray) (l0_3 : List (S104)) (l0_4 : List (S39)) : Option ((List (S83)) × Int) := (arboretref06_All.f k a0_2 l0_3 l0_4 ([] : List Int)).bind fun t186 => (arboretref06_Index.l0 k ([] : List (S83)) t186 (t186.length : Int) 0 a0_0 l0_1 a0_2 l0_3 l0_4)
end Go.Proofs.Yteejaaeglfpcmaa.PH

namespace Go.Proofs.Yteejaaeglfpcmaa.PH
open Go.RowKit Go.Proofs.YteejaaeglfpcmaaW.PrintWords Go.Proofs.YteejaaeglfpcmaaW.PrintLast Go.Proofs.YteejaaeglfpcmaaW.PrintMore
attribute [local go_sem] max2_int min2_int max_two min_two max_three min_three max_four min_four   -- for this text's walks alone
set_option linter.unusedVariables false
set_option linter.unusedSimpArgs false
def arboretref06_Handle.l0 : Nat → Int → List (S83) → Int → Int → Int → Option (List Int × Bool)
  | 0, _, _, _, _, _ => none
  | k + 1, x1, x6, x7, x15, x16 => if x16 < x15 then (if x7 = 0 then (if 0 ≤ x16 then (if x16 < (x6.length : Int) then (if ((rd_T83 x6 x16).f0) = x1 then (some ((rd_T83 x6 x16).f1, true)) else (arboretref06_Handle.l0 k x1 x6 x7 x15 (wrap64 (x16 + 1)))) else (none)) else (none)) else (arboretref06_Handle.l0 k x1 x6 x7 x15 (wrap64 (x16 + 1)))) else (some (([] : List Int), false))
def arboretref06_Handle.f (k : Nat) (a0_0 : Int) (l0_1 : List (S151)) (a0_2 : ByteArray) (l0_3 : List (S104)) (l0_4 : List (S39)) (a1 : Int) : Option (List Int × Bool) := (arboretref06_Index.f k a0_0 l0_1 a0_2 l0_3 l0_4).bind fun bt208 => (arboretref06_Handle.l0 k a1 bt208.1 bt208.2 (bt208.1.length : Int) 0)
end Go.Proofs.Yteejaaeglfpcmaa.PH

namespace Go.Proofs.Yteejaaeglfpcmaa.PH
open Go.RowKit Go.Proofs.YteejaaeglfpcmaaW.PrintWords Go.Proofs.YteejaaeglfpcmaaW.PrintLast Go.Proofs.YteejaaeglfpcmaaW.PrintMore
attribute [local go_sem] max2_int min2_int max_two min_two max_three min_three max_four min_four   -- for this text's walks alone
set_option linter.unusedVariables false
set_option linter.unusedSimpArgs false
def arboretref06_Most.l0 : Nat → List (S83) → Int → Int → Int → Option (Int)
  | 0, _, _, _, _ => none
  | k + 1, x3, x5, x13, x14 => if x14 < x13 then (if 0 ≤ x14 then (if x14 < (x3.length : Int) then (arboretref06_Most.l0 k x3 (mx x5 ((rd_T83 x3 x14).f0)) x13 (wrap64 (x14 + 1))) else (none)) else (none)) else (some x5)
def arboretref06_Most.f (k : Nat) (a0_0 : Int) (l0_1 : List (S151)) (a0_2 : ByteArray) (l0_3 : List (S104)) (l0_4 : List (S39)) : Option (Int) := (arboretref06_Index.f k a0_0 l0_1 a0_2 l0_3 l0_4).bind fun bt257 => (arboretref06_Most.l0 k bt257.1 0 (bt257.1.length : Int) 0)
end Go.Proofs.Yteejaaeglfpcmaa.PH

set_option linter.unusedVariables false
set_option linter.unusedSimpArgs false
namespace Go.Proofs.Yteejaaeglfpcmaa.PH
open Go.RowKit Go.Proofs.Yteejaaeglfpcmaa.Rdr Go.Proofs.Yteejaaeglfpcmaa.Aid Go.Proofs.YteejaaeglfpcmaaW.PrintWords Go.Proofs.YteejaaeglfpcmaaW.PrintMore
mutual
def nodesN : S39 → List Int → List (S39 × List Int)
  | ⟨a, b, ks⟩, p => (⟨a, b, ks⟩, p) :: nodesL ks 0 p
def nodesL : List S39 → Nat → List Int → List (S39 × List Int)
  | [], _, _ => []
  | x :: r, i, p => nodesN x (p ++ [(i : Int)]) ++ nodesL r (i + 1) p
end
theorem nodesN_eq (x : S39) (p : List Int) : nodesN x p = (x, p) :: nodesL x.f2 0 p := by cases x; simp only [nodesN]
theorem nodesL_places (m : Nat) (ih : ∀ x : S39, bulk39 x ≤ m → ∀ p, (nodesN x p).map (·.2) = placesN x p) : ∀ (l : List S39) (i : Nat) (p : List Int), sumB bulk39 l ≤ m → (nodesL l i p).map (·.2) = placesL l i p
  | [], i, p, _ => by simp [nodesL, placesL]
  | x :: r, i, p, h => by
    simp only [sumB] at h
    simp only [nodesL, placesL, List.map_append]
    rw [ih x (by omega), nodesL_places m ih r (i + 1) p (by omega)]
theorem nodes_places (m : Nat) : ∀ (x : S39) (p : List Int), bulk39 x ≤ m → (nodesN x p).map (·.2) = placesN x p := by
  induction m with
  | zero => intro x p hx; have := bulk_pos x; omega
  | succ m ih =>
    intro x p hx
    have hb := bulk_eq x
    rw [nodesN_eq, placesN_eq, List.map_cons, nodesL_places m (fun x hx p => ih x p hx) x.f2 0 p (by omega)]
theorem nodes_len (x : S39) (p : List Int) : (nodesN x p).length ≤ bulk39 x := by
  have h := nodes_places (bulk39 x) x p (Nat.le_refl _)
  have h2 := places_len (bulk39 x) x p (Nat.le_refl _)
  rw [← h, List.length_map] at h2
  exact h2
def ph : List UInt8 := (⟨#[112, 104, 97, 110, 100, 108, 101]⟩ : ByteArray).toList
def gather : List (S39 × List Int) → List (Int × List Int) → List (Int × List Int) × Int
  | [], acc => (acc, 0)
  | q :: r, acc => if (oneOf ph q.1.f1).2.2 = 0 then (if (oneOf ph q.1.f1).2.1 = true then (if (oneOf ph q.1.f1).1 = 0 ∨ (oneOf ph q.1.f1).1 = 4294967295 then ([], 11) else if (oneOf ph q.1.f1).1 ∈ acc.map (·.1) then ([], 9) else gather r (acc ++ [((oneOf ph q.1.f1).1, q.2)])) else gather r acc) else ([], (oneOf ph q.1.f1).2.2)
theorem gather_append : ∀ (a b : List (S39 × List Int)) (acc : List (Int × List Int)), gather (a ++ b) acc = if (gather a acc).2 = 0 then gather b (gather a acc).1 else ([], (gather a acc).2)
  | [], b, acc => by simp [gather]
  | q :: r, b, acc => by
    simp only [List.cons_append, gather]
    by_cases h1 : (oneOf ph q.1.f1).2.2 = 0
    · simp only [if_pos h1]
      by_cases h2 : (oneOf ph q.1.f1).2.1 = true
      · simp only [if_pos h2]
        by_cases h3 : (oneOf ph q.1.f1).1 = 0 ∨ (oneOf ph q.1.f1).1 = 4294967295
        · simp only [if_pos h3]
          rw [if_neg (by decide)]
        · simp only [if_neg h3]
          by_cases h4 : (oneOf ph q.1.f1).1 ∈ acc.map (·.1)
          · simp only [if_pos h4]
            rw [if_neg (by decide)]
          · simp only [if_neg h4]
            exact gather_append r b _
      · simp only [if_neg h2]
        exact gather_append r b _
    · simp only [if_neg h1]
theorem gather_len : ∀ (a : List (S39 × List Int)) (acc : List (Int × List Int)), (gather a acc).1.length ≤ acc.length + a.length
  | [], acc => by simp [gather]
  | q :: r, acc => by
    simp only [gather]
    split
    · split
      · split
        · simp
        · split
          · simp
          · have := gather_len r (acc ++ [((oneOf ph q.1.f1).1, q.2)])
            simp only [List.length_append, List.length_cons, List.length_nil] at this ⊢
            omega
      · have := gather_len r acc
        simp only [List.length_cons]
        omega
    · simp
theorem gather_places : ∀ (a : List (S39 × List Int)) (acc : List (Int × List Int)) (p : Int × List Int), p ∈ (gather a acc).1 → p ∈ acc ∨ p.2 ∈ a.map (·.2)
  | [], acc, p, h => .inl (by simpa [gather] using h)
  | q :: r, acc, p, h => by
    simp only [gather] at h
    split at h
    · split at h
      · split at h
        · simp at h
        · split at h
          · simp at h
          · rcases gather_places r _ p h with h | h
            · rw [List.mem_append, List.mem_singleton] at h
              rcases h with h | h
              · exact .inl h
              · exact .inr (by rw [h]; simp)
            · exact .inr (by simp only [List.map_cons, List.mem_cons]; exact .inr h)
      · rcases gather_places r _ p h with h | h
        · exact .inl h
        · exact .inr (by simp only [List.map_cons, List.mem_cons]; exact .inr h)
    · simp at h
theorem gather_nodup : ∀ (a : List (S39 × List Int)) (acc : List (Int × List Int)), (acc.map (·.1)).Nodup → ((gather a acc).1.map (·.1)).Nodup
  | [], acc, h => by simpa [gather] using h
  | q :: r, acc, h => by
    simp only [gather]
    split
    · split
      · split
        · simp
        · split
          · simp
          · next h4 =>
            refine gather_nodup r _ ?_
            rw [List.map_append, List.nodup_append]
            refine ⟨h, by simp, ?_⟩
            intro x hx y hy e
            simp only [List.map_cons, List.map_nil, List.mem_singleton] at hy
            exact h4 (hy ▸ e ▸ hx)
      · exact gather_nodup r _ h
    · simp
theorem oneOf_range (s : List UInt8) (x : S39) (hx : bulk39 x ≤ 1048576) (hg : good39 x) (h : (oneOf s x.f1).2.1 = true) : 0 ≤ (oneOf s x.f1).1 ∧ (oneOf s x.f1).1 ≤ 4294967295 := by
  unfold oneOf at h ⊢
  cases hv : valP s x.f1 with
  | none => simp [hv] at h
  | some v =>
    obtain ⟨p, hp, rfl⟩ := valP_mem hv
    have hby : isBytes p.f1 := good_value p (((good_eq x).mp hg).1 p hp)
    have hr := num_range p.f1 hby
    simp only [hv] at h ⊢
    by_cases h4 : p.f1.length = 4
    · rw [if_pos h4]
      rw [h4] at hr
      have : (256 : Int) ^ 4 = 4294967296 := by decide
      simp only
      omega
    · rw [if_neg h4] at h
      simp at h
def toC (p : Int × List Int) : S79 := ⟨p.1, p.2⟩
def resC (g : List (Int × List Int) × Int) : List S79 × Int := (g.1.map toC, g.2)
theorem toC_fst (acc : List (Int × List Int)) : (acc.map toC).map (·.f0) = acc.map (·.1) := by simp [toC]
theorem clone_ints (p : List Int) (h : p.length ≤ 4194304) : slices_Clone_int_int.f p = some p := by
  unfold slices_Clone_int_int.f
  rw [if_pos (by omega)]
theorem of_ev (m : Nat) (hm : m ≤ 1048576) : ∀ (x : S39) (p : List Int) (acc : List (Int × List Int)), bulk39 x ≤ m → good39 x → p.length + bulk39 x ≤ 2097152 → acc.length + bulk39 x ≤ 2097152 →
    Ev (fun k => handle_of.f k x.f0 x.f1 x.f2 p (acc.map toC)) (resC (gather (nodesN x p) acc)) := by
  induction m with
  | zero => intro x p acc hx; have := bulk_pos x; omega
  | succ m ih =>
    intro x p acc hx hg hp ha
    have hk := bulk_kids x
    have hbe := bulk_eq x
    have hcl := clone_ints p (by omega)
    have kids : ∀ (j i : Nat) (acc : List (Int × List Int)), i + j = x.f2.length → acc.length + sumB bulk39 (x.f2.drop i) ≤ 2097152 → Ev (fun k => handle_of.l0 k p (acc.map toC) x.f2 (x.f2.length : Int) (i : Int)) (resC (gather (nodesL (x.f2.drop i) i p) acc)) := by
      intro j
      induction j with
      | zero =>
        intro i acc hi ha
        rw [List.drop_of_length_le (by omega)]
        refine Ev.succ ?_
        simp only [handle_of.l0, nodesL, gather]
        exact Ev.neg (by omega) (Ev.some _)
      | succ j ihj =>
        intro i acc hi ha
        have hw := step64 (i := i) (n := x.f2.length) (by omega) (by omega)
        have hmem := getN (xs := x.f2) (i := i) (by omega)
        have hbk := bulk_kid hmem
        have hd := drop_at (l := x.f2) (d := z39) (i := i) (by omega)
        rw [hd] at ha ⊢
        simp only [sumB] at ha
        have h1 := ih (by omega) (x.f2.getD i z39) (p ++ [(i : Int)]) acc (by omega) (((good_eq x).mp hg).2 _ hmem) (by simp only [List.length_append, List.length_singleton]; omega) (by omega)
        have hl := nodes_len (x.f2.getD i z39) (p ++ [(i : Int)])
        have hgl := gather_len (nodesN (x.f2.getD i z39) (p ++ [(i : Int)])) acc
        simp only [nodesL]
        rw [gather_append]
        refine Ev.succ ?_
        simp only [handle_of.l0, rdN, hw, hcl, Option.bind_some]
        refine Ev.pos (by omega) (Ev.pos (Int.natCast_nonneg i) (Ev.pos (by omega) (Ev.pos (by omega) (Ev.then h1 ?_))))
        by_cases h0 : (gather (nodesN (x.f2.getD i z39) (p ++ [(i : Int)])) acc).2 = 0
        · rw [if_pos h0]
          exact Ev.pos h0 (ihj (i + 1) _ (by omega) (by omega))
        · rw [if_neg h0]
          exact Ev.neg h0 (Ev.some _)
    have hone := one_ev x ⟨#[112, 104, 97, 110, 100, 108, 101]⟩ (by omega) hg
    have hr := oneOf_range ph x (by omega) hg
    have hsum : sumB bulk39 x.f2 + 1 ≤ bulk39 x := by omega
    rw [nodesN_eq]
    refine Ev.succ ?_
    simp only [handle_of.f, gather]
    refine Ev.then hone ?_
    rw [show (⟨#[112, 104, 97, 110, 100, 108, 101]⟩ : ByteArray).toList = ph from rfl]
    by_cases h1 : (oneOf ph x.f1).2.2 = 0
    · rw [if_pos h1]
      refine Ev.pos h1 ?_
      by_cases h2 : (oneOf ph x.f1).2.1 = true
      · rw [if_pos h2]
        have hr := hr h2
        refine Ev.pos h2 ?_
        by_cases h3 : (oneOf ph x.f1).1 = 0 ∨ (oneOf ph x.f1).1 = 4294967295
        · rw [if_pos h3]
          by_cases h4 : (oneOf ph x.f1).1 < 1
          · exact Ev.pos h4 (Ev.some _)
          · exact Ev.neg h4 (Ev.pos (by omega) (Ev.some _))
        · rw [if_neg h3]
          refine Ev.neg (by omega) (Ev.neg (by omega) ?_)
          by_cases h4 : (oneOf ph x.f1).1 ∈ acc.map (·.1)
          · rw [if_pos h4]
            exact Ev.pos (by rw [toC_fst]; exact h4) (Ev.some _)
          · rw [if_neg h4]
            refine Ev.neg (by rw [toC_fst]; exact h4) ?_
            simp only [hcl, Option.bind_some]
            have := kids x.f2.length 0 (acc ++ [((oneOf ph x.f1).1, p)]) (by omega) (by simp only [List.length_append, List.length_singleton, List.drop_zero]; omega)
            rw [List.map_append] at this
            simp only [List.drop_zero] at this
            exact Ev.pos (by rw [List.length_map]; omega) this
      · rw [if_neg h2]
        have := kids x.f2.length 0 acc (by omega) (by simp only [List.drop_zero]; omega)
        simp only [List.drop_zero] at this
        exact Ev.neg h2 this
    · rw [if_neg h1]
      exact Ev.neg h1 (Ev.some _)
theorem index_ev (b : Int) (res : List S151) (x : S39) (hx : bulk39 x ≤ 1048576) (hg : good39 x) : Ev (fun k => handle_Index.f k b res x.f0 x.f1 x.f2) (resC (gather (nodesN x []) [])) := by
  unfold handle_Index.f
  exact of_ev 1048576 (by omega) x [] [] hx hg (by simp; omega) (by simp; omega)
theorem rdC (xs : List S79) (i : Nat) : rd_T79 xs (i : Int) = xs.getD i z79 := by simp [rd_T79]
theorem getD_map {α β : Type} (f : α → β) (l : List α) (d : α) (d' : β) (i : Nat) (h : i < l.length) : (l.map f).getD i d' = f (l.getD i d) := by
  rw [getD_at (by rw [List.length_map]; exact h), getD_at h, List.getElem_map]
def firstOf (h : Int) : List (Int × List Int) → Option (List Int)
  | [] => none
  | p :: r => if p.1 = h then some p.2 else firstOf h r
def findR (h : Int) (g : List (Int × List Int) × Int) : List Int × Int := if g.2 = 0 then (match firstOf h g.1 with | some p => (p, 0) | none => ([], 11)) else ([], g.2)
theorem g_len (x : S39) (hx : bulk39 x ≤ 1048576) : (gather (nodesN x []) []).1.length ≤ 1048576 := by
  have h1 := gather_len (nodesN x []) []
  have h2 := nodes_len x []
  simp only [List.length_nil] at h1
  omega
theorem hfind_ev (b : Int) (res : List S151) (x : S39) (hx : bulk39 x ≤ 1048576) (hg : good39 x) (h : Int) : Ev (fun k => handle_Find.f k b res x.f0 x.f1 x.f2 h) (findR h (gather (nodesN x []) [])) := by
  have hl := g_len x hx
  unfold handle_Find.f findR
  refine Ev.then (index_ev b res x hx hg) ?_
  generalize gather (nodesN x []) [] = g at *
  simp only [resC]
  by_cases h0 : g.2 = 0
  · rw [if_pos h0]
    refine Ev.pos h0 ?_
    have key : ∀ (j i : Nat), i + j = g.1.length → Ev (fun k => handle_Find.l0 k h (g.1.map toC) ((g.1.map toC).length : Int) (i : Int)) (match firstOf h (g.1.drop i) with | some p => (p, 0) | none => ([], 11)) := by
      intro j
      induction j with
      | zero =>
        intro i hi
        rw [List.drop_of_length_le (by omega)]
        refine Ev.succ ?_
        simp only [handle_Find.l0, firstOf]
        exact Ev.neg (by rw [List.length_map]; omega) (Ev.some _)
      | succ j ih =>
        intro i hi
        have hw := step64 (i := i) (n := g.1.length) (by omega) hl
        have hd := drop_at (l := g.1) (d := ((0 : Int), ([] : List Int))) (i := i) (by omega)
        have hrd : rd_T79 (g.1.map toC) (i : Int) = toC (g.1.getD i (0, [])) := by rw [rdC, getD_map toC g.1 (0, []) _ i (by omega)]
        rw [hd]
        refine Ev.succ ?_
        simp only [handle_Find.l0, hrd, hw, firstOf]
        refine Ev.pos (by rw [List.length_map]; omega) (Ev.pos (Int.natCast_nonneg i) (Ev.pos (by rw [List.length_map]; omega) ?_))
        by_cases c : (g.1.getD i (0, [])).1 = h
        · rw [if_pos c]
          exact Ev.pos c (Ev.some _)
        · rw [if_neg c]
          exact Ev.neg c (ih (i + 1) (by omega))
    have := key g.1.length 0 (by omega)
    simpa using this
  · rw [if_neg h0]
    exact Ev.neg h0 (Ev.some _)
theorem g_places (x : S39) (hx : bulk39 x ≤ 1048576) (p : Int × List Int) (h : p ∈ (gather (nodesN x []) []).1) : p.2.length ≤ 1048576 := by
  rcases gather_places _ _ _ h with h | h
  · simp at h
  · rw [nodes_places 1048576 x [] hx] at h
    have := places_each 1048576 x [] hx _ h
    simp at this
    omega
end Go.Proofs.Yteejaaeglfpcmaa.PH

set_option linter.unusedVariables false
set_option linter.unusedSimpArgs false
namespace Go.Proofs.Yteejaaeglfpcmaa.PH
open Go.RowKit Go.Proofs.Yteejaaeglfpcmaa.Rdr Go.Proofs.Yteejaaeglfpcmaa.Aid Go.Proofs.YteejaaeglfpcmaaW.PrintWords
theorem awake_ev : Ev (fun k => arboretlaw08_awake.f k) true := by
  have h := hfind_ev 0 [] ⟨⟨#[]⟩, [], []⟩ (by rw [bulk_eq]; simp [sumB]; decide) ((good_eq _).mpr ⟨by simp, by simp⟩) 0
  unfold arboretlaw08_awake.f
  refine Ev.then h ?_
  have e : findR 0 (gather (nodesN ⟨⟨#[]⟩, [], []⟩ []) []) = ([], 11) := by
    simp [nodesN, nodesL, gather, oneOf, valP, findR, firstOf]
  rw [e]
  exact Ev.some _
end Go.Proofs.Yteejaaeglfpcmaa.PH

set_option linter.unusedVariables false
set_option linter.unusedSimpArgs false
namespace Go.Proofs.Yteejaaeglfpcmaa.Pure
open Go.RowKit Go.Proofs.Yteejaaeglfpcmaa.PH Go.Proofs.Yteejaaeglfpcmaa.Rdr Go.Proofs.Yteejaaeglfpcmaa.Aid Go.Proofs.YteejaaeglfpcmaaW.PrintWords
theorem firstOf_self : ∀ (l : List (Int × List Int)) (i : Nat), (l.map (·.1)).Nodup → i < l.length → firstOf (l.getD i (0, [])).1 l = some (l.getD i (0, [])).2
  | [], i, _, hi => by simp at hi
  | q :: r, 0, _, _ => by simp [firstOf]
  | q :: r, i + 1, hn, hi => by
    rw [List.map_cons, List.nodup_cons] at hn
    have hi' : i < r.length := by simpa using hi
    have ih := firstOf_self r i hn.2 hi'
    have e : (q :: r).getD (i + 1) (0, []) = r.getD i (0, []) := by simp
    rw [e]
    simp only [firstOf]
    rw [if_neg]
    · exact ih
    · intro c
      refine hn.1 ?_
      rw [c]
      exact List.mem_map.mpr ⟨r.getD i (0, []), by rw [getD_at hi']; exact List.getElem_mem _, rfl⟩
theorem gather_bad : ∀ (a : List (S39 × List Int)) (acc : List (Int × List Int)), (gather a acc).2 ≠ 0 → (gather a acc).1 = []
  | [], acc, h => by simp [gather] at h
  | q :: r, acc, h => by
    simp only [gather] at h ⊢
    split at h
    · next h1 =>
      rw [if_pos h1]
      split at h
      · next h2 =>
        rw [if_pos h2]
        split at h
        · next h3 => rw [if_pos h3]
        · next h3 =>
          rw [if_neg h3]
          split at h
          · next h4 => rw [if_pos h4]
          · next h4 => rw [if_neg h4]; exact gather_bad r _ h
      · next h2 => rw [if_neg h2]; exact gather_bad r _ h
    · next h1 => rw [if_neg h1]
theorem HandleEach : arboretlaw08_HandleEach.Pure := by
  intro t hb gt
  have hb2 : 1 + (sumB bulk151 t.f1 + 1) + bulk39 t.f2 + 1 ≤ 1048576 := hb
  have hx : bulk39 t.f2 ≤ 1048576 := by omega
  have hg : good39 t.f2 := gt.2.2
  obtain ⟨v, hv⟩ := few_ends t.f0 t.f1 t.f2 hx
  have aw := awake_ev
  have hi := index_ev t.f0 t.f1 t.f2 hx hg
  have hf := hfind_ev t.f0 t.f1 t.f2 hx hg
  have hl := g_len t.f2 hx
  have hpl := g_places t.f2 hx
  have hnd := gather_nodup (nodesN t.f2 []) [] (by simp)
  have hbad := gather_bad (nodesN t.f2 []) []
  refine Ev.out (?_ : Ev (fun k => arboretlaw08_HandleEach.f k t.f0 t.f1 t.f2.f0 t.f2.f1 t.f2.f2) true)
  unfold arboretlaw08_HandleEach.f
  refine Ev.then aw (Ev.pos rfl (Ev.then hv (Ev.succ ?_)))
  simp only [arboretlaw08_HandleEach.j0]
  cases v with
  | false => exact Ev.pos rfl (Ev.then aw (Ev.some _))
  | true =>
    refine Ev.neg (by decide) (Ev.then hi ?_)
    generalize gather (nodesN t.f2 []) [] = g at *
    simp only [resC]
    by_cases h0 : g.2 = 0
    · refine Ev.pos h0 ?_
      have key : ∀ (j i : Nat), i + j = g.1.length → Ev (fun k => arboretlaw08_HandleEach.l0 k (g.1.map toC) ((g.1.map toC).length : Int) (i : Int) t.f0 t.f1 t.f2.f0 t.f2.f1 t.f2.f2) true := by
        intro j
        induction j with
        | zero =>
          intro i hi
          refine Ev.succ ?_
          simp only [arboretlaw08_HandleEach.l0]
          exact Ev.neg (by rw [List.length_map]; omega) (Ev.some _)
        | succ j ih =>
          intro i hi
          have hw := step64 (i := i) (n := g.1.length) (by omega) hl
          have hC : rd_T79 (g.1.map toC) (i : Int) = toC (g.1.getD i (0, [])) := by rw [rdC, getD_map toC g.1 (0, []) _ i (by omega)]
          have hp := hpl (g.1.getD i (0, [])) (by rw [getD_at (by omega : i < g.1.length)]; exact List.getElem_mem _)
          have hfi := hf (g.1.getD i (0, [])).1
          unfold findR at hfi
          rw [if_pos h0, firstOf_self g.1 i hnd (by omega)] at hfi
          refine Ev.succ ?_
          simp only [arboretlaw08_HandleEach.l0, hC, hw]
          exact Ev.pos (by rw [List.length_map]; omega) (Ev.pos (Int.natCast_nonneg i) (Ev.pos (by rw [List.length_map]; omega) (Ev.then hfi (Ev.pos rfl (Ev.then (equal_same _ (by show (g.1.getD i (0, [])).2.length ≤ _; omega)) (Ev.pos rfl (ih (i + 1) (by omega))))))))
      exact key g.1.length 0 (by omega)
    · rw [hbad h0]
      exact Ev.neg h0 (Ev.fix rfl)
end Go.Proofs.Yteejaaeglfpcmaa.Pure

namespace Go.Proofs.Yteejaaeglfpcmaa.handleEach
open Go.ChangeShapes Go.WideShapes Go.ChangeAt Go.RowKit Go.Proofs.Yteejaaeglfpcmaa.Rdr Go.Proofs.Yteejaaeglfpcmaa.PH
open Go.ChangeMaps (open_string shut_string)
set_option linter.unusedVariables false
set_option linter.unusedSimpArgs false
theorem own : ownKnob Try.prog.godebug = none := by kernel_rfl
theorem laidOut : laidOutB Try.prog = true := by kernel_rfl
set_option maxRecDepth 100000 in
theorem contract (H : Type) (enc : TypeId × Value → H) (W : World) (base : Nat) (args : Array Value) (ds gs : List (DataW H)) (before : List MemPlace)
    (hval0 : ∀ (j : Nat) t v, Try.f11.params[j]? = some t → args[j]? = some v → Value.okWide Try.prog W .any base t v)
    (hW : DataW.Whole enc Try.prog Try.f11.params.toList Rows.handleEachSpec.vars false W args.toList ds gs before) (hk : Rows.uptoSmall H (ds ++ gs) = true) :
    Calls Try.prog 11 args W fun e W' => ∃ v, e = .returned v ∧ Rows.handleEachSpec.post enc Try.prog Try.f11 false true false false W args v W' := by
  have hval : ∀ (j : Nat) t v, Try.f11.params[j]? = some t → args[j]? = some v → Value.okWide Try.prog W .any base t v := hval0
  have hW' := hW
  obtain ⟨p, q, hA0, hV, rfl, hfz, hnd⟩ := hW
  have hA : DataW.TrodAll enc Try.prog W 0 (fun _ => true) true Try.f11.params.toList args.toList ds p := hA0
  rw [Try.params11] at hA hval
  obtain ⟨v0, vs0, d0, ds0, p0, q0, hargs, rfl, rfl, h0, tr0⟩ := trodAll_cons hA
  obtain ⟨rfl, rfl, rfl⟩ := trodAll_nil tr0
  obtain rfl : args = #[v0] := by cases args; simp_all
  obtain ⟨rfl, rfl⟩ := trodVars_none hV
  have hb := bound hk
  simp only [List.append_nil, Rows.uptoBulkAll, List.nil_append] at hb
  have k0 := h0
  have lt0 : ∀ x ∈ p0, x.block < W.heap.size := by obtain ⟨m, hm⟩ := k0; exact DataW.trod_lt m _ _ _ hm
  obtain ⟨cs0, rfl, hcs0⟩ : ∃ cs, v0 = .agg cs ∧ True := by
    have z := (hval 0 43 v0 rfl rfl)
    simp only [Value.okWide, Try.underlying43] at z
    obtain ⟨cs, hc, _⟩ := z
    exact ⟨cs, hc, trivial⟩
  obtain ⟨f0, hf0⟩ := h0
  obtain ⟨x0, K0, b0, g0⟩ := rd43 W f0 H enc f0 (Nat.le_refl _) _ _ hf0
  obtain ⟨A0_1, c0_1, A0_3, c0_3, A0_4, c0_4, e0, l0_1, r0_1, l0_3, r0_3, l0_4, r0_4⟩ := k43_open K0
  obtain ⟨cl0⟩ := cs0
  have e0' : cl0 = _ := e0
  subst e0'
  obtain ⟨k, hk_⟩ := Pure.HandleEach x0 (by (try simp only [Rows.uptoBulk, Array.length_toList] at hb); first | omega | (simp only [ByteArray.size] at *; omega)) g0
  refine (arboretlaw08_HandleEach.calls k x0.f0 A0_1 c0_1 x0.f1 x0.f2.f0 A0_3 c0_3 x0.f2.f1 A0_4 c0_4 x0.f2.f2 true W r0_1 l0_1 r0_3 l0_3 r0_4 l0_4 hk_).mono fun e W' ⟨he, bel0⟩ => ?_
  have bel : Below W.heap.size W W' := bel0
  subst he
  exact ⟨_, rfl, _, _, _, [], _, [], hW', trodAll_mk1 (shut_bool Try.underlying4 _), (trodAll_cons_mk (Below.trod laidOut (by kernel_rfl) (of_decide_eq_true (by kernel_rfl)) k0 bel lt0) trodAll_mk0), rfl, bel.frame _, fun h => by cases h⟩
set_option maxRecDepth 100000 in
theorem lifted (os : Os) (started : os.Started) (H : Type) (enc : TypeId × Value → H) (F : Stop.Interp) :
    ReturnsInHanded {} Try.checked os 11 .any ((Rows.OpenSpec.upto Rows.handleEachSpec).pre6 enc Try.prog Try.f11 Rows.handleEachUptoRow.domain false) (((Rows.OpenSpec.upto Rows.handleEachSpec).at F).post enc Try.prog Try.f11 false true false false) := by
  refine returnsInHanded_of_cond (C := Try.checked) (s := Rows.OpenSpec.upto Rows.handleEachSpec) (k := Rows.uptoSmall) rfl own started (by kernel_rfl) Try.func11
    (OpenSpec.witness (enc := enc) (C := Try.checked) (s := Rows.OpenSpec.upto Rows.handleEachSpec) (k := Rows.uptoSmall) rfl false ⟨#[], #[.agg #[.int .u32 0, .slice none 0 0, .string ByteArray.empty, .slice none 0 0, .slice none 0 0]], []⟩ 16 (by kernel_rfl) (by kernel_rfl) (by kernel_rfl)
      (x := ([.agg [.lit (.int .u32 0), .nil, .agg [.lit (.string []), .nil, .nil]]], [], [])) (by kernel_rfl) rfl (by kernel_rfl)) ?_
  intro W base args ds gs before hval hW _ hk _
  exact contract H enc W base args ds gs before hval hW hk
theorem over : Rows.handleEachUptoRow.holds Try.pinned (Rows.OpenSpec.upto Rows.handleEachSpec) :=
  OpenClaim.holds_of_cond 11 Try.f11 rfl rfl rfl rfl rfl rfl rfl ⟨rfl, rfl, rfl, rfl, rfl⟩ rfl rfl rfl rfl rfl (by kernel_rfl) Try.func11 (by kernel_rfl)
    (of_decide_eq_true (by kernel_rfl)) (by unfold Func.isWrapper; first | (rw [if_pos (by decide +kernel)]; kernel_rfl) | (rw [if_neg (by decide +kernel)]; exact ⟨rfl, rfl⟩))
    (fun os started H enc _ F => lifted os started H enc F)
theorem proved : Rows.HandleEachUptoSaid := over
end Go.Proofs.Yteejaaeglfpcmaa.handleEach
namespace Go.Proofs.Yteejaaeglfpcmaa
theorem handleEach_holds : Rows.HandleEachUptoSaid := handleEach.proved
end Go.Proofs.Yteejaaeglfpcmaa
