/- HandleIndex: texts of this session's, and what the kit's print laid for this seat, as far as the law's row uses them (PHx_arboretlaw08_HandleIndex, Rdr, PHKinds, PHStateHandleIndex, Aid, Tree, RAll, Num, One, RGet, PHx_arboretref06_Handle, Handles, HandlesLaw, PureHandleIndex, LawHandleIndex). -/
import Derived.Test.YteejaaeglfpcmaaRows
import Derived.ChangeArms
import Derived.DataReads
import Derived.Deep.Slices
import Derived.Lib.EndianBits
import Derived.ProofKit
import Derived.OpenShut
import Derived.ShutString
import Derived.ChangeOld
import Derived.JoinedCond
import Derived.Deep.CondSized
import Derived.Test.YteejaaeglfpcmaaZHandleIndex3
set_option linter.unusedVariables false
set_option linter.unusedSimpArgs false
namespace Go.Proofs.Yteejaaeglfpcmaa.PH
open Go.RowKit Go.Proofs.YteejaaeglfpcmaaW.PrintWords Go.Proofs.YteejaaeglfpcmaaW.PrintLast Go.Proofs.YteejaaeglfpcmaaW.PrintMore
attribute [local go_sem] max2_int min2_int max_two min_two max_three min_three max_four min_four   -- for this text's walks alone
set_option linter.unusedVariables false
set_option linter.unusedSimpArgs false
mutual
def arboretlaw08_HandleIndex.j0 : Nat → Bool → Int → List (S151) → ByteArray → List (S104) → List (S39) → Option (Bool)
  | 0, _, _, _, _, _, _ => none
  | k + 1, x16, x263000, x263001, x263002, x263003, x263004 => if x16 = true then ((arboretlaw08_awake.f k).bind fun t265 => (some t265)) else ((handle_Index.f k x263000 x263001 x263002 x263003 x263004).bind fun bt266 => ((arboretref06_Index.f k x263000 x263001 x263002 x263003 x263004).bind fun bt270 => ((handle_Most.f k x263000 x263001 x263002 x263003 x263004).bind fun bt274 => (if bt266.2 = bt270.2 then (if bt274.2 = bt270.2 then (if (bt266.1.length : Int) = (bt270.1.length : Int) then ((arboretref06_Most.f k x263000 x263001 x263002 x263003 x263004).bind fun t276 => (arboretlaw08_HandleIndex.j1 k bt266.1 bt270.1 (bt274.1 != t276))) else (arboretlaw08_HandleIndex.j1 k bt266.1 bt270.1 true)) else (arboretlaw08_HandleIndex.j1 k bt266.1 bt270.1 true)) else (arboretlaw08_HandleIndex.j1 k bt266.1 bt270.1 true)))))
def arboretlaw08_HandleIndex.j1 : Nat → List (S79) → List (S83) → Bool → Option (Bool)
  | 0, _, _, _ => none
  | k + 1, x3, x5, x53 => if x53 = true then (some false) else (arboretlaw08_HandleIndex.l0 k x3 x5 (x3.length : Int) 0)
def arboretlaw08_HandleIndex.l0 : Nat → List (S79) → List (S83) → Int → Int → Option (Bool)
  | 0, _, _, _, _ => none
  | k + 1, x3, x5, x55, x56 => if x56 < x55 then (if 0 ≤ x56 then (if x56 < (x3.length : Int) then (if x56 < (x5.length : Int) then (if ((rd_T79 x3 x56).f0) = ((rd_T83 x5 x56).f0) then ((arboretref12_Equal.f k ((rd_T79 x3 x56).f1) ((rd_T83 x5 x56).f1)).bind fun t281 => (if t281 = true then (arboretlaw08_HandleIndex.l0 k x3 x5 x55 (wrap64 (x56 + 1))) else (some false))) else (some false)) else (none)) else (none)) else (none)) else (some true)
end
def arboretlaw08_HandleIndex.f (k : Nat) (a0_0 : Int) (l0_1 : List (S151)) (a0_2 : ByteArray) (l0_3 : List (S104)) (l0_4 : List (S39)) : Option (Bool) := (arboretlaw08_awake.f k).bind fun t263 => (if t263 = true then ((arboretlaw03_Few.f k a0_0 l0_1 a0_2 l0_3 l0_4).bind fun t264 => (arboretlaw08_HandleIndex.j0 k (!t264) a0_0 l0_1 a0_2 l0_3 l0_4)) else (arboretlaw08_HandleIndex.j0 k true a0_0 l0_1 a0_2 l0_3 l0_4))
set_option maxHeartbeats 8000000 in
set_option maxRecDepth 100000 in
theorem arboretlaw08_HandleIndex.calls (k : Nat) (a0_0 : Int) (A0_1 : Option Addr) (c0_1 : Nat) (l0_1 : List (S151)) (a0_2 : ByteArray) (A0_3 : Option Addr) (c0_3 : Nat) (l0_3 : List (S104)) (A0_4 : Option Addr) (c0_4 : Nat) (l0_4 : List (S39)) (r : Bool) (w : World) (hr0_1 : Kd.C k151 w A0_1 l0_1.length l0_1) (hc0_1 : l0_1.length ≤ c0_1) (hr0_3 : Kd.C k104 w A0_3 l0_3.length l0_3) (hc0_3 : l0_3.length ≤ c0_3) (hr0_4 : Kd.C k39 w A0_4 l0_4.length l0_4) (hc0_4 : l0_4.length ≤ c0_4) (h : arboretlaw08_HandleIndex.f k a0_0 l0_1 a0_2 l0_3 l0_4 = some r) :
    Calls Try.prog 12 #[.agg #[.int .u32 a0_0, .slice A0_1 l0_1.length c0_1, .string a0_2, .slice A0_3 l0_3.length c0_3, .slice A0_4 l0_4.length c0_4]] w fun e w' => e = .returned (.bool r) ∧ Below w.heap.size w w' := by
  have hu43 := Try.underlying43
  have HR0_1 := Aside0.mk hr0_1
  have HC0_1 := Aside0.mk hc0_1
  clear hr0_1 hc0_1
  have HR0_3 := Aside0.mk hr0_3
  have HC0_3 := Aside0.mk hc0_3
  clear hr0_3 hc0_3
  have HR0_4 := Aside0.mk hr0_4
  have HC0_4 := Aside0.mk hc0_4
  clear hr0_4 hc0_4
  have HB := Aside0.mk (Below.refl w.heap.size w)
  have H : ((arboretlaw08_awake.f k).bind fun t263 => (if t263 = true then ((arboretlaw03_Few.f k a0_0 l0_1 a0_2 l0_3 l0_4).bind fun t264 => (arboretlaw08_HandleIndex.j0 k (!t264) a0_0 l0_1 a0_2 l0_3 l0_4)) else (arboretlaw08_HandleIndex.j0 k true a0_0 l0_1 a0_2 l0_3 l0_4))) = some r := h
  clear h
  have HC2 := Aside0.mk H
  clear H
  go_enter Try.func12, Try.ntmps12
  go_upto_region 1 with (first | ((with_reducible refine gate_dst (N := 1) rfl ?_); (try (refine gate_guard (by rfl) ?_; dsimp only)); refine box_event ?hg (N := 1) ?hd (cs := #[.int .u32 a0_0, .slice A0_1 l0_1.length c0_1, .string a0_2, .slice A0_3 l0_3.length c0_3, .slice A0_4 l0_4.length c0_4]) (t := 43) ?hr ?_; (case hd => rfl); (case hg => rfl); (case hr => first | (go_simp; done) | (go_simp; rfl)); intro gb262 hg w3 hbox hb; have n0_ := Aside0.mk (below_step (by repeat (first | (with_reducible first | exact HB.out | apply below_alloc | apply pw_below_drewN | apply below_drew1) | exact HB.out)) hb); have n1_ := Aside0.mk (hbox); have n2_ := Aside0.mk ((by rw [hg]; exact (below_size (by repeat (first | (with_reducible first | exact HB.out | apply below_alloc | apply pw_below_drewN | apply below_drew1) | exact HB.out))) : w.heap.size ≤ gb262)); have n3_ := Aside0.mk ((by rw [hg]; exact (below_size (by repeat (first | (with_reducible first | exact HB.out | apply below_alloc | apply pw_below_drewN | apply below_drew1) | exact HB.out))) : w.heap.size ≤ gb262)); clear HB; have HB := n0_; have BK262 := n1_; have GW262 := n2_; have GE262 := n3_; clear n0_ n1_ n2_ n3_; clear hb hbox hg))
  repeat (go_quiet (first | ((with_reducible refine gate_dst (N := 1) rfl ?_); (try (refine gate_guard (by rfl) ?_; dsimp only)); refine box_event ?hg (N := 1) ?hd (cs := #[.int .u32 a0_0, .slice A0_1 l0_1.length c0_1, .string a0_2, .slice A0_3 l0_3.length c0_3, .slice A0_4 l0_4.length c0_4]) (t := 43) ?hr ?_; (case hd => rfl); (case hg => rfl); (case hr => first | (go_simp; done) | (go_simp; rfl)); intro gb262 hg w3 hbox hb; have n0_ := Aside0.mk (below_step (by repeat (first | (with_reducible first | exact HB.out | apply below_alloc | apply pw_below_drewN | apply below_drew1) | exact HB.out)) hb); have n1_ := Aside0.mk (hbox); have n2_ := Aside0.mk ((by rw [hg]; exact (below_size (by repeat (first | (with_reducible first | exact HB.out | apply below_alloc | apply pw_below_drewN | apply below_drew1) | exact HB.out))) : w.heap.size ≤ gb262)); have n3_ := Aside0.mk ((by rw [hg]; exact (below_size (by repeat (first | (with_reducible first | exact HB.out | apply below_alloc | apply pw_below_drewN | apply below_drew1) | exact HB.out))) : w.heap.size ≤ gb262)); clear HB; have HB := n0_; have BK262 := n1_; have GW262 := n2_; have GE262 := n3_; clear n0_ n1_ n2_ n3_; clear hb hbox hg)); go_upto_region 1 with (first | ((with_reducible refine gate_dst (N := 1) rfl ?_); (try (refine gate_guard (by rfl) ?_; dsimp only)); refine box_event ?hg (N := 1) ?hd (cs := #[.int .u32 a0_0, .slice A0_1 l0_1.length c0_1, .string a0_2, .slice A0_3 l0_3.length c0_3, .slice A0_4 l0_4.length c0_4]) (t := 43) ?hr ?_; (case hd => rfl); (case hg => rfl); (case hr => first | (go_simp; done) | (go_simp; rfl)); intro gb262 hg w3 hbox hb; have n0_ := Aside0.mk (below_step (by repeat (first | (with_reducible first | exact HB.out | apply below_alloc | apply pw_below_drewN | apply below_drew1) | exact HB.out)) hb); have n1_ := Aside0.mk (hbox); have n2_ := Aside0.mk ((by rw [hg]; exact (below_size (by repeat (first | (with_reducible first | exact HB.out | apply below_alloc | apply pw_below_drewN | apply below_drew1) | exact HB.out))) : w.heap.size ≤ gb262)); have n3_ := Aside0.mk ((by rw [hg]; exact (below_size (by repeat (first | (with_reducible first | exact HB.out | apply below_alloc | apply pw_below_drewN | apply below_drew1) | exact HB.out))) : w.heap.size ≤ gb262)); clear HB; have HB := n0_; have BK262 := n1_; have GW262 := n2_; have GE262 := n3_; clear n0_ n1_ n2_ n3_; clear hb hbox hg)))
  (try simp only [Act.put, List.setIfInBounds_toArray, List.set_cons_zero, List.set_cons_succ])
  go_cut [16] (fun v16 wc => ∃ (kq : Nat) (x16_1 : Bool), v16 = .bool x16_1 ∧ Aside0 (arboretlaw08_HandleIndex.j0 kq x16_1 a0_0 l0_1 a0_2 l0_3 l0_4 = some r) ∧ Aside0 (kq ≤ k) ∧ Aside0 (wc.heap[gb262]? = some (.cells #[.int .u32 a0_0, (.slice A0_1 l0_1.length c0_1), .string a0_2, (.slice A0_3 l0_3.length c0_3), (.slice A0_4 l0_4.length c0_4)] 43 (0, 0))) ∧ Aside0 (Below w.heap.size w wc))
  case first =>
    have H := HC2.out
    clear HC2
    replace H := Option.bind_eq_some_iff.mp H
    obtain ⟨t263, A40, H⟩ := H
    replace H : (if t263 = true then ((arboretlaw03_Few.f k a0_0 l0_1 a0_2 l0_3 l0_4).bind fun t264 => (arboretlaw08_HandleIndex.j0 k (!t264) a0_0 l0_1 a0_2 l0_3 l0_4)) else (arboretlaw08_HandleIndex.j0 k true a0_0 l0_1 a0_2 l0_3 l0_4)) = some r := H
    have A4 := Aside0.mk A40
    clear A40
    by_cases c5 : t263 = true
    · subst c5
      have H1 : ((arboretlaw03_Few.f k a0_0 l0_1 a0_2 l0_3 l0_4).bind fun t264 => (arboretlaw08_HandleIndex.j0 k (!t264) a0_0 l0_1 a0_2 l0_3 l0_4)) = some r := by rw [if_pos rfl] at H; exact H
      clear H
      have H := H1
      clear H1
      replace H := Option.bind_eq_some_iff.mp H
      obtain ⟨t264, A60, H⟩ := H
      replace H : (arboretlaw08_HandleIndex.j0 k (!t264) a0_0 l0_1 a0_2 l0_3 l0_4) = some r := H
      have A6 := Aside0.mk A60
      clear A60
      have H' := Aside0.mk H
      clear H
      go_wp2_with (first | (go_at_call 36; (with_reducible refine (arboretlaw08_awake.calls k  true _ A4.out).mono ?_); rintro e w7 ⟨rfl, hb⟩; have n0_ := Aside0.mk (blk_below (g := gb262) (o := .cells #[.int .u32 a0_0, .slice A0_1 l0_1.length c0_1, .string a0_2, .slice A0_3 l0_3.length c0_3, .slice A0_4 l0_4.length c0_4] 43 (0, 0)) (by (with_reducible repeat (first | refine blk_drewN ?_ _ | refine blk_drew ?_ | refine blk_alloc ?_ _)); exact BK262.out) hb); have n1_ := Aside0.mk (below_step (by repeat (first | (with_reducible first | exact HB.out | apply below_alloc | apply pw_below_drewN | apply below_drew1 | refine below_set ?_ GE262.out) | exact HB.out)) hb); clear BK262; clear HB; have BK262 := n0_; have HB := n1_; clear n0_ n1_; (try clear hb); (try clear hb2); (try clear hk); (try clear hi); have hcz8_0 : w7.cell? ⟨gb262, 0, none⟩ = some (.int .u32 a0_0) := (blk_cell BK262.out 0).trans rfl; have hcz8_1 : w7.cell? ⟨gb262, 1, none⟩ = some (.slice A0_1 l0_1.length c0_1) := (blk_cell BK262.out 1).trans rfl; have hcz8_2 : w7.cell? ⟨gb262, 2, none⟩ = some (.string a0_2) := (blk_cell BK262.out 2).trans rfl; have hcz8_3 : w7.cell? ⟨gb262, 3, none⟩ = some (.slice A0_3 l0_3.length c0_3) := (blk_cell BK262.out 3).trans rfl; have hcz8_4 : w7.cell? ⟨gb262, 4, none⟩ = some (.slice A0_4 l0_4.length c0_4) := (blk_cell BK262.out 4).trans rfl; have hfz8_0 := blk_frozen BK262.out 0; have hfz8_1 := blk_frozen BK262.out 1; have hfz8_2 := blk_frozen BK262.out 2; have hfz8_3 := blk_frozen BK262.out 3; have hfz8_4 := blk_frozen BK262.out 4) | (go_at_call 21; (with_reducible refine (arboretlaw03_Few.calls k a0_0 _ _ l0_1 a0_2 _ _ l0_3 _ _ l0_4 t264 _ ?side1 ?side2 ?side3 ?side4 ?side5 ?side6 A6.out).mono ?_); (case side1 => repeat (first | exact (Kd.C_below HR0_1.out HB.out) | (with_reducible refine Kd.C_alloc ?_ _) | (with_reducible refine Kd.C_drewN ?_ _) | (with_reducible refine Kd.C_drew ?_))); (case side2 => exact HC0_1.out); (case side3 => repeat (first | exact (Kd.C_below HR0_3.out HB.out) | (with_reducible refine Kd.C_alloc ?_ _) | (with_reducible refine Kd.C_drewN ?_ _) | (with_reducible refine Kd.C_drew ?_))); (case side4 => exact HC0_3.out); (case side5 => repeat (first | exact (Kd.C_below HR0_4.out HB.out) | (with_reducible refine Kd.C_alloc ?_ _) | (with_reducible refine Kd.C_drewN ?_ _) | (with_reducible refine Kd.C_drew ?_))); (case side6 => exact HC0_4.out); rintro e w9 ⟨rfl, hb⟩; have n0_ := Aside0.mk (blk_below (g := gb262) (o := .cells #[.int .u32 a0_0, .slice A0_1 l0_1.length c0_1, .string a0_2, .slice A0_3 l0_3.length c0_3, .slice A0_4 l0_4.length c0_4] 43 (0, 0)) (by (with_reducible repeat (first | refine blk_drewN ?_ _ | refine blk_drew ?_ | refine blk_alloc ?_ _)); exact BK262.out) hb); have n1_ := Aside0.mk (below_step (by repeat (first | (with_reducible first | exact HB.out | apply below_alloc | apply pw_below_drewN | apply below_drew1 | refine below_set ?_ GE262.out) | exact HB.out)) hb); clear BK262; clear HB; have BK262 := n0_; have HB := n1_; clear n0_ n1_; (try clear hb); (try clear hb2); (try clear hk); (try clear hi)))
      repeat (go_quiet (first | (go_at_call 36; (with_reducible refine (arboretlaw08_awake.calls k  true _ A4.out).mono ?_); rintro e w7 ⟨rfl, hb⟩; have n0_ := Aside0.mk (blk_below (g := gb262) (o := .cells #[.int .u32 a0_0, .slice A0_1 l0_1.length c0_1, .string a0_2, .slice A0_3 l0_3.length c0_3, .slice A0_4 l0_4.length c0_4] 43 (0, 0)) (by (with_reducible repeat (first | refine blk_drewN ?_ _ | refine blk_drew ?_ | refine blk_alloc ?_ _)); exact BK262.out) hb); have n1_ := Aside0.mk (below_step (by repeat (first | (with_reducible first | exact HB.out | apply below_alloc | apply pw_below_drewN | apply below_drew1 | refine below_set ?_ GE262.out) | exact HB.out)) hb); clear BK262; clear HB; have BK262 := n0_; have HB := n1_; clear n0_ n1_; (try clear hb); (try clear hb2); (try clear hk); (try clear hi); have hcz8_0 : w7.cell? ⟨gb262, 0, none⟩ = some (.int .u32 a0_0) := (blk_cell BK262.out 0).trans rfl; have hcz8_1 : w7.cell? ⟨gb262, 1, none⟩ = some (.slice A0_1 l0_1.length c0_1) := (blk_cell BK262.out 1).trans rfl; have hcz8_2 : w7.cell? ⟨gb262, 2, none⟩ = some (.string a0_2) := (blk_cell BK262.out 2).trans rfl; have hcz8_3 : w7.cell? ⟨gb262, 3, none⟩ = some (.slice A0_3 l0_3.length c0_3) := (blk_cell BK262.out 3).trans rfl; have hcz8_4 : w7.cell? ⟨gb262, 4, none⟩ = some (.slice A0_4 l0_4.length c0_4) := (blk_cell BK262.out 4).trans rfl; have hfz8_0 := blk_frozen BK262.out 0; have hfz8_1 := blk_frozen BK262.out 1; have hfz8_2 := blk_frozen BK262.out 2; have hfz8_3 := blk_frozen BK262.out 3; have hfz8_4 := blk_frozen BK262.out 4) | (go_at_call 21; (with_reducible refine (arboretlaw03_Few.calls k a0_0 _ _ l0_1 a0_2 _ _ l0_3 _ _ l0_4 t264 _ ?side1 ?side2 ?side3 ?side4 ?side5 ?side6 A6.out).mono ?_); (case side1 => repeat (first | exact (Kd.C_below HR0_1.out HB.out) | (with_reducible refine Kd.C_alloc ?_ _) | (with_reducible refine Kd.C_drewN ?_ _) | (with_reducible refine Kd.C_drew ?_))); (case side2 => exact HC0_1.out); (case side3 => repeat (first | exact (Kd.C_below HR0_3.out HB.out) | (with_reducible refine Kd.C_alloc ?_ _) | (with_reducible refine Kd.C_drewN ?_ _) | (with_reducible refine Kd.C_drew ?_))); (case side4 => exact HC0_3.out); (case side5 => repeat (first | exact (Kd.C_below HR0_4.out HB.out) | (with_reducible refine Kd.C_alloc ?_ _) | (with_reducible refine Kd.C_drewN ?_ _) | (with_reducible refine Kd.C_drew ?_))); (case side6 => exact HC0_4.out); rintro e w9 ⟨rfl, hb⟩; have n0_ := Aside0.mk (blk_below (g := gb262) (o := .cells #[.int .u32 a0_0, .slice A0_1 l0_1.length c0_1, .string a0_2, .slice A0_3 l0_3.length c0_3, .slice A0_4 l0_4.length c0_4] 43 (0, 0)) (by (with_reducible repeat (first | refine blk_drewN ?_ _ | refine blk_drew ?_ | refine blk_alloc ?_ _)); exact BK262.out) hb); have n1_ := Aside0.mk (below_step (by repeat (first | (with_reducible first | exact HB.out | apply below_alloc | apply pw_below_drewN | apply below_drew1 | refine below_set ?_ GE262.out) | exact HB.out)) hb); clear BK262; clear HB; have BK262 := n0_; have HB := n1_; clear n0_ n1_; (try clear hb); (try clear hb2); (try clear hk); (try clear hi))); try go_wp2_with (first | (go_at_call 36; (with_reducible refine (arboretlaw08_awake.calls k  true _ A4.out).mono ?_); rintro e w7 ⟨rfl, hb⟩; have n0_ := Aside0.mk (blk_below (g := gb262) (o := .cells #[.int .u32 a0_0, .slice A0_1 l0_1.length c0_1, .string a0_2, .slice A0_3 l0_3.length c0_3, .slice A0_4 l0_4.length c0_4] 43 (0, 0)) (by (with_reducible repeat (first | refine blk_drewN ?_ _ | refine blk_drew ?_ | refine blk_alloc ?_ _)); exact BK262.out) hb); have n1_ := Aside0.mk (below_step (by repeat (first | (with_reducible first | exact HB.out | apply below_alloc | apply pw_below_drewN | apply below_drew1 | refine below_set ?_ GE262.out) | exact HB.out)) hb); clear BK262; clear HB; have BK262 := n0_; have HB := n1_; clear n0_ n1_; (try clear hb); (try clear hb2); (try clear hk); (try clear hi); have hcz8_0 : w7.cell? ⟨gb262, 0, none⟩ = some (.int .u32 a0_0) := (blk_cell BK262.out 0).trans rfl; have hcz8_1 : w7.cell? ⟨gb262, 1, none⟩ = some (.slice A0_1 l0_1.length c0_1) := (blk_cell BK262.out 1).trans rfl; have hcz8_2 : w7.cell? ⟨gb262, 2, none⟩ = some (.string a0_2) := (blk_cell BK262.out 2).trans rfl; have hcz8_3 : w7.cell? ⟨gb262, 3, none⟩ = some (.slice A0_3 l0_3.length c0_3) := (blk_cell BK262.out 3).trans rfl; have hcz8_4 : w7.cell? ⟨gb262, 4, none⟩ = some (.slice A0_4 l0_4.length c0_4) := (blk_cell BK262.out 4).trans rfl; have hfz8_0 := blk_frozen BK262.out 0; have hfz8_1 := blk_frozen BK262.out 1; have hfz8_2 := blk_frozen BK262.out 2; have hfz8_3 := blk_frozen BK262.out 3; have hfz8_4 := blk_frozen BK262.out 4) | (go_at_call 21; (with_reducible refine (arboretlaw03_Few.calls k a0_0 _ _ l0_1 a0_2 _ _ l0_3 _ _ l0_4 t264 _ ?side1 ?side2 ?side3 ?side4 ?side5 ?side6 A6.out).mono ?_); (case side1 => repeat (first | exact (Kd.C_below HR0_1.out HB.out) | (with_reducible refine Kd.C_alloc ?_ _) | (with_reducible refine Kd.C_drewN ?_ _) | (with_reducible refine Kd.C_drew ?_))); (case side2 => exact HC0_1.out); (case side3 => repeat (first | exact (Kd.C_below HR0_3.out HB.out) | (with_reducible refine Kd.C_alloc ?_ _) | (with_reducible refine Kd.C_drewN ?_ _) | (with_reducible refine Kd.C_drew ?_))); (case side4 => exact HC0_3.out); (case side5 => repeat (first | exact (Kd.C_below HR0_4.out HB.out) | (with_reducible refine Kd.C_alloc ?_ _) | (with_reducible refine Kd.C_drewN ?_ _) | (with_reducible refine Kd.C_drew ?_))); (case side6 => exact HC0_4.out); rintro e w9 ⟨rfl, hb⟩; have n0_ := Aside0.mk (blk_below (g := gb262) (o := .cells #[.int .u32 a0_0, .slice A0_1 l0_1.length c0_1, .string a0_2, .slice A0_3 l0_3.length c0_3, .slice A0_4 l0_4.length c0_4] 43 (0, 0)) (by (with_reducible repeat (first | refine blk_drewN ?_ _ | refine blk_drew ?_ | refine blk_alloc ?_ _)); exact BK262.out) hb); have n1_ := Aside0.mk (below_step (by repeat (first | (with_reducible first | exact HB.out | apply below_alloc | apply pw_below_drewN | apply below_drew1 | refine below_set ?_ GE262.out) | exact HB.out)) hb); clear BK262; clear HB; have BK262 := n0_; have HB := n1_; clear n0_ n1_; (try clear hb); (try clear hb2); (try clear hk); (try clear hi))))
      go_meet
      case rel => exact ⟨_, (!t264), (by first | rfl | (simp; done) | (simp [*]; done)), H', ⟨by first | omega | exact Nat.le_refl _⟩, ⟨by (with_reducible repeat (first | refine blk_drewN ?_ _ | refine blk_drew ?_ | refine blk_alloc ?_ _)); exact BK262.out⟩, ⟨by repeat (first | (with_reducible first | exact HB.out | apply below_alloc | apply pw_below_drewN | apply below_drew1 | refine below_set ?_ GE262.out) | exact HB.out)⟩⟩
    · replace c5 := Bool.eq_false_iff.mpr c5
      subst c5
      have H1 : (arboretlaw08_HandleIndex.j0 k true a0_0 l0_1 a0_2 l0_3 l0_4) = some r := by rw [if_neg (show ¬ (false = true) by decide)] at H; exact H
      clear H
      have H := H1
      clear H1
      have H' := Aside0.mk H
      clear H
      go_wp2_with (first | (go_at_call 36; (with_reducible refine (arboretlaw08_awake.calls k  false _ A4.out).mono ?_); rintro e w10 ⟨rfl, hb⟩; have n0_ := Aside0.mk (blk_below (g := gb262) (o := .cells #[.int .u32 a0_0, .slice A0_1 l0_1.length c0_1, .string a0_2, .slice A0_3 l0_3.length c0_3, .slice A0_4 l0_4.length c0_4] 43 (0, 0)) (by (with_reducible repeat (first | refine blk_drewN ?_ _ | refine blk_drew ?_ | refine blk_alloc ?_ _)); exact BK262.out) hb); have n1_ := Aside0.mk (below_step (by repeat (first | (with_reducible first | exact HB.out | apply below_alloc | apply pw_below_drewN | apply below_drew1 | refine below_set ?_ GE262.out) | exact HB.out)) hb); clear BK262; clear HB; have BK262 := n0_; have HB := n1_; clear n0_ n1_; (try clear hb); (try clear hb2); (try clear hk); (try clear hi)))
      repeat (go_quiet (first | (go_at_call 36; (with_reducible refine (arboretlaw08_awake.calls k  false _ A4.out).mono ?_); rintro e w10 ⟨rfl, hb⟩; have n0_ := Aside0.mk (blk_below (g := gb262) (o := .cells #[.int .u32 a0_0, .slice A0_1 l0_1.length c0_1, .string a0_2, .slice A0_3 l0_3.length c0_3, .slice A0_4 l0_4.length c0_4] 43 (0, 0)) (by (with_reducible repeat (first | refine blk_drewN ?_ _ | refine blk_drew ?_ | refine blk_alloc ?_ _)); exact BK262.out) hb); have n1_ := Aside0.mk (below_step (by repeat (first | (with_reducible first | exact HB.out | apply below_alloc | apply pw_below_drewN | apply below_drew1 | refine below_set ?_ GE262.out) | exact HB.out)) hb); clear BK262; clear HB; have BK262 := n0_; have HB := n1_; clear n0_ n1_; (try clear hb); (try clear hb2); (try clear hk); (try clear hi))); try go_wp2_with (first | (go_at_call 36; (with_reducible refine (arboretlaw08_awake.calls k  false _ A4.out).mono ?_); rintro e w10 ⟨rfl, hb⟩; have n0_ := Aside0.mk (blk_below (g := gb262) (o := .cells #[.int .u32 a0_0, .slice A0_1 l0_1.length c0_1, .string a0_2, .slice A0_3 l0_3.length c0_3, .slice A0_4 l0_4.length c0_4] 43 (0, 0)) (by (with_reducible repeat (first | refine blk_drewN ?_ _ | refine blk_drew ?_ | refine blk_alloc ?_ _)); exact BK262.out) hb); have n1_ := Aside0.mk (below_step (by repeat (first | (with_reducible first | exact HB.out | apply below_alloc | apply pw_below_drewN | apply below_drew1 | refine below_set ?_ GE262.out) | exact HB.out)) hb); clear BK262; clear HB; have BK262 := n0_; have HB := n1_; clear n0_ n1_; (try clear hb); (try clear hb2); (try clear hk); (try clear hi))))
      go_meet
      case rel => exact ⟨_, (true), (by first | rfl | (simp; done) | (simp [*]; done)), H', ⟨by first | omega | exact Nat.le_refl _⟩, ⟨by (with_reducible repeat (first | refine blk_drewN ?_ _ | refine blk_drew ?_ | refine blk_alloc ?_ _)); exact BK262.out⟩, ⟨by repeat (first | (with_reducible first | exact HB.out | apply below_alloc | apply pw_below_drewN | apply below_drew1 | refine below_set ?_ GE262.out) | exact HB.out)⟩⟩
  case rest =>
    clear HC2
    try clear c1
    try clear p2
    try clear c5
    try clear hcz8_0
    try clear hcz8_1
    try clear hcz8_2
    try clear hcz8_3
    try clear hcz8_4
    try clear hfz8_0
    try clear hfz8_1
    try clear hfz8_2
    try clear hfz8_3
    try clear hfz8_4
    obtain ⟨kq, x16_1, rfl, HA, HJ1, BK262, HB⟩ := hcut
    cases kq with
    | zero => exact absurd HA.out (by simp [arboretlaw08_HandleIndex.j0])
    | succ kj1 =>
      have H := HA.out
      clear HA
      simp only [arboretlaw08_HandleIndex.j0] at H
      by_cases c11 : x16_1 = true
      · subst c11
        have H1 : ((arboretlaw08_awake.f kj1).bind fun t265 => (some t265)) = some r := by rw [if_pos rfl] at H; exact H
        clear H
        have H := H1
        clear H1
        replace H := Option.bind_eq_some_iff.mp H
        obtain ⟨t265, A120, H⟩ := H
        replace H : (some t265) = some r := H
        have A12 := Aside0.mk A120
        clear A120
        obtain rfl := Option.some.inj H
        go_wp2_with (first | (go_at_call 36; (with_reducible refine (arboretlaw08_awake.calls kj1  t265 _ A12.out).mono ?_); rintro e w13 ⟨rfl, hb⟩; have n0_ := Aside0.mk (blk_below (g := gb262) (o := .cells #[.int .u32 a0_0, .slice A0_1 l0_1.length c0_1, .string a0_2, .slice A0_3 l0_3.length c0_3, .slice A0_4 l0_4.length c0_4] 43 (0, 0)) (by (with_reducible repeat (first | refine blk_drewN ?_ _ | refine blk_drew ?_ | refine blk_alloc ?_ _)); exact BK262.out) hb); have n1_ := Aside0.mk (below_step (by repeat (first | (with_reducible first | exact HB.out | apply below_alloc | apply pw_below_drewN | apply below_drew1 | refine below_set ?_ GE262.out) | exact HB.out)) hb); clear BK262; clear HB; have BK262 := n0_; have HB := n1_; clear n0_ n1_; (try clear hb); (try clear hb2); (try clear hk); (try clear hi)))
        repeat (go_quiet (first | (go_at_call 36; (with_reducible refine (arboretlaw08_awake.calls kj1  t265 _ A12.out).mono ?_); rintro e w13 ⟨rfl, hb⟩; have n0_ := Aside0.mk (blk_below (g := gb262) (o := .cells #[.int .u32 a0_0, .slice A0_1 l0_1.length c0_1, .string a0_2, .slice A0_3 l0_3.length c0_3, .slice A0_4 l0_4.length c0_4] 43 (0, 0)) (by (with_reducible repeat (first | refine blk_drewN ?_ _ | refine blk_drew ?_ | refine blk_alloc ?_ _)); exact BK262.out) hb); have n1_ := Aside0.mk (below_step (by repeat (first | (with_reducible first | exact HB.out | apply below_alloc | apply pw_below_drewN | apply below_drew1 | refine below_set ?_ GE262.out) | exact HB.out)) hb); clear BK262; clear HB; have BK262 := n0_; have HB := n1_; clear n0_ n1_; (try clear hb); (try clear hb2); (try clear hk); (try clear hi))); try go_wp2_with (first | (go_at_call 36; (with_reducible refine (arboretlaw08_awake.calls kj1  t265 _ A12.out).mono ?_); rintro e w13 ⟨rfl, hb⟩; have n0_ := Aside0.mk (blk_below (g := gb262) (o := .cells #[.int .u32 a0_0, .slice A0_1 l0_1.length c0_1, .string a0_2, .slice A0_3 l0_3.length c0_3, .slice A0_4 l0_4.length c0_4] 43 (0, 0)) (by (with_reducible repeat (first | refine blk_drewN ?_ _ | refine blk_drew ?_ | refine blk_alloc ?_ _)); exact BK262.out) hb); have n1_ := Aside0.mk (below_step (by repeat (first | (with_reducible first | exact HB.out | apply below_alloc | apply pw_below_drewN | apply below_drew1 | refine below_set ?_ GE262.out) | exact HB.out)) hb); clear BK262; clear HB; have BK262 := n0_; have HB := n1_; clear n0_ n1_; (try clear hb); (try clear hb2); (try clear hk); (try clear hi))))
        go_ret
        exact ⟨by first | rfl | (simp [errW_none, errW_some] <;> rfl) | (simp [*, errW_none, errW_some] <;> rfl), by repeat (first | (with_reducible first | exact HB.out | apply below_alloc | apply pw_below_drewN | apply below_drew1 | refine below_set ?_ GE262.out) | exact HB.out)⟩
      · replace c11 := Bool.eq_false_iff.mpr c11
        subst c11
        have H1 : ((handle_Index.f kj1 a0_0 l0_1 a0_2 l0_3 l0_4).bind fun bt266 => ((arboretref06_Index.f kj1 a0_0 l0_1 a0_2 l0_3 l0_4).bind fun bt270 => ((handle_Most.f kj1 a0_0 l0_1 a0_2 l0_3 l0_4).bind fun bt274 => (if bt266.2 = bt270.2 then (if bt274.2 = bt270.2 then (if (bt266.1.length : Int) = (bt270.1.length : Int) then ((arboretref06_Most.f kj1 a0_0 l0_1 a0_2 l0_3 l0_4).bind fun t276 => (arboretlaw08_HandleIndex.j1 kj1 bt266.1 bt270.1 (bt274.1 != t276))) else (arboretlaw08_HandleIndex.j1 kj1 bt266.1 bt270.1 true)) else (arboretlaw08_HandleIndex.j1 kj1 bt266.1 bt270.1 true)) else (arboretlaw08_HandleIndex.j1 kj1 bt266.1 bt270.1 true))))) = some r := by rw [if_neg (show ¬ (false = true) by decide)] at H; exact H
        clear H
        have H := H1
        clear H1
        replace H := Option.bind_eq_some_iff.mp H
        obtain ⟨⟨t266, t269⟩, A140, H⟩ := H
        replace H : ((arboretref06_Index.f kj1 a0_0 l0_1 a0_2 l0_3 l0_4).bind fun bt270 => ((handle_Most.f kj1 a0_0 l0_1 a0_2 l0_3 l0_4).bind fun bt274 => (if t269 = bt270.2 then (if bt274.2 = bt270.2 then (if (t266.length : Int) = (bt270.1.length : Int) then ((arboretref06_Most.f kj1 a0_0 l0_1 a0_2 l0_3 l0_4).bind fun t276 => (arboretlaw08_HandleIndex.j1 kj1 t266 bt270.1 (bt274.1 != t276))) else (arboretlaw08_HandleIndex.j1 kj1 t266 bt270.1 true)) else (arboretlaw08_HandleIndex.j1 kj1 t266 bt270.1 true)) else (arboretlaw08_HandleIndex.j1 kj1 t266 bt270.1 true)))) = some r := H
        have A14 := Aside0.mk A140
        clear A140
        replace H := Option.bind_eq_some_iff.mp H
        obtain ⟨⟨t270, t273⟩, A150, H⟩ := H
        replace H : ((handle_Most.f kj1 a0_0 l0_1 a0_2 l0_3 l0_4).bind fun bt274 => (if t269 = t273 then (if bt274.2 = t273 then (if (t266.length : Int) = (t270.length : Int) then ((arboretref06_Most.f kj1 a0_0 l0_1 a0_2 l0_3 l0_4).bind fun t276 => (arboretlaw08_HandleIndex.j1 kj1 t266 t270 (bt274.1 != t276))) else (arboretlaw08_HandleIndex.j1 kj1 t266 t270 true)) else (arboretlaw08_HandleIndex.j1 kj1 t266 t270 true)) else (arboretlaw08_HandleIndex.j1 kj1 t266 t270 true))) = some r := H
        have A15 := Aside0.mk A150
        clear A150
        replace H := Option.bind_eq_some_iff.mp H
        obtain ⟨⟨t274, t275⟩, A160, H⟩ := H
        replace H : (if t269 = t273 then (if t275 = t273 then (if (t266.length : Int) = (t270.length : Int) then ((arboretref06_Most.f kj1 a0_0 l0_1 a0_2 l0_3 l0_4).bind fun t276 => (arboretlaw08_HandleIndex.j1 kj1 t266 t270 (t274 != t276))) else (arboretlaw08_HandleIndex.j1 kj1 t266 t270 true)) else (arboretlaw08_HandleIndex.j1 kj1 t266 t270 true)) else (arboretlaw08_HandleIndex.j1 kj1 t266 t270 true)) = some r := H
        have A16 := Aside0.mk A160
        clear A160
        have HC17 := Aside0.mk H
        clear H
        have hcz18_0 : wc.cell? ⟨gb262, 0, none⟩ = some (.int .u32 a0_0) := (blk_cell BK262.out 0).trans rfl
        have hcz18_1 : wc.cell? ⟨gb262, 1, none⟩ = some (.slice A0_1 l0_1.length c0_1) := (blk_cell BK262.out 1).trans rfl
        have hcz18_2 : wc.cell? ⟨gb262, 2, none⟩ = some (.string a0_2) := (blk_cell BK262.out 2).trans rfl
        have hcz18_3 : wc.cell? ⟨gb262, 3, none⟩ = some (.slice A0_3 l0_3.length c0_3) := (blk_cell BK262.out 3).trans rfl
        have hcz18_4 : wc.cell? ⟨gb262, 4, none⟩ = some (.slice A0_4 l0_4.length c0_4) := (blk_cell BK262.out 4).trans rfl
        have hfz18_0 := blk_frozen BK262.out 0
        have hfz18_1 := blk_frozen BK262.out 1
        have hfz18_2 := blk_frozen BK262.out 2
        have hfz18_3 := blk_frozen BK262.out 3
        have hfz18_4 := blk_frozen BK262.out 4
        go_upto_region 6 with (first | (go_at_call 41; (with_reducible refine (handle_Index.calls kj1 a0_0 _ _ l0_1 a0_2 _ _ l0_3 _ _ l0_4 t266 t269 _ ?side1 ?side2 ?side3 ?side4 ?side5 ?side6 A14.out).mono ?_); (case side1 => repeat (first | exact (Kd.C_below HR0_1.out HB.out) | (with_reducible refine Kd.C_alloc ?_ _) | (with_reducible refine Kd.C_drewN ?_ _) | (with_reducible refine Kd.C_drew ?_))); (case side2 => exact HC0_1.out); (case side3 => repeat (first | exact (Kd.C_below HR0_3.out HB.out) | (with_reducible refine Kd.C_alloc ?_ _) | (with_reducible refine Kd.C_drewN ?_ _) | (with_reducible refine Kd.C_drew ?_))); (case side4 => exact HC0_3.out); (case side5 => repeat (first | exact (Kd.C_below HR0_4.out HB.out) | (with_reducible refine Kd.C_alloc ?_ _) | (with_reducible refine Kd.C_drewN ?_ _) | (with_reducible refine Kd.C_drew ?_))); (case side6 => exact HC0_4.out); rintro e w19 ⟨v267, rfl, ho0, hb⟩; have n0_ := Aside0.mk (Kd.N_lower (Kd.N_mono (ok' := fun k_ => k_ ≠ gb262) (Kd.S_N (Kd.S_bound ho0)) (fun k_ hk_ => (Kd.freshB (g := gb262) (o := .cells #[.int .u32 a0_0, .slice A0_1 l0_1.length c0_1, .string a0_2, .slice A0_3 l0_3.length c0_3, .slice A0_4 l0_4.length c0_4] 43 (0, 0)) (by (with_reducible repeat (first | refine blk_drewN ?_ _ | refine blk_drew ?_ | refine blk_alloc ?_ _)); exact BK262.out) k_ hk_.2.1))) (below_size (by repeat (first | (with_reducible first | exact HB.out | apply below_alloc | apply pw_below_drewN | apply below_drew1 | refine below_set ?_ GE262.out) | exact HB.out)))); have n1_ := Aside0.mk (blk_below (g := gb262) (o := .cells #[.int .u32 a0_0, .slice A0_1 l0_1.length c0_1, .string a0_2, .slice A0_3 l0_3.length c0_3, .slice A0_4 l0_4.length c0_4] 43 (0, 0)) (by (with_reducible repeat (first | refine blk_drewN ?_ _ | refine blk_drew ?_ | refine blk_alloc ?_ _)); exact BK262.out) hb); have n2_ := Aside0.mk (below_step (by repeat (first | (with_reducible first | exact HB.out | apply below_alloc | apply pw_below_drewN | apply below_drew1 | refine below_set ?_ GE262.out) | exact HB.out)) hb); clear BK262; clear HB; have HO268 := n0_; have BK262 := n1_; have HB := n2_; clear n0_ n1_ n2_; (try clear hb); (try clear hb2); (try clear hk); (try clear hi); (try clear ho0); have hcz20_0 : w19.cell? ⟨gb262, 0, none⟩ = some (.int .u32 a0_0) := (blk_cell BK262.out 0).trans rfl; have hcz20_1 : w19.cell? ⟨gb262, 1, none⟩ = some (.slice A0_1 l0_1.length c0_1) := (blk_cell BK262.out 1).trans rfl; have hcz20_2 : w19.cell? ⟨gb262, 2, none⟩ = some (.string a0_2) := (blk_cell BK262.out 2).trans rfl; have hcz20_3 : w19.cell? ⟨gb262, 3, none⟩ = some (.slice A0_3 l0_3.length c0_3) := (blk_cell BK262.out 3).trans rfl; have hcz20_4 : w19.cell? ⟨gb262, 4, none⟩ = some (.slice A0_4 l0_4.length c0_4) := (blk_cell BK262.out 4).trans rfl; have hfz20_0 := blk_frozen BK262.out 0; have hfz20_1 := blk_frozen BK262.out 1; have hfz20_2 := blk_frozen BK262.out 2; have hfz20_3 := blk_frozen BK262.out 3; have hfz20_4 := blk_frozen BK262.out 4) | (go_at_call 38; (with_reducible refine (arboretref06_Index.calls kj1 a0_0 _ _ l0_1 a0_2 (fun k_ => k_ < w.heap.size) _ _ l0_3 (fun k_ => k_ < w.heap.size) _ _ l0_4 t270 t273 _ ?side1 ?side2 ?side3 ?side4 A15.out).mono ?_); (case side1 => repeat (first | exact (Kd.C_below HR0_1.out HB.out) | (with_reducible refine Kd.C_alloc ?_ _) | (with_reducible refine Kd.C_drewN ?_ _) | (with_reducible refine Kd.C_drew ?_))); (case side2 => exact HC0_1.out); (case side3 => exact Kd.V_mk HC0_3.out (Kd.F_below (Kd.C_F k104_heap HR0_3.out) (by repeat (first | (with_reducible first | exact HB.out | apply below_alloc | apply pw_below_drewN | apply below_drew1 | refine below_set ?_ GE262.out) | exact HB.out)))); (case side4 => exact Kd.V_mk HC0_4.out (Kd.F_below (Kd.C_F k39_heap HR0_4.out) (by repeat (first | (with_reducible first | exact HB.out | apply below_alloc | apply pw_below_drewN | apply below_drew1 | refine below_set ?_ GE262.out) | exact HB.out)))); rintro e w21 ⟨v271, rfl, ho0, hb⟩; have n0_ := Aside0.mk (Kd.N_elder' (by (with_reducible repeat (first | apply Kd.N_alloc | apply Kd.N_drewN | apply Kd.N_drew)); exact HO268.out) (Kd.N_base ho0) hb); have n1_ := Aside0.mk (Kd.N_lower (Kd.N_mono (ok' := fun k_ => some k_ ≠ (v267 : Value).ownBlock ∧ k_ ≠ gb262) ho0 (fun k_ hk_ => ⟨Or.elim hk_ (fun hs_ => Or.elim hs_ (fun hs_ => fun e_ => Nat.not_le.2 hs_ (Kd.N_base HO268.out k_ e_.symm)) (fun hs_ => fun e_ => Nat.not_le.2 hs_ (Kd.N_base HO268.out k_ e_.symm))) (fun hn_ => (Kd.fresh' (Kd.N_lt (by (with_reducible repeat (first | apply Kd.N_alloc | apply Kd.N_drewN | apply Kd.N_drew)); exact HO268.out)) k_ hn_)), Or.elim hk_ (fun hs_ => Or.elim hs_ (fun hs_ => fun e_ => Nat.not_le.2 hs_ (by rw [e_]; exact GW262.out)) (fun hs_ => fun e_ => Nat.not_le.2 hs_ (by rw [e_]; exact GW262.out))) (fun hn_ => (Kd.freshB (g := gb262) (o := .cells #[.int .u32 a0_0, .slice A0_1 l0_1.length c0_1, .string a0_2, .slice A0_3 l0_3.length c0_3, .slice A0_4 l0_4.length c0_4] 43 (0, 0)) (by (with_reducible repeat (first | refine blk_drewN ?_ _ | refine blk_drew ?_ | refine blk_alloc ?_ _)); exact BK262.out) k_ hn_))⟩)) (below_size (by repeat (first | (with_reducible first | exact HB.out | apply below_alloc | apply pw_below_drewN | apply below_drew1 | refine below_set ?_ GE262.out) | exact HB.out)))); have n2_ := Aside0.mk (blk_below (g := gb262) (o := .cells #[.int .u32 a0_0, .slice A0_1 l0_1.length c0_1, .string a0_2, .slice A0_3 l0_3.length c0_3, .slice A0_4 l0_4.length c0_4] 43 (0, 0)) (by (with_reducible repeat (first | refine blk_drewN ?_ _ | refine blk_drew ?_ | refine blk_alloc ?_ _)); exact BK262.out) hb); have n3_ := Aside0.mk (below_step (by repeat (first | (with_reducible first | exact HB.out | apply below_alloc | apply pw_below_drewN | apply below_drew1 | refine below_set ?_ GE262.out) | exact HB.out)) hb); clear HO268; clear BK262; clear HB; have HO268 := n0_; have HO272 := n1_; have BK262 := n2_; have HB := n3_; clear n0_ n1_ n2_ n3_; (try clear hb); (try clear hb2); (try clear hk); (try clear hi); (try clear ho0); have hcz22_0 : w21.cell? ⟨gb262, 0, none⟩ = some (.int .u32 a0_0) := (blk_cell BK262.out 0).trans rfl; have hcz22_1 : w21.cell? ⟨gb262, 1, none⟩ = some (.slice A0_1 l0_1.length c0_1) := (blk_cell BK262.out 1).trans rfl; have hcz22_2 : w21.cell? ⟨gb262, 2, none⟩ = some (.string a0_2) := (blk_cell BK262.out 2).trans rfl; have hcz22_3 : w21.cell? ⟨gb262, 3, none⟩ = some (.slice A0_3 l0_3.length c0_3) := (blk_cell BK262.out 3).trans rfl; have hcz22_4 : w21.cell? ⟨gb262, 4, none⟩ = some (.slice A0_4 l0_4.length c0_4) := (blk_cell BK262.out 4).trans rfl; have hfz22_0 := blk_frozen BK262.out 0; have hfz22_1 := blk_frozen BK262.out 1; have hfz22_2 := blk_frozen BK262.out 2; have hfz22_3 := blk_frozen BK262.out 3; have hfz22_4 := blk_frozen BK262.out 4) | (go_at_call 42; (with_reducible refine (handle_Most.calls kj1 a0_0 _ _ l0_1 a0_2 _ _ l0_3 _ _ l0_4 t274 t275 _ ?side1 ?side2 ?side3 ?side4 ?side5 ?side6 A16.out).mono ?_); (case side1 => repeat (first | exact (Kd.C_below HR0_1.out HB.out) | (with_reducible refine Kd.C_alloc ?_ _) | (with_reducible refine Kd.C_drewN ?_ _) | (with_reducible refine Kd.C_drew ?_))); (case side2 => exact HC0_1.out); (case side3 => repeat (first | exact (Kd.C_below HR0_3.out HB.out) | (with_reducible refine Kd.C_alloc ?_ _) | (with_reducible refine Kd.C_drewN ?_ _) | (with_reducible refine Kd.C_drew ?_))); (case side4 => exact HC0_3.out); (case side5 => repeat (first | exact (Kd.C_below HR0_4.out HB.out) | (with_reducible refine Kd.C_alloc ?_ _) | (with_reducible refine Kd.C_drewN ?_ _) | (with_reducible refine Kd.C_drew ?_))); (case side6 => exact HC0_4.out); rintro e w23 ⟨rfl, hb⟩; have n0_ := Aside0.mk (Kd.N_below (by (with_reducible repeat (first | apply Kd.N_alloc | apply Kd.N_drewN | apply Kd.N_drew)); exact HO268.out) hb); have n1_ := Aside0.mk (Kd.N_below (by (with_reducible repeat (first | apply Kd.N_alloc | apply Kd.N_drewN | apply Kd.N_drew)); exact HO272.out) hb); have n2_ := Aside0.mk (blk_below (g := gb262) (o := .cells #[.int .u32 a0_0, .slice A0_1 l0_1.length c0_1, .string a0_2, .slice A0_3 l0_3.length c0_3, .slice A0_4 l0_4.length c0_4] 43 (0, 0)) (by (with_reducible repeat (first | refine blk_drewN ?_ _ | refine blk_drew ?_ | refine blk_alloc ?_ _)); exact BK262.out) hb); have n3_ := Aside0.mk (below_step (by repeat (first | (with_reducible first | exact HB.out | apply below_alloc | apply pw_below_drewN | apply below_drew1 | refine below_set ?_ GE262.out) | exact HB.out)) hb); clear HO268; clear HO272; clear BK262; clear HB; have HO268 := n0_; have HO272 := n1_; have BK262 := n2_; have HB := n3_; clear n0_ n1_ n2_ n3_; (try clear hb); (try clear hb2); (try clear hk); (try clear hi)))
        repeat (go_quiet (first | (go_at_call 41; (with_reducible refine (handle_Index.calls kj1 a0_0 _ _ l0_1 a0_2 _ _ l0_3 _ _ l0_4 t266 t269 _ ?side1 ?side2 ?side3 ?side4 ?side5 ?side6 A14.out).mono ?_); (case side1 => repeat (first | exact (Kd.C_below HR0_1.out HB.out) | (with_reducible refine Kd.C_alloc ?_ _) | (with_reducible refine Kd.C_drewN ?_ _) | (with_reducible refine Kd.C_drew ?_))); (case side2 => exact HC0_1.out); (case side3 => repeat (first | exact (Kd.C_below HR0_3.out HB.out) | (with_reducible refine Kd.C_alloc ?_ _) | (with_reducible refine Kd.C_drewN ?_ _) | (with_reducible refine Kd.C_drew ?_))); (case side4 => exact HC0_3.out); (case side5 => repeat (first | exact (Kd.C_below HR0_4.out HB.out) | (with_reducible refine Kd.C_alloc ?_ _) | (with_reducible refine Kd.C_drewN ?_ _) | (with_reducible refine Kd.C_drew ?_))); (case side6 => exact HC0_4.out); rintro e w19 ⟨v267, rfl, ho0, hb⟩; have n0_ := Aside0.mk (Kd.N_lower (Kd.N_mono (ok' := fun k_ => k_ ≠ gb262) (Kd.S_N (Kd.S_bound ho0)) (fun k_ hk_ => (Kd.freshB (g := gb262) (o := .cells #[.int .u32 a0_0, .slice A0_1 l0_1.length c0_1, .string a0_2, .slice A0_3 l0_3.length c0_3, .slice A0_4 l0_4.length c0_4] 43 (0, 0)) (by (with_reducible repeat (first | refine blk_drewN ?_ _ | refine blk_drew ?_ | refine blk_alloc ?_ _)); exact BK262.out) k_ hk_.2.1))) (below_size (by repeat (first | (with_reducible first | exact HB.out | apply below_alloc | apply pw_below_drewN | apply below_drew1 | refine below_set ?_ GE262.out) | exact HB.out)))); have n1_ := Aside0.mk (blk_below (g := gb262) (o := .cells #[.int .u32 a0_0, .slice A0_1 l0_1.length c0_1, .string a0_2, .slice A0_3 l0_3.length c0_3, .slice A0_4 l0_4.length c0_4] 43 (0, 0)) (by (with_reducible repeat (first | refine blk_drewN ?_ _ | refine blk_drew ?_ | refine blk_alloc ?_ _)); exact BK262.out) hb); have n2_ := Aside0.mk (below_step (by repeat (first | (with_reducible first | exact HB.out | apply below_alloc | apply pw_below_drewN | apply below_drew1 | refine below_set ?_ GE262.out) | exact HB.out)) hb); clear BK262; clear HB; have HO268 := n0_; have BK262 := n1_; have HB := n2_; clear n0_ n1_ n2_; (try clear hb); (try clear hb2); (try clear hk); (try clear hi); (try clear ho0); have hcz20_0 : w19.cell? ⟨gb262, 0, none⟩ = some (.int .u32 a0_0) := (blk_cell BK262.out 0).trans rfl; have hcz20_1 : w19.cell? ⟨gb262, 1, none⟩ = some (.slice A0_1 l0_1.length c0_1) := (blk_cell BK262.out 1).trans rfl; have hcz20_2 : w19.cell? ⟨gb262, 2, none⟩ = some (.string a0_2) := (blk_cell BK262.out 2).trans rfl; have hcz20_3 : w19.cell? ⟨gb262, 3, none⟩ = some (.slice A0_3 l0_3.length c0_3) := (blk_cell BK262.out 3).trans rfl; have hcz20_4 : w19.cell? ⟨gb262, 4, none⟩ = some (.slice A0_4 l0_4.length c0_4) := (blk_cell BK262.out 4).trans rfl; have hfz20_0 := blk_frozen BK262.out 0; have hfz20_1 := blk_frozen BK262.out 1; have hfz20_2 := blk_frozen BK262.out 2; have hfz20_3 := blk_frozen BK262.out 3; have hfz20_4 := blk_frozen BK262.out 4) | (go_at_call 38; (with_reducible refine (arboretref06_Index.calls kj1 a0_0 _ _ l0_1 a0_2 (fun k_ => k_ < w.heap.size) _ _ l0_3 (fun k_ => k_ < w.heap.size) _ _ l0_4 t270 t273 _ ?side1 ?side2 ?side3 ?side4 A15.out).mono ?_); (case side1 => repeat (first | exact (Kd.C_below HR0_1.out HB.out) | (with_reducible refine Kd.C_alloc ?_ _) | (with_reducible refine Kd.C_drewN ?_ _) | (with_reducible refine Kd.C_drew ?_))); (case side2 => exact HC0_1.out); (case side3 => exact Kd.V_mk HC0_3.out (Kd.F_below (Kd.C_F k104_heap HR0_3.out) (by repeat (first | (with_reducible first | exact HB.out | apply below_alloc | apply pw_below_drewN | apply below_drew1 | refine below_set ?_ GE262.out) | exact HB.out)))); (case side4 => exact Kd.V_mk HC0_4.out (Kd.F_below (Kd.C_F k39_heap HR0_4.out) (by repeat (first | (with_reducible first | exact HB.out | apply below_alloc | apply pw_below_drewN | apply below_drew1 | refine below_set ?_ GE262.out) | exact HB.out)))); rintro e w21 ⟨v271, rfl, ho0, hb⟩; have n0_ := Aside0.mk (Kd.N_elder' (by (with_reducible repeat (first | apply Kd.N_alloc | apply Kd.N_drewN | apply Kd.N_drew)); exact HO268.out) (Kd.N_base ho0) hb); have n1_ := Aside0.mk (Kd.N_lower (Kd.N_mono (ok' := fun k_ => some k_ ≠ (v267 : Value).ownBlock ∧ k_ ≠ gb262) ho0 (fun k_ hk_ => ⟨Or.elim hk_ (fun hs_ => Or.elim hs_ (fun hs_ => fun e_ => Nat.not_le.2 hs_ (Kd.N_base HO268.out k_ e_.symm)) (fun hs_ => fun e_ => Nat.not_le.2 hs_ (Kd.N_base HO268.out k_ e_.symm))) (fun hn_ => (Kd.fresh' (Kd.N_lt (by (with_reducible repeat (first | apply Kd.N_alloc | apply Kd.N_drewN | apply Kd.N_drew)); exact HO268.out)) k_ hn_)), Or.elim hk_ (fun hs_ => Or.elim hs_ (fun hs_ => fun e_ => Nat.not_le.2 hs_ (by rw [e_]; exact GW262.out)) (fun hs_ => fun e_ => Nat.not_le.2 hs_ (by rw [e_]; exact GW262.out))) (fun hn_ => (Kd.freshB (g := gb262) (o := .cells #[.int .u32 a0_0, .slice A0_1 l0_1.length c0_1, .string a0_2, .slice A0_3 l0_3.length c0_3, .slice A0_4 l0_4.length c0_4] 43 (0, 0)) (by (with_reducible repeat (first | refine blk_drewN ?_ _ | refine blk_drew ?_ | refine blk_alloc ?_ _)); exact BK262.out) k_ hn_))⟩)) (below_size (by repeat (first | (with_reducible first | exact HB.out | apply below_alloc | apply pw_below_drewN | apply below_drew1 | refine below_set ?_ GE262.out) | exact HB.out)))); have n2_ := Aside0.mk (blk_below (g := gb262) (o := .cells #[.int .u32 a0_0, .slice A0_1 l0_1.length c0_1, .string a0_2, .slice A0_3 l0_3.length c0_3, .slice A0_4 l0_4.length c0_4] 43 (0, 0)) (by (with_reducible repeat (first | refine blk_drewN ?_ _ | refine blk_drew ?_ | refine blk_alloc ?_ _)); exact BK262.out) hb); have n3_ := Aside0.mk (below_step (by repeat (first | (with_reducible first | exact HB.out | apply below_alloc | apply pw_below_drewN | apply below_drew1 | refine below_set ?_ GE262.out) | exact HB.out)) hb); clear HO268; clear BK262; clear HB; have HO268 := n0_; have HO272 := n1_; have BK262 := n2_; have HB := n3_; clear n0_ n1_ n2_ n3_; (try clear hb); (try clear hb2); (try clear hk); (try clear hi); (try clear ho0); have hcz22_0 : w21.cell? ⟨gb262, 0, none⟩ = some (.int .u32 a0_0) := (blk_cell BK262.out 0).trans rfl; have hcz22_1 : w21.cell? ⟨gb262, 1, none⟩ = some (.slice A0_1 l0_1.length c0_1) := (blk_cell BK262.out 1).trans rfl; have hcz22_2 : w21.cell? ⟨gb262, 2, none⟩ = some (.string a0_2) := (blk_cell BK262.out 2).trans rfl; have hcz22_3 : w21.cell? ⟨gb262, 3, none⟩ = some (.slice A0_3 l0_3.length c0_3) := (blk_cell BK262.out 3).trans rfl; have hcz22_4 : w21.cell? ⟨gb262, 4, none⟩ = some (.slice A0_4 l0_4.length c0_4) := (blk_cell BK262.out 4).trans rfl; have hfz22_0 := blk_frozen BK262.out 0; have hfz22_1 := blk_frozen BK262.out 1; have hfz22_2 := blk_frozen BK262.out 2; have hfz22_3 := blk_frozen BK262.out 3; have hfz22_4 := blk_frozen BK262.out 4) | (go_at_call 42; (with_reducible refine (handle_Most.calls kj1 a0_0 _ _ l0_1 a0_2 _ _ l0_3 _ _ l0_4 t274 t275 _ ?side1 ?side2 ?side3 ?side4 ?side5 ?side6 A16.out).mono ?_); (case side1 => repeat (first | exact (Kd.C_below HR0_1.out HB.out) | (with_reducible refine Kd.C_alloc ?_ _) | (with_reducible refine Kd.C_drewN ?_ _) | (with_reducible refine Kd.C_drew ?_))); (case side2 => exact HC0_1.out); (case side3 => repeat (first | exact (Kd.C_below HR0_3.out HB.out) | (with_reducible refine Kd.C_alloc ?_ _) | (with_reducible refine Kd.C_drewN ?_ _) | (with_reducible refine Kd.C_drew ?_))); (case side4 => exact HC0_3.out); (case side5 => repeat (first | exact (Kd.C_below HR0_4.out HB.out) | (with_reducible refine Kd.C_alloc ?_ _) | (with_reducible refine Kd.C_drewN ?_ _) | (with_reducible refine Kd.C_drew ?_))); (case side6 => exact HC0_4.out); rintro e w23 ⟨rfl, hb⟩; have n0_ := Aside0.mk (Kd.N_below (by (with_reducible repeat (first | apply Kd.N_alloc | apply Kd.N_drewN | apply Kd.N_drew)); exact HO268.out) hb); have n1_ := Aside0.mk (Kd.N_below (by (with_reducible repeat (first | apply Kd.N_alloc | apply Kd.N_drewN | apply Kd.N_drew)); exact HO272.out) hb); have n2_ := Aside0.mk (blk_below (g := gb262) (o := .cells #[.int .u32 a0_0, .slice A0_1 l0_1.length c0_1, .string a0_2, .slice A0_3 l0_3.length c0_3, .slice A0_4 l0_4.length c0_4] 43 (0, 0)) (by (with_reducible repeat (first | refine blk_drewN ?_ _ | refine blk_drew ?_ | refine blk_alloc ?_ _)); exact BK262.out) hb); have n3_ := Aside0.mk (below_step (by repeat (first | (with_reducible first | exact HB.out | apply below_alloc | apply pw_below_drewN | apply below_drew1 | refine below_set ?_ GE262.out) | exact HB.out)) hb); clear HO268; clear HO272; clear BK262; clear HB; have HO268 := n0_; have HO272 := n1_; have BK262 := n2_; have HB := n3_; clear n0_ n1_ n2_ n3_; (try clear hb); (try clear hb2); (try clear hk); (try clear hi))); go_upto_region 6 with (first | (go_at_call 41; (with_reducible refine (handle_Index.calls kj1 a0_0 _ _ l0_1 a0_2 _ _ l0_3 _ _ l0_4 t266 t269 _ ?side1 ?side2 ?side3 ?side4 ?side5 ?side6 A14.out).mono ?_); (case side1 => repeat (first | exact (Kd.C_below HR0_1.out HB.out) | (with_reducible refine Kd.C_alloc ?_ _) | (with_reducible refine Kd.C_drewN ?_ _) | (with_reducible refine Kd.C_drew ?_))); (case side2 => exact HC0_1.out); (case side3 => repeat (first | exact (Kd.C_below HR0_3.out HB.out) | (with_reducible refine Kd.C_alloc ?_ _) | (with_reducible refine Kd.C_drewN ?_ _) | (with_reducible refine Kd.C_drew ?_))); (case side4 => exact HC0_3.out); (case side5 => repeat (first | exact (Kd.C_below HR0_4.out HB.out) | (with_reducible refine Kd.C_alloc ?_ _) | (with_reducible refine Kd.C_drewN ?_ _) | (with_reducible refine Kd.C_drew ?_))); (case side6 => exact HC0_4.out); rintro e w19 ⟨v267, rfl, ho0, hb⟩; have n0_ := Aside0.mk (Kd.N_lower (Kd.N_mono (ok' := fun k_ => k_ ≠ gb262) (Kd.S_N (Kd.S_bound ho0)) (fun k_ hk_ => (Kd.freshB (g := gb262) (o := .cells #[.int .u32 a0_0, .slice A0_1 l0_1.length c0_1, .string a0_2, .slice A0_3 l0_3.length c0_3, .slice A0_4 l0_4.length c0_4] 43 (0, 0)) (by (with_reducible repeat (first | refine blk_drewN ?_ _ | refine blk_drew ?_ | refine blk_alloc ?_ _)); exact BK262.out) k_ hk_.2.1))) (below_size (by repeat (first | (with_reducible first | exact HB.out | apply below_alloc | apply pw_below_drewN | apply below_drew1 | refine below_set ?_ GE262.out) | exact HB.out)))); have n1_ := Aside0.mk (blk_below (g := gb262) (o := .cells #[.int .u32 a0_0, .slice A0_1 l0_1.length c0_1, .string a0_2, .slice A0_3 l0_3.length c0_3, .slice A0_4 l0_4.length c0_4] 43 (0, 0)) (by (with_reducible repeat (first | refine blk_drewN ?_ _ | refine blk_drew ?_ | refine blk_alloc ?_ _)); exact BK262.out) hb); have n2_ := Aside0.mk (below_step (by repeat (first | (with_reducible first | exact HB.out | apply below_alloc | apply pw_below_drewN | apply below_drew1 | refine below_set ?_ GE262.out) | exact HB.out)) hb); clear BK262; clear HB; have HO268 := n0_; have BK262 := n1_; have HB := n2_; clear n0_ n1_ n2_; (try clear hb); (try clear hb2); (try clear hk); (try clear hi); (try clear ho0); have hcz20_0 : w19.cell? ⟨gb262, 0, none⟩ = some (.int .u32 a0_0) := (blk_cell BK262.out 0).trans rfl; have hcz20_1 : w19.cell? ⟨gb262, 1, none⟩ = some (.slice A0_1 l0_1.length c0_1) := (blk_cell BK262.out 1).trans rfl; have hcz20_2 : w19.cell? ⟨gb262, 2, none⟩ = some (.string a0_2) := (blk_cell BK262.out 2).trans rfl; have hcz20_3 : w19.cell? ⟨gb262, 3, none⟩ = some (.slice A0_3 l0_3.length c0_3) := (blk_cell BK262.out 3).trans rfl; have hcz20_4 : w19.cell? ⟨gb262, 4, none⟩ = some (.slice A0_4 l0_4.length c0_4) := (blk_cell BK262.out 4).trans rfl; have hfz20_0 := blk_frozen BK262.out 0; have hfz20_1 := blk_frozen BK262.out 1; have hfz20_2 := blk_frozen BK262.out 2; have hfz20_3 := blk_frozen BK262.out 3; have hfz20_4 := blk_frozen BK262.out 4) | (go_at_call 38; (with_reducible refine (arboretref06_Index.calls kj1 a0_0 _ _ l0_1 a0_2 (fun k_ => k_ < w.heap.size) _ _ l0_3 (fun k_ => k_ < w.heap.size) _ _ l0_4 t270 t273 _ ?side1 ?side2 ?side3 ?side4 A15.out).mono ?_); (case side1 => repeat (first | exact (Kd.C_below HR0_1.out HB.out) | (with_reducible refine Kd.C_alloc ?_ _) | (with_reducible refine Kd.C_drewN ?_ _) | (with_reducible refine Kd.C_drew ?_))); (case side2 => exact HC0_1.out); (case side3 => exact Kd.V_mk HC0_3.out (Kd.F_below (Kd.C_F k104_heap HR0_3.out) (by repeat (first | (with_reducible first | exact HB.out | apply below_alloc | apply pw_below_drewN | apply below_drew1 | refine below_set ?_ GE262.out) | exact HB.out)))); (case side4 => exact Kd.V_mk HC0_4.out (Kd.F_below (Kd.C_F k39_heap HR0_4.out) (by repeat (first | (with_reducible first | exact HB.out | apply below_alloc | apply pw_below_drewN | apply below_drew1 | refine below_set ?_ GE262.out) | exact HB.out)))); rintro e w21 ⟨v271, rfl, ho0, hb⟩; have n0_ := Aside0.mk (Kd.N_elder' (by (with_reducible repeat (first | apply Kd.N_alloc | apply Kd.N_drewN | apply Kd.N_drew)); exact HO268.out) (Kd.N_base ho0) hb); have n1_ := Aside0.mk (Kd.N_lower (Kd.N_mono (ok' := fun k_ => some k_ ≠ (v267 : Value).ownBlock ∧ k_ ≠ gb262) ho0 (fun k_ hk_ => ⟨Or.elim hk_ (fun hs_ => Or.elim hs_ (fun hs_ => fun e_ => Nat.not_le.2 hs_ (Kd.N_base HO268.out k_ e_.symm)) (fun hs_ => fun e_ => Nat.not_le.2 hs_ (Kd.N_base HO268.out k_ e_.symm))) (fun hn_ => (Kd.fresh' (Kd.N_lt (by (with_reducible repeat (first | apply Kd.N_alloc | apply Kd.N_drewN | apply Kd.N_drew)); exact HO268.out)) k_ hn_)), Or.elim hk_ (fun hs_ => Or.elim hs_ (fun hs_ => fun e_ => Nat.not_le.2 hs_ (by rw [e_]; exact GW262.out)) (fun hs_ => fun e_ => Nat.not_le.2 hs_ (by rw [e_]; exact GW262.out))) (fun hn_ => (Kd.freshB (g := gb262) (o := .cells #[.int .u32 a0_0, .slice A0_1 l0_1.length c0_1, .string a0_2, .slice A0_3 l0_3.length c0_3, .slice A0_4 l0_4.length c0_4] 43 (0, 0)) (by (with_reducible repeat (first | refine blk_drewN ?_ _ | refine blk_drew ?_ | refine blk_alloc ?_ _)); exact BK262.out) k_ hn_))⟩)) (below_size (by repeat (first | (with_reducible first | exact HB.out | apply below_alloc | apply pw_below_drewN | apply below_drew1 | refine below_set ?_ GE262.out) | exact HB.out)))); have n2_ := Aside0.mk (blk_below (g := gb262) (o := .cells #[.int .u32 a0_0, .slice A0_1 l0_1.length c0_1, .string a0_2, .slice A0_3 l0_3.length c0_3, .slice A0_4 l0_4.length c0_4] 43 (0, 0)) (by (with_reducible repeat (first | refine blk_drewN ?_ _ | refine blk_drew ?_ | refine blk_alloc ?_ _)); exact BK262.out) hb); have n3_ := Aside0.mk (below_step (by repeat (first | (with_reducible first | exact HB.out | apply below_alloc | apply pw_below_drewN | apply below_drew1 | refine below_set ?_ GE262.out) | exact HB.out)) hb); clear HO268; clear BK262; clear HB; have HO268 := n0_; have HO272 := n1_; have BK262 := n2_; have HB := n3_; clear n0_ n1_ n2_ n3_; (try clear hb); (try clear hb2); (try clear hk); (try clear hi); (try clear ho0); have hcz22_0 : w21.cell? ⟨gb262, 0, none⟩ = some (.int .u32 a0_0) := (blk_cell BK262.out 0).trans rfl; have hcz22_1 : w21.cell? ⟨gb262, 1, none⟩ = some (.slice A0_1 l0_1.length c0_1) := (blk_cell BK262.out 1).trans rfl; have hcz22_2 : w21.cell? ⟨gb262, 2, none⟩ = some (.string a0_2) := (blk_cell BK262.out 2).trans rfl; have hcz22_3 : w21.cell? ⟨gb262, 3, none⟩ = some (.slice A0_3 l0_3.length c0_3) := (blk_cell BK262.out 3).trans rfl; have hcz22_4 : w21.cell? ⟨gb262, 4, none⟩ = some (.slice A0_4 l0_4.length c0_4) := (blk_cell BK262.out 4).trans rfl; have hfz22_0 := blk_frozen BK262.out 0; have hfz22_1 := blk_frozen BK262.out 1; have hfz22_2 := blk_frozen BK262.out 2; have hfz22_3 := blk_frozen BK262.out 3; have hfz22_4 := blk_frozen BK262.out 4) | (go_at_call 42; (with_reducible refine (handle_Most.calls kj1 a0_0 _ _ l0_1 a0_2 _ _ l0_3 _ _ l0_4 t274 t275 _ ?side1 ?side2 ?side3 ?side4 ?side5 ?side6 A16.out).mono ?_); (case side1 => repeat (first | exact (Kd.C_below HR0_1.out HB.out) | (with_reducible refine Kd.C_alloc ?_ _) | (with_reducible refine Kd.C_drewN ?_ _) | (with_reducible refine Kd.C_drew ?_))); (case side2 => exact HC0_1.out); (case side3 => repeat (first | exact (Kd.C_below HR0_3.out HB.out) | (with_reducible refine Kd.C_alloc ?_ _) | (with_reducible refine Kd.C_drewN ?_ _) | (with_reducible refine Kd.C_drew ?_))); (case side4 => exact HC0_3.out); (case side5 => repeat (first | exact (Kd.C_below HR0_4.out HB.out) | (with_reducible refine Kd.C_alloc ?_ _) | (with_reducible refine Kd.C_drewN ?_ _) | (with_reducible refine Kd.C_drew ?_))); (case side6 => exact HC0_4.out); rintro e w23 ⟨rfl, hb⟩; have n0_ := Aside0.mk (Kd.N_below (by (with_reducible repeat (first | apply Kd.N_alloc | apply Kd.N_drewN | apply Kd.N_drew)); exact HO268.out) hb); have n1_ := Aside0.mk (Kd.N_below (by (with_reducible repeat (first | apply Kd.N_alloc | apply Kd.N_drewN | apply Kd.N_drew)); exact HO272.out) hb); have n2_ := Aside0.mk (blk_below (g := gb262) (o := .cells #[.int .u32 a0_0, .slice A0_1 l0_1.length c0_1, .string a0_2, .slice A0_3 l0_3.length c0_3, .slice A0_4 l0_4.length c0_4] 43 (0, 0)) (by (with_reducible repeat (first | refine blk_drewN ?_ _ | refine blk_drew ?_ | refine blk_alloc ?_ _)); exact BK262.out) hb); have n3_ := Aside0.mk (below_step (by repeat (first | (with_reducible first | exact HB.out | apply below_alloc | apply pw_below_drewN | apply below_drew1 | refine below_set ?_ GE262.out) | exact HB.out)) hb); clear HO268; clear HO272; clear BK262; clear HB; have HO268 := n0_; have HO272 := n1_; have BK262 := n2_; have HB := n3_; clear n0_ n1_ n2_ n3_; (try clear hb); (try clear hb2); (try clear hk); (try clear hi))))
        (try simp only [Act.put, List.setIfInBounds_toArray, List.set_cons_zero, List.set_cons_succ])
        go_cut [53] (fun v53 wc => ∃ (kq : Nat) (x53_16 : Bool), v53 = .bool x53_16 ∧ Aside0 (arboretlaw08_HandleIndex.j1 kq t266 t270 x53_16 = some r) ∧ Aside0 (kq ≤ kj1) ∧ Aside0 (Kd.N k79 79 wc w.heap.size (fun k_ => some k_ ≠ (v271 : Value).ownBlock ∧ k_ ≠ gb262) v267 t266) ∧ Aside0 (Kd.N k83 83 wc w.heap.size (fun k_ => some k_ ≠ (v267 : Value).ownBlock ∧ k_ ≠ gb262) v271 t270) ∧ Aside0 (wc.heap[gb262]? = some (.cells #[.int .u32 a0_0, (.slice A0_1 l0_1.length c0_1), .string a0_2, (.slice A0_3 l0_3.length c0_3), (.slice A0_4 l0_4.length c0_4)] 43 (0, 0))) ∧ Aside0 (Below w.heap.size w wc))
        case first =>
          have H := HC17.out
          clear HC17
          by_cases c24 : t269 = t273
          · rw [if_pos c24] at H
            have c24b0 : (t269 == t273) = true := beq_iff_eq.mpr c24
            have c24b1 : (t269 != t273) = false := bne_eq_false_iff_eq.mpr c24
            clear c24
            (first | rw [c24b0] | (simp only [i64_w, i32_w]; rw [c24b0]) | skip)
            by_cases c25 : t275 = t273
            · rw [if_pos c25] at H
              have c25b0 : (t275 == t273) = true := beq_iff_eq.mpr c25
              have c25b1 : (t275 != t273) = false := bne_eq_false_iff_eq.mpr c25
              clear c25
              by_cases c26 : (t266.length : Int) = (t270.length : Int)
              · rw [if_pos c26] at H
                have c26b0 : ((t266.length : Int) == (t270.length : Int)) = true := beq_iff_eq.mpr c26
                have c26b1 : ((t266.length : Int) != (t270.length : Int)) = false := bne_eq_false_iff_eq.mpr c26
                have c26b2 : (t266.length == t270.length) = true := by first | simpa using c26 | (simp at c26 ⊢; omega)
                clear c26
                replace H := Option.bind_eq_some_iff.mp H
                obtain ⟨t276, A270, H⟩ := H
                replace H : (arboretlaw08_HandleIndex.j1 kj1 t266 t270 (t274 != t276)) = some r := H
                have A27 := Aside0.mk A270
                clear A270
                have H' := Aside0.mk H
                clear H
                obtain ⟨Ao28, co28, eo28⟩ := Kd.N_slice HO268.out
                subst eo28
                obtain ⟨Ao29, co29, eo29⟩ := Kd.N_slice HO272.out
                subst eo29
                have hcz30_0 : w23.cell? ⟨gb262, 0, none⟩ = some (.int .u32 a0_0) := (blk_cell BK262.out 0).trans rfl
                have hcz30_1 : w23.cell? ⟨gb262, 1, none⟩ = some (.slice A0_1 l0_1.length c0_1) := (blk_cell BK262.out 1).trans rfl
                have hcz30_2 : w23.cell? ⟨gb262, 2, none⟩ = some (.string a0_2) := (blk_cell BK262.out 2).trans rfl
                have hcz30_3 : w23.cell? ⟨gb262, 3, none⟩ = some (.slice A0_3 l0_3.length c0_3) := (blk_cell BK262.out 3).trans rfl
                have hcz30_4 : w23.cell? ⟨gb262, 4, none⟩ = some (.slice A0_4 l0_4.length c0_4) := (blk_cell BK262.out 4).trans rfl
                have hfz30_0 := blk_frozen BK262.out 0
                have hfz30_1 := blk_frozen BK262.out 1
                have hfz30_2 := blk_frozen BK262.out 2
                have hfz30_3 := blk_frozen BK262.out 3
                have hfz30_4 := blk_frozen BK262.out 4
                go_wp2_with (first | (go_at_call 43; (with_reducible refine (arboretref06_Most.calls kj1 a0_0 _ _ l0_1 a0_2 _ _ l0_3 _ _ l0_4 t276 _ ?side1 ?side2 ?side3 ?side4 ?side5 ?side6 A27.out).mono ?_); (case side1 => repeat (first | exact (Kd.C_below HR0_1.out HB.out) | (with_reducible refine Kd.C_alloc ?_ _) | (with_reducible refine Kd.C_drewN ?_ _) | (with_reducible refine Kd.C_drew ?_))); (case side2 => exact HC0_1.out); (case side3 => repeat (first | exact (Kd.C_below HR0_3.out HB.out) | (with_reducible refine Kd.C_alloc ?_ _) | (with_reducible refine Kd.C_drewN ?_ _) | (with_reducible refine Kd.C_drew ?_))); (case side4 => exact HC0_3.out); (case side5 => repeat (first | exact (Kd.C_below HR0_4.out HB.out) | (with_reducible refine Kd.C_alloc ?_ _) | (with_reducible refine Kd.C_drewN ?_ _) | (with_reducible refine Kd.C_drew ?_))); (case side6 => exact HC0_4.out); rintro e w31 ⟨rfl, hb⟩; have n0_ := Aside0.mk (Kd.N_below (by (with_reducible repeat (first | apply Kd.N_alloc | apply Kd.N_drewN | apply Kd.N_drew)); exact HO268.out) hb); have n1_ := Aside0.mk (Kd.N_below (by (with_reducible repeat (first | apply Kd.N_alloc | apply Kd.N_drewN | apply Kd.N_drew)); exact HO272.out) hb); have n2_ := Aside0.mk (blk_below (g := gb262) (o := .cells #[.int .u32 a0_0, .slice A0_1 l0_1.length c0_1, .string a0_2, .slice A0_3 l0_3.length c0_3, .slice A0_4 l0_4.length c0_4] 43 (0, 0)) (by (with_reducible repeat (first | refine blk_drewN ?_ _ | refine blk_drew ?_ | refine blk_alloc ?_ _)); exact BK262.out) hb); have n3_ := Aside0.mk (below_step (by repeat (first | (with_reducible first | exact HB.out | apply below_alloc | apply pw_below_drewN | apply below_drew1 | refine below_set ?_ GE262.out) | exact HB.out)) hb); clear HO268; clear HO272; clear BK262; clear HB; have HO268 := n0_; have HO272 := n1_; have BK262 := n2_; have HB := n3_; clear n0_ n1_ n2_ n3_; (try clear hb); (try clear hb2); (try clear hk); (try clear hi)))
                repeat (go_quiet (first | (go_at_call 43; (with_reducible refine (arboretref06_Most.calls kj1 a0_0 _ _ l0_1 a0_2 _ _ l0_3 _ _ l0_4 t276 _ ?side1 ?side2 ?side3 ?side4 ?side5 ?side6 A27.out).mono ?_); (case side1 => repeat (first | exact (Kd.C_below HR0_1.out HB.out) | (with_reducible refine Kd.C_alloc ?_ _) | (with_reducible refine Kd.C_drewN ?_ _) | (with_reducible refine Kd.C_drew ?_))); (case side2 => exact HC0_1.out); (case side3 => repeat (first | exact (Kd.C_below HR0_3.out HB.out) | (with_reducible refine Kd.C_alloc ?_ _) | (with_reducible refine Kd.C_drewN ?_ _) | (with_reducible refine Kd.C_drew ?_))); (case side4 => exact HC0_3.out); (case side5 => repeat (first | exact (Kd.C_below HR0_4.out HB.out) | (with_reducible refine Kd.C_alloc ?_ _) | (with_reducible refine Kd.C_drewN ?_ _) | (with_reducible refine Kd.C_drew ?_))); (case side6 => exact HC0_4.out); rintro e w31 ⟨rfl, hb⟩; have n0_ := Aside0.mk (Kd.N_below (by (with_reducible repeat (first | apply Kd.N_alloc | apply Kd.N_drewN | apply Kd.N_drew)); exact HO268.out) hb); have n1_ := Aside0.mk (Kd.N_below (by (with_reducible repeat (first | apply Kd.N_alloc | apply Kd.N_drewN | apply Kd.N_drew)); exact HO272.out) hb); have n2_ := Aside0.mk (blk_below (g := gb262) (o := .cells #[.int .u32 a0_0, .slice A0_1 l0_1.length c0_1, .string a0_2, .slice A0_3 l0_3.length c0_3, .slice A0_4 l0_4.length c0_4] 43 (0, 0)) (by (with_reducible repeat (first | refine blk_drewN ?_ _ | refine blk_drew ?_ | refine blk_alloc ?_ _)); exact BK262.out) hb); have n3_ := Aside0.mk (below_step (by repeat (first | (with_reducible first | exact HB.out | apply below_alloc | apply pw_below_drewN | apply below_drew1 | refine below_set ?_ GE262.out) | exact HB.out)) hb); clear HO268; clear HO272; clear BK262; clear HB; have HO268 := n0_; have HO272 := n1_; have BK262 := n2_; have HB := n3_; clear n0_ n1_ n2_ n3_; (try clear hb); (try clear hb2); (try clear hk); (try clear hi))); try go_wp2_with (first | (go_at_call 43; (with_reducible refine (arboretref06_Most.calls kj1 a0_0 _ _ l0_1 a0_2 _ _ l0_3 _ _ l0_4 t276 _ ?side1 ?side2 ?side3 ?side4 ?side5 ?side6 A27.out).mono ?_); (case side1 => repeat (first | exact (Kd.C_below HR0_1.out HB.out) | (with_reducible refine Kd.C_alloc ?_ _) | (with_reducible refine Kd.C_drewN ?_ _) | (with_reducible refine Kd.C_drew ?_))); (case side2 => exact HC0_1.out); (case side3 => repeat (first | exact (Kd.C_below HR0_3.out HB.out) | (with_reducible refine Kd.C_alloc ?_ _) | (with_reducible refine Kd.C_drewN ?_ _) | (with_reducible refine Kd.C_drew ?_))); (case side4 => exact HC0_3.out); (case side5 => repeat (first | exact (Kd.C_below HR0_4.out HB.out) | (with_reducible refine Kd.C_alloc ?_ _) | (with_reducible refine Kd.C_drewN ?_ _) | (with_reducible refine Kd.C_drew ?_))); (case side6 => exact HC0_4.out); rintro e w31 ⟨rfl, hb⟩; have n0_ := Aside0.mk (Kd.N_below (by (with_reducible repeat (first | apply Kd.N_alloc | apply Kd.N_drewN | apply Kd.N_drew)); exact HO268.out) hb); have n1_ := Aside0.mk (Kd.N_below (by (with_reducible repeat (first | apply Kd.N_alloc | apply Kd.N_drewN | apply Kd.N_drew)); exact HO272.out) hb); have n2_ := Aside0.mk (blk_below (g := gb262) (o := .cells #[.int .u32 a0_0, .slice A0_1 l0_1.length c0_1, .string a0_2, .slice A0_3 l0_3.length c0_3, .slice A0_4 l0_4.length c0_4] 43 (0, 0)) (by (with_reducible repeat (first | refine blk_drewN ?_ _ | refine blk_drew ?_ | refine blk_alloc ?_ _)); exact BK262.out) hb); have n3_ := Aside0.mk (below_step (by repeat (first | (with_reducible first | exact HB.out | apply below_alloc | apply pw_below_drewN | apply below_drew1 | refine below_set ?_ GE262.out) | exact HB.out)) hb); clear HO268; clear HO272; clear BK262; clear HB; have HO268 := n0_; have HO272 := n1_; have BK262 := n2_; have HB := n3_; clear n0_ n1_ n2_ n3_; (try clear hb); (try clear hb2); (try clear hk); (try clear hi))))
                go_meet
                case rel => exact ⟨_, ((t274 != t276)), (by first | rfl | (simp; done) | (simp [*]; done)), H', ⟨by have := HJ1.out; first | omega | exact Nat.le_refl _⟩, ⟨by (with_reducible repeat (first | apply Kd.N_alloc | apply Kd.N_drewN | apply Kd.N_drew)); exact Kd.N_mono HO268.out (fun _ hk => ⟨hk.2, hk.1⟩)⟩, ⟨by (with_reducible repeat (first | apply Kd.N_alloc | apply Kd.N_drewN | apply Kd.N_drew)); exact HO272.out⟩, ⟨by (with_reducible repeat (first | refine blk_drewN ?_ _ | refine blk_drew ?_ | refine blk_alloc ?_ _)); exact BK262.out⟩, ⟨by repeat (first | (with_reducible first | exact HB.out | apply below_alloc | apply pw_below_drewN | apply below_drew1 | refine below_set ?_ GE262.out) | exact HB.out)⟩⟩
              · rw [if_neg c26] at H
                have c26b0 : ((t266.length : Int) == (t270.length : Int)) = false := beq_eq_false_iff_ne.mpr c26
                have c26b1 : ((t266.length : Int) != (t270.length : Int)) = true := bne_iff_ne.mpr c26
                have c26b2 : (t266.length == t270.length) = false := by first | simpa using c26 | (simp at c26 ⊢; omega)
                have H' := Aside0.mk H
                clear H
                obtain ⟨Ao32, co32, eo32⟩ := Kd.N_slice HO268.out
                subst eo32
                obtain ⟨Ao33, co33, eo33⟩ := Kd.N_slice HO272.out
                subst eo33
                go_wp2
                repeat (go_quiet (fail); try go_wp2)
                go_meet
                case rel => exact ⟨_, (true), (by first | rfl | (simp; done) | (simp [*]; done)), H', ⟨by have := HJ1.out; first | omega | exact Nat.le_refl _⟩, ⟨by (with_reducible repeat (first | apply Kd.N_alloc | apply Kd.N_drewN | apply Kd.N_drew)); exact Kd.N_mono HO268.out (fun _ hk => ⟨hk.2, hk.1⟩)⟩, ⟨by (with_reducible repeat (first | apply Kd.N_alloc | apply Kd.N_drewN | apply Kd.N_drew)); exact HO272.out⟩, ⟨by (with_reducible repeat (first | refine blk_drewN ?_ _ | refine blk_drew ?_ | refine blk_alloc ?_ _)); exact BK262.out⟩, ⟨by repeat (first | (with_reducible first | exact HB.out | apply below_alloc | apply pw_below_drewN | apply below_drew1 | refine below_set ?_ GE262.out) | exact HB.out)⟩⟩
            · rw [if_neg c25] at H
              have c25b0 : (t275 == t273) = false := beq_eq_false_iff_ne.mpr c25
              have c25b1 : (t275 != t273) = true := bne_iff_ne.mpr c25
              have H' := Aside0.mk H
              clear H
              go_wp2
              repeat (go_quiet (fail); try go_wp2)
              go_meet
              case rel => exact ⟨_, (true), (by first | rfl | (simp; done) | (simp [*]; done)), H', ⟨by have := HJ1.out; first | omega | exact Nat.le_refl _⟩, ⟨by (with_reducible repeat (first | apply Kd.N_alloc | apply Kd.N_drewN | apply Kd.N_drew)); exact Kd.N_mono HO268.out (fun _ hk => ⟨hk.2, hk.1⟩)⟩, ⟨by (with_reducible repeat (first | apply Kd.N_alloc | apply Kd.N_drewN | apply Kd.N_drew)); exact HO272.out⟩, ⟨by (with_reducible repeat (first | refine blk_drewN ?_ _ | refine blk_drew ?_ | refine blk_alloc ?_ _)); exact BK262.out⟩, ⟨by repeat (first | (with_reducible first | exact HB.out | apply below_alloc | apply pw_below_drewN | apply below_drew1 | refine below_set ?_ GE262.out) | exact HB.out)⟩⟩
          · rw [if_neg c24] at H
            have c24b0 : (t269 == t273) = false := beq_eq_false_iff_ne.mpr c24
            have c24b1 : (t269 != t273) = true := bne_iff_ne.mpr c24
            (first | rw [c24b0] | (simp only [i64_w, i32_w]; rw [c24b0]) | skip)
            have H' := Aside0.mk H
            clear H
            go_wp2
            repeat (go_quiet (fail); try go_wp2)
            go_meet
            case rel => exact ⟨_, (true), (by first | rfl | (simp; done) | (simp [*]; done)), H', ⟨by have := HJ1.out; first | omega | exact Nat.le_refl _⟩, ⟨by (with_reducible repeat (first | apply Kd.N_alloc | apply Kd.N_drewN | apply Kd.N_drew)); exact Kd.N_mono HO268.out (fun _ hk => ⟨hk.2, hk.1⟩)⟩, ⟨by (with_reducible repeat (first | apply Kd.N_alloc | apply Kd.N_drewN | apply Kd.N_drew)); exact HO272.out⟩, ⟨by (with_reducible repeat (first | refine blk_drewN ?_ _ | refine blk_drew ?_ | refine blk_alloc ?_ _)); exact BK262.out⟩, ⟨by repeat (first | (with_reducible first | exact HB.out | apply below_alloc | apply pw_below_drewN | apply below_drew1 | refine below_set ?_ GE262.out) | exact HB.out)⟩⟩
        case rest =>
          clear HC17
          try clear c1
          try clear c2
          try clear p2
          try clear c5
          try clear c11
          try clear c12
          try clear c24
          try clear c24b0
          try clear c24b1
          try clear c25
          try clear c25b0
          try clear c25b1
          try clear c26
          try clear c26b0
          try clear c26b1
          try clear c26b2
          try clear hcz18_0
          try clear hcz18_1
          try clear hcz18_2
          try clear hcz18_3
          try clear hcz18_4
          try clear hcz20_0
          try clear hcz20_1
          try clear hcz20_2
          try clear hcz20_3
          try clear hcz20_4
          try clear hcz22_0
          try clear hcz22_1
          try clear hcz22_2
          try clear hcz22_3
          try clear hcz22_4
          try clear hcz30_0
          try clear hcz30_1
          try clear hcz30_2
          try clear hcz30_3
          try clear hcz30_4
          try clear hcz8_0
          try clear hcz8_1
          try clear hcz8_2
          try clear hcz8_3
          try clear hcz8_4
          try clear hfz18_0
          try clear hfz18_1
          try clear hfz18_2
          try clear hfz18_3
          try clear hfz18_4
          try clear hfz20_0
          try clear hfz20_1
          try clear hfz20_2
          try clear hfz20_3
          try clear hfz20_4
          try clear hfz22_0
          try clear hfz22_1
          try clear hfz22_2
          try clear hfz22_3
          try clear hfz22_4
          try clear hfz30_0
          try clear hfz30_1
          try clear hfz30_2
          try clear hfz30_3
          try clear hfz30_4
          try clear hfz8_0
          try clear hfz8_1
          try clear hfz8_2
          try clear hfz8_3
          try clear hfz8_4
          try clear p2
          obtain ⟨kq, x53_16, rfl, HA, HJ16, HO_3, HO_5, BK262, HB⟩ := hcut
          cases kq with
          | zero => exact absurd HA.out (by simp [arboretlaw08_HandleIndex.j1])
          | succ kj16 =>
            have H := HA.out
            clear HA
            simp only [arboretlaw08_HandleIndex.j1] at H
            by_cases c34 : x53_16 = true
            · subst c34
              have H1 : (some false) = some r := by rw [if_pos rfl] at H; exact H
              clear H
              have H := H1
              clear H1
              obtain rfl := Option.some.inj H
              go_wp2
              repeat (go_quiet (fail); try go_wp2)
              go_ret
              exact ⟨by first | rfl | (simp [errW_none, errW_some] <;> rfl) | (simp [*, errW_none, errW_some] <;> rfl), by repeat (first | (with_reducible first | exact HB.out | apply below_alloc | apply pw_below_drewN | apply below_drew1 | refine below_set ?_ GE262.out) | exact HB.out)⟩
            · replace c34 := Bool.eq_false_iff.mpr c34
              subst c34
              have H1 : (arboretlaw08_HandleIndex.l0 kj16 t266 t270 (t266.length : Int) 0) = some r := by rw [if_neg (show ¬ (false = true) by decide)] at H; exact H
              clear H
              have H := H1
              clear H1
              have H' := Aside0.mk H
              clear H
              obtain ⟨Ao35, co35, eo35⟩ := Kd.N_slice HO_3.out
              subst eo35
              go_wp2
              repeat (go_quiet (fail); try go_wp2)
              go_loopg [56] kj16 (fun kq v56 w' => ∃ (x56_3 : Int), v56 = .int .i64 x56_3 ∧ Aside0 (arboretlaw08_HandleIndex.l0 kq t266 t270 (t266.length : Int) x56_3 = some r) ∧ Aside0 (kq ≤ kj16) ∧ Aside0 (Kd.N k79 79 w' w.heap.size (fun k_ => some k_ ≠ (v271 : Value).ownBlock ∧ k_ ≠ gb262) (.slice Ao35 t266.length co35) t266) ∧ Aside0 (Kd.N k83 83 w' w.heap.size (fun k_ => some k_ ≠ ((.slice Ao35 t266.length co35) : Value).ownBlock ∧ k_ ≠ gb262) v271 t270) ∧ Aside0 (w'.heap[gb262]? = some (.cells #[.int .u32 a0_0, (.slice A0_1 l0_1.length c0_1), .string a0_2, (.slice A0_3 l0_3.length c0_3), (.slice A0_4 l0_4.length c0_4)] 43 (0, 0))) ∧ Aside0 (Below w.heap.size w w'))
              case atStart => exact ⟨(0), (by first | rfl | (simp; done) | (simp [*]; done)), H', ⟨Nat.le_refl _⟩, ⟨by (with_reducible repeat (first | apply Kd.N_alloc | apply Kd.N_drewN | apply Kd.N_drew)); exact HO_3.out⟩, ⟨by (with_reducible repeat (first | apply Kd.N_alloc | apply Kd.N_drewN | apply Kd.N_drew)); exact HO_5.out⟩, ⟨by (with_reducible repeat (first | refine blk_drewN ?_ _ | refine blk_drew ?_ | refine blk_alloc ?_ _)); exact BK262.out⟩, ⟨by repeat (first | (with_reducible first | exact HB.out | apply below_alloc | apply pw_below_drewN | apply below_drew1 | refine below_set ?_ GE262.out) | exact HB.out)⟩⟩
              case round =>
                clear H'
                try clear c1
                try clear c2
                try clear p2
                try clear c3
                try clear c5
                try clear c11
                try clear c12
                try clear c24
                try clear c24b0
                try clear c24b1
                try clear c25
                try clear c25b0
                try clear c25b1
                try clear c26
                try clear c26b0
                try clear c26b1
                try clear c26b2
                try clear c34
                try clear hcz18_0
                try clear hcz18_1
                try clear hcz18_2
                try clear hcz18_3
                try clear hcz18_4
                try clear hcz20_0
                try clear hcz20_1
                try clear hcz20_2
                try clear hcz20_3
                try clear hcz20_4
                try clear hcz22_0
                try clear hcz22_1
                try clear hcz22_2
                try clear hcz22_3
                try clear hcz22_4
                try clear hcz30_0
                try clear hcz30_1
                try clear hcz30_2
                try clear hcz30_3
                try clear hcz30_4
                try clear hcz8_0
                try clear hcz8_1
                try clear hcz8_2
                try clear hcz8_3
                try clear hcz8_4
                try clear hfz18_0
                try clear hfz18_1
                try clear hfz18_2
                try clear hfz18_3
                try clear hfz18_4
                try clear hfz20_0
                try clear hfz20_1
                try clear hfz20_2
                try clear hfz20_3
                try clear hfz20_4
                try clear hfz22_0
                try clear hfz22_1
                try clear hfz22_2
                try clear hfz22_3
                try clear hfz22_4
                try clear hfz30_0
                try clear hfz30_1
                try clear hfz30_2
                try clear hfz30_3
                try clear hfz30_4
                try clear hfz8_0
                try clear hfz8_1
                try clear hfz8_2
                try clear hfz8_3
                try clear hfz8_4
                try clear p2
                obtain ⟨x56_3, rfl, HA, HK3, HO_3, HO_5, BK262, HB⟩ := hrel
                cases gk with
                | zero => exact absurd HA.out (by simp [arboretlaw08_HandleIndex.l0])
                | succ k3 =>
                  have H := HA.out
                  clear HA
                  simp only [arboretlaw08_HandleIndex.l0] at H
                  by_cases c36 : x56_3 < (t266.length : Int)
                  · rw [if_pos c36] at H
                    have c36b0 : decide (x56_3 < (t266.length : Int)) = true := decide_eq_true c36
                    clear c36
                    by_cases c37 : 0 ≤ x56_3
                    · rw [if_pos c37] at H
                      have c37b0 : decide (0 ≤ x56_3) = true := decide_eq_true c37
                      clear c37
                      by_cases c38 : x56_3 < (t266.length : Int)
                      · rw [if_pos c38] at H
                        have c38b0 : decide (x56_3 < (t266.length : Int)) = true := decide_eq_true c38
                        clear c38
                        by_cases c39 : x56_3 < (t270.length : Int)
                        · rw [if_pos c39] at H
                          have c39b0 : decide (x56_3 < (t270.length : Int)) = true := decide_eq_true c39
                          clear c39
                          by_cases c40 : ((rd_T79 t266 x56_3).f0) = ((rd_T83 t270 x56_3).f0)
                          · rw [if_pos c40] at H
                            have c40b0 : (((rd_T79 t266 x56_3).f0) == ((rd_T83 t270 x56_3).f0)) = true := beq_iff_eq.mpr c40
                            have c40b1 : (((rd_T79 t266 x56_3).f0) != ((rd_T83 t270 x56_3).f0)) = false := bne_eq_false_iff_eq.mpr c40
                            clear c40
                            replace H := Option.bind_eq_some_iff.mp H
                            obtain ⟨t281, A410, H⟩ := H
                            replace H : (if t281 = true then (arboretlaw08_HandleIndex.l0 k3 t266 t270 (t266.length : Int) (wrap64 (x56_3 + 1))) else (some false)) = some r := H
                            have A41 := Aside0.mk A410
                            clear A410
                            by_cases c42 : t281 = true
                            · subst c42
                              have H1 : (arboretlaw08_HandleIndex.l0 k3 t266 t270 (t266.length : Int) (wrap64 (x56_3 + 1))) = some r := by rw [if_pos rfl] at H; exact H
                              clear H
                              have H := H1
                              clear H1
                              have H' := Aside0.mk H
                              clear H
                              have p277 : 0 ≤ (x56_3 : Int) := of_decide_eq_true (by first | (with_reducible assumption) | assumption)
                              have q277 : x56_3 < (t266.length : Int) := of_decide_eq_true (by first | (with_reducible assumption) | assumption)
                              obtain ⟨ad277, A277_1, c277_1, e277, hx277_0, hx277_1, hl277_1, hi277_1⟩ := at_T79 (Kd.N_reads' HO_3.out).2.2 x56_3 p277 q277
                              cases e277
                              obtain ⟨ce277, hce277, hMe277, hcc277⟩ := Kd.N_get HO_3.out z79 x56_3 p277 (by first | exact q277 | exact of_decide_eq_true (by first | (with_reducible assumption) | assumption) | (have e_ := (Kd.N_reads' HO_3.out).1; omega))
                              obtain ⟨ua277_1, uc277_1, rfl, ul277_1, ge277_1⟩ := k79_openF hMe277
                              have hv277_1 := hcc277 1 _ rfl
                              rw [add_field _ _ 1 (by omega)] at hv277_1
                              replace hv277_1 := Option.some.inj (hv277_1.symm.trans hx277_1)
                              injection hv277_1 with hva_ hvn_ hvc_
                              rw [hva_] at ge277_1
                              rw [hvc_] at ul277_1
                              have HL277_1 := Aside0.mk (show Kd.V (Kd.int .i64) 3 _ w.heap.size _ _ ((rd_T79 t266 x56_3).f1) from Kd.V_mk ul277_1 ge277_1)
                              clear hva_ hvn_ hvc_ ge277_1 ul277_1
                              clear hcc277 hce277
                              have HR277_1 := Aside0.mk hi277_1
                              have HC277_1 := Aside0.mk hl277_1
                              clear hi277_1 hl277_1
                              replace p277 := eq_true p277
                              replace q277 := eq_true q277
                              obtain ⟨Ao43, co43, eo43⟩ := Kd.N_slice HO_5.out
                              subst eo43
                              have p278 : 0 ≤ (x56_3 : Int) := of_decide_eq_true (by first | (with_reducible assumption) | assumption)
                              have q278 : x56_3 < (t270.length : Int) := of_decide_eq_true (by first | (with_reducible assumption) | assumption)
                              obtain ⟨ad278, A278_1, c278_1, e278, hx278_0, hx278_1, hl278_1, hi278_1⟩ := at_T83 (Kd.N_reads' HO_5.out).2.2 x56_3 p278 q278
                              cases e278
                              obtain ⟨ce278, hce278, hMe278, hcc278⟩ := Kd.N_get HO_5.out z83 x56_3 p278 (by first | exact q278 | exact of_decide_eq_true (by first | (with_reducible assumption) | assumption) | (have e_ := (Kd.N_reads' HO_5.out).1; omega))
                              obtain ⟨ua278_1, uc278_1, rfl, ul278_1, ge278_1⟩ := k83_openF hMe278
                              have hv278_1 := hcc278 1 _ rfl
                              rw [add_field _ _ 1 (by omega)] at hv278_1
                              replace hv278_1 := Option.some.inj (hv278_1.symm.trans hx278_1)
                              injection hv278_1 with hva_ hvn_ hvc_
                              rw [hva_] at ge278_1
                              rw [hvc_] at ul278_1
                              have HL278_1 := Aside0.mk (show Kd.V (Kd.int .i64) 3 _ w.heap.size _ _ ((rd_T83 t270 x56_3).f1) from Kd.V_mk ul278_1 ge278_1)
                              clear hva_ hvn_ hvc_ ge278_1 ul278_1
                              clear hcc278 hce278
                              have HR278_1 := Aside0.mk hi278_1
                              have HC278_1 := Aside0.mk hl278_1
                              clear hi278_1 hl278_1
                              replace p278 := eq_true p278
                              replace q278 := eq_true q278
                              have p279 : 0 ≤ (x56_3 : Int) := of_decide_eq_true (by first | (with_reducible assumption) | assumption)
                              have q279 : x56_3 < (t266.length : Int) := of_decide_eq_true (by first | (with_reducible assumption) | assumption)
                              obtain ⟨ad279, A279_1, c279_1, e279, hx279_0, hx279_1, hl279_1, hi279_1⟩ := at_T79 (Kd.N_reads' HO_3.out).2.2 x56_3 p279 q279
                              obtain rfl : ad277 = ad279 := (by injection e279)
                              obtain ⟨ce279, hce279, hMe279, hcc279⟩ := Kd.N_get HO_3.out z79 x56_3 p279 (by first | exact q279 | exact of_decide_eq_true (by first | (with_reducible assumption) | assumption) | (have e_ := (Kd.N_reads' HO_3.out).1; omega))
                              obtain ⟨ua279_1, uc279_1, rfl, ul279_1, ge279_1⟩ := k79_openF hMe279
                              have hv279_1 := hcc279 1 _ rfl
                              rw [add_field _ _ 1 (by omega)] at hv279_1
                              replace hv279_1 := Option.some.inj (hv279_1.symm.trans hx279_1)
                              injection hv279_1 with hva_ hvn_ hvc_
                              rw [hva_] at ge279_1
                              rw [hvc_] at ul279_1
                              have HL279_1 := Aside0.mk (show Kd.V (Kd.int .i64) 3 _ w.heap.size _ _ ((rd_T79 t266 x56_3).f1) from Kd.V_mk ul279_1 ge279_1)
                              clear hva_ hvn_ hvc_ ge279_1 ul279_1
                              clear hcc279 hce279
                              have HR279_1 := Aside0.mk hi279_1
                              have HC279_1 := Aside0.mk hl279_1
                              clear hi279_1 hl279_1
                              replace p279 := eq_true p279
                              replace q279 := eq_true q279
                              have ea_ := Option.some.inj (hx277_1.symm.trans hx279_1)
                              injection ea_ with ea_ en_ ec_
                              subst ea_
                              subst ec_
                              clear en_
                              have p280 : 0 ≤ (x56_3 : Int) := of_decide_eq_true (by first | (with_reducible assumption) | assumption)
                              have q280 : x56_3 < (t270.length : Int) := of_decide_eq_true (by first | (with_reducible assumption) | assumption)
                              obtain ⟨ad280, A280_1, c280_1, e280, hx280_0, hx280_1, hl280_1, hi280_1⟩ := at_T83 (Kd.N_reads' HO_5.out).2.2 x56_3 p280 q280
                              obtain rfl : ad278 = ad280 := (by injection e280)
                              obtain ⟨ce280, hce280, hMe280, hcc280⟩ := Kd.N_get HO_5.out z83 x56_3 p280 (by first | exact q280 | exact of_decide_eq_true (by first | (with_reducible assumption) | assumption) | (have e_ := (Kd.N_reads' HO_5.out).1; omega))
                              obtain ⟨ua280_1, uc280_1, rfl, ul280_1, ge280_1⟩ := k83_openF hMe280
                              have hv280_1 := hcc280 1 _ rfl
                              rw [add_field _ _ 1 (by omega)] at hv280_1
                              replace hv280_1 := Option.some.inj (hv280_1.symm.trans hx280_1)
                              injection hv280_1 with hva_ hvn_ hvc_
                              rw [hva_] at ge280_1
                              rw [hvc_] at ul280_1
                              have HL280_1 := Aside0.mk (show Kd.V (Kd.int .i64) 3 _ w.heap.size _ _ ((rd_T83 t270 x56_3).f1) from Kd.V_mk ul280_1 ge280_1)
                              clear hva_ hvn_ hvc_ ge280_1 ul280_1
                              clear hcc280 hce280
                              have HR280_1 := Aside0.mk hi280_1
                              have HC280_1 := Aside0.mk hl280_1
                              clear hi280_1 hl280_1
                              replace p280 := eq_true p280
                              replace q280 := eq_true q280
                              have ea_ := Option.some.inj (hx278_1.symm.trans hx280_1)
                              injection ea_ with ea_ en_ ec_
                              subst ea_
                              subst ec_
                              clear en_
                              go_wp2_with (first | (go_at_call 40; (with_reducible refine (arboretref12_Equal.calls k3 _ _ ((rd_T79 t266 x56_3).f1) _ _ ((rd_T83 t270 x56_3).f1) true _ ?side1 ?side2 ?side3 ?side4 A41.out).mono ?_); (case side1 => repeat (first | exact (by repeat (first | (with_reducible exact HR279_1.out) | (with_reducible refine Kd.C_alloc ?_ _) | (with_reducible refine Kd.C_drewN ?_ _) | (with_reducible refine Kd.C_drew ?_) | exact HR279_1.out)) | (with_reducible refine Kd.C_alloc ?_ _) | (with_reducible refine Kd.C_drewN ?_ _) | (with_reducible refine Kd.C_drew ?_))); (case side2 => exact HC279_1.out); (case side3 => repeat (first | exact (by repeat (first | (with_reducible exact HR280_1.out) | (with_reducible refine Kd.C_alloc ?_ _) | (with_reducible refine Kd.C_drewN ?_ _) | (with_reducible refine Kd.C_drew ?_) | exact HR280_1.out)) | (with_reducible refine Kd.C_alloc ?_ _) | (with_reducible refine Kd.C_drewN ?_ _) | (with_reducible refine Kd.C_drew ?_))); (case side4 => exact HC280_1.out); rintro e w' ⟨rfl, ⟨nd, rfl⟩⟩; (try first | exact ⟨rfl, _, World.drewN_drewN _ _ _⟩ | exact ⟨rfl, _, Eq.trans (World.drewN_drewN _ _ _) (congrArg (World.drewN _) (Nat.add_assoc _ _ _))⟩)))
                              repeat (go_quiet (first | (go_at_call 40; (with_reducible refine (arboretref12_Equal.calls k3 _ _ ((rd_T79 t266 x56_3).f1) _ _ ((rd_T83 t270 x56_3).f1) true _ ?side1 ?side2 ?side3 ?side4 A41.out).mono ?_); (case side1 => repeat (first | exact (by repeat (first | (with_reducible exact HR279_1.out) | (with_reducible refine Kd.C_alloc ?_ _) | (with_reducible refine Kd.C_drewN ?_ _) | (with_reducible refine Kd.C_drew ?_) | exact HR279_1.out)) | (with_reducible refine Kd.C_alloc ?_ _) | (with_reducible refine Kd.C_drewN ?_ _) | (with_reducible refine Kd.C_drew ?_))); (case side2 => exact HC279_1.out); (case side3 => repeat (first | exact (by repeat (first | (with_reducible exact HR280_1.out) | (with_reducible refine Kd.C_alloc ?_ _) | (with_reducible refine Kd.C_drewN ?_ _) | (with_reducible refine Kd.C_drew ?_) | exact HR280_1.out)) | (with_reducible refine Kd.C_alloc ?_ _) | (with_reducible refine Kd.C_drewN ?_ _) | (with_reducible refine Kd.C_drew ?_))); (case side4 => exact HC280_1.out); rintro e w' ⟨rfl, ⟨nd, rfl⟩⟩; (try first | exact ⟨rfl, _, World.drewN_drewN _ _ _⟩ | exact ⟨rfl, _, Eq.trans (World.drewN_drewN _ _ _) (congrArg (World.drewN _) (Nat.add_assoc _ _ _))⟩))); try go_wp2_with (first | (go_at_call 40; (with_reducible refine (arboretref12_Equal.calls k3 _ _ ((rd_T79 t266 x56_3).f1) _ _ ((rd_T83 t270 x56_3).f1) true _ ?side1 ?side2 ?side3 ?side4 A41.out).mono ?_); (case side1 => repeat (first | exact (by repeat (first | (with_reducible exact HR279_1.out) | (with_reducible refine Kd.C_alloc ?_ _) | (with_reducible refine Kd.C_drewN ?_ _) | (with_reducible refine Kd.C_drew ?_) | exact HR279_1.out)) | (with_reducible refine Kd.C_alloc ?_ _) | (with_reducible refine Kd.C_drewN ?_ _) | (with_reducible refine Kd.C_drew ?_))); (case side2 => exact HC279_1.out); (case side3 => repeat (first | exact (by repeat (first | (with_reducible exact HR280_1.out) | (with_reducible refine Kd.C_alloc ?_ _) | (with_reducible refine Kd.C_drewN ?_ _) | (with_reducible refine Kd.C_drew ?_) | exact HR280_1.out)) | (with_reducible refine Kd.C_alloc ?_ _) | (with_reducible refine Kd.C_drewN ?_ _) | (with_reducible refine Kd.C_drew ?_))); (case side4 => exact HC280_1.out); rintro e w' ⟨rfl, ⟨nd, rfl⟩⟩; (try first | exact ⟨rfl, _, World.drewN_drewN _ _ _⟩ | exact ⟨rfl, _, Eq.trans (World.drewN_drewN _ _ _) (congrArg (World.drewN _) (Nat.add_assoc _ _ _))⟩))))
                              go_roundg k3
                              case measure => have := HJ1.out; have := HJ16.out; have := HK3.out; omega
                              case rel => exact ⟨(wrap64 (x56_3 + 1)), (by first | rfl | (simp; done) | (simp [*]; done)), H', ⟨by have := HJ1.out; have := HJ16.out; have := HK3.out; omega⟩, ⟨by (with_reducible repeat (first | apply Kd.N_alloc | apply Kd.N_drewN | apply Kd.N_drew)); exact HO_3.out⟩, ⟨by (with_reducible repeat (first | apply Kd.N_alloc | apply Kd.N_drewN | apply Kd.N_drew)); exact HO_5.out⟩, ⟨by (with_reducible repeat (first | refine blk_drewN ?_ _ | refine blk_drew ?_ | refine blk_alloc ?_ _)); exact BK262.out⟩, ⟨by repeat (first | (with_reducible first | exact HB.out | apply below_alloc | apply pw_below_drewN | apply below_drew1 | refine below_set ?_ GE262.out) | exact HB.out)⟩⟩
                            · replace c42 := Bool.eq_false_iff.mpr c42
                              subst c42
                              have H1 : (some false) = some r := by rw [if_neg (show ¬ (false = true) by decide)] at H; exact H
                              clear H
                              have H := H1
                              clear H1
                              obtain rfl := Option.some.inj H
                              have p277 : 0 ≤ (x56_3 : Int) := of_decide_eq_true (by first | (with_reducible assumption) | assumption)
                              have q277 : x56_3 < (t266.length : Int) := of_decide_eq_true (by first | (with_reducible assumption) | assumption)
                              obtain ⟨ad277, A277_1, c277_1, e277, hx277_0, hx277_1, hl277_1, hi277_1⟩ := at_T79 (Kd.N_reads' HO_3.out).2.2 x56_3 p277 q277
                              cases e277
                              obtain ⟨ce277, hce277, hMe277, hcc277⟩ := Kd.N_get HO_3.out z79 x56_3 p277 (by first | exact q277 | exact of_decide_eq_true (by first | (with_reducible assumption) | assumption) | (have e_ := (Kd.N_reads' HO_3.out).1; omega))
                              obtain ⟨ua277_1, uc277_1, rfl, ul277_1, ge277_1⟩ := k79_openF hMe277
                              have hv277_1 := hcc277 1 _ rfl
                              rw [add_field _ _ 1 (by omega)] at hv277_1
                              replace hv277_1 := Option.some.inj (hv277_1.symm.trans hx277_1)
                              injection hv277_1 with hva_ hvn_ hvc_
                              rw [hva_] at ge277_1
                              rw [hvc_] at ul277_1
                              have HL277_1 := Aside0.mk (show Kd.V (Kd.int .i64) 3 _ w.heap.size _ _ ((rd_T79 t266 x56_3).f1) from Kd.V_mk ul277_1 ge277_1)
                              clear hva_ hvn_ hvc_ ge277_1 ul277_1
                              clear hcc277 hce277
                              have HR277_1 := Aside0.mk hi277_1
                              have HC277_1 := Aside0.mk hl277_1
                              clear hi277_1 hl277_1
                              replace p277 := eq_true p277
                              replace q277 := eq_true q277
                              obtain ⟨Ao44, co44, eo44⟩ := Kd.N_slice HO_5.out
                              subst eo44
                              have p278 : 0 ≤ (x56_3 : Int) := of_decide_eq_true (by first | (with_reducible assumption) | assumption)
                              have q278 : x56_3 < (t270.length : Int) := of_decide_eq_true (by first | (with_reducible assumption) | assumption)
                              obtain ⟨ad278, A278_1, c278_1, e278, hx278_0, hx278_1, hl278_1, hi278_1⟩ := at_T83 (Kd.N_reads' HO_5.out).2.2 x56_3 p278 q278
                              cases e278
                              obtain ⟨ce278, hce278, hMe278, hcc278⟩ := Kd.N_get HO_5.out z83 x56_3 p278 (by first | exact q278 | exact of_decide_eq_true (by first | (with_reducible assumption) | assumption) | (have e_ := (Kd.N_reads' HO_5.out).1; omega))
                              obtain ⟨ua278_1, uc278_1, rfl, ul278_1, ge278_1⟩ := k83_openF hMe278
                              have hv278_1 := hcc278 1 _ rfl
                              rw [add_field _ _ 1 (by omega)] at hv278_1
                              replace hv278_1 := Option.some.inj (hv278_1.symm.trans hx278_1)
                              injection hv278_1 with hva_ hvn_ hvc_
                              rw [hva_] at ge278_1
                              rw [hvc_] at ul278_1
                              have HL278_1 := Aside0.mk (show Kd.V (Kd.int .i64) 3 _ w.heap.size _ _ ((rd_T83 t270 x56_3).f1) from Kd.V_mk ul278_1 ge278_1)
                              clear hva_ hvn_ hvc_ ge278_1 ul278_1
                              clear hcc278 hce278
                              have HR278_1 := Aside0.mk hi278_1
                              have HC278_1 := Aside0.mk hl278_1
                              clear hi278_1 hl278_1
                              replace p278 := eq_true p278
                              replace q278 := eq_true q278
                              have p279 : 0 ≤ (x56_3 : Int) := of_decide_eq_true (by first | (with_reducible assumption) | assumption)
                              have q279 : x56_3 < (t266.length : Int) := of_decide_eq_true (by first | (with_reducible assumption) | assumption)
                              obtain ⟨ad279, A279_1, c279_1, e279, hx279_0, hx279_1, hl279_1, hi279_1⟩ := at_T79 (Kd.N_reads' HO_3.out).2.2 x56_3 p279 q279
                              obtain rfl : ad277 = ad279 := (by injection e279)
                              obtain ⟨ce279, hce279, hMe279, hcc279⟩ := Kd.N_get HO_3.out z79 x56_3 p279 (by first | exact q279 | exact of_decide_eq_true (by first | (with_reducible assumption) | assumption) | (have e_ := (Kd.N_reads' HO_3.out).1; omega))
                              obtain ⟨ua279_1, uc279_1, rfl, ul279_1, ge279_1⟩ := k79_openF hMe279
                              have hv279_1 := hcc279 1 _ rfl
                              rw [add_field _ _ 1 (by omega)] at hv279_1
                              replace hv279_1 := Option.some.inj (hv279_1.symm.trans hx279_1)
                              injection hv279_1 with hva_ hvn_ hvc_
                              rw [hva_] at ge279_1
                              rw [hvc_] at ul279_1
                              have HL279_1 := Aside0.mk (show Kd.V (Kd.int .i64) 3 _ w.heap.size _ _ ((rd_T79 t266 x56_3).f1) from Kd.V_mk ul279_1 ge279_1)
                              clear hva_ hvn_ hvc_ ge279_1 ul279_1
                              clear hcc279 hce279
                              have HR279_1 := Aside0.mk hi279_1
                              have HC279_1 := Aside0.mk hl279_1
                              clear hi279_1 hl279_1
                              replace p279 := eq_true p279
                              replace q279 := eq_true q279
                              have ea_ := Option.some.inj (hx277_1.symm.trans hx279_1)
                              injection ea_ with ea_ en_ ec_
                              subst ea_
                              subst ec_
                              clear en_
                              have p280 : 0 ≤ (x56_3 : Int) := of_decide_eq_true (by first | (with_reducible assumption) | assumption)
                              have q280 : x56_3 < (t270.length : Int) := of_decide_eq_true (by first | (with_reducible assumption) | assumption)
                              obtain ⟨ad280, A280_1, c280_1, e280, hx280_0, hx280_1, hl280_1, hi280_1⟩ := at_T83 (Kd.N_reads' HO_5.out).2.2 x56_3 p280 q280
                              obtain rfl : ad278 = ad280 := (by injection e280)
                              obtain ⟨ce280, hce280, hMe280, hcc280⟩ := Kd.N_get HO_5.out z83 x56_3 p280 (by first | exact q280 | exact of_decide_eq_true (by first | (with_reducible assumption) | assumption) | (have e_ := (Kd.N_reads' HO_5.out).1; omega))
                              obtain ⟨ua280_1, uc280_1, rfl, ul280_1, ge280_1⟩ := k83_openF hMe280
                              have hv280_1 := hcc280 1 _ rfl
                              rw [add_field _ _ 1 (by omega)] at hv280_1
                              replace hv280_1 := Option.some.inj (hv280_1.symm.trans hx280_1)
                              injection hv280_1 with hva_ hvn_ hvc_
                              rw [hva_] at ge280_1
                              rw [hvc_] at ul280_1
                              have HL280_1 := Aside0.mk (show Kd.V (Kd.int .i64) 3 _ w.heap.size _ _ ((rd_T83 t270 x56_3).f1) from Kd.V_mk ul280_1 ge280_1)
                              clear hva_ hvn_ hvc_ ge280_1 ul280_1
                              clear hcc280 hce280
                              have HR280_1 := Aside0.mk hi280_1
                              have HC280_1 := Aside0.mk hl280_1
                              clear hi280_1 hl280_1
                              replace p280 := eq_true p280
                              replace q280 := eq_true q280
                              have ea_ := Option.some.inj (hx278_1.symm.trans hx280_1)
                              injection ea_ with ea_ en_ ec_
                              subst ea_
                              subst ec_
                              clear en_
                              go_wp2_with (first | (go_at_call 40; (with_reducible refine (arboretref12_Equal.calls k3 _ _ ((rd_T79 t266 x56_3).f1) _ _ ((rd_T83 t270 x56_3).f1) false _ ?side1 ?side2 ?side3 ?side4 A41.out).mono ?_); (case side1 => repeat (first | exact (by repeat (first | (with_reducible exact HR279_1.out) | (with_reducible refine Kd.C_alloc ?_ _) | (with_reducible refine Kd.C_drewN ?_ _) | (with_reducible refine Kd.C_drew ?_) | exact HR279_1.out)) | (with_reducible refine Kd.C_alloc ?_ _) | (with_reducible refine Kd.C_drewN ?_ _) | (with_reducible refine Kd.C_drew ?_))); (case side2 => exact HC279_1.out); (case side3 => repeat (first | exact (by repeat (first | (with_reducible exact HR280_1.out) | (with_reducible refine Kd.C_alloc ?_ _) | (with_reducible refine Kd.C_drewN ?_ _) | (with_reducible refine Kd.C_drew ?_) | exact HR280_1.out)) | (with_reducible refine Kd.C_alloc ?_ _) | (with_reducible refine Kd.C_drewN ?_ _) | (with_reducible refine Kd.C_drew ?_))); (case side4 => exact HC280_1.out); rintro e w' ⟨rfl, ⟨nd, rfl⟩⟩; (try first | exact ⟨rfl, _, World.drewN_drewN _ _ _⟩ | exact ⟨rfl, _, Eq.trans (World.drewN_drewN _ _ _) (congrArg (World.drewN _) (Nat.add_assoc _ _ _))⟩)))
                              repeat (go_quiet (first | (go_at_call 40; (with_reducible refine (arboretref12_Equal.calls k3 _ _ ((rd_T79 t266 x56_3).f1) _ _ ((rd_T83 t270 x56_3).f1) false _ ?side1 ?side2 ?side3 ?side4 A41.out).mono ?_); (case side1 => repeat (first | exact (by repeat (first | (with_reducible exact HR279_1.out) | (with_reducible refine Kd.C_alloc ?_ _) | (with_reducible refine Kd.C_drewN ?_ _) | (with_reducible refine Kd.C_drew ?_) | exact HR279_1.out)) | (with_reducible refine Kd.C_alloc ?_ _) | (with_reducible refine Kd.C_drewN ?_ _) | (with_reducible refine Kd.C_drew ?_))); (case side2 => exact HC279_1.out); (case side3 => repeat (first | exact (by repeat (first | (with_reducible exact HR280_1.out) | (with_reducible refine Kd.C_alloc ?_ _) | (with_reducible refine Kd.C_drewN ?_ _) | (with_reducible refine Kd.C_drew ?_) | exact HR280_1.out)) | (with_reducible refine Kd.C_alloc ?_ _) | (with_reducible refine Kd.C_drewN ?_ _) | (with_reducible refine Kd.C_drew ?_))); (case side4 => exact HC280_1.out); rintro e w' ⟨rfl, ⟨nd, rfl⟩⟩; (try first | exact ⟨rfl, _, World.drewN_drewN _ _ _⟩ | exact ⟨rfl, _, Eq.trans (World.drewN_drewN _ _ _) (congrArg (World.drewN _) (Nat.add_assoc _ _ _))⟩))); try go_wp2_with (first | (go_at_call 40; (with_reducible refine (arboretref12_Equal.calls k3 _ _ ((rd_T79 t266 x56_3).f1) _ _ ((rd_T83 t270 x56_3).f1) false _ ?side1 ?side2 ?side3 ?side4 A41.out).mono ?_); (case side1 => repeat (first | exact (by repeat (first | (with_reducible exact HR279_1.out) | (with_reducible refine Kd.C_alloc ?_ _) | (with_reducible refine Kd.C_drewN ?_ _) | (with_reducible refine Kd.C_drew ?_) | exact HR279_1.out)) | (with_reducible refine Kd.C_alloc ?_ _) | (with_reducible refine Kd.C_drewN ?_ _) | (with_reducible refine Kd.C_drew ?_))); (case side2 => exact HC279_1.out); (case side3 => repeat (first | exact (by repeat (first | (with_reducible exact HR280_1.out) | (with_reducible refine Kd.C_alloc ?_ _) | (with_reducible refine Kd.C_drewN ?_ _) | (with_reducible refine Kd.C_drew ?_) | exact HR280_1.out)) | (with_reducible refine Kd.C_alloc ?_ _) | (with_reducible refine Kd.C_drewN ?_ _) | (with_reducible refine Kd.C_drew ?_))); (case side4 => exact HC280_1.out); rintro e w' ⟨rfl, ⟨nd, rfl⟩⟩; (try first | exact ⟨rfl, _, World.drewN_drewN _ _ _⟩ | exact ⟨rfl, _, Eq.trans (World.drewN_drewN _ _ _) (congrArg (World.drewN _) (Nat.add_assoc _ _ _))⟩))))
                              go_ret
                              exact ⟨by first | rfl | (simp [errW_none, errW_some] <;> rfl) | (simp [*, errW_none, errW_some] <;> rfl), by repeat (first | (with_reducible first | exact HB.out | apply below_alloc | apply pw_below_drewN | apply below_drew1 | refine below_set ?_ GE262.out) | exact HB.out)⟩
                          · rw [if_neg c40] at H
                            have c40b0 : (((rd_T79 t266 x56_3).f0) == ((rd_T83 t270 x56_3).f0)) = false := beq_eq_false_iff_ne.mpr c40
                            have c40b1 : (((rd_T79 t266 x56_3).f0) != ((rd_T83 t270 x56_3).f0)) = true := bne_iff_ne.mpr c40
                            obtain rfl := Option.some.inj H
                            have p277 : 0 ≤ (x56_3 : Int) := of_decide_eq_true (by first | (with_reducible assumption) | assumption)
                            have q277 : x56_3 < (t266.length : Int) := of_decide_eq_true (by first | (with_reducible assumption) | assumption)
                            obtain ⟨ad277, A277_1, c277_1, e277, hx277_0, hx277_1, hl277_1, hi277_1⟩ := at_T79 (Kd.N_reads' HO_3.out).2.2 x56_3 p277 q277
                            cases e277
                            obtain ⟨ce277, hce277, hMe277, hcc277⟩ := Kd.N_get HO_3.out z79 x56_3 p277 (by first | exact q277 | exact of_decide_eq_true (by first | (with_reducible assumption) | assumption) | (have e_ := (Kd.N_reads' HO_3.out).1; omega))
                            obtain ⟨ua277_1, uc277_1, rfl, ul277_1, ge277_1⟩ := k79_openF hMe277
                            have hv277_1 := hcc277 1 _ rfl
                            rw [add_field _ _ 1 (by omega)] at hv277_1
                            replace hv277_1 := Option.some.inj (hv277_1.symm.trans hx277_1)
                            injection hv277_1 with hva_ hvn_ hvc_
                            rw [hva_] at ge277_1
                            rw [hvc_] at ul277_1
                            have HL277_1 := Aside0.mk (show Kd.V (Kd.int .i64) 3 _ w.heap.size _ _ ((rd_T79 t266 x56_3).f1) from Kd.V_mk ul277_1 ge277_1)
                            clear hva_ hvn_ hvc_ ge277_1 ul277_1
                            clear hcc277 hce277
                            have HR277_1 := Aside0.mk hi277_1
                            have HC277_1 := Aside0.mk hl277_1
                            clear hi277_1 hl277_1
                            replace p277 := eq_true p277
                            replace q277 := eq_true q277
                            obtain ⟨Ao45, co45, eo45⟩ := Kd.N_slice HO_5.out
                            subst eo45
                            have p278 : 0 ≤ (x56_3 : Int) := of_decide_eq_true (by first | (with_reducible assumption) | assumption)
                            have q278 : x56_3 < (t270.length : Int) := of_decide_eq_true (by first | (with_reducible assumption) | assumption)
                            obtain ⟨ad278, A278_1, c278_1, e278, hx278_0, hx278_1, hl278_1, hi278_1⟩ := at_T83 (Kd.N_reads' HO_5.out).2.2 x56_3 p278 q278
                            cases e278
                            obtain ⟨ce278, hce278, hMe278, hcc278⟩ := Kd.N_get HO_5.out z83 x56_3 p278 (by first | exact q278 | exact of_decide_eq_true (by first | (with_reducible assumption) | assumption) | (have e_ := (Kd.N_reads' HO_5.out).1; omega))
                            obtain ⟨ua278_1, uc278_1, rfl, ul278_1, ge278_1⟩ := k83_openF hMe278
                            have hv278_1 := hcc278 1 _ rfl
                            rw [add_field _ _ 1 (by omega)] at hv278_1
                            replace hv278_1 := Option.some.inj (hv278_1.symm.trans hx278_1)
                            injection hv278_1 with hva_ hvn_ hvc_
                            rw [hva_] at ge278_1
                            rw [hvc_] at ul278_1
                            have HL278_1 := Aside0.mk (show Kd.V (Kd.int .i64) 3 _ w.heap.size _ _ ((rd_T83 t270 x56_3).f1) from Kd.V_mk ul278_1 ge278_1)
                            clear hva_ hvn_ hvc_ ge278_1 ul278_1
                            clear hcc278 hce278
                            have HR278_1 := Aside0.mk hi278_1
                            have HC278_1 := Aside0.mk hl278_1
                            clear hi278_1 hl278_1
                            replace p278 := eq_true p278
                            replace q278 := eq_true q278
                            go_wp2
                            repeat (go_quiet (fail); try go_wp2)
                            go_ret
                            exact ⟨by first | rfl | (simp [errW_none, errW_some] <;> rfl) | (simp [*, errW_none, errW_some] <;> rfl), by repeat (first | (with_reducible first | exact HB.out | apply below_alloc | apply pw_below_drewN | apply below_drew1 | refine below_set ?_ GE262.out) | exact HB.out)⟩
                        · rw [if_neg c39] at H
                          exact absurd H (by simp)
                      · rw [if_neg c38] at H
                        exact absurd H (by simp)
                    · rw [if_neg c37] at H
                      exact absurd H (by simp)
                  · rw [if_neg c36] at H
                    have c36b0 : decide (x56_3 < (t266.length : Int)) = false := decide_eq_false c36
                    clear c36
                    obtain rfl := Option.some.inj H
                    go_wp2
                    repeat (go_quiet (fail); try go_wp2)
                    go_ret
                    exact ⟨by first | rfl | (simp [errW_none, errW_some] <;> rfl) | (simp [*, errW_none, errW_some] <;> rfl), by repeat (first | (with_reducible first | exact HB.out | apply below_alloc | apply pw_below_drewN | apply below_drew1 | refine below_set ?_ GE262.out) | exact HB.out)⟩
end Go.Proofs.Yteejaaeglfpcmaa.PH

set_option linter.unusedVariables false
namespace Go.Proofs.Yteejaaeglfpcmaa.Rdr
open Go.RowKit Go.Proofs.YteejaaeglfpcmaaW.PrintWords Go.ChangeShapes Go.WideShapes
def sumB {α : Type} (B : α → Nat) : List α → Nat
  | [] => 0
  | x :: r => B x + sumB B r
theorem sumB_le {α : Type} {H : Type} {B : α → Nat} : ∀ {xs : List α} {ds : List (DataW H)}, xs.length = ds.length → (∀ (i : Nat) (x : α) (d : DataW H), xs[i]? = some x → ds[i]? = some d → B x ≤ Rows.uptoBulk d) → sumB B xs ≤ Rows.uptoBulkAll ds
  | [], [], _, _ => Nat.le_refl _
  | x :: xs, d :: ds, hl, h => by
    have h0 := h 0 x d rfl rfl
    have h1 := sumB_le (xs := xs) (ds := ds) (by simpa using hl) (fun i a b ha hb => h (i + 1) a b (by simpa using ha) (by simpa using hb))
    simp only [sumB, Rows.uptoBulkAll]
    omega
  | [], _ :: _, hl, _ => by simp at hl
  | _ :: _, [], hl, _ => by simp at hl
theorem sumB_mem {α : Type} {B : α → Nat} {x : α} : ∀ {xs : List α}, x ∈ xs → B x ≤ sumB B xs
  | a :: r, h => by
    simp only [sumB]
    rcases List.mem_cons.1 h with rfl | h
    · omega
    · have := sumB_mem (B := B) h
      omega
theorem sumB_len {α : Type} {B : α → Nat} (h1 : ∀ x, 1 ≤ B x) : ∀ xs : List α, xs.length ≤ sumB B xs
  | [] => Nat.le_refl _
  | x :: r => by
    have := h1 x
    have := sumB_len h1 r
    simp only [sumB, List.length_cons]
    omega
theorem sumB_one {α : Type} (xs : List α) : sumB (fun _ => 1) xs = xs.length := by
  induction xs with
  | nil => rfl
  | cons x r ih => simp only [sumB, ih, List.length_cons]; omega
theorem list_of {α : Type} {n : Nat} {Q : Nat → α → Prop} (h : ∀ i, i < n → ∃ x, Q i x) : ∃ xs : List α, xs.length = n ∧ ∀ (i : Nat) (x : α), xs[i]? = some x → Q i x := by
  induction n with
  | zero => exact ⟨[], rfl, fun i x hx => by simp at hx⟩
  | succ n ih =>
    obtain ⟨xs, hl, hq⟩ := ih (fun i hi => h i (by omega))
    obtain ⟨y, hy⟩ := h n (by omega)
    refine ⟨xs ++ [y], by simp [hl], fun i x hx => ?_⟩
    rcases Nat.lt_trichotomy i xs.length with hi | hi | hi
    · rw [List.getElem?_append_left hi] at hx
      exact hq i x hx
    · subst hi
      rw [List.getElem?_append_right (Nat.le_refl _)] at hx
      simp at hx
      subst hx
      rw [hl]
      exact hy
    · rw [List.getElem?_append_right (by omega), List.getElem?_eq_none (by simp; omega)] at hx
      cases hx
def RdF (P : Program) (W : World) (n : Nat) {α : Type} (d : Kd α) (t : TypeId) (B : α → Nat) (G : α → Prop) : Prop :=
  ∀ (H : Type) (enc : TypeId × Value → H) (fuel : Nat), fuel ≤ n → ∀ (cs : List Value) (x : DataW H × List MemPlace),
    DataW.trod enc P W 0 (fun _ => true) true fuel t cs = some x → ∃ a, d.K W a cs ∧ B a ≤ Rows.uptoBulk x.1 ∧ G a
section
variable {P : Program} {W : World} {n : Nat}
def wfI (k : IntKind) (x : Int) : Prop := (Lit.int k x).wf = true
theorem rd_int {t : TypeId} {k : IntKind} (ht : P.underlying t = some (.int k)) : RdF P W n (Kd.int k) t (fun _ => 1) (wfI k) := by
  intro H enc fuel hf cs x h
  cases fuel with
  | zero => simp [DataW.trod] at h
  | succ m =>
    unfold DataW.trod at h
    rw [ht] at h
    split at h <;> simp_all
    rename_i k' y z
    obtain ⟨⟨rfl, hw⟩, rfl⟩ := h
    exact ⟨y, rfl, by simp [Rows.uptoBulk], hw⟩
theorem rd_string {t : TypeId} (ht : P.underlying t = some .string) : RdF P W n Kd.string t (fun s => s.size + 1) (fun _ => True) := by
  intro H enc fuel hf cs x h
  cases fuel with
  | zero => simp [DataW.trod] at h
  | succ m =>
    unfold DataW.trod at h
    rw [ht] at h
    split at h <;> simp_all
    obtain ⟨_, rfl⟩ := h
    refine ⟨_, rfl, ?_⟩
    simp [Rows.uptoBulk]
theorem rd_slice {t e : TypeId} {α : Type} {d : Kd α} {B : α → Nat} {G : α → Prop} (ht : P.underlying t = some (.slice e)) (hc : P.cellsOf e = d.sz) (h : RdF P W n d e B G) : RdF P W (n + 1) (Kd.slice e d) t (fun xs => sumB B xs + 1) (fun xs => ∀ x ∈ xs, G x) := by
  intro H enc fuel hf cs x hx
  rcases DataW.trod_slice ht hx with ⟨rfl, rfl⟩ | ⟨a, len, cap, elems, rest, m, rfl, rfl, rfl, hb, hl, hm, hlen, hel, _⟩
  · exact ⟨[], ⟨none, 0, rfl, Nat.le_refl _, rfl, by simp, fun h0 => absurd h0 (by simp)⟩, by simp [sumB, Rows.uptoBulk], fun x hx => by simp at hx⟩
  · have each : ∀ i, i < len → ∃ y : α, ∃ c : List Value, ∃ z, elems[i]? = some z ∧ W.cells? 0 (a.add (i * P.cellsOf e)) (P.cellsOf e) = some c ∧ d.K W y c ∧ B y ≤ Rows.uptoBulk z.1 ∧ G y := by
      intro i hi
      have h1 := hel i hi
      obtain ⟨z, hz⟩ : ∃ z, elems[i]? = some z := ⟨_, List.getElem?_eq_getElem (by omega)⟩
      rw [hz] at h1
      obtain ⟨c, hc1, hc2⟩ := Option.bind_eq_some_iff.1 h1
      obtain ⟨y, k1, k2, k3⟩ := h H enc m (by omega) c z hc2
      exact ⟨y, c, z, hz, hc1, k1, k2, k3⟩
    obtain ⟨ys, hyl, hy⟩ := list_of each
    refine ⟨ys, ⟨some a, cap, by rw [hyl], by omega, ?_⟩, ?_, ?_⟩
    · refine ⟨rfl, ?_, fun _ => ⟨a, rfl, fun j p hj => ?_⟩⟩
      · have : cap ≤ 9223372036854775807 := by simpa [maxLen] using hm
        omega
      · obtain ⟨c, z, _, hcs, hk, _, _⟩ := hy j p hj
        obtain ⟨_, hcl, hcc⟩ := World.cells?_some hcs
        refine ⟨c, by rw [hcl, hc], hk, fun i u hu => ?_⟩
        have hi : i < P.cellsOf e := by
          rw [← hcl]
          exact (List.getElem?_eq_some_iff.1 hu).1
        have h2 := hcc i hi
        rw [hu] at h2
        rw [← h2, hc]
        rw [Deep.add_add]
    · have : sumB B ys ≤ Rows.uptoBulkAll (elems.map (·.1)) := by
        refine sumB_le (by simp [hyl, hlen]) (fun i y dd hyi hdi => ?_)
        obtain ⟨c, z, hz, _, _, hB, _⟩ := hy i y hyi
        rw [List.getElem?_map, hz] at hdi
        simp at hdi
        rw [← hdi]
        exact hB
      simp only [Rows.uptoBulk]
      omega
    · intro y hyy
      obtain ⟨i, hi, he⟩ := List.getElem_of_mem hyy
      obtain ⟨_, _, _, _, _, _, hg⟩ := hy i y (by rw [List.getElem?_eq_getElem hi, he])
      exact hg
end
theorem len_2 {α : Type} {l : List α} (h : l.length = 2) : ∃ a0 a1, l = [a0, a1] := by
  match l, h with
  | [b0, b1], _ => exact ⟨b0, b1, rfl⟩
theorem len_3 {α : Type} {l : List α} (h : l.length = 3) : ∃ a0 a1 a2, l = [a0, a1, a2] := by
  match l, h with
  | [b0, b1, b2], _ => exact ⟨b0, b1, b2, rfl⟩
theorem len_5 {α : Type} {l : List α} (h : l.length = 5) : ∃ a0 a1 a2 a3 a4, l = [a0, a1, a2, a3, a4] := by
  match l, h with
  | [b0, b1, b2, b3, b4], _ => exact ⟨b0, b1, b2, b3, b4, rfl⟩
theorem bound {H : Type} {l : List (DataW H)} (hk : Rows.uptoSmall H l = true) : Rows.uptoBulkAll l ≤ 1048576 := of_decide_eq_true hk
end Go.Proofs.Yteejaaeglfpcmaa.Rdr

set_option linter.unusedVariables false
set_option linter.unusedSimpArgs false
namespace Go.Proofs.Yteejaaeglfpcmaa.PH
open Go.RowKit Go.Proofs.Yteejaaeglfpcmaa.Rdr Go.Proofs.YteejaaeglfpcmaaW.PrintWords Go.Proofs.YteejaaeglfpcmaaW.PrintLast Go.Proofs.YteejaaeglfpcmaaW.PrintMore
def bulk151 (x : S151) : Nat := (fun _ => 1) x.f0 + (fun _ => 1) x.f1 + 1
def good151 (x : S151) : Prop := (wfI .u64) x.f0 ∧ (wfI .u64) x.f1
theorem rd151 (W : World) (n : Nat) : RdF Try.prog W n k151 151 bulk151 good151 := by
  intro H enc fuel hfu cs x h
  cases n with
  | zero =>
    obtain rfl : fuel = 0 := by omega
    simp [DataW.trod] at h
  | succ n =>
  obtain ⟨xs, m, rfl, rfl, hl, hlen, hf⟩ := DataW.trod_struct Try.underlying151 h
  have hl' : cs.length = 2 := hl.trans (by kernel_rfl)
  clear hl
  obtain ⟨u0, u1, rfl⟩ := len_2 hl'
  have z24 : Try.prog.cellsOf 24 = 1 := by kernel_rfl
  obtain ⟨y0, hy0⟩ : ∃ y, xs[0]? = some y := ⟨_, List.getElem?_eq_getElem (by rw [hlen]; decide)⟩
  have h0 := hf 0 _ rfl
  rw [hy0] at h0
  simp only [z24, List.getElem_toArray, List.getElem_cons_zero, List.getElem_cons_succ, List.drop_zero, List.drop_succ_cons, List.take_succ_cons, List.take_zero] at h0
  have h0' : DataW.trod enc Try.prog W 0 (fun _ => true) true m 24 [u0] = some y0 := h0
  obtain ⟨y1, hy1⟩ : ∃ y, xs[1]? = some y := ⟨_, List.getElem?_eq_getElem (by rw [hlen]; decide)⟩
  have h1 := hf 1 _ rfl
  rw [hy1] at h1
  simp only [z24, List.getElem_toArray, List.getElem_cons_zero, List.getElem_cons_succ, List.drop_zero, List.drop_succ_cons, List.take_succ_cons, List.take_zero] at h1
  have h1' : DataW.trod enc Try.prog W 0 (fun _ => true) true m 24 [u1] = some y1 := h1
  obtain ⟨a0, k0, b0, g0⟩ := (rd_int (n := (n + 1)) Try.underlying24) H enc m (by omega) _ _ h0'
  obtain ⟨a1, k1, b1, g1⟩ := (rd_int (n := (n + 1)) Try.underlying24) H enc m (by omega) _ _ h1'
  have hall : xs = [y0, y1] := by
    obtain ⟨q0, q1, rfl⟩ := len_2 (l := xs) hlen
    simp only [List.getElem?_cons_zero, List.getElem?_cons_succ, Option.some.injEq] at hy0 hy1
    rw [hy0, hy1]
  subst hall
  refine ⟨⟨a0, a1⟩, ⟨[u0], [u1], rfl, k0, k1⟩, ?_, ?_⟩
  · (try dsimp only at b0); (try dsimp only at b1); simp only [bulk151, Rows.uptoBulk, Rows.uptoBulkAll, List.map_cons, List.map_nil]; omega
  · exact ⟨g0, g1⟩
def bulk104 (x : S104) : Nat := (fun s => s.size + 1) x.f0 + (fun xs => sumB (fun _ => 1) xs + 1) x.f1 + 1
def good104 (x : S104) : Prop := (fun _ => True) x.f0 ∧ (fun xs => ∀ x ∈ xs, (wfI .u8) x) x.f1
theorem rd104 (W : World) (n : Nat) : RdF Try.prog W n k104 104 bulk104 good104 := by
  intro H enc fuel hfu cs x h
  cases n with
  | zero =>
    obtain rfl : fuel = 0 := by omega
    simp [DataW.trod] at h
  | succ n =>
  obtain ⟨xs, m, rfl, rfl, hl, hlen, hf⟩ := DataW.trod_struct Try.underlying104 h
  have hl' : cs.length = 2 := hl.trans (by kernel_rfl)
  clear hl
  obtain ⟨u0, u1, rfl⟩ := len_2 hl'
  have z9 : Try.prog.cellsOf 9 = 1 := by kernel_rfl
  have z95 : Try.prog.cellsOf 95 = 1 := by kernel_rfl
  obtain ⟨y0, hy0⟩ : ∃ y, xs[0]? = some y := ⟨_, List.getElem?_eq_getElem (by rw [hlen]; decide)⟩
  have h0 := hf 0 _ rfl
  rw [hy0] at h0
  simp only [z9, List.getElem_toArray, List.getElem_cons_zero, List.getElem_cons_succ, List.drop_zero, List.drop_succ_cons, List.take_succ_cons, List.take_zero] at h0
  have h0' : DataW.trod enc Try.prog W 0 (fun _ => true) true m 9 [u0] = some y0 := h0
  obtain ⟨y1, hy1⟩ : ∃ y, xs[1]? = some y := ⟨_, List.getElem?_eq_getElem (by rw [hlen]; decide)⟩
  have h1 := hf 1 _ rfl
  rw [hy1] at h1
  simp only [z95, List.getElem_toArray, List.getElem_cons_zero, List.getElem_cons_succ, List.drop_zero, List.drop_succ_cons, List.take_succ_cons, List.take_zero] at h1
  have h1' : DataW.trod enc Try.prog W 0 (fun _ => true) true m 95 [u1] = some y1 := h1
  obtain ⟨a0, k0, b0, g0⟩ := (rd_string (n := (n + 1)) Try.underlying9) H enc m (by omega) _ _ h0'
  obtain ⟨a1, k1, b1, g1⟩ := (rd_slice (n := n) Try.underlying95 (by kernel_rfl) (rd_int (n := n) Try.underlying5)) H enc m (by omega) _ _ h1'
  have hall : xs = [y0, y1] := by
    obtain ⟨q0, q1, rfl⟩ := len_2 (l := xs) hlen
    simp only [List.getElem?_cons_zero, List.getElem?_cons_succ, Option.some.injEq] at hy0 hy1
    rw [hy0, hy1]
  subst hall
  refine ⟨⟨a0, a1⟩, ⟨[u0], [u1], rfl, k0, k1⟩, ?_, ?_⟩
  · (try dsimp only at b0); (try dsimp only at b1); simp only [bulk104, Rows.uptoBulk, Rows.uptoBulkAll, List.map_cons, List.map_nil]; omega
  · exact ⟨g0, g1⟩
mutual
def bulk39 : S39 → Nat
  | ⟨x0, x1, x2⟩ => (fun s => s.size + 1) x0 + (fun xs => sumB bulk104 xs + 1) x1 + (bulks39 x2 + 1) + 1
def bulks39 : List S39 → Nat
  | [] => 0
  | x :: r => bulk39 x + bulks39 r
end
theorem bulks39_eq (l : List S39) : bulks39 l = sumB bulk39 l := by
  induction l with
  | nil => rfl
  | cons x r ih => simp only [bulks39, sumB, ih]
mutual
def good39 : S39 → Prop
  | ⟨x0, x1, x2⟩ => (fun _ => True) x0 ∧ (fun xs => ∀ x ∈ xs, good104 x) x1 ∧ goods39 x2
def goods39 : List S39 → Prop
  | [] => True
  | x :: r => good39 x ∧ goods39 r
end
theorem goods39_iff (l : List S39) : goods39 l ↔ ∀ x ∈ l, good39 x := by
  induction l with
  | nil => simp [goods39]
  | cons x r ih => simp [goods39, ih]
theorem rd39 (W : World) (n : Nat) : RdF Try.prog W n k39 39 bulk39 good39 := by
  induction n with
  | zero =>
    intro H enc fuel hf cs x h
    obtain rfl : fuel = 0 := by omega
    simp [DataW.trod] at h
  | succ n ih =>
  intro H enc fuel hfu cs x h
  obtain ⟨xs, m, rfl, rfl, hl, hlen, hf⟩ := DataW.trod_struct Try.underlying39 h
  have hl' : cs.length = 3 := hl.trans (by kernel_rfl)
  clear hl
  obtain ⟨u0, u1, u2, rfl⟩ := len_3 hl'
  have z9 : Try.prog.cellsOf 9 = 1 := by kernel_rfl
  have z36 : Try.prog.cellsOf 36 = 1 := by kernel_rfl
  have z37 : Try.prog.cellsOf 37 = 1 := by kernel_rfl
  obtain ⟨y0, hy0⟩ : ∃ y, xs[0]? = some y := ⟨_, List.getElem?_eq_getElem (by rw [hlen]; decide)⟩
  have h0 := hf 0 _ rfl
  rw [hy0] at h0
  simp only [z9, List.getElem_toArray, List.getElem_cons_zero, List.getElem_cons_succ, List.drop_zero, List.drop_succ_cons, List.take_succ_cons, List.take_zero] at h0
  have h0' : DataW.trod enc Try.prog W 0 (fun _ => true) true m 9 [u0] = some y0 := h0
  obtain ⟨y1, hy1⟩ : ∃ y, xs[1]? = some y := ⟨_, List.getElem?_eq_getElem (by rw [hlen]; decide)⟩
  have h1 := hf 1 _ rfl
  rw [hy1] at h1
  simp only [z36, List.getElem_toArray, List.getElem_cons_zero, List.getElem_cons_succ, List.drop_zero, List.drop_succ_cons, List.take_succ_cons, List.take_zero] at h1
  have h1' : DataW.trod enc Try.prog W 0 (fun _ => true) true m 36 [u1] = some y1 := h1
  obtain ⟨y2, hy2⟩ : ∃ y, xs[2]? = some y := ⟨_, List.getElem?_eq_getElem (by rw [hlen]; decide)⟩
  have h2 := hf 2 _ rfl
  rw [hy2] at h2
  simp only [z37, List.getElem_toArray, List.getElem_cons_zero, List.getElem_cons_succ, List.drop_zero, List.drop_succ_cons, List.take_succ_cons, List.take_zero] at h2
  have h2' : DataW.trod enc Try.prog W 0 (fun _ => true) true m 37 [u2] = some y2 := h2
  obtain ⟨a0, k0, b0, g0⟩ := (rd_string (n := (n + 1)) Try.underlying9) H enc m (by omega) _ _ h0'
  obtain ⟨a1, k1, b1, g1⟩ := (rd_slice (n := n) Try.underlying36 (by kernel_rfl) (rd104 W n)) H enc m (by omega) _ _ h1'
  obtain ⟨a2, k2, b2, g2⟩ := (rd_slice (n := n) Try.underlying37 (by kernel_rfl) ih) H enc m (by omega) _ _ h2'
  have hall : xs = [y0, y1, y2] := by
    obtain ⟨q0, q1, q2, rfl⟩ := len_3 (l := xs) hlen
    simp only [List.getElem?_cons_zero, List.getElem?_cons_succ, Option.some.injEq] at hy0 hy1 hy2
    rw [hy0, hy1, hy2]
  subst hall
  cases k0
  obtain ⟨A1, c1, e1, l1, r1⟩ := k1
  cases e1
  obtain ⟨A2, c2, e2, l2, r2⟩ := k2
  cases e2
  refine ⟨⟨a0, a1, a2⟩, k39_mk W ⟨a0, a1, a2⟩ l1 r1 l2 r2, ?_, ?_⟩
  · (try dsimp only at b0); (try dsimp only at b1); (try dsimp only at b2); simp only [bulk39, bulks39_eq, Rows.uptoBulk, Rows.uptoBulkAll, List.map_cons, List.map_nil]; omega
  · exact ⟨g0, g1, (goods39_iff _).mpr g2⟩
def bulk43 (x : S43) : Nat := (fun _ => 1) x.f0 + (fun xs => sumB bulk151 xs + 1) x.f1 + bulk39 x.f2 + 1
def good43 (x : S43) : Prop := (wfI .u32) x.f0 ∧ (fun xs => ∀ x ∈ xs, good151 x) x.f1 ∧ good39 x.f2
theorem rd43 (W : World) (n : Nat) : RdF Try.prog W n k43 43 bulk43 good43 := by
  intro H enc fuel hfu cs x h
  cases n with
  | zero =>
    obtain rfl : fuel = 0 := by omega
    simp [DataW.trod] at h
  | succ n =>
  obtain ⟨xs, m, rfl, rfl, hl, hlen, hf⟩ := DataW.trod_struct Try.underlying43 h
  have hl' : cs.length = 5 := hl.trans (by kernel_rfl)
  clear hl
  obtain ⟨u0, u1, u2, u3, u4, rfl⟩ := len_5 hl'
  have z28 : Try.prog.cellsOf 28 = 1 := by kernel_rfl
  have z39 : Try.prog.cellsOf 39 = 3 := by kernel_rfl
  have z41 : Try.prog.cellsOf 41 = 1 := by kernel_rfl
  obtain ⟨y0, hy0⟩ : ∃ y, xs[0]? = some y := ⟨_, List.getElem?_eq_getElem (by rw [hlen]; decide)⟩
  have h0 := hf 0 _ rfl
  rw [hy0] at h0
  simp only [z28, List.getElem_toArray, List.getElem_cons_zero, List.getElem_cons_succ, List.drop_zero, List.drop_succ_cons, List.take_succ_cons, List.take_zero] at h0
  have h0' : DataW.trod enc Try.prog W 0 (fun _ => true) true m 28 [u0] = some y0 := h0
  obtain ⟨y1, hy1⟩ : ∃ y, xs[1]? = some y := ⟨_, List.getElem?_eq_getElem (by rw [hlen]; decide)⟩
  have h1 := hf 1 _ rfl
  rw [hy1] at h1
  simp only [z41, List.getElem_toArray, List.getElem_cons_zero, List.getElem_cons_succ, List.drop_zero, List.drop_succ_cons, List.take_succ_cons, List.take_zero] at h1
  have h1' : DataW.trod enc Try.prog W 0 (fun _ => true) true m 41 [u1] = some y1 := h1
  obtain ⟨y2, hy2⟩ : ∃ y, xs[2]? = some y := ⟨_, List.getElem?_eq_getElem (by rw [hlen]; decide)⟩
  have h2 := hf 2 _ rfl
  rw [hy2] at h2
  simp only [z39, List.getElem_toArray, List.getElem_cons_zero, List.getElem_cons_succ, List.drop_zero, List.drop_succ_cons, List.take_succ_cons, List.take_zero] at h2
  have h2' : DataW.trod enc Try.prog W 0 (fun _ => true) true m 39 [u2, u3, u4] = some y2 := h2
  obtain ⟨a0, k0, b0, g0⟩ := (rd_int (n := (n + 1)) Try.underlying28) H enc m (by omega) _ _ h0'
  obtain ⟨a1, k1, b1, g1⟩ := (rd_slice (n := n) Try.underlying41 (by kernel_rfl) (rd151 W n)) H enc m (by omega) _ _ h1'
  obtain ⟨a2, k2, b2, g2⟩ := (rd39 W (n + 1)) H enc m (by omega) _ _ h2'
  have hall : xs = [y0, y1, y2] := by
    obtain ⟨q0, q1, q2, rfl⟩ := len_3 (l := xs) hlen
    simp only [List.getElem?_cons_zero, List.getElem?_cons_succ, Option.some.injEq] at hy0 hy1 hy2
    rw [hy0, hy1, hy2]
  subst hall
  refine ⟨⟨a0, a1, a2⟩, ⟨[u0], [u1, u2, u3, u4], rfl, k0, ⟨[u1], [u2, u3, u4], rfl, k1, k2⟩⟩, ?_, ?_⟩
  · (try dsimp only at b0); (try dsimp only at b1); (try dsimp only at b2); simp only [bulk43, Rows.uptoBulk, Rows.uptoBulkAll, List.map_cons, List.map_nil]; omega
  · exact ⟨g0, g1, g2⟩
end Go.Proofs.Yteejaaeglfpcmaa.PH

namespace Go.Proofs.Yteejaaeglfpcmaa.PH
open Go.RowKit Go.Proofs.Yteejaaeglfpcmaa.Rdr Go.Proofs.YteejaaeglfpcmaaW.PrintWords Go.Proofs.YteejaaeglfpcmaaW.PrintLast Go.Proofs.YteejaaeglfpcmaaW.PrintMore
def arboretlaw08_HandleIndex.Pure : Prop := ∀ (x0 : S43), bulk43 x0 ≤ 1048576 → good43 x0 → ∃ k, arboretlaw08_HandleIndex.f k x0.f0 x0.f1 x0.f2.f0 x0.f2.f1 x0.f2.f2 = some true
end Go.Proofs.Yteejaaeglfpcmaa.PH

set_option linter.unusedVariables false
set_option linter.unusedSimpArgs false
namespace Go.Proofs.Yteejaaeglfpcmaa.Aid
open Go.RowKit Go.Proofs.YteejaaeglfpcmaaW.PrintWords
section
variable {α β : Type} {r : α}
theorem Ev.pos {c : Prop} [Decidable c] {A B : Nat → Option α} (h : c) (hA : Ev A r) : Ev (fun k => if c then A k else B k) r := by
  simp only [if_pos h]
  exact hA
theorem Ev.neg {c : Prop} [Decidable c] {A B : Nat → Option α} (h : ¬ c) (hB : Ev B r) : Ev (fun k => if c then A k else B k) r := by
  simp only [if_neg h]
  exact hB
theorem Ev.succ {g : Nat → Option α} (h : Ev (fun k => g (k + 1)) r) : Ev g r := Ev.step (fun _ => rfl) h
theorem Ev.some (r : α) : Ev (fun _ => some r) r := ⟨0, fun _ _ => rfl⟩
theorem Ev.then {g : Nat → Option α} {f : Nat → α → Option β} {a : α} {b : β} (h : Ev g a) (k : Ev (fun n => f n a) b) : Ev (fun n => (g n).bind (f n)) b := Ev.bind h k
theorem Ev.out {g : Nat → Option α} (h : Ev g r) : ∃ k, g k = Option.some r := Ev.rounds h
end
theorem wu64 {x : Int} (h0 : 0 ≤ x) (h1 : x < 18446744073709551616) : IntKind.u64.wrap x = x := by
  simp only [IntKind.wrap, IntKind.bits, IntKind.signed]
  simp
  omega
theorem or_low (i : Nat) (hi : i ≤ 64) {x y : Int} (hx : 0 ≤ x) (hxm : x % 2 ^ i = 0) (hx1 : x < 18446744073709551616) (hy : 0 ≤ y) (hy1 : y < 2 ^ i) : Go.bits .or .u64 x y = x + y := by
  have h2 : (2 : Int) ^ i ≤ 18446744073709551616 := by
    have h : (2 : Nat) ^ i ≤ 2 ^ 64 := Nat.pow_le_pow_right (by decide) hi
    have h' : ((2 ^ i : Nat) : Int) ≤ ((2 ^ 64 : Nat) : Int) := Int.ofNat_le.mpr h
    simpa using h'
  exact Go.bits_join .u64 64 (by decide) (fun n h0 h1 => wu64 h0 (by simpa using h1)) i x y hx hxm (by simpa using hx1) hy hy1 (by simpa using Int.lt_of_lt_of_le hy1 h2)
theorem wf_u8 {x : Int} : (Lit.int .u8 x).wf = true ↔ 0 ≤ x ∧ x ≤ 255 := by simp [Lit.wf, IntKind.min, IntKind.max, IntKind.signed, IntKind.bits]
theorem getD_at {α : Type} {l : List α} {d : α} {i : Nat} (h : i < l.length) : l.getD i d = l[i] := by simp [List.getD_eq_getElem?_getD, List.getElem?_eq_getElem h]
theorem drop_at {α : Type} {l : List α} {d : α} {i : Nat} (h : i < l.length) : l.drop i = l.getD i d :: l.drop (i + 1) := by rw [getD_at h]; exact List.drop_eq_getElem_cons h
end Go.Proofs.Yteejaaeglfpcmaa.Aid

set_option linter.unusedVariables false
set_option linter.unusedSimpArgs false
namespace Go.Proofs.Yteejaaeglfpcmaa.PH
open Go.RowKit Go.Proofs.Yteejaaeglfpcmaa.Rdr Go.Proofs.Yteejaaeglfpcmaa.Aid Go.Proofs.YteejaaeglfpcmaaW.PrintWords
theorem rdN (xs : List S39) (i : Nat) : rd_T39 xs (i : Int) = xs.getD i z39 := by simp [rd_T39]
theorem rdP (xs : List S104) (i : Nat) : rd_T104 xs (i : Int) = xs.getD i z104 := by simp [rd_T104]
theorem getN {xs : List S39} {i : Nat} (h : i < xs.length) : xs.getD i z39 ∈ xs := by rw [getD_at h]; exact List.getElem_mem h
theorem getP {xs : List S104} {i : Nat} (h : i < xs.length) : xs.getD i z104 ∈ xs := by rw [getD_at h]; exact List.getElem_mem h
theorem bulk_pos (x : S39) : 1 ≤ bulk39 x := by
  cases x
  simp only [bulk39]
  omega
theorem bulk_eq (x : S39) : bulk39 x = x.f0.size + sumB bulk104 x.f1 + sumB bulk39 x.f2 + 4 := by
  cases x
  simp only [bulk39, bulks39_eq]
  omega
theorem bulk_kid {x k : S39} (h : k ∈ x.f2) : bulk39 k + 4 ≤ bulk39 x := by
  have := sumB_mem (B := bulk39) h
  rw [bulk_eq x]
  omega
theorem bulk_prop {x : S39} {p : S104} (h : p ∈ x.f1) : bulk104 p + 4 ≤ bulk39 x := by
  have := sumB_mem (B := bulk104) h
  rw [bulk_eq x]
  omega
theorem bulk_kids (x : S39) : x.f2.length + 4 ≤ bulk39 x := by
  have := sumB_len bulk_pos x.f2
  rw [bulk_eq x]
  omega
theorem bulk_props (x : S39) : x.f1.length + 4 ≤ bulk39 x := by
  have := sumB_len (B := bulk104) (fun p => by unfold bulk104; omega) x.f1
  rw [bulk_eq x]
  omega
theorem bulk_value (p : S104) : p.f0.size + p.f1.length + 3 ≤ bulk104 p := by
  unfold bulk104
  simp only [sumB_one]
  omega
theorem good_eq (x : S39) : good39 x ↔ (∀ p ∈ x.f1, good104 p) ∧ (∀ k ∈ x.f2, good39 k) := by
  cases x
  simp only [good39, goods39_iff]
  exact ⟨fun h => h.2, fun h => ⟨trivial, h⟩⟩
theorem good_value (p : S104) (h : good104 p) : ∀ b ∈ p.f1, 0 ≤ b ∧ b ≤ 255 := fun b hb => wf_u8.mp (h.2 b hb)
theorem step64 {i n : Nat} (h : i < n) (hn : n ≤ 1048576) : wrap64 ((i : Int) + 1) = ((i + 1 : Nat) : Int) := by unfold wrap64; omega
theorem size_ends (m : Nat) (hm : m ≤ 1048576) : ∀ x : S39, bulk39 x ≤ m → ∀ d : Int, ∃ v, Ev (fun k => arboretlaw03_size.f k x.f0 x.f1 x.f2 d) v := by
  induction m with
  | zero => intro x hx; have := bulk_pos x; omega
  | succ m ih =>
    intro x hx d
    have hk := bulk_kids x
    have hp := bulk_props x
    have kids : ∀ (j i : Nat) (acc : Int), i + j = x.f2.length → ∃ v, Ev (fun k => arboretlaw03_size.l1 k d acc (x.f2.length : Int) (i : Int) x.f0 x.f1 x.f2) v := by
      intro j
      induction j with
      | zero =>
        intro i acc hi
        refine ⟨acc, Ev.succ ?_⟩
        simp only [arboretlaw03_size.l1]
        exact Ev.neg (by omega) (Ev.some _)
      | succ j ihj =>
        intro i acc hi
        have hw := step64 (i := i) (n := x.f2.length) (by omega) (by omega)
        by_cases h1 : d > 20
        · refine ⟨1048576, Ev.succ ?_⟩
          simp only [arboretlaw03_size.l1]
          exact Ev.pos (by omega) (Ev.pos h1 (Ev.some _))
        by_cases h2 : acc > 100000
        · refine ⟨1048576, Ev.succ ?_⟩
          simp only [arboretlaw03_size.l1]
          exact Ev.pos (by omega) (Ev.neg h1 (Ev.pos h2 (Ev.some _)))
        have hmem := getN (xs := x.f2) (i := i) (by omega)
        obtain ⟨v, hv⟩ := ih (by omega) (x.f2.getD i z39) (by have := bulk_kid hmem; omega) (wrap64 (d + 1))
        obtain ⟨r, hr⟩ := ihj (i + 1) (wrap64 (acc + v)) (by omega)
        refine ⟨r, Ev.succ ?_⟩
        simp only [arboretlaw03_size.l1, rdN, hw]
        exact Ev.pos (by omega) (Ev.neg h1 (Ev.neg h2 (Ev.pos (by omega) (Ev.pos (by omega) (Ev.then hv hr)))))
    have props : ∀ (j i : Nat) (acc : Int), i + j = x.f1.length → ∃ v, Ev (fun k => arboretlaw03_size.l0 k d acc (x.f1.length : Int) (i : Int) x.f0 x.f1 x.f2) v := by
      intro j
      induction j with
      | zero =>
        intro i acc hi
        obtain ⟨v, hv⟩ := kids x.f2.length 0 acc (by omega)
        refine ⟨v, Ev.succ ?_⟩
        simp only [arboretlaw03_size.l0]
        exact Ev.neg (by omega) hv
      | succ j ihj =>
        intro i acc hi
        have hw := step64 (i := i) (n := x.f1.length) (by omega) (by omega)
        obtain ⟨v, hv⟩ := ihj (i + 1) (wrap64 ((wrap64 ((wrap64 (acc + 1)) + (((rd_T104 x.f1 i).f0).size : Int))) + (((rd_T104 x.f1 i).f1).length : Int))) (by omega)
        refine ⟨v, Ev.succ ?_⟩
        simp only [arboretlaw03_size.l0, hw]
        exact Ev.pos (by omega) (Ev.pos (by omega) (Ev.pos (by omega) hv))
    obtain ⟨v, hv⟩ := props x.f1.length 0 (wrap64 (1 + (x.f0.size : Int))) (by omega)
    refine ⟨v, Ev.succ ?_⟩
    simp only [arboretlaw03_size.f]
    exact hv
theorem few_ends (b : Int) (l : List S151) (x : S39) (hx : bulk39 x ≤ 1048576) : ∃ v, Ev (fun k => arboretlaw03_Few.f k b l x.f0 x.f1 x.f2) v := by
  obtain ⟨v, hv⟩ := size_ends 1048576 (by omega) x hx 0
  by_cases h : v ≤ 100000
  · refine ⟨decide ((l.length : Int) ≤ 200), ?_⟩
    unfold arboretlaw03_Few.f
    exact Ev.then hv (Ev.pos h (Ev.some _))
  · refine ⟨false, ?_⟩
    unfold arboretlaw03_Few.f
    exact Ev.then hv (Ev.neg h (Ev.some _))
end Go.Proofs.Yteejaaeglfpcmaa.PH

set_option linter.unusedVariables false
set_option linter.unusedSimpArgs false
namespace Go.Proofs.Yteejaaeglfpcmaa.PH
open Go.RowKit Go.Proofs.Yteejaaeglfpcmaa.Rdr Go.Proofs.Yteejaaeglfpcmaa.Aid Go.Proofs.YteejaaeglfpcmaaW.PrintWords
mutual
def placesN : S39 → List Int → List (List Int)
  | ⟨_, _, ks⟩, p => p :: placesL ks 0 p
def placesL : List S39 → Nat → List Int → List (List Int)
  | [], _, _ => []
  | x :: r, i, p => placesN x (p ++ [(i : Int)]) ++ placesL r (i + 1) p
end
theorem placesN_eq (x : S39) (p : List Int) : placesN x p = p :: placesL x.f2 0 p := by cases x; simp only [placesN]
theorem placesL_len (m : Nat) (ih : ∀ x : S39, bulk39 x ≤ m → ∀ p, (placesN x p).length ≤ bulk39 x) : ∀ (l : List S39) (i : Nat) (p : List Int), sumB bulk39 l ≤ m → (placesL l i p).length ≤ sumB bulk39 l
  | [], i, p, _ => by simp [placesL, sumB]
  | x :: r, i, p, h => by
    simp only [sumB] at h
    have h1 := ih x (by omega) (p ++ [(i : Int)])
    have h2 := placesL_len m ih r (i + 1) p (by omega)
    simp only [placesL, List.length_append, sumB]
    omega
theorem places_len (m : Nat) : ∀ (x : S39) (p : List Int), bulk39 x ≤ m → (placesN x p).length ≤ bulk39 x := by
  induction m with
  | zero => intro x p hx; have := bulk_pos x; omega
  | succ m ih =>
    intro x p hx
    rw [placesN_eq, List.length_cons]
    have hb := bulk_eq x
    have := placesL_len m (fun x hx p => ih x p hx) x.f2 0 p (by omega)
    omega
theorem placesL_each (m : Nat) (ih : ∀ x : S39, bulk39 x ≤ m → ∀ p, ∀ q ∈ placesN x p, q.length ≤ p.length + bulk39 x) : ∀ (l : List S39) (i : Nat) (p : List Int), sumB bulk39 l ≤ m → ∀ q ∈ placesL l i p, q.length ≤ p.length + 1 + sumB bulk39 l
  | [], i, p, _ => by simp [placesL]
  | x :: r, i, p, h => by
    simp only [sumB] at h
    intro q hq
    simp only [placesL, List.mem_append] at hq
    simp only [sumB]
    rcases hq with hq | hq
    · have := ih x (by omega) _ q hq
      simp at this
      omega
    · have := placesL_each m ih r (i + 1) p (by omega) q hq
      omega
theorem places_each (m : Nat) : ∀ (x : S39) (p : List Int), bulk39 x ≤ m → ∀ q ∈ placesN x p, q.length ≤ p.length + bulk39 x := by
  induction m with
  | zero => intro x p hx; have := bulk_pos x; omega
  | succ m ih =>
    intro x p hx q hq
    rw [placesN_eq, List.mem_cons] at hq
    have hb := bulk_eq x
    rcases hq with rfl | hq
    · omega
    · have := placesL_each m (fun x hx p => ih x p hx) x.f2 0 p (by omega) q hq
      omega
theorem refall_ev (m : Nat) (hm : m ≤ 1048576) : ∀ (x : S39) (p : List Int), bulk39 x ≤ m → p.length + bulk39 x ≤ 2097152 → Ev (fun k => arboretref06_All.f k x.f0 x.f1 x.f2 p) (placesN x p) := by
  induction m with
  | zero => intro x p hx; have := bulk_pos x; omega
  | succ m ih =>
    intro x p hx hp
    have hk := bulk_kids x
    have hbe := bulk_eq x
    have kids : ∀ (j i : Nat) (acc : List (List Int)), i + j = x.f2.length → acc.length + sumB bulk39 (x.f2.drop i) ≤ 2097152 → Ev (fun k => arboretref06_All.l0 k p acc (x.f2.length : Int) (i : Int) x.f0 x.f1 x.f2) (acc ++ placesL (x.f2.drop i) i p) := by
      intro j
      induction j with
      | zero =>
        intro i acc hi ha
        refine Ev.succ ?_
        simp only [arboretref06_All.l0]
        rw [List.drop_of_length_le (by omega)]
        simp only [placesL, List.append_nil]
        exact Ev.neg (by omega) (Ev.some _)
      | succ j ihj =>
        intro i acc hi ha
        have hw := step64 (i := i) (n := x.f2.length) (by omega) (by omega)
        have hmem := getN (xs := x.f2) (i := i) (by omega)
        have hbk := bulk_kid hmem
        have hd := drop_at (l := x.f2) (d := z39) (i := i) (by omega)
        rw [hd] at ha ⊢
        simp only [sumB] at ha
        have h1 := ih (by omega) (x.f2.getD i z39) (p ++ [(i : Int)]) (by omega) (by simp only [List.length_append, List.length_singleton]; omega)
        have hl := places_len (m + 1) (x.f2.getD i z39) (p ++ [(i : Int)]) (by omega)
        have h2 := ihj (i + 1) (acc ++ placesN (x.f2.getD i z39) (p ++ [(i : Int)])) (by omega) (by rw [List.length_append]; omega)
        simp only [placesL]
        rw [← List.append_assoc]
        refine Ev.succ ?_
        simp only [arboretref06_All.l0, rdN, hw, Option.bind_some, List.nil_append]
        exact Ev.pos (by omega) (Ev.pos (Int.natCast_nonneg i) (Ev.pos (by omega) (Ev.pos (by simp only [List.length_nil]; omega) (Ev.pos (by simp only [List.length_singleton]; omega) (Ev.then h1 (Ev.pos (by omega) h2))))))
    refine Ev.succ ?_
    simp only [arboretref06_All.f, Option.bind_some, List.nil_append]
    rw [placesN_eq]
    have := kids x.f2.length 0 [p] (by omega) (by simp only [List.length_singleton, List.drop_zero]; omega)
    simp only [List.drop_zero, List.singleton_append] at this
    exact Ev.pos (by simp only [List.length_nil]; omega) this
theorem equal_same (p : List Int) (hp : p.length ≤ 4194304) : Ev (fun k => arboretref12_Equal.f k p p) true := by
  have key : ∀ (j i : Nat), i + j = p.length → Ev (fun k => arboretref12_Equal.l0 k p p (p.length : Int) (i : Int)) true := by
    intro j
    induction j with
    | zero =>
      intro i hi
      refine Ev.succ ?_
      simp only [arboretref12_Equal.l0]
      exact Ev.neg (by omega) (Ev.some _)
    | succ j ihj =>
      intro i hi
      have hw : wrap64 ((i : Int) + 1) = ((i + 1 : Nat) : Int) := by unfold wrap64; omega
      refine Ev.succ ?_
      simp only [arboretref12_Equal.l0, hw]
      exact Ev.pos (by omega) (Ev.pos (by omega) (Ev.pos (by omega) (Ev.pos (by omega) (Ev.pos (by trivial) (ihj (i + 1) (by omega))))))
  unfold arboretref12_Equal.f
  exact Ev.pos rfl (key p.length 0 (by omega))
end Go.Proofs.Yteejaaeglfpcmaa.PH

set_option linter.unusedVariables false
set_option linter.unusedSimpArgs false
namespace Go.Proofs.Yteejaaeglfpcmaa.PH
open Go.RowKit Go.Proofs.Yteejaaeglfpcmaa.Aid Go.Proofs.YteejaaeglfpcmaaW.PrintWords
def numOn (v : Int) (l : List Int) : Int := l.foldl (fun v c => v * 256 + c) v
def num (l : List Int) : Int := numOn 0 l
def isBytes (l : List Int) : Prop := ∀ b ∈ l, 0 ≤ b ∧ b ≤ 255
theorem isBytes.drop {l : List Int} (h : isBytes l) (i : Nat) : isBytes (l.drop i) := fun b hb => h b (List.mem_of_mem_drop hb)
theorem isBytes.take {l : List Int} (h : isBytes l) (i : Nat) : isBytes (l.take i) := fun b hb => h b (List.mem_of_mem_take hb)
theorem isBytes.tail {a : Int} {l : List Int} (h : isBytes (a :: l)) : isBytes l := fun b hb => h b (List.mem_cons_of_mem _ hb)
theorem isBytes.head {a : Int} {l : List Int} (h : isBytes (a :: l)) : 0 ≤ a ∧ a ≤ 255 := h a List.mem_cons_self
theorem pow_step (j : Nat) : (256 : Int) ^ (j + 1) = 256 ^ j * 256 := by rw [Int.pow_succ]
theorem pow_le (j : Nat) (h : j ≤ 8) : (256 : Int) ^ j ≤ 18446744073709551616 := by
  have h1 : (256 : Nat) ^ j ≤ 256 ^ 8 := Nat.pow_le_pow_right (by decide) h
  have h2 : ((256 ^ j : Nat) : Int) ≤ ((256 ^ 8 : Nat) : Int) := Int.ofNat_le.mpr h1
  simpa using h2
theorem numOn_range : ∀ (l : List Int) (j : Nat) (v : Int), isBytes l → 0 ≤ v → v < 256 ^ j → 0 ≤ numOn v l ∧ numOn v l < 256 ^ (j + l.length)
  | [], j, v, _, h0, h1 => ⟨h0, h1⟩
  | a :: l, j, v, hb, h0, h1 => by
    obtain ⟨a0, a1⟩ := hb.head
    have h := numOn_range l (j + 1) (v * 256 + a) hb.tail (by omega) (by rw [pow_step]; omega)
    have e : j + 1 + l.length = j + (a :: l).length := by rw [List.length_cons]; omega
    rw [e] at h
    exact h
theorem num_range (l : List Int) (hb : isBytes l) : 0 ≤ num l ∧ num l < 256 ^ l.length := by
  have h := numOn_range l 0 0 hb (Int.le_refl 0) (by decide)
  simpa [num] using h
theorem numbOn (l : List Int) : ∀ (j : Nat) (v : Int), isBytes l → 0 ≤ v → v < 256 ^ j → j + l.length ≤ 8 → l.foldl (fun v c => Go.bits .or .u64 (IntKind.u64.wrap (v * 256)) (IntKind.u64.wrap c)) v = numOn v l := by
  induction l with
  | nil => intro j v _ _ _ _; rfl
  | cons a l ih =>
    intro j v hb h0 h1 hl
    obtain ⟨a0, a1⟩ := hb.head
    rw [List.length_cons] at hl
    have hp := pow_le (j + 1) (by omega)
    rw [pow_step] at hp
    have e1 : IntKind.u64.wrap (v * 256) = v * 256 := wu64 (by omega) (by omega)
    have e2 : IntKind.u64.wrap a = a := wu64 a0 (by omega)
    have e3 : Go.bits .or .u64 (v * 256) a = v * 256 + a := or_low 8 (by decide) (by omega) (by simp only [Int.reducePow]; omega) (by omega) a0 (by simp only [Int.reducePow]; omega)
    rw [List.foldl_cons, e1, e2, e3]
    exact ih (j + 1) (v * 256 + a) hb.tail (by omega) (by rw [pow_step]; omega) (by omega)
theorem numb_eq (l : List Int) (hb : isBytes l) (hl : l.length ≤ 8) : numb l = num l := numbOn l 0 0 hb (Int.le_refl 0) (by decide) (by omega)
theorem get_at (l : List Int) (i : Nat) (hb : isBytes l) (h : i + 4 ≤ l.length) : words_Get.f l (i : Int) = some (num ((l.drop i).take 4), true) := by
  unfold words_Get.f
  rw [if_pos ⟨Int.natCast_nonneg i, by omega⟩]
  have e : ((i : Int) + 4).toNat = i + 4 := by omega
  rw [e, Int.toNat_natCast, List.drop_take, show i + 4 - i = 4 by omega, numb_eq _ ((hb.drop i).take 4) (by rw [List.length_take]; omega)]
  have hr := num_range ((l.drop i).take 4) ((hb.drop i).take 4)
  have hl : ((l.drop i).take 4).length = 4 := by rw [List.length_take, List.length_drop]; omega
  rw [hl] at hr
  have : num ((l.drop i).take 4) % 4294967296 = num ((l.drop i).take 4) := Int.emod_eq_of_lt hr.1 (by simpa using hr.2)
  rw [this]
theorem get_no (l : List Int) (i : Nat) (h : l.length < i + 4) : words_Get.f l (i : Int) = some (0, false) := by
  unfold words_Get.f
  rw [if_neg (by omega)]
def cellsOf : List Int → List Int
  | a :: b :: c :: d :: r => num [a, b, c, d] :: cellsOf r
  | _ => []
theorem cells_step (l : List Int) (i : Nat) (h : i + 4 ≤ l.length) : cellsOf (l.drop i) = num ((l.drop i).take 4) :: cellsOf (l.drop (i + 4)) := by
  have h1 : ∃ a b c d r, l.drop i = a :: b :: c :: d :: r := by
    match hh : l.drop i, (by rw [List.length_drop]; omega : 4 ≤ (l.drop i).length) with
    | a :: b :: c :: d :: r, _ => exact ⟨a, b, c, d, r, rfl⟩
  obtain ⟨a, b, c, d, r, e⟩ := h1
  have h2 : l.drop (i + 4) = r := by rw [← List.drop_drop, e]; rfl
  rw [e, h2]
  rfl
theorem cells_length : ∀ (n : Nat) (l : List Int), l.length ≤ n → (cellsOf l).length = l.length / 4
  | 0, l, h => by
    obtain rfl : l = [] := List.eq_nil_of_length_eq_zero (by omega)
    rfl
  | n + 1, l, h => by
    match l, h with
    | [], _ => simp [cellsOf]
    | [_], _ => simp [cellsOf]
    | [_, _], _ => simp [cellsOf]
    | [_, _, _], _ => simp [cellsOf]
    | a :: b :: c :: d :: r, h =>
      have := cells_length n r (by simp only [List.length_cons] at h; omega)
      simp only [cellsOf, List.length_cons, this]
      omega
theorem cells_len (l : List Int) : (cellsOf l).length = l.length / 4 := cells_length l.length l (Nat.le_refl _)
end Go.Proofs.Yteejaaeglfpcmaa.PH

set_option linter.unusedVariables false
set_option linter.unusedSimpArgs false
namespace Go.Proofs.Yteejaaeglfpcmaa.PH
open Go.RowKit Go.Proofs.Yteejaaeglfpcmaa.Rdr Go.Proofs.Yteejaaeglfpcmaa.Aid Go.Proofs.YteejaaeglfpcmaaW.PrintWords
def ixP (s : List UInt8) : List S104 → Nat → Int
  | [], _ => -1
  | p :: r, i => if p.f0.toList = s then (i : Int) else ixP s r (i + 1)
def valP (s : List UInt8) : List S104 → Option (List Int)
  | [] => none
  | p :: r => if p.f0.toList = s then some p.f1 else valP s r
theorem valP_mem {s : List UInt8} {v : List Int} : ∀ {l : List S104}, valP s l = some v → ∃ p ∈ l, p.f1 = v
  | [], h => by simp [valP] at h
  | p :: r, h => by
    simp only [valP] at h
    by_cases c : p.f0.toList = s
    · rw [if_pos c] at h
      exact ⟨p, List.mem_cons_self, Option.some.inj h⟩
    · rw [if_neg c] at h
      obtain ⟨q, hq, e⟩ := valP_mem h
      exact ⟨q, List.mem_cons_of_mem _ hq, e⟩
theorem ixP_val (s : List UInt8) : ∀ (l : List S104) (i : Nat), (valP s l = none ∧ ixP s l i = -1) ∨ ∃ j : Nat, j < l.length ∧ ixP s l i = ((i + j : Nat) : Int) ∧ valP s l = some (l.getD j z104).f1
  | [], i => .inl ⟨rfl, rfl⟩
  | p :: r, i => by
    simp only [valP, ixP]
    by_cases c : p.f0.toList = s
    · rw [if_pos c, if_pos c]
      exact .inr ⟨0, by simp, by simp, by simp⟩
    · rw [if_neg c, if_neg c]
      rcases ixP_val s r (i + 1) with ⟨h1, h2⟩ | ⟨j, h1, h2, h3⟩
      · exact .inl ⟨h1, h2⟩
      · exact .inr ⟨j + 1, by simp; omega, by rw [h2]; congr 1; omega, by rw [h3]; simp⟩
theorem clone_bytes (v : List Int) (h : v.length ≤ 1048576) : bytes_Clone.f v = some v := by
  unfold bytes_Clone.f
  rw [if_pos (by omega)]
def findN (s : List UInt8) (l : List S104) : List Int × Bool := match valP s l with
  | some v => (v, true)
  | none => ([], false)
theorem find_ev (x : S39) (s : ByteArray) (hx : bulk39 x ≤ 1048576) : Ev (fun k => tree_Find.f k x.f0 x.f1 x.f2 s) (findN s.toList x.f1) := by
  have hp := bulk_props x
  have key : ∀ (j i : Nat), i + j = x.f1.length → Ev (fun k => tree_Find.l0 k s x.f1 (x.f1.length : Int) (i : Int)) (findN s.toList (x.f1.drop i)) := by
    intro j
    induction j with
    | zero =>
      intro i hi
      rw [List.drop_of_length_le (by omega)]
      refine Ev.succ ?_
      simp only [tree_Find.l0, findN, valP]
      exact Ev.neg (by omega) (Ev.some _)
    | succ j ih =>
      intro i hi
      have hw := step64 (i := i) (n := x.f1.length) (by omega) (by omega)
      have hm := getP (xs := x.f1) (i := i) (by omega)
      have hb := bulk_prop hm
      have hv := bulk_value (x.f1.getD i z104)
      have hc := clone_bytes (x.f1.getD i z104).f1 (by omega)
      rw [drop_at (l := x.f1) (d := z104) (i := i) (by omega)]
      refine Ev.succ ?_
      simp only [tree_Find.l0, rdP, hw, hc, Option.bind_some]
      refine Ev.pos (by omega) (Ev.pos (Int.natCast_nonneg i) (Ev.pos (by omega) ?_))
      by_cases c : (x.f1.getD i z104).f0.toList = s.toList
      · have e : findN s.toList (x.f1.getD i z104 :: x.f1.drop (i + 1)) = ((x.f1.getD i z104).f1, true) := by simp only [findN, valP, if_pos c]
        rw [e]
        exact Ev.pos c (Ev.some _)
      · have e : findN s.toList (x.f1.getD i z104 :: x.f1.drop (i + 1)) = findN s.toList (x.f1.drop (i + 1)) := by simp only [findN, valP, if_neg c]
        rw [e]
        exact Ev.neg c (ih (i + 1) (by omega))
  have := key x.f1.length 0 (by omega)
  unfold tree_Find.f
  simpa using this
theorem reffind_ev (x : S39) (s : ByteArray) (hx : bulk39 x ≤ 1048576) : Ev (fun k => arboretref01_Find.f k x.f0 x.f1 x.f2 s) (ixP s.toList x.f1 0) := by
  have hp := bulk_props x
  have key : ∀ (j i : Nat), i + j = x.f1.length → Ev (fun k => arboretref01_Find.l0 k s (x.f1.length : Int) (i : Int) x.f0 x.f1 x.f2) (ixP s.toList (x.f1.drop i) i) := by
    intro j
    induction j with
    | zero =>
      intro i hi
      rw [List.drop_of_length_le (by omega)]
      refine Ev.succ ?_
      simp only [arboretref01_Find.l0, ixP]
      exact Ev.neg (by omega) (Ev.some _)
    | succ j ih =>
      intro i hi
      have hw := step64 (i := i) (n := x.f1.length) (by omega) (by omega)
      rw [drop_at (l := x.f1) (d := z104) (i := i) (by omega)]
      refine Ev.succ ?_
      simp only [arboretref01_Find.l0, rdP, hw, ixP]
      refine Ev.pos (by omega) (Ev.pos (Int.natCast_nonneg i) (Ev.pos (by omega) ?_))
      by_cases c : (x.f1.getD i z104).f0.toList = s.toList
      · rw [if_pos c]
        exact Ev.pos c (Ev.some _)
      · rw [if_neg c]
        exact Ev.neg c (ih (i + 1) (by omega))
  have := key x.f1.length 0 (by omega)
  unfold arboretref01_Find.f
  simpa using this
theorem number_loop (l : List Int) (hb : isBytes l) (hl : l.length ≤ 1048576) (i n : Nat) (hi : i + n ≤ l.length) (hn : n ≤ 8) : ∀ (j q : Nat) (v : Int), q + j = n → 0 ≤ v → v < 256 ^ q →
    Ev (fun k => arboretref01_Number.l0 k l (i : Int) v (n : Int) (q : Int)) (numOn v ((l.drop (i + q)).take j), true) := by
  intro j
  induction j with
  | zero =>
    intro q v hq h0 h1
    refine Ev.succ ?_
    simp only [arboretref01_Number.l0]
    exact Ev.neg (by omega) (Ev.some _)
  | succ j ih =>
    intro q v hq h0 h1
    have hw : wrap64 ((q : Int) + 1) = ((q + 1 : Nat) : Int) := by unfold wrap64; omega
    have hw2 : wrap64 ((i : Int) + (q : Int)) = ((i + q : Nat) : Int) := by unfold wrap64; omega
    have hrd : rd l ((i + q : Nat) : Int) = l[i + q]'(by omega) := by
      unfold rd
      rw [Int.toNat_natCast, getD_at (by omega)]
    obtain ⟨a0, a1⟩ := hb _ (List.getElem_mem (l := l) (n := i + q) (by omega))
    have hp := pow_le (q + 1) (by omega)
    rw [pow_step] at hp
    generalize hx : l[i + q]'(by omega) = x at *
    have e1 : IntKind.u64.wrap (v * 256) = v * 256 := wu64 (by omega) (by omega)
    have e2 : IntKind.u64.wrap x = x := wu64 a0 (by omega)
    have e3 : IntKind.u64.wrap (v * 256 + x) = v * 256 + x := wu64 (by omega) (by omega)
    have hd : l.drop (i + q) = x :: l.drop (i + (q + 1)) := by rw [List.drop_eq_getElem_cons (by omega), hx]; rfl
    have h2 := ih (q + 1) (v * 256 + x) (by omega) (by omega) (by rw [pow_step]; omega)
    rw [hd]
    refine Ev.succ ?_
    simp only [arboretref01_Number.l0, hw, hw2, hrd, e1, e2, e3]
    exact Ev.pos (by omega) (Ev.pos (Int.natCast_nonneg _) (Ev.pos (by omega) h2))
theorem number_ev (l : List Int) (hb : isBytes l) (hl : l.length ≤ 1048576) (i n : Nat) (hi : i + n ≤ l.length) (hn : n ≤ 8) :
    Ev (fun k => arboretref01_Number.f k l (i : Int) (n : Int)) (num ((l.drop i).take n), true) := by
  have h := number_loop l hb hl i n hi hn n 0 0 (by omega) (Int.le_refl 0) (by decide)
  unfold arboretref01_Number.f
  have hw : wrap64 ((l.length : Int) - (i : Int)) = (l.length : Int) - (i : Int) := by unfold wrap64; omega
  refine Ev.neg (by omega) (Ev.neg (by omega) (Ev.succ ?_))
  have hd : decide (wrap64 ((l.length : Int) - (i : Int)) < (n : Int)) = false := by rw [hw]; exact decide_eq_false (by omega)
  simp only [arboretref01_Number.j0, hd]
  exact Ev.neg (by decide) h
theorem refcells_loop (l : List Int) (hb : isBytes l) (hl : l.length ≤ 1048576) (h4 : l.length % 4 = 0) : ∀ (j i : Nat) (acc : List Int), i + 4 * j = l.length → acc.length + j ≤ 1048576 →
    Ev (fun k => arboretref06_Cells.l0 k l acc (i : Int)) (acc ++ cellsOf (l.drop i), 0) := by
  intro j
  induction j with
  | zero =>
    intro i acc hi ha
    rw [List.drop_of_length_le (by omega)]
    simp only [cellsOf, List.append_nil]
    refine Ev.succ ?_
    simp only [arboretref06_Cells.l0]
    exact Ev.neg (by omega) (Ev.some _)
  | succ j ih =>
    intro i acc hi ha
    have hw : wrap64 ((i : Int) + 4) = ((i + 4 : Nat) : Int) := by unfold wrap64; omega
    have hn := number_ev l hb hl i 4 (by omega) (by decide)
    have hr := num_range ((l.drop i).take 4) ((hb.drop i).take 4)
    have hlen : ((l.drop i).take 4).length = 4 := by rw [List.length_take, List.length_drop]; omega
    rw [hlen] at hr
    have hm : num ((l.drop i).take 4) % 4294967296 = num ((l.drop i).take 4) := Int.emod_eq_of_lt hr.1 (by simpa using hr.2)
    have h2 := ih (i + 4) (acc ++ [num ((l.drop i).take 4)]) (by omega) (by rw [List.length_append, List.length_singleton]; omega)
    rw [cells_step l i (by omega)]
    rw [List.append_assoc, List.singleton_append] at h2
    refine Ev.succ ?_
    simp only [arboretref06_Cells.l0, hw]
    refine Ev.pos (by omega) (Ev.then hn (Ev.pos (by omega) ?_))
    simp only [hm]
    exact h2
theorem refcells_ev (l : List Int) (hb : isBytes l) (hl : l.length ≤ 1048576) : Ev (fun k => arboretref06_Cells.f k l) (if l.length % 4 = 0 then (cellsOf l, 0) else ([], 4)) := by
  unfold arboretref06_Cells.f
  by_cases h : l.length % 4 = 0
  · rw [if_pos h]
    have := refcells_loop l hb hl h (l.length / 4) 0 [] (by omega) (by simp only [List.length_nil]; omega)
    exact Ev.pos (by omega) (by simpa using this)
  · rw [if_neg h]
    exact Ev.neg (by omega) (Ev.some _)
def oneOf (s : List UInt8) (l : List S104) : Int × Bool × Int := match valP s l with
  | none => (0, false, 0)
  | some v => if v.length = 4 then (num v, true, 0) else (0, false, 4)
theorem one_ev (x : S39) (s : ByteArray) (hx : bulk39 x ≤ 1048576) (hg : good39 x) : Ev (fun k => prop_One.f k x.f0 x.f1 x.f2 s) (oneOf s.toList x.f1) := by
  unfold prop_One.f
  refine Ev.then (find_ev x s hx) ?_
  unfold findN oneOf
  cases hv : valP s.toList x.f1 with
  | none => exact Ev.neg (by decide) (Ev.some _)
  | some v =>
    obtain ⟨p, hp, rfl⟩ := valP_mem hv
    have hby : isBytes p.f1 := good_value p (((good_eq x).mp hg).1 p hp)
    refine Ev.pos rfl ?_
    by_cases h4 : 4 ≤ p.f1.length
    · have hget := get_at p.f1 0 hby (by omega)
      simp only [Int.natCast_zero, List.drop_zero] at hget
      simp only [hget, Option.bind_some]
      refine Ev.pos trivial ?_
      by_cases h : p.f1.length = 4
      · rw [if_pos h, List.take_of_length_le (by omega)]
        exact Ev.pos (by omega) (Ev.some _)
      · rw [if_neg h]
        exact Ev.neg (by omega) (Ev.some _)
    · have hget := get_no p.f1 0 (by omega)
      simp only [Int.natCast_zero] at hget
      have h5 : ¬ p.f1.length = 4 := by omega
      simp only [hget, Option.bind_some]
      rw [if_neg h5]
      exact Ev.neg (by decide) (Ev.some _)
theorem refone_ev (x : S39) (s : ByteArray) (hx : bulk39 x ≤ 1048576) (hg : good39 x) : Ev (fun k => arboretref06_One.f k x.f0 x.f1 x.f2 s) (oneOf s.toList x.f1) := by
  unfold arboretref06_One.f
  refine Ev.then (reffind_ev x s hx) ?_
  unfold oneOf
  rcases ixP_val s.toList x.f1 0 with ⟨h1, h2⟩ | ⟨j, hj, h2, h3⟩
  · rw [h1, h2]
    exact Ev.pos (by decide) (Ev.some _)
  · rw [h2, h3, Nat.zero_add]
    have hp := getP (xs := x.f1) (i := j) hj
    have hby : isBytes (x.f1.getD j z104).f1 := good_value _ (((good_eq x).mp hg).1 _ hp)
    have hb := bulk_prop hp
    have hv := bulk_value (x.f1.getD j z104)
    simp only [rdP]
    refine Ev.neg (by omega) (Ev.pos (Int.natCast_nonneg j) (Ev.pos (by omega) (Ev.then (refcells_ev _ hby (by omega)) ?_)))
    generalize hvv : (x.f1.getD j z104).f1 = v at *
    by_cases h : v.length % 4 = 0
    · rw [if_pos h]
      have hcl := cells_len v
      refine Ev.pos rfl ?_
      by_cases h4 : v.length = 4
      · rw [if_pos h4]
        match v, h4 with
        | [a, b, c, d], _ => exact Ev.pos (by rfl) (Ev.pos (by simp [cellsOf]) (Ev.some _))
      · rw [if_neg h4]
        exact Ev.neg (by simp only [hcl]; omega) (Ev.some _)
    · have h5 : ¬ v.length = 4 := by omega
      rw [if_neg h, if_neg h5]
      exact Ev.neg (by decide) (Ev.some _)
end Go.Proofs.Yteejaaeglfpcmaa.PH

set_option linter.unusedVariables false
set_option linter.unusedSimpArgs false
namespace Go.Proofs.Yteejaaeglfpcmaa.PH
open Go.RowKit Go.Proofs.Yteejaaeglfpcmaa.Rdr Go.Proofs.Yteejaaeglfpcmaa.Aid Go.Proofs.YteejaaeglfpcmaaW.PrintWords
def getS : S39 → List Int → Option S39
  | x, [] => some x
  | x, i :: r => if 0 ≤ i ∧ i < x.f2.length then getS (x.f2.getD i.toNat z39) r else none
theorem kid_mem {x : S39} {i : Int} (h : 0 ≤ i ∧ i < x.f2.length) : x.f2.getD i.toNat z39 ∈ x.f2 := getN (by omega)
theorem getS_bulk : ∀ (l : List Int) (x n : S39), getS x l = some n → bulk39 n ≤ bulk39 x
  | [], x, n, h => by
    simp only [getS, Option.some.injEq] at h
    rw [h]
    exact Nat.le_refl _
  | i :: r, x, n, h => by
    simp only [getS] at h
    by_cases c : 0 ≤ i ∧ i < x.f2.length
    · rw [if_pos c] at h
      have := getS_bulk r _ n h
      have := bulk_kid (kid_mem c)
      omega
    · rw [if_neg c] at h
      cases h
theorem getS_good : ∀ (l : List Int) (x n : S39), getS x l = some n → good39 x → good39 n
  | [], x, n, h, g => by
    simp only [getS, Option.some.injEq] at h
    rw [← h]
    exact g
  | i :: r, x, n, h, g => by
    simp only [getS] at h
    by_cases c : 0 ≤ i ∧ i < x.f2.length
    · rw [if_pos c] at h
      exact getS_good r _ n h (((good_eq x).mp g).2 _ (kid_mem c))
    · rw [if_neg c] at h
      cases h
def rgetR : Option S39 → ByteArray × List S104 × List S39 × Bool
  | some n => (n.f0, n.f1, n.f2, true)
  | none => (⟨#[]⟩, [], [], false)
theorem rget_ev (b : Int) (res : List S151) (x : S39) (l : List Int) (hl : l.length ≤ 1048576) :
    Ev (fun k => arboretref06_Get.f k b res x.f0 x.f1 x.f2 l) (rgetR (getS x l)) := by
  have key : ∀ (j i : Nat) (y : S39), i + j = l.length → Ev (fun k => arboretref06_Get.l0 k l (l.length : Int) (i : Int) y.f0 y.f1 y.f2) (rgetR (getS y (l.drop i))) := by
    intro j
    induction j with
    | zero =>
      intro i y hi
      rw [List.drop_of_length_le (by omega)]
      refine Ev.succ ?_
      simp only [arboretref06_Get.l0, getS, rgetR]
      exact Ev.neg (by omega) (Ev.some _)
    | succ j ih =>
      intro i y hi
      have hw := step64 (i := i) (n := l.length) (by omega) (by omega)
      have hd := drop_at (l := l) (d := 0) (i := i) (by omega)
      have hr : rd l (i : Int) = l.getD i 0 := by unfold rd; rw [Int.toNat_natCast]
      rw [hd]
      refine Ev.succ ?_
      simp only [arboretref06_Get.l0, hr, hw, getS]
      refine Ev.pos (by omega) (Ev.pos (Int.natCast_nonneg i) (Ev.pos (by omega) ?_))
      generalize l.getD i 0 = q
      by_cases h0 : q < 0
      · rw [if_neg (by omega)]
        exact Ev.pos h0 (Ev.some _)
      by_cases h1 : q ≥ (y.f2.length : Int)
      · rw [if_neg (by omega)]
        exact Ev.neg h0 (Ev.pos h1 (Ev.some _))
      have c : 0 ≤ q ∧ q < (y.f2.length : Int) := ⟨by omega, by omega⟩
      rw [if_pos c]
      exact Ev.neg h0 (Ev.neg h1 (Ev.pos c.1 (Ev.pos c.2 (ih (i + 1) (y.f2.getD q.toNat z39) (by omega)))))
  unfold arboretref06_Get.f
  have := key l.length 0 x (by omega)
  simpa using this
end Go.Proofs.Yteejaaeglfpcmaa.PH

namespace Go.Proofs.Yteejaaeglfpcmaa.PH
open Go.RowKit Go.Proofs.YteejaaeglfpcmaaW.PrintWords Go.Proofs.YteejaaeglfpcmaaW.PrintLast Go.Proofs.YteejaaeglfpcmaaW.PrintMore
attribute [local go_sem] max2_int min2_int max_two min_two max_three min_three max_four min_four   -- for this text's walks alone
set_option linter.unusedVariables false
set_option linter.unusedSimpArgs false
def arboretref06_Handle.l0 : Nat → Int → List (S83) → Int → Int → Int → Option (List Int × Bool)
  | 0, _, _, _, _, _ => none
  | k + 1, x1, x6, x7, x15, x16 => if x16 < x15 then (if x7 = 0 then (if 0 ≤ x16 then (if x16 < (x6.length : Int) then (if ((rd_T83 x6 x16).f0) = x1 then (some ((rd_T83 x6 x16).f1, true)) else (arboretref06_Handle.l0 k x1 x6 x7 x15 (wrap64 (x16 + 1)))) else (none)) else (none)) else (arboretref06_Handle.l0 k x1 x6 x7 x15 (wrap64 (x16 + 1)))) else (some (([] : List Int), false))
def arboretref06_Handle.f (k : Nat) (a0_0 : Int) (l0_1 : List (S151)) (a0_2 : ByteArray) (l0_3 : List (S104)) (l0_4 : List (S39)) (a1 : Int) : Option (List Int × Bool) := (arboretref06_Index.f k a0_0 l0_1 a0_2 l0_3 l0_4).bind fun bt208 => (arboretref06_Handle.l0 k a1 bt208.1 bt208.2 (bt208.1.length : Int) 0)
end Go.Proofs.Yteejaaeglfpcmaa.PH

set_option linter.unusedVariables false
set_option linter.unusedSimpArgs false
namespace Go.Proofs.Yteejaaeglfpcmaa.PH
open Go.RowKit Go.Proofs.Yteejaaeglfpcmaa.Rdr Go.Proofs.Yteejaaeglfpcmaa.Aid Go.Proofs.YteejaaeglfpcmaaW.PrintWords Go.Proofs.YteejaaeglfpcmaaW.PrintMore
mutual
def nodesN : S39 → List Int → List (S39 × List Int)
  | ⟨a, b, ks⟩, p => (⟨a, b, ks⟩, p) :: nodesL ks 0 p
def nodesL : List S39 → Nat → List Int → List (S39 × List Int)
  | [], _, _ => []
  | x :: r, i, p => nodesN x (p ++ [(i : Int)]) ++ nodesL r (i + 1) p
end
theorem nodesN_eq (x : S39) (p : List Int) : nodesN x p = (x, p) :: nodesL x.f2 0 p := by cases x; simp only [nodesN]
theorem nodesL_places (m : Nat) (ih : ∀ x : S39, bulk39 x ≤ m → ∀ p, (nodesN x p).map (·.2) = placesN x p) : ∀ (l : List S39) (i : Nat) (p : List Int), sumB bulk39 l ≤ m → (nodesL l i p).map (·.2) = placesL l i p
  | [], i, p, _ => by simp [nodesL, placesL]
  | x :: r, i, p, h => by
    simp only [sumB] at h
    simp only [nodesL, placesL, List.map_append]
    rw [ih x (by omega), nodesL_places m ih r (i + 1) p (by omega)]
theorem nodes_places (m : Nat) : ∀ (x : S39) (p : List Int), bulk39 x ≤ m → (nodesN x p).map (·.2) = placesN x p := by
  induction m with
  | zero => intro x p hx; have := bulk_pos x; omega
  | succ m ih =>
    intro x p hx
    have hb := bulk_eq x
    rw [nodesN_eq, placesN_eq, List.map_cons, nodesL_places m (fun x hx p => ih x p hx) x.f2 0 p (by omega)]
theorem nodes_len (x : S39) (p : List Int) : (nodesN x p).length ≤ bulk39 x := by
  have h := nodes_places (bulk39 x) x p (Nat.le_refl _)
  have h2 := places_len (bulk39 x) x p (Nat.le_refl _)
  rw [← h, List.length_map] at h2
  exact h2
theorem nodesL_get (m : Nat) (ih : ∀ x : S39, bulk39 x ≤ m → ∀ p n q, (n, q) ∈ nodesN x p → ∃ s, q = p ++ s ∧ getS x s = some n) : ∀ (l : List S39) (i : Nat) (p : List Int) (n : S39) (q : List Int), sumB bulk39 l ≤ m → (n, q) ∈ nodesL l i p →
    ∃ (j : Nat) (s : List Int), j < l.length ∧ q = p ++ (((i + j : Nat) : Int) :: s) ∧ getS (l.getD j z39) s = some n
  | [], i, p, n, q, _, h => by simp [nodesL] at h
  | x :: r, i, p, n, q, hs, h => by
    simp only [sumB] at hs
    simp only [nodesL, List.mem_append] at h
    rcases h with h | h
    · obtain ⟨s, h1, h2⟩ := ih x (by omega) _ n q h
      exact ⟨0, s, by simp, by rw [h1, List.append_assoc]; rfl, by simpa using h2⟩
    · obtain ⟨j, s, h1, h2, h3⟩ := nodesL_get m ih r (i + 1) p n q (by omega) h
      exact ⟨j + 1, s, by simp; omega, by rw [h2]; congr 3; omega, by simpa using h3⟩
theorem nodes_get (m : Nat) : ∀ (x : S39), bulk39 x ≤ m → ∀ (p : List Int) (n : S39) (q : List Int), (n, q) ∈ nodesN x p → ∃ s, q = p ++ s ∧ getS x s = some n := by
  induction m with
  | zero => intro x hx; have := bulk_pos x; omega
  | succ m ih =>
    intro x hx p n q h
    have hb := bulk_eq x
    rw [nodesN_eq, List.mem_cons] at h
    rcases h with h | h
    · cases h
      exact ⟨[], by simp, by simp [getS]⟩
    · obtain ⟨j, s, h1, h2, h3⟩ := nodesL_get m (fun x hx => ih x hx) x.f2 0 p n q (by omega) h
      refine ⟨((0 + j : Nat) : Int) :: s, h2, ?_⟩
      simp only [getS]
      rw [if_pos ⟨by omega, by omega⟩, Nat.zero_add, Int.toNat_natCast]
      exact h3
def ph : List UInt8 := (⟨#[112, 104, 97, 110, 100, 108, 101]⟩ : ByteArray).toList
def gather : List (S39 × List Int) → List (Int × List Int) → List (Int × List Int) × Int
  | [], acc => (acc, 0)
  | q :: r, acc => if (oneOf ph q.1.f1).2.2 = 0 then (if (oneOf ph q.1.f1).2.1 = true then (if (oneOf ph q.1.f1).1 = 0 ∨ (oneOf ph q.1.f1).1 = 4294967295 then ([], 11) else if (oneOf ph q.1.f1).1 ∈ acc.map (·.1) then ([], 9) else gather r (acc ++ [((oneOf ph q.1.f1).1, q.2)])) else gather r acc) else ([], (oneOf ph q.1.f1).2.2)
theorem gather_append : ∀ (a b : List (S39 × List Int)) (acc : List (Int × List Int)), gather (a ++ b) acc = if (gather a acc).2 = 0 then gather b (gather a acc).1 else ([], (gather a acc).2)
  | [], b, acc => by simp [gather]
  | q :: r, b, acc => by
    simp only [List.cons_append, gather]
    by_cases h1 : (oneOf ph q.1.f1).2.2 = 0
    · simp only [if_pos h1]
      by_cases h2 : (oneOf ph q.1.f1).2.1 = true
      · simp only [if_pos h2]
        by_cases h3 : (oneOf ph q.1.f1).1 = 0 ∨ (oneOf ph q.1.f1).1 = 4294967295
        · simp only [if_pos h3]
          rw [if_neg (by decide)]
        · simp only [if_neg h3]
          by_cases h4 : (oneOf ph q.1.f1).1 ∈ acc.map (·.1)
          · simp only [if_pos h4]
            rw [if_neg (by decide)]
          · simp only [if_neg h4]
            exact gather_append r b _
      · simp only [if_neg h2]
        exact gather_append r b _
    · simp only [if_neg h1]
theorem gather_len : ∀ (a : List (S39 × List Int)) (acc : List (Int × List Int)), (gather a acc).1.length ≤ acc.length + a.length
  | [], acc => by simp [gather]
  | q :: r, acc => by
    simp only [gather]
    split
    · split
      · split
        · simp
        · split
          · simp
          · have := gather_len r (acc ++ [((oneOf ph q.1.f1).1, q.2)])
            simp only [List.length_append, List.length_cons, List.length_nil] at this ⊢
            omega
      · have := gather_len r acc
        simp only [List.length_cons]
        omega
    · simp
theorem gather_places : ∀ (a : List (S39 × List Int)) (acc : List (Int × List Int)) (p : Int × List Int), p ∈ (gather a acc).1 → p ∈ acc ∨ p.2 ∈ a.map (·.2)
  | [], acc, p, h => .inl (by simpa [gather] using h)
  | q :: r, acc, p, h => by
    simp only [gather] at h
    split at h
    · split at h
      · split at h
        · simp at h
        · split at h
          · simp at h
          · rcases gather_places r _ p h with h | h
            · rw [List.mem_append, List.mem_singleton] at h
              rcases h with h | h
              · exact .inl h
              · exact .inr (by rw [h]; simp)
            · exact .inr (by simp only [List.map_cons, List.mem_cons]; exact .inr h)
      · rcases gather_places r _ p h with h | h
        · exact .inl h
        · exact .inr (by simp only [List.map_cons, List.mem_cons]; exact .inr h)
    · simp at h
theorem oneOf_range (s : List UInt8) (x : S39) (hx : bulk39 x ≤ 1048576) (hg : good39 x) (h : (oneOf s x.f1).2.1 = true) : 0 ≤ (oneOf s x.f1).1 ∧ (oneOf s x.f1).1 ≤ 4294967295 := by
  unfold oneOf at h ⊢
  cases hv : valP s x.f1 with
  | none => simp [hv] at h
  | some v =>
    obtain ⟨p, hp, rfl⟩ := valP_mem hv
    have hby : isBytes p.f1 := good_value p (((good_eq x).mp hg).1 p hp)
    have hr := num_range p.f1 hby
    simp only [hv] at h ⊢
    by_cases h4 : p.f1.length = 4
    · rw [if_pos h4]
      rw [h4] at hr
      have : (256 : Int) ^ 4 = 4294967296 := by decide
      simp only
      omega
    · rw [if_neg h4] at h
      simp at h
def toC (p : Int × List Int) : S79 := ⟨p.1, p.2⟩
def toR (p : Int × List Int) : S83 := ⟨p.1, p.2⟩
def resC (g : List (Int × List Int) × Int) : List S79 × Int := (g.1.map toC, g.2)
def resR (g : List (Int × List Int) × Int) : List S83 × Int := (g.1.map toR, g.2)
theorem toC_fst (acc : List (Int × List Int)) : (acc.map toC).map (·.f0) = acc.map (·.1) := by simp [toC]
theorem clone_ints (p : List Int) (h : p.length ≤ 4194304) : slices_Clone_int_int.f p = some p := by
  unfold slices_Clone_int_int.f
  rw [if_pos (by omega)]
theorem of_ev (m : Nat) (hm : m ≤ 1048576) : ∀ (x : S39) (p : List Int) (acc : List (Int × List Int)), bulk39 x ≤ m → good39 x → p.length + bulk39 x ≤ 2097152 → acc.length + bulk39 x ≤ 2097152 →
    Ev (fun k => handle_of.f k x.f0 x.f1 x.f2 p (acc.map toC)) (resC (gather (nodesN x p) acc)) := by
  induction m with
  | zero => intro x p acc hx; have := bulk_pos x; omega
  | succ m ih =>
    intro x p acc hx hg hp ha
    have hk := bulk_kids x
    have hbe := bulk_eq x
    have hcl := clone_ints p (by omega)
    have kids : ∀ (j i : Nat) (acc : List (Int × List Int)), i + j = x.f2.length → acc.length + sumB bulk39 (x.f2.drop i) ≤ 2097152 → Ev (fun k => handle_of.l0 k p (acc.map toC) x.f2 (x.f2.length : Int) (i : Int)) (resC (gather (nodesL (x.f2.drop i) i p) acc)) := by
      intro j
      induction j with
      | zero =>
        intro i acc hi ha
        rw [List.drop_of_length_le (by omega)]
        refine Ev.succ ?_
        simp only [handle_of.l0, nodesL, gather]
        exact Ev.neg (by omega) (Ev.some _)
      | succ j ihj =>
        intro i acc hi ha
        have hw := step64 (i := i) (n := x.f2.length) (by omega) (by omega)
        have hmem := getN (xs := x.f2) (i := i) (by omega)
        have hbk := bulk_kid hmem
        have hd := drop_at (l := x.f2) (d := z39) (i := i) (by omega)
        rw [hd] at ha ⊢
        simp only [sumB] at ha
        have h1 := ih (by omega) (x.f2.getD i z39) (p ++ [(i : Int)]) acc (by omega) (((good_eq x).mp hg).2 _ hmem) (by simp only [List.length_append, List.length_singleton]; omega) (by omega)
        have hl := nodes_len (x.f2.getD i z39) (p ++ [(i : Int)])
        have hgl := gather_len (nodesN (x.f2.getD i z39) (p ++ [(i : Int)])) acc
        simp only [nodesL]
        rw [gather_append]
        refine Ev.succ ?_
        simp only [handle_of.l0, rdN, hw, hcl, Option.bind_some]
        refine Ev.pos (by omega) (Ev.pos (Int.natCast_nonneg i) (Ev.pos (by omega) (Ev.pos (by omega) (Ev.then h1 ?_))))
        by_cases h0 : (gather (nodesN (x.f2.getD i z39) (p ++ [(i : Int)])) acc).2 = 0
        · rw [if_pos h0]
          exact Ev.pos h0 (ihj (i + 1) _ (by omega) (by omega))
        · rw [if_neg h0]
          exact Ev.neg h0 (Ev.some _)
    have hone := one_ev x ⟨#[112, 104, 97, 110, 100, 108, 101]⟩ (by omega) hg
    have hr := oneOf_range ph x (by omega) hg
    have hsum : sumB bulk39 x.f2 + 1 ≤ bulk39 x := by omega
    rw [nodesN_eq]
    refine Ev.succ ?_
    simp only [handle_of.f, gather]
    refine Ev.then hone ?_
    rw [show (⟨#[112, 104, 97, 110, 100, 108, 101]⟩ : ByteArray).toList = ph from rfl]
    by_cases h1 : (oneOf ph x.f1).2.2 = 0
    · rw [if_pos h1]
      refine Ev.pos h1 ?_
      by_cases h2 : (oneOf ph x.f1).2.1 = true
      · rw [if_pos h2]
        have hr := hr h2
        refine Ev.pos h2 ?_
        by_cases h3 : (oneOf ph x.f1).1 = 0 ∨ (oneOf ph x.f1).1 = 4294967295
        · rw [if_pos h3]
          by_cases h4 : (oneOf ph x.f1).1 < 1
          · exact Ev.pos h4 (Ev.some _)
          · exact Ev.neg h4 (Ev.pos (by omega) (Ev.some _))
        · rw [if_neg h3]
          refine Ev.neg (by omega) (Ev.neg (by omega) ?_)
          by_cases h4 : (oneOf ph x.f1).1 ∈ acc.map (·.1)
          · rw [if_pos h4]
            exact Ev.pos (by rw [toC_fst]; exact h4) (Ev.some _)
          · rw [if_neg h4]
            refine Ev.neg (by rw [toC_fst]; exact h4) ?_
            simp only [hcl, Option.bind_some]
            have := kids x.f2.length 0 (acc ++ [((oneOf ph x.f1).1, p)]) (by omega) (by simp only [List.length_append, List.length_singleton, List.drop_zero]; omega)
            rw [List.map_append] at this
            simp only [List.drop_zero] at this
            exact Ev.pos (by rw [List.length_map]; omega) this
      · rw [if_neg h2]
        have := kids x.f2.length 0 acc (by omega) (by simp only [List.drop_zero]; omega)
        simp only [List.drop_zero] at this
        exact Ev.neg h2 this
    · rw [if_neg h1]
      exact Ev.neg h1 (Ev.some _)
theorem index_ev (b : Int) (res : List S151) (x : S39) (hx : bulk39 x ≤ 1048576) (hg : good39 x) : Ev (fun k => handle_Index.f k b res x.f0 x.f1 x.f2) (resC (gather (nodesN x []) [])) := by
  unfold handle_Index.f
  exact of_ev 1048576 (by omega) x [] [] hx hg (by simp; omega) (by simp; omega)
theorem rdR (xs : List S83) (i : Nat) : rd_T83 xs (i : Int) = xs.getD i z83 := by simp [rd_T83]
theorem rdC (xs : List S79) (i : Nat) : rd_T79 xs (i : Int) = xs.getD i z79 := by simp [rd_T79]
theorem getD_map {α β : Type} (f : α → β) (l : List α) (d : α) (d' : β) (i : Nat) (h : i < l.length) : (l.map f).getD i d' = f (l.getD i d) := by
  rw [getD_at (by rw [List.length_map]; exact h), getD_at h, List.getElem_map]
theorem ref_twice (b : Int) (res : List S151) (x : S39) (ps : List (List Int)) (i : Nat) (hi : i < ps.length) (hps : ps.length ≤ 1048576) (h : Int) (acc : List (Int × List Int)) (ha : acc.length ≤ 1048576) (r : List S83 × Int)
    (next : Ev (fun k => arboretref06_Index.l0 k ((acc ++ [(h, ps.getD i [])]).map toR) ps (ps.length : Int) ((i + 1 : Nat) : Int) b res x.f0 x.f1 x.f2) r) :
    Ev (fun k => arboretref06_Index.l1 k (acc.map toR) ps (i : Int) h (ps.length : Int) (i : Int) ((acc.map toR).length : Int) 0 b res x.f0 x.f1 x.f2) (if h ∈ acc.map (·.1) then ([], 9) else r) := by
  have key : ∀ (j q : Nat), q + j = acc.length → Ev (fun k => arboretref06_Index.l1 k (acc.map toR) ps (i : Int) h (ps.length : Int) (i : Int) ((acc.map toR).length : Int) (q : Int) b res x.f0 x.f1 x.f2) (if h ∈ (acc.drop q).map (·.1) then ([], 9) else r) := by
    intro j
    induction j with
    | zero =>
      intro q hq
      rw [List.drop_of_length_le (by omega)]
      have hw := step64 (i := i) (n := ps.length) hi hps
      have hrd : rd_L13 ps (i : Int) = ps.getD i [] := by simp [rd_L13]
      refine Ev.succ ?_
      simp only [arboretref06_Index.l1, List.length_map, hw, hrd, List.map_nil, List.not_mem_nil, if_false]
      rw [List.map_append] at next
      exact Ev.neg (by omega) (Ev.pos (Int.natCast_nonneg i) (Ev.pos (by omega) (Ev.pos (by omega) next)))
    | succ j ih =>
      intro q hq
      have hw := step64 (i := q) (n := acc.length) (by omega) ha
      have hd := drop_at (l := acc) (d := ((0 : Int), ([] : List Int))) (i := q) (by omega)
      have hrd : (rd_T83 (acc.map toR) (q : Int)).f0 = (acc.getD q (0, [])).1 := by
        rw [rdR, getD_map toR acc (0, []) _ q (by omega)]
        rfl
      have := ih (q + 1) (by omega)
      rw [hd, List.map_cons]
      refine Ev.succ ?_
      simp only [arboretref06_Index.l1, hrd, hw]
      refine Ev.pos (by rw [List.length_map]; omega) (Ev.pos (Int.natCast_nonneg q) (Ev.pos (by rw [List.length_map]; omega) ?_))
      by_cases c : (acc.getD q (0, [])).1 = h
      · rw [if_pos (by rw [← c]; exact List.mem_cons_self)]
        exact Ev.pos c (Ev.some _)
      · have e : (h ∈ (acc.getD q (0, [])).1 :: (acc.drop (q + 1)).map (·.1)) = (h ∈ (acc.drop (q + 1)).map (·.1)) := by
          rw [List.mem_cons, eq_iff_iff]
          exact ⟨fun h2 => h2.resolve_left (fun e => c e.symm), .inr⟩
        simp only [e]
        exact Ev.neg c this
  exact key acc.length 0 (by omega)
theorem refindex_ev (b : Int) (res : List S151) (x : S39) (hx : bulk39 x ≤ 1048576) (hg : good39 x) : Ev (fun k => arboretref06_Index.f k b res x.f0 x.f1 x.f2) (resR (gather (nodesN x []) [])) := by
  obtain ⟨ns, hns⟩ : ∃ ns, ns = nodesN x [] := ⟨_, rfl⟩
  have hps : ns.map (·.2) = placesN x [] := by rw [hns]; exact nodes_places 1048576 x [] hx
  have hlen : ns.length ≤ 1048576 := by rw [hns]; exact Nat.le_trans (nodes_len x []) hx
  have hat : ∀ i, i < ns.length → getS x (ns.getD i (z39, [])).2 = some (ns.getD i (z39, [])).1 := by
    intro i hi
    have hm : (ns.getD i (z39, [])) ∈ nodesN x [] := by rw [← hns, getD_at hi]; exact List.getElem_mem _
    generalize ns.getD i (z39, []) = q at hm ⊢
    obtain ⟨n, p⟩ := q
    obtain ⟨s, h1, h2⟩ := nodes_get 1048576 x hx [] n p hm
    simp only at h1 ⊢
    rw [h1]
    exact h2
  have hpl : ∀ i, i < ns.length → (ns.getD i (z39, [])).2.length ≤ 1048576 := by
    intro i hi
    have hm : (ns.getD i (z39, [])).2 ∈ placesN x [] := by rw [← hps]; exact List.mem_map.mpr ⟨_, by rw [getD_at hi]; exact List.getElem_mem _, rfl⟩
    have := places_each 1048576 x [] hx _ hm
    rw [List.length_nil] at this
    omega
  rw [← hns]
  have l0 : ∀ (j i : Nat) (acc : List (Int × List Int)), i + j = ns.length → acc.length ≤ i → Ev (fun k => arboretref06_Index.l0 k (acc.map toR) (ns.map (·.2)) ((ns.map (·.2)).length : Int) (i : Int) b res x.f0 x.f1 x.f2) (resR (gather (ns.drop i) acc)) := by
    intro j
    induction j with
    | zero =>
      intro i acc hi ha
      rw [List.drop_of_length_le (by omega)]
      refine Ev.succ ?_
      simp only [arboretref06_Index.l0, gather]
      exact Ev.neg (by rw [List.length_map]; omega) (Ev.some _)
    | succ j ih =>
      intro i acc hi ha
      have hw := step64 (i := i) (n := ns.length) (by omega) hlen
      have hd := drop_at (l := ns) (d := (z39, ([] : List Int))) (i := i) (by omega)
      have hget := rget_ev b res x (ns.getD i (z39, [])).2 (hpl i (by omega))
      rw [hat i (by omega)] at hget
      have hb := getS_bulk _ _ _ (hat i (by omega))
      have hgn := getS_good _ _ _ (hat i (by omega)) hg
      have hone := refone_ev (ns.getD i (z39, [])).1 ⟨#[112, 104, 97, 110, 100, 108, 101]⟩ (by omega) hgn
      have hrd : rd_L13 (ns.map (·.2)) (i : Int) = (ns.getD i (z39, [])).2 := by
        have : rd_L13 (ns.map (·.2)) (i : Int) = (ns.map (·.2)).getD i [] := by simp [rd_L13]
        rw [this, getD_map (·.2) ns (z39, []) _ i (by omega)]
      have hgd : (ns.map (·.2)).getD i [] = (ns.getD i (z39, [])).2 := getD_map (·.2) ns (z39, []) _ i (by omega)
      rw [hd]
      simp only [gather]
      refine Ev.succ ?_
      simp only [arboretref06_Index.l0, hrd]
      refine Ev.pos (by rw [List.length_map]; omega) (Ev.pos (Int.natCast_nonneg i) (Ev.pos (by rw [List.length_map]; omega) (Ev.then hget ?_)))
      simp only [rgetR]
      refine Ev.then hone ?_
      rw [show (⟨#[112, 104, 97, 110, 100, 108, 101]⟩ : ByteArray).toList = ph from rfl]
      generalize hq : ns.getD i (z39, []) = q at *
      by_cases h1 : (oneOf ph q.1.f1).2.2 = 0
      · rw [if_pos h1]
        refine Ev.pos h1 ?_
        by_cases h2 : (oneOf ph q.1.f1).2.1 = true
        · rw [if_pos h2]
          refine Ev.pos h2 ?_
          have nxt := ih (i + 1) (acc ++ [((oneOf ph q.1.f1).1, q.2)]) (by omega) (by simp only [List.length_append, List.length_singleton]; omega)
          rw [← hgd] at nxt
          have tw := ref_twice b res x (ns.map (·.2)) i (by rw [List.length_map]; omega) (by rw [List.length_map]; exact hlen) (oneOf ph q.1.f1).1 acc (by omega) _ nxt
          rw [hgd] at tw
          have no : ∀ (c : Bool), c = false → Ev (fun k => arboretref06_Index.j1 k (acc.map toR) (ns.map (·.2)) (i : Int) (oneOf ph q.1.f1).1 ((ns.map (·.2)).length : Int) (i : Int) c b res x.f0 x.f1 x.f2) (if (oneOf ph q.1.f1).1 ∈ acc.map (·.1) then ([], 9) else resR (gather (ns.drop (i + 1)) (acc ++ [((oneOf ph q.1.f1).1, q.2)]))) := by
            intro c hc
            refine Ev.succ ?_
            simp only [arboretref06_Index.j1]
            exact Ev.neg (by rw [hc]; decide) tw
          have yes : Ev (fun k => arboretref06_Index.j1 k (acc.map toR) (ns.map (·.2)) (i : Int) (oneOf ph q.1.f1).1 ((ns.map (·.2)).length : Int) (i : Int) true b res x.f0 x.f1 x.f2) ([], 11) := by
            refine Ev.succ ?_
            simp only [arboretref06_Index.j1]
            exact Ev.pos trivial (Ev.some _)
          by_cases h3 : (oneOf ph q.1.f1).1 = 0
          · rw [if_pos (.inl h3)]
            exact Ev.pos h3 yes
          · refine Ev.neg h3 ?_
            by_cases h4 : (oneOf ph q.1.f1).1 = 4294967295
            · rw [if_pos (.inr h4)]
              have e : ((oneOf ph q.1.f1).1 == 4294967295) = true := beq_iff_eq.mpr h4
              rw [e]
              exact yes
            · rw [if_neg (by omega)]
              have := no ((oneOf ph q.1.f1).1 == 4294967295) (beq_eq_false_iff_ne.mpr h4)
              by_cases h5 : (oneOf ph q.1.f1).1 ∈ acc.map (·.1)
              · rw [if_pos h5] at this ⊢
                exact this
              · rw [if_neg h5] at this ⊢
                exact this
        · rw [if_neg h2]
          have hw2 : wrap64 ((i : Int) + 1) = ((i + 1 : Nat) : Int) := hw
          simp only [hw2]
          exact Ev.neg h2 (ih (i + 1) acc (by omega) (by omega))
      · rw [if_neg h1]
        exact Ev.neg h1 (Ev.some _)
  unfold arboretref06_Index.f
  have hall := refall_ev 1048576 (by omega) x [] hx (by simp; omega)
  rw [← hps] at hall
  refine Ev.then hall ?_
  have := l0 ns.length 0 [] (by omega) (by simp)
  simpa using this
def firstOf (h : Int) : List (Int × List Int) → Option (List Int)
  | [] => none
  | p :: r => if p.1 = h then some p.2 else firstOf h r
def mostOf : List (Int × List Int) → Int → Int
  | [], m => m
  | p :: r, m => mostOf r (mx m p.1)
def findR (h : Int) (g : List (Int × List Int) × Int) : List Int × Int := if g.2 = 0 then (match firstOf h g.1 with | some p => (p, 0) | none => ([], 11)) else ([], g.2)
theorem g_len (x : S39) (hx : bulk39 x ≤ 1048576) : (gather (nodesN x []) []).1.length ≤ 1048576 := by
  have h1 := gather_len (nodesN x []) []
  have h2 := nodes_len x []
  simp only [List.length_nil] at h1
  omega
theorem hfind_ev (b : Int) (res : List S151) (x : S39) (hx : bulk39 x ≤ 1048576) (hg : good39 x) (h : Int) : Ev (fun k => handle_Find.f k b res x.f0 x.f1 x.f2 h) (findR h (gather (nodesN x []) [])) := by
  have hl := g_len x hx
  unfold handle_Find.f findR
  refine Ev.then (index_ev b res x hx hg) ?_
  generalize gather (nodesN x []) [] = g at *
  simp only [resC]
  by_cases h0 : g.2 = 0
  · rw [if_pos h0]
    refine Ev.pos h0 ?_
    have key : ∀ (j i : Nat), i + j = g.1.length → Ev (fun k => handle_Find.l0 k h (g.1.map toC) ((g.1.map toC).length : Int) (i : Int)) (match firstOf h (g.1.drop i) with | some p => (p, 0) | none => ([], 11)) := by
      intro j
      induction j with
      | zero =>
        intro i hi
        rw [List.drop_of_length_le (by omega)]
        refine Ev.succ ?_
        simp only [handle_Find.l0, firstOf]
        exact Ev.neg (by rw [List.length_map]; omega) (Ev.some _)
      | succ j ih =>
        intro i hi
        have hw := step64 (i := i) (n := g.1.length) (by omega) hl
        have hd := drop_at (l := g.1) (d := ((0 : Int), ([] : List Int))) (i := i) (by omega)
        have hrd : rd_T79 (g.1.map toC) (i : Int) = toC (g.1.getD i (0, [])) := by rw [rdC, getD_map toC g.1 (0, []) _ i (by omega)]
        rw [hd]
        refine Ev.succ ?_
        simp only [handle_Find.l0, hrd, hw, firstOf]
        refine Ev.pos (by rw [List.length_map]; omega) (Ev.pos (Int.natCast_nonneg i) (Ev.pos (by rw [List.length_map]; omega) ?_))
        by_cases c : (g.1.getD i (0, [])).1 = h
        · rw [if_pos c]
          exact Ev.pos c (Ev.some _)
        · rw [if_neg c]
          exact Ev.neg c (ih (i + 1) (by omega))
    have := key g.1.length 0 (by omega)
    simpa using this
  · rw [if_neg h0]
    exact Ev.neg h0 (Ev.some _)
theorem hmost_ev (b : Int) (res : List S151) (x : S39) (hx : bulk39 x ≤ 1048576) (hg : good39 x) : Ev (fun k => handle_Most.f k b res x.f0 x.f1 x.f2) (mostOf (gather (nodesN x []) []).1 0, (gather (nodesN x []) []).2) := by
  have hl := g_len x hx
  unfold handle_Most.f
  refine Ev.then (index_ev b res x hx hg) ?_
  generalize gather (nodesN x []) [] = g at *
  simp only [resC]
  have key : ∀ (j i : Nat) (m : Int), i + j = g.1.length → Ev (fun k => handle_Most.l0 k g.2 m (g.1.map toC) ((g.1.map toC).length : Int) (i : Int)) (mostOf (g.1.drop i) m, g.2) := by
    intro j
    induction j with
    | zero =>
      intro i m hi
      rw [List.drop_of_length_le (by omega)]
      refine Ev.succ ?_
      simp only [handle_Most.l0, mostOf]
      exact Ev.neg (by rw [List.length_map]; omega) (Ev.some _)
    | succ j ih =>
      intro i m hi
      have hw := step64 (i := i) (n := g.1.length) (by omega) hl
      have hd := drop_at (l := g.1) (d := ((0 : Int), ([] : List Int))) (i := i) (by omega)
      have hrd : rd_T79 (g.1.map toC) (i : Int) = toC (g.1.getD i (0, [])) := by rw [rdC, getD_map toC g.1 (0, []) _ i (by omega)]
      rw [hd]
      refine Ev.succ ?_
      simp only [handle_Most.l0, hrd, hw, mostOf]
      exact Ev.pos (by rw [List.length_map]; omega) (Ev.pos (Int.natCast_nonneg i) (Ev.pos (by rw [List.length_map]; omega) (ih (i + 1) _ (by omega))))
  have := key g.1.length 0 0 (by omega)
  simpa using this
theorem refmost_ev (b : Int) (res : List S151) (x : S39) (hx : bulk39 x ≤ 1048576) (hg : good39 x) : Ev (fun k => arboretref06_Most.f k b res x.f0 x.f1 x.f2) (mostOf (gather (nodesN x []) []).1 0) := by
  have hl := g_len x hx
  unfold arboretref06_Most.f
  refine Ev.then (refindex_ev b res x hx hg) ?_
  generalize gather (nodesN x []) [] = g at *
  simp only [resR]
  have key : ∀ (j i : Nat) (m : Int), i + j = g.1.length → Ev (fun k => arboretref06_Most.l0 k (g.1.map toR) m ((g.1.map toR).length : Int) (i : Int)) (mostOf (g.1.drop i) m) := by
    intro j
    induction j with
    | zero =>
      intro i m hi
      rw [List.drop_of_length_le (by omega)]
      refine Ev.succ ?_
      simp only [arboretref06_Most.l0, mostOf]
      exact Ev.neg (by rw [List.length_map]; omega) (Ev.some _)
    | succ j ih =>
      intro i m hi
      have hw := step64 (i := i) (n := g.1.length) (by omega) hl
      have hd := drop_at (l := g.1) (d := ((0 : Int), ([] : List Int))) (i := i) (by omega)
      have hrd : rd_T83 (g.1.map toR) (i : Int) = toR (g.1.getD i (0, [])) := by rw [rdR, getD_map toR g.1 (0, []) _ i (by omega)]
      rw [hd]
      refine Ev.succ ?_
      simp only [arboretref06_Most.l0, hrd, hw, mostOf]
      exact Ev.pos (by rw [List.length_map]; omega) (Ev.pos (Int.natCast_nonneg i) (Ev.pos (by rw [List.length_map]; omega) (ih (i + 1) _ (by omega))))
  have := key g.1.length 0 0 (by omega)
  simpa using this
theorem g_places (x : S39) (hx : bulk39 x ≤ 1048576) (p : Int × List Int) (h : p ∈ (gather (nodesN x []) []).1) : p.2.length ≤ 1048576 := by
  rcases gather_places _ _ _ h with h | h
  · simp at h
  · rw [nodes_places 1048576 x [] hx] at h
    have := places_each 1048576 x [] hx _ h
    simp at this
    omega
end Go.Proofs.Yteejaaeglfpcmaa.PH

set_option linter.unusedVariables false
set_option linter.unusedSimpArgs false
namespace Go.Proofs.Yteejaaeglfpcmaa.PH
open Go.RowKit Go.Proofs.Yteejaaeglfpcmaa.Rdr Go.Proofs.Yteejaaeglfpcmaa.Aid Go.Proofs.YteejaaeglfpcmaaW.PrintWords
theorem awake_ev : Ev (fun k => arboretlaw08_awake.f k) true := by
  have h := hfind_ev 0 [] ⟨⟨#[]⟩, [], []⟩ (by rw [bulk_eq]; simp [sumB]; decide) ((good_eq _).mpr ⟨by simp, by simp⟩) 0
  unfold arboretlaw08_awake.f
  refine Ev.then h ?_
  have e : findR 0 (gather (nodesN ⟨⟨#[]⟩, [], []⟩ []) []) = ([], 11) := by
    simp [nodesN, nodesL, gather, oneOf, valP, findR, firstOf]
  rw [e]
  exact Ev.some _
end Go.Proofs.Yteejaaeglfpcmaa.PH

set_option linter.unusedVariables false
set_option linter.unusedSimpArgs false
namespace Go.Proofs.Yteejaaeglfpcmaa.Pure
open Go.RowKit Go.Proofs.Yteejaaeglfpcmaa.PH Go.Proofs.Yteejaaeglfpcmaa.Rdr Go.Proofs.Yteejaaeglfpcmaa.Aid Go.Proofs.YteejaaeglfpcmaaW.PrintWords
theorem HandleIndex : arboretlaw08_HandleIndex.Pure := by
  intro t hb gt
  have hb2 : 1 + (sumB bulk151 t.f1 + 1) + bulk39 t.f2 + 1 ≤ 1048576 := hb
  have hx : bulk39 t.f2 ≤ 1048576 := by omega
  have hg : good39 t.f2 := gt.2.2
  obtain ⟨v, hv⟩ := few_ends t.f0 t.f1 t.f2 hx
  have aw := awake_ev
  have hi := index_ev t.f0 t.f1 t.f2 hx hg
  have ri := refindex_ev t.f0 t.f1 t.f2 hx hg
  have hm := hmost_ev t.f0 t.f1 t.f2 hx hg
  have rm := refmost_ev t.f0 t.f1 t.f2 hx hg
  have hl := g_len t.f2 hx
  have hpl := g_places t.f2 hx
  refine Ev.out (?_ : Ev (fun k => arboretlaw08_HandleIndex.f k t.f0 t.f1 t.f2.f0 t.f2.f1 t.f2.f2) true)
  unfold arboretlaw08_HandleIndex.f
  refine Ev.then aw (Ev.pos rfl (Ev.then hv (Ev.succ ?_)))
  simp only [arboretlaw08_HandleIndex.j0]
  cases v with
  | false => exact Ev.pos rfl (Ev.then aw (Ev.some _))
  | true =>
    refine Ev.neg (by decide) (Ev.then hi (Ev.then ri (Ev.then hm ?_)))
    generalize gather (nodesN t.f2 []) [] = g at *
    simp only [resC, resR]
    refine Ev.pos trivial (Ev.pos trivial (Ev.pos (by simp) (Ev.then rm ?_)))
    have e : (mostOf g.1 0 != mostOf g.1 0) = false := by simp
    rw [e]
    refine Ev.succ ?_
    simp only [arboretlaw08_HandleIndex.j1]
    refine Ev.neg (by decide) ?_
    have key : ∀ (j i : Nat), i + j = g.1.length → Ev (fun k => arboretlaw08_HandleIndex.l0 k (g.1.map toC) (g.1.map toR) ((g.1.map toC).length : Int) (i : Int)) true := by
      intro j
      induction j with
      | zero =>
        intro i hi
        refine Ev.succ ?_
        simp only [arboretlaw08_HandleIndex.l0]
        exact Ev.neg (by rw [List.length_map]; omega) (Ev.some _)
      | succ j ih =>
        intro i hi
        have hw := step64 (i := i) (n := g.1.length) (by omega) hl
        have hC : rd_T79 (g.1.map toC) (i : Int) = toC (g.1.getD i (0, [])) := by rw [rdC, getD_map toC g.1 (0, []) _ i (by omega)]
        have hR : rd_T83 (g.1.map toR) (i : Int) = toR (g.1.getD i (0, [])) := by rw [rdR, getD_map toR g.1 (0, []) _ i (by omega)]
        have hp := hpl (g.1.getD i (0, [])) (by rw [getD_at (by omega : i < g.1.length)]; exact List.getElem_mem _)
        refine Ev.succ ?_
        simp only [arboretlaw08_HandleIndex.l0, hC, hR, hw]
        exact Ev.pos (by rw [List.length_map]; omega) (Ev.pos (Int.natCast_nonneg i) (Ev.pos (by rw [List.length_map]; omega) (Ev.pos (by rw [List.length_map]; omega) (Ev.pos rfl (Ev.then (equal_same _ (by show (g.1.getD i (0, [])).2.length ≤ _; omega)) (Ev.pos rfl (ih (i + 1) (by omega))))))))
    exact key g.1.length 0 (by omega)
end Go.Proofs.Yteejaaeglfpcmaa.Pure

namespace Go.Proofs.Yteejaaeglfpcmaa.handleIndex
open Go.ChangeShapes Go.WideShapes Go.ChangeAt Go.RowKit Go.Proofs.Yteejaaeglfpcmaa.Rdr Go.Proofs.Yteejaaeglfpcmaa.PH
open Go.ChangeMaps (open_string shut_string)
set_option linter.unusedVariables false
set_option linter.unusedSimpArgs false
theorem own : ownKnob Try.prog.godebug = none := by kernel_rfl
theorem laidOut : laidOutB Try.prog = true := by kernel_rfl
set_option maxRecDepth 100000 in
theorem contract (H : Type) (enc : TypeId × Value → H) (W : World) (base : Nat) (args : Array Value) (ds gs : List (DataW H)) (before : List MemPlace)
    (hval0 : ∀ (j : Nat) t v, Try.f12.params[j]? = some t → args[j]? = some v → Value.okWide Try.prog W .any base t v)
    (hW : DataW.Whole enc Try.prog Try.f12.params.toList Rows.handleIndexSpec.vars false W args.toList ds gs before) (hk : Rows.uptoSmall H (ds ++ gs) = true) :
    Calls Try.prog 12 args W fun e W' => ∃ v, e = .returned v ∧ Rows.handleIndexSpec.post enc Try.prog Try.f12 false true false false W args v W' := by
  have hval : ∀ (j : Nat) t v, Try.f12.params[j]? = some t → args[j]? = some v → Value.okWide Try.prog W .any base t v := hval0
  have hW' := hW
  obtain ⟨p, q, hA0, hV, rfl, hfz, hnd⟩ := hW
  have hA : DataW.TrodAll enc Try.prog W 0 (fun _ => true) true Try.f12.params.toList args.toList ds p := hA0
  rw [Try.params12] at hA hval
  obtain ⟨v0, vs0, d0, ds0, p0, q0, hargs, rfl, rfl, h0, tr0⟩ := trodAll_cons hA
  obtain ⟨rfl, rfl, rfl⟩ := trodAll_nil tr0
  obtain rfl : args = #[v0] := by cases args; simp_all
  obtain ⟨rfl, rfl⟩ := trodVars_none hV
  have hb := bound hk
  simp only [List.append_nil, Rows.uptoBulkAll, List.nil_append] at hb
  have k0 := h0
  have lt0 : ∀ x ∈ p0, x.block < W.heap.size := by obtain ⟨m, hm⟩ := k0; exact DataW.trod_lt m _ _ _ hm
  obtain ⟨cs0, rfl, hcs0⟩ : ∃ cs, v0 = .agg cs ∧ True := by
    have z := (hval 0 43 v0 rfl rfl)
    simp only [Value.okWide, Try.underlying43] at z
    obtain ⟨cs, hc, _⟩ := z
    exact ⟨cs, hc, trivial⟩
  obtain ⟨f0, hf0⟩ := h0
  obtain ⟨x0, K0, b0, g0⟩ := rd43 W f0 H enc f0 (Nat.le_refl _) _ _ hf0
  obtain ⟨A0_1, c0_1, A0_3, c0_3, A0_4, c0_4, e0, l0_1, r0_1, l0_3, r0_3, l0_4, r0_4⟩ := k43_open K0
  obtain ⟨cl0⟩ := cs0
  have e0' : cl0 = _ := e0
  subst e0'
  obtain ⟨k, hk_⟩ := Pure.HandleIndex x0 (by (try simp only [Rows.uptoBulk, Array.length_toList] at hb); first | omega | (simp only [ByteArray.size] at *; omega)) g0
  refine (arboretlaw08_HandleIndex.calls k x0.f0 A0_1 c0_1 x0.f1 x0.f2.f0 A0_3 c0_3 x0.f2.f1 A0_4 c0_4 x0.f2.f2 true W r0_1 l0_1 r0_3 l0_3 r0_4 l0_4 hk_).mono fun e W' ⟨he, bel0⟩ => ?_
  have bel : Below W.heap.size W W' := bel0
  subst he
  exact ⟨_, rfl, _, _, _, [], _, [], hW', trodAll_mk1 (shut_bool Try.underlying4 _), (trodAll_cons_mk (Below.trod laidOut (by kernel_rfl) (of_decide_eq_true (by kernel_rfl)) k0 bel lt0) trodAll_mk0), rfl, bel.frame _, fun h => by cases h⟩
set_option maxRecDepth 100000 in
theorem lifted (os : Os) (started : os.Started) (H : Type) (enc : TypeId × Value → H) (F : Stop.Interp) :
    ReturnsInHanded {} Try.checked os 12 .any ((Rows.OpenSpec.upto Rows.handleIndexSpec).pre6 enc Try.prog Try.f12 Rows.handleIndexUptoRow.domain false) (((Rows.OpenSpec.upto Rows.handleIndexSpec).at F).post enc Try.prog Try.f12 false true false false) := by
  refine returnsInHanded_of_cond (C := Try.checked) (s := Rows.OpenSpec.upto Rows.handleIndexSpec) (k := Rows.uptoSmall) rfl own started (by kernel_rfl) Try.func12
    (OpenSpec.witness (enc := enc) (C := Try.checked) (s := Rows.OpenSpec.upto Rows.handleIndexSpec) (k := Rows.uptoSmall) rfl false ⟨#[], #[.agg #[.int .u32 0, .slice none 0 0, .string ByteArray.empty, .slice none 0 0, .slice none 0 0]], []⟩ 16 (by kernel_rfl) (by kernel_rfl) (by kernel_rfl)
      (x := ([.agg [.lit (.int .u32 0), .nil, .agg [.lit (.string []), .nil, .nil]]], [], [])) (by kernel_rfl) rfl (by kernel_rfl)) ?_
  intro W base args ds gs before hval hW _ hk _
  exact contract H enc W base args ds gs before hval hW hk
theorem over : Rows.handleIndexUptoRow.holds Try.pinned (Rows.OpenSpec.upto Rows.handleIndexSpec) :=
  OpenClaim.holds_of_cond 12 Try.f12 rfl rfl rfl rfl rfl rfl rfl ⟨rfl, rfl, rfl, rfl, rfl⟩ rfl rfl rfl rfl rfl (by kernel_rfl) Try.func12 (by kernel_rfl)
    (of_decide_eq_true (by kernel_rfl)) (by unfold Func.isWrapper; first | (rw [if_pos (by decide +kernel)]; kernel_rfl) | (rw [if_neg (by decide +kernel)]; exact ⟨rfl, rfl⟩))
    (fun os started H enc _ F => lifted os started H enc F)
theorem proved : Rows.HandleIndexUptoSaid := over
end Go.Proofs.Yteejaaeglfpcmaa.handleIndex
namespace Go.Proofs.Yteejaaeglfpcmaa
theorem handleIndex_holds : Rows.HandleIndexUptoSaid := handleIndex.proved
end Go.Proofs.Yteejaaeglfpcmaa
