/- XlateParts: texts of this session's, and what the kit's print laid for this seat, as far as the law's row uses them (PXx0, PXx0, PXx0, Rdr, PXKinds, Aid, Tree, Num, One, PXx_arboretref12_Inside, Win2, Gets, PXx_strings_IndexByte, Name). -/
import Derived.Test.YteejaaeglfpcmabZXlateParts3
set_option linter.unusedVariables false
set_option linter.unusedSimpArgs false
namespace Go.Proofs.Yteejaaeglfpcmab.PX
open Go.RowKit Go.Proofs.YteejaaeglfpcmabW.PrintWords Go.Proofs.YteejaaeglfpcmabW.PrintLast Go.Proofs.YteejaaeglfpcmabW.PrintMore
attribute [local go_sem] max2_int min2_int max_two min_two max_three min_three max_four min_four
def arboretref12_Meet.j0 : Nat → Bool → Int → Int → Int → Int → Option (Bool)
 | 0, _, _, _, _, _ => none
 | k + 1, x14, xdY, xfn, xdM, xfc => if x14 = true then (some false) else ((arboretref12_Whole.f xdY xfn).bind fun ter => (if ter = true then ((arboretref12_Whole.f xdM xfc).bind fun tdb => (if tdb = true then (if xdY ≤ (IntKind.u64.wrap (xdM + (IntKind.u64.wrap (xfc - 1)))) then (some (decide (xdM ≤ (IntKind.u64.wrap (xdY + (IntKind.u64.wrap (xfn - 1))))))) else (some false)) else (if xdY ≤ 18446744073709551615 then (some (decide (xdM ≤ (IntKind.u64.wrap (xdY + (IntKind.u64.wrap (xfn - 1))))))) else (some false)))) else ((arboretref12_Whole.f xdM xfc).bind fun tdc => (if tdc = true then (if xdY ≤ (IntKind.u64.wrap (xdM + (IntKind.u64.wrap (xfc - 1)))) then (some (decide (xdM ≤ 18446744073709551615))) else (some false)) else (if xdY ≤ 18446744073709551615 then (some (decide (xdM ≤ 18446744073709551615))) else (some false))))))
def arboretref12_Meet.f (k : Nat) (a0_0 : Int) (a0_1 : Int) (a1_0 : Int) (a1_1 : Int) : Option (Bool) := if a0_1 = 0 then (arboretref12_Meet.j0 k true a0_0 a0_1 a1_0 a1_1) else (arboretref12_Meet.j0 k (a1_1 == 0) a0_0 a0_1 a1_0 a1_1)
set_option maxHeartbeats 8000000 in
set_option maxRecDepth 100000 in
theorem arboretref12_Meet.calls (k : Nat) (a0_0 : Int) (a0_1 : Int) (a1_0 : Int) (a1_1 : Int) (r : Bool) (w : World) (h : arboretref12_Meet.f k a0_0 a0_1 a1_0 a1_1 = some r) :
  Calls Try.prog 52 #[.agg #[.int .u64 a0_0, .int .u64 a0_1], .agg #[.int .u64 a1_0, .int .u64 a1_1]] w fun e w' => e = .returned (.bool r) ∧ Below w.heap.size w w' := by
 have hu66 := Try.underlying66; have HB := Zq129; have H : (if a0_1 = 0 then (arboretref12_Meet.j0 k true a0_0 a0_1 a1_0 a1_1) else (arboretref12_Meet.j0 k (a1_1 == 0) a0_0 a0_1 a1_0 a1_1)) = some r := h; clear h; have HC3 := Ak H; clear H
 go_enter Try.func52, Try.ntmps52
 go_upto_region 1 with (first | ((with_reducible refine gate_dst (N := 2) rfl ?_); refine box_event ?hg (N := 2) ?hd (cs := #[.int .u64 a0_0, .int .u64 a0_1]) (t := 66) ?hr ?_; (case hd | hg => rfl); (case hr => first | (go_simp; done) | (go_simp; rfl)); intro gbaI hg w4 hbox hb; have n0_ := Zq122; have n1_ := Ak (hbox); have n2_ := Ak ((by rw [hg]; exact (below_size Zq5) : w.heap.size ≤ gbaI)); have n3_ := Ak ((by rw [hg]; exact (below_size Zq5) : w.heap.size ≤ gbaI)); clear HB; have HB := n0_; have BKaI := n1_; have GWaI := n2_; have GEaI := n3_; clear n0_ n1_ n2_ n3_ hb hbox hg) | ((with_reducible refine gate_dst (N := 3) rfl ?_); refine box_event ?hg (N := 3) ?hd (cs := #[.int .u64 a1_0, .int .u64 a1_1]) (t := 66) ?hr ?_; (case hd | hg => rfl); (case hr => first | (go_simp; done) | (go_simp; rfl)); intro gbaQ hg w5 hbox hb; have n0_ := Ak (blk_below (g := gbaI) (o := .cells #[.int .u64 a0_0, .int .u64 a0_1] 66 (0, 0)) Zq91 hb); have n1_ := Ak (below_step (by repeat (first | (with_reducible first | exact HB.out | apply below_alloc | apply pw_below_drewN | apply below_drew1 | refine below_set ?_ GEaI.out) | exact HB.out)) hb); have n2_ := Ak (hbox); have n3_ := Ak ((by rw [hg]; exact (below_size (by repeat (first | (with_reducible first | exact HB.out | apply below_alloc | apply pw_below_drewN | apply below_drew1 | refine below_set ?_ GEaI.out) | exact HB.out))) : w.heap.size ≤ gbaQ)); have n4_ := Ak ((by rw [hg]; exact (below_size (by repeat (first | (with_reducible first | exact HB.out | apply below_alloc | apply pw_below_drewN | apply below_drew1 | refine below_set ?_ GEaI.out) | exact HB.out))) : w.heap.size ≤ gbaQ)); have n5_ := Ak ((by rw [hg]; exact Nat.ne_of_lt (blk_lt (g := gbaI) (o := .cells #[.int .u64 a0_0, .int .u64 a0_1] 66 (0, 0)) Zq91) : gbaI ≠ gbaQ)); have n6_ := Ak ((by rw [hg]; exact Nat.ne_of_gt (blk_lt (g := gbaI) (o := .cells #[.int .u64 a0_0, .int .u64 a0_1] 66 (0, 0)) Zq91) : gbaQ ≠ gbaI)); clear BKaI HB; have BKaI := n0_; have HB := n1_; have BKaQ := n2_; have GWaQ := n3_; have GEaQ := n4_; have NB433_434 := n5_; have NB434_433 := n6_; clear n0_ n1_ n2_ n3_ n4_ n5_ n6_ hb hbox hg))
 (try simp only [Act.put, List.setIfInBounds_toArray, List.set_cons_zero, List.set_cons_succ])
 go_cut [14] (fun v14 wc => ∃ (kq : Nat) (x14_2 : Bool), v14 = .bool x14_2 ∧ Aside0 (arboretref12_Meet.j0 kq x14_2 a0_0 a0_1 a1_0 a1_1 = some r) ∧ Aside0 (kq ≤ k) ∧ Aside0 (wc.heap[gbaI]? = some (.cells #[.int .u64 a0_0, .int .u64 a0_1] 66 (0, 0))) ∧ Aside0 (wc.heap[gbaQ]? = some (.cells #[.int .u64 a1_0, .int .u64 a1_1] 66 (0, 0))) ∧ Aside0 (Below w.heap.size w wc))
 case first =>
  have H := HC3.out; clear HC3
  by_cases c6 : a0_1 = 0
  ·rw [if_pos c6] at H; have c6b0 : (a0_1 == 0) = true := beq_iff_eq.mpr c6; have c6b1 : (a0_1 != 0) = false := bne_eq_false_iff_eq.mpr c6; clear c6
   (first | rw [c6b0] | (simp only [i64_w, i32_w]; rw [c6b0]) | skip)
   have H' := Ak H; clear H; have hnb7 := NB433_434.out; have hnc7 := NB434_433.out; have hcz8_0 : w5.cell? ⟨gbaI, 0, none⟩ = some (.int .u64 a0_0) := (blk_cell BKaI.out 0).trans rfl; have hcz8_1 : w5.cell? ⟨gbaI, 1, none⟩ = some (.int .u64 a0_1) := (blk_cell BKaI.out 1).trans rfl; have hfz8_0 := blk_frozen BKaI.out 0; have hfz8_1 := blk_frozen BKaI.out 1
   go_wp2
   go_meet
   case rel => exact ⟨_, (true), Zq6, H', ⟨Zq13⟩, ⟨Zq91⟩, ⟨by (with_reducible repeat (first | refine blk_drewN ?_ _ | refine blk_drew ?_ | refine blk_alloc ?_ _)); exact BKaQ.out⟩, ⟨Zq51⟩⟩
  ·rw [if_neg c6] at H; have c6b0 : (a0_1 == 0) = false := beq_eq_false_iff_ne.mpr c6; have c6b1 : (a0_1 != 0) = true := bne_iff_ne.mpr c6
   (first | rw [c6b0] | (simp only [i64_w, i32_w]; rw [c6b0]) | skip)
   have H' := Ak H; clear H; have hnb9 := NB433_434.out; have hnc9 := NB434_433.out; have hcz10_0 : w5.cell? ⟨gbaI, 0, none⟩ = some (.int .u64 a0_0) := (blk_cell BKaI.out 0).trans rfl; have hcz10_1 : w5.cell? ⟨gbaI, 1, none⟩ = some (.int .u64 a0_1) := (blk_cell BKaI.out 1).trans rfl; have hfz10_0 := blk_frozen BKaI.out 0; have hfz10_1 := blk_frozen BKaI.out 1; have hcz11_0 : w5.cell? ⟨gbaQ, 0, none⟩ = some (.int .u64 a1_0) := (blk_cell BKaQ.out 0).trans rfl; have hcz11_1 : w5.cell? ⟨gbaQ, 1, none⟩ = some (.int .u64 a1_1) := (blk_cell BKaQ.out 1).trans rfl; have hfz11_0 := blk_frozen BKaQ.out 0; have hfz11_1 := blk_frozen BKaQ.out 1
   go_wp2
   go_meet
   case rel => exact ⟨_, ((a1_1 == 0)), Zq6, H', ⟨Zq13⟩, ⟨Zq91⟩, ⟨by (with_reducible repeat (first | refine blk_drewN ?_ _ | refine blk_drew ?_ | refine blk_alloc ?_ _)); exact BKaQ.out⟩, ⟨Zq51⟩⟩
 case rest =>
  clear HC3
  try clear p2
  try clear c5
  try clear c6
  try clear c6b0
  try clear c6b1
  try clear c7
  try clear c9
  try clear hcz10_0
  try clear hcz10_1
  try clear hcz11_0
  try clear hcz11_1
  try clear hcz8_0
  try clear hcz8_1
  try clear hfz10_0
  try clear hfz10_1
  try clear hfz11_0
  try clear hfz11_1
  try clear hfz8_0
  try clear hfz8_1
  obtain ⟨kq, x14_2, rfl, HA, HJ2, BKaI, BKaQ, HB⟩ := hcut
  cases kq with
  | zero => exact absurd HA.out (by simp [arboretref12_Meet.j0])
  | succ kj2 =>
   have H := HA.out; clear HA; simp only [arboretref12_Meet.j0] at H
   by_cases c12 : x14_2 = true
   ·subst c12
    have H1 : (some false) = some r := by rw [if_pos rfl] at H; exact H
    clear H; have H := H1; clear H1; obtain rfl := Option.some.inj H
    go_wp2
    go_ret
    exact ⟨Zq10, Zq51⟩
   ·replace c12 := Bool.eq_false_iff.mpr c12; subst c12
    have H1 : ((arboretref12_Whole.f a0_0 a0_1).bind fun ter => (if ter = true then ((arboretref12_Whole.f a1_0 a1_1).bind fun tdb => (if tdb = true then (if a0_0 ≤ (IntKind.u64.wrap (a1_0 + (IntKind.u64.wrap (a1_1 - 1)))) then (some (decide (a1_0 ≤ (IntKind.u64.wrap (a0_0 + (IntKind.u64.wrap (a0_1 - 1))))))) else (some false)) else (if a0_0 ≤ 18446744073709551615 then (some (decide (a1_0 ≤ (IntKind.u64.wrap (a0_0 + (IntKind.u64.wrap (a0_1 - 1))))))) else (some false)))) else ((arboretref12_Whole.f a1_0 a1_1).bind fun tdc => (if tdc = true then (if a0_0 ≤ (IntKind.u64.wrap (a1_0 + (IntKind.u64.wrap (a1_1 - 1)))) then (some (decide (a1_0 ≤ 18446744073709551615))) else (some false)) else (if a0_0 ≤ 18446744073709551615 then (some (decide (a1_0 ≤ 18446744073709551615))) else (some false)))))) = some r := by rw [if_neg (show ¬ (false = true) by decide)] at H; exact H
    clear H; have H := H1; clear H1; replace H := Option.bind_eq_some_iff.mp H; obtain ⟨ter, AaA, H⟩ := H; replace H : (if ter = true then ((arboretref12_Whole.f a1_0 a1_1).bind fun tdb => (if tdb = true then (if a0_0 ≤ (IntKind.u64.wrap (a1_0 + (IntKind.u64.wrap (a1_1 - 1)))) then (some (decide (a1_0 ≤ (IntKind.u64.wrap (a0_0 + (IntKind.u64.wrap (a0_1 - 1))))))) else (some false)) else (if a0_0 ≤ 18446744073709551615 then (some (decide (a1_0 ≤ (IntKind.u64.wrap (a0_0 + (IntKind.u64.wrap (a0_1 - 1))))))) else (some false)))) else ((arboretref12_Whole.f a1_0 a1_1).bind fun tdc => (if tdc = true then (if a0_0 ≤ (IntKind.u64.wrap (a1_0 + (IntKind.u64.wrap (a1_1 - 1)))) then (some (decide (a1_0 ≤ 18446744073709551615))) else (some false)) else (if a0_0 ≤ 18446744073709551615 then (some (decide (a1_0 ≤ 18446744073709551615))) else (some false))))) = some r := H; have A13 := Ak AaA; clear AaA
    by_cases c14 : ter = true
    ·subst c14
     have H1 : ((arboretref12_Whole.f a1_0 a1_1).bind fun tdb => (if tdb = true then (if a0_0 ≤ (IntKind.u64.wrap (a1_0 + (IntKind.u64.wrap (a1_1 - 1)))) then (some (decide (a1_0 ≤ (IntKind.u64.wrap (a0_0 + (IntKind.u64.wrap (a0_1 - 1))))))) else (some false)) else (if a0_0 ≤ 18446744073709551615 then (some (decide (a1_0 ≤ (IntKind.u64.wrap (a0_0 + (IntKind.u64.wrap (a0_1 - 1))))))) else (some false)))) = some r := by rw [if_pos rfl] at H; exact H
     clear H; have H := H1; clear H1; replace H := Option.bind_eq_some_iff.mp H; obtain ⟨tdb, AdI, H⟩ := H; replace H : (if tdb = true then (if a0_0 ≤ (IntKind.u64.wrap (a1_0 + (IntKind.u64.wrap (a1_1 - 1)))) then (some (decide (a1_0 ≤ (IntKind.u64.wrap (a0_0 + (IntKind.u64.wrap (a0_1 - 1))))))) else (some false)) else (if a0_0 ≤ 18446744073709551615 then (some (decide (a1_0 ≤ (IntKind.u64.wrap (a0_0 + (IntKind.u64.wrap (a0_1 - 1))))))) else (some false))) = some r := H; have A15 := Ak AdI; clear AdI
     by_cases c16 : tdb = true
     ·subst c16
      have H1 : (if a0_0 ≤ (IntKind.u64.wrap (a1_0 + (IntKind.u64.wrap (a1_1 - 1)))) then (some (decide (a1_0 ≤ (IntKind.u64.wrap (a0_0 + (IntKind.u64.wrap (a0_1 - 1))))))) else (some false)) = some r := by rw [if_pos rfl] at H; exact H
      clear H; have H := H1; clear H1
      by_cases c17 : a0_0 ≤ (IntKind.u64.wrap (a1_0 + (IntKind.u64.wrap (a1_1 - 1))))
      ·rw [if_pos c17] at H; have c17b0 : decide (a0_0 ≤ (IntKind.u64.wrap (a1_0 + (IntKind.u64.wrap (a1_1 - 1))))) = true := decide_eq_true c17; clear c17; obtain rfl := Option.some.inj H; have hnb18 := NB433_434.out; have hnc18 := NB434_433.out; have hcz19_0 : wc.cell? ⟨gbaI, 0, none⟩ = some (.int .u64 a0_0) := (blk_cell BKaI.out 0).trans rfl; have hcz19_1 : wc.cell? ⟨gbaI, 1, none⟩ = some (.int .u64 a0_1) := (blk_cell BKaI.out 1).trans rfl; have hfz19_0 := blk_frozen BKaI.out 0; have hfz19_1 := blk_frozen BKaI.out 1
       go_wp2_with (first | ((with_reducible refine gate_callee (f := 51) rfl ?_); refine goesL_ (some 19) rfl rfl Try.func51 Zq2 rfl #[.int .u64 a0_0, .int .u64 a0_1] rfl Zq9 ?_; (with_reducible refine (arboretref12_Whole.calls a0_0 a0_1 true _ A13.out).mono ?_); rintro e w' ⟨rfl, ⟨nd, rfl⟩⟩; refine ⟨_, rfl, ?_⟩; have hcz20_0 : wc.cell? ⟨gbaQ, 0, none⟩ = some (.int .u64 a1_0) := (blk_cell BKaQ.out 0).trans rfl; have hcz20_1 : wc.cell? ⟨gbaQ, 1, none⟩ = some (.int .u64 a1_1) := (blk_cell BKaQ.out 1).trans rfl; have hfz20_0 := blk_frozen BKaQ.out 0; have hfz20_1 := blk_frozen BKaQ.out 1) | ((with_reducible refine gate_callee (f := 51) rfl ?_); refine goesL_ (some 30) rfl rfl Try.func51 Zq2 rfl #[.int .u64 a1_0, .int .u64 a1_1] rfl Zq9 ?_; (with_reducible refine (arboretref12_Whole.calls a1_0 a1_1 true _ A15.out).mono ?_); rintro e w' ⟨rfl, ⟨nd, rfl⟩⟩; refine ⟨_, rfl, ?_⟩))
       go_ret
       exact ⟨Zq10, Zq51⟩
      ·rw [if_neg c17] at H; have c17b0 : decide (a0_0 ≤ (IntKind.u64.wrap (a1_0 + (IntKind.u64.wrap (a1_1 - 1))))) = false := decide_eq_false c17; clear c17; obtain rfl := Option.some.inj H; have hnb21 := NB433_434.out; have hnc21 := NB434_433.out; have hcz22_0 : wc.cell? ⟨gbaI, 0, none⟩ = some (.int .u64 a0_0) := (blk_cell BKaI.out 0).trans rfl; have hcz22_1 : wc.cell? ⟨gbaI, 1, none⟩ = some (.int .u64 a0_1) := (blk_cell BKaI.out 1).trans rfl; have hfz22_0 := blk_frozen BKaI.out 0; have hfz22_1 := blk_frozen BKaI.out 1
       go_wp2_with (first | ((with_reducible refine gate_callee (f := 51) rfl ?_); refine goesL_ (some 19) rfl rfl Try.func51 Zq2 rfl #[.int .u64 a0_0, .int .u64 a0_1] rfl Zq9 ?_; (with_reducible refine (arboretref12_Whole.calls a0_0 a0_1 true _ A13.out).mono ?_); rintro e w' ⟨rfl, ⟨nd, rfl⟩⟩; refine ⟨_, rfl, ?_⟩; have hcz23_0 : wc.cell? ⟨gbaQ, 0, none⟩ = some (.int .u64 a1_0) := (blk_cell BKaQ.out 0).trans rfl; have hcz23_1 : wc.cell? ⟨gbaQ, 1, none⟩ = some (.int .u64 a1_1) := (blk_cell BKaQ.out 1).trans rfl; have hfz23_0 := blk_frozen BKaQ.out 0; have hfz23_1 := blk_frozen BKaQ.out 1) | ((with_reducible refine gate_callee (f := 51) rfl ?_); refine goesL_ (some 30) rfl rfl Try.func51 Zq2 rfl #[.int .u64 a1_0, .int .u64 a1_1] rfl Zq9 ?_; (with_reducible refine (arboretref12_Whole.calls a1_0 a1_1 true _ A15.out).mono ?_); rintro e w' ⟨rfl, ⟨nd, rfl⟩⟩; refine ⟨_, rfl, ?_⟩))
       go_ret
       exact ⟨Zq10, Zq51⟩
     ·replace c16 := Bool.eq_false_iff.mpr c16; subst c16
      have H1 : (if a0_0 ≤ 18446744073709551615 then (some (decide (a1_0 ≤ (IntKind.u64.wrap (a0_0 + (IntKind.u64.wrap (a0_1 - 1))))))) else (some false)) = some r := by rw [if_neg (show ¬ (false = true) by decide)] at H; exact H
      clear H; have H := H1; clear H1
      by_cases c24 : a0_0 ≤ 18446744073709551615
      ·rw [if_pos c24] at H; have c24b0 : decide (a0_0 ≤ 18446744073709551615) = true := decide_eq_true c24; clear c24; obtain rfl := Option.some.inj H; have hnb25 := NB433_434.out; have hnc25 := NB434_433.out; have hcz26_0 : wc.cell? ⟨gbaI, 0, none⟩ = some (.int .u64 a0_0) := (blk_cell BKaI.out 0).trans rfl; have hcz26_1 : wc.cell? ⟨gbaI, 1, none⟩ = some (.int .u64 a0_1) := (blk_cell BKaI.out 1).trans rfl; have hfz26_0 := blk_frozen BKaI.out 0; have hfz26_1 := blk_frozen BKaI.out 1
       go_wp2_with (first | ((with_reducible refine gate_callee (f := 51) rfl ?_); refine goesL_ (some 19) rfl rfl Try.func51 Zq2 rfl #[.int .u64 a0_0, .int .u64 a0_1] rfl Zq9 ?_; (with_reducible refine (arboretref12_Whole.calls a0_0 a0_1 true _ A13.out).mono ?_); rintro e w' ⟨rfl, ⟨nd, rfl⟩⟩; refine ⟨_, rfl, ?_⟩; have hcz27_0 : wc.cell? ⟨gbaQ, 0, none⟩ = some (.int .u64 a1_0) := (blk_cell BKaQ.out 0).trans rfl; have hcz27_1 : wc.cell? ⟨gbaQ, 1, none⟩ = some (.int .u64 a1_1) := (blk_cell BKaQ.out 1).trans rfl; have hfz27_0 := blk_frozen BKaQ.out 0; have hfz27_1 := blk_frozen BKaQ.out 1) | ((with_reducible refine gate_callee (f := 51) rfl ?_); refine goesL_ (some 30) rfl rfl Try.func51 Zq2 rfl #[.int .u64 a1_0, .int .u64 a1_1] rfl Zq9 ?_; (with_reducible refine (arboretref12_Whole.calls a1_0 a1_1 false _ A15.out).mono ?_); rintro e w' ⟨rfl, ⟨nd, rfl⟩⟩; refine ⟨_, rfl, ?_⟩))
       go_ret
       exact ⟨Zq10, Zq51⟩
      ·rw [if_neg c24] at H; have c24b0 : decide (a0_0 ≤ 18446744073709551615) = false := decide_eq_false c24; clear c24; obtain rfl := Option.some.inj H; have hnb28 := NB433_434.out; have hnc28 := NB434_433.out; have hcz29_0 : wc.cell? ⟨gbaI, 0, none⟩ = some (.int .u64 a0_0) := (blk_cell BKaI.out 0).trans rfl; have hcz29_1 : wc.cell? ⟨gbaI, 1, none⟩ = some (.int .u64 a0_1) := (blk_cell BKaI.out 1).trans rfl; have hfz29_0 := blk_frozen BKaI.out 0; have hfz29_1 := blk_frozen BKaI.out 1
       go_wp2_with (first | ((with_reducible refine gate_callee (f := 51) rfl ?_); refine goesL_ (some 19) rfl rfl Try.func51 Zq2 rfl #[.int .u64 a0_0, .int .u64 a0_1] rfl Zq9 ?_; (with_reducible refine (arboretref12_Whole.calls a0_0 a0_1 true _ A13.out).mono ?_); rintro e w' ⟨rfl, ⟨nd, rfl⟩⟩; refine ⟨_, rfl, ?_⟩; have hcz30_0 : wc.cell? ⟨gbaQ, 0, none⟩ = some (.int .u64 a1_0) := (blk_cell BKaQ.out 0).trans rfl; have hcz30_1 : wc.cell? ⟨gbaQ, 1, none⟩ = some (.int .u64 a1_1) := (blk_cell BKaQ.out 1).trans rfl; have hfz30_0 := blk_frozen BKaQ.out 0; have hfz30_1 := blk_frozen BKaQ.out 1) | ((with_reducible refine gate_callee (f := 51) rfl ?_); refine goesL_ (some 30) rfl rfl Try.func51 Zq2 rfl #[.int .u64 a1_0, .int .u64 a1_1] rfl Zq9 ?_; (with_reducible refine (arboretref12_Whole.calls a1_0 a1_1 false _ A15.out).mono ?_); rintro e w' ⟨rfl, ⟨nd, rfl⟩⟩; refine ⟨_, rfl, ?_⟩))
       go_ret
       exact ⟨Zq10, Zq51⟩
    ·replace c14 := Bool.eq_false_iff.mpr c14; subst c14
     have H1 : ((arboretref12_Whole.f a1_0 a1_1).bind fun tdc => (if tdc = true then (if a0_0 ≤ (IntKind.u64.wrap (a1_0 + (IntKind.u64.wrap (a1_1 - 1)))) then (some (decide (a1_0 ≤ 18446744073709551615))) else (some false)) else (if a0_0 ≤ 18446744073709551615 then (some (decide (a1_0 ≤ 18446744073709551615))) else (some false)))) = some r := by rw [if_neg (show ¬ (false = true) by decide)] at H; exact H
     clear H; have H := H1; clear H1; replace H := Option.bind_eq_some_iff.mp H; obtain ⟨tdc, Aah, H⟩ := H; replace H : (if tdc = true then (if a0_0 ≤ (IntKind.u64.wrap (a1_0 + (IntKind.u64.wrap (a1_1 - 1)))) then (some (decide (a1_0 ≤ 18446744073709551615))) else (some false)) else (if a0_0 ≤ 18446744073709551615 then (some (decide (a1_0 ≤ 18446744073709551615))) else (some false))) = some r := H; have A31 := Ak Aah; clear Aah
     by_cases c32 : tdc = true
     ·subst c32
      have H1 : (if a0_0 ≤ (IntKind.u64.wrap (a1_0 + (IntKind.u64.wrap (a1_1 - 1)))) then (some (decide (a1_0 ≤ 18446744073709551615))) else (some false)) = some r := by rw [if_pos rfl] at H; exact H
      clear H; have H := H1; clear H1
      by_cases c33 : a0_0 ≤ (IntKind.u64.wrap (a1_0 + (IntKind.u64.wrap (a1_1 - 1))))
      ·rw [if_pos c33] at H; have c33b0 : decide (a0_0 ≤ (IntKind.u64.wrap (a1_0 + (IntKind.u64.wrap (a1_1 - 1))))) = true := decide_eq_true c33; clear c33; obtain rfl := Option.some.inj H; have hnb34 := NB433_434.out; have hnc34 := NB434_433.out; have hcz35_0 : wc.cell? ⟨gbaI, 0, none⟩ = some (.int .u64 a0_0) := (blk_cell BKaI.out 0).trans rfl; have hcz35_1 : wc.cell? ⟨gbaI, 1, none⟩ = some (.int .u64 a0_1) := (blk_cell BKaI.out 1).trans rfl; have hfz35_0 := blk_frozen BKaI.out 0; have hfz35_1 := blk_frozen BKaI.out 1
       go_wp2_with (first | ((with_reducible refine gate_callee (f := 51) rfl ?_); refine goesL_ (some 19) rfl rfl Try.func51 Zq2 rfl #[.int .u64 a0_0, .int .u64 a0_1] rfl Zq9 ?_; (with_reducible refine (arboretref12_Whole.calls a0_0 a0_1 false _ A13.out).mono ?_); rintro e w' ⟨rfl, ⟨nd, rfl⟩⟩; refine ⟨_, rfl, ?_⟩; have hcz36_0 : wc.cell? ⟨gbaQ, 0, none⟩ = some (.int .u64 a1_0) := (blk_cell BKaQ.out 0).trans rfl; have hcz36_1 : wc.cell? ⟨gbaQ, 1, none⟩ = some (.int .u64 a1_1) := (blk_cell BKaQ.out 1).trans rfl; have hfz36_0 := blk_frozen BKaQ.out 0; have hfz36_1 := blk_frozen BKaQ.out 1) | ((with_reducible refine gate_callee (f := 51) rfl ?_); refine goesL_ (some 30) rfl rfl Try.func51 Zq2 rfl #[.int .u64 a1_0, .int .u64 a1_1] rfl Zq9 ?_; (with_reducible refine (arboretref12_Whole.calls a1_0 a1_1 true _ A31.out).mono ?_); rintro e w' ⟨rfl, ⟨nd, rfl⟩⟩; refine ⟨_, rfl, ?_⟩))
       go_ret
       exact ⟨Zq10, Zq51⟩
      ·rw [if_neg c33] at H; have c33b0 : decide (a0_0 ≤ (IntKind.u64.wrap (a1_0 + (IntKind.u64.wrap (a1_1 - 1))))) = false := decide_eq_false c33; clear c33; obtain rfl := Option.some.inj H; have hnb37 := NB433_434.out; have hnc37 := NB434_433.out; have hcz38_0 : wc.cell? ⟨gbaI, 0, none⟩ = some (.int .u64 a0_0) := (blk_cell BKaI.out 0).trans rfl; have hcz38_1 : wc.cell? ⟨gbaI, 1, none⟩ = some (.int .u64 a0_1) := (blk_cell BKaI.out 1).trans rfl; have hfz38_0 := blk_frozen BKaI.out 0; have hfz38_1 := blk_frozen BKaI.out 1
       go_wp2_with (first | ((with_reducible refine gate_callee (f := 51) rfl ?_); refine goesL_ (some 19) rfl rfl Try.func51 Zq2 rfl #[.int .u64 a0_0, .int .u64 a0_1] rfl Zq9 ?_; (with_reducible refine (arboretref12_Whole.calls a0_0 a0_1 false _ A13.out).mono ?_); rintro e w' ⟨rfl, ⟨nd, rfl⟩⟩; refine ⟨_, rfl, ?_⟩; have hcz39_0 : wc.cell? ⟨gbaQ, 0, none⟩ = some (.int .u64 a1_0) := (blk_cell BKaQ.out 0).trans rfl; have hcz39_1 : wc.cell? ⟨gbaQ, 1, none⟩ = some (.int .u64 a1_1) := (blk_cell BKaQ.out 1).trans rfl; have hfz39_0 := blk_frozen BKaQ.out 0; have hfz39_1 := blk_frozen BKaQ.out 1) | ((with_reducible refine gate_callee (f := 51) rfl ?_); refine goesL_ (some 30) rfl rfl Try.func51 Zq2 rfl #[.int .u64 a1_0, .int .u64 a1_1] rfl Zq9 ?_; (with_reducible refine (arboretref12_Whole.calls a1_0 a1_1 true _ A31.out).mono ?_); rintro e w' ⟨rfl, ⟨nd, rfl⟩⟩; refine ⟨_, rfl, ?_⟩))
       go_ret
       exact ⟨Zq10, Zq51⟩
     ·replace c32 := Bool.eq_false_iff.mpr c32; subst c32
      have H1 : (if a0_0 ≤ 18446744073709551615 then (some (decide (a1_0 ≤ 18446744073709551615))) else (some false)) = some r := by rw [if_neg (show ¬ (false = true) by decide)] at H; exact H
      clear H; have H := H1; clear H1
      by_cases c40 : a0_0 ≤ 18446744073709551615
      ·rw [if_pos c40] at H; have c40b0 : decide (a0_0 ≤ 18446744073709551615) = true := decide_eq_true c40; clear c40; obtain rfl := Option.some.inj H; have hnb41 := NB433_434.out; have hnc41 := NB434_433.out; have hcz42_0 : wc.cell? ⟨gbaI, 0, none⟩ = some (.int .u64 a0_0) := (blk_cell BKaI.out 0).trans rfl; have hcz42_1 : wc.cell? ⟨gbaI, 1, none⟩ = some (.int .u64 a0_1) := (blk_cell BKaI.out 1).trans rfl; have hfz42_0 := blk_frozen BKaI.out 0; have hfz42_1 := blk_frozen BKaI.out 1
       go_wp2_with (first | ((with_reducible refine gate_callee (f := 51) rfl ?_); refine goesL_ (some 19) rfl rfl Try.func51 Zq2 rfl #[.int .u64 a0_0, .int .u64 a0_1] rfl Zq9 ?_; (with_reducible refine (arboretref12_Whole.calls a0_0 a0_1 false _ A13.out).mono ?_); rintro e w' ⟨rfl, ⟨nd, rfl⟩⟩; refine ⟨_, rfl, ?_⟩; have hcz43_0 : wc.cell? ⟨gbaQ, 0, none⟩ = some (.int .u64 a1_0) := (blk_cell BKaQ.out 0).trans rfl; have hcz43_1 : wc.cell? ⟨gbaQ, 1, none⟩ = some (.int .u64 a1_1) := (blk_cell BKaQ.out 1).trans rfl; have hfz43_0 := blk_frozen BKaQ.out 0; have hfz43_1 := blk_frozen BKaQ.out 1) | ((with_reducible refine gate_callee (f := 51) rfl ?_); refine goesL_ (some 30) rfl rfl Try.func51 Zq2 rfl #[.int .u64 a1_0, .int .u64 a1_1] rfl Zq9 ?_; (with_reducible refine (arboretref12_Whole.calls a1_0 a1_1 false _ A31.out).mono ?_); rintro e w' ⟨rfl, ⟨nd, rfl⟩⟩; refine ⟨_, rfl, ?_⟩))
       go_ret
       exact ⟨Zq10, Zq51⟩
      ·rw [if_neg c40] at H; have c40b0 : decide (a0_0 ≤ 18446744073709551615) = false := decide_eq_false c40; clear c40; obtain rfl := Option.some.inj H; have hnb44 := NB433_434.out; have hnc44 := NB434_433.out; have hcz45_0 : wc.cell? ⟨gbaI, 0, none⟩ = some (.int .u64 a0_0) := (blk_cell BKaI.out 0).trans rfl; have hcz45_1 : wc.cell? ⟨gbaI, 1, none⟩ = some (.int .u64 a0_1) := (blk_cell BKaI.out 1).trans rfl; have hfz45_0 := blk_frozen BKaI.out 0; have hfz45_1 := blk_frozen BKaI.out 1
       go_wp2_with (first | ((with_reducible refine gate_callee (f := 51) rfl ?_); refine goesL_ (some 19) rfl rfl Try.func51 Zq2 rfl #[.int .u64 a0_0, .int .u64 a0_1] rfl Zq9 ?_; (with_reducible refine (arboretref12_Whole.calls a0_0 a0_1 false _ A13.out).mono ?_); rintro e w' ⟨rfl, ⟨nd, rfl⟩⟩; refine ⟨_, rfl, ?_⟩; have hcz46_0 : wc.cell? ⟨gbaQ, 0, none⟩ = some (.int .u64 a1_0) := (blk_cell BKaQ.out 0).trans rfl; have hcz46_1 : wc.cell? ⟨gbaQ, 1, none⟩ = some (.int .u64 a1_1) := (blk_cell BKaQ.out 1).trans rfl; have hfz46_0 := blk_frozen BKaQ.out 0; have hfz46_1 := blk_frozen BKaQ.out 1) | ((with_reducible refine gate_callee (f := 51) rfl ?_); refine goesL_ (some 30) rfl rfl Try.func51 Zq2 rfl #[.int .u64 a1_0, .int .u64 a1_1] rfl Zq9 ?_; (with_reducible refine (arboretref12_Whole.calls a1_0 a1_1 false _ A31.out).mono ?_); rintro e w' ⟨rfl, ⟨nd, rfl⟩⟩; refine ⟨_, rfl, ?_⟩))
       go_ret
       exact ⟨Zq10, Zq51⟩
mutual
def arboretlaw13_overlaps.l0 : Nat → List Int → Int → Int → List (S94) → ByteArray → List (S77) → List (S30) → Option (Bool)
 | 0, _, _, _, _, _, _, _ => none
 | k + 1, x1, x5, xdz, xdA, xdB, xdC, xdD => if x5 > 0 then (if 0 ≤ x5 then (if x5 ≤ (x1.length : Int) then ((arboretref06_Get.f k xdz xdA xdB xdC xdD (x1.take (x5 : Int).toNat)).bind fun btbp => (if 0 ≤ (wrap64 (x5 - 1)) then (if (wrap64 (x5 - 1)) ≤ (x1.length : Int) then ((arboretref06_Get.f k xdz xdA xdB xdC xdD (x1.take ((wrap64 (x5 - 1)) : Int).toNat)).bind fun btbr => ((arboretref12_Ranges.f k btbr.1 btbr.2.1 btbr.2.2.1 btbp.1 btbp.2.1 btbp.2.2.1).bind fun btaD => (arboretlaw13_overlaps.l1 k x1 x5 btaD.1 (btaD.1.length : Int) 0 xdz xdA xdB xdC xdD))) else (none)) else (none))) else (none)) else (none)) else (some false)
def arboretlaw13_overlaps.l1 : Nat → List Int → Int → List (S45) → Int → Int → Int → List (S94) → ByteArray → List (S77) → List (S30) → Option (Bool)
 | 0, _, _, _, _, _, _, _, _, _, _ => none
 | k + 1, x1, x5, x10, x46, x47, xdz, xdA, xdB, xdC, xdD => if x47 < x46 then (arboretlaw13_overlaps.l2 k x1 x5 x10 x47 x46 x47 x47 0 xdz xdA xdB xdC xdD) else (arboretlaw13_overlaps.l0 k x1 (wrap64 (x5 - 1)) xdz xdA xdB xdC xdD)
def arboretlaw13_overlaps.l2 : Nat → List Int → Int → List (S45) → Int → Int → Int → Int → Int → Int → List (S94) → ByteArray → List (S77) → List (S30) → Option (Bool)
 | 0, _, _, _, _, _, _, _, _, _, _, _, _, _ => none
 | k + 1, x1, x5, x10, x13, x46, x47, x50, x51, xdz, xdA, xdB, xdC, xdD => if x51 < x50 then (if 0 ≤ x13 then (if x13 < (x10.length : Int) then (if 0 ≤ x51 then (if x51 < (x10.length : Int) then ((arboretref12_Meet.f k ((rd_T45 x10 x13).f0) ((rd_T45 x10 x13).f2) ((rd_T45 x10 x51).f0) ((rd_T45 x10 x51).f2)).bind fun tfd => (if tfd = true then (some true) else (arboretlaw13_overlaps.l2 k x1 x5 x10 x13 x46 x47 x50 (wrap64 (x51 + 1)) xdz xdA xdB xdC xdD))) else (none)) else (none)) else (none)) else (none)) else (arboretlaw13_overlaps.l1 k x1 x5 x10 x46 (wrap64 (x47 + 1)) xdz xdA xdB xdC xdD)
end
def arboretlaw13_overlaps.f (k : Nat) (a0_0 : Int) (l0_1 : List (S94)) (a0_2 : ByteArray) (l0_3 : List (S77)) (l0_4 : List (S30)) (l1 : List Int) : Option (Bool) := arboretlaw13_overlaps.l0 k l1 (l1.length : Int) a0_0 l0_1 a0_2 l0_3 l0_4
def arboretlaw13_overlaps.T4 : Bool × List (List Nat × List Nat) := (true, [([], []), ([], []), ([], []), ([1, 2], [1, 2]), ([0, 3], [0, 3]), ([4], [4]), ([5], [5]), ([5], [5]), ([], []), ([8, 6, 4, 0, 1, 2, 3, 4, 5, 6, 8], [6, 8]), ([7, 9, 0, 1, 2, 3, 4, 5, 6, 7, 8, 9], [7])])
def arboretlaw13_overlaps.B4 : List Nat := [0, 0, 0, 6, 15, 31, 63, 63, 0, 383, 1023]
theorem arboretlaw13_overlaps.tab4 : rtab .any (opsOf Try.f23 4) = arboretlaw13_overlaps.T4 := by kernel_rfl
theorem arboretlaw13_overlaps.bits4 : waitsOk arboretlaw13_overlaps.T4.2 arboretlaw13_overlaps.B4 = true := by kernel_rfl
def arboretlaw13_overlaps.T5 : Bool × List (List Nat × List Nat) := (true, [([], []), ([], []), ([], []), ([2], [2]), ([1, 3], [1, 3]), ([0, 4], [0, 4]), ([5], [5]), ([6], [6]), ([6], [6]), ([], []), ([9, 7, 5, 0, 1, 2, 3, 4, 5, 6, 7, 9], [7, 9]), ([8, 10, 0, 1, 2, 3, 4, 5, 6, 7, 8, 9, 10], [8])])
def arboretlaw13_overlaps.B5 : List Nat := [0, 0, 0, 4, 14, 31, 63, 127, 127, 0, 767, 2047]
theorem arboretlaw13_overlaps.tab5 : rtab .any (opsOf Try.f23 5) = arboretlaw13_overlaps.T5 := by kernel_rfl
theorem arboretlaw13_overlaps.bits5 : waitsOk arboretlaw13_overlaps.T5.2 arboretlaw13_overlaps.B5 = true := by kernel_rfl
def arboretlaw13_overlaps.T13 : Bool × List (List Nat × List Nat) := (true, [([], []), ([], []), ([0, 1], [0, 1]), ([2], [2]), ([3], [3]), ([], []), ([], []), ([5, 6], [5, 6]), ([7], [7]), ([8], [8]), ([4, 9], [4, 9]), ([], []), ([], []), ([11, 12], [11, 12]), ([13], [13]), ([14], [14]), ([], []), ([], []), ([16, 17], [16, 17]), ([18], [18]), ([19], [19]), ([15, 20], [15, 20]), ([10, 21], [10, 21])])
def arboretlaw13_overlaps.B13 : List Nat := [0, 0, 3, 7, 15, 0, 0, 96, 224, 480, 1023, 0, 0, 6144, 14336, 30720, 0, 0, 196608, 458752, 983040, 2095104, 4194303]
theorem arboretlaw13_overlaps.tab13 : rtab .any (opsOf Try.f23 13) = arboretlaw13_overlaps.T13 := by kernel_rfl
theorem arboretlaw13_overlaps.bits13 : waitsOk arboretlaw13_overlaps.T13.2 arboretlaw13_overlaps.B13 = true := by kernel_rfl
end Go.Proofs.Yteejaaeglfpcmab.PX

namespace Go.Proofs.Yteejaaeglfpcmab.PX
open Go.RowKit Go.Proofs.YteejaaeglfpcmabW.PrintWords Go.Proofs.YteejaaeglfpcmabW.PrintLast Go.Proofs.YteejaaeglfpcmabW.PrintMore
attribute [local go_sem] max2_int min2_int max_two min_two max_three min_three max_four min_four
set_option maxHeartbeats 8000000 in
set_option maxRecDepth 100000 in
theorem arboretlaw13_overlaps.calls (k : Nat) (a0_0 : Int) (A0_1 : Option Addr) (c0_1 : Nat) (l0_1 : List (S94)) (a0_2 : ByteArray) (A0_3 : Option Addr) (c0_3 : Nat) (l0_3 : List (S77)) (A0_4 : Option Addr) (c0_4 : Nat) (l0_4 : List (S30)) (A1 : Option Addr) (c1 : Nat) (l1 : List Int) (r : Bool) (w : World) (hr0_1 : Kd.C k94 w A0_1 l0_1.length l0_1) (hc0_1 : l0_1.length ≤ c0_1) (hr0_3 : Kd.C k77 w A0_3 l0_3.length l0_3) (hc0_3 : l0_3.length ≤ c0_3) (hr0_4 : Kd.C k30 w A0_4 l0_4.length l0_4) (hc0_4 : l0_4.length ≤ c0_4) (hr1 : Kd.C (Kd.int .i64) w A1 l1.length l1) (hc1 : l1.length ≤ c1) (h : arboretlaw13_overlaps.f k a0_0 l0_1 a0_2 l0_3 l0_4 l1 = some r) :
  Calls Try.prog 23 #[.agg #[.int .u32 a0_0, .slice A0_1 l0_1.length c0_1, .string a0_2, .slice A0_3 l0_3.length c0_3, .slice A0_4 l0_4.length c0_4], .slice A1 l1.length c1] w fun e w' => e = .returned (.bool r) ∧ Below w.heap.size w w' := by
 have hu35 := Try.underlying35; have hu30 := Try.underlying30; have hu66 := Try.underlying66; have HR0_1 := Ak hr0_1; have HC0_1 := Ak hc0_1; clear hr0_1 hc0_1; have HR0_3 := Ak hr0_3; have HC0_3 := Ak hc0_3; clear hr0_3 hc0_3; have HR0_4 := Ak hr0_4; have HC0_4 := Ak hc0_4; clear hr0_4 hc0_4; have HR1 := Ak hr1; have HC1 := Ak hc1; clear hr1 hc1; have HB := Zq129; have H : (arboretlaw13_overlaps.l0 k l1 (l1.length : Int) a0_0 l0_1 a0_2 l0_3 l0_4) = some r := h; clear h; have H' := Ak H; clear H
 go_enter Try.func23, Try.ntmps23
 go_wp2_with (first | ((with_reducible refine gate_dst (N := 2) rfl ?_); refine box_event ?hg (N := 2) ?hd (cs := #[.int .u32 a0_0, .slice A0_1 l0_1.length c0_1, .string a0_2, .slice A0_3 l0_3.length c0_3, .slice A0_4 l0_4.length c0_4]) (t := 35) ?hr ?_; (case hd | hg => rfl); (case hr => first | (go_simp; done) | (go_simp; rfl)); intro gbac hg w3 hbox hb; have n0_ := Zq122; have n1_ := Ak (hbox); have n2_ := Ak ((by rw [hg]; exact (below_size Zq5) : w.heap.size ≤ gbac)); have n3_ := Ak ((by rw [hg]; exact (below_size Zq5) : w.heap.size ≤ gbac)); clear HB; have HB := n0_; have BKac := n1_; have GWac := n2_; have GEac := n3_; clear n0_ n1_ n2_ n3_ hb hbox hg))
 go_loopg [5] k (fun kq v5 w' => ∃ (x5_1 : Int), v5 = .int .i64 x5_1 ∧ Aside0 (arboretlaw13_overlaps.l0 kq l1 x5_1 a0_0 l0_1 a0_2 l0_3 l0_4 = some r) ∧ Aside0 (kq ≤ k) ∧ Aside0 (w'.heap[gbac]? = some (.cells #[.int .u32 a0_0, (.slice A0_1 l0_1.length c0_1), .string a0_2, (.slice A0_3 l0_3.length c0_3), (.slice A0_4 l0_4.length c0_4)] 35 (0, 0))) ∧ Aside0 (Below w.heap.size w w'))
 case atStart => exact ⟨((l1.length : Int)), Zq6, H', ⟨Nat.le_refl _⟩, ⟨Zq12⟩, ⟨Zq45⟩⟩
 case round =>
  clear H'
  try clear c1
  try clear c2
  try clear p2
  obtain ⟨x5_1, rfl, HA, HK1, BKac, HB⟩ := hrel
  cases gk with
  | zero => exact absurd HA.out (by simp [arboretlaw13_overlaps.l0])
  | succ k1 =>
   have H := HA.out; clear HA; simp only [arboretlaw13_overlaps.l0] at H
   by_cases c4 : x5_1 > 0
   ·rw [if_pos c4] at H; have c4b0 : decide (0 < x5_1) = true := decide_eq_true c4; clear c4
    by_cases c5 : 0 ≤ x5_1
    ·rw [if_pos c5] at H; have c5b0 := eq_true c5; have c5b1 : decide (0 ≤ x5_1) = true := decide_eq_true c5; clear c5
     by_cases c6 : x5_1 ≤ (l1.length : Int)
     ·rw [if_pos c6] at H; have c6b0 := eq_true c6; have c6b1 : decide (x5_1 ≤ (l1.length : Int)) = true := decide_eq_true c6; clear c6; replace H := Option.bind_eq_some_iff.mp H; obtain ⟨⟨tbp, tbk, tbn, teH⟩, A70, H⟩ := H; replace H : (if 0 ≤ (wrap64 (x5_1 - 1)) then (if (wrap64 (x5_1 - 1)) ≤ (l1.length : Int) then ((arboretref06_Get.f k1 a0_0 l0_1 a0_2 l0_3 l0_4 (l1.take ((wrap64 (x5_1 - 1)) : Int).toNat)).bind fun btbr => ((arboretref12_Ranges.f k1 btbr.1 btbr.2.1 btbr.2.2.1 tbp tbk tbn).bind fun btaD => (arboretlaw13_overlaps.l1 k1 l1 x5_1 btaD.1 (btaD.1.length : Int) 0 a0_0 l0_1 a0_2 l0_3 l0_4))) else (none)) else (none)) = some r := H; have A7 := Ak A70; clear A70
      obtain ⟨ji8, hji8⟩ : ∃ j_ : Int, (wrap64 (x5_1 - 1)) = j_ := ⟨_, rfl⟩
      replace H : (if 0 ≤ (ji8) then (if (ji8) ≤ (l1.length : Int) then ((arboretref06_Get.f k1 a0_0 l0_1 a0_2 l0_3 l0_4 (l1.take ((ji8) : Int).toNat)).bind fun btbr => ((arboretref12_Ranges.f k1 btbr.1 btbr.2.1 btbr.2.2.1 tbp tbk tbn).bind fun btaD => (arboretlaw13_overlaps.l1 k1 l1 x5_1 btaD.1 (btaD.1.length : Int) 0 a0_0 l0_1 a0_2 l0_3 l0_4))) else (none)) else (none)) = some r := by first | (rw [hji8] at H; exact H) | (simp only [hji8] at H ⊢; exact H)
      (try rw [hji8] at A7)
      have hji8w : (IntKind.i64.wrap (x5_1 - 1)) = ji8 := (i64_w _).trans hji8
      by_cases c9 : 0 ≤ (ji8)
      ·rw [if_pos c9] at H; have c9b0 := eq_true c9; have c9b1 : decide (0 ≤ (ji8)) = true := decide_eq_true c9; clear c9
       by_cases c10 : (ji8) ≤ (l1.length : Int)
       ·rw [if_pos c10] at H; have c10b0 := eq_true c10; have c10b1 : decide ((ji8) ≤ (l1.length : Int)) = true := decide_eq_true c10; clear c10; replace H := Option.bind_eq_some_iff.mp H; obtain ⟨⟨tbr, tbF, tbI, teI⟩, Afe, H⟩ := H; replace H : ((arboretref12_Ranges.f k1 tbr tbF tbI tbp tbk tbn).bind fun btaD => (arboretlaw13_overlaps.l1 k1 l1 x5_1 btaD.1 (btaD.1.length : Int) 0 a0_0 l0_1 a0_2 l0_3 l0_4)) = some r := H; have A11 := Ak Afe; clear Afe; replace H := Option.bind_eq_some_iff.mp H; obtain ⟨⟨taD, tgo, tgp⟩, AeG, H⟩ := H; replace H : (arboretlaw13_overlaps.l1 k1 l1 x5_1 taD (taD.length : Int) 0 a0_0 l0_1 a0_2 l0_3 l0_4) = some r := H; have A12 := Ak AeG; clear AeG; have H' := Ak H; clear H
        try go_wp2
        have n0_ := Ak (blk_drew BKac.out); have n1_ := Zq164; clear BKac HB; have BKac := n0_; have HB := n1_; clear n0_ n1_; obtain ⟨i014, hi014, _, hsz14, _⟩ := info_parts info3; obtain ⟨hcut14, hA14, hC14⟩ := print_take_of (P := Try.prog) (Value.int .i64) 0 48 3 .i64 Try.underlying48 hi014 hsz14 A1 c1 l1 x5_1 (of_decide_eq_true Zq4) (of_decide_eq_true Zq4) HC1.out; have HRet := Ak (Kd.C_of_reads (h1 := fun _ => rfl) (hA14 _ (Kd.reads_of_C HR1.out))); have HCet := Ak hC14; clear hA14 hC14 hi014 hsz14; refine start_ (n := 11) (S := fun w' => w'.cell? ⟨gbac, 0, none⟩ = some (.int .u32 a0_0) ∧ w'.cell? ⟨gbac, 1, none⟩ = some (.slice A0_1 l0_1.length c0_1) ∧ w'.cell? ⟨gbac, 2, none⟩ = some (.string a0_2) ∧ w'.cell? ⟨gbac, 3, none⟩ = some (.slice A0_3 l0_3.length c0_3) ∧ w'.cell? ⟨gbac, 4, none⟩ = some (.slice A0_4 l0_4.length c0_4)) (ds := []) #[false, false, false, false, false, false, false, false, false, false, false] Zq2 rfl rfl ⟨(blk_cell BKac.out 0).trans rfl, (blk_cell BKac.out 1).trans rfl, (blk_cell BKac.out 2).trans rfl, (blk_cell BKac.out 3).trans rfl, (blk_cell BKac.out 4).trans rfl⟩ (fun hHeld => ?_); refine with_tabW arboretlaw13_overlaps.tab4 arboretlaw13_overlaps.bits4 (fun HT_ HW_ => ?_); generalize wr.drew = w13 at BKac HB HRet hHeld ⊢; refine pure_ (i := 1) (N := some 23) (v := ?_) (a' := ?_) #[false, true, false, false, false, false, false, false, false, false, false] rfl rfl (any_of HT_.out Zq2) (fun _ _ _ h => h) (Or.inl ⟨Zq3, ?_⟩) ?_ ?_
        rotate_left
        ·intro w'
         go_simp
         with_reducible rfl
        rotate_left
        ·simp only [Sx]
         rfl
        refine pure_ (i := 2) (N := some 24) (v := ?_) (a' := ?_) #[false, true, true, false, false, false, false, false, false, false, false] rfl rfl (any_of HT_.out Zq2) (fun _ _ _ h => h) (Or.inl ⟨Zq3, ?_⟩) ?_ ?_
        rotate_left
        ·intro w'
         go_simp
         with_reducible rfl
        rotate_left
        ·simp only [Sx]
         rfl
        refine pure_ (i := 3) (N := some 25) (v := ?_) (a' := ?_) #[false, true, true, true, false, false, false, false, false, false, false] rfl rfl (any_of HT_.out Zq2) (fun _ _ _ h => h) (Or.inl ⟨Zq3, ?_⟩) ?_ ?_
        rotate_left
        ·intro w'
         go_simp
         with_reducible rfl
        rotate_left
        ·simp only [Sx]
         rfl
        refine take_ (i := 0) (N := some 22) (v := ?_) (a' := ?_) #[true, true, true, true, false, false, false, false, false, false, false] rfl rfl (take_ofW HT_.out HW_.out Zq2) (fun _ _ _ h => h) (Or.inl ⟨Zq3, ?_⟩) hHeld ?_ ?_
        rotate_left
        ·rintro w' ⟨s0, s1, s2, s3, s4⟩
         go_simp
         with_reducible rfl
        rotate_left
        ·simp only [Sx]
         rfl
        refine join_ (σ := Value × Value × Nat) 2 #[true, true, true, true, true, true, true, true, true, false, false] (fun s_ => [(26, .tuple #[.agg #[.string tbp, s_.1, s_.2.1], .bool teH]), (6, .pointer (some ⟨s_.2.2, 0, none⟩)), (21, .tuple #[.agg #[.string tbp, s_.1, s_.2.1], .bool teH]), (27, .agg #[.string tbp, s_.1, s_.2.1]), (28, .bool teH)]) (fun s_ w' => (w'.cell? ⟨gbac, 0, none⟩ = some (.int .u32 a0_0) ∧ w'.cell? ⟨gbac, 1, none⟩ = some (.slice A0_1 l0_1.length c0_1) ∧ w'.cell? ⟨gbac, 2, none⟩ = some (.string a0_2) ∧ w'.cell? ⟨gbac, 3, none⟩ = some (.slice A0_3 l0_3.length c0_3) ∧ w'.cell? ⟨gbac, 4, none⟩ = some (.slice A0_4 l0_4.length c0_4)) ∧ (Kd.V k77 77 w' w.heap.size (fun k_ => k_ ≠ gbac ∧ k_ ≠ s_.2.2) s_.1 tbk) ∧ (Kd.V k30 30 w' w.heap.size (fun k_ => k_ ≠ gbac ∧ k_ ≠ s_.2.2) s_.2.1 tbn) ∧ (w'.heap[gbac]? = some (.cells #[.int .u32 a0_0, .slice A0_1 l0_1.length c0_1, .string a0_2, .slice A0_3 l0_3.length c0_3, .slice A0_4 l0_4.length c0_4] 35 (0, 0))) ∧ (w'.heap[s_.2.2]? = some (.cells #[.string (⟨#[]⟩ : ByteArray), .slice none 0 0, .slice none 0 0] 30 (0, 0))) ∧ (w.heap.size ≤ s_.2.2) ∧ (w.heap.size ≤ s_.2.2) ∧ (gbac ≠ s_.2.2) ∧ (s_.2.2 ≠ gbac) ∧ (Below w.heap.size w w')) ?_ ?_
        rotate_left
        ·intro hCont; refine two_ (i := 4) (j := 8) (Ni := some 26) (Nj := some 6) #[true, true, true, true, true, false, false, false, false, false, false] #[true, true, true, true, false, false, false, false, true, false, false] rfl rfl rfl rfl (two_of HT_.out Zq2) Zq7 Zq7 (fun K hK => ?_) (fun K hK => ?_)
         ·skip
          refine goes_ Try.func21 Zq2 rfl #[.agg #[.int .u32 a0_0, .slice A0_1 l0_1.length c0_1, .string a0_2, .slice A0_3 l0_3.length c0_3, .slice A0_4 l0_4.length c0_4], .slice A1 (l1.take (x5_1 : Int).toNat).length c1] Zq3 rfl rfl (by (try simp only [List.map_toArray, List.map_cons, List.map_nil]); first | done | (rw [show (l1.take (x5_1 : Int).toNat).length = x5_1.toNat from (by rw [List.length_take]; have h_ : (x5_1 : Int) ≤ (l1.length : Int) := of_decide_eq_true Zq4; omega)] <;> rfl) | rfl | (simp only [List.length_drop, List.length_take]; rfl)) ?_; with_reducible refine (arboretref06_Get.calls k1 a0_0 _ _ l0_1 a0_2 (fun k_ => k_ < w.heap.size) _ _ l0_3 (fun k_ => k_ < w.heap.size) _ _ l0_4 _ _ (l1.take (x5_1 : Int).toNat) tbp tbk tbn teH _ ?side1 ?side2 ?side3 ?side4 ?side5 ?side6 A7.out).mono ?_
          (case side1 => repeat (first | exact Zq126 | (with_reducible refine Kd.C_alloc ?_ _) | (with_reducible refine Kd.C_drewN ?_ _) | (with_reducible refine Kd.C_drew ?_)))
          (case side2 => exact HC0_1.out)
          (case side3 => exact Kd.V_mk HC0_3.out (Kd.F_below (Kd.C_F k77_heap HR0_3.out) Zq45))
          (case side4 => exact Kd.V_mk HC0_4.out (Kd.F_below (Kd.C_F k30_heap HR0_4.out) Zq45))
          (case side5 => repeat (first | exact (Kd.C_below HRet.out HB.out) | (with_reducible refine Kd.C_alloc ?_ _) | (with_reducible refine Kd.C_drewN ?_ _) | (with_reducible refine Kd.C_drew ?_)))
          (case side6 => exact HCet.out)
          rintro e w15 ⟨v442, v445, rfl, ho0, ho1, hb⟩
          refine ⟨_, rfl, ?_⟩; have n0_ := Ak (Kd.V_lower (Kd.V_mono (ok' := fun k_ => k_ ≠ gbac) ho0 (fun k_ hk_ => Or.elim hk_ (fun hs_ => Or.elim hs_ (fun hs_ => fun e_ => Nat.not_le.2 hs_ Zq40) (fun hs_ => fun e_ => Nat.not_le.2 hs_ Zq40)) (fun hn_ => Zq127))) (below_size Zq45)); have n1_ := Ak (Kd.V_lower (Kd.V_mono (ok' := fun k_ => k_ ≠ gbac) ho1 (fun k_ hk_ => Or.elim hk_ (fun hs_ => Or.elim hs_ (fun hs_ => fun e_ => Nat.not_le.2 hs_ Zq40) (fun hs_ => fun e_ => Nat.not_le.2 hs_ Zq40)) (fun hn_ => Zq127))) (below_size Zq45)); have n2_ := Zq123; have n3_ := Ak (below_step Zq45 hb); clear BKac HB; have HObv := n0_; have HObw := n1_; have BKac := n2_; have HB := n3_; clear n0_ n1_ n2_ n3_
          (try clear hb)
          (try clear hb2)
          (try clear hk)
          (try clear hi)
          (try clear ho0)
          (try clear ho1)
          refine hK.out _ _ ⟨(blk_cell BKac.out 0).trans rfl, (blk_cell BKac.out 1).trans rfl, (blk_cell BKac.out 2).trans rfl, (blk_cell BKac.out 3).trans rfl, (blk_cell BKac.out 4).trans rfl⟩ (fun hHeld => ?_); clear hK K; refine norm_ (a' := ?_) ?_ ?_
          rotate_left
          ·show Act.put _ (some 26) _ = _
           simp only [Sx]
           rfl
          refine pure_ (i := 5) (N := some 21) (v := ?_) (a' := ?_) #[true, true, true, true, true, true, false, false, false, false, false] rfl rfl (any_of HT_.out Zq2) (fun _ _ _ h => h) (Or.inl ⟨Zq3, ?_⟩) ?_ ?_
          rotate_left
          ·intro w'
           go_simp
           with_reducible rfl
          rotate_left
          ·simp only [Sx]
           rfl
          refine pure_ (i := 6) (N := some 27) (v := ?_) (a' := ?_) #[true, true, true, true, true, true, true, false, false, false, false] rfl rfl (any_of HT_.out Zq2) (fun _ _ _ h => h) (Or.inl ⟨Zq3, ?_⟩) ?_ ?_
          rotate_left
          ·intro w'
           go_simp
           with_reducible rfl
          rotate_left
          ·simp only [Sx]
           rfl
          refine pure_ (i := 7) (N := some 28) (v := ?_) (a' := ?_) #[true, true, true, true, true, true, true, true, false, false, false] rfl rfl (any_of HT_.out Zq2) (fun _ _ _ h => h) (Or.inl ⟨Zq3, ?_⟩) ?_ ?_
          rotate_left
          ·intro w'
           go_simp
           with_reducible rfl
          rotate_left
          ·simp only [Sx]
           rfl
          refine one_ (i := 8) (N := some 6) #[true, true, true, true, true, true, true, true, true, false, false] rfl rfl (one_of HT_.out Zq2) Zq7 (fun K hK => ?_); refine box_step ?hg (N := 6) ?hd (cs := #[.string (⟨#[]⟩ : ByteArray), .slice none 0 0, .slice none 0 0]) (t := 30) ?hr ?_; (case hd | hg => rfl); (case hr => first | (go_simp; done) | (go_simp; rfl)); intro gbaf hg w16 hbox hb; have n0_ := Ak (Kd.V_below (Kd.V_elderB Zq74 gbaf (Nat.le_of_eq hg.symm)) hb); have n1_ := Ak (Kd.V_below (Kd.V_elderB Zq75 gbaf (Nat.le_of_eq hg.symm)) hb); have n2_ := Zq123; have n3_ := Ak (below_step Zq45 hb); have n4_ := Ak (hbox); have n5_ := Zq192; have n6_ := Zq192; have n7_ := Ak ((by rw [hg]; exact Nat.ne_of_lt Zq128 : gbac ≠ gbaf)); have n8_ := Ak ((by rw [hg]; exact Nat.ne_of_gt Zq128 : gbaf ≠ gbac)); clear HObv HObw BKac HB; have HObv := n0_; have HObw := n1_; have BKac := n2_; have HB := n3_; have BKaf := n4_; have GWaf := n5_; have GEaf := n6_; have NB438_448 := n7_; have NB448_438 := n8_; clear n0_ n1_ n2_ n3_ n4_ n5_ n6_ n7_ n8_ hb hbox hg; refine hK.out _ _ ⟨(blk_cell BKac.out 0).trans rfl, (blk_cell BKac.out 1).trans rfl, (blk_cell BKac.out 2).trans rfl, (blk_cell BKac.out 3).trans rfl, (blk_cell BKac.out 4).trans rfl⟩ (fun hHeld => ?_); clear hK K; refine norm_ (a' := ?_) ?_ ?_
          rotate_left
          ·show Act.put _ (some 6) _ = _
           simp only [Sx]
           rfl
          exact norm_ Zq67 (hCont (v442, v445, gbaf) _ ⟨hHeld, Zq74, Zq75, Zq12, Zq20, GWaf.out, GEaf.out, NB438_448.out, NB448_438.out, Zq30⟩)
         ·skip
          refine box_step ?hg (N := 6) ?hd (cs := #[.string (⟨#[]⟩ : ByteArray), .slice none 0 0, .slice none 0 0]) (t := 30) ?hr ?_; (case hd | hg => rfl); (case hr => first | (go_simp; done) | (go_simp; rfl)); intro gbaf hg w15 hbox hb; have n0_ := Zq123; have n1_ := Ak (below_step Zq45 hb); have n2_ := Ak (hbox); have n3_ := Zq192; have n4_ := Zq192; have n5_ := Ak ((by rw [hg]; exact Nat.ne_of_lt Zq128 : gbac ≠ gbaf)); have n6_ := Ak ((by rw [hg]; exact Nat.ne_of_gt Zq128 : gbaf ≠ gbac)); clear BKac HB; have BKac := n0_; have HB := n1_; have BKaf := n2_; have GWaf := n3_; have GEaf := n4_; have NB438_448 := n5_; have NB448_438 := n6_; clear n0_ n1_ n2_ n3_ n4_ n5_ n6_ hb hbox hg; refine hK.out _ _ ⟨(blk_cell BKac.out 0).trans rfl, (blk_cell BKac.out 1).trans rfl, (blk_cell BKac.out 2).trans rfl, (blk_cell BKac.out 3).trans rfl, (blk_cell BKac.out 4).trans rfl⟩ (fun hHeld => ?_); clear hK K; refine norm_ (a' := ?_) ?_ ?_
          rotate_left
          ·show Act.put _ (some 6) _ = _
           simp only [Sx]
           rfl
          refine one_ (i := 4) (N := some 26) #[true, true, true, true, true, false, false, false, true, false, false] rfl rfl (one_of HT_.out Zq2) Zq7 (fun K hK => ?_); refine goes_ Try.func21 Zq2 rfl #[.agg #[.int .u32 a0_0, .slice A0_1 l0_1.length c0_1, .string a0_2, .slice A0_3 l0_3.length c0_3, .slice A0_4 l0_4.length c0_4], .slice A1 (l1.take (x5_1 : Int).toNat).length c1] Zq3 rfl rfl (by (try simp only [List.map_toArray, List.map_cons, List.map_nil]); first | done | (rw [show (l1.take (x5_1 : Int).toNat).length = x5_1.toNat from (by rw [List.length_take]; have h_ : (x5_1 : Int) ≤ (l1.length : Int) := of_decide_eq_true Zq4; omega)] <;> rfl) | rfl | (simp only [List.length_drop, List.length_take]; rfl)) ?_; with_reducible refine (arboretref06_Get.calls k1 a0_0 _ _ l0_1 a0_2 (fun k_ => k_ < w.heap.size) _ _ l0_3 (fun k_ => k_ < w.heap.size) _ _ l0_4 _ _ (l1.take (x5_1 : Int).toNat) tbp tbk tbn teH _ ?side1 ?side2 ?side3 ?side4 ?side5 ?side6 A7.out).mono ?_
          (case side1 => repeat (first | exact Zq126 | (with_reducible refine Kd.C_alloc ?_ _) | (with_reducible refine Kd.C_drewN ?_ _) | (with_reducible refine Kd.C_drew ?_)))
          (case side2 => exact HC0_1.out)
          (case side3 => exact Kd.V_mk HC0_3.out (Kd.F_below (Kd.C_F k77_heap HR0_3.out) Zq30))
          (case side4 => exact Kd.V_mk HC0_4.out (Kd.F_below (Kd.C_F k30_heap HR0_4.out) Zq30))
          (case side5 => repeat (first | exact (Kd.C_below HRet.out HB.out) | (with_reducible refine Kd.C_alloc ?_ _) | (with_reducible refine Kd.C_drewN ?_ _) | (with_reducible refine Kd.C_drew ?_)))
          (case side6 => exact HCet.out)
          rintro e w16 ⟨v442, v445, rfl, ho0, ho1, hb⟩
          refine ⟨_, rfl, ?_⟩; have n0_ := Ak (Kd.V_lower (Kd.V_mono (ok' := fun k_ => k_ ≠ gbac ∧ k_ ≠ gbaf) ho0 (fun k_ hk_ => ⟨Or.elim hk_ (fun hs_ => Or.elim hs_ (fun hs_ => fun e_ => Nat.not_le.2 hs_ Zq40) (fun hs_ => fun e_ => Nat.not_le.2 hs_ Zq40)) (fun hn_ => Zq127), Or.elim hk_ (fun hs_ => Or.elim hs_ (fun hs_ => fun e_ => Nat.not_le.2 hs_ Zq49) (fun hs_ => fun e_ => Nat.not_le.2 hs_ Zq49)) (fun hn_ => Zq230)⟩)) (below_size Zq30)); have n1_ := Ak (Kd.V_lower (Kd.V_mono (ok' := fun k_ => k_ ≠ gbac ∧ k_ ≠ gbaf) ho1 (fun k_ hk_ => ⟨Or.elim hk_ (fun hs_ => Or.elim hs_ (fun hs_ => fun e_ => Nat.not_le.2 hs_ Zq40) (fun hs_ => fun e_ => Nat.not_le.2 hs_ Zq40)) (fun hn_ => Zq127), Or.elim hk_ (fun hs_ => Or.elim hs_ (fun hs_ => fun e_ => Nat.not_le.2 hs_ Zq49) (fun hs_ => fun e_ => Nat.not_le.2 hs_ Zq49)) (fun hn_ => Zq230)⟩)) (below_size Zq30)); have n2_ := Zq123; have n3_ := Ak (blk_below (g := gbaf) (o := .cells #[.string (⟨#[]⟩ : ByteArray), .slice none 0 0, .slice none 0 0] 30 (0, 0)) Zq20 hb); have n4_ := Ak (below_step Zq30 hb); clear BKac BKaf HB; have HObv := n0_; have HObw := n1_; have BKac := n2_; have BKaf := n3_; have HB := n4_; clear n0_ n1_ n2_ n3_ n4_
          (try clear hb)
          (try clear hb2)
          (try clear hk)
          (try clear hi)
          (try clear ho0)
          (try clear ho1)
          refine hK.out _ _ ⟨(blk_cell BKac.out 0).trans rfl, (blk_cell BKac.out 1).trans rfl, (blk_cell BKac.out 2).trans rfl, (blk_cell BKac.out 3).trans rfl, (blk_cell BKac.out 4).trans rfl⟩ (fun hHeld => ?_); clear hK K; refine norm_ (a' := ?_) ?_ ?_
          rotate_left
          ·show Act.put _ (some 26) _ = _
           simp only [Sx]
           rfl
          refine pure_ (i := 5) (N := some 21) (v := ?_) (a' := ?_) #[true, true, true, true, true, true, false, false, true, false, false] rfl rfl (any_of HT_.out Zq2) (fun _ _ _ h => h) (Or.inl ⟨Zq3, ?_⟩) ?_ ?_
          rotate_left
          ·intro w'
           go_simp
           with_reducible rfl
          rotate_left
          ·simp only [Sx]
           rfl
          refine pure_ (i := 6) (N := some 27) (v := ?_) (a' := ?_) #[true, true, true, true, true, true, true, false, true, false, false] rfl rfl (any_of HT_.out Zq2) (fun _ _ _ h => h) (Or.inl ⟨Zq3, ?_⟩) ?_ ?_
          rotate_left
          ·intro w'
           go_simp
           with_reducible rfl
          rotate_left
          ·simp only [Sx]
           rfl
          refine pure_ (i := 7) (N := some 28) (v := ?_) (a' := ?_) #[true, true, true, true, true, true, true, true, true, false, false] rfl rfl (any_of HT_.out Zq2) (fun _ _ _ h => h) (Or.inl ⟨Zq3, ?_⟩) ?_ ?_
          rotate_left
          ·intro w'
           go_simp
           with_reducible rfl
          rotate_left
          ·simp only [Sx]
           rfl
          exact norm_ Zq67 (hCont (v442, v445, gbaf) _ ⟨hHeld, Zq74, Zq75, Zq12, Zq20, GWaf.out, GEaf.out, NB438_448.out, NB448_438.out, Zq30⟩)
        rintro ⟨v442, v445, gbaf⟩ w17 ⟨hS_, h0_, h1_, h2_, h3_, h4_, h5_, h6_, h7_, h8_⟩
        have n0_ : Aside0 (Kd.V k77 77 w17 w.heap.size (fun k_ => k_ ≠ gbac ∧ k_ ≠ gbaf) v442 tbk) := ⟨h0_⟩
        have n1_ : Aside0 (Kd.V k30 30 w17 w.heap.size (fun k_ => k_ ≠ gbac ∧ k_ ≠ gbaf) v445 tbn) := ⟨h1_⟩
        have n2_ : Aside0 (w17.heap[gbac]? = some (.cells #[.int .u32 a0_0, .slice A0_1 l0_1.length c0_1, .string a0_2, .slice A0_3 l0_3.length c0_3, .slice A0_4 l0_4.length c0_4] 35 (0, 0))) := ⟨h2_⟩
        have n3_ : Aside0 (w17.heap[gbaf]? = some (.cells #[.string (⟨#[]⟩ : ByteArray), .slice none 0 0, .slice none 0 0] 30 (0, 0))) := ⟨h3_⟩
        have n4_ : Aside0 (w.heap.size ≤ gbaf) := ⟨h4_⟩
        have n5_ : Aside0 (w.heap.size ≤ gbaf) := ⟨h5_⟩
        have n6_ : Aside0 (gbac ≠ gbaf) := ⟨h6_⟩
        have n7_ : Aside0 (gbaf ≠ gbac) := ⟨h7_⟩
        have n8_ : Aside0 (Below w.heap.size w w17) := ⟨h8_⟩
        clear BKac HB h0_ h1_ h2_ h3_ h4_ h5_ h6_ h7_ h8_; have HObv := n0_; have HObw := n1_; have BKac := n2_; have BKaf := n3_; have GWaf := n4_; have GEaf := n5_; have NB438_448 := n6_; have NB448_438 := n7_; have HB := n8_; clear n0_ n1_ n2_ n3_ n4_ n5_ n6_ n7_ n8_; have hHeld : w17.cell? ⟨gbac, 0, none⟩ = some (.int .u32 a0_0) ∧ w17.cell? ⟨gbac, 1, none⟩ = some (.slice A0_1 l0_1.length c0_1) ∧ w17.cell? ⟨gbac, 2, none⟩ = some (.string a0_2) ∧ w17.cell? ⟨gbac, 3, none⟩ = some (.slice A0_3 l0_3.length c0_3) ∧ w17.cell? ⟨gbac, 4, none⟩ = some (.slice A0_4 l0_4.length c0_4) := hS_; obtain ⟨Ao19, co19, eo19⟩ := Kd.V_slice HObv.out
        (first | subst eo19 | (injection eo19 with f1_ f2_ f3_; have f4_ := f1_.symm; have f5_ := f3_.symm; clear f1_ f2_ f3_; subst f4_; subst f5_))
        obtain ⟨Ao21, co21, eo21⟩ := Kd.V_slice HObw.out
        (first | subst eo21 | (injection eo21 with f1_ f2_ f3_; have f4_ := f1_.symm; have f5_ := f3_.symm; clear f1_ f2_ f3_; subst f4_; subst f5_))
        refine norm_ (a' := ?_) ?_ ?_
        rotate_left
        ·simp only [putAll, Act.put, List.setIfInBounds_toArray, List.set_cons_zero, List.set_cons_succ]
         rfl
        refine one_ (i := 9) (N := none) #[true, true, true, true, true, true, true, true, true, true, false] rfl rfl (one_of HT_.out Zq2) Zq7 (fun K hK => ?_); have hs18 : w17.cell? ⟨gbaf, 0, none⟩ = some (.string (⟨#[]⟩ : ByteArray)) := (blk_cell BKaf.out 0).trans rfl; have hfs18 := blk_frozen BKaf.out 0; have hns18_0 := NB438_448.out; have hms18_0 := NB448_438.out; have hs20 : w17.cell? ⟨gbaf, 1, none⟩ = some (.slice none 0 0) := (blk_cell BKaf.out 1).trans rfl; have hfs20 := blk_frozen BKaf.out 1; have hns20_0 := NB438_448.out; have hms20_0 := NB448_438.out; have hs22 : w17.cell? ⟨gbaf, 2, none⟩ = some (.slice none 0 0) := (blk_cell BKaf.out 2).trans rfl; have hfs22 := blk_frozen BKaf.out 2; have hns22_0 := NB438_448.out; have hms22_0 := NB448_438.out; refine skip_ (w1 := ?_) Zq3 rfl ?_ ?_
        rotate_left
        ·go_simp
         rfl
        refine hK.out _ _ ⟨((cell_far (p := ⟨gbaf, _, none⟩) NB438_448.out _).trans (((cell_far (p := ⟨gbaf, _, none⟩) NB438_448.out _).trans (((cell_far (p := ⟨gbaf, _, none⟩) NB438_448.out _).trans (hHeld.1)))))), ((cell_far (p := ⟨gbaf, _, none⟩) NB438_448.out _).trans (((cell_far (p := ⟨gbaf, _, none⟩) NB438_448.out _).trans (((cell_far (p := ⟨gbaf, _, none⟩) NB438_448.out _).trans (hHeld.2.1)))))), ((cell_far (p := ⟨gbaf, _, none⟩) NB438_448.out _).trans (((cell_far (p := ⟨gbaf, _, none⟩) NB438_448.out _).trans (((cell_far (p := ⟨gbaf, _, none⟩) NB438_448.out _).trans (hHeld.2.2.1)))))), ((cell_far (p := ⟨gbaf, _, none⟩) NB438_448.out _).trans (((cell_far (p := ⟨gbaf, _, none⟩) NB438_448.out _).trans (((cell_far (p := ⟨gbaf, _, none⟩) NB438_448.out _).trans (hHeld.2.2.2.1)))))), ((cell_far (p := ⟨gbaf, _, none⟩) NB438_448.out _).trans (((cell_far (p := ⟨gbaf, _, none⟩) NB438_448.out _).trans (((cell_far (p := ⟨gbaf, _, none⟩) NB438_448.out _).trans (hHeld.2.2.2.2))))))⟩ (fun hHeld => ?_); clear hK K; refine pure_ (i := 10) (N := some 7) (v := ?_) (a' := ?_) #[true, true, true, true, true, true, true, true, true, true, true] rfl rfl (any_of HT_.out Zq2) (fun _ _ _ h => h) (Or.inl ⟨Zq3, ?_⟩) ?_ ?_
        rotate_left
        ·intro w'
         go_simp
         with_reducible rfl
        rotate_left
        ·simp only [Sx]
         rfl
        refine done_ (done_of HT_.out Zq2) ?_
        try go_wp2
        have n0_ : Aside0 (Kd.V k77 77 (((w17.setCell ⟨gbaf, 0, none⟩ (.string tbp)).setCell ⟨gbaf, 1, none⟩ (.slice Ao19 tbk.length co19)).setCell ⟨gbaf, 2, none⟩ (.slice Ao21 tbn.length co21)) w.heap.size (fun k_ => k_ ≠ gbac ∧ k_ ≠ gbaf) (.slice Ao19 tbk.length co19) tbk) := ⟨by (with_reducible repeat (first | apply Kd.V_alloc | apply Kd.V_drewN | apply Kd.V_drew)); exact Kd.V_mono (Kd.V_far (p := ⟨gbaf, 2, none⟩) (Kd.V_far (p := ⟨gbaf, 1, none⟩) (Kd.V_far (p := ⟨gbaf, 0, none⟩) (Kd.V_mono HObv.out (fun k_ hk => (⟨hk, hk.2⟩ : _ ∧ k_ ≠ gbaf))) (fun _ hk => hk.2) (.string tbp)) (fun _ hk => hk.2) (.slice Ao19 tbk.length co19)) (fun _ hk => hk.2) (.slice Ao21 tbn.length co21)) (fun _ hk => ⟨hk.1.1, hk.1.2⟩)⟩
        have n1_ : Aside0 (Kd.V k30 30 (((w17.setCell ⟨gbaf, 0, none⟩ (.string tbp)).setCell ⟨gbaf, 1, none⟩ (.slice Ao19 tbk.length co19)).setCell ⟨gbaf, 2, none⟩ (.slice Ao21 tbn.length co21)) w.heap.size (fun k_ => k_ ≠ gbac ∧ k_ ≠ gbaf) (.slice Ao21 tbn.length co21) tbn) := ⟨by (with_reducible repeat (first | apply Kd.V_alloc | apply Kd.V_drewN | apply Kd.V_drew)); exact Kd.V_mono (Kd.V_far (p := ⟨gbaf, 2, none⟩) (Kd.V_far (p := ⟨gbaf, 1, none⟩) (Kd.V_far (p := ⟨gbaf, 0, none⟩) (Kd.V_mono HObw.out (fun k_ hk => (⟨hk, hk.2⟩ : _ ∧ k_ ≠ gbaf))) (fun _ hk => hk.2) (.string tbp)) (fun _ hk => hk.2) (.slice Ao19 tbk.length co19)) (fun _ hk => hk.2) (.slice Ao21 tbn.length co21)) (fun _ hk => ⟨hk.1.1, hk.1.2⟩)⟩
        have n2_ : Aside0 ((((w17.setCell ⟨gbaf, 0, none⟩ (.string tbp)).setCell ⟨gbaf, 1, none⟩ (.slice Ao19 tbk.length co19)).setCell ⟨gbaf, 2, none⟩ (.slice Ao21 tbn.length co21)).heap[gbac]? = some (.cells #[.int .u32 a0_0, .slice A0_1 l0_1.length c0_1, .string a0_2, .slice A0_3 l0_3.length c0_3, .slice A0_4 l0_4.length c0_4] 35 (0, 0))) := ⟨by (with_reducible repeat (first | refine blk_drewN ?_ _ | refine blk_drew ?_ | refine blk_alloc ?_ _)); refine blk_far ?_ NB438_448.out _; (with_reducible repeat (first | refine blk_drewN ?_ _ | refine blk_drew ?_ | refine blk_alloc ?_ _)); refine blk_far ?_ NB438_448.out _; (with_reducible repeat (first | refine blk_drewN ?_ _ | refine blk_drew ?_ | refine blk_alloc ?_ _)); refine blk_far ?_ NB438_448.out _; (with_reducible repeat (first | refine blk_drewN ?_ _ | refine blk_drew ?_ | refine blk_alloc ?_ _)); exact BKac.out⟩
        have n3_ : Aside0 ((((w17.setCell ⟨gbaf, 0, none⟩ (.string tbp)).setCell ⟨gbaf, 1, none⟩ (.slice Ao19 tbk.length co19)).setCell ⟨gbaf, 2, none⟩ (.slice Ao21 tbn.length co21)).heap[gbaf]? = some (.cells #[.string tbp, .slice Ao19 tbk.length co19, .slice Ao21 tbn.length co21] 30 (0, 0))) := ⟨by (with_reducible repeat (first | refine blk_drewN ?_ _ | refine blk_drew ?_ | refine blk_alloc ?_ _)); refine blk_put (cs := #[.string tbp, .slice Ao19 tbk.length co19, .slice none 0 0]) ?_ 2 _ rfl; (with_reducible repeat (first | refine blk_drewN ?_ _ | refine blk_drew ?_ | refine blk_alloc ?_ _)); refine blk_put (cs := #[.string tbp, .slice none 0 0, .slice none 0 0]) ?_ 1 _ rfl; (with_reducible repeat (first | refine blk_drewN ?_ _ | refine blk_drew ?_ | refine blk_alloc ?_ _)); refine blk_put (cs := #[.string (⟨#[]⟩ : ByteArray), .slice none 0 0, .slice none 0 0]) ?_ 0 _ rfl; (with_reducible repeat (first | refine blk_drewN ?_ _ | refine blk_drew ?_ | refine blk_alloc ?_ _)); exact BKaf.out⟩
        have n4_ : Aside0 (Below w.heap.size w (((w17.setCell ⟨gbaf, 0, none⟩ (.string tbp)).setCell ⟨gbaf, 1, none⟩ (.slice Ao19 tbk.length co19)).setCell ⟨gbaf, 2, none⟩ (.slice Ao21 tbn.length co21))) := ⟨Zq30⟩
        (try clear HObv)
        (try clear HObw)
        (try clear BKac)
        (try clear BKaf)
        (try clear HB)
        generalize (((w17.setCell ⟨gbaf, 0, none⟩ (.string tbp)).setCell ⟨gbaf, 1, none⟩ (.slice Ao19 tbk.length co19)).setCell ⟨gbaf, 2, none⟩ (.slice Ao21 tbn.length co21)) = w23 at n0_ n1_ n2_ n3_ n4_ ⊢; have HObv := n0_; have HObw := n1_; have BKac := n2_; have BKaf := n3_; have HB := n4_; clear n0_ n1_ n2_ n3_ n4_; have n0_ := Ak (Kd.V_drew HObv.out); have n1_ := Ak (Kd.V_drew HObw.out); have n2_ := Ak (blk_drew BKac.out); have n3_ := Ak (blk_drew BKaf.out); have n4_ := Zq164; clear HObv HObw BKac BKaf HB; have HObv := n0_; have HObw := n1_; have BKac := n2_; have BKaf := n3_; have HB := n4_; clear n0_ n1_ n2_ n3_ n4_; obtain ⟨i025, hi025, _, hsz25, _⟩ := info_parts info3; obtain ⟨hcut25, hA25, hC25⟩ := print_take_of (P := Try.prog) (Value.int .i64) 0 48 3 .i64 Try.underlying48 hi025 hsz25 A1 c1 l1 (ji8) (of_decide_eq_true Zq4) (of_decide_eq_true Zq4) HC1.out; have HReu := Ak (Kd.C_of_reads (h1 := fun _ => rfl) (hA25 _ (Kd.reads_of_C HR1.out))); have HCeu := Ak hC25; clear hA25 hC25 hi025 hsz25; refine start_ (n := 12) (S := fun w' => w'.cell? ⟨gbac, 0, none⟩ = some (.int .u32 a0_0) ∧ w'.cell? ⟨gbac, 1, none⟩ = some (.slice A0_1 l0_1.length c0_1) ∧ w'.cell? ⟨gbac, 2, none⟩ = some (.string a0_2) ∧ w'.cell? ⟨gbac, 3, none⟩ = some (.slice A0_3 l0_3.length c0_3) ∧ w'.cell? ⟨gbac, 4, none⟩ = some (.slice A0_4 l0_4.length c0_4)) (ds := []) #[false, false, false, false, false, false, false, false, false, false, false, false] Zq2 rfl rfl ⟨(blk_cell BKac.out 0).trans rfl, (blk_cell BKac.out 1).trans rfl, (blk_cell BKac.out 2).trans rfl, (blk_cell BKac.out 3).trans rfl, (blk_cell BKac.out 4).trans rfl⟩ (fun hHeld => ?_); refine with_tabW arboretlaw13_overlaps.tab5 arboretlaw13_overlaps.bits5 (fun HT_ HW_ => ?_); generalize w23.drew = w24 at HObv HObw BKac BKaf HB HReu hHeld ⊢; refine pure_ (i := 1) (N := some 31) (v := ?_) (a' := ?_) #[false, true, false, false, false, false, false, false, false, false, false, false] rfl rfl (any_of HT_.out Zq2) (fun _ _ _ h => h) (Or.inl ⟨Zq3, ?_⟩) ?_ ?_
        rotate_left
        ·intro w'
         go_simp
         with_reducible rfl
        rotate_left
        ·simp only [Sx]
         rfl
        refine pure_ (i := 2) (N := some 32) (v := ?_) (a' := ?_) #[false, true, true, false, false, false, false, false, false, false, false, false] rfl rfl (any_of HT_.out Zq2) (fun _ _ _ h => h) (Or.inl ⟨Zq3, ?_⟩) ?_ ?_
        rotate_left
        ·intro w'
         go_simp
         with_reducible rfl
        rotate_left
        ·simp only [Sx]
         rfl
        refine pure_ (i := 3) (N := some 33) (v := ?_) (a' := ?_) #[false, true, true, true, false, false, false, false, false, false, false, false] rfl rfl (any_of HT_.out Zq2) (fun _ _ _ h => h) (Or.inl ⟨Zq3, ?_⟩) ?_ ?_
        rotate_left
        ·intro w'
         go_simp
         with_reducible rfl
        rotate_left
        ·simp only [Sx]
         rfl
        refine pure_ (i := 4) (N := some 34) (v := ?_) (a' := ?_) #[false, true, true, true, true, false, false, false, false, false, false, false] rfl rfl (any_of HT_.out Zq2) (fun _ _ _ h => h) (Or.inl ⟨Zq3, ?_⟩) ?_ ?_
        rotate_left
        ·intro w'
         go_simp
         with_reducible rfl
        rotate_left
        ·simp only [Sx]
         rfl
        refine take_ (i := 0) (N := some 30) (v := ?_) (a' := ?_) #[true, true, true, true, true, false, false, false, false, false, false, false] rfl rfl (take_ofW HT_.out HW_.out Zq2) (fun _ _ _ h => h) (Or.inl ⟨Zq3, ?_⟩) hHeld ?_ ?_
        rotate_left
        ·rintro w' ⟨s0, s1, s2, s3, s4⟩
         go_simp
         with_reducible rfl
        rotate_left
        ·simp only [Sx]
         rfl
        refine join_ (σ := Value × Value × Nat) 2 #[true, true, true, true, true, true, true, true, true, true, false, false] (fun s_ => [(35, .tuple #[.agg #[.string tbr, s_.1, s_.2.1], .bool teI]), (8, .pointer (some ⟨s_.2.2, 0, none⟩)), (29, .tuple #[.agg #[.string tbr, s_.1, s_.2.1], .bool teI]), (36, .agg #[.string tbr, s_.1, s_.2.1]), (37, .bool teI)]) (fun s_ w' => (w'.cell? ⟨gbac, 0, none⟩ = some (.int .u32 a0_0) ∧ w'.cell? ⟨gbac, 1, none⟩ = some (.slice A0_1 l0_1.length c0_1) ∧ w'.cell? ⟨gbac, 2, none⟩ = some (.string a0_2) ∧ w'.cell? ⟨gbac, 3, none⟩ = some (.slice A0_3 l0_3.length c0_3) ∧ w'.cell? ⟨gbac, 4, none⟩ = some (.slice A0_4 l0_4.length c0_4)) ∧ (Kd.V k77 77 w' w.heap.size (fun k_ => k_ ≠ gbac ∧ k_ ≠ gbaf ∧ k_ ≠ s_.2.2) (.slice Ao19 tbk.length co19) tbk) ∧ (Kd.V k30 30 w' w.heap.size (fun k_ => k_ ≠ gbac ∧ k_ ≠ gbaf ∧ k_ ≠ s_.2.2) (.slice Ao21 tbn.length co21) tbn) ∧ (Kd.V k77 77 w' w.heap.size (fun k_ => k_ ≠ gbac ∧ k_ ≠ gbaf ∧ k_ ≠ s_.2.2) s_.1 tbF) ∧ (Kd.V k30 30 w' w.heap.size (fun k_ => k_ ≠ gbac ∧ k_ ≠ gbaf ∧ k_ ≠ s_.2.2) s_.2.1 tbI) ∧ (w'.heap[gbac]? = some (.cells #[.int .u32 a0_0, .slice A0_1 l0_1.length c0_1, .string a0_2, .slice A0_3 l0_3.length c0_3, .slice A0_4 l0_4.length c0_4] 35 (0, 0))) ∧ (w'.heap[gbaf]? = some (.cells #[.string tbp, .slice Ao19 tbk.length co19, .slice Ao21 tbn.length co21] 30 (0, 0))) ∧ (w'.heap[s_.2.2]? = some (.cells #[.string (⟨#[]⟩ : ByteArray), .slice none 0 0, .slice none 0 0] 30 (0, 0))) ∧ (w.heap.size ≤ s_.2.2) ∧ (w.heap.size ≤ s_.2.2) ∧ (gbac ≠ s_.2.2) ∧ (s_.2.2 ≠ gbac) ∧ (gbaf ≠ s_.2.2) ∧ (s_.2.2 ≠ gbaf) ∧ (Below w.heap.size w w')) ?_ ?_
        rotate_left
        ·intro hCont; refine two_ (i := 5) (j := 9) (Ni := some 35) (Nj := some 8) #[true, true, true, true, true, true, false, false, false, false, false, false] #[true, true, true, true, true, false, false, false, false, true, false, false] rfl rfl rfl rfl (two_of HT_.out Zq2) Zq7 Zq7 (fun K hK => ?_) (fun K hK => ?_)
         ·skip
          refine goes_ Try.func21 Zq2 rfl #[.agg #[.int .u32 a0_0, .slice A0_1 l0_1.length c0_1, .string a0_2, .slice A0_3 l0_3.length c0_3, .slice A0_4 l0_4.length c0_4], .slice A1 (l1.take ((ji8) : Int).toNat).length c1] Zq3 rfl rfl (by (try simp only [List.map_toArray, List.map_cons, List.map_nil]); first | done | (rw [show (l1.take ((ji8) : Int).toNat).length = (ji8).toNat from (by rw [List.length_take]; have h_ : ((ji8) : Int) ≤ (l1.length : Int) := of_decide_eq_true Zq4; omega)] <;> rfl) | (simp only [hji8]; rfl) | rfl | (simp only [List.length_drop, List.length_take]; rfl)) ?_; with_reducible refine (arboretref06_Get.calls k1 a0_0 _ _ l0_1 a0_2 (fun k_ => k_ < w.heap.size) _ _ l0_3 (fun k_ => k_ < w.heap.size) _ _ l0_4 _ _ (l1.take ((ji8) : Int).toNat) tbr tbF tbI teI _ ?side1 ?side2 ?side3 ?side4 ?side5 ?side6 A11.out).mono ?_
          (case side1 => repeat (first | exact Zq126 | (with_reducible refine Kd.C_alloc ?_ _) | (with_reducible refine Kd.C_drewN ?_ _) | (with_reducible refine Kd.C_drew ?_)))
          (case side2 => exact HC0_1.out)
          (case side3 => exact Kd.V_mk HC0_3.out (Kd.F_below (Kd.C_F k77_heap HR0_3.out) Zq30))
          (case side4 => exact Kd.V_mk HC0_4.out (Kd.F_below (Kd.C_F k30_heap HR0_4.out) Zq30))
          (case side5 => repeat (first | exact (Kd.C_below HReu.out HB.out) | (with_reducible refine Kd.C_alloc ?_ _) | (with_reducible refine Kd.C_drewN ?_ _) | (with_reducible refine Kd.C_drew ?_)))
          (case side6 => exact HCeu.out)
          rintro e w26 ⟨v452, v455, rfl, ho0, ho1, hb⟩
          refine ⟨_, rfl, ?_⟩; have n0_ := Ak (Kd.V_below Zq74 hb); have n1_ := Ak (Kd.V_below Zq75 hb); have n2_ := Ak (Kd.V_lower (Kd.V_mono (ok' := fun k_ => k_ ≠ gbac ∧ k_ ≠ gbaf) ho0 (fun k_ hk_ => ⟨Or.elim hk_ (fun hs_ => Or.elim hs_ (fun hs_ => fun e_ => Nat.not_le.2 hs_ Zq40) (fun hs_ => fun e_ => Nat.not_le.2 hs_ Zq40)) (fun hn_ => Zq127), Or.elim hk_ (fun hs_ => Or.elim hs_ (fun hs_ => fun e_ => Nat.not_le.2 hs_ Zq49) (fun hs_ => fun e_ => Nat.not_le.2 hs_ Zq49)) (fun hn_ => Zq165)⟩)) (below_size Zq30)); have n3_ := Ak (Kd.V_lower (Kd.V_mono (ok' := fun k_ => k_ ≠ gbac ∧ k_ ≠ gbaf) ho1 (fun k_ hk_ => ⟨Or.elim hk_ (fun hs_ => Or.elim hs_ (fun hs_ => fun e_ => Nat.not_le.2 hs_ Zq40) (fun hs_ => fun e_ => Nat.not_le.2 hs_ Zq40)) (fun hn_ => Zq127), Or.elim hk_ (fun hs_ => Or.elim hs_ (fun hs_ => fun e_ => Nat.not_le.2 hs_ Zq49) (fun hs_ => fun e_ => Nat.not_le.2 hs_ Zq49)) (fun hn_ => Zq165)⟩)) (below_size Zq30)); have n4_ := Zq123; have n5_ := Zq141; have n6_ := Ak (below_step Zq30 hb); clear HObv HObw BKac BKaf HB; have HObv := n0_; have HObw := n1_; have HOcw := n2_; have HOcx := n3_; have BKac := n4_; have BKaf := n5_; have HB := n6_; clear n0_ n1_ n2_ n3_ n4_ n5_ n6_
          (try clear hb)
          (try clear hb2)
          (try clear hk)
          (try clear hi)
          (try clear ho0)
          (try clear ho1)
          refine hK.out _ _ ⟨(blk_cell BKac.out 0).trans rfl, (blk_cell BKac.out 1).trans rfl, (blk_cell BKac.out 2).trans rfl, (blk_cell BKac.out 3).trans rfl, (blk_cell BKac.out 4).trans rfl⟩ (fun hHeld => ?_); clear hK K; refine norm_ (a' := ?_) ?_ ?_
          rotate_left
          ·show Act.put _ (some 35) _ = _
           simp only [Sx]
           rfl
          refine pure_ (i := 6) (N := some 29) (v := ?_) (a' := ?_) #[true, true, true, true, true, true, true, false, false, false, false, false] rfl rfl (any_of HT_.out Zq2) (fun _ _ _ h => h) (Or.inl ⟨Zq3, ?_⟩) ?_ ?_
          rotate_left
          ·intro w'
           go_simp
           with_reducible rfl
          rotate_left
          ·simp only [Sx]
           rfl
          refine pure_ (i := 7) (N := some 36) (v := ?_) (a' := ?_) #[true, true, true, true, true, true, true, true, false, false, false, false] rfl rfl (any_of HT_.out Zq2) (fun _ _ _ h => h) (Or.inl ⟨Zq3, ?_⟩) ?_ ?_
          rotate_left
          ·intro w'
           go_simp
           with_reducible rfl
          rotate_left
          ·simp only [Sx]
           rfl
          refine pure_ (i := 8) (N := some 37) (v := ?_) (a' := ?_) #[true, true, true, true, true, true, true, true, true, false, false, false] rfl rfl (any_of HT_.out Zq2) (fun _ _ _ h => h) (Or.inl ⟨Zq3, ?_⟩) ?_ ?_
          rotate_left
          ·intro w'
           go_simp
           with_reducible rfl
          rotate_left
          ·simp only [Sx]
           rfl
          refine one_ (i := 9) (N := some 8) #[true, true, true, true, true, true, true, true, true, true, false, false] rfl rfl (one_of HT_.out Zq2) Zq7 (fun K hK => ?_); refine box_step ?hg (N := 8) ?hd (cs := #[.string (⟨#[]⟩ : ByteArray), .slice none 0 0, .slice none 0 0]) (t := 30) ?hr ?_; (case hd | hg => rfl); (case hr => first | (go_simp; done) | (go_simp; rfl)); intro gbaj hg w27 hbox hb; have n0_ := Ak (Kd.V_below (Kd.V_elderB Zq74 gbaj (Nat.le_of_eq hg.symm)) hb); have n1_ := Ak (Kd.V_below (Kd.V_elderB Zq75 gbaj (Nat.le_of_eq hg.symm)) hb); have n2_ := Ak (Kd.V_below (Kd.V_elderB (by (with_reducible repeat (first | apply Kd.V_alloc | apply Kd.V_drewN | apply Kd.V_drew)); exact HOcw.out) gbaj (Nat.le_of_eq hg.symm)) hb); have n3_ := Ak (Kd.V_below (Kd.V_elderB (by (with_reducible repeat (first | apply Kd.V_alloc | apply Kd.V_drewN | apply Kd.V_drew)); exact HOcx.out) gbaj (Nat.le_of_eq hg.symm)) hb); have n4_ := Zq123; have n5_ := Zq141; have n6_ := Ak (below_step Zq30 hb); have n7_ := Ak (hbox); have n8_ := Zq193; have n9_ := Zq193; have n10_ := Ak ((by rw [hg]; exact Nat.ne_of_lt Zq128 : gbac ≠ gbaj)); have n11_ := Ak ((by rw [hg]; exact Nat.ne_of_gt Zq128 : gbaj ≠ gbac)); have n12_ := Ak ((by rw [hg]; exact Nat.ne_of_lt Zq170 : gbaf ≠ gbaj)); have n13_ := Ak ((by rw [hg]; exact Nat.ne_of_gt Zq170 : gbaj ≠ gbaf)); clear HObv HObw HOcw HOcx BKac BKaf HB; have HObv := n0_; have HObw := n1_; have HOcw := n2_; have HOcx := n3_; have BKac := n4_; have BKaf := n5_; have HB := n6_; have BKaj := n7_; have GWaj := n8_; have GEaj := n9_; have NB438_458 := n10_; have NB458_438 := n11_; have NB448_458 := n12_; have NB458_448 := n13_; clear n0_ n1_ n2_ n3_ n4_ n5_ n6_ n7_ n8_ n9_ n10_ n11_ n12_ n13_ hb hbox hg; refine hK.out _ _ ⟨(blk_cell BKac.out 0).trans rfl, (blk_cell BKac.out 1).trans rfl, (blk_cell BKac.out 2).trans rfl, (blk_cell BKac.out 3).trans rfl, (blk_cell BKac.out 4).trans rfl⟩ (fun hHeld => ?_); clear hK K; refine norm_ (a' := ?_) ?_ ?_
          rotate_left
          ·show Act.put _ (some 8) _ = _
           simp only [Sx]
           rfl
          exact norm_ Zq67 (hCont (v452, v455, gbaj) _ ⟨hHeld, (by (with_reducible repeat (first | apply Kd.V_alloc | apply Kd.V_drewN | apply Kd.V_drew)); exact Kd.V_mono HObv.out (fun _ hk => ⟨hk.1.1, ⟨hk.1.2, hk.2⟩⟩)), (by (with_reducible repeat (first | apply Kd.V_alloc | apply Kd.V_drewN | apply Kd.V_drew)); exact Kd.V_mono HObw.out (fun _ hk => ⟨hk.1.1, ⟨hk.1.2, hk.2⟩⟩)), (by (with_reducible repeat (first | apply Kd.V_alloc | apply Kd.V_drewN | apply Kd.V_drew)); exact Kd.V_mono HOcw.out (fun _ hk => ⟨hk.1.1, ⟨hk.1.2, hk.2⟩⟩)), (by (with_reducible repeat (first | apply Kd.V_alloc | apply Kd.V_drewN | apply Kd.V_drew)); exact Kd.V_mono HOcx.out (fun _ hk => ⟨hk.1.1, ⟨hk.1.2, hk.2⟩⟩)), Zq12, Zq20, Zq52, GWaj.out, GEaj.out, NB438_458.out, NB458_438.out, NB448_458.out, NB458_448.out, Zq35⟩)
         ·skip
          refine box_step ?hg (N := 8) ?hd (cs := #[.string (⟨#[]⟩ : ByteArray), .slice none 0 0, .slice none 0 0]) (t := 30) ?hr ?_; (case hd | hg => rfl); (case hr => first | (go_simp; done) | (go_simp; rfl)); intro gbaj hg w26 hbox hb; have n0_ := Ak (Kd.V_below (Kd.V_elderB Zq74 gbaj (Nat.le_of_eq hg.symm)) hb); have n1_ := Ak (Kd.V_below (Kd.V_elderB Zq75 gbaj (Nat.le_of_eq hg.symm)) hb); have n2_ := Zq123; have n3_ := Zq141; have n4_ := Ak (below_step Zq30 hb); have n5_ := Ak (hbox); have n6_ := Zq193; have n7_ := Zq193; have n8_ := Ak ((by rw [hg]; exact Nat.ne_of_lt Zq128 : gbac ≠ gbaj)); have n9_ := Ak ((by rw [hg]; exact Nat.ne_of_gt Zq128 : gbaj ≠ gbac)); have n10_ := Ak ((by rw [hg]; exact Nat.ne_of_lt Zq170 : gbaf ≠ gbaj)); have n11_ := Ak ((by rw [hg]; exact Nat.ne_of_gt Zq170 : gbaj ≠ gbaf)); clear HObv HObw BKac BKaf HB; have HObv := n0_; have HObw := n1_; have BKac := n2_; have BKaf := n3_; have HB := n4_; have BKaj := n5_; have GWaj := n6_; have GEaj := n7_; have NB438_458 := n8_; have NB458_438 := n9_; have NB448_458 := n10_; have NB458_448 := n11_; clear n0_ n1_ n2_ n3_ n4_ n5_ n6_ n7_ n8_ n9_ n10_ n11_ hb hbox hg; refine hK.out _ _ ⟨(blk_cell BKac.out 0).trans rfl, (blk_cell BKac.out 1).trans rfl, (blk_cell BKac.out 2).trans rfl, (blk_cell BKac.out 3).trans rfl, (blk_cell BKac.out 4).trans rfl⟩ (fun hHeld => ?_); clear hK K; refine norm_ (a' := ?_) ?_ ?_
          rotate_left
          ·show Act.put _ (some 8) _ = _
           simp only [Sx]
           rfl
          refine one_ (i := 5) (N := some 35) #[true, true, true, true, true, true, false, false, false, true, false, false] rfl rfl (one_of HT_.out Zq2) Zq7 (fun K hK => ?_); refine goes_ Try.func21 Zq2 rfl #[.agg #[.int .u32 a0_0, .slice A0_1 l0_1.length c0_1, .string a0_2, .slice A0_3 l0_3.length c0_3, .slice A0_4 l0_4.length c0_4], .slice A1 (l1.take ((ji8) : Int).toNat).length c1] Zq3 rfl rfl (by (try simp only [List.map_toArray, List.map_cons, List.map_nil]); first | done | (rw [show (l1.take ((ji8) : Int).toNat).length = (ji8).toNat from (by rw [List.length_take]; have h_ : ((ji8) : Int) ≤ (l1.length : Int) := of_decide_eq_true Zq4; omega)] <;> rfl) | (simp only [hji8]; rfl) | rfl | (simp only [List.length_drop, List.length_take]; rfl)) ?_; with_reducible refine (arboretref06_Get.calls k1 a0_0 _ _ l0_1 a0_2 (fun k_ => k_ < w.heap.size) _ _ l0_3 (fun k_ => k_ < w.heap.size) _ _ l0_4 _ _ (l1.take ((ji8) : Int).toNat) tbr tbF tbI teI _ ?side1 ?side2 ?side3 ?side4 ?side5 ?side6 A11.out).mono ?_
          (case side1 => repeat (first | exact Zq126 | (with_reducible refine Kd.C_alloc ?_ _) | (with_reducible refine Kd.C_drewN ?_ _) | (with_reducible refine Kd.C_drew ?_)))
          (case side2 => exact HC0_1.out)
          (case side3 => exact Kd.V_mk HC0_3.out (Kd.F_below (Kd.C_F k77_heap HR0_3.out) Zq35))
          (case side4 => exact Kd.V_mk HC0_4.out (Kd.F_below (Kd.C_F k30_heap HR0_4.out) Zq35))
          (case side5 => repeat (first | exact (Kd.C_below HReu.out HB.out) | (with_reducible refine Kd.C_alloc ?_ _) | (with_reducible refine Kd.C_drewN ?_ _) | (with_reducible refine Kd.C_drew ?_)))
          (case side6 => exact HCeu.out)
          rintro e w27 ⟨v452, v455, rfl, ho0, ho1, hb⟩
          refine ⟨_, rfl, ?_⟩; have n0_ := Ak (Kd.V_below Zq74 hb); have n1_ := Ak (Kd.V_below Zq75 hb); have n2_ := Ak (Kd.V_lower (Kd.V_mono (ok' := fun k_ => k_ ≠ gbac ∧ k_ ≠ gbaf ∧ k_ ≠ gbaj) ho0 (fun k_ hk_ => ⟨Or.elim hk_ (fun hs_ => Or.elim hs_ (fun hs_ => fun e_ => Nat.not_le.2 hs_ Zq40) (fun hs_ => fun e_ => Nat.not_le.2 hs_ Zq40)) (fun hn_ => Zq127), Or.elim hk_ (fun hs_ => Or.elim hs_ (fun hs_ => fun e_ => Nat.not_le.2 hs_ Zq49) (fun hs_ => fun e_ => Nat.not_le.2 hs_ Zq49)) (fun hn_ => Zq165), Or.elim hk_ (fun hs_ => Or.elim hs_ (fun hs_ => fun e_ => Nat.not_le.2 hs_ (by rw [e_]; exact GWaj.out)) (fun hs_ => fun e_ => Nat.not_le.2 hs_ (by rw [e_]; exact GWaj.out))) (fun hn_ => Zq231)⟩)) (below_size Zq35)); have n3_ := Ak (Kd.V_lower (Kd.V_mono (ok' := fun k_ => k_ ≠ gbac ∧ k_ ≠ gbaf ∧ k_ ≠ gbaj) ho1 (fun k_ hk_ => ⟨Or.elim hk_ (fun hs_ => Or.elim hs_ (fun hs_ => fun e_ => Nat.not_le.2 hs_ Zq40) (fun hs_ => fun e_ => Nat.not_le.2 hs_ Zq40)) (fun hn_ => Zq127), Or.elim hk_ (fun hs_ => Or.elim hs_ (fun hs_ => fun e_ => Nat.not_le.2 hs_ Zq49) (fun hs_ => fun e_ => Nat.not_le.2 hs_ Zq49)) (fun hn_ => Zq165), Or.elim hk_ (fun hs_ => Or.elim hs_ (fun hs_ => fun e_ => Nat.not_le.2 hs_ (by rw [e_]; exact GWaj.out)) (fun hs_ => fun e_ => Nat.not_le.2 hs_ (by rw [e_]; exact GWaj.out))) (fun hn_ => Zq231)⟩)) (below_size Zq35)); have n4_ := Zq123; have n5_ := Zq141; have n6_ := Ak (blk_below (g := gbaj) (o := .cells #[.string (⟨#[]⟩ : ByteArray), .slice none 0 0, .slice none 0 0] 30 (0, 0)) Zq52 hb); have n7_ := Ak (below_step Zq35 hb); clear HObv HObw BKac BKaf BKaj HB; have HObv := n0_; have HObw := n1_; have HOcw := n2_; have HOcx := n3_; have BKac := n4_; have BKaf := n5_; have BKaj := n6_; have HB := n7_; clear n0_ n1_ n2_ n3_ n4_ n5_ n6_ n7_
          (try clear hb)
          (try clear hb2)
          (try clear hk)
          (try clear hi)
          (try clear ho0)
          (try clear ho1)
          refine hK.out _ _ ⟨(blk_cell BKac.out 0).trans rfl, (blk_cell BKac.out 1).trans rfl, (blk_cell BKac.out 2).trans rfl, (blk_cell BKac.out 3).trans rfl, (blk_cell BKac.out 4).trans rfl⟩ (fun hHeld => ?_); clear hK K; refine norm_ (a' := ?_) ?_ ?_
          rotate_left
          ·show Act.put _ (some 35) _ = _
           simp only [Sx]
           rfl
          refine pure_ (i := 6) (N := some 29) (v := ?_) (a' := ?_) #[true, true, true, true, true, true, true, false, false, true, false, false] rfl rfl (any_of HT_.out Zq2) (fun _ _ _ h => h) (Or.inl ⟨Zq3, ?_⟩) ?_ ?_
          rotate_left
          ·intro w'
           go_simp
           with_reducible rfl
          rotate_left
          ·simp only [Sx]
           rfl
          refine pure_ (i := 7) (N := some 36) (v := ?_) (a' := ?_) #[true, true, true, true, true, true, true, true, false, true, false, false] rfl rfl (any_of HT_.out Zq2) (fun _ _ _ h => h) (Or.inl ⟨Zq3, ?_⟩) ?_ ?_
          rotate_left
          ·intro w'
           go_simp
           with_reducible rfl
          rotate_left
          ·simp only [Sx]
           rfl
          refine pure_ (i := 8) (N := some 37) (v := ?_) (a' := ?_) #[true, true, true, true, true, true, true, true, true, true, false, false] rfl rfl (any_of HT_.out Zq2) (fun _ _ _ h => h) (Or.inl ⟨Zq3, ?_⟩) ?_ ?_
          rotate_left
          ·intro w'
           go_simp
           with_reducible rfl
          rotate_left
          ·simp only [Sx]
           rfl
          exact norm_ Zq67 (hCont (v452, v455, gbaj) _ ⟨hHeld, (by (with_reducible repeat (first | apply Kd.V_alloc | apply Kd.V_drewN | apply Kd.V_drew)); exact Kd.V_mono HObv.out (fun _ hk => ⟨hk.1.1, ⟨hk.1.2, hk.2⟩⟩)), (by (with_reducible repeat (first | apply Kd.V_alloc | apply Kd.V_drewN | apply Kd.V_drew)); exact Kd.V_mono HObw.out (fun _ hk => ⟨hk.1.1, ⟨hk.1.2, hk.2⟩⟩)), (by (with_reducible repeat (first | apply Kd.V_alloc | apply Kd.V_drewN | apply Kd.V_drew)); exact HOcw.out), (by (with_reducible repeat (first | apply Kd.V_alloc | apply Kd.V_drewN | apply Kd.V_drew)); exact HOcx.out), Zq12, Zq20, Zq52, GWaj.out, GEaj.out, NB438_458.out, NB458_438.out, NB448_458.out, NB458_448.out, Zq35⟩)
        rintro ⟨v452, v455, gbaj⟩ w28 ⟨hS_, h0_, h1_, h2_, h3_, h4_, h5_, h6_, h7_, h8_, h9_, h10_, h11_, h12_, h13_⟩
        have n0_ : Aside0 (Kd.V k77 77 w28 w.heap.size (fun k_ => k_ ≠ gbac ∧ k_ ≠ gbaf ∧ k_ ≠ gbaj) (.slice Ao19 tbk.length co19) tbk) := ⟨h0_⟩
        have n1_ : Aside0 (Kd.V k30 30 w28 w.heap.size (fun k_ => k_ ≠ gbac ∧ k_ ≠ gbaf ∧ k_ ≠ gbaj) (.slice Ao21 tbn.length co21) tbn) := ⟨h1_⟩
        have n2_ : Aside0 (Kd.V k77 77 w28 w.heap.size (fun k_ => k_ ≠ gbac ∧ k_ ≠ gbaf ∧ k_ ≠ gbaj) v452 tbF) := ⟨h2_⟩
        have n3_ : Aside0 (Kd.V k30 30 w28 w.heap.size (fun k_ => k_ ≠ gbac ∧ k_ ≠ gbaf ∧ k_ ≠ gbaj) v455 tbI) := ⟨h3_⟩
        have n4_ : Aside0 (w28.heap[gbac]? = some (.cells #[.int .u32 a0_0, .slice A0_1 l0_1.length c0_1, .string a0_2, .slice A0_3 l0_3.length c0_3, .slice A0_4 l0_4.length c0_4] 35 (0, 0))) := ⟨h4_⟩
        have n5_ : Aside0 (w28.heap[gbaf]? = some (.cells #[.string tbp, .slice Ao19 tbk.length co19, .slice Ao21 tbn.length co21] 30 (0, 0))) := ⟨h5_⟩
        have n6_ : Aside0 (w28.heap[gbaj]? = some (.cells #[.string (⟨#[]⟩ : ByteArray), .slice none 0 0, .slice none 0 0] 30 (0, 0))) := ⟨h6_⟩
        have n7_ : Aside0 (w.heap.size ≤ gbaj) := ⟨h7_⟩
        have n8_ : Aside0 (w.heap.size ≤ gbaj) := ⟨h8_⟩
        have n9_ : Aside0 (gbac ≠ gbaj) := ⟨h9_⟩
        have n10_ : Aside0 (gbaj ≠ gbac) := ⟨h10_⟩
        have n11_ : Aside0 (gbaf ≠ gbaj) := ⟨h11_⟩
        have n12_ : Aside0 (gbaj ≠ gbaf) := ⟨h12_⟩
        have n13_ : Aside0 (Below w.heap.size w w28) := ⟨h13_⟩
        clear HObv HObw BKac BKaf HB h0_ h1_ h2_ h3_ h4_ h5_ h6_ h7_ h8_ h9_ h10_ h11_ h12_ h13_; have HObv := n0_; have HObw := n1_; have HOcw := n2_; have HOcx := n3_; have BKac := n4_; have BKaf := n5_; have BKaj := n6_; have GWaj := n7_; have GEaj := n8_; have NB438_458 := n9_; have NB458_438 := n10_; have NB448_458 := n11_; have NB458_448 := n12_; have HB := n13_; clear n0_ n1_ n2_ n3_ n4_ n5_ n6_ n7_ n8_ n9_ n10_ n11_ n12_ n13_; have hHeld : w28.cell? ⟨gbac, 0, none⟩ = some (.int .u32 a0_0) ∧ w28.cell? ⟨gbac, 1, none⟩ = some (.slice A0_1 l0_1.length c0_1) ∧ w28.cell? ⟨gbac, 2, none⟩ = some (.string a0_2) ∧ w28.cell? ⟨gbac, 3, none⟩ = some (.slice A0_3 l0_3.length c0_3) ∧ w28.cell? ⟨gbac, 4, none⟩ = some (.slice A0_4 l0_4.length c0_4) := hS_; obtain ⟨Ao30, co30, eo30⟩ := Kd.V_slice HOcw.out
        (first | subst eo30 | (injection eo30 with f1_ f2_ f3_; have f4_ := f1_.symm; have f5_ := f3_.symm; clear f1_ f2_ f3_; subst f4_; subst f5_))
        obtain ⟨Ao32, co32, eo32⟩ := Kd.V_slice HOcx.out
        (first | subst eo32 | (injection eo32 with f1_ f2_ f3_; have f4_ := f1_.symm; have f5_ := f3_.symm; clear f1_ f2_ f3_; subst f4_; subst f5_))
        refine norm_ (a' := ?_) ?_ ?_
        rotate_left
        ·simp only [putAll, Act.put, List.setIfInBounds_toArray, List.set_cons_zero, List.set_cons_succ]
         rfl
        refine one_ (i := 10) (N := none) #[true, true, true, true, true, true, true, true, true, true, true, false] rfl rfl (one_of HT_.out Zq2) Zq7 (fun K hK => ?_); have hs29 : w28.cell? ⟨gbaj, 0, none⟩ = some (.string (⟨#[]⟩ : ByteArray)) := (blk_cell BKaj.out 0).trans rfl; have hfs29 := blk_frozen BKaj.out 0; have hns29_0 := NB438_458.out; have hns29_1 := NB448_458.out; have hms29_0 := NB458_438.out; have hms29_1 := NB458_448.out; have hs31 : w28.cell? ⟨gbaj, 1, none⟩ = some (.slice none 0 0) := (blk_cell BKaj.out 1).trans rfl; have hfs31 := blk_frozen BKaj.out 1; have hns31_0 := NB438_458.out; have hns31_1 := NB448_458.out; have hms31_0 := NB458_438.out; have hms31_1 := NB458_448.out; have hs33 : w28.cell? ⟨gbaj, 2, none⟩ = some (.slice none 0 0) := (blk_cell BKaj.out 2).trans rfl; have hfs33 := blk_frozen BKaj.out 2; have hns33_0 := NB438_458.out; have hns33_1 := NB448_458.out; have hms33_0 := NB458_438.out; have hms33_1 := NB458_448.out; refine skip_ (w1 := ?_) Zq3 rfl ?_ ?_
        rotate_left
        ·go_simp
         rfl
        refine hK.out _ _ ⟨((cell_far (p := ⟨gbaj, _, none⟩) NB438_458.out _).trans (((cell_far (p := ⟨gbaj, _, none⟩) NB438_458.out _).trans (((cell_far (p := ⟨gbaj, _, none⟩) NB438_458.out _).trans (hHeld.1)))))), ((cell_far (p := ⟨gbaj, _, none⟩) NB438_458.out _).trans (((cell_far (p := ⟨gbaj, _, none⟩) NB438_458.out _).trans (((cell_far (p := ⟨gbaj, _, none⟩) NB438_458.out _).trans (hHeld.2.1)))))), ((cell_far (p := ⟨gbaj, _, none⟩) NB438_458.out _).trans (((cell_far (p := ⟨gbaj, _, none⟩) NB438_458.out _).trans (((cell_far (p := ⟨gbaj, _, none⟩) NB438_458.out _).trans (hHeld.2.2.1)))))), ((cell_far (p := ⟨gbaj, _, none⟩) NB438_458.out _).trans (((cell_far (p := ⟨gbaj, _, none⟩) NB438_458.out _).trans (((cell_far (p := ⟨gbaj, _, none⟩) NB438_458.out _).trans (hHeld.2.2.2.1)))))), ((cell_far (p := ⟨gbaj, _, none⟩) NB438_458.out _).trans (((cell_far (p := ⟨gbaj, _, none⟩) NB438_458.out _).trans (((cell_far (p := ⟨gbaj, _, none⟩) NB438_458.out _).trans (hHeld.2.2.2.2))))))⟩ (fun hHeld => ?_); clear hK K; refine pure_ (i := 11) (N := some 9) (v := ?_) (a' := ?_) #[true, true, true, true, true, true, true, true, true, true, true, true] rfl rfl (any_of HT_.out Zq2) (fun _ _ _ h => h) (Or.inl ⟨Zq3, ?_⟩) ?_ ?_
        rotate_left
        ·intro w'
         go_simp
         with_reducible rfl
        rotate_left
        ·simp only [Sx]
         rfl
        refine done_ (done_of HT_.out Zq2) ?_; have hnb34 := NB458_438.out; have hnc34 := NB438_458.out; have hnb35 := NB458_448.out; have hnc35 := NB448_458.out; have hcz36_0 : w28.cell? ⟨gbaj, 0, none⟩ = some (.string (⟨#[]⟩ : ByteArray)) := (blk_cell BKaj.out 0).trans rfl; have hcz36_1 : w28.cell? ⟨gbaj, 1, none⟩ = some (.slice none 0 0) := (blk_cell BKaj.out 1).trans rfl; have hcz36_2 : w28.cell? ⟨gbaj, 2, none⟩ = some (.slice none 0 0) := (blk_cell BKaj.out 2).trans rfl; have hfz36_0 := blk_frozen BKaj.out 0; have hfz36_1 := blk_frozen BKaj.out 1; have hfz36_2 := blk_frozen BKaj.out 2; have hnb37 := NB448_438.out; have hnc37 := NB438_448.out; have hcz38_0 : w28.cell? ⟨gbaf, 0, none⟩ = some (.string tbp) := (blk_cell BKaf.out 0).trans rfl; have hcz38_1 : w28.cell? ⟨gbaf, 1, none⟩ = some (.slice Ao19 tbk.length co19) := (blk_cell BKaf.out 1).trans rfl; have hcz38_2 : w28.cell? ⟨gbaf, 2, none⟩ = some (.slice Ao21 tbn.length co21) := (blk_cell BKaf.out 2).trans rfl; have hfz38_0 := blk_frozen BKaf.out 0; have hfz38_1 := blk_frozen BKaf.out 1; have hfz38_2 := blk_frozen BKaf.out 2
        try go_wp2_with (first | ((with_reducible refine gate_callee (f := 18) rfl ?_); refine goesL_ (some 41) rfl rfl Try.func18 Zq2 rfl #[.agg #[.string tbr, .slice Ao30 tbF.length co30, .slice Ao32 tbI.length co32], .agg #[.string tbp, .slice Ao19 tbk.length co19, .slice Ao21 tbn.length co21]] rfl Zq9 ?_; (with_reducible refine (arboretref12_Ranges.calls k1 tbr _ _ tbF _ _ tbI tbp _ _ tbk _ _ tbn taD tgo tgp _ ?side1 ?side2 ?side3 ?side4 ?side5 ?side6 ?side7 ?side8 A12.out).mono ?_); (case side1 => refine (Kd.V_reads' (e := 77) (base := w.heap.size) (ok := fun k_ => (k_ ≠ gbac ∧ (k_ ≠ gbaf ∧ k_ ≠ gbaj))) (n := tbF.length) (c := co30) ?_).2.2; exact (by (with_reducible repeat (first | apply Kd.V_alloc | apply Kd.V_drewN | apply Kd.V_drew)); exact (Kd.V_mono (Kd.V_far (p := ⟨gbaj, 2, none⟩) (Kd.V_far (p := ⟨gbaj, 1, none⟩) (Kd.V_far (p := ⟨gbaj, 0, none⟩) (Kd.V_mono HOcw.out (fun k_ hk => (⟨hk, hk.2.2⟩ : _ ∧ k_ ≠ gbaj))) (fun _ hk => hk.2) (.string tbr)) (fun _ hk => hk.2) (.slice Ao30 tbF.length co30)) (fun _ hk => hk.2) (.slice Ao32 tbI.length co32)) (fun _ h_ => h_.1)))); (case side2 => exact (Kd.V_reads' HOcw.out).2.1); (case side3 => refine (Kd.V_reads' (e := 30) (base := w.heap.size) (ok := fun k_ => (k_ ≠ gbac ∧ (k_ ≠ gbaf ∧ k_ ≠ gbaj))) (n := tbI.length) (c := co32) ?_).2.2; exact (by (with_reducible repeat (first | apply Kd.V_alloc | apply Kd.V_drewN | apply Kd.V_drew)); exact (Kd.V_mono (Kd.V_far (p := ⟨gbaj, 2, none⟩) (Kd.V_far (p := ⟨gbaj, 1, none⟩) (Kd.V_far (p := ⟨gbaj, 0, none⟩) (Kd.V_mono HOcx.out (fun k_ hk => (⟨hk, hk.2.2⟩ : _ ∧ k_ ≠ gbaj))) (fun _ hk => hk.2) (.string tbr)) (fun _ hk => hk.2) (.slice Ao30 tbF.length co30)) (fun _ hk => hk.2) (.slice Ao32 tbI.length co32)) (fun _ h_ => h_.1)))); (case side4 => exact (Kd.V_reads' HOcx.out).2.1); (case side5 => refine (Kd.V_reads' (e := 77) (base := w.heap.size) (ok := fun k_ => (k_ ≠ gbac ∧ (k_ ≠ gbaf ∧ k_ ≠ gbaj))) (n := tbk.length) (c := co19) ?_).2.2; exact (by (with_reducible repeat (first | apply Kd.V_alloc | apply Kd.V_drewN | apply Kd.V_drew)); exact (Kd.V_mono (Kd.V_far (p := ⟨gbaj, 2, none⟩) (Kd.V_far (p := ⟨gbaj, 1, none⟩) (Kd.V_far (p := ⟨gbaj, 0, none⟩) (Kd.V_mono HObv.out (fun k_ hk => (⟨hk, hk.2.2⟩ : _ ∧ k_ ≠ gbaj))) (fun _ hk => hk.2) (.string tbr)) (fun _ hk => hk.2) (.slice Ao30 tbF.length co30)) (fun _ hk => hk.2) (.slice Ao32 tbI.length co32)) (fun _ h_ => h_.1)))); (case side6 => exact (Kd.V_reads' HObv.out).2.1); (case side7 => refine (Kd.V_reads' (e := 30) (base := w.heap.size) (ok := fun k_ => (k_ ≠ gbac ∧ (k_ ≠ gbaf ∧ k_ ≠ gbaj))) (n := tbn.length) (c := co21) ?_).2.2; exact (by (with_reducible repeat (first | apply Kd.V_alloc | apply Kd.V_drewN | apply Kd.V_drew)); exact (Kd.V_mono (Kd.V_far (p := ⟨gbaj, 2, none⟩) (Kd.V_far (p := ⟨gbaj, 1, none⟩) (Kd.V_far (p := ⟨gbaj, 0, none⟩) (Kd.V_mono HObw.out (fun k_ hk => (⟨hk, hk.2.2⟩ : _ ∧ k_ ≠ gbaj))) (fun _ hk => hk.2) (.string tbr)) (fun _ hk => hk.2) (.slice Ao30 tbF.length co30)) (fun _ hk => hk.2) (.slice Ao32 tbI.length co32)) (fun _ h_ => h_.1)))); (case side8 => exact (Kd.V_reads' HObw.out).2.1); rintro e w39 ⟨v460, rfl, ho0, hb⟩; refine ⟨_, rfl, ?_⟩; have n0_ := Ak (Kd.V_elder' (by (with_reducible repeat (first | apply Kd.V_alloc | apply Kd.V_drewN | apply Kd.V_drew)); exact (Kd.V_mono (Kd.V_far (p := ⟨gbaj, 2, none⟩) (Kd.V_far (p := ⟨gbaj, 1, none⟩) (Kd.V_far (p := ⟨gbaj, 0, none⟩) (Kd.V_mono HObv.out (fun k_ hk => (⟨hk, hk.2.2⟩ : _ ∧ k_ ≠ gbaj))) (fun _ hk => hk.2) (.string tbr)) (fun _ hk => hk.2) (.slice Ao30 tbF.length co30)) (fun _ hk => hk.2) (.slice Ao32 tbI.length co32)) (fun _ h_ => h_.1))) (Kd.R_base ho0) hb); have n1_ := Ak (Kd.V_elder' (by (with_reducible repeat (first | apply Kd.V_alloc | apply Kd.V_drewN | apply Kd.V_drew)); exact (Kd.V_mono (Kd.V_far (p := ⟨gbaj, 2, none⟩) (Kd.V_far (p := ⟨gbaj, 1, none⟩) (Kd.V_far (p := ⟨gbaj, 0, none⟩) (Kd.V_mono HObw.out (fun k_ hk => (⟨hk, hk.2.2⟩ : _ ∧ k_ ≠ gbaj))) (fun _ hk => hk.2) (.string tbr)) (fun _ hk => hk.2) (.slice Ao30 tbF.length co30)) (fun _ hk => hk.2) (.slice Ao32 tbI.length co32)) (fun _ h_ => h_.1))) (Kd.R_base ho0) hb); have n2_ := Ak (Kd.V_elder' (by (with_reducible repeat (first | apply Kd.V_alloc | apply Kd.V_drewN | apply Kd.V_drew)); exact (Kd.V_mono (Kd.V_far (p := ⟨gbaj, 2, none⟩) (Kd.V_far (p := ⟨gbaj, 1, none⟩) (Kd.V_far (p := ⟨gbaj, 0, none⟩) (Kd.V_mono HOcw.out (fun k_ hk => (⟨hk, hk.2.2⟩ : _ ∧ k_ ≠ gbaj))) (fun _ hk => hk.2) (.string tbr)) (fun _ hk => hk.2) (.slice Ao30 tbF.length co30)) (fun _ hk => hk.2) (.slice Ao32 tbI.length co32)) (fun _ h_ => h_.1))) (Kd.R_base ho0) hb); have n3_ := Ak (Kd.V_elder' (by (with_reducible repeat (first | apply Kd.V_alloc | apply Kd.V_drewN | apply Kd.V_drew)); exact (Kd.V_mono (Kd.V_far (p := ⟨gbaj, 2, none⟩) (Kd.V_far (p := ⟨gbaj, 1, none⟩) (Kd.V_far (p := ⟨gbaj, 0, none⟩) (Kd.V_mono HOcx.out (fun k_ hk => (⟨hk, hk.2.2⟩ : _ ∧ k_ ≠ gbaj))) (fun _ hk => hk.2) (.string tbr)) (fun _ hk => hk.2) (.slice Ao30 tbF.length co30)) (fun _ hk => hk.2) (.slice Ao32 tbI.length co32)) (fun _ h_ => h_.1))) (Kd.R_base ho0) hb); have n4_ := Ak (Kd.R_lower ho0 (below_size Zq35)); have n5_ := Ak (blk_below (g := gbac) (o := .cells #[.int .u32 a0_0, .slice A0_1 l0_1.length c0_1, .string a0_2, .slice A0_3 l0_3.length c0_3, .slice A0_4 l0_4.length c0_4] 35 (0, 0)) (by (with_reducible repeat (first | refine blk_drewN ?_ _ | refine blk_drew ?_ | refine blk_alloc ?_ _)); refine blk_far ?_ NB438_458.out _; (with_reducible repeat (first | refine blk_drewN ?_ _ | refine blk_drew ?_ | refine blk_alloc ?_ _)); refine blk_far ?_ NB438_458.out _; (with_reducible repeat (first | refine blk_drewN ?_ _ | refine blk_drew ?_ | refine blk_alloc ?_ _)); refine blk_far ?_ NB438_458.out _; (with_reducible repeat (first | refine blk_drewN ?_ _ | refine blk_drew ?_ | refine blk_alloc ?_ _)); exact BKac.out) hb); have n6_ := Ak (blk_below (g := gbaf) (o := .cells #[.string tbp, .slice Ao19 tbk.length co19, .slice Ao21 tbn.length co21] 30 (0, 0)) (by (with_reducible repeat (first | refine blk_drewN ?_ _ | refine blk_drew ?_ | refine blk_alloc ?_ _)); refine blk_far ?_ NB448_458.out _; (with_reducible repeat (first | refine blk_drewN ?_ _ | refine blk_drew ?_ | refine blk_alloc ?_ _)); refine blk_far ?_ NB448_458.out _; (with_reducible repeat (first | refine blk_drewN ?_ _ | refine blk_drew ?_ | refine blk_alloc ?_ _)); refine blk_far ?_ NB448_458.out _; (with_reducible repeat (first | refine blk_drewN ?_ _ | refine blk_drew ?_ | refine blk_alloc ?_ _)); exact BKaf.out) hb); have n7_ := Ak (blk_below (g := gbaj) (o := .cells #[.string tbr, .slice Ao30 tbF.length co30, .slice Ao32 tbI.length co32] 30 (0, 0)) (by (with_reducible repeat (first | refine blk_drewN ?_ _ | refine blk_drew ?_ | refine blk_alloc ?_ _)); refine blk_put (cs := #[.string tbr, .slice Ao30 tbF.length co30, .slice none 0 0]) ?_ 2 _ rfl; (with_reducible repeat (first | refine blk_drewN ?_ _ | refine blk_drew ?_ | refine blk_alloc ?_ _)); refine blk_put (cs := #[.string tbr, .slice none 0 0, .slice none 0 0]) ?_ 1 _ rfl; (with_reducible repeat (first | refine blk_drewN ?_ _ | refine blk_drew ?_ | refine blk_alloc ?_ _)); refine blk_put (cs := #[.string (⟨#[]⟩ : ByteArray), .slice none 0 0, .slice none 0 0]) ?_ 0 _ rfl; (with_reducible repeat (first | refine blk_drewN ?_ _ | refine blk_drew ?_ | refine blk_alloc ?_ _)); exact BKaj.out) hb); have n8_ := Ak (below_step Zq35 hb); clear HObv HObw HOcw HOcx BKac BKaf BKaj HB; have HObv := n0_; have HObw := n1_; have HOcw := n2_; have HOcx := n3_; have HOfP := n4_; have BKac := n5_; have BKaf := n6_; have BKaj := n7_; have HB := n8_; clear n0_ n1_ n2_ n3_ n4_ n5_ n6_ n7_ n8_; (try clear hb); (try clear hb2); (try clear hk); (try clear hi); (try clear ho0); obtain ⟨Ao40, co40, eo40⟩ := Kd.R_slice HOfP.out; subst eo40))
        go_loopg [47] k1 (fun kq v47 w' => ∃ (x47_2 : Int), v47 = .int .i64 x47_2 ∧ Aside0 (arboretlaw13_overlaps.l1 kq l1 x5_1 taD (taD.length : Int) x47_2 a0_0 l0_1 a0_2 l0_3 l0_4 = some r) ∧ Aside0 (kq ≤ k1) ∧ Aside0 (Kd.R k45 45 w' w.heap.size (fun _ => True) (.slice Ao40 taD.length co40) taD) ∧ Aside0 (Kd.V k77 77 w' w.heap.size (fun k_ => some k_ ≠ ((.slice Ao40 taD.length co40) : Value).ownBlock ∧ k_ ≠ gbac ∧ k_ ≠ gbaf ∧ k_ ≠ gbaj) (.slice Ao19 tbk.length co19) tbk) ∧ Aside0 (Kd.V k30 30 w' w.heap.size (fun k_ => some k_ ≠ ((.slice Ao40 taD.length co40) : Value).ownBlock ∧ k_ ≠ gbac ∧ k_ ≠ gbaf ∧ k_ ≠ gbaj) (.slice Ao21 tbn.length co21) tbn) ∧ Aside0 (Kd.V k77 77 w' w.heap.size (fun k_ => some k_ ≠ ((.slice Ao40 taD.length co40) : Value).ownBlock ∧ k_ ≠ gbac ∧ k_ ≠ gbaf ∧ k_ ≠ gbaj) (.slice Ao30 tbF.length co30) tbF) ∧ Aside0 (Kd.V k30 30 w' w.heap.size (fun k_ => some k_ ≠ ((.slice Ao40 taD.length co40) : Value).ownBlock ∧ k_ ≠ gbac ∧ k_ ≠ gbaf ∧ k_ ≠ gbaj) (.slice Ao32 tbI.length co32) tbI) ∧ Aside0 (w'.heap[gbac]? = some (.cells #[.int .u32 a0_0, (.slice A0_1 l0_1.length c0_1), .string a0_2, (.slice A0_3 l0_3.length c0_3), (.slice A0_4 l0_4.length c0_4)] 35 (0, 0))) ∧ Aside0 (w'.heap[gbaf]? = some (.cells #[.string tbp, (.slice Ao19 tbk.length co19), (.slice Ao21 tbn.length co21)] 30 (0, 0))) ∧ Aside0 (w'.heap[gbaj]? = some (.cells #[.string tbr, (.slice Ao30 tbF.length co30), (.slice Ao32 tbI.length co32)] 30 (0, 0))) ∧ Aside0 (Below w.heap.size w w'))
        case atStart => exact ⟨(0), Zq6, H', ⟨Nat.le_refl _⟩, ⟨by (with_reducible repeat (first | apply Kd.R_alloc | apply Kd.R_drewN | apply Kd.R_drew)); exact HOfP.out⟩, ⟨by (with_reducible repeat (first | apply Kd.V_alloc | apply Kd.V_drewN | apply Kd.V_drew)); exact Kd.V_mono HObv.out (fun _ hk => ⟨hk.2, ⟨hk.1.1, ⟨hk.1.2.1, hk.1.2.2⟩⟩⟩)⟩, ⟨by (with_reducible repeat (first | apply Kd.V_alloc | apply Kd.V_drewN | apply Kd.V_drew)); exact Kd.V_mono HObw.out (fun _ hk => ⟨hk.2, ⟨hk.1.1, ⟨hk.1.2.1, hk.1.2.2⟩⟩⟩)⟩, ⟨by (with_reducible repeat (first | apply Kd.V_alloc | apply Kd.V_drewN | apply Kd.V_drew)); exact Kd.V_mono HOcw.out (fun _ hk => ⟨hk.2, ⟨hk.1.1, ⟨hk.1.2.1, hk.1.2.2⟩⟩⟩)⟩, ⟨by (with_reducible repeat (first | apply Kd.V_alloc | apply Kd.V_drewN | apply Kd.V_drew)); exact Kd.V_mono HOcx.out (fun _ hk => ⟨hk.2, ⟨hk.1.1, ⟨hk.1.2.1, hk.1.2.2⟩⟩⟩)⟩, ⟨Zq12⟩, ⟨Zq20⟩, ⟨Zq52⟩, ⟨Zq35⟩⟩
        case round =>
         clear H'
         try clear c1
         try clear c2
         try clear p2
         try clear c3
         try clear c18
         try clear c21
         try clear c34
         try clear c35
         try clear c37
         try clear hcz36_0
         try clear hcz36_1
         try clear hcz36_2
         try clear hcz38_0
         try clear hcz38_1
         try clear hcz38_2
         try clear hfz36_0
         try clear hfz36_1
         try clear hfz36_2
         try clear hfz38_0
         try clear hfz38_1
         try clear hfz38_2
         obtain ⟨x47_2, rfl, HA, HK2, HO_10, HO_cy, HO_cz, HO_cA, HO_cB, BKac, BKaf, BKaj, HB⟩ := hrel
         cases gk with
         | zero => exact absurd HA.out (by simp [arboretlaw13_overlaps.l1])
         | succ k2 =>
          have H := HA.out; clear HA; simp only [arboretlaw13_overlaps.l1] at H
          by_cases c41 : x47_2 < (taD.length : Int)
          ·rw [if_pos c41] at H; have c41b0 : decide (x47_2 < (taD.length : Int)) = true := decide_eq_true c41; clear c41; have H' := Ak H; clear H
           go_wp2
           go_loopg [51] k2 (fun kq v51 w' => ∃ (x51_3 : Int), v51 = .int .i64 x51_3 ∧ Aside0 (arboretlaw13_overlaps.l2 kq l1 x5_1 taD x47_2 (taD.length : Int) x47_2 x47_2 x51_3 a0_0 l0_1 a0_2 l0_3 l0_4 = some r) ∧ Aside0 (kq ≤ k2) ∧ Aside0 (Kd.R k45 45 w' w.heap.size (fun _ => True) (.slice Ao40 taD.length co40) taD) ∧ Aside0 (Kd.V k77 77 w' w.heap.size (fun k_ => some k_ ≠ ((.slice Ao40 taD.length co40) : Value).ownBlock ∧ k_ ≠ gbac ∧ k_ ≠ gbaf ∧ k_ ≠ gbaj) (.slice Ao19 tbk.length co19) tbk) ∧ Aside0 (Kd.V k30 30 w' w.heap.size (fun k_ => some k_ ≠ ((.slice Ao40 taD.length co40) : Value).ownBlock ∧ k_ ≠ gbac ∧ k_ ≠ gbaf ∧ k_ ≠ gbaj) (.slice Ao21 tbn.length co21) tbn) ∧ Aside0 (Kd.V k77 77 w' w.heap.size (fun k_ => some k_ ≠ ((.slice Ao40 taD.length co40) : Value).ownBlock ∧ k_ ≠ gbac ∧ k_ ≠ gbaf ∧ k_ ≠ gbaj) (.slice Ao30 tbF.length co30) tbF) ∧ Aside0 (Kd.V k30 30 w' w.heap.size (fun k_ => some k_ ≠ ((.slice Ao40 taD.length co40) : Value).ownBlock ∧ k_ ≠ gbac ∧ k_ ≠ gbaf ∧ k_ ≠ gbaj) (.slice Ao32 tbI.length co32) tbI) ∧ Aside0 (w'.heap[gbac]? = some (.cells #[.int .u32 a0_0, (.slice A0_1 l0_1.length c0_1), .string a0_2, (.slice A0_3 l0_3.length c0_3), (.slice A0_4 l0_4.length c0_4)] 35 (0, 0))) ∧ Aside0 (w'.heap[gbaf]? = some (.cells #[.string tbp, (.slice Ao19 tbk.length co19), (.slice Ao21 tbn.length co21)] 30 (0, 0))) ∧ Aside0 (w'.heap[gbaj]? = some (.cells #[.string tbr, (.slice Ao30 tbF.length co30), (.slice Ao32 tbI.length co32)] 30 (0, 0))) ∧ Aside0 (Below w.heap.size w w'))
           case atStart => exact ⟨(0), Zq6, H', ⟨Nat.le_refl _⟩, ⟨Zq92⟩, ⟨Zq93⟩, ⟨Zq94⟩, ⟨Zq95⟩, ⟨Zq96⟩, ⟨Zq12⟩, ⟨Zq20⟩, ⟨Zq52⟩, ⟨Zq35⟩⟩
           case round =>
            clear H'
            try clear c1
            try clear c2
            try clear p2
            try clear c3
            try clear c4
            try clear c18
            try clear c21
            try clear c34
            try clear c35
            try clear c37
            try clear c41
            try clear c41b0
            try clear hcz36_0
            try clear hcz36_1
            try clear hcz36_2
            try clear hcz38_0
            try clear hcz38_1
            try clear hcz38_2
            try clear hfz36_0
            try clear hfz36_1
            try clear hfz36_2
            try clear hfz38_0
            try clear hfz38_1
            try clear hfz38_2
            try clear p2
            obtain ⟨x51_3, rfl, HA, HK3, HO_10, HO_cy, HO_cz, HO_cA, HO_cB, BKac, BKaf, BKaj, HB⟩ := hrel
            cases gk with
            | zero => exact absurd HA.out (by simp [arboretlaw13_overlaps.l2])
            | succ k3 =>
             have H := HA.out; clear HA; simp only [arboretlaw13_overlaps.l2] at H
             by_cases c42 : x51_3 < x47_2
             ·rw [if_pos c42] at H; have c42b0 : decide (x51_3 < x47_2) = true := decide_eq_true c42; clear c42
              by_cases c43 : 0 ≤ x47_2
              ·rw [if_pos c43] at H; have c43b0 : decide (0 ≤ x47_2) = true := decide_eq_true c43; clear c43
               by_cases c44 : x47_2 < (taD.length : Int)
               ·rw [if_pos c44] at H; have c44b0 : decide (x47_2 < (taD.length : Int)) = true := decide_eq_true c44; clear c44
                by_cases c45 : 0 ≤ x51_3
                ·rw [if_pos c45] at H; have c45b0 : decide (0 ≤ x51_3) = true := decide_eq_true c45; clear c45
                 by_cases c46 : x51_3 < (taD.length : Int)
                 ·rw [if_pos c46] at H; have c46b0 : decide (x51_3 < (taD.length : Int)) = true := decide_eq_true c46; clear c46; replace H := Option.bind_eq_some_iff.mp H; obtain ⟨tfd, AdE, H⟩ := H; replace H : (if tfd = true then (some true) else (arboretlaw13_overlaps.l2 k3 l1 x5_1 taD x47_2 (taD.length : Int) x47_2 x47_2 (wrap64 (x51_3 + 1)) a0_0 l0_1 a0_2 l0_3 l0_4)) = some r := H; have A47 := Ak AdE; clear AdE
                  by_cases c48 : tfd = true
                  ·subst c48
                   have H1 : (some true) = some r := by rw [if_pos rfl] at H; exact H
                   clear H; have H := H1; clear H1; obtain rfl := Option.some.inj H
                   try go_wp2
                   have n0_ := Ak (Kd.R_drew HO_10.out); have n1_ := Ak (Kd.V_drew HO_cy.out); have n2_ := Ak (Kd.V_drew HO_cz.out); have n3_ := Ak (Kd.V_drew HO_cA.out); have n4_ := Ak (Kd.V_drew HO_cB.out); have n5_ := Ak (blk_drew BKac.out); have n6_ := Ak (blk_drew BKaf.out); have n7_ := Ak (blk_drew BKaj.out); have n8_ := Zq164; clear HO_10 HO_cy HO_cz HO_cA HO_cB BKac BKaf BKaj HB; have HO_10 := n0_; have HO_cy := n1_; have HO_cz := n2_; have HO_cA := n3_; have HO_cB := n4_; have BKac := n5_; have BKaf := n6_; have BKaj := n7_; have HB := n8_; clear n0_ n1_ n2_ n3_ n4_ n5_ n6_ n7_ n8_; have p464 : 0 ≤ (x47_2 : Int) := of_decide_eq_true Zq4; have q464 : x47_2 < (taD.length : Int) := of_decide_eq_true Zq4; obtain ⟨adbf, e464, hx464_0, hx464_1, hx464_2⟩ := at_T45 (Kd.R_reads' HO_10.out).2.2 x47_2 p464 q464
                   cases e464
                   replace p464 := eq_true p464; replace q464 := eq_true q464; have p465 : 0 ≤ (x47_2 : Int) := of_decide_eq_true Zq4; have q465 : x47_2 < (taD.length : Int) := of_decide_eq_true Zq4; obtain ⟨adfo, e465, hx465_0, hx465_1, hx465_2⟩ := at_T45 (Kd.R_reads' HO_10.out).2.2 x47_2 p465 q465
                   obtain rfl : adbf = adfo := (by injection e465)
                   replace p465 := eq_true p465; replace q465 := eq_true q465; have p466 : 0 ≤ (x51_3 : Int) := of_decide_eq_true Zq4; have q466 : x51_3 < (taD.length : Int) := of_decide_eq_true Zq4; obtain ⟨adfp, e466, hx466_0, hx466_1, hx466_2⟩ := at_T45 (Kd.R_reads' HO_10.out).2.2 x51_3 p466 q466
                   obtain rfl : adbf = adfp := (by injection e466)
                   replace p466 := eq_true p466; replace q466 := eq_true q466; have p467 : 0 ≤ (x51_3 : Int) := of_decide_eq_true Zq4; have q467 : x51_3 < (taD.length : Int) := of_decide_eq_true Zq4; obtain ⟨adfq, e467, hx467_0, hx467_1, hx467_2⟩ := at_T45 (Kd.R_reads' HO_10.out).2.2 x51_3 p467 q467
                   obtain rfl : adbf = adfq := (by injection e467)
                   replace p467 := eq_true p467; replace q467 := eq_true q467; refine start_ (n := 23) (S := fun w' => w'.cell? (adbf.add ((x47_2).toNat * 3)) = some (.int .u64 ((rd_T45 taD x47_2).f0)) ∧ w'.cell? ⟨(adbf.add ((x47_2).toNat * 3)).block, (adbf.add ((x47_2).toNat * 3)).off + 1, none⟩ = some (.int .u64 ((rd_T45 taD x47_2).f1)) ∧ w'.cell? ⟨(adbf.add ((x47_2).toNat * 3)).block, (adbf.add ((x47_2).toNat * 3)).off + 2, none⟩ = some (.int .u64 ((rd_T45 taD x47_2).f2)) ∧ w'.cell? (adbf.add ((x47_2).toNat * 3)) = some (.int .u64 ((rd_T45 taD x47_2).f0)) ∧ w'.cell? ⟨(adbf.add ((x47_2).toNat * 3)).block, (adbf.add ((x47_2).toNat * 3)).off + 1, none⟩ = some (.int .u64 ((rd_T45 taD x47_2).f1)) ∧ w'.cell? ⟨(adbf.add ((x47_2).toNat * 3)).block, (adbf.add ((x47_2).toNat * 3)).off + 2, none⟩ = some (.int .u64 ((rd_T45 taD x47_2).f2)) ∧ w'.cell? (adbf.add ((x51_3).toNat * 3)) = some (.int .u64 ((rd_T45 taD x51_3).f0)) ∧ w'.cell? ⟨(adbf.add ((x51_3).toNat * 3)).block, (adbf.add ((x51_3).toNat * 3)).off + 1, none⟩ = some (.int .u64 ((rd_T45 taD x51_3).f1)) ∧ w'.cell? ⟨(adbf.add ((x51_3).toNat * 3)).block, (adbf.add ((x51_3).toNat * 3)).off + 2, none⟩ = some (.int .u64 ((rd_T45 taD x51_3).f2)) ∧ w'.cell? (adbf.add ((x51_3).toNat * 3)) = some (.int .u64 ((rd_T45 taD x51_3).f0)) ∧ w'.cell? ⟨(adbf.add ((x51_3).toNat * 3)).block, (adbf.add ((x51_3).toNat * 3)).off + 1, none⟩ = some (.int .u64 ((rd_T45 taD x51_3).f1)) ∧ w'.cell? ⟨(adbf.add ((x51_3).toNat * 3)).block, (adbf.add ((x51_3).toNat * 3)).off + 2, none⟩ = some (.int .u64 ((rd_T45 taD x51_3).f2))) (ds := []) #[false, false, false, false, false, false, false, false, false, false, false, false, false, false, false, false, false, false, false, false, false, false, false] Zq2 rfl rfl ⟨hx464_0, hx464_1, hx464_2, hx465_0, hx465_1, hx465_2, hx466_0, hx466_1, hx466_2, hx467_0, hx467_1, hx467_2⟩ (fun hHeld => ?_); refine with_tabW arboretlaw13_overlaps.tab13 arboretlaw13_overlaps.bits13 (fun HT_ HW_ => ?_); generalize wr.drew = w49 at HO_10 HO_cy HO_cz HO_cA HO_cB BKac BKaf BKaj HB hx464_0 hx464_1 hx464_2 hx465_0 hx465_1 hx465_2 hx466_0 hx466_1 hx466_2 hx467_0 hx467_1 hx467_2 hHeld ⊢; refine pure_ (i := 0) (N := some 54) (v := ?_) (a' := ?_) #[true, false, false, false, false, false, false, false, false, false, false, false, false, false, false, false, false, false, false, false, false, false, false] rfl rfl (any_of HT_.out Zq2) (fun _ _ _ h => h) (Or.inl ⟨Zq3, ?_⟩) ?_ ?_
                   rotate_left
                   ·intro w'
                    go_simp
                    with_reducible rfl
                   rotate_left
                   ·simp only [Sx]
                    rfl
                   refine pure_ (i := 1) (N := some 55) (v := ?_) (a' := ?_) #[true, true, false, false, false, false, false, false, false, false, false, false, false, false, false, false, false, false, false, false, false, false, false] rfl rfl (any_of HT_.out Zq2) (fun _ _ _ h => h) (Or.inl ⟨Zq3, ?_⟩) ?_ ?_
                   rotate_left
                   ·intro w'
                    go_simp
                    with_reducible rfl
                   rotate_left
                   ·simp only [Sx]
                    rfl
                   refine pure_ (i := 2) (N := some 56) (v := ?_) (a' := ?_) #[true, true, true, false, false, false, false, false, false, false, false, false, false, false, false, false, false, false, false, false, false, false, false] rfl rfl (any_of HT_.out Zq2) (fun _ _ _ h => h) (Or.inl ⟨Zq3, ?_⟩) ?_ ?_
                   rotate_left
                   ·intro w'
                    go_simp
                    with_reducible rfl
                   rotate_left
                   ·simp only [Sx]
                    rfl
                   refine pure_ (i := 3) (N := some 57) (v := ?_) (a' := ?_) #[true, true, true, true, false, false, false, false, false, false, false, false, false, false, false, false, false, false, false, false, false, false, false] rfl rfl (any_of HT_.out Zq2) (fun _ _ _ h => h) (Or.inl ⟨Zq3, ?_⟩) ?_ ?_
                   rotate_left
                   ·intro w'
                    go_simp
                    with_reducible rfl
                   rotate_left
                   ·simp only [Sx]
                    rfl
                   refine pure_ (i := 5) (N := some 59) (v := ?_) (a' := ?_) #[true, true, true, true, false, true, false, false, false, false, false, false, false, false, false, false, false, false, false, false, false, false, false] rfl rfl (any_of HT_.out Zq2) (fun _ _ _ h => h) (Or.inl ⟨Zq3, ?_⟩) ?_ ?_
                   rotate_left
                   ·intro w'
                    go_simp
                    with_reducible rfl
                   rotate_left
                   ·simp only [Sx]
                    rfl
                   refine pure_ (i := 6) (N := some 60) (v := ?_) (a' := ?_) #[true, true, true, true, false, true, true, false, false, false, false, false, false, false, false, false, false, false, false, false, false, false, false] rfl rfl (any_of HT_.out Zq2) (fun _ _ _ h => h) (Or.inl ⟨Zq3, ?_⟩) ?_ ?_
                   rotate_left
                   ·intro w'
                    go_simp
                    with_reducible rfl
                   rotate_left
                   ·simp only [Sx]
                    rfl
                   refine pure_ (i := 7) (N := some 61) (v := ?_) (a' := ?_) #[true, true, true, true, false, true, true, true, false, false, false, false, false, false, false, false, false, false, false, false, false, false, false] rfl rfl (any_of HT_.out Zq2) (fun _ _ _ h => h) (Or.inl ⟨Zq3, ?_⟩) ?_ ?_
                   rotate_left
                   ·intro w'
                    go_simp
                    with_reducible rfl
                   rotate_left
                   ·simp only [Sx]
                    rfl
                   refine pure_ (i := 8) (N := some 62) (v := ?_) (a' := ?_) #[true, true, true, true, false, true, true, true, true, false, false, false, false, false, false, false, false, false, false, false, false, false, false] rfl rfl (any_of HT_.out Zq2) (fun _ _ _ h => h) (Or.inl ⟨Zq3, ?_⟩) ?_ ?_
                   rotate_left
                   ·intro w'
                    go_simp
                    with_reducible rfl
                   rotate_left
                   ·simp only [Sx]
                    rfl
                   refine pure_ (i := 11) (N := some 65) (v := ?_) (a' := ?_) #[true, true, true, true, false, true, true, true, true, false, false, true, false, false, false, false, false, false, false, false, false, false, false] rfl rfl (any_of HT_.out Zq2) (fun _ _ _ h => h) (Or.inl ⟨Zq3, ?_⟩) ?_ ?_
                   rotate_left
                   ·intro w'
                    go_simp
                    with_reducible rfl
                   rotate_left
                   ·simp only [Sx]
                    rfl
                   refine pure_ (i := 12) (N := some 66) (v := ?_) (a' := ?_) #[true, true, true, true, false, true, true, true, true, false, false, true, true, false, false, false, false, false, false, false, false, false, false] rfl rfl (any_of HT_.out Zq2) (fun _ _ _ h => h) (Or.inl ⟨Zq3, ?_⟩) ?_ ?_
                   rotate_left
                   ·intro w'
                    go_simp
                    with_reducible rfl
                   rotate_left
                   ·simp only [Sx]
                    rfl
                   refine pure_ (i := 13) (N := some 67) (v := ?_) (a' := ?_) #[true, true, true, true, false, true, true, true, true, false, false, true, true, true, false, false, false, false, false, false, false, false, false] rfl rfl (any_of HT_.out Zq2) (fun _ _ _ h => h) (Or.inl ⟨Zq3, ?_⟩) ?_ ?_
                   rotate_left
                   ·intro w'
                    go_simp
                    with_reducible rfl
                   rotate_left
                   ·simp only [Sx]
                    rfl
                   refine pure_ (i := 14) (N := some 68) (v := ?_) (a' := ?_) #[true, true, true, true, false, true, true, true, true, false, false, true, true, true, true, false, false, false, false, false, false, false, false] rfl rfl (any_of HT_.out Zq2) (fun _ _ _ h => h) (Or.inl ⟨Zq3, ?_⟩) ?_ ?_
                   rotate_left
                   ·intro w'
                    go_simp
                    with_reducible rfl
                   rotate_left
                   ·simp only [Sx]
                    rfl
                   refine pure_ (i := 16) (N := some 70) (v := ?_) (a' := ?_) #[true, true, true, true, false, true, true, true, true, false, false, true, true, true, true, false, true, false, false, false, false, false, false] rfl rfl (any_of HT_.out Zq2) (fun _ _ _ h => h) (Or.inl ⟨Zq3, ?_⟩) ?_ ?_
                   rotate_left
                   ·intro w'
                    go_simp
                    with_reducible rfl
                   rotate_left
                   ·simp only [Sx]
                    rfl
                   refine pure_ (i := 17) (N := some 71) (v := ?_) (a' := ?_) #[true, true, true, true, false, true, true, true, true, false, false, true, true, true, true, false, true, true, false, false, false, false, false] rfl rfl (any_of HT_.out Zq2) (fun _ _ _ h => h) (Or.inl ⟨Zq3, ?_⟩) ?_ ?_
                   rotate_left
                   ·intro w'
                    go_simp
                    with_reducible rfl
                   rotate_left
                   ·simp only [Sx]
                    rfl
                   refine pure_ (i := 18) (N := some 72) (v := ?_) (a' := ?_) #[true, true, true, true, false, true, true, true, true, false, false, true, true, true, true, false, true, true, true, false, false, false, false] rfl rfl (any_of HT_.out Zq2) (fun _ _ _ h => h) (Or.inl ⟨Zq3, ?_⟩) ?_ ?_
                   rotate_left
                   ·intro w'
                    go_simp
                    with_reducible rfl
                   rotate_left
                   ·simp only [Sx]
                    rfl
                   refine pure_ (i := 19) (N := some 73) (v := ?_) (a' := ?_) #[true, true, true, true, false, true, true, true, true, false, false, true, true, true, true, false, true, true, true, true, false, false, false] rfl rfl (any_of HT_.out Zq2) (fun _ _ _ h => h) (Or.inl ⟨Zq3, ?_⟩) ?_ ?_
                   rotate_left
                   ·intro w'
                    go_simp
                    with_reducible rfl
                   rotate_left
                   ·simp only [Sx]
                    rfl
                   refine take_ (i := 4) (N := some 58) (v := ?_) (a' := ?_) #[true, true, true, true, true, true, true, true, true, false, false, true, true, true, true, false, true, true, true, true, false, false, false] rfl rfl (take_ofW HT_.out HW_.out Zq2) (fun _ _ _ h => h) (Or.inl ⟨Zq3, ?_⟩) hHeld ?_ ?_
                   rotate_left
                   ·rintro w' ⟨s0, s1, s2, s3, s4, s5, s6, s7, s8, s9, s10, s11⟩
                    go_simp
                    with_reducible rfl
                   rotate_left
                   ·simp only [Sx]
                    rfl
                   refine take_ (i := 9) (N := some 63) (v := ?_) (a' := ?_) #[true, true, true, true, true, true, true, true, true, true, false, true, true, true, true, false, true, true, true, true, false, false, false] rfl rfl (take_ofW HT_.out HW_.out Zq2) (fun _ _ _ h => h) (Or.inl ⟨Zq3, ?_⟩) hHeld ?_ ?_
                   rotate_left
                   ·rintro w' ⟨s0, s1, s2, s3, s4, s5, s6, s7, s8, s9, s10, s11⟩
                    go_simp
                    with_reducible rfl
                   rotate_left
                   ·simp only [Sx]
                    rfl
                   refine pure_ (i := 10) (N := some 64) (v := ?_) (a' := ?_) #[true, true, true, true, true, true, true, true, true, true, true, true, true, true, true, false, true, true, true, true, false, false, false] rfl rfl (any_of HT_.out Zq2) (fun _ _ _ h => h) (Or.inl ⟨Zq3, ?_⟩) ?_ ?_
                   rotate_left
                   ·intro w'
                    go_simp
                    with_reducible rfl
                   rotate_left
                   ·simp only [Sx]
                    rfl
                   refine take_ (i := 15) (N := some 69) (v := ?_) (a' := ?_) #[true, true, true, true, true, true, true, true, true, true, true, true, true, true, true, true, true, true, true, true, false, false, false] rfl rfl (take_ofW HT_.out HW_.out Zq2) (fun _ _ _ h => h) (Or.inl ⟨Zq3, ?_⟩) hHeld ?_ ?_
                   rotate_left
                   ·rintro w' ⟨s0, s1, s2, s3, s4, s5, s6, s7, s8, s9, s10, s11⟩
                    go_simp
                    with_reducible rfl
                   rotate_left
                   ·simp only [Sx]
                    rfl
                   refine take_ (i := 20) (N := some 74) (v := ?_) (a' := ?_) #[true, true, true, true, true, true, true, true, true, true, true, true, true, true, true, true, true, true, true, true, true, false, false] rfl rfl (take_ofW HT_.out HW_.out Zq2) (fun _ _ _ h => h) (Or.inl ⟨Zq3, ?_⟩) hHeld ?_ ?_
                   rotate_left
                   ·rintro w' ⟨s0, s1, s2, s3, s4, s5, s6, s7, s8, s9, s10, s11⟩
                    go_simp
                    with_reducible rfl
                   rotate_left
                   ·simp only [Sx]
                    rfl
                   refine pure_ (i := 21) (N := some 75) (v := ?_) (a' := ?_) #[true, true, true, true, true, true, true, true, true, true, true, true, true, true, true, true, true, true, true, true, true, true, false] rfl rfl (any_of HT_.out Zq2) (fun _ _ _ h => h) (Or.inl ⟨Zq3, ?_⟩) ?_ ?_
                   rotate_left
                   ·intro w'
                    go_simp
                    with_reducible rfl
                   rotate_left
                   ·simp only [Sx]
                    rfl
                   refine one_ (i := 22) (N := some 76) #[true, true, true, true, true, true, true, true, true, true, true, true, true, true, true, true, true, true, true, true, true, true, true] rfl rfl (one_of HT_.out Zq2) Zq7 (fun K hK => ?_); refine goes_ Try.func52 Zq2 rfl #[.agg #[.int .u64 ((rd_T45 taD x47_2).f0), .int .u64 ((rd_T45 taD x47_2).f2)], .agg #[.int .u64 ((rd_T45 taD x51_3).f0), .int .u64 ((rd_T45 taD x51_3).f2)]] Zq3 rfl rfl Zq9 ?_; with_reducible refine (arboretref12_Meet.calls k3 ((rd_T45 taD x47_2).f0) ((rd_T45 taD x47_2).f2) ((rd_T45 taD x51_3).f0) ((rd_T45 taD x51_3).f2) true _ A47.out).mono ?_
                   rintro e w50 ⟨rfl, hb⟩
                   have HS0_ := (hb.cell (World.block_lt_of_cell? _ _ (hHeld.1))).trans (hHeld.1); have HS1_ := (hb.cell (World.block_lt_of_cell? _ _ (hHeld.2.1))).trans (hHeld.2.1); have HS2_ := (hb.cell (World.block_lt_of_cell? _ _ (hHeld.2.2.1))).trans (hHeld.2.2.1); have HS3_ := (hb.cell (World.block_lt_of_cell? _ _ (hHeld.2.2.2.1))).trans (hHeld.2.2.2.1); have HS4_ := (hb.cell (World.block_lt_of_cell? _ _ (hHeld.2.2.2.2.1))).trans (hHeld.2.2.2.2.1); have HS5_ := (hb.cell (World.block_lt_of_cell? _ _ (hHeld.2.2.2.2.2.1))).trans (hHeld.2.2.2.2.2.1); have HS6_ := (hb.cell (World.block_lt_of_cell? _ _ (hHeld.2.2.2.2.2.2.1))).trans (hHeld.2.2.2.2.2.2.1); have HS7_ := (hb.cell (World.block_lt_of_cell? _ _ (hHeld.2.2.2.2.2.2.2.1))).trans (hHeld.2.2.2.2.2.2.2.1); have HS8_ := (hb.cell (World.block_lt_of_cell? _ _ (hHeld.2.2.2.2.2.2.2.2.1))).trans (hHeld.2.2.2.2.2.2.2.2.1); have HS9_ := (hb.cell (World.block_lt_of_cell? _ _ (hHeld.2.2.2.2.2.2.2.2.2.1))).trans (hHeld.2.2.2.2.2.2.2.2.2.1); have HS10_ := (hb.cell (World.block_lt_of_cell? _ _ (hHeld.2.2.2.2.2.2.2.2.2.2.1))).trans (hHeld.2.2.2.2.2.2.2.2.2.2.1); have HS11_ := (hb.cell (World.block_lt_of_cell? _ _ (hHeld.2.2.2.2.2.2.2.2.2.2.2))).trans (hHeld.2.2.2.2.2.2.2.2.2.2.2); refine ⟨_, rfl, ?_⟩; have n0_ := Ak (Kd.R_below Zq92 hb); have n1_ := Ak (Kd.V_below Zq93 hb); have n2_ := Ak (Kd.V_below Zq94 hb); have n3_ := Ak (Kd.V_below Zq95 hb); have n4_ := Ak (Kd.V_below Zq96 hb); have n5_ := Zq123; have n6_ := Zq141; have n7_ := Zq219; have n8_ := Ak (below_step Zq35 hb); clear HO_10 HO_cy HO_cz HO_cA HO_cB BKac BKaf BKaj HB; have HO_10 := n0_; have HO_cy := n1_; have HO_cz := n2_; have HO_cA := n3_; have HO_cB := n4_; have BKac := n5_; have BKaf := n6_; have BKaj := n7_; have HB := n8_; clear n0_ n1_ n2_ n3_ n4_ n5_ n6_ n7_ n8_
                   (try clear hb)
                   (try clear hb2)
                   (try clear hk)
                   (try clear hi)
                   refine hK.out _ _ ⟨HS0_, HS1_, HS2_, HS3_, HS4_, HS5_, HS6_, HS7_, HS8_, HS9_, HS10_, HS11_⟩ (fun hHeld => ?_); clear hK K; refine norm_ (a' := ?_) ?_ ?_
                   rotate_left
                   ·show Act.put _ (some 76) _ = _
                    simp only [Sx]
                    rfl
                   refine done_ (done_of HT_.out Zq2) ?_
                   try go_wp2
                   go_ret
                   exact ⟨by first | rfl | (simp [errW_none, errW_some] <;> rfl) | (simp only [← hji8]; first | rfl | (simp [errW_none, errW_some] <;> rfl)) | (simp [*, errW_none, errW_some] <;> rfl), Zq35⟩
                  ·replace c48 := Bool.eq_false_iff.mpr c48; subst c48
                   have H1 : (arboretlaw13_overlaps.l2 k3 l1 x5_1 taD x47_2 (taD.length : Int) x47_2 x47_2 (wrap64 (x51_3 + 1)) a0_0 l0_1 a0_2 l0_3 l0_4) = some r := by rw [if_neg (show ¬ (false = true) by decide)] at H; exact H
                   clear H; have H := H1; clear H1; have H' := Ak H; clear H
                   try go_wp2
                   have n0_ := Ak (Kd.R_drew HO_10.out); have n1_ := Ak (Kd.V_drew HO_cy.out); have n2_ := Ak (Kd.V_drew HO_cz.out); have n3_ := Ak (Kd.V_drew HO_cA.out); have n4_ := Ak (Kd.V_drew HO_cB.out); have n5_ := Ak (blk_drew BKac.out); have n6_ := Ak (blk_drew BKaf.out); have n7_ := Ak (blk_drew BKaj.out); have n8_ := Zq164; clear HO_10 HO_cy HO_cz HO_cA HO_cB BKac BKaf BKaj HB; have HO_10 := n0_; have HO_cy := n1_; have HO_cz := n2_; have HO_cA := n3_; have HO_cB := n4_; have BKac := n5_; have BKaf := n6_; have BKaj := n7_; have HB := n8_; clear n0_ n1_ n2_ n3_ n4_ n5_ n6_ n7_ n8_; have p464 : 0 ≤ (x47_2 : Int) := of_decide_eq_true Zq4; have q464 : x47_2 < (taD.length : Int) := of_decide_eq_true Zq4; obtain ⟨adbf, e464, hx464_0, hx464_1, hx464_2⟩ := at_T45 (Kd.R_reads' HO_10.out).2.2 x47_2 p464 q464
                   cases e464
                   replace p464 := eq_true p464; replace q464 := eq_true q464; have p465 : 0 ≤ (x47_2 : Int) := of_decide_eq_true Zq4; have q465 : x47_2 < (taD.length : Int) := of_decide_eq_true Zq4; obtain ⟨adfo, e465, hx465_0, hx465_1, hx465_2⟩ := at_T45 (Kd.R_reads' HO_10.out).2.2 x47_2 p465 q465
                   obtain rfl : adbf = adfo := (by injection e465)
                   replace p465 := eq_true p465; replace q465 := eq_true q465; have p466 : 0 ≤ (x51_3 : Int) := of_decide_eq_true Zq4; have q466 : x51_3 < (taD.length : Int) := of_decide_eq_true Zq4; obtain ⟨adfp, e466, hx466_0, hx466_1, hx466_2⟩ := at_T45 (Kd.R_reads' HO_10.out).2.2 x51_3 p466 q466
                   obtain rfl : adbf = adfp := (by injection e466)
                   replace p466 := eq_true p466; replace q466 := eq_true q466; have p467 : 0 ≤ (x51_3 : Int) := of_decide_eq_true Zq4; have q467 : x51_3 < (taD.length : Int) := of_decide_eq_true Zq4; obtain ⟨adfq, e467, hx467_0, hx467_1, hx467_2⟩ := at_T45 (Kd.R_reads' HO_10.out).2.2 x51_3 p467 q467
                   obtain rfl : adbf = adfq := (by injection e467)
                   replace p467 := eq_true p467; replace q467 := eq_true q467; refine start_ (n := 23) (S := fun w' => w'.cell? (adbf.add ((x47_2).toNat * 3)) = some (.int .u64 ((rd_T45 taD x47_2).f0)) ∧ w'.cell? ⟨(adbf.add ((x47_2).toNat * 3)).block, (adbf.add ((x47_2).toNat * 3)).off + 1, none⟩ = some (.int .u64 ((rd_T45 taD x47_2).f1)) ∧ w'.cell? ⟨(adbf.add ((x47_2).toNat * 3)).block, (adbf.add ((x47_2).toNat * 3)).off + 2, none⟩ = some (.int .u64 ((rd_T45 taD x47_2).f2)) ∧ w'.cell? (adbf.add ((x47_2).toNat * 3)) = some (.int .u64 ((rd_T45 taD x47_2).f0)) ∧ w'.cell? ⟨(adbf.add ((x47_2).toNat * 3)).block, (adbf.add ((x47_2).toNat * 3)).off + 1, none⟩ = some (.int .u64 ((rd_T45 taD x47_2).f1)) ∧ w'.cell? ⟨(adbf.add ((x47_2).toNat * 3)).block, (adbf.add ((x47_2).toNat * 3)).off + 2, none⟩ = some (.int .u64 ((rd_T45 taD x47_2).f2)) ∧ w'.cell? (adbf.add ((x51_3).toNat * 3)) = some (.int .u64 ((rd_T45 taD x51_3).f0)) ∧ w'.cell? ⟨(adbf.add ((x51_3).toNat * 3)).block, (adbf.add ((x51_3).toNat * 3)).off + 1, none⟩ = some (.int .u64 ((rd_T45 taD x51_3).f1)) ∧ w'.cell? ⟨(adbf.add ((x51_3).toNat * 3)).block, (adbf.add ((x51_3).toNat * 3)).off + 2, none⟩ = some (.int .u64 ((rd_T45 taD x51_3).f2)) ∧ w'.cell? (adbf.add ((x51_3).toNat * 3)) = some (.int .u64 ((rd_T45 taD x51_3).f0)) ∧ w'.cell? ⟨(adbf.add ((x51_3).toNat * 3)).block, (adbf.add ((x51_3).toNat * 3)).off + 1, none⟩ = some (.int .u64 ((rd_T45 taD x51_3).f1)) ∧ w'.cell? ⟨(adbf.add ((x51_3).toNat * 3)).block, (adbf.add ((x51_3).toNat * 3)).off + 2, none⟩ = some (.int .u64 ((rd_T45 taD x51_3).f2))) (ds := []) #[false, false, false, false, false, false, false, false, false, false, false, false, false, false, false, false, false, false, false, false, false, false, false] Zq2 rfl rfl ⟨hx464_0, hx464_1, hx464_2, hx465_0, hx465_1, hx465_2, hx466_0, hx466_1, hx466_2, hx467_0, hx467_1, hx467_2⟩ (fun hHeld => ?_); refine with_tabW arboretlaw13_overlaps.tab13 arboretlaw13_overlaps.bits13 (fun HT_ HW_ => ?_); generalize wr.drew = w51 at HO_10 HO_cy HO_cz HO_cA HO_cB BKac BKaf BKaj HB hx464_0 hx464_1 hx464_2 hx465_0 hx465_1 hx465_2 hx466_0 hx466_1 hx466_2 hx467_0 hx467_1 hx467_2 hHeld ⊢; refine pure_ (i := 0) (N := some 54) (v := ?_) (a' := ?_) #[true, false, false, false, false, false, false, false, false, false, false, false, false, false, false, false, false, false, false, false, false, false, false] rfl rfl (any_of HT_.out Zq2) (fun _ _ _ h => h) (Or.inl ⟨Zq3, ?_⟩) ?_ ?_
                   rotate_left
                   ·intro w'
                    go_simp
                    with_reducible rfl
                   rotate_left
                   ·simp only [Sx]
                    rfl
                   refine pure_ (i := 1) (N := some 55) (v := ?_) (a' := ?_) #[true, true, false, false, false, false, false, false, false, false, false, false, false, false, false, false, false, false, false, false, false, false, false] rfl rfl (any_of HT_.out Zq2) (fun _ _ _ h => h) (Or.inl ⟨Zq3, ?_⟩) ?_ ?_
                   rotate_left
                   ·intro w'
                    go_simp
                    with_reducible rfl
                   rotate_left
                   ·simp only [Sx]
                    rfl
                   refine pure_ (i := 2) (N := some 56) (v := ?_) (a' := ?_) #[true, true, true, false, false, false, false, false, false, false, false, false, false, false, false, false, false, false, false, false, false, false, false] rfl rfl (any_of HT_.out Zq2) (fun _ _ _ h => h) (Or.inl ⟨Zq3, ?_⟩) ?_ ?_
                   rotate_left
                   ·intro w'
                    go_simp
                    with_reducible rfl
                   rotate_left
                   ·simp only [Sx]
                    rfl
                   refine pure_ (i := 3) (N := some 57) (v := ?_) (a' := ?_) #[true, true, true, true, false, false, false, false, false, false, false, false, false, false, false, false, false, false, false, false, false, false, false] rfl rfl (any_of HT_.out Zq2) (fun _ _ _ h => h) (Or.inl ⟨Zq3, ?_⟩) ?_ ?_
                   rotate_left
                   ·intro w'
                    go_simp
                    with_reducible rfl
                   rotate_left
                   ·simp only [Sx]
                    rfl
                   refine pure_ (i := 5) (N := some 59) (v := ?_) (a' := ?_) #[true, true, true, true, false, true, false, false, false, false, false, false, false, false, false, false, false, false, false, false, false, false, false] rfl rfl (any_of HT_.out Zq2) (fun _ _ _ h => h) (Or.inl ⟨Zq3, ?_⟩) ?_ ?_
                   rotate_left
                   ·intro w'
                    go_simp
                    with_reducible rfl
                   rotate_left
                   ·simp only [Sx]
                    rfl
                   refine pure_ (i := 6) (N := some 60) (v := ?_) (a' := ?_) #[true, true, true, true, false, true, true, false, false, false, false, false, false, false, false, false, false, false, false, false, false, false, false] rfl rfl (any_of HT_.out Zq2) (fun _ _ _ h => h) (Or.inl ⟨Zq3, ?_⟩) ?_ ?_
                   rotate_left
                   ·intro w'
                    go_simp
                    with_reducible rfl
                   rotate_left
                   ·simp only [Sx]
                    rfl
                   refine pure_ (i := 7) (N := some 61) (v := ?_) (a' := ?_) #[true, true, true, true, false, true, true, true, false, false, false, false, false, false, false, false, false, false, false, false, false, false, false] rfl rfl (any_of HT_.out Zq2) (fun _ _ _ h => h) (Or.inl ⟨Zq3, ?_⟩) ?_ ?_
                   rotate_left
                   ·intro w'
                    go_simp
                    with_reducible rfl
                   rotate_left
                   ·simp only [Sx]
                    rfl
                   refine pure_ (i := 8) (N := some 62) (v := ?_) (a' := ?_) #[true, true, true, true, false, true, true, true, true, false, false, false, false, false, false, false, false, false, false, false, false, false, false] rfl rfl (any_of HT_.out Zq2) (fun _ _ _ h => h) (Or.inl ⟨Zq3, ?_⟩) ?_ ?_
                   rotate_left
                   ·intro w'
                    go_simp
                    with_reducible rfl
                   rotate_left
                   ·simp only [Sx]
                    rfl
                   refine pure_ (i := 11) (N := some 65) (v := ?_) (a' := ?_) #[true, true, true, true, false, true, true, true, true, false, false, true, false, false, false, false, false, false, false, false, false, false, false] rfl rfl (any_of HT_.out Zq2) (fun _ _ _ h => h) (Or.inl ⟨Zq3, ?_⟩) ?_ ?_
                   rotate_left
                   ·intro w'
                    go_simp
                    with_reducible rfl
                   rotate_left
                   ·simp only [Sx]
                    rfl
                   refine pure_ (i := 12) (N := some 66) (v := ?_) (a' := ?_) #[true, true, true, true, false, true, true, true, true, false, false, true, true, false, false, false, false, false, false, false, false, false, false] rfl rfl (any_of HT_.out Zq2) (fun _ _ _ h => h) (Or.inl ⟨Zq3, ?_⟩) ?_ ?_
                   rotate_left
                   ·intro w'
                    go_simp
                    with_reducible rfl
                   rotate_left
                   ·simp only [Sx]
                    rfl
                   refine pure_ (i := 13) (N := some 67) (v := ?_) (a' := ?_) #[true, true, true, true, false, true, true, true, true, false, false, true, true, true, false, false, false, false, false, false, false, false, false] rfl rfl (any_of HT_.out Zq2) (fun _ _ _ h => h) (Or.inl ⟨Zq3, ?_⟩) ?_ ?_
                   rotate_left
                   ·intro w'
                    go_simp
                    with_reducible rfl
                   rotate_left
                   ·simp only [Sx]
                    rfl
                   refine pure_ (i := 14) (N := some 68) (v := ?_) (a' := ?_) #[true, true, true, true, false, true, true, true, true, false, false, true, true, true, true, false, false, false, false, false, false, false, false] rfl rfl (any_of HT_.out Zq2) (fun _ _ _ h => h) (Or.inl ⟨Zq3, ?_⟩) ?_ ?_
                   rotate_left
                   ·intro w'
                    go_simp
                    with_reducible rfl
                   rotate_left
                   ·simp only [Sx]
                    rfl
                   refine pure_ (i := 16) (N := some 70) (v := ?_) (a' := ?_) #[true, true, true, true, false, true, true, true, true, false, false, true, true, true, true, false, true, false, false, false, false, false, false] rfl rfl (any_of HT_.out Zq2) (fun _ _ _ h => h) (Or.inl ⟨Zq3, ?_⟩) ?_ ?_
                   rotate_left
                   ·intro w'
                    go_simp
                    with_reducible rfl
                   rotate_left
                   ·simp only [Sx]
                    rfl
                   refine pure_ (i := 17) (N := some 71) (v := ?_) (a' := ?_) #[true, true, true, true, false, true, true, true, true, false, false, true, true, true, true, false, true, true, false, false, false, false, false] rfl rfl (any_of HT_.out Zq2) (fun _ _ _ h => h) (Or.inl ⟨Zq3, ?_⟩) ?_ ?_
                   rotate_left
                   ·intro w'
                    go_simp
                    with_reducible rfl
                   rotate_left
                   ·simp only [Sx]
                    rfl
                   refine pure_ (i := 18) (N := some 72) (v := ?_) (a' := ?_) #[true, true, true, true, false, true, true, true, true, false, false, true, true, true, true, false, true, true, true, false, false, false, false] rfl rfl (any_of HT_.out Zq2) (fun _ _ _ h => h) (Or.inl ⟨Zq3, ?_⟩) ?_ ?_
                   rotate_left
                   ·intro w'
                    go_simp
                    with_reducible rfl
                   rotate_left
                   ·simp only [Sx]
                    rfl
                   refine pure_ (i := 19) (N := some 73) (v := ?_) (a' := ?_) #[true, true, true, true, false, true, true, true, true, false, false, true, true, true, true, false, true, true, true, true, false, false, false] rfl rfl (any_of HT_.out Zq2) (fun _ _ _ h => h) (Or.inl ⟨Zq3, ?_⟩) ?_ ?_
                   rotate_left
                   ·intro w'
                    go_simp
                    with_reducible rfl
                   rotate_left
                   ·simp only [Sx]
                    rfl
                   refine take_ (i := 4) (N := some 58) (v := ?_) (a' := ?_) #[true, true, true, true, true, true, true, true, true, false, false, true, true, true, true, false, true, true, true, true, false, false, false] rfl rfl (take_ofW HT_.out HW_.out Zq2) (fun _ _ _ h => h) (Or.inl ⟨Zq3, ?_⟩) hHeld ?_ ?_
                   rotate_left
                   ·rintro w' ⟨s0, s1, s2, s3, s4, s5, s6, s7, s8, s9, s10, s11⟩
                    go_simp
                    with_reducible rfl
                   rotate_left
                   ·simp only [Sx]
                    rfl
                   refine take_ (i := 9) (N := some 63) (v := ?_) (a' := ?_) #[true, true, true, true, true, true, true, true, true, true, false, true, true, true, true, false, true, true, true, true, false, false, false] rfl rfl (take_ofW HT_.out HW_.out Zq2) (fun _ _ _ h => h) (Or.inl ⟨Zq3, ?_⟩) hHeld ?_ ?_
                   rotate_left
                   ·rintro w' ⟨s0, s1, s2, s3, s4, s5, s6, s7, s8, s9, s10, s11⟩
                    go_simp
                    with_reducible rfl
                   rotate_left
                   ·simp only [Sx]
                    rfl
                   refine pure_ (i := 10) (N := some 64) (v := ?_) (a' := ?_) #[true, true, true, true, true, true, true, true, true, true, true, true, true, true, true, false, true, true, true, true, false, false, false] rfl rfl (any_of HT_.out Zq2) (fun _ _ _ h => h) (Or.inl ⟨Zq3, ?_⟩) ?_ ?_
                   rotate_left
                   ·intro w'
                    go_simp
                    with_reducible rfl
                   rotate_left
                   ·simp only [Sx]
                    rfl
                   refine take_ (i := 15) (N := some 69) (v := ?_) (a' := ?_) #[true, true, true, true, true, true, true, true, true, true, true, true, true, true, true, true, true, true, true, true, false, false, false] rfl rfl (take_ofW HT_.out HW_.out Zq2) (fun _ _ _ h => h) (Or.inl ⟨Zq3, ?_⟩) hHeld ?_ ?_
                   rotate_left
                   ·rintro w' ⟨s0, s1, s2, s3, s4, s5, s6, s7, s8, s9, s10, s11⟩
                    go_simp
                    with_reducible rfl
                   rotate_left
                   ·simp only [Sx]
                    rfl
                   refine take_ (i := 20) (N := some 74) (v := ?_) (a' := ?_) #[true, true, true, true, true, true, true, true, true, true, true, true, true, true, true, true, true, true, true, true, true, false, false] rfl rfl (take_ofW HT_.out HW_.out Zq2) (fun _ _ _ h => h) (Or.inl ⟨Zq3, ?_⟩) hHeld ?_ ?_
                   rotate_left
                   ·rintro w' ⟨s0, s1, s2, s3, s4, s5, s6, s7, s8, s9, s10, s11⟩
                    go_simp
                    with_reducible rfl
                   rotate_left
                   ·simp only [Sx]
                    rfl
                   refine pure_ (i := 21) (N := some 75) (v := ?_) (a' := ?_) #[true, true, true, true, true, true, true, true, true, true, true, true, true, true, true, true, true, true, true, true, true, true, false] rfl rfl (any_of HT_.out Zq2) (fun _ _ _ h => h) (Or.inl ⟨Zq3, ?_⟩) ?_ ?_
                   rotate_left
                   ·intro w'
                    go_simp
                    with_reducible rfl
                   rotate_left
                   ·simp only [Sx]
                    rfl
                   refine one_ (i := 22) (N := some 76) #[true, true, true, true, true, true, true, true, true, true, true, true, true, true, true, true, true, true, true, true, true, true, true] rfl rfl (one_of HT_.out Zq2) Zq7 (fun K hK => ?_); refine goes_ Try.func52 Zq2 rfl #[.agg #[.int .u64 ((rd_T45 taD x47_2).f0), .int .u64 ((rd_T45 taD x47_2).f2)], .agg #[.int .u64 ((rd_T45 taD x51_3).f0), .int .u64 ((rd_T45 taD x51_3).f2)]] Zq3 rfl rfl Zq9 ?_; with_reducible refine (arboretref12_Meet.calls k3 ((rd_T45 taD x47_2).f0) ((rd_T45 taD x47_2).f2) ((rd_T45 taD x51_3).f0) ((rd_T45 taD x51_3).f2) false _ A47.out).mono ?_
                   rintro e w52 ⟨rfl, hb⟩
                   have HS0_ := (hb.cell (World.block_lt_of_cell? _ _ (hHeld.1))).trans (hHeld.1); have HS1_ := (hb.cell (World.block_lt_of_cell? _ _ (hHeld.2.1))).trans (hHeld.2.1); have HS2_ := (hb.cell (World.block_lt_of_cell? _ _ (hHeld.2.2.1))).trans (hHeld.2.2.1); have HS3_ := (hb.cell (World.block_lt_of_cell? _ _ (hHeld.2.2.2.1))).trans (hHeld.2.2.2.1); have HS4_ := (hb.cell (World.block_lt_of_cell? _ _ (hHeld.2.2.2.2.1))).trans (hHeld.2.2.2.2.1); have HS5_ := (hb.cell (World.block_lt_of_cell? _ _ (hHeld.2.2.2.2.2.1))).trans (hHeld.2.2.2.2.2.1); have HS6_ := (hb.cell (World.block_lt_of_cell? _ _ (hHeld.2.2.2.2.2.2.1))).trans (hHeld.2.2.2.2.2.2.1); have HS7_ := (hb.cell (World.block_lt_of_cell? _ _ (hHeld.2.2.2.2.2.2.2.1))).trans (hHeld.2.2.2.2.2.2.2.1); have HS8_ := (hb.cell (World.block_lt_of_cell? _ _ (hHeld.2.2.2.2.2.2.2.2.1))).trans (hHeld.2.2.2.2.2.2.2.2.1); have HS9_ := (hb.cell (World.block_lt_of_cell? _ _ (hHeld.2.2.2.2.2.2.2.2.2.1))).trans (hHeld.2.2.2.2.2.2.2.2.2.1); have HS10_ := (hb.cell (World.block_lt_of_cell? _ _ (hHeld.2.2.2.2.2.2.2.2.2.2.1))).trans (hHeld.2.2.2.2.2.2.2.2.2.2.1); have HS11_ := (hb.cell (World.block_lt_of_cell? _ _ (hHeld.2.2.2.2.2.2.2.2.2.2.2))).trans (hHeld.2.2.2.2.2.2.2.2.2.2.2); refine ⟨_, rfl, ?_⟩; have n0_ := Ak (Kd.R_below Zq92 hb); have n1_ := Ak (Kd.V_below Zq93 hb); have n2_ := Ak (Kd.V_below Zq94 hb); have n3_ := Ak (Kd.V_below Zq95 hb); have n4_ := Ak (Kd.V_below Zq96 hb); have n5_ := Zq123; have n6_ := Zq141; have n7_ := Zq219; have n8_ := Ak (below_step Zq35 hb); clear HO_10 HO_cy HO_cz HO_cA HO_cB BKac BKaf BKaj HB; have HO_10 := n0_; have HO_cy := n1_; have HO_cz := n2_; have HO_cA := n3_; have HO_cB := n4_; have BKac := n5_; have BKaf := n6_; have BKaj := n7_; have HB := n8_; clear n0_ n1_ n2_ n3_ n4_ n5_ n6_ n7_ n8_
                   (try clear hb)
                   (try clear hb2)
                   (try clear hk)
                   (try clear hi)
                   refine hK.out _ _ ⟨HS0_, HS1_, HS2_, HS3_, HS4_, HS5_, HS6_, HS7_, HS8_, HS9_, HS10_, HS11_⟩ (fun hHeld => ?_); clear hK K; refine norm_ (a' := ?_) ?_ ?_
                   rotate_left
                   ·show Act.put _ (some 76) _ = _
                    simp only [Sx]
                    rfl
                   refine done_ (done_of HT_.out Zq2) ?_
                   try go_wp2
                   first | (go_roundg k3) | ((try subst hji8); go_roundg k3)
                   case measure => have := HK1.out; have := HK2.out; have := HK3.out; omega
                   case rel => exact ⟨(wrap64 (x51_3 + 1)), Zq6, H', ⟨by have := HK1.out; have := HK2.out; have := HK3.out; omega⟩, ⟨Zq92⟩, ⟨Zq93⟩, ⟨Zq94⟩, ⟨Zq95⟩, ⟨Zq96⟩, ⟨Zq12⟩, ⟨Zq20⟩, ⟨Zq52⟩, ⟨Zq35⟩⟩
                 ·rw [if_neg c46] at H; exact absurd H Zq8
                ·rw [if_neg c45] at H; exact absurd H Zq8
               ·rw [if_neg c44] at H; exact absurd H Zq8
              ·rw [if_neg c43] at H; exact absurd H Zq8
             ·rw [if_neg c42] at H; have c42b0 : decide (x51_3 < x47_2) = false := decide_eq_false c42; clear c42; have H' := Ak H; clear H
              go_wp2
              first | (go_roundg k3) | ((try subst hji8); go_roundg k3)
              case measure => have := HK1.out; have := HK2.out; have := HK3.out; omega
              case rel => exact ⟨(wrap64 (x47_2 + 1)), Zq6, H', ⟨by have := HK1.out; have := HK2.out; have := HK3.out; omega⟩, ⟨Zq92⟩, ⟨Zq93⟩, ⟨Zq94⟩, ⟨Zq95⟩, ⟨Zq96⟩, ⟨Zq12⟩, ⟨Zq20⟩, ⟨Zq52⟩, ⟨Zq35⟩⟩
          ·rw [if_neg c41] at H; have c41b0 : decide (x47_2 < (taD.length : Int)) = false := decide_eq_false c41; clear c41; have H' := Ak H; clear H
           go_wp2
           first | (go_roundg k2) | ((try subst hji8); go_roundg k2)
           case measure => have := HK1.out; have := HK2.out; omega
           case rel => exact ⟨(wrap64 (x5_1 - 1)), Zq6, H', ⟨Zq70⟩, ⟨Zq12⟩, ⟨Zq35⟩⟩
       ·rw [if_neg c10] at H; exact absurd H Zq8
      ·rw [if_neg c9] at H; exact absurd H Zq8
     ·rw [if_neg c6] at H; exact absurd H Zq8
    ·rw [if_neg c5] at H; exact absurd H Zq8
   ·rw [if_neg c4] at H; have c4b0 : decide (0 < x5_1) = false := decide_eq_false c4; clear c4; obtain rfl := Option.some.inj H
    go_wp2
    go_ret
    exact ⟨Zq10, Zq45⟩
end Go.Proofs.Yteejaaeglfpcmab.PX

namespace Go.Proofs.Yteejaaeglfpcmab.PX
open Go.RowKit Go.Proofs.YteejaaeglfpcmabW.PrintWords Go.Proofs.YteejaaeglfpcmabW.PrintLast Go.Proofs.YteejaaeglfpcmabW.PrintMore
attribute [local go_sem] max2_int min2_int max_two min_two max_three min_three max_four min_four
mutual
def arboretlaw13_XlateParts.j0 : Nat → List Int → Int → Int → Int → Bool → Int → List (S94) → ByteArray → List (S77) → List (S30) → Option (Bool)
 | 0, _, _, _, _, _, _, _, _, _, _ => none
 | k + 1, x1, x2, x3, x4, x32, xdZ, xea, xeb, xec, xed => if x32 = true then ((arboretlaw13_awake.f k).bind fun tev => (some tev)) else ((xlate_Up.f k xdZ xea xeb xec xed x1 x2 x3).bind fun btbY => (if btbY.2 = 0 then (if x3 = 0 then (arboretlaw13_XlateParts.j1 k x1 x2 x3 x4 btbY.1 true xdZ xea xeb xec xed) else (arboretlaw13_XlateParts.j1 k x1 x2 x3 x4 btbY.1 ((x1.length : Int) == 0) xdZ xea xeb xec xed)) else (arboretlaw13_XlateParts.j1 k x1 x2 x3 x4 btbY.1 true xdZ xea xeb xec xed)))
def arboretlaw13_XlateParts.j1 : Nat → List Int → Int → Int → Int → Int → Bool → Int → List (S94) → ByteArray → List (S77) → List (S30) → Option (Bool)
 | 0, _, _, _, _, _, _, _, _, _, _, _ => none
 | k + 1, x1, x2, x3, x4, x11, x52, xdZ, xea, xeb, xec, xed => if x52 = true then (some true) else (if x3 = 0 then (none) else ((xlate_Up.f k xdZ xea xeb xec xed x1 (IntKind.u64.wrap (x2 + (Int.tmod x4 x3))) 1).bind fun btcL => ((arboretlaw13_overlaps.f k xdZ xea xeb xec xed x1).bind fun tdN => (if tdN = true then (some true) else (if btcL.2 = 0 then (some (btcL.1 == (IntKind.u64.wrap (x11 + (Int.tmod x4 x3))))) else (some false))))))
end
def arboretlaw13_XlateParts.f (k : Nat) (a0_0 : Int) (l0_1 : List (S94)) (a0_2 : ByteArray) (l0_3 : List (S77)) (l0_4 : List (S30)) (l1 : List Int) (a2 : Int) (a3 : Int) (a4 : Int) : Option (Bool) := (arboretlaw13_awake.f k).bind fun tdE => (if tdE = true then ((arboretlaw03_Few.f k a0_0 l0_1 a0_2 l0_3 l0_4).bind fun tdd => (if tdd = true then (if (l1.length : Int) > 40 then (arboretlaw13_XlateParts.j0 k l1 a2 a3 a4 true a0_0 l0_1 a0_2 l0_3 l0_4) else ((arboretref01_Check.f k a0_0 l0_1 a0_2 l0_3 l0_4).bind fun tcr => (arboretlaw13_XlateParts.j0 k l1 a2 a3 a4 (tcr != 0) a0_0 l0_1 a0_2 l0_3 l0_4))) else (arboretlaw13_XlateParts.j0 k l1 a2 a3 a4 true a0_0 l0_1 a0_2 l0_3 l0_4))) else (arboretlaw13_XlateParts.j0 k l1 a2 a3 a4 true a0_0 l0_1 a0_2 l0_3 l0_4))
set_option maxHeartbeats 8000000 in
set_option maxRecDepth 100000 in
theorem arboretlaw13_XlateParts.calls (k : Nat) (a0_0 : Int) (A0_1 : Option Addr) (c0_1 : Nat) (l0_1 : List (S94)) (a0_2 : ByteArray) (A0_3 : Option Addr) (c0_3 : Nat) (l0_3 : List (S77)) (A0_4 : Option Addr) (c0_4 : Nat) (l0_4 : List (S30)) (A1 : Option Addr) (c1 : Nat) (l1 : List Int) (a2 : Int) (a3 : Int) (a4 : Int) (r : Bool) (w : World) (hr0_1 : Kd.C k94 w A0_1 l0_1.length l0_1) (hc0_1 : l0_1.length ≤ c0_1) (hr0_3 : Kd.C k77 w A0_3 l0_3.length l0_3) (hc0_3 : l0_3.length ≤ c0_3) (hr0_4 : Kd.C k30 w A0_4 l0_4.length l0_4) (hc0_4 : l0_4.length ≤ c0_4) (hr1 : Kd.C (Kd.int .i64) w A1 l1.length l1) (hc1 : l1.length ≤ c1) (h : arboretlaw13_XlateParts.f k a0_0 l0_1 a0_2 l0_3 l0_4 l1 a2 a3 a4 = some r) :
  Calls Try.prog 6 #[.agg #[.int .u32 a0_0, .slice A0_1 l0_1.length c0_1, .string a0_2, .slice A0_3 l0_3.length c0_3, .slice A0_4 l0_4.length c0_4], .slice A1 l1.length c1, .int .u64 a2, .int .u64 a3, .int .u64 a4] w fun e w' => e = .returned (.bool r) ∧ Below w.heap.size w w' := by
 have hu35 := Try.underlying35; have HR0_1 := Ak hr0_1; have HC0_1 := Ak hc0_1; clear hr0_1 hc0_1; have HR0_3 := Ak hr0_3; have HC0_3 := Ak hc0_3; clear hr0_3 hc0_3; have HR0_4 := Ak hr0_4; have HC0_4 := Ak hc0_4; clear hr0_4 hc0_4; have HR1 := Ak hr1; have HC1 := Ak hc1; clear hr1 hc1; have HB := Zq129; have H : ((arboretlaw13_awake.f k).bind fun tdE => (if tdE = true then ((arboretlaw03_Few.f k a0_0 l0_1 a0_2 l0_3 l0_4).bind fun tdd => (if tdd = true then (if (l1.length : Int) > 40 then (arboretlaw13_XlateParts.j0 k l1 a2 a3 a4 true a0_0 l0_1 a0_2 l0_3 l0_4) else ((arboretref01_Check.f k a0_0 l0_1 a0_2 l0_3 l0_4).bind fun tcr => (arboretlaw13_XlateParts.j0 k l1 a2 a3 a4 (tcr != 0) a0_0 l0_1 a0_2 l0_3 l0_4))) else (arboretlaw13_XlateParts.j0 k l1 a2 a3 a4 true a0_0 l0_1 a0_2 l0_3 l0_4))) else (arboretlaw13_XlateParts.j0 k l1 a2 a3 a4 true a0_0 l0_1 a0_2 l0_3 l0_4))) = some r := h; clear h; have HC6 := Ak H; clear H
 go_enter Try.func6, Try.ntmps6
 go_upto_region 1 with (first | ((with_reducible refine gate_dst (N := 5) rfl ?_); (try (refine gate_guard Zq3 ?_; dsimp only)); refine box_event ?hg (N := 5) ?hd (cs := #[.int .u32 a0_0, .slice A0_1 l0_1.length c0_1, .string a0_2, .slice A0_3 l0_3.length c0_3, .slice A0_4 l0_4.length c0_4]) (t := 35) ?hr ?_; (case hd | hg => rfl); (case hr => first | (go_simp; done) | (go_simp; rfl)); intro gbab hg w7 hbox hb; have n0_ := Zq122; have n1_ := Ak (hbox); have n2_ := Ak ((by rw [hg]; exact (below_size Zq5) : w.heap.size ≤ gbab)); have n3_ := Ak ((by rw [hg]; exact (below_size Zq5) : w.heap.size ≤ gbab)); clear HB; have HB := n0_; have BKab := n1_; have GWab := n2_; have GEab := n3_; clear n0_ n1_ n2_ n3_ hb hbox hg))
 (try simp only [Act.put, List.setIfInBounds_toArray, List.set_cons_zero, List.set_cons_succ])
 go_cut [32] (fun v32 wc => ∃ (kq : Nat) (x32_5 : Bool), v32 = .bool x32_5 ∧ Aside0 (arboretlaw13_XlateParts.j0 kq l1 a2 a3 a4 x32_5 a0_0 l0_1 a0_2 l0_3 l0_4 = some r) ∧ Aside0 (kq ≤ k) ∧ Aside0 (wc.heap[gbab]? = some (.cells #[.int .u32 a0_0, (.slice A0_1 l0_1.length c0_1), .string a0_2, (.slice A0_3 l0_3.length c0_3), (.slice A0_4 l0_4.length c0_4)] 35 (0, 0))) ∧ Aside0 (Below w.heap.size w wc))
 case first =>
  have H := HC6.out; clear HC6; replace H := Option.bind_eq_some_iff.mp H; obtain ⟨tdE, A80, H⟩ := H; replace H : (if tdE = true then ((arboretlaw03_Few.f k a0_0 l0_1 a0_2 l0_3 l0_4).bind fun tdd => (if tdd = true then (if (l1.length : Int) > 40 then (arboretlaw13_XlateParts.j0 k l1 a2 a3 a4 true a0_0 l0_1 a0_2 l0_3 l0_4) else ((arboretref01_Check.f k a0_0 l0_1 a0_2 l0_3 l0_4).bind fun tcr => (arboretlaw13_XlateParts.j0 k l1 a2 a3 a4 (tcr != 0) a0_0 l0_1 a0_2 l0_3 l0_4))) else (arboretlaw13_XlateParts.j0 k l1 a2 a3 a4 true a0_0 l0_1 a0_2 l0_3 l0_4))) else (arboretlaw13_XlateParts.j0 k l1 a2 a3 a4 true a0_0 l0_1 a0_2 l0_3 l0_4)) = some r := H; have A8 := Ak A80; clear A80
  by_cases c9 : tdE = true
  ·subst c9
   have H1 : ((arboretlaw03_Few.f k a0_0 l0_1 a0_2 l0_3 l0_4).bind fun tdd => (if tdd = true then (if (l1.length : Int) > 40 then (arboretlaw13_XlateParts.j0 k l1 a2 a3 a4 true a0_0 l0_1 a0_2 l0_3 l0_4) else ((arboretref01_Check.f k a0_0 l0_1 a0_2 l0_3 l0_4).bind fun tcr => (arboretlaw13_XlateParts.j0 k l1 a2 a3 a4 (tcr != 0) a0_0 l0_1 a0_2 l0_3 l0_4))) else (arboretlaw13_XlateParts.j0 k l1 a2 a3 a4 true a0_0 l0_1 a0_2 l0_3 l0_4))) = some r := by rw [if_pos rfl] at H; exact H
   clear H; have H := H1; clear H1; replace H := Option.bind_eq_some_iff.mp H; obtain ⟨tdd, AdK, H⟩ := H; replace H : (if tdd = true then (if (l1.length : Int) > 40 then (arboretlaw13_XlateParts.j0 k l1 a2 a3 a4 true a0_0 l0_1 a0_2 l0_3 l0_4) else ((arboretref01_Check.f k a0_0 l0_1 a0_2 l0_3 l0_4).bind fun tcr => (arboretlaw13_XlateParts.j0 k l1 a2 a3 a4 (tcr != 0) a0_0 l0_1 a0_2 l0_3 l0_4))) else (arboretlaw13_XlateParts.j0 k l1 a2 a3 a4 true a0_0 l0_1 a0_2 l0_3 l0_4)) = some r := H; have A10 := Ak AdK; clear AdK
   by_cases c11 : tdd = true
   ·subst c11
    have H1 : (if (l1.length : Int) > 40 then (arboretlaw13_XlateParts.j0 k l1 a2 a3 a4 true a0_0 l0_1 a0_2 l0_3 l0_4) else ((arboretref01_Check.f k a0_0 l0_1 a0_2 l0_3 l0_4).bind fun tcr => (arboretlaw13_XlateParts.j0 k l1 a2 a3 a4 (tcr != 0) a0_0 l0_1 a0_2 l0_3 l0_4))) = some r := by rw [if_pos rfl] at H; exact H
    clear H; have H := H1; clear H1
    by_cases c12 : (l1.length : Int) > 40
    ·rw [if_pos c12] at H; have c12b0 : decide (40 < (l1.length : Int)) = true := decide_eq_true c12; have c12b1 : decide (40 < l1.length) = true := decide_eq_true Zq1; clear c12
     (first | rw [c12b0] | (simp only [i64_w, i32_w]; rw [c12b0]) | skip)
     have H' := Ak H; clear H
     go_wp2_with (first | ((with_reducible refine gate_callee (f := 15) rfl ?_); refine goesL_ (some 16) rfl rfl Try.func15 Zq2 rfl #[] rfl Zq9 ?_; (with_reducible refine (arboretlaw13_awake.calls k  true _ A8.out).mono ?_); rintro e w13 ⟨rfl, hb⟩; refine ⟨_, rfl, ?_⟩; have n0_ := Zq118; have n1_ := Zq156; clear BKab HB; have BKab := n0_; have HB := n1_; clear n0_ n1_; (try clear hb); (try clear hb2); (try clear hk); (try clear hi); have hcz14_0 : w13.cell? ⟨gbab, 0, none⟩ = some (.int .u32 a0_0) := (blk_cell BKab.out 0).trans rfl; have hcz14_1 : w13.cell? ⟨gbab, 1, none⟩ = some (.slice A0_1 l0_1.length c0_1) := (blk_cell BKab.out 1).trans rfl; have hcz14_2 : w13.cell? ⟨gbab, 2, none⟩ = some (.string a0_2) := (blk_cell BKab.out 2).trans rfl; have hcz14_3 : w13.cell? ⟨gbab, 3, none⟩ = some (.slice A0_3 l0_3.length c0_3) := (blk_cell BKab.out 3).trans rfl; have hcz14_4 : w13.cell? ⟨gbab, 4, none⟩ = some (.slice A0_4 l0_4.length c0_4) := (blk_cell BKab.out 4).trans rfl; have hfz14_0 := blk_frozen BKab.out 0; have hfz14_1 := blk_frozen BKab.out 1; have hfz14_2 := blk_frozen BKab.out 2; have hfz14_3 := blk_frozen BKab.out 3; have hfz14_4 := blk_frozen BKab.out 4) | (go_at_call 16; (with_reducible refine (arboretlaw03_Few.calls k a0_0 _ _ l0_1 a0_2 _ _ l0_3 _ _ l0_4 true _ ?side1 ?side2 ?side3 ?side4 ?side5 ?side6 A10.out).mono ?_); (case side1 => repeat (first | exact Zq126 | (with_reducible refine Kd.C_alloc ?_ _) | (with_reducible refine Kd.C_drewN ?_ _) | (with_reducible refine Kd.C_drew ?_))); (case side2 => exact HC0_1.out); (case side3 => repeat (first | exact Zq157 | (with_reducible refine Kd.C_alloc ?_ _) | (with_reducible refine Kd.C_drewN ?_ _) | (with_reducible refine Kd.C_drew ?_))); (case side4 => exact HC0_3.out); (case side5 => repeat (first | exact Zq158 | (with_reducible refine Kd.C_alloc ?_ _) | (with_reducible refine Kd.C_drewN ?_ _) | (with_reducible refine Kd.C_drew ?_))); (case side6 => exact HC0_4.out); rintro e w15 ⟨rfl, hb⟩; have n0_ := Zq118; have n1_ := Zq156; clear BKab HB; have BKab := n0_; have HB := n1_; clear n0_ n1_; (try clear hb); (try clear hb2); (try clear hk); (try clear hi)))
     go_meet
     case rel => exact ⟨_, (true), Zq6, H', ⟨Zq13⟩, ⟨Zq23⟩, ⟨Zq18⟩⟩
    ·rw [if_neg c12] at H; have c12b0 : decide (40 < (l1.length : Int)) = false := decide_eq_false c12; have c12b1 : decide (40 < l1.length) = false := decide_eq_false Zq1; clear c12
     (first | rw [c12b0] | (simp only [i64_w, i32_w]; rw [c12b0]) | skip)
     replace H := Option.bind_eq_some_iff.mp H; obtain ⟨tcr, Aez, H⟩ := H; replace H : (arboretlaw13_XlateParts.j0 k l1 a2 a3 a4 (tcr != 0) a0_0 l0_1 a0_2 l0_3 l0_4) = some r := H; have A16 := Ak Aez; clear Aez; have H' := Ak H; clear H
     go_wp2_with (first | ((with_reducible refine gate_callee (f := 15) rfl ?_); refine goesL_ (some 16) rfl rfl Try.func15 Zq2 rfl #[] rfl Zq9 ?_; (with_reducible refine (arboretlaw13_awake.calls k  true _ A8.out).mono ?_); rintro e w17 ⟨rfl, hb⟩; refine ⟨_, rfl, ?_⟩; have n0_ := Zq118; have n1_ := Zq156; clear BKab HB; have BKab := n0_; have HB := n1_; clear n0_ n1_; (try clear hb); (try clear hb2); (try clear hk); (try clear hi); have hcz18_0 : w17.cell? ⟨gbab, 0, none⟩ = some (.int .u32 a0_0) := (blk_cell BKab.out 0).trans rfl; have hcz18_1 : w17.cell? ⟨gbab, 1, none⟩ = some (.slice A0_1 l0_1.length c0_1) := (blk_cell BKab.out 1).trans rfl; have hcz18_2 : w17.cell? ⟨gbab, 2, none⟩ = some (.string a0_2) := (blk_cell BKab.out 2).trans rfl; have hcz18_3 : w17.cell? ⟨gbab, 3, none⟩ = some (.slice A0_3 l0_3.length c0_3) := (blk_cell BKab.out 3).trans rfl; have hcz18_4 : w17.cell? ⟨gbab, 4, none⟩ = some (.slice A0_4 l0_4.length c0_4) := (blk_cell BKab.out 4).trans rfl; have hfz18_0 := blk_frozen BKab.out 0; have hfz18_1 := blk_frozen BKab.out 1; have hfz18_2 := blk_frozen BKab.out 2; have hfz18_3 := blk_frozen BKab.out 3; have hfz18_4 := blk_frozen BKab.out 4) | (go_at_call 16; (with_reducible refine (arboretlaw03_Few.calls k a0_0 _ _ l0_1 a0_2 _ _ l0_3 _ _ l0_4 true _ ?side1 ?side2 ?side3 ?side4 ?side5 ?side6 A10.out).mono ?_); (case side1 => repeat (first | exact Zq126 | (with_reducible refine Kd.C_alloc ?_ _) | (with_reducible refine Kd.C_drewN ?_ _) | (with_reducible refine Kd.C_drew ?_))); (case side2 => exact HC0_1.out); (case side3 => repeat (first | exact Zq157 | (with_reducible refine Kd.C_alloc ?_ _) | (with_reducible refine Kd.C_drewN ?_ _) | (with_reducible refine Kd.C_drew ?_))); (case side4 => exact HC0_3.out); (case side5 => repeat (first | exact Zq158 | (with_reducible refine Kd.C_alloc ?_ _) | (with_reducible refine Kd.C_drewN ?_ _) | (with_reducible refine Kd.C_drew ?_))); (case side6 => exact HC0_4.out); rintro e w19 ⟨rfl, hb⟩; have n0_ := Zq118; have n1_ := Zq156; clear BKab HB; have BKab := n0_; have HB := n1_; clear n0_ n1_; (try clear hb); (try clear hb2); (try clear hk); (try clear hi); have hcz20_0 : w19.cell? ⟨gbab, 0, none⟩ = some (.int .u32 a0_0) := (blk_cell BKab.out 0).trans rfl; have hcz20_1 : w19.cell? ⟨gbab, 1, none⟩ = some (.slice A0_1 l0_1.length c0_1) := (blk_cell BKab.out 1).trans rfl; have hcz20_2 : w19.cell? ⟨gbab, 2, none⟩ = some (.string a0_2) := (blk_cell BKab.out 2).trans rfl; have hcz20_3 : w19.cell? ⟨gbab, 3, none⟩ = some (.slice A0_3 l0_3.length c0_3) := (blk_cell BKab.out 3).trans rfl; have hcz20_4 : w19.cell? ⟨gbab, 4, none⟩ = some (.slice A0_4 l0_4.length c0_4) := (blk_cell BKab.out 4).trans rfl; have hfz20_0 := blk_frozen BKab.out 0; have hfz20_1 := blk_frozen BKab.out 1; have hfz20_2 := blk_frozen BKab.out 2; have hfz20_3 := blk_frozen BKab.out 3; have hfz20_4 := blk_frozen BKab.out 4) | (go_at_call 19; (with_reducible refine (arboretref01_Check.calls k a0_0 _ _ l0_1 a0_2 _ _ l0_3 _ _ l0_4 tcr _ ?side1 ?side2 ?side3 ?side4 ?side5 ?side6 A16.out).mono ?_); (case side1 => repeat (first | exact Zq126 | (with_reducible refine Kd.C_alloc ?_ _) | (with_reducible refine Kd.C_drewN ?_ _) | (with_reducible refine Kd.C_drew ?_))); (case side2 => exact HC0_1.out); (case side3 => repeat (first | exact Zq157 | (with_reducible refine Kd.C_alloc ?_ _) | (with_reducible refine Kd.C_drewN ?_ _) | (with_reducible refine Kd.C_drew ?_))); (case side4 => exact HC0_3.out); (case side5 => repeat (first | exact Zq158 | (with_reducible refine Kd.C_alloc ?_ _) | (with_reducible refine Kd.C_drewN ?_ _) | (with_reducible refine Kd.C_drew ?_))); (case side6 => exact HC0_4.out); rintro e w21 ⟨rfl, hb⟩; have n0_ := Zq118; have n1_ := Zq156; clear BKab HB; have BKab := n0_; have HB := n1_; clear n0_ n1_; (try clear hb); (try clear hb2); (try clear hk); (try clear hi)))
     go_meet
     case rel => exact ⟨_, ((tcr != 0)), Zq6, H', ⟨Zq13⟩, ⟨Zq23⟩, ⟨Zq18⟩⟩
   ·replace c11 := Bool.eq_false_iff.mpr c11; subst c11
    have H1 : (arboretlaw13_XlateParts.j0 k l1 a2 a3 a4 true a0_0 l0_1 a0_2 l0_3 l0_4) = some r := by rw [if_neg (show ¬ (false = true) by decide)] at H; exact H
    clear H; have H := H1; clear H1; have H' := Ak H; clear H
    go_wp2_with (first | ((with_reducible refine gate_callee (f := 15) rfl ?_); refine goesL_ (some 16) rfl rfl Try.func15 Zq2 rfl #[] rfl Zq9 ?_; (with_reducible refine (arboretlaw13_awake.calls k  true _ A8.out).mono ?_); rintro e w22 ⟨rfl, hb⟩; refine ⟨_, rfl, ?_⟩; have n0_ := Zq118; have n1_ := Zq156; clear BKab HB; have BKab := n0_; have HB := n1_; clear n0_ n1_; (try clear hb); (try clear hb2); (try clear hk); (try clear hi); have hcz23_0 : w22.cell? ⟨gbab, 0, none⟩ = some (.int .u32 a0_0) := (blk_cell BKab.out 0).trans rfl; have hcz23_1 : w22.cell? ⟨gbab, 1, none⟩ = some (.slice A0_1 l0_1.length c0_1) := (blk_cell BKab.out 1).trans rfl; have hcz23_2 : w22.cell? ⟨gbab, 2, none⟩ = some (.string a0_2) := (blk_cell BKab.out 2).trans rfl; have hcz23_3 : w22.cell? ⟨gbab, 3, none⟩ = some (.slice A0_3 l0_3.length c0_3) := (blk_cell BKab.out 3).trans rfl; have hcz23_4 : w22.cell? ⟨gbab, 4, none⟩ = some (.slice A0_4 l0_4.length c0_4) := (blk_cell BKab.out 4).trans rfl; have hfz23_0 := blk_frozen BKab.out 0; have hfz23_1 := blk_frozen BKab.out 1; have hfz23_2 := blk_frozen BKab.out 2; have hfz23_3 := blk_frozen BKab.out 3; have hfz23_4 := blk_frozen BKab.out 4) | (go_at_call 16; (with_reducible refine (arboretlaw03_Few.calls k a0_0 _ _ l0_1 a0_2 _ _ l0_3 _ _ l0_4 false _ ?side1 ?side2 ?side3 ?side4 ?side5 ?side6 A10.out).mono ?_); (case side1 => repeat (first | exact Zq126 | (with_reducible refine Kd.C_alloc ?_ _) | (with_reducible refine Kd.C_drewN ?_ _) | (with_reducible refine Kd.C_drew ?_))); (case side2 => exact HC0_1.out); (case side3 => repeat (first | exact Zq157 | (with_reducible refine Kd.C_alloc ?_ _) | (with_reducible refine Kd.C_drewN ?_ _) | (with_reducible refine Kd.C_drew ?_))); (case side4 => exact HC0_3.out); (case side5 => repeat (first | exact Zq158 | (with_reducible refine Kd.C_alloc ?_ _) | (with_reducible refine Kd.C_drewN ?_ _) | (with_reducible refine Kd.C_drew ?_))); (case side6 => exact HC0_4.out); rintro e w24 ⟨rfl, hb⟩; have n0_ := Zq118; have n1_ := Zq156; clear BKab HB; have BKab := n0_; have HB := n1_; clear n0_ n1_; (try clear hb); (try clear hb2); (try clear hk); (try clear hi)))
    go_meet
    case rel => exact ⟨_, (true), Zq6, H', ⟨Zq13⟩, ⟨Zq23⟩, ⟨Zq18⟩⟩
  ·replace c9 := Bool.eq_false_iff.mpr c9; subst c9
   have H1 : (arboretlaw13_XlateParts.j0 k l1 a2 a3 a4 true a0_0 l0_1 a0_2 l0_3 l0_4) = some r := by rw [if_neg (show ¬ (false = true) by decide)] at H; exact H
   clear H; have H := H1; clear H1; have H' := Ak H; clear H
   go_wp2_with (first | ((with_reducible refine gate_callee (f := 15) rfl ?_); refine goesL_ (some 16) rfl rfl Try.func15 Zq2 rfl #[] rfl Zq9 ?_; (with_reducible refine (arboretlaw13_awake.calls k  false _ A8.out).mono ?_); rintro e w25 ⟨rfl, hb⟩; refine ⟨_, rfl, ?_⟩; have n0_ := Zq118; have n1_ := Zq156; clear BKab HB; have BKab := n0_; have HB := n1_; clear n0_ n1_; (try clear hb); (try clear hb2); (try clear hk); (try clear hi)))
   go_meet
   case rel => exact ⟨_, (true), Zq6, H', ⟨Zq13⟩, ⟨Zq23⟩, ⟨Zq18⟩⟩
 case rest =>
  clear HC6
  try clear c1
  try clear p2
  try clear c6
  try clear c9
  try clear c11
  try clear c12
  try clear c12b0
  try clear c12b1
  try clear c15
  try clear hcz14_0
  try clear hcz14_1
  try clear hcz14_2
  try clear hcz14_3
  try clear hcz14_4
  try clear hcz18_0
  try clear hcz18_1
  try clear hcz18_2
  try clear hcz18_3
  try clear hcz18_4
  try clear hcz20_0
  try clear hcz20_1
  try clear hcz20_2
  try clear hcz20_3
  try clear hcz20_4
  try clear hcz23_0
  try clear hcz23_1
  try clear hcz23_2
  try clear hcz23_3
  try clear hcz23_4
  try clear hfz14_0
  try clear hfz14_1
  try clear hfz14_2
  try clear hfz14_3
  try clear hfz14_4
  try clear hfz18_0
  try clear hfz18_1
  try clear hfz18_2
  try clear hfz18_3
  try clear hfz18_4
  try clear hfz20_0
  try clear hfz20_1
  try clear hfz20_2
  try clear hfz20_3
  try clear hfz20_4
  try clear hfz23_0
  try clear hfz23_1
  try clear hfz23_2
  try clear hfz23_3
  try clear hfz23_4
  obtain ⟨kq, x32_5, rfl, HA, HJ5, BKab, HB⟩ := hcut
  cases kq with
  | zero => exact absurd HA.out (by simp [arboretlaw13_XlateParts.j0])
  | succ kj5 =>
   have H := HA.out; clear HA; simp only [arboretlaw13_XlateParts.j0] at H
   by_cases c26 : x32_5 = true
   ·subst c26
    have H1 : ((arboretlaw13_awake.f kj5).bind fun tev => (some tev)) = some r := by rw [if_pos rfl] at H; exact H
    clear H; have H := H1; clear H1; replace H := Option.bind_eq_some_iff.mp H; obtain ⟨tev, AbT, H⟩ := H; replace H : (some tev) = some r := H; have A27 := Ak AbT; clear AbT; obtain rfl := Option.some.inj H
    go_wp2_with (first | ((with_reducible refine gate_callee (f := 15) rfl ?_); refine goesL_ (some 33) rfl rfl Try.func15 Zq2 rfl #[] rfl Zq9 ?_; (with_reducible refine (arboretlaw13_awake.calls kj5  tev _ A27.out).mono ?_); rintro e w28 ⟨rfl, hb⟩; refine ⟨_, rfl, ?_⟩; have n0_ := Zq118; have n1_ := Zq156; clear BKab HB; have BKab := n0_; have HB := n1_; clear n0_ n1_; (try clear hb); (try clear hb2); (try clear hk); (try clear hi)))
    go_ret
    exact ⟨Zq10, Zq18⟩
   ·replace c26 := Bool.eq_false_iff.mpr c26; subst c26
    have H1 : ((xlate_Up.f kj5 a0_0 l0_1 a0_2 l0_3 l0_4 l1 a2 a3).bind fun btbY => (if btbY.2 = 0 then (if a3 = 0 then (arboretlaw13_XlateParts.j1 kj5 l1 a2 a3 a4 btbY.1 true a0_0 l0_1 a0_2 l0_3 l0_4) else (arboretlaw13_XlateParts.j1 kj5 l1 a2 a3 a4 btbY.1 ((l1.length : Int) == 0) a0_0 l0_1 a0_2 l0_3 l0_4)) else (arboretlaw13_XlateParts.j1 kj5 l1 a2 a3 a4 btbY.1 true a0_0 l0_1 a0_2 l0_3 l0_4))) = some r := by rw [if_neg (show ¬ (false = true) by decide)] at H; exact H
    clear H; have H := H1; clear H1; replace H := Option.bind_eq_some_iff.mp H; obtain ⟨⟨tbY, tee⟩, Abi, H⟩ := H; replace H : (if tee = 0 then (if a3 = 0 then (arboretlaw13_XlateParts.j1 kj5 l1 a2 a3 a4 tbY true a0_0 l0_1 a0_2 l0_3 l0_4) else (arboretlaw13_XlateParts.j1 kj5 l1 a2 a3 a4 tbY ((l1.length : Int) == 0) a0_0 l0_1 a0_2 l0_3 l0_4)) else (arboretlaw13_XlateParts.j1 kj5 l1 a2 a3 a4 tbY true a0_0 l0_1 a0_2 l0_3 l0_4)) = some r := H; have A29 := Ak Abi; clear Abi; have HC30 := Ak H; clear H; have hcz31_0 : wc.cell? ⟨gbab, 0, none⟩ = some (.int .u32 a0_0) := (blk_cell BKab.out 0).trans rfl; have hcz31_1 : wc.cell? ⟨gbab, 1, none⟩ = some (.slice A0_1 l0_1.length c0_1) := (blk_cell BKab.out 1).trans rfl; have hcz31_2 : wc.cell? ⟨gbab, 2, none⟩ = some (.string a0_2) := (blk_cell BKab.out 2).trans rfl; have hcz31_3 : wc.cell? ⟨gbab, 3, none⟩ = some (.slice A0_3 l0_3.length c0_3) := (blk_cell BKab.out 3).trans rfl; have hcz31_4 : wc.cell? ⟨gbab, 4, none⟩ = some (.slice A0_4 l0_4.length c0_4) := (blk_cell BKab.out 4).trans rfl; have hfz31_0 := blk_frozen BKab.out 0; have hfz31_1 := blk_frozen BKab.out 1; have hfz31_2 := blk_frozen BKab.out 2; have hfz31_3 := blk_frozen BKab.out 3; have hfz31_4 := blk_frozen BKab.out 4
    go_upto_region 4 with (first | ((with_reducible refine gate_callee (f := 20) rfl ?_); refine goesL_ (some 39) rfl rfl Try.func20 Zq2 rfl #[.agg #[.int .u32 a0_0, .slice A0_1 l0_1.length c0_1, .string a0_2, .slice A0_3 l0_3.length c0_3, .slice A0_4 l0_4.length c0_4], .slice A1 l1.length c1, .int .u64 a2, .int .u64 a3] rfl Zq9 ?_; (with_reducible refine (xlate_Up.calls kj5 a0_0 _ _ l0_1 a0_2 _ _ l0_3 _ _ l0_4 _ _ l1 a2 a3 tbY tee _ ?side1 ?side2 ?side3 ?side4 ?side5 ?side6 ?side7 ?side8 A29.out).mono ?_); (case side1 => repeat (first | exact Zq126 | (with_reducible refine Kd.C_alloc ?_ _) | (with_reducible refine Kd.C_drewN ?_ _) | (with_reducible refine Kd.C_drew ?_))); (case side2 => exact HC0_1.out); (case side3 => repeat (first | exact Zq157 | (with_reducible refine Kd.C_alloc ?_ _) | (with_reducible refine Kd.C_drewN ?_ _) | (with_reducible refine Kd.C_drew ?_))); (case side4 => exact HC0_3.out); (case side5 => repeat (first | exact Zq158 | (with_reducible refine Kd.C_alloc ?_ _) | (with_reducible refine Kd.C_drewN ?_ _) | (with_reducible refine Kd.C_drew ?_))); (case side6 => exact HC0_4.out); (case side7 => repeat (first | exact (Kd.C_below HR1.out HB.out) | (with_reducible refine Kd.C_alloc ?_ _) | (with_reducible refine Kd.C_drewN ?_ _) | (with_reducible refine Kd.C_drew ?_))); (case side8 => exact HC1.out); rintro e w32 ⟨rfl, hb⟩; refine ⟨_, rfl, ?_⟩; have n0_ := Zq118; have n1_ := Zq156; clear BKab HB; have BKab := n0_; have HB := n1_; clear n0_ n1_; (try clear hb); (try clear hb2); (try clear hk); (try clear hi)))
    (try simp only [Act.put, List.setIfInBounds_toArray, List.set_cons_zero, List.set_cons_succ])
    go_cut [52] (fun v52 wc => ∃ (kq : Nat) (x52_29 : Bool), v52 = .bool x52_29 ∧ Aside0 (arboretlaw13_XlateParts.j1 kq l1 a2 a3 a4 tbY x52_29 a0_0 l0_1 a0_2 l0_3 l0_4 = some r) ∧ Aside0 (kq ≤ kj5) ∧ Aside0 (wc.heap[gbab]? = some (.cells #[.int .u32 a0_0, (.slice A0_1 l0_1.length c0_1), .string a0_2, (.slice A0_3 l0_3.length c0_3), (.slice A0_4 l0_4.length c0_4)] 35 (0, 0))) ∧ Aside0 (Below w.heap.size w wc))
    case first =>
     have H := HC30.out; clear HC30
     by_cases c33 : tee = 0
     ·rw [if_pos c33] at H; have c33b0 : (tee == 0) = true := beq_iff_eq.mpr c33; have c33b1 : (tee != 0) = false := bne_eq_false_iff_eq.mpr c33; clear c33
      (first | rw [c33b0] | (simp only [i64_w, i32_w]; rw [c33b0]) | skip)
      by_cases c34 : a3 = 0
      ·rw [if_pos c34] at H; have c34b0 : (a3 == 0) = true := beq_iff_eq.mpr c34; have c34b1 : (a3 != 0) = false := bne_eq_false_iff_eq.mpr c34; clear c34; have H' := Ak H; clear H
       go_wp2
       go_meet
       case rel => exact ⟨_, (true), Zq6, H', ⟨by have := HJ5.out; first | omega | exact Nat.le_refl _⟩, ⟨Zq23⟩, ⟨Zq18⟩⟩
      ·rw [if_neg c34] at H; have c34b0 : (a3 == 0) = false := beq_eq_false_iff_ne.mpr c34; have c34b1 : (a3 != 0) = true := bne_iff_ne.mpr c34; have H' := Ak H; clear H
       go_wp2
       go_meet
       case rel => exact ⟨_, (((l1.length : Int) == 0)), Zq6, H', ⟨by have := HJ5.out; first | omega | exact Nat.le_refl _⟩, ⟨Zq23⟩, ⟨Zq18⟩⟩
     ·rw [if_neg c33] at H; have c33b0 : (tee == 0) = false := beq_eq_false_iff_ne.mpr c33; have c33b1 : (tee != 0) = true := bne_iff_ne.mpr c33
      (first | rw [c33b0] | (simp only [i64_w, i32_w]; rw [c33b0]) | skip)
      have H' := Ak H; clear H
      go_wp2
      go_meet
      case rel => exact ⟨_, (true), Zq6, H', ⟨by have := HJ5.out; first | omega | exact Nat.le_refl _⟩, ⟨Zq23⟩, ⟨Zq18⟩⟩
    case rest =>
     clear HC30
     try clear c1
     try clear c2
     try clear p2
     try clear c3
     try clear c6
     try clear c9
     try clear c11
     try clear c12
     try clear c12b0
     try clear c12b1
     try clear c15
     try clear c20
     try clear c26
     try clear c33
     try clear c33b0
     try clear c33b1
     try clear c34
     try clear c34b0
     try clear c34b1
     try clear hcz14_0
     try clear hcz14_1
     try clear hcz14_2
     try clear hcz14_3
     try clear hcz14_4
     try clear hcz18_0
     try clear hcz18_1
     try clear hcz18_2
     try clear hcz18_3
     try clear hcz18_4
     try clear hcz20_0
     try clear hcz20_1
     try clear hcz20_2
     try clear hcz20_3
     try clear hcz20_4
     try clear hcz23_0
     try clear hcz23_1
     try clear hcz23_2
     try clear hcz23_3
     try clear hcz23_4
     try clear hcz31_0
     try clear hcz31_1
     try clear hcz31_2
     try clear hcz31_3
     try clear hcz31_4
     try clear hfz14_0
     try clear hfz14_1
     try clear hfz14_2
     try clear hfz14_3
     try clear hfz14_4
     try clear hfz18_0
     try clear hfz18_1
     try clear hfz18_2
     try clear hfz18_3
     try clear hfz18_4
     try clear hfz20_0
     try clear hfz20_1
     try clear hfz20_2
     try clear hfz20_3
     try clear hfz20_4
     try clear hfz23_0
     try clear hfz23_1
     try clear hfz23_2
     try clear hfz23_3
     try clear hfz23_4
     try clear hfz31_0
     try clear hfz31_1
     try clear hfz31_2
     try clear hfz31_3
     try clear hfz31_4
     try clear p2
     obtain ⟨kq, x52_29, rfl, HA, HJ29, BKab, HB⟩ := hcut
     cases kq with
     | zero => exact absurd HA.out (by simp [arboretlaw13_XlateParts.j1])
     | succ kj29 =>
      have H := HA.out; clear HA; simp only [arboretlaw13_XlateParts.j1] at H
      by_cases c35 : x52_29 = true
      ·subst c35
       have H1 : (some true) = some r := by rw [if_pos rfl] at H; exact H
       clear H; have H := H1; clear H1; obtain rfl := Option.some.inj H
       go_wp2
       go_ret
       exact ⟨Zq10, Zq18⟩
      ·replace c35 := Bool.eq_false_iff.mpr c35; subst c35
       have H1 : (if a3 = 0 then (none) else ((xlate_Up.f kj29 a0_0 l0_1 a0_2 l0_3 l0_4 l1 (IntKind.u64.wrap (a2 + (Int.tmod a4 a3))) 1).bind fun btcL => ((arboretlaw13_overlaps.f kj29 a0_0 l0_1 a0_2 l0_3 l0_4 l1).bind fun tdN => (if tdN = true then (some true) else (if btcL.2 = 0 then (some (btcL.1 == (IntKind.u64.wrap (tbY + (Int.tmod a4 a3))))) else (some false)))))) = some r := by rw [if_neg (show ¬ (false = true) by decide)] at H; exact H
       clear H; have H := H1; clear H1
       by_cases c36 : a3 = 0
       ·rw [if_pos c36] at H; exact absurd H Zq8
       ·rw [if_neg c36] at H; have c36b0 : (a3 == 0) = false := beq_eq_false_iff_ne.mpr c36; have c36b1 : (a3 != 0) = true := bne_iff_ne.mpr c36; replace H := Option.bind_eq_some_iff.mp H; obtain ⟨⟨tcL, tcQ⟩, Aeo, H⟩ := H; replace H : ((arboretlaw13_overlaps.f kj29 a0_0 l0_1 a0_2 l0_3 l0_4 l1).bind fun tdN => (if tdN = true then (some true) else (if tcQ = 0 then (some (tcL == (IntKind.u64.wrap (tbY + (Int.tmod a4 a3))))) else (some false)))) = some r := H; have A37 := Ak Aeo; clear Aeo; replace H := Option.bind_eq_some_iff.mp H; obtain ⟨tdN, AdR, H⟩ := H; replace H : (if tdN = true then (some true) else (if tcQ = 0 then (some (tcL == (IntKind.u64.wrap (tbY + (Int.tmod a4 a3))))) else (some false))) = some r := H; have A38 := Ak AdR; clear AdR
        by_cases c39 : tdN = true
        ·subst c39
         have H1 : (some true) = some r := by rw [if_pos rfl] at H; exact H
         clear H; have H := H1; clear H1; obtain rfl := Option.some.inj H; have hcz40_0 : wc.cell? ⟨gbab, 0, none⟩ = some (.int .u32 a0_0) := (blk_cell BKab.out 0).trans rfl; have hcz40_1 : wc.cell? ⟨gbab, 1, none⟩ = some (.slice A0_1 l0_1.length c0_1) := (blk_cell BKab.out 1).trans rfl; have hcz40_2 : wc.cell? ⟨gbab, 2, none⟩ = some (.string a0_2) := (blk_cell BKab.out 2).trans rfl; have hcz40_3 : wc.cell? ⟨gbab, 3, none⟩ = some (.slice A0_3 l0_3.length c0_3) := (blk_cell BKab.out 3).trans rfl; have hcz40_4 : wc.cell? ⟨gbab, 4, none⟩ = some (.slice A0_4 l0_4.length c0_4) := (blk_cell BKab.out 4).trans rfl; have hfz40_0 := blk_frozen BKab.out 0; have hfz40_1 := blk_frozen BKab.out 1; have hfz40_2 := blk_frozen BKab.out 2; have hfz40_3 := blk_frozen BKab.out 3; have hfz40_4 := blk_frozen BKab.out 4
         go_wp2_with (first | ((with_reducible refine gate_callee (f := 20) rfl ?_); refine goesL_ (some 62) rfl rfl Try.func20 Zq2 rfl #[.agg #[.int .u32 a0_0, .slice A0_1 l0_1.length c0_1, .string a0_2, .slice A0_3 l0_3.length c0_3, .slice A0_4 l0_4.length c0_4], .slice A1 l1.length c1, .int .u64 (IntKind.u64.wrap (a2 + (Int.tmod a4 a3))), .int .u64 1] rfl Zq9 ?_; (with_reducible refine (xlate_Up.calls kj29 a0_0 _ _ l0_1 a0_2 _ _ l0_3 _ _ l0_4 _ _ l1 (IntKind.u64.wrap (a2 + (Int.tmod a4 a3))) 1 tcL tcQ _ ?side1 ?side2 ?side3 ?side4 ?side5 ?side6 ?side7 ?side8 A37.out).mono ?_); (case side1 => repeat (first | exact Zq126 | (with_reducible refine Kd.C_alloc ?_ _) | (with_reducible refine Kd.C_drewN ?_ _) | (with_reducible refine Kd.C_drew ?_))); (case side2 => exact HC0_1.out); (case side3 => repeat (first | exact Zq157 | (with_reducible refine Kd.C_alloc ?_ _) | (with_reducible refine Kd.C_drewN ?_ _) | (with_reducible refine Kd.C_drew ?_))); (case side4 => exact HC0_3.out); (case side5 => repeat (first | exact Zq158 | (with_reducible refine Kd.C_alloc ?_ _) | (with_reducible refine Kd.C_drewN ?_ _) | (with_reducible refine Kd.C_drew ?_))); (case side6 => exact HC0_4.out); (case side7 => repeat (first | exact (Kd.C_below HR1.out HB.out) | (with_reducible refine Kd.C_alloc ?_ _) | (with_reducible refine Kd.C_drewN ?_ _) | (with_reducible refine Kd.C_drew ?_))); (case side8 => exact HC1.out); rintro e w41 ⟨rfl, hb⟩; refine ⟨_, rfl, ?_⟩; have n0_ := Zq118; have n1_ := Zq156; clear BKab HB; have BKab := n0_; have HB := n1_; clear n0_ n1_; (try clear hb); (try clear hb2); (try clear hk); (try clear hi); have hcz42_0 : w41.cell? ⟨gbab, 0, none⟩ = some (.int .u32 a0_0) := (blk_cell BKab.out 0).trans rfl; have hcz42_1 : w41.cell? ⟨gbab, 1, none⟩ = some (.slice A0_1 l0_1.length c0_1) := (blk_cell BKab.out 1).trans rfl; have hcz42_2 : w41.cell? ⟨gbab, 2, none⟩ = some (.string a0_2) := (blk_cell BKab.out 2).trans rfl; have hcz42_3 : w41.cell? ⟨gbab, 3, none⟩ = some (.slice A0_3 l0_3.length c0_3) := (blk_cell BKab.out 3).trans rfl; have hcz42_4 : w41.cell? ⟨gbab, 4, none⟩ = some (.slice A0_4 l0_4.length c0_4) := (blk_cell BKab.out 4).trans rfl; have hfz42_0 := blk_frozen BKab.out 0; have hfz42_1 := blk_frozen BKab.out 1; have hfz42_2 := blk_frozen BKab.out 2; have hfz42_3 := blk_frozen BKab.out 3; have hfz42_4 := blk_frozen BKab.out 4) | ((with_reducible refine gate_callee (f := 23) rfl ?_); refine goesL_ (some 67) rfl rfl Try.func23 Zq2 rfl #[.agg #[.int .u32 a0_0, .slice A0_1 l0_1.length c0_1, .string a0_2, .slice A0_3 l0_3.length c0_3, .slice A0_4 l0_4.length c0_4], .slice A1 l1.length c1] rfl Zq9 ?_; (with_reducible refine (arboretlaw13_overlaps.calls kj29 a0_0 _ _ l0_1 a0_2 _ _ l0_3 _ _ l0_4 _ _ l1 true _ ?side1 ?side2 ?side3 ?side4 ?side5 ?side6 ?side7 ?side8 A38.out).mono ?_); (case side1 => repeat (first | exact Zq126 | (with_reducible refine Kd.C_alloc ?_ _) | (with_reducible refine Kd.C_drewN ?_ _) | (with_reducible refine Kd.C_drew ?_))); (case side2 => exact HC0_1.out); (case side3 => repeat (first | exact Zq157 | (with_reducible refine Kd.C_alloc ?_ _) | (with_reducible refine Kd.C_drewN ?_ _) | (with_reducible refine Kd.C_drew ?_))); (case side4 => exact HC0_3.out); (case side5 => repeat (first | exact Zq158 | (with_reducible refine Kd.C_alloc ?_ _) | (with_reducible refine Kd.C_drewN ?_ _) | (with_reducible refine Kd.C_drew ?_))); (case side6 => exact HC0_4.out); (case side7 => repeat (first | exact (Kd.C_below HR1.out HB.out) | (with_reducible refine Kd.C_alloc ?_ _) | (with_reducible refine Kd.C_drewN ?_ _) | (with_reducible refine Kd.C_drew ?_))); (case side8 => exact HC1.out); rintro e w43 ⟨rfl, hb⟩; refine ⟨_, rfl, ?_⟩; have n0_ := Zq118; have n1_ := Zq156; clear BKab HB; have BKab := n0_; have HB := n1_; clear n0_ n1_; (try clear hb); (try clear hb2); (try clear hk); (try clear hi)))
         go_ret
         exact ⟨Zq10, Zq18⟩
        ·replace c39 := Bool.eq_false_iff.mpr c39; subst c39
         have H1 : (if tcQ = 0 then (some (tcL == (IntKind.u64.wrap (tbY + (Int.tmod a4 a3))))) else (some false)) = some r := by rw [if_neg (show ¬ (false = true) by decide)] at H; exact H
         clear H; have H := H1; clear H1
         by_cases c44 : tcQ = 0
         ·rw [if_pos c44] at H; have c44b0 : (tcQ == 0) = true := beq_iff_eq.mpr c44; have c44b1 : (tcQ != 0) = false := bne_eq_false_iff_eq.mpr c44; clear c44; obtain rfl := Option.some.inj H; have hcz45_0 : wc.cell? ⟨gbab, 0, none⟩ = some (.int .u32 a0_0) := (blk_cell BKab.out 0).trans rfl; have hcz45_1 : wc.cell? ⟨gbab, 1, none⟩ = some (.slice A0_1 l0_1.length c0_1) := (blk_cell BKab.out 1).trans rfl; have hcz45_2 : wc.cell? ⟨gbab, 2, none⟩ = some (.string a0_2) := (blk_cell BKab.out 2).trans rfl; have hcz45_3 : wc.cell? ⟨gbab, 3, none⟩ = some (.slice A0_3 l0_3.length c0_3) := (blk_cell BKab.out 3).trans rfl; have hcz45_4 : wc.cell? ⟨gbab, 4, none⟩ = some (.slice A0_4 l0_4.length c0_4) := (blk_cell BKab.out 4).trans rfl; have hfz45_0 := blk_frozen BKab.out 0; have hfz45_1 := blk_frozen BKab.out 1; have hfz45_2 := blk_frozen BKab.out 2; have hfz45_3 := blk_frozen BKab.out 3; have hfz45_4 := blk_frozen BKab.out 4
          go_wp2_with (first | ((with_reducible refine gate_callee (f := 20) rfl ?_); refine goesL_ (some 62) rfl rfl Try.func20 Zq2 rfl #[.agg #[.int .u32 a0_0, .slice A0_1 l0_1.length c0_1, .string a0_2, .slice A0_3 l0_3.length c0_3, .slice A0_4 l0_4.length c0_4], .slice A1 l1.length c1, .int .u64 (IntKind.u64.wrap (a2 + (Int.tmod a4 a3))), .int .u64 1] rfl Zq9 ?_; (with_reducible refine (xlate_Up.calls kj29 a0_0 _ _ l0_1 a0_2 _ _ l0_3 _ _ l0_4 _ _ l1 (IntKind.u64.wrap (a2 + (Int.tmod a4 a3))) 1 tcL tcQ _ ?side1 ?side2 ?side3 ?side4 ?side5 ?side6 ?side7 ?side8 A37.out).mono ?_); (case side1 => repeat (first | exact Zq126 | (with_reducible refine Kd.C_alloc ?_ _) | (with_reducible refine Kd.C_drewN ?_ _) | (with_reducible refine Kd.C_drew ?_))); (case side2 => exact HC0_1.out); (case side3 => repeat (first | exact Zq157 | (with_reducible refine Kd.C_alloc ?_ _) | (with_reducible refine Kd.C_drewN ?_ _) | (with_reducible refine Kd.C_drew ?_))); (case side4 => exact HC0_3.out); (case side5 => repeat (first | exact Zq158 | (with_reducible refine Kd.C_alloc ?_ _) | (with_reducible refine Kd.C_drewN ?_ _) | (with_reducible refine Kd.C_drew ?_))); (case side6 => exact HC0_4.out); (case side7 => repeat (first | exact (Kd.C_below HR1.out HB.out) | (with_reducible refine Kd.C_alloc ?_ _) | (with_reducible refine Kd.C_drewN ?_ _) | (with_reducible refine Kd.C_drew ?_))); (case side8 => exact HC1.out); rintro e w46 ⟨rfl, hb⟩; refine ⟨_, rfl, ?_⟩; have n0_ := Zq118; have n1_ := Zq156; clear BKab HB; have BKab := n0_; have HB := n1_; clear n0_ n1_; (try clear hb); (try clear hb2); (try clear hk); (try clear hi); have hcz47_0 : w46.cell? ⟨gbab, 0, none⟩ = some (.int .u32 a0_0) := (blk_cell BKab.out 0).trans rfl; have hcz47_1 : w46.cell? ⟨gbab, 1, none⟩ = some (.slice A0_1 l0_1.length c0_1) := (blk_cell BKab.out 1).trans rfl; have hcz47_2 : w46.cell? ⟨gbab, 2, none⟩ = some (.string a0_2) := (blk_cell BKab.out 2).trans rfl; have hcz47_3 : w46.cell? ⟨gbab, 3, none⟩ = some (.slice A0_3 l0_3.length c0_3) := (blk_cell BKab.out 3).trans rfl; have hcz47_4 : w46.cell? ⟨gbab, 4, none⟩ = some (.slice A0_4 l0_4.length c0_4) := (blk_cell BKab.out 4).trans rfl; have hfz47_0 := blk_frozen BKab.out 0; have hfz47_1 := blk_frozen BKab.out 1; have hfz47_2 := blk_frozen BKab.out 2; have hfz47_3 := blk_frozen BKab.out 3; have hfz47_4 := blk_frozen BKab.out 4) | ((with_reducible refine gate_callee (f := 23) rfl ?_); refine goesL_ (some 67) rfl rfl Try.func23 Zq2 rfl #[.agg #[.int .u32 a0_0, .slice A0_1 l0_1.length c0_1, .string a0_2, .slice A0_3 l0_3.length c0_3, .slice A0_4 l0_4.length c0_4], .slice A1 l1.length c1] rfl Zq9 ?_; (with_reducible refine (arboretlaw13_overlaps.calls kj29 a0_0 _ _ l0_1 a0_2 _ _ l0_3 _ _ l0_4 _ _ l1 false _ ?side1 ?side2 ?side3 ?side4 ?side5 ?side6 ?side7 ?side8 A38.out).mono ?_); (case side1 => repeat (first | exact Zq126 | (with_reducible refine Kd.C_alloc ?_ _) | (with_reducible refine Kd.C_drewN ?_ _) | (with_reducible refine Kd.C_drew ?_))); (case side2 => exact HC0_1.out); (case side3 => repeat (first | exact Zq157 | (with_reducible refine Kd.C_alloc ?_ _) | (with_reducible refine Kd.C_drewN ?_ _) | (with_reducible refine Kd.C_drew ?_))); (case side4 => exact HC0_3.out); (case side5 => repeat (first | exact Zq158 | (with_reducible refine Kd.C_alloc ?_ _) | (with_reducible refine Kd.C_drewN ?_ _) | (with_reducible refine Kd.C_drew ?_))); (case side6 => exact HC0_4.out); (case side7 => repeat (first | exact (Kd.C_below HR1.out HB.out) | (with_reducible refine Kd.C_alloc ?_ _) | (with_reducible refine Kd.C_drewN ?_ _) | (with_reducible refine Kd.C_drew ?_))); (case side8 => exact HC1.out); rintro e w48 ⟨rfl, hb⟩; refine ⟨_, rfl, ?_⟩; have n0_ := Zq118; have n1_ := Zq156; clear BKab HB; have BKab := n0_; have HB := n1_; clear n0_ n1_; (try clear hb); (try clear hb2); (try clear hk); (try clear hi)))
          go_ret
          exact ⟨Zq10, Zq18⟩
         ·rw [if_neg c44] at H; have c44b0 : (tcQ == 0) = false := beq_eq_false_iff_ne.mpr c44; have c44b1 : (tcQ != 0) = true := bne_iff_ne.mpr c44; obtain rfl := Option.some.inj H; have hcz49_0 : wc.cell? ⟨gbab, 0, none⟩ = some (.int .u32 a0_0) := (blk_cell BKab.out 0).trans rfl; have hcz49_1 : wc.cell? ⟨gbab, 1, none⟩ = some (.slice A0_1 l0_1.length c0_1) := (blk_cell BKab.out 1).trans rfl; have hcz49_2 : wc.cell? ⟨gbab, 2, none⟩ = some (.string a0_2) := (blk_cell BKab.out 2).trans rfl; have hcz49_3 : wc.cell? ⟨gbab, 3, none⟩ = some (.slice A0_3 l0_3.length c0_3) := (blk_cell BKab.out 3).trans rfl; have hcz49_4 : wc.cell? ⟨gbab, 4, none⟩ = some (.slice A0_4 l0_4.length c0_4) := (blk_cell BKab.out 4).trans rfl; have hfz49_0 := blk_frozen BKab.out 0; have hfz49_1 := blk_frozen BKab.out 1; have hfz49_2 := blk_frozen BKab.out 2; have hfz49_3 := blk_frozen BKab.out 3; have hfz49_4 := blk_frozen BKab.out 4
          go_wp2_with (first | ((with_reducible refine gate_callee (f := 20) rfl ?_); refine goesL_ (some 62) rfl rfl Try.func20 Zq2 rfl #[.agg #[.int .u32 a0_0, .slice A0_1 l0_1.length c0_1, .string a0_2, .slice A0_3 l0_3.length c0_3, .slice A0_4 l0_4.length c0_4], .slice A1 l1.length c1, .int .u64 (IntKind.u64.wrap (a2 + (Int.tmod a4 a3))), .int .u64 1] rfl Zq9 ?_; (with_reducible refine (xlate_Up.calls kj29 a0_0 _ _ l0_1 a0_2 _ _ l0_3 _ _ l0_4 _ _ l1 (IntKind.u64.wrap (a2 + (Int.tmod a4 a3))) 1 tcL tcQ _ ?side1 ?side2 ?side3 ?side4 ?side5 ?side6 ?side7 ?side8 A37.out).mono ?_); (case side1 => repeat (first | exact Zq126 | (with_reducible refine Kd.C_alloc ?_ _) | (with_reducible refine Kd.C_drewN ?_ _) | (with_reducible refine Kd.C_drew ?_))); (case side2 => exact HC0_1.out); (case side3 => repeat (first | exact Zq157 | (with_reducible refine Kd.C_alloc ?_ _) | (with_reducible refine Kd.C_drewN ?_ _) | (with_reducible refine Kd.C_drew ?_))); (case side4 => exact HC0_3.out); (case side5 => repeat (first | exact Zq158 | (with_reducible refine Kd.C_alloc ?_ _) | (with_reducible refine Kd.C_drewN ?_ _) | (with_reducible refine Kd.C_drew ?_))); (case side6 => exact HC0_4.out); (case side7 => repeat (first | exact (Kd.C_below HR1.out HB.out) | (with_reducible refine Kd.C_alloc ?_ _) | (with_reducible refine Kd.C_drewN ?_ _) | (with_reducible refine Kd.C_drew ?_))); (case side8 => exact HC1.out); rintro e w50 ⟨rfl, hb⟩; refine ⟨_, rfl, ?_⟩; have n0_ := Zq118; have n1_ := Zq156; clear BKab HB; have BKab := n0_; have HB := n1_; clear n0_ n1_; (try clear hb); (try clear hb2); (try clear hk); (try clear hi); have hcz51_0 : w50.cell? ⟨gbab, 0, none⟩ = some (.int .u32 a0_0) := (blk_cell BKab.out 0).trans rfl; have hcz51_1 : w50.cell? ⟨gbab, 1, none⟩ = some (.slice A0_1 l0_1.length c0_1) := (blk_cell BKab.out 1).trans rfl; have hcz51_2 : w50.cell? ⟨gbab, 2, none⟩ = some (.string a0_2) := (blk_cell BKab.out 2).trans rfl; have hcz51_3 : w50.cell? ⟨gbab, 3, none⟩ = some (.slice A0_3 l0_3.length c0_3) := (blk_cell BKab.out 3).trans rfl; have hcz51_4 : w50.cell? ⟨gbab, 4, none⟩ = some (.slice A0_4 l0_4.length c0_4) := (blk_cell BKab.out 4).trans rfl; have hfz51_0 := blk_frozen BKab.out 0; have hfz51_1 := blk_frozen BKab.out 1; have hfz51_2 := blk_frozen BKab.out 2; have hfz51_3 := blk_frozen BKab.out 3; have hfz51_4 := blk_frozen BKab.out 4) | ((with_reducible refine gate_callee (f := 23) rfl ?_); refine goesL_ (some 67) rfl rfl Try.func23 Zq2 rfl #[.agg #[.int .u32 a0_0, .slice A0_1 l0_1.length c0_1, .string a0_2, .slice A0_3 l0_3.length c0_3, .slice A0_4 l0_4.length c0_4], .slice A1 l1.length c1] rfl Zq9 ?_; (with_reducible refine (arboretlaw13_overlaps.calls kj29 a0_0 _ _ l0_1 a0_2 _ _ l0_3 _ _ l0_4 _ _ l1 false _ ?side1 ?side2 ?side3 ?side4 ?side5 ?side6 ?side7 ?side8 A38.out).mono ?_); (case side1 => repeat (first | exact Zq126 | (with_reducible refine Kd.C_alloc ?_ _) | (with_reducible refine Kd.C_drewN ?_ _) | (with_reducible refine Kd.C_drew ?_))); (case side2 => exact HC0_1.out); (case side3 => repeat (first | exact Zq157 | (with_reducible refine Kd.C_alloc ?_ _) | (with_reducible refine Kd.C_drewN ?_ _) | (with_reducible refine Kd.C_drew ?_))); (case side4 => exact HC0_3.out); (case side5 => repeat (first | exact Zq158 | (with_reducible refine Kd.C_alloc ?_ _) | (with_reducible refine Kd.C_drewN ?_ _) | (with_reducible refine Kd.C_drew ?_))); (case side6 => exact HC0_4.out); (case side7 => repeat (first | exact (Kd.C_below HR1.out HB.out) | (with_reducible refine Kd.C_alloc ?_ _) | (with_reducible refine Kd.C_drewN ?_ _) | (with_reducible refine Kd.C_drew ?_))); (case side8 => exact HC1.out); rintro e w52 ⟨rfl, hb⟩; refine ⟨_, rfl, ?_⟩; have n0_ := Zq118; have n1_ := Zq156; clear BKab HB; have BKab := n0_; have HB := n1_; clear n0_ n1_; (try clear hb); (try clear hb2); (try clear hk); (try clear hi)))
          go_ret
          exact ⟨Zq10, Zq18⟩
end Go.Proofs.Yteejaaeglfpcmab.PX

namespace Go.Proofs.Yteejaaeglfpcmab.Rdr
open Go.RowKit Go.Proofs.YteejaaeglfpcmabW.PrintWords Go.ChangeShapes Go.WideShapes
def sumB {α : Type} (B : α → Nat) : List α → Nat
 | [] => 0
 | x :: r => B x + sumB B r
theorem sumB_le {α : Type} {H : Type} {B : α → Nat} : ∀ {xs : List α} {ds : List (DataW H)}, xs.length = ds.length → (∀ (i : Nat) (x : α) (d : DataW H), xs[i]? = some x → ds[i]? = some d → B x ≤ Rows.uptoBulk d) → sumB B xs ≤ Rows.uptoBulkAll ds
 | [], [], _, _ => Nat.le_refl _
 | x :: xs, d :: ds, hl, h => by
  have h0 := h 0 x d rfl rfl; have h1 := sumB_le (xs := xs) (ds := ds) (by simpa using hl) (fun i a b ha hb => h (i + 1) a b (by simpa using ha) (by simpa using hb)); simp only [sumB, Rows.uptoBulkAll]
  omega
 | [], _ :: _, hl, _ => by simp at hl
 | _ :: _, [], hl, _ => by simp at hl
theorem sumB_mem {α : Type} {B : α → Nat} {x : α} : ∀ {xs : List α}, x ∈ xs → B x ≤ sumB B xs
 | a :: r, h => by
  simp only [sumB]
  rcases List.mem_cons.1 h with rfl | h
  ·omega
  ·have := sumB_mem (B := B) h
   omega
theorem sumB_len {α : Type} {B : α → Nat} (h1 : ∀ x, 1 ≤ B x) : ∀ xs : List α, xs.length ≤ sumB B xs
 | [] => Nat.le_refl _
 | x :: r => by
  have := h1 x; have := sumB_len h1 r; simp only [sumB, List.length_cons]
  omega
theorem sumB_one {α : Type} (xs : List α) : sumB (fun _ => 1) xs = xs.length := by
 induction xs with
 | nil => rfl
 | cons x r ih => simp only [sumB, ih, List.length_cons]; omega
theorem list_of {α : Type} {n : Nat} {Q : Nat → α → Prop} (h : ∀ i, i < n → ∃ x, Q i x) : ∃ xs : List α, xs.length = n ∧ ∀ (i : Nat) (x : α), xs[i]? = some x → Q i x := by
 induction n with
 | zero => exact ⟨[], rfl, fun i x hx => by simp at hx⟩
 | succ n ih =>
  obtain ⟨xs, hl, hq⟩ := ih (fun i hi => h i Zq1); obtain ⟨y, hy⟩ := h n Zq1; refine ⟨xs ++ [y], by simp [hl], fun i x hx => ?_⟩
  rcases Nat.lt_trichotomy i xs.length with hi | hi | hi
  ·rw [List.getElem?_append_left hi] at hx
   exact hq i x hx
  ·subst hi; rw [List.getElem?_append_right (Nat.le_refl _)] at hx
   simp at hx
   subst hx; rw [hl]
   exact hy
  ·rw [List.getElem?_append_right Zq1, List.getElem?_eq_none (by simp; omega)] at hx
   cases hx
def RdF (P : Program) (W : World) (n : Nat) {α : Type} (d : Kd α) (t : TypeId) (B : α → Nat) (G : α → Prop) : Prop :=
 ∀ (H : Type) (enc : TypeId × Value → H) (fuel : Nat), fuel ≤ n → ∀ (cs : List Value) (x : DataW H × List MemPlace),
  DataW.trod enc P W 0 (fun _ => true) true fuel t cs = some x → ∃ a, d.K W a cs ∧ B a ≤ Rows.uptoBulk x.1 ∧ G a
section
variable {P : Program} {W : World} {n : Nat}
def wfI (k : IntKind) (x : Int) : Prop := (Lit.int k x).wf = true
theorem rd_int {t : TypeId} {k : IntKind} (ht : P.underlying t = some (.int k)) : RdF P W n (Kd.int k) t (fun _ => 1) (wfI k) := by
 intro H enc fuel hf cs x h
 cases fuel with
 | zero => simp [DataW.trod] at h
 | succ m =>
  unfold DataW.trod at h; rw [ht] at h
  split at h <;> simp_all
  rename_i k' y z
  obtain ⟨⟨rfl, hw⟩, rfl⟩ := h
  exact ⟨y, rfl, by simp [Rows.uptoBulk], hw⟩
theorem rd_string {t : TypeId} (ht : P.underlying t = some .string) : RdF P W n Kd.string t (fun s => s.size + 1) (fun _ => True) := by
 intro H enc fuel hf cs x h
 cases fuel with
 | zero => simp [DataW.trod] at h
 | succ m =>
  unfold DataW.trod at h; rw [ht] at h
  split at h <;> simp_all
  obtain ⟨_, rfl⟩ := h; refine ⟨_, rfl, ?_⟩
  simp [Rows.uptoBulk]
theorem rd_slice {t e : TypeId} {α : Type} {d : Kd α} {B : α → Nat} {G : α → Prop} (ht : P.underlying t = some (.slice e)) (hc : P.cellsOf e = d.sz) (h : RdF P W n d e B G) : RdF P W (n + 1) (Kd.slice e d) t (fun xs => sumB B xs + 1) (fun xs => ∀ x ∈ xs, G x) := by
 intro H enc fuel hf cs x hx
 rcases DataW.trod_slice ht hx with ⟨rfl, rfl⟩ | ⟨a, len, cap, elems, rest, m, rfl, rfl, rfl, hb, hl, hm, hlen, hel, _⟩
 ·exact ⟨[], ⟨none, 0, rfl, Nat.le_refl _, rfl, Zq8, fun h0 => absurd h0 Zq8⟩, by simp [sumB, Rows.uptoBulk], fun x hx => by simp at hx⟩
 ·have each : ∀ i, i < len → ∃ y : α, ∃ c : List Value, ∃ z, elems[i]? = some z ∧ W.cells? 0 (a.add (i * P.cellsOf e)) (P.cellsOf e) = some c ∧ d.K W y c ∧ B y ≤ Rows.uptoBulk z.1 ∧ G y := by
   intro i hi; have h1 := hel i hi
   obtain ⟨z, hz⟩ : ∃ z, elems[i]? = some z := ⟨_, List.getElem?_eq_getElem Zq1⟩
   rw [hz] at h1; obtain ⟨c, hc1, hc2⟩ := Option.bind_eq_some_iff.1 h1; obtain ⟨y, k1, k2, k3⟩ := h H enc m Zq1 c z hc2
   exact ⟨y, c, z, hz, hc1, k1, k2, k3⟩
  obtain ⟨ys, hyl, hy⟩ := list_of each; refine ⟨ys, ⟨some a, cap, by rw [hyl], Zq1, ?_⟩, ?_, ?_⟩
  ·refine ⟨rfl, ?_, fun _ => ⟨a, rfl, fun j p hj => ?_⟩⟩
   ·have : cap ≤ 9223372036854775807 := by simpa [maxLen] using hm
    omega
   ·obtain ⟨c, z, _, hcs, hk, _, _⟩ := hy j p hj; obtain ⟨_, hcl, hcc⟩ := World.cells?_some hcs; refine ⟨c, by rw [hcl, hc], hk, fun i u hu => ?_⟩
    have hi : i < P.cellsOf e := by
     rw [← hcl]
     exact (List.getElem?_eq_some_iff.1 hu).1
    have h2 := hcc i hi; rw [hu] at h2; rw [← h2, hc]; rw [Deep.add_add]
  ·have : sumB B ys ≤ Rows.uptoBulkAll (elems.map (·.1)) := by
    refine sumB_le (by simp [hyl, hlen]) (fun i y dd hyi hdi => ?_); obtain ⟨c, z, hz, _, _, hB, _⟩ := hy i y hyi; rw [List.getElem?_map, hz] at hdi
    simp at hdi
    rw [← hdi]
    exact hB
   simp only [Rows.uptoBulk]
   omega
  ·intro y hyy; obtain ⟨i, hi, he⟩ := List.getElem_of_mem hyy; obtain ⟨_, _, _, _, _, _, hg⟩ := hy i y (by rw [List.getElem?_eq_getElem hi, he])
   exact hg
end
theorem len_2 {α : Type} {l : List α} (h : l.length = 2) : ∃ a0 a1, l = [a0, a1] := by
 match l, h with
 | [b0, b1], _ => exact ⟨b0, b1, rfl⟩
theorem len_3 {α : Type} {l : List α} (h : l.length = 3) : ∃ a0 a1 a2, l = [a0, a1, a2] := by
 match l, h with
 | [b0, b1, b2], _ => exact ⟨b0, b1, b2, rfl⟩
theorem len_5 {α : Type} {l : List α} (h : l.length = 5) : ∃ a0 a1 a2 a3 a4, l = [a0, a1, a2, a3, a4] := by
 match l, h with
 | [b0, b1, b2, b3, b4], _ => exact ⟨b0, b1, b2, b3, b4, rfl⟩
theorem bound {H : Type} {l : List (DataW H)} (hk : Rows.uptoSmall H l = true) : Rows.uptoBulkAll l ≤ 1048576 := of_decide_eq_true hk
end Go.Proofs.Yteejaaeglfpcmab.Rdr

namespace Go.Proofs.Yteejaaeglfpcmab.PX
open Go.RowKit Go.Proofs.Yteejaaeglfpcmab.Rdr Go.Proofs.YteejaaeglfpcmabW.PrintWords Go.Proofs.YteejaaeglfpcmabW.PrintLast Go.Proofs.YteejaaeglfpcmabW.PrintMore
def bulk77 (x : S77) : Nat := (fun s => s.size + 1) x.f0 + (fun xs => sumB (fun _ => 1) xs + 1) x.f1 + 1
def good77 (x : S77) : Prop := (fun _ => True) x.f0 ∧ (fun xs => ∀ x ∈ xs, (wfI .u8) x) x.f1
theorem rd77 (W : World) (n : Nat) : RdF Try.prog W n k77 77 bulk77 good77 := by
 intro H enc fuel hfu cs x h
 cases n with
 | zero =>
  obtain rfl : fuel = 0 := by omega
  simp [DataW.trod] at h
 | succ n =>
 obtain ⟨xs, m, rfl, rfl, hl, hlen, hf⟩ := DataW.trod_struct Try.underlying77 h; have hl' : cs.length = 2 := hl.trans Zq2; clear hl; obtain ⟨u0, u1, rfl⟩ := len_2 hl'
 have z9 : Try.prog.cellsOf 9 = 1 := by kernel_rfl
 have z72 : Try.prog.cellsOf 72 = 1 := by kernel_rfl
 obtain ⟨y0, hy0⟩ : ∃ y, xs[0]? = some y := ⟨_, List.getElem?_eq_getElem (by rw [hlen]; decide)⟩
 have h0 := hf 0 _ rfl; rw [hy0] at h0; simp only [z9, List.getElem_toArray, List.getElem_cons_zero, List.getElem_cons_succ, List.drop_zero, List.drop_succ_cons, List.take_succ_cons, List.take_zero] at h0; have h0' : DataW.trod enc Try.prog W 0 (fun _ => true) true m 9 [u0] = some y0 := h0
 obtain ⟨y1, hy1⟩ : ∃ y, xs[1]? = some y := ⟨_, List.getElem?_eq_getElem (by rw [hlen]; decide)⟩
 have h1 := hf 1 _ rfl; rw [hy1] at h1; simp only [z72, List.getElem_toArray, List.getElem_cons_zero, List.getElem_cons_succ, List.drop_zero, List.drop_succ_cons, List.take_succ_cons, List.take_zero] at h1; have h1' : DataW.trod enc Try.prog W 0 (fun _ => true) true m 72 [u1] = some y1 := h1; obtain ⟨a0, k0, b0, g0⟩ := (rd_string (n := (n + 1)) Try.underlying9) H enc m Zq1 _ _ h0'; obtain ⟨a1, k1, b1, g1⟩ := (rd_slice (n := n) Try.underlying72 Zq2 (rd_int (n := n) Try.underlying5)) H enc m Zq1 _ _ h1'
 have hall : xs = [y0, y1] := by
  obtain ⟨q0, q1, rfl⟩ := len_2 (l := xs) hlen; simp only [List.getElem?_cons_zero, List.getElem?_cons_succ, Option.some.injEq] at hy0 hy1; rw [hy0, hy1]
 subst hall; refine ⟨⟨a0, a1⟩, ⟨[u0], [u1], rfl, k0, k1⟩, ?_, ?_⟩
 ·(try dsimp only at b0); (try dsimp only at b1); simp only [bulk77, Rows.uptoBulk, Rows.uptoBulkAll, List.map_cons, List.map_nil]; omega
 ·exact ⟨g0, g1⟩
mutual
def bulk30 : S30 → Nat
 | ⟨x0, x1, x2⟩ => (fun s => s.size + 1) x0 + (fun xs => sumB bulk77 xs + 1) x1 + (bulks30 x2 + 1) + 1
def bulks30 : List S30 → Nat
 | [] => 0
 | x :: r => bulk30 x + bulks30 r
end
theorem bulks30_eq (l : List S30) : bulks30 l = sumB bulk30 l := by
 induction l with
 | nil => rfl
 | cons x r ih => simp only [bulks30, sumB, ih]
mutual
def good30 : S30 → Prop
 | ⟨x0, x1, x2⟩ => (fun _ => True) x0 ∧ (fun xs => ∀ x ∈ xs, good77 x) x1 ∧ goods30 x2
def goods30 : List S30 → Prop
 | [] => True
 | x :: r => good30 x ∧ goods30 r
end
theorem goods30_iff (l : List S30) : goods30 l ↔ ∀ x ∈ l, good30 x := by
 induction l with
 | nil => simp [goods30]
 | cons x r ih => simp [goods30, ih]
theorem rd30 (W : World) (n : Nat) : RdF Try.prog W n k30 30 bulk30 good30 := by
 induction n with
 | zero =>
  intro H enc fuel hf cs x h
  obtain rfl : fuel = 0 := by omega
  simp [DataW.trod] at h
 | succ n ih =>
 intro H enc fuel hfu cs x h; obtain ⟨xs, m, rfl, rfl, hl, hlen, hf⟩ := DataW.trod_struct Try.underlying30 h; have hl' : cs.length = 3 := hl.trans Zq2; clear hl; obtain ⟨u0, u1, u2, rfl⟩ := len_3 hl'
 have z9 : Try.prog.cellsOf 9 = 1 := by kernel_rfl
 have z27 : Try.prog.cellsOf 27 = 1 := by kernel_rfl
 have z28 : Try.prog.cellsOf 28 = 1 := by kernel_rfl
 obtain ⟨y0, hy0⟩ : ∃ y, xs[0]? = some y := ⟨_, List.getElem?_eq_getElem (by rw [hlen]; decide)⟩
 have h0 := hf 0 _ rfl; rw [hy0] at h0; simp only [z9, List.getElem_toArray, List.getElem_cons_zero, List.getElem_cons_succ, List.drop_zero, List.drop_succ_cons, List.take_succ_cons, List.take_zero] at h0; have h0' : DataW.trod enc Try.prog W 0 (fun _ => true) true m 9 [u0] = some y0 := h0
 obtain ⟨y1, hy1⟩ : ∃ y, xs[1]? = some y := ⟨_, List.getElem?_eq_getElem (by rw [hlen]; decide)⟩
 have h1 := hf 1 _ rfl; rw [hy1] at h1; simp only [z27, List.getElem_toArray, List.getElem_cons_zero, List.getElem_cons_succ, List.drop_zero, List.drop_succ_cons, List.take_succ_cons, List.take_zero] at h1; have h1' : DataW.trod enc Try.prog W 0 (fun _ => true) true m 27 [u1] = some y1 := h1
 obtain ⟨y2, hy2⟩ : ∃ y, xs[2]? = some y := ⟨_, List.getElem?_eq_getElem (by rw [hlen]; decide)⟩
 have h2 := hf 2 _ rfl; rw [hy2] at h2; simp only [z28, List.getElem_toArray, List.getElem_cons_zero, List.getElem_cons_succ, List.drop_zero, List.drop_succ_cons, List.take_succ_cons, List.take_zero] at h2; have h2' : DataW.trod enc Try.prog W 0 (fun _ => true) true m 28 [u2] = some y2 := h2; obtain ⟨a0, k0, b0, g0⟩ := (rd_string (n := (n + 1)) Try.underlying9) H enc m Zq1 _ _ h0'; obtain ⟨a1, k1, b1, g1⟩ := (rd_slice (n := n) Try.underlying27 Zq2 (rd77 W n)) H enc m Zq1 _ _ h1'; obtain ⟨a2, k2, b2, g2⟩ := (rd_slice (n := n) Try.underlying28 Zq2 ih) H enc m Zq1 _ _ h2'
 have hall : xs = [y0, y1, y2] := by
  obtain ⟨q0, q1, q2, rfl⟩ := len_3 (l := xs) hlen; simp only [List.getElem?_cons_zero, List.getElem?_cons_succ, Option.some.injEq] at hy0 hy1 hy2; rw [hy0, hy1, hy2]
 subst hall
 cases k0
 obtain ⟨A1, c1, e1, l1, r1⟩ := k1
 cases e1
 obtain ⟨A2, c2, e2, l2, r2⟩ := k2
 cases e2
 refine ⟨⟨a0, a1, a2⟩, k30_mk W ⟨a0, a1, a2⟩ l1 r1 l2 r2, ?_, ?_⟩
 ·(try dsimp only at b0); (try dsimp only at b1); (try dsimp only at b2); simp only [bulk30, bulks30_eq, Rows.uptoBulk, Rows.uptoBulkAll, List.map_cons, List.map_nil]; omega
 ·exact ⟨g0, g1, (goods30_iff _).mpr g2⟩
def bulk94 (x : S94) : Nat := (fun _ => 1) x.f0 + (fun _ => 1) x.f1 + 1
def good94 (x : S94) : Prop := (wfI .u64) x.f0 ∧ (wfI .u64) x.f1
theorem rd94 (W : World) (n : Nat) : RdF Try.prog W n k94 94 bulk94 good94 := by
 intro H enc fuel hfu cs x h
 cases n with
 | zero =>
  obtain rfl : fuel = 0 := by omega
  simp [DataW.trod] at h
 | succ n =>
 obtain ⟨xs, m, rfl, rfl, hl, hlen, hf⟩ := DataW.trod_struct Try.underlying94 h; have hl' : cs.length = 2 := hl.trans Zq2; clear hl; obtain ⟨u0, u1, rfl⟩ := len_2 hl'
 have z43 : Try.prog.cellsOf 43 = 1 := by kernel_rfl
 obtain ⟨y0, hy0⟩ : ∃ y, xs[0]? = some y := ⟨_, List.getElem?_eq_getElem (by rw [hlen]; decide)⟩
 have h0 := hf 0 _ rfl; rw [hy0] at h0; simp only [z43, List.getElem_toArray, List.getElem_cons_zero, List.getElem_cons_succ, List.drop_zero, List.drop_succ_cons, List.take_succ_cons, List.take_zero] at h0; have h0' : DataW.trod enc Try.prog W 0 (fun _ => true) true m 43 [u0] = some y0 := h0
 obtain ⟨y1, hy1⟩ : ∃ y, xs[1]? = some y := ⟨_, List.getElem?_eq_getElem (by rw [hlen]; decide)⟩
 have h1 := hf 1 _ rfl; rw [hy1] at h1; simp only [z43, List.getElem_toArray, List.getElem_cons_zero, List.getElem_cons_succ, List.drop_zero, List.drop_succ_cons, List.take_succ_cons, List.take_zero] at h1; have h1' : DataW.trod enc Try.prog W 0 (fun _ => true) true m 43 [u1] = some y1 := h1; obtain ⟨a0, k0, b0, g0⟩ := (rd_int (n := (n + 1)) Try.underlying43) H enc m Zq1 _ _ h0'; obtain ⟨a1, k1, b1, g1⟩ := (rd_int (n := (n + 1)) Try.underlying43) H enc m Zq1 _ _ h1'
 have hall : xs = [y0, y1] := by
  obtain ⟨q0, q1, rfl⟩ := len_2 (l := xs) hlen; simp only [List.getElem?_cons_zero, List.getElem?_cons_succ, Option.some.injEq] at hy0 hy1; rw [hy0, hy1]
 subst hall; refine ⟨⟨a0, a1⟩, ⟨[u0], [u1], rfl, k0, k1⟩, ?_, ?_⟩
 ·(try dsimp only at b0); (try dsimp only at b1); simp only [bulk94, Rows.uptoBulk, Rows.uptoBulkAll, List.map_cons, List.map_nil]; omega
 ·exact ⟨g0, g1⟩
def bulk35 (x : S35) : Nat := (fun _ => 1) x.f0 + (fun xs => sumB bulk94 xs + 1) x.f1 + bulk30 x.f2 + 1
def good35 (x : S35) : Prop := (wfI .u32) x.f0 ∧ (fun xs => ∀ x ∈ xs, good94 x) x.f1 ∧ good30 x.f2
theorem rd35 (W : World) (n : Nat) : RdF Try.prog W n k35 35 bulk35 good35 := by
 intro H enc fuel hfu cs x h
 cases n with
 | zero =>
  obtain rfl : fuel = 0 := by omega
  simp [DataW.trod] at h
 | succ n =>
 obtain ⟨xs, m, rfl, rfl, hl, hlen, hf⟩ := DataW.trod_struct Try.underlying35 h; have hl' : cs.length = 5 := hl.trans Zq2; clear hl; obtain ⟨u0, u1, u2, u3, u4, rfl⟩ := len_5 hl'
 have z30 : Try.prog.cellsOf 30 = 3 := by kernel_rfl
 have z32 : Try.prog.cellsOf 32 = 1 := by kernel_rfl
 have z33 : Try.prog.cellsOf 33 = 1 := by kernel_rfl
 obtain ⟨y0, hy0⟩ : ∃ y, xs[0]? = some y := ⟨_, List.getElem?_eq_getElem (by rw [hlen]; decide)⟩
 have h0 := hf 0 _ rfl; rw [hy0] at h0; simp only [z32, List.getElem_toArray, List.getElem_cons_zero, List.getElem_cons_succ, List.drop_zero, List.drop_succ_cons, List.take_succ_cons, List.take_zero] at h0; have h0' : DataW.trod enc Try.prog W 0 (fun _ => true) true m 32 [u0] = some y0 := h0
 obtain ⟨y1, hy1⟩ : ∃ y, xs[1]? = some y := ⟨_, List.getElem?_eq_getElem (by rw [hlen]; decide)⟩
 have h1 := hf 1 _ rfl; rw [hy1] at h1; simp only [z33, List.getElem_toArray, List.getElem_cons_zero, List.getElem_cons_succ, List.drop_zero, List.drop_succ_cons, List.take_succ_cons, List.take_zero] at h1; have h1' : DataW.trod enc Try.prog W 0 (fun _ => true) true m 33 [u1] = some y1 := h1
 obtain ⟨y2, hy2⟩ : ∃ y, xs[2]? = some y := ⟨_, List.getElem?_eq_getElem (by rw [hlen]; decide)⟩
 have h2 := hf 2 _ rfl; rw [hy2] at h2; simp only [z30, List.getElem_toArray, List.getElem_cons_zero, List.getElem_cons_succ, List.drop_zero, List.drop_succ_cons, List.take_succ_cons, List.take_zero] at h2; have h2' : DataW.trod enc Try.prog W 0 (fun _ => true) true m 30 [u2, u3, u4] = some y2 := h2; obtain ⟨a0, k0, b0, g0⟩ := (rd_int (n := (n + 1)) Try.underlying32) H enc m Zq1 _ _ h0'; obtain ⟨a1, k1, b1, g1⟩ := (rd_slice (n := n) Try.underlying33 Zq2 (rd94 W n)) H enc m Zq1 _ _ h1'; obtain ⟨a2, k2, b2, g2⟩ := (rd30 W (n + 1)) H enc m Zq1 _ _ h2'
 have hall : xs = [y0, y1, y2] := by
  obtain ⟨q0, q1, q2, rfl⟩ := len_3 (l := xs) hlen; simp only [List.getElem?_cons_zero, List.getElem?_cons_succ, Option.some.injEq] at hy0 hy1 hy2; rw [hy0, hy1, hy2]
 subst hall; refine ⟨⟨a0, a1, a2⟩, ⟨[u0], [u1, u2, u3, u4], rfl, k0, ⟨[u1], [u2, u3, u4], rfl, k1, k2⟩⟩, ?_, ?_⟩
 ·(try dsimp only at b0); (try dsimp only at b1); (try dsimp only at b2); simp only [bulk35, Rows.uptoBulk, Rows.uptoBulkAll, List.map_cons, List.map_nil]; omega
 ·exact ⟨g0, g1, g2⟩
def arboretlaw13_XlateParts.Pure : Prop := ∀ (x0 : S35) (x1 : List Int) (x2 : Int) (x3 : Int) (x4 : Int), bulk35 x0 + (fun xs => sumB (fun _ => 1) xs + 1) x1 + (fun _ => 1) x2 + (fun _ => 1) x3 + (fun _ => 1) x4 ≤ 1048576 → good35 x0 → (fun xs => ∀ x ∈ xs, (wfI .i64) x) x1 → (wfI .u64) x2 → (wfI .u64) x3 → (wfI .u64) x4 → ∃ k, arboretlaw13_XlateParts.f k x0.f0 x0.f1 x0.f2.f0 x0.f2.f1 x0.f2.f2 x1 x2 x3 x4 = some true
end Go.Proofs.Yteejaaeglfpcmab.PX

namespace Go.Proofs.Yteejaaeglfpcmab.Aid
open Go.RowKit Go.Proofs.YteejaaeglfpcmabW.PrintWords
section
variable {α β : Type} {r : α}
theorem Ev.pos {c : Prop} [Decidable c] {A B : Nat → Option α} (h : c) (hA : Ev A r) : Ev (fun k => if c then A k else B k) r := by
 simp only [if_pos h]
 exact hA
theorem Ev.neg {c : Prop} [Decidable c] {A B : Nat → Option α} (h : ¬ c) (hB : Ev B r) : Ev (fun k => if c then A k else B k) r := by
 simp only [if_neg h]
 exact hB
theorem Ev.succ {g : Nat → Option α} (h : Ev (fun k => g (k + 1)) r) : Ev g r := Ev.step (fun _ => rfl) h
theorem Ev.some (r : α) : Ev (fun _ => some r) r := ⟨0, fun _ _ => rfl⟩
theorem Ev.fix {g : Option α} (h : g = Option.some r) : Ev (fun _ => g) r := ⟨0, fun _ _ => h⟩
theorem Ev.then {g : Nat → Option α} {f : Nat → α → Option β} {a : α} {b : β} (h : Ev g a) (k : Ev (fun n => f n a) b) : Ev (fun n => (g n).bind (f n)) b := Ev.bind h k
theorem Ev.out {g : Nat → Option α} (h : Ev g r) : ∃ k, g k = Option.some r := Ev.rounds h
end
theorem w64 {x : Int} (h0 : -9223372036854775808 ≤ x) (h1 : x ≤ 9223372036854775807) : wrap64 x = x := by unfold wrap64; omega
theorem wu64 {x : Int} (h0 : 0 ≤ x) (h1 : x < 18446744073709551616) : IntKind.u64.wrap x = x := by
 simp only [IntKind.wrap, IntKind.bits, IntKind.signed]
 simp
 omega
theorem wu64_def (x : Int) : IntKind.u64.wrap x = x % 18446744073709551616 := by
 simp only [IntKind.wrap, IntKind.bits, IntKind.signed]
 simp
theorem or_low (i : Nat) (hi : i ≤ 64) {x y : Int} (hx : 0 ≤ x) (hxm : x % 2 ^ i = 0) (hx1 : x < 18446744073709551616) (hy : 0 ≤ y) (hy1 : y < 2 ^ i) : Go.bits .or .u64 x y = x + y := by
 have h2 : (2 : Int) ^ i ≤ 18446744073709551616 := by
  have h : (2 : Nat) ^ i ≤ 2 ^ 64 := Nat.pow_le_pow_right Zq7 hi; have h' : ((2 ^ i : Nat) : Int) ≤ ((2 ^ 64 : Nat) : Int) := Int.ofNat_le.mpr h
  simpa using h'
 exact Go.bits_join .u64 64 Zq7 (fun n h0 h1 => wu64 h0 (by simpa using h1)) i x y hx hxm (by simpa using hx1) hy hy1 (by simpa using Int.lt_of_lt_of_le hy1 h2)
theorem wf_u8 {x : Int} : (Lit.int .u8 x).wf = true ↔ 0 ≤ x ∧ x ≤ 255 := by simp [Lit.wf, IntKind.min, IntKind.max, IntKind.signed, IntKind.bits]
theorem wf_u64 {x : Int} : (Lit.int .u64 x).wf = true ↔ 0 ≤ x ∧ x ≤ 18446744073709551615 := by simp [Lit.wf, IntKind.min, IntKind.max, IntKind.signed, IntKind.bits]
theorem getD_at {α : Type} {l : List α} {d : α} {i : Nat} (h : i < l.length) : l.getD i d = l[i] := by simp [List.getD_eq_getElem?_getD, List.getElem?_eq_getElem h]
theorem drop_at {α : Type} {l : List α} {d : α} {i : Nat} (h : i < l.length) : l.drop i = l.getD i d :: l.drop (i + 1) := by rw [getD_at h]; exact List.drop_eq_getElem_cons h
theorem loop {α β : Type} (l : List α) (F : List α → β) (g : Nat → Int → Option β)
  (hend : Ev (fun k => g k (l.length : Int)) (F []))
  (hstep : ∀ i : Nat, (h : i < l.length) → Ev (fun k => g k ((i + 1 : Nat) : Int)) (F (l.drop (i + 1))) → Ev (fun k => g k (i : Int)) (F (l[i] :: l.drop (i + 1)))) :
  ∀ i : Nat, i ≤ l.length → Ev (fun k => g k (i : Int)) (F (l.drop i)) := by
 have key : ∀ (d i : Nat), i + d = l.length → Ev (fun k => g k (i : Int)) (F (l.drop i)) := by
  intro d
  induction d with
  | zero =>
   intro i hi
   have : i = l.length := by omega
   subst this; rw [List.drop_length]
   exact hend
  | succ d ih =>
   intro i hi
   have h : i < l.length := by omega
   rw [List.drop_eq_getElem_cons h]
   exact hstep i h (ih (i + 1) Zq1)
 intro i hi
 exact key (l.length - i) i Zq1
end Go.Proofs.Yteejaaeglfpcmab.Aid

namespace Go.Proofs.Yteejaaeglfpcmab.PX
open Go.RowKit Go.Proofs.Yteejaaeglfpcmab.Rdr Go.Proofs.Yteejaaeglfpcmab.Aid Go.Proofs.YteejaaeglfpcmabW.PrintWords
theorem rdN (xs : List S30) (i : Nat) : rd_T30 xs (i : Int) = xs.getD i z30 := by simp [rd_T30]
theorem rdP (xs : List S77) (i : Nat) : rd_T77 xs (i : Int) = xs.getD i z77 := by simp [rd_T77]
theorem getN {xs : List S30} {i : Nat} (h : i < xs.length) : xs.getD i z30 ∈ xs := by rw [getD_at h]; exact List.getElem_mem h
theorem getP {xs : List S77} {i : Nat} (h : i < xs.length) : xs.getD i z77 ∈ xs := by rw [getD_at h]; exact List.getElem_mem h
theorem bulk_pos (x : S30) : 1 ≤ bulk30 x := by
 cases x
 simp only [bulk30]
 omega
theorem bulk_eq (x : S30) : bulk30 x = x.f0.size + sumB bulk77 x.f1 + sumB bulk30 x.f2 + 4 := by
 cases x
 simp only [bulk30, bulks30_eq]
 omega
theorem bulk_kid {x k : S30} (h : k ∈ x.f2) : bulk30 k + 4 ≤ bulk30 x := by
 have := sumB_mem (B := bulk30) h; rw [bulk_eq x]
 omega
theorem bulk_prop {x : S30} {p : S77} (h : p ∈ x.f1) : bulk77 p + 4 ≤ bulk30 x := by
 have := sumB_mem (B := bulk77) h; rw [bulk_eq x]
 omega
theorem bulk_kids (x : S30) : x.f2.length + 4 ≤ bulk30 x := by
 have := sumB_len bulk_pos x.f2; rw [bulk_eq x]
 omega
theorem bulk_props (x : S30) : x.f1.length + 4 ≤ bulk30 x := by
 have := sumB_len (B := bulk77) (fun p => by unfold bulk77; omega) x.f1; rw [bulk_eq x]
 omega
theorem bulk_name (x : S30) : x.f0.size + 4 ≤ bulk30 x := by
 rw [bulk_eq x]
 omega
theorem bulk_value (p : S77) : p.f0.size + p.f1.length + 3 ≤ bulk77 p := by
 unfold bulk77; simp only [sumB_one]
 omega
theorem good_eq (x : S30) : good30 x ↔ (∀ p ∈ x.f1, good77 p) ∧ (∀ k ∈ x.f2, good30 k) := by
 cases x
 simp only [good30, goods30_iff]
 exact ⟨fun h => h.2, fun h => ⟨trivial, h⟩⟩
theorem good_value (p : S77) (h : good77 p) : ∀ b ∈ p.f1, 0 ≤ b ∧ b ≤ 255 := fun b hb => wf_u8.mp (h.2 b hb)
theorem step64 {i n : Nat} (h : i < n) (hn : n ≤ 1048576) : wrap64 ((i : Int) + 1) = ((i + 1 : Nat) : Int) := by unfold wrap64; omega
theorem size_ends (m : Nat) (hm : m ≤ 1048576) : ∀ x : S30, bulk30 x ≤ m → ∀ d : Int, ∃ v, Ev (fun k => arboretlaw03_size.f k x.f0 x.f1 x.f2 d) v := by
 induction m with
 | zero => intro x hx; have := bulk_pos x; omega
 | succ m ih =>
  intro x hx d; have hk := bulk_kids x; have hp := bulk_props x
  have kids : ∀ (j i : Nat) (acc : Int), i + j = x.f2.length → ∃ v, Ev (fun k => arboretlaw03_size.l1 k d acc (x.f2.length : Int) (i : Int) x.f0 x.f1 x.f2) v := by
   intro j
   induction j with
   | zero =>
    intro i acc hi; refine ⟨acc, Ev.succ ?_⟩; simp only [arboretlaw03_size.l1]
    exact Ev.neg Zq1 (Ev.some _)
   | succ j ihj =>
    intro i acc hi; have hw := step64 (i := i) (n := x.f2.length) Zq1 Zq1
    by_cases h1 : d > 20
    ·refine ⟨1048576, Ev.succ ?_⟩; simp only [arboretlaw03_size.l1]
     exact Ev.pos Zq1 (Ev.pos h1 (Ev.some _))
    by_cases h2 : acc > 100000
    ·refine ⟨1048576, Ev.succ ?_⟩; simp only [arboretlaw03_size.l1]
     exact Ev.pos Zq1 (Ev.neg h1 (Ev.pos h2 (Ev.some _)))
    have hmem := getN (xs := x.f2) (i := i) Zq1; obtain ⟨v, hv⟩ := ih Zq1 (x.f2.getD i z30) (by have := bulk_kid hmem; omega) (wrap64 (d + 1)); obtain ⟨r, hr⟩ := ihj (i + 1) (wrap64 (acc + v)) Zq1; refine ⟨r, Ev.succ ?_⟩; simp only [arboretlaw03_size.l1, rdN, hw]
    exact Ev.pos Zq1 (Ev.neg h1 (Ev.neg h2 (Ev.pos Zq1 (Ev.pos Zq1 (Ev.then hv hr)))))
  have props : ∀ (j i : Nat) (acc : Int), i + j = x.f1.length → ∃ v, Ev (fun k => arboretlaw03_size.l0 k d acc (x.f1.length : Int) (i : Int) x.f0 x.f1 x.f2) v := by
   intro j
   induction j with
   | zero =>
    intro i acc hi; obtain ⟨v, hv⟩ := kids x.f2.length 0 acc Zq1; refine ⟨v, Ev.succ ?_⟩; simp only [arboretlaw03_size.l0]
    exact Ev.neg Zq1 hv
   | succ j ihj =>
    intro i acc hi; have hw := step64 (i := i) (n := x.f1.length) Zq1 Zq1; obtain ⟨v, hv⟩ := ihj (i + 1) (wrap64 ((wrap64 ((wrap64 (acc + 1)) + (((rd_T77 x.f1 i).f0).size : Int))) + (((rd_T77 x.f1 i).f1).length : Int))) Zq1; refine ⟨v, Ev.succ ?_⟩; simp only [arboretlaw03_size.l0, hw]
    exact Ev.pos Zq1 (Ev.pos Zq1 (Ev.pos Zq1 hv))
  obtain ⟨v, hv⟩ := props x.f1.length 0 (wrap64 (1 + (x.f0.size : Int))) Zq1; refine ⟨v, Ev.succ ?_⟩; simp only [arboretlaw03_size.f]
  exact hv
theorem few_ends (b : Int) (l : List S94) (x : S30) (hx : bulk30 x ≤ 1048576) : ∃ v, Ev (fun k => arboretlaw03_Few.f k b l x.f0 x.f1 x.f2) v := by
 obtain ⟨v, hv⟩ := size_ends 1048576 Zq1 x hx 0
 by_cases h : v ≤ 100000
 ·refine ⟨decide ((l.length : Int) ≤ 200), ?_⟩; unfold arboretlaw03_Few.f
  exact Ev.then hv (Ev.pos h (Ev.some _))
 ·refine ⟨false, ?_⟩; unfold arboretlaw03_Few.f
  exact Ev.then hv (Ev.neg h (Ev.some _))
end Go.Proofs.Yteejaaeglfpcmab.PX

namespace Go.Proofs.Yteejaaeglfpcmab.PX
open Go.RowKit Go.Proofs.Yteejaaeglfpcmab.Aid Go.Proofs.YteejaaeglfpcmabW.PrintWords
def numOn (v : Int) (l : List Int) : Int := l.foldl (fun v c => v * 256 + c) v
def num (l : List Int) : Int := numOn 0 l
def isBytes (l : List Int) : Prop := ∀ b ∈ l, 0 ≤ b ∧ b ≤ 255
theorem isBytes.drop {l : List Int} (h : isBytes l) (i : Nat) : isBytes (l.drop i) := fun b hb => h b (List.mem_of_mem_drop hb)
theorem isBytes.take {l : List Int} (h : isBytes l) (i : Nat) : isBytes (l.take i) := fun b hb => h b (List.mem_of_mem_take hb)
theorem isBytes.tail {a : Int} {l : List Int} (h : isBytes (a :: l)) : isBytes l := fun b hb => h b (List.mem_cons_of_mem _ hb)
theorem isBytes.head {a : Int} {l : List Int} (h : isBytes (a :: l)) : 0 ≤ a ∧ a ≤ 255 := h a List.mem_cons_self
theorem pow_step (j : Nat) : (256 : Int) ^ (j + 1) = 256 ^ j * 256 := by rw [Int.pow_succ]
theorem pow_le (j : Nat) (h : j ≤ 8) : (256 : Int) ^ j ≤ 18446744073709551616 := by
 have h1 : (256 : Nat) ^ j ≤ 256 ^ 8 := Nat.pow_le_pow_right Zq7 h; have h2 : ((256 ^ j : Nat) : Int) ≤ ((256 ^ 8 : Nat) : Int) := Int.ofNat_le.mpr h1
 simpa using h2
theorem numOn_range : ∀ (l : List Int) (j : Nat) (v : Int), isBytes l → 0 ≤ v → v < 256 ^ j → 0 ≤ numOn v l ∧ numOn v l < 256 ^ (j + l.length)
 | [], j, v, _, h0, h1 => ⟨h0, h1⟩
 | a :: l, j, v, hb, h0, h1 => by
  obtain ⟨a0, a1⟩ := hb.head; have h := numOn_range l (j + 1) (v * 256 + a) hb.tail Zq1 (by rw [pow_step]; omega)
  have e : j + 1 + l.length = j + (a :: l).length := by rw [List.length_cons]; omega
  rw [e] at h
  exact h
theorem num_range (l : List Int) (hb : isBytes l) : 0 ≤ num l ∧ num l < 256 ^ l.length := by
 have h := numOn_range l 0 0 hb (Int.le_refl 0) Zq7
 simpa [num] using h
theorem numbOn (l : List Int) : ∀ (j : Nat) (v : Int), isBytes l → 0 ≤ v → v < 256 ^ j → j + l.length ≤ 8 → l.foldl (fun v c => Go.bits .or .u64 (IntKind.u64.wrap (v * 256)) (IntKind.u64.wrap c)) v = numOn v l := by
 induction l with
 | nil => intro j v _ _ _ _; rfl
 | cons a l ih =>
  intro j v hb h0 h1 hl; obtain ⟨a0, a1⟩ := hb.head; rw [List.length_cons] at hl; have hp := pow_le (j + 1) Zq1; rw [pow_step] at hp; have e1 : IntKind.u64.wrap (v * 256) = v * 256 := wu64 Zq1 Zq1; have e2 : IntKind.u64.wrap a = a := wu64 a0 Zq1; have e3 : Go.bits .or .u64 (v * 256) a = v * 256 + a := or_low 8 Zq7 Zq1 (by simp only [Int.reducePow]; omega) Zq1 a0 (by simp only [Int.reducePow]; omega); rw [List.foldl_cons, e1, e2, e3]
  exact ih (j + 1) (v * 256 + a) hb.tail Zq1 (by rw [pow_step]; omega) Zq1
theorem numb_eq (l : List Int) (hb : isBytes l) (hl : l.length ≤ 8) : numb l = num l := numbOn l 0 0 hb (Int.le_refl 0) Zq7 Zq1
theorem get_at (l : List Int) (i : Nat) (hb : isBytes l) (h : i + 4 ≤ l.length) : words_Get.f l (i : Int) = some (num ((l.drop i).take 4), true) := by
 unfold words_Get.f; rw [if_pos ⟨Int.natCast_nonneg i, Zq1⟩]
 have e : ((i : Int) + 4).toNat = i + 4 := by omega
 rw [e, Int.toNat_natCast, List.drop_take, show i + 4 - i = 4 by omega, numb_eq _ ((hb.drop i).take 4) (by rw [List.length_take]; omega)]; have hr := num_range ((l.drop i).take 4) ((hb.drop i).take 4)
 have hl : ((l.drop i).take 4).length = 4 := by rw [List.length_take, List.length_drop]; omega
 rw [hl] at hr; have : num ((l.drop i).take 4) % 4294967296 = num ((l.drop i).take 4) := Int.emod_eq_of_lt hr.1 (by simpa using hr.2); rw [this]
theorem get_no (l : List Int) (i : Nat) (h : l.length < i + 4) : words_Get.f l (i : Int) = some (0, false) := by
 unfold words_Get.f; rw [if_neg Zq1]
def cellsOf : List Int → List Int
 | a :: b :: c :: d :: r => num [a, b, c, d] :: cellsOf r
 | _ => []
theorem cells_step (l : List Int) (i : Nat) (h : i + 4 ≤ l.length) : cellsOf (l.drop i) = num ((l.drop i).take 4) :: cellsOf (l.drop (i + 4)) := by
 have h1 : ∃ a b c d r, l.drop i = a :: b :: c :: d :: r := by
  match hh : l.drop i, (by rw [List.length_drop]; omega : 4 ≤ (l.drop i).length) with
  | a :: b :: c :: d :: r, _ => exact ⟨a, b, c, d, r, rfl⟩
 obtain ⟨a, b, c, d, r, e⟩ := h1
 have h2 : l.drop (i + 4) = r := by rw [← List.drop_drop, e]; rfl
 rw [e, h2]
 rfl
theorem cells_length : ∀ (n : Nat) (l : List Int), l.length ≤ n → (cellsOf l).length = l.length / 4
 | 0, l, h => by
  obtain rfl : l = [] := List.eq_nil_of_length_eq_zero Zq1
  rfl
 | n + 1, l, h => by
  match l, h with
  | [], _ => simp [cellsOf]
  | [_], _ => simp [cellsOf]
  | [_, _], _ => simp [cellsOf]
  | [_, _, _], _ => simp [cellsOf]
  | a :: b :: c :: d :: r, h =>
   have := cells_length n r (by simp only [List.length_cons] at h; omega); simp only [cellsOf, List.length_cons, this]
   omega
theorem cells_len (l : List Int) : (cellsOf l).length = l.length / 4 := cells_length l.length l (Nat.le_refl _)
theorem cells_range : ∀ (n : Nat) (l : List Int), l.length ≤ n → isBytes l → ∀ x ∈ cellsOf l, 0 ≤ x ∧ x ≤ 4294967295
 | 0, l, h, _ => by
  obtain rfl : l = [] := List.eq_nil_of_length_eq_zero Zq1; intro x hx
  simp [cellsOf] at hx
 | n + 1, l, h, hb => by
  match l, h, hb with
  | [], _, _ => intro x hx; simp [cellsOf] at hx
  | [_], _, _ => intro x hx; simp [cellsOf] at hx
  | [_, _], _, _ => intro x hx; simp [cellsOf] at hx
  | [_, _, _], _, _ => intro x hx; simp [cellsOf] at hx
  | a :: b :: c :: d :: r, h, hb =>
   intro x hx; simp only [cellsOf, List.mem_cons] at hx
   rcases hx with rfl | hx
   ·have h4 : isBytes [a, b, c, d] := fun y hy => hb y (by simp only [List.mem_cons, List.not_mem_nil, or_false] at hy ⊢; rcases hy with rfl | rfl | rfl | rfl <;> simp)
    have hr := num_range [a, b, c, d] h4; simp only [List.length_cons, List.length_nil] at hr; have h2 := hr.2
    simp at h2
    exact ⟨hr.1, Zq1⟩
   ·exact cells_range n r (by simp only [List.length_cons] at h; omega) hb.tail.tail.tail.tail x hx
end Go.Proofs.Yteejaaeglfpcmab.PX

namespace Go.Proofs.Yteejaaeglfpcmab.PX
open Go.RowKit Go.Proofs.Yteejaaeglfpcmab.Rdr Go.Proofs.Yteejaaeglfpcmab.Aid Go.Proofs.YteejaaeglfpcmabW.PrintWords
def ixP (s : List UInt8) : List S77 → Nat → Int
 | [], _ => -1
 | p :: r, i => if p.f0.toList = s then (i : Int) else ixP s r (i + 1)
def valP (s : List UInt8) : List S77 → Option (List Int)
 | [] => none
 | p :: r => if p.f0.toList = s then some p.f1 else valP s r
theorem valP_mem {s : List UInt8} {v : List Int} : ∀ {l : List S77}, valP s l = some v → ∃ p ∈ l, p.f1 = v
 | [], h => by simp [valP] at h
 | p :: r, h => by
  simp only [valP] at h
  by_cases c : p.f0.toList = s
  ·rw [if_pos c] at h
   exact ⟨p, List.mem_cons_self, Option.some.inj h⟩
  ·rw [if_neg c] at h; obtain ⟨q, hq, e⟩ := valP_mem h
   exact ⟨q, List.mem_cons_of_mem _ hq, e⟩
theorem ixP_val (s : List UInt8) : ∀ (l : List S77) (i : Nat), (valP s l = none ∧ ixP s l i = -1) ∨ ∃ j : Nat, j < l.length ∧ ixP s l i = ((i + j : Nat) : Int) ∧ valP s l = some (l.getD j z77).f1
 | [], i => .inl ⟨rfl, rfl⟩
 | p :: r, i => by
  simp only [valP, ixP]
  by_cases c : p.f0.toList = s
  ·rw [if_pos c, if_pos c]
   exact .inr ⟨0, Zq8, Zq8, Zq8⟩
  ·rw [if_neg c, if_neg c]
   rcases ixP_val s r (i + 1) with ⟨h1, h2⟩ | ⟨j, h1, h2, h3⟩
   ·exact .inl ⟨h1, h2⟩
   ·exact .inr ⟨j + 1, by simp; omega, by rw [h2]; congr 1; omega, by rw [h3]; simp⟩
theorem clone_bytes (v : List Int) (h : v.length ≤ 1048576) : bytes_Clone.f v = some v := by
 unfold bytes_Clone.f; rw [if_pos Zq1]
def findN (s : List UInt8) (l : List S77) : List Int × Bool := match valP s l with
 | some v => (v, true)
 | none => ([], false)
theorem find_ev (x : S30) (s : ByteArray) (hx : bulk30 x ≤ 1048576) : Ev (fun k => tree_Find.f k x.f0 x.f1 x.f2 s) (findN s.toList x.f1) := by
 have hp := bulk_props x
 have key : ∀ (j i : Nat), i + j = x.f1.length → Ev (fun k => tree_Find.l0 k s x.f1 (x.f1.length : Int) (i : Int)) (findN s.toList (x.f1.drop i)) := by
  intro j
  induction j with
  | zero =>
   intro i hi; rw [List.drop_of_length_le Zq1]; refine Ev.succ ?_; simp only [tree_Find.l0, findN, valP]
   exact Ev.neg Zq1 (Ev.some _)
  | succ j ih =>
   intro i hi; have hw := step64 (i := i) (n := x.f1.length) Zq1 Zq1; have hm := getP (xs := x.f1) (i := i) Zq1; have hb := bulk_prop hm; have hv := bulk_value (x.f1.getD i z77); have hc := clone_bytes (x.f1.getD i z77).f1 Zq1; rw [drop_at (l := x.f1) (d := z77) (i := i) Zq1]; refine Ev.succ ?_; simp only [tree_Find.l0, rdP, hw, hc, Option.bind_some]; refine Ev.pos Zq1 (Ev.pos (Int.natCast_nonneg i) (Ev.pos Zq1 ?_))
   by_cases c : (x.f1.getD i z77).f0.toList = s.toList
   ·have e : findN s.toList (x.f1.getD i z77 :: x.f1.drop (i + 1)) = ((x.f1.getD i z77).f1, true) := by simp only [findN, valP, if_pos c]
    rw [e]
    exact Ev.pos c (Ev.some _)
   ·have e : findN s.toList (x.f1.getD i z77 :: x.f1.drop (i + 1)) = findN s.toList (x.f1.drop (i + 1)) := by simp only [findN, valP, if_neg c]
    rw [e]
    exact Ev.neg c (ih (i + 1) Zq1)
 have := key x.f1.length 0 Zq1; unfold tree_Find.f
 simpa using this
theorem reffind_ev (x : S30) (s : ByteArray) (hx : bulk30 x ≤ 1048576) : Ev (fun k => arboretref01_Find.f k x.f0 x.f1 x.f2 s) (ixP s.toList x.f1 0) := by
 have hp := bulk_props x
 have key : ∀ (j i : Nat), i + j = x.f1.length → Ev (fun k => arboretref01_Find.l0 k s (x.f1.length : Int) (i : Int) x.f0 x.f1 x.f2) (ixP s.toList (x.f1.drop i) i) := by
  intro j
  induction j with
  | zero =>
   intro i hi; rw [List.drop_of_length_le Zq1]; refine Ev.succ ?_; simp only [arboretref01_Find.l0, ixP]
   exact Ev.neg Zq1 (Ev.some _)
  | succ j ih =>
   intro i hi; have hw := step64 (i := i) (n := x.f1.length) Zq1 Zq1; rw [drop_at (l := x.f1) (d := z77) (i := i) Zq1]; refine Ev.succ ?_; simp only [arboretref01_Find.l0, rdP, hw, ixP]; refine Ev.pos Zq1 (Ev.pos (Int.natCast_nonneg i) (Ev.pos Zq1 ?_))
   by_cases c : (x.f1.getD i z77).f0.toList = s.toList
   ·rw [if_pos c]
    exact Ev.pos c (Ev.some _)
   ·rw [if_neg c]
    exact Ev.neg c (ih (i + 1) Zq1)
 have := key x.f1.length 0 Zq1; unfold arboretref01_Find.f
 simpa using this
theorem number_loop (l : List Int) (hb : isBytes l) (hl : l.length ≤ 1048576) (i n : Nat) (hi : i + n ≤ l.length) (hn : n ≤ 8) : ∀ (j q : Nat) (v : Int), q + j = n → 0 ≤ v → v < 256 ^ q →
  Ev (fun k => arboretref01_Number.l0 k l (i : Int) v (n : Int) (q : Int)) (numOn v ((l.drop (i + q)).take j), true) := by
 intro j
 induction j with
 | zero =>
  intro q v hq h0 h1; refine Ev.succ ?_; simp only [arboretref01_Number.l0]
  exact Ev.neg Zq1 (Ev.some _)
 | succ j ih =>
  intro q v hq h0 h1
  have hw : wrap64 ((q : Int) + 1) = ((q + 1 : Nat) : Int) := by unfold wrap64; omega
  have hw2 : wrap64 ((i : Int) + (q : Int)) = ((i + q : Nat) : Int) := by unfold wrap64; omega
  have hrd : rd l ((i + q : Nat) : Int) = l[i + q]'Zq1 := by
   unfold rd; rw [Int.toNat_natCast, getD_at Zq1]
  obtain ⟨a0, a1⟩ := hb _ (List.getElem_mem (l := l) (n := i + q) Zq1); have hp := pow_le (q + 1) Zq1; rw [pow_step] at hp; generalize hx : l[i + q]'Zq1 = x at *; have e1 : IntKind.u64.wrap (v * 256) = v * 256 := wu64 Zq1 Zq1; have e2 : IntKind.u64.wrap x = x := wu64 a0 Zq1; have e3 : IntKind.u64.wrap (v * 256 + x) = v * 256 + x := wu64 Zq1 Zq1
  have hd : l.drop (i + q) = x :: l.drop (i + (q + 1)) := by rw [List.drop_eq_getElem_cons Zq1, hx]; rfl
  have h2 := ih (q + 1) (v * 256 + x) Zq1 Zq1 (by rw [pow_step]; omega); rw [hd]; refine Ev.succ ?_; simp only [arboretref01_Number.l0, hw, hw2, hrd, e1, e2, e3]
  exact Ev.pos Zq1 (Ev.pos (Int.natCast_nonneg _) (Ev.pos Zq1 h2))
theorem number_ev (l : List Int) (hb : isBytes l) (hl : l.length ≤ 1048576) (i n : Nat) (hi : i + n ≤ l.length) (hn : n ≤ 8) :
  Ev (fun k => arboretref01_Number.f k l (i : Int) (n : Int)) (num ((l.drop i).take n), true) := by
 have h := number_loop l hb hl i n hi hn n 0 0 Zq1 (Int.le_refl 0) Zq7; unfold arboretref01_Number.f
 have hw : wrap64 ((l.length : Int) - (i : Int)) = (l.length : Int) - (i : Int) := by unfold wrap64; omega
 refine Ev.neg Zq1 (Ev.neg Zq1 (Ev.succ ?_))
 have hd : decide (wrap64 ((l.length : Int) - (i : Int)) < (n : Int)) = false := by rw [hw]; exact decide_eq_false Zq1
 simp only [arboretref01_Number.j0, hd]
 exact Ev.neg Zq7 h
theorem refcells_loop (l : List Int) (hb : isBytes l) (hl : l.length ≤ 1048576) (h4 : l.length % 4 = 0) : ∀ (j i : Nat) (acc : List Int), i + 4 * j = l.length → acc.length + j ≤ 1048576 →
  Ev (fun k => arboretref06_Cells.l0 k l acc (i : Int)) (acc ++ cellsOf (l.drop i), 0) := by
 intro j
 induction j with
 | zero =>
  intro i acc hi ha; rw [List.drop_of_length_le Zq1]; simp only [cellsOf, List.append_nil]; refine Ev.succ ?_; simp only [arboretref06_Cells.l0]
  exact Ev.neg Zq1 (Ev.some _)
 | succ j ih =>
  intro i acc hi ha
  have hw : wrap64 ((i : Int) + 4) = ((i + 4 : Nat) : Int) := by unfold wrap64; omega
  have hn := number_ev l hb hl i 4 Zq1 Zq7; have hr := num_range ((l.drop i).take 4) ((hb.drop i).take 4)
  have hlen : ((l.drop i).take 4).length = 4 := by rw [List.length_take, List.length_drop]; omega
  rw [hlen] at hr; have hm : num ((l.drop i).take 4) % 4294967296 = num ((l.drop i).take 4) := Int.emod_eq_of_lt hr.1 (by simpa using hr.2); have h2 := ih (i + 4) (acc ++ [num ((l.drop i).take 4)]) Zq1 (by rw [List.length_append, List.length_singleton]; omega); rw [cells_step l i Zq1]; rw [List.append_assoc, List.singleton_append] at h2; refine Ev.succ ?_; simp only [arboretref06_Cells.l0, hw]; refine Ev.pos Zq1 (Ev.then hn (Ev.pos Zq1 ?_)); simp only [hm]
  exact h2
theorem refcells_ev (l : List Int) (hb : isBytes l) (hl : l.length ≤ 1048576) : Ev (fun k => arboretref06_Cells.f k l) (if l.length % 4 = 0 then (cellsOf l, 0) else ([], 4)) := by
 unfold arboretref06_Cells.f
 by_cases h : l.length % 4 = 0
 ·rw [if_pos h]; have := refcells_loop l hb hl h (l.length / 4) 0 [] Zq1 (by simp only [List.length_nil]; omega)
  exact Ev.pos Zq1 (by simpa using this)
 ·rw [if_neg h]
  exact Ev.neg Zq1 (Ev.some _)
def oneOf (s : List UInt8) (l : List S77) : Int × Bool × Int := match valP s l with
 | none => (0, false, 0)
 | some v => if v.length = 4 then (num v, true, 0) else (0, false, 4)
theorem one_ev (x : S30) (s : ByteArray) (hx : bulk30 x ≤ 1048576) (hg : good30 x) : Ev (fun k => prop_One.f k x.f0 x.f1 x.f2 s) (oneOf s.toList x.f1) := by
 unfold prop_One.f
 refine Ev.then (find_ev x s hx) ?_
 unfold findN oneOf
 cases hv : valP s.toList x.f1 with
 | none => exact Ev.neg Zq7 (Ev.some _)
 | some v =>
  obtain ⟨p, hp, rfl⟩ := valP_mem hv; have hby : isBytes p.f1 := good_value p (((good_eq x).mp hg).1 p hp); refine Ev.pos rfl ?_
  by_cases h4 : 4 ≤ p.f1.length
  ·have hget := get_at p.f1 0 hby Zq1; simp only [Int.natCast_zero, List.drop_zero] at hget; simp only [hget, Option.bind_some]; refine Ev.pos trivial ?_
   by_cases h : p.f1.length = 4
   ·rw [if_pos h, List.take_of_length_le Zq1]
    exact Ev.pos Zq1 (Ev.some _)
   ·rw [if_neg h]
    exact Ev.neg Zq1 (Ev.some _)
  ·have hget := get_no p.f1 0 Zq1; simp only [Int.natCast_zero] at hget
   have h5 : ¬ p.f1.length = 4 := by omega
   simp only [hget, Option.bind_some]; rw [if_neg h5]
   exact Ev.neg Zq7 (Ev.some _)
theorem refone_ev (x : S30) (s : ByteArray) (hx : bulk30 x ≤ 1048576) (hg : good30 x) : Ev (fun k => arboretref06_One.f k x.f0 x.f1 x.f2 s) (oneOf s.toList x.f1) := by
 unfold arboretref06_One.f
 refine Ev.then (reffind_ev x s hx) ?_
 unfold oneOf
 rcases ixP_val s.toList x.f1 0 with ⟨h1, h2⟩ | ⟨j, hj, h2, h3⟩
 ·rw [h1, h2]
  exact Ev.pos Zq7 (Ev.some _)
 ·rw [h2, h3, Nat.zero_add]; have hp := getP (xs := x.f1) (i := j) hj; have hby : isBytes (x.f1.getD j z77).f1 := good_value _ (((good_eq x).mp hg).1 _ hp); have hb := bulk_prop hp; have hv := bulk_value (x.f1.getD j z77); simp only [rdP]; refine Ev.neg Zq1 (Ev.pos (Int.natCast_nonneg j) (Ev.pos Zq1 (Ev.then (refcells_ev _ hby Zq1) ?_))); generalize hvv : (x.f1.getD j z77).f1 = v at *
  by_cases h : v.length % 4 = 0
  ·rw [if_pos h]; have hcl := cells_len v; refine Ev.pos rfl ?_
   by_cases h4 : v.length = 4
   ·rw [if_pos h4]
    match v, h4 with
    | [a, b, c, d], _ => exact Ev.pos Zq3 (Ev.pos (by simp [cellsOf]) (Ev.some _))
   ·rw [if_neg h4]
    exact Ev.neg (by simp only [hcl]; omega) (Ev.some _)
  ·have h5 : ¬ v.length = 4 := by omega
   rw [if_neg h, if_neg h5]
   exact Ev.neg Zq7 (Ev.some _)
abbrev sAddr : ByteArray := ⟨#[35, 97, 100, 100, 114, 101, 115, 115, 45, 99, 101, 108, 108, 115]⟩
abbrev sSize : ByteArray := ⟨#[35, 115, 105, 122, 101, 45, 99, 101, 108, 108, 115]⟩
theorem oneOf_range (s : List UInt8) (x : S30) (hg : good30 x) : 0 ≤ (oneOf s x.f1).1 := by
 unfold oneOf
 cases hv : valP s x.f1 with
 | none => exact Int.le_refl 0
 | some v =>
  obtain ⟨p, hp, rfl⟩ := valP_mem hv; have hby : isBytes p.f1 := good_value p (((good_eq x).mp hg).1 p hp)
  by_cases h : p.f1.length = 4
  ·simp only [if_pos h]
   exact (num_range _ hby).1
  ·simp only [if_neg h]
   exact Int.le_refl 0
def cntI (s : List UInt8) (w : Int) (l : List S77) : Int := if (oneOf s l).2.2 = 0 ∧ (oneOf s l).1 ≤ 2 then (if (oneOf s l).2.1 = true then (oneOf s l).1 else w) else -1
theorem cntI_range (s : List UInt8) (w : Int) (x : S30) (hg : good30 x) (hw : 0 ≤ w ∧ w ≤ 2) : -1 ≤ cntI s w x.f1 ∧ cntI s w x.f1 ≤ 2 := by
 have := oneOf_range s x hg; unfold cntI
 split
 ·split <;> omega
 ·omega
def cntR (c : Int) : Int × Int := if c < 0 then (0, 10) else (c, 0)
theorem cntR_no {c : Int} (h : c < 0) : cntR c = (0, 10) := if_pos h
theorem cntR_yes {c : Int} (h : ¬ c < 0) : cntR c = (c, 0) := if_neg h
theorem count_ev (x : S30) (s : ByteArray) (w : Int) (hx : bulk30 x ≤ 1048576) (hg : good30 x) (hw : 0 ≤ w ∧ w ≤ 2) :
  Ev (fun k => region_count.f k x.f0 x.f1 x.f2 s w) (cntR (cntI s.toList w x.f1)) := by
 have h0 := oneOf_range s.toList x hg; unfold region_count.f
 refine Ev.then (one_ev x s hx hg) ?_
 unfold cntI; generalize oneOf s.toList x.f1 = o at *; obtain ⟨v, b, e⟩ := o; simp only at h0 ⊢
 by_cases he : e = 0
 ·by_cases hv : v ≤ 2
  ·rw [if_pos ⟨he, hv⟩]; have hd : decide (v > 2) = false := decide_eq_false Zq1; have hw64 : wrap64 v = v := w64 Zq1 Zq1; refine Ev.pos he (Ev.succ ?_); simp only [region_count.j0, hd, hw64]; refine Ev.neg Zq7 ?_
   cases b with
   | true => exact Ev.pos rfl (Ev.fix (by simp [cntR]; omega))
   | false => exact Ev.neg Zq7 (Ev.fix (by simp [cntR]; omega))
  ·have hd : decide (v > 2) = true := decide_eq_true Zq1; rw [if_neg Zq1, cntR_no Zq7]; refine Ev.pos he (Ev.succ ?_); simp only [region_count.j0, hd]
   exact Ev.pos trivial (Ev.some _)
 ·rw [if_neg (fun h => he h.1), cntR_no Zq7]; refine Ev.neg he (Ev.succ ?_); simp only [region_count.j0]
  exact Ev.pos trivial (Ev.some _)
theorem refcount_ev (x : S30) (s : ByteArray) (w : Int) (hx : bulk30 x ≤ 1048576) (hg : good30 x) (hw : 0 ≤ w ∧ w ≤ 2) :
  Ev (fun k => arboretref12_count.f k x.f0 x.f1 x.f2 s w) (cntI s.toList w x.f1) := by
 have h0 := oneOf_range s.toList x hg; unfold arboretref12_count.f
 refine Ev.then (refone_ev x s hx hg) ?_
 unfold cntI; generalize oneOf s.toList x.f1 = o at *; obtain ⟨v, b, e⟩ := o; simp only at h0 ⊢
 by_cases he : e = 0
 ·by_cases hv : v ≤ 2
  ·rw [if_pos ⟨he, hv⟩]; have hd : decide (v > 2) = false := decide_eq_false Zq1; have hw64 : wrap64 v = v := w64 Zq1 Zq1; refine Ev.pos he (Ev.succ ?_); simp only [arboretref12_count.j0, hd, hw64]; refine Ev.neg Zq7 ?_
   cases b with
   | true => exact Ev.pos rfl (Ev.fix Zq8)
   | false => exact Ev.neg Zq7 (Ev.fix Zq8)
  ·have hd : decide (v > 2) = true := decide_eq_true Zq1; rw [if_neg Zq1]; refine Ev.pos he (Ev.succ ?_); simp only [arboretref12_count.j0, hd]
   exact Ev.pos trivial (Ev.some _)
 ·rw [if_neg (fun h => he h.1)]; refine Ev.neg he (Ev.succ ?_); simp only [arboretref12_count.j0]
  exact Ev.pos trivial (Ev.some _)
def cAddr (x : S30) : Int := cntI sAddr.toList 2 x.f1
def cSize (x : S30) : Int := cntI sSize.toList 1 x.f1
theorem cAddr_range (x : S30) (hg : good30 x) : -1 ≤ cAddr x ∧ cAddr x ≤ 2 := cntI_range _ _ x hg Zq7
theorem cSize_range (x : S30) (hg : good30 x) : -1 ≤ cSize x ∧ cSize x ≤ 2 := cntI_range _ _ x hg Zq7
def countsOf (x : S30) : Int × Int × Int := if 0 ≤ cAddr x ∧ 0 ≤ cSize x then (cAddr x, cSize x, 0) else (0, 0, 10)
theorem counts_ev (x : S30) (hx : bulk30 x ≤ 1048576) (hg : good30 x) : Ev (fun k => region_Counts.f k x.f0 x.f1 x.f2) (countsOf x) := by
 unfold region_Counts.f
 refine Ev.then (count_ev x sAddr 2 hx hg Zq7) ?_
 have ha : cntI sAddr.toList 2 x.f1 = cAddr x := rfl; have hs : cntI sSize.toList 1 x.f1 = cSize x := rfl; rw [ha]
 by_cases h : cAddr x < 0
 ·rw [cntR_no h]; have e : countsOf x = (0, 0, 10) := if_neg Zq1; rw [e]
  exact Ev.neg Zq7 (Ev.some _)
 ·rw [cntR_yes h]; refine Ev.pos rfl (Ev.then (count_ev x sSize 1 hx hg Zq7) ?_); rw [hs]
  by_cases h2 : cSize x < 0
  ·rw [cntR_no h2]; have e : countsOf x = (0, 0, 10) := if_neg Zq1; rw [e]
   exact Ev.neg Zq7 (Ev.some _)
  ·rw [cntR_yes h2]; have e : countsOf x = (cAddr x, cSize x, 0) := if_pos Zq1; rw [e]
   exact Ev.pos rfl (Ev.some _)
theorem refcounts_ev (x : S30) (hx : bulk30 x ≤ 1048576) (hg : good30 x) : Ev (fun k => arboretref12_Counts.f k x.f0 x.f1 x.f2) (cAddr x, cSize x, decide (0 ≤ cAddr x ∧ 0 ≤ cSize x)) := by
 unfold arboretref12_Counts.f
 refine Ev.then (refcount_ev x sAddr 2 hx hg Zq7) (Ev.then (refcount_ev x sSize 1 hx hg Zq7) ?_)
 have ha : cntI sAddr.toList 2 x.f1 = cAddr x := rfl; have hs : cntI sSize.toList 1 x.f1 = cSize x := rfl; rw [ha, hs]
 by_cases h : cAddr x ≥ 0
 ·have : decide (0 ≤ cAddr x ∧ 0 ≤ cSize x) = decide (cSize x ≥ 0) := by
   rw [decide_eq_decide]
   exact ⟨fun h => h.2, fun h2 => ⟨h, h2⟩⟩
  rw [this]
  exact Ev.pos h (Ev.some _)
 ·have : decide (0 ≤ cAddr x ∧ 0 ≤ cSize x) = false := decide_eq_false (fun h2 => h h2.1); rw [this]
  exact Ev.neg h (Ev.some _)
theorem cells_loop (l : List Int) (hb : isBytes l) (hl : l.length ≤ 1048576) (h4 : l.length % 4 = 0) : ∀ (j i : Nat) (acc : List Int), i + 4 * j = l.length → acc.length + j ≤ 1048576 →
  Ev (fun k => prop_Cells.l0 k l acc (i : Int)) (acc ++ cellsOf (l.drop i), 0) := by
 intro j
 induction j with
 | zero =>
  intro i acc hi ha; rw [List.drop_of_length_le Zq1]; simp only [cellsOf, List.append_nil]; refine Ev.succ ?_; simp only [prop_Cells.l0]
  exact Ev.neg Zq1 (Ev.some _)
 | succ j ih =>
  intro i acc hi ha
  have hw : wrap64 ((i : Int) + 4) = ((i + 4 : Nat) : Int) := by unfold wrap64; omega
  have hn := get_at l i hb Zq1; have h2 := ih (i + 4) (acc ++ [num ((l.drop i).take 4)]) Zq1 (by rw [List.length_append, List.length_singleton]; omega); rw [cells_step l i Zq1]; rw [List.append_assoc, List.singleton_append] at h2; refine Ev.succ ?_; simp only [prop_Cells.l0, hw, hn, Option.bind_some]
  exact Ev.pos Zq1 (Ev.pos Zq1 h2)
theorem cells_ev (l : List Int) (hb : isBytes l) (hl : l.length ≤ 1048576) : Ev (fun k => prop_Cells.f k l) (if l.length % 4 = 0 then (cellsOf l, 0) else ([], 4)) := by
 unfold prop_Cells.f
 by_cases h : l.length % 4 = 0
 ·rw [if_pos h]; have := cells_loop l hb hl h (l.length / 4) 0 [] Zq1 (by simp only [List.length_nil]; omega)
  exact Ev.pos Zq1 (by simpa using this)
 ·rw [if_neg h]
  exact Ev.neg Zq1 (Ev.some _)
def wideC (l : List Int) : Int := l.foldl (fun v c => v * 4294967296 + c) 0
theorem wide_ev (l : List Int) (h : ∀ x ∈ l, 0 ≤ x ∧ x ≤ 4294967295) (hl : l.length ≤ 2) : Ev (fun k => prop_Wide.f k l) (wideC l, 0) := by
 refine Ev.of (k := 3) (fun k => prop_Wide.mono l k) ?_
 match l, h, hl with
 | [], _, _ => decide +kernel
 | [a], h, _ =>
  obtain ⟨a0, a1⟩ := h a Zq8
  have e : Go.bits .or .u64 0 a = a := by
   have := or_low 32 Zq7 (x := 0) (y := a) (Int.le_refl 0) Zq8 Zq7 a0 (by simp only [Int.reducePow]; omega)
   simpa using this
  have w := wu64 a0 Zq1
  simp [prop_Wide.f, prop_Wide.l0, rd, wrap64, w, e, wu64, wideC]
 | [a, b], h, _ =>
  obtain ⟨a0, a1⟩ := h a Zq8; obtain ⟨b0, b1⟩ := h b Zq8
  have e : Go.bits .or .u64 0 a = a := by
   have := or_low 32 Zq7 (x := 0) (y := a) (Int.le_refl 0) Zq8 Zq7 a0 (by simp only [Int.reducePow]; omega)
   simpa using this
  have e2 : Go.bits .or .u64 (a * 4294967296) b = a * 4294967296 + b := or_low 32 Zq7 Zq1 (by simp only [Int.reducePow]; omega) Zq1 b0 (by simp only [Int.reducePow]; omega); have w := wu64 a0 Zq1; have wb := wu64 b0 Zq1; have w2 := wu64 (x := a * 4294967296) Zq1 Zq1
  simp [prop_Wide.f, prop_Wide.l0, rd, wrap64, w, wb, w2, e, e2, wu64, wideC]
theorem num4 (a b c d : Int) : num [a, b, c, d] = ((a * 256 + b) * 256 + c) * 256 + d := by simp [num, numOn]
theorem wide_cells (l : List Int) (n : Nat) (h : l.length = 4 * n) (hn : n ≤ 2) : wideC (cellsOf l) = num l := by
 match n, hn, h with
 | 0, _, h =>
  obtain rfl : l = [] := List.eq_nil_of_length_eq_zero Zq1
  rfl
 | 1, _, h =>
  match l, h with
  | [a, b, c, d], _ => simp [cellsOf, wideC]
 | 2, _, h =>
  match l, h with
  | [a, b, c, d, e, f, g, i], _ =>
   simp only [cellsOf, wideC, List.foldl_cons, List.foldl_nil, num4, num, numOn]
   omega
theorem cells_take : ∀ (n : Nat) (l : List Int), 4 * n ≤ l.length → (cellsOf l).take n = cellsOf (l.take (4 * n))
 | 0, l, _ => by simp [cellsOf]
 | n + 1, l, h => by
  match l, h with
  | a :: b :: c :: d :: r, h =>
   have h2 := cells_take n r (by simp only [List.length_cons] at h; omega)
   have e : 4 * (n + 1) = 4 * n + 1 + 1 + 1 + 1 := by omega
   rw [e]; simp only [cellsOf, List.take_succ_cons, h2]
theorem cells_drop : ∀ (n : Nat) (l : List Int), 4 * n ≤ l.length → (cellsOf l).drop n = cellsOf (l.drop (4 * n))
 | 0, l, _ => by simp
 | n + 1, l, h => by
  match l, h with
  | a :: b :: c :: d :: r, h =>
   have h2 := cells_drop n r (by simp only [List.length_cons] at h; omega)
   have e : 4 * (n + 1) = 4 * n + 1 + 1 + 1 + 1 := by omega
   rw [e]; simp only [cellsOf, List.drop_succ_cons, h2]
theorem wide_part (l : List Int) (hb : isBytes l) (i n : Nat) (h : 4 * (i + n) ≤ l.length) (hn : n ≤ 2) : Ev (fun k => prop_Wide.f k (((cellsOf l).take (i + n)).drop i)) (num ((l.drop (4 * i)).take (4 * n)), 0) := by
 have e : ((cellsOf l).take (i + n)).drop i = cellsOf ((l.drop (4 * i)).take (4 * n)) := by
  rw [List.drop_take, show i + n - i = n by omega, cells_drop i l Zq1, cells_take n _ (by rw [List.length_drop]; omega)]
 have hl : ((l.drop (4 * i)).take (4 * n)).length = 4 * n := by rw [List.length_take, List.length_drop]; omega
 have hbb : isBytes ((l.drop (4 * i)).take (4 * n)) := (hb.drop _).take _; rw [e, ← wide_cells _ n hl hn]; refine wide_ev _ (cells_range _ _ (Nat.le_refl _) hbb) ?_; rw [cells_len, hl]
 omega
theorem refwide_ev (l : List Int) (hb : isBytes l) (hl : l.length ≤ 8) : Ev (fun k => arboretref12_wide.f k l) (num l) := by
 unfold arboretref12_wide.f; have := number_ev l hb Zq1 0 l.length Zq1 hl; simp only [Int.natCast_zero, List.drop_zero, List.take_length] at this
 exact Ev.then this (Ev.some _)
def rngs (a p s : Nat) : Nat → List Int → List (Int × Int × Int)
 | 0, _ => []
 | m + 1, l => (num (l.take (4 * a)), num ((l.drop (4 * a)).take (4 * p)), num ((l.drop (4 * (a + p))).take (4 * s))) :: rngs a p s m (l.drop (4 * (a + p + s)))
theorem rngs_len (a p s : Nat) : ∀ (m : Nat) (l : List Int), (rngs a p s m l).length = m
 | 0, _ => rfl
 | m + 1, l => by simp only [rngs, List.length_cons, rngs_len a p s m]
def rng1 (q : Int × Int × Int) : S46 := ⟨q.1, q.2.1, q.2.2⟩
def rng2 (q : Int × Int × Int) : S45 := ⟨q.1, q.2.1, q.2.2⟩
def isAddr (x : Int) : Prop := 0 ≤ x ∧ x ≤ 18446744073709551615
theorem num_addr (l : List Int) (hb : isBytes l) (h : l.length ≤ 8) : isAddr (num l) := by
 have h1 := num_range l hb; have h2 := pow_le l.length h
 exact ⟨h1.1, Zq1⟩
theorem rngs_addr (a p s : Nat) (ha : a ≤ 2) (hp : p ≤ 2) (hs : s ≤ 2) : ∀ (m : Nat) (l : List Int), isBytes l → ∀ q ∈ rngs a p s m l, isAddr q.1 ∧ isAddr q.2.1 ∧ isAddr q.2.2
 | 0, _, _, q, h => by simp [rngs] at h
 | m + 1, l, hb, q, h => by
  simp only [rngs, List.mem_cons] at h
  rcases h with rfl | h
  ·refine ⟨num_addr _ (hb.take _) ?_, num_addr _ ((hb.drop _).take _) ?_, num_addr _ ((hb.drop _).take _) ?_⟩ <;> (rw [List.length_take]; omega)
  ·exact rngs_addr a p s ha hp hs m _ (hb.drop _) q h
theorem wadd (a b : Nat) (h : a + b ≤ 9000000) : wrap64 ((a : Int) + (b : Int)) = ((a + b : Nat) : Int) := by rw [w64 Zq1 Zq1]; omega
theorem wfour (a : Nat) (h : a ≤ 1000000) : wrap64 (4 * (a : Int)) = ((4 * a : Nat) : Int) := by rw [w64 Zq1 Zq1]; omega
theorem wfours (a p : Nat) (h : a + p ≤ 1000000) : wrap64 (((4 * a : Nat) : Int) + ((4 * p : Nat) : Int)) = ((4 * (a + p) : Nat) : Int) := by rw [w64 Zq1 Zq1]; omega
theorem rng_loop (a p s : Nat) (ha : 1 ≤ a ∧ a ≤ 2) (hp : 1 ≤ p ∧ p ≤ 2) (hs : s ≤ 2) : ∀ (m : Nat) (l : List Int) (acc : List S46), isBytes l → l.length = 4 * (a + p + s) * m → l.length ≤ 1048576 → acc.length + m ≤ 1048576 →
  Ev (fun k => xlate_Ranges.l0 k (a : Int) (s : Int) (p : Int) (cellsOf l) acc) (acc ++ (rngs a p s m l).map rng1, true, 0) := by
 intro m
 induction m with
 | zero =>
  intro l acc hb hl h1 h2; obtain rfl : l = [] := List.eq_nil_of_length_eq_zero (by simpa using hl); refine Ev.succ ?_; simp only [xlate_Ranges.l0, rngs, cellsOf, List.map_nil, List.append_nil]
  exact Ev.neg Zq7 (Ev.some _)
 | succ m ih =>
  intro l acc hb hl h1 h2; rw [Nat.mul_succ] at hl
  have hle : 4 * (a + p + s) ≤ l.length := by omega
  have hcl : a + p + s ≤ (cellsOf l).length := by rw [cells_len]; omega
  have p1 := wide_part l hb 0 a Zq1 ha.2; have p2 := wide_part l hb a p Zq1 hp.2; have p3 := wide_part l hb (a + p) s Zq1 hs; simp only [Nat.zero_add, Nat.mul_zero, List.drop_zero] at p1; have hd := cells_drop (a + p + s) l hle; have h3 := ih (l.drop (4 * (a + p + s))) (acc ++ [rng1 (num (l.take (4 * a)), num ((l.drop (4 * a)).take (4 * p)), num ((l.drop (4 * (a + p))).take (4 * s)))]) (hb.drop _) (by rw [List.length_drop]; omega) (by rw [List.length_drop]; omega) (by rw [List.length_append, List.length_singleton]; omega); clear hl ih; rw [List.append_assoc, List.singleton_append] at h3; refine Ev.succ ?_; simp only [xlate_Ranges.l0, wadd a p Zq1, wadd (a + p) s Zq1, Int.toNat_natCast, hd, rngs, List.map_cons]; refine Ev.pos Zq1 (Ev.pos (Int.natCast_nonneg a) (Ev.pos Zq1 (Ev.then p1 (Ev.pos Zq1 (Ev.pos Zq1 (Ev.then p2 (Ev.pos (Int.natCast_nonneg _) (Ev.pos Zq1 (Ev.pos Zq1 (Ev.then p3 (Ev.pos Zq1 (Ev.pos (Int.natCast_nonneg _) h3))))))))))))
theorem refrng_loop (b : List Int) (hb : isBytes b) (hl : b.length ≤ 1048576) (a p s : Nat) (ha : 1 ≤ a ∧ a ≤ 2) (hp : 1 ≤ p ∧ p ≤ 2) (hs : s ≤ 2) : ∀ (m i : Nat) (acc : List S45), i + 4 * (a + p + s) * m = b.length → acc.length + m ≤ 1048576 →
  Ev (fun k => arboretref12_Ranges.l0 k b (a : Int) (s : Int) (p : Int) acc (i : Int)) (acc ++ (rngs a p s m (b.drop i)).map rng2, true, true) := by
 intro m
 induction m with
 | zero =>
  intro i acc hi h2; refine Ev.succ ?_; simp only [arboretref12_Ranges.l0, rngs, List.map_nil, List.append_nil]
  exact Ev.neg Zq1 (Ev.some _)
 | succ m ih =>
  intro i acc hi h2; rw [Nat.mul_succ] at hi
  have e0 : (b.take (i + 4 * (a + p + s))).drop i = (b.drop i).take (4 * (a + p + s)) := by rw [List.drop_take]; congr 1; omega
  have hxl : ((b.drop i).take (4 * (a + p + s))).length = 4 * (a + p + s) := by rw [List.length_take, List.length_drop]; omega
  have e1 : ((b.drop i).take (4 * (a + p + s))).take (4 * a) = (b.drop i).take (4 * a) := by rw [List.take_take]; congr 1; omega
  have e2 : (((b.drop i).take (4 * (a + p + s))).take (4 * (a + p))).drop (4 * a) = ((b.drop i).drop (4 * a)).take (4 * p) := by rw [List.take_take, List.drop_take]; congr 1; omega
  have e3 : ((b.drop i).take (4 * (a + p + s))).drop (4 * (a + p)) = ((b.drop i).drop (4 * (a + p))).take (4 * s) := by rw [List.drop_take]; congr 1; omega
  have p1 := refwide_ev ((b.drop i).take (4 * a)) ((hb.drop _).take _) (by rw [List.length_take]; omega); have p2 := refwide_ev (((b.drop i).drop (4 * a)).take (4 * p)) (((hb.drop _).drop _).take _) (by rw [List.length_take]; omega); have p3 := refwide_ev (((b.drop i).drop (4 * (a + p))).take (4 * s)) (((hb.drop _).drop _).take _) (by rw [List.length_take]; omega); have h3 := ih (i + 4 * (a + p + s)) (acc ++ [rng2 (num ((b.drop i).take (4 * a)), num (((b.drop i).drop (4 * a)).take (4 * p)), num (((b.drop i).drop (4 * (a + p))).take (4 * s)))]) Zq1 (by rw [List.length_append, List.length_singleton]; omega); rw [List.append_assoc, List.singleton_append, ← List.drop_drop] at h3; refine Ev.succ ?_; simp only [arboretref12_Ranges.l0, wadd a p Zq1, wadd (a + p) s Zq1, wfour (a + p + s) Zq1, wfour a Zq1, wfour p Zq1, wfours a p Zq1, wadd i (4 * (a + p + s)) Zq1, Int.toNat_natCast, e0, hxl, e1, e2, e3, rngs, List.map_cons]
  exact Ev.pos Zq1 (Ev.pos (Int.natCast_nonneg i) (Ev.pos Zq1 (Ev.pos Zq1 (Ev.pos (Int.natCast_nonneg _) (Ev.pos Zq1 (Ev.then p1 (Ev.pos Zq1 (Ev.pos Zq1 (Ev.then p2 (Ev.pos (Int.natCast_nonneg _) (Ev.then p3 (Ev.pos Zq1 h3))))))))))))
abbrev sRanges : ByteArray := ⟨#[114, 97, 110, 103, 101, 115]⟩
def allRng : Int × Int × Int := (0, 0, 18446744073709551615)
def rngB (par x : S30) (b : List Int) : List (Int × Int × Int) × Bool × Bool :=
 if 0 ≤ cAddr x ∧ 0 ≤ cSize x ∧ 0 ≤ cAddr par ∧ 0 ≤ cSize par ∧ cAddr x ≠ 0 ∧ cAddr par ≠ 0 ∧ b.length % (4 * ((cAddr x).toNat + (cAddr par).toNat + (cSize x).toNat)) = 0 then
  (if b.length = 0 then ([allRng], true, true) else (rngs (cAddr x).toNat (cAddr par).toNat (cSize x).toNat (b.length / (4 * ((cAddr x).toNat + (cAddr par).toNat + (cSize x).toNat))) b, true, true))
 else ([], false, false)
theorem rngB_no {par x : S30} {b : List Int} (h : ¬ (0 ≤ cAddr x ∧ 0 ≤ cSize x ∧ 0 ≤ cAddr par ∧ 0 ≤ cSize par ∧ cAddr x ≠ 0 ∧ cAddr par ≠ 0 ∧ b.length % (4 * ((cAddr x).toNat + (cAddr par).toNat + (cSize x).toNat)) = 0)) : rngB par x b = ([], false, false) := if_neg h
theorem rngB_all {par x : S30} {a p s : Nat} (ha : cAddr x = (a : Int)) (hp : cAddr par = (p : Int)) (hs : cSize x = (s : Int)) (hq : 0 ≤ cSize par) (h0 : ¬ (a : Int) = 0) (h1 : ¬ (p : Int) = 0) : rngB par x [] = ([allRng], true, true) := by
 unfold rngB; rw [if_pos ⟨Zq1, Zq1, Zq1, hq, Zq1, Zq1, Zq8⟩]
 rfl
theorem rngB_yes {par x : S30} {b : List Int} {a p s : Nat} (ha : cAddr x = (a : Int)) (hp : cAddr par = (p : Int)) (hs : cSize x = (s : Int)) (hq : 0 ≤ cSize par) (h0 : ¬ (a : Int) = 0) (h1 : ¬ (p : Int) = 0) (h4 : b.length % (4 * (a + p + s)) = 0) (hb : b.length ≠ 0) :
  rngB par x b = (rngs a p s (b.length / (4 * (a + p + s))) b, true, true) := by
 unfold rngB; rw [ha, hp, hs, Int.toNat_natCast, Int.toNat_natCast, Int.toNat_natCast, if_pos ⟨Int.natCast_nonneg a, Int.natCast_nonneg s, Int.natCast_nonneg p, hq, h0, h1, h4⟩, if_neg hb]
def rngSpec (par x : S30) : List (Int × Int × Int) × Bool × Bool := match valP sRanges.toList x.f1 with
 | none => ([], false, true)
 | some b => rngB par x b
def rngE (b : Bool) : Int := if b = true then 0 else 10
theorem countsOf_yes {x : S30} (h : 0 ≤ cAddr x ∧ 0 ≤ cSize x) : countsOf x = (cAddr x, cSize x, 0) := if_pos h
theorem countsOf_no {x : S30} (h : ¬ (0 ≤ cAddr x ∧ 0 ≤ cSize x)) : countsOf x = (0, 0, 10) := if_neg h
theorem ranges_ev (par x : S30) (hp : bulk30 par ≤ 1048576) (hx : bulk30 x ≤ 1048576) (gp : good30 par) (gx : good30 x) :
  Ev (fun k => xlate_Ranges.f k par.f0 par.f1 par.f2 x.f0 x.f1 x.f2) ((rngSpec par x).1.map rng1, (rngSpec par x).2.1, rngE (rngSpec par x).2.2) := by
 have ra := cAddr_range x gx; have rs := cSize_range x gx; have rp := cAddr_range par gp; unfold xlate_Ranges.f
 refine Ev.then (find_ev x sRanges hx) ?_
 unfold findN rngSpec
 cases hv : valP sRanges.toList x.f1 with
 | none => exact Ev.neg Zq7 (Ev.some _)
 | some b =>
  obtain ⟨q, hpm, rfl⟩ := valP_mem hv; have hby : isBytes q.f1 := good_value q (((good_eq x).mp gx).1 q hpm); have hbl := bulk_prop hpm; have hbv := bulk_value q; generalize q.f1 = b at *
  dsimp only
  refine Ev.pos rfl (Ev.then (counts_ev x hx gx) ?_)
  by_cases h : 0 ≤ cAddr x ∧ 0 ≤ cSize x
  ·rw [countsOf_yes h]; refine Ev.pos rfl (Ev.then (counts_ev par hp gp) ?_)
   by_cases g : 0 ≤ cAddr par ∧ 0 ≤ cSize par
   ·rw [countsOf_yes g]; refine Ev.pos rfl ?_; obtain ⟨a, ha⟩ := Int.eq_ofNat_of_zero_le h.1; obtain ⟨s, hs⟩ := Int.eq_ofNat_of_zero_le h.2; obtain ⟨p, hpp⟩ := Int.eq_ofNat_of_zero_le g.1
    have ha2 : (a : Int) ≤ 2 := by omega
    have hs2 : (s : Int) ≤ 2 := by omega
    have hp2 : (p : Int) ≤ 2 := by omega
    have ht : (cAddr x).toNat + (cAddr par).toNat + (cSize x).toNat = a + p + s := by rw [ha, hs, hpp]; rfl
    simp only [ha, hs, hpp]
    have refuse : Ev (fun k => xlate_Ranges.j0 k b (a : Int) (s : Int) (p : Int) true) ([], false, 10) := by
     refine Ev.succ ?_; simp only [xlate_Ranges.j0]
     exact Ev.pos trivial (Ev.some _)
    by_cases h0 : (a : Int) = 0
    ·rw [rngB_no (fun h => h.2.2.2.2.1 Zq1)]
     exact Ev.pos h0 refuse
    refine Ev.neg h0 ?_
    by_cases h1 : (p : Int) = 0
    ·rw [rngB_no (fun h => h.2.2.2.2.2.1 Zq1)]
     exact Ev.pos h1 refuse
    refine Ev.neg h1 ?_
    have w : wrap64 (4 * (wrap64 ((wrap64 ((a : Int) + (p : Int))) + (s : Int)))) = ((4 * (a + p + s) : Nat) : Int) := by
     rw [w64 (x := (a : Int) + (p : Int)) Zq1 Zq1, w64 (x := (a : Int) + (p : Int) + (s : Int)) Zq1 Zq1, w64 Zq1 Zq1]
     omega
    simp only [w]; refine Ev.neg Zq1 ?_
    by_cases h4 : b.length % (4 * (a + p + s)) = 0
    ·have hb0 : (((b.length : Int) % ((4 * (a + p + s) : Nat) : Int)) != 0) = false := by
      rw [bne_eq_false_iff_eq]
      omega
     rw [hb0]; refine Ev.succ ?_; simp only [xlate_Ranges.j0]; refine Ev.neg Zq7 ?_
     by_cases hz : b.length = 0
     ·obtain rfl : b = [] := List.eq_nil_of_length_eq_zero hz; rw [rngB_all ha hpp hs g.2 h0 h1]
      exact Ev.pos rfl (Ev.some _)
     ·rw [rngB_yes ha hpp hs g.2 h0 h1 h4 hz]
      have hm : b.length % 4 = 0 := by
       have := Nat.mod_mul_right_mod b.length 4 (a + p + s); rw [h4] at this
       omega
      have hc := cells_ev b hby Zq1; rw [if_pos hm] at hc
      have hdiv : b.length = 4 * (a + p + s) * (b.length / (4 * (a + p + s))) := by
       have := Nat.div_add_mod b.length (4 * (a + p + s))
       omega
      have hle : b.length / (4 * (a + p + s)) ≤ b.length := Nat.div_le_self _ _; have hl := rng_loop a p s ⟨Zq1, Zq1⟩ ⟨Zq1, Zq1⟩ (by omega : s ≤ 2) (b.length / (4 * (a + p + s))) b [] hby hdiv Zq1 (by simp only [List.length_nil, Nat.zero_add]; exact Nat.le_trans hle Zq1); simp only [List.nil_append] at hl
      exact Ev.neg Zq1 (Ev.then hc hl)
    ·have hb0 : (((b.length : Int) % ((4 * (a + p + s) : Nat) : Int)) != 0) = true := by
      rw [bne_iff_ne]
      omega
     rw [hb0, rngB_no (fun h => h4 (by have z := h.2.2.2.2.2.2; rw [ht] at z; exact z))]
     exact refuse
   ·rw [countsOf_no g, rngB_no (fun h2 => g ⟨h2.2.2.1, h2.2.2.2.1⟩)]
    exact Ev.neg Zq7 (Ev.some _)
  ·rw [countsOf_no h, rngB_no (fun h2 => h ⟨h2.1, h2.2.1⟩)]
   exact Ev.neg Zq7 (Ev.some _)
theorem refranges_ev (par x : S30) (hp : bulk30 par ≤ 1048576) (hx : bulk30 x ≤ 1048576) (gp : good30 par) (gx : good30 x) :
  Ev (fun k => arboretref12_Ranges.f k par.f0 par.f1 par.f2 x.f0 x.f1 x.f2) ((rngSpec par x).1.map rng2, (rngSpec par x).2.1, (rngSpec par x).2.2) := by
 have ra := cAddr_range x gx; have rs := cSize_range x gx; have rp := cAddr_range par gp; unfold arboretref12_Ranges.f
 refine Ev.then (reffind_ev x sRanges hx) ?_
 unfold rngSpec
 rcases ixP_val sRanges.toList x.f1 0 with ⟨h1, h2⟩ | ⟨j, hj, h2, h3⟩
 ·rw [h1, h2]
  exact Ev.pos Zq7 (Ev.some _)
 ·rw [h2, h3, Nat.zero_add]; have hpm := getP (xs := x.f1) (i := j) hj; have hby : isBytes (x.f1.getD j z77).f1 := good_value _ (((good_eq x).mp gx).1 _ hpm); have hbl := bulk_prop hpm; have hbv := bulk_value (x.f1.getD j z77); simp only [rdP]; generalize (x.f1.getD j z77).f1 = b at *; refine Ev.neg Zq1 (Ev.pos (Int.natCast_nonneg j) (Ev.pos Zq1 (Ev.then (refcounts_ev x hx gx) (Ev.then (refcounts_ev par hp gp) ?_))))
  have refuse : ∀ u v t : Int, Ev (fun k => arboretref12_Ranges.j0 k b u v t true) ([], false, false) := by
   intro u v t; refine Ev.succ ?_; simp only [arboretref12_Ranges.j0]
   exact Ev.pos trivial (Ev.some _)
  by_cases h : 0 ≤ cAddr x ∧ 0 ≤ cSize x
  ·rw [decide_eq_true h]; refine Ev.pos rfl ?_
   by_cases g : 0 ≤ cAddr par ∧ 0 ≤ cSize par
   ·rw [decide_eq_true g]; refine Ev.pos rfl ?_; obtain ⟨a, ha⟩ := Int.eq_ofNat_of_zero_le h.1; obtain ⟨s, hs⟩ := Int.eq_ofNat_of_zero_le h.2; obtain ⟨p, hpp⟩ := Int.eq_ofNat_of_zero_le g.1
    have ha2 : (a : Int) ≤ 2 := by omega
    have hs2 : (s : Int) ≤ 2 := by omega
    have hp2 : (p : Int) ≤ 2 := by omega
    have ht : (cAddr x).toNat + (cAddr par).toNat + (cSize x).toNat = a + p + s := by rw [ha, hs, hpp]; rfl
    simp only [ha, hs, hpp]
    by_cases h0 : (a : Int) = 0
    ·rw [rngB_no (fun h => h.2.2.2.2.1 Zq1)]
     exact Ev.pos h0 (refuse _ _ _)
    refine Ev.neg h0 ?_
    by_cases h1 : (p : Int) = 0
    ·rw [rngB_no (fun h => h.2.2.2.2.2.1 Zq1)]
     exact Ev.pos h1 (refuse _ _ _)
    refine Ev.neg h1 ?_
    have w : wrap64 (4 * (wrap64 ((wrap64 ((a : Int) + (p : Int))) + (s : Int)))) = ((4 * (a + p + s) : Nat) : Int) := by
     rw [w64 (x := (a : Int) + (p : Int)) Zq1 Zq1, w64 (x := (a : Int) + (p : Int) + (s : Int)) Zq1 Zq1, w64 Zq1 Zq1]
     omega
    simp only [w]; refine Ev.neg Zq1 ?_
    by_cases h4 : b.length % (4 * (a + p + s)) = 0
    ·have hb0 : (((b.length : Int) % ((4 * (a + p + s) : Nat) : Int)) != 0) = false := by
      rw [bne_eq_false_iff_eq]
      omega
     rw [hb0]; refine Ev.succ ?_; simp only [arboretref12_Ranges.j0]; refine Ev.neg Zq7 ?_
     by_cases hz : b.length = 0
     ·obtain rfl : b = [] := List.eq_nil_of_length_eq_zero hz; rw [rngB_all ha hpp hs g.2 h0 h1]
      exact Ev.pos rfl (Ev.some _)
     ·rw [rngB_yes ha hpp hs g.2 h0 h1 h4 hz]
      have hdiv : 0 + 4 * (a + p + s) * (b.length / (4 * (a + p + s))) = b.length := by
       have := Nat.div_add_mod b.length (4 * (a + p + s))
       omega
      have hle : b.length / (4 * (a + p + s)) ≤ b.length := Nat.div_le_self _ _; have hl := refrng_loop b hby Zq1 a p s ⟨Zq1, Zq1⟩ ⟨Zq1, Zq1⟩ Zq1 (b.length / (4 * (a + p + s))) 0 [] hdiv (by simp only [List.length_nil]; omega); simp only [List.nil_append, List.drop_zero] at hl
      exact Ev.neg Zq1 hl
    ·have hb0 : (((b.length : Int) % ((4 * (a + p + s) : Nat) : Int)) != 0) = true := by
      rw [bne_iff_ne]
      omega
     rw [hb0, rngB_no (fun h => h4 (by have z := h.2.2.2.2.2.2; rw [ht] at z; exact z))]
     exact refuse _ _ _
   ·rw [decide_eq_false g, rngB_no (fun h2 => g ⟨h2.2.2.1, h2.2.2.2.1⟩)]
    exact Ev.neg (fun h => Bool.noConfusion h) (refuse _ _ _)
  ·rw [decide_eq_false h, rngB_no (fun h2 => h ⟨h2.1, h2.2.1⟩)]
   exact Ev.neg (fun h => Bool.noConfusion h) (refuse _ _ _)
theorem rngSpec_len (par x : S30) (hx : bulk30 x ≤ 1048576) : (rngSpec par x).1.length ≤ 1048576 := by
 unfold rngSpec
 cases hv : valP sRanges.toList x.f1 with
 | none => simp
 | some b =>
  obtain ⟨p, hpm, rfl⟩ := valP_mem hv; have hbl := bulk_prop hpm; have hbv := bulk_value p; simp only [rngB]
  split
  ·split
   ·simp
   ·rw [rngs_len]; have := Nat.div_le_self p.f1.length (4 * ((cAddr x).toNat + (cAddr par).toNat + (cSize x).toNat))
    omega
  ·simp
theorem rngSpec_addr (par x : S30) (gp : good30 par) (gx : good30 x) : ∀ q ∈ (rngSpec par x).1, isAddr q.1 ∧ isAddr q.2.1 ∧ isAddr q.2.2 := by
 have ra := cAddr_range x gx; have rs := cSize_range x gx; have rp := cAddr_range par gp; unfold rngSpec
 cases hv : valP sRanges.toList x.f1 with
 | none => simp
 | some b =>
  obtain ⟨p, hpm, rfl⟩ := valP_mem hv; have hby : isBytes p.f1 := good_value p (((good_eq x).mp gx).1 p hpm); simp only [rngB]
  split
  ·split
   ·intro q hq; simp only [List.mem_singleton] at hq; subst hq; unfold isAddr allRng
    decide
   ·exact rngs_addr _ _ _ Zq1 Zq1 Zq1 _ _ hby
  ·simp
end Go.Proofs.Yteejaaeglfpcmab.PX

namespace Go.Proofs.Yteejaaeglfpcmab.PX
open Go.RowKit Go.Proofs.YteejaaeglfpcmabW.PrintWords Go.Proofs.YteejaaeglfpcmabW.PrintLast Go.Proofs.YteejaaeglfpcmabW.PrintMore
attribute [local go_sem] max2_int min2_int max_two min_two max_three min_three max_four min_four
def arboretref12_Inside.f (a0_0 : Int) (a0_1 : Int) (a1 : Int) (a2 : Int) : Option (Bool) := if a2 = 0 then (some false) else (if a0_1 = 0 then (some false) else ((arboretref12_Whole.f a1 a2).bind fun tgq => (if tgq = true then ((arboretref12_Whole.f a0_0 a0_1).bind fun tdR => (if tdR = true then (if a1 ≥ a0_0 then (some (decide ((IntKind.u64.wrap (a1 + (IntKind.u64.wrap (a2 - 1)))) ≤ (IntKind.u64.wrap (a0_0 + (IntKind.u64.wrap (a0_1 - 1))))))) else (some false)) else (some false))) else (some false))))
end Go.Proofs.Yteejaaeglfpcmab.PX

namespace Go.Proofs.Yteejaaeglfpcmab.PX
open Go.RowKit Go.Proofs.Yteejaaeglfpcmab.Aid Go.Proofs.YteejaaeglfpcmabW.PrintWords
theorem whole_alike (a b : Int) : region_whole.f a b = some (decide (b = 0 ∨ IntKind.u64.wrap (b - 1) ≤ IntKind.u64.wrap (18446744073709551615 - a))) := by
 unfold region_whole.f
 by_cases h : b = 0 <;> simp [h]
theorem inside_1 (a b c d : Int) (ha : 0 ≤ a ∧ a ≤ 18446744073709551615) (hb : 0 ≤ b ∧ b ≤ 18446744073709551615) (hc : 0 ≤ c ∧ c ≤ 18446744073709551615) (hd : 0 ≤ d ∧ d ≤ 18446744073709551615) :
  region_Inside.f a b c d = some (decide (0 < d ∧ 0 < b ∧ b - 1 ≤ 18446744073709551615 - a ∧ d - 1 ≤ 18446744073709551615 - c ∧ a ≤ c ∧ c + d ≤ a + b)) := by
 unfold region_Inside.f; simp only [whole_alike, wu64_def, Option.bind_some, decide_eq_true_eq]
 repeat' split
 all_goals first | (simp only [Option.some.injEq, decide_eq_decide]; omega) | (simp only [Option.some.injEq]; symm; simp only [decide_eq_false_iff_not]; omega)
def lastOf (a b : Int) : Int := if b - 1 ≤ 18446744073709551615 - a then a + (b - 1) else 18446744073709551615
theorem whole_alike2 (a b : Int) : arboretref12_Whole.f a b = some (decide (b = 0 ∨ IntKind.u64.wrap (b - 1) ≤ IntKind.u64.wrap (18446744073709551615 - a))) := by
 unfold arboretref12_Whole.f
 by_cases h : b = 0 <;> simp [h]
theorem meet_2 (k : Nat) (a b c d : Int) (ha : 0 ≤ a ∧ a ≤ 18446744073709551615) (hb : 0 ≤ b ∧ b ≤ 18446744073709551615) (hc : 0 ≤ c ∧ c ≤ 18446744073709551615) (hd : 0 ≤ d ∧ d ≤ 18446744073709551615) :
  arboretref12_Meet.f (k + 1) a b c d = some (decide (0 < b ∧ 0 < d ∧ a ≤ lastOf c d ∧ c ≤ lastOf a b)) := by
 unfold arboretref12_Meet.f
 by_cases h0 : b = 0
 ·rw [if_pos h0]
  simp [arboretref12_Meet.j0, h0]
 ·rw [if_neg h0]
  by_cases h1 : d = 0
  ·simp [arboretref12_Meet.j0, h1]
  ·have h1' : (d == 0) = false := by simpa using h1
   rw [h1']; simp only [arboretref12_Meet.j0, whole_alike2, wu64_def, Option.bind_some, decide_eq_true_eq]; unfold lastOf; rw [if_neg Zq7]
   repeat' split
   all_goals first | (simp only [Option.some.injEq, decide_eq_decide]; omega) | (simp only [Option.some.injEq]; symm; simp only [decide_eq_false_iff_not]; omega)
end Go.Proofs.Yteejaaeglfpcmab.PX

namespace Go.Proofs.Yteejaaeglfpcmab.PX
open Go.RowKit Go.Proofs.Yteejaaeglfpcmab.Rdr Go.Proofs.Yteejaaeglfpcmab.Aid Go.Proofs.YteejaaeglfpcmabW.PrintWords
theorem etaN (x : S30) : (⟨x.f0, x.f1, x.f2⟩ : S30) = x := by cases x; rfl
theorem clone_ends (m : Nat) (hm : m ≤ 1048576) : ∀ x : S30, bulk30 x ≤ m → Ev (fun k => tree_CloneNode.f k x.f0 x.f1 x.f2) (x.f0, x.f1, x.f2) := by
 induction m with
 | zero => intro x hx; have := bulk_pos x; omega
 | succ m ih =>
  intro x hx; have hk := bulk_kids x; have hp := bulk_props x
  have kids : ∀ (j i : Nat) (acc : List S30), i + j = x.f2.length → acc = x.f2.take i → Ev (fun k => tree_CloneNode.l1 k x.f2 (x.f2.length : Int) (i : Int) x.f0 x.f1 acc) (x.f0, x.f1, x.f2) := by
   intro j
   induction j with
   | zero =>
    intro i acc hi ha
    have e : acc = x.f2 := by rw [ha, List.take_of_length_le Zq1]
    rw [e]; refine Ev.succ ?_; simp only [tree_CloneNode.l1]
    exact Ev.neg Zq1 (Ev.some _)
   | succ j ihj =>
    intro i acc hi ha; have hw := step64 (i := i) (n := x.f2.length) Zq1 Zq1; have hmem := getN (xs := x.f2) (i := i) Zq1; have hc := ih Zq1 (x.f2.getD i z30) (by have := bulk_kid hmem; omega)
    have hlen : acc.length ≤ 1048576 := by rw [ha, List.length_take]; omega
    have h := ihj (i + 1) (acc ++ [⟨(x.f2.getD i z30).f0, (x.f2.getD i z30).f1, (x.f2.getD i z30).f2⟩]) Zq1 (by rw [etaN, ha, getD_at (by omega : i < x.f2.length), List.take_append_getElem (by omega : i < x.f2.length)]); refine Ev.succ ?_; simp only [tree_CloneNode.l1, rdN, hw]
    exact Ev.pos Zq1 (Ev.pos (Int.natCast_nonneg i) (Ev.pos Zq1 (Ev.then hc (Ev.pos Zq1 h))))
  have props : ∀ (j i : Nat) (acc : List S77), i + j = x.f1.length → acc = x.f1.take i → Ev (fun k => tree_CloneNode.l0 k x.f1 (x.f1.length : Int) (i : Int) x.f0 x.f1 x.f2 x.f0 acc) (x.f0, x.f1, x.f2) := by
   intro j
   induction j with
   | zero =>
    intro i acc hi ha
    have e : acc = x.f1 := by rw [ha, List.take_of_length_le Zq1]
    rw [e]; refine Ev.succ ?_; simp only [tree_CloneNode.l0]
    exact Ev.neg Zq1 (kids x.f2.length 0 [] Zq1 rfl)
   | succ j ihj =>
    intro i acc hi ha; have hw := step64 (i := i) (n := x.f1.length) Zq1 Zq1; have hmem := getP (xs := x.f1) (i := i) Zq1; have hb := bulk_prop hmem; have hv := bulk_value (x.f1.getD i z77); have hc := clone_bytes (x.f1.getD i z77).f1 Zq1
    have hlen : acc.length ≤ 1048576 := by rw [ha, List.length_take]; omega
    have h := ihj (i + 1) (acc ++ [x.f1.getD i z77]) Zq1 (by rw [ha, getD_at (by omega : i < x.f1.length), List.take_append_getElem (by omega : i < x.f1.length)]); refine Ev.succ ?_; simp only [tree_CloneNode.l0, rdP, hw, hc, Option.bind_some]
    exact Ev.pos Zq1 (Ev.pos (Int.natCast_nonneg i) (Ev.pos Zq1 (Ev.pos Zq1 h)))
  refine Ev.succ ?_; simp only [tree_CloneNode.f]
  exact props x.f1.length 0 [] Zq1 rfl
def getS : S30 → List Int → Option S30
 | x, [] => some x
 | x, i :: r => if 0 ≤ i ∧ i < x.f2.length then getS (x.f2.getD i.toNat z30) r else none
theorem kid_mem {x : S30} {i : Int} (h : 0 ≤ i ∧ i < x.f2.length) : x.f2.getD i.toNat z30 ∈ x.f2 := getN Zq1
theorem getS_bulk : ∀ (l : List Int) (x n : S30), getS x l = some n → bulk30 n ≤ bulk30 x
 | [], x, n, h => by
  simp only [getS, Option.some.injEq] at h; rw [h]
  exact Nat.le_refl _
 | i :: r, x, n, h => by
  simp only [getS] at h
  by_cases c : 0 ≤ i ∧ i < x.f2.length
  ·rw [if_pos c] at h; have := getS_bulk r _ n h; have := bulk_kid (kid_mem c)
   omega
  ·rw [if_neg c] at h
   cases h
theorem getS_good : ∀ (l : List Int) (x n : S30), getS x l = some n → good30 x → good30 n
 | [], x, n, h, g => by
  simp only [getS, Option.some.injEq] at h; rw [← h]
  exact g
 | i :: r, x, n, h, g => by
  simp only [getS] at h
  by_cases c : 0 ≤ i ∧ i < x.f2.length
  ·rw [if_pos c] at h
   exact getS_good r _ n h (((good_eq x).mp g).2 _ (kid_mem c))
  ·rw [if_neg c] at h
   cases h
theorem getS_take : ∀ (l : List Int) (x n : S30) (k : Nat), getS x l = some n → ∃ m, getS x (l.take k) = some m
 | [], x, n, k, h => ⟨n, by rw [List.take_nil]; exact h⟩
 | i :: r, x, n, 0, h => ⟨x, rfl⟩
 | i :: r, x, n, k + 1, h => by
  simp only [getS] at h
  by_cases c : 0 ≤ i ∧ i < x.f2.length
  ·rw [if_pos c] at h; obtain ⟨m, hm⟩ := getS_take r _ n k h
   exact ⟨m, by simp only [List.take_succ_cons, getS]; rw [if_pos c]; exact hm⟩
  ·rw [if_neg c] at h
   cases h
def pgetR : Option S30 → ByteArray × List S77 × List S30 × Int
 | some n => (n.f0, n.f1, n.f2, 0)
 | none => (⟨#[]⟩, [], [], 8)
def rgetR : Option S30 → ByteArray × List S77 × List S30 × Bool
 | some n => (n.f0, n.f1, n.f2, true)
 | none => (⟨#[]⟩, [], [], false)
theorem pget_ev (b : Int) (res : List S94) (x : S30) (l : List Int) (hx : bulk30 x ≤ 1048576) (hl : l.length ≤ 16) :
  Ev (fun k => path_Get.f k b res x.f0 x.f1 x.f2 l) (pgetR (getS x l)) := by
 have key : ∀ (j i : Nat) (y : S30), i + j = l.length → bulk30 y ≤ 1048576 → Ev (fun k => path_Get.l0 k l (l.length : Int) (i : Int) y.f0 y.f1 y.f2) (pgetR (getS y (l.drop i))) := by
  intro j
  induction j with
  | zero =>
   intro i y hi hy; rw [List.drop_of_length_le Zq1]; refine Ev.succ ?_; simp only [path_Get.l0, getS, pgetR]
   exact Ev.neg Zq1 (Ev.then (clone_ends 1048576 Zq1 y hy) (Ev.some _))
  | succ j ih =>
   intro i y hi hy; have hw := step64 (i := i) (n := l.length) Zq1 Zq1; have hd := drop_at (l := l) (d := 0) (i := i) Zq1
   have hr : rd l (i : Int) = l.getD i 0 := by unfold rd; rw [Int.toNat_natCast]
   rw [hd]; refine Ev.succ ?_; simp only [path_Get.l0, hr, hw, getS]; refine Ev.pos Zq1 (Ev.pos (Int.natCast_nonneg i) (Ev.pos Zq1 ?_)); generalize l.getD i 0 = q
   by_cases h0 : q < 0
   ·rw [if_neg Zq1]
    exact Ev.pos h0 (Ev.some _)
   by_cases h1 : q ≥ (y.f2.length : Int)
   ·rw [if_neg Zq1]
    exact Ev.neg h0 (Ev.pos h1 (Ev.some _))
   have c : 0 ≤ q ∧ q < (y.f2.length : Int) := ⟨Zq1, Zq1⟩
   rw [if_pos c]; have hm := bulk_kid (kid_mem c)
   exact Ev.neg h0 (Ev.neg h1 (Ev.pos c.1 (Ev.pos c.2 (ih (i + 1) (y.f2.getD q.toNat z30) Zq1 Zq1))))
 unfold path_Get.f; refine Ev.neg Zq1 ?_; have := key l.length 0 x Zq1 hx
 simpa using this
theorem pget_deep (b : Int) (res : List S94) (x : S30) (l : List Int) (hl : ¬ l.length ≤ 16) :
  Ev (fun k => path_Get.f k b res x.f0 x.f1 x.f2 l) (⟨#[]⟩, [], [], 6) := by
 unfold path_Get.f
 exact Ev.pos Zq1 (Ev.some _)
theorem rget_ev (b : Int) (res : List S94) (x : S30) (l : List Int) (hl : l.length ≤ 1048576) :
  Ev (fun k => arboretref06_Get.f k b res x.f0 x.f1 x.f2 l) (rgetR (getS x l)) := by
 have key : ∀ (j i : Nat) (y : S30), i + j = l.length → Ev (fun k => arboretref06_Get.l0 k l (l.length : Int) (i : Int) y.f0 y.f1 y.f2) (rgetR (getS y (l.drop i))) := by
  intro j
  induction j with
  | zero =>
   intro i y hi; rw [List.drop_of_length_le Zq1]; refine Ev.succ ?_; simp only [arboretref06_Get.l0, getS, rgetR]
   exact Ev.neg Zq1 (Ev.some _)
  | succ j ih =>
   intro i y hi; have hw := step64 (i := i) (n := l.length) Zq1 Zq1; have hd := drop_at (l := l) (d := 0) (i := i) Zq1
   have hr : rd l (i : Int) = l.getD i 0 := by unfold rd; rw [Int.toNat_natCast]
   rw [hd]; refine Ev.succ ?_; simp only [arboretref06_Get.l0, hr, hw, getS]; refine Ev.pos Zq1 (Ev.pos (Int.natCast_nonneg i) (Ev.pos Zq1 ?_)); generalize l.getD i 0 = q
   by_cases h0 : q < 0
   ·rw [if_neg Zq1]
    exact Ev.pos h0 (Ev.some _)
   by_cases h1 : q ≥ (y.f2.length : Int)
   ·rw [if_neg Zq1]
    exact Ev.neg h0 (Ev.pos h1 (Ev.some _))
   have c : 0 ≤ q ∧ q < (y.f2.length : Int) := ⟨Zq1, Zq1⟩
   rw [if_pos c]
   exact Ev.neg h0 (Ev.neg h1 (Ev.pos c.1 (Ev.pos c.2 (ih (i + 1) (y.f2.getD q.toNat z30) Zq1))))
 unfold arboretref06_Get.f; have := key l.length 0 x Zq1
 simpa using this
end Go.Proofs.Yteejaaeglfpcmab.PX

namespace Go.Proofs.Yteejaaeglfpcmab.PX
open Go.RowKit Go.Proofs.YteejaaeglfpcmabW.PrintWords Go.Proofs.YteejaaeglfpcmabW.PrintLast Go.Proofs.YteejaaeglfpcmabW.PrintMore
attribute [local go_sem] max2_int min2_int max_two min_two max_three min_three max_four min_four
def strings_IndexByte.f (a0 : ByteArray) (a1 : Int) : Option (Int) := some (Lib.indexByte a0.data.toList a1.toNat.toUInt8)
def name_letter.f (a0 : Int) : Option (Bool) := if a0 ≥ 97 then (if a0 ≤ 122 then (some true) else (if a0 ≥ 65 then (some (decide (a0 ≤ 90))) else (some false))) else (if a0 ≥ 65 then (some (decide (a0 ≤ 90))) else (some false))
def name_plain.f (a0 : Int) : Option (Bool) := (name_letter.f a0).bind fun tgr => (if tgr = true then (some true) else (if a0 ≥ 48 then (if a0 ≤ 57 then (some true) else ((strings_IndexByte.f (⟨#[44, 46, 95, 43, 45]⟩ : ByteArray) a0).bind fun tgs => (some (decide (tgs ≥ 0))))) else ((strings_IndexByte.f (⟨#[44, 46, 95, 43, 45]⟩ : ByteArray) a0).bind fun tgt => (some (decide (tgt ≥ 0))))))
def name_all.l0 : Nat → ByteArray → ByteArray → Int → Int → Option (Bool)
 | 0, _, _, _, _ => none
 | k + 1, x0, x1, x7, x8 => if x8 < x7 then (if 0 ≤ x8 then (if x8 < (x0.size : Int) then ((name_plain.f (bt x0 x8)).bind fun tfe => (if tfe = true then (name_all.l0 k x0 x1 x7 (wrap64 (x8 + 1))) else ((strings_IndexByte.f x1 (bt x0 x8)).bind fun tgu => (if tgu < 0 then (some false) else (name_all.l0 k x0 x1 x7 (wrap64 (x8 + 1))))))) else (none)) else (none)) else (if (x0.size : Int) ≥ 1 then (some (decide ((x0.size : Int) ≤ 31))) else (some false))
def name_all.f (k : Nat) (a0 : ByteArray) (a1 : ByteArray) : Option (Bool) := name_all.l0 k a0 a1 (a0.size : Int) 0
def stringslite_Index.f (a0 : ByteArray) (a1 : ByteArray) : Option (Int) := match a1.data.toList with | [c] => some (Lib.indexByte a0.data.toList c) | _ => none
def stringslite_Cut.f (a0 : ByteArray) (a1 : ByteArray) : Option (ByteArray × ByteArray × Bool) := (stringslite_Index.f a0 a1).bind fun tef => (if tef ≥ 0 then (if 0 ≤ tef then (if tef ≤ (a0.size : Int) then (if 0 ≤ (wrap64 (tef + (a1.size : Int))) then (if (wrap64 (tef + (a1.size : Int))) ≤ (a0.size : Int) then (some (a0.extract 0 (tef : Int).toNat, a0.extract ((wrap64 (tef + (a1.size : Int))) : Int).toNat a0.size, true)) else (none)) else (none)) else (none)) else (none)) else (some (a0, (⟨#[]⟩ : ByteArray), false)))
def strings_Cut.f (a0 : ByteArray) (a1 : ByteArray) : Option (ByteArray × ByteArray × Bool) := (stringslite_Cut.f a0 a1).bind fun btfr => (some (btfr.1, btfr.2.1, btfr.2.2))
end Go.Proofs.Yteejaaeglfpcmab.PX

namespace Go.Proofs.Yteejaaeglfpcmab.PX
open Go.RowKit Go.Proofs.Yteejaaeglfpcmab.Aid Go.Proofs.YteejaaeglfpcmabW.PrintWords
def letterB (c : Int) : Bool := (decide (97 ≤ c) && decide (c ≤ 122)) || (decide (65 ≤ c) && decide (c ≤ 90))
def plainB (c : Int) : Bool := letterB c || (decide (48 ≤ c) && decide (c ≤ 57)) || c == 44 || c == 46 || c == 95 || c == 43 || c == 45
theorem byte_all {p : Int → Prop} (h : ∀ n : Fin 256, p (n.val : Int)) {c : Int} (h0 : 0 ≤ c) (h1 : c ≤ 255) : p c := by
 have := h ⟨c.toNat, Zq1⟩; simp only at this
 rwa [Int.toNat_of_nonneg h0] at this
theorem stands_f {c : Int} (h0 : 0 ≤ c) (h1 : c ≤ 255) : arboretref01_stands.f c = some (plainB c) := byte_all (p := fun c => arboretref01_stands.f c = some (plainB c)) (by decide +kernel) h0 h1
theorem bytesOf_range (s : ByteArray) : ∀ b ∈ bytesOf s, 0 ≤ b ∧ b ≤ 255 := by
 intro b hb; simp only [bytesOf, List.mem_map] at hb; obtain ⟨u, _, rfl⟩ := hb; have := u.toNat_lt
 omega
theorem bytesOf_at (s : ByteArray) (i : Nat) (h : i < (bytesOf s).length) : bt s (i : Int) = (bytesOf s)[i] := by
 rw [← rd_bytesOf]
 simp [rd, List.getD_eq_getElem?_getD, List.getElem?_eq_getElem h]
theorem bytesOf_upto (s : ByteArray) (k : Nat) : bytesOf (s.extract 0 k) = (bytesOf s).take k := by
 unfold bytesOf; rw [Lib.Pa.extract_upto_list, List.map_take]
theorem bytesOf_from (s : ByteArray) (k : Nat) : bytesOf (s.extract k s.size) = (bytesOf s).drop k := by
 unfold bytesOf; rw [Lib.Pa.extract_from, ← List.map_drop]
def idx (c : Int) : List Int → Int
 | [] => -1
 | a :: l => if a = c then 0 else if idx c l = -1 then -1 else idx c l + 1
theorem idx_range (c : Int) : ∀ l : List Int, idx c l = -1 ∨ (0 ≤ idx c l ∧ idx c l < l.length)
 | [] => .inl rfl
 | a :: l => by
  have ih := idx_range c l; simp only [idx, List.length_cons]
  by_cases h : a = c
  ·rw [if_pos h]; right; omega
  ·rw [if_neg h]
   by_cases h1 : idx c l = -1
   ·rw [if_pos h1]; left; rfl
   ·rw [if_neg h1]; right; omega
theorem idx_split (c : Int) : ∀ (l : List Int) (j : Nat), idx c l = (j : Int) → l = l.take j ++ c :: l.drop (j + 1)
 | [], j, h => by simp [idx] at h
 | a :: l, j, h => by
  simp only [idx] at h
  by_cases h0 : a = c
  ·rw [if_pos h0] at h
   have : j = 0 := by omega
   subst this; subst h0; simp
  ·rw [if_neg h0] at h
   by_cases h1 : idx c l = -1
   ·rw [if_pos h1] at h; omega
   ·rw [if_neg h1] at h
    obtain ⟨j, rfl⟩ : ∃ m, j = m + 1 := ⟨j - 1, by have := idx_range c l; omega⟩
    have := idx_split c l j Zq1; simp only [List.take_succ_cons, List.drop_succ_cons, List.cons_append]; rw [← this]
theorem refcut_ev (s : ByteArray) (hs : s.size ≤ 140737488351232) : Ev (fun k => arboretref01_Cut.f k s) (idx 64 (bytesOf s)) := by
 have hn : (bytesOf s).length = s.size := bytesOf_length s; have main := loop (bytesOf s) (fun l => if idx 64 l = -1 then -1 else idx 64 l + ((s.size : Int) - l.length)) (fun k i => arboretref01_Cut.l0 k s (s.size : Int) i) ?_ ?_ 0 (Nat.zero_le _)
 ·have e : (if idx 64 ((bytesOf s).drop 0) = -1 then -1 else idx 64 ((bytesOf s).drop 0) + ((s.size : Int) - ((bytesOf s).drop 0).length)) = idx 64 (bytesOf s) := by
   rw [List.drop_zero, hn]
   split <;> omega
  rw [← e]
  exact main
 ·rw [hn]; refine Ev.succ ⟨0, fun k _ => ?_⟩; simp only [arboretref01_Cut.l0]; rw [if_neg Zq1]
  rfl
 ·intro i h ih; refine Ev.succ ?_
  have hw : wrap64 ((i : Int) + 1) = ((i + 1 : Nat) : Int) := by rw [w64 Zq1 Zq1]; omega
  simp only [arboretref01_Cut.l0, bytesOf_at s i h, hw]; refine Ev.pos Zq1 (Ev.pos (Int.natCast_nonneg i) (Ev.pos Zq1 ?_))
  have hl : ((bytesOf s).drop (i + 1)).length = s.size - (i + 1) := by rw [List.length_drop, hn]
  simp only [idx, List.length_cons, hl]; simp only [hl] at ih
  by_cases hc : (bytesOf s)[i] = 64
  ·rw [if_pos hc, if_neg Zq1]; refine Ev.pos hc (Ev.fix ?_)
   congr 1
   omega
  ·rw [if_neg hc]; refine Ev.neg hc ?_
   by_cases h1 : idx 64 ((bytesOf s).drop (i + 1)) = -1
   ·rw [if_pos h1] at ih; rw [if_pos h1, if_pos rfl]
    exact ih
   ·rw [if_neg h1] at ih; have hr := idx_range 64 ((bytesOf s).drop (i + 1)); rw [if_neg h1, if_neg Zq1]
    have e : idx 64 ((bytesOf s).drop (i + 1)) + ((s.size : Int) - ((s.size - (i + 1) : Nat) : Int)) = idx 64 ((bytesOf s).drop (i + 1)) + 1 + ((s.size : Int) - ((s.size - (i + 1) + 1 : Nat) : Int)) := by omega
    rw [← e]
    exact ih
def cutB (s : ByteArray) : ByteArray × ByteArray × Bool := if idx 64 (bytesOf s) = -1 then (s, ⟨#[]⟩, false) else (s.extract 0 (idx 64 (bytesOf s)).toNat, s.extract ((idx 64 (bytesOf s)).toNat + 1) s.size, true)
def firstB (c : Int) : Bool := letterB c || c == 95
def unitB (l : List Int) : Bool := l.all plainB && (decide (1 ≤ l.length) && decide (l.length ≤ 31))
def baseB (l : List Int) : Bool := unitB l && firstB (l.getD 0 0)
def nodeB (s : ByteArray) : Bool := baseB (bytesOf (cutB s).1) && (!(cutB s).2.2 || unitB (bytesOf (cutB s).2.1))
def allBut (n : Nat) (at_ : Int) : List Int → Bool
 | [] => true
 | a :: l => (decide ((n : Int) - (l.length + 1 : Nat) = at_) || plainB a) && allBut n at_ l
theorem allBut_behind (n : Nat) (at_ : Int) : ∀ l : List Int, at_ < (n : Int) - l.length → allBut n at_ l = l.all plainB
 | [], _ => rfl
 | a :: l, h => by
  rw [List.length_cons] at h; have ih := allBut_behind n at_ l Zq1; simp only [allBut, List.all_cons, ih]; rw [decide_eq_false Zq1, Bool.false_or]
theorem allBut_at (n : Nat) (at_ : Int) (c : Int) (r : List Int) : ∀ l : List Int, (n : Int) = at_ + 1 + r.length → allBut n at_ (l ++ c :: r) = (l.all plainB && r.all plainB) := by
 intro l h
 induction l with
 | nil =>
  simp only [List.nil_append, allBut, List.all_nil, Bool.true_and]; rw [decide_eq_true Zq1, Bool.true_or, Bool.true_and, allBut_behind n at_ r Zq1]
 | cons a l ih =>
  simp only [List.cons_append, allBut, List.all_cons, ih, Bool.and_assoc]; rw [decide_eq_false (by simp only [List.length_append, List.length_cons]; omega), Bool.false_or]
def endB (l : List Int) : Bool := decide (1 ≤ l.length) && decide (l.length ≤ 31) && firstB (l.getD 0 0)
theorem refnode_loop (s b : ByteArray) (at_ : Int) (hs : s.size ≤ 140737488351232) :
  Ev (fun k => arboretref01_Node.j0 k s at_ b) (allBut s.size at_ (bytesOf s) && endB (bytesOf b)) := by
 have hn : (bytesOf s).length = s.size := bytesOf_length s; refine Ev.succ ?_; simp only [arboretref01_Node.j0]; have main := loop (bytesOf s) (fun l => allBut s.size at_ l && endB (bytesOf b)) (fun k i => arboretref01_Node.l0 k s at_ b (s.size : Int) i) ?_ ?_ 0 (Nat.zero_le _)
 ·exact main
 ·rw [hn]; refine Ev.succ ?_; simp only [arboretref01_Node.l0, allBut, Bool.true_and]; refine Ev.neg Zq1 ⟨0, fun k _ => ?_⟩; have hl : (bytesOf b).length = b.size := bytesOf_length _; unfold endB; rw [hl]
  by_cases h1 : (b.size : Int) ≥ 1
  ·rw [if_pos h1, decide_eq_true (by omega : 1 ≤ b.size)]
   by_cases h2 : (b.size : Int) ≤ 31
   ·have hp : 0 < (bytesOf b).length := by omega
    have e0 : bt b 0 = (bytesOf b).getD 0 0 := by
     rw [getD_at hp]
     exact bytesOf_at b 0 hp
    rw [if_pos h2, if_pos Zq1, decide_eq_true (by omega : b.size ≤ 31), e0]; obtain ⟨b0, b1⟩ := bytesOf_range b _ (List.getElem_mem hp); rw [← getD_at (d := 0) hp] at b0 b1; generalize (bytesOf b).getD 0 0 = c at b0 b1
    revert c
    intro c b0 b1
    exact byte_all (p := fun c => (if c = 95 then some true else if c ≥ 97 then if c ≤ 122 then some true else if c ≥ 65 then some (decide (c ≤ 90)) else some false else if c ≥ 65 then some (decide (c ≤ 90)) else some false) = some (true && true && firstB c)) (by decide +kernel) b0 b1
   ·rw [if_neg h2, decide_eq_false (by omega : ¬ b.size ≤ 31)]
    rfl
  ·rw [if_neg h1, decide_eq_false (by omega : ¬ 1 ≤ b.size)]
   rfl
 ·intro i h ih
  have hw : wrap64 ((i : Int) + 1) = ((i + 1 : Nat) : Int) := by rw [w64 Zq1 Zq1]; omega
  have hl : ((bytesOf s).drop (i + 1)).length = s.size - (i + 1) := by rw [List.length_drop, hn]
  refine Ev.succ ?_; simp only [arboretref01_Node.l0, allBut, hl, hw]; refine Ev.pos Zq1 ?_
  by_cases ha : (i : Int) = at_
  ·rw [decide_eq_true Zq1, Bool.true_or, Bool.true_and]
   exact Ev.pos ha ih
  ·rw [decide_eq_false Zq1, Bool.false_or]; obtain ⟨b0, b1⟩ := bytesOf_range s _ (List.getElem_mem h); simp only [bytesOf_at s i h, stands_f b0 b1, Option.bind_some]; refine Ev.neg ha (Ev.pos (Int.natCast_nonneg i) (Ev.pos Zq1 ?_))
   cases plainB (bytesOf s)[i] with
   | true => exact Ev.pos rfl (by rw [Bool.true_and]; exact ih)
   | false => exact Ev.neg Zq7 (Ev.some _)
theorem refnode_ev (s : ByteArray) (hs : s.size ≤ 140737488351232) : Ev (fun k => arboretref01_Node.f k s) (nodeB s) := by
 have hn : (bytesOf s).length = s.size := bytesOf_length s; have hr := idx_range 64 (bytesOf s); unfold arboretref01_Node.f
 refine Ev.then (refcut_ev s hs) ?_
 by_cases h : idx 64 (bytesOf s) = -1
 ·have e : nodeB s = (allBut s.size (-1) (bytesOf s) && endB (bytesOf s)) := by
   unfold nodeB baseB cutB unitB endB; rw [if_pos h, allBut_behind _ _ _ Zq1]; simp only [Bool.not_false, Bool.true_or, Bool.and_true, Bool.and_assoc]
  rw [e, h]
  exact Ev.neg Zq7 (refnode_loop s s (-1) hs)
 ·obtain ⟨j, hj⟩ : ∃ j : Nat, idx 64 (bytesOf s) = (j : Int) := ⟨(idx 64 (bytesOf s)).toNat, Zq1⟩
  have hsp := idx_split 64 (bytesOf s) j hj
  have e1 : bytesOf (cutB s).1 = (bytesOf s).take j := by
   unfold cutB; rw [if_neg h, hj, Int.toNat_natCast]
   exact bytesOf_upto s j
  have e2 : bytesOf (cutB s).2.1 = (bytesOf s).drop (j + 1) := by
   unfold cutB; rw [if_neg h, hj, Int.toNat_natCast]
   exact bytesOf_from s (j + 1)
  have e3 : (cutB s).2.2 = true := by
   unfold cutB; rw [if_neg h]
  have hdl : ((bytesOf s).drop (j + 1)).length = s.size - (j + 1) := by rw [List.length_drop, hn]
  have eall : allBut s.size (j : Int) (bytesOf s) = (((bytesOf s).take j).all plainB && ((bytesOf s).drop (j + 1)).all plainB) := by
   have := allBut_at s.size (j : Int) 64 ((bytesOf s).drop (j + 1)) ((bytesOf s).take j) (by rw [hdl]; omega); rw [← hsp] at this
   exact this
  have e : nodeB s = (decide (1 ≤ s.size - (j + 1)) && decide (s.size - (j + 1) ≤ 31) && (allBut s.size (j : Int) (bytesOf s) && endB (bytesOf (s.extract 0 j)))) := by
   rw [eall, bytesOf_upto]; unfold nodeB baseB unitB endB; rw [e1, e2, e3, hdl]; simp only [Bool.not_true, Bool.false_or]; generalize (List.all (List.take j (bytesOf s)) plainB) = a; generalize (List.all (List.drop (j + 1) (bytesOf s)) plainB) = b; generalize decide (1 ≤ s.size - (j + 1)) = c; generalize decide (s.size - (j + 1) ≤ 31) = d; generalize decide (1 ≤ (List.take j (bytesOf s)).length) = e; generalize decide ((List.take j (bytesOf s)).length ≤ 31) = f; generalize firstB ((List.take j (bytesOf s)).getD 0 0) = g
   cases a <;> cases b <;> cases c <;> cases d <;> cases e <;> cases f <;> cases g <;> rfl
  have hw : wrap64 (wrap64 ((s.size : Int) - (j : Int)) - 1) = ((s.size - (j + 1) : Nat) : Int) := by
   rw [w64 (x := (s.size : Int) - (j : Int)) Zq1 Zq1, w64 Zq1 Zq1]
   omega
  rw [hj, e, hw, Int.toNat_natCast]; refine Ev.pos (Int.natCast_nonneg j) (Ev.pos (Int.natCast_nonneg j) (Ev.pos Zq1 ?_))
  by_cases h1 : ((s.size - (j + 1) : Nat) : Int) < 1
  ·rw [decide_eq_false (by omega : ¬ 1 ≤ s.size - (j + 1))]
   exact Ev.pos h1 (Ev.some _)
  ·rw [decide_eq_true (by omega : 1 ≤ s.size - (j + 1))]; refine Ev.neg h1 ?_
   by_cases h2 : ((s.size - (j + 1) : Nat) : Int) > 31
   ·rw [decide_eq_false (by omega : ¬ s.size - (j + 1) ≤ 31)]
    exact Ev.pos h2 (Ev.some _)
   ·rw [decide_eq_true (by omega : s.size - (j + 1) ≤ 31)]
    exact Ev.neg h2 (refnode_loop s (s.extract 0 j) (j : Int) hs)
def propB (l : List Int) : Bool := l.all (fun c => plainB c || c == 63 || c == 35) && (decide (1 ≤ l.length) && decide (l.length ≤ 31))
theorem refprop_ev (s : ByteArray) (hs : s.size ≤ 140737488351232) : Ev (fun k => arboretref01_Prop.f k s) (propB (bytesOf s)) := by
 have hn : (bytesOf s).length = s.size := bytesOf_length s; have main := loop (bytesOf s) (fun l => l.all (fun c => plainB c || c == 63 || c == 35) && (decide (1 ≤ s.size) && decide (s.size ≤ 31))) (fun k i => arboretref01_Prop.l0 k s (s.size : Int) i) ?_ ?_ 0 (Nat.zero_le _)
 ·unfold propB; rw [hn]
  exact main
 ·rw [hn]; refine Ev.succ ?_; simp only [arboretref01_Prop.l0]; refine Ev.neg Zq1 (Ev.fix ?_)
  by_cases h : (s.size : Int) ≥ 1
  ·rw [if_pos h, decide_eq_true (by omega : 1 ≤ s.size)]; have : decide ((s.size : Int) ≤ 31) = decide (s.size ≤ 31) := decide_eq_decide.mpr Zq1; rw [this]
   rfl
  ·rw [if_neg h, decide_eq_false (by omega : ¬ 1 ≤ s.size)]
   rfl
 ·intro i h ih
  have hw : wrap64 ((i : Int) + 1) = ((i + 1 : Nat) : Int) := by rw [w64 Zq1 Zq1]; omega
  obtain ⟨b0, b1⟩ := bytesOf_range s _ (List.getElem_mem h); refine Ev.succ ?_; simp only [arboretref01_Prop.l0, bytesOf_at s i h, stands_f b0 b1, hw, Option.bind_some, List.all_cons]; refine Ev.pos Zq1 (Ev.pos (Int.natCast_nonneg i) (Ev.pos Zq1 ?_))
  cases plainB (bytesOf s)[i] with
  | true =>
   simp only [Bool.true_or, Bool.true_and, if_true]
   exact ih
  | false =>
   refine Ev.neg Zq7 ?_
   by_cases h63 : (bytesOf s)[i] = 63
   ·rw [h63]
    exact Ev.pos rfl ih
   ·by_cases h35 : (bytesOf s)[i] = 35
    ·rw [h35]
     exact Ev.neg Zq7 (Ev.pos rfl ih)
    ·have e1 : ((bytesOf s)[i] == 63) = false := by simpa using h63
     have e2 : ((bytesOf s)[i] == 35) = false := by simpa using h35
     rw [e1, e2]
     exact Ev.neg h63 (Ev.neg h35 (Ev.some _))
end Go.Proofs.Yteejaaeglfpcmab.PX
