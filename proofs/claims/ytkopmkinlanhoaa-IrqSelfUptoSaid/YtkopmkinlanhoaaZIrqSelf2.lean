/- IrqSelf: texts of this session's, and what the kit's print laid for this seat, as far as the law's row uses them (PBx0, PBx0, PBx0, PBx0, PBx0). -/
import Derived.Test.YtkopmkinlanhoaaZIrqSelf1
set_option linter.unusedVariables false
set_option linter.unusedSimpArgs false
namespace Go.Proofs.Ytkopmkinlanhoaa.PB
open Go.RowKit Go.Proofs.YtkopmkinlanhoaaW.PrintWords Go.Proofs.YtkopmkinlanhoaaW.PrintLast Go.Proofs.YtkopmkinlanhoaaW.PrintMore
attribute [local go_sem] max2_int min2_int max_two min_two max_three min_three max_four min_four
set_option maxHeartbeats 8000000 in
set_option maxRecDepth 100000 in
theorem handle_Find.calls (k : Nat) (a0_0 : Int) (A0_1 : Option Addr) (c0_1 : Nat) (l0_1 : List (S82)) (a0_2 : ByteArray) (A0_3 : Option Addr) (c0_3 : Nat) (l0_3 : List (S63)) (A0_4 : Option Addr) (c0_4 : Nat) (l0_4 : List (S27)) (a1 : Int) (r1 : List Int) (r2 : Int) (w : World) (hr0_1 : Kd.C k82 w A0_1 l0_1.length l0_1) (hc0_1 : l0_1.length ≤ c0_1) (hr0_3 : Kd.C k63 w A0_3 l0_3.length l0_3) (hc0_3 : l0_3.length ≤ c0_3) (hr0_4 : Kd.C k27 w A0_4 l0_4.length l0_4) (hc0_4 : l0_4.length ≤ c0_4) (h : handle_Find.f k a0_0 l0_1 a0_2 l0_3 l0_4 a1 = some (r1, r2)) :
  Calls Try.prog 57 #[.agg #[.int .u32 a0_0, .slice A0_1 l0_1.length c0_1, .string a0_2, .slice A0_3 l0_3.length c0_3, .slice A0_4 l0_4.length c0_4], .int .u32 a1] w fun e w' => ∃ v0_ : Value, e = .returned (.tuple #[v0_, .int .i64 r2]) ∧ Kd.R (Kd.int .i64) 3 w' w.heap.size (fun _ => True) v0_ r1 ∧ Below w.heap.size w w' := by
 have hu29 := Try.underlying29; have hu137 := Try.underlying137; have HR0_1 := Ak hr0_1; have HC0_1 := Ak hc0_1; clear hr0_1 hc0_1; have HR0_3 := Ak hr0_3; have HC0_3 := Ak hc0_3; clear hr0_3 hc0_3; have HR0_4 := Ak hr0_4; have HC0_4 := Ak hc0_4; clear hr0_4 hc0_4; have HB := Zq151; have H : ((handle_Index.f k a0_0 l0_1 a0_2 l0_3 l0_4).bind fun btbf => (if btbf.2 = 0 then (handle_Find.l0 k a1 btbf.1 (btbf.1.length : Int) 0) else (some (([] : List Int), btbf.2)))) = some (r1, r2) := h; clear h; replace H := Option.bind_eq_some_iff.mp H; obtain ⟨⟨tbf, tcs⟩, A30, H⟩ := H; replace H : (if tcs = 0 then (handle_Find.l0 k a1 tbf (tbf.length : Int) 0) else (some (([] : List Int), tcs))) = some (r1, r2) := H; have A3 := Ak A30; clear A30
 by_cases c4 : tcs = 0
 ·rw [if_pos c4] at H; have c4b0 : (tcs == 0) = true := beq_iff_eq.mpr c4; have c4b1 : (tcs != 0) = false := bne_eq_false_iff_eq.mpr c4; clear c4; have H' := Ak H; clear H
  go_enter Try.func57, Try.ntmps57
  go_wp2_with (first | ((with_reducible refine gate_dst (N := 2) rfl ?_); refine box_event ?hg (N := 2) ?hd (cs := #[.int .u32 a0_0, .slice A0_1 l0_1.length c0_1, .string a0_2, .slice A0_3 l0_3.length c0_3, .slice A0_4 l0_4.length c0_4]) (t := 29) ?hr ?_; (case hd | hg => rfl); (case hr => first | (go_simp; done) | (go_simp; rfl)); intro gbaY hg w5 hbox hb; have n0_ := Zq142; have n1_ := Ak (hbox); have n2_ := Zq243; have n3_ := Zq243; clear HB; have HB := n0_; have BKaY := n1_; have GWaY := n2_; have GEaY := n3_; clear n0_ n1_ n2_ n3_ hb hbox hg; have hcz6_0 : w5.cell? ⟨gbaY, 0, none⟩ = some (.int .u32 a0_0) := (blk_cell BKaY.out 0).trans rfl; have hcz6_1 : w5.cell? ⟨gbaY, 1, none⟩ = some (.slice A0_1 l0_1.length c0_1) := (blk_cell BKaY.out 1).trans rfl; have hcz6_2 : w5.cell? ⟨gbaY, 2, none⟩ = some (.string a0_2) := (blk_cell BKaY.out 2).trans rfl; have hcz6_3 : w5.cell? ⟨gbaY, 3, none⟩ = some (.slice A0_3 l0_3.length c0_3) := (blk_cell BKaY.out 3).trans rfl; have hcz6_4 : w5.cell? ⟨gbaY, 4, none⟩ = some (.slice A0_4 l0_4.length c0_4) := (blk_cell BKaY.out 4).trans rfl; have hfz6_0 := blk_frozen BKaY.out 0; have hfz6_1 := blk_frozen BKaY.out 1; have hfz6_2 := blk_frozen BKaY.out 2; have hfz6_3 := blk_frozen BKaY.out 3; have hfz6_4 := blk_frozen BKaY.out 4) | ((with_reducible refine gate_callee (f := 78) rfl ?_); refine goesL_ (some 12) rfl rfl Try.func78 Zq2 rfl #[.agg #[.int .u32 a0_0, .slice A0_1 l0_1.length c0_1, .string a0_2, .slice A0_3 l0_3.length c0_3, .slice A0_4 l0_4.length c0_4]] rfl Zq8 ?_; (with_reducible refine (handle_Index.calls k a0_0 _ _ l0_1 a0_2 _ _ l0_3 _ _ l0_4 tbf tcs _ ?side1 ?side2 ?side3 ?side4 ?side5 ?side6 A3.out).mono ?_); (case side1 => repeat (first | exact Zq138 | (with_reducible refine Kd.C_alloc ?_ _) | (with_reducible refine Kd.C_drewN ?_ _) | (with_reducible refine Kd.C_drew ?_))); (case side2 => exact HC0_1.out); (case side3 => repeat (first | exact Zq153 | (with_reducible refine Kd.C_alloc ?_ _) | (with_reducible refine Kd.C_drewN ?_ _) | (with_reducible refine Kd.C_drew ?_))); (case side4 => exact HC0_3.out); (case side5 => repeat (first | exact Zq154 | (with_reducible refine Kd.C_alloc ?_ _) | (with_reducible refine Kd.C_drewN ?_ _) | (with_reducible refine Kd.C_drew ?_))); (case side6 => exact HC0_4.out); rintro e w7 ⟨v158, rfl, ho0, hb⟩; refine ⟨_, rfl, ?_⟩; have n0_ := Ak (Kd.S_lower ho0 (below_size Zq51)); have n1_ := Zq173; have n2_ := Ak (below_step Zq51 hb); clear BKaY HB; have HOej := n0_; have BKaY := n1_; have HB := n2_; clear n0_ n1_ n2_; (try clear hb); (try clear hb2); (try clear hk); (try clear hi); (try clear ho0); obtain ⟨Ao8, co8, eo8⟩ := Kd.S_slice HOej.out; subst eo8))
  go_loopg [20] k (fun kq v20 w' => ∃ (x20_1 : Int), v20 = .int .i64 x20_1 ∧ Aside0 (handle_Find.l0 kq a1 tbf (tbf.length : Int) x20_1 = some (r1, r2)) ∧ Aside0 (kq ≤ k) ∧ Aside0 (Kd.S k137 137 w' w.heap.size (fun _ => True) (.slice Ao8 tbf.length co8) tbf) ∧ Aside0 (w'.heap[gbaY]? = some (.cells #[.int .u32 a0_0, (.slice A0_1 l0_1.length c0_1), .string a0_2, (.slice A0_3 l0_3.length c0_3), (.slice A0_4 l0_4.length c0_4)] 29 (0, 0))) ∧ Aside0 (Below w.heap.size w w'))
  case atStart => exact ⟨(0), Zq7, H', ⟨Nat.le_refl _⟩, ⟨by (with_reducible repeat (first | apply Kd.S_alloc | apply Kd.S_drewN | apply Kd.S_drew)); exact HOej.out⟩, ⟨Zq64⟩, ⟨Zq51⟩⟩
  case round =>
   clear H'
   try clear p2
   try clear c4
   try clear c4b0
   try clear c4b1
   try clear c5
   try clear c7
   try clear hcz6_0
   try clear hcz6_1
   try clear hcz6_2
   try clear hcz6_3
   try clear hcz6_4
   try clear hfz6_0
   try clear hfz6_1
   try clear hfz6_2
   try clear hfz6_3
   try clear hfz6_4
   obtain ⟨x20_1, rfl, HA, HK1, HO_18, BKaY, HB⟩ := hrel
   cases gk with
   | zero => exact absurd HA.out (by simp [handle_Find.l0])
   | succ k1 =>
    have H := HA.out; clear HA; simp only [handle_Find.l0] at H
    by_cases c9 : x20_1 < (tbf.length : Int)
    ·rw [if_pos c9] at H; have c9b0 : decide (x20_1 < (tbf.length : Int)) = true := decide_eq_true c9; clear c9
     by_cases c10 : 0 ≤ x20_1
     ·rw [if_pos c10] at H; have c10b0 : decide (0 ≤ x20_1) = true := decide_eq_true c10; clear c10
      by_cases c11 : x20_1 < (tbf.length : Int)
      ·rw [if_pos c11] at H; have c11b0 : decide (x20_1 < (tbf.length : Int)) = true := decide_eq_true c11; clear c11
       by_cases c12 : ((rd_T137 tbf x20_1).f0) = a1
       ·rw [if_pos c12] at H; have c12b0 : (((rd_T137 tbf x20_1).f0) == a1) = true := beq_iff_eq.mpr c12; have c12b1 : (((rd_T137 tbf x20_1).f0) != a1) = false := bne_eq_false_iff_eq.mpr c12; clear c12; simp only [Option.some.injEq, Prod.mk.injEq] at H; obtain ⟨rfl, rfl⟩ := H; have p161 : 0 ≤ (x20_1 : Int) := of_decide_eq_true Zq5; have q161 : x20_1 < (tbf.length : Int) := of_decide_eq_true Zq5; obtain ⟨adbV, AbV_1, cbV_1, e161, hx161_0, hx161_1, hl161_1, hi161_1⟩ := at_T137 (Kd.S_reads' HO_18.out).2.2 x20_1 p161 q161
        cases e161
        obtain ⟨ce161, hce161, hMe161, hcc161⟩ := Kd.S_get HO_18.out z137 x20_1 p161 (by first | exact q161 | exact of_decide_eq_true Zq5 | (have e_ := (Kd.S_reads' HO_18.out).1; omega)); obtain ⟨ve161_1, rfl, ge161_1⟩ := k137_openM hMe161; have hv161_1 := hcc161 1 _ rfl; rw [add_field _ _ 1 Zq1] at hv161_1; replace hv161_1 := Option.some.inj (hv161_1.symm.trans hx161_1); rw [hv161_1] at ge161_1; have HL161_1 := Ak (show Kd.R (Kd.int .i64) 3 _ _ _ _ ((rd_T137 tbf x20_1).f1) from ge161_1); clear hv161_1 ge161_1 hcc161 hce161; have HRbV_1 := Ak hi161_1; have HCbV_1 := Ak hl161_1; clear hi161_1 hl161_1; replace p161 := eq_true p161; replace q161 := eq_true q161
        go_wp2_with (first | ((with_reducible refine gate_dst (N := 9) rfl ?_); refine box_event ?hg (N := 9) ?hd (cs := #[.int .u32 0, .slice none 0 0]) (t := 137) ?hr ?_; (case hd | hg => rfl); (case hr => first | (go_simp; done) | (go_simp; rfl)); intro gbbJ hg w13 hbox hb; have n0_ := Zq260; have n1_ := Zq278; have n2_ := Zq173; have n3_ := Ak (Kd.C_below (by repeat (first | (with_reducible exact HRbV_1.out) | (with_reducible refine Kd.C_alloc ?_ _) | (with_reducible refine Kd.C_drewN ?_ _) | (with_reducible refine Kd.C_drew ?_) | exact HRbV_1.out)) hb); have n4_ := Ak (below_step Zq51 hb); have n5_ := Ak (hbox); have n6_ := Zq238; have n7_ := Zq238; have n8_ := Ak ((by rw [hg]; exact Nat.ne_of_lt Zq177 : gbaY ≠ gbbJ)); have n9_ := Ak ((by rw [hg]; exact Nat.ne_of_gt Zq177 : gbbJ ≠ gbaY)); clear HO_18 HL161_1 BKaY HRbV_1 HB; have HO_18 := n0_; have HL161_1 := n1_; have BKaY := n2_; have HRbV_1 := n3_; have HB := n4_; have BKbJ := n5_; have GWbJ := n6_; have GEbJ := n7_; have NB156_162 := n8_; have NB162_156 := n9_; clear n0_ n1_ n2_ n3_ n4_ n5_ n6_ n7_ n8_ n9_ hb hbox hg; have hnb14 := NB162_156.out; have hnc14 := NB156_162.out; have hcz15_0 : w13.cell? ⟨gbbJ, 0, none⟩ = some (.int .u32 0) := (blk_cell BKbJ.out 0).trans rfl; have hcz15_1 : w13.cell? ⟨gbbJ, 1, none⟩ = some (.slice none 0 0) := (blk_cell BKbJ.out 1).trans rfl; have hfz15_0 := blk_frozen BKbJ.out 0; have hfz15_1 := blk_frozen BKbJ.out 1))
        go_ret2
        exact ⟨_, Zq13, by (with_reducible repeat (first | apply Kd.R_alloc | apply Kd.R_drewN | apply Kd.R_drew)); exact Kd.R_mono (Kd.R_far (p := ⟨gbbJ, 1, none⟩) (Kd.R_far (p := ⟨gbbJ, 0, none⟩) (Kd.R_types HL161_1.out BKbJ.out Zq4) (fun _ hk => hk.2) (.int .u32 ((rd_T137 tbf x20_1).f0))) (fun _ hk => hk.2) (.slice AbV_1 ((rd_T137 tbf x20_1).f1).length cbV_1)) (fun _ hk => trivial), by repeat (first | (with_reducible first | exact HB.out | apply below_alloc | apply pw_below_drewN | apply below_drew1 | refine below_set ?_ GEaY.out | refine below_set ?_ GEbJ.out) | exact HB.out)⟩
       ·rw [if_neg c12] at H; have c12b0 : (((rd_T137 tbf x20_1).f0) == a1) = false := beq_eq_false_iff_ne.mpr c12; have c12b1 : (((rd_T137 tbf x20_1).f0) != a1) = true := bne_iff_ne.mpr c12; have H' := Ak H; clear H; have p161 : 0 ≤ (x20_1 : Int) := of_decide_eq_true Zq5; have q161 : x20_1 < (tbf.length : Int) := of_decide_eq_true Zq5; obtain ⟨adbV, AbV_1, cbV_1, e161, hx161_0, hx161_1, hl161_1, hi161_1⟩ := at_T137 (Kd.S_reads' HO_18.out).2.2 x20_1 p161 q161
        cases e161
        obtain ⟨ce161, hce161, hMe161, hcc161⟩ := Kd.S_get HO_18.out z137 x20_1 p161 (by first | exact q161 | exact of_decide_eq_true Zq5 | (have e_ := (Kd.S_reads' HO_18.out).1; omega)); obtain ⟨ve161_1, rfl, ge161_1⟩ := k137_openM hMe161; have hv161_1 := hcc161 1 _ rfl; rw [add_field _ _ 1 Zq1] at hv161_1; replace hv161_1 := Option.some.inj (hv161_1.symm.trans hx161_1); rw [hv161_1] at ge161_1; have HL161_1 := Ak (show Kd.R (Kd.int .i64) 3 _ _ _ _ ((rd_T137 tbf x20_1).f1) from ge161_1); clear hv161_1 ge161_1 hcc161 hce161; have HRbV_1 := Ak hi161_1; have HCbV_1 := Ak hl161_1; clear hi161_1 hl161_1; replace p161 := eq_true p161; replace q161 := eq_true q161
        go_wp2_with (first | ((with_reducible refine gate_dst (N := 9) rfl ?_); refine box_event ?hg (N := 9) ?hd (cs := #[.int .u32 0, .slice none 0 0]) (t := 137) ?hr ?_; (case hd | hg => rfl); (case hr => first | (go_simp; done) | (go_simp; rfl)); intro gbbJ hg w16 hbox hb; have n0_ := Zq260; have n1_ := Zq278; have n2_ := Zq173; have n3_ := Ak (Kd.C_below (by repeat (first | (with_reducible exact HRbV_1.out) | (with_reducible refine Kd.C_alloc ?_ _) | (with_reducible refine Kd.C_drewN ?_ _) | (with_reducible refine Kd.C_drew ?_) | exact HRbV_1.out)) hb); have n4_ := Ak (below_step Zq51 hb); have n5_ := Ak (hbox); have n6_ := Zq238; have n7_ := Zq238; have n8_ := Ak ((by rw [hg]; exact Nat.ne_of_lt Zq177 : gbaY ≠ gbbJ)); have n9_ := Ak ((by rw [hg]; exact Nat.ne_of_gt Zq177 : gbbJ ≠ gbaY)); clear HO_18 HL161_1 BKaY HRbV_1 HB; have HO_18 := n0_; have HL161_1 := n1_; have BKaY := n2_; have HRbV_1 := n3_; have HB := n4_; have BKbJ := n5_; have GWbJ := n6_; have GEbJ := n7_; have NB156_162 := n8_; have NB162_156 := n9_; clear n0_ n1_ n2_ n3_ n4_ n5_ n6_ n7_ n8_ n9_ hb hbox hg; have hnb17 := NB162_156.out; have hnc17 := NB156_162.out; have hcz18_0 : w16.cell? ⟨gbbJ, 0, none⟩ = some (.int .u32 0) := (blk_cell BKbJ.out 0).trans rfl; have hcz18_1 : w16.cell? ⟨gbbJ, 1, none⟩ = some (.slice none 0 0) := (blk_cell BKbJ.out 1).trans rfl; have hfz18_0 := blk_frozen BKbJ.out 0; have hfz18_1 := blk_frozen BKbJ.out 1))
        go_roundg k1
        case measure => have := HK1.out; omega
        case rel => exact ⟨(wrap64 (x20_1 + 1)), Zq7, H', ⟨Zq27⟩, ⟨by (with_reducible repeat (first | apply Kd.S_alloc | apply Kd.S_drewN | apply Kd.S_drew)); exact Kd.S_mono (Kd.S_far (p := ⟨gbbJ, 1, none⟩) (Kd.S_far (p := ⟨gbbJ, 0, none⟩) (Kd.S_mono HO_18.out (fun k_ hk => (⟨hk, hk.2⟩ : _ ∧ k_ ≠ gbbJ))) (fun _ hk => hk.2) (.int .u32 ((rd_T137 tbf x20_1).f0))) (fun _ hk => hk.2) (.slice AbV_1 ((rd_T137 tbf x20_1).f1).length cbV_1)) (fun _ hk => trivial)⟩, ⟨by (with_reducible repeat (first | refine blk_drewN ?_ _ | refine blk_drew ?_ | refine blk_alloc ?_ _)); refine blk_far ?_ NB156_162.out _; (with_reducible repeat (first | refine blk_drewN ?_ _ | refine blk_drew ?_ | refine blk_alloc ?_ _)); refine blk_far ?_ NB156_162.out _; (with_reducible repeat (first | refine blk_drewN ?_ _ | refine blk_drew ?_ | refine blk_alloc ?_ _)); exact BKaY.out⟩, ⟨by repeat (first | (with_reducible first | exact HB.out | apply below_alloc | apply pw_below_drewN | apply below_drew1 | refine below_set ?_ GEaY.out | refine below_set ?_ GEbJ.out) | exact HB.out)⟩⟩
      ·rw [if_neg c11] at H; exact absurd H Zq10
     ·rw [if_neg c10] at H; exact absurd H Zq10
    ·rw [if_neg c9] at H; have c9b0 : decide (x20_1 < (tbf.length : Int)) = false := decide_eq_false c9; clear c9; simp only [Option.some.injEq, Prod.mk.injEq] at H; obtain ⟨rfl, rfl⟩ := H
     go_wp2
     go_ret2
     exact ⟨_, Zq13, Zq34, Zq51⟩
 ·rw [if_neg c4] at H; have c4b0 : (tcs == 0) = false := beq_eq_false_iff_ne.mpr c4; have c4b1 : (tcs != 0) = true := bne_iff_ne.mpr c4; simp only [Option.some.injEq, Prod.mk.injEq] at H; obtain ⟨rfl, rfl⟩ := H
  go_enter Try.func57, Try.ntmps57
  go_wp2_with (first | ((with_reducible refine gate_dst (N := 2) rfl ?_); refine box_event ?hg (N := 2) ?hd (cs := #[.int .u32 a0_0, .slice A0_1 l0_1.length c0_1, .string a0_2, .slice A0_3 l0_3.length c0_3, .slice A0_4 l0_4.length c0_4]) (t := 29) ?hr ?_; (case hd | hg => rfl); (case hr => first | (go_simp; done) | (go_simp; rfl)); intro gbaY hg w19 hbox hb; have n0_ := Zq142; have n1_ := Ak (hbox); have n2_ := Zq243; have n3_ := Zq243; clear HB; have HB := n0_; have BKaY := n1_; have GWaY := n2_; have GEaY := n3_; clear n0_ n1_ n2_ n3_ hb hbox hg; have hcz20_0 : w19.cell? ⟨gbaY, 0, none⟩ = some (.int .u32 a0_0) := (blk_cell BKaY.out 0).trans rfl; have hcz20_1 : w19.cell? ⟨gbaY, 1, none⟩ = some (.slice A0_1 l0_1.length c0_1) := (blk_cell BKaY.out 1).trans rfl; have hcz20_2 : w19.cell? ⟨gbaY, 2, none⟩ = some (.string a0_2) := (blk_cell BKaY.out 2).trans rfl; have hcz20_3 : w19.cell? ⟨gbaY, 3, none⟩ = some (.slice A0_3 l0_3.length c0_3) := (blk_cell BKaY.out 3).trans rfl; have hcz20_4 : w19.cell? ⟨gbaY, 4, none⟩ = some (.slice A0_4 l0_4.length c0_4) := (blk_cell BKaY.out 4).trans rfl; have hfz20_0 := blk_frozen BKaY.out 0; have hfz20_1 := blk_frozen BKaY.out 1; have hfz20_2 := blk_frozen BKaY.out 2; have hfz20_3 := blk_frozen BKaY.out 3; have hfz20_4 := blk_frozen BKaY.out 4) | ((with_reducible refine gate_callee (f := 78) rfl ?_); refine goesL_ (some 12) rfl rfl Try.func78 Zq2 rfl #[.agg #[.int .u32 a0_0, .slice A0_1 l0_1.length c0_1, .string a0_2, .slice A0_3 l0_3.length c0_3, .slice A0_4 l0_4.length c0_4]] rfl Zq8 ?_; (with_reducible refine (handle_Index.calls k a0_0 _ _ l0_1 a0_2 _ _ l0_3 _ _ l0_4 tbf tcs _ ?side1 ?side2 ?side3 ?side4 ?side5 ?side6 A3.out).mono ?_); (case side1 => repeat (first | exact Zq138 | (with_reducible refine Kd.C_alloc ?_ _) | (with_reducible refine Kd.C_drewN ?_ _) | (with_reducible refine Kd.C_drew ?_))); (case side2 => exact HC0_1.out); (case side3 => repeat (first | exact Zq153 | (with_reducible refine Kd.C_alloc ?_ _) | (with_reducible refine Kd.C_drewN ?_ _) | (with_reducible refine Kd.C_drew ?_))); (case side4 => exact HC0_3.out); (case side5 => repeat (first | exact Zq154 | (with_reducible refine Kd.C_alloc ?_ _) | (with_reducible refine Kd.C_drewN ?_ _) | (with_reducible refine Kd.C_drew ?_))); (case side6 => exact HC0_4.out); rintro e w21 ⟨v158, rfl, ho0, hb⟩; refine ⟨_, rfl, ?_⟩; have n0_ := Ak (Kd.S_lower ho0 (below_size Zq51)); have n1_ := Zq173; have n2_ := Ak (below_step Zq51 hb); clear BKaY HB; have HOej := n0_; have BKaY := n1_; have HB := n2_; clear n0_ n1_ n2_; (try clear hb); (try clear hb2); (try clear hk); (try clear hi); (try clear ho0)))
  go_ret2
  exact ⟨_, Zq13, Zq34, Zq51⟩
def irq_Parent.l0 : Nat → List Int → Int → Int → List (S82) → ByteArray → List (S63) → List (S27) → Option (List Int × Int)
 | 0, _, _, _, _, _, _, _ => none
 | k + 1, x1, x8, xeB, xeC, xeD, xeE, xeF => if x8 ≥ 0 then (if 0 ≤ x8 then (if x8 ≤ (x1.length : Int) then ((path_Get.f k xeB xeC xeD xeE xeF (x1.take (x8 : Int).toNat)).bind fun btaI => ((prop_One.f k btaI.1 btaI.2.1 btaI.2.2.1 (⟨#[105, 110, 116, 101, 114, 114, 117, 112, 116, 45, 112, 97, 114, 101, 110, 116]⟩ : ByteArray)).bind fun btbW => (if btbW.2.2 = 0 then (if btbW.2.1 = true then ((handle_Find.f k xeB xeC xeD xeE xeF btbW.1).bind fun btcz => (some (btcz.1, btcz.2))) else (irq_Parent.l0 k x1 (wrap64 (x8 - 1)) xeB xeC xeD xeE xeF)) else (some (([] : List Int), btbW.2.2))))) else (none)) else (none)) else (some (([] : List Int), 8))
def irq_Parent.f (k : Nat) (a0_0 : Int) (l0_1 : List (S82)) (a0_2 : ByteArray) (l0_3 : List (S63)) (l0_4 : List (S27)) (l1 : List Int) : Option (List Int × Int) := (path_Get.f k a0_0 l0_1 a0_2 l0_3 l0_4 l1).bind fun btbO => (if btbO.2.2.2 = 0 then (irq_Parent.l0 k l1 (l1.length : Int) a0_0 l0_1 a0_2 l0_3 l0_4) else (some (([] : List Int), btbO.2.2.2)))
def irq_Parent.T7 : Bool × List (List Nat × List Nat) := (true, [([], []), ([], []), ([], []), ([1, 2], [1, 2]), ([0, 3], [0, 3]), ([4], [4]), ([5], [5]), ([5], [5]), ([], []), ([8, 6, 4, 0, 1, 2, 3, 4, 5, 6, 8], [6, 8]), ([7, 9, 0, 1, 2, 3, 4, 5, 6, 7, 8, 9], [7])])
def irq_Parent.B7 : List Nat := [0, 0, 0, 6, 15, 31, 63, 63, 0, 383, 1023]
theorem irq_Parent.tab7 : rtab .any (opsOf Try.f27 7) = irq_Parent.T7 := by kernel_rfl
theorem irq_Parent.bits7 : waitsOk irq_Parent.T7.2 irq_Parent.B7 = true := by kernel_rfl
end Go.Proofs.Ytkopmkinlanhoaa.PB

namespace Go.Proofs.Ytkopmkinlanhoaa.PB
open Go.RowKit Go.Proofs.YtkopmkinlanhoaaW.PrintWords Go.Proofs.YtkopmkinlanhoaaW.PrintLast Go.Proofs.YtkopmkinlanhoaaW.PrintMore
attribute [local go_sem] max2_int min2_int max_two min_two max_three min_three max_four min_four
set_option maxHeartbeats 8000000 in
set_option maxRecDepth 100000 in
theorem irq_Parent.calls (k : Nat) (a0_0 : Int) (A0_1 : Option Addr) (c0_1 : Nat) (l0_1 : List (S82)) (a0_2 : ByteArray) (A0_3 : Option Addr) (c0_3 : Nat) (l0_3 : List (S63)) (A0_4 : Option Addr) (c0_4 : Nat) (l0_4 : List (S27)) (A1 : Option Addr) (c1 : Nat) (l1 : List Int) (r1 : List Int) (r2 : Int) (w : World) (hr0_1 : Kd.C k82 w A0_1 l0_1.length l0_1) (hc0_1 : l0_1.length ≤ c0_1) (hr0_3 : Kd.C k63 w A0_3 l0_3.length l0_3) (hc0_3 : l0_3.length ≤ c0_3) (hr0_4 : Kd.C k27 w A0_4 l0_4.length l0_4) (hc0_4 : l0_4.length ≤ c0_4) (hr1 : Kd.C (Kd.int .i64) w A1 l1.length l1) (hc1 : l1.length ≤ c1) (h : irq_Parent.f k a0_0 l0_1 a0_2 l0_3 l0_4 l1 = some (r1, r2)) :
  Calls Try.prog 27 #[.agg #[.int .u32 a0_0, .slice A0_1 l0_1.length c0_1, .string a0_2, .slice A0_3 l0_3.length c0_3, .slice A0_4 l0_4.length c0_4], .slice A1 l1.length c1] w fun e w' => ∃ v0_ : Value, e = .returned (.tuple #[v0_, .int .i64 r2]) ∧ Kd.R (Kd.int .i64) 3 w' w.heap.size (fun _ => True) v0_ r1 ∧ Below w.heap.size w w' := by
 have hu29 := Try.underlying29; have hu27 := Try.underlying27; have HR0_1 := Ak hr0_1; have HC0_1 := Ak hc0_1; clear hr0_1 hc0_1; have HR0_3 := Ak hr0_3; have HC0_3 := Ak hc0_3; clear hr0_3 hc0_3; have HR0_4 := Ak hr0_4; have HC0_4 := Ak hc0_4; clear hr0_4 hc0_4; have HR1 := Ak hr1; have HC1 := Ak hc1; clear hr1 hc1; have HB := Zq151; have H : ((path_Get.f k a0_0 l0_1 a0_2 l0_3 l0_4 l1).bind fun btbO => (if btbO.2.2.2 = 0 then (irq_Parent.l0 k l1 (l1.length : Int) a0_0 l0_1 a0_2 l0_3 l0_4) else (some (([] : List Int), btbO.2.2.2)))) = some (r1, r2) := h; clear h; replace H := Option.bind_eq_some_iff.mp H; obtain ⟨⟨tbO, taz, tbz, tdh⟩, A30, H⟩ := H; replace H : (if tdh = 0 then (irq_Parent.l0 k l1 (l1.length : Int) a0_0 l0_1 a0_2 l0_3 l0_4) else (some (([] : List Int), tdh))) = some (r1, r2) := H; have A3 := Ak A30; clear A30
 by_cases c4 : tdh = 0
 ·rw [if_pos c4] at H; have c4b0 : (tdh == 0) = true := beq_iff_eq.mpr c4; have c4b1 : (tdh != 0) = false := bne_eq_false_iff_eq.mpr c4; clear c4; have H' := Ak H; clear H
  go_enter Try.func27, Try.ntmps27
  go_wp2_with (first | ((with_reducible refine gate_dst (N := 2) rfl ?_); refine box_event ?hg (N := 2) ?hd (cs := #[.int .u32 a0_0, .slice A0_1 l0_1.length c0_1, .string a0_2, .slice A0_3 l0_3.length c0_3, .slice A0_4 l0_4.length c0_4]) (t := 29) ?hr ?_; (case hd | hg => rfl); (case hr => first | (go_simp; done) | (go_simp; rfl)); intro gbad hg w5 hbox hb; have n0_ := Zq142; have n1_ := Ak (hbox); have n2_ := Zq244; have n3_ := Zq244; clear HB; have HB := n0_; have BKad := n1_; have GWad := n2_; have GEad := n3_; clear n0_ n1_ n2_ n3_ hb hbox hg; have hcz6_0 : w5.cell? ⟨gbad, 0, none⟩ = some (.int .u32 a0_0) := (blk_cell BKad.out 0).trans rfl; have hcz6_1 : w5.cell? ⟨gbad, 1, none⟩ = some (.slice A0_1 l0_1.length c0_1) := (blk_cell BKad.out 1).trans rfl; have hcz6_2 : w5.cell? ⟨gbad, 2, none⟩ = some (.string a0_2) := (blk_cell BKad.out 2).trans rfl; have hcz6_3 : w5.cell? ⟨gbad, 3, none⟩ = some (.slice A0_3 l0_3.length c0_3) := (blk_cell BKad.out 3).trans rfl; have hcz6_4 : w5.cell? ⟨gbad, 4, none⟩ = some (.slice A0_4 l0_4.length c0_4) := (blk_cell BKad.out 4).trans rfl; have hfz6_0 := blk_frozen BKad.out 0; have hfz6_1 := blk_frozen BKad.out 1; have hfz6_2 := blk_frozen BKad.out 2; have hfz6_3 := blk_frozen BKad.out 3; have hfz6_4 := blk_frozen BKad.out 4) | ((with_reducible refine gate_callee (f := 28) rfl ?_); refine goesL_ (some 17) rfl rfl Try.func28 Zq2 rfl #[.agg #[.int .u32 a0_0, .slice A0_1 l0_1.length c0_1, .string a0_2, .slice A0_3 l0_3.length c0_3, .slice A0_4 l0_4.length c0_4], .slice A1 l1.length c1] rfl Zq8 ?_; (with_reducible refine (path_Get.calls k a0_0 _ _ l0_1 a0_2 (fun k_ => k_ < w.heap.size) _ _ l0_3 (fun k_ => k_ < w.heap.size) _ _ l0_4 _ _ l1 tbO taz tbz tdh _ ?side1 ?side2 ?side3 ?side4 ?side5 ?side6 A3.out).mono ?_); (case side1 => repeat (first | exact Zq138 | (with_reducible refine Kd.C_alloc ?_ _) | (with_reducible refine Kd.C_drewN ?_ _) | (with_reducible refine Kd.C_drew ?_))); (case side2 => exact HC0_1.out); (case side3 => exact Kd.V_mk HC0_3.out (Kd.F_below (Kd.C_F k63_heap HR0_3.out) Zq45)); (case side4 => exact Kd.V_mk HC0_4.out (Kd.F_below (Kd.C_F k27_heap HR0_4.out) Zq45)); (case side5 => repeat (first | exact (Kd.C_below HR1.out HB.out) | (with_reducible refine Kd.C_alloc ?_ _) | (with_reducible refine Kd.C_drewN ?_ _) | (with_reducible refine Kd.C_drew ?_))); (case side6 => exact HC1.out); rintro e w7 ⟨v166, v169, rfl, ho0, ho1, hb⟩; refine ⟨_, rfl, ?_⟩; have n0_ := Ak (Kd.S_lower (Kd.S_mono (ok' := fun k_ => True) ho0 (fun _ hk_ => trivial)) (below_size Zq45)); have n1_ := Zq283; have n2_ := Zq134; have n3_ := Ak (below_step Zq45 hb); clear BKad HB; have HOdi := n0_; have HOcM := n1_; have BKad := n2_; have HB := n3_; clear n0_ n1_ n2_ n3_; (try clear hb); (try clear hb2); (try clear hk); (try clear hi); (try clear ho0); (try clear ho1)) | ((with_reducible refine gate_dst (N := 6) rfl ?_); refine box_event ?hg (N := 6) ?hd (cs := #[.string (⟨#[]⟩ : ByteArray), .slice none 0 0, .slice none 0 0]) (t := 27) ?hr ?_; (case hd | hg => rfl); (case hr => first | (go_simp; done) | (go_simp; rfl)); intro gban hg w8 hbox hb; have n0_ := Zq279; have n1_ := Zq261; have n2_ := Zq134; have n3_ := Ak (below_step Zq45 hb); have n4_ := Ak (hbox); have n5_ := Zq239; have n6_ := Zq239; have n7_ := Ak ((by rw [hg]; exact Nat.ne_of_lt Zq135 : gbad ≠ gban)); have n8_ := Ak ((by rw [hg]; exact Nat.ne_of_gt Zq135 : gban ≠ gbad)); clear HOdi HOcM BKad HB; have HOdi := n0_; have HOcM := n1_; have BKad := n2_; have HB := n3_; have BKan := n4_; have GWan := n5_; have GEan := n6_; have NB163_172 := n7_; have NB172_163 := n8_; clear n0_ n1_ n2_ n3_ n4_ n5_ n6_ n7_ n8_ hb hbox hg; have hnb9 := NB172_163.out; have hnc9 := NB163_172.out; have hcz10_0 : w8.cell? ⟨gban, 0, none⟩ = some (.string (⟨#[]⟩ : ByteArray)) := (blk_cell BKan.out 0).trans rfl; have hcz10_1 : w8.cell? ⟨gban, 1, none⟩ = some (.slice none 0 0) := (blk_cell BKan.out 1).trans rfl; have hcz10_2 : w8.cell? ⟨gban, 2, none⟩ = some (.slice none 0 0) := (blk_cell BKan.out 2).trans rfl; have hfz10_0 := blk_frozen BKan.out 0; have hfz10_1 := blk_frozen BKan.out 1; have hfz10_2 := blk_frozen BKan.out 2; obtain ⟨Ao11, co11, eo11⟩ := Kd.S_slice HOdi.out; subst eo11; obtain ⟨Ao12, co12, eo12⟩ := Kd.R_slice HOcM.out; subst eo12))
  go_loopg [8] k (fun kq v8 w' => ∃ (x8_1 : Int), v8 = .int .i64 x8_1 ∧ Aside0 (irq_Parent.l0 kq l1 x8_1 a0_0 l0_1 a0_2 l0_3 l0_4 = some (r1, r2)) ∧ Aside0 (kq ≤ k) ∧ Aside0 (Kd.S k63 63 w' w.heap.size (fun _ => True) (.slice Ao11 taz.length co11) taz) ∧ Aside0 (Kd.R k27 27 w' w.heap.size (fun k_ => some k_ ≠ ((.slice Ao11 taz.length co11) : Value).ownBlock ∧ k_ ≠ gban) (.slice Ao12 tbz.length co12) tbz) ∧ Aside0 (w'.heap[gbad]? = some (.cells #[.int .u32 a0_0, (.slice A0_1 l0_1.length c0_1), .string a0_2, (.slice A0_3 l0_3.length c0_3), (.slice A0_4 l0_4.length c0_4)] 29 (0, 0))) ∧ Aside0 (w'.heap[gban]? = some (.cells #[.string tbO, (.slice Ao11 taz.length co11), (.slice Ao12 tbz.length co12)] 27 (0, 0))) ∧ Aside0 (Below w.heap.size w w'))
  case atStart => exact ⟨((l1.length : Int)), Zq7, H', ⟨Nat.le_refl _⟩, ⟨by (with_reducible repeat (first | apply Kd.S_alloc | apply Kd.S_drewN | apply Kd.S_drew)); exact Kd.S_mono (Kd.S_far (p := ⟨gban, 2, none⟩) (Kd.S_far (p := ⟨gban, 1, none⟩) (Kd.S_far (p := ⟨gban, 0, none⟩) (Kd.S_types HOdi.out BKan.out Zq4) (fun _ hk => hk.2) (.string tbO)) (fun _ hk => hk.2) (.slice Ao11 taz.length co11)) (fun _ hk => hk.2) (.slice Ao12 tbz.length co12)) (fun _ hk => trivial)⟩, ⟨by (with_reducible repeat (first | apply Kd.R_alloc | apply Kd.R_drewN | apply Kd.R_drew)); exact Kd.R_mono (Kd.R_far (p := ⟨gban, 2, none⟩) (Kd.R_far (p := ⟨gban, 1, none⟩) (Kd.R_far (p := ⟨gban, 0, none⟩) (Kd.R_mono HOcM.out (fun k_ hk => (⟨hk, hk.2⟩ : _ ∧ k_ ≠ gban))) (fun _ hk => hk.2) (.string tbO)) (fun _ hk => hk.2) (.slice Ao11 taz.length co11)) (fun _ hk => hk.2) (.slice Ao12 tbz.length co12)) (fun _ hk => ⟨hk.1.1, hk.1.2⟩)⟩, ⟨by (with_reducible repeat (first | refine blk_drewN ?_ _ | refine blk_drew ?_ | refine blk_alloc ?_ _)); refine blk_far ?_ NB163_172.out _; (with_reducible repeat (first | refine blk_drewN ?_ _ | refine blk_drew ?_ | refine blk_alloc ?_ _)); refine blk_far ?_ NB163_172.out _; (with_reducible repeat (first | refine blk_drewN ?_ _ | refine blk_drew ?_ | refine blk_alloc ?_ _)); refine blk_far ?_ NB163_172.out _; (with_reducible repeat (first | refine blk_drewN ?_ _ | refine blk_drew ?_ | refine blk_alloc ?_ _)); exact BKad.out⟩, ⟨by (with_reducible repeat (first | refine blk_drewN ?_ _ | refine blk_drew ?_ | refine blk_alloc ?_ _)); refine blk_put (cs := #[.string tbO, .slice Ao11 taz.length co11, .slice none 0 0]) ?_ 2 _ rfl; (with_reducible repeat (first | refine blk_drewN ?_ _ | refine blk_drew ?_ | refine blk_alloc ?_ _)); refine blk_put (cs := #[.string tbO, .slice none 0 0, .slice none 0 0]) ?_ 1 _ rfl; (with_reducible repeat (first | refine blk_drewN ?_ _ | refine blk_drew ?_ | refine blk_alloc ?_ _)); refine blk_put (cs := #[.string (⟨#[]⟩ : ByteArray), .slice none 0 0, .slice none 0 0]) ?_ 0 _ rfl; (with_reducible repeat (first | refine blk_drewN ?_ _ | refine blk_drew ?_ | refine blk_alloc ?_ _)); exact BKan.out⟩, ⟨Zq21⟩⟩
  case round =>
   clear H'
   try clear c1
   try clear c2
   try clear p2
   try clear c4
   try clear c4b0
   try clear c4b1
   try clear c9
   try clear hcz10_0
   try clear hcz10_1
   try clear hcz10_2
   try clear hcz6_0
   try clear hcz6_1
   try clear hcz6_2
   try clear hcz6_3
   try clear hcz6_4
   try clear hfz10_0
   try clear hfz10_1
   try clear hfz10_2
   try clear hfz6_0
   try clear hfz6_1
   try clear hfz6_2
   try clear hfz6_3
   try clear hfz6_4
   obtain ⟨x8_1, rfl, HA, HK1, HO_bc, HO_bb, BKad, BKan, HB⟩ := hrel
   cases gk with
   | zero => exact absurd HA.out (by simp [irq_Parent.l0])
   | succ k1 =>
    have H := HA.out; clear HA; simp only [irq_Parent.l0] at H
    by_cases c13 : x8_1 ≥ 0
    ·rw [if_pos c13] at H; have c13b0 : decide (0 ≤ x8_1) = true := decide_eq_true c13; clear c13
     by_cases c14 : 0 ≤ x8_1
     ·rw [if_pos c14] at H; have c14b0 := eq_true c14; have c14b1 : decide (0 ≤ x8_1) = true := decide_eq_true c14; clear c14
      by_cases c15 : x8_1 ≤ (l1.length : Int)
      ·rw [if_pos c15] at H; have c15b0 := eq_true c15; have c15b1 : decide (x8_1 ≤ (l1.length : Int)) = true := decide_eq_true c15; clear c15; replace H := Option.bind_eq_some_iff.mp H; obtain ⟨⟨taI, tbg, tbr, tcu⟩, Acs, H⟩ := H; replace H : ((prop_One.f k1 taI tbg tbr (⟨#[105, 110, 116, 101, 114, 114, 117, 112, 116, 45, 112, 97, 114, 101, 110, 116]⟩ : ByteArray)).bind fun btbW => (if btbW.2.2 = 0 then (if btbW.2.1 = true then ((handle_Find.f k1 a0_0 l0_1 a0_2 l0_3 l0_4 btbW.1).bind fun btcz => (some (btcz.1, btcz.2))) else (irq_Parent.l0 k1 l1 (wrap64 (x8_1 - 1)) a0_0 l0_1 a0_2 l0_3 l0_4)) else (some (([] : List Int), btbW.2.2)))) = some (r1, r2) := H; have A16 := Ak Acs; clear Acs; replace H := Option.bind_eq_some_iff.mp H; obtain ⟨⟨tbW, teG, tdb⟩, AcM, H⟩ := H; replace H : (if tdb = 0 then (if teG = true then ((handle_Find.f k1 a0_0 l0_1 a0_2 l0_3 l0_4 tbW).bind fun btcz => (some (btcz.1, btcz.2))) else (irq_Parent.l0 k1 l1 (wrap64 (x8_1 - 1)) a0_0 l0_1 a0_2 l0_3 l0_4)) else (some (([] : List Int), tdb))) = some (r1, r2) := H; have A17 := Ak AcM; clear AcM
       by_cases c18 : tdb = 0
       ·rw [if_pos c18] at H; have c18b0 : (tdb == 0) = true := beq_iff_eq.mpr c18; have c18b1 : (tdb != 0) = false := bne_eq_false_iff_eq.mpr c18; clear c18
        by_cases c19 : teG = true
        ·subst c19
         have H1 : ((handle_Find.f k1 a0_0 l0_1 a0_2 l0_3 l0_4 tbW).bind fun btcz => (some (btcz.1, btcz.2))) = some (r1, r2) := by rw [if_pos rfl] at H; exact H
         clear H; have H := H1; clear H1; replace H := Option.bind_eq_some_iff.mp H; obtain ⟨⟨tcz, tek⟩, Aco, H⟩ := H; replace H : (some (tcz, tek)) = some (r1, r2) := H; have A20 := Ak Aco; clear Aco; simp only [Option.some.injEq, Prod.mk.injEq] at H; obtain ⟨rfl, rfl⟩ := H
         try go_wp2
         have n0_ := Ak (Kd.S_drew HO_bc.out); have n1_ := Ak (Kd.R_drew HO_bb.out); have n2_ := Ak (blk_drew BKad.out); have n3_ := Ak (blk_drew BKan.out); have n4_ := Zq208; clear HO_bc HO_bb BKad BKan HB; have HO_bc := n0_; have HO_bb := n1_; have BKad := n2_; have BKan := n3_; have HB := n4_; clear n0_ n1_ n2_ n3_ n4_; obtain ⟨i022, hi022, _, hsz22, _⟩ := info_parts info3; obtain ⟨hcut22, hA22, hC22⟩ := print_take_of (P := Try.prog) (Value.int .i64) 0 30 3 .i64 Try.underlying30 hi022 hsz22 A1 c1 l1 x8_1 (of_decide_eq_true Zq5) (of_decide_eq_true Zq5) HC1.out; have HRca := Ak (Kd.C_of_reads (h1 := fun _ => rfl) (hA22 _ (Kd.reads_of_C HR1.out))); have HCca := Ak hC22; clear hA22 hC22 hi022 hsz22; refine start_ (n := 11) (S := fun w' => w'.cell? ⟨gbad, 0, none⟩ = some (.int .u32 a0_0) ∧ w'.cell? ⟨gbad, 1, none⟩ = some (.slice A0_1 l0_1.length c0_1) ∧ w'.cell? ⟨gbad, 2, none⟩ = some (.string a0_2) ∧ w'.cell? ⟨gbad, 3, none⟩ = some (.slice A0_3 l0_3.length c0_3) ∧ w'.cell? ⟨gbad, 4, none⟩ = some (.slice A0_4 l0_4.length c0_4)) (ds := []) #[false, false, false, false, false, false, false, false, false, false, false] Zq2 rfl rfl ⟨(blk_cell BKad.out 0).trans rfl, (blk_cell BKad.out 1).trans rfl, (blk_cell BKad.out 2).trans rfl, (blk_cell BKad.out 3).trans rfl, (blk_cell BKad.out 4).trans rfl⟩ (fun hHeld => ?_); refine with_tabW irq_Parent.tab7 irq_Parent.bits7 (fun HT_ HW_ => ?_); generalize wr.drew = w21 at HO_bc HO_bb BKad BKan HB HRca hHeld ⊢; refine pure_ (i := 1) (N := some 31) (v := ?_) (a' := ?_) #[false, true, false, false, false, false, false, false, false, false, false] rfl rfl (any_of HT_.out Zq2) (fun _ _ _ h => h) (Or.inl ⟨Zq3, ?_⟩) ?_ ?_
         rotate_left
         ·intro w'
          go_simp
          with_reducible rfl
         rotate_left
         ·simp only [Sx]
          rfl
         refine pure_ (i := 2) (N := some 32) (v := ?_) (a' := ?_) #[false, true, true, false, false, false, false, false, false, false, false] rfl rfl (any_of HT_.out Zq2) (fun _ _ _ h => h) (Or.inl ⟨Zq3, ?_⟩) ?_ ?_
         rotate_left
         ·intro w'
          go_simp
          with_reducible rfl
         rotate_left
         ·simp only [Sx]
          rfl
         refine pure_ (i := 3) (N := some 33) (v := ?_) (a' := ?_) #[false, true, true, true, false, false, false, false, false, false, false] rfl rfl (any_of HT_.out Zq2) (fun _ _ _ h => h) (Or.inl ⟨Zq3, ?_⟩) ?_ ?_
         rotate_left
         ·intro w'
          go_simp
          with_reducible rfl
         rotate_left
         ·simp only [Sx]
          rfl
         refine take_ (i := 0) (N := some 30) (v := ?_) (a' := ?_) #[true, true, true, true, false, false, false, false, false, false, false] rfl rfl (take_ofW HT_.out HW_.out Zq2) (fun _ _ _ h => h) (Or.inl ⟨Zq3, ?_⟩) hHeld ?_ ?_
         rotate_left
         ·rintro w' ⟨s0, s1, s2, s3, s4⟩
          go_simp
          with_reducible rfl
         rotate_left
         ·simp only [Sx]
          rfl
         refine join_ (σ := Value × Value × Nat) 2 #[true, true, true, true, true, true, true, true, true, false, false] (fun s_ => [(34, .tuple #[.agg #[.string taI, s_.1, s_.2.1], .int .i64 tcu]), (9, .pointer (some ⟨s_.2.2, 0, none⟩)), (29, .tuple #[.agg #[.string taI, s_.1, s_.2.1], .int .i64 tcu]), (35, .agg #[.string taI, s_.1, s_.2.1]), (36, .int .i64 tcu)]) (fun s_ w' => (w'.cell? ⟨gbad, 0, none⟩ = some (.int .u32 a0_0) ∧ w'.cell? ⟨gbad, 1, none⟩ = some (.slice A0_1 l0_1.length c0_1) ∧ w'.cell? ⟨gbad, 2, none⟩ = some (.string a0_2) ∧ w'.cell? ⟨gbad, 3, none⟩ = some (.slice A0_3 l0_3.length c0_3) ∧ w'.cell? ⟨gbad, 4, none⟩ = some (.slice A0_4 l0_4.length c0_4)) ∧ (Kd.S k63 63 w' w.heap.size (fun k_ => some k_ ≠ (.slice Ao11 taz.length co11 : Value).ownBlock) s_.1 tbg) ∧ (Kd.R k27 27 w' w.heap.size (fun k_ => some k_ ≠ (s_.1 : Value).ownBlock ∧ some k_ ≠ (.slice Ao11 taz.length co11 : Value).ownBlock ∧ some k_ ≠ (.slice Ao12 tbz.length co12 : Value).ownBlock ∧ k_ ≠ gban ∧ k_ ≠ s_.2.2) s_.2.1 tbr) ∧ (Kd.S k63 63 w' w.heap.size (fun k_ => some k_ ≠ (s_.1 : Value).ownBlock) (.slice Ao11 taz.length co11) taz) ∧ (Kd.R k27 27 w' w.heap.size (fun k_ => some k_ ≠ (s_.1 : Value).ownBlock ∧ some k_ ≠ (s_.2.1 : Value).ownBlock ∧ some k_ ≠ (.slice Ao11 taz.length co11 : Value).ownBlock ∧ k_ ≠ gban ∧ k_ ≠ s_.2.2) (.slice Ao12 tbz.length co12) tbz) ∧ (w'.heap[gbad]? = some (.cells #[.int .u32 a0_0, .slice A0_1 l0_1.length c0_1, .string a0_2, .slice A0_3 l0_3.length c0_3, .slice A0_4 l0_4.length c0_4] 29 (0, 0))) ∧ (w'.heap[gban]? = some (.cells #[.string tbO, .slice Ao11 taz.length co11, .slice Ao12 tbz.length co12] 27 (0, 0))) ∧ (w'.heap[s_.2.2]? = some (.cells #[.string (⟨#[]⟩ : ByteArray), .slice none 0 0, .slice none 0 0] 27 (0, 0))) ∧ (w.heap.size ≤ s_.2.2) ∧ (w.heap.size ≤ s_.2.2) ∧ (gbad ≠ s_.2.2) ∧ (s_.2.2 ≠ gbad) ∧ (gban ≠ s_.2.2) ∧ (s_.2.2 ≠ gban) ∧ (Below w.heap.size w w')) ?_ ?_
         rotate_left
         ·intro hCont; refine two_ (i := 4) (j := 8) (Ni := some 34) (Nj := some 9) #[true, true, true, true, true, false, false, false, false, false, false] #[true, true, true, true, false, false, false, false, true, false, false] rfl rfl rfl rfl (two_of HT_.out Zq2) Zq4 Zq4 (fun K hK => ?_) (fun K hK => ?_)
          ·skip
           refine goes_ Try.func28 Zq2 rfl #[.agg #[.int .u32 a0_0, .slice A0_1 l0_1.length c0_1, .string a0_2, .slice A0_3 l0_3.length c0_3, .slice A0_4 l0_4.length c0_4], .slice A1 (l1.take (x8_1 : Int).toNat).length c1] Zq3 rfl rfl Zq129 ?_; with_reducible refine (path_Get.calls k1 a0_0 _ _ l0_1 a0_2 (fun k_ => k_ < w.heap.size) _ _ l0_3 (fun k_ => k_ < w.heap.size) _ _ l0_4 _ _ (l1.take (x8_1 : Int).toNat) taI tbg tbr tcu _ ?side1 ?side2 ?side3 ?side4 ?side5 ?side6 A16.out).mono ?_
           (case side1 => repeat (first | exact Zq138 | (with_reducible refine Kd.C_alloc ?_ _) | (with_reducible refine Kd.C_drewN ?_ _) | (with_reducible refine Kd.C_drew ?_)))
           (case side2 => exact HC0_1.out)
           (case side3 => exact Kd.V_mk HC0_3.out (Kd.F_below (Kd.C_F k63_heap HR0_3.out) Zq21))
           (case side4 => exact Kd.V_mk HC0_4.out (Kd.F_below (Kd.C_F k27_heap HR0_4.out) Zq21))
           (case side5 => repeat (first | exact Zq276 | (with_reducible refine Kd.C_alloc ?_ _) | (with_reducible refine Kd.C_drewN ?_ _) | (with_reducible refine Kd.C_drew ?_)))
           (case side6 => exact HCca.out)
           rintro e w23 ⟨v176, v179, rfl, ho0, ho1, hb⟩
           refine ⟨_, rfl, ?_⟩; have n0_ := Zq231; have n1_ := Zq169; have n2_ := Zq224; have n3_ := Zq166; have n4_ := Zq134; have n5_ := Zq139; have n6_ := Zq230; clear HO_bc HO_bb BKad BKan HB; have HO_bc := n0_; have HO_bb := n1_; have HObG := n2_; have HObA := n3_; have BKad := n4_; have BKan := n5_; have HB := n6_; clear n0_ n1_ n2_ n3_ n4_ n5_ n6_
           (try clear hb)
           (try clear hb2)
           (try clear hk)
           (try clear hi)
           (try clear ho0)
           (try clear ho1)
           refine hK.out _ _ ⟨(blk_cell BKad.out 0).trans rfl, (blk_cell BKad.out 1).trans rfl, (blk_cell BKad.out 2).trans rfl, (blk_cell BKad.out 3).trans rfl, (blk_cell BKad.out 4).trans rfl⟩ (fun hHeld => ?_); clear hK K; refine norm_ (a' := ?_) ?_ ?_
           rotate_left
           ·show Act.put _ (some 34) _ = _
            simp only [Sx]
            rfl
           refine pure_ (i := 5) (N := some 29) (v := ?_) (a' := ?_) #[true, true, true, true, true, true, false, false, false, false, false] rfl rfl (any_of HT_.out Zq2) (fun _ _ _ h => h) (Or.inl ⟨Zq3, ?_⟩) ?_ ?_
           rotate_left
           ·intro w'
            go_simp
            with_reducible rfl
           rotate_left
           ·simp only [Sx]
            rfl
           refine pure_ (i := 6) (N := some 35) (v := ?_) (a' := ?_) #[true, true, true, true, true, true, true, false, false, false, false] rfl rfl (any_of HT_.out Zq2) (fun _ _ _ h => h) (Or.inl ⟨Zq3, ?_⟩) ?_ ?_
           rotate_left
           ·intro w'
            go_simp
            with_reducible rfl
           rotate_left
           ·simp only [Sx]
            rfl
           refine pure_ (i := 7) (N := some 36) (v := ?_) (a' := ?_) #[true, true, true, true, true, true, true, true, false, false, false] rfl rfl (any_of HT_.out Zq2) (fun _ _ _ h => h) (Or.inl ⟨Zq3, ?_⟩) ?_ ?_
           rotate_left
           ·intro w'
            go_simp
            with_reducible rfl
           rotate_left
           ·simp only [Sx]
            rfl
           refine one_ (i := 8) (N := some 9) #[true, true, true, true, true, true, true, true, true, false, false] rfl rfl (one_of HT_.out Zq2) Zq4 (fun K hK => ?_); refine box_step ?hg (N := 9) ?hd (cs := #[.string (⟨#[]⟩ : ByteArray), .slice none 0 0, .slice none 0 0]) (t := 27) ?hr ?_; (case hd | hg => rfl); (case hr => first | (go_simp; done) | (go_simp; rfl)); intro gbac hg w24 hbox hb; have n0_ := Zq255; have n1_ := Zq196; have n2_ := Ak (Kd.S_below Zq107 hb); have n3_ := Zq275; have n4_ := Zq134; have n5_ := Zq139; have n6_ := Zq230; have n7_ := Ak (hbox); have n8_ := Zq155; have n9_ := Zq155; have n10_ := Zq284; have n11_ := Zq285; have n12_ := Zq286; have n13_ := Zq287; clear HO_bc HO_bb HObG HObA BKad BKan HB; have HO_bc := n0_; have HO_bb := n1_; have HObG := n2_; have HObA := n3_; have BKad := n4_; have BKan := n5_; have HB := n6_; have BKac := n7_; have GWac := n8_; have GEac := n9_; have NB163_182 := n10_; have NB182_163 := n11_; have NB172_182 := n12_; have NB182_172 := n13_; clear n0_ n1_ n2_ n3_ n4_ n5_ n6_ n7_ n8_ n9_ n10_ n11_ n12_ n13_ hb hbox hg; refine hK.out _ _ ⟨(blk_cell BKad.out 0).trans rfl, (blk_cell BKad.out 1).trans rfl, (blk_cell BKad.out 2).trans rfl, (blk_cell BKad.out 3).trans rfl, (blk_cell BKad.out 4).trans rfl⟩ (fun hHeld => ?_); clear hK K; refine norm_ (a' := ?_) ?_ ?_
           rotate_left
           ·show Act.put _ (some 9) _ = _
            simp only [Sx]
            rfl
           exact norm_ Zq60 (hCont (v176, v179, gbac) _ ⟨hHeld, Zq83, Zq84, Zq85, Zq120, Zq19, Zq20, Zq52, GWac.out, GEac.out, NB163_182.out, NB182_163.out, NB172_182.out, NB182_172.out, Zq25⟩)
          ·skip
           refine box_step ?hg (N := 9) ?hd (cs := #[.string (⟨#[]⟩ : ByteArray), .slice none 0 0, .slice none 0 0]) (t := 27) ?hr ?_; (case hd | hg => rfl); (case hr => first | (go_simp; done) | (go_simp; rfl)); intro gbac hg w23 hbox hb; have n0_ := Zq255; have n1_ := Zq196; have n2_ := Zq134; have n3_ := Zq139; have n4_ := Zq230; have n5_ := Ak (hbox); have n6_ := Zq155; have n7_ := Zq155; have n8_ := Zq284; have n9_ := Zq285; have n10_ := Zq286; have n11_ := Zq287; clear HO_bc HO_bb BKad BKan HB; have HO_bc := n0_; have HO_bb := n1_; have BKad := n2_; have BKan := n3_; have HB := n4_; have BKac := n5_; have GWac := n6_; have GEac := n7_; have NB163_182 := n8_; have NB182_163 := n9_; have NB172_182 := n10_; have NB182_172 := n11_; clear n0_ n1_ n2_ n3_ n4_ n5_ n6_ n7_ n8_ n9_ n10_ n11_ hb hbox hg; refine hK.out _ _ ⟨(blk_cell BKad.out 0).trans rfl, (blk_cell BKad.out 1).trans rfl, (blk_cell BKad.out 2).trans rfl, (blk_cell BKad.out 3).trans rfl, (blk_cell BKad.out 4).trans rfl⟩ (fun hHeld => ?_); clear hK K; refine norm_ (a' := ?_) ?_ ?_
           rotate_left
           ·show Act.put _ (some 9) _ = _
            simp only [Sx]
            rfl
           refine one_ (i := 4) (N := some 34) #[true, true, true, true, true, false, false, false, true, false, false] rfl rfl (one_of HT_.out Zq2) Zq4 (fun K hK => ?_); refine goes_ Try.func28 Zq2 rfl #[.agg #[.int .u32 a0_0, .slice A0_1 l0_1.length c0_1, .string a0_2, .slice A0_3 l0_3.length c0_3, .slice A0_4 l0_4.length c0_4], .slice A1 (l1.take (x8_1 : Int).toNat).length c1] Zq3 rfl rfl Zq129 ?_; with_reducible refine (path_Get.calls k1 a0_0 _ _ l0_1 a0_2 (fun k_ => k_ < w.heap.size) _ _ l0_3 (fun k_ => k_ < w.heap.size) _ _ l0_4 _ _ (l1.take (x8_1 : Int).toNat) taI tbg tbr tcu _ ?side1 ?side2 ?side3 ?side4 ?side5 ?side6 A16.out).mono ?_
           (case side1 => repeat (first | exact Zq138 | (with_reducible refine Kd.C_alloc ?_ _) | (with_reducible refine Kd.C_drewN ?_ _) | (with_reducible refine Kd.C_drew ?_)))
           (case side2 => exact HC0_1.out)
           (case side3 => exact Kd.V_mk HC0_3.out (Kd.F_below (Kd.C_F k63_heap HR0_3.out) Zq25))
           (case side4 => exact Kd.V_mk HC0_4.out (Kd.F_below (Kd.C_F k27_heap HR0_4.out) Zq25))
           (case side5 => repeat (first | exact Zq276 | (with_reducible refine Kd.C_alloc ?_ _) | (with_reducible refine Kd.C_drewN ?_ _) | (with_reducible refine Kd.C_drew ?_)))
           (case side6 => exact HCca.out)
           rintro e w24 ⟨v176, v179, rfl, ho0, ho1, hb⟩
           refine ⟨_, rfl, ?_⟩; have n0_ := Zq231; have n1_ := Zq169; have n2_ := Zq225; have n3_ := Zq150; have n4_ := Zq134; have n5_ := Zq139; have n6_ := Zq223; have n7_ := Zq256; clear HO_bc HO_bb BKad BKan BKac HB; have HO_bc := n0_; have HO_bb := n1_; have HObG := n2_; have HObA := n3_; have BKad := n4_; have BKan := n5_; have BKac := n6_; have HB := n7_; clear n0_ n1_ n2_ n3_ n4_ n5_ n6_ n7_
           (try clear hb)
           (try clear hb2)
           (try clear hk)
           (try clear hi)
           (try clear ho0)
           (try clear ho1)
           refine hK.out _ _ ⟨(blk_cell BKad.out 0).trans rfl, (blk_cell BKad.out 1).trans rfl, (blk_cell BKad.out 2).trans rfl, (blk_cell BKad.out 3).trans rfl, (blk_cell BKad.out 4).trans rfl⟩ (fun hHeld => ?_); clear hK K; refine norm_ (a' := ?_) ?_ ?_
           rotate_left
           ·show Act.put _ (some 34) _ = _
            simp only [Sx]
            rfl
           refine pure_ (i := 5) (N := some 29) (v := ?_) (a' := ?_) #[true, true, true, true, true, true, false, false, true, false, false] rfl rfl (any_of HT_.out Zq2) (fun _ _ _ h => h) (Or.inl ⟨Zq3, ?_⟩) ?_ ?_
           rotate_left
           ·intro w'
            go_simp
            with_reducible rfl
           rotate_left
           ·simp only [Sx]
            rfl
           refine pure_ (i := 6) (N := some 35) (v := ?_) (a' := ?_) #[true, true, true, true, true, true, true, false, true, false, false] rfl rfl (any_of HT_.out Zq2) (fun _ _ _ h => h) (Or.inl ⟨Zq3, ?_⟩) ?_ ?_
           rotate_left
           ·intro w'
            go_simp
            with_reducible rfl
           rotate_left
           ·simp only [Sx]
            rfl
           refine pure_ (i := 7) (N := some 36) (v := ?_) (a' := ?_) #[true, true, true, true, true, true, true, true, true, false, false] rfl rfl (any_of HT_.out Zq2) (fun _ _ _ h => h) (Or.inl ⟨Zq3, ?_⟩) ?_ ?_
           rotate_left
           ·intro w'
            go_simp
            with_reducible rfl
           rotate_left
           ·simp only [Sx]
            rfl
           exact norm_ Zq60 (hCont (v176, v179, gbac) _ ⟨hHeld, Zq83, Zq84, Zq85, Zq121, Zq19, Zq20, Zq52, GWac.out, GEac.out, NB163_182.out, NB182_163.out, NB172_182.out, NB182_172.out, Zq25⟩)
         rintro ⟨v176, v179, gbac⟩ w25 ⟨hS_, h0_, h1_, h2_, h3_, h4_, h5_, h6_, h7_, h8_, h9_, h10_, h11_, h12_, h13_⟩
         have n0_ : Aside0 (Kd.S k63 63 w25 w.heap.size (fun k_ => some k_ ≠ (.slice Ao11 taz.length co11 : Value).ownBlock) v176 tbg) := ⟨h0_⟩
         have n1_ : Aside0 (Kd.R k27 27 w25 w.heap.size (fun k_ => some k_ ≠ (v176 : Value).ownBlock ∧ some k_ ≠ (.slice Ao11 taz.length co11 : Value).ownBlock ∧ some k_ ≠ (.slice Ao12 tbz.length co12 : Value).ownBlock ∧ k_ ≠ gban ∧ k_ ≠ gbac) v179 tbr) := ⟨h1_⟩
         have n2_ : Aside0 (Kd.S k63 63 w25 w.heap.size (fun k_ => some k_ ≠ (v176 : Value).ownBlock) (.slice Ao11 taz.length co11) taz) := ⟨h2_⟩
         have n3_ : Aside0 (Kd.R k27 27 w25 w.heap.size (fun k_ => some k_ ≠ (v176 : Value).ownBlock ∧ some k_ ≠ (v179 : Value).ownBlock ∧ some k_ ≠ (.slice Ao11 taz.length co11 : Value).ownBlock ∧ k_ ≠ gban ∧ k_ ≠ gbac) (.slice Ao12 tbz.length co12) tbz) := ⟨h3_⟩
         have n4_ : Aside0 (w25.heap[gbad]? = some (.cells #[.int .u32 a0_0, .slice A0_1 l0_1.length c0_1, .string a0_2, .slice A0_3 l0_3.length c0_3, .slice A0_4 l0_4.length c0_4] 29 (0, 0))) := ⟨h4_⟩
         have n5_ : Aside0 (w25.heap[gban]? = some (.cells #[.string tbO, .slice Ao11 taz.length co11, .slice Ao12 tbz.length co12] 27 (0, 0))) := ⟨h5_⟩
         have n6_ : Aside0 (w25.heap[gbac]? = some (.cells #[.string (⟨#[]⟩ : ByteArray), .slice none 0 0, .slice none 0 0] 27 (0, 0))) := ⟨h6_⟩
         have n7_ : Aside0 (w.heap.size ≤ gbac) := ⟨h7_⟩
         have n8_ : Aside0 (w.heap.size ≤ gbac) := ⟨h8_⟩
         have n9_ : Aside0 (gbad ≠ gbac) := ⟨h9_⟩
         have n10_ : Aside0 (gbac ≠ gbad) := ⟨h10_⟩
         have n11_ : Aside0 (gban ≠ gbac) := ⟨h11_⟩
         have n12_ : Aside0 (gbac ≠ gban) := ⟨h12_⟩
         have n13_ : Aside0 (Below w.heap.size w w25) := ⟨h13_⟩
         clear HO_bc HO_bb BKad BKan HB h0_ h1_ h2_ h3_ h4_ h5_ h6_ h7_ h8_ h9_ h10_ h11_ h12_ h13_; have HObG := n0_; have HObA := n1_; have HO_bc := n2_; have HO_bb := n3_; have BKad := n4_; have BKan := n5_; have BKac := n6_; have GWac := n7_; have GEac := n8_; have NB163_182 := n9_; have NB182_163 := n10_; have NB172_182 := n11_; have NB182_172 := n12_; have HB := n13_; clear n0_ n1_ n2_ n3_ n4_ n5_ n6_ n7_ n8_ n9_ n10_ n11_ n12_ n13_; have hHeld : w25.cell? ⟨gbad, 0, none⟩ = some (.int .u32 a0_0) ∧ w25.cell? ⟨gbad, 1, none⟩ = some (.slice A0_1 l0_1.length c0_1) ∧ w25.cell? ⟨gbad, 2, none⟩ = some (.string a0_2) ∧ w25.cell? ⟨gbad, 3, none⟩ = some (.slice A0_3 l0_3.length c0_3) ∧ w25.cell? ⟨gbad, 4, none⟩ = some (.slice A0_4 l0_4.length c0_4) := hS_; obtain ⟨Ao27, co27, eo27⟩ := Kd.S_slice HObG.out
         (first | subst eo27 | (injection eo27 with f1_ f2_ f3_; have f4_ := f1_.symm; have f5_ := f3_.symm; clear f1_ f2_ f3_; subst f4_; subst f5_))
         obtain ⟨Ao29, co29, eo29⟩ := Kd.R_slice HObA.out
         (first | subst eo29 | (injection eo29 with f1_ f2_ f3_; have f4_ := f1_.symm; have f5_ := f3_.symm; clear f1_ f2_ f3_; subst f4_; subst f5_))
         refine norm_ (a' := ?_) ?_ ?_
         rotate_left
         ·simp only [putAll, Act.put, List.setIfInBounds_toArray, List.set_cons_zero, List.set_cons_succ]
          rfl
         refine one_ (i := 9) (N := none) #[true, true, true, true, true, true, true, true, true, true, false] rfl rfl (one_of HT_.out Zq2) Zq4 (fun K hK => ?_); have hs26 : w25.cell? ⟨gbac, 0, none⟩ = some (.string (⟨#[]⟩ : ByteArray)) := (blk_cell BKac.out 0).trans rfl; have hfs26 := blk_frozen BKac.out 0; have hns26_0 := NB163_182.out; have hns26_1 := NB172_182.out; have hms26_0 := NB182_163.out; have hms26_1 := NB182_172.out; have hs28 : w25.cell? ⟨gbac, 1, none⟩ = some (.slice none 0 0) := (blk_cell BKac.out 1).trans rfl; have hfs28 := blk_frozen BKac.out 1; have hns28_0 := NB163_182.out; have hns28_1 := NB172_182.out; have hms28_0 := NB182_163.out; have hms28_1 := NB182_172.out; have hs30 : w25.cell? ⟨gbac, 2, none⟩ = some (.slice none 0 0) := (blk_cell BKac.out 2).trans rfl; have hfs30 := blk_frozen BKac.out 2; have hns30_0 := NB163_182.out; have hns30_1 := NB172_182.out; have hms30_0 := NB182_163.out; have hms30_1 := NB182_172.out; refine skip_ (w1 := ?_) Zq3 rfl ?_ ?_
         rotate_left
         ·go_simp
          rfl
         refine hK.out _ _ ⟨((cell_far (p := ⟨gbac, _, none⟩) NB163_182.out _).trans (((cell_far (p := ⟨gbac, _, none⟩) NB163_182.out _).trans (((cell_far (p := ⟨gbac, _, none⟩) NB163_182.out _).trans (hHeld.1)))))), ((cell_far (p := ⟨gbac, _, none⟩) NB163_182.out _).trans (((cell_far (p := ⟨gbac, _, none⟩) NB163_182.out _).trans (((cell_far (p := ⟨gbac, _, none⟩) NB163_182.out _).trans (hHeld.2.1)))))), ((cell_far (p := ⟨gbac, _, none⟩) NB163_182.out _).trans (((cell_far (p := ⟨gbac, _, none⟩) NB163_182.out _).trans (((cell_far (p := ⟨gbac, _, none⟩) NB163_182.out _).trans (hHeld.2.2.1)))))), ((cell_far (p := ⟨gbac, _, none⟩) NB163_182.out _).trans (((cell_far (p := ⟨gbac, _, none⟩) NB163_182.out _).trans (((cell_far (p := ⟨gbac, _, none⟩) NB163_182.out _).trans (hHeld.2.2.2.1)))))), ((cell_far (p := ⟨gbac, _, none⟩) NB163_182.out _).trans (((cell_far (p := ⟨gbac, _, none⟩) NB163_182.out _).trans (((cell_far (p := ⟨gbac, _, none⟩) NB163_182.out _).trans (hHeld.2.2.2.2))))))⟩ (fun hHeld => ?_); clear hK K; refine pure_ (i := 10) (N := some 10) (v := ?_) (a' := ?_) #[true, true, true, true, true, true, true, true, true, true, true] rfl rfl (any_of HT_.out Zq2) (fun _ _ _ h => h) (Or.inl ⟨Zq3, ?_⟩) ?_ ?_
         rotate_left
         ·intro w'
          go_simp
          with_reducible rfl
         rotate_left
         ·simp only [Sx]
          rfl
         refine done_ (done_of HT_.out Zq2) ?_; have hnb31 := NB182_163.out; have hnc31 := NB163_182.out; have hnb32 := NB182_172.out; have hnc32 := NB172_182.out; have hcz33_0 : w25.cell? ⟨gbac, 0, none⟩ = some (.string (⟨#[]⟩ : ByteArray)) := (blk_cell BKac.out 0).trans rfl; have hcz33_1 : w25.cell? ⟨gbac, 1, none⟩ = some (.slice none 0 0) := (blk_cell BKac.out 1).trans rfl; have hcz33_2 : w25.cell? ⟨gbac, 2, none⟩ = some (.slice none 0 0) := (blk_cell BKac.out 2).trans rfl; have hfz33_0 := blk_frozen BKac.out 0; have hfz33_1 := blk_frozen BKac.out 1; have hfz33_2 := blk_frozen BKac.out 2
         try go_wp2_with (first | ((with_reducible refine gate_callee (f := 56) rfl ?_); refine goesL_ (some 39) rfl rfl Try.func56 Zq2 rfl #[.agg #[.string taI, .slice Ao27 tbg.length co27, .slice Ao29 tbr.length co29], .string (⟨#[105, 110, 116, 101, 114, 114, 117, 112, 116, 45, 112, 97, 114, 101, 110, 116]⟩ : ByteArray)] rfl Zq8 ?_; (with_reducible refine (prop_One.calls k1 taI _ _ tbg _ _ tbr (⟨#[105, 110, 116, 101, 114, 114, 117, 112, 116, 45, 112, 97, 114, 101, 110, 116]⟩ : ByteArray) tbW true tdb _ ?side1 ?side2 ?side3 ?side4 A17.out).mono ?_); (case side1 => refine (Kd.S_reads' (e := 63) (base := w.heap.size) (ok := fun k_ => some k_ ≠ (.slice Ao11 taz.length co11 : Value).ownBlock) (n := tbg.length) (c := co27) ?_).2.2; exact (by (with_reducible repeat (first | apply Kd.S_alloc | apply Kd.S_drewN | apply Kd.S_drew)); exact (Kd.S_mono (Kd.S_far (p := ⟨gbac, 2, none⟩) (Kd.S_far (p := ⟨gbac, 1, none⟩) (Kd.S_far (p := ⟨gbac, 0, none⟩) (Kd.S_types HObG.out BKac.out Zq4) (fun _ hk => hk.2) (.string taI)) (fun _ hk => hk.2) (.slice Ao27 tbg.length co27)) (fun _ hk => hk.2) (.slice Ao29 tbr.length co29)) (fun _ h_ => h_.1)))); (case side2 => exact (Kd.S_reads' HObG.out).2.1); (case side3 => refine (Kd.R_reads' (e := 27) (base := w.heap.size) (ok := fun k_ => (some k_ ≠ (.slice Ao27 tbg.length co27 : Value).ownBlock ∧ (some k_ ≠ (.slice Ao11 taz.length co11 : Value).ownBlock ∧ (some k_ ≠ (.slice Ao12 tbz.length co12 : Value).ownBlock ∧ (k_ ≠ gban ∧ k_ ≠ gbac))))) (n := tbr.length) (c := co29) ?_).2.2; exact (by (with_reducible repeat (first | apply Kd.R_alloc | apply Kd.R_drewN | apply Kd.R_drew)); exact (Kd.R_mono (Kd.R_far (p := ⟨gbac, 2, none⟩) (Kd.R_far (p := ⟨gbac, 1, none⟩) (Kd.R_far (p := ⟨gbac, 0, none⟩) (Kd.R_mono HObA.out (fun k_ hk => (⟨hk, hk.2.2.2.2⟩ : _ ∧ k_ ≠ gbac))) (fun _ hk => hk.2) (.string taI)) (fun _ hk => hk.2) (.slice Ao27 tbg.length co27)) (fun _ hk => hk.2) (.slice Ao29 tbr.length co29)) (fun _ h_ => h_.1)))); (case side4 => exact (Kd.R_reads' HObA.out).2.1); rintro e w34 ⟨rfl, hb⟩; refine ⟨_, rfl, ?_⟩; have n0_ := Ak (Kd.S_below (by (with_reducible repeat (first | apply Kd.S_alloc | apply Kd.S_drewN | apply Kd.S_drew)); exact (Kd.S_mono (Kd.S_far (p := ⟨gbac, 2, none⟩) (Kd.S_far (p := ⟨gbac, 1, none⟩) (Kd.S_far (p := ⟨gbac, 0, none⟩) (Kd.S_types HO_bc.out BKac.out Zq4) (fun _ hk => hk.2) (.string taI)) (fun _ hk => hk.2) (.slice Ao27 tbg.length co27)) (fun _ hk => hk.2) (.slice Ao29 tbr.length co29)) (fun _ h_ => h_.1))) hb); have n1_ := Ak (Kd.R_below (by (with_reducible repeat (first | apply Kd.R_alloc | apply Kd.R_drewN | apply Kd.R_drew)); exact (Kd.R_mono (Kd.R_far (p := ⟨gbac, 2, none⟩) (Kd.R_far (p := ⟨gbac, 1, none⟩) (Kd.R_far (p := ⟨gbac, 0, none⟩) (Kd.R_mono HO_bb.out (fun k_ hk => (⟨hk, hk.2.2.2.2⟩ : _ ∧ k_ ≠ gbac))) (fun _ hk => hk.2) (.string taI)) (fun _ hk => hk.2) (.slice Ao27 tbg.length co27)) (fun _ hk => hk.2) (.slice Ao29 tbr.length co29)) (fun _ h_ => h_.1))) hb); have n2_ := Ak (Kd.S_below (by (with_reducible repeat (first | apply Kd.S_alloc | apply Kd.S_drewN | apply Kd.S_drew)); exact (Kd.S_mono (Kd.S_far (p := ⟨gbac, 2, none⟩) (Kd.S_far (p := ⟨gbac, 1, none⟩) (Kd.S_far (p := ⟨gbac, 0, none⟩) (Kd.S_types HObG.out BKac.out Zq4) (fun _ hk => hk.2) (.string taI)) (fun _ hk => hk.2) (.slice Ao27 tbg.length co27)) (fun _ hk => hk.2) (.slice Ao29 tbr.length co29)) (fun _ h_ => h_.1))) hb); have n3_ := Ak (Kd.R_below (by (with_reducible repeat (first | apply Kd.R_alloc | apply Kd.R_drewN | apply Kd.R_drew)); exact (Kd.R_mono (Kd.R_far (p := ⟨gbac, 2, none⟩) (Kd.R_far (p := ⟨gbac, 1, none⟩) (Kd.R_far (p := ⟨gbac, 0, none⟩) (Kd.R_mono HObA.out (fun k_ hk => (⟨hk, hk.2.2.2.2⟩ : _ ∧ k_ ≠ gbac))) (fun _ hk => hk.2) (.string taI)) (fun _ hk => hk.2) (.slice Ao27 tbg.length co27)) (fun _ hk => hk.2) (.slice Ao29 tbr.length co29)) (fun _ h_ => h_.1))) hb); have n4_ := Zq193; have n5_ := Zq220; have n6_ := Ak (blk_below (g := gbac) (o := .cells #[.string taI, .slice Ao27 tbg.length co27, .slice Ao29 tbr.length co29] 27 (0, 0)) (by (with_reducible repeat (first | refine blk_drewN ?_ _ | refine blk_drew ?_ | refine blk_alloc ?_ _)); refine blk_put (cs := #[.string taI, .slice Ao27 tbg.length co27, .slice none 0 0]) ?_ 2 _ rfl; (with_reducible repeat (first | refine blk_drewN ?_ _ | refine blk_drew ?_ | refine blk_alloc ?_ _)); refine blk_put (cs := #[.string taI, .slice none 0 0, .slice none 0 0]) ?_ 1 _ rfl; (with_reducible repeat (first | refine blk_drewN ?_ _ | refine blk_drew ?_ | refine blk_alloc ?_ _)); refine blk_put (cs := #[.string (⟨#[]⟩ : ByteArray), .slice none 0 0, .slice none 0 0]) ?_ 0 _ rfl; (with_reducible repeat (first | refine blk_drewN ?_ _ | refine blk_drew ?_ | refine blk_alloc ?_ _)); exact BKac.out) hb); have n7_ := Zq256; clear HO_bc HO_bb HObG HObA BKad BKan BKac HB; have HO_bc := n0_; have HO_bb := n1_; have HObG := n2_; have HObA := n3_; have BKad := n4_; have BKan := n5_; have BKac := n6_; have HB := n7_; clear n0_ n1_ n2_ n3_ n4_ n5_ n6_ n7_; (try clear hb); (try clear hb2); (try clear hk); (try clear hi); have hnb35 := NB163_172.out; have hnc35 := NB172_163.out; have hcz36_0 : w34.cell? ⟨gbad, 0, none⟩ = some (.int .u32 a0_0) := (blk_cell BKad.out 0).trans rfl; have hcz36_1 : w34.cell? ⟨gbad, 1, none⟩ = some (.slice A0_1 l0_1.length c0_1) := (blk_cell BKad.out 1).trans rfl; have hcz36_2 : w34.cell? ⟨gbad, 2, none⟩ = some (.string a0_2) := (blk_cell BKad.out 2).trans rfl; have hcz36_3 : w34.cell? ⟨gbad, 3, none⟩ = some (.slice A0_3 l0_3.length c0_3) := (blk_cell BKad.out 3).trans rfl; have hcz36_4 : w34.cell? ⟨gbad, 4, none⟩ = some (.slice A0_4 l0_4.length c0_4) := (blk_cell BKad.out 4).trans rfl; have hfz36_0 := blk_frozen BKad.out 0; have hfz36_1 := blk_frozen BKad.out 1; have hfz36_2 := blk_frozen BKad.out 2; have hfz36_3 := blk_frozen BKad.out 3; have hfz36_4 := blk_frozen BKad.out 4) | ((with_reducible refine gate_callee (f := 57) rfl ?_); refine goesL_ (some 49) rfl rfl Try.func57 Zq2 rfl #[.agg #[.int .u32 a0_0, .slice A0_1 l0_1.length c0_1, .string a0_2, .slice A0_3 l0_3.length c0_3, .slice A0_4 l0_4.length c0_4], .int .u32 tbW] rfl Zq8 ?_; (with_reducible refine (handle_Find.calls k1 a0_0 _ _ l0_1 a0_2 _ _ l0_3 _ _ l0_4 tbW tcz tek _ ?side1 ?side2 ?side3 ?side4 ?side5 ?side6 A20.out).mono ?_); (case side1 => repeat (first | exact Zq138 | (with_reducible refine Kd.C_alloc ?_ _) | (with_reducible refine Kd.C_drewN ?_ _) | (with_reducible refine Kd.C_drew ?_))); (case side2 => exact HC0_1.out); (case side3 => repeat (first | exact Zq153 | (with_reducible refine Kd.C_alloc ?_ _) | (with_reducible refine Kd.C_drewN ?_ _) | (with_reducible refine Kd.C_drew ?_))); (case side4 => exact HC0_3.out); (case side5 => repeat (first | exact Zq154 | (with_reducible refine Kd.C_alloc ?_ _) | (with_reducible refine Kd.C_drewN ?_ _) | (with_reducible refine Kd.C_drew ?_))); (case side6 => exact HC0_4.out); rintro e w37 ⟨v187, rfl, ho0, hb⟩; refine ⟨_, rfl, ?_⟩; have n0_ := Zq255; have n1_ := Ak (Kd.R_below Zq41 hb); have n2_ := Ak (Kd.S_below Zq107 hb); have n3_ := Ak (Kd.R_below Zq108 hb); have n4_ := Ak (Kd.R_lower ho0 (below_size Zq25)); have n5_ := Zq134; have n6_ := Zq139; have n7_ := Ak (blk_below (g := gbac) (o := .cells #[.string taI, .slice Ao27 tbg.length co27, .slice Ao29 tbr.length co29] 27 (0, 0)) Zq52 hb); have n8_ := Zq256; clear HO_bc HO_bb HObG HObA BKad BKan BKac HB; have HO_bc := n0_; have HO_bb := n1_; have HObG := n2_; have HObA := n3_; have HOfo := n4_; have BKad := n5_; have BKan := n6_; have BKac := n7_; have HB := n8_; clear n0_ n1_ n2_ n3_ n4_ n5_ n6_ n7_ n8_; (try clear hb); (try clear hb2); (try clear hk); (try clear hi); (try clear ho0)))
         go_ret2
         exact ⟨_, Zq13, by (with_reducible repeat (first | apply Kd.R_alloc | apply Kd.R_drewN | apply Kd.R_drew)); exact HOfo.out, Zq25⟩
        ·replace c19 := Bool.eq_false_iff.mpr c19; subst c19
         have H1 : (irq_Parent.l0 k1 l1 (wrap64 (x8_1 - 1)) a0_0 l0_1 a0_2 l0_3 l0_4) = some (r1, r2) := by rw [if_neg (show ¬ (false = true) by decide)] at H; exact H
         clear H; have H := H1; clear H1; have H' := Ak H; clear H
         try go_wp2
         have n0_ := Ak (Kd.S_drew HO_bc.out); have n1_ := Ak (Kd.R_drew HO_bb.out); have n2_ := Ak (blk_drew BKad.out); have n3_ := Ak (blk_drew BKan.out); have n4_ := Zq208; clear HO_bc HO_bb BKad BKan HB; have HO_bc := n0_; have HO_bb := n1_; have BKad := n2_; have BKan := n3_; have HB := n4_; clear n0_ n1_ n2_ n3_ n4_; obtain ⟨i039, hi039, _, hsz39, _⟩ := info_parts info3; obtain ⟨hcut39, hA39, hC39⟩ := print_take_of (P := Try.prog) (Value.int .i64) 0 30 3 .i64 Try.underlying30 hi039 hsz39 A1 c1 l1 x8_1 (of_decide_eq_true Zq5) (of_decide_eq_true Zq5) HC1.out; have HRca := Ak (Kd.C_of_reads (h1 := fun _ => rfl) (hA39 _ (Kd.reads_of_C HR1.out))); have HCca := Ak hC39; clear hA39 hC39 hi039 hsz39; refine start_ (n := 11) (S := fun w' => w'.cell? ⟨gbad, 0, none⟩ = some (.int .u32 a0_0) ∧ w'.cell? ⟨gbad, 1, none⟩ = some (.slice A0_1 l0_1.length c0_1) ∧ w'.cell? ⟨gbad, 2, none⟩ = some (.string a0_2) ∧ w'.cell? ⟨gbad, 3, none⟩ = some (.slice A0_3 l0_3.length c0_3) ∧ w'.cell? ⟨gbad, 4, none⟩ = some (.slice A0_4 l0_4.length c0_4)) (ds := []) #[false, false, false, false, false, false, false, false, false, false, false] Zq2 rfl rfl ⟨(blk_cell BKad.out 0).trans rfl, (blk_cell BKad.out 1).trans rfl, (blk_cell BKad.out 2).trans rfl, (blk_cell BKad.out 3).trans rfl, (blk_cell BKad.out 4).trans rfl⟩ (fun hHeld => ?_); refine with_tabW irq_Parent.tab7 irq_Parent.bits7 (fun HT_ HW_ => ?_); generalize wr.drew = w38 at HO_bc HO_bb BKad BKan HB HRca hHeld ⊢; refine pure_ (i := 1) (N := some 31) (v := ?_) (a' := ?_) #[false, true, false, false, false, false, false, false, false, false, false] rfl rfl (any_of HT_.out Zq2) (fun _ _ _ h => h) (Or.inl ⟨Zq3, ?_⟩) ?_ ?_
         rotate_left
         ·intro w'
          go_simp
          with_reducible rfl
         rotate_left
         ·simp only [Sx]
          rfl
         refine pure_ (i := 2) (N := some 32) (v := ?_) (a' := ?_) #[false, true, true, false, false, false, false, false, false, false, false] rfl rfl (any_of HT_.out Zq2) (fun _ _ _ h => h) (Or.inl ⟨Zq3, ?_⟩) ?_ ?_
         rotate_left
         ·intro w'
          go_simp
          with_reducible rfl
         rotate_left
         ·simp only [Sx]
          rfl
         refine pure_ (i := 3) (N := some 33) (v := ?_) (a' := ?_) #[false, true, true, true, false, false, false, false, false, false, false] rfl rfl (any_of HT_.out Zq2) (fun _ _ _ h => h) (Or.inl ⟨Zq3, ?_⟩) ?_ ?_
         rotate_left
         ·intro w'
          go_simp
          with_reducible rfl
         rotate_left
         ·simp only [Sx]
          rfl
         refine take_ (i := 0) (N := some 30) (v := ?_) (a' := ?_) #[true, true, true, true, false, false, false, false, false, false, false] rfl rfl (take_ofW HT_.out HW_.out Zq2) (fun _ _ _ h => h) (Or.inl ⟨Zq3, ?_⟩) hHeld ?_ ?_
         rotate_left
         ·rintro w' ⟨s0, s1, s2, s3, s4⟩
          go_simp
          with_reducible rfl
         rotate_left
         ·simp only [Sx]
          rfl
         refine join_ (σ := Value × Value × Nat) 2 #[true, true, true, true, true, true, true, true, true, false, false] (fun s_ => [(34, .tuple #[.agg #[.string taI, s_.1, s_.2.1], .int .i64 tcu]), (9, .pointer (some ⟨s_.2.2, 0, none⟩)), (29, .tuple #[.agg #[.string taI, s_.1, s_.2.1], .int .i64 tcu]), (35, .agg #[.string taI, s_.1, s_.2.1]), (36, .int .i64 tcu)]) (fun s_ w' => (w'.cell? ⟨gbad, 0, none⟩ = some (.int .u32 a0_0) ∧ w'.cell? ⟨gbad, 1, none⟩ = some (.slice A0_1 l0_1.length c0_1) ∧ w'.cell? ⟨gbad, 2, none⟩ = some (.string a0_2) ∧ w'.cell? ⟨gbad, 3, none⟩ = some (.slice A0_3 l0_3.length c0_3) ∧ w'.cell? ⟨gbad, 4, none⟩ = some (.slice A0_4 l0_4.length c0_4)) ∧ (Kd.S k63 63 w' w.heap.size (fun k_ => some k_ ≠ (.slice Ao11 taz.length co11 : Value).ownBlock) s_.1 tbg) ∧ (Kd.R k27 27 w' w.heap.size (fun k_ => some k_ ≠ (s_.1 : Value).ownBlock ∧ some k_ ≠ (.slice Ao11 taz.length co11 : Value).ownBlock ∧ some k_ ≠ (.slice Ao12 tbz.length co12 : Value).ownBlock ∧ k_ ≠ gban ∧ k_ ≠ s_.2.2) s_.2.1 tbr) ∧ (Kd.S k63 63 w' w.heap.size (fun k_ => some k_ ≠ (s_.1 : Value).ownBlock) (.slice Ao11 taz.length co11) taz) ∧ (Kd.R k27 27 w' w.heap.size (fun k_ => some k_ ≠ (s_.1 : Value).ownBlock ∧ some k_ ≠ (s_.2.1 : Value).ownBlock ∧ some k_ ≠ (.slice Ao11 taz.length co11 : Value).ownBlock ∧ k_ ≠ gban ∧ k_ ≠ s_.2.2) (.slice Ao12 tbz.length co12) tbz) ∧ (w'.heap[gbad]? = some (.cells #[.int .u32 a0_0, .slice A0_1 l0_1.length c0_1, .string a0_2, .slice A0_3 l0_3.length c0_3, .slice A0_4 l0_4.length c0_4] 29 (0, 0))) ∧ (w'.heap[gban]? = some (.cells #[.string tbO, .slice Ao11 taz.length co11, .slice Ao12 tbz.length co12] 27 (0, 0))) ∧ (w'.heap[s_.2.2]? = some (.cells #[.string (⟨#[]⟩ : ByteArray), .slice none 0 0, .slice none 0 0] 27 (0, 0))) ∧ (w.heap.size ≤ s_.2.2) ∧ (w.heap.size ≤ s_.2.2) ∧ (gbad ≠ s_.2.2) ∧ (s_.2.2 ≠ gbad) ∧ (gban ≠ s_.2.2) ∧ (s_.2.2 ≠ gban) ∧ (Below w.heap.size w w')) ?_ ?_
         rotate_left
         ·intro hCont; refine two_ (i := 4) (j := 8) (Ni := some 34) (Nj := some 9) #[true, true, true, true, true, false, false, false, false, false, false] #[true, true, true, true, false, false, false, false, true, false, false] rfl rfl rfl rfl (two_of HT_.out Zq2) Zq4 Zq4 (fun K hK => ?_) (fun K hK => ?_)
          ·skip
           refine goes_ Try.func28 Zq2 rfl #[.agg #[.int .u32 a0_0, .slice A0_1 l0_1.length c0_1, .string a0_2, .slice A0_3 l0_3.length c0_3, .slice A0_4 l0_4.length c0_4], .slice A1 (l1.take (x8_1 : Int).toNat).length c1] Zq3 rfl rfl Zq129 ?_; with_reducible refine (path_Get.calls k1 a0_0 _ _ l0_1 a0_2 (fun k_ => k_ < w.heap.size) _ _ l0_3 (fun k_ => k_ < w.heap.size) _ _ l0_4 _ _ (l1.take (x8_1 : Int).toNat) taI tbg tbr tcu _ ?side1 ?side2 ?side3 ?side4 ?side5 ?side6 A16.out).mono ?_
           (case side1 => repeat (first | exact Zq138 | (with_reducible refine Kd.C_alloc ?_ _) | (with_reducible refine Kd.C_drewN ?_ _) | (with_reducible refine Kd.C_drew ?_)))
           (case side2 => exact HC0_1.out)
           (case side3 => exact Kd.V_mk HC0_3.out (Kd.F_below (Kd.C_F k63_heap HR0_3.out) Zq21))
           (case side4 => exact Kd.V_mk HC0_4.out (Kd.F_below (Kd.C_F k27_heap HR0_4.out) Zq21))
           (case side5 => repeat (first | exact Zq276 | (with_reducible refine Kd.C_alloc ?_ _) | (with_reducible refine Kd.C_drewN ?_ _) | (with_reducible refine Kd.C_drew ?_)))
           (case side6 => exact HCca.out)
           rintro e w40 ⟨v176, v179, rfl, ho0, ho1, hb⟩
           refine ⟨_, rfl, ?_⟩; have n0_ := Zq231; have n1_ := Zq169; have n2_ := Zq224; have n3_ := Zq166; have n4_ := Zq134; have n5_ := Zq139; have n6_ := Zq230; clear HO_bc HO_bb BKad BKan HB; have HO_bc := n0_; have HO_bb := n1_; have HObG := n2_; have HObA := n3_; have BKad := n4_; have BKan := n5_; have HB := n6_; clear n0_ n1_ n2_ n3_ n4_ n5_ n6_
           (try clear hb)
           (try clear hb2)
           (try clear hk)
           (try clear hi)
           (try clear ho0)
           (try clear ho1)
           refine hK.out _ _ ⟨(blk_cell BKad.out 0).trans rfl, (blk_cell BKad.out 1).trans rfl, (blk_cell BKad.out 2).trans rfl, (blk_cell BKad.out 3).trans rfl, (blk_cell BKad.out 4).trans rfl⟩ (fun hHeld => ?_); clear hK K; refine norm_ (a' := ?_) ?_ ?_
           rotate_left
           ·show Act.put _ (some 34) _ = _
            simp only [Sx]
            rfl
           refine pure_ (i := 5) (N := some 29) (v := ?_) (a' := ?_) #[true, true, true, true, true, true, false, false, false, false, false] rfl rfl (any_of HT_.out Zq2) (fun _ _ _ h => h) (Or.inl ⟨Zq3, ?_⟩) ?_ ?_
           rotate_left
           ·intro w'
            go_simp
            with_reducible rfl
           rotate_left
           ·simp only [Sx]
            rfl
           refine pure_ (i := 6) (N := some 35) (v := ?_) (a' := ?_) #[true, true, true, true, true, true, true, false, false, false, false] rfl rfl (any_of HT_.out Zq2) (fun _ _ _ h => h) (Or.inl ⟨Zq3, ?_⟩) ?_ ?_
           rotate_left
           ·intro w'
            go_simp
            with_reducible rfl
           rotate_left
           ·simp only [Sx]
            rfl
           refine pure_ (i := 7) (N := some 36) (v := ?_) (a' := ?_) #[true, true, true, true, true, true, true, true, false, false, false] rfl rfl (any_of HT_.out Zq2) (fun _ _ _ h => h) (Or.inl ⟨Zq3, ?_⟩) ?_ ?_
           rotate_left
           ·intro w'
            go_simp
            with_reducible rfl
           rotate_left
           ·simp only [Sx]
            rfl
           refine one_ (i := 8) (N := some 9) #[true, true, true, true, true, true, true, true, true, false, false] rfl rfl (one_of HT_.out Zq2) Zq4 (fun K hK => ?_); refine box_step ?hg (N := 9) ?hd (cs := #[.string (⟨#[]⟩ : ByteArray), .slice none 0 0, .slice none 0 0]) (t := 27) ?hr ?_; (case hd | hg => rfl); (case hr => first | (go_simp; done) | (go_simp; rfl)); intro gbac hg w41 hbox hb; have n0_ := Zq255; have n1_ := Zq196; have n2_ := Ak (Kd.S_below Zq107 hb); have n3_ := Zq275; have n4_ := Zq134; have n5_ := Zq139; have n6_ := Zq230; have n7_ := Ak (hbox); have n8_ := Zq155; have n9_ := Zq155; have n10_ := Zq284; have n11_ := Zq285; have n12_ := Zq286; have n13_ := Zq287; clear HO_bc HO_bb HObG HObA BKad BKan HB; have HO_bc := n0_; have HO_bb := n1_; have HObG := n2_; have HObA := n3_; have BKad := n4_; have BKan := n5_; have HB := n6_; have BKac := n7_; have GWac := n8_; have GEac := n9_; have NB163_182 := n10_; have NB182_163 := n11_; have NB172_182 := n12_; have NB182_172 := n13_; clear n0_ n1_ n2_ n3_ n4_ n5_ n6_ n7_ n8_ n9_ n10_ n11_ n12_ n13_ hb hbox hg; refine hK.out _ _ ⟨(blk_cell BKad.out 0).trans rfl, (blk_cell BKad.out 1).trans rfl, (blk_cell BKad.out 2).trans rfl, (blk_cell BKad.out 3).trans rfl, (blk_cell BKad.out 4).trans rfl⟩ (fun hHeld => ?_); clear hK K; refine norm_ (a' := ?_) ?_ ?_
           rotate_left
           ·show Act.put _ (some 9) _ = _
            simp only [Sx]
            rfl
           exact norm_ Zq60 (hCont (v176, v179, gbac) _ ⟨hHeld, Zq83, Zq84, Zq85, Zq120, Zq19, Zq20, Zq52, GWac.out, GEac.out, NB163_182.out, NB182_163.out, NB172_182.out, NB182_172.out, Zq25⟩)
          ·skip
           refine box_step ?hg (N := 9) ?hd (cs := #[.string (⟨#[]⟩ : ByteArray), .slice none 0 0, .slice none 0 0]) (t := 27) ?hr ?_; (case hd | hg => rfl); (case hr => first | (go_simp; done) | (go_simp; rfl)); intro gbac hg w40 hbox hb; have n0_ := Zq255; have n1_ := Zq196; have n2_ := Zq134; have n3_ := Zq139; have n4_ := Zq230; have n5_ := Ak (hbox); have n6_ := Zq155; have n7_ := Zq155; have n8_ := Zq284; have n9_ := Zq285; have n10_ := Zq286; have n11_ := Zq287; clear HO_bc HO_bb BKad BKan HB; have HO_bc := n0_; have HO_bb := n1_; have BKad := n2_; have BKan := n3_; have HB := n4_; have BKac := n5_; have GWac := n6_; have GEac := n7_; have NB163_182 := n8_; have NB182_163 := n9_; have NB172_182 := n10_; have NB182_172 := n11_; clear n0_ n1_ n2_ n3_ n4_ n5_ n6_ n7_ n8_ n9_ n10_ n11_ hb hbox hg; refine hK.out _ _ ⟨(blk_cell BKad.out 0).trans rfl, (blk_cell BKad.out 1).trans rfl, (blk_cell BKad.out 2).trans rfl, (blk_cell BKad.out 3).trans rfl, (blk_cell BKad.out 4).trans rfl⟩ (fun hHeld => ?_); clear hK K; refine norm_ (a' := ?_) ?_ ?_
           rotate_left
           ·show Act.put _ (some 9) _ = _
            simp only [Sx]
            rfl
           refine one_ (i := 4) (N := some 34) #[true, true, true, true, true, false, false, false, true, false, false] rfl rfl (one_of HT_.out Zq2) Zq4 (fun K hK => ?_); refine goes_ Try.func28 Zq2 rfl #[.agg #[.int .u32 a0_0, .slice A0_1 l0_1.length c0_1, .string a0_2, .slice A0_3 l0_3.length c0_3, .slice A0_4 l0_4.length c0_4], .slice A1 (l1.take (x8_1 : Int).toNat).length c1] Zq3 rfl rfl Zq129 ?_; with_reducible refine (path_Get.calls k1 a0_0 _ _ l0_1 a0_2 (fun k_ => k_ < w.heap.size) _ _ l0_3 (fun k_ => k_ < w.heap.size) _ _ l0_4 _ _ (l1.take (x8_1 : Int).toNat) taI tbg tbr tcu _ ?side1 ?side2 ?side3 ?side4 ?side5 ?side6 A16.out).mono ?_
           (case side1 => repeat (first | exact Zq138 | (with_reducible refine Kd.C_alloc ?_ _) | (with_reducible refine Kd.C_drewN ?_ _) | (with_reducible refine Kd.C_drew ?_)))
           (case side2 => exact HC0_1.out)
           (case side3 => exact Kd.V_mk HC0_3.out (Kd.F_below (Kd.C_F k63_heap HR0_3.out) Zq25))
           (case side4 => exact Kd.V_mk HC0_4.out (Kd.F_below (Kd.C_F k27_heap HR0_4.out) Zq25))
           (case side5 => repeat (first | exact Zq276 | (with_reducible refine Kd.C_alloc ?_ _) | (with_reducible refine Kd.C_drewN ?_ _) | (with_reducible refine Kd.C_drew ?_)))
           (case side6 => exact HCca.out)
           rintro e w41 ⟨v176, v179, rfl, ho0, ho1, hb⟩
           refine ⟨_, rfl, ?_⟩; have n0_ := Zq231; have n1_ := Zq169; have n2_ := Zq225; have n3_ := Zq150; have n4_ := Zq134; have n5_ := Zq139; have n6_ := Zq223; have n7_ := Zq256; clear HO_bc HO_bb BKad BKan BKac HB; have HO_bc := n0_; have HO_bb := n1_; have HObG := n2_; have HObA := n3_; have BKad := n4_; have BKan := n5_; have BKac := n6_; have HB := n7_; clear n0_ n1_ n2_ n3_ n4_ n5_ n6_ n7_
           (try clear hb)
           (try clear hb2)
           (try clear hk)
           (try clear hi)
           (try clear ho0)
           (try clear ho1)
           refine hK.out _ _ ⟨(blk_cell BKad.out 0).trans rfl, (blk_cell BKad.out 1).trans rfl, (blk_cell BKad.out 2).trans rfl, (blk_cell BKad.out 3).trans rfl, (blk_cell BKad.out 4).trans rfl⟩ (fun hHeld => ?_); clear hK K; refine norm_ (a' := ?_) ?_ ?_
           rotate_left
           ·show Act.put _ (some 34) _ = _
            simp only [Sx]
            rfl
           refine pure_ (i := 5) (N := some 29) (v := ?_) (a' := ?_) #[true, true, true, true, true, true, false, false, true, false, false] rfl rfl (any_of HT_.out Zq2) (fun _ _ _ h => h) (Or.inl ⟨Zq3, ?_⟩) ?_ ?_
           rotate_left
           ·intro w'
            go_simp
            with_reducible rfl
           rotate_left
           ·simp only [Sx]
            rfl
           refine pure_ (i := 6) (N := some 35) (v := ?_) (a' := ?_) #[true, true, true, true, true, true, true, false, true, false, false] rfl rfl (any_of HT_.out Zq2) (fun _ _ _ h => h) (Or.inl ⟨Zq3, ?_⟩) ?_ ?_
           rotate_left
           ·intro w'
            go_simp
            with_reducible rfl
           rotate_left
           ·simp only [Sx]
            rfl
           refine pure_ (i := 7) (N := some 36) (v := ?_) (a' := ?_) #[true, true, true, true, true, true, true, true, true, false, false] rfl rfl (any_of HT_.out Zq2) (fun _ _ _ h => h) (Or.inl ⟨Zq3, ?_⟩) ?_ ?_
           rotate_left
           ·intro w'
            go_simp
            with_reducible rfl
           rotate_left
           ·simp only [Sx]
            rfl
           exact norm_ Zq60 (hCont (v176, v179, gbac) _ ⟨hHeld, Zq83, Zq84, Zq85, Zq121, Zq19, Zq20, Zq52, GWac.out, GEac.out, NB163_182.out, NB182_163.out, NB172_182.out, NB182_172.out, Zq25⟩)
         rintro ⟨v176, v179, gbac⟩ w42 ⟨hS_, h0_, h1_, h2_, h3_, h4_, h5_, h6_, h7_, h8_, h9_, h10_, h11_, h12_, h13_⟩
         have n0_ : Aside0 (Kd.S k63 63 w42 w.heap.size (fun k_ => some k_ ≠ (.slice Ao11 taz.length co11 : Value).ownBlock) v176 tbg) := ⟨h0_⟩
         have n1_ : Aside0 (Kd.R k27 27 w42 w.heap.size (fun k_ => some k_ ≠ (v176 : Value).ownBlock ∧ some k_ ≠ (.slice Ao11 taz.length co11 : Value).ownBlock ∧ some k_ ≠ (.slice Ao12 tbz.length co12 : Value).ownBlock ∧ k_ ≠ gban ∧ k_ ≠ gbac) v179 tbr) := ⟨h1_⟩
         have n2_ : Aside0 (Kd.S k63 63 w42 w.heap.size (fun k_ => some k_ ≠ (v176 : Value).ownBlock) (.slice Ao11 taz.length co11) taz) := ⟨h2_⟩
         have n3_ : Aside0 (Kd.R k27 27 w42 w.heap.size (fun k_ => some k_ ≠ (v176 : Value).ownBlock ∧ some k_ ≠ (v179 : Value).ownBlock ∧ some k_ ≠ (.slice Ao11 taz.length co11 : Value).ownBlock ∧ k_ ≠ gban ∧ k_ ≠ gbac) (.slice Ao12 tbz.length co12) tbz) := ⟨h3_⟩
         have n4_ : Aside0 (w42.heap[gbad]? = some (.cells #[.int .u32 a0_0, .slice A0_1 l0_1.length c0_1, .string a0_2, .slice A0_3 l0_3.length c0_3, .slice A0_4 l0_4.length c0_4] 29 (0, 0))) := ⟨h4_⟩
         have n5_ : Aside0 (w42.heap[gban]? = some (.cells #[.string tbO, .slice Ao11 taz.length co11, .slice Ao12 tbz.length co12] 27 (0, 0))) := ⟨h5_⟩
         have n6_ : Aside0 (w42.heap[gbac]? = some (.cells #[.string (⟨#[]⟩ : ByteArray), .slice none 0 0, .slice none 0 0] 27 (0, 0))) := ⟨h6_⟩
         have n7_ : Aside0 (w.heap.size ≤ gbac) := ⟨h7_⟩
         have n8_ : Aside0 (w.heap.size ≤ gbac) := ⟨h8_⟩
         have n9_ : Aside0 (gbad ≠ gbac) := ⟨h9_⟩
         have n10_ : Aside0 (gbac ≠ gbad) := ⟨h10_⟩
         have n11_ : Aside0 (gban ≠ gbac) := ⟨h11_⟩
         have n12_ : Aside0 (gbac ≠ gban) := ⟨h12_⟩
         have n13_ : Aside0 (Below w.heap.size w w42) := ⟨h13_⟩
         clear HO_bc HO_bb BKad BKan HB h0_ h1_ h2_ h3_ h4_ h5_ h6_ h7_ h8_ h9_ h10_ h11_ h12_ h13_; have HObG := n0_; have HObA := n1_; have HO_bc := n2_; have HO_bb := n3_; have BKad := n4_; have BKan := n5_; have BKac := n6_; have GWac := n7_; have GEac := n8_; have NB163_182 := n9_; have NB182_163 := n10_; have NB172_182 := n11_; have NB182_172 := n12_; have HB := n13_; clear n0_ n1_ n2_ n3_ n4_ n5_ n6_ n7_ n8_ n9_ n10_ n11_ n12_ n13_; have hHeld : w42.cell? ⟨gbad, 0, none⟩ = some (.int .u32 a0_0) ∧ w42.cell? ⟨gbad, 1, none⟩ = some (.slice A0_1 l0_1.length c0_1) ∧ w42.cell? ⟨gbad, 2, none⟩ = some (.string a0_2) ∧ w42.cell? ⟨gbad, 3, none⟩ = some (.slice A0_3 l0_3.length c0_3) ∧ w42.cell? ⟨gbad, 4, none⟩ = some (.slice A0_4 l0_4.length c0_4) := hS_; obtain ⟨Ao44, co44, eo44⟩ := Kd.S_slice HObG.out
         (first | subst eo44 | (injection eo44 with f1_ f2_ f3_; have f4_ := f1_.symm; have f5_ := f3_.symm; clear f1_ f2_ f3_; subst f4_; subst f5_))
         obtain ⟨Ao46, co46, eo46⟩ := Kd.R_slice HObA.out
         (first | subst eo46 | (injection eo46 with f1_ f2_ f3_; have f4_ := f1_.symm; have f5_ := f3_.symm; clear f1_ f2_ f3_; subst f4_; subst f5_))
         refine norm_ (a' := ?_) ?_ ?_
         rotate_left
         ·simp only [putAll, Act.put, List.setIfInBounds_toArray, List.set_cons_zero, List.set_cons_succ]
          rfl
         refine one_ (i := 9) (N := none) #[true, true, true, true, true, true, true, true, true, true, false] rfl rfl (one_of HT_.out Zq2) Zq4 (fun K hK => ?_); have hs43 : w42.cell? ⟨gbac, 0, none⟩ = some (.string (⟨#[]⟩ : ByteArray)) := (blk_cell BKac.out 0).trans rfl; have hfs43 := blk_frozen BKac.out 0; have hns43_0 := NB163_182.out; have hns43_1 := NB172_182.out; have hms43_0 := NB182_163.out; have hms43_1 := NB182_172.out; have hs45 : w42.cell? ⟨gbac, 1, none⟩ = some (.slice none 0 0) := (blk_cell BKac.out 1).trans rfl; have hfs45 := blk_frozen BKac.out 1; have hns45_0 := NB163_182.out; have hns45_1 := NB172_182.out; have hms45_0 := NB182_163.out; have hms45_1 := NB182_172.out; have hs47 : w42.cell? ⟨gbac, 2, none⟩ = some (.slice none 0 0) := (blk_cell BKac.out 2).trans rfl; have hfs47 := blk_frozen BKac.out 2; have hns47_0 := NB163_182.out; have hns47_1 := NB172_182.out; have hms47_0 := NB182_163.out; have hms47_1 := NB182_172.out; refine skip_ (w1 := ?_) Zq3 rfl ?_ ?_
         rotate_left
         ·go_simp
          rfl
         refine hK.out _ _ ⟨((cell_far (p := ⟨gbac, _, none⟩) NB163_182.out _).trans (((cell_far (p := ⟨gbac, _, none⟩) NB163_182.out _).trans (((cell_far (p := ⟨gbac, _, none⟩) NB163_182.out _).trans (hHeld.1)))))), ((cell_far (p := ⟨gbac, _, none⟩) NB163_182.out _).trans (((cell_far (p := ⟨gbac, _, none⟩) NB163_182.out _).trans (((cell_far (p := ⟨gbac, _, none⟩) NB163_182.out _).trans (hHeld.2.1)))))), ((cell_far (p := ⟨gbac, _, none⟩) NB163_182.out _).trans (((cell_far (p := ⟨gbac, _, none⟩) NB163_182.out _).trans (((cell_far (p := ⟨gbac, _, none⟩) NB163_182.out _).trans (hHeld.2.2.1)))))), ((cell_far (p := ⟨gbac, _, none⟩) NB163_182.out _).trans (((cell_far (p := ⟨gbac, _, none⟩) NB163_182.out _).trans (((cell_far (p := ⟨gbac, _, none⟩) NB163_182.out _).trans (hHeld.2.2.2.1)))))), ((cell_far (p := ⟨gbac, _, none⟩) NB163_182.out _).trans (((cell_far (p := ⟨gbac, _, none⟩) NB163_182.out _).trans (((cell_far (p := ⟨gbac, _, none⟩) NB163_182.out _).trans (hHeld.2.2.2.2))))))⟩ (fun hHeld => ?_); clear hK K; refine pure_ (i := 10) (N := some 10) (v := ?_) (a' := ?_) #[true, true, true, true, true, true, true, true, true, true, true] rfl rfl (any_of HT_.out Zq2) (fun _ _ _ h => h) (Or.inl ⟨Zq3, ?_⟩) ?_ ?_
         rotate_left
         ·intro w'
          go_simp
          with_reducible rfl
         rotate_left
         ·simp only [Sx]
          rfl
         refine done_ (done_of HT_.out Zq2) ?_; have hnb48 := NB182_163.out; have hnc48 := NB163_182.out; have hnb49 := NB182_172.out; have hnc49 := NB172_182.out; have hcz50_0 : w42.cell? ⟨gbac, 0, none⟩ = some (.string (⟨#[]⟩ : ByteArray)) := (blk_cell BKac.out 0).trans rfl; have hcz50_1 : w42.cell? ⟨gbac, 1, none⟩ = some (.slice none 0 0) := (blk_cell BKac.out 1).trans rfl; have hcz50_2 : w42.cell? ⟨gbac, 2, none⟩ = some (.slice none 0 0) := (blk_cell BKac.out 2).trans rfl; have hfz50_0 := blk_frozen BKac.out 0; have hfz50_1 := blk_frozen BKac.out 1; have hfz50_2 := blk_frozen BKac.out 2
         try go_wp2_with (first | ((with_reducible refine gate_callee (f := 56) rfl ?_); refine goesL_ (some 39) rfl rfl Try.func56 Zq2 rfl #[.agg #[.string taI, .slice Ao44 tbg.length co44, .slice Ao46 tbr.length co46], .string (⟨#[105, 110, 116, 101, 114, 114, 117, 112, 116, 45, 112, 97, 114, 101, 110, 116]⟩ : ByteArray)] rfl Zq8 ?_; (with_reducible refine (prop_One.calls k1 taI _ _ tbg _ _ tbr (⟨#[105, 110, 116, 101, 114, 114, 117, 112, 116, 45, 112, 97, 114, 101, 110, 116]⟩ : ByteArray) tbW false tdb _ ?side1 ?side2 ?side3 ?side4 A17.out).mono ?_); (case side1 => refine (Kd.S_reads' (e := 63) (base := w.heap.size) (ok := fun k_ => some k_ ≠ (.slice Ao11 taz.length co11 : Value).ownBlock) (n := tbg.length) (c := co44) ?_).2.2; exact (by (with_reducible repeat (first | apply Kd.S_alloc | apply Kd.S_drewN | apply Kd.S_drew)); exact (Kd.S_mono (Kd.S_far (p := ⟨gbac, 2, none⟩) (Kd.S_far (p := ⟨gbac, 1, none⟩) (Kd.S_far (p := ⟨gbac, 0, none⟩) (Kd.S_types HObG.out BKac.out Zq4) (fun _ hk => hk.2) (.string taI)) (fun _ hk => hk.2) (.slice Ao44 tbg.length co44)) (fun _ hk => hk.2) (.slice Ao46 tbr.length co46)) (fun _ h_ => h_.1)))); (case side2 => exact (Kd.S_reads' HObG.out).2.1); (case side3 => refine (Kd.R_reads' (e := 27) (base := w.heap.size) (ok := fun k_ => (some k_ ≠ (.slice Ao44 tbg.length co44 : Value).ownBlock ∧ (some k_ ≠ (.slice Ao11 taz.length co11 : Value).ownBlock ∧ (some k_ ≠ (.slice Ao12 tbz.length co12 : Value).ownBlock ∧ (k_ ≠ gban ∧ k_ ≠ gbac))))) (n := tbr.length) (c := co46) ?_).2.2; exact (by (with_reducible repeat (first | apply Kd.R_alloc | apply Kd.R_drewN | apply Kd.R_drew)); exact (Kd.R_mono (Kd.R_far (p := ⟨gbac, 2, none⟩) (Kd.R_far (p := ⟨gbac, 1, none⟩) (Kd.R_far (p := ⟨gbac, 0, none⟩) (Kd.R_mono HObA.out (fun k_ hk => (⟨hk, hk.2.2.2.2⟩ : _ ∧ k_ ≠ gbac))) (fun _ hk => hk.2) (.string taI)) (fun _ hk => hk.2) (.slice Ao44 tbg.length co44)) (fun _ hk => hk.2) (.slice Ao46 tbr.length co46)) (fun _ h_ => h_.1)))); (case side4 => exact (Kd.R_reads' HObA.out).2.1); rintro e w51 ⟨rfl, hb⟩; refine ⟨_, rfl, ?_⟩; have n0_ := Ak (Kd.S_below (by (with_reducible repeat (first | apply Kd.S_alloc | apply Kd.S_drewN | apply Kd.S_drew)); exact (Kd.S_mono (Kd.S_far (p := ⟨gbac, 2, none⟩) (Kd.S_far (p := ⟨gbac, 1, none⟩) (Kd.S_far (p := ⟨gbac, 0, none⟩) (Kd.S_types HO_bc.out BKac.out Zq4) (fun _ hk => hk.2) (.string taI)) (fun _ hk => hk.2) (.slice Ao44 tbg.length co44)) (fun _ hk => hk.2) (.slice Ao46 tbr.length co46)) (fun _ h_ => h_.1))) hb); have n1_ := Ak (Kd.R_below (by (with_reducible repeat (first | apply Kd.R_alloc | apply Kd.R_drewN | apply Kd.R_drew)); exact (Kd.R_mono (Kd.R_far (p := ⟨gbac, 2, none⟩) (Kd.R_far (p := ⟨gbac, 1, none⟩) (Kd.R_far (p := ⟨gbac, 0, none⟩) (Kd.R_mono HO_bb.out (fun k_ hk => (⟨hk, hk.2.2.2.2⟩ : _ ∧ k_ ≠ gbac))) (fun _ hk => hk.2) (.string taI)) (fun _ hk => hk.2) (.slice Ao44 tbg.length co44)) (fun _ hk => hk.2) (.slice Ao46 tbr.length co46)) (fun _ h_ => h_.1))) hb); have n2_ := Ak (Kd.S_below (by (with_reducible repeat (first | apply Kd.S_alloc | apply Kd.S_drewN | apply Kd.S_drew)); exact (Kd.S_mono (Kd.S_far (p := ⟨gbac, 2, none⟩) (Kd.S_far (p := ⟨gbac, 1, none⟩) (Kd.S_far (p := ⟨gbac, 0, none⟩) (Kd.S_types HObG.out BKac.out Zq4) (fun _ hk => hk.2) (.string taI)) (fun _ hk => hk.2) (.slice Ao44 tbg.length co44)) (fun _ hk => hk.2) (.slice Ao46 tbr.length co46)) (fun _ h_ => h_.1))) hb); have n3_ := Ak (Kd.R_below (by (with_reducible repeat (first | apply Kd.R_alloc | apply Kd.R_drewN | apply Kd.R_drew)); exact (Kd.R_mono (Kd.R_far (p := ⟨gbac, 2, none⟩) (Kd.R_far (p := ⟨gbac, 1, none⟩) (Kd.R_far (p := ⟨gbac, 0, none⟩) (Kd.R_mono HObA.out (fun k_ hk => (⟨hk, hk.2.2.2.2⟩ : _ ∧ k_ ≠ gbac))) (fun _ hk => hk.2) (.string taI)) (fun _ hk => hk.2) (.slice Ao44 tbg.length co44)) (fun _ hk => hk.2) (.slice Ao46 tbr.length co46)) (fun _ h_ => h_.1))) hb); have n4_ := Zq193; have n5_ := Zq220; have n6_ := Ak (blk_below (g := gbac) (o := .cells #[.string taI, .slice Ao44 tbg.length co44, .slice Ao46 tbr.length co46] 27 (0, 0)) (by (with_reducible repeat (first | refine blk_drewN ?_ _ | refine blk_drew ?_ | refine blk_alloc ?_ _)); refine blk_put (cs := #[.string taI, .slice Ao44 tbg.length co44, .slice none 0 0]) ?_ 2 _ rfl; (with_reducible repeat (first | refine blk_drewN ?_ _ | refine blk_drew ?_ | refine blk_alloc ?_ _)); refine blk_put (cs := #[.string taI, .slice none 0 0, .slice none 0 0]) ?_ 1 _ rfl; (with_reducible repeat (first | refine blk_drewN ?_ _ | refine blk_drew ?_ | refine blk_alloc ?_ _)); refine blk_put (cs := #[.string (⟨#[]⟩ : ByteArray), .slice none 0 0, .slice none 0 0]) ?_ 0 _ rfl; (with_reducible repeat (first | refine blk_drewN ?_ _ | refine blk_drew ?_ | refine blk_alloc ?_ _)); exact BKac.out) hb); have n7_ := Zq256; clear HO_bc HO_bb HObG HObA BKad BKan BKac HB; have HO_bc := n0_; have HO_bb := n1_; have HObG := n2_; have HObA := n3_; have BKad := n4_; have BKan := n5_; have BKac := n6_; have HB := n7_; clear n0_ n1_ n2_ n3_ n4_ n5_ n6_ n7_; (try clear hb); (try clear hb2); (try clear hk); (try clear hi)))
         go_roundg k1
         case measure => have := HK1.out; omega
         case rel => exact ⟨(wrap64 (x8_1 - 1)), Zq7, H', ⟨Zq27⟩, ⟨by (with_reducible repeat (first | apply Kd.S_alloc | apply Kd.S_drewN | apply Kd.S_drew)); exact Kd.S_mono HO_bc.out (fun _ hk => trivial)⟩, ⟨by (with_reducible repeat (first | apply Kd.R_alloc | apply Kd.R_drewN | apply Kd.R_drew)); exact Kd.R_mono HO_bb.out (fun _ hk => ⟨hk.2.2.1, hk.2.2.2.1⟩)⟩, ⟨Zq19⟩, ⟨Zq20⟩, ⟨Zq25⟩⟩
       ·rw [if_neg c18] at H; have c18b0 : (tdb == 0) = false := beq_eq_false_iff_ne.mpr c18; have c18b1 : (tdb != 0) = true := bne_iff_ne.mpr c18; simp only [Option.some.injEq, Prod.mk.injEq] at H; obtain ⟨rfl, rfl⟩ := H
        try go_wp2
        have n0_ := Ak (Kd.S_drew HO_bc.out); have n1_ := Ak (Kd.R_drew HO_bb.out); have n2_ := Ak (blk_drew BKad.out); have n3_ := Ak (blk_drew BKan.out); have n4_ := Zq208; clear HO_bc HO_bb BKad BKan HB; have HO_bc := n0_; have HO_bb := n1_; have BKad := n2_; have BKan := n3_; have HB := n4_; clear n0_ n1_ n2_ n3_ n4_; obtain ⟨i053, hi053, _, hsz53, _⟩ := info_parts info3; obtain ⟨hcut53, hA53, hC53⟩ := print_take_of (P := Try.prog) (Value.int .i64) 0 30 3 .i64 Try.underlying30 hi053 hsz53 A1 c1 l1 x8_1 (of_decide_eq_true Zq5) (of_decide_eq_true Zq5) HC1.out; have HRca := Ak (Kd.C_of_reads (h1 := fun _ => rfl) (hA53 _ (Kd.reads_of_C HR1.out))); have HCca := Ak hC53; clear hA53 hC53 hi053 hsz53; refine start_ (n := 11) (S := fun w' => w'.cell? ⟨gbad, 0, none⟩ = some (.int .u32 a0_0) ∧ w'.cell? ⟨gbad, 1, none⟩ = some (.slice A0_1 l0_1.length c0_1) ∧ w'.cell? ⟨gbad, 2, none⟩ = some (.string a0_2) ∧ w'.cell? ⟨gbad, 3, none⟩ = some (.slice A0_3 l0_3.length c0_3) ∧ w'.cell? ⟨gbad, 4, none⟩ = some (.slice A0_4 l0_4.length c0_4)) (ds := []) #[false, false, false, false, false, false, false, false, false, false, false] Zq2 rfl rfl ⟨(blk_cell BKad.out 0).trans rfl, (blk_cell BKad.out 1).trans rfl, (blk_cell BKad.out 2).trans rfl, (blk_cell BKad.out 3).trans rfl, (blk_cell BKad.out 4).trans rfl⟩ (fun hHeld => ?_); refine with_tabW irq_Parent.tab7 irq_Parent.bits7 (fun HT_ HW_ => ?_); generalize wr.drew = w52 at HO_bc HO_bb BKad BKan HB HRca hHeld ⊢; refine pure_ (i := 1) (N := some 31) (v := ?_) (a' := ?_) #[false, true, false, false, false, false, false, false, false, false, false] rfl rfl (any_of HT_.out Zq2) (fun _ _ _ h => h) (Or.inl ⟨Zq3, ?_⟩) ?_ ?_
        rotate_left
        ·intro w'
         go_simp
         with_reducible rfl
        rotate_left
        ·simp only [Sx]
         rfl
        refine pure_ (i := 2) (N := some 32) (v := ?_) (a' := ?_) #[false, true, true, false, false, false, false, false, false, false, false] rfl rfl (any_of HT_.out Zq2) (fun _ _ _ h => h) (Or.inl ⟨Zq3, ?_⟩) ?_ ?_
        rotate_left
        ·intro w'
         go_simp
         with_reducible rfl
        rotate_left
        ·simp only [Sx]
         rfl
        refine pure_ (i := 3) (N := some 33) (v := ?_) (a' := ?_) #[false, true, true, true, false, false, false, false, false, false, false] rfl rfl (any_of HT_.out Zq2) (fun _ _ _ h => h) (Or.inl ⟨Zq3, ?_⟩) ?_ ?_
        rotate_left
        ·intro w'
         go_simp
         with_reducible rfl
        rotate_left
        ·simp only [Sx]
         rfl
        refine take_ (i := 0) (N := some 30) (v := ?_) (a' := ?_) #[true, true, true, true, false, false, false, false, false, false, false] rfl rfl (take_ofW HT_.out HW_.out Zq2) (fun _ _ _ h => h) (Or.inl ⟨Zq3, ?_⟩) hHeld ?_ ?_
        rotate_left
        ·rintro w' ⟨s0, s1, s2, s3, s4⟩
         go_simp
         with_reducible rfl
        rotate_left
        ·simp only [Sx]
         rfl
        refine join_ (σ := Value × Value × Nat) 2 #[true, true, true, true, true, true, true, true, true, false, false] (fun s_ => [(34, .tuple #[.agg #[.string taI, s_.1, s_.2.1], .int .i64 tcu]), (9, .pointer (some ⟨s_.2.2, 0, none⟩)), (29, .tuple #[.agg #[.string taI, s_.1, s_.2.1], .int .i64 tcu]), (35, .agg #[.string taI, s_.1, s_.2.1]), (36, .int .i64 tcu)]) (fun s_ w' => (w'.cell? ⟨gbad, 0, none⟩ = some (.int .u32 a0_0) ∧ w'.cell? ⟨gbad, 1, none⟩ = some (.slice A0_1 l0_1.length c0_1) ∧ w'.cell? ⟨gbad, 2, none⟩ = some (.string a0_2) ∧ w'.cell? ⟨gbad, 3, none⟩ = some (.slice A0_3 l0_3.length c0_3) ∧ w'.cell? ⟨gbad, 4, none⟩ = some (.slice A0_4 l0_4.length c0_4)) ∧ (Kd.S k63 63 w' w.heap.size (fun k_ => some k_ ≠ (.slice Ao11 taz.length co11 : Value).ownBlock) s_.1 tbg) ∧ (Kd.R k27 27 w' w.heap.size (fun k_ => some k_ ≠ (s_.1 : Value).ownBlock ∧ some k_ ≠ (.slice Ao11 taz.length co11 : Value).ownBlock ∧ some k_ ≠ (.slice Ao12 tbz.length co12 : Value).ownBlock ∧ k_ ≠ gban ∧ k_ ≠ s_.2.2) s_.2.1 tbr) ∧ (Kd.S k63 63 w' w.heap.size (fun k_ => some k_ ≠ (s_.1 : Value).ownBlock) (.slice Ao11 taz.length co11) taz) ∧ (Kd.R k27 27 w' w.heap.size (fun k_ => some k_ ≠ (s_.1 : Value).ownBlock ∧ some k_ ≠ (s_.2.1 : Value).ownBlock ∧ some k_ ≠ (.slice Ao11 taz.length co11 : Value).ownBlock ∧ k_ ≠ gban ∧ k_ ≠ s_.2.2) (.slice Ao12 tbz.length co12) tbz) ∧ (w'.heap[gbad]? = some (.cells #[.int .u32 a0_0, .slice A0_1 l0_1.length c0_1, .string a0_2, .slice A0_3 l0_3.length c0_3, .slice A0_4 l0_4.length c0_4] 29 (0, 0))) ∧ (w'.heap[gban]? = some (.cells #[.string tbO, .slice Ao11 taz.length co11, .slice Ao12 tbz.length co12] 27 (0, 0))) ∧ (w'.heap[s_.2.2]? = some (.cells #[.string (⟨#[]⟩ : ByteArray), .slice none 0 0, .slice none 0 0] 27 (0, 0))) ∧ (w.heap.size ≤ s_.2.2) ∧ (w.heap.size ≤ s_.2.2) ∧ (gbad ≠ s_.2.2) ∧ (s_.2.2 ≠ gbad) ∧ (gban ≠ s_.2.2) ∧ (s_.2.2 ≠ gban) ∧ (Below w.heap.size w w')) ?_ ?_
        rotate_left
        ·intro hCont; refine two_ (i := 4) (j := 8) (Ni := some 34) (Nj := some 9) #[true, true, true, true, true, false, false, false, false, false, false] #[true, true, true, true, false, false, false, false, true, false, false] rfl rfl rfl rfl (two_of HT_.out Zq2) Zq4 Zq4 (fun K hK => ?_) (fun K hK => ?_)
         ·skip
          refine goes_ Try.func28 Zq2 rfl #[.agg #[.int .u32 a0_0, .slice A0_1 l0_1.length c0_1, .string a0_2, .slice A0_3 l0_3.length c0_3, .slice A0_4 l0_4.length c0_4], .slice A1 (l1.take (x8_1 : Int).toNat).length c1] Zq3 rfl rfl Zq129 ?_; with_reducible refine (path_Get.calls k1 a0_0 _ _ l0_1 a0_2 (fun k_ => k_ < w.heap.size) _ _ l0_3 (fun k_ => k_ < w.heap.size) _ _ l0_4 _ _ (l1.take (x8_1 : Int).toNat) taI tbg tbr tcu _ ?side1 ?side2 ?side3 ?side4 ?side5 ?side6 A16.out).mono ?_
          (case side1 => repeat (first | exact Zq138 | (with_reducible refine Kd.C_alloc ?_ _) | (with_reducible refine Kd.C_drewN ?_ _) | (with_reducible refine Kd.C_drew ?_)))
          (case side2 => exact HC0_1.out)
          (case side3 => exact Kd.V_mk HC0_3.out (Kd.F_below (Kd.C_F k63_heap HR0_3.out) Zq21))
          (case side4 => exact Kd.V_mk HC0_4.out (Kd.F_below (Kd.C_F k27_heap HR0_4.out) Zq21))
          (case side5 => repeat (first | exact Zq276 | (with_reducible refine Kd.C_alloc ?_ _) | (with_reducible refine Kd.C_drewN ?_ _) | (with_reducible refine Kd.C_drew ?_)))
          (case side6 => exact HCca.out)
          rintro e w54 ⟨v176, v179, rfl, ho0, ho1, hb⟩
          refine ⟨_, rfl, ?_⟩; have n0_ := Zq231; have n1_ := Zq169; have n2_ := Zq224; have n3_ := Zq166; have n4_ := Zq134; have n5_ := Zq139; have n6_ := Zq230; clear HO_bc HO_bb BKad BKan HB; have HO_bc := n0_; have HO_bb := n1_; have HObG := n2_; have HObA := n3_; have BKad := n4_; have BKan := n5_; have HB := n6_; clear n0_ n1_ n2_ n3_ n4_ n5_ n6_
          (try clear hb)
          (try clear hb2)
          (try clear hk)
          (try clear hi)
          (try clear ho0)
          (try clear ho1)
          refine hK.out _ _ ⟨(blk_cell BKad.out 0).trans rfl, (blk_cell BKad.out 1).trans rfl, (blk_cell BKad.out 2).trans rfl, (blk_cell BKad.out 3).trans rfl, (blk_cell BKad.out 4).trans rfl⟩ (fun hHeld => ?_); clear hK K; refine norm_ (a' := ?_) ?_ ?_
          rotate_left
          ·show Act.put _ (some 34) _ = _
           simp only [Sx]
           rfl
          refine pure_ (i := 5) (N := some 29) (v := ?_) (a' := ?_) #[true, true, true, true, true, true, false, false, false, false, false] rfl rfl (any_of HT_.out Zq2) (fun _ _ _ h => h) (Or.inl ⟨Zq3, ?_⟩) ?_ ?_
          rotate_left
          ·intro w'
           go_simp
           with_reducible rfl
          rotate_left
          ·simp only [Sx]
           rfl
          refine pure_ (i := 6) (N := some 35) (v := ?_) (a' := ?_) #[true, true, true, true, true, true, true, false, false, false, false] rfl rfl (any_of HT_.out Zq2) (fun _ _ _ h => h) (Or.inl ⟨Zq3, ?_⟩) ?_ ?_
          rotate_left
          ·intro w'
           go_simp
           with_reducible rfl
          rotate_left
          ·simp only [Sx]
           rfl
          refine pure_ (i := 7) (N := some 36) (v := ?_) (a' := ?_) #[true, true, true, true, true, true, true, true, false, false, false] rfl rfl (any_of HT_.out Zq2) (fun _ _ _ h => h) (Or.inl ⟨Zq3, ?_⟩) ?_ ?_
          rotate_left
          ·intro w'
           go_simp
           with_reducible rfl
          rotate_left
          ·simp only [Sx]
           rfl
          refine one_ (i := 8) (N := some 9) #[true, true, true, true, true, true, true, true, true, false, false] rfl rfl (one_of HT_.out Zq2) Zq4 (fun K hK => ?_); refine box_step ?hg (N := 9) ?hd (cs := #[.string (⟨#[]⟩ : ByteArray), .slice none 0 0, .slice none 0 0]) (t := 27) ?hr ?_; (case hd | hg => rfl); (case hr => first | (go_simp; done) | (go_simp; rfl)); intro gbac hg w55 hbox hb; have n0_ := Zq255; have n1_ := Zq196; have n2_ := Ak (Kd.S_below Zq107 hb); have n3_ := Zq275; have n4_ := Zq134; have n5_ := Zq139; have n6_ := Zq230; have n7_ := Ak (hbox); have n8_ := Zq155; have n9_ := Zq155; have n10_ := Zq284; have n11_ := Zq285; have n12_ := Zq286; have n13_ := Zq287; clear HO_bc HO_bb HObG HObA BKad BKan HB; have HO_bc := n0_; have HO_bb := n1_; have HObG := n2_; have HObA := n3_; have BKad := n4_; have BKan := n5_; have HB := n6_; have BKac := n7_; have GWac := n8_; have GEac := n9_; have NB163_182 := n10_; have NB182_163 := n11_; have NB172_182 := n12_; have NB182_172 := n13_; clear n0_ n1_ n2_ n3_ n4_ n5_ n6_ n7_ n8_ n9_ n10_ n11_ n12_ n13_ hb hbox hg; refine hK.out _ _ ⟨(blk_cell BKad.out 0).trans rfl, (blk_cell BKad.out 1).trans rfl, (blk_cell BKad.out 2).trans rfl, (blk_cell BKad.out 3).trans rfl, (blk_cell BKad.out 4).trans rfl⟩ (fun hHeld => ?_); clear hK K; refine norm_ (a' := ?_) ?_ ?_
          rotate_left
          ·show Act.put _ (some 9) _ = _
           simp only [Sx]
           rfl
          exact norm_ Zq60 (hCont (v176, v179, gbac) _ ⟨hHeld, Zq83, Zq84, Zq85, Zq120, Zq19, Zq20, Zq52, GWac.out, GEac.out, NB163_182.out, NB182_163.out, NB172_182.out, NB182_172.out, Zq25⟩)
         ·skip
          refine box_step ?hg (N := 9) ?hd (cs := #[.string (⟨#[]⟩ : ByteArray), .slice none 0 0, .slice none 0 0]) (t := 27) ?hr ?_; (case hd | hg => rfl); (case hr => first | (go_simp; done) | (go_simp; rfl)); intro gbac hg w54 hbox hb; have n0_ := Zq255; have n1_ := Zq196; have n2_ := Zq134; have n3_ := Zq139; have n4_ := Zq230; have n5_ := Ak (hbox); have n6_ := Zq155; have n7_ := Zq155; have n8_ := Zq284; have n9_ := Zq285; have n10_ := Zq286; have n11_ := Zq287; clear HO_bc HO_bb BKad BKan HB; have HO_bc := n0_; have HO_bb := n1_; have BKad := n2_; have BKan := n3_; have HB := n4_; have BKac := n5_; have GWac := n6_; have GEac := n7_; have NB163_182 := n8_; have NB182_163 := n9_; have NB172_182 := n10_; have NB182_172 := n11_; clear n0_ n1_ n2_ n3_ n4_ n5_ n6_ n7_ n8_ n9_ n10_ n11_ hb hbox hg; refine hK.out _ _ ⟨(blk_cell BKad.out 0).trans rfl, (blk_cell BKad.out 1).trans rfl, (blk_cell BKad.out 2).trans rfl, (blk_cell BKad.out 3).trans rfl, (blk_cell BKad.out 4).trans rfl⟩ (fun hHeld => ?_); clear hK K; refine norm_ (a' := ?_) ?_ ?_
          rotate_left
          ·show Act.put _ (some 9) _ = _
           simp only [Sx]
           rfl
          refine one_ (i := 4) (N := some 34) #[true, true, true, true, true, false, false, false, true, false, false] rfl rfl (one_of HT_.out Zq2) Zq4 (fun K hK => ?_); refine goes_ Try.func28 Zq2 rfl #[.agg #[.int .u32 a0_0, .slice A0_1 l0_1.length c0_1, .string a0_2, .slice A0_3 l0_3.length c0_3, .slice A0_4 l0_4.length c0_4], .slice A1 (l1.take (x8_1 : Int).toNat).length c1] Zq3 rfl rfl Zq129 ?_; with_reducible refine (path_Get.calls k1 a0_0 _ _ l0_1 a0_2 (fun k_ => k_ < w.heap.size) _ _ l0_3 (fun k_ => k_ < w.heap.size) _ _ l0_4 _ _ (l1.take (x8_1 : Int).toNat) taI tbg tbr tcu _ ?side1 ?side2 ?side3 ?side4 ?side5 ?side6 A16.out).mono ?_
          (case side1 => repeat (first | exact Zq138 | (with_reducible refine Kd.C_alloc ?_ _) | (with_reducible refine Kd.C_drewN ?_ _) | (with_reducible refine Kd.C_drew ?_)))
          (case side2 => exact HC0_1.out)
          (case side3 => exact Kd.V_mk HC0_3.out (Kd.F_below (Kd.C_F k63_heap HR0_3.out) Zq25))
          (case side4 => exact Kd.V_mk HC0_4.out (Kd.F_below (Kd.C_F k27_heap HR0_4.out) Zq25))
          (case side5 => repeat (first | exact Zq276 | (with_reducible refine Kd.C_alloc ?_ _) | (with_reducible refine Kd.C_drewN ?_ _) | (with_reducible refine Kd.C_drew ?_)))
          (case side6 => exact HCca.out)
          rintro e w55 ⟨v176, v179, rfl, ho0, ho1, hb⟩
          refine ⟨_, rfl, ?_⟩; have n0_ := Zq231; have n1_ := Zq169; have n2_ := Zq225; have n3_ := Zq150; have n4_ := Zq134; have n5_ := Zq139; have n6_ := Zq223; have n7_ := Zq256; clear HO_bc HO_bb BKad BKan BKac HB; have HO_bc := n0_; have HO_bb := n1_; have HObG := n2_; have HObA := n3_; have BKad := n4_; have BKan := n5_; have BKac := n6_; have HB := n7_; clear n0_ n1_ n2_ n3_ n4_ n5_ n6_ n7_
          (try clear hb)
          (try clear hb2)
          (try clear hk)
          (try clear hi)
          (try clear ho0)
          (try clear ho1)
          refine hK.out _ _ ⟨(blk_cell BKad.out 0).trans rfl, (blk_cell BKad.out 1).trans rfl, (blk_cell BKad.out 2).trans rfl, (blk_cell BKad.out 3).trans rfl, (blk_cell BKad.out 4).trans rfl⟩ (fun hHeld => ?_); clear hK K; refine norm_ (a' := ?_) ?_ ?_
          rotate_left
          ·show Act.put _ (some 34) _ = _
           simp only [Sx]
           rfl
          refine pure_ (i := 5) (N := some 29) (v := ?_) (a' := ?_) #[true, true, true, true, true, true, false, false, true, false, false] rfl rfl (any_of HT_.out Zq2) (fun _ _ _ h => h) (Or.inl ⟨Zq3, ?_⟩) ?_ ?_
          rotate_left
          ·intro w'
           go_simp
           with_reducible rfl
          rotate_left
          ·simp only [Sx]
           rfl
          refine pure_ (i := 6) (N := some 35) (v := ?_) (a' := ?_) #[true, true, true, true, true, true, true, false, true, false, false] rfl rfl (any_of HT_.out Zq2) (fun _ _ _ h => h) (Or.inl ⟨Zq3, ?_⟩) ?_ ?_
          rotate_left
          ·intro w'
           go_simp
           with_reducible rfl
          rotate_left
          ·simp only [Sx]
           rfl
          refine pure_ (i := 7) (N := some 36) (v := ?_) (a' := ?_) #[true, true, true, true, true, true, true, true, true, false, false] rfl rfl (any_of HT_.out Zq2) (fun _ _ _ h => h) (Or.inl ⟨Zq3, ?_⟩) ?_ ?_
          rotate_left
          ·intro w'
           go_simp
           with_reducible rfl
          rotate_left
          ·simp only [Sx]
           rfl
          exact norm_ Zq60 (hCont (v176, v179, gbac) _ ⟨hHeld, Zq83, Zq84, Zq85, Zq121, Zq19, Zq20, Zq52, GWac.out, GEac.out, NB163_182.out, NB182_163.out, NB172_182.out, NB182_172.out, Zq25⟩)
        rintro ⟨v176, v179, gbac⟩ w56 ⟨hS_, h0_, h1_, h2_, h3_, h4_, h5_, h6_, h7_, h8_, h9_, h10_, h11_, h12_, h13_⟩
        have n0_ : Aside0 (Kd.S k63 63 w56 w.heap.size (fun k_ => some k_ ≠ (.slice Ao11 taz.length co11 : Value).ownBlock) v176 tbg) := ⟨h0_⟩
        have n1_ : Aside0 (Kd.R k27 27 w56 w.heap.size (fun k_ => some k_ ≠ (v176 : Value).ownBlock ∧ some k_ ≠ (.slice Ao11 taz.length co11 : Value).ownBlock ∧ some k_ ≠ (.slice Ao12 tbz.length co12 : Value).ownBlock ∧ k_ ≠ gban ∧ k_ ≠ gbac) v179 tbr) := ⟨h1_⟩
        have n2_ : Aside0 (Kd.S k63 63 w56 w.heap.size (fun k_ => some k_ ≠ (v176 : Value).ownBlock) (.slice Ao11 taz.length co11) taz) := ⟨h2_⟩
        have n3_ : Aside0 (Kd.R k27 27 w56 w.heap.size (fun k_ => some k_ ≠ (v176 : Value).ownBlock ∧ some k_ ≠ (v179 : Value).ownBlock ∧ some k_ ≠ (.slice Ao11 taz.length co11 : Value).ownBlock ∧ k_ ≠ gban ∧ k_ ≠ gbac) (.slice Ao12 tbz.length co12) tbz) := ⟨h3_⟩
        have n4_ : Aside0 (w56.heap[gbad]? = some (.cells #[.int .u32 a0_0, .slice A0_1 l0_1.length c0_1, .string a0_2, .slice A0_3 l0_3.length c0_3, .slice A0_4 l0_4.length c0_4] 29 (0, 0))) := ⟨h4_⟩
        have n5_ : Aside0 (w56.heap[gban]? = some (.cells #[.string tbO, .slice Ao11 taz.length co11, .slice Ao12 tbz.length co12] 27 (0, 0))) := ⟨h5_⟩
        have n6_ : Aside0 (w56.heap[gbac]? = some (.cells #[.string (⟨#[]⟩ : ByteArray), .slice none 0 0, .slice none 0 0] 27 (0, 0))) := ⟨h6_⟩
        have n7_ : Aside0 (w.heap.size ≤ gbac) := ⟨h7_⟩
        have n8_ : Aside0 (w.heap.size ≤ gbac) := ⟨h8_⟩
        have n9_ : Aside0 (gbad ≠ gbac) := ⟨h9_⟩
        have n10_ : Aside0 (gbac ≠ gbad) := ⟨h10_⟩
        have n11_ : Aside0 (gban ≠ gbac) := ⟨h11_⟩
        have n12_ : Aside0 (gbac ≠ gban) := ⟨h12_⟩
        have n13_ : Aside0 (Below w.heap.size w w56) := ⟨h13_⟩
        clear HO_bc HO_bb BKad BKan HB h0_ h1_ h2_ h3_ h4_ h5_ h6_ h7_ h8_ h9_ h10_ h11_ h12_ h13_; have HObG := n0_; have HObA := n1_; have HO_bc := n2_; have HO_bb := n3_; have BKad := n4_; have BKan := n5_; have BKac := n6_; have GWac := n7_; have GEac := n8_; have NB163_182 := n9_; have NB182_163 := n10_; have NB172_182 := n11_; have NB182_172 := n12_; have HB := n13_; clear n0_ n1_ n2_ n3_ n4_ n5_ n6_ n7_ n8_ n9_ n10_ n11_ n12_ n13_; have hHeld : w56.cell? ⟨gbad, 0, none⟩ = some (.int .u32 a0_0) ∧ w56.cell? ⟨gbad, 1, none⟩ = some (.slice A0_1 l0_1.length c0_1) ∧ w56.cell? ⟨gbad, 2, none⟩ = some (.string a0_2) ∧ w56.cell? ⟨gbad, 3, none⟩ = some (.slice A0_3 l0_3.length c0_3) ∧ w56.cell? ⟨gbad, 4, none⟩ = some (.slice A0_4 l0_4.length c0_4) := hS_; obtain ⟨Ao58, co58, eo58⟩ := Kd.S_slice HObG.out
        (first | subst eo58 | (injection eo58 with f1_ f2_ f3_; have f4_ := f1_.symm; have f5_ := f3_.symm; clear f1_ f2_ f3_; subst f4_; subst f5_))
        obtain ⟨Ao60, co60, eo60⟩ := Kd.R_slice HObA.out
        (first | subst eo60 | (injection eo60 with f1_ f2_ f3_; have f4_ := f1_.symm; have f5_ := f3_.symm; clear f1_ f2_ f3_; subst f4_; subst f5_))
        refine norm_ (a' := ?_) ?_ ?_
        rotate_left
        ·simp only [putAll, Act.put, List.setIfInBounds_toArray, List.set_cons_zero, List.set_cons_succ]
         rfl
        refine one_ (i := 9) (N := none) #[true, true, true, true, true, true, true, true, true, true, false] rfl rfl (one_of HT_.out Zq2) Zq4 (fun K hK => ?_); have hs57 : w56.cell? ⟨gbac, 0, none⟩ = some (.string (⟨#[]⟩ : ByteArray)) := (blk_cell BKac.out 0).trans rfl; have hfs57 := blk_frozen BKac.out 0; have hns57_0 := NB163_182.out; have hns57_1 := NB172_182.out; have hms57_0 := NB182_163.out; have hms57_1 := NB182_172.out; have hs59 : w56.cell? ⟨gbac, 1, none⟩ = some (.slice none 0 0) := (blk_cell BKac.out 1).trans rfl; have hfs59 := blk_frozen BKac.out 1; have hns59_0 := NB163_182.out; have hns59_1 := NB172_182.out; have hms59_0 := NB182_163.out; have hms59_1 := NB182_172.out; have hs61 : w56.cell? ⟨gbac, 2, none⟩ = some (.slice none 0 0) := (blk_cell BKac.out 2).trans rfl; have hfs61 := blk_frozen BKac.out 2; have hns61_0 := NB163_182.out; have hns61_1 := NB172_182.out; have hms61_0 := NB182_163.out; have hms61_1 := NB182_172.out; refine skip_ (w1 := ?_) Zq3 rfl ?_ ?_
        rotate_left
        ·go_simp
         rfl
        refine hK.out _ _ ⟨((cell_far (p := ⟨gbac, _, none⟩) NB163_182.out _).trans (((cell_far (p := ⟨gbac, _, none⟩) NB163_182.out _).trans (((cell_far (p := ⟨gbac, _, none⟩) NB163_182.out _).trans (hHeld.1)))))), ((cell_far (p := ⟨gbac, _, none⟩) NB163_182.out _).trans (((cell_far (p := ⟨gbac, _, none⟩) NB163_182.out _).trans (((cell_far (p := ⟨gbac, _, none⟩) NB163_182.out _).trans (hHeld.2.1)))))), ((cell_far (p := ⟨gbac, _, none⟩) NB163_182.out _).trans (((cell_far (p := ⟨gbac, _, none⟩) NB163_182.out _).trans (((cell_far (p := ⟨gbac, _, none⟩) NB163_182.out _).trans (hHeld.2.2.1)))))), ((cell_far (p := ⟨gbac, _, none⟩) NB163_182.out _).trans (((cell_far (p := ⟨gbac, _, none⟩) NB163_182.out _).trans (((cell_far (p := ⟨gbac, _, none⟩) NB163_182.out _).trans (hHeld.2.2.2.1)))))), ((cell_far (p := ⟨gbac, _, none⟩) NB163_182.out _).trans (((cell_far (p := ⟨gbac, _, none⟩) NB163_182.out _).trans (((cell_far (p := ⟨gbac, _, none⟩) NB163_182.out _).trans (hHeld.2.2.2.2))))))⟩ (fun hHeld => ?_); clear hK K; refine pure_ (i := 10) (N := some 10) (v := ?_) (a' := ?_) #[true, true, true, true, true, true, true, true, true, true, true] rfl rfl (any_of HT_.out Zq2) (fun _ _ _ h => h) (Or.inl ⟨Zq3, ?_⟩) ?_ ?_
        rotate_left
        ·intro w'
         go_simp
         with_reducible rfl
        rotate_left
        ·simp only [Sx]
         rfl
        refine done_ (done_of HT_.out Zq2) ?_; have hnb62 := NB182_163.out; have hnc62 := NB163_182.out; have hnb63 := NB182_172.out; have hnc63 := NB172_182.out; have hcz64_0 : w56.cell? ⟨gbac, 0, none⟩ = some (.string (⟨#[]⟩ : ByteArray)) := (blk_cell BKac.out 0).trans rfl; have hcz64_1 : w56.cell? ⟨gbac, 1, none⟩ = some (.slice none 0 0) := (blk_cell BKac.out 1).trans rfl; have hcz64_2 : w56.cell? ⟨gbac, 2, none⟩ = some (.slice none 0 0) := (blk_cell BKac.out 2).trans rfl; have hfz64_0 := blk_frozen BKac.out 0; have hfz64_1 := blk_frozen BKac.out 1; have hfz64_2 := blk_frozen BKac.out 2
        try go_wp2_with (first | ((with_reducible refine gate_callee (f := 56) rfl ?_); refine goesL_ (some 39) rfl rfl Try.func56 Zq2 rfl #[.agg #[.string taI, .slice Ao58 tbg.length co58, .slice Ao60 tbr.length co60], .string (⟨#[105, 110, 116, 101, 114, 114, 117, 112, 116, 45, 112, 97, 114, 101, 110, 116]⟩ : ByteArray)] rfl Zq8 ?_; (with_reducible refine (prop_One.calls k1 taI _ _ tbg _ _ tbr (⟨#[105, 110, 116, 101, 114, 114, 117, 112, 116, 45, 112, 97, 114, 101, 110, 116]⟩ : ByteArray) tbW teG tdb _ ?side1 ?side2 ?side3 ?side4 A17.out).mono ?_); (case side1 => refine (Kd.S_reads' (e := 63) (base := w.heap.size) (ok := fun k_ => some k_ ≠ (.slice Ao11 taz.length co11 : Value).ownBlock) (n := tbg.length) (c := co58) ?_).2.2; exact (by (with_reducible repeat (first | apply Kd.S_alloc | apply Kd.S_drewN | apply Kd.S_drew)); exact (Kd.S_mono (Kd.S_far (p := ⟨gbac, 2, none⟩) (Kd.S_far (p := ⟨gbac, 1, none⟩) (Kd.S_far (p := ⟨gbac, 0, none⟩) (Kd.S_types HObG.out BKac.out Zq4) (fun _ hk => hk.2) (.string taI)) (fun _ hk => hk.2) (.slice Ao58 tbg.length co58)) (fun _ hk => hk.2) (.slice Ao60 tbr.length co60)) (fun _ h_ => h_.1)))); (case side2 => exact (Kd.S_reads' HObG.out).2.1); (case side3 => refine (Kd.R_reads' (e := 27) (base := w.heap.size) (ok := fun k_ => (some k_ ≠ (.slice Ao58 tbg.length co58 : Value).ownBlock ∧ (some k_ ≠ (.slice Ao11 taz.length co11 : Value).ownBlock ∧ (some k_ ≠ (.slice Ao12 tbz.length co12 : Value).ownBlock ∧ (k_ ≠ gban ∧ k_ ≠ gbac))))) (n := tbr.length) (c := co60) ?_).2.2; exact (by (with_reducible repeat (first | apply Kd.R_alloc | apply Kd.R_drewN | apply Kd.R_drew)); exact (Kd.R_mono (Kd.R_far (p := ⟨gbac, 2, none⟩) (Kd.R_far (p := ⟨gbac, 1, none⟩) (Kd.R_far (p := ⟨gbac, 0, none⟩) (Kd.R_mono HObA.out (fun k_ hk => (⟨hk, hk.2.2.2.2⟩ : _ ∧ k_ ≠ gbac))) (fun _ hk => hk.2) (.string taI)) (fun _ hk => hk.2) (.slice Ao58 tbg.length co58)) (fun _ hk => hk.2) (.slice Ao60 tbr.length co60)) (fun _ h_ => h_.1)))); (case side4 => exact (Kd.R_reads' HObA.out).2.1); rintro e w65 ⟨rfl, hb⟩; refine ⟨_, rfl, ?_⟩; have n0_ := Ak (Kd.S_below (by (with_reducible repeat (first | apply Kd.S_alloc | apply Kd.S_drewN | apply Kd.S_drew)); exact (Kd.S_mono (Kd.S_far (p := ⟨gbac, 2, none⟩) (Kd.S_far (p := ⟨gbac, 1, none⟩) (Kd.S_far (p := ⟨gbac, 0, none⟩) (Kd.S_types HO_bc.out BKac.out Zq4) (fun _ hk => hk.2) (.string taI)) (fun _ hk => hk.2) (.slice Ao58 tbg.length co58)) (fun _ hk => hk.2) (.slice Ao60 tbr.length co60)) (fun _ h_ => h_.1))) hb); have n1_ := Ak (Kd.R_below (by (with_reducible repeat (first | apply Kd.R_alloc | apply Kd.R_drewN | apply Kd.R_drew)); exact (Kd.R_mono (Kd.R_far (p := ⟨gbac, 2, none⟩) (Kd.R_far (p := ⟨gbac, 1, none⟩) (Kd.R_far (p := ⟨gbac, 0, none⟩) (Kd.R_mono HO_bb.out (fun k_ hk => (⟨hk, hk.2.2.2.2⟩ : _ ∧ k_ ≠ gbac))) (fun _ hk => hk.2) (.string taI)) (fun _ hk => hk.2) (.slice Ao58 tbg.length co58)) (fun _ hk => hk.2) (.slice Ao60 tbr.length co60)) (fun _ h_ => h_.1))) hb); have n2_ := Ak (Kd.S_below (by (with_reducible repeat (first | apply Kd.S_alloc | apply Kd.S_drewN | apply Kd.S_drew)); exact (Kd.S_mono (Kd.S_far (p := ⟨gbac, 2, none⟩) (Kd.S_far (p := ⟨gbac, 1, none⟩) (Kd.S_far (p := ⟨gbac, 0, none⟩) (Kd.S_types HObG.out BKac.out Zq4) (fun _ hk => hk.2) (.string taI)) (fun _ hk => hk.2) (.slice Ao58 tbg.length co58)) (fun _ hk => hk.2) (.slice Ao60 tbr.length co60)) (fun _ h_ => h_.1))) hb); have n3_ := Ak (Kd.R_below (by (with_reducible repeat (first | apply Kd.R_alloc | apply Kd.R_drewN | apply Kd.R_drew)); exact (Kd.R_mono (Kd.R_far (p := ⟨gbac, 2, none⟩) (Kd.R_far (p := ⟨gbac, 1, none⟩) (Kd.R_far (p := ⟨gbac, 0, none⟩) (Kd.R_mono HObA.out (fun k_ hk => (⟨hk, hk.2.2.2.2⟩ : _ ∧ k_ ≠ gbac))) (fun _ hk => hk.2) (.string taI)) (fun _ hk => hk.2) (.slice Ao58 tbg.length co58)) (fun _ hk => hk.2) (.slice Ao60 tbr.length co60)) (fun _ h_ => h_.1))) hb); have n4_ := Zq193; have n5_ := Zq220; have n6_ := Ak (blk_below (g := gbac) (o := .cells #[.string taI, .slice Ao58 tbg.length co58, .slice Ao60 tbr.length co60] 27 (0, 0)) (by (with_reducible repeat (first | refine blk_drewN ?_ _ | refine blk_drew ?_ | refine blk_alloc ?_ _)); refine blk_put (cs := #[.string taI, .slice Ao58 tbg.length co58, .slice none 0 0]) ?_ 2 _ rfl; (with_reducible repeat (first | refine blk_drewN ?_ _ | refine blk_drew ?_ | refine blk_alloc ?_ _)); refine blk_put (cs := #[.string taI, .slice none 0 0, .slice none 0 0]) ?_ 1 _ rfl; (with_reducible repeat (first | refine blk_drewN ?_ _ | refine blk_drew ?_ | refine blk_alloc ?_ _)); refine blk_put (cs := #[.string (⟨#[]⟩ : ByteArray), .slice none 0 0, .slice none 0 0]) ?_ 0 _ rfl; (with_reducible repeat (first | refine blk_drewN ?_ _ | refine blk_drew ?_ | refine blk_alloc ?_ _)); exact BKac.out) hb); have n7_ := Zq256; clear HO_bc HO_bb HObG HObA BKad BKan BKac HB; have HO_bc := n0_; have HO_bb := n1_; have HObG := n2_; have HObA := n3_; have BKad := n4_; have BKan := n5_; have BKac := n6_; have HB := n7_; clear n0_ n1_ n2_ n3_ n4_ n5_ n6_ n7_; (try clear hb); (try clear hb2); (try clear hk); (try clear hi)))
        go_ret2
        exact ⟨_, Zq13, Zq34, Zq25⟩
      ·rw [if_neg c15] at H; exact absurd H Zq10
     ·rw [if_neg c14] at H; exact absurd H Zq10
    ·rw [if_neg c13] at H; have c13b0 : decide (0 ≤ x8_1) = false := decide_eq_false c13; clear c13; simp only [Option.some.injEq, Prod.mk.injEq] at H; obtain ⟨rfl, rfl⟩ := H
     go_wp2
     go_ret2
     exact ⟨_, Zq13, Zq34, Zq21⟩
 ·rw [if_neg c4] at H; have c4b0 : (tdh == 0) = false := beq_eq_false_iff_ne.mpr c4; have c4b1 : (tdh != 0) = true := bne_iff_ne.mpr c4; simp only [Option.some.injEq, Prod.mk.injEq] at H; obtain ⟨rfl, rfl⟩ := H
  go_enter Try.func27, Try.ntmps27
  go_wp2_with (first | ((with_reducible refine gate_dst (N := 2) rfl ?_); refine box_event ?hg (N := 2) ?hd (cs := #[.int .u32 a0_0, .slice A0_1 l0_1.length c0_1, .string a0_2, .slice A0_3 l0_3.length c0_3, .slice A0_4 l0_4.length c0_4]) (t := 29) ?hr ?_; (case hd | hg => rfl); (case hr => first | (go_simp; done) | (go_simp; rfl)); intro gbad hg w66 hbox hb; have n0_ := Zq142; have n1_ := Ak (hbox); have n2_ := Zq244; have n3_ := Zq244; clear HB; have HB := n0_; have BKad := n1_; have GWad := n2_; have GEad := n3_; clear n0_ n1_ n2_ n3_ hb hbox hg; have hcz67_0 : w66.cell? ⟨gbad, 0, none⟩ = some (.int .u32 a0_0) := (blk_cell BKad.out 0).trans rfl; have hcz67_1 : w66.cell? ⟨gbad, 1, none⟩ = some (.slice A0_1 l0_1.length c0_1) := (blk_cell BKad.out 1).trans rfl; have hcz67_2 : w66.cell? ⟨gbad, 2, none⟩ = some (.string a0_2) := (blk_cell BKad.out 2).trans rfl; have hcz67_3 : w66.cell? ⟨gbad, 3, none⟩ = some (.slice A0_3 l0_3.length c0_3) := (blk_cell BKad.out 3).trans rfl; have hcz67_4 : w66.cell? ⟨gbad, 4, none⟩ = some (.slice A0_4 l0_4.length c0_4) := (blk_cell BKad.out 4).trans rfl; have hfz67_0 := blk_frozen BKad.out 0; have hfz67_1 := blk_frozen BKad.out 1; have hfz67_2 := blk_frozen BKad.out 2; have hfz67_3 := blk_frozen BKad.out 3; have hfz67_4 := blk_frozen BKad.out 4) | ((with_reducible refine gate_callee (f := 28) rfl ?_); refine goesL_ (some 17) rfl rfl Try.func28 Zq2 rfl #[.agg #[.int .u32 a0_0, .slice A0_1 l0_1.length c0_1, .string a0_2, .slice A0_3 l0_3.length c0_3, .slice A0_4 l0_4.length c0_4], .slice A1 l1.length c1] rfl Zq8 ?_; (with_reducible refine (path_Get.calls k a0_0 _ _ l0_1 a0_2 (fun k_ => k_ < w.heap.size) _ _ l0_3 (fun k_ => k_ < w.heap.size) _ _ l0_4 _ _ l1 tbO taz tbz tdh _ ?side1 ?side2 ?side3 ?side4 ?side5 ?side6 A3.out).mono ?_); (case side1 => repeat (first | exact Zq138 | (with_reducible refine Kd.C_alloc ?_ _) | (with_reducible refine Kd.C_drewN ?_ _) | (with_reducible refine Kd.C_drew ?_))); (case side2 => exact HC0_1.out); (case side3 => exact Kd.V_mk HC0_3.out (Kd.F_below (Kd.C_F k63_heap HR0_3.out) Zq45)); (case side4 => exact Kd.V_mk HC0_4.out (Kd.F_below (Kd.C_F k27_heap HR0_4.out) Zq45)); (case side5 => repeat (first | exact (Kd.C_below HR1.out HB.out) | (with_reducible refine Kd.C_alloc ?_ _) | (with_reducible refine Kd.C_drewN ?_ _) | (with_reducible refine Kd.C_drew ?_))); (case side6 => exact HC1.out); rintro e w68 ⟨v166, v169, rfl, ho0, ho1, hb⟩; refine ⟨_, rfl, ?_⟩; have n0_ := Ak (Kd.S_lower (Kd.S_mono (ok' := fun k_ => True) ho0 (fun _ hk_ => trivial)) (below_size Zq45)); have n1_ := Zq283; have n2_ := Zq134; have n3_ := Ak (below_step Zq45 hb); clear BKad HB; have HOdi := n0_; have HOcM := n1_; have BKad := n2_; have HB := n3_; clear n0_ n1_ n2_ n3_; (try clear hb); (try clear hb2); (try clear hk); (try clear hi); (try clear ho0); (try clear ho1)) | ((with_reducible refine gate_dst (N := 6) rfl ?_); refine box_event ?hg (N := 6) ?hd (cs := #[.string (⟨#[]⟩ : ByteArray), .slice none 0 0, .slice none 0 0]) (t := 27) ?hr ?_; (case hd | hg => rfl); (case hr => first | (go_simp; done) | (go_simp; rfl)); intro gban hg w69 hbox hb; have n0_ := Zq279; have n1_ := Zq261; have n2_ := Zq134; have n3_ := Ak (below_step Zq45 hb); have n4_ := Ak (hbox); have n5_ := Zq239; have n6_ := Zq239; have n7_ := Ak ((by rw [hg]; exact Nat.ne_of_lt Zq135 : gbad ≠ gban)); have n8_ := Ak ((by rw [hg]; exact Nat.ne_of_gt Zq135 : gban ≠ gbad)); clear HOdi HOcM BKad HB; have HOdi := n0_; have HOcM := n1_; have BKad := n2_; have HB := n3_; have BKan := n4_; have GWan := n5_; have GEan := n6_; have NB163_172 := n7_; have NB172_163 := n8_; clear n0_ n1_ n2_ n3_ n4_ n5_ n6_ n7_ n8_ hb hbox hg; have hnb70 := NB172_163.out; have hnc70 := NB163_172.out; have hcz71_0 : w69.cell? ⟨gban, 0, none⟩ = some (.string (⟨#[]⟩ : ByteArray)) := (blk_cell BKan.out 0).trans rfl; have hcz71_1 : w69.cell? ⟨gban, 1, none⟩ = some (.slice none 0 0) := (blk_cell BKan.out 1).trans rfl; have hcz71_2 : w69.cell? ⟨gban, 2, none⟩ = some (.slice none 0 0) := (blk_cell BKan.out 2).trans rfl; have hfz71_0 := blk_frozen BKan.out 0; have hfz71_1 := blk_frozen BKan.out 1; have hfz71_2 := blk_frozen BKan.out 2; obtain ⟨Ao72, co72, eo72⟩ := Kd.S_slice HOdi.out; subst eo72; obtain ⟨Ao73, co73, eo73⟩ := Kd.R_slice HOcM.out; subst eo73))
  go_ret2
  exact ⟨_, Zq13, Zq34, Zq21⟩
end Go.Proofs.Ytkopmkinlanhoaa.PB

namespace Go.Proofs.Ytkopmkinlanhoaa.PB
open Go.RowKit Go.Proofs.YtkopmkinlanhoaaW.PrintWords Go.Proofs.YtkopmkinlanhoaaW.PrintLast Go.Proofs.YtkopmkinlanhoaaW.PrintMore
attribute [local go_sem] max2_int min2_int max_two min_two max_three min_three max_four min_four
def arboretlaw14_awake.f (k : Nat)  : Option (Bool) := (irq_Parent.f k 0 ([] : List (S82)) (⟨#[]⟩ : ByteArray) ([] : List (S63)) ([] : List (S27)) ([] : List Int)).bind fun btdB => (some (btdB.2 == 8))
set_option maxHeartbeats 8000000 in
set_option maxRecDepth 100000 in
theorem arboretlaw14_awake.calls (k : Nat)  (r : Bool) (w : World) (h : arboretlaw14_awake.f k  = some r) :
  Calls Try.prog 9 #[] w fun e w' => e = .returned (.bool r) ∧ Below w.heap.size w w' := by
 have hu29 := Try.underlying29; have HB := Zq151; have H : ((irq_Parent.f k 0 ([] : List (S82)) (⟨#[]⟩ : ByteArray) ([] : List (S63)) ([] : List (S27)) ([] : List Int)).bind fun btdB => (some (btdB.2 == 8))) = some r := h; clear h; replace H := Option.bind_eq_some_iff.mp H; obtain ⟨⟨tdB, tff⟩, A10, H⟩ := H; replace H : (some (tff == 8)) = some r := H; have A1 := Ak A10; clear A10; obtain rfl := Option.some.inj H
 go_enter Try.func9, Try.ntmps9
 go_wp2_with (first | ((with_reducible refine gate_callee (f := 27) rfl ?_); refine goesL_ (some 5) rfl rfl Try.func27 Zq2 rfl #[.agg #[.int .u32 0, .slice none 0 0, .string (⟨#[]⟩ : ByteArray), .slice none 0 0, .slice none 0 0], .slice none 0 0] rfl Zq8 ?_; (refine (irq_Parent.calls k 0 _ _ ([] : List (S82)) (⟨#[]⟩ : ByteArray) _ _ ([] : List (S63)) _ _ ([] : List (S27)) _ _ ([] : List Int) tdB tff _ ?side1 ?side2 ?side3 ?side4 ?side5 ?side6 ?side7 ?side8 A1.out).mono ?_); (case side1 => exact Kd.C_nil _ _); (case side2 => exact Nat.le_refl _); (case side3 => exact Kd.C_nil _ _); (case side4 => exact Nat.le_refl _); (case side5 => exact Kd.C_nil _ _); (case side6 => exact Nat.le_refl _); (case side7 => exact Kd.C_nil _ _); (case side8 => exact Nat.le_refl _); rintro e w2 ⟨v191, rfl, ho0, hb⟩; refine ⟨_, rfl, ?_⟩; have n0_ := Ak (Kd.R_lower ho0 (below_size Zq6)); have n1_ := Zq142; clear HB; have HOfF := n0_; have HB := n1_; clear n0_ n1_; (try clear hb); (try clear hb2); (try clear hk); (try clear hi); (try clear ho0)))
 go_ret
 exact ⟨Zq13, Zq6⟩
mutual
def arboretlaw03_size.l0 : Nat → Int → Int → Int → Int → ByteArray → List (S63) → List (S27) → Option (Int)
 | 0, _, _, _, _, _, _, _ => none
 | k + 1, x1, x5, x14, x15, xel, xdC, xdj => if x15 < x14 then (if 0 ≤ x15 then (if x15 < (xdC.length : Int) then (arboretlaw03_size.l0 k x1 (wrap64 ((wrap64 ((wrap64 (x5 + 1)) + (((rd_T63 xdC x15).f0).size : Int))) + (((rd_T63 xdC x15).f1).length : Int))) x14 (wrap64 (x15 + 1)) xel xdC xdj) else (none)) else (none)) else (arboretlaw03_size.l1 k x1 x5 (xdj.length : Int) 0 xel xdC xdj)
def arboretlaw03_size.l1 : Nat → Int → Int → Int → Int → ByteArray → List (S63) → List (S27) → Option (Int)
 | 0, _, _, _, _, _, _, _ => none
 | k + 1, x1, x5, x39, x40, xel, xdC, xdj => if x40 < x39 then (if x1 > 20 then (some 1048576) else (if x5 > 100000 then (some 1048576) else (if 0 ≤ x40 then (if x40 < (xdj.length : Int) then ((arboretlaw03_size.f k ((rd_T27 xdj x40).f0) ((rd_T27 xdj x40).f1) ((rd_T27 xdj x40).f2) (wrap64 (x1 + 1))).bind fun tdD => (arboretlaw03_size.l1 k x1 (wrap64 (x5 + tdD)) x39 (wrap64 (x40 + 1)) xel xdC xdj)) else (none)) else (none)))) else (some x5)
def arboretlaw03_size.f : Nat → ByteArray → List (S63) → List (S27) → Int → Option (Int)
 | 0, _, _, _, _ => none
 | k + 1, a0_0, l0_1, l0_2, a1 => arboretlaw03_size.l0 k a1 (wrap64 (1 + (a0_0.size : Int))) (l0_1.length : Int) 0 a0_0 l0_1 l0_2
end
set_option maxHeartbeats 8000000 in
set_option maxRecDepth 100000 in
theorem arboretlaw03_size.calls (k : Nat) : ∀ (a0_0 : ByteArray) (A0_1 : Option Addr) (c0_1 : Nat) (l0_1 : List (S63)) (A0_2 : Option Addr) (c0_2 : Nat) (l0_2 : List (S27)) (a1 : Int) (r : Int) (w : World) (hr0_1 : Kd.C k63 w A0_1 l0_1.length l0_1) (hc0_1 : l0_1.length ≤ c0_1) (hr0_2 : Kd.C k27 w A0_2 l0_2.length l0_2) (hc0_2 : l0_2.length ≤ c0_2) (h : arboretlaw03_size.f k a0_0 l0_1 l0_2 a1 = some r),
  Calls Try.prog 36 #[.agg #[.string a0_0, .slice A0_1 l0_1.length c0_1, .slice A0_2 l0_2.length c0_2], .int .i64 a1] w fun e w' => e = .returned (.int .i64 r) ∧ Below w.heap.size w w' := by
 induction k using Nat.strongRecOn with
 | _ k ih =>
 intro a0_0 A0_1 c0_1 l0_1 A0_2 c0_2 l0_2 a1 r w hr0_1 hc0_1 hr0_2 hc0_2 h
 cases k with
 | zero => exact absurd h (by simp [arboretlaw03_size.f])
 | succ k =>
 simp only [arboretlaw03_size.f] at h; have hu27 := Try.underlying27; have HR0_1 := Ak hr0_1; have HC0_1 := Ak hc0_1; clear hr0_1 hc0_1; have HR0_2 := Ak hr0_2; have HC0_2 := Ak hc0_2; clear hr0_2 hc0_2; have HB := Zq151; have H : (arboretlaw03_size.l0 k a1 (wrap64 (1 + (a0_0.size : Int))) (l0_1.length : Int) 0 a0_0 l0_1 l0_2) = some r := h; clear h; have H' := Ak H; clear H
 go_enter Try.func36, Try.ntmps36
 go_wp2_with (first | ((with_reducible refine gate_dst (N := 2) rfl ?_); refine box_event ?hg (N := 2) ?hd (cs := #[.string a0_0, .slice A0_1 l0_1.length c0_1, .slice A0_2 l0_2.length c0_2]) (t := 27) ?hr ?_; (case hd | hg => rfl); (case hr => first | (go_simp; done) | (go_simp; rfl)); intro gbaN hg w3 hbox hb; have n0_ := Zq142; have n1_ := Ak (hbox); have n2_ := Zq198; have n3_ := Zq198; clear HB; have HB := n0_; have BKaN := n1_; have GWaN := n2_; have GEaN := n3_; clear n0_ n1_ n2_ n3_ hb hbox hg; have hcz4_0 : w3.cell? ⟨gbaN, 0, none⟩ = some (.string a0_0) := (blk_cell BKaN.out 0).trans rfl; have hcz4_1 : w3.cell? ⟨gbaN, 1, none⟩ = some (.slice A0_1 l0_1.length c0_1) := (blk_cell BKaN.out 1).trans rfl; have hcz4_2 : w3.cell? ⟨gbaN, 2, none⟩ = some (.slice A0_2 l0_2.length c0_2) := (blk_cell BKaN.out 2).trans rfl; have hfz4_0 := blk_frozen BKaN.out 0; have hfz4_1 := blk_frozen BKaN.out 1; have hfz4_2 := blk_frozen BKaN.out 2))
 repeat (go_quiet (first | ((with_reducible refine gate_dst (N := 2) rfl ?_); refine box_event ?hg (N := 2) ?hd (cs := #[.string a0_0, .slice A0_1 l0_1.length c0_1, .slice A0_2 l0_2.length c0_2]) (t := 27) ?hr ?_; (case hd | hg => rfl); (case hr => first | (go_simp; done) | (go_simp; rfl)); intro gbaN hg w3 hbox hb; have n0_ := Zq142; have n1_ := Ak (hbox); have n2_ := Zq198; have n3_ := Zq198; clear HB; have HB := n0_; have BKaN := n1_; have GWaN := n2_; have GEaN := n3_; clear n0_ n1_ n2_ n3_ hb hbox hg; have hcz4_0 : w3.cell? ⟨gbaN, 0, none⟩ = some (.string a0_0) := (blk_cell BKaN.out 0).trans rfl; have hcz4_1 : w3.cell? ⟨gbaN, 1, none⟩ = some (.slice A0_1 l0_1.length c0_1) := (blk_cell BKaN.out 1).trans rfl; have hcz4_2 : w3.cell? ⟨gbaN, 2, none⟩ = some (.slice A0_2 l0_2.length c0_2) := (blk_cell BKaN.out 2).trans rfl; have hfz4_0 := blk_frozen BKaN.out 0; have hfz4_1 := blk_frozen BKaN.out 1; have hfz4_2 := blk_frozen BKaN.out 2)); try go_wp2_with (first | ((with_reducible refine gate_dst (N := 2) rfl ?_); refine box_event ?hg (N := 2) ?hd (cs := #[.string a0_0, .slice A0_1 l0_1.length c0_1, .slice A0_2 l0_2.length c0_2]) (t := 27) ?hr ?_; (case hd | hg => rfl); (case hr => first | (go_simp; done) | (go_simp; rfl)); intro gbaN hg w3 hbox hb; have n0_ := Zq142; have n1_ := Ak (hbox); have n2_ := Zq198; have n3_ := Zq198; clear HB; have HB := n0_; have BKaN := n1_; have GWaN := n2_; have GEaN := n3_; clear n0_ n1_ n2_ n3_ hb hbox hg; have hcz4_0 : w3.cell? ⟨gbaN, 0, none⟩ = some (.string a0_0) := (blk_cell BKaN.out 0).trans rfl; have hcz4_1 : w3.cell? ⟨gbaN, 1, none⟩ = some (.slice A0_1 l0_1.length c0_1) := (blk_cell BKaN.out 1).trans rfl; have hcz4_2 : w3.cell? ⟨gbaN, 2, none⟩ = some (.slice A0_2 l0_2.length c0_2) := (blk_cell BKaN.out 2).trans rfl; have hfz4_0 := blk_frozen BKaN.out 0; have hfz4_1 := blk_frozen BKaN.out 1; have hfz4_2 := blk_frozen BKaN.out 2)))
 go_loopg [5, 15] k (fun kq v5 v15 w' => ∃ (x5_1 : Int) (x15_1 : Int), v5 = .int .i64 x5_1 ∧ v15 = .int .i64 x15_1 ∧ Aside0 (arboretlaw03_size.l0 kq a1 x5_1 (l0_1.length : Int) x15_1 a0_0 l0_1 l0_2 = some r) ∧ Aside0 (kq ≤ k) ∧ Aside0 (w'.heap[gbaN]? = some (.cells #[.string a0_0, (.slice A0_1 l0_1.length c0_1), (.slice A0_2 l0_2.length c0_2)] 27 (0, 0))) ∧ Aside0 (Below w.heap.size w w'))
 case atStart => exact ⟨(wrap64 (1 + (a0_0.size : Int))), (0), Zq7, Zq7, H', ⟨Nat.le_refl _⟩, ⟨Zq75⟩, ⟨Zq61⟩⟩
 case round =>
  clear H'
  try clear p2
  try clear c3
  try clear hcz4_0
  try clear hcz4_1
  try clear hcz4_2
  try clear hfz4_0
  try clear hfz4_1
  try clear hfz4_2
  obtain ⟨x5_1, x15_1, rfl, rfl, HA, HK1, BKaN, HB⟩ := hrel
  cases gk with
  | zero => exact absurd HA.out (by simp [arboretlaw03_size.l0])
  | succ k1 =>
   have H := HA.out; clear HA; simp only [arboretlaw03_size.l0] at H
   by_cases c5 : x15_1 < (l0_1.length : Int)
   ·rw [if_pos c5] at H; have c5b0 : decide (x15_1 < (l0_1.length : Int)) = true := decide_eq_true c5; clear c5
    by_cases c6 : 0 ≤ x15_1
    ·rw [if_pos c6] at H; have c6b0 : decide (0 ≤ x15_1) = true := decide_eq_true c6; clear c6
     by_cases c7 : x15_1 < (l0_1.length : Int)
     ·rw [if_pos c7] at H; have c7b0 : decide (x15_1 < (l0_1.length : Int)) = true := decide_eq_true c7; clear c7; have H' := Ak H; clear H; have hcz8_0 : wr.cell? ⟨gbaN, 0, none⟩ = some (.string a0_0) := (blk_cell BKaN.out 0).trans rfl; have hcz8_1 : wr.cell? ⟨gbaN, 1, none⟩ = some (.slice A0_1 l0_1.length c0_1) := (blk_cell BKaN.out 1).trans rfl; have hcz8_2 : wr.cell? ⟨gbaN, 2, none⟩ = some (.slice A0_2 l0_2.length c0_2) := (blk_cell BKaN.out 2).trans rfl; have hfz8_0 := blk_frozen BKaN.out 0; have hfz8_1 := blk_frozen BKaN.out 1; have hfz8_2 := blk_frozen BKaN.out 2; have p195 : 0 ≤ (x15_1 : Int) := of_decide_eq_true Zq5; have q195 : x15_1 < (l0_1.length : Int) := of_decide_eq_true Zq5; obtain ⟨addw, Adw_1, cdw_1, e195, hx195_0, hx195_1, hl195_1, hi195_1⟩ := at_T63 HR0_1.out x15_1 p195 q195
      cases e195
      replace hx195_0 := (HB.out.cell (World.block_lt_of_cell? w _ hx195_0)).trans hx195_0; replace hx195_1 := (HB.out.cell (World.block_lt_of_cell? w _ hx195_1)).trans hx195_1; have HRdw_1 := Ak hi195_1; have HCdw_1 := Ak hl195_1; clear hi195_1 hl195_1; replace p195 := eq_true p195; replace q195 := eq_true q195; have p196 : 0 ≤ (x15_1 : Int) := of_decide_eq_true Zq5; have q196 : x15_1 < (l0_1.length : Int) := of_decide_eq_true Zq5; obtain ⟨addE, AdE_1, cdE_1, e196, hx196_0, hx196_1, hl196_1, hi196_1⟩ := at_T63 HR0_1.out x15_1 p196 q196
      obtain rfl : addw = addE := (by injection e196)
      replace hx196_0 := (HB.out.cell (World.block_lt_of_cell? w _ hx196_0)).trans hx196_0; replace hx196_1 := (HB.out.cell (World.block_lt_of_cell? w _ hx196_1)).trans hx196_1; have HRdE_1 := Ak hi196_1; have HCdE_1 := Ak hl196_1; clear hi196_1 hl196_1; replace p196 := eq_true p196; replace q196 := eq_true q196; have ea_ := Option.some.inj (hx195_1.symm.trans hx196_1); injection ea_ with ea_ en_ ec_; subst ea_; subst ec_; clear en_
      go_wp2
      repeat (go_quiet (fail); try go_wp2)
      go_roundg k1
      case measure => have := HK1.out; omega
      case rel => exact ⟨(wrap64 ((wrap64 ((wrap64 (x5_1 + 1)) + (((rd_T63 l0_1 x15_1).f0).size : Int))) + (((rd_T63 l0_1 x15_1).f1).length : Int))), (wrap64 (x15_1 + 1)), Zq7, Zq7, H', ⟨Zq27⟩, ⟨Zq75⟩, ⟨Zq61⟩⟩
     ·rw [if_neg c7] at H; exact absurd H Zq10
    ·rw [if_neg c6] at H; exact absurd H Zq10
   ·rw [if_neg c5] at H; have c5b0 : decide (x15_1 < (l0_1.length : Int)) = false := decide_eq_false c5; clear c5; have H' := Ak H; clear H; have hcz9_0 : wr.cell? ⟨gbaN, 0, none⟩ = some (.string a0_0) := (blk_cell BKaN.out 0).trans rfl; have hcz9_1 : wr.cell? ⟨gbaN, 1, none⟩ = some (.slice A0_1 l0_1.length c0_1) := (blk_cell BKaN.out 1).trans rfl; have hcz9_2 : wr.cell? ⟨gbaN, 2, none⟩ = some (.slice A0_2 l0_2.length c0_2) := (blk_cell BKaN.out 2).trans rfl; have hfz9_0 := blk_frozen BKaN.out 0; have hfz9_1 := blk_frozen BKaN.out 1; have hfz9_2 := blk_frozen BKaN.out 2
    go_wp2
    repeat (go_quiet (fail); try go_wp2)
    go_loopg [5, 40] k1 (fun kq v5 v40 w' => ∃ (x5_2 : Int) (x40_2 : Int), v5 = .int .i64 x5_2 ∧ v40 = .int .i64 x40_2 ∧ Aside0 (arboretlaw03_size.l1 kq a1 x5_2 (l0_2.length : Int) x40_2 a0_0 l0_1 l0_2 = some r) ∧ Aside0 (kq ≤ k1) ∧ Aside0 (w'.heap[gbaN]? = some (.cells #[.string a0_0, (.slice A0_1 l0_1.length c0_1), (.slice A0_2 l0_2.length c0_2)] 27 (0, 0))) ∧ Aside0 (Below w.heap.size w w'))
    case atStart => exact ⟨(x5_1), (0), Zq7, Zq7, H', ⟨Nat.le_refl _⟩, ⟨Zq75⟩, ⟨Zq61⟩⟩
    case round =>
     clear H'
     try clear c1
     try clear p1
     try clear q1
     try clear hx1
     try clear p2
     try clear c3
     try clear c5
     try clear c5b0
     try clear c6
     try clear c6b0
     try clear p6
     try clear c7
     try clear c7b0
     try clear hcz4_0
     try clear hcz4_1
     try clear hcz4_2
     try clear hcz8_0
     try clear hcz8_1
     try clear hcz8_2
     try clear hcz9_0
     try clear hcz9_1
     try clear hcz9_2
     try clear hfz4_0
     try clear hfz4_1
     try clear hfz4_2
     try clear hfz8_0
     try clear hfz8_1
     try clear hfz8_2
     try clear hfz9_0
     try clear hfz9_1
     try clear hfz9_2
     try clear hx195_0
     try clear hx195_1
     try clear hx196_0
     try clear hx196_1
     try clear p195
     try clear p196
     try clear p2
     try clear q195
     try clear q196
     obtain ⟨x5_2, x40_2, rfl, rfl, HA, HK2, BKaN, HB⟩ := hrel
     cases gk with
     | zero => exact absurd HA.out (by simp [arboretlaw03_size.l1])
     | succ k2 =>
      have H := HA.out; clear HA; simp only [arboretlaw03_size.l1] at H
      by_cases c10 : x40_2 < (l0_2.length : Int)
      ·rw [if_pos c10] at H; have c10b0 : decide (x40_2 < (l0_2.length : Int)) = true := decide_eq_true c10; clear c10
       by_cases c11 : a1 > 20
       ·rw [if_pos c11] at H; have c11b0 : decide (20 < a1) = true := decide_eq_true c11; clear c11; obtain rfl := Option.some.inj H
        go_wp2
        repeat (go_quiet (fail); try go_wp2)
        go_ret
        exact ⟨Zq13, Zq61⟩
       ·rw [if_neg c11] at H; have c11b0 : decide (20 < a1) = false := decide_eq_false c11; clear c11
        by_cases c12 : x5_2 > 100000
        ·rw [if_pos c12] at H; have c12b0 : decide (100000 < x5_2) = true := decide_eq_true c12; clear c12; obtain rfl := Option.some.inj H
         go_wp2
         repeat (go_quiet (fail); try go_wp2)
         go_ret
         exact ⟨Zq13, Zq61⟩
        ·rw [if_neg c12] at H; have c12b0 : decide (100000 < x5_2) = false := decide_eq_false c12; clear c12
         by_cases c13 : 0 ≤ x40_2
         ·rw [if_pos c13] at H; have c13b0 : decide (0 ≤ x40_2) = true := decide_eq_true c13; clear c13
          by_cases c14 : x40_2 < (l0_2.length : Int)
          ·rw [if_pos c14] at H; have c14b0 : decide (x40_2 < (l0_2.length : Int)) = true := decide_eq_true c14; clear c14; replace H := Option.bind_eq_some_iff.mp H; obtain ⟨tdD, AbF, H⟩ := H; replace H : (arboretlaw03_size.l1 k2 a1 (wrap64 (x5_2 + tdD)) (l0_2.length : Int) (wrap64 (x40_2 + 1)) a0_0 l0_1 l0_2) = some r := H; have A15 := Ak AbF; clear AbF; have H' := Ak H; clear H; have hcz16_0 : wr.cell? ⟨gbaN, 0, none⟩ = some (.string a0_0) := (blk_cell BKaN.out 0).trans rfl; have hcz16_1 : wr.cell? ⟨gbaN, 1, none⟩ = some (.slice A0_1 l0_1.length c0_1) := (blk_cell BKaN.out 1).trans rfl; have hcz16_2 : wr.cell? ⟨gbaN, 2, none⟩ = some (.slice A0_2 l0_2.length c0_2) := (blk_cell BKaN.out 2).trans rfl; have hfz16_0 := blk_frozen BKaN.out 0; have hfz16_1 := blk_frozen BKaN.out 1; have hfz16_2 := blk_frozen BKaN.out 2; have p197 : 0 ≤ (x40_2 : Int) := of_decide_eq_true Zq5; have q197 : x40_2 < (l0_2.length : Int) := of_decide_eq_true Zq5; obtain ⟨adbX, AbX_1, cbX_1, AbX_2, cbX_2, e197, hx197_0, hx197_1, hx197_2, hl197_1, hi197_1, hl197_2, hi197_2⟩ := at_T27 HR0_2.out x40_2 p197 q197
           cases e197
           replace hx197_0 := (HB.out.cell (World.block_lt_of_cell? w _ hx197_0)).trans hx197_0; replace hx197_1 := (HB.out.cell (World.block_lt_of_cell? w _ hx197_1)).trans hx197_1; replace hx197_2 := (HB.out.cell (World.block_lt_of_cell? w _ hx197_2)).trans hx197_2; have HRbX_1 := Ak hi197_1; have HCbX_1 := Ak hl197_1; clear hi197_1 hl197_1; have HRbX_2 := Ak hi197_2; have HCbX_2 := Ak hl197_2; clear hi197_2 hl197_2; replace p197 := eq_true p197; replace q197 := eq_true q197
           go_wp2_with (first | (go_at_call 36; (with_reducible refine (ih k2 (by have := HK1.out; have := HK2.out; omega) ((rd_T27 l0_2 x40_2).f0) _ _ ((rd_T27 l0_2 x40_2).f1) _ _ ((rd_T27 l0_2 x40_2).f2) (wrap64 (a1 + 1)) tdD _ ?side1 ?side2 ?side3 ?side4 A15.out).mono ?_); (case side1 => repeat (first | exact (Kd.C_below HRbX_1.out HB.out) | (with_reducible refine Kd.C_alloc ?_ _) | (with_reducible refine Kd.C_drewN ?_ _) | (with_reducible refine Kd.C_drew ?_))); (case side2 => exact HCbX_1.out); (case side3 => repeat (first | exact (Kd.C_below HRbX_2.out HB.out) | (with_reducible refine Kd.C_alloc ?_ _) | (with_reducible refine Kd.C_drewN ?_ _) | (with_reducible refine Kd.C_drew ?_))); (case side4 => exact HCbX_2.out); rintro e w17 ⟨rfl, hb⟩; have n0_ := Zq212; have n1_ := Ak (below_step Zq61 hb); clear BKaN HB; have BKaN := n0_; have HB := n1_; clear n0_ n1_; (try clear hb); (try clear hb2); (try clear hk); (try clear hi)))
           repeat (go_quiet (first | (go_at_call 36; (with_reducible refine (ih k2 (by have := HK1.out; have := HK2.out; omega) ((rd_T27 l0_2 x40_2).f0) _ _ ((rd_T27 l0_2 x40_2).f1) _ _ ((rd_T27 l0_2 x40_2).f2) (wrap64 (a1 + 1)) tdD _ ?side1 ?side2 ?side3 ?side4 A15.out).mono ?_); (case side1 => repeat (first | exact (Kd.C_below HRbX_1.out HB.out) | (with_reducible refine Kd.C_alloc ?_ _) | (with_reducible refine Kd.C_drewN ?_ _) | (with_reducible refine Kd.C_drew ?_))); (case side2 => exact HCbX_1.out); (case side3 => repeat (first | exact (Kd.C_below HRbX_2.out HB.out) | (with_reducible refine Kd.C_alloc ?_ _) | (with_reducible refine Kd.C_drewN ?_ _) | (with_reducible refine Kd.C_drew ?_))); (case side4 => exact HCbX_2.out); rintro e w17 ⟨rfl, hb⟩; have n0_ := Zq212; have n1_ := Ak (below_step Zq61 hb); clear BKaN HB; have BKaN := n0_; have HB := n1_; clear n0_ n1_; (try clear hb); (try clear hb2); (try clear hk); (try clear hi))); try go_wp2_with (first | (go_at_call 36; (with_reducible refine (ih k2 (by have := HK1.out; have := HK2.out; omega) ((rd_T27 l0_2 x40_2).f0) _ _ ((rd_T27 l0_2 x40_2).f1) _ _ ((rd_T27 l0_2 x40_2).f2) (wrap64 (a1 + 1)) tdD _ ?side1 ?side2 ?side3 ?side4 A15.out).mono ?_); (case side1 => repeat (first | exact (Kd.C_below HRbX_1.out HB.out) | (with_reducible refine Kd.C_alloc ?_ _) | (with_reducible refine Kd.C_drewN ?_ _) | (with_reducible refine Kd.C_drew ?_))); (case side2 => exact HCbX_1.out); (case side3 => repeat (first | exact (Kd.C_below HRbX_2.out HB.out) | (with_reducible refine Kd.C_alloc ?_ _) | (with_reducible refine Kd.C_drewN ?_ _) | (with_reducible refine Kd.C_drew ?_))); (case side4 => exact HCbX_2.out); rintro e w17 ⟨rfl, hb⟩; have n0_ := Zq212; have n1_ := Ak (below_step Zq61 hb); clear BKaN HB; have BKaN := n0_; have HB := n1_; clear n0_ n1_; (try clear hb); (try clear hb2); (try clear hk); (try clear hi))))
           go_roundg k2
           case measure => have := HK1.out; have := HK2.out; omega
           case rel => exact ⟨(wrap64 (x5_2 + tdD)), (wrap64 (x40_2 + 1)), Zq7, Zq7, H', ⟨by have := HK1.out; have := HK2.out; omega⟩, ⟨Zq75⟩, ⟨Zq61⟩⟩
          ·rw [if_neg c14] at H; exact absurd H Zq10
         ·rw [if_neg c13] at H; exact absurd H Zq10
      ·rw [if_neg c10] at H; have c10b0 : decide (x40_2 < (l0_2.length : Int)) = false := decide_eq_false c10; clear c10; obtain rfl := Option.some.inj H
       go_wp2
       repeat (go_quiet (fail); try go_wp2)
       go_ret
       exact ⟨Zq13, Zq61⟩
def arboretlaw03_Few.f (k : Nat) (a0_0 : Int) (l0_1 : List (S82)) (a0_2 : ByteArray) (l0_3 : List (S63)) (l0_4 : List (S27)) : Option (Bool) := (arboretlaw03_size.f k a0_2 l0_3 l0_4 0).bind fun tco => (if tco ≤ 100000 then (some (decide ((l0_1.length : Int) ≤ 200))) else (some false))
set_option maxHeartbeats 8000000 in
set_option maxRecDepth 100000 in
theorem arboretlaw03_Few.calls (k : Nat) (a0_0 : Int) (A0_1 : Option Addr) (c0_1 : Nat) (l0_1 : List (S82)) (a0_2 : ByteArray) (A0_3 : Option Addr) (c0_3 : Nat) (l0_3 : List (S63)) (A0_4 : Option Addr) (c0_4 : Nat) (l0_4 : List (S27)) (r : Bool) (w : World) (hr0_1 : Kd.C k82 w A0_1 l0_1.length l0_1) (hc0_1 : l0_1.length ≤ c0_1) (hr0_3 : Kd.C k63 w A0_3 l0_3.length l0_3) (hc0_3 : l0_3.length ≤ c0_3) (hr0_4 : Kd.C k27 w A0_4 l0_4.length l0_4) (hc0_4 : l0_4.length ≤ c0_4) (h : arboretlaw03_Few.f k a0_0 l0_1 a0_2 l0_3 l0_4 = some r) :
  Calls Try.prog 19 #[.agg #[.int .u32 a0_0, .slice A0_1 l0_1.length c0_1, .string a0_2, .slice A0_3 l0_3.length c0_3, .slice A0_4 l0_4.length c0_4]] w fun e w' => e = .returned (.bool r) ∧ Below w.heap.size w w' := by
 have hu29 := Try.underlying29; have hu27 := Try.underlying27; have HR0_1 := Ak hr0_1; have HC0_1 := Ak hc0_1; clear hr0_1 hc0_1; have HR0_3 := Ak hr0_3; have HC0_3 := Ak hc0_3; clear hr0_3 hc0_3; have HR0_4 := Ak hr0_4; have HC0_4 := Ak hc0_4; clear hr0_4 hc0_4; have HB := Zq151; have H : ((arboretlaw03_size.f k a0_2 l0_3 l0_4 0).bind fun tco => (if tco ≤ 100000 then (some (decide ((l0_1.length : Int) ≤ 200))) else (some false))) = some r := h; clear h; replace H := Option.bind_eq_some_iff.mp H; obtain ⟨tco, A20, H⟩ := H; replace H : (if tco ≤ 100000 then (some (decide ((l0_1.length : Int) ≤ 200))) else (some false)) = some r := H; have A2 := Ak A20; clear A20
 by_cases c3 : tco ≤ 100000
 ·rw [if_pos c3] at H; have c3b0 : decide (tco ≤ 100000) = true := decide_eq_true c3; clear c3; obtain rfl := Option.some.inj H
  go_enter Try.func19, Try.ntmps19
  go_wp2_with (first | ((with_reducible refine gate_dst (N := 1) rfl ?_); (try (refine gate_guard Zq3 ?_; dsimp only)); refine box_event ?hg (N := 1) ?hd (cs := #[.int .u32 a0_0, .slice A0_1 l0_1.length c0_1, .string a0_2, .slice A0_3 l0_3.length c0_3, .slice A0_4 l0_4.length c0_4]) (t := 29) ?hr ?_; (case hd | hg => rfl); (case hr => first | (go_simp; done) | (go_simp; rfl)); intro gbaW hg w4 hbox hb; have n0_ := Zq142; have n1_ := Ak (hbox); have n2_ := Zq245; have n3_ := Zq245; clear HB; have HB := n0_; have BKaW := n1_; have GWaW := n2_; have GEaW := n3_; clear n0_ n1_ n2_ n3_ hb hbox hg; have hcz5_0 : w4.cell? ⟨gbaW, 0, none⟩ = some (.int .u32 a0_0) := (blk_cell BKaW.out 0).trans rfl; have hcz5_1 : w4.cell? ⟨gbaW, 1, none⟩ = some (.slice A0_1 l0_1.length c0_1) := (blk_cell BKaW.out 1).trans rfl; have hcz5_2 : w4.cell? ⟨gbaW, 2, none⟩ = some (.string a0_2) := (blk_cell BKaW.out 2).trans rfl; have hcz5_3 : w4.cell? ⟨gbaW, 3, none⟩ = some (.slice A0_3 l0_3.length c0_3) := (blk_cell BKaW.out 3).trans rfl; have hcz5_4 : w4.cell? ⟨gbaW, 4, none⟩ = some (.slice A0_4 l0_4.length c0_4) := (blk_cell BKaW.out 4).trans rfl; have hfz5_0 := blk_frozen BKaW.out 0; have hfz5_1 := blk_frozen BKaW.out 1; have hfz5_2 := blk_frozen BKaW.out 2; have hfz5_3 := blk_frozen BKaW.out 3; have hfz5_4 := blk_frozen BKaW.out 4) | ((with_reducible refine gate_callee (f := 36) rfl ?_); refine goesL_ (some 5) rfl rfl Try.func36 Zq2 rfl #[.agg #[.string a0_2, .slice A0_3 l0_3.length c0_3, .slice A0_4 l0_4.length c0_4], .int .i64 0] rfl Zq8 ?_; (with_reducible refine (arboretlaw03_size.calls k a0_2 _ _ l0_3 _ _ l0_4 0 tco _ ?side1 ?side2 ?side3 ?side4 A2.out).mono ?_); (case side1 => repeat (first | exact Zq153 | (with_reducible refine Kd.C_alloc ?_ _) | (with_reducible refine Kd.C_drewN ?_ _) | (with_reducible refine Kd.C_drew ?_))); (case side2 => exact HC0_3.out); (case side3 => repeat (first | exact Zq154 | (with_reducible refine Kd.C_alloc ?_ _) | (with_reducible refine Kd.C_drewN ?_ _) | (with_reducible refine Kd.C_drew ?_))); (case side4 => exact HC0_4.out); rintro e w6 ⟨rfl, hb⟩; refine ⟨_, rfl, ?_⟩; have n0_ := Ak (blk_below (g := gbaW) (o := .cells #[.int .u32 a0_0, .slice A0_1 l0_1.length c0_1, .string a0_2, .slice A0_3 l0_3.length c0_3, .slice A0_4 l0_4.length c0_4] 29 (0, 0)) (by (with_reducible repeat (first | refine blk_drewN ?_ _ | refine blk_drew ?_ | refine blk_alloc ?_ _)); exact BKaW.out) hb); have n1_ := Ak (below_step Zq109 hb); clear BKaW HB; have BKaW := n0_; have HB := n1_; clear n0_ n1_; (try clear hb); (try clear hb2); (try clear hk); (try clear hi); have hcz7_0 : w6.cell? ⟨gbaW, 0, none⟩ = some (.int .u32 a0_0) := (blk_cell BKaW.out 0).trans rfl; have hcz7_1 : w6.cell? ⟨gbaW, 1, none⟩ = some (.slice A0_1 l0_1.length c0_1) := (blk_cell BKaW.out 1).trans rfl; have hcz7_2 : w6.cell? ⟨gbaW, 2, none⟩ = some (.string a0_2) := (blk_cell BKaW.out 2).trans rfl; have hcz7_3 : w6.cell? ⟨gbaW, 3, none⟩ = some (.slice A0_3 l0_3.length c0_3) := (blk_cell BKaW.out 3).trans rfl; have hcz7_4 : w6.cell? ⟨gbaW, 4, none⟩ = some (.slice A0_4 l0_4.length c0_4) := (blk_cell BKaW.out 4).trans rfl; have hfz7_0 := blk_frozen BKaW.out 0; have hfz7_1 := blk_frozen BKaW.out 1; have hfz7_2 := blk_frozen BKaW.out 2; have hfz7_3 := blk_frozen BKaW.out 3; have hfz7_4 := blk_frozen BKaW.out 4))
  go_ret
  exact ⟨Zq13, Zq109⟩
 ·rw [if_neg c3] at H; have c3b0 : decide (tco ≤ 100000) = false := decide_eq_false c3; clear c3; obtain rfl := Option.some.inj H
  go_enter Try.func19, Try.ntmps19
  go_wp2_with (first | ((with_reducible refine gate_dst (N := 1) rfl ?_); (try (refine gate_guard Zq3 ?_; dsimp only)); refine box_event ?hg (N := 1) ?hd (cs := #[.int .u32 a0_0, .slice A0_1 l0_1.length c0_1, .string a0_2, .slice A0_3 l0_3.length c0_3, .slice A0_4 l0_4.length c0_4]) (t := 29) ?hr ?_; (case hd | hg => rfl); (case hr => first | (go_simp; done) | (go_simp; rfl)); intro gbaW hg w8 hbox hb; have n0_ := Zq142; have n1_ := Ak (hbox); have n2_ := Zq245; have n3_ := Zq245; clear HB; have HB := n0_; have BKaW := n1_; have GWaW := n2_; have GEaW := n3_; clear n0_ n1_ n2_ n3_ hb hbox hg; have hcz9_0 : w8.cell? ⟨gbaW, 0, none⟩ = some (.int .u32 a0_0) := (blk_cell BKaW.out 0).trans rfl; have hcz9_1 : w8.cell? ⟨gbaW, 1, none⟩ = some (.slice A0_1 l0_1.length c0_1) := (blk_cell BKaW.out 1).trans rfl; have hcz9_2 : w8.cell? ⟨gbaW, 2, none⟩ = some (.string a0_2) := (blk_cell BKaW.out 2).trans rfl; have hcz9_3 : w8.cell? ⟨gbaW, 3, none⟩ = some (.slice A0_3 l0_3.length c0_3) := (blk_cell BKaW.out 3).trans rfl; have hcz9_4 : w8.cell? ⟨gbaW, 4, none⟩ = some (.slice A0_4 l0_4.length c0_4) := (blk_cell BKaW.out 4).trans rfl; have hfz9_0 := blk_frozen BKaW.out 0; have hfz9_1 := blk_frozen BKaW.out 1; have hfz9_2 := blk_frozen BKaW.out 2; have hfz9_3 := blk_frozen BKaW.out 3; have hfz9_4 := blk_frozen BKaW.out 4) | ((with_reducible refine gate_callee (f := 36) rfl ?_); refine goesL_ (some 5) rfl rfl Try.func36 Zq2 rfl #[.agg #[.string a0_2, .slice A0_3 l0_3.length c0_3, .slice A0_4 l0_4.length c0_4], .int .i64 0] rfl Zq8 ?_; (with_reducible refine (arboretlaw03_size.calls k a0_2 _ _ l0_3 _ _ l0_4 0 tco _ ?side1 ?side2 ?side3 ?side4 A2.out).mono ?_); (case side1 => repeat (first | exact Zq153 | (with_reducible refine Kd.C_alloc ?_ _) | (with_reducible refine Kd.C_drewN ?_ _) | (with_reducible refine Kd.C_drew ?_))); (case side2 => exact HC0_3.out); (case side3 => repeat (first | exact Zq154 | (with_reducible refine Kd.C_alloc ?_ _) | (with_reducible refine Kd.C_drewN ?_ _) | (with_reducible refine Kd.C_drew ?_))); (case side4 => exact HC0_4.out); rintro e w10 ⟨rfl, hb⟩; refine ⟨_, rfl, ?_⟩; have n0_ := Ak (blk_below (g := gbaW) (o := .cells #[.int .u32 a0_0, .slice A0_1 l0_1.length c0_1, .string a0_2, .slice A0_3 l0_3.length c0_3, .slice A0_4 l0_4.length c0_4] 29 (0, 0)) (by (with_reducible repeat (first | refine blk_drewN ?_ _ | refine blk_drew ?_ | refine blk_alloc ?_ _)); exact BKaW.out) hb); have n1_ := Ak (below_step Zq109 hb); clear BKaW HB; have BKaW := n0_; have HB := n1_; clear n0_ n1_; (try clear hb); (try clear hb2); (try clear hk); (try clear hi)))
  go_ret
  exact ⟨Zq13, Zq109⟩
def arboretref01_Cut.l0 : Nat → ByteArray → Int → Int → Option (Int)
 | 0, _, _, _ => none
 | k + 1, x0, x5, x6 => if x6 < x5 then (if 0 ≤ x6 then (if x6 < (x0.size : Int) then (if (bt x0 x6) = 64 then (some x6) else (arboretref01_Cut.l0 k x0 x5 (wrap64 (x6 + 1)))) else (none)) else (none)) else (some (-1))
def arboretref01_Cut.f (k : Nat) (a0 : ByteArray) : Option (Int) := arboretref01_Cut.l0 k a0 (a0.size : Int) 0
set_option maxHeartbeats 8000000 in
set_option maxRecDepth 100000 in
theorem arboretref01_Cut.calls (k : Nat) (a0 : ByteArray) (r : Int) (w : World) (h : arboretref01_Cut.f k a0 = some r) :
  Calls Try.prog 81 #[.string a0] w fun e w' => e = .returned (.int .i64 r) ∧ Drawn0 w w' := by
 have H : (arboretref01_Cut.l0 k a0 (a0.size : Int) 0) = some r := h; clear h; have H' := Ak H; clear H
 go_enter Try.func81, Try.ntmps81
 go_wp2
 go_loopg [6] k (fun kq v6 w' => ∃ (x6_1 : Int), v6 = .int .i64 x6_1 ∧ Aside0 (arboretref01_Cut.l0 kq a0 (a0.size : Int) x6_1 = some r) ∧ Aside0 (kq ≤ k) ∧ Drawn0 w w')
 case atStart => exact ⟨(0), Zq7, H', ⟨Nat.le_refl _⟩, Zq9⟩
 case round =>
  clear H'; obtain ⟨x6_1, rfl, HA, HK1, ⟨m1, rfl⟩⟩ := hrel
  cases gk with
  | zero => exact absurd HA.out (by simp [arboretref01_Cut.l0])
  | succ k1 =>
   have H := HA.out; clear HA; simp only [arboretref01_Cut.l0] at H
   by_cases c2 : x6_1 < (a0.size : Int)
   ·rw [if_pos c2] at H; have c2b0 : decide (x6_1 < (a0.size : Int)) = true := decide_eq_true c2; clear c2
    by_cases c3 : 0 ≤ x6_1
    ·rw [if_pos c3] at H; have c3b0 : decide (0 ≤ x6_1) = true := decide_eq_true c3; clear c3
     by_cases c4 : x6_1 < (a0.size : Int)
     ·rw [if_pos c4] at H; have c4b0 : decide (x6_1 < (a0.size : Int)) = true := decide_eq_true c4; clear c4
      by_cases c6 : (bt a0 x6_1) = 64
      ·rw [if_pos c6] at H; have c6b0 : ((bt a0 x6_1) == 64) = true := beq_iff_eq.mpr c6; have c6b1 : ((bt a0 x6_1) != 64) = false := bne_eq_false_iff_eq.mpr c6; clear c6; obtain rfl := Option.some.inj H; have p5 : 0 ≤ (x6_1 : Int) := of_decide_eq_true Zq5; have q5 : x6_1 < (a0.size : Int) := of_decide_eq_true Zq5; have hx5 := bt_at a0 x6_1; replace p5 := eq_true p5; replace q5 := eq_true q5
       go_wp2
       go_ret
       exact ⟨Zq7, Zq9⟩
      ·rw [if_neg c6] at H; have c6b0 : ((bt a0 x6_1) == 64) = false := beq_eq_false_iff_ne.mpr c6; have c6b1 : ((bt a0 x6_1) != 64) = true := bne_iff_ne.mpr c6; have H' := Ak H; clear H; have p5 : 0 ≤ (x6_1 : Int) := of_decide_eq_true Zq5; have q5 : x6_1 < (a0.size : Int) := of_decide_eq_true Zq5; have hx5 := bt_at a0 x6_1; replace p5 := eq_true p5; replace q5 := eq_true q5
       go_wp2
       go_roundg k1
       case measure => have := HK1.out; omega
       case rel => exact ⟨(wrap64 (x6_1 + 1)), Zq7, H', ⟨Zq27⟩, Zq9⟩
     ·rw [if_neg c4] at H; exact absurd H Zq10
    ·rw [if_neg c3] at H; exact absurd H Zq10
   ·rw [if_neg c2] at H; have c2b0 : decide (x6_1 < (a0.size : Int)) = false := decide_eq_false c2; clear c2; obtain rfl := Option.some.inj H
    go_wp2
    go_ret
    exact ⟨Zq7, Zq9⟩
def arboretref01_stands.f (a0 : Int) : Option (Bool) := if a0 ≥ 48 then (if a0 ≤ 57 then (some true) else (if a0 ≥ 97 then (if a0 ≤ 122 then (some true) else (if a0 ≥ 65 then (if a0 ≤ 90 then (some true) else (if a0 = 44 then (some true) else (if a0 = 46 then (some true) else (if a0 = 95 then (some true) else (if a0 = 43 then (some true) else (some (a0 == 45))))))) else (if a0 = 44 then (some true) else (if a0 = 46 then (some true) else (if a0 = 95 then (some true) else (if a0 = 43 then (some true) else (some (a0 == 45)))))))) else (if a0 ≥ 65 then (if a0 ≤ 90 then (some true) else (if a0 = 44 then (some true) else (if a0 = 46 then (some true) else (if a0 = 95 then (some true) else (if a0 = 43 then (some true) else (some (a0 == 45))))))) else (if a0 = 44 then (some true) else (if a0 = 46 then (some true) else (if a0 = 95 then (some true) else (if a0 = 43 then (some true) else (some (a0 == 45))))))))) else (if a0 ≥ 97 then (if a0 ≤ 122 then (some true) else (if a0 ≥ 65 then (if a0 ≤ 90 then (some true) else (if a0 = 44 then (some true) else (if a0 = 46 then (some true) else (if a0 = 95 then (some true) else (if a0 = 43 then (some true) else (some (a0 == 45))))))) else (if a0 = 44 then (some true) else (if a0 = 46 then (some true) else (if a0 = 95 then (some true) else (if a0 = 43 then (some true) else (some (a0 == 45)))))))) else (if a0 ≥ 65 then (if a0 ≤ 90 then (some true) else (if a0 = 44 then (some true) else (if a0 = 46 then (some true) else (if a0 = 95 then (some true) else (if a0 = 43 then (some true) else (some (a0 == 45))))))) else (if a0 = 44 then (some true) else (if a0 = 46 then (some true) else (if a0 = 95 then (some true) else (if a0 = 43 then (some true) else (some (a0 == 45))))))))
set_option maxHeartbeats 8000000 in
set_option maxRecDepth 100000 in
theorem arboretref01_stands.calls (a0 : Int) (r : Bool) (w : World) (h : arboretref01_stands.f a0 = some r) :
  Calls Try.prog 82 #[.int .u8 a0] w fun e w' => e = .returned (.bool r) ∧ Drawn0 w w' := by
 have H : (if a0 ≥ 48 then (if a0 ≤ 57 then (some true) else (if a0 ≥ 97 then (if a0 ≤ 122 then (some true) else (if a0 ≥ 65 then (if a0 ≤ 90 then (some true) else (if a0 = 44 then (some true) else (if a0 = 46 then (some true) else (if a0 = 95 then (some true) else (if a0 = 43 then (some true) else (some (a0 == 45))))))) else (if a0 = 44 then (some true) else (if a0 = 46 then (some true) else (if a0 = 95 then (some true) else (if a0 = 43 then (some true) else (some (a0 == 45)))))))) else (if a0 ≥ 65 then (if a0 ≤ 90 then (some true) else (if a0 = 44 then (some true) else (if a0 = 46 then (some true) else (if a0 = 95 then (some true) else (if a0 = 43 then (some true) else (some (a0 == 45))))))) else (if a0 = 44 then (some true) else (if a0 = 46 then (some true) else (if a0 = 95 then (some true) else (if a0 = 43 then (some true) else (some (a0 == 45))))))))) else (if a0 ≥ 97 then (if a0 ≤ 122 then (some true) else (if a0 ≥ 65 then (if a0 ≤ 90 then (some true) else (if a0 = 44 then (some true) else (if a0 = 46 then (some true) else (if a0 = 95 then (some true) else (if a0 = 43 then (some true) else (some (a0 == 45))))))) else (if a0 = 44 then (some true) else (if a0 = 46 then (some true) else (if a0 = 95 then (some true) else (if a0 = 43 then (some true) else (some (a0 == 45)))))))) else (if a0 ≥ 65 then (if a0 ≤ 90 then (some true) else (if a0 = 44 then (some true) else (if a0 = 46 then (some true) else (if a0 = 95 then (some true) else (if a0 = 43 then (some true) else (some (a0 == 45))))))) else (if a0 = 44 then (some true) else (if a0 = 46 then (some true) else (if a0 = 95 then (some true) else (if a0 = 43 then (some true) else (some (a0 == 45))))))))) = some r := h; clear h
 by_cases c2 : a0 ≥ 48
 ·rw [if_pos c2] at H; have c2b0 : decide (48 ≤ a0) = true := decide_eq_true c2; clear c2
  by_cases c3 : a0 ≤ 57
  ·rw [if_pos c3] at H; have c3b0 : decide (a0 ≤ 57) = true := decide_eq_true c3; clear c3; obtain rfl := Option.some.inj H
   go_enter Try.func82, Try.ntmps82
   go_wp2
   go_ret
   exact ⟨Zq7, Zq9⟩
  ·rw [if_neg c3] at H; have c3b0 : decide (a0 ≤ 57) = false := decide_eq_false c3; clear c3
   by_cases c4 : a0 ≥ 97
   ·rw [if_pos c4] at H; have c4b0 : decide (97 ≤ a0) = true := decide_eq_true c4; clear c4
    by_cases c5 : a0 ≤ 122
    ·rw [if_pos c5] at H; have c5b0 : decide (a0 ≤ 122) = true := decide_eq_true c5; clear c5; obtain rfl := Option.some.inj H
     go_enter Try.func82, Try.ntmps82
     go_wp2
     go_ret
     exact ⟨Zq7, Zq9⟩
    ·rw [if_neg c5] at H; have c5b0 : decide (a0 ≤ 122) = false := decide_eq_false c5; clear c5
     by_cases c6 : a0 ≥ 65
     ·rw [if_pos c6] at H; have c6b0 : decide (65 ≤ a0) = true := decide_eq_true c6; clear c6
      by_cases c7 : a0 ≤ 90
      ·rw [if_pos c7] at H; have c7b0 : decide (a0 ≤ 90) = true := decide_eq_true c7; clear c7; obtain rfl := Option.some.inj H
       go_enter Try.func82, Try.ntmps82
       go_wp2
       go_ret
       exact ⟨Zq7, Zq9⟩
      ·rw [if_neg c7] at H; have c7b0 : decide (a0 ≤ 90) = false := decide_eq_false c7; clear c7
       by_cases c8 : a0 = 44
       ·rw [if_pos c8] at H; have c8b0 : (a0 == 44) = true := beq_iff_eq.mpr c8; have c8b1 : (a0 != 44) = false := bne_eq_false_iff_eq.mpr c8; clear c8; obtain rfl := Option.some.inj H
        go_enter Try.func82, Try.ntmps82
        go_wp2
        go_ret
        exact ⟨Zq7, Zq9⟩
       ·rw [if_neg c8] at H; have c8b0 : (a0 == 44) = false := beq_eq_false_iff_ne.mpr c8; have c8b1 : (a0 != 44) = true := bne_iff_ne.mpr c8
        by_cases c9 : a0 = 46
        ·rw [if_pos c9] at H; have c9b0 : (a0 == 46) = true := beq_iff_eq.mpr c9; have c9b1 : (a0 != 46) = false := bne_eq_false_iff_eq.mpr c9; clear c9; obtain rfl := Option.some.inj H
         go_enter Try.func82, Try.ntmps82
         go_wp2
         go_ret
         exact ⟨Zq7, Zq9⟩
        ·rw [if_neg c9] at H; have c9b0 : (a0 == 46) = false := beq_eq_false_iff_ne.mpr c9; have c9b1 : (a0 != 46) = true := bne_iff_ne.mpr c9
         by_cases c10 : a0 = 95
         ·rw [if_pos c10] at H; have c10b0 : (a0 == 95) = true := beq_iff_eq.mpr c10; have c10b1 : (a0 != 95) = false := bne_eq_false_iff_eq.mpr c10; clear c10; obtain rfl := Option.some.inj H
          go_enter Try.func82, Try.ntmps82
          go_wp2
          go_ret
          exact ⟨Zq7, Zq9⟩
         ·rw [if_neg c10] at H; have c10b0 : (a0 == 95) = false := beq_eq_false_iff_ne.mpr c10; have c10b1 : (a0 != 95) = true := bne_iff_ne.mpr c10
          by_cases c11 : a0 = 43
          ·rw [if_pos c11] at H; have c11b0 : (a0 == 43) = true := beq_iff_eq.mpr c11; have c11b1 : (a0 != 43) = false := bne_eq_false_iff_eq.mpr c11; clear c11; obtain rfl := Option.some.inj H
           go_enter Try.func82, Try.ntmps82
           go_wp2
           go_ret
           exact ⟨Zq7, Zq9⟩
          ·rw [if_neg c11] at H; have c11b0 : (a0 == 43) = false := beq_eq_false_iff_ne.mpr c11; have c11b1 : (a0 != 43) = true := bne_iff_ne.mpr c11; obtain rfl := Option.some.inj H
           go_enter Try.func82, Try.ntmps82
           go_wp2
           go_ret
           exact ⟨Zq7, Zq9⟩
     ·rw [if_neg c6] at H; have c6b0 : decide (65 ≤ a0) = false := decide_eq_false c6; clear c6
      by_cases c12 : a0 = 44
      ·rw [if_pos c12] at H; have c12b0 : (a0 == 44) = true := beq_iff_eq.mpr c12; have c12b1 : (a0 != 44) = false := bne_eq_false_iff_eq.mpr c12; clear c12; obtain rfl := Option.some.inj H
       go_enter Try.func82, Try.ntmps82
       go_wp2
       go_ret
       exact ⟨Zq7, Zq9⟩
      ·rw [if_neg c12] at H; have c12b0 : (a0 == 44) = false := beq_eq_false_iff_ne.mpr c12; have c12b1 : (a0 != 44) = true := bne_iff_ne.mpr c12
       by_cases c13 : a0 = 46
       ·rw [if_pos c13] at H; have c13b0 : (a0 == 46) = true := beq_iff_eq.mpr c13; have c13b1 : (a0 != 46) = false := bne_eq_false_iff_eq.mpr c13; clear c13; obtain rfl := Option.some.inj H
        go_enter Try.func82, Try.ntmps82
        go_wp2
        go_ret
        exact ⟨Zq7, Zq9⟩
       ·rw [if_neg c13] at H; have c13b0 : (a0 == 46) = false := beq_eq_false_iff_ne.mpr c13; have c13b1 : (a0 != 46) = true := bne_iff_ne.mpr c13
        by_cases c14 : a0 = 95
        ·rw [if_pos c14] at H; have c14b0 : (a0 == 95) = true := beq_iff_eq.mpr c14; have c14b1 : (a0 != 95) = false := bne_eq_false_iff_eq.mpr c14; clear c14; obtain rfl := Option.some.inj H
         go_enter Try.func82, Try.ntmps82
         go_wp2
         go_ret
         exact ⟨Zq7, Zq9⟩
        ·rw [if_neg c14] at H; have c14b0 : (a0 == 95) = false := beq_eq_false_iff_ne.mpr c14; have c14b1 : (a0 != 95) = true := bne_iff_ne.mpr c14
         by_cases c15 : a0 = 43
         ·rw [if_pos c15] at H; have c15b0 : (a0 == 43) = true := beq_iff_eq.mpr c15; have c15b1 : (a0 != 43) = false := bne_eq_false_iff_eq.mpr c15; clear c15; obtain rfl := Option.some.inj H
          go_enter Try.func82, Try.ntmps82
          go_wp2
          go_ret
          exact ⟨Zq7, Zq9⟩
         ·rw [if_neg c15] at H; have c15b0 : (a0 == 43) = false := beq_eq_false_iff_ne.mpr c15; have c15b1 : (a0 != 43) = true := bne_iff_ne.mpr c15; obtain rfl := Option.some.inj H
          go_enter Try.func82, Try.ntmps82
          go_wp2
          go_ret
          exact ⟨Zq7, Zq9⟩
   ·rw [if_neg c4] at H; have c4b0 : decide (97 ≤ a0) = false := decide_eq_false c4; clear c4
    by_cases c16 : a0 ≥ 65
    ·rw [if_pos c16] at H; have c16b0 : decide (65 ≤ a0) = true := decide_eq_true c16; clear c16
     by_cases c17 : a0 ≤ 90
     ·rw [if_pos c17] at H; have c17b0 : decide (a0 ≤ 90) = true := decide_eq_true c17; clear c17; obtain rfl := Option.some.inj H
      go_enter Try.func82, Try.ntmps82
      go_wp2
      go_ret
      exact ⟨Zq7, Zq9⟩
     ·rw [if_neg c17] at H; have c17b0 : decide (a0 ≤ 90) = false := decide_eq_false c17; clear c17
      by_cases c18 : a0 = 44
      ·rw [if_pos c18] at H; have c18b0 : (a0 == 44) = true := beq_iff_eq.mpr c18; have c18b1 : (a0 != 44) = false := bne_eq_false_iff_eq.mpr c18; clear c18; obtain rfl := Option.some.inj H
       go_enter Try.func82, Try.ntmps82
       go_wp2
       go_ret
       exact ⟨Zq7, Zq9⟩
      ·rw [if_neg c18] at H; have c18b0 : (a0 == 44) = false := beq_eq_false_iff_ne.mpr c18; have c18b1 : (a0 != 44) = true := bne_iff_ne.mpr c18
       by_cases c19 : a0 = 46
       ·rw [if_pos c19] at H; have c19b0 : (a0 == 46) = true := beq_iff_eq.mpr c19; have c19b1 : (a0 != 46) = false := bne_eq_false_iff_eq.mpr c19; clear c19; obtain rfl := Option.some.inj H
        go_enter Try.func82, Try.ntmps82
        go_wp2
        go_ret
        exact ⟨Zq7, Zq9⟩
       ·rw [if_neg c19] at H; have c19b0 : (a0 == 46) = false := beq_eq_false_iff_ne.mpr c19; have c19b1 : (a0 != 46) = true := bne_iff_ne.mpr c19
        by_cases c20 : a0 = 95
        ·rw [if_pos c20] at H; have c20b0 : (a0 == 95) = true := beq_iff_eq.mpr c20; have c20b1 : (a0 != 95) = false := bne_eq_false_iff_eq.mpr c20; clear c20; obtain rfl := Option.some.inj H
         go_enter Try.func82, Try.ntmps82
         go_wp2
         go_ret
         exact ⟨Zq7, Zq9⟩
        ·rw [if_neg c20] at H; have c20b0 : (a0 == 95) = false := beq_eq_false_iff_ne.mpr c20; have c20b1 : (a0 != 95) = true := bne_iff_ne.mpr c20
         by_cases c21 : a0 = 43
         ·rw [if_pos c21] at H; have c21b0 : (a0 == 43) = true := beq_iff_eq.mpr c21; have c21b1 : (a0 != 43) = false := bne_eq_false_iff_eq.mpr c21; clear c21; obtain rfl := Option.some.inj H
          go_enter Try.func82, Try.ntmps82
          go_wp2
          go_ret
          exact ⟨Zq7, Zq9⟩
         ·rw [if_neg c21] at H; have c21b0 : (a0 == 43) = false := beq_eq_false_iff_ne.mpr c21; have c21b1 : (a0 != 43) = true := bne_iff_ne.mpr c21; obtain rfl := Option.some.inj H
          go_enter Try.func82, Try.ntmps82
          go_wp2
          go_ret
          exact ⟨Zq7, Zq9⟩
    ·rw [if_neg c16] at H; have c16b0 : decide (65 ≤ a0) = false := decide_eq_false c16; clear c16
     by_cases c22 : a0 = 44
     ·rw [if_pos c22] at H; have c22b0 : (a0 == 44) = true := beq_iff_eq.mpr c22; have c22b1 : (a0 != 44) = false := bne_eq_false_iff_eq.mpr c22; clear c22; obtain rfl := Option.some.inj H
      go_enter Try.func82, Try.ntmps82
      go_wp2
      go_ret
      exact ⟨Zq7, Zq9⟩
     ·rw [if_neg c22] at H; have c22b0 : (a0 == 44) = false := beq_eq_false_iff_ne.mpr c22; have c22b1 : (a0 != 44) = true := bne_iff_ne.mpr c22
      by_cases c23 : a0 = 46
      ·rw [if_pos c23] at H; have c23b0 : (a0 == 46) = true := beq_iff_eq.mpr c23; have c23b1 : (a0 != 46) = false := bne_eq_false_iff_eq.mpr c23; clear c23; obtain rfl := Option.some.inj H
       go_enter Try.func82, Try.ntmps82
       go_wp2
       go_ret
       exact ⟨Zq7, Zq9⟩
      ·rw [if_neg c23] at H; have c23b0 : (a0 == 46) = false := beq_eq_false_iff_ne.mpr c23; have c23b1 : (a0 != 46) = true := bne_iff_ne.mpr c23
       by_cases c24 : a0 = 95
       ·rw [if_pos c24] at H; have c24b0 : (a0 == 95) = true := beq_iff_eq.mpr c24; have c24b1 : (a0 != 95) = false := bne_eq_false_iff_eq.mpr c24; clear c24; obtain rfl := Option.some.inj H
        go_enter Try.func82, Try.ntmps82
        go_wp2
        go_ret
        exact ⟨Zq7, Zq9⟩
       ·rw [if_neg c24] at H; have c24b0 : (a0 == 95) = false := beq_eq_false_iff_ne.mpr c24; have c24b1 : (a0 != 95) = true := bne_iff_ne.mpr c24
        by_cases c25 : a0 = 43
        ·rw [if_pos c25] at H; have c25b0 : (a0 == 43) = true := beq_iff_eq.mpr c25; have c25b1 : (a0 != 43) = false := bne_eq_false_iff_eq.mpr c25; clear c25; obtain rfl := Option.some.inj H
         go_enter Try.func82, Try.ntmps82
         go_wp2
         go_ret
         exact ⟨Zq7, Zq9⟩
        ·rw [if_neg c25] at H; have c25b0 : (a0 == 43) = false := beq_eq_false_iff_ne.mpr c25; have c25b1 : (a0 != 43) = true := bne_iff_ne.mpr c25; obtain rfl := Option.some.inj H
         go_enter Try.func82, Try.ntmps82
         go_wp2
         go_ret
         exact ⟨Zq7, Zq9⟩
 ·rw [if_neg c2] at H; have c2b0 : decide (48 ≤ a0) = false := decide_eq_false c2; clear c2
  by_cases c26 : a0 ≥ 97
  ·rw [if_pos c26] at H; have c26b0 : decide (97 ≤ a0) = true := decide_eq_true c26; clear c26
   by_cases c27 : a0 ≤ 122
   ·rw [if_pos c27] at H; have c27b0 : decide (a0 ≤ 122) = true := decide_eq_true c27; clear c27; obtain rfl := Option.some.inj H
    go_enter Try.func82, Try.ntmps82
    go_wp2
    go_ret
    exact ⟨Zq7, Zq9⟩
   ·rw [if_neg c27] at H; have c27b0 : decide (a0 ≤ 122) = false := decide_eq_false c27; clear c27
    by_cases c28 : a0 ≥ 65
    ·rw [if_pos c28] at H; have c28b0 : decide (65 ≤ a0) = true := decide_eq_true c28; clear c28
     by_cases c29 : a0 ≤ 90
     ·rw [if_pos c29] at H; have c29b0 : decide (a0 ≤ 90) = true := decide_eq_true c29; clear c29; obtain rfl := Option.some.inj H
      go_enter Try.func82, Try.ntmps82
      go_wp2
      go_ret
      exact ⟨Zq7, Zq9⟩
     ·rw [if_neg c29] at H; have c29b0 : decide (a0 ≤ 90) = false := decide_eq_false c29; clear c29
      by_cases c30 : a0 = 44
      ·rw [if_pos c30] at H; have c30b0 : (a0 == 44) = true := beq_iff_eq.mpr c30; have c30b1 : (a0 != 44) = false := bne_eq_false_iff_eq.mpr c30; clear c30; obtain rfl := Option.some.inj H
       go_enter Try.func82, Try.ntmps82
       go_wp2
       go_ret
       exact ⟨Zq7, Zq9⟩
      ·rw [if_neg c30] at H; have c30b0 : (a0 == 44) = false := beq_eq_false_iff_ne.mpr c30; have c30b1 : (a0 != 44) = true := bne_iff_ne.mpr c30
       by_cases c31 : a0 = 46
       ·rw [if_pos c31] at H; have c31b0 : (a0 == 46) = true := beq_iff_eq.mpr c31; have c31b1 : (a0 != 46) = false := bne_eq_false_iff_eq.mpr c31; clear c31; obtain rfl := Option.some.inj H
        go_enter Try.func82, Try.ntmps82
        go_wp2
        go_ret
        exact ⟨Zq7, Zq9⟩
       ·rw [if_neg c31] at H; have c31b0 : (a0 == 46) = false := beq_eq_false_iff_ne.mpr c31; have c31b1 : (a0 != 46) = true := bne_iff_ne.mpr c31
        by_cases c32 : a0 = 95
        ·rw [if_pos c32] at H; have c32b0 : (a0 == 95) = true := beq_iff_eq.mpr c32; have c32b1 : (a0 != 95) = false := bne_eq_false_iff_eq.mpr c32; clear c32; obtain rfl := Option.some.inj H
         go_enter Try.func82, Try.ntmps82
         go_wp2
         go_ret
         exact ⟨Zq7, Zq9⟩
        ·rw [if_neg c32] at H; have c32b0 : (a0 == 95) = false := beq_eq_false_iff_ne.mpr c32; have c32b1 : (a0 != 95) = true := bne_iff_ne.mpr c32
         by_cases c33 : a0 = 43
         ·rw [if_pos c33] at H; have c33b0 : (a0 == 43) = true := beq_iff_eq.mpr c33; have c33b1 : (a0 != 43) = false := bne_eq_false_iff_eq.mpr c33; clear c33; obtain rfl := Option.some.inj H
          go_enter Try.func82, Try.ntmps82
          go_wp2
          go_ret
          exact ⟨Zq7, Zq9⟩
         ·rw [if_neg c33] at H; have c33b0 : (a0 == 43) = false := beq_eq_false_iff_ne.mpr c33; have c33b1 : (a0 != 43) = true := bne_iff_ne.mpr c33; obtain rfl := Option.some.inj H
          go_enter Try.func82, Try.ntmps82
          go_wp2
          go_ret
          exact ⟨Zq7, Zq9⟩
    ·rw [if_neg c28] at H; have c28b0 : decide (65 ≤ a0) = false := decide_eq_false c28; clear c28
     by_cases c34 : a0 = 44
     ·rw [if_pos c34] at H; have c34b0 : (a0 == 44) = true := beq_iff_eq.mpr c34; have c34b1 : (a0 != 44) = false := bne_eq_false_iff_eq.mpr c34; clear c34; obtain rfl := Option.some.inj H
      go_enter Try.func82, Try.ntmps82
      go_wp2
      go_ret
      exact ⟨Zq7, Zq9⟩
     ·rw [if_neg c34] at H; have c34b0 : (a0 == 44) = false := beq_eq_false_iff_ne.mpr c34; have c34b1 : (a0 != 44) = true := bne_iff_ne.mpr c34
      by_cases c35 : a0 = 46
      ·rw [if_pos c35] at H; have c35b0 : (a0 == 46) = true := beq_iff_eq.mpr c35; have c35b1 : (a0 != 46) = false := bne_eq_false_iff_eq.mpr c35; clear c35; obtain rfl := Option.some.inj H
       go_enter Try.func82, Try.ntmps82
       go_wp2
       go_ret
       exact ⟨Zq7, Zq9⟩
      ·rw [if_neg c35] at H; have c35b0 : (a0 == 46) = false := beq_eq_false_iff_ne.mpr c35; have c35b1 : (a0 != 46) = true := bne_iff_ne.mpr c35
       by_cases c36 : a0 = 95
       ·rw [if_pos c36] at H; have c36b0 : (a0 == 95) = true := beq_iff_eq.mpr c36; have c36b1 : (a0 != 95) = false := bne_eq_false_iff_eq.mpr c36; clear c36; obtain rfl := Option.some.inj H
        go_enter Try.func82, Try.ntmps82
        go_wp2
        go_ret
        exact ⟨Zq7, Zq9⟩
       ·rw [if_neg c36] at H; have c36b0 : (a0 == 95) = false := beq_eq_false_iff_ne.mpr c36; have c36b1 : (a0 != 95) = true := bne_iff_ne.mpr c36
        by_cases c37 : a0 = 43
        ·rw [if_pos c37] at H; have c37b0 : (a0 == 43) = true := beq_iff_eq.mpr c37; have c37b1 : (a0 != 43) = false := bne_eq_false_iff_eq.mpr c37; clear c37; obtain rfl := Option.some.inj H
         go_enter Try.func82, Try.ntmps82
         go_wp2
         go_ret
         exact ⟨Zq7, Zq9⟩
        ·rw [if_neg c37] at H; have c37b0 : (a0 == 43) = false := beq_eq_false_iff_ne.mpr c37; have c37b1 : (a0 != 43) = true := bne_iff_ne.mpr c37; obtain rfl := Option.some.inj H
         go_enter Try.func82, Try.ntmps82
         go_wp2
         go_ret
         exact ⟨Zq7, Zq9⟩
  ·rw [if_neg c26] at H; have c26b0 : decide (97 ≤ a0) = false := decide_eq_false c26; clear c26
   by_cases c38 : a0 ≥ 65
   ·rw [if_pos c38] at H; have c38b0 : decide (65 ≤ a0) = true := decide_eq_true c38; clear c38
    by_cases c39 : a0 ≤ 90
    ·rw [if_pos c39] at H; have c39b0 : decide (a0 ≤ 90) = true := decide_eq_true c39; clear c39; obtain rfl := Option.some.inj H
     go_enter Try.func82, Try.ntmps82
     go_wp2
     go_ret
     exact ⟨Zq7, Zq9⟩
    ·rw [if_neg c39] at H; have c39b0 : decide (a0 ≤ 90) = false := decide_eq_false c39; clear c39
     by_cases c40 : a0 = 44
     ·rw [if_pos c40] at H; have c40b0 : (a0 == 44) = true := beq_iff_eq.mpr c40; have c40b1 : (a0 != 44) = false := bne_eq_false_iff_eq.mpr c40; clear c40; obtain rfl := Option.some.inj H
      go_enter Try.func82, Try.ntmps82
      go_wp2
      go_ret
      exact ⟨Zq7, Zq9⟩
     ·rw [if_neg c40] at H; have c40b0 : (a0 == 44) = false := beq_eq_false_iff_ne.mpr c40; have c40b1 : (a0 != 44) = true := bne_iff_ne.mpr c40
      by_cases c41 : a0 = 46
      ·rw [if_pos c41] at H; have c41b0 : (a0 == 46) = true := beq_iff_eq.mpr c41; have c41b1 : (a0 != 46) = false := bne_eq_false_iff_eq.mpr c41; clear c41; obtain rfl := Option.some.inj H
       go_enter Try.func82, Try.ntmps82
       go_wp2
       go_ret
       exact ⟨Zq7, Zq9⟩
      ·rw [if_neg c41] at H; have c41b0 : (a0 == 46) = false := beq_eq_false_iff_ne.mpr c41; have c41b1 : (a0 != 46) = true := bne_iff_ne.mpr c41
       by_cases c42 : a0 = 95
       ·rw [if_pos c42] at H; have c42b0 : (a0 == 95) = true := beq_iff_eq.mpr c42; have c42b1 : (a0 != 95) = false := bne_eq_false_iff_eq.mpr c42; clear c42; obtain rfl := Option.some.inj H
        go_enter Try.func82, Try.ntmps82
        go_wp2
        go_ret
        exact ⟨Zq7, Zq9⟩
       ·rw [if_neg c42] at H; have c42b0 : (a0 == 95) = false := beq_eq_false_iff_ne.mpr c42; have c42b1 : (a0 != 95) = true := bne_iff_ne.mpr c42
        by_cases c43 : a0 = 43
        ·rw [if_pos c43] at H; have c43b0 : (a0 == 43) = true := beq_iff_eq.mpr c43; have c43b1 : (a0 != 43) = false := bne_eq_false_iff_eq.mpr c43; clear c43; obtain rfl := Option.some.inj H
         go_enter Try.func82, Try.ntmps82
         go_wp2
         go_ret
         exact ⟨Zq7, Zq9⟩
        ·rw [if_neg c43] at H; have c43b0 : (a0 == 43) = false := beq_eq_false_iff_ne.mpr c43; have c43b1 : (a0 != 43) = true := bne_iff_ne.mpr c43; obtain rfl := Option.some.inj H
         go_enter Try.func82, Try.ntmps82
         go_wp2
         go_ret
         exact ⟨Zq7, Zq9⟩
   ·rw [if_neg c38] at H; have c38b0 : decide (65 ≤ a0) = false := decide_eq_false c38; clear c38
    by_cases c44 : a0 = 44
    ·rw [if_pos c44] at H; have c44b0 : (a0 == 44) = true := beq_iff_eq.mpr c44; have c44b1 : (a0 != 44) = false := bne_eq_false_iff_eq.mpr c44; clear c44; obtain rfl := Option.some.inj H
     go_enter Try.func82, Try.ntmps82
     go_wp2
     go_ret
     exact ⟨Zq7, Zq9⟩
    ·rw [if_neg c44] at H; have c44b0 : (a0 == 44) = false := beq_eq_false_iff_ne.mpr c44; have c44b1 : (a0 != 44) = true := bne_iff_ne.mpr c44
     by_cases c45 : a0 = 46
     ·rw [if_pos c45] at H; have c45b0 : (a0 == 46) = true := beq_iff_eq.mpr c45; have c45b1 : (a0 != 46) = false := bne_eq_false_iff_eq.mpr c45; clear c45; obtain rfl := Option.some.inj H
      go_enter Try.func82, Try.ntmps82
      go_wp2
      go_ret
      exact ⟨Zq7, Zq9⟩
     ·rw [if_neg c45] at H; have c45b0 : (a0 == 46) = false := beq_eq_false_iff_ne.mpr c45; have c45b1 : (a0 != 46) = true := bne_iff_ne.mpr c45
      by_cases c46 : a0 = 95
      ·rw [if_pos c46] at H; have c46b0 : (a0 == 95) = true := beq_iff_eq.mpr c46; have c46b1 : (a0 != 95) = false := bne_eq_false_iff_eq.mpr c46; clear c46; obtain rfl := Option.some.inj H
       go_enter Try.func82, Try.ntmps82
       go_wp2
       go_ret
       exact ⟨Zq7, Zq9⟩
      ·rw [if_neg c46] at H; have c46b0 : (a0 == 95) = false := beq_eq_false_iff_ne.mpr c46; have c46b1 : (a0 != 95) = true := bne_iff_ne.mpr c46
       by_cases c47 : a0 = 43
       ·rw [if_pos c47] at H; have c47b0 : (a0 == 43) = true := beq_iff_eq.mpr c47; have c47b1 : (a0 != 43) = false := bne_eq_false_iff_eq.mpr c47; clear c47; obtain rfl := Option.some.inj H
        go_enter Try.func82, Try.ntmps82
        go_wp2
        go_ret
        exact ⟨Zq7, Zq9⟩
       ·rw [if_neg c47] at H; have c47b0 : (a0 == 43) = false := beq_eq_false_iff_ne.mpr c47; have c47b1 : (a0 != 43) = true := bne_iff_ne.mpr c47; obtain rfl := Option.some.inj H
        go_enter Try.func82, Try.ntmps82
        go_wp2
        go_ret
        exact ⟨Zq7, Zq9⟩
mutual
def arboretref01_Node.j0 : Nat → ByteArray → Int → ByteArray → Option (Bool)
 | 0, _, _, _ => none
 | k + 1, x0, x3, x4 => arboretref01_Node.l0 k x0 x3 x4 (x0.size : Int) 0
def arboretref01_Node.l0 : Nat → ByteArray → Int → ByteArray → Int → Int → Option (Bool)
 | 0, _, _, _, _, _ => none
 | k + 1, x0, x3, x4, x29, x30 => if x30 < x29 then (if x30 = x3 then (arboretref01_Node.l0 k x0 x3 x4 x29 (wrap64 (x30 + 1))) else (if 0 ≤ x30 then (if x30 < (x0.size : Int) then ((arboretref01_stands.f (bt x0 x30)).bind fun tem => (if tem = true then (arboretref01_Node.l0 k x0 x3 x4 x29 (wrap64 (x30 + 1))) else (some false))) else (none)) else (none))) else (if (x4.size : Int) ≥ 1 then (if (x4.size : Int) ≤ 31 then (if 0 < (x4.size : Int) then (if (bt x4 0) = 95 then (some true) else (if (bt x4 0) ≥ 97 then (if (bt x4 0) ≤ 122 then (some true) else (if (bt x4 0) ≥ 65 then (some (decide ((bt x4 0) ≤ 90))) else (some false))) else (if (bt x4 0) ≥ 65 then (some (decide ((bt x4 0) ≤ 90))) else (some false)))) else (none)) else (some false)) else (some false))
end
def arboretref01_Node.f (k : Nat) (a0 : ByteArray) : Option (Bool) := (arboretref01_Cut.f k a0).bind fun tbh => (if tbh ≥ 0 then (if 0 ≤ tbh then (if tbh ≤ (a0.size : Int) then (if (wrap64 ((wrap64 ((a0.size : Int) - tbh)) - 1)) < 1 then (some false) else (if (wrap64 ((wrap64 ((a0.size : Int) - tbh)) - 1)) > 31 then (some false) else (arboretref01_Node.j0 k a0 tbh (a0.extract 0 (tbh : Int).toNat)))) else (none)) else (none)) else (arboretref01_Node.j0 k a0 tbh a0))
end Go.Proofs.Ytkopmkinlanhoaa.PB

namespace Go.Proofs.Ytkopmkinlanhoaa.PB
open Go.RowKit Go.Proofs.YtkopmkinlanhoaaW.PrintWords Go.Proofs.YtkopmkinlanhoaaW.PrintLast Go.Proofs.YtkopmkinlanhoaaW.PrintMore
attribute [local go_sem] max2_int min2_int max_two min_two max_three min_three max_four min_four
set_option maxHeartbeats 8000000 in
set_option maxRecDepth 100000 in
theorem arboretref01_Node.calls (k : Nat) (a0 : ByteArray) (r : Bool) (w : World) (h : arboretref01_Node.f k a0 = some r) :
  Calls Try.prog 64 #[.string a0] w fun e w' => e = .returned (.bool r) ∧ Drawn0 w w' := by
 have H : ((arboretref01_Cut.f k a0).bind fun tbh => (if tbh ≥ 0 then (if 0 ≤ tbh then (if tbh ≤ (a0.size : Int) then (if (wrap64 ((wrap64 ((a0.size : Int) - tbh)) - 1)) < 1 then (some false) else (if (wrap64 ((wrap64 ((a0.size : Int) - tbh)) - 1)) > 31 then (some false) else (arboretref01_Node.j0 k a0 tbh (a0.extract 0 (tbh : Int).toNat)))) else (none)) else (none)) else (arboretref01_Node.j0 k a0 tbh a0))) = some r := h; clear h; replace H := Option.bind_eq_some_iff.mp H; obtain ⟨tbh, A20, H⟩ := H; replace H : (if tbh ≥ 0 then (if 0 ≤ tbh then (if tbh ≤ (a0.size : Int) then (if (wrap64 ((wrap64 ((a0.size : Int) - tbh)) - 1)) < 1 then (some false) else (if (wrap64 ((wrap64 ((a0.size : Int) - tbh)) - 1)) > 31 then (some false) else (arboretref01_Node.j0 k a0 tbh (a0.extract 0 (tbh : Int).toNat)))) else (none)) else (none)) else (arboretref01_Node.j0 k a0 tbh a0)) = some r := H; have A2 := Ak A20; clear A20; have HC3 := Ak H; clear H
 go_enter Try.func64, Try.ntmps64
 go_upto_if 10 with (first | ((with_reducible refine gate_callee (f := 81) rfl ?_); refine goesL_ (some 7) rfl rfl Try.func81 Zq2 rfl #[.string a0] rfl Zq8 ?_; (with_reducible refine (arboretref01_Cut.calls k a0 tbh _ A2.out).mono ?_); rintro e w' ⟨rfl, ⟨nd, rfl⟩⟩; refine ⟨_, rfl, ?_⟩))
 (try simp only [Act.put, List.setIfInBounds_toArray, List.set_cons_zero, List.set_cons_succ])
 go_cut [4] (fun v4 wc => ∃ (kq : Nat) (x4_2 : ByteArray), v4 = .string x4_2 ∧ Aside0 (arboretref01_Node.j0 kq a0 tbh x4_2 = some r) ∧ Aside0 (kq ≤ k) ∧ Drawn0 w wc)
 case first =>
  have H := HC3.out; clear HC3
  by_cases c4 : tbh ≥ 0
  ·rw [if_pos c4] at H; have c4b0 : decide (0 ≤ tbh) = true := decide_eq_true c4; clear c4
   (first | rw [c4b0] | (simp only [i64_w, i32_w]; rw [c4b0]) | skip)
   by_cases c5 : 0 ≤ tbh
   ·rw [if_pos c5] at H; have c5b0 := eq_true c5; have c5b1 : decide (0 ≤ tbh) = true := decide_eq_true c5; clear c5
    by_cases c6 : tbh ≤ (a0.size : Int)
    ·rw [if_pos c6] at H; have c6b0 := eq_true c6; have c6b1 : decide (tbh ≤ (a0.size : Int)) = true := decide_eq_true c6; clear c6
     by_cases c7 : (wrap64 ((wrap64 ((a0.size : Int) - tbh)) - 1)) < 1
     ·rw [if_pos c7] at H; have c7b0 : decide ((wrap64 ((wrap64 ((a0.size : Int) - tbh)) - 1)) < 1) = true := decide_eq_true c7; clear c7; obtain rfl := Option.some.inj H
      go_wp2
      go_ret
      exact ⟨Zq7, Zq9⟩
     ·rw [if_neg c7] at H; have c7b0 : decide ((wrap64 ((wrap64 ((a0.size : Int) - tbh)) - 1)) < 1) = false := decide_eq_false c7; clear c7
      by_cases c8 : (wrap64 ((wrap64 ((a0.size : Int) - tbh)) - 1)) > 31
      ·rw [if_pos c8] at H; have c8b0 : decide (31 < (wrap64 ((wrap64 ((a0.size : Int) - tbh)) - 1))) = true := decide_eq_true c8; clear c8; obtain rfl := Option.some.inj H
       go_wp2
       go_ret
       exact ⟨Zq7, Zq9⟩
      ·rw [if_neg c8] at H; have c8b0 : decide (31 < (wrap64 ((wrap64 ((a0.size : Int) - tbh)) - 1))) = false := decide_eq_false c8; clear c8; have H' := Ak H; clear H
       go_wp2
       go_meet
       case rel => exact ⟨_, (a0.extract 0 (tbh : Int).toNat), Zq7, H', ⟨Zq43⟩, Zq9⟩
    ·rw [if_neg c6] at H; exact absurd H Zq10
   ·rw [if_neg c5] at H; exact absurd H Zq10
  ·rw [if_neg c4] at H; have c4b0 : decide (0 ≤ tbh) = false := decide_eq_false c4; clear c4
   (first | rw [c4b0] | (simp only [i64_w, i32_w]; rw [c4b0]) | skip)
   have H' := Ak H; clear H
   go_wp2
   go_meet
   case rel => exact ⟨_, (a0), Zq7, H', ⟨Zq43⟩, Zq9⟩
 case rest =>
  clear HC3
  try clear p2
  try clear c4
  try clear c4b0
  try clear c5
  try clear c5b0
  try clear c5b1
  try clear c6
  try clear c6b0
  try clear c6b1
  try clear p6
  try clear c7
  try clear c7b0
  try clear c8
  try clear c8b0
  obtain ⟨kq, x4_2, rfl, HA, HJ2, ⟨mc2, rfl⟩⟩ := hcut
  cases kq with
  | zero => exact absurd HA.out (by simp [arboretref01_Node.j0])
  | succ kj2 =>
   have H := HA.out; clear HA; simp only [arboretref01_Node.j0] at H; have H' := Ak H; clear H
   go_wp2
   go_loopg [30] kj2 (fun kq v30 w' => ∃ (x30_2 : Int), v30 = .int .i64 x30_2 ∧ Aside0 (arboretref01_Node.l0 kq a0 tbh x4_2 (a0.size : Int) x30_2 = some r) ∧ Aside0 (kq ≤ kj2) ∧ Drawn0 w w')
   case atStart => exact ⟨(0), Zq7, H', ⟨Nat.le_refl _⟩, Zq9⟩
   case round =>
    clear H'
    try clear c2
    try clear p2
    try clear c4
    try clear c4b0
    try clear c5
    try clear c5b0
    try clear c5b1
    try clear c6
    try clear c6b0
    try clear c6b1
    try clear p6
    try clear c7
    try clear c7b0
    try clear c8
    try clear c8b0
    try clear p2
    try clear p6
    obtain ⟨x30_2, rfl, HA, HK2, ⟨m2, rfl⟩⟩ := hrel
    cases gk with
    | zero => exact absurd HA.out (by simp [arboretref01_Node.l0])
    | succ k2 =>
     have H := HA.out; clear HA; simp only [arboretref01_Node.l0] at H
     by_cases c9 : x30_2 < (a0.size : Int)
     ·rw [if_pos c9] at H; have c9b0 : decide (x30_2 < (a0.size : Int)) = true := decide_eq_true c9; clear c9
      by_cases c10 : x30_2 = tbh
      ·rw [if_pos c10] at H; have c10b0 : (x30_2 == tbh) = true := beq_iff_eq.mpr c10; have c10b1 : (x30_2 != tbh) = false := bne_eq_false_iff_eq.mpr c10; clear c10; have H' := Ak H; clear H
       go_wp2
       go_roundg k2
       case measure => have := HJ2.out; have := HK2.out; omega
       case rel => exact ⟨(wrap64 (x30_2 + 1)), Zq7, H', ⟨by have := HJ2.out; have := HK2.out; omega⟩, Zq9⟩
      ·rw [if_neg c10] at H; have c10b0 : (x30_2 == tbh) = false := beq_eq_false_iff_ne.mpr c10; have c10b1 : (x30_2 != tbh) = true := bne_iff_ne.mpr c10
       by_cases c11 : 0 ≤ x30_2
       ·rw [if_pos c11] at H; have c11b0 : decide (0 ≤ x30_2) = true := decide_eq_true c11; clear c11
        by_cases c12 : x30_2 < (a0.size : Int)
        ·rw [if_pos c12] at H; have c12b0 : decide (x30_2 < (a0.size : Int)) = true := decide_eq_true c12; clear c12; replace H := Option.bind_eq_some_iff.mp H; obtain ⟨tem, AdP, H⟩ := H; replace H : (if tem = true then (arboretref01_Node.l0 k2 a0 tbh x4_2 (a0.size : Int) (wrap64 (x30_2 + 1))) else (some false)) = some r := H; have A14 := Ak AdP; clear AdP
         by_cases c15 : tem = true
         ·subst c15
          have H1 : (arboretref01_Node.l0 k2 a0 tbh x4_2 (a0.size : Int) (wrap64 (x30_2 + 1))) = some r := by rw [if_pos rfl] at H; exact H
          clear H; have H := H1; clear H1; have H' := Ak H; clear H; have p13 : 0 ≤ (x30_2 : Int) := of_decide_eq_true Zq5; have q13 : x30_2 < (a0.size : Int) := of_decide_eq_true Zq5; have hx13 := bt_at a0 x30_2; replace p13 := eq_true p13; replace q13 := eq_true q13
          go_wp2_with (first | (go_at_call 82; (with_reducible refine (arboretref01_stands.calls (bt a0 x30_2) true _ A14.out).mono ?_); rintro e w' ⟨rfl, ⟨nd, rfl⟩⟩))
          go_roundg k2
          case measure => have := HJ2.out; have := HK2.out; omega
          case rel => exact ⟨(wrap64 (x30_2 + 1)), Zq7, H', ⟨by have := HJ2.out; have := HK2.out; omega⟩, Zq9⟩
         ·replace c15 := Bool.eq_false_iff.mpr c15; subst c15
          have H1 : (some false) = some r := by rw [if_neg (show ¬ (false = true) by decide)] at H; exact H
          clear H; have H := H1; clear H1; obtain rfl := Option.some.inj H; have p13 : 0 ≤ (x30_2 : Int) := of_decide_eq_true Zq5; have q13 : x30_2 < (a0.size : Int) := of_decide_eq_true Zq5; have hx13 := bt_at a0 x30_2; replace p13 := eq_true p13; replace q13 := eq_true q13
          go_wp2_with (first | (go_at_call 82; (with_reducible refine (arboretref01_stands.calls (bt a0 x30_2) false _ A14.out).mono ?_); rintro e w' ⟨rfl, ⟨nd, rfl⟩⟩))
          go_ret
          exact ⟨Zq7, Zq9⟩
        ·rw [if_neg c12] at H; exact absurd H Zq10
       ·rw [if_neg c11] at H; exact absurd H Zq10
     ·rw [if_neg c9] at H; have c9b0 : decide (x30_2 < (a0.size : Int)) = false := decide_eq_false c9; clear c9
      by_cases c16 : (x4_2.size : Int) ≥ 1
      ·rw [if_pos c16] at H; have c16b0 : decide (1 ≤ (x4_2.size : Int)) = true := decide_eq_true c16; have c16b1 : decide (1 ≤ x4_2.size) = true := decide_eq_true Zq1; clear c16
       by_cases c17 : (x4_2.size : Int) ≤ 31
       ·rw [if_pos c17] at H; have c17b0 : decide ((x4_2.size : Int) ≤ 31) = true := decide_eq_true c17; have c17b1 : decide (x4_2.size ≤ 31) = true := decide_eq_true Zq1; clear c17
        by_cases c18 : 0 < (x4_2.size : Int)
        ·rw [if_pos c18] at H; have c18b0 : decide (0 < (x4_2.size : Int)) = true := decide_eq_true c18; have c18b1 : decide (0 < x4_2.size) = true := decide_eq_true Zq1; clear c18
         by_cases c20 : (bt x4_2 0) = 95
         ·rw [if_pos c20] at H; have c20b0 : ((bt x4_2 0) == 95) = true := beq_iff_eq.mpr c20; have c20b1 : ((bt x4_2 0) != 95) = false := bne_eq_false_iff_eq.mpr c20; clear c20; obtain rfl := Option.some.inj H; have p19 : 0 ≤ (0 : Int) := Zq1
          have q19 : 0 < x4_2.size := (by have : (0 : Int) < (x4_2.size : Int) := of_decide_eq_true Zq5; omega)
          have hx19 : ∀ h : 0 < x4_2.size, ((x4_2[0]'h).toNat : Int) = bt x4_2 0 := bt_at x4_2 0; clear p19; have qi19 : (0 < (x4_2.size : Int)) = True := eq_true (of_decide_eq_true Zq5); replace q19 := eq_true q19
          go_wp2
          go_ret
          exact ⟨Zq7, Zq9⟩
         ·rw [if_neg c20] at H; have c20b0 : ((bt x4_2 0) == 95) = false := beq_eq_false_iff_ne.mpr c20; have c20b1 : ((bt x4_2 0) != 95) = true := bne_iff_ne.mpr c20
          by_cases c22 : (bt x4_2 0) ≥ 97
          ·rw [if_pos c22] at H; have c22b0 : decide (97 ≤ (bt x4_2 0)) = true := decide_eq_true c22; clear c22
           by_cases c24 : (bt x4_2 0) ≤ 122
           ·rw [if_pos c24] at H; have c24b0 : decide ((bt x4_2 0) ≤ 122) = true := decide_eq_true c24; clear c24; obtain rfl := Option.some.inj H; have p19 : 0 ≤ (0 : Int) := Zq1
            have q19 : 0 < x4_2.size := (by have : (0 : Int) < (x4_2.size : Int) := of_decide_eq_true Zq5; omega)
            have hx19 : ∀ h : 0 < x4_2.size, ((x4_2[0]'h).toNat : Int) = bt x4_2 0 := bt_at x4_2 0; clear p19; have qi19 : (0 < (x4_2.size : Int)) = True := eq_true (of_decide_eq_true Zq5); replace q19 := eq_true q19; have p21 : 0 ≤ (0 : Int) := Zq1
            have q21 : 0 < x4_2.size := (by have : (0 : Int) < (x4_2.size : Int) := of_decide_eq_true Zq5; omega)
            have hx21 : ∀ h : 0 < x4_2.size, ((x4_2[0]'h).toNat : Int) = bt x4_2 0 := bt_at x4_2 0; clear p21; have qi21 : (0 < (x4_2.size : Int)) = True := eq_true (of_decide_eq_true Zq5); replace q21 := eq_true q21; have p23 : 0 ≤ (0 : Int) := Zq1
            have q23 : 0 < x4_2.size := (by have : (0 : Int) < (x4_2.size : Int) := of_decide_eq_true Zq5; omega)
            have hx23 : ∀ h : 0 < x4_2.size, ((x4_2[0]'h).toNat : Int) = bt x4_2 0 := bt_at x4_2 0; clear p23; have qi23 : (0 < (x4_2.size : Int)) = True := eq_true (of_decide_eq_true Zq5); replace q23 := eq_true q23
            go_wp2
            go_ret
            exact ⟨Zq7, Zq9⟩
           ·rw [if_neg c24] at H; have c24b0 : decide ((bt x4_2 0) ≤ 122) = false := decide_eq_false c24; clear c24
            by_cases c26 : (bt x4_2 0) ≥ 65
            ·rw [if_pos c26] at H; have c26b0 : decide (65 ≤ (bt x4_2 0)) = true := decide_eq_true c26; clear c26; obtain rfl := Option.some.inj H; have p19 : 0 ≤ (0 : Int) := Zq1
             have q19 : 0 < x4_2.size := (by have : (0 : Int) < (x4_2.size : Int) := of_decide_eq_true Zq5; omega)
             have hx19 : ∀ h : 0 < x4_2.size, ((x4_2[0]'h).toNat : Int) = bt x4_2 0 := bt_at x4_2 0; clear p19; have qi19 : (0 < (x4_2.size : Int)) = True := eq_true (of_decide_eq_true Zq5); replace q19 := eq_true q19; have p21 : 0 ≤ (0 : Int) := Zq1
             have q21 : 0 < x4_2.size := (by have : (0 : Int) < (x4_2.size : Int) := of_decide_eq_true Zq5; omega)
             have hx21 : ∀ h : 0 < x4_2.size, ((x4_2[0]'h).toNat : Int) = bt x4_2 0 := bt_at x4_2 0; clear p21; have qi21 : (0 < (x4_2.size : Int)) = True := eq_true (of_decide_eq_true Zq5); replace q21 := eq_true q21; have p23 : 0 ≤ (0 : Int) := Zq1
             have q23 : 0 < x4_2.size := (by have : (0 : Int) < (x4_2.size : Int) := of_decide_eq_true Zq5; omega)
             have hx23 : ∀ h : 0 < x4_2.size, ((x4_2[0]'h).toNat : Int) = bt x4_2 0 := bt_at x4_2 0; clear p23; have qi23 : (0 < (x4_2.size : Int)) = True := eq_true (of_decide_eq_true Zq5); replace q23 := eq_true q23; have p25 : 0 ≤ (0 : Int) := Zq1
             have q25 : 0 < x4_2.size := (by have : (0 : Int) < (x4_2.size : Int) := of_decide_eq_true Zq5; omega)
             have hx25 : ∀ h : 0 < x4_2.size, ((x4_2[0]'h).toNat : Int) = bt x4_2 0 := bt_at x4_2 0; clear p25; have qi25 : (0 < (x4_2.size : Int)) = True := eq_true (of_decide_eq_true Zq5); replace q25 := eq_true q25; have p27 : 0 ≤ (0 : Int) := Zq1
             have q27 : 0 < x4_2.size := (by have : (0 : Int) < (x4_2.size : Int) := of_decide_eq_true Zq5; omega)
             have hx27 : ∀ h : 0 < x4_2.size, ((x4_2[0]'h).toNat : Int) = bt x4_2 0 := bt_at x4_2 0; clear p27; have qi27 : (0 < (x4_2.size : Int)) = True := eq_true (of_decide_eq_true Zq5); replace q27 := eq_true q27
             go_wp2
             go_ret
             exact ⟨Zq7, Zq9⟩
            ·rw [if_neg c26] at H; have c26b0 : decide (65 ≤ (bt x4_2 0)) = false := decide_eq_false c26; clear c26; obtain rfl := Option.some.inj H; have p19 : 0 ≤ (0 : Int) := Zq1
             have q19 : 0 < x4_2.size := (by have : (0 : Int) < (x4_2.size : Int) := of_decide_eq_true Zq5; omega)
             have hx19 : ∀ h : 0 < x4_2.size, ((x4_2[0]'h).toNat : Int) = bt x4_2 0 := bt_at x4_2 0; clear p19; have qi19 : (0 < (x4_2.size : Int)) = True := eq_true (of_decide_eq_true Zq5); replace q19 := eq_true q19; have p21 : 0 ≤ (0 : Int) := Zq1
             have q21 : 0 < x4_2.size := (by have : (0 : Int) < (x4_2.size : Int) := of_decide_eq_true Zq5; omega)
             have hx21 : ∀ h : 0 < x4_2.size, ((x4_2[0]'h).toNat : Int) = bt x4_2 0 := bt_at x4_2 0; clear p21; have qi21 : (0 < (x4_2.size : Int)) = True := eq_true (of_decide_eq_true Zq5); replace q21 := eq_true q21; have p23 : 0 ≤ (0 : Int) := Zq1
             have q23 : 0 < x4_2.size := (by have : (0 : Int) < (x4_2.size : Int) := of_decide_eq_true Zq5; omega)
             have hx23 : ∀ h : 0 < x4_2.size, ((x4_2[0]'h).toNat : Int) = bt x4_2 0 := bt_at x4_2 0; clear p23; have qi23 : (0 < (x4_2.size : Int)) = True := eq_true (of_decide_eq_true Zq5); replace q23 := eq_true q23; have p25 : 0 ≤ (0 : Int) := Zq1
             have q25 : 0 < x4_2.size := (by have : (0 : Int) < (x4_2.size : Int) := of_decide_eq_true Zq5; omega)
             have hx25 : ∀ h : 0 < x4_2.size, ((x4_2[0]'h).toNat : Int) = bt x4_2 0 := bt_at x4_2 0; clear p25; have qi25 : (0 < (x4_2.size : Int)) = True := eq_true (of_decide_eq_true Zq5); replace q25 := eq_true q25
             go_wp2
             go_ret
             exact ⟨Zq7, Zq9⟩
          ·rw [if_neg c22] at H; have c22b0 : decide (97 ≤ (bt x4_2 0)) = false := decide_eq_false c22; clear c22
           by_cases c29 : (bt x4_2 0) ≥ 65
           ·rw [if_pos c29] at H; have c29b0 : decide (65 ≤ (bt x4_2 0)) = true := decide_eq_true c29; clear c29; obtain rfl := Option.some.inj H; have p19 : 0 ≤ (0 : Int) := Zq1
            have q19 : 0 < x4_2.size := (by have : (0 : Int) < (x4_2.size : Int) := of_decide_eq_true Zq5; omega)
            have hx19 : ∀ h : 0 < x4_2.size, ((x4_2[0]'h).toNat : Int) = bt x4_2 0 := bt_at x4_2 0; clear p19; have qi19 : (0 < (x4_2.size : Int)) = True := eq_true (of_decide_eq_true Zq5); replace q19 := eq_true q19; have p21 : 0 ≤ (0 : Int) := Zq1
            have q21 : 0 < x4_2.size := (by have : (0 : Int) < (x4_2.size : Int) := of_decide_eq_true Zq5; omega)
            have hx21 : ∀ h : 0 < x4_2.size, ((x4_2[0]'h).toNat : Int) = bt x4_2 0 := bt_at x4_2 0; clear p21; have qi21 : (0 < (x4_2.size : Int)) = True := eq_true (of_decide_eq_true Zq5); replace q21 := eq_true q21; have p28 : 0 ≤ (0 : Int) := Zq1
            have q28 : 0 < x4_2.size := (by have : (0 : Int) < (x4_2.size : Int) := of_decide_eq_true Zq5; omega)
            have hx28 : ∀ h : 0 < x4_2.size, ((x4_2[0]'h).toNat : Int) = bt x4_2 0 := bt_at x4_2 0; clear p28; have qi28 : (0 < (x4_2.size : Int)) = True := eq_true (of_decide_eq_true Zq5); replace q28 := eq_true q28; have p30 : 0 ≤ (0 : Int) := Zq1
            have q30 : 0 < x4_2.size := (by have : (0 : Int) < (x4_2.size : Int) := of_decide_eq_true Zq5; omega)
            have hx30 : ∀ h : 0 < x4_2.size, ((x4_2[0]'h).toNat : Int) = bt x4_2 0 := bt_at x4_2 0; clear p30; have qi30 : (0 < (x4_2.size : Int)) = True := eq_true (of_decide_eq_true Zq5); replace q30 := eq_true q30
            go_wp2
            go_ret
            exact ⟨Zq7, Zq9⟩
           ·rw [if_neg c29] at H; have c29b0 : decide (65 ≤ (bt x4_2 0)) = false := decide_eq_false c29; clear c29; obtain rfl := Option.some.inj H; have p19 : 0 ≤ (0 : Int) := Zq1
            have q19 : 0 < x4_2.size := (by have : (0 : Int) < (x4_2.size : Int) := of_decide_eq_true Zq5; omega)
            have hx19 : ∀ h : 0 < x4_2.size, ((x4_2[0]'h).toNat : Int) = bt x4_2 0 := bt_at x4_2 0; clear p19; have qi19 : (0 < (x4_2.size : Int)) = True := eq_true (of_decide_eq_true Zq5); replace q19 := eq_true q19; have p21 : 0 ≤ (0 : Int) := Zq1
            have q21 : 0 < x4_2.size := (by have : (0 : Int) < (x4_2.size : Int) := of_decide_eq_true Zq5; omega)
            have hx21 : ∀ h : 0 < x4_2.size, ((x4_2[0]'h).toNat : Int) = bt x4_2 0 := bt_at x4_2 0; clear p21; have qi21 : (0 < (x4_2.size : Int)) = True := eq_true (of_decide_eq_true Zq5); replace q21 := eq_true q21; have p28 : 0 ≤ (0 : Int) := Zq1
            have q28 : 0 < x4_2.size := (by have : (0 : Int) < (x4_2.size : Int) := of_decide_eq_true Zq5; omega)
            have hx28 : ∀ h : 0 < x4_2.size, ((x4_2[0]'h).toNat : Int) = bt x4_2 0 := bt_at x4_2 0; clear p28; have qi28 : (0 < (x4_2.size : Int)) = True := eq_true (of_decide_eq_true Zq5); replace q28 := eq_true q28
            go_wp2
            go_ret
            exact ⟨Zq7, Zq9⟩
        ·rw [if_neg c18] at H; exact absurd H Zq10
       ·rw [if_neg c17] at H; have c17b0 : decide ((x4_2.size : Int) ≤ 31) = false := decide_eq_false c17; have c17b1 : decide (x4_2.size ≤ 31) = false := decide_eq_false Zq1; clear c17; obtain rfl := Option.some.inj H
        go_wp2
        go_ret
        exact ⟨Zq7, Zq9⟩
      ·rw [if_neg c16] at H; have c16b0 : decide (1 ≤ (x4_2.size : Int)) = false := decide_eq_false c16; have c16b1 : decide (1 ≤ x4_2.size) = false := decide_eq_false Zq1; clear c16; obtain rfl := Option.some.inj H
       go_wp2
       go_ret
       exact ⟨Zq7, Zq9⟩
def arboretref01_Prop.l0 : Nat → ByteArray → Int → Int → Option (Bool)
 | 0, _, _, _ => none
 | k + 1, x0, x5, x6 => if x6 < x5 then (if 0 ≤ x6 then (if x6 < (x0.size : Int) then ((arboretref01_stands.f (bt x0 x6)).bind fun ten => (if ten = true then (arboretref01_Prop.l0 k x0 x5 (wrap64 (x6 + 1))) else (if (bt x0 x6) = 63 then (arboretref01_Prop.l0 k x0 x5 (wrap64 (x6 + 1))) else (if (bt x0 x6) = 35 then (arboretref01_Prop.l0 k x0 x5 (wrap64 (x6 + 1))) else (some false))))) else (none)) else (none)) else (if (x0.size : Int) ≥ 1 then (some (decide ((x0.size : Int) ≤ 31))) else (some false))
def arboretref01_Prop.f (k : Nat) (a0 : ByteArray) : Option (Bool) := arboretref01_Prop.l0 k a0 (a0.size : Int) 0
set_option maxHeartbeats 8000000 in
set_option maxRecDepth 100000 in
theorem arboretref01_Prop.calls (k : Nat) (a0 : ByteArray) (r : Bool) (w : World) (h : arboretref01_Prop.f k a0 = some r) :
  Calls Try.prog 65 #[.string a0] w fun e w' => e = .returned (.bool r) ∧ Drawn0 w w' := by
 have H : (arboretref01_Prop.l0 k a0 (a0.size : Int) 0) = some r := h; clear h; have H' := Ak H; clear H
 go_enter Try.func65, Try.ntmps65
 go_wp2
 go_loopg [6] k (fun kq v6 w' => ∃ (x6_1 : Int), v6 = .int .i64 x6_1 ∧ Aside0 (arboretref01_Prop.l0 kq a0 (a0.size : Int) x6_1 = some r) ∧ Aside0 (kq ≤ k) ∧ Drawn0 w w')
 case atStart => exact ⟨(0), Zq7, H', ⟨Nat.le_refl _⟩, Zq9⟩
 case round =>
  clear H'; obtain ⟨x6_1, rfl, HA, HK1, ⟨m1, rfl⟩⟩ := hrel
  cases gk with
  | zero => exact absurd HA.out (by simp [arboretref01_Prop.l0])
  | succ k1 =>
   have H := HA.out; clear HA; simp only [arboretref01_Prop.l0] at H
   by_cases c2 : x6_1 < (a0.size : Int)
   ·rw [if_pos c2] at H; have c2b0 : decide (x6_1 < (a0.size : Int)) = true := decide_eq_true c2; clear c2
    by_cases c3 : 0 ≤ x6_1
    ·rw [if_pos c3] at H; have c3b0 : decide (0 ≤ x6_1) = true := decide_eq_true c3; clear c3
     by_cases c4 : x6_1 < (a0.size : Int)
     ·rw [if_pos c4] at H; have c4b0 : decide (x6_1 < (a0.size : Int)) = true := decide_eq_true c4; clear c4; replace H := Option.bind_eq_some_iff.mp H; obtain ⟨ten, A60, H⟩ := H; replace H : (if ten = true then (arboretref01_Prop.l0 k1 a0 (a0.size : Int) (wrap64 (x6_1 + 1))) else (if (bt a0 x6_1) = 63 then (arboretref01_Prop.l0 k1 a0 (a0.size : Int) (wrap64 (x6_1 + 1))) else (if (bt a0 x6_1) = 35 then (arboretref01_Prop.l0 k1 a0 (a0.size : Int) (wrap64 (x6_1 + 1))) else (some false)))) = some r := H; have A6 := Ak A60; clear A60
      by_cases c7 : ten = true
      ·subst c7
       have H1 : (arboretref01_Prop.l0 k1 a0 (a0.size : Int) (wrap64 (x6_1 + 1))) = some r := by rw [if_pos rfl] at H; exact H
       clear H; have H := H1; clear H1; have H' := Ak H; clear H; have p5 : 0 ≤ (x6_1 : Int) := of_decide_eq_true Zq5; have q5 : x6_1 < (a0.size : Int) := of_decide_eq_true Zq5; have hx5 := bt_at a0 x6_1; replace p5 := eq_true p5; replace q5 := eq_true q5
       go_wp2_with (first | ((with_reducible refine gate_callee (f := 82) rfl ?_); refine goesL_ (some 12) rfl rfl Try.func82 Zq2 rfl #[.int .u8 (bt a0 x6_1)] rfl Zq8 ?_; (with_reducible refine (arboretref01_stands.calls (bt a0 x6_1) true _ A6.out).mono ?_); rintro e w' ⟨rfl, ⟨nd, rfl⟩⟩; refine ⟨_, rfl, ?_⟩))
       go_roundg k1
       case measure => have := HK1.out; omega
       case rel => exact ⟨(wrap64 (x6_1 + 1)), Zq7, H', ⟨Zq27⟩, Zq9⟩
      ·replace c7 := Bool.eq_false_iff.mpr c7; subst c7
       have H1 : (if (bt a0 x6_1) = 63 then (arboretref01_Prop.l0 k1 a0 (a0.size : Int) (wrap64 (x6_1 + 1))) else (if (bt a0 x6_1) = 35 then (arboretref01_Prop.l0 k1 a0 (a0.size : Int) (wrap64 (x6_1 + 1))) else (some false))) = some r := by rw [if_neg (show ¬ (false = true) by decide)] at H; exact H
       clear H; have H := H1; clear H1
       by_cases c9 : (bt a0 x6_1) = 63
       ·rw [if_pos c9] at H; have c9b0 : ((bt a0 x6_1) == 63) = true := beq_iff_eq.mpr c9; have c9b1 : ((bt a0 x6_1) != 63) = false := bne_eq_false_iff_eq.mpr c9; clear c9; have H' := Ak H; clear H; have p5 : 0 ≤ (x6_1 : Int) := of_decide_eq_true Zq5; have q5 : x6_1 < (a0.size : Int) := of_decide_eq_true Zq5; have hx5 := bt_at a0 x6_1; replace p5 := eq_true p5; replace q5 := eq_true q5
        go_wp2_with (first | ((with_reducible refine gate_callee (f := 82) rfl ?_); refine goesL_ (some 12) rfl rfl Try.func82 Zq2 rfl #[.int .u8 (bt a0 x6_1)] rfl Zq8 ?_; (with_reducible refine (arboretref01_stands.calls (bt a0 x6_1) false _ A6.out).mono ?_); rintro e w' ⟨rfl, ⟨nd, rfl⟩⟩; refine ⟨_, rfl, ?_⟩; have p8 : 0 ≤ (x6_1 : Int) := of_decide_eq_true Zq5; have q8 : x6_1 < (a0.size : Int) := of_decide_eq_true Zq5; have hx8 := bt_at a0 x6_1; replace p8 := eq_true p8; replace q8 := eq_true q8))
        go_roundg k1
        case measure => have := HK1.out; omega
        case rel => exact ⟨(wrap64 (x6_1 + 1)), Zq7, H', ⟨Zq27⟩, Zq9⟩
       ·rw [if_neg c9] at H; have c9b0 : ((bt a0 x6_1) == 63) = false := beq_eq_false_iff_ne.mpr c9; have c9b1 : ((bt a0 x6_1) != 63) = true := bne_iff_ne.mpr c9
        by_cases c11 : (bt a0 x6_1) = 35
        ·rw [if_pos c11] at H; have c11b0 : ((bt a0 x6_1) == 35) = true := beq_iff_eq.mpr c11; have c11b1 : ((bt a0 x6_1) != 35) = false := bne_eq_false_iff_eq.mpr c11; clear c11; have H' := Ak H; clear H; have p5 : 0 ≤ (x6_1 : Int) := of_decide_eq_true Zq5; have q5 : x6_1 < (a0.size : Int) := of_decide_eq_true Zq5; have hx5 := bt_at a0 x6_1; replace p5 := eq_true p5; replace q5 := eq_true q5
         go_wp2_with (first | ((with_reducible refine gate_callee (f := 82) rfl ?_); refine goesL_ (some 12) rfl rfl Try.func82 Zq2 rfl #[.int .u8 (bt a0 x6_1)] rfl Zq8 ?_; (with_reducible refine (arboretref01_stands.calls (bt a0 x6_1) false _ A6.out).mono ?_); rintro e w' ⟨rfl, ⟨nd, rfl⟩⟩; refine ⟨_, rfl, ?_⟩; have p8 : 0 ≤ (x6_1 : Int) := of_decide_eq_true Zq5; have q8 : x6_1 < (a0.size : Int) := of_decide_eq_true Zq5; have hx8 := bt_at a0 x6_1; replace p8 := eq_true p8; replace q8 := eq_true q8; have p10 : 0 ≤ (x6_1 : Int) := of_decide_eq_true Zq5; have q10 : x6_1 < (a0.size : Int) := of_decide_eq_true Zq5; have hx10 := bt_at a0 x6_1; replace p10 := eq_true p10; replace q10 := eq_true q10))
         go_roundg k1
         case measure => have := HK1.out; omega
         case rel => exact ⟨(wrap64 (x6_1 + 1)), Zq7, H', ⟨Zq27⟩, Zq9⟩
        ·rw [if_neg c11] at H; have c11b0 : ((bt a0 x6_1) == 35) = false := beq_eq_false_iff_ne.mpr c11; have c11b1 : ((bt a0 x6_1) != 35) = true := bne_iff_ne.mpr c11; obtain rfl := Option.some.inj H; have p5 : 0 ≤ (x6_1 : Int) := of_decide_eq_true Zq5; have q5 : x6_1 < (a0.size : Int) := of_decide_eq_true Zq5; have hx5 := bt_at a0 x6_1; replace p5 := eq_true p5; replace q5 := eq_true q5
         go_wp2_with (first | ((with_reducible refine gate_callee (f := 82) rfl ?_); refine goesL_ (some 12) rfl rfl Try.func82 Zq2 rfl #[.int .u8 (bt a0 x6_1)] rfl Zq8 ?_; (with_reducible refine (arboretref01_stands.calls (bt a0 x6_1) false _ A6.out).mono ?_); rintro e w' ⟨rfl, ⟨nd, rfl⟩⟩; refine ⟨_, rfl, ?_⟩; have p8 : 0 ≤ (x6_1 : Int) := of_decide_eq_true Zq5; have q8 : x6_1 < (a0.size : Int) := of_decide_eq_true Zq5; have hx8 := bt_at a0 x6_1; replace p8 := eq_true p8; replace q8 := eq_true q8; have p10 : 0 ≤ (x6_1 : Int) := of_decide_eq_true Zq5; have q10 : x6_1 < (a0.size : Int) := of_decide_eq_true Zq5; have hx10 := bt_at a0 x6_1; replace p10 := eq_true p10; replace q10 := eq_true q10))
         go_ret
         exact ⟨Zq7, Zq9⟩
     ·rw [if_neg c4] at H; exact absurd H Zq10
    ·rw [if_neg c3] at H; exact absurd H Zq10
   ·rw [if_neg c2] at H; have c2b0 : decide (x6_1 < (a0.size : Int)) = false := decide_eq_false c2; clear c2
    by_cases c12 : (a0.size : Int) ≥ 1
    ·rw [if_pos c12] at H; have c12b0 : decide (1 ≤ (a0.size : Int)) = true := decide_eq_true c12; have c12b1 : decide (1 ≤ a0.size) = true := decide_eq_true Zq1; clear c12; obtain rfl := Option.some.inj H
     go_wp2
     go_ret
     exact ⟨Zq7, Zq9⟩
    ·rw [if_neg c12] at H; have c12b0 : decide (1 ≤ (a0.size : Int)) = false := decide_eq_false c12; have c12b1 : decide (1 ≤ a0.size) = false := decide_eq_false Zq1; clear c12; obtain rfl := Option.some.inj H
     go_wp2
     go_ret
     exact ⟨Zq7, Zq9⟩
mutual
def arboretref01_wrong.j0 : Nat → Int → Bool → ByteArray → List (S63) → List (S27) → Option (Int)
 | 0, _, _, _, _, _ => none
 | k + 1, x1, x30, xcf, xbT, xbP => if x30 = true then (some 5) else (arboretref01_wrong.l0 k x1 (xbT.length : Int) 0 xcf xbT xbP)
def arboretref01_wrong.l0 : Nat → Int → Int → Int → ByteArray → List (S63) → List (S27) → Option (Int)
 | 0, _, _, _, _, _, _ => none
 | k + 1, x1, x33, x34, xcf, xbT, xbP => if x34 < x33 then (if 0 ≤ x34 then (if x34 < (xbT.length : Int) then ((arboretref01_Prop.f k ((rd_T63 xbT x34).f0)).bind fun teo => (if teo = true then (arboretref01_wrong.l0 k x1 x33 (wrap64 (x34 + 1)) xcf xbT xbP) else (some 5))) else (none)) else (none)) else (arboretref01_wrong.l1 k x1 (xbT.length : Int) 0 xcf xbT xbP)
def arboretref01_wrong.l1 : Nat → Int → Int → Int → ByteArray → List (S63) → List (S27) → Option (Int)
 | 0, _, _, _, _, _, _ => none
 | k + 1, x1, x48, x49, xcf, xbT, xbP => if x49 < x48 then (arboretref01_wrong.l2 k x1 x49 x48 x49 x49 0 xcf xbT xbP) else (arboretref01_wrong.l3 k x1 (xbP.length : Int) 0 xcf xbT xbP)
def arboretref01_wrong.l2 : Nat → Int → Int → Int → Int → Int → Int → ByteArray → List (S63) → List (S27) → Option (Int)
 | 0, _, _, _, _, _, _, _, _, _ => none
 | k + 1, x1, x6, x48, x49, x52, x53, xcf, xbT, xbP => if x53 < x52 then (if 0 ≤ x53 then (if x53 < (xbT.length : Int) then (if 0 ≤ x6 then (if x6 < (xbT.length : Int) then (if ((rd_T63 xbT x53).f0).toList = ((rd_T63 xbT x6).f0).toList then (some 9) else (arboretref01_wrong.l2 k x1 x6 x48 x49 x52 (wrap64 (x53 + 1)) xcf xbT xbP)) else (none)) else (none)) else (none)) else (none)) else (arboretref01_wrong.l1 k x1 x48 (wrap64 (x49 + 1)) xcf xbT xbP)
def arboretref01_wrong.l3 : Nat → Int → Int → Int → ByteArray → List (S63) → List (S27) → Option (Int)
 | 0, _, _, _, _, _, _ => none
 | k + 1, x1, x73, x74, xcf, xbT, xbP => if x74 < x73 then (arboretref01_wrong.l4 k x1 x74 x73 x74 x74 0 xcf xbT xbP) else (arboretref01_wrong.l5 k x1 (xbP.length : Int) 0 xcf xbT xbP)
def arboretref01_wrong.l4 : Nat → Int → Int → Int → Int → Int → Int → ByteArray → List (S63) → List (S27) → Option (Int)
 | 0, _, _, _, _, _, _, _, _, _ => none
 | k + 1, x1, x8, x73, x74, x77, x78, xcf, xbT, xbP => if x78 < x77 then (if 0 ≤ x78 then (if x78 < (xbP.length : Int) then (if 0 ≤ x8 then (if x8 < (xbP.length : Int) then (if ((rd_T27 xbP x78).f0).toList = ((rd_T27 xbP x8).f0).toList then (some 9) else (arboretref01_wrong.l4 k x1 x8 x73 x74 x77 (wrap64 (x78 + 1)) xcf xbT xbP)) else (none)) else (none)) else (none)) else (none)) else (arboretref01_wrong.l3 k x1 x73 (wrap64 (x74 + 1)) xcf xbT xbP)
def arboretref01_wrong.l5 : Nat → Int → Int → Int → ByteArray → List (S63) → List (S27) → Option (Int)
 | 0, _, _, _, _, _, _ => none
 | k + 1, x1, x98, x99, xcf, xbT, xbP => if x99 < x98 then (if 0 ≤ x99 then (if x99 < (xbP.length : Int) then ((arboretref01_wrong.f k ((rd_T27 xbP x99).f0) ((rd_T27 xbP x99).f1) ((rd_T27 xbP x99).f2) (wrap64 (x1 + 1))).bind fun tcp => (if tcp = 0 then (arboretref01_wrong.l5 k x1 x98 (wrap64 (x99 + 1)) xcf xbT xbP) else (some tcp))) else (none)) else (none)) else (some 0)
def arboretref01_wrong.f : Nat → ByteArray → List (S63) → List (S27) → Int → Option (Int)
 | 0, _, _, _, _ => none
 | k + 1, a0_0, l0_1, l0_2, a1 => if a1 > 16 then (some 6) else (if a1 = 1 then (if a0_0.toList = ([] : List UInt8) then (if a1 > 1 then ((arboretref01_Node.f k a0_0).bind fun tdk => (arboretref01_wrong.j0 k a1 (!tdk) a0_0 l0_1 l0_2)) else (arboretref01_wrong.j0 k a1 false a0_0 l0_1 l0_2)) else (arboretref01_wrong.j0 k a1 true a0_0 l0_1 l0_2)) else (if a1 > 1 then ((arboretref01_Node.f k a0_0).bind fun tdl => (arboretref01_wrong.j0 k a1 (!tdl) a0_0 l0_1 l0_2)) else (arboretref01_wrong.j0 k a1 false a0_0 l0_1 l0_2)))
end
end Go.Proofs.Ytkopmkinlanhoaa.PB

namespace Go.Proofs.Ytkopmkinlanhoaa.PB
open Go.RowKit Go.Proofs.YtkopmkinlanhoaaW.PrintWords Go.Proofs.YtkopmkinlanhoaaW.PrintLast Go.Proofs.YtkopmkinlanhoaaW.PrintMore
attribute [local go_sem] max2_int min2_int max_two min_two max_three min_three max_four min_four
set_option maxHeartbeats 8000000 in
set_option maxRecDepth 100000 in
theorem arboretref01_wrong.calls (k : Nat) : ∀ (a0_0 : ByteArray) (A0_1 : Option Addr) (c0_1 : Nat) (l0_1 : List (S63)) (A0_2 : Option Addr) (c0_2 : Nat) (l0_2 : List (S27)) (a1 : Int) (r : Int) (w : World) (hr0_1 : Kd.C k63 w A0_1 l0_1.length l0_1) (hc0_1 : l0_1.length ≤ c0_1) (hr0_2 : Kd.C k27 w A0_2 l0_2.length l0_2) (hc0_2 : l0_2.length ≤ c0_2) (h : arboretref01_wrong.f k a0_0 l0_1 l0_2 a1 = some r),
  Calls Try.prog 37 #[.agg #[.string a0_0, .slice A0_1 l0_1.length c0_1, .slice A0_2 l0_2.length c0_2], .int .i64 a1] w fun e w' => e = .returned (.int .i64 r) ∧ Below w.heap.size w w' := by
 induction k using Nat.strongRecOn with
 | _ k ih =>
 intro a0_0 A0_1 c0_1 l0_1 A0_2 c0_2 l0_2 a1 r w hr0_1 hc0_1 hr0_2 hc0_2 h
 cases k with
 | zero => exact absurd h (by simp [arboretref01_wrong.f])
 | succ k =>
 simp only [arboretref01_wrong.f] at h; have hu27 := Try.underlying27; have HR0_1 := Ak hr0_1; have HC0_1 := Ak hc0_1; clear hr0_1 hc0_1; have HR0_2 := Ak hr0_2; have HC0_2 := Ak hc0_2; clear hr0_2 hc0_2; have HB := Zq151; have H : (if a1 > 16 then (some 6) else (if a1 = 1 then (if a0_0.toList = ([] : List UInt8) then (if a1 > 1 then ((arboretref01_Node.f k a0_0).bind fun tdk => (arboretref01_wrong.j0 k a1 (!tdk) a0_0 l0_1 l0_2)) else (arboretref01_wrong.j0 k a1 false a0_0 l0_1 l0_2)) else (arboretref01_wrong.j0 k a1 true a0_0 l0_1 l0_2)) else (if a1 > 1 then ((arboretref01_Node.f k a0_0).bind fun tdl => (arboretref01_wrong.j0 k a1 (!tdl) a0_0 l0_1 l0_2)) else (arboretref01_wrong.j0 k a1 false a0_0 l0_1 l0_2)))) = some r := h; clear h
 by_cases c3 : a1 > 16
 ·rw [if_pos c3] at H; have c3b0 : decide (16 < a1) = true := decide_eq_true c3; clear c3; obtain rfl := Option.some.inj H
  go_enter Try.func37, Try.ntmps37
  go_wp2_with (first | ((with_reducible refine gate_dst (N := 2) rfl ?_); refine box_event ?hg (N := 2) ?hd (cs := #[.string a0_0, .slice A0_1 l0_1.length c0_1, .slice A0_2 l0_2.length c0_2]) (t := 27) ?hr ?_; (case hd | hg => rfl); (case hr => first | (go_simp; done) | (go_simp; rfl)); intro gbah hg w4 hbox hb; have n0_ := Zq142; have n1_ := Ak (hbox); have n2_ := Zq157; have n3_ := Zq157; clear HB; have HB := n0_; have BKah := n1_; have GWah := n2_; have GEah := n3_; clear n0_ n1_ n2_ n3_ hb hbox hg))
  repeat (go_quiet (first | ((with_reducible refine gate_dst (N := 2) rfl ?_); refine box_event ?hg (N := 2) ?hd (cs := #[.string a0_0, .slice A0_1 l0_1.length c0_1, .slice A0_2 l0_2.length c0_2]) (t := 27) ?hr ?_; (case hd | hg => rfl); (case hr => first | (go_simp; done) | (go_simp; rfl)); intro gbah hg w4 hbox hb; have n0_ := Zq142; have n1_ := Ak (hbox); have n2_ := Zq157; have n3_ := Zq157; clear HB; have HB := n0_; have BKah := n1_; have GWah := n2_; have GEah := n3_; clear n0_ n1_ n2_ n3_ hb hbox hg)); try go_wp2_with (first | ((with_reducible refine gate_dst (N := 2) rfl ?_); refine box_event ?hg (N := 2) ?hd (cs := #[.string a0_0, .slice A0_1 l0_1.length c0_1, .slice A0_2 l0_2.length c0_2]) (t := 27) ?hr ?_; (case hd | hg => rfl); (case hr => first | (go_simp; done) | (go_simp; rfl)); intro gbah hg w4 hbox hb; have n0_ := Zq142; have n1_ := Ak (hbox); have n2_ := Zq157; have n3_ := Zq157; clear HB; have HB := n0_; have BKah := n1_; have GWah := n2_; have GEah := n3_; clear n0_ n1_ n2_ n3_ hb hbox hg)))
  go_ret
  exact ⟨Zq13, Zq23⟩
 ·rw [if_neg c3] at H; have c3b0 : decide (16 < a1) = false := decide_eq_false c3; clear c3; have HC5 := Ak H; clear H
  go_enter Try.func37, Try.ntmps37
  go_upto_region 3 with (first | ((with_reducible refine gate_dst (N := 2) rfl ?_); refine box_event ?hg (N := 2) ?hd (cs := #[.string a0_0, .slice A0_1 l0_1.length c0_1, .slice A0_2 l0_2.length c0_2]) (t := 27) ?hr ?_; (case hd | hg => rfl); (case hr => first | (go_simp; done) | (go_simp; rfl)); intro gbah hg w6 hbox hb; have n0_ := Zq142; have n1_ := Ak (hbox); have n2_ := Zq157; have n3_ := Zq157; clear HB; have HB := n0_; have BKah := n1_; have GWah := n2_; have GEah := n3_; clear n0_ n1_ n2_ n3_ hb hbox hg))
  repeat (go_quiet (first | ((with_reducible refine gate_dst (N := 2) rfl ?_); refine box_event ?hg (N := 2) ?hd (cs := #[.string a0_0, .slice A0_1 l0_1.length c0_1, .slice A0_2 l0_2.length c0_2]) (t := 27) ?hr ?_; (case hd | hg => rfl); (case hr => first | (go_simp; done) | (go_simp; rfl)); intro gbah hg w6 hbox hb; have n0_ := Zq142; have n1_ := Ak (hbox); have n2_ := Zq157; have n3_ := Zq157; clear HB; have HB := n0_; have BKah := n1_; have GWah := n2_; have GEah := n3_; clear n0_ n1_ n2_ n3_ hb hbox hg)); go_upto_region 3 with (first | ((with_reducible refine gate_dst (N := 2) rfl ?_); refine box_event ?hg (N := 2) ?hd (cs := #[.string a0_0, .slice A0_1 l0_1.length c0_1, .slice A0_2 l0_2.length c0_2]) (t := 27) ?hr ?_; (case hd | hg => rfl); (case hr => first | (go_simp; done) | (go_simp; rfl)); intro gbah hg w6 hbox hb; have n0_ := Zq142; have n1_ := Ak (hbox); have n2_ := Zq157; have n3_ := Zq157; clear HB; have HB := n0_; have BKah := n1_; have GWah := n2_; have GEah := n3_; clear n0_ n1_ n2_ n3_ hb hbox hg)))
  (try simp only [Act.put, List.setIfInBounds_toArray, List.set_cons_zero, List.set_cons_succ])
  go_cut [30] (fun v30 wc => ∃ (kq : Nat) (x30_4 : Bool), v30 = .bool x30_4 ∧ Aside0 (arboretref01_wrong.j0 kq a1 x30_4 a0_0 l0_1 l0_2 = some r) ∧ Aside0 (kq ≤ k) ∧ Aside0 (wc.heap[gbah]? = some (.cells #[.string a0_0, (.slice A0_1 l0_1.length c0_1), (.slice A0_2 l0_2.length c0_2)] 27 (0, 0))) ∧ Aside0 (Below w.heap.size w wc))
  case first =>
   have H := HC5.out; clear HC5
   by_cases c7 : a1 = 1
   ·rw [if_pos c7] at H; have c7b0 : (a1 == 1) = true := beq_iff_eq.mpr c7; have c7b1 : (a1 != 1) = false := bne_eq_false_iff_eq.mpr c7; clear c7
    (first | rw [c7b0] | (simp only [i64_w, i32_w]; rw [c7b0]) | skip)
    by_cases c8 : a0_0.toList = ([] : List UInt8)
    ·rw [if_pos c8] at H; have c8b0 : (a0_0.toList == ([] : List UInt8)) = true := beq_iff_eq.mpr c8; have c8b1 : (a0_0.toList != ([] : List UInt8)) = false := bne_eq_false_iff_eq.mpr c8; clear c8
     by_cases c9 : a1 > 1
     ·rw [if_pos c9] at H; have c9b0 : decide (1 < a1) = true := decide_eq_true c9; clear c9; replace H := Option.bind_eq_some_iff.mp H; obtain ⟨tdk, Adm, H⟩ := H; replace H : (arboretref01_wrong.j0 k a1 (!tdk) a0_0 l0_1 l0_2) = some r := H; have A10 := Ak Adm; clear Adm; have H' := Ak H; clear H; have hcz11_0 : w6.cell? ⟨gbah, 0, none⟩ = some (.string a0_0) := (blk_cell BKah.out 0).trans rfl; have hcz11_1 : w6.cell? ⟨gbah, 1, none⟩ = some (.slice A0_1 l0_1.length c0_1) := (blk_cell BKah.out 1).trans rfl; have hcz11_2 : w6.cell? ⟨gbah, 2, none⟩ = some (.slice A0_2 l0_2.length c0_2) := (blk_cell BKah.out 2).trans rfl; have hfz11_0 := blk_frozen BKah.out 0; have hfz11_1 := blk_frozen BKah.out 1; have hfz11_2 := blk_frozen BKah.out 2
      go_wp2_with (first | (go_at_call 64; (with_reducible refine (arboretref01_Node.calls k a0_0 tdk _ A10.out).mono ?_); rintro e w' ⟨rfl, ⟨nd, rfl⟩⟩; (try first | exact ⟨rfl, _, World.drewN_drewN _ _ _⟩ | exact ⟨rfl, _, Eq.trans (World.drewN_drewN _ _ _) (congrArg (World.drewN _) (Nat.add_assoc _ _ _))⟩)))
      repeat (go_quiet (first | (go_at_call 64; (with_reducible refine (arboretref01_Node.calls k a0_0 tdk _ A10.out).mono ?_); rintro e w' ⟨rfl, ⟨nd, rfl⟩⟩; (try first | exact ⟨rfl, _, World.drewN_drewN _ _ _⟩ | exact ⟨rfl, _, Eq.trans (World.drewN_drewN _ _ _) (congrArg (World.drewN _) (Nat.add_assoc _ _ _))⟩))); try go_wp2_with (first | (go_at_call 64; (with_reducible refine (arboretref01_Node.calls k a0_0 tdk _ A10.out).mono ?_); rintro e w' ⟨rfl, ⟨nd, rfl⟩⟩; (try first | exact ⟨rfl, _, World.drewN_drewN _ _ _⟩ | exact ⟨rfl, _, Eq.trans (World.drewN_drewN _ _ _) (congrArg (World.drewN _) (Nat.add_assoc _ _ _))⟩))))
      go_meet
      case rel => exact ⟨_, (!tdk), Zq7, H', ⟨Zq43⟩, ⟨Zq31⟩, ⟨Zq23⟩⟩
     ·rw [if_neg c9] at H; have c9b0 : decide (1 < a1) = false := decide_eq_false c9; clear c9; have H' := Ak H; clear H; have hcz12_0 : w6.cell? ⟨gbah, 0, none⟩ = some (.string a0_0) := (blk_cell BKah.out 0).trans rfl; have hcz12_1 : w6.cell? ⟨gbah, 1, none⟩ = some (.slice A0_1 l0_1.length c0_1) := (blk_cell BKah.out 1).trans rfl; have hcz12_2 : w6.cell? ⟨gbah, 2, none⟩ = some (.slice A0_2 l0_2.length c0_2) := (blk_cell BKah.out 2).trans rfl; have hfz12_0 := blk_frozen BKah.out 0; have hfz12_1 := blk_frozen BKah.out 1; have hfz12_2 := blk_frozen BKah.out 2
      go_wp2
      repeat (go_quiet (fail); try go_wp2)
      go_meet
      case rel => exact ⟨_, (false), Zq7, H', ⟨Zq43⟩, ⟨Zq31⟩, ⟨Zq23⟩⟩
    ·rw [if_neg c8] at H; have c8b0 : (a0_0.toList == ([] : List UInt8)) = false := beq_eq_false_iff_ne.mpr c8; have c8b1 : (a0_0.toList != ([] : List UInt8)) = true := bne_iff_ne.mpr c8; have H' := Ak H; clear H; have hcz13_0 : w6.cell? ⟨gbah, 0, none⟩ = some (.string a0_0) := (blk_cell BKah.out 0).trans rfl; have hcz13_1 : w6.cell? ⟨gbah, 1, none⟩ = some (.slice A0_1 l0_1.length c0_1) := (blk_cell BKah.out 1).trans rfl; have hcz13_2 : w6.cell? ⟨gbah, 2, none⟩ = some (.slice A0_2 l0_2.length c0_2) := (blk_cell BKah.out 2).trans rfl; have hfz13_0 := blk_frozen BKah.out 0; have hfz13_1 := blk_frozen BKah.out 1; have hfz13_2 := blk_frozen BKah.out 2
     go_wp2
     repeat (go_quiet (fail); try go_wp2)
     go_meet
     case rel => exact ⟨_, (true), Zq7, H', ⟨Zq43⟩, ⟨Zq31⟩, ⟨Zq23⟩⟩
   ·rw [if_neg c7] at H; have c7b0 : (a1 == 1) = false := beq_eq_false_iff_ne.mpr c7; have c7b1 : (a1 != 1) = true := bne_iff_ne.mpr c7
    (first | rw [c7b0] | (simp only [i64_w, i32_w]; rw [c7b0]) | skip)
    by_cases c14 : a1 > 1
    ·rw [if_pos c14] at H; have c14b0 : decide (1 < a1) = true := decide_eq_true c14; clear c14; replace H := Option.bind_eq_some_iff.mp H; obtain ⟨tdl, AbF, H⟩ := H; replace H : (arboretref01_wrong.j0 k a1 (!tdl) a0_0 l0_1 l0_2) = some r := H; have A15 := Ak AbF; clear AbF; have H' := Ak H; clear H; have hcz16_0 : w6.cell? ⟨gbah, 0, none⟩ = some (.string a0_0) := (blk_cell BKah.out 0).trans rfl; have hcz16_1 : w6.cell? ⟨gbah, 1, none⟩ = some (.slice A0_1 l0_1.length c0_1) := (blk_cell BKah.out 1).trans rfl; have hcz16_2 : w6.cell? ⟨gbah, 2, none⟩ = some (.slice A0_2 l0_2.length c0_2) := (blk_cell BKah.out 2).trans rfl; have hfz16_0 := blk_frozen BKah.out 0; have hfz16_1 := blk_frozen BKah.out 1; have hfz16_2 := blk_frozen BKah.out 2
     go_wp2_with (first | (go_at_call 64; (with_reducible refine (arboretref01_Node.calls k a0_0 tdl _ A15.out).mono ?_); rintro e w' ⟨rfl, ⟨nd, rfl⟩⟩; (try first | exact ⟨rfl, _, World.drewN_drewN _ _ _⟩ | exact ⟨rfl, _, Eq.trans (World.drewN_drewN _ _ _) (congrArg (World.drewN _) (Nat.add_assoc _ _ _))⟩)))
     repeat (go_quiet (first | (go_at_call 64; (with_reducible refine (arboretref01_Node.calls k a0_0 tdl _ A15.out).mono ?_); rintro e w' ⟨rfl, ⟨nd, rfl⟩⟩; (try first | exact ⟨rfl, _, World.drewN_drewN _ _ _⟩ | exact ⟨rfl, _, Eq.trans (World.drewN_drewN _ _ _) (congrArg (World.drewN _) (Nat.add_assoc _ _ _))⟩))); try go_wp2_with (first | (go_at_call 64; (with_reducible refine (arboretref01_Node.calls k a0_0 tdl _ A15.out).mono ?_); rintro e w' ⟨rfl, ⟨nd, rfl⟩⟩; (try first | exact ⟨rfl, _, World.drewN_drewN _ _ _⟩ | exact ⟨rfl, _, Eq.trans (World.drewN_drewN _ _ _) (congrArg (World.drewN _) (Nat.add_assoc _ _ _))⟩))))
     go_meet
     case rel => exact ⟨_, (!tdl), Zq7, H', ⟨Zq43⟩, ⟨Zq31⟩, ⟨Zq23⟩⟩
    ·rw [if_neg c14] at H; have c14b0 : decide (1 < a1) = false := decide_eq_false c14; clear c14; have H' := Ak H; clear H
     go_wp2
     repeat (go_quiet (fail); try go_wp2)
     go_meet
     case rel => exact ⟨_, (false), Zq7, H', ⟨Zq43⟩, ⟨Zq31⟩, ⟨Zq23⟩⟩
  case rest =>
   clear HC5
   try clear c1
   try clear p2
   try clear c3
   try clear c3b0
   try clear c7
   try clear c7b0
   try clear c7b1
   try clear c8
   try clear c8b0
   try clear c8b1
   try clear c9
   try clear c9b0
   try clear c14
   try clear c14b0
   try clear hcz11_0
   try clear hcz11_1
   try clear hcz11_2
   try clear hcz12_0
   try clear hcz12_1
   try clear hcz12_2
   try clear hcz13_0
   try clear hcz13_1
   try clear hcz13_2
   try clear hcz16_0
   try clear hcz16_1
   try clear hcz16_2
   try clear hfz11_0
   try clear hfz11_1
   try clear hfz11_2
   try clear hfz12_0
   try clear hfz12_1
   try clear hfz12_2
   try clear hfz13_0
   try clear hfz13_1
   try clear hfz13_2
   try clear hfz16_0
   try clear hfz16_1
   try clear hfz16_2
   obtain ⟨kq, x30_4, rfl, HA, HJ4, BKah, HB⟩ := hcut
   cases kq with
   | zero => exact absurd HA.out (by simp [arboretref01_wrong.j0])
   | succ kj4 =>
    have H := HA.out; clear HA; simp only [arboretref01_wrong.j0] at H
    by_cases c17 : x30_4 = true
    ·subst c17
     have H1 : (some 5) = some r := by rw [if_pos rfl] at H; exact H
     clear H; have H := H1; clear H1; obtain rfl := Option.some.inj H
     go_wp2
     repeat (go_quiet (fail); try go_wp2)
     go_ret
     exact ⟨Zq13, Zq23⟩
    ·replace c17 := Bool.eq_false_iff.mpr c17; subst c17
     have H1 : (arboretref01_wrong.l0 kj4 a1 (l0_1.length : Int) 0 a0_0 l0_1 l0_2) = some r := by rw [if_neg (show ¬ (false = true) by decide)] at H; exact H
     clear H; have H := H1; clear H1; have H' := Ak H; clear H; have hcz18_0 : wc.cell? ⟨gbah, 0, none⟩ = some (.string a0_0) := (blk_cell BKah.out 0).trans rfl; have hcz18_1 : wc.cell? ⟨gbah, 1, none⟩ = some (.slice A0_1 l0_1.length c0_1) := (blk_cell BKah.out 1).trans rfl; have hcz18_2 : wc.cell? ⟨gbah, 2, none⟩ = some (.slice A0_2 l0_2.length c0_2) := (blk_cell BKah.out 2).trans rfl; have hfz18_0 := blk_frozen BKah.out 0; have hfz18_1 := blk_frozen BKah.out 1; have hfz18_2 := blk_frozen BKah.out 2
     go_wp2
     repeat (go_quiet (fail); try go_wp2)
     go_loopg [34] kj4 (fun kq v34 w' => ∃ (x34_2 : Int), v34 = .int .i64 x34_2 ∧ Aside0 (arboretref01_wrong.l0 kq a1 (l0_1.length : Int) x34_2 a0_0 l0_1 l0_2 = some r) ∧ Aside0 (kq ≤ kj4) ∧ Aside0 (w'.heap[gbah]? = some (.cells #[.string a0_0, (.slice A0_1 l0_1.length c0_1), (.slice A0_2 l0_2.length c0_2)] 27 (0, 0))) ∧ Aside0 (Below w.heap.size w w'))
     case atStart => exact ⟨(0), Zq7, H', ⟨Nat.le_refl _⟩, ⟨Zq31⟩, ⟨Zq23⟩⟩
     case round =>
      clear H'
      try clear c1
      try clear p2
      try clear c3
      try clear c3b0
      try clear c7
      try clear c7b0
      try clear c7b1
      try clear c8
      try clear c8b0
      try clear c8b1
      try clear c9
      try clear c9b0
      try clear c14
      try clear c14b0
      try clear c17
      try clear hcz11_0
      try clear hcz11_1
      try clear hcz11_2
      try clear hcz12_0
      try clear hcz12_1
      try clear hcz12_2
      try clear hcz13_0
      try clear hcz13_1
      try clear hcz13_2
      try clear hcz16_0
      try clear hcz16_1
      try clear hcz16_2
      try clear hcz18_0
      try clear hcz18_1
      try clear hcz18_2
      try clear hfz11_0
      try clear hfz11_1
      try clear hfz11_2
      try clear hfz12_0
      try clear hfz12_1
      try clear hfz12_2
      try clear hfz13_0
      try clear hfz13_1
      try clear hfz13_2
      try clear hfz16_0
      try clear hfz16_1
      try clear hfz16_2
      try clear hfz18_0
      try clear hfz18_1
      try clear hfz18_2
      try clear p2
      obtain ⟨x34_2, rfl, HA, HK2, BKah, HB⟩ := hrel
      cases gk with
      | zero => exact absurd HA.out (by simp [arboretref01_wrong.l0])
      | succ k2 =>
       have H := HA.out; clear HA; simp only [arboretref01_wrong.l0] at H
       by_cases c19 : x34_2 < (l0_1.length : Int)
       ·rw [if_pos c19] at H; have c19b0 : decide (x34_2 < (l0_1.length : Int)) = true := decide_eq_true c19; clear c19
        by_cases c20 : 0 ≤ x34_2
        ·rw [if_pos c20] at H; have c20b0 : decide (0 ≤ x34_2) = true := decide_eq_true c20; clear c20
         by_cases c21 : x34_2 < (l0_1.length : Int)
         ·rw [if_pos c21] at H; have c21b0 : decide (x34_2 < (l0_1.length : Int)) = true := decide_eq_true c21; clear c21; replace H := Option.bind_eq_some_iff.mp H; obtain ⟨teo, Acg, H⟩ := H; replace H : (if teo = true then (arboretref01_wrong.l0 k2 a1 (l0_1.length : Int) (wrap64 (x34_2 + 1)) a0_0 l0_1 l0_2) else (some 5)) = some r := H; have A22 := Ak Acg; clear Acg
          by_cases c23 : teo = true
          ·subst c23
           have H1 : (arboretref01_wrong.l0 k2 a1 (l0_1.length : Int) (wrap64 (x34_2 + 1)) a0_0 l0_1 l0_2) = some r := by rw [if_pos rfl] at H; exact H
           clear H; have H := H1; clear H1; have H' := Ak H; clear H; have hcz24_0 : wr.cell? ⟨gbah, 0, none⟩ = some (.string a0_0) := (blk_cell BKah.out 0).trans rfl; have hcz24_1 : wr.cell? ⟨gbah, 1, none⟩ = some (.slice A0_1 l0_1.length c0_1) := (blk_cell BKah.out 1).trans rfl; have hcz24_2 : wr.cell? ⟨gbah, 2, none⟩ = some (.slice A0_2 l0_2.length c0_2) := (blk_cell BKah.out 2).trans rfl; have hfz24_0 := blk_frozen BKah.out 0; have hfz24_1 := blk_frozen BKah.out 1; have hfz24_2 := blk_frozen BKah.out 2; have p207 : 0 ≤ (x34_2 : Int) := of_decide_eq_true Zq5; have q207 : x34_2 < (l0_1.length : Int) := of_decide_eq_true Zq5; obtain ⟨addn, Adn_1, cdn_1, e207, hx207_0, hx207_1, hl207_1, hi207_1⟩ := at_T63 HR0_1.out x34_2 p207 q207
           cases e207
           replace hx207_0 := (HB.out.cell (World.block_lt_of_cell? w _ hx207_0)).trans hx207_0; replace hx207_1 := (HB.out.cell (World.block_lt_of_cell? w _ hx207_1)).trans hx207_1; have HRdn_1 := Ak hi207_1; have HCdn_1 := Ak hl207_1; clear hi207_1 hl207_1; replace p207 := eq_true p207; replace q207 := eq_true q207
           go_wp2_with (first | (go_at_call 65; (with_reducible refine (arboretref01_Prop.calls k2 ((rd_T63 l0_1 x34_2).f0) true _ A22.out).mono ?_); rintro e w' ⟨rfl, ⟨nd, rfl⟩⟩; (try first | exact ⟨rfl, _, World.drewN_drewN _ _ _⟩ | exact ⟨rfl, _, Eq.trans (World.drewN_drewN _ _ _) (congrArg (World.drewN _) (Nat.add_assoc _ _ _))⟩)))
           repeat (go_quiet (first | (go_at_call 65; (with_reducible refine (arboretref01_Prop.calls k2 ((rd_T63 l0_1 x34_2).f0) true _ A22.out).mono ?_); rintro e w' ⟨rfl, ⟨nd, rfl⟩⟩; (try first | exact ⟨rfl, _, World.drewN_drewN _ _ _⟩ | exact ⟨rfl, _, Eq.trans (World.drewN_drewN _ _ _) (congrArg (World.drewN _) (Nat.add_assoc _ _ _))⟩))); try go_wp2_with (first | (go_at_call 65; (with_reducible refine (arboretref01_Prop.calls k2 ((rd_T63 l0_1 x34_2).f0) true _ A22.out).mono ?_); rintro e w' ⟨rfl, ⟨nd, rfl⟩⟩; (try first | exact ⟨rfl, _, World.drewN_drewN _ _ _⟩ | exact ⟨rfl, _, Eq.trans (World.drewN_drewN _ _ _) (congrArg (World.drewN _) (Nat.add_assoc _ _ _))⟩))))
           go_roundg k2
           case measure => have := HJ4.out; have := HK2.out; omega
           case rel => exact ⟨(wrap64 (x34_2 + 1)), Zq7, H', ⟨by have := HJ4.out; have := HK2.out; omega⟩, ⟨Zq31⟩, ⟨Zq23⟩⟩
          ·replace c23 := Bool.eq_false_iff.mpr c23; subst c23
           have H1 : (some 5) = some r := by rw [if_neg (show ¬ (false = true) by decide)] at H; exact H
           clear H; have H := H1; clear H1; obtain rfl := Option.some.inj H; have hcz25_0 : wr.cell? ⟨gbah, 0, none⟩ = some (.string a0_0) := (blk_cell BKah.out 0).trans rfl; have hcz25_1 : wr.cell? ⟨gbah, 1, none⟩ = some (.slice A0_1 l0_1.length c0_1) := (blk_cell BKah.out 1).trans rfl; have hcz25_2 : wr.cell? ⟨gbah, 2, none⟩ = some (.slice A0_2 l0_2.length c0_2) := (blk_cell BKah.out 2).trans rfl; have hfz25_0 := blk_frozen BKah.out 0; have hfz25_1 := blk_frozen BKah.out 1; have hfz25_2 := blk_frozen BKah.out 2; have p207 : 0 ≤ (x34_2 : Int) := of_decide_eq_true Zq5; have q207 : x34_2 < (l0_1.length : Int) := of_decide_eq_true Zq5; obtain ⟨addn, Adn_1, cdn_1, e207, hx207_0, hx207_1, hl207_1, hi207_1⟩ := at_T63 HR0_1.out x34_2 p207 q207
           cases e207
           replace hx207_0 := (HB.out.cell (World.block_lt_of_cell? w _ hx207_0)).trans hx207_0; replace hx207_1 := (HB.out.cell (World.block_lt_of_cell? w _ hx207_1)).trans hx207_1; have HRdn_1 := Ak hi207_1; have HCdn_1 := Ak hl207_1; clear hi207_1 hl207_1; replace p207 := eq_true p207; replace q207 := eq_true q207
           go_wp2_with (first | (go_at_call 65; (with_reducible refine (arboretref01_Prop.calls k2 ((rd_T63 l0_1 x34_2).f0) false _ A22.out).mono ?_); rintro e w' ⟨rfl, ⟨nd, rfl⟩⟩; (try first | exact ⟨rfl, _, World.drewN_drewN _ _ _⟩ | exact ⟨rfl, _, Eq.trans (World.drewN_drewN _ _ _) (congrArg (World.drewN _) (Nat.add_assoc _ _ _))⟩)))
           repeat (go_quiet (first | (go_at_call 65; (with_reducible refine (arboretref01_Prop.calls k2 ((rd_T63 l0_1 x34_2).f0) false _ A22.out).mono ?_); rintro e w' ⟨rfl, ⟨nd, rfl⟩⟩; (try first | exact ⟨rfl, _, World.drewN_drewN _ _ _⟩ | exact ⟨rfl, _, Eq.trans (World.drewN_drewN _ _ _) (congrArg (World.drewN _) (Nat.add_assoc _ _ _))⟩))); try go_wp2_with (first | (go_at_call 65; (with_reducible refine (arboretref01_Prop.calls k2 ((rd_T63 l0_1 x34_2).f0) false _ A22.out).mono ?_); rintro e w' ⟨rfl, ⟨nd, rfl⟩⟩; (try first | exact ⟨rfl, _, World.drewN_drewN _ _ _⟩ | exact ⟨rfl, _, Eq.trans (World.drewN_drewN _ _ _) (congrArg (World.drewN _) (Nat.add_assoc _ _ _))⟩))))
           go_ret
           exact ⟨Zq13, Zq23⟩
         ·rw [if_neg c21] at H; exact absurd H Zq10
        ·rw [if_neg c20] at H; exact absurd H Zq10
       ·rw [if_neg c19] at H; have c19b0 : decide (x34_2 < (l0_1.length : Int)) = false := decide_eq_false c19; clear c19; have H' := Ak H; clear H; have hcz26_0 : wr.cell? ⟨gbah, 0, none⟩ = some (.string a0_0) := (blk_cell BKah.out 0).trans rfl; have hcz26_1 : wr.cell? ⟨gbah, 1, none⟩ = some (.slice A0_1 l0_1.length c0_1) := (blk_cell BKah.out 1).trans rfl; have hcz26_2 : wr.cell? ⟨gbah, 2, none⟩ = some (.slice A0_2 l0_2.length c0_2) := (blk_cell BKah.out 2).trans rfl; have hfz26_0 := blk_frozen BKah.out 0; have hfz26_1 := blk_frozen BKah.out 1; have hfz26_2 := blk_frozen BKah.out 2
        go_wp2
        repeat (go_quiet (fail); try go_wp2)
        go_loopg [49] k2 (fun kq v49 w' => ∃ (x49_3 : Int), v49 = .int .i64 x49_3 ∧ Aside0 (arboretref01_wrong.l1 kq a1 (l0_1.length : Int) x49_3 a0_0 l0_1 l0_2 = some r) ∧ Aside0 (kq ≤ k2) ∧ Aside0 (w'.heap[gbah]? = some (.cells #[.string a0_0, (.slice A0_1 l0_1.length c0_1), (.slice A0_2 l0_2.length c0_2)] 27 (0, 0))) ∧ Aside0 (Below w.heap.size w w'))
        case atStart => exact ⟨(0), Zq7, H', ⟨Nat.le_refl _⟩, ⟨Zq31⟩, ⟨Zq23⟩⟩
        case round =>
         clear H'
         try clear c1
         try clear c2
         try clear p2
         try clear q2
         try clear hx2
         try clear c3
         try clear c3b0
         try clear p6
         try clear c7
         try clear c7b0
         try clear c7b1
         try clear c8
         try clear c8b0
         try clear c8b1
         try clear c9
         try clear c9b0
         try clear c14
         try clear c14b0
         try clear c17
         try clear c19
         try clear c19b0
         try clear c20
         try clear c20b0
         try clear p20
         try clear q20
         try clear hx20
         try clear c21
         try clear c21b0
         try clear c23
         try clear hcz11_0
         try clear hcz11_1
         try clear hcz11_2
         try clear hcz12_0
         try clear hcz12_1
         try clear hcz12_2
         try clear hcz13_0
         try clear hcz13_1
         try clear hcz13_2
         try clear hcz16_0
         try clear hcz16_1
         try clear hcz16_2
         try clear hcz18_0
         try clear hcz18_1
         try clear hcz18_2
         try clear hcz24_0
         try clear hcz24_1
         try clear hcz24_2
         try clear hcz25_0
         try clear hcz25_1
         try clear hcz25_2
         try clear hcz26_0
         try clear hcz26_1
         try clear hcz26_2
         try clear hfz11_0
         try clear hfz11_1
         try clear hfz11_2
         try clear hfz12_0
         try clear hfz12_1
         try clear hfz12_2
         try clear hfz13_0
         try clear hfz13_1
         try clear hfz13_2
         try clear hfz16_0
         try clear hfz16_1
         try clear hfz16_2
         try clear hfz18_0
         try clear hfz18_1
         try clear hfz18_2
         try clear hfz24_0
         try clear hfz24_1
         try clear hfz24_2
         try clear hfz25_0
         try clear hfz25_1
         try clear hfz25_2
         try clear hfz26_0
         try clear hfz26_1
         try clear hfz26_2
         try clear hx207_0
         try clear hx207_1
         try clear p2
         try clear p207
         try clear q207
         obtain ⟨x49_3, rfl, HA, HK3, BKah, HB⟩ := hrel
         cases gk with
         | zero => exact absurd HA.out (by simp [arboretref01_wrong.l1])
         | succ k3 =>
          have H := HA.out; clear HA; simp only [arboretref01_wrong.l1] at H
          by_cases c27 : x49_3 < (l0_1.length : Int)
          ·rw [if_pos c27] at H; have c27b0 : decide (x49_3 < (l0_1.length : Int)) = true := decide_eq_true c27; clear c27; have H' := Ak H; clear H
           go_wp2
           repeat (go_quiet (fail); try go_wp2)
           go_loopg [53] k3 (fun kq v53 w' => ∃ (x53_4 : Int), v53 = .int .i64 x53_4 ∧ Aside0 (arboretref01_wrong.l2 kq a1 x49_3 (l0_1.length : Int) x49_3 x49_3 x53_4 a0_0 l0_1 l0_2 = some r) ∧ Aside0 (kq ≤ k3) ∧ Aside0 (w'.heap[gbah]? = some (.cells #[.string a0_0, (.slice A0_1 l0_1.length c0_1), (.slice A0_2 l0_2.length c0_2)] 27 (0, 0))) ∧ Aside0 (Below w.heap.size w w'))
           case atStart => exact ⟨(0), Zq7, H', ⟨Nat.le_refl _⟩, ⟨Zq31⟩, ⟨Zq23⟩⟩
           case round =>
            clear H'
            try clear c1
            try clear c2
            try clear p2
            try clear q2
            try clear hx2
            try clear c3
            try clear c3b0
            try clear p6
            try clear c7
            try clear c7b0
            try clear c7b1
            try clear c8
            try clear c8b0
            try clear c8b1
            try clear c9
            try clear c9b0
            try clear c14
            try clear c14b0
            try clear c17
            try clear c19
            try clear c19b0
            try clear c20
            try clear c20b0
            try clear p20
            try clear q20
            try clear hx20
            try clear c21
            try clear c21b0
            try clear c23
            try clear c27
            try clear c27b0
            try clear hcz11_0
            try clear hcz11_1
            try clear hcz11_2
            try clear hcz12_0
            try clear hcz12_1
            try clear hcz12_2
            try clear hcz13_0
            try clear hcz13_1
            try clear hcz13_2
            try clear hcz16_0
            try clear hcz16_1
            try clear hcz16_2
            try clear hcz18_0
            try clear hcz18_1
            try clear hcz18_2
            try clear hcz24_0
            try clear hcz24_1
            try clear hcz24_2
            try clear hcz25_0
            try clear hcz25_1
            try clear hcz25_2
            try clear hcz26_0
            try clear hcz26_1
            try clear hcz26_2
            try clear hfz11_0
            try clear hfz11_1
            try clear hfz11_2
            try clear hfz12_0
            try clear hfz12_1
            try clear hfz12_2
            try clear hfz13_0
            try clear hfz13_1
            try clear hfz13_2
            try clear hfz16_0
            try clear hfz16_1
            try clear hfz16_2
            try clear hfz18_0
            try clear hfz18_1
            try clear hfz18_2
            try clear hfz24_0
            try clear hfz24_1
            try clear hfz24_2
            try clear hfz25_0
            try clear hfz25_1
            try clear hfz25_2
            try clear hfz26_0
            try clear hfz26_1
            try clear hfz26_2
            try clear hx207_0
            try clear hx207_1
            try clear p2
            try clear p20
            try clear p207
            try clear p6
            try clear q2
            try clear q20
            try clear q207
            obtain ⟨x53_4, rfl, HA, HK4, BKah, HB⟩ := hrel
            cases gk with
            | zero => exact absurd HA.out (by simp [arboretref01_wrong.l2])
            | succ k4 =>
             have H := HA.out; clear HA; simp only [arboretref01_wrong.l2] at H
             by_cases c28 : x53_4 < x49_3
             ·rw [if_pos c28] at H; have c28b0 : decide (x53_4 < x49_3) = true := decide_eq_true c28; clear c28
              by_cases c29 : 0 ≤ x53_4
              ·rw [if_pos c29] at H; have c29b0 : decide (0 ≤ x53_4) = true := decide_eq_true c29; clear c29
               by_cases c30 : x53_4 < (l0_1.length : Int)
               ·rw [if_pos c30] at H; have c30b0 : decide (x53_4 < (l0_1.length : Int)) = true := decide_eq_true c30; clear c30
                by_cases c31 : 0 ≤ x49_3
                ·rw [if_pos c31] at H; have c31b0 : decide (0 ≤ x49_3) = true := decide_eq_true c31; clear c31
                 by_cases c32 : x49_3 < (l0_1.length : Int)
                 ·rw [if_pos c32] at H; have c32b0 : decide (x49_3 < (l0_1.length : Int)) = true := decide_eq_true c32; clear c32
                  by_cases c33 : ((rd_T63 l0_1 x53_4).f0).toList = ((rd_T63 l0_1 x49_3).f0).toList
                  ·rw [if_pos c33] at H; have c33b0 : (((rd_T63 l0_1 x53_4).f0).toList == ((rd_T63 l0_1 x49_3).f0).toList) = true := beq_iff_eq.mpr c33; have c33b1 : (((rd_T63 l0_1 x53_4).f0).toList != ((rd_T63 l0_1 x49_3).f0).toList) = false := bne_eq_false_iff_eq.mpr c33; clear c33; obtain rfl := Option.some.inj H; have hcz34_0 : wr.cell? ⟨gbah, 0, none⟩ = some (.string a0_0) := (blk_cell BKah.out 0).trans rfl; have hcz34_1 : wr.cell? ⟨gbah, 1, none⟩ = some (.slice A0_1 l0_1.length c0_1) := (blk_cell BKah.out 1).trans rfl; have hcz34_2 : wr.cell? ⟨gbah, 2, none⟩ = some (.slice A0_2 l0_2.length c0_2) := (blk_cell BKah.out 2).trans rfl; have hfz34_0 := blk_frozen BKah.out 0; have hfz34_1 := blk_frozen BKah.out 1; have hfz34_2 := blk_frozen BKah.out 2; have p209 : 0 ≤ (x53_4 : Int) := of_decide_eq_true Zq5; have q209 : x53_4 < (l0_1.length : Int) := of_decide_eq_true Zq5; obtain ⟨adcW, AcW_1, ccW_1, e209, hx209_0, hx209_1, hl209_1, hi209_1⟩ := at_T63 HR0_1.out x53_4 p209 q209
                   cases e209
                   replace hx209_0 := (HB.out.cell (World.block_lt_of_cell? w _ hx209_0)).trans hx209_0; replace hx209_1 := (HB.out.cell (World.block_lt_of_cell? w _ hx209_1)).trans hx209_1; have HRcW_1 := Ak hi209_1; have HCcW_1 := Ak hl209_1; clear hi209_1 hl209_1; replace p209 := eq_true p209; replace q209 := eq_true q209; have p210 : 0 ≤ (x49_3 : Int) := of_decide_eq_true Zq5; have q210 : x49_3 < (l0_1.length : Int) := of_decide_eq_true Zq5; obtain ⟨adcA, AcA_1, ccA_1, e210, hx210_0, hx210_1, hl210_1, hi210_1⟩ := at_T63 HR0_1.out x49_3 p210 q210
                   obtain rfl : adcW = adcA := (by injection e210)
                   replace hx210_0 := (HB.out.cell (World.block_lt_of_cell? w _ hx210_0)).trans hx210_0; replace hx210_1 := (HB.out.cell (World.block_lt_of_cell? w _ hx210_1)).trans hx210_1; have HRcA_1 := Ak hi210_1; have HCcA_1 := Ak hl210_1; clear hi210_1 hl210_1; replace p210 := eq_true p210; replace q210 := eq_true q210
                   go_wp2
                   repeat (go_quiet (fail); try go_wp2)
                   go_ret
                   exact ⟨Zq13, Zq23⟩
                  ·rw [if_neg c33] at H; have c33b0 : (((rd_T63 l0_1 x53_4).f0).toList == ((rd_T63 l0_1 x49_3).f0).toList) = false := beq_eq_false_iff_ne.mpr c33; have c33b1 : (((rd_T63 l0_1 x53_4).f0).toList != ((rd_T63 l0_1 x49_3).f0).toList) = true := bne_iff_ne.mpr c33; have H' := Ak H; clear H; have hcz35_0 : wr.cell? ⟨gbah, 0, none⟩ = some (.string a0_0) := (blk_cell BKah.out 0).trans rfl; have hcz35_1 : wr.cell? ⟨gbah, 1, none⟩ = some (.slice A0_1 l0_1.length c0_1) := (blk_cell BKah.out 1).trans rfl; have hcz35_2 : wr.cell? ⟨gbah, 2, none⟩ = some (.slice A0_2 l0_2.length c0_2) := (blk_cell BKah.out 2).trans rfl; have hfz35_0 := blk_frozen BKah.out 0; have hfz35_1 := blk_frozen BKah.out 1; have hfz35_2 := blk_frozen BKah.out 2; have p209 : 0 ≤ (x53_4 : Int) := of_decide_eq_true Zq5; have q209 : x53_4 < (l0_1.length : Int) := of_decide_eq_true Zq5; obtain ⟨adcW, AcW_1, ccW_1, e209, hx209_0, hx209_1, hl209_1, hi209_1⟩ := at_T63 HR0_1.out x53_4 p209 q209
                   cases e209
                   replace hx209_0 := (HB.out.cell (World.block_lt_of_cell? w _ hx209_0)).trans hx209_0; replace hx209_1 := (HB.out.cell (World.block_lt_of_cell? w _ hx209_1)).trans hx209_1; have HRcW_1 := Ak hi209_1; have HCcW_1 := Ak hl209_1; clear hi209_1 hl209_1; replace p209 := eq_true p209; replace q209 := eq_true q209; have p210 : 0 ≤ (x49_3 : Int) := of_decide_eq_true Zq5; have q210 : x49_3 < (l0_1.length : Int) := of_decide_eq_true Zq5; obtain ⟨adcA, AcA_1, ccA_1, e210, hx210_0, hx210_1, hl210_1, hi210_1⟩ := at_T63 HR0_1.out x49_3 p210 q210
                   obtain rfl : adcW = adcA := (by injection e210)
                   replace hx210_0 := (HB.out.cell (World.block_lt_of_cell? w _ hx210_0)).trans hx210_0; replace hx210_1 := (HB.out.cell (World.block_lt_of_cell? w _ hx210_1)).trans hx210_1; have HRcA_1 := Ak hi210_1; have HCcA_1 := Ak hl210_1; clear hi210_1 hl210_1; replace p210 := eq_true p210; replace q210 := eq_true q210
                   go_wp2
                   repeat (go_quiet (fail); try go_wp2)
                   go_roundg k4
                   case measure => have := HJ4.out; have := HK2.out; have := HK3.out; have := HK4.out; omega
                   case rel => exact ⟨(wrap64 (x53_4 + 1)), Zq7, H', ⟨by have := HJ4.out; have := HK2.out; have := HK3.out; have := HK4.out; omega⟩, ⟨Zq31⟩, ⟨Zq23⟩⟩
                 ·rw [if_neg c32] at H; exact absurd H Zq10
                ·rw [if_neg c31] at H; exact absurd H Zq10
               ·rw [if_neg c30] at H; exact absurd H Zq10
              ·rw [if_neg c29] at H; exact absurd H Zq10
             ·rw [if_neg c28] at H; have c28b0 : decide (x53_4 < x49_3) = false := decide_eq_false c28; clear c28; have H' := Ak H; clear H
              go_wp2
              repeat (go_quiet (fail); try go_wp2)
              go_roundg k4
              case measure => have := HJ4.out; have := HK2.out; have := HK3.out; have := HK4.out; omega
              case rel => exact ⟨(wrap64 (x49_3 + 1)), Zq7, H', ⟨by have := HJ4.out; have := HK2.out; have := HK3.out; have := HK4.out; omega⟩, ⟨Zq31⟩, ⟨Zq23⟩⟩
          ·rw [if_neg c27] at H; have c27b0 : decide (x49_3 < (l0_1.length : Int)) = false := decide_eq_false c27; clear c27; have H' := Ak H; clear H; have hcz36_0 : wr.cell? ⟨gbah, 0, none⟩ = some (.string a0_0) := (blk_cell BKah.out 0).trans rfl; have hcz36_1 : wr.cell? ⟨gbah, 1, none⟩ = some (.slice A0_1 l0_1.length c0_1) := (blk_cell BKah.out 1).trans rfl; have hcz36_2 : wr.cell? ⟨gbah, 2, none⟩ = some (.slice A0_2 l0_2.length c0_2) := (blk_cell BKah.out 2).trans rfl; have hfz36_0 := blk_frozen BKah.out 0; have hfz36_1 := blk_frozen BKah.out 1; have hfz36_2 := blk_frozen BKah.out 2
           go_wp2
           repeat (go_quiet (fail); try go_wp2)
           go_loopg [74] k3 (fun kq v74 w' => ∃ (x74_4 : Int), v74 = .int .i64 x74_4 ∧ Aside0 (arboretref01_wrong.l3 kq a1 (l0_2.length : Int) x74_4 a0_0 l0_1 l0_2 = some r) ∧ Aside0 (kq ≤ k3) ∧ Aside0 (w'.heap[gbah]? = some (.cells #[.string a0_0, (.slice A0_1 l0_1.length c0_1), (.slice A0_2 l0_2.length c0_2)] 27 (0, 0))) ∧ Aside0 (Below w.heap.size w w'))
           case atStart => exact ⟨(0), Zq7, H', ⟨Nat.le_refl _⟩, ⟨Zq31⟩, ⟨Zq23⟩⟩
           case round =>
            clear H'
            try clear c1
            try clear c2
            try clear p2
            try clear q2
            try clear hx2
            try clear c3
            try clear c3b0
            try clear p6
            try clear c7
            try clear c7b0
            try clear c7b1
            try clear c8
            try clear c8b0
            try clear c8b1
            try clear c9
            try clear c9b0
            try clear c14
            try clear c14b0
            try clear c17
            try clear c19
            try clear c19b0
            try clear c20
            try clear c20b0
            try clear p20
            try clear q20
            try clear hx20
            try clear c21
            try clear c21b0
            try clear p21
            try clear q21
            try clear hx21
            try clear c23
            try clear c27
            try clear c27b0
            try clear c28
            try clear c28b0
            try clear c29
            try clear c29b0
            try clear c30
            try clear c30b0
            try clear c31
            try clear c31b0
            try clear c32
            try clear c32b0
            try clear c33
            try clear c33b0
            try clear c33b1
            try clear hcz11_0
            try clear hcz11_1
            try clear hcz11_2
            try clear hcz12_0
            try clear hcz12_1
            try clear hcz12_2
            try clear hcz13_0
            try clear hcz13_1
            try clear hcz13_2
            try clear hcz16_0
            try clear hcz16_1
            try clear hcz16_2
            try clear hcz18_0
            try clear hcz18_1
            try clear hcz18_2
            try clear hcz24_0
            try clear hcz24_1
            try clear hcz24_2
            try clear hcz25_0
            try clear hcz25_1
            try clear hcz25_2
            try clear hcz26_0
            try clear hcz26_1
            try clear hcz26_2
            try clear hcz34_0
            try clear hcz34_1
            try clear hcz34_2
            try clear hcz35_0
            try clear hcz35_1
            try clear hcz35_2
            try clear hcz36_0
            try clear hcz36_1
            try clear hcz36_2
            try clear hfz11_0
            try clear hfz11_1
            try clear hfz11_2
            try clear hfz12_0
            try clear hfz12_1
            try clear hfz12_2
            try clear hfz13_0
            try clear hfz13_1
            try clear hfz13_2
            try clear hfz16_0
            try clear hfz16_1
            try clear hfz16_2
            try clear hfz18_0
            try clear hfz18_1
            try clear hfz18_2
            try clear hfz24_0
            try clear hfz24_1
            try clear hfz24_2
            try clear hfz25_0
            try clear hfz25_1
            try clear hfz25_2
            try clear hfz26_0
            try clear hfz26_1
            try clear hfz26_2
            try clear hfz34_0
            try clear hfz34_1
            try clear hfz34_2
            try clear hfz35_0
            try clear hfz35_1
            try clear hfz35_2
            try clear hfz36_0
            try clear hfz36_1
            try clear hfz36_2
            try clear hx207_0
            try clear hx207_1
            try clear hx209_0
            try clear hx209_1
            try clear hx210_0
            try clear hx210_1
            try clear p2
            try clear p20
            try clear p207
            try clear p209
            try clear p210
            try clear p6
            try clear q2
            try clear q20
            try clear q207
            try clear q209
            try clear q210
            obtain ⟨x74_4, rfl, HA, HK4, BKah, HB⟩ := hrel
            cases gk with
            | zero => exact absurd HA.out (by simp [arboretref01_wrong.l3])
            | succ k4 =>
             have H := HA.out; clear HA; simp only [arboretref01_wrong.l3] at H
             by_cases c37 : x74_4 < (l0_2.length : Int)
             ·rw [if_pos c37] at H; have c37b0 : decide (x74_4 < (l0_2.length : Int)) = true := decide_eq_true c37; clear c37; have H' := Ak H; clear H
              go_wp2
              repeat (go_quiet (fail); try go_wp2)
              go_loopg [78] k4 (fun kq v78 w' => ∃ (x78_5 : Int), v78 = .int .i64 x78_5 ∧ Aside0 (arboretref01_wrong.l4 kq a1 x74_4 (l0_2.length : Int) x74_4 x74_4 x78_5 a0_0 l0_1 l0_2 = some r) ∧ Aside0 (kq ≤ k4) ∧ Aside0 (w'.heap[gbah]? = some (.cells #[.string a0_0, (.slice A0_1 l0_1.length c0_1), (.slice A0_2 l0_2.length c0_2)] 27 (0, 0))) ∧ Aside0 (Below w.heap.size w w'))
              case atStart => exact ⟨(0), Zq7, H', ⟨Nat.le_refl _⟩, ⟨Zq31⟩, ⟨Zq23⟩⟩
              case round =>
               clear H'
               try clear c1
               try clear c2
               try clear p2
               try clear q2
               try clear hx2
               try clear c3
               try clear c3b0
               try clear p6
               try clear c7
               try clear c7b0
               try clear c7b1
               try clear c8
               try clear c8b0
               try clear c8b1
               try clear c9
               try clear c9b0
               try clear c14
               try clear c14b0
               try clear c17
               try clear c19
               try clear c19b0
               try clear c20
               try clear c20b0
               try clear p20
               try clear q20
               try clear hx20
               try clear c21
               try clear c21b0
               try clear p21
               try clear q21
               try clear hx21
               try clear c23
               try clear c27
               try clear c27b0
               try clear c28
               try clear c28b0
               try clear c29
               try clear c29b0
               try clear c30
               try clear c30b0
               try clear c31
               try clear c31b0
               try clear c32
               try clear c32b0
               try clear c33
               try clear c33b0
               try clear c33b1
               try clear c37
               try clear c37b0
               try clear hcz11_0
               try clear hcz11_1
               try clear hcz11_2
               try clear hcz12_0
               try clear hcz12_1
               try clear hcz12_2
               try clear hcz13_0
               try clear hcz13_1
               try clear hcz13_2
               try clear hcz16_0
               try clear hcz16_1
               try clear hcz16_2
               try clear hcz18_0
               try clear hcz18_1
               try clear hcz18_2
               try clear hcz24_0
               try clear hcz24_1
               try clear hcz24_2
               try clear hcz25_0
               try clear hcz25_1
               try clear hcz25_2
               try clear hcz26_0
               try clear hcz26_1
               try clear hcz26_2
               try clear hcz34_0
               try clear hcz34_1
               try clear hcz34_2
               try clear hcz35_0
               try clear hcz35_1
               try clear hcz35_2
               try clear hcz36_0
               try clear hcz36_1
               try clear hcz36_2
               try clear hfz11_0
               try clear hfz11_1
               try clear hfz11_2
               try clear hfz12_0
               try clear hfz12_1
               try clear hfz12_2
               try clear hfz13_0
               try clear hfz13_1
               try clear hfz13_2
               try clear hfz16_0
               try clear hfz16_1
               try clear hfz16_2
               try clear hfz18_0
               try clear hfz18_1
               try clear hfz18_2
               try clear hfz24_0
               try clear hfz24_1
               try clear hfz24_2
               try clear hfz25_0
               try clear hfz25_1
               try clear hfz25_2
               try clear hfz26_0
               try clear hfz26_1
               try clear hfz26_2
               try clear hfz34_0
               try clear hfz34_1
               try clear hfz34_2
               try clear hfz35_0
               try clear hfz35_1
               try clear hfz35_2
               try clear hfz36_0
               try clear hfz36_1
               try clear hfz36_2
               try clear hx207_0
               try clear hx207_1
               try clear hx209_0
               try clear hx209_1
               try clear hx210_0
               try clear hx210_1
               try clear p2
               try clear p20
               try clear p207
               try clear p209
               try clear p21
               try clear p210
               try clear p6
               try clear q2
               try clear q20
               try clear q207
               try clear q209
               try clear q21
               try clear q210
               obtain ⟨x78_5, rfl, HA, HK5, BKah, HB⟩ := hrel
               cases gk with
               | zero => exact absurd HA.out (by simp [arboretref01_wrong.l4])
               | succ k5 =>
                have H := HA.out; clear HA; simp only [arboretref01_wrong.l4] at H
                by_cases c38 : x78_5 < x74_4
                ·rw [if_pos c38] at H; have c38b0 : decide (x78_5 < x74_4) = true := decide_eq_true c38; clear c38
                 by_cases c39 : 0 ≤ x78_5
                 ·rw [if_pos c39] at H; have c39b0 : decide (0 ≤ x78_5) = true := decide_eq_true c39; clear c39
                  by_cases c40 : x78_5 < (l0_2.length : Int)
                  ·rw [if_pos c40] at H; have c40b0 : decide (x78_5 < (l0_2.length : Int)) = true := decide_eq_true c40; clear c40
                   by_cases c41 : 0 ≤ x74_4
                   ·rw [if_pos c41] at H; have c41b0 : decide (0 ≤ x74_4) = true := decide_eq_true c41; clear c41
                    by_cases c42 : x74_4 < (l0_2.length : Int)
                    ·rw [if_pos c42] at H; have c42b0 : decide (x74_4 < (l0_2.length : Int)) = true := decide_eq_true c42; clear c42
                     by_cases c43 : ((rd_T27 l0_2 x78_5).f0).toList = ((rd_T27 l0_2 x74_4).f0).toList
                     ·rw [if_pos c43] at H; have c43b0 : (((rd_T27 l0_2 x78_5).f0).toList == ((rd_T27 l0_2 x74_4).f0).toList) = true := beq_iff_eq.mpr c43; have c43b1 : (((rd_T27 l0_2 x78_5).f0).toList != ((rd_T27 l0_2 x74_4).f0).toList) = false := bne_eq_false_iff_eq.mpr c43; clear c43; obtain rfl := Option.some.inj H; have hcz44_0 : wr.cell? ⟨gbah, 0, none⟩ = some (.string a0_0) := (blk_cell BKah.out 0).trans rfl; have hcz44_1 : wr.cell? ⟨gbah, 1, none⟩ = some (.slice A0_1 l0_1.length c0_1) := (blk_cell BKah.out 1).trans rfl; have hcz44_2 : wr.cell? ⟨gbah, 2, none⟩ = some (.slice A0_2 l0_2.length c0_2) := (blk_cell BKah.out 2).trans rfl; have hfz44_0 := blk_frozen BKah.out 0; have hfz44_1 := blk_frozen BKah.out 1; have hfz44_2 := blk_frozen BKah.out 2; have p211 : 0 ≤ (x78_5 : Int) := of_decide_eq_true Zq5; have q211 : x78_5 < (l0_2.length : Int) := of_decide_eq_true Zq5; obtain ⟨adcb, Acb_1, ccb_1, Acb_2, ccb_2, e211, hx211_0, hx211_1, hx211_2, hl211_1, hi211_1, hl211_2, hi211_2⟩ := at_T27 HR0_2.out x78_5 p211 q211
                      cases e211
                      replace hx211_0 := (HB.out.cell (World.block_lt_of_cell? w _ hx211_0)).trans hx211_0; replace hx211_1 := (HB.out.cell (World.block_lt_of_cell? w _ hx211_1)).trans hx211_1; replace hx211_2 := (HB.out.cell (World.block_lt_of_cell? w _ hx211_2)).trans hx211_2; have HRcb_1 := Ak hi211_1; have HCcb_1 := Ak hl211_1; clear hi211_1 hl211_1; have HRcb_2 := Ak hi211_2; have HCcb_2 := Ak hl211_2; clear hi211_2 hl211_2; replace p211 := eq_true p211; replace q211 := eq_true q211; have p212 : 0 ≤ (x74_4 : Int) := of_decide_eq_true Zq5; have q212 : x74_4 < (l0_2.length : Int) := of_decide_eq_true Zq5; obtain ⟨adcc, Acc_1, ccc_1, Acc_2, ccc_2, e212, hx212_0, hx212_1, hx212_2, hl212_1, hi212_1, hl212_2, hi212_2⟩ := at_T27 HR0_2.out x74_4 p212 q212
                      obtain rfl : adcb = adcc := (by injection e212)
                      replace hx212_0 := (HB.out.cell (World.block_lt_of_cell? w _ hx212_0)).trans hx212_0; replace hx212_1 := (HB.out.cell (World.block_lt_of_cell? w _ hx212_1)).trans hx212_1; replace hx212_2 := (HB.out.cell (World.block_lt_of_cell? w _ hx212_2)).trans hx212_2; have HRcc_1 := Ak hi212_1; have HCcc_1 := Ak hl212_1; clear hi212_1 hl212_1; have HRcc_2 := Ak hi212_2; have HCcc_2 := Ak hl212_2; clear hi212_2 hl212_2; replace p212 := eq_true p212; replace q212 := eq_true q212
                      go_wp2
                      repeat (go_quiet (fail); try go_wp2)
                      go_ret
                      exact ⟨Zq13, Zq23⟩
                     ·rw [if_neg c43] at H; have c43b0 : (((rd_T27 l0_2 x78_5).f0).toList == ((rd_T27 l0_2 x74_4).f0).toList) = false := beq_eq_false_iff_ne.mpr c43; have c43b1 : (((rd_T27 l0_2 x78_5).f0).toList != ((rd_T27 l0_2 x74_4).f0).toList) = true := bne_iff_ne.mpr c43; have H' := Ak H; clear H; have hcz45_0 : wr.cell? ⟨gbah, 0, none⟩ = some (.string a0_0) := (blk_cell BKah.out 0).trans rfl; have hcz45_1 : wr.cell? ⟨gbah, 1, none⟩ = some (.slice A0_1 l0_1.length c0_1) := (blk_cell BKah.out 1).trans rfl; have hcz45_2 : wr.cell? ⟨gbah, 2, none⟩ = some (.slice A0_2 l0_2.length c0_2) := (blk_cell BKah.out 2).trans rfl; have hfz45_0 := blk_frozen BKah.out 0; have hfz45_1 := blk_frozen BKah.out 1; have hfz45_2 := blk_frozen BKah.out 2; have p211 : 0 ≤ (x78_5 : Int) := of_decide_eq_true Zq5; have q211 : x78_5 < (l0_2.length : Int) := of_decide_eq_true Zq5; obtain ⟨adcb, Acb_1, ccb_1, Acb_2, ccb_2, e211, hx211_0, hx211_1, hx211_2, hl211_1, hi211_1, hl211_2, hi211_2⟩ := at_T27 HR0_2.out x78_5 p211 q211
                      cases e211
                      replace hx211_0 := (HB.out.cell (World.block_lt_of_cell? w _ hx211_0)).trans hx211_0; replace hx211_1 := (HB.out.cell (World.block_lt_of_cell? w _ hx211_1)).trans hx211_1; replace hx211_2 := (HB.out.cell (World.block_lt_of_cell? w _ hx211_2)).trans hx211_2; have HRcb_1 := Ak hi211_1; have HCcb_1 := Ak hl211_1; clear hi211_1 hl211_1; have HRcb_2 := Ak hi211_2; have HCcb_2 := Ak hl211_2; clear hi211_2 hl211_2; replace p211 := eq_true p211; replace q211 := eq_true q211; have p212 : 0 ≤ (x74_4 : Int) := of_decide_eq_true Zq5; have q212 : x74_4 < (l0_2.length : Int) := of_decide_eq_true Zq5; obtain ⟨adcc, Acc_1, ccc_1, Acc_2, ccc_2, e212, hx212_0, hx212_1, hx212_2, hl212_1, hi212_1, hl212_2, hi212_2⟩ := at_T27 HR0_2.out x74_4 p212 q212
                      obtain rfl : adcb = adcc := (by injection e212)
                      replace hx212_0 := (HB.out.cell (World.block_lt_of_cell? w _ hx212_0)).trans hx212_0; replace hx212_1 := (HB.out.cell (World.block_lt_of_cell? w _ hx212_1)).trans hx212_1; replace hx212_2 := (HB.out.cell (World.block_lt_of_cell? w _ hx212_2)).trans hx212_2; have HRcc_1 := Ak hi212_1; have HCcc_1 := Ak hl212_1; clear hi212_1 hl212_1; have HRcc_2 := Ak hi212_2; have HCcc_2 := Ak hl212_2; clear hi212_2 hl212_2; replace p212 := eq_true p212; replace q212 := eq_true q212
                      go_wp2
                      repeat (go_quiet (fail); try go_wp2)
                      go_roundg k5
                      case measure => have := HJ4.out; have := HK2.out; have := HK3.out; have := HK4.out; have := HK5.out; omega
                      case rel => exact ⟨(wrap64 (x78_5 + 1)), Zq7, H', ⟨Zq65⟩, ⟨Zq31⟩, ⟨Zq23⟩⟩
                    ·rw [if_neg c42] at H; exact absurd H Zq10
                   ·rw [if_neg c41] at H; exact absurd H Zq10
                  ·rw [if_neg c40] at H; exact absurd H Zq10
                 ·rw [if_neg c39] at H; exact absurd H Zq10
                ·rw [if_neg c38] at H; have c38b0 : decide (x78_5 < x74_4) = false := decide_eq_false c38; clear c38; have H' := Ak H; clear H
                 go_wp2
                 repeat (go_quiet (fail); try go_wp2)
                 go_roundg k5
                 case measure => have := HJ4.out; have := HK2.out; have := HK3.out; have := HK4.out; have := HK5.out; omega
                 case rel => exact ⟨(wrap64 (x74_4 + 1)), Zq7, H', ⟨Zq65⟩, ⟨Zq31⟩, ⟨Zq23⟩⟩
             ·rw [if_neg c37] at H; have c37b0 : decide (x74_4 < (l0_2.length : Int)) = false := decide_eq_false c37; clear c37; have H' := Ak H; clear H; have hcz46_0 : wr.cell? ⟨gbah, 0, none⟩ = some (.string a0_0) := (blk_cell BKah.out 0).trans rfl; have hcz46_1 : wr.cell? ⟨gbah, 1, none⟩ = some (.slice A0_1 l0_1.length c0_1) := (blk_cell BKah.out 1).trans rfl; have hcz46_2 : wr.cell? ⟨gbah, 2, none⟩ = some (.slice A0_2 l0_2.length c0_2) := (blk_cell BKah.out 2).trans rfl; have hfz46_0 := blk_frozen BKah.out 0; have hfz46_1 := blk_frozen BKah.out 1; have hfz46_2 := blk_frozen BKah.out 2
              go_wp2
              repeat (go_quiet (fail); try go_wp2)
              go_loopg [99] k4 (fun kq v99 w' => ∃ (x99_5 : Int), v99 = .int .i64 x99_5 ∧ Aside0 (arboretref01_wrong.l5 kq a1 (l0_2.length : Int) x99_5 a0_0 l0_1 l0_2 = some r) ∧ Aside0 (kq ≤ k4) ∧ Aside0 (w'.heap[gbah]? = some (.cells #[.string a0_0, (.slice A0_1 l0_1.length c0_1), (.slice A0_2 l0_2.length c0_2)] 27 (0, 0))) ∧ Aside0 (Below w.heap.size w w'))
              case atStart => exact ⟨(0), Zq7, H', ⟨Nat.le_refl _⟩, ⟨Zq31⟩, ⟨Zq23⟩⟩
              case round =>
               clear H'
               try clear c1
               try clear c2
               try clear p2
               try clear q2
               try clear hx2
               try clear c3
               try clear c3b0
               try clear c4
               try clear p6
               try clear c7
               try clear c7b0
               try clear c7b1
               try clear c8
               try clear c8b0
               try clear c8b1
               try clear c9
               try clear c9b0
               try clear c14
               try clear c14b0
               try clear c17
               try clear c19
               try clear c19b0
               try clear c20
               try clear c20b0
               try clear p20
               try clear q20
               try clear hx20
               try clear c21
               try clear c21b0
               try clear p21
               try clear q21
               try clear hx21
               try clear c23
               try clear c27
               try clear c27b0
               try clear c28
               try clear c28b0
               try clear c29
               try clear c29b0
               try clear c30
               try clear c30b0
               try clear c31
               try clear c31b0
               try clear c32
               try clear c32b0
               try clear c33
               try clear c33b0
               try clear c33b1
               try clear c37
               try clear c37b0
               try clear c38
               try clear c38b0
               try clear c39
               try clear c39b0
               try clear c40
               try clear c40b0
               try clear c41
               try clear c41b0
               try clear c42
               try clear c42b0
               try clear c43
               try clear c43b0
               try clear c43b1
               try clear hcz11_0
               try clear hcz11_1
               try clear hcz11_2
               try clear hcz12_0
               try clear hcz12_1
               try clear hcz12_2
               try clear hcz13_0
               try clear hcz13_1
               try clear hcz13_2
               try clear hcz16_0
               try clear hcz16_1
               try clear hcz16_2
               try clear hcz18_0
               try clear hcz18_1
               try clear hcz18_2
               try clear hcz24_0
               try clear hcz24_1
               try clear hcz24_2
               try clear hcz25_0
               try clear hcz25_1
               try clear hcz25_2
               try clear hcz26_0
               try clear hcz26_1
               try clear hcz26_2
               try clear hcz34_0
               try clear hcz34_1
               try clear hcz34_2
               try clear hcz35_0
               try clear hcz35_1
               try clear hcz35_2
               try clear hcz36_0
               try clear hcz36_1
               try clear hcz36_2
               try clear hcz44_0
               try clear hcz44_1
               try clear hcz44_2
               try clear hcz45_0
               try clear hcz45_1
               try clear hcz45_2
               try clear hcz46_0
               try clear hcz46_1
               try clear hcz46_2
               try clear hfz11_0
               try clear hfz11_1
               try clear hfz11_2
               try clear hfz12_0
               try clear hfz12_1
               try clear hfz12_2
               try clear hfz13_0
               try clear hfz13_1
               try clear hfz13_2
               try clear hfz16_0
               try clear hfz16_1
               try clear hfz16_2
               try clear hfz18_0
               try clear hfz18_1
               try clear hfz18_2
               try clear hfz24_0
               try clear hfz24_1
               try clear hfz24_2
               try clear hfz25_0
               try clear hfz25_1
               try clear hfz25_2
               try clear hfz26_0
               try clear hfz26_1
               try clear hfz26_2
               try clear hfz34_0
               try clear hfz34_1
               try clear hfz34_2
               try clear hfz35_0
               try clear hfz35_1
               try clear hfz35_2
               try clear hfz36_0
               try clear hfz36_1
               try clear hfz36_2
               try clear hfz44_0
               try clear hfz44_1
               try clear hfz44_2
               try clear hfz45_0
               try clear hfz45_1
               try clear hfz45_2
               try clear hfz46_0
               try clear hfz46_1
               try clear hfz46_2
               try clear hx207_0
               try clear hx207_1
               try clear hx209_0
               try clear hx209_1
               try clear hx210_0
               try clear hx210_1
               try clear hx211_0
               try clear hx211_1
               try clear hx211_2
               try clear hx212_0
               try clear hx212_1
               try clear hx212_2
               try clear p2
               try clear p20
               try clear p207
               try clear p209
               try clear p21
               try clear p210
               try clear p211
               try clear p212
               try clear p6
               try clear q2
               try clear q20
               try clear q207
               try clear q209
               try clear q21
               try clear q210
               try clear q211
               try clear q212
               obtain ⟨x99_5, rfl, HA, HK5, BKah, HB⟩ := hrel
               cases gk with
               | zero => exact absurd HA.out (by simp [arboretref01_wrong.l5])
               | succ k5 =>
                have H := HA.out; clear HA; simp only [arboretref01_wrong.l5] at H
                by_cases c47 : x99_5 < (l0_2.length : Int)
                ·rw [if_pos c47] at H; have c47b0 : decide (x99_5 < (l0_2.length : Int)) = true := decide_eq_true c47; clear c47
                 by_cases c48 : 0 ≤ x99_5
                 ·rw [if_pos c48] at H; have c48b0 : decide (0 ≤ x99_5) = true := decide_eq_true c48; clear c48
                  by_cases c49 : x99_5 < (l0_2.length : Int)
                  ·rw [if_pos c49] at H; have c49b0 : decide (x99_5 < (l0_2.length : Int)) = true := decide_eq_true c49; clear c49; replace H := Option.bind_eq_some_iff.mp H; obtain ⟨tcp, Afg, H⟩ := H; replace H : (if tcp = 0 then (arboretref01_wrong.l5 k5 a1 (l0_2.length : Int) (wrap64 (x99_5 + 1)) a0_0 l0_1 l0_2) else (some tcp)) = some r := H; have A50 := Ak Afg; clear Afg
                   by_cases c51 : tcp = 0
                   ·rw [if_pos c51] at H; have c51b0 : (tcp == 0) = true := beq_iff_eq.mpr c51; have c51b1 : (tcp != 0) = false := bne_eq_false_iff_eq.mpr c51; clear c51; have H' := Ak H; clear H; have hcz52_0 : wr.cell? ⟨gbah, 0, none⟩ = some (.string a0_0) := (blk_cell BKah.out 0).trans rfl; have hcz52_1 : wr.cell? ⟨gbah, 1, none⟩ = some (.slice A0_1 l0_1.length c0_1) := (blk_cell BKah.out 1).trans rfl; have hcz52_2 : wr.cell? ⟨gbah, 2, none⟩ = some (.slice A0_2 l0_2.length c0_2) := (blk_cell BKah.out 2).trans rfl; have hfz52_0 := blk_frozen BKah.out 0; have hfz52_1 := blk_frozen BKah.out 1; have hfz52_2 := blk_frozen BKah.out 2; have p213 : 0 ≤ (x99_5 : Int) := of_decide_eq_true Zq5; have q213 : x99_5 < (l0_2.length : Int) := of_decide_eq_true Zq5; obtain ⟨adbK, AbK_1, cbK_1, AbK_2, cbK_2, e213, hx213_0, hx213_1, hx213_2, hl213_1, hi213_1, hl213_2, hi213_2⟩ := at_T27 HR0_2.out x99_5 p213 q213
                    cases e213
                    replace hx213_0 := (HB.out.cell (World.block_lt_of_cell? w _ hx213_0)).trans hx213_0; replace hx213_1 := (HB.out.cell (World.block_lt_of_cell? w _ hx213_1)).trans hx213_1; replace hx213_2 := (HB.out.cell (World.block_lt_of_cell? w _ hx213_2)).trans hx213_2; have HRbK_1 := Ak hi213_1; have HCbK_1 := Ak hl213_1; clear hi213_1 hl213_1; have HRbK_2 := Ak hi213_2; have HCbK_2 := Ak hl213_2; clear hi213_2 hl213_2; replace p213 := eq_true p213; replace q213 := eq_true q213
                    go_wp2_with (first | (go_at_call 37; (with_reducible refine (ih k5 Zq65 ((rd_T27 l0_2 x99_5).f0) _ _ ((rd_T27 l0_2 x99_5).f1) _ _ ((rd_T27 l0_2 x99_5).f2) (wrap64 (a1 + 1)) tcp _ ?side1 ?side2 ?side3 ?side4 A50.out).mono ?_); (case side1 => repeat (first | exact Zq266 | (with_reducible refine Kd.C_alloc ?_ _) | (with_reducible refine Kd.C_drewN ?_ _) | (with_reducible refine Kd.C_drew ?_))); (case side2 => exact HCbK_1.out); (case side3 => repeat (first | exact Zq267 | (with_reducible refine Kd.C_alloc ?_ _) | (with_reducible refine Kd.C_drewN ?_ _) | (with_reducible refine Kd.C_drew ?_))); (case side4 => exact HCbK_2.out); rintro e w53 ⟨rfl, hb⟩; have n0_ := Zq158; have n1_ := Zq271; clear BKah HB; have BKah := n0_; have HB := n1_; clear n0_ n1_; (try clear hb); (try clear hb2); (try clear hk); (try clear hi)))
                    repeat (go_quiet (first | (go_at_call 37; (with_reducible refine (ih k5 Zq65 ((rd_T27 l0_2 x99_5).f0) _ _ ((rd_T27 l0_2 x99_5).f1) _ _ ((rd_T27 l0_2 x99_5).f2) (wrap64 (a1 + 1)) tcp _ ?side1 ?side2 ?side3 ?side4 A50.out).mono ?_); (case side1 => repeat (first | exact Zq266 | (with_reducible refine Kd.C_alloc ?_ _) | (with_reducible refine Kd.C_drewN ?_ _) | (with_reducible refine Kd.C_drew ?_))); (case side2 => exact HCbK_1.out); (case side3 => repeat (first | exact Zq267 | (with_reducible refine Kd.C_alloc ?_ _) | (with_reducible refine Kd.C_drewN ?_ _) | (with_reducible refine Kd.C_drew ?_))); (case side4 => exact HCbK_2.out); rintro e w53 ⟨rfl, hb⟩; have n0_ := Zq158; have n1_ := Zq271; clear BKah HB; have BKah := n0_; have HB := n1_; clear n0_ n1_; (try clear hb); (try clear hb2); (try clear hk); (try clear hi))); try go_wp2_with (first | (go_at_call 37; (with_reducible refine (ih k5 Zq65 ((rd_T27 l0_2 x99_5).f0) _ _ ((rd_T27 l0_2 x99_5).f1) _ _ ((rd_T27 l0_2 x99_5).f2) (wrap64 (a1 + 1)) tcp _ ?side1 ?side2 ?side3 ?side4 A50.out).mono ?_); (case side1 => repeat (first | exact Zq266 | (with_reducible refine Kd.C_alloc ?_ _) | (with_reducible refine Kd.C_drewN ?_ _) | (with_reducible refine Kd.C_drew ?_))); (case side2 => exact HCbK_1.out); (case side3 => repeat (first | exact Zq267 | (with_reducible refine Kd.C_alloc ?_ _) | (with_reducible refine Kd.C_drewN ?_ _) | (with_reducible refine Kd.C_drew ?_))); (case side4 => exact HCbK_2.out); rintro e w53 ⟨rfl, hb⟩; have n0_ := Zq158; have n1_ := Zq271; clear BKah HB; have BKah := n0_; have HB := n1_; clear n0_ n1_; (try clear hb); (try clear hb2); (try clear hk); (try clear hi))))
                    go_roundg k5
                    case measure => have := HJ4.out; have := HK2.out; have := HK3.out; have := HK4.out; have := HK5.out; omega
                    case rel => exact ⟨(wrap64 (x99_5 + 1)), Zq7, H', ⟨Zq65⟩, ⟨Zq31⟩, ⟨Zq23⟩⟩
                   ·rw [if_neg c51] at H; have c51b0 : (tcp == 0) = false := beq_eq_false_iff_ne.mpr c51; have c51b1 : (tcp != 0) = true := bne_iff_ne.mpr c51; obtain rfl := Option.some.inj H; have hcz54_0 : wr.cell? ⟨gbah, 0, none⟩ = some (.string a0_0) := (blk_cell BKah.out 0).trans rfl; have hcz54_1 : wr.cell? ⟨gbah, 1, none⟩ = some (.slice A0_1 l0_1.length c0_1) := (blk_cell BKah.out 1).trans rfl; have hcz54_2 : wr.cell? ⟨gbah, 2, none⟩ = some (.slice A0_2 l0_2.length c0_2) := (blk_cell BKah.out 2).trans rfl; have hfz54_0 := blk_frozen BKah.out 0; have hfz54_1 := blk_frozen BKah.out 1; have hfz54_2 := blk_frozen BKah.out 2; have p213 : 0 ≤ (x99_5 : Int) := of_decide_eq_true Zq5; have q213 : x99_5 < (l0_2.length : Int) := of_decide_eq_true Zq5; obtain ⟨adbK, AbK_1, cbK_1, AbK_2, cbK_2, e213, hx213_0, hx213_1, hx213_2, hl213_1, hi213_1, hl213_2, hi213_2⟩ := at_T27 HR0_2.out x99_5 p213 q213
                    cases e213
                    replace hx213_0 := (HB.out.cell (World.block_lt_of_cell? w _ hx213_0)).trans hx213_0; replace hx213_1 := (HB.out.cell (World.block_lt_of_cell? w _ hx213_1)).trans hx213_1; replace hx213_2 := (HB.out.cell (World.block_lt_of_cell? w _ hx213_2)).trans hx213_2; have HRbK_1 := Ak hi213_1; have HCbK_1 := Ak hl213_1; clear hi213_1 hl213_1; have HRbK_2 := Ak hi213_2; have HCbK_2 := Ak hl213_2; clear hi213_2 hl213_2; replace p213 := eq_true p213; replace q213 := eq_true q213
                    go_wp2_with (first | (go_at_call 37; (with_reducible refine (ih k5 Zq65 ((rd_T27 l0_2 x99_5).f0) _ _ ((rd_T27 l0_2 x99_5).f1) _ _ ((rd_T27 l0_2 x99_5).f2) (wrap64 (a1 + 1)) tcp _ ?side1 ?side2 ?side3 ?side4 A50.out).mono ?_); (case side1 => repeat (first | exact Zq266 | (with_reducible refine Kd.C_alloc ?_ _) | (with_reducible refine Kd.C_drewN ?_ _) | (with_reducible refine Kd.C_drew ?_))); (case side2 => exact HCbK_1.out); (case side3 => repeat (first | exact Zq267 | (with_reducible refine Kd.C_alloc ?_ _) | (with_reducible refine Kd.C_drewN ?_ _) | (with_reducible refine Kd.C_drew ?_))); (case side4 => exact HCbK_2.out); rintro e w55 ⟨rfl, hb⟩; have n0_ := Zq158; have n1_ := Zq271; clear BKah HB; have BKah := n0_; have HB := n1_; clear n0_ n1_; (try clear hb); (try clear hb2); (try clear hk); (try clear hi)))
                    repeat (go_quiet (first | (go_at_call 37; (with_reducible refine (ih k5 Zq65 ((rd_T27 l0_2 x99_5).f0) _ _ ((rd_T27 l0_2 x99_5).f1) _ _ ((rd_T27 l0_2 x99_5).f2) (wrap64 (a1 + 1)) tcp _ ?side1 ?side2 ?side3 ?side4 A50.out).mono ?_); (case side1 => repeat (first | exact Zq266 | (with_reducible refine Kd.C_alloc ?_ _) | (with_reducible refine Kd.C_drewN ?_ _) | (with_reducible refine Kd.C_drew ?_))); (case side2 => exact HCbK_1.out); (case side3 => repeat (first | exact Zq267 | (with_reducible refine Kd.C_alloc ?_ _) | (with_reducible refine Kd.C_drewN ?_ _) | (with_reducible refine Kd.C_drew ?_))); (case side4 => exact HCbK_2.out); rintro e w55 ⟨rfl, hb⟩; have n0_ := Zq158; have n1_ := Zq271; clear BKah HB; have BKah := n0_; have HB := n1_; clear n0_ n1_; (try clear hb); (try clear hb2); (try clear hk); (try clear hi))); try go_wp2_with (first | (go_at_call 37; (with_reducible refine (ih k5 Zq65 ((rd_T27 l0_2 x99_5).f0) _ _ ((rd_T27 l0_2 x99_5).f1) _ _ ((rd_T27 l0_2 x99_5).f2) (wrap64 (a1 + 1)) tcp _ ?side1 ?side2 ?side3 ?side4 A50.out).mono ?_); (case side1 => repeat (first | exact Zq266 | (with_reducible refine Kd.C_alloc ?_ _) | (with_reducible refine Kd.C_drewN ?_ _) | (with_reducible refine Kd.C_drew ?_))); (case side2 => exact HCbK_1.out); (case side3 => repeat (first | exact Zq267 | (with_reducible refine Kd.C_alloc ?_ _) | (with_reducible refine Kd.C_drewN ?_ _) | (with_reducible refine Kd.C_drew ?_))); (case side4 => exact HCbK_2.out); rintro e w55 ⟨rfl, hb⟩; have n0_ := Zq158; have n1_ := Zq271; clear BKah HB; have BKah := n0_; have HB := n1_; clear n0_ n1_; (try clear hb); (try clear hb2); (try clear hk); (try clear hi))))
                    go_ret
                    exact ⟨Zq13, Zq23⟩
                  ·rw [if_neg c49] at H; exact absurd H Zq10
                 ·rw [if_neg c48] at H; exact absurd H Zq10
                ·rw [if_neg c47] at H; have c47b0 : decide (x99_5 < (l0_2.length : Int)) = false := decide_eq_false c47; clear c47; obtain rfl := Option.some.inj H
                 go_wp2
                 repeat (go_quiet (fail); try go_wp2)
                 go_ret
                 exact ⟨Zq13, Zq23⟩
end Go.Proofs.Ytkopmkinlanhoaa.PB
