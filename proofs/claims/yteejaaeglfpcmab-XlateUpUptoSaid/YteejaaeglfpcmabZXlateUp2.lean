/- XlateUp: texts of this session's, and what the kit's print laid for this seat, as far as the law's row uses them (PXx0, PXx0, PXx0, PXx0). -/
import Derived.Test.YteejaaeglfpcmabZXlateUp1
set_option linter.unusedVariables false
set_option linter.unusedSimpArgs false
namespace Go.Proofs.Yteejaaeglfpcmab.PX
open Go.RowKit Go.Proofs.YteejaaeglfpcmabW.PrintWords Go.Proofs.YteejaaeglfpcmabW.PrintLast Go.Proofs.YteejaaeglfpcmabW.PrintMore
attribute [local go_sem] max2_int min2_int max_two min_two max_three min_three max_four min_four
set_option maxHeartbeats 8000000 in
set_option maxRecDepth 100000 in
theorem xlate_Ranges.calls (k : Nat) (a0_0 : ByteArray) (A0_1 : Option Addr) (c0_1 : Nat) (l0_1 : List (S77)) (A0_2 : Option Addr) (c0_2 : Nat) (l0_2 : List (S30)) (a1_0 : ByteArray) (A1_1 : Option Addr) (c1_1 : Nat) (l1_1 : List (S77)) (A1_2 : Option Addr) (c1_2 : Nat) (l1_2 : List (S30)) (r1 : List (S46)) (r2 : Bool) (r3 : Int) (w : World) (hr0_1 : Kd.C k77 w A0_1 l0_1.length l0_1) (hc0_1 : l0_1.length ≤ c0_1) (hr0_2 : Kd.C k30 w A0_2 l0_2.length l0_2) (hc0_2 : l0_2.length ≤ c0_2) (hr1_1 : Kd.C k77 w A1_1 l1_1.length l1_1) (hc1_1 : l1_1.length ≤ c1_1) (hr1_2 : Kd.C k30 w A1_2 l1_2.length l1_2) (hc1_2 : l1_2.length ≤ c1_2) (h : xlate_Ranges.f k a0_0 l0_1 l0_2 a1_0 l1_1 l1_2 = some (r1, r2, r3)) :
  Calls Try.prog 17 #[.agg #[.string a0_0, .slice A0_1 l0_1.length c0_1, .slice A0_2 l0_2.length c0_2], .agg #[.string a1_0, .slice A1_1 l1_1.length c1_1, .slice A1_2 l1_2.length c1_2]] w fun e w' => ∃ v0_ : Value, e = .returned (.tuple #[v0_, .bool r2, .int .i64 r3]) ∧ Kd.R k46 46 w' w.heap.size (fun _ => True) v0_ r1 ∧ Below w.heap.size w w' := by
 have hu30 := Try.underlying30; have hu46 := Try.underlying46; have HR0_1 := Ak hr0_1; have HC0_1 := Ak hc0_1; clear hr0_1 hc0_1; have HR0_2 := Ak hr0_2; have HC0_2 := Ak hc0_2; clear hr0_2 hc0_2; have HR1_1 := Ak hr1_1; have HC1_1 := Ak hc1_1; clear hr1_1 hc1_1; have HR1_2 := Ak hr1_2; have HC1_2 := Ak hc1_2; clear hr1_2 hc1_2; have HB := Zq145; have H : ((tree_Find.f k a1_0 l1_1 l1_2 (⟨#[114, 97, 110, 103, 101, 115]⟩ : ByteArray)).bind fun btbo => (if btbo.2 = true then ((region_Counts.f k a1_0 l1_1 l1_2).bind fun btah => (if btah.2.2 = 0 then ((region_Counts.f k a0_0 l0_1 l0_2).bind fun btap => (if btap.2.2 = 0 then (if btah.1 = 0 then (xlate_Ranges.j0 k btbo.1 btah.1 btah.2.1 btap.1 true) else (if btap.1 = 0 then (xlate_Ranges.j0 k btbo.1 btah.1 btah.2.1 btap.1 true) else (if (wrap64 (4 * (wrap64 ((wrap64 (btah.1 + btap.1)) + btah.2.1)))) = 0 then (none) else (xlate_Ranges.j0 k btbo.1 btah.1 btah.2.1 btap.1 (((btbo.1.length : Int) % (wrap64 (4 * (wrap64 ((wrap64 (btah.1 + btap.1)) + btah.2.1))))) != 0))))) else (some (([] : List (S46)), false, btap.2.2)))) else (some (([] : List (S46)), false, btah.2.2)))) else (some (([] : List (S46)), false, 0)))) = some (r1, r2, r3) := h; clear h; replace H := Option.bind_eq_some_iff.mp H; obtain ⟨⟨tbo, tfH⟩, A30, H⟩ := H; replace H : (if tfH = true then ((region_Counts.f k a1_0 l1_1 l1_2).bind fun btah => (if btah.2.2 = 0 then ((region_Counts.f k a0_0 l0_1 l0_2).bind fun btap => (if btap.2.2 = 0 then (if btah.1 = 0 then (xlate_Ranges.j0 k tbo btah.1 btah.2.1 btap.1 true) else (if btap.1 = 0 then (xlate_Ranges.j0 k tbo btah.1 btah.2.1 btap.1 true) else (if (wrap64 (4 * (wrap64 ((wrap64 (btah.1 + btap.1)) + btah.2.1)))) = 0 then (none) else (xlate_Ranges.j0 k tbo btah.1 btah.2.1 btap.1 (((tbo.length : Int) % (wrap64 (4 * (wrap64 ((wrap64 (btah.1 + btap.1)) + btah.2.1))))) != 0))))) else (some (([] : List (S46)), false, btap.2.2)))) else (some (([] : List (S46)), false, btah.2.2)))) else (some (([] : List (S46)), false, 0))) = some (r1, r2, r3) := H; have A3 := Ak A30; clear A30
 by_cases c4 : tfH = true
 ·subst c4
  have H1 : ((region_Counts.f k a1_0 l1_1 l1_2).bind fun btah => (if btah.2.2 = 0 then ((region_Counts.f k a0_0 l0_1 l0_2).bind fun btap => (if btap.2.2 = 0 then (if btah.1 = 0 then (xlate_Ranges.j0 k tbo btah.1 btah.2.1 btap.1 true) else (if btap.1 = 0 then (xlate_Ranges.j0 k tbo btah.1 btah.2.1 btap.1 true) else (if (wrap64 (4 * (wrap64 ((wrap64 (btah.1 + btap.1)) + btah.2.1)))) = 0 then (none) else (xlate_Ranges.j0 k tbo btah.1 btah.2.1 btap.1 (((tbo.length : Int) % (wrap64 (4 * (wrap64 ((wrap64 (btah.1 + btap.1)) + btah.2.1))))) != 0))))) else (some (([] : List (S46)), false, btap.2.2)))) else (some (([] : List (S46)), false, btah.2.2)))) = some (r1, r2, r3) := by rw [if_pos rfl] at H; exact H
  clear H; have H := H1; clear H1; replace H := Option.bind_eq_some_iff.mp H; obtain ⟨⟨tah, taL, tdl⟩, A50, H⟩ := H; replace H : (if tdl = 0 then ((region_Counts.f k a0_0 l0_1 l0_2).bind fun btap => (if btap.2.2 = 0 then (if tah = 0 then (xlate_Ranges.j0 k tbo tah taL btap.1 true) else (if btap.1 = 0 then (xlate_Ranges.j0 k tbo tah taL btap.1 true) else (if (wrap64 (4 * (wrap64 ((wrap64 (tah + btap.1)) + taL)))) = 0 then (none) else (xlate_Ranges.j0 k tbo tah taL btap.1 (((tbo.length : Int) % (wrap64 (4 * (wrap64 ((wrap64 (tah + btap.1)) + taL))))) != 0))))) else (some (([] : List (S46)), false, btap.2.2)))) else (some (([] : List (S46)), false, tdl))) = some (r1, r2, r3) := H; have A5 := Ak A50; clear A50
  by_cases c6 : tdl = 0
  ·rw [if_pos c6] at H; have c6b0 : (tdl == 0) = true := beq_iff_eq.mpr c6; have c6b1 : (tdl != 0) = false := bne_eq_false_iff_eq.mpr c6; clear c6; replace H := Option.bind_eq_some_iff.mp H; obtain ⟨⟨tap, tfJ, tdF⟩, A70, H⟩ := H; replace H : (if tdF = 0 then (if tah = 0 then (xlate_Ranges.j0 k tbo tah taL tap true) else (if tap = 0 then (xlate_Ranges.j0 k tbo tah taL tap true) else (if (wrap64 (4 * (wrap64 ((wrap64 (tah + tap)) + taL)))) = 0 then (none) else (xlate_Ranges.j0 k tbo tah taL tap (((tbo.length : Int) % (wrap64 (4 * (wrap64 ((wrap64 (tah + tap)) + taL))))) != 0))))) else (some (([] : List (S46)), false, tdF))) = some (r1, r2, r3) := H; have A7 := Ak A70; clear A70
   by_cases c8 : tdF = 0
   ·rw [if_pos c8] at H; have c8b0 : (tdF == 0) = true := beq_iff_eq.mpr c8; have c8b1 : (tdF != 0) = false := bne_eq_false_iff_eq.mpr c8; clear c8; have HC9 := Ak H; clear H
    go_enter Try.func17, Try.ntmps17
    go_upto_region 10 with (first | ((with_reducible refine gate_dst (N := 2) rfl ?_); (try (refine gate_guard Zq3 ?_; dsimp only)); refine box_event ?hg (N := 2) ?hd (cs := #[.string a0_0, .slice A0_1 l0_1.length c0_1, .slice A0_2 l0_2.length c0_2]) (t := 30) ?hr ?_; (case hd | hg => rfl); (case hr => first | (go_simp; done) | (go_simp; rfl)); intro gbaH hg w10 hbox hb; have n0_ := Zq140; have n1_ := Ak (hbox); have n2_ := Zq176; have n3_ := Zq176; clear HB; have HB := n0_; have BKaH := n1_; have GWaH := n2_; have GEaH := n3_; clear n0_ n1_ n2_ n3_ hb hbox hg) | ((with_reducible refine gate_dst (N := 3) rfl ?_); (try (refine gate_guard Zq3 ?_; dsimp only)); refine box_event ?hg (N := 3) ?hd (cs := #[.string a1_0, .slice A1_1 l1_1.length c1_1, .slice A1_2 l1_2.length c1_2]) (t := 30) ?hr ?_; (case hd | hg => rfl); (case hr => first | (go_simp; done) | (go_simp; rfl)); intro gbaq hg w11 hbox hb; have n0_ := Zq139; have n1_ := Ak (below_step Zq53 hb); have n2_ := Ak (hbox); have n3_ := Zq170; have n4_ := Zq170; have n5_ := Zq268; have n6_ := Zq269; clear BKaH HB; have BKaH := n0_; have HB := n1_; have BKaq := n2_; have GWaq := n3_; have GEaq := n4_; have NB193_194 := n5_; have NB194_193 := n6_; clear n0_ n1_ n2_ n3_ n4_ n5_ n6_ hb hbox hg; have hnb12 := NB194_193.out; have hnc12 := NB193_194.out; have hcz13_0 : w11.cell? ⟨gbaq, 0, none⟩ = some (.string a1_0) := (blk_cell BKaq.out 0).trans rfl; have hcz13_1 : w11.cell? ⟨gbaq, 1, none⟩ = some (.slice A1_1 l1_1.length c1_1) := (blk_cell BKaq.out 1).trans rfl; have hcz13_2 : w11.cell? ⟨gbaq, 2, none⟩ = some (.slice A1_2 l1_2.length c1_2) := (blk_cell BKaq.out 2).trans rfl; have hfz13_0 := blk_frozen BKaq.out 0; have hfz13_1 := blk_frozen BKaq.out 1; have hfz13_2 := blk_frozen BKaq.out 2) | ((with_reducible refine gate_callee (f := 31) rfl ?_); refine goesL_ (some 25) rfl rfl Try.func31 Zq2 rfl #[.agg #[.string a1_0, .slice A1_1 l1_1.length c1_1, .slice A1_2 l1_2.length c1_2], .string (⟨#[114, 97, 110, 103, 101, 115]⟩ : ByteArray)] rfl Zq8 ?_; (with_reducible refine (tree_Find.calls k a1_0 _ _ l1_1 _ _ l1_2 (⟨#[114, 97, 110, 103, 101, 115]⟩ : ByteArray) tbo true _ ?side1 ?side2 ?side3 ?side4 A3.out).mono ?_); (case side1 => repeat (first | exact Zq204 | (with_reducible refine Kd.C_alloc ?_ _) | (with_reducible refine Kd.C_drewN ?_ _) | (with_reducible refine Kd.C_drew ?_))); (case side2 => exact HC1_1.out); (case side3 => repeat (first | exact Zq205 | (with_reducible refine Kd.C_alloc ?_ _) | (with_reducible refine Kd.C_drewN ?_ _) | (with_reducible refine Kd.C_drew ?_))); (case side4 => exact HC1_2.out); rintro e w14 ⟨v196, rfl, ho0, hb⟩; refine ⟨_, rfl, ?_⟩; have n0_ := Zq237; have n1_ := Zq139; have n2_ := Zq143; have n3_ := Zq206; clear BKaH BKaq HB; have HOcC := n0_; have BKaH := n1_; have BKaq := n2_; have HB := n3_; clear n0_ n1_ n2_ n3_; (try clear hb); (try clear hb2); (try clear hk); (try clear hi); (try clear ho0); have hcz15_0 : w14.cell? ⟨gbaq, 0, none⟩ = some (.string a1_0) := (blk_cell BKaq.out 0).trans rfl; have hcz15_1 : w14.cell? ⟨gbaq, 1, none⟩ = some (.slice A1_1 l1_1.length c1_1) := (blk_cell BKaq.out 1).trans rfl; have hcz15_2 : w14.cell? ⟨gbaq, 2, none⟩ = some (.slice A1_2 l1_2.length c1_2) := (blk_cell BKaq.out 2).trans rfl; have hfz15_0 := blk_frozen BKaq.out 0; have hfz15_1 := blk_frozen BKaq.out 1; have hfz15_2 := blk_frozen BKaq.out 2) | ((with_reducible refine gate_callee (f := 42) rfl ?_); refine goesL_ (some 32) rfl rfl Try.func42 Zq2 rfl #[.agg #[.string a1_0, .slice A1_1 l1_1.length c1_1, .slice A1_2 l1_2.length c1_2]] rfl Zq8 ?_; (with_reducible refine (region_Counts.calls k a1_0 _ _ l1_1 _ _ l1_2 tah taL tdl _ ?side1 ?side2 ?side3 ?side4 A5.out).mono ?_); (case side1 => repeat (first | exact Zq204 | (with_reducible refine Kd.C_alloc ?_ _) | (with_reducible refine Kd.C_drewN ?_ _) | (with_reducible refine Kd.C_drew ?_))); (case side2 => exact HC1_1.out); (case side3 => repeat (first | exact Zq205 | (with_reducible refine Kd.C_alloc ?_ _) | (with_reducible refine Kd.C_drewN ?_ _) | (with_reducible refine Kd.C_drew ?_))); (case side4 => exact HC1_2.out); rintro e w16 ⟨rfl, hb⟩; refine ⟨_, rfl, ?_⟩; have n0_ := Ak (Kd.R_below Zq69 hb); have n1_ := Zq139; have n2_ := Zq143; have n3_ := Zq206; clear HOcC BKaH BKaq HB; have HOcC := n0_; have BKaH := n1_; have BKaq := n2_; have HB := n3_; clear n0_ n1_ n2_ n3_; (try clear hb); (try clear hb2); (try clear hk); (try clear hi); have hcz17_0 : w16.cell? ⟨gbaH, 0, none⟩ = some (.string a0_0) := (blk_cell BKaH.out 0).trans rfl; have hcz17_1 : w16.cell? ⟨gbaH, 1, none⟩ = some (.slice A0_1 l0_1.length c0_1) := (blk_cell BKaH.out 1).trans rfl; have hcz17_2 : w16.cell? ⟨gbaH, 2, none⟩ = some (.slice A0_2 l0_2.length c0_2) := (blk_cell BKaH.out 2).trans rfl; have hfz17_0 := blk_frozen BKaH.out 0; have hfz17_1 := blk_frozen BKaH.out 1; have hfz17_2 := blk_frozen BKaH.out 2) | ((with_reducible refine gate_callee (f := 42) rfl ?_); refine goesL_ (some 41) rfl rfl Try.func42 Zq2 rfl #[.agg #[.string a0_0, .slice A0_1 l0_1.length c0_1, .slice A0_2 l0_2.length c0_2]] rfl Zq8 ?_; (with_reducible refine (region_Counts.calls k a0_0 _ _ l0_1 _ _ l0_2 tap tfJ tdF _ ?side1 ?side2 ?side3 ?side4 A7.out).mono ?_); (case side1 => repeat (first | exact Zq142 | (with_reducible refine Kd.C_alloc ?_ _) | (with_reducible refine Kd.C_drewN ?_ _) | (with_reducible refine Kd.C_drew ?_))); (case side2 => exact HC0_1.out); (case side3 => repeat (first | exact Zq161 | (with_reducible refine Kd.C_alloc ?_ _) | (with_reducible refine Kd.C_drewN ?_ _) | (with_reducible refine Kd.C_drew ?_))); (case side4 => exact HC0_2.out); rintro e w18 ⟨rfl, hb⟩; refine ⟨_, rfl, ?_⟩; have n0_ := Ak (Kd.R_below Zq69 hb); have n1_ := Zq139; have n2_ := Zq143; have n3_ := Zq206; clear HOcC BKaH BKaq HB; have HOcC := n0_; have BKaH := n1_; have BKaq := n2_; have HB := n3_; clear n0_ n1_ n2_ n3_; (try clear hb); (try clear hb2); (try clear hk); (try clear hi)))
    (try simp only [Act.put, List.setIfInBounds_toArray, List.set_cons_zero, List.set_cons_succ])
    go_cut [49] (fun v49 wc => ∃ (kq : Nat) (x49_8 : Bool), v49 = .bool x49_8 ∧ Aside0 (xlate_Ranges.j0 kq tbo tah taL tap x49_8 = some (r1, r2, r3)) ∧ Aside0 (kq ≤ k) ∧ Aside0 (Kd.R (Kd.int .u8) 5 wc w.heap.size (fun _ => True) v196 tbo) ∧ Aside0 (wc.heap[gbaH]? = some (.cells #[.string a0_0, (.slice A0_1 l0_1.length c0_1), (.slice A0_2 l0_2.length c0_2)] 30 (0, 0))) ∧ Aside0 (wc.heap[gbaq]? = some (.cells #[.string a1_0, (.slice A1_1 l1_1.length c1_1), (.slice A1_2 l1_2.length c1_2)] 30 (0, 0))) ∧ Aside0 (Below w.heap.size w wc))
    case first =>
     have H := HC9.out; clear HC9
     by_cases c19 : tah = 0
     ·rw [if_pos c19] at H; have c19b0 : (tah == 0) = true := beq_iff_eq.mpr c19; have c19b1 : (tah != 0) = false := bne_eq_false_iff_eq.mpr c19; clear c19
      (first | rw [c19b0] | (simp only [i64_w, i32_w]; rw [c19b0]) | skip)
      have H' := Ak H; clear H
      go_wp2
      go_meet
      case rel => exact ⟨_, (true), Zq6, H', ⟨Zq19⟩, ⟨Zq69⟩, ⟨Zq22⟩, ⟨Zq39⟩, ⟨Zq20⟩⟩
     ·rw [if_neg c19] at H; have c19b0 : (tah == 0) = false := beq_eq_false_iff_ne.mpr c19; have c19b1 : (tah != 0) = true := bne_iff_ne.mpr c19
      (first | rw [c19b0] | (simp only [i64_w, i32_w]; rw [c19b0]) | skip)
      by_cases c20 : tap = 0
      ·rw [if_pos c20] at H; have c20b0 : (tap == 0) = true := beq_iff_eq.mpr c20; have c20b1 : (tap != 0) = false := bne_eq_false_iff_eq.mpr c20; clear c20; have H' := Ak H; clear H
       go_wp2
       go_meet
       case rel => exact ⟨_, (true), Zq6, H', ⟨Zq19⟩, ⟨Zq69⟩, ⟨Zq22⟩, ⟨Zq39⟩, ⟨Zq20⟩⟩
      ·rw [if_neg c20] at H; have c20b0 : (tap == 0) = false := beq_eq_false_iff_ne.mpr c20; have c20b1 : (tap != 0) = true := bne_iff_ne.mpr c20
       by_cases c21 : (wrap64 (4 * (wrap64 ((wrap64 (tah + tap)) + taL)))) = 0
       ·rw [if_pos c21] at H; exact absurd H Zq9
       ·rw [if_neg c21] at H; have c21b0 : ((wrap64 (4 * (wrap64 ((wrap64 (tah + tap)) + taL)))) == 0) = false := beq_eq_false_iff_ne.mpr c21; have c21b1 : ((wrap64 (4 * (wrap64 ((wrap64 (tah + tap)) + taL)))) != 0) = true := bne_iff_ne.mpr c21; have H' := Ak H; clear H; obtain ⟨Ao22, co22, eo22⟩ := Kd.R_slice HOcC.out; subst eo22
        go_wp2
        go_meet
        case rel => exact ⟨_, ((((tbo.length : Int) % (wrap64 (4 * (wrap64 ((wrap64 (tah + tap)) + taL))))) != 0)), Zq6, H', ⟨Zq19⟩, ⟨Zq69⟩, ⟨Zq22⟩, ⟨Zq39⟩, ⟨Zq20⟩⟩
    case rest =>
     clear HC9
     try clear c1
     try clear c2
     try clear p2
     try clear c3
     try clear c4
     try clear c6
     try clear c6b0
     try clear c6b1
     try clear p6
     try clear c8
     try clear c8b0
     try clear c8b1
     try clear c12
     try clear c17
     try clear c19
     try clear c19b0
     try clear c19b1
     try clear c20
     try clear c20b0
     try clear c20b1
     try clear c21
     try clear c21b0
     try clear c21b1
     try clear hcz13_0
     try clear hcz13_1
     try clear hcz13_2
     try clear hcz15_0
     try clear hcz15_1
     try clear hcz15_2
     try clear hcz17_0
     try clear hcz17_1
     try clear hcz17_2
     try clear hfz13_0
     try clear hfz13_1
     try clear hfz13_2
     try clear hfz15_0
     try clear hfz15_1
     try clear hfz15_2
     try clear hfz17_0
     try clear hfz17_1
     try clear hfz17_2
     obtain ⟨kq, x49_8, rfl, HA, HJ8, HO_7, BKaH, BKaq, HB⟩ := hcut
     cases kq with
     | zero => exact absurd HA.out (by simp [xlate_Ranges.j0])
     | succ kj8 =>
      have H := HA.out; clear HA; simp only [xlate_Ranges.j0] at H
      by_cases c23 : x49_8 = true
      ·subst c23
       have H1 : (some (([] : List (S46)), false, 10)) = some (r1, r2, r3) := by rw [if_pos rfl] at H; exact H
       clear H; have H := H1; clear H1; simp only [Option.some.injEq, Prod.mk.injEq] at H; obtain ⟨rfl, rfl, rfl⟩ := H
       go_wp2
       go_ret3
       exact ⟨_, Zq11, Zq38, Zq20⟩
      ·replace c23 := Bool.eq_false_iff.mpr c23; subst c23
       have H1 : (if (tbo.length : Int) = 0 then (some ((([(⟨0, 0, 18446744073709551615⟩ : S46)] : List (S46))), true, 0)) else ((prop_Cells.f kj8 tbo).bind fun bteb => (xlate_Ranges.l0 kj8 tah taL tap bteb.1 ([] : List (S46))))) = some (r1, r2, r3) := by rw [if_neg (show ¬ (false = true) by decide)] at H; exact H
       clear H; have H := H1; clear H1
       by_cases c24 : (tbo.length : Int) = 0
       ·rw [if_pos c24] at H; have c24b0 : ((tbo.length : Int) == 0) = true := beq_iff_eq.mpr c24; have c24b1 : ((tbo.length : Int) != 0) = false := bne_eq_false_iff_eq.mpr c24; clear c24
        obtain ⟨ydm, hydm⟩ : ∃ y_ : List (S46), y_ = (([(⟨0, 0, 18446744073709551615⟩ : S46)] : List (S46))) := ⟨_, rfl⟩
        replace H : (some (ydm, true, 0)) = some (r1, r2, r3) := by first | (rw [hydm]; with_reducible exact H) | (have H2_ := (Option.bind_some _ _).symm.trans H; rw [hydm]; with_reducible exact H2_) | (have H2_ := (Option.bind_some _ _).symm.trans H; with_reducible exact H2_) | with_reducible exact H | (rw [hydm]; exact H) | exact H
        have Nydm := Ak hydm; clear hydm; simp only [Option.some.injEq, Prod.mk.injEq] at H; obtain ⟨rfl, rfl, rfl⟩ := H; obtain ⟨Ao25, co25, eo25⟩ := Kd.R_slice HO_7.out; subst eo25
        go_wp2_with (first | ((with_reducible refine gate_dst (N := 73) rfl ?_); (try (refine gate_guard Zq3 ?_; dsimp only)); refine Kd.R_lit k46 _ 46 ?hg (N := 73) ?hd (xs := ([(⟨0, 0, 18446744073709551615⟩ : S46)] : List (S46))) (inner := [.int .u64 0, .int .u64 0, .int .u64 18446744073709551615]) (ok := fun _ => True) (okp := fun _ => True) ?hr ?hp (fun _ hk => hk) trivial (Below.refl _ _) (Nat.le_refl _) Zq9 ?_; (case hd | hg => rfl); (case hr => first | (go_simp; done) | (go_simp; rfl)); (case hp => exact (Reps.c3 (show Kd.M k46 _ _ _ (⟨0, 0, 18446744073709551615⟩ : S46) [.int .u64 0, .int .u64 0, .int .u64 18446744073709551615] from (k46_mkM _ _ _ (⟨0, 0, 18446744073709551615⟩ : S46) )) (Reps.none _ _))); intro v206 w26 ho27 hb hg_ hnew_; clear hg_ hnew_; (first | rw [← Nydm.out] at ho27 | (simp only [Int.reduceToNat] at ho27; rw [← Nydm.out] at ho27)); have n0_ := Zq255; have n1_ := Ak (Kd.R_lower ho27 (below_size Zq20)); have n2_ := Zq139; have n3_ := Zq143; have n4_ := Zq206; clear HO_7 BKaH BKaq HB; have HO_7 := n0_; have HOgg := n1_; have BKaH := n2_; have BKaq := n3_; have HB := n4_; clear n0_ n1_ n2_ n3_ n4_ hb ho27))
        go_ret3
        exact ⟨_, Zq11, by (with_reducible repeat (first | apply Kd.R_alloc | apply Kd.R_drewN | apply Kd.R_drew)); exact HOgg.out, Zq20⟩
       ·rw [if_neg c24] at H; have c24b0 : ((tbo.length : Int) == 0) = false := beq_eq_false_iff_ne.mpr c24; have c24b1 : ((tbo.length : Int) != 0) = true := bne_iff_ne.mpr c24
        have c24b2 : ¬ (tbo = []) := fun h_ => c24 (by rw [h_]; rfl)
        replace H := Option.bind_eq_some_iff.mp H; obtain ⟨⟨teb, tgh⟩, Acu, H⟩ := H; replace H : (xlate_Ranges.l0 kj8 tah taL tap teb ([] : List (S46))) = some (r1, r2, r3) := H; have A28 := Ak Acu; clear Acu; have H' := Ak H; clear H; obtain ⟨Ao29, co29, eo29⟩ := Kd.R_slice HO_7.out; subst eo29
        go_wp2_with (first | ((with_reducible refine gate_callee (f := 43) rfl ?_); refine goesL_ (some 76) rfl rfl Try.func43 Zq2 rfl #[.slice Ao29 tbo.length co29] rfl Zq8 ?_; (with_reducible refine (prop_Cells.calls kj8 _ _ tbo teb tgh _ ?side1 ?side2 A28.out).mono ?_); (case side1 => repeat (first | exact (Kd.R_reads' HO_7.out).2.2 | (with_reducible refine Kd.C_alloc ?_ _) | (with_reducible refine Kd.C_drewN ?_ _) | (with_reducible refine Kd.C_drew ?_))); (case side2 => exact (Kd.R_reads' HO_7.out).2.1); rintro e w30 ⟨v210, rfl, ho0, hb⟩; refine ⟨_, rfl, ?_⟩; have n0_ := Zq255; have n1_ := Zq237; have n2_ := Zq139; have n3_ := Zq143; have n4_ := Zq206; clear HO_7 BKaH BKaq HB; have HO_7 := n0_; have HOgi := n1_; have BKaH := n2_; have BKaq := n3_; have HB := n4_; clear n0_ n1_ n2_ n3_ n4_; (try clear hb); (try clear hb2); (try clear hk); (try clear hi); (try clear ho0)))
        go_loopg [14, 16] kj8 (fun kq v14 v16 w' => ∃ (x14_2 : List Int) (x16_2 : List (S46)), Aside0 (xlate_Ranges.l0 kq tah taL tap x14_2 x16_2 = some (r1, r2, r3)) ∧ Aside0 (kq ≤ kj8) ∧ Aside0 (Kd.Q (Kd.int .u32) 32 w' w.heap.size (fun _ => True) v14 x14_2) ∧ Aside0 (Kd.R k46 46 w' w.heap.size (fun _ => True) v16 x16_2) ∧ Aside0 (w'.heap[gbaH]? = some (.cells #[.string a0_0, (.slice A0_1 l0_1.length c0_1), (.slice A0_2 l0_2.length c0_2)] 30 (0, 0))) ∧ Aside0 (w'.heap[gbaq]? = some (.cells #[.string a1_0, (.slice A1_1 l1_1.length c1_1), (.slice A1_2 l1_2.length c1_2)] 30 (0, 0))) ∧ Aside0 (Below w.heap.size w w'))
        case atStart => exact ⟨(teb), (([] : List (S46))), H', ⟨Nat.le_refl _⟩, ⟨Kd.Q_of_R (by (with_reducible repeat (first | apply Kd.R_alloc | apply Kd.R_drewN | apply Kd.R_drew)); exact HOgi.out)⟩, ⟨Zq38⟩, ⟨Zq22⟩, ⟨Zq39⟩, ⟨Zq20⟩⟩
        case round =>
         clear H'
         try clear c1
         try clear c2
         try clear p2
         try clear c3
         try clear c4
         try clear c6
         try clear c6b0
         try clear c6b1
         try clear p6
         try clear c8
         try clear c8b0
         try clear c8b1
         try clear c12
         try clear c17
         try clear c19
         try clear c19b0
         try clear c19b1
         try clear c20
         try clear c20b0
         try clear c20b1
         try clear c21
         try clear c21b0
         try clear c21b1
         try clear c23
         try clear c24
         try clear c24b0
         try clear c24b1
         try clear c24b2
         try clear hcz13_0
         try clear hcz13_1
         try clear hcz13_2
         try clear hcz15_0
         try clear hcz15_1
         try clear hcz15_2
         try clear hcz17_0
         try clear hcz17_1
         try clear hcz17_2
         try clear hfz13_0
         try clear hfz13_1
         try clear hfz13_2
         try clear hfz15_0
         try clear hfz15_1
         try clear hfz15_2
         try clear hfz17_0
         try clear hfz17_1
         try clear hfz17_2
         try clear p2
         try clear p6
         obtain ⟨x14_2, x16_2, HA, HK2, HO_14, HO_16, BKaH, BKaq, HB⟩ := hrel
         cases gk with
         | zero => exact absurd HA.out (by simp [xlate_Ranges.l0])
         | succ k2 =>
          have H := HA.out; clear HA; simp only [xlate_Ranges.l0] at H
          by_cases c31 : (x14_2.length : Int) > 0
          ·rw [if_pos c31] at H; have c31b0 : decide (0 < (x14_2.length : Int)) = true := decide_eq_true c31; have c31b1 : decide (0 < x14_2.length) = true := decide_eq_true Zq1; clear c31
           by_cases c32 : 0 ≤ tah
           ·rw [if_pos c32] at H; have c32b0 := eq_true c32; have c32b1 : decide (0 ≤ tah) = true := decide_eq_true c32; clear c32
            by_cases c33 : tah ≤ (x14_2.length : Int)
            ·rw [if_pos c33] at H; have c33b0 := eq_true c33; have c33b1 : decide (tah ≤ (x14_2.length : Int)) = true := decide_eq_true c33; clear c33
             obtain ⟨yco, hyco⟩ : ∃ y_ : List Int, y_ = (x14_2.take (tah : Int).toNat) := ⟨_, rfl⟩
             replace H : ((prop_Wide.f k2 yco).bind fun btcB => (if tah ≤ (wrap64 (tah + tap)) then (if (wrap64 (tah + tap)) ≤ (x14_2.length : Int) then ((prop_Wide.f k2 ((x14_2.take ((wrap64 (tah + tap)) : Int).toNat).drop (tah : Int).toNat)).bind fun btcn => (if 0 ≤ (wrap64 (tah + tap)) then (if (wrap64 (tah + tap)) ≤ (wrap64 ((wrap64 (tah + tap)) + taL)) then (if (wrap64 ((wrap64 (tah + tap)) + taL)) ≤ (x14_2.length : Int) then ((prop_Wide.f k2 ((x14_2.take ((wrap64 ((wrap64 (tah + tap)) + taL)) : Int).toNat).drop ((wrap64 (tah + tap)) : Int).toNat)).bind fun btce => (if x16_2.length < 5864062014805 then (if 0 ≤ (wrap64 ((wrap64 (tah + tap)) + taL)) then (xlate_Ranges.l0 k2 tah taL tap (x14_2.drop ((wrap64 ((wrap64 (tah + tap)) + taL)) : Int).toNat) (x16_2 ++ [(⟨btcB.1, btcn.1, btce.1⟩ : S46)])) else (none)) else (none))) else (none)) else (none)) else (none))) else (none)) else (none))) = some (r1, r2, r3) := by first | (rw [hyco]; with_reducible exact H) | (have H2_ := (Option.bind_some _ _).symm.trans H; rw [hyco]; with_reducible exact H2_) | (have H2_ := (Option.bind_some _ _).symm.trans H; with_reducible exact H2_) | with_reducible exact H | (rw [hyco]; exact H) | exact H
             have Nyco := Ak hyco; clear hyco; replace H := Option.bind_eq_some_iff.mp H; obtain ⟨⟨tcB, tgj⟩, AeE, H⟩ := H; replace H : (if tah ≤ (wrap64 (tah + tap)) then (if (wrap64 (tah + tap)) ≤ (x14_2.length : Int) then ((prop_Wide.f k2 ((x14_2.take ((wrap64 (tah + tap)) : Int).toNat).drop (tah : Int).toNat)).bind fun btcn => (if 0 ≤ (wrap64 (tah + tap)) then (if (wrap64 (tah + tap)) ≤ (wrap64 ((wrap64 (tah + tap)) + taL)) then (if (wrap64 ((wrap64 (tah + tap)) + taL)) ≤ (x14_2.length : Int) then ((prop_Wide.f k2 ((x14_2.take ((wrap64 ((wrap64 (tah + tap)) + taL)) : Int).toNat).drop ((wrap64 (tah + tap)) : Int).toNat)).bind fun btce => (if x16_2.length < 5864062014805 then (if 0 ≤ (wrap64 ((wrap64 (tah + tap)) + taL)) then (xlate_Ranges.l0 k2 tah taL tap (x14_2.drop ((wrap64 ((wrap64 (tah + tap)) + taL)) : Int).toNat) (x16_2 ++ [(⟨tcB, btcn.1, btce.1⟩ : S46)])) else (none)) else (none))) else (none)) else (none)) else (none))) else (none)) else (none)) = some (r1, r2, r3) := H; have A34 := Ak AeE; clear AeE; have c35b0 := eq_true (of_decide_eq_true Zq4 : 0 ≤ tah)
             by_cases c36 : tah ≤ (wrap64 (tah + tap))
             ·rw [if_pos c36] at H; have c36b0 := eq_true c36; have c36b1 : decide (tah ≤ (wrap64 (tah + tap))) = true := decide_eq_true c36
              by_cases c37 : (wrap64 (tah + tap)) ≤ (x14_2.length : Int)
              ·rw [if_pos c37] at H; have c37b0 := eq_true c37; have c37b1 : decide ((wrap64 (tah + tap)) ≤ (x14_2.length : Int)) = true := decide_eq_true c37
               obtain ⟨yca, hyca⟩ : ∃ y_ : List Int, y_ = ((x14_2.take ((wrap64 (tah + tap)) : Int).toNat).drop (tah : Int).toNat) := ⟨_, rfl⟩
               replace H : ((prop_Wide.f k2 yca).bind fun btcn => (if 0 ≤ (wrap64 (tah + tap)) then (if (wrap64 (tah + tap)) ≤ (wrap64 ((wrap64 (tah + tap)) + taL)) then (if (wrap64 ((wrap64 (tah + tap)) + taL)) ≤ (x14_2.length : Int) then ((prop_Wide.f k2 ((x14_2.take ((wrap64 ((wrap64 (tah + tap)) + taL)) : Int).toNat).drop ((wrap64 (tah + tap)) : Int).toNat)).bind fun btce => (if x16_2.length < 5864062014805 then (if 0 ≤ (wrap64 ((wrap64 (tah + tap)) + taL)) then (xlate_Ranges.l0 k2 tah taL tap (x14_2.drop ((wrap64 ((wrap64 (tah + tap)) + taL)) : Int).toNat) (x16_2 ++ [(⟨tcB, btcn.1, btce.1⟩ : S46)])) else (none)) else (none))) else (none)) else (none)) else (none))) = some (r1, r2, r3) := by first | (rw [hyca]; with_reducible exact H) | (have H2_ := (Option.bind_some _ _).symm.trans H; rw [hyca]; with_reducible exact H2_) | (have H2_ := (Option.bind_some _ _).symm.trans H; with_reducible exact H2_) | with_reducible exact H | (rw [hyca]; exact H) | exact H
               have Nyca := Ak hyca; clear hyca; replace H := Option.bind_eq_some_iff.mp H; obtain ⟨⟨tcn, tgk⟩, AcM, H⟩ := H; replace H : (if 0 ≤ (wrap64 (tah + tap)) then (if (wrap64 (tah + tap)) ≤ (wrap64 ((wrap64 (tah + tap)) + taL)) then (if (wrap64 ((wrap64 (tah + tap)) + taL)) ≤ (x14_2.length : Int) then ((prop_Wide.f k2 ((x14_2.take ((wrap64 ((wrap64 (tah + tap)) + taL)) : Int).toNat).drop ((wrap64 (tah + tap)) : Int).toNat)).bind fun btce => (if x16_2.length < 5864062014805 then (if 0 ≤ (wrap64 ((wrap64 (tah + tap)) + taL)) then (xlate_Ranges.l0 k2 tah taL tap (x14_2.drop ((wrap64 ((wrap64 (tah + tap)) + taL)) : Int).toNat) (x16_2 ++ [(⟨tcB, tcn, btce.1⟩ : S46)])) else (none)) else (none))) else (none)) else (none)) else (none)) = some (r1, r2, r3) := H; have A38 := Ak AcM; clear AcM
               obtain ⟨ji39, hji39⟩ : ∃ j_ : Int, (wrap64 (tah + tap)) = j_ := ⟨_, rfl⟩
               replace H : (if 0 ≤ (ji39) then (if (ji39) ≤ (wrap64 ((ji39) + taL)) then (if (wrap64 ((ji39) + taL)) ≤ (x14_2.length : Int) then ((prop_Wide.f k2 ((x14_2.take ((wrap64 ((ji39) + taL)) : Int).toNat).drop ((ji39) : Int).toNat)).bind fun btce => (if x16_2.length < 5864062014805 then (if 0 ≤ (wrap64 ((ji39) + taL)) then (xlate_Ranges.l0 k2 tah taL tap (x14_2.drop ((wrap64 ((ji39) + taL)) : Int).toNat) (x16_2 ++ [(⟨tcB, tcn, btce.1⟩ : S46)])) else (none)) else (none))) else (none)) else (none)) else (none)) = some (r1, r2, r3) := by first | (rw [hji39] at H; exact H) | (simp only [hji39] at H ⊢; exact H)
               (try rw [hji39] at c36b0)
               (try rw [hji39] at c36b1)
               (try rw [hji39] at c36)
               (try rw [hji39] at c37b0)
               (try rw [hji39] at c37b1)
               (try rw [hji39] at c37)
               (try rw [hji39] at A34)
               (try rw [hji39] at Nyca)
               (try rw [hji39] at A38)
               have hji39w : (IntKind.i64.wrap (tah + tap)) = ji39 := (i64_w _).trans hji39
               by_cases c40 : 0 ≤ (ji39)
               ·rw [if_pos c40] at H; have c40b0 := eq_true c40; have c40b1 : decide (0 ≤ (ji39)) = true := decide_eq_true c40; clear c40
                by_cases c41 : (ji39) ≤ (wrap64 ((ji39) + taL))
                ·rw [if_pos c41] at H; have c41b0 := eq_true c41; have c41b1 : decide ((ji39) ≤ (wrap64 ((ji39) + taL))) = true := decide_eq_true c41
                 by_cases c42 : (wrap64 ((ji39) + taL)) ≤ (x14_2.length : Int)
                 ·rw [if_pos c42] at H; have c42b0 := eq_true c42; have c42b1 : decide ((wrap64 ((ji39) + taL)) ≤ (x14_2.length : Int)) = true := decide_eq_true c42
                  obtain ⟨ycb, hycb⟩ : ∃ y_ : List Int, y_ = ((x14_2.take ((wrap64 ((ji39) + taL)) : Int).toNat).drop ((ji39) : Int).toNat) := ⟨_, rfl⟩
                  replace H : ((prop_Wide.f k2 ycb).bind fun btce => (if x16_2.length < 5864062014805 then (if 0 ≤ (wrap64 ((ji39) + taL)) then (xlate_Ranges.l0 k2 tah taL tap (x14_2.drop ((wrap64 ((ji39) + taL)) : Int).toNat) (x16_2 ++ [(⟨tcB, tcn, btce.1⟩ : S46)])) else (none)) else (none))) = some (r1, r2, r3) := by first | (rw [hycb]; with_reducible exact H) | (have H2_ := (Option.bind_some _ _).symm.trans H; rw [hycb]; with_reducible exact H2_) | (have H2_ := (Option.bind_some _ _).symm.trans H; with_reducible exact H2_) | with_reducible exact H | (rw [hycb]; exact H) | exact H
                  have Nycb := Ak hycb; clear hycb; replace H := Option.bind_eq_some_iff.mp H; obtain ⟨⟨tce, tgl⟩, Aaj, H⟩ := H; replace H : (if x16_2.length < 5864062014805 then (if 0 ≤ (wrap64 ((ji39) + taL)) then (xlate_Ranges.l0 k2 tah taL tap (x14_2.drop ((wrap64 ((ji39) + taL)) : Int).toNat) (x16_2 ++ [(⟨tcB, tcn, tce⟩ : S46)])) else (none)) else (none)) = some (r1, r2, r3) := H; have A43 := Ak Aaj; clear Aaj
                  by_cases c44 : x16_2.length < 5864062014805
                  ·rw [if_pos c44] at H; have LMc44 := Ak c44; clear c44
                   obtain ⟨ycT, hycT⟩ : ∃ y_ : List (S46), y_ = (x16_2 ++ [(⟨tcB, tcn, tce⟩ : S46)]) := ⟨_, rfl⟩
                   replace H : (if 0 ≤ (wrap64 ((ji39) + taL)) then (xlate_Ranges.l0 k2 tah taL tap (x14_2.drop ((wrap64 ((ji39) + taL)) : Int).toNat) ycT) else (none)) = some (r1, r2, r3) := by first | (rw [hycT]; with_reducible exact H) | (have H2_ := (Option.bind_some _ _).symm.trans H; rw [hycT]; with_reducible exact H2_) | (have H2_ := (Option.bind_some _ _).symm.trans H; with_reducible exact H2_) | with_reducible exact H | (rw [hycT]; exact H) | exact H
                   have NycT := Ak hycT; clear hycT
                   obtain ⟨ji45, hji45⟩ : ∃ j_ : Int, (wrap64 ((ji39) + taL)) = j_ := ⟨_, rfl⟩
                   replace H : (if 0 ≤ (ji45) then (xlate_Ranges.l0 k2 tah taL tap (x14_2.drop ((ji45) : Int).toNat) ycT) else (none)) = some (r1, r2, r3) := by first | (rw [hji45] at H; exact H) | (simp only [hji45] at H ⊢; exact H)
                   (try rw [hji45] at c41b0)
                   (try rw [hji45] at c41b1)
                   (try rw [hji45] at c41)
                   (try rw [hji45] at c42b0)
                   (try rw [hji45] at c42b1)
                   (try rw [hji45] at c42)
                   (try rw [hji45] at A34)
                   (try rw [hji45] at A38)
                   (try rw [hji45] at Nycb)
                   (try rw [hji45] at A43)
                   have hji45w : (IntKind.i64.wrap ((ji39) + taL)) = ji45 := (i64_w _).trans hji45
                   by_cases c46 : 0 ≤ (ji45)
                   ·rw [if_pos c46] at H; have c46b0 := eq_true c46; have c46b1 : decide (0 ≤ (ji45)) = true := decide_eq_true c46; clear c46; have c47b0 := eq_true (of_decide_eq_true Zq4 : (ji45) ≤ (x14_2.length : Int))
                    obtain ⟨ycD, hycD⟩ : ∃ y_ : List Int, y_ = (x14_2.drop ((ji45) : Int).toNat) := ⟨_, rfl⟩
                    replace H : (xlate_Ranges.l0 k2 tah taL tap ycD ycT) = some (r1, r2, r3) := by first | (rw [hycD]; with_reducible exact H) | (have H2_ := (Option.bind_some _ _).symm.trans H; rw [hycD]; with_reducible exact H2_) | (have H2_ := (Option.bind_some _ _).symm.trans H; with_reducible exact H2_) | with_reducible exact H | (rw [hycD]; exact H) | exact H
                    have NycD := Ak hycD; clear hycD; have H' := Ak H; clear H; obtain ⟨Ao48, co48, eo48, _⟩ := Kd.Q_slice HO_14.out; subst eo48; have q49 : (tah : Int) ≤ ((x14_2.length : Int) : Int) := of_decide_eq_true Zq4; obtain ⟨i049, hi049, _, hsz49, _⟩ := info_parts info32; have hroom49 : x14_2.length ≤ co48 := (Kd.Q_reads' HO_14.out).2.1; have hC49 : Kd.C (Kd.int .u32) _ Ao48 x14_2.length x14_2 := (Kd.Q_reads' HO_14.out).2.2; have hcut49 := cut_to (P := Try.prog) 86 32 .i64 Try.underlying86 hi049 Ao48 x14_2.length co48 tah (of_decide_eq_true Zq4) q49 hroom49; have hr49 := Kd.C_take (m := (tah : Int).toNat) hC49 Zq1
                    have hy49 : yco.length = (tah : Int).toNat := (by rw [Nyco.out, List.length_take]; omega)
                    rw [← Nyco.out] at hr49; rw [← hy49] at hcut49; have HRep := Ak hr49; have HCep := Ak (show yco.length ≤ co48 from by omega); clear hr49 hC49 hroom49 hi049 hsz49; have KY49 := Ak hy49; clear hy49; have KL49 := Ak (show (tah : Int).toNat ≤ x14_2.length from by omega); replace q49 := eq_true q49
                    go_wp2_with (first | ((with_reducible refine gate_callee (f := 44) rfl ?_); refine goesL_ (some 93) rfl rfl Try.func44 Zq2 rfl #[.slice Ao48 yco.length co48] rfl Zq8 ?_; (with_reducible refine (prop_Wide.calls k2 _ _ yco tcB tgj _ ?side1 ?side2 A34.out).mono ?_); (case side1 => repeat (first | exact (by repeat (first | (with_reducible exact HRep.out) | (with_reducible refine Kd.C_alloc ?_ _) | (with_reducible refine Kd.C_drewN ?_ _) | (with_reducible refine Kd.C_drew ?_) | exact HRep.out)) | (with_reducible refine Kd.C_alloc ?_ _) | (with_reducible refine Kd.C_drewN ?_ _) | (with_reducible refine Kd.C_drew ?_))); (case side2 => exact HCep.out); rintro e w' ⟨rfl, ⟨nd, rfl⟩⟩; refine ⟨_, rfl, ?_⟩; have q50 : ((ji39) : Int) ≤ ((x14_2.length : Int) : Int) := of_decide_eq_true Zq4; obtain ⟨i050, hi050, _, hsz50, _⟩ := info_parts info32; have hroom50 : x14_2.length ≤ co48 := (Kd.Q_reads' HO_14.out).2.1; have hC50 : Kd.C (Kd.int .u32) _ Ao48 x14_2.length x14_2 := (Kd.Q_reads' HO_14.out).2.2; have ql50 : (tah : Int) ≤ ((ji39) : Int) := of_decide_eq_true Zq4; have q050 : (0 : Int) ≤ (tah : Int) := of_decide_eq_true Zq4; have hcut50 := cut_mid (P := Try.prog) 86 32 .i64 .i64 Try.underlying86 hi050 1 hsz50 Ao48 x14_2.length co48 tah (ji39) q050 ql50 q50 hroom50; have hr50 := Kd.C_mid (lo := (tah : Int).toNat) (hi := ((ji39) : Int).toNat) (c := co48) hC50 Zq1 Zq1 hroom50; obtain ⟨A50, hA50⟩ : ∃ A1, A1 = (if co48 = (tah : Int).toNat then Ao48 else (Ao48 : Option Addr).map (·.add ((tah : Int).toNat * 1))) := ⟨_, rfl⟩; obtain ⟨c50, hc50⟩ : ∃ c1, c1 = co48 - (tah : Int).toNat := ⟨_, rfl⟩; have hy50 : yca.length = ((ji39) : Int).toNat - (tah : Int).toNat := (by rw [Nyca.out, List.length_drop, List.length_take] <;> omega); rw [show ((x14_2).take ((ji39) : Int).toNat).drop (tah : Int).toNat = yca from Nyca.out.symm] at hr50; replace hr50 : Kd.C (Kd.int .u32) _ A50 yca.length yca := (by rw [hA50]; exact hr50); rw [← hy50, ← hA50, ← hc50] at hcut50; have HReq := Ak hr50; have HCeq := Ak (show yca.length ≤ c50 from by rw [hy50, hc50]; exact Nat.sub_le_sub_right (Nat.le_trans Zq1 hroom50) _); clear hr50 hC50 hroom50 hi050 hsz50 hc50; have KY50 := Ak hy50; have KA50 := Ak hA50; clear hy50 hA50; have KL50 := Ak (show ((ji39) : Int).toNat ≤ x14_2.length from by omega); have KM50 := Ak (show (tah : Int).toNat ≤ ((ji39) : Int).toNat from by omega); replace q50 := eq_true q50) | ((with_reducible refine gate_callee (f := 44) rfl ?_); refine goesL_ (some 103) rfl rfl Try.func44 Zq2 rfl #[.slice A50 yca.length c50] rfl Zq8 ?_; (with_reducible refine (prop_Wide.calls k2 _ _ yca tcn tgk _ ?side1 ?side2 A38.out).mono ?_); (case side1 => repeat (first | exact (by repeat (first | (with_reducible exact HReq.out) | (with_reducible refine Kd.C_alloc ?_ _) | (with_reducible refine Kd.C_drewN ?_ _) | (with_reducible refine Kd.C_drew ?_) | exact HReq.out)) | (with_reducible refine Kd.C_alloc ?_ _) | (with_reducible refine Kd.C_drewN ?_ _) | (with_reducible refine Kd.C_drew ?_))); (case side2 => exact HCeq.out); rintro e w' ⟨rfl, ⟨nd, rfl⟩⟩; refine ⟨_, rfl, ?_⟩; have q51 : ((ji45) : Int) ≤ ((x14_2.length : Int) : Int) := of_decide_eq_true Zq4; obtain ⟨i051, hi051, _, hsz51, _⟩ := info_parts info32; have hroom51 : x14_2.length ≤ co48 := (Kd.Q_reads' HO_14.out).2.1; have hC51 : Kd.C (Kd.int .u32) _ Ao48 x14_2.length x14_2 := (Kd.Q_reads' HO_14.out).2.2; have ql51 : ((ji39) : Int) ≤ ((ji45) : Int) := of_decide_eq_true Zq4; have q051 : (0 : Int) ≤ ((ji39) : Int) := of_decide_eq_true Zq4; have hcut51 := cut_mid (P := Try.prog) 86 32 .i64 .i64 Try.underlying86 hi051 1 hsz51 Ao48 x14_2.length co48 (ji39) (ji45) q051 ql51 q51 hroom51; have hr51 := Kd.C_mid (lo := ((ji39) : Int).toNat) (hi := ((ji45) : Int).toNat) (c := co48) hC51 Zq1 Zq1 hroom51; obtain ⟨A51, hA51⟩ : ∃ A1, A1 = (if co48 = ((ji39) : Int).toNat then Ao48 else (Ao48 : Option Addr).map (·.add (((ji39) : Int).toNat * 1))) := ⟨_, rfl⟩; obtain ⟨c51, hc51⟩ : ∃ c1, c1 = co48 - ((ji39) : Int).toNat := ⟨_, rfl⟩; have hy51 : ycb.length = ((ji45) : Int).toNat - ((ji39) : Int).toNat := (by rw [Nycb.out, List.length_drop, List.length_take] <;> omega); rw [show ((x14_2).take ((ji45) : Int).toNat).drop ((ji39) : Int).toNat = ycb from Nycb.out.symm] at hr51; replace hr51 : Kd.C (Kd.int .u32) _ A51 ycb.length ycb := (by rw [hA51]; exact hr51); rw [← hy51, ← hA51, ← hc51] at hcut51; have HRer := Ak hr51; have HCer := Ak (show ycb.length ≤ c51 from by rw [hy51, hc51]; exact Nat.sub_le_sub_right (Nat.le_trans Zq1 hroom51) _); clear hr51 hC51 hroom51 hi051 hsz51 hc51; have KY51 := Ak hy51; have KA51 := Ak hA51; clear hy51 hA51; have KL51 := Ak (show ((ji45) : Int).toNat ≤ x14_2.length from by omega); have KM51 := Ak (show ((ji39) : Int).toNat ≤ ((ji45) : Int).toNat from by omega); replace q51 := eq_true q51) | ((with_reducible refine gate_callee (f := 44) rfl ?_); refine goesL_ (some 117) rfl rfl Try.func44 Zq2 rfl #[.slice A51 ycb.length c51] rfl Zq8 ?_; (with_reducible refine (prop_Wide.calls k2 _ _ ycb tce tgl _ ?side1 ?side2 A43.out).mono ?_); (case side1 => repeat (first | exact (by repeat (first | (with_reducible exact HRer.out) | (with_reducible refine Kd.C_alloc ?_ _) | (with_reducible refine Kd.C_drewN ?_ _) | (with_reducible refine Kd.C_drew ?_) | exact HRer.out)) | (with_reducible refine Kd.C_alloc ?_ _) | (with_reducible refine Kd.C_drewN ?_ _) | (with_reducible refine Kd.C_drew ?_))); (case side2 => exact HCer.out); rintro e w' ⟨rfl, ⟨nd, rfl⟩⟩; refine ⟨_, rfl, ?_⟩) | ((with_reducible refine gate_builtin (b := .append) (xs := #[.tmp 120, .tmp 125]) rfl ?_); (try (refine gate_guard Zq3 ?_; dsimp only)); at_builtin; refine Kd.R_append k46 (w0 := w) w.heap.size rfl (.tmp 120) (.tmp 125) 36 46 (.agg #[(.int .u64 0), (.int .u64 0), (.int .u64 0)]) 24 rfl Try.underlying36 info46 rfl Zq7 Zq1 u16 x16_2 (⟨tcB, tcn, tce⟩ : S46) [.int .u64 tcB, .int .u64 tcn, .int .u64 tce] (fun _ => True) (fun _ => False) rfl rfl ?aP (fun _ hk => hk.elim) ?aF ?aO ?aB ?aS ?aL ?_; (case aP => exact k46_mkM _ _ _ (⟨tcB, tcn, tce⟩ : S46)); (case aB => exact Zq20); (case aF => exact (fun _ _ => trivial)); (case aO => exact Zq70); (case aS => exact (below_size Zq20)); (case aL => have := LMc44.out; omega); intro v231 w52 ho hb hg hat; rw [← NycT.out] at ho; have n0_ := Ak (Kd.Q_over' Zq84 (Kd.R_typed Zq70) Zq7 hg); have n1_ := Ak (blk_grown (g := gbaH) (o := .cells #[.string a0_0, .slice A0_1 l0_1.length c0_1, .slice A0_2 l0_2.length c0_2] 30 (0, 0)) Zq22 hg (Kd.R_ne HO_16.out BKaH.out Zq7)); have n2_ := Ak (blk_grown (g := gbaq) (o := .cells #[.string a1_0, .slice A1_1 l1_1.length c1_1, .slice A1_2 l1_2.length c1_2] 30 (0, 0)) Zq39 hg (Kd.R_ne HO_16.out BKaq.out Zq7)); have n3_ := Ak (hb); have n4_ := Ak ((show Kd.C (Kd.int .u32) w52 Ao48 yco.length yco from by rw [Nyco.out]; exact Kd.C_take (m := (tah : Int).toNat) ((Kd.Q_reads' (Kd.Q_over' Zq84 (Kd.R_typed Zq70) Zq7 hg)).2.2) KL49.out)); have n5_ := Ak ((show Kd.C (Kd.int .u32) w52 A50 yca.length yca from by rw [Nyca.out, KA50.out]; exact Kd.C_mid (lo := (tah : Int).toNat) (hi := ((ji39) : Int).toNat) (c := co48) ((Kd.Q_reads' (Kd.Q_over' Zq84 (Kd.R_typed Zq70) Zq7 hg)).2.2) KM50.out KL50.out ((Kd.Q_reads' (Kd.Q_over' Zq84 (Kd.R_typed Zq70) Zq7 hg)).2.1))); have n6_ := Ak ((show Kd.C (Kd.int .u32) w52 A51 ycb.length ycb from by rw [Nycb.out, KA51.out]; exact Kd.C_mid (lo := ((ji39) : Int).toNat) (hi := ((ji45) : Int).toNat) (c := co48) ((Kd.Q_reads' (Kd.Q_over' Zq84 (Kd.R_typed Zq70) Zq7 hg)).2.2) KM51.out KL51.out ((Kd.Q_reads' (Kd.Q_over' Zq84 (Kd.R_typed Zq70) Zq7 hg)).2.1))); have n7_ := Ak (ho); clear HO_14 BKaH BKaq HB HRep HReq HRer HO_16; have HO_14 := n0_; have BKaH := n1_; have BKaq := n2_; have HB := n3_; have HRep := n4_; have HReq := n5_; have HRer := n6_; have HOgm := n7_; clear n0_ n1_ n2_ n3_ n4_ n5_ n6_ n7_ ho hb hg hat; have q53 : ((ji45) : Int) ≤ ((x14_2.length : Int) : Int) := of_decide_eq_true Zq4; obtain ⟨i053, hi053, _, hsz53, _⟩ := info_parts info32; have hcut53 := cut_from (P := Try.prog) 86 32 .i64 Try.underlying86 hi053 1 hsz53 Ao48 x14_2.length co48 (ji45) (of_decide_eq_true Zq4) q53; have hr53 := Kd.Q_drop (k := ((ji45) : Int).toNat) HO_14.out Zq1; obtain ⟨A53, hA53⟩ : ∃ A1, A1 = (if co48 = ((ji45) : Int).toNat then Ao48 else (Ao48 : Option Addr).map (·.add (((ji45) : Int).toNat * 1))) := ⟨_, rfl⟩; obtain ⟨c53, hc53⟩ : ∃ c1, c1 = co48 - ((ji45) : Int).toNat := ⟨_, rfl⟩; have hy53 : ycD.length = x14_2.length - ((ji45) : Int).toNat := (by rw [NycD.out, List.length_drop]); rw [← NycD.out] at hr53; rw [← hy53, ← hA53, ← hc53] at hcut53; replace hr53 : Kd.Q (Kd.int .u32) 32 w52 w.heap.size (fun _ => True) (.slice A53 ycD.length c53) ycD := (by rw [hA53, hc53, hy53]; exact hr53); have HE53 : Aside0 ((Value.slice A53 ycD.length c53).ownBlock = (.slice Ao48 x14_2.length co48 : Value).ownBlock) := ⟨by rw [hA53]; split <;> (cases (Ao48 : Option Addr) <;> first | rfl | (simp only [Option.map_some, Option.map_none, Value.ownBlock]; done) | (simp only [Option.map_some, Value.ownBlock]; unfold Addr.add; split <;> rfl))⟩; clear hy53 hi053 hsz53 HO_14 hA53 hc53; have HOgn := Ak hr53; clear hr53; replace q53 := eq_true q53))
                    first | (go_roundg k2) | ((try subst hji39); (try subst hji45); go_roundg k2)
                    case measure => have := HJ8.out; have := HK2.out; omega
                    case rel => exact ⟨(ycD), (ycT), H', ⟨by have := HJ8.out; have := HK2.out; omega⟩, ⟨by (with_reducible repeat (first | apply Kd.Q_alloc | apply Kd.Q_drewN | apply Kd.Q_drew)); exact HOgn.out⟩, ⟨by (with_reducible repeat (first | apply Kd.R_alloc | apply Kd.R_drewN | apply Kd.R_drew)); exact HOgm.out⟩, ⟨Zq22⟩, ⟨Zq39⟩, ⟨Zq20⟩⟩
                   ·rw [if_neg c46] at H; exact absurd H Zq9
                  ·rw [if_neg c44] at H; exact absurd H Zq9
                 ·rw [if_neg c42] at H; exact absurd H Zq9
                ·rw [if_neg c41] at H; exact absurd H Zq9
               ·rw [if_neg c40] at H; exact absurd H Zq9
              ·rw [if_neg c37] at H; exact absurd H Zq9
             ·rw [if_neg c36] at H; exact absurd H Zq9
            ·rw [if_neg c33] at H; exact absurd H Zq9
           ·rw [if_neg c32] at H; exact absurd H Zq9
          ·rw [if_neg c31] at H; have c31b0 : decide (0 < (x14_2.length : Int)) = false := decide_eq_false c31; have c31b1 : decide (0 < x14_2.length) = false := decide_eq_false Zq1; clear c31; simp only [Option.some.injEq, Prod.mk.injEq] at H; obtain ⟨rfl, rfl, rfl⟩ := H; obtain ⟨Ao54, co54, eo54, _⟩ := Kd.Q_slice HO_14.out; subst eo54
           go_wp2
           go_ret3
           exact ⟨_, Zq11, Zq70, Zq20⟩
   ·rw [if_neg c8] at H; have c8b0 : (tdF == 0) = false := beq_eq_false_iff_ne.mpr c8; have c8b1 : (tdF != 0) = true := bne_iff_ne.mpr c8; simp only [Option.some.injEq, Prod.mk.injEq] at H; obtain ⟨rfl, rfl, rfl⟩ := H
    go_enter Try.func17, Try.ntmps17
    go_wp2_with (first | ((with_reducible refine gate_dst (N := 2) rfl ?_); (try (refine gate_guard Zq3 ?_; dsimp only)); refine box_event ?hg (N := 2) ?hd (cs := #[.string a0_0, .slice A0_1 l0_1.length c0_1, .slice A0_2 l0_2.length c0_2]) (t := 30) ?hr ?_; (case hd | hg => rfl); (case hr => first | (go_simp; done) | (go_simp; rfl)); intro gbaH hg w55 hbox hb; have n0_ := Zq140; have n1_ := Ak (hbox); have n2_ := Zq176; have n3_ := Zq176; clear HB; have HB := n0_; have BKaH := n1_; have GWaH := n2_; have GEaH := n3_; clear n0_ n1_ n2_ n3_ hb hbox hg) | ((with_reducible refine gate_dst (N := 3) rfl ?_); (try (refine gate_guard Zq3 ?_; dsimp only)); refine box_event ?hg (N := 3) ?hd (cs := #[.string a1_0, .slice A1_1 l1_1.length c1_1, .slice A1_2 l1_2.length c1_2]) (t := 30) ?hr ?_; (case hd | hg => rfl); (case hr => first | (go_simp; done) | (go_simp; rfl)); intro gbaq hg w56 hbox hb; have n0_ := Zq139; have n1_ := Ak (below_step Zq53 hb); have n2_ := Ak (hbox); have n3_ := Zq170; have n4_ := Zq170; have n5_ := Zq268; have n6_ := Zq269; clear BKaH HB; have BKaH := n0_; have HB := n1_; have BKaq := n2_; have GWaq := n3_; have GEaq := n4_; have NB193_194 := n5_; have NB194_193 := n6_; clear n0_ n1_ n2_ n3_ n4_ n5_ n6_ hb hbox hg; have hnb57 := NB194_193.out; have hnc57 := NB193_194.out; have hcz58_0 : w56.cell? ⟨gbaq, 0, none⟩ = some (.string a1_0) := (blk_cell BKaq.out 0).trans rfl; have hcz58_1 : w56.cell? ⟨gbaq, 1, none⟩ = some (.slice A1_1 l1_1.length c1_1) := (blk_cell BKaq.out 1).trans rfl; have hcz58_2 : w56.cell? ⟨gbaq, 2, none⟩ = some (.slice A1_2 l1_2.length c1_2) := (blk_cell BKaq.out 2).trans rfl; have hfz58_0 := blk_frozen BKaq.out 0; have hfz58_1 := blk_frozen BKaq.out 1; have hfz58_2 := blk_frozen BKaq.out 2) | ((with_reducible refine gate_callee (f := 31) rfl ?_); refine goesL_ (some 25) rfl rfl Try.func31 Zq2 rfl #[.agg #[.string a1_0, .slice A1_1 l1_1.length c1_1, .slice A1_2 l1_2.length c1_2], .string (⟨#[114, 97, 110, 103, 101, 115]⟩ : ByteArray)] rfl Zq8 ?_; (with_reducible refine (tree_Find.calls k a1_0 _ _ l1_1 _ _ l1_2 (⟨#[114, 97, 110, 103, 101, 115]⟩ : ByteArray) tbo true _ ?side1 ?side2 ?side3 ?side4 A3.out).mono ?_); (case side1 => repeat (first | exact Zq204 | (with_reducible refine Kd.C_alloc ?_ _) | (with_reducible refine Kd.C_drewN ?_ _) | (with_reducible refine Kd.C_drew ?_))); (case side2 => exact HC1_1.out); (case side3 => repeat (first | exact Zq205 | (with_reducible refine Kd.C_alloc ?_ _) | (with_reducible refine Kd.C_drewN ?_ _) | (with_reducible refine Kd.C_drew ?_))); (case side4 => exact HC1_2.out); rintro e w59 ⟨v196, rfl, ho0, hb⟩; refine ⟨_, rfl, ?_⟩; have n0_ := Zq237; have n1_ := Zq139; have n2_ := Zq143; have n3_ := Zq206; clear BKaH BKaq HB; have HOcC := n0_; have BKaH := n1_; have BKaq := n2_; have HB := n3_; clear n0_ n1_ n2_ n3_; (try clear hb); (try clear hb2); (try clear hk); (try clear hi); (try clear ho0); have hcz60_0 : w59.cell? ⟨gbaq, 0, none⟩ = some (.string a1_0) := (blk_cell BKaq.out 0).trans rfl; have hcz60_1 : w59.cell? ⟨gbaq, 1, none⟩ = some (.slice A1_1 l1_1.length c1_1) := (blk_cell BKaq.out 1).trans rfl; have hcz60_2 : w59.cell? ⟨gbaq, 2, none⟩ = some (.slice A1_2 l1_2.length c1_2) := (blk_cell BKaq.out 2).trans rfl; have hfz60_0 := blk_frozen BKaq.out 0; have hfz60_1 := blk_frozen BKaq.out 1; have hfz60_2 := blk_frozen BKaq.out 2) | ((with_reducible refine gate_callee (f := 42) rfl ?_); refine goesL_ (some 32) rfl rfl Try.func42 Zq2 rfl #[.agg #[.string a1_0, .slice A1_1 l1_1.length c1_1, .slice A1_2 l1_2.length c1_2]] rfl Zq8 ?_; (with_reducible refine (region_Counts.calls k a1_0 _ _ l1_1 _ _ l1_2 tah taL tdl _ ?side1 ?side2 ?side3 ?side4 A5.out).mono ?_); (case side1 => repeat (first | exact Zq204 | (with_reducible refine Kd.C_alloc ?_ _) | (with_reducible refine Kd.C_drewN ?_ _) | (with_reducible refine Kd.C_drew ?_))); (case side2 => exact HC1_1.out); (case side3 => repeat (first | exact Zq205 | (with_reducible refine Kd.C_alloc ?_ _) | (with_reducible refine Kd.C_drewN ?_ _) | (with_reducible refine Kd.C_drew ?_))); (case side4 => exact HC1_2.out); rintro e w61 ⟨rfl, hb⟩; refine ⟨_, rfl, ?_⟩; have n0_ := Ak (Kd.R_below Zq69 hb); have n1_ := Zq139; have n2_ := Zq143; have n3_ := Zq206; clear HOcC BKaH BKaq HB; have HOcC := n0_; have BKaH := n1_; have BKaq := n2_; have HB := n3_; clear n0_ n1_ n2_ n3_; (try clear hb); (try clear hb2); (try clear hk); (try clear hi); have hcz62_0 : w61.cell? ⟨gbaH, 0, none⟩ = some (.string a0_0) := (blk_cell BKaH.out 0).trans rfl; have hcz62_1 : w61.cell? ⟨gbaH, 1, none⟩ = some (.slice A0_1 l0_1.length c0_1) := (blk_cell BKaH.out 1).trans rfl; have hcz62_2 : w61.cell? ⟨gbaH, 2, none⟩ = some (.slice A0_2 l0_2.length c0_2) := (blk_cell BKaH.out 2).trans rfl; have hfz62_0 := blk_frozen BKaH.out 0; have hfz62_1 := blk_frozen BKaH.out 1; have hfz62_2 := blk_frozen BKaH.out 2) | ((with_reducible refine gate_callee (f := 42) rfl ?_); refine goesL_ (some 41) rfl rfl Try.func42 Zq2 rfl #[.agg #[.string a0_0, .slice A0_1 l0_1.length c0_1, .slice A0_2 l0_2.length c0_2]] rfl Zq8 ?_; (with_reducible refine (region_Counts.calls k a0_0 _ _ l0_1 _ _ l0_2 tap tfJ tdF _ ?side1 ?side2 ?side3 ?side4 A7.out).mono ?_); (case side1 => repeat (first | exact Zq142 | (with_reducible refine Kd.C_alloc ?_ _) | (with_reducible refine Kd.C_drewN ?_ _) | (with_reducible refine Kd.C_drew ?_))); (case side2 => exact HC0_1.out); (case side3 => repeat (first | exact Zq161 | (with_reducible refine Kd.C_alloc ?_ _) | (with_reducible refine Kd.C_drewN ?_ _) | (with_reducible refine Kd.C_drew ?_))); (case side4 => exact HC0_2.out); rintro e w63 ⟨rfl, hb⟩; refine ⟨_, rfl, ?_⟩; have n0_ := Ak (Kd.R_below Zq69 hb); have n1_ := Zq139; have n2_ := Zq143; have n3_ := Zq206; clear HOcC BKaH BKaq HB; have HOcC := n0_; have BKaH := n1_; have BKaq := n2_; have HB := n3_; clear n0_ n1_ n2_ n3_; (try clear hb); (try clear hb2); (try clear hk); (try clear hi)))
    go_ret3
    exact ⟨_, Zq11, Zq38, Zq20⟩
  ·rw [if_neg c6] at H; have c6b0 : (tdl == 0) = false := beq_eq_false_iff_ne.mpr c6; have c6b1 : (tdl != 0) = true := bne_iff_ne.mpr c6; simp only [Option.some.injEq, Prod.mk.injEq] at H; obtain ⟨rfl, rfl, rfl⟩ := H
   go_enter Try.func17, Try.ntmps17
   go_wp2_with (first | ((with_reducible refine gate_dst (N := 2) rfl ?_); (try (refine gate_guard Zq3 ?_; dsimp only)); refine box_event ?hg (N := 2) ?hd (cs := #[.string a0_0, .slice A0_1 l0_1.length c0_1, .slice A0_2 l0_2.length c0_2]) (t := 30) ?hr ?_; (case hd | hg => rfl); (case hr => first | (go_simp; done) | (go_simp; rfl)); intro gbaH hg w64 hbox hb; have n0_ := Zq140; have n1_ := Ak (hbox); have n2_ := Zq176; have n3_ := Zq176; clear HB; have HB := n0_; have BKaH := n1_; have GWaH := n2_; have GEaH := n3_; clear n0_ n1_ n2_ n3_ hb hbox hg) | ((with_reducible refine gate_dst (N := 3) rfl ?_); (try (refine gate_guard Zq3 ?_; dsimp only)); refine box_event ?hg (N := 3) ?hd (cs := #[.string a1_0, .slice A1_1 l1_1.length c1_1, .slice A1_2 l1_2.length c1_2]) (t := 30) ?hr ?_; (case hd | hg => rfl); (case hr => first | (go_simp; done) | (go_simp; rfl)); intro gbaq hg w65 hbox hb; have n0_ := Zq139; have n1_ := Ak (below_step Zq53 hb); have n2_ := Ak (hbox); have n3_ := Zq170; have n4_ := Zq170; have n5_ := Zq268; have n6_ := Zq269; clear BKaH HB; have BKaH := n0_; have HB := n1_; have BKaq := n2_; have GWaq := n3_; have GEaq := n4_; have NB193_194 := n5_; have NB194_193 := n6_; clear n0_ n1_ n2_ n3_ n4_ n5_ n6_ hb hbox hg; have hnb66 := NB194_193.out; have hnc66 := NB193_194.out; have hcz67_0 : w65.cell? ⟨gbaq, 0, none⟩ = some (.string a1_0) := (blk_cell BKaq.out 0).trans rfl; have hcz67_1 : w65.cell? ⟨gbaq, 1, none⟩ = some (.slice A1_1 l1_1.length c1_1) := (blk_cell BKaq.out 1).trans rfl; have hcz67_2 : w65.cell? ⟨gbaq, 2, none⟩ = some (.slice A1_2 l1_2.length c1_2) := (blk_cell BKaq.out 2).trans rfl; have hfz67_0 := blk_frozen BKaq.out 0; have hfz67_1 := blk_frozen BKaq.out 1; have hfz67_2 := blk_frozen BKaq.out 2) | ((with_reducible refine gate_callee (f := 31) rfl ?_); refine goesL_ (some 25) rfl rfl Try.func31 Zq2 rfl #[.agg #[.string a1_0, .slice A1_1 l1_1.length c1_1, .slice A1_2 l1_2.length c1_2], .string (⟨#[114, 97, 110, 103, 101, 115]⟩ : ByteArray)] rfl Zq8 ?_; (with_reducible refine (tree_Find.calls k a1_0 _ _ l1_1 _ _ l1_2 (⟨#[114, 97, 110, 103, 101, 115]⟩ : ByteArray) tbo true _ ?side1 ?side2 ?side3 ?side4 A3.out).mono ?_); (case side1 => repeat (first | exact Zq204 | (with_reducible refine Kd.C_alloc ?_ _) | (with_reducible refine Kd.C_drewN ?_ _) | (with_reducible refine Kd.C_drew ?_))); (case side2 => exact HC1_1.out); (case side3 => repeat (first | exact Zq205 | (with_reducible refine Kd.C_alloc ?_ _) | (with_reducible refine Kd.C_drewN ?_ _) | (with_reducible refine Kd.C_drew ?_))); (case side4 => exact HC1_2.out); rintro e w68 ⟨v196, rfl, ho0, hb⟩; refine ⟨_, rfl, ?_⟩; have n0_ := Zq237; have n1_ := Zq139; have n2_ := Zq143; have n3_ := Zq206; clear BKaH BKaq HB; have HOcC := n0_; have BKaH := n1_; have BKaq := n2_; have HB := n3_; clear n0_ n1_ n2_ n3_; (try clear hb); (try clear hb2); (try clear hk); (try clear hi); (try clear ho0); have hcz69_0 : w68.cell? ⟨gbaq, 0, none⟩ = some (.string a1_0) := (blk_cell BKaq.out 0).trans rfl; have hcz69_1 : w68.cell? ⟨gbaq, 1, none⟩ = some (.slice A1_1 l1_1.length c1_1) := (blk_cell BKaq.out 1).trans rfl; have hcz69_2 : w68.cell? ⟨gbaq, 2, none⟩ = some (.slice A1_2 l1_2.length c1_2) := (blk_cell BKaq.out 2).trans rfl; have hfz69_0 := blk_frozen BKaq.out 0; have hfz69_1 := blk_frozen BKaq.out 1; have hfz69_2 := blk_frozen BKaq.out 2) | ((with_reducible refine gate_callee (f := 42) rfl ?_); refine goesL_ (some 32) rfl rfl Try.func42 Zq2 rfl #[.agg #[.string a1_0, .slice A1_1 l1_1.length c1_1, .slice A1_2 l1_2.length c1_2]] rfl Zq8 ?_; (with_reducible refine (region_Counts.calls k a1_0 _ _ l1_1 _ _ l1_2 tah taL tdl _ ?side1 ?side2 ?side3 ?side4 A5.out).mono ?_); (case side1 => repeat (first | exact Zq204 | (with_reducible refine Kd.C_alloc ?_ _) | (with_reducible refine Kd.C_drewN ?_ _) | (with_reducible refine Kd.C_drew ?_))); (case side2 => exact HC1_1.out); (case side3 => repeat (first | exact Zq205 | (with_reducible refine Kd.C_alloc ?_ _) | (with_reducible refine Kd.C_drewN ?_ _) | (with_reducible refine Kd.C_drew ?_))); (case side4 => exact HC1_2.out); rintro e w70 ⟨rfl, hb⟩; refine ⟨_, rfl, ?_⟩; have n0_ := Ak (Kd.R_below Zq69 hb); have n1_ := Zq139; have n2_ := Zq143; have n3_ := Zq206; clear HOcC BKaH BKaq HB; have HOcC := n0_; have BKaH := n1_; have BKaq := n2_; have HB := n3_; clear n0_ n1_ n2_ n3_; (try clear hb); (try clear hb2); (try clear hk); (try clear hi)))
   go_ret3
   exact ⟨_, Zq11, Zq38, Zq20⟩
 ·replace c4 := Bool.eq_false_iff.mpr c4; subst c4
  have H1 : (some (([] : List (S46)), false, 0)) = some (r1, r2, r3) := by rw [if_neg (show ¬ (false = true) by decide)] at H; exact H
  clear H; have H := H1; clear H1; simp only [Option.some.injEq, Prod.mk.injEq] at H; obtain ⟨rfl, rfl, rfl⟩ := H
  go_enter Try.func17, Try.ntmps17
  go_wp2_with (first | ((with_reducible refine gate_dst (N := 2) rfl ?_); (try (refine gate_guard Zq3 ?_; dsimp only)); refine box_event ?hg (N := 2) ?hd (cs := #[.string a0_0, .slice A0_1 l0_1.length c0_1, .slice A0_2 l0_2.length c0_2]) (t := 30) ?hr ?_; (case hd | hg => rfl); (case hr => first | (go_simp; done) | (go_simp; rfl)); intro gbaH hg w71 hbox hb; have n0_ := Zq140; have n1_ := Ak (hbox); have n2_ := Zq176; have n3_ := Zq176; clear HB; have HB := n0_; have BKaH := n1_; have GWaH := n2_; have GEaH := n3_; clear n0_ n1_ n2_ n3_ hb hbox hg) | ((with_reducible refine gate_dst (N := 3) rfl ?_); (try (refine gate_guard Zq3 ?_; dsimp only)); refine box_event ?hg (N := 3) ?hd (cs := #[.string a1_0, .slice A1_1 l1_1.length c1_1, .slice A1_2 l1_2.length c1_2]) (t := 30) ?hr ?_; (case hd | hg => rfl); (case hr => first | (go_simp; done) | (go_simp; rfl)); intro gbaq hg w72 hbox hb; have n0_ := Zq139; have n1_ := Ak (below_step Zq53 hb); have n2_ := Ak (hbox); have n3_ := Zq170; have n4_ := Zq170; have n5_ := Zq268; have n6_ := Zq269; clear BKaH HB; have BKaH := n0_; have HB := n1_; have BKaq := n2_; have GWaq := n3_; have GEaq := n4_; have NB193_194 := n5_; have NB194_193 := n6_; clear n0_ n1_ n2_ n3_ n4_ n5_ n6_ hb hbox hg; have hnb73 := NB194_193.out; have hnc73 := NB193_194.out; have hcz74_0 : w72.cell? ⟨gbaq, 0, none⟩ = some (.string a1_0) := (blk_cell BKaq.out 0).trans rfl; have hcz74_1 : w72.cell? ⟨gbaq, 1, none⟩ = some (.slice A1_1 l1_1.length c1_1) := (blk_cell BKaq.out 1).trans rfl; have hcz74_2 : w72.cell? ⟨gbaq, 2, none⟩ = some (.slice A1_2 l1_2.length c1_2) := (blk_cell BKaq.out 2).trans rfl; have hfz74_0 := blk_frozen BKaq.out 0; have hfz74_1 := blk_frozen BKaq.out 1; have hfz74_2 := blk_frozen BKaq.out 2) | ((with_reducible refine gate_callee (f := 31) rfl ?_); refine goesL_ (some 25) rfl rfl Try.func31 Zq2 rfl #[.agg #[.string a1_0, .slice A1_1 l1_1.length c1_1, .slice A1_2 l1_2.length c1_2], .string (⟨#[114, 97, 110, 103, 101, 115]⟩ : ByteArray)] rfl Zq8 ?_; (with_reducible refine (tree_Find.calls k a1_0 _ _ l1_1 _ _ l1_2 (⟨#[114, 97, 110, 103, 101, 115]⟩ : ByteArray) tbo false _ ?side1 ?side2 ?side3 ?side4 A3.out).mono ?_); (case side1 => repeat (first | exact Zq204 | (with_reducible refine Kd.C_alloc ?_ _) | (with_reducible refine Kd.C_drewN ?_ _) | (with_reducible refine Kd.C_drew ?_))); (case side2 => exact HC1_1.out); (case side3 => repeat (first | exact Zq205 | (with_reducible refine Kd.C_alloc ?_ _) | (with_reducible refine Kd.C_drewN ?_ _) | (with_reducible refine Kd.C_drew ?_))); (case side4 => exact HC1_2.out); rintro e w75 ⟨v196, rfl, ho0, hb⟩; refine ⟨_, rfl, ?_⟩; have n0_ := Zq237; have n1_ := Zq139; have n2_ := Zq143; have n3_ := Zq206; clear BKaH BKaq HB; have HOcC := n0_; have BKaH := n1_; have BKaq := n2_; have HB := n3_; clear n0_ n1_ n2_ n3_; (try clear hb); (try clear hb2); (try clear hk); (try clear hi); (try clear ho0)))
  go_ret3
  exact ⟨_, Zq11, Zq38, Zq20⟩
def region_whole.f (a0_0 : Int) (a0_1 : Int) : Option (Bool) := if a0_1 = 0 then (some true) else (some (decide ((IntKind.u64.wrap (a0_1 - 1)) ≤ (IntKind.u64.wrap (18446744073709551615 - a0_0)))))
end Go.Proofs.Yteejaaeglfpcmab.PX

namespace Go.Proofs.Yteejaaeglfpcmab.PX
open Go.RowKit Go.Proofs.YteejaaeglfpcmabW.PrintWords Go.Proofs.YteejaaeglfpcmabW.PrintLast Go.Proofs.YteejaaeglfpcmabW.PrintMore
attribute [local go_sem] max2_int min2_int max_two min_two max_three min_three max_four min_four
set_option maxHeartbeats 8000000 in
set_option maxRecDepth 100000 in
theorem region_whole.calls (a0_0 : Int) (a0_1 : Int) (r : Bool) (w : World) (h : region_whole.f a0_0 a0_1 = some r) :
  Calls Try.prog 91 #[.agg #[.int .u64 a0_0, .int .u64 a0_1]] w fun e w' => e = .returned (.bool r) ∧ Below w.heap.size w w' := by
 have hu67 := Try.underlying67; have HB := Zq145; have H : (if a0_1 = 0 then (some true) else (some (decide ((IntKind.u64.wrap (a0_1 - 1)) ≤ (IntKind.u64.wrap (18446744073709551615 - a0_0)))))) = some r := h; clear h
 by_cases c2 : a0_1 = 0
 ·rw [if_pos c2] at H; have c2b0 : (a0_1 == 0) = true := beq_iff_eq.mpr c2; have c2b1 : (a0_1 != 0) = false := bne_eq_false_iff_eq.mpr c2; clear c2; obtain rfl := Option.some.inj H
  go_enter Try.func91, Try.ntmps91
  go_wp2_with (first | ((with_reducible refine gate_dst (N := 1) rfl ?_); refine box_event ?hg (N := 1) ?hd (cs := #[.int .u64 a0_0, .int .u64 a0_1]) (t := 67) ?hr ?_; (case hd | hg => rfl); (case hr => first | (go_simp; done) | (go_simp; rfl)); intro gbbW hg w3 hbox hb; have n0_ := Zq140; have n1_ := Ak (hbox); have n2_ := Zq223; have n3_ := Zq223; clear HB; have HB := n0_; have BKbW := n1_; have GWbW := n2_; have GEbW := n3_; clear n0_ n1_ n2_ n3_ hb hbox hg; have hcz4_0 : w3.cell? ⟨gbbW, 0, none⟩ = some (.int .u64 a0_0) := (blk_cell BKbW.out 0).trans rfl; have hcz4_1 : w3.cell? ⟨gbbW, 1, none⟩ = some (.int .u64 a0_1) := (blk_cell BKbW.out 1).trans rfl; have hfz4_0 := blk_frozen BKbW.out 0; have hfz4_1 := blk_frozen BKbW.out 1))
  go_ret
  exact ⟨Zq11, by repeat (first | (with_reducible first | exact HB.out | apply below_alloc | apply pw_below_drewN | apply below_drew1 | refine below_set ?_ GEbW.out) | exact HB.out)⟩
 ·rw [if_neg c2] at H; have c2b0 : (a0_1 == 0) = false := beq_eq_false_iff_ne.mpr c2; have c2b1 : (a0_1 != 0) = true := bne_iff_ne.mpr c2; obtain rfl := Option.some.inj H
  go_enter Try.func91, Try.ntmps91
  go_wp2_with (first | ((with_reducible refine gate_dst (N := 1) rfl ?_); refine box_event ?hg (N := 1) ?hd (cs := #[.int .u64 a0_0, .int .u64 a0_1]) (t := 67) ?hr ?_; (case hd | hg => rfl); (case hr => first | (go_simp; done) | (go_simp; rfl)); intro gbbW hg w5 hbox hb; have n0_ := Zq140; have n1_ := Ak (hbox); have n2_ := Zq223; have n3_ := Zq223; clear HB; have HB := n0_; have BKbW := n1_; have GWbW := n2_; have GEbW := n3_; clear n0_ n1_ n2_ n3_ hb hbox hg; have hcz6_0 : w5.cell? ⟨gbbW, 0, none⟩ = some (.int .u64 a0_0) := (blk_cell BKbW.out 0).trans rfl; have hcz6_1 : w5.cell? ⟨gbbW, 1, none⟩ = some (.int .u64 a0_1) := (blk_cell BKbW.out 1).trans rfl; have hfz6_0 := blk_frozen BKbW.out 0; have hfz6_1 := blk_frozen BKbW.out 1))
  go_ret
  exact ⟨Zq11, by repeat (first | (with_reducible first | exact HB.out | apply below_alloc | apply pw_below_drewN | apply below_drew1 | refine below_set ?_ GEbW.out) | exact HB.out)⟩
def region_Inside.f (a0_0 : Int) (a0_1 : Int) (a1 : Int) (a2 : Int) : Option (Bool) := (region_whole.f a0_0 a0_1).bind fun tet => (if tet = true then ((region_whole.f a1 a2).bind fun tdn => (if tdn = true then (if a2 > 0 then (if a1 ≥ a0_0 then (if (IntKind.u64.wrap (a1 - a0_0)) < a0_1 then (some (decide (a2 ≤ (IntKind.u64.wrap (a0_1 - (IntKind.u64.wrap (a1 - a0_0))))))) else (some false)) else (some false)) else (some false)) else (some false))) else (some false))
set_option maxHeartbeats 8000000 in
set_option maxRecDepth 100000 in
theorem region_Inside.calls (a0_0 : Int) (a0_1 : Int) (a1 : Int) (a2 : Int) (r : Bool) (w : World) (h : region_Inside.f a0_0 a0_1 a1 a2 = some r) :
  Calls Try.prog 76 #[.agg #[.int .u64 a0_0, .int .u64 a0_1], .int .u64 a1, .int .u64 a2] w fun e w' => e = .returned (.bool r) ∧ Below w.heap.size w w' := by
 have hu67 := Try.underlying67; have HB := Zq145; have H : ((region_whole.f a0_0 a0_1).bind fun tet => (if tet = true then ((region_whole.f a1 a2).bind fun tdn => (if tdn = true then (if a2 > 0 then (if a1 ≥ a0_0 then (if (IntKind.u64.wrap (a1 - a0_0)) < a0_1 then (some (decide (a2 ≤ (IntKind.u64.wrap (a0_1 - (IntKind.u64.wrap (a1 - a0_0))))))) else (some false)) else (some false)) else (some false)) else (some false))) else (some false))) = some r := h; clear h; replace H := Option.bind_eq_some_iff.mp H; obtain ⟨tet, A40, H⟩ := H; replace H : (if tet = true then ((region_whole.f a1 a2).bind fun tdn => (if tdn = true then (if a2 > 0 then (if a1 ≥ a0_0 then (if (IntKind.u64.wrap (a1 - a0_0)) < a0_1 then (some (decide (a2 ≤ (IntKind.u64.wrap (a0_1 - (IntKind.u64.wrap (a1 - a0_0))))))) else (some false)) else (some false)) else (some false)) else (some false))) else (some false)) = some r := H; have A4 := Ak A40; clear A40
 by_cases c5 : tet = true
 ·subst c5
  have H1 : ((region_whole.f a1 a2).bind fun tdn => (if tdn = true then (if a2 > 0 then (if a1 ≥ a0_0 then (if (IntKind.u64.wrap (a1 - a0_0)) < a0_1 then (some (decide (a2 ≤ (IntKind.u64.wrap (a0_1 - (IntKind.u64.wrap (a1 - a0_0))))))) else (some false)) else (some false)) else (some false)) else (some false))) = some r := by rw [if_pos rfl] at H; exact H
  clear H; have H := H1; clear H1; replace H := Option.bind_eq_some_iff.mp H; obtain ⟨tdn, A60, H⟩ := H; replace H : (if tdn = true then (if a2 > 0 then (if a1 ≥ a0_0 then (if (IntKind.u64.wrap (a1 - a0_0)) < a0_1 then (some (decide (a2 ≤ (IntKind.u64.wrap (a0_1 - (IntKind.u64.wrap (a1 - a0_0))))))) else (some false)) else (some false)) else (some false)) else (some false)) = some r := H; have A6 := Ak A60; clear A60
  by_cases c7 : tdn = true
  ·subst c7
   have H1 : (if a2 > 0 then (if a1 ≥ a0_0 then (if (IntKind.u64.wrap (a1 - a0_0)) < a0_1 then (some (decide (a2 ≤ (IntKind.u64.wrap (a0_1 - (IntKind.u64.wrap (a1 - a0_0))))))) else (some false)) else (some false)) else (some false)) = some r := by rw [if_pos rfl] at H; exact H
   clear H; have H := H1; clear H1
   by_cases c8 : a2 > 0
   ·rw [if_pos c8] at H; have c8b0 : decide (0 < a2) = true := decide_eq_true c8; clear c8
    by_cases c9 : a1 ≥ a0_0
    ·rw [if_pos c9] at H; have c9b0 : decide (a0_0 ≤ a1) = true := decide_eq_true c9; clear c9
     by_cases c10 : (IntKind.u64.wrap (a1 - a0_0)) < a0_1
     ·rw [if_pos c10] at H; have c10b0 : decide ((IntKind.u64.wrap (a1 - a0_0)) < a0_1) = true := decide_eq_true c10; clear c10; obtain rfl := Option.some.inj H
      go_enter Try.func76, Try.ntmps76
      go_wp2_with (first | ((with_reducible refine gate_dst (N := 3) rfl ?_); refine box_event ?hg (N := 3) ?hd (cs := #[.int .u64 a0_0, .int .u64 a0_1]) (t := 67) ?hr ?_; (case hd | hg => rfl); (case hr => first | (go_simp; done) | (go_simp; rfl)); intro gbaw hg w11 hbox hb; have n0_ := Zq140; have n1_ := Ak (hbox); have n2_ := Zq154; have n3_ := Zq154; clear HB; have HB := n0_; have BKaw := n1_; have GWaw := n2_; have GEaw := n3_; clear n0_ n1_ n2_ n3_ hb hbox hg; have hcz12_0 : w11.cell? ⟨gbaw, 0, none⟩ = some (.int .u64 a0_0) := (blk_cell BKaw.out 0).trans rfl; have hcz12_1 : w11.cell? ⟨gbaw, 1, none⟩ = some (.int .u64 a0_1) := (blk_cell BKaw.out 1).trans rfl; have hfz12_0 := blk_frozen BKaw.out 0; have hfz12_1 := blk_frozen BKaw.out 1) | ((with_reducible refine gate_callee (f := 91) rfl ?_); refine goesL_ (some 8) rfl rfl Try.func91 Zq2 rfl #[.agg #[.int .u64 a0_0, .int .u64 a0_1]] rfl Zq8 ?_; (with_reducible refine (region_whole.calls a0_0 a0_1 true _ A4.out).mono ?_); rintro e w13 ⟨rfl, hb⟩; refine ⟨_, rfl, ?_⟩; have n0_ := Zq146; have n1_ := Zq207; clear BKaw HB; have BKaw := n0_; have HB := n1_; clear n0_ n1_; (try clear hb); (try clear hb2); (try clear hk); (try clear hi)) | (go_at_call 91; (with_reducible refine (region_whole.calls a1 a2 true _ A6.out).mono ?_); rintro e w14 ⟨rfl, hb⟩; have n0_ := Zq146; have n1_ := Zq207; clear BKaw HB; have BKaw := n0_; have HB := n1_; clear n0_ n1_; (try clear hb); (try clear hb2); (try clear hk); (try clear hi); have hcz15_0 : w14.cell? ⟨gbaw, 0, none⟩ = some (.int .u64 a0_0) := (blk_cell BKaw.out 0).trans rfl; have hcz15_1 : w14.cell? ⟨gbaw, 1, none⟩ = some (.int .u64 a0_1) := (blk_cell BKaw.out 1).trans rfl; have hfz15_0 := blk_frozen BKaw.out 0; have hfz15_1 := blk_frozen BKaw.out 1))
      go_ret
      exact ⟨Zq11, Zq40⟩
     ·rw [if_neg c10] at H; have c10b0 : decide ((IntKind.u64.wrap (a1 - a0_0)) < a0_1) = false := decide_eq_false c10; clear c10; obtain rfl := Option.some.inj H
      go_enter Try.func76, Try.ntmps76
      go_wp2_with (first | ((with_reducible refine gate_dst (N := 3) rfl ?_); refine box_event ?hg (N := 3) ?hd (cs := #[.int .u64 a0_0, .int .u64 a0_1]) (t := 67) ?hr ?_; (case hd | hg => rfl); (case hr => first | (go_simp; done) | (go_simp; rfl)); intro gbaw hg w16 hbox hb; have n0_ := Zq140; have n1_ := Ak (hbox); have n2_ := Zq154; have n3_ := Zq154; clear HB; have HB := n0_; have BKaw := n1_; have GWaw := n2_; have GEaw := n3_; clear n0_ n1_ n2_ n3_ hb hbox hg; have hcz17_0 : w16.cell? ⟨gbaw, 0, none⟩ = some (.int .u64 a0_0) := (blk_cell BKaw.out 0).trans rfl; have hcz17_1 : w16.cell? ⟨gbaw, 1, none⟩ = some (.int .u64 a0_1) := (blk_cell BKaw.out 1).trans rfl; have hfz17_0 := blk_frozen BKaw.out 0; have hfz17_1 := blk_frozen BKaw.out 1) | ((with_reducible refine gate_callee (f := 91) rfl ?_); refine goesL_ (some 8) rfl rfl Try.func91 Zq2 rfl #[.agg #[.int .u64 a0_0, .int .u64 a0_1]] rfl Zq8 ?_; (with_reducible refine (region_whole.calls a0_0 a0_1 true _ A4.out).mono ?_); rintro e w18 ⟨rfl, hb⟩; refine ⟨_, rfl, ?_⟩; have n0_ := Zq146; have n1_ := Zq207; clear BKaw HB; have BKaw := n0_; have HB := n1_; clear n0_ n1_; (try clear hb); (try clear hb2); (try clear hk); (try clear hi)) | (go_at_call 91; (with_reducible refine (region_whole.calls a1 a2 true _ A6.out).mono ?_); rintro e w19 ⟨rfl, hb⟩; have n0_ := Zq146; have n1_ := Zq207; clear BKaw HB; have BKaw := n0_; have HB := n1_; clear n0_ n1_; (try clear hb); (try clear hb2); (try clear hk); (try clear hi); have hcz20_0 : w19.cell? ⟨gbaw, 0, none⟩ = some (.int .u64 a0_0) := (blk_cell BKaw.out 0).trans rfl; have hcz20_1 : w19.cell? ⟨gbaw, 1, none⟩ = some (.int .u64 a0_1) := (blk_cell BKaw.out 1).trans rfl; have hfz20_0 := blk_frozen BKaw.out 0; have hfz20_1 := blk_frozen BKaw.out 1))
      go_ret
      exact ⟨Zq11, Zq40⟩
    ·rw [if_neg c9] at H; have c9b0 : decide (a0_0 ≤ a1) = false := decide_eq_false c9; clear c9; obtain rfl := Option.some.inj H
     go_enter Try.func76, Try.ntmps76
     go_wp2_with (first | ((with_reducible refine gate_dst (N := 3) rfl ?_); refine box_event ?hg (N := 3) ?hd (cs := #[.int .u64 a0_0, .int .u64 a0_1]) (t := 67) ?hr ?_; (case hd | hg => rfl); (case hr => first | (go_simp; done) | (go_simp; rfl)); intro gbaw hg w21 hbox hb; have n0_ := Zq140; have n1_ := Ak (hbox); have n2_ := Zq154; have n3_ := Zq154; clear HB; have HB := n0_; have BKaw := n1_; have GWaw := n2_; have GEaw := n3_; clear n0_ n1_ n2_ n3_ hb hbox hg; have hcz22_0 : w21.cell? ⟨gbaw, 0, none⟩ = some (.int .u64 a0_0) := (blk_cell BKaw.out 0).trans rfl; have hcz22_1 : w21.cell? ⟨gbaw, 1, none⟩ = some (.int .u64 a0_1) := (blk_cell BKaw.out 1).trans rfl; have hfz22_0 := blk_frozen BKaw.out 0; have hfz22_1 := blk_frozen BKaw.out 1) | ((with_reducible refine gate_callee (f := 91) rfl ?_); refine goesL_ (some 8) rfl rfl Try.func91 Zq2 rfl #[.agg #[.int .u64 a0_0, .int .u64 a0_1]] rfl Zq8 ?_; (with_reducible refine (region_whole.calls a0_0 a0_1 true _ A4.out).mono ?_); rintro e w23 ⟨rfl, hb⟩; refine ⟨_, rfl, ?_⟩; have n0_ := Zq146; have n1_ := Zq207; clear BKaw HB; have BKaw := n0_; have HB := n1_; clear n0_ n1_; (try clear hb); (try clear hb2); (try clear hk); (try clear hi)) | (go_at_call 91; (with_reducible refine (region_whole.calls a1 a2 true _ A6.out).mono ?_); rintro e w24 ⟨rfl, hb⟩; have n0_ := Zq146; have n1_ := Zq207; clear BKaw HB; have BKaw := n0_; have HB := n1_; clear n0_ n1_; (try clear hb); (try clear hb2); (try clear hk); (try clear hi); have hcz25_0 : w24.cell? ⟨gbaw, 0, none⟩ = some (.int .u64 a0_0) := (blk_cell BKaw.out 0).trans rfl; have hcz25_1 : w24.cell? ⟨gbaw, 1, none⟩ = some (.int .u64 a0_1) := (blk_cell BKaw.out 1).trans rfl; have hfz25_0 := blk_frozen BKaw.out 0; have hfz25_1 := blk_frozen BKaw.out 1))
     go_ret
     exact ⟨Zq11, Zq40⟩
   ·rw [if_neg c8] at H; have c8b0 : decide (0 < a2) = false := decide_eq_false c8; clear c8; obtain rfl := Option.some.inj H
    go_enter Try.func76, Try.ntmps76
    go_wp2_with (first | ((with_reducible refine gate_dst (N := 3) rfl ?_); refine box_event ?hg (N := 3) ?hd (cs := #[.int .u64 a0_0, .int .u64 a0_1]) (t := 67) ?hr ?_; (case hd | hg => rfl); (case hr => first | (go_simp; done) | (go_simp; rfl)); intro gbaw hg w26 hbox hb; have n0_ := Zq140; have n1_ := Ak (hbox); have n2_ := Zq154; have n3_ := Zq154; clear HB; have HB := n0_; have BKaw := n1_; have GWaw := n2_; have GEaw := n3_; clear n0_ n1_ n2_ n3_ hb hbox hg; have hcz27_0 : w26.cell? ⟨gbaw, 0, none⟩ = some (.int .u64 a0_0) := (blk_cell BKaw.out 0).trans rfl; have hcz27_1 : w26.cell? ⟨gbaw, 1, none⟩ = some (.int .u64 a0_1) := (blk_cell BKaw.out 1).trans rfl; have hfz27_0 := blk_frozen BKaw.out 0; have hfz27_1 := blk_frozen BKaw.out 1) | ((with_reducible refine gate_callee (f := 91) rfl ?_); refine goesL_ (some 8) rfl rfl Try.func91 Zq2 rfl #[.agg #[.int .u64 a0_0, .int .u64 a0_1]] rfl Zq8 ?_; (with_reducible refine (region_whole.calls a0_0 a0_1 true _ A4.out).mono ?_); rintro e w28 ⟨rfl, hb⟩; refine ⟨_, rfl, ?_⟩; have n0_ := Zq146; have n1_ := Zq207; clear BKaw HB; have BKaw := n0_; have HB := n1_; clear n0_ n1_; (try clear hb); (try clear hb2); (try clear hk); (try clear hi)) | (go_at_call 91; (with_reducible refine (region_whole.calls a1 a2 true _ A6.out).mono ?_); rintro e w29 ⟨rfl, hb⟩; have n0_ := Zq146; have n1_ := Zq207; clear BKaw HB; have BKaw := n0_; have HB := n1_; clear n0_ n1_; (try clear hb); (try clear hb2); (try clear hk); (try clear hi)))
    go_ret
    exact ⟨Zq11, Zq40⟩
  ·replace c7 := Bool.eq_false_iff.mpr c7; subst c7
   have H1 : (some false) = some r := by rw [if_neg (show ¬ (false = true) by decide)] at H; exact H
   clear H; have H := H1; clear H1; obtain rfl := Option.some.inj H
   go_enter Try.func76, Try.ntmps76
   go_wp2_with (first | ((with_reducible refine gate_dst (N := 3) rfl ?_); refine box_event ?hg (N := 3) ?hd (cs := #[.int .u64 a0_0, .int .u64 a0_1]) (t := 67) ?hr ?_; (case hd | hg => rfl); (case hr => first | (go_simp; done) | (go_simp; rfl)); intro gbaw hg w30 hbox hb; have n0_ := Zq140; have n1_ := Ak (hbox); have n2_ := Zq154; have n3_ := Zq154; clear HB; have HB := n0_; have BKaw := n1_; have GWaw := n2_; have GEaw := n3_; clear n0_ n1_ n2_ n3_ hb hbox hg; have hcz31_0 : w30.cell? ⟨gbaw, 0, none⟩ = some (.int .u64 a0_0) := (blk_cell BKaw.out 0).trans rfl; have hcz31_1 : w30.cell? ⟨gbaw, 1, none⟩ = some (.int .u64 a0_1) := (blk_cell BKaw.out 1).trans rfl; have hfz31_0 := blk_frozen BKaw.out 0; have hfz31_1 := blk_frozen BKaw.out 1) | ((with_reducible refine gate_callee (f := 91) rfl ?_); refine goesL_ (some 8) rfl rfl Try.func91 Zq2 rfl #[.agg #[.int .u64 a0_0, .int .u64 a0_1]] rfl Zq8 ?_; (with_reducible refine (region_whole.calls a0_0 a0_1 true _ A4.out).mono ?_); rintro e w32 ⟨rfl, hb⟩; refine ⟨_, rfl, ?_⟩; have n0_ := Zq146; have n1_ := Zq207; clear BKaw HB; have BKaw := n0_; have HB := n1_; clear n0_ n1_; (try clear hb); (try clear hb2); (try clear hk); (try clear hi)) | (go_at_call 91; (with_reducible refine (region_whole.calls a1 a2 false _ A6.out).mono ?_); rintro e w33 ⟨rfl, hb⟩; have n0_ := Zq146; have n1_ := Zq207; clear BKaw HB; have BKaw := n0_; have HB := n1_; clear n0_ n1_; (try clear hb); (try clear hb2); (try clear hk); (try clear hi)))
   go_ret
   exact ⟨Zq11, Zq40⟩
 ·replace c5 := Bool.eq_false_iff.mpr c5; subst c5
  have H1 : (some false) = some r := by rw [if_neg (show ¬ (false = true) by decide)] at H; exact H
  clear H; have H := H1; clear H1; obtain rfl := Option.some.inj H
  go_enter Try.func76, Try.ntmps76
  go_wp2_with (first | ((with_reducible refine gate_dst (N := 3) rfl ?_); refine box_event ?hg (N := 3) ?hd (cs := #[.int .u64 a0_0, .int .u64 a0_1]) (t := 67) ?hr ?_; (case hd | hg => rfl); (case hr => first | (go_simp; done) | (go_simp; rfl)); intro gbaw hg w34 hbox hb; have n0_ := Zq140; have n1_ := Ak (hbox); have n2_ := Zq154; have n3_ := Zq154; clear HB; have HB := n0_; have BKaw := n1_; have GWaw := n2_; have GEaw := n3_; clear n0_ n1_ n2_ n3_ hb hbox hg; have hcz35_0 : w34.cell? ⟨gbaw, 0, none⟩ = some (.int .u64 a0_0) := (blk_cell BKaw.out 0).trans rfl; have hcz35_1 : w34.cell? ⟨gbaw, 1, none⟩ = some (.int .u64 a0_1) := (blk_cell BKaw.out 1).trans rfl; have hfz35_0 := blk_frozen BKaw.out 0; have hfz35_1 := blk_frozen BKaw.out 1) | ((with_reducible refine gate_callee (f := 91) rfl ?_); refine goesL_ (some 8) rfl rfl Try.func91 Zq2 rfl #[.agg #[.int .u64 a0_0, .int .u64 a0_1]] rfl Zq8 ?_; (with_reducible refine (region_whole.calls a0_0 a0_1 false _ A4.out).mono ?_); rintro e w36 ⟨rfl, hb⟩; refine ⟨_, rfl, ?_⟩; have n0_ := Zq146; have n1_ := Zq207; clear BKaw HB; have BKaw := n0_; have HB := n1_; clear n0_ n1_; (try clear hb); (try clear hb2); (try clear hk); (try clear hi)))
  go_ret
  exact ⟨Zq11, Zq40⟩
def xlate_step.l0 : Nat → Int → Int → List (S46) → Int → Int → Option (Int × Int)
 | 0, _, _, _, _, _ => none
 | k + 1, x2, x3, x26, x27, x28 => if x28 < x27 then (if 0 ≤ x28 then (if x28 < (x26.length : Int) then ((region_Inside.f ((rd_T46 x26 x28).f0) ((rd_T46 x26 x28).f2) x2 x3).bind fun teT => (if teT = true then (if (IntKind.u64.wrap (x2 - ((rd_T46 x26 x28).f0))) > (IntKind.u64.wrap (18446744073709551615 - ((rd_T46 x26 x28).f1))) then (some (0, 12)) else (if (IntKind.u64.wrap (x3 - 1)) > (IntKind.u64.wrap (18446744073709551615 - (IntKind.u64.wrap (((rd_T46 x26 x28).f1) + (IntKind.u64.wrap (x2 - ((rd_T46 x26 x28).f0))))))) then (some (0, 12)) else (some (IntKind.u64.wrap (((rd_T46 x26 x28).f1) + (IntKind.u64.wrap (x2 - ((rd_T46 x26 x28).f0)))), 0)))) else (xlate_step.l0 k x2 x3 x26 x27 (wrap64 (x28 + 1))))) else (none)) else (none)) else (some (0, 12))
def xlate_step.f (k : Nat) (a0_0 : ByteArray) (l0_1 : List (S77)) (l0_2 : List (S30)) (a1_0 : ByteArray) (l1_1 : List (S77)) (l1_2 : List (S30)) (a2 : Int) (a3 : Int) : Option (Int × Int) := (xlate_Ranges.f k a0_0 l0_1 l0_2 a1_0 l1_1 l1_2).bind fun btaF => (if btaF.2.2 = 0 then (xlate_step.l0 k a2 a3 btaF.1 (btaF.1.length : Int) 0) else (some (0, btaF.2.2)))
theorem xlate_step.mono_l : ∀ k, (∀ y0 y1 y2 y3 y4, LeO (xlate_step.l0 k y0 y1 y2 y3 y4) (xlate_step.l0 (k + 1) y0 y1 y2 y3 y4))
 | 0 => fun _ _ _ _ _ r h => by simp [xlate_step.l0] at h
 | k + 1 => by
  have ih0 := xlate_step.mono_l k
  ·intro y0 y1 y2 y3 y4; unfold xlate_step.l0
   repeat' first | (with_reducible first | exact ih0 _ _ _ _ _ | exact xlate_Ranges.mono _ _ _ _ _ _ _ | exact LeO.refl _ | exact LeO.none _ | refine LeO.ite ?_ ?_ | refine LeO.bind ?_ (fun _ => ?_))
theorem xlate_step.mono : ∀ a0 a1 a2 a3 a4 a5 a6 a7 k, LeO (xlate_step.f k a0 a1 a2 a3 a4 a5 a6 a7) (xlate_step.f (k + 1) a0 a1 a2 a3 a4 a5 a6 a7) := by
 intro a0 a1 a2 a3 a4 a5 a6 a7 k; have ih0 := xlate_step.mono_l k; unfold xlate_step.f
 repeat' first | (with_reducible first | exact ih0 _ _ _ _ _ | exact xlate_Ranges.mono _ _ _ _ _ _ _ | exact LeO.refl _ | exact LeO.none _ | refine LeO.ite ?_ ?_ | refine LeO.bind ?_ (fun _ => ?_))
set_option maxHeartbeats 8000000 in
set_option maxRecDepth 100000 in
theorem xlate_step.calls (k : Nat) (a0_0 : ByteArray) (A0_1 : Option Addr) (c0_1 : Nat) (l0_1 : List (S77)) (A0_2 : Option Addr) (c0_2 : Nat) (l0_2 : List (S30)) (a1_0 : ByteArray) (A1_1 : Option Addr) (c1_1 : Nat) (l1_1 : List (S77)) (A1_2 : Option Addr) (c1_2 : Nat) (l1_2 : List (S30)) (a2 : Int) (a3 : Int) (r1 : Int) (r2 : Int) (w : World) (hr0_1 : Kd.C k77 w A0_1 l0_1.length l0_1) (hc0_1 : l0_1.length ≤ c0_1) (hr0_2 : Kd.C k30 w A0_2 l0_2.length l0_2) (hc0_2 : l0_2.length ≤ c0_2) (hr1_1 : Kd.C k77 w A1_1 l1_1.length l1_1) (hc1_1 : l1_1.length ≤ c1_1) (hr1_2 : Kd.C k30 w A1_2 l1_2.length l1_2) (hc1_2 : l1_2.length ≤ c1_2) (h : xlate_step.f k a0_0 l0_1 l0_2 a1_0 l1_1 l1_2 a2 a3 = some (r1, r2)) :
  Calls Try.prog 49 #[.agg #[.string a0_0, .slice A0_1 l0_1.length c0_1, .slice A0_2 l0_2.length c0_2], .agg #[.string a1_0, .slice A1_1 l1_1.length c1_1, .slice A1_2 l1_2.length c1_2], .int .u64 a2, .int .u64 a3] w fun e w' => e = .returned (.tuple #[.int .u64 r1, .int .i64 r2]) ∧ Below w.heap.size w w' := by
 have hu30 := Try.underlying30; have hu46 := Try.underlying46; have hu67 := Try.underlying67; have HR0_1 := Ak hr0_1; have HC0_1 := Ak hc0_1; clear hr0_1 hc0_1; have HR0_2 := Ak hr0_2; have HC0_2 := Ak hc0_2; clear hr0_2 hc0_2; have HR1_1 := Ak hr1_1; have HC1_1 := Ak hc1_1; clear hr1_1 hc1_1; have HR1_2 := Ak hr1_2; have HC1_2 := Ak hc1_2; clear hr1_2 hc1_2; have HB := Zq145; have H : ((xlate_Ranges.f k a0_0 l0_1 l0_2 a1_0 l1_1 l1_2).bind fun btaF => (if btaF.2.2 = 0 then (xlate_step.l0 k a2 a3 btaF.1 (btaF.1.length : Int) 0) else (some (0, btaF.2.2)))) = some (r1, r2) := h; clear h; replace H := Option.bind_eq_some_iff.mp H; obtain ⟨⟨taF, tfK, tdG⟩, A50, H⟩ := H; replace H : (if tdG = 0 then (xlate_step.l0 k a2 a3 taF (taF.length : Int) 0) else (some (0, tdG))) = some (r1, r2) := H; have A5 := Ak A50; clear A50
 by_cases c6 : tdG = 0
 ·rw [if_pos c6] at H; have c6b0 : (tdG == 0) = true := beq_iff_eq.mpr c6; have c6b1 : (tdG != 0) = false := bne_eq_false_iff_eq.mpr c6; clear c6; have H' := Ak H; clear H
  go_enter Try.func49, Try.ntmps49
  go_wp2_with (first | ((with_reducible refine gate_dst (N := 4) rfl ?_); refine box_event ?hg (N := 4) ?hd (cs := #[.string a0_0, .slice A0_1 l0_1.length c0_1, .slice A0_2 l0_2.length c0_2]) (t := 30) ?hr ?_; (case hd | hg => rfl); (case hr => first | (go_simp; done) | (go_simp; rfl)); intro gbaS hg w7 hbox hb; have n0_ := Zq140; have n1_ := Ak (hbox); have n2_ := Zq224; have n3_ := Zq224; clear HB; have HB := n0_; have BKaS := n1_; have GWaS := n2_; have GEaS := n3_; clear n0_ n1_ n2_ n3_ hb hbox hg) | ((with_reducible refine gate_dst (N := 5) rfl ?_); refine box_event ?hg (N := 5) ?hd (cs := #[.string a1_0, .slice A1_1 l1_1.length c1_1, .slice A1_2 l1_2.length c1_2]) (t := 30) ?hr ?_; (case hd | hg => rfl); (case hr => first | (go_simp; done) | (go_simp; rfl)); intro gbaZ hg w8 hbox hb; have n0_ := Zq147; have n1_ := Ak (below_step Zq85 hb); have n2_ := Ak (hbox); have n3_ := Zq219; have n4_ := Zq219; have n5_ := Ak ((by rw [hg]; exact Nat.ne_of_lt Zq144 : gbaS ≠ gbaZ)); have n6_ := Ak ((by rw [hg]; exact Nat.ne_of_gt Zq144 : gbaZ ≠ gbaS)); clear BKaS HB; have BKaS := n0_; have HB := n1_; have BKaZ := n2_; have GWaZ := n3_; have GEaZ := n4_; have NB240_241 := n5_; have NB241_240 := n6_; clear n0_ n1_ n2_ n3_ n4_ n5_ n6_ hb hbox hg; have hnb9 := NB240_241.out; have hnc9 := NB241_240.out; have hcz10_0 : w8.cell? ⟨gbaS, 0, none⟩ = some (.string a0_0) := (blk_cell BKaS.out 0).trans rfl; have hcz10_1 : w8.cell? ⟨gbaS, 1, none⟩ = some (.slice A0_1 l0_1.length c0_1) := (blk_cell BKaS.out 1).trans rfl; have hcz10_2 : w8.cell? ⟨gbaS, 2, none⟩ = some (.slice A0_2 l0_2.length c0_2) := (blk_cell BKaS.out 2).trans rfl; have hfz10_0 := blk_frozen BKaS.out 0; have hfz10_1 := blk_frozen BKaS.out 1; have hfz10_2 := blk_frozen BKaS.out 2; have hcz11_0 : w8.cell? ⟨gbaZ, 0, none⟩ = some (.string a1_0) := (blk_cell BKaZ.out 0).trans rfl; have hcz11_1 : w8.cell? ⟨gbaZ, 1, none⟩ = some (.slice A1_1 l1_1.length c1_1) := (blk_cell BKaZ.out 1).trans rfl; have hcz11_2 : w8.cell? ⟨gbaZ, 2, none⟩ = some (.slice A1_2 l1_2.length c1_2) := (blk_cell BKaZ.out 2).trans rfl; have hfz11_0 := blk_frozen BKaZ.out 0; have hfz11_1 := blk_frozen BKaZ.out 1; have hfz11_2 := blk_frozen BKaZ.out 2) | ((with_reducible refine gate_callee (f := 17) rfl ?_); refine goesL_ (some 19) rfl rfl Try.func17 Zq2 rfl #[.agg #[.string a0_0, .slice A0_1 l0_1.length c0_1, .slice A0_2 l0_2.length c0_2], .agg #[.string a1_0, .slice A1_1 l1_1.length c1_1, .slice A1_2 l1_2.length c1_2]] rfl Zq8 ?_; (with_reducible refine (xlate_Ranges.calls k a0_0 _ _ l0_1 _ _ l0_2 a1_0 _ _ l1_1 _ _ l1_2 taF tfK tdG _ ?side1 ?side2 ?side3 ?side4 ?side5 ?side6 ?side7 ?side8 A5.out).mono ?_); (case side1 => repeat (first | exact Zq142 | (with_reducible refine Kd.C_alloc ?_ _) | (with_reducible refine Kd.C_drewN ?_ _) | (with_reducible refine Kd.C_drew ?_))); (case side2 => exact HC0_1.out); (case side3 => repeat (first | exact Zq161 | (with_reducible refine Kd.C_alloc ?_ _) | (with_reducible refine Kd.C_drewN ?_ _) | (with_reducible refine Kd.C_drew ?_))); (case side4 => exact HC0_2.out); (case side5 => repeat (first | exact Zq204 | (with_reducible refine Kd.C_alloc ?_ _) | (with_reducible refine Kd.C_drewN ?_ _) | (with_reducible refine Kd.C_drew ?_))); (case side6 => exact HC1_1.out); (case side7 => repeat (first | exact Zq205 | (with_reducible refine Kd.C_alloc ?_ _) | (with_reducible refine Kd.C_drewN ?_ _) | (with_reducible refine Kd.C_drew ?_))); (case side8 => exact HC1_2.out); rintro e w12 ⟨v243, rfl, ho0, hb⟩; refine ⟨_, rfl, ?_⟩; have n0_ := Ak (Kd.R_lower ho0 (below_size Zq35)); have n1_ := Zq147; have n2_ := Zq160; have n3_ := Zq243; clear BKaS BKaZ HB; have HOfn := n0_; have BKaS := n1_; have BKaZ := n2_; have HB := n3_; clear n0_ n1_ n2_ n3_; (try clear hb); (try clear hb2); (try clear hk); (try clear hi); (try clear ho0); obtain ⟨Ao13, co13, eo13⟩ := Kd.R_slice HOfn.out; subst eo13))
  go_loopg [28] k (fun kq v28 w' => ∃ (x28_1 : Int), v28 = .int .i64 x28_1 ∧ Aside0 (xlate_step.l0 kq a2 a3 taF (taF.length : Int) x28_1 = some (r1, r2)) ∧ Aside0 (kq ≤ k) ∧ Aside0 (Kd.R k46 46 w' w.heap.size (fun _ => True) (.slice Ao13 taF.length co13) taF) ∧ Aside0 (w'.heap[gbaS]? = some (.cells #[.string a0_0, (.slice A0_1 l0_1.length c0_1), (.slice A0_2 l0_2.length c0_2)] 30 (0, 0))) ∧ Aside0 (w'.heap[gbaZ]? = some (.cells #[.string a1_0, (.slice A1_1 l1_1.length c1_1), (.slice A1_2 l1_2.length c1_2)] 30 (0, 0))) ∧ Aside0 (Below w.heap.size w w'))
  case atStart => exact ⟨(0), Zq6, H', ⟨Nat.le_refl _⟩, ⟨by (with_reducible repeat (first | apply Kd.R_alloc | apply Kd.R_drewN | apply Kd.R_drew)); exact HOfn.out⟩, ⟨Zq32⟩, ⟨Zq42⟩, ⟨Zq35⟩⟩
  case round =>
   clear H'
   try clear c1
   try clear p2
   try clear c4
   try clear c6
   try clear c6b0
   try clear c6b1
   try clear c9
   try clear hcz10_0
   try clear hcz10_1
   try clear hcz10_2
   try clear hcz11_0
   try clear hcz11_1
   try clear hcz11_2
   try clear hfz10_0
   try clear hfz10_1
   try clear hfz10_2
   try clear hfz11_0
   try clear hfz11_1
   try clear hfz11_2
   obtain ⟨x28_1, rfl, HA, HK1, HO_26, BKaS, BKaZ, HB⟩ := hrel
   cases gk with
   | zero => exact absurd HA.out (by simp [xlate_step.l0])
   | succ k1 =>
    have H := HA.out; clear HA; simp only [xlate_step.l0] at H
    by_cases c14 : x28_1 < (taF.length : Int)
    ·rw [if_pos c14] at H; have c14b0 : decide (x28_1 < (taF.length : Int)) = true := decide_eq_true c14; clear c14
     by_cases c15 : 0 ≤ x28_1
     ·rw [if_pos c15] at H; have c15b0 : decide (0 ≤ x28_1) = true := decide_eq_true c15; clear c15
      by_cases c16 : x28_1 < (taF.length : Int)
      ·rw [if_pos c16] at H; have c16b0 : decide (x28_1 < (taF.length : Int)) = true := decide_eq_true c16; clear c16; replace H := Option.bind_eq_some_iff.mp H; obtain ⟨teT, Afm, H⟩ := H; replace H : (if teT = true then (if (IntKind.u64.wrap (a2 - ((rd_T46 taF x28_1).f0))) > (IntKind.u64.wrap (18446744073709551615 - ((rd_T46 taF x28_1).f1))) then (some (0, 12)) else (if (IntKind.u64.wrap (a3 - 1)) > (IntKind.u64.wrap (18446744073709551615 - (IntKind.u64.wrap (((rd_T46 taF x28_1).f1) + (IntKind.u64.wrap (a2 - ((rd_T46 taF x28_1).f0))))))) then (some (0, 12)) else (some (IntKind.u64.wrap (((rd_T46 taF x28_1).f1) + (IntKind.u64.wrap (a2 - ((rd_T46 taF x28_1).f0)))), 0)))) else (xlate_step.l0 k1 a2 a3 taF (taF.length : Int) (wrap64 (x28_1 + 1)))) = some (r1, r2) := H; have A17 := Ak Afm; clear Afm
       by_cases c18 : teT = true
       ·subst c18
        have H1 : (if (IntKind.u64.wrap (a2 - ((rd_T46 taF x28_1).f0))) > (IntKind.u64.wrap (18446744073709551615 - ((rd_T46 taF x28_1).f1))) then (some (0, 12)) else (if (IntKind.u64.wrap (a3 - 1)) > (IntKind.u64.wrap (18446744073709551615 - (IntKind.u64.wrap (((rd_T46 taF x28_1).f1) + (IntKind.u64.wrap (a2 - ((rd_T46 taF x28_1).f0))))))) then (some (0, 12)) else (some (IntKind.u64.wrap (((rd_T46 taF x28_1).f1) + (IntKind.u64.wrap (a2 - ((rd_T46 taF x28_1).f0)))), 0)))) = some (r1, r2) := by rw [if_pos rfl] at H; exact H
        clear H; have H := H1; clear H1
        by_cases c19 : (IntKind.u64.wrap (a2 - ((rd_T46 taF x28_1).f0))) > (IntKind.u64.wrap (18446744073709551615 - ((rd_T46 taF x28_1).f1)))
        ·rw [if_pos c19] at H; have c19b0 : decide ((IntKind.u64.wrap (18446744073709551615 - ((rd_T46 taF x28_1).f1))) < (IntKind.u64.wrap (a2 - ((rd_T46 taF x28_1).f0)))) = true := decide_eq_true c19; clear c19; simp only [Option.some.injEq, Prod.mk.injEq] at H; obtain ⟨rfl, rfl⟩ := H; have p247 : 0 ≤ (x28_1 : Int) := of_decide_eq_true Zq4; have q247 : x28_1 < (taF.length : Int) := of_decide_eq_true Zq4; obtain ⟨adfo, e247, hx247_0, hx247_1, hx247_2⟩ := at_T46 (Kd.R_reads' HO_26.out).2.2 x28_1 p247 q247
         cases e247
         replace p247 := eq_true p247; replace q247 := eq_true q247
         go_wp2_with (first | ((with_reducible refine gate_dst (N := 14) rfl ?_); refine box_event ?hg (N := 14) ?hd (cs := #[.int .u64 0, .int .u64 0, .int .u64 0]) (t := 46) ?hr ?_; (case hd | hg => rfl); (case hr => first | (go_simp; done) | (go_simp; rfl)); intro gbax hg w20 hbox hb; have n0_ := Zq213; have n1_ := Zq147; have n2_ := Zq160; have n3_ := Zq243; have n4_ := Ak (hbox); have n5_ := Zq171; have n6_ := Zq171; have n7_ := Zq270; have n8_ := Zq271; have n9_ := Zq272; have n10_ := Zq273; clear HO_26 BKaS BKaZ HB; have HO_26 := n0_; have BKaS := n1_; have BKaZ := n2_; have HB := n3_; have BKax := n4_; have GWax := n5_; have GEax := n6_; have NB240_248 := n7_; have NB248_240 := n8_; have NB241_248 := n9_; have NB248_241 := n10_; clear n0_ n1_ n2_ n3_ n4_ n5_ n6_ n7_ n8_ n9_ n10_ hb hbox hg; have hnb21 := NB248_240.out; have hnc21 := NB240_248.out; have hnb22 := NB248_241.out; have hnc22 := NB241_248.out; have hcz23_0 : w20.cell? ⟨gbax, 0, none⟩ = some (.int .u64 0) := (blk_cell BKax.out 0).trans rfl; have hcz23_1 : w20.cell? ⟨gbax, 1, none⟩ = some (.int .u64 0) := (blk_cell BKax.out 1).trans rfl; have hcz23_2 : w20.cell? ⟨gbax, 2, none⟩ = some (.int .u64 0) := (blk_cell BKax.out 2).trans rfl; have hfz23_0 := blk_frozen BKax.out 0; have hfz23_1 := blk_frozen BKax.out 1; have hfz23_2 := blk_frozen BKax.out 2) | ((with_reducible refine gate_callee (f := 76) rfl ?_); refine goesL_ (some 39) rfl rfl Try.func76 Zq2 rfl #[.agg #[.int .u64 ((rd_T46 taF x28_1).f0), .int .u64 ((rd_T46 taF x28_1).f2)], .int .u64 a2, .int .u64 a3] rfl Zq8 ?_; (with_reducible refine (region_Inside.calls ((rd_T46 taF x28_1).f0) ((rd_T46 taF x28_1).f2) a2 a3 true _ A17.out).mono ?_); rintro e w24 ⟨rfl, hb⟩; refine ⟨_, rfl, ?_⟩; have n0_ := Ak (Kd.R_below Zq110 hb); have n1_ := Zq184; have n2_ := Zq185; have n3_ := Zq167; have n4_ := Ak (below_step Zq71 hb); clear HO_26 BKaS BKaZ BKax HB; have HO_26 := n0_; have BKaS := n1_; have BKaZ := n2_; have BKax := n3_; have HB := n4_; clear n0_ n1_ n2_ n3_ n4_; (try clear hb); (try clear hb2); (try clear hk); (try clear hi); have hcz25_0 : w24.cell? ⟨gbax, 0, none⟩ = some (.int .u64 ((rd_T46 taF x28_1).f0)) := (blk_cell BKax.out 0).trans rfl; have hcz25_1 : w24.cell? ⟨gbax, 1, none⟩ = some (.int .u64 ((rd_T46 taF x28_1).f1)) := (blk_cell BKax.out 1).trans rfl; have hcz25_2 : w24.cell? ⟨gbax, 2, none⟩ = some (.int .u64 ((rd_T46 taF x28_1).f2)) := (blk_cell BKax.out 2).trans rfl; have hfz25_0 := blk_frozen BKax.out 0; have hfz25_1 := blk_frozen BKax.out 1; have hfz25_2 := blk_frozen BKax.out 2))
         go_ret2
         exact ⟨Zq11, Zq71⟩
        ·rw [if_neg c19] at H; have c19b0 : decide ((IntKind.u64.wrap (18446744073709551615 - ((rd_T46 taF x28_1).f1))) < (IntKind.u64.wrap (a2 - ((rd_T46 taF x28_1).f0)))) = false := decide_eq_false c19; clear c19
         by_cases c26 : (IntKind.u64.wrap (a3 - 1)) > (IntKind.u64.wrap (18446744073709551615 - (IntKind.u64.wrap (((rd_T46 taF x28_1).f1) + (IntKind.u64.wrap (a2 - ((rd_T46 taF x28_1).f0)))))))
         ·rw [if_pos c26] at H; have c26b0 : decide ((IntKind.u64.wrap (18446744073709551615 - (IntKind.u64.wrap (((rd_T46 taF x28_1).f1) + (IntKind.u64.wrap (a2 - ((rd_T46 taF x28_1).f0))))))) < (IntKind.u64.wrap (a3 - 1))) = true := decide_eq_true c26; clear c26; simp only [Option.some.injEq, Prod.mk.injEq] at H; obtain ⟨rfl, rfl⟩ := H; have p247 : 0 ≤ (x28_1 : Int) := of_decide_eq_true Zq4; have q247 : x28_1 < (taF.length : Int) := of_decide_eq_true Zq4; obtain ⟨adfo, e247, hx247_0, hx247_1, hx247_2⟩ := at_T46 (Kd.R_reads' HO_26.out).2.2 x28_1 p247 q247
          cases e247
          replace p247 := eq_true p247; replace q247 := eq_true q247
          go_wp2_with (first | ((with_reducible refine gate_dst (N := 14) rfl ?_); refine box_event ?hg (N := 14) ?hd (cs := #[.int .u64 0, .int .u64 0, .int .u64 0]) (t := 46) ?hr ?_; (case hd | hg => rfl); (case hr => first | (go_simp; done) | (go_simp; rfl)); intro gbax hg w27 hbox hb; have n0_ := Zq213; have n1_ := Zq147; have n2_ := Zq160; have n3_ := Zq243; have n4_ := Ak (hbox); have n5_ := Zq171; have n6_ := Zq171; have n7_ := Zq270; have n8_ := Zq271; have n9_ := Zq272; have n10_ := Zq273; clear HO_26 BKaS BKaZ HB; have HO_26 := n0_; have BKaS := n1_; have BKaZ := n2_; have HB := n3_; have BKax := n4_; have GWax := n5_; have GEax := n6_; have NB240_248 := n7_; have NB248_240 := n8_; have NB241_248 := n9_; have NB248_241 := n10_; clear n0_ n1_ n2_ n3_ n4_ n5_ n6_ n7_ n8_ n9_ n10_ hb hbox hg; have hnb28 := NB248_240.out; have hnc28 := NB240_248.out; have hnb29 := NB248_241.out; have hnc29 := NB241_248.out; have hcz30_0 : w27.cell? ⟨gbax, 0, none⟩ = some (.int .u64 0) := (blk_cell BKax.out 0).trans rfl; have hcz30_1 : w27.cell? ⟨gbax, 1, none⟩ = some (.int .u64 0) := (blk_cell BKax.out 1).trans rfl; have hcz30_2 : w27.cell? ⟨gbax, 2, none⟩ = some (.int .u64 0) := (blk_cell BKax.out 2).trans rfl; have hfz30_0 := blk_frozen BKax.out 0; have hfz30_1 := blk_frozen BKax.out 1; have hfz30_2 := blk_frozen BKax.out 2) | ((with_reducible refine gate_callee (f := 76) rfl ?_); refine goesL_ (some 39) rfl rfl Try.func76 Zq2 rfl #[.agg #[.int .u64 ((rd_T46 taF x28_1).f0), .int .u64 ((rd_T46 taF x28_1).f2)], .int .u64 a2, .int .u64 a3] rfl Zq8 ?_; (with_reducible refine (region_Inside.calls ((rd_T46 taF x28_1).f0) ((rd_T46 taF x28_1).f2) a2 a3 true _ A17.out).mono ?_); rintro e w31 ⟨rfl, hb⟩; refine ⟨_, rfl, ?_⟩; have n0_ := Ak (Kd.R_below Zq110 hb); have n1_ := Zq184; have n2_ := Zq185; have n3_ := Zq167; have n4_ := Ak (below_step Zq71 hb); clear HO_26 BKaS BKaZ BKax HB; have HO_26 := n0_; have BKaS := n1_; have BKaZ := n2_; have BKax := n3_; have HB := n4_; clear n0_ n1_ n2_ n3_ n4_; (try clear hb); (try clear hb2); (try clear hk); (try clear hi); have hcz32_0 : w31.cell? ⟨gbax, 0, none⟩ = some (.int .u64 ((rd_T46 taF x28_1).f0)) := (blk_cell BKax.out 0).trans rfl; have hcz32_1 : w31.cell? ⟨gbax, 1, none⟩ = some (.int .u64 ((rd_T46 taF x28_1).f1)) := (blk_cell BKax.out 1).trans rfl; have hcz32_2 : w31.cell? ⟨gbax, 2, none⟩ = some (.int .u64 ((rd_T46 taF x28_1).f2)) := (blk_cell BKax.out 2).trans rfl; have hfz32_0 := blk_frozen BKax.out 0; have hfz32_1 := blk_frozen BKax.out 1; have hfz32_2 := blk_frozen BKax.out 2))
          go_ret2
          exact ⟨Zq11, Zq71⟩
         ·rw [if_neg c26] at H; have c26b0 : decide ((IntKind.u64.wrap (18446744073709551615 - (IntKind.u64.wrap (((rd_T46 taF x28_1).f1) + (IntKind.u64.wrap (a2 - ((rd_T46 taF x28_1).f0))))))) < (IntKind.u64.wrap (a3 - 1))) = false := decide_eq_false c26; clear c26; simp only [Option.some.injEq, Prod.mk.injEq] at H; obtain ⟨rfl, rfl⟩ := H; have p247 : 0 ≤ (x28_1 : Int) := of_decide_eq_true Zq4; have q247 : x28_1 < (taF.length : Int) := of_decide_eq_true Zq4; obtain ⟨adfo, e247, hx247_0, hx247_1, hx247_2⟩ := at_T46 (Kd.R_reads' HO_26.out).2.2 x28_1 p247 q247
          cases e247
          replace p247 := eq_true p247; replace q247 := eq_true q247
          go_wp2_with (first | ((with_reducible refine gate_dst (N := 14) rfl ?_); refine box_event ?hg (N := 14) ?hd (cs := #[.int .u64 0, .int .u64 0, .int .u64 0]) (t := 46) ?hr ?_; (case hd | hg => rfl); (case hr => first | (go_simp; done) | (go_simp; rfl)); intro gbax hg w33 hbox hb; have n0_ := Zq213; have n1_ := Zq147; have n2_ := Zq160; have n3_ := Zq243; have n4_ := Ak (hbox); have n5_ := Zq171; have n6_ := Zq171; have n7_ := Zq270; have n8_ := Zq271; have n9_ := Zq272; have n10_ := Zq273; clear HO_26 BKaS BKaZ HB; have HO_26 := n0_; have BKaS := n1_; have BKaZ := n2_; have HB := n3_; have BKax := n4_; have GWax := n5_; have GEax := n6_; have NB240_248 := n7_; have NB248_240 := n8_; have NB241_248 := n9_; have NB248_241 := n10_; clear n0_ n1_ n2_ n3_ n4_ n5_ n6_ n7_ n8_ n9_ n10_ hb hbox hg; have hnb34 := NB248_240.out; have hnc34 := NB240_248.out; have hnb35 := NB248_241.out; have hnc35 := NB241_248.out; have hcz36_0 : w33.cell? ⟨gbax, 0, none⟩ = some (.int .u64 0) := (blk_cell BKax.out 0).trans rfl; have hcz36_1 : w33.cell? ⟨gbax, 1, none⟩ = some (.int .u64 0) := (blk_cell BKax.out 1).trans rfl; have hcz36_2 : w33.cell? ⟨gbax, 2, none⟩ = some (.int .u64 0) := (blk_cell BKax.out 2).trans rfl; have hfz36_0 := blk_frozen BKax.out 0; have hfz36_1 := blk_frozen BKax.out 1; have hfz36_2 := blk_frozen BKax.out 2) | ((with_reducible refine gate_callee (f := 76) rfl ?_); refine goesL_ (some 39) rfl rfl Try.func76 Zq2 rfl #[.agg #[.int .u64 ((rd_T46 taF x28_1).f0), .int .u64 ((rd_T46 taF x28_1).f2)], .int .u64 a2, .int .u64 a3] rfl Zq8 ?_; (with_reducible refine (region_Inside.calls ((rd_T46 taF x28_1).f0) ((rd_T46 taF x28_1).f2) a2 a3 true _ A17.out).mono ?_); rintro e w37 ⟨rfl, hb⟩; refine ⟨_, rfl, ?_⟩; have n0_ := Ak (Kd.R_below Zq110 hb); have n1_ := Zq184; have n2_ := Zq185; have n3_ := Zq167; have n4_ := Ak (below_step Zq71 hb); clear HO_26 BKaS BKaZ BKax HB; have HO_26 := n0_; have BKaS := n1_; have BKaZ := n2_; have BKax := n3_; have HB := n4_; clear n0_ n1_ n2_ n3_ n4_; (try clear hb); (try clear hb2); (try clear hk); (try clear hi); have hcz38_0 : w37.cell? ⟨gbax, 0, none⟩ = some (.int .u64 ((rd_T46 taF x28_1).f0)) := (blk_cell BKax.out 0).trans rfl; have hcz38_1 : w37.cell? ⟨gbax, 1, none⟩ = some (.int .u64 ((rd_T46 taF x28_1).f1)) := (blk_cell BKax.out 1).trans rfl; have hcz38_2 : w37.cell? ⟨gbax, 2, none⟩ = some (.int .u64 ((rd_T46 taF x28_1).f2)) := (blk_cell BKax.out 2).trans rfl; have hfz38_0 := blk_frozen BKax.out 0; have hfz38_1 := blk_frozen BKax.out 1; have hfz38_2 := blk_frozen BKax.out 2))
          go_ret2
          exact ⟨Zq11, Zq71⟩
       ·replace c18 := Bool.eq_false_iff.mpr c18; subst c18
        have H1 : (xlate_step.l0 k1 a2 a3 taF (taF.length : Int) (wrap64 (x28_1 + 1))) = some (r1, r2) := by rw [if_neg (show ¬ (false = true) by decide)] at H; exact H
        clear H; have H := H1; clear H1; have H' := Ak H; clear H; have p247 : 0 ≤ (x28_1 : Int) := of_decide_eq_true Zq4; have q247 : x28_1 < (taF.length : Int) := of_decide_eq_true Zq4; obtain ⟨adfo, e247, hx247_0, hx247_1, hx247_2⟩ := at_T46 (Kd.R_reads' HO_26.out).2.2 x28_1 p247 q247
        cases e247
        replace p247 := eq_true p247; replace q247 := eq_true q247
        go_wp2_with (first | ((with_reducible refine gate_dst (N := 14) rfl ?_); refine box_event ?hg (N := 14) ?hd (cs := #[.int .u64 0, .int .u64 0, .int .u64 0]) (t := 46) ?hr ?_; (case hd | hg => rfl); (case hr => first | (go_simp; done) | (go_simp; rfl)); intro gbax hg w39 hbox hb; have n0_ := Zq213; have n1_ := Zq147; have n2_ := Zq160; have n3_ := Zq243; have n4_ := Ak (hbox); have n5_ := Zq171; have n6_ := Zq171; have n7_ := Zq270; have n8_ := Zq271; have n9_ := Zq272; have n10_ := Zq273; clear HO_26 BKaS BKaZ HB; have HO_26 := n0_; have BKaS := n1_; have BKaZ := n2_; have HB := n3_; have BKax := n4_; have GWax := n5_; have GEax := n6_; have NB240_248 := n7_; have NB248_240 := n8_; have NB241_248 := n9_; have NB248_241 := n10_; clear n0_ n1_ n2_ n3_ n4_ n5_ n6_ n7_ n8_ n9_ n10_ hb hbox hg; have hnb40 := NB248_240.out; have hnc40 := NB240_248.out; have hnb41 := NB248_241.out; have hnc41 := NB241_248.out; have hcz42_0 : w39.cell? ⟨gbax, 0, none⟩ = some (.int .u64 0) := (blk_cell BKax.out 0).trans rfl; have hcz42_1 : w39.cell? ⟨gbax, 1, none⟩ = some (.int .u64 0) := (blk_cell BKax.out 1).trans rfl; have hcz42_2 : w39.cell? ⟨gbax, 2, none⟩ = some (.int .u64 0) := (blk_cell BKax.out 2).trans rfl; have hfz42_0 := blk_frozen BKax.out 0; have hfz42_1 := blk_frozen BKax.out 1; have hfz42_2 := blk_frozen BKax.out 2) | ((with_reducible refine gate_callee (f := 76) rfl ?_); refine goesL_ (some 39) rfl rfl Try.func76 Zq2 rfl #[.agg #[.int .u64 ((rd_T46 taF x28_1).f0), .int .u64 ((rd_T46 taF x28_1).f2)], .int .u64 a2, .int .u64 a3] rfl Zq8 ?_; (with_reducible refine (region_Inside.calls ((rd_T46 taF x28_1).f0) ((rd_T46 taF x28_1).f2) a2 a3 false _ A17.out).mono ?_); rintro e w43 ⟨rfl, hb⟩; refine ⟨_, rfl, ?_⟩; have n0_ := Ak (Kd.R_below Zq110 hb); have n1_ := Zq184; have n2_ := Zq185; have n3_ := Zq167; have n4_ := Ak (below_step Zq71 hb); clear HO_26 BKaS BKaZ BKax HB; have HO_26 := n0_; have BKaS := n1_; have BKaZ := n2_; have BKax := n3_; have HB := n4_; clear n0_ n1_ n2_ n3_ n4_; (try clear hb); (try clear hb2); (try clear hk); (try clear hi)))
        go_roundg k1
        case measure => have := HK1.out; omega
        case rel => exact ⟨(wrap64 (x28_1 + 1)), Zq6, H', ⟨Zq31⟩, ⟨by (with_reducible repeat (first | apply Kd.R_alloc | apply Kd.R_drewN | apply Kd.R_drew)); exact Kd.R_mono HO_26.out (fun _ hk => trivial)⟩, ⟨Zq32⟩, ⟨Zq42⟩, ⟨Zq71⟩⟩
      ·rw [if_neg c16] at H; exact absurd H Zq9
     ·rw [if_neg c15] at H; exact absurd H Zq9
    ·rw [if_neg c14] at H; have c14b0 : decide (x28_1 < (taF.length : Int)) = false := decide_eq_false c14; clear c14; simp only [Option.some.injEq, Prod.mk.injEq] at H; obtain ⟨rfl, rfl⟩ := H
     go_wp2
     go_ret2
     exact ⟨Zq11, Zq35⟩
 ·rw [if_neg c6] at H; have c6b0 : (tdG == 0) = false := beq_eq_false_iff_ne.mpr c6; have c6b1 : (tdG != 0) = true := bne_iff_ne.mpr c6; simp only [Option.some.injEq, Prod.mk.injEq] at H; obtain ⟨rfl, rfl⟩ := H
  go_enter Try.func49, Try.ntmps49
  go_wp2_with (first | ((with_reducible refine gate_dst (N := 4) rfl ?_); refine box_event ?hg (N := 4) ?hd (cs := #[.string a0_0, .slice A0_1 l0_1.length c0_1, .slice A0_2 l0_2.length c0_2]) (t := 30) ?hr ?_; (case hd | hg => rfl); (case hr => first | (go_simp; done) | (go_simp; rfl)); intro gbaS hg w44 hbox hb; have n0_ := Zq140; have n1_ := Ak (hbox); have n2_ := Zq224; have n3_ := Zq224; clear HB; have HB := n0_; have BKaS := n1_; have GWaS := n2_; have GEaS := n3_; clear n0_ n1_ n2_ n3_ hb hbox hg) | ((with_reducible refine gate_dst (N := 5) rfl ?_); refine box_event ?hg (N := 5) ?hd (cs := #[.string a1_0, .slice A1_1 l1_1.length c1_1, .slice A1_2 l1_2.length c1_2]) (t := 30) ?hr ?_; (case hd | hg => rfl); (case hr => first | (go_simp; done) | (go_simp; rfl)); intro gbaZ hg w45 hbox hb; have n0_ := Zq147; have n1_ := Ak (below_step Zq85 hb); have n2_ := Ak (hbox); have n3_ := Zq219; have n4_ := Zq219; have n5_ := Ak ((by rw [hg]; exact Nat.ne_of_lt Zq144 : gbaS ≠ gbaZ)); have n6_ := Ak ((by rw [hg]; exact Nat.ne_of_gt Zq144 : gbaZ ≠ gbaS)); clear BKaS HB; have BKaS := n0_; have HB := n1_; have BKaZ := n2_; have GWaZ := n3_; have GEaZ := n4_; have NB240_241 := n5_; have NB241_240 := n6_; clear n0_ n1_ n2_ n3_ n4_ n5_ n6_ hb hbox hg; have hnb46 := NB240_241.out; have hnc46 := NB241_240.out; have hcz47_0 : w45.cell? ⟨gbaS, 0, none⟩ = some (.string a0_0) := (blk_cell BKaS.out 0).trans rfl; have hcz47_1 : w45.cell? ⟨gbaS, 1, none⟩ = some (.slice A0_1 l0_1.length c0_1) := (blk_cell BKaS.out 1).trans rfl; have hcz47_2 : w45.cell? ⟨gbaS, 2, none⟩ = some (.slice A0_2 l0_2.length c0_2) := (blk_cell BKaS.out 2).trans rfl; have hfz47_0 := blk_frozen BKaS.out 0; have hfz47_1 := blk_frozen BKaS.out 1; have hfz47_2 := blk_frozen BKaS.out 2; have hcz48_0 : w45.cell? ⟨gbaZ, 0, none⟩ = some (.string a1_0) := (blk_cell BKaZ.out 0).trans rfl; have hcz48_1 : w45.cell? ⟨gbaZ, 1, none⟩ = some (.slice A1_1 l1_1.length c1_1) := (blk_cell BKaZ.out 1).trans rfl; have hcz48_2 : w45.cell? ⟨gbaZ, 2, none⟩ = some (.slice A1_2 l1_2.length c1_2) := (blk_cell BKaZ.out 2).trans rfl; have hfz48_0 := blk_frozen BKaZ.out 0; have hfz48_1 := blk_frozen BKaZ.out 1; have hfz48_2 := blk_frozen BKaZ.out 2) | ((with_reducible refine gate_callee (f := 17) rfl ?_); refine goesL_ (some 19) rfl rfl Try.func17 Zq2 rfl #[.agg #[.string a0_0, .slice A0_1 l0_1.length c0_1, .slice A0_2 l0_2.length c0_2], .agg #[.string a1_0, .slice A1_1 l1_1.length c1_1, .slice A1_2 l1_2.length c1_2]] rfl Zq8 ?_; (with_reducible refine (xlate_Ranges.calls k a0_0 _ _ l0_1 _ _ l0_2 a1_0 _ _ l1_1 _ _ l1_2 taF tfK tdG _ ?side1 ?side2 ?side3 ?side4 ?side5 ?side6 ?side7 ?side8 A5.out).mono ?_); (case side1 => repeat (first | exact Zq142 | (with_reducible refine Kd.C_alloc ?_ _) | (with_reducible refine Kd.C_drewN ?_ _) | (with_reducible refine Kd.C_drew ?_))); (case side2 => exact HC0_1.out); (case side3 => repeat (first | exact Zq161 | (with_reducible refine Kd.C_alloc ?_ _) | (with_reducible refine Kd.C_drewN ?_ _) | (with_reducible refine Kd.C_drew ?_))); (case side4 => exact HC0_2.out); (case side5 => repeat (first | exact Zq204 | (with_reducible refine Kd.C_alloc ?_ _) | (with_reducible refine Kd.C_drewN ?_ _) | (with_reducible refine Kd.C_drew ?_))); (case side6 => exact HC1_1.out); (case side7 => repeat (first | exact Zq205 | (with_reducible refine Kd.C_alloc ?_ _) | (with_reducible refine Kd.C_drewN ?_ _) | (with_reducible refine Kd.C_drew ?_))); (case side8 => exact HC1_2.out); rintro e w49 ⟨v243, rfl, ho0, hb⟩; refine ⟨_, rfl, ?_⟩; have n0_ := Ak (Kd.R_lower ho0 (below_size Zq35)); have n1_ := Zq147; have n2_ := Zq160; have n3_ := Zq243; clear BKaS BKaZ HB; have HOfn := n0_; have BKaS := n1_; have BKaZ := n2_; have HB := n3_; clear n0_ n1_ n2_ n3_; (try clear hb); (try clear hb2); (try clear hk); (try clear hi); (try clear ho0)))
  go_ret2
  exact ⟨Zq11, Zq35⟩
def xlate_Up.l0 : Nat → List Int → Int → Int → Int → Int → List (S94) → ByteArray → List (S77) → List (S30) → ByteArray → List (S77) → List (S30) → Option (Int × Int)
 | 0, _, _, _, _, _, _, _, _, _, _, _, _ => none
 | k + 1, x1, x2, x3, x12, xfL, xfM, xfN, xfO, xfP, xbO, xaM, xaN => if x12 > 0 then (if 0 ≤ (wrap64 (x12 - 1)) then (if (wrap64 (x12 - 1)) ≤ (x1.length : Int) then ((path_Get.f k xfL xfM xfN xfO xfP (x1.take ((wrap64 (x12 - 1)) : Int).toNat)).bind fun btba => ((xlate_step.f k btba.1 btba.2.1 btba.2.2.1 xbO xaM xaN x2 x3).bind fun btcv => (if btcv.2 = 0 then (xlate_Up.l0 k x1 btcv.1 x3 (wrap64 (x12 - 1)) xfL xfM xfN xfO xfP btba.1 btba.2.1 btba.2.2.1) else (some (0, btcv.2))))) else (none)) else (none)) else (some (x2, 0))
def xlate_Up.f (k : Nat) (a0_0 : Int) (l0_1 : List (S94)) (a0_2 : ByteArray) (l0_3 : List (S77)) (l0_4 : List (S30)) (l1 : List Int) (a2 : Int) (a3 : Int) : Option (Int × Int) := (path_Get.f k a0_0 l0_1 a0_2 l0_3 l0_4 l1).bind fun btck => (if btck.2.2.2 = 0 then (xlate_Up.l0 k l1 a2 a3 (l1.length : Int) a0_0 l0_1 a0_2 l0_3 l0_4 btck.1 btck.2.1 btck.2.2.1) else (some (0, 8)))
theorem xlate_Up.mono_l : ∀ k, (∀ y0 y1 y2 y3 y4 y5 y6 y7 y8 y9 y10 y11, LeO (xlate_Up.l0 k y0 y1 y2 y3 y4 y5 y6 y7 y8 y9 y10 y11) (xlate_Up.l0 (k + 1) y0 y1 y2 y3 y4 y5 y6 y7 y8 y9 y10 y11))
 | 0 => fun _ _ _ _ _ _ _ _ _ _ _ _ r h => by simp [xlate_Up.l0] at h
 | k + 1 => by
  have ih0 := xlate_Up.mono_l k
  ·intro y0 y1 y2 y3 y4 y5 y6 y7 y8 y9 y10 y11; unfold xlate_Up.l0
   repeat' first | (with_reducible first | exact ih0 _ _ _ _ _ _ _ _ _ _ _ _ | exact path_Get.mono _ _ _ _ _ _ _ | exact xlate_step.mono _ _ _ _ _ _ _ _ _ | exact LeO.refl _ | exact LeO.none _ | refine LeO.ite ?_ ?_ | refine LeO.bind ?_ (fun _ => ?_))
theorem xlate_Up.mono : ∀ a0 a1 a2 a3 a4 a5 a6 a7 k, LeO (xlate_Up.f k a0 a1 a2 a3 a4 a5 a6 a7) (xlate_Up.f (k + 1) a0 a1 a2 a3 a4 a5 a6 a7) := by
 intro a0 a1 a2 a3 a4 a5 a6 a7 k; have ih0 := xlate_Up.mono_l k; unfold xlate_Up.f
 repeat' first | (with_reducible first | exact ih0 _ _ _ _ _ _ _ _ _ _ _ _ | exact path_Get.mono _ _ _ _ _ _ _ | exact xlate_step.mono _ _ _ _ _ _ _ _ _ | exact LeO.refl _ | exact LeO.none _ | refine LeO.ite ?_ ?_ | refine LeO.bind ?_ (fun _ => ?_))
def xlate_Up.T7 : Bool × List (List Nat × List Nat) := (true, [([], []), ([], []), ([], []), ([2], [2]), ([1, 3], [1, 3]), ([0, 4], [0, 4]), ([5], [5]), ([6], [6]), ([6], [6]), ([], []), ([9, 7, 5, 0, 1, 2, 3, 4, 5, 6, 7, 9], [7, 9]), ([8, 10, 0, 1, 2, 3, 4, 5, 6, 7, 8, 9, 10], [8])])
def xlate_Up.B7 : List Nat := [0, 0, 0, 4, 14, 31, 63, 127, 127, 0, 767, 2047]
theorem xlate_Up.tab7 : rtab .any (opsOf Try.f20 7) = xlate_Up.T7 := by kernel_rfl
theorem xlate_Up.bits7 : waitsOk xlate_Up.T7.2 xlate_Up.B7 = true := by kernel_rfl
end Go.Proofs.Yteejaaeglfpcmab.PX

namespace Go.Proofs.Yteejaaeglfpcmab.PX
open Go.RowKit Go.Proofs.YteejaaeglfpcmabW.PrintWords Go.Proofs.YteejaaeglfpcmabW.PrintLast Go.Proofs.YteejaaeglfpcmabW.PrintMore
attribute [local go_sem] max2_int min2_int max_two min_two max_three min_three max_four min_four
set_option maxHeartbeats 8000000 in
set_option maxRecDepth 100000 in
theorem xlate_Up.calls (k : Nat) (a0_0 : Int) (A0_1 : Option Addr) (c0_1 : Nat) (l0_1 : List (S94)) (a0_2 : ByteArray) (A0_3 : Option Addr) (c0_3 : Nat) (l0_3 : List (S77)) (A0_4 : Option Addr) (c0_4 : Nat) (l0_4 : List (S30)) (A1 : Option Addr) (c1 : Nat) (l1 : List Int) (a2 : Int) (a3 : Int) (r1 : Int) (r2 : Int) (w : World) (hr0_1 : Kd.C k94 w A0_1 l0_1.length l0_1) (hc0_1 : l0_1.length ≤ c0_1) (hr0_3 : Kd.C k77 w A0_3 l0_3.length l0_3) (hc0_3 : l0_3.length ≤ c0_3) (hr0_4 : Kd.C k30 w A0_4 l0_4.length l0_4) (hc0_4 : l0_4.length ≤ c0_4) (hr1 : Kd.C (Kd.int .i64) w A1 l1.length l1) (hc1 : l1.length ≤ c1) (h : xlate_Up.f k a0_0 l0_1 a0_2 l0_3 l0_4 l1 a2 a3 = some (r1, r2)) :
  Calls Try.prog 20 #[.agg #[.int .u32 a0_0, .slice A0_1 l0_1.length c0_1, .string a0_2, .slice A0_3 l0_3.length c0_3, .slice A0_4 l0_4.length c0_4], .slice A1 l1.length c1, .int .u64 a2, .int .u64 a3] w fun e w' => e = .returned (.tuple #[.int .u64 r1, .int .i64 r2]) ∧ Below w.heap.size w w' := by
 have hu35 := Try.underlying35; have hu30 := Try.underlying30; have HR0_1 := Ak hr0_1; have HC0_1 := Ak hc0_1; clear hr0_1 hc0_1; have HR0_3 := Ak hr0_3; have HC0_3 := Ak hc0_3; clear hr0_3 hc0_3; have HR0_4 := Ak hr0_4; have HC0_4 := Ak hc0_4; clear hr0_4 hc0_4; have HR1 := Ak hr1; have HC1 := Ak hc1; clear hr1 hc1; have HB := Zq145; have H : ((path_Get.f k a0_0 l0_1 a0_2 l0_3 l0_4 l1).bind fun btck => (if btck.2.2.2 = 0 then (xlate_Up.l0 k l1 a2 a3 (l1.length : Int) a0_0 l0_1 a0_2 l0_3 l0_4 btck.1 btck.2.1 btck.2.2.1) else (some (0, 8)))) = some (r1, r2) := h; clear h; replace H := Option.bind_eq_some_iff.mp H; obtain ⟨⟨tck, tdS, tec, tdT⟩, A50, H⟩ := H; replace H : (if tdT = 0 then (xlate_Up.l0 k l1 a2 a3 (l1.length : Int) a0_0 l0_1 a0_2 l0_3 l0_4 tck tdS tec) else (some (0, 8))) = some (r1, r2) := H; have A5 := Ak A50; clear A50
 by_cases c6 : tdT = 0
 ·rw [if_pos c6] at H; have c6b0 : (tdT == 0) = true := beq_iff_eq.mpr c6; have c6b1 : (tdT != 0) = false := bne_eq_false_iff_eq.mpr c6; clear c6; have H' := Ak H; clear H
  go_enter Try.func20, Try.ntmps20
  go_wp2_with (first | ((with_reducible refine gate_dst (N := 4) rfl ?_); refine box_event ?hg (N := 4) ?hd (cs := #[.int .u32 a0_0, .slice A0_1 l0_1.length c0_1, .string a0_2, .slice A0_3 l0_3.length c0_3, .slice A0_4 l0_4.length c0_4]) (t := 35) ?hr ?_; (case hd | hg => rfl); (case hr => first | (go_simp; done) | (go_simp; rfl)); intro gbag hg w7 hbox hb; have n0_ := Zq140; have n1_ := Ak (hbox); have n2_ := Zq225; have n3_ := Zq225; clear HB; have HB := n0_; have BKag := n1_; have GWag := n2_; have GEag := n3_; clear n0_ n1_ n2_ n3_ hb hbox hg; have hcz8_0 : w7.cell? ⟨gbag, 0, none⟩ = some (.int .u32 a0_0) := (blk_cell BKag.out 0).trans rfl; have hcz8_1 : w7.cell? ⟨gbag, 1, none⟩ = some (.slice A0_1 l0_1.length c0_1) := (blk_cell BKag.out 1).trans rfl; have hcz8_2 : w7.cell? ⟨gbag, 2, none⟩ = some (.string a0_2) := (blk_cell BKag.out 2).trans rfl; have hcz8_3 : w7.cell? ⟨gbag, 3, none⟩ = some (.slice A0_3 l0_3.length c0_3) := (blk_cell BKag.out 3).trans rfl; have hcz8_4 : w7.cell? ⟨gbag, 4, none⟩ = some (.slice A0_4 l0_4.length c0_4) := (blk_cell BKag.out 4).trans rfl; have hfz8_0 := blk_frozen BKag.out 0; have hfz8_1 := blk_frozen BKag.out 1; have hfz8_2 := blk_frozen BKag.out 2; have hfz8_3 := blk_frozen BKag.out 3; have hfz8_4 := blk_frozen BKag.out 4) | ((with_reducible refine gate_callee (f := 48) rfl ?_); refine goesL_ (some 18) rfl rfl Try.func48 Zq2 rfl #[.agg #[.int .u32 a0_0, .slice A0_1 l0_1.length c0_1, .string a0_2, .slice A0_3 l0_3.length c0_3, .slice A0_4 l0_4.length c0_4], .slice A1 l1.length c1] rfl Zq8 ?_; (with_reducible refine (path_Get.calls k a0_0 _ _ l0_1 a0_2 (fun k_ => k_ < w.heap.size) _ _ l0_3 (fun k_ => k_ < w.heap.size) _ _ l0_4 _ _ l1 tck tdS tec tdT _ ?side1 ?side2 ?side3 ?side4 ?side5 ?side6 A5.out).mono ?_); (case side1 => repeat (first | exact Zq142 | (with_reducible refine Kd.C_alloc ?_ _) | (with_reducible refine Kd.C_drewN ?_ _) | (with_reducible refine Kd.C_drew ?_))); (case side2 => exact HC0_1.out); (case side3 => exact Kd.V_mk HC0_3.out (Kd.F_below (Kd.C_F k77_heap HR0_3.out) Zq43)); (case side4 => exact Kd.V_mk HC0_4.out (Kd.F_below (Kd.C_F k30_heap HR0_4.out) Zq43)); (case side5 => repeat (first | exact (Kd.C_below HR1.out HB.out) | (with_reducible refine Kd.C_alloc ?_ _) | (with_reducible refine Kd.C_drewN ?_ _) | (with_reducible refine Kd.C_drew ?_))); (case side6 => exact HC1.out); rintro e w9 ⟨v253, v256, rfl, ho0, ho1, hb⟩; refine ⟨_, rfl, ?_⟩; have n0_ := Ak (Kd.S_lower (Kd.S_mono (ok' := fun k_ => True) ho0 (fun _ hk_ => trivial)) (below_size Zq43)); have n1_ := Zq259; have n2_ := Zq138; have n3_ := Ak (below_step Zq43 hb); clear BKag HB; have HOdH := n0_; have HOdI := n1_; have BKag := n2_; have HB := n3_; clear n0_ n1_ n2_ n3_; (try clear hb); (try clear hb2); (try clear hk); (try clear hi); (try clear ho0); (try clear ho1)) | ((with_reducible refine gate_dst (N := 10) rfl ?_); refine box_event ?hg (N := 10) ?hd (cs := #[.string (⟨#[]⟩ : ByteArray), .slice none 0 0, .slice none 0 0]) (t := 30) ?hr ?_; (case hd | hg => rfl); (case hr => first | (go_simp; done) | (go_simp; rfl)); intro gbal hg w10 hbox hb; have n0_ := Zq251; have n1_ := Zq235; have n2_ := Zq138; have n3_ := Ak (below_step Zq43 hb); have n4_ := Ak (hbox); have n5_ := Zq220; have n6_ := Zq220; have n7_ := Ak ((by rw [hg]; exact Nat.ne_of_lt Zq141 : gbag ≠ gbal)); have n8_ := Ak ((by rw [hg]; exact Nat.ne_of_gt Zq141 : gbal ≠ gbag)); clear HOdH HOdI BKag HB; have HOdH := n0_; have HOdI := n1_; have BKag := n2_; have HB := n3_; have BKal := n4_; have GWal := n5_; have GEal := n6_; have NB250_259 := n7_; have NB259_250 := n8_; clear n0_ n1_ n2_ n3_ n4_ n5_ n6_ n7_ n8_ hb hbox hg; have hnb11 := NB259_250.out; have hnc11 := NB250_259.out; have hcz12_0 : w10.cell? ⟨gbal, 0, none⟩ = some (.string (⟨#[]⟩ : ByteArray)) := (blk_cell BKal.out 0).trans rfl; have hcz12_1 : w10.cell? ⟨gbal, 1, none⟩ = some (.slice none 0 0) := (blk_cell BKal.out 1).trans rfl; have hcz12_2 : w10.cell? ⟨gbal, 2, none⟩ = some (.slice none 0 0) := (blk_cell BKal.out 2).trans rfl; have hfz12_0 := blk_frozen BKal.out 0; have hfz12_1 := blk_frozen BKal.out 1; have hfz12_2 := blk_frozen BKal.out 2; obtain ⟨Ao13, co13, eo13⟩ := Kd.S_slice HOdH.out; subst eo13; obtain ⟨Ao14, co14, eo14⟩ := Kd.R_slice HOdI.out; subst eo14))
  go_loopg [2, 12] k (fun kq v2 v12 w' => ∃ (x2_1 : Int) (x12_1 : Int) (xbO_1 : ByteArray) (xaM_1 : List (S77)) (xaN_1 : List (S30)) (u260001 : Value) (u260002 : Value), v2 = .int .u64 x2_1 ∧ v12 = .int .i64 x12_1 ∧ Aside0 (xlate_Up.l0 kq l1 x2_1 a3 x12_1 a0_0 l0_1 a0_2 l0_3 l0_4 xbO_1 xaM_1 xaN_1 = some (r1, r2)) ∧ Aside0 (kq ≤ k) ∧ Aside0 (Kd.S k77 77 w' w.heap.size (fun _ => True) u260001 xaM_1) ∧ Aside0 (Kd.R k30 30 w' w.heap.size (fun k_ => some k_ ≠ (u260001 : Value).ownBlock ∧ k_ ≠ gbal) u260002 xaN_1) ∧ Aside0 (w'.heap[gbag]? = some (.cells #[.int .u32 a0_0, (.slice A0_1 l0_1.length c0_1), .string a0_2, (.slice A0_3 l0_3.length c0_3), (.slice A0_4 l0_4.length c0_4)] 35 (0, 0))) ∧ Aside0 (w'.heap[gbal]? = some (.cells #[.string xbO_1, u260001, u260002] 30 (0, 0))) ∧ Aside0 (Below w.heap.size w w'))
  case atStart => exact ⟨(a2), ((l1.length : Int)), (tck), (tdS), (tec), (.slice Ao13 tdS.length co13), (.slice Ao14 tec.length co14), Zq6, Zq6, H', ⟨Nat.le_refl _⟩, ⟨by (with_reducible repeat (first | apply Kd.S_alloc | apply Kd.S_drewN | apply Kd.S_drew)); exact Kd.S_mono (Kd.S_far (p := ⟨gbal, 2, none⟩) (Kd.S_far (p := ⟨gbal, 1, none⟩) (Kd.S_far (p := ⟨gbal, 0, none⟩) (Kd.S_types HOdH.out BKal.out Zq7) (fun _ hk => hk.2) (.string tck)) (fun _ hk => hk.2) (.slice Ao13 tdS.length co13)) (fun _ hk => hk.2) (.slice Ao14 tec.length co14)) (fun _ hk => trivial)⟩, ⟨by (with_reducible repeat (first | apply Kd.R_alloc | apply Kd.R_drewN | apply Kd.R_drew)); exact Kd.R_mono (Kd.R_far (p := ⟨gbal, 2, none⟩) (Kd.R_far (p := ⟨gbal, 1, none⟩) (Kd.R_far (p := ⟨gbal, 0, none⟩) (Kd.R_mono HOdI.out (fun k_ hk => (⟨hk, hk.2⟩ : _ ∧ k_ ≠ gbal))) (fun _ hk => hk.2) (.string tck)) (fun _ hk => hk.2) (.slice Ao13 tdS.length co13)) (fun _ hk => hk.2) (.slice Ao14 tec.length co14)) (fun _ hk => ⟨hk.1.1, hk.1.2⟩)⟩, ⟨by (with_reducible repeat (first | refine blk_drewN ?_ _ | refine blk_drew ?_ | refine blk_alloc ?_ _)); refine blk_far ?_ NB250_259.out _; (with_reducible repeat (first | refine blk_drewN ?_ _ | refine blk_drew ?_ | refine blk_alloc ?_ _)); refine blk_far ?_ NB250_259.out _; (with_reducible repeat (first | refine blk_drewN ?_ _ | refine blk_drew ?_ | refine blk_alloc ?_ _)); refine blk_far ?_ NB250_259.out _; (with_reducible repeat (first | refine blk_drewN ?_ _ | refine blk_drew ?_ | refine blk_alloc ?_ _)); exact BKag.out⟩, ⟨by (with_reducible repeat (first | refine blk_drewN ?_ _ | refine blk_drew ?_ | refine blk_alloc ?_ _)); refine blk_put (cs := #[.string tck, .slice Ao13 tdS.length co13, .slice none 0 0]) ?_ 2 _ rfl; (with_reducible repeat (first | refine blk_drewN ?_ _ | refine blk_drew ?_ | refine blk_alloc ?_ _)); refine blk_put (cs := #[.string tck, .slice none 0 0, .slice none 0 0]) ?_ 1 _ rfl; (with_reducible repeat (first | refine blk_drewN ?_ _ | refine blk_drew ?_ | refine blk_alloc ?_ _)); refine blk_put (cs := #[.string (⟨#[]⟩ : ByteArray), .slice none 0 0, .slice none 0 0]) ?_ 0 _ rfl; (with_reducible repeat (first | refine blk_drewN ?_ _ | refine blk_drew ?_ | refine blk_alloc ?_ _)); exact BKal.out⟩, ⟨Zq26⟩⟩
  case round =>
   clear H'
   try clear c1
   try clear c2
   try clear p2
   try clear c4
   try clear c6
   try clear c6b0
   try clear c6b1
   try clear c11
   try clear hcz12_0
   try clear hcz12_1
   try clear hcz12_2
   try clear hcz8_0
   try clear hcz8_1
   try clear hcz8_2
   try clear hcz8_3
   try clear hcz8_4
   try clear hfz12_0
   try clear hfz12_1
   try clear hfz12_2
   try clear hfz8_0
   try clear hfz8_1
   try clear hfz8_2
   try clear hfz8_3
   try clear hfz8_4
   obtain ⟨x2_1, x12_1, xbO_1, xaM_1, xaN_1, u260001, u260002, rfl, rfl, HA, HK1, HO_aM, HO_aN, BKag, BKal, HB⟩ := hrel
   cases gk with
   | zero => exact absurd HA.out (by simp [xlate_Up.l0])
   | succ k1 =>
    have H := HA.out; clear HA; simp only [xlate_Up.l0] at H
    by_cases c15 : x12_1 > 0
    ·rw [if_pos c15] at H; have c15b0 : decide (0 < x12_1) = true := decide_eq_true c15; clear c15
     obtain ⟨ji16, hji16⟩ : ∃ j_ : Int, (wrap64 (x12_1 - 1)) = j_ := ⟨_, rfl⟩
     replace H : (if 0 ≤ (ji16) then (if (ji16) ≤ (l1.length : Int) then ((path_Get.f k1 a0_0 l0_1 a0_2 l0_3 l0_4 (l1.take ((ji16) : Int).toNat)).bind fun btba => ((xlate_step.f k1 btba.1 btba.2.1 btba.2.2.1 xbO_1 xaM_1 xaN_1 x2_1 a3).bind fun btcv => (if btcv.2 = 0 then (xlate_Up.l0 k1 l1 btcv.1 a3 ji16 a0_0 l0_1 a0_2 l0_3 l0_4 btba.1 btba.2.1 btba.2.2.1) else (some (0, btcv.2))))) else (none)) else (none)) = some (r1, r2) := by first | (rw [hji16] at H; exact H) | (simp only [hji16] at H ⊢; exact H)
     have hji16w : (IntKind.i64.wrap (x12_1 - 1)) = ji16 := (i64_w _).trans hji16
     by_cases c17 : 0 ≤ (ji16)
     ·rw [if_pos c17] at H; have c17b0 := eq_true c17; have c17b1 : decide (0 ≤ (ji16)) = true := decide_eq_true c17; clear c17
      by_cases c18 : (ji16) ≤ (l1.length : Int)
      ·rw [if_pos c18] at H; have c18b0 := eq_true c18; have c18b1 : decide ((ji16) ≤ (l1.length : Int)) = true := decide_eq_true c18; clear c18; replace H := Option.bind_eq_some_iff.mp H; obtain ⟨⟨tba, tbm, tbs, tdp⟩, AfQ, H⟩ := H; replace H : ((xlate_step.f k1 tba tbm tbs xbO_1 xaM_1 xaN_1 x2_1 a3).bind fun btcv => (if btcv.2 = 0 then (xlate_Up.l0 k1 l1 btcv.1 a3 ji16 a0_0 l0_1 a0_2 l0_3 l0_4 tba tbm tbs) else (some (0, btcv.2)))) = some (r1, r2) := H; have A19 := Ak AfQ; clear AfQ; replace H := Option.bind_eq_some_iff.mp H; obtain ⟨⟨tcv, tdJ⟩, AaL, H⟩ := H; replace H : (if tdJ = 0 then (xlate_Up.l0 k1 l1 tcv a3 ji16 a0_0 l0_1 a0_2 l0_3 l0_4 tba tbm tbs) else (some (0, tdJ))) = some (r1, r2) := H; have A20 := Ak AaL; clear AaL
       by_cases c21 : tdJ = 0
       ·rw [if_pos c21] at H; have c21b0 : (tdJ == 0) = true := beq_iff_eq.mpr c21; have c21b1 : (tdJ != 0) = false := bne_eq_false_iff_eq.mpr c21; clear c21; have H' := Ak H; clear H
        try go_wp2
        have n0_ := Ak (Kd.S_drew HO_aM.out); have n1_ := Ak (Kd.R_drew HO_aN.out); have n2_ := Ak (blk_drew BKag.out); have n3_ := Ak (blk_drew BKal.out); have n4_ := Zq178; clear HO_aM HO_aN BKag BKal HB; have HO_aM := n0_; have HO_aN := n1_; have BKag := n2_; have BKal := n3_; have HB := n4_; clear n0_ n1_ n2_ n3_ n4_; obtain ⟨i023, hi023, _, hsz23, _⟩ := info_parts info3; obtain ⟨hcut23, hA23, hC23⟩ := print_take_of (P := Try.prog) (Value.int .i64) 0 48 3 .i64 Try.underlying48 hi023 hsz23 A1 c1 l1 (ji16) (of_decide_eq_true Zq4) (of_decide_eq_true Zq4) HC1.out; have HRcw := Ak (Kd.C_of_reads (h1 := fun _ => rfl) (hA23 _ (Kd.reads_of_C HR1.out))); have HCcw := Ak hC23; clear hA23 hC23 hi023 hsz23; refine start_ (n := 12) (S := fun w' => w'.cell? ⟨gbag, 0, none⟩ = some (.int .u32 a0_0) ∧ w'.cell? ⟨gbag, 1, none⟩ = some (.slice A0_1 l0_1.length c0_1) ∧ w'.cell? ⟨gbag, 2, none⟩ = some (.string a0_2) ∧ w'.cell? ⟨gbag, 3, none⟩ = some (.slice A0_3 l0_3.length c0_3) ∧ w'.cell? ⟨gbag, 4, none⟩ = some (.slice A0_4 l0_4.length c0_4)) (ds := []) #[false, false, false, false, false, false, false, false, false, false, false, false] Zq2 rfl rfl ⟨(blk_cell BKag.out 0).trans rfl, (blk_cell BKag.out 1).trans rfl, (blk_cell BKag.out 2).trans rfl, (blk_cell BKag.out 3).trans rfl, (blk_cell BKag.out 4).trans rfl⟩ (fun hHeld => ?_); refine with_tabW xlate_Up.tab7 xlate_Up.bits7 (fun HT_ HW_ => ?_); generalize wr.drew = w22 at HO_aM HO_aN BKag BKal HB HRcw hHeld ⊢; refine pure_ (i := 1) (N := some 31) (v := ?_) (a' := ?_) #[false, true, false, false, false, false, false, false, false, false, false, false] rfl rfl (any_of HT_.out Zq2) (fun _ _ _ h => h) (Or.inl ⟨Zq3, ?_⟩) ?_ ?_
        rotate_left
        ·intro w'
         go_simp
         with_reducible rfl
        rotate_left
        ·simp only [Sx]
         rfl
        refine pure_ (i := 2) (N := some 32) (v := ?_) (a' := ?_) #[false, true, true, false, false, false, false, false, false, false, false, false] rfl rfl (any_of HT_.out Zq2) (fun _ _ _ h => h) (Or.inl ⟨Zq3, ?_⟩) ?_ ?_
        rotate_left
        ·intro w'
         go_simp
         with_reducible rfl
        rotate_left
        ·simp only [Sx]
         rfl
        refine pure_ (i := 3) (N := some 33) (v := ?_) (a' := ?_) #[false, true, true, true, false, false, false, false, false, false, false, false] rfl rfl (any_of HT_.out Zq2) (fun _ _ _ h => h) (Or.inl ⟨Zq3, ?_⟩) ?_ ?_
        rotate_left
        ·intro w'
         go_simp
         with_reducible rfl
        rotate_left
        ·simp only [Sx]
         rfl
        refine pure_ (i := 4) (N := some 34) (v := ?_) (a' := ?_) #[false, true, true, true, true, false, false, false, false, false, false, false] rfl rfl (any_of HT_.out Zq2) (fun _ _ _ h => h) (Or.inl ⟨Zq3, ?_⟩) ?_ ?_
        rotate_left
        ·intro w'
         go_simp
         with_reducible rfl
        rotate_left
        ·simp only [Sx]
         rfl
        refine take_ (i := 0) (N := some 30) (v := ?_) (a' := ?_) #[true, true, true, true, true, false, false, false, false, false, false, false] rfl rfl (take_ofW HT_.out HW_.out Zq2) (fun _ _ _ h => h) (Or.inl ⟨Zq3, ?_⟩) hHeld ?_ ?_
        rotate_left
        ·rintro w' ⟨s0, s1, s2, s3, s4⟩
         go_simp
         with_reducible rfl
        rotate_left
        ·simp only [Sx]
         rfl
        refine join_ (σ := Value × Value × Nat) 2 #[true, true, true, true, true, true, true, true, true, true, false, false] (fun s_ => [(35, .tuple #[.agg #[.string tba, s_.1, s_.2.1], .int .i64 tdp]), (13, .pointer (some ⟨s_.2.2, 0, none⟩)), (29, .tuple #[.agg #[.string tba, s_.1, s_.2.1], .int .i64 tdp]), (36, .agg #[.string tba, s_.1, s_.2.1]), (37, .int .i64 tdp)]) (fun s_ w' => (w'.cell? ⟨gbag, 0, none⟩ = some (.int .u32 a0_0) ∧ w'.cell? ⟨gbag, 1, none⟩ = some (.slice A0_1 l0_1.length c0_1) ∧ w'.cell? ⟨gbag, 2, none⟩ = some (.string a0_2) ∧ w'.cell? ⟨gbag, 3, none⟩ = some (.slice A0_3 l0_3.length c0_3) ∧ w'.cell? ⟨gbag, 4, none⟩ = some (.slice A0_4 l0_4.length c0_4)) ∧ (Kd.S k77 77 w' w.heap.size (fun k_ => some k_ ≠ (u260001 : Value).ownBlock) s_.1 tbm) ∧ (Kd.R k30 30 w' w.heap.size (fun k_ => some k_ ≠ (s_.1 : Value).ownBlock ∧ some k_ ≠ (u260001 : Value).ownBlock ∧ some k_ ≠ (u260002 : Value).ownBlock ∧ k_ ≠ gbal ∧ k_ ≠ s_.2.2) s_.2.1 tbs) ∧ (Kd.S k77 77 w' w.heap.size (fun k_ => some k_ ≠ (s_.1 : Value).ownBlock) u260001 xaM_1) ∧ (Kd.R k30 30 w' w.heap.size (fun k_ => some k_ ≠ (s_.1 : Value).ownBlock ∧ some k_ ≠ (s_.2.1 : Value).ownBlock ∧ some k_ ≠ (u260001 : Value).ownBlock ∧ k_ ≠ gbal ∧ k_ ≠ s_.2.2) u260002 xaN_1) ∧ (w'.heap[gbag]? = some (.cells #[.int .u32 a0_0, .slice A0_1 l0_1.length c0_1, .string a0_2, .slice A0_3 l0_3.length c0_3, .slice A0_4 l0_4.length c0_4] 35 (0, 0))) ∧ (w'.heap[gbal]? = some (.cells #[.string xbO_1, u260001, u260002] 30 (0, 0))) ∧ (w'.heap[s_.2.2]? = some (.cells #[.string (⟨#[]⟩ : ByteArray), .slice none 0 0, .slice none 0 0] 30 (0, 0))) ∧ (w.heap.size ≤ s_.2.2) ∧ (w.heap.size ≤ s_.2.2) ∧ (gbag ≠ s_.2.2) ∧ (s_.2.2 ≠ gbag) ∧ (gbal ≠ s_.2.2) ∧ (s_.2.2 ≠ gbal) ∧ (Below w.heap.size w w')) ?_ ?_
        rotate_left
        ·intro hCont; refine two_ (i := 5) (j := 9) (Ni := some 35) (Nj := some 13) #[true, true, true, true, true, true, false, false, false, false, false, false] #[true, true, true, true, true, false, false, false, false, true, false, false] rfl rfl rfl rfl (two_of HT_.out Zq2) Zq7 Zq7 (fun K hK => ?_) (fun K hK => ?_)
         ·skip
          refine goes_ Try.func48 Zq2 rfl #[.agg #[.int .u32 a0_0, .slice A0_1 l0_1.length c0_1, .string a0_2, .slice A0_3 l0_3.length c0_3, .slice A0_4 l0_4.length c0_4], .slice A1 (l1.take ((ji16) : Int).toNat).length c1] Zq3 rfl rfl Zq128 ?_; with_reducible refine (path_Get.calls k1 a0_0 _ _ l0_1 a0_2 (fun k_ => k_ < w.heap.size) _ _ l0_3 (fun k_ => k_ < w.heap.size) _ _ l0_4 _ _ (l1.take ((ji16) : Int).toNat) tba tbm tbs tdp _ ?side1 ?side2 ?side3 ?side4 ?side5 ?side6 A19.out).mono ?_
          (case side1 => repeat (first | exact Zq142 | (with_reducible refine Kd.C_alloc ?_ _) | (with_reducible refine Kd.C_drewN ?_ _) | (with_reducible refine Kd.C_drew ?_)))
          (case side2 => exact HC0_1.out)
          (case side3 => exact Kd.V_mk HC0_3.out (Kd.F_below (Kd.C_F k77_heap HR0_3.out) Zq26))
          (case side4 => exact Kd.V_mk HC0_4.out (Kd.F_below (Kd.C_F k30_heap HR0_4.out) Zq26))
          (case side5 => repeat (first | exact (Kd.C_below HRcw.out HB.out) | (with_reducible refine Kd.C_alloc ?_ _) | (with_reducible refine Kd.C_drewN ?_ _) | (with_reducible refine Kd.C_drew ?_)))
          (case side6 => exact HCcw.out)
          rintro e w24 ⟨v263, v266, rfl, ho0, ho1, hb⟩
          refine ⟨_, rfl, ?_⟩; have n0_ := Zq250; have n1_ := Zq203; have n2_ := Zq260; have n3_ := Zq212; have n4_ := Zq138; have n5_ := Zq159; have n6_ := Zq244; clear HO_aM HO_aN BKag BKal HB; have HO_aM := n0_; have HO_aN := n1_; have HObR := n2_; have HObS := n3_; have BKag := n4_; have BKal := n5_; have HB := n6_; clear n0_ n1_ n2_ n3_ n4_ n5_ n6_
          (try clear hb)
          (try clear hb2)
          (try clear hk)
          (try clear hi)
          (try clear ho0)
          (try clear ho1)
          refine hK.out _ _ ⟨(blk_cell BKag.out 0).trans rfl, (blk_cell BKag.out 1).trans rfl, (blk_cell BKag.out 2).trans rfl, (blk_cell BKag.out 3).trans rfl, (blk_cell BKag.out 4).trans rfl⟩ (fun hHeld => ?_); clear hK K; refine norm_ (a' := ?_) ?_ ?_
          rotate_left
          ·show Act.put _ (some 35) _ = _
           simp only [Sx]
           rfl
          refine pure_ (i := 6) (N := some 29) (v := ?_) (a' := ?_) #[true, true, true, true, true, true, true, false, false, false, false, false] rfl rfl (any_of HT_.out Zq2) (fun _ _ _ h => h) (Or.inl ⟨Zq3, ?_⟩) ?_ ?_
          rotate_left
          ·intro w'
           go_simp
           with_reducible rfl
          rotate_left
          ·simp only [Sx]
           rfl
          refine pure_ (i := 7) (N := some 36) (v := ?_) (a' := ?_) #[true, true, true, true, true, true, true, true, false, false, false, false] rfl rfl (any_of HT_.out Zq2) (fun _ _ _ h => h) (Or.inl ⟨Zq3, ?_⟩) ?_ ?_
          rotate_left
          ·intro w'
           go_simp
           with_reducible rfl
          rotate_left
          ·simp only [Sx]
           rfl
          refine pure_ (i := 8) (N := some 37) (v := ?_) (a' := ?_) #[true, true, true, true, true, true, true, true, true, false, false, false] rfl rfl (any_of HT_.out Zq2) (fun _ _ _ h => h) (Or.inl ⟨Zq3, ?_⟩) ?_ ?_
          rotate_left
          ·intro w'
           go_simp
           with_reducible rfl
          rotate_left
          ·simp only [Sx]
           rfl
          refine one_ (i := 9) (N := some 13) #[true, true, true, true, true, true, true, true, true, true, false, false] rfl rfl (one_of HT_.out Zq2) Zq7 (fun K hK => ?_); refine box_step ?hg (N := 13) ?hd (cs := #[.string (⟨#[]⟩ : ByteArray), .slice none 0 0, .slice none 0 0]) (t := 30) ?hr ?_; (case hd | hg => rfl); (case hr => first | (go_simp; done) | (go_simp; rfl)); intro gbae hg w25 hbox hb; have n0_ := Ak (Kd.S_below Zq44 hb); have n1_ := Zq214; have n2_ := Zq252; have n3_ := Zq236; have n4_ := Zq138; have n5_ := Zq159; have n6_ := Zq244; have n7_ := Ak (hbox); have n8_ := Zq172; have n9_ := Zq172; have n10_ := Zq274; have n11_ := Zq275; have n12_ := Zq276; have n13_ := Zq277; clear HO_aM HO_aN HObR HObS BKag BKal HB; have HO_aM := n0_; have HO_aN := n1_; have HObR := n2_; have HObS := n3_; have BKag := n4_; have BKal := n5_; have HB := n6_; have BKae := n7_; have GWae := n8_; have GEae := n9_; have NB250_269 := n10_; have NB269_250 := n11_; have NB259_269 := n12_; have NB269_259 := n13_; clear n0_ n1_ n2_ n3_ n4_ n5_ n6_ n7_ n8_ n9_ n10_ n11_ n12_ n13_ hb hbox hg; refine hK.out _ _ ⟨(blk_cell BKag.out 0).trans rfl, (blk_cell BKag.out 1).trans rfl, (blk_cell BKag.out 2).trans rfl, (blk_cell BKag.out 3).trans rfl, (blk_cell BKag.out 4).trans rfl⟩ (fun hHeld => ?_); clear hK K; refine norm_ (a' := ?_) ?_ ?_
          rotate_left
          ·show Act.put _ (some 13) _ = _
           simp only [Sx]
           rfl
          exact norm_ Zq55 (hCont (v263, v266, gbae) _ ⟨hHeld, Zq114, Zq115, Zq116, (by (with_reducible repeat (first | apply Kd.R_alloc | apply Kd.R_drewN | apply Kd.R_drew)); exact Kd.R_mono HO_aN.out (fun _ hk => ⟨hk.1.1.2, ⟨hk.1.2, ⟨hk.1.1.1.1, ⟨hk.1.1.1.2, hk.2⟩⟩⟩⟩)), Zq24, Zq27, Zq72, GWae.out, GEae.out, NB250_269.out, NB269_250.out, NB259_269.out, NB269_259.out, Zq37⟩)
         ·skip
          refine box_step ?hg (N := 13) ?hd (cs := #[.string (⟨#[]⟩ : ByteArray), .slice none 0 0, .slice none 0 0]) (t := 30) ?hr ?_; (case hd | hg => rfl); (case hr => first | (go_simp; done) | (go_simp; rfl)); intro gbae hg w24 hbox hb; have n0_ := Ak (Kd.S_below Zq44 hb); have n1_ := Zq214; have n2_ := Zq138; have n3_ := Zq159; have n4_ := Zq244; have n5_ := Ak (hbox); have n6_ := Zq172; have n7_ := Zq172; have n8_ := Zq274; have n9_ := Zq275; have n10_ := Zq276; have n11_ := Zq277; clear HO_aM HO_aN BKag BKal HB; have HO_aM := n0_; have HO_aN := n1_; have BKag := n2_; have BKal := n3_; have HB := n4_; have BKae := n5_; have GWae := n6_; have GEae := n7_; have NB250_269 := n8_; have NB269_250 := n9_; have NB259_269 := n10_; have NB269_259 := n11_; clear n0_ n1_ n2_ n3_ n4_ n5_ n6_ n7_ n8_ n9_ n10_ n11_ hb hbox hg; refine hK.out _ _ ⟨(blk_cell BKag.out 0).trans rfl, (blk_cell BKag.out 1).trans rfl, (blk_cell BKag.out 2).trans rfl, (blk_cell BKag.out 3).trans rfl, (blk_cell BKag.out 4).trans rfl⟩ (fun hHeld => ?_); clear hK K; refine norm_ (a' := ?_) ?_ ?_
          rotate_left
          ·show Act.put _ (some 13) _ = _
           simp only [Sx]
           rfl
          refine one_ (i := 5) (N := some 35) #[true, true, true, true, true, true, false, false, false, true, false, false] rfl rfl (one_of HT_.out Zq2) Zq7 (fun K hK => ?_); refine goes_ Try.func48 Zq2 rfl #[.agg #[.int .u32 a0_0, .slice A0_1 l0_1.length c0_1, .string a0_2, .slice A0_3 l0_3.length c0_3, .slice A0_4 l0_4.length c0_4], .slice A1 (l1.take ((ji16) : Int).toNat).length c1] Zq3 rfl rfl Zq128 ?_; with_reducible refine (path_Get.calls k1 a0_0 _ _ l0_1 a0_2 (fun k_ => k_ < w.heap.size) _ _ l0_3 (fun k_ => k_ < w.heap.size) _ _ l0_4 _ _ (l1.take ((ji16) : Int).toNat) tba tbm tbs tdp _ ?side1 ?side2 ?side3 ?side4 ?side5 ?side6 A19.out).mono ?_
          (case side1 => repeat (first | exact Zq142 | (with_reducible refine Kd.C_alloc ?_ _) | (with_reducible refine Kd.C_drewN ?_ _) | (with_reducible refine Kd.C_drew ?_)))
          (case side2 => exact HC0_1.out)
          (case side3 => exact Kd.V_mk HC0_3.out (Kd.F_below (Kd.C_F k77_heap HR0_3.out) Zq37))
          (case side4 => exact Kd.V_mk HC0_4.out (Kd.F_below (Kd.C_F k30_heap HR0_4.out) Zq37))
          (case side5 => repeat (first | exact (Kd.C_below HRcw.out HB.out) | (with_reducible refine Kd.C_alloc ?_ _) | (with_reducible refine Kd.C_drewN ?_ _) | (with_reducible refine Kd.C_drew ?_)))
          (case side6 => exact HCcw.out)
          rintro e w25 ⟨v263, v266, rfl, ho0, ho1, hb⟩
          refine ⟨_, rfl, ?_⟩; have n0_ := Zq250; have n1_ := Zq203; have n2_ := Zq261; have n3_ := Zq192; have n4_ := Zq138; have n5_ := Zq159; have n6_ := Zq256; have n7_ := Ak (below_step Zq37 hb); clear HO_aM HO_aN BKag BKal BKae HB; have HO_aM := n0_; have HO_aN := n1_; have HObR := n2_; have HObS := n3_; have BKag := n4_; have BKal := n5_; have BKae := n6_; have HB := n7_; clear n0_ n1_ n2_ n3_ n4_ n5_ n6_ n7_
          (try clear hb)
          (try clear hb2)
          (try clear hk)
          (try clear hi)
          (try clear ho0)
          (try clear ho1)
          refine hK.out _ _ ⟨(blk_cell BKag.out 0).trans rfl, (blk_cell BKag.out 1).trans rfl, (blk_cell BKag.out 2).trans rfl, (blk_cell BKag.out 3).trans rfl, (blk_cell BKag.out 4).trans rfl⟩ (fun hHeld => ?_); clear hK K; refine norm_ (a' := ?_) ?_ ?_
          rotate_left
          ·show Act.put _ (some 35) _ = _
           simp only [Sx]
           rfl
          refine pure_ (i := 6) (N := some 29) (v := ?_) (a' := ?_) #[true, true, true, true, true, true, true, false, false, true, false, false] rfl rfl (any_of HT_.out Zq2) (fun _ _ _ h => h) (Or.inl ⟨Zq3, ?_⟩) ?_ ?_
          rotate_left
          ·intro w'
           go_simp
           with_reducible rfl
          rotate_left
          ·simp only [Sx]
           rfl
          refine pure_ (i := 7) (N := some 36) (v := ?_) (a' := ?_) #[true, true, true, true, true, true, true, true, false, true, false, false] rfl rfl (any_of HT_.out Zq2) (fun _ _ _ h => h) (Or.inl ⟨Zq3, ?_⟩) ?_ ?_
          rotate_left
          ·intro w'
           go_simp
           with_reducible rfl
          rotate_left
          ·simp only [Sx]
           rfl
          refine pure_ (i := 8) (N := some 37) (v := ?_) (a' := ?_) #[true, true, true, true, true, true, true, true, true, true, false, false] rfl rfl (any_of HT_.out Zq2) (fun _ _ _ h => h) (Or.inl ⟨Zq3, ?_⟩) ?_ ?_
          rotate_left
          ·intro w'
           go_simp
           with_reducible rfl
          rotate_left
          ·simp only [Sx]
           rfl
          exact norm_ Zq55 (hCont (v263, v266, gbae) _ ⟨hHeld, Zq114, Zq115, Zq116, (by (with_reducible repeat (first | apply Kd.R_alloc | apply Kd.R_drewN | apply Kd.R_drew)); exact Kd.R_mono HO_aN.out (fun _ hk => ⟨hk.1.2, ⟨hk.2, ⟨hk.1.1.1.1, ⟨hk.1.1.1.2, hk.1.1.2⟩⟩⟩⟩)), Zq24, Zq27, Zq72, GWae.out, GEae.out, NB250_269.out, NB269_250.out, NB259_269.out, NB269_259.out, Zq37⟩)
        rintro ⟨v263, v266, gbae⟩ w26 ⟨hS_, h0_, h1_, h2_, h3_, h4_, h5_, h6_, h7_, h8_, h9_, h10_, h11_, h12_, h13_⟩
        have n0_ : Aside0 (Kd.S k77 77 w26 w.heap.size (fun k_ => some k_ ≠ (u260001 : Value).ownBlock) v263 tbm) := ⟨h0_⟩
        have n1_ : Aside0 (Kd.R k30 30 w26 w.heap.size (fun k_ => some k_ ≠ (v263 : Value).ownBlock ∧ some k_ ≠ (u260001 : Value).ownBlock ∧ some k_ ≠ (u260002 : Value).ownBlock ∧ k_ ≠ gbal ∧ k_ ≠ gbae) v266 tbs) := ⟨h1_⟩
        have n2_ : Aside0 (Kd.S k77 77 w26 w.heap.size (fun k_ => some k_ ≠ (v263 : Value).ownBlock) u260001 xaM_1) := ⟨h2_⟩
        have n3_ : Aside0 (Kd.R k30 30 w26 w.heap.size (fun k_ => some k_ ≠ (v263 : Value).ownBlock ∧ some k_ ≠ (v266 : Value).ownBlock ∧ some k_ ≠ (u260001 : Value).ownBlock ∧ k_ ≠ gbal ∧ k_ ≠ gbae) u260002 xaN_1) := ⟨h3_⟩
        have n4_ : Aside0 (w26.heap[gbag]? = some (.cells #[.int .u32 a0_0, .slice A0_1 l0_1.length c0_1, .string a0_2, .slice A0_3 l0_3.length c0_3, .slice A0_4 l0_4.length c0_4] 35 (0, 0))) := ⟨h4_⟩
        have n5_ : Aside0 (w26.heap[gbal]? = some (.cells #[.string xbO_1, u260001, u260002] 30 (0, 0))) := ⟨h5_⟩
        have n6_ : Aside0 (w26.heap[gbae]? = some (.cells #[.string (⟨#[]⟩ : ByteArray), .slice none 0 0, .slice none 0 0] 30 (0, 0))) := ⟨h6_⟩
        have n7_ : Aside0 (w.heap.size ≤ gbae) := ⟨h7_⟩
        have n8_ : Aside0 (w.heap.size ≤ gbae) := ⟨h8_⟩
        have n9_ : Aside0 (gbag ≠ gbae) := ⟨h9_⟩
        have n10_ : Aside0 (gbae ≠ gbag) := ⟨h10_⟩
        have n11_ : Aside0 (gbal ≠ gbae) := ⟨h11_⟩
        have n12_ : Aside0 (gbae ≠ gbal) := ⟨h12_⟩
        have n13_ : Aside0 (Below w.heap.size w w26) := ⟨h13_⟩
        clear HO_aM HO_aN BKag BKal HB h0_ h1_ h2_ h3_ h4_ h5_ h6_ h7_ h8_ h9_ h10_ h11_ h12_ h13_; have HObR := n0_; have HObS := n1_; have HO_aM := n2_; have HO_aN := n3_; have BKag := n4_; have BKal := n5_; have BKae := n6_; have GWae := n7_; have GEae := n8_; have NB250_269 := n9_; have NB269_250 := n10_; have NB259_269 := n11_; have NB269_259 := n12_; have HB := n13_; clear n0_ n1_ n2_ n3_ n4_ n5_ n6_ n7_ n8_ n9_ n10_ n11_ n12_ n13_; have hHeld : w26.cell? ⟨gbag, 0, none⟩ = some (.int .u32 a0_0) ∧ w26.cell? ⟨gbag, 1, none⟩ = some (.slice A0_1 l0_1.length c0_1) ∧ w26.cell? ⟨gbag, 2, none⟩ = some (.string a0_2) ∧ w26.cell? ⟨gbag, 3, none⟩ = some (.slice A0_3 l0_3.length c0_3) ∧ w26.cell? ⟨gbag, 4, none⟩ = some (.slice A0_4 l0_4.length c0_4) := hS_; obtain ⟨Ao28, co28, eo28⟩ := Kd.S_slice HObR.out
        (first | subst eo28 | (injection eo28 with f1_ f2_ f3_; have f4_ := f1_.symm; have f5_ := f3_.symm; clear f1_ f2_ f3_; subst f4_; subst f5_))
        obtain ⟨Ao30, co30, eo30⟩ := Kd.R_slice HObS.out
        (first | subst eo30 | (injection eo30 with f1_ f2_ f3_; have f4_ := f1_.symm; have f5_ := f3_.symm; clear f1_ f2_ f3_; subst f4_; subst f5_))
        refine norm_ (a' := ?_) ?_ ?_
        rotate_left
        ·simp only [putAll, Act.put, List.setIfInBounds_toArray, List.set_cons_zero, List.set_cons_succ]
         rfl
        refine one_ (i := 10) (N := none) #[true, true, true, true, true, true, true, true, true, true, true, false] rfl rfl (one_of HT_.out Zq2) Zq7 (fun K hK => ?_); have hs27 : w26.cell? ⟨gbae, 0, none⟩ = some (.string (⟨#[]⟩ : ByteArray)) := (blk_cell BKae.out 0).trans rfl; have hfs27 := blk_frozen BKae.out 0; have hns27_0 := NB250_269.out; have hns27_1 := NB259_269.out; have hms27_0 := NB269_250.out; have hms27_1 := NB269_259.out; have hs29 : w26.cell? ⟨gbae, 1, none⟩ = some (.slice none 0 0) := (blk_cell BKae.out 1).trans rfl; have hfs29 := blk_frozen BKae.out 1; have hns29_0 := NB250_269.out; have hns29_1 := NB259_269.out; have hms29_0 := NB269_250.out; have hms29_1 := NB269_259.out; have hs31 : w26.cell? ⟨gbae, 2, none⟩ = some (.slice none 0 0) := (blk_cell BKae.out 2).trans rfl; have hfs31 := blk_frozen BKae.out 2; have hns31_0 := NB250_269.out; have hns31_1 := NB259_269.out; have hms31_0 := NB269_250.out; have hms31_1 := NB269_259.out; refine skip_ (w1 := ?_) Zq3 rfl ?_ ?_
        rotate_left
        ·go_simp
         rfl
        refine hK.out _ _ ⟨((cell_far (p := ⟨gbae, _, none⟩) NB250_269.out _).trans (((cell_far (p := ⟨gbae, _, none⟩) NB250_269.out _).trans (((cell_far (p := ⟨gbae, _, none⟩) NB250_269.out _).trans (hHeld.1)))))), ((cell_far (p := ⟨gbae, _, none⟩) NB250_269.out _).trans (((cell_far (p := ⟨gbae, _, none⟩) NB250_269.out _).trans (((cell_far (p := ⟨gbae, _, none⟩) NB250_269.out _).trans (hHeld.2.1)))))), ((cell_far (p := ⟨gbae, _, none⟩) NB250_269.out _).trans (((cell_far (p := ⟨gbae, _, none⟩) NB250_269.out _).trans (((cell_far (p := ⟨gbae, _, none⟩) NB250_269.out _).trans (hHeld.2.2.1)))))), ((cell_far (p := ⟨gbae, _, none⟩) NB250_269.out _).trans (((cell_far (p := ⟨gbae, _, none⟩) NB250_269.out _).trans (((cell_far (p := ⟨gbae, _, none⟩) NB250_269.out _).trans (hHeld.2.2.2.1)))))), ((cell_far (p := ⟨gbae, _, none⟩) NB250_269.out _).trans (((cell_far (p := ⟨gbae, _, none⟩) NB250_269.out _).trans (((cell_far (p := ⟨gbae, _, none⟩) NB250_269.out _).trans (hHeld.2.2.2.2))))))⟩ (fun hHeld => ?_); clear hK K; refine pure_ (i := 11) (N := some 14) (v := ?_) (a' := ?_) #[true, true, true, true, true, true, true, true, true, true, true, true] rfl rfl (any_of HT_.out Zq2) (fun _ _ _ h => h) (Or.inl ⟨Zq3, ?_⟩) ?_ ?_
        rotate_left
        ·intro w'
         go_simp
         with_reducible rfl
        rotate_left
        ·simp only [Sx]
         rfl
        refine done_ (done_of HT_.out Zq2) ?_; have hnb32 := NB269_250.out; have hnc32 := NB250_269.out; have hnb33 := NB269_259.out; have hnc33 := NB259_269.out; have hcz34_0 : w26.cell? ⟨gbae, 0, none⟩ = some (.string (⟨#[]⟩ : ByteArray)) := (blk_cell BKae.out 0).trans rfl; have hcz34_1 : w26.cell? ⟨gbae, 1, none⟩ = some (.slice none 0 0) := (blk_cell BKae.out 1).trans rfl; have hcz34_2 : w26.cell? ⟨gbae, 2, none⟩ = some (.slice none 0 0) := (blk_cell BKae.out 2).trans rfl; have hfz34_0 := blk_frozen BKae.out 0; have hfz34_1 := blk_frozen BKae.out 1; have hfz34_2 := blk_frozen BKae.out 2; have hnb35 := NB259_250.out; have hnc35 := NB250_259.out; have hcz36_0 : w26.cell? ⟨gbal, 0, none⟩ = some (.string xbO_1) := (blk_cell BKal.out 0).trans rfl; have hcz36_1 : w26.cell? ⟨gbal, 1, none⟩ = some (u260001) := (blk_cell BKal.out 1).trans rfl; have hcz36_2 : w26.cell? ⟨gbal, 2, none⟩ = some (u260002) := (blk_cell BKal.out 2).trans rfl; have hfz36_0 := blk_frozen BKal.out 0; have hfz36_1 := blk_frozen BKal.out 1; have hfz36_2 := blk_frozen BKal.out 2; obtain ⟨Ao37, co37, eo37⟩ := Kd.S_slice HO_aM.out; subst eo37; obtain ⟨Ao38, co38, eo38⟩ := Kd.R_slice HO_aN.out; subst eo38
        try go_wp2_with (first | ((with_reducible refine gate_callee (f := 49) rfl ?_); refine goesL_ (some 43) rfl rfl Try.func49 Zq2 rfl #[.agg #[.string tba, .slice Ao28 tbm.length co28, .slice Ao30 tbs.length co30], .agg #[.string xbO_1, .slice Ao37 xaM_1.length co37, .slice Ao38 xaN_1.length co38], .int .u64 x2_1, .int .u64 a3] rfl Zq8 ?_; (with_reducible refine (xlate_step.calls k1 tba _ _ tbm _ _ tbs xbO_1 _ _ xaM_1 _ _ xaN_1 x2_1 a3 tcv tdJ _ ?side1 ?side2 ?side3 ?side4 ?side5 ?side6 ?side7 ?side8 A20.out).mono ?_); (case side1 => refine (Kd.S_reads' (e := 77) (base := w.heap.size) (ok := fun k_ => some k_ ≠ (.slice Ao37 xaM_1.length co37 : Value).ownBlock) (n := tbm.length) (c := co28) ?_).2.2; exact (by (with_reducible repeat (first | apply Kd.S_alloc | apply Kd.S_drewN | apply Kd.S_drew)); exact (Kd.S_mono (Kd.S_far (p := ⟨gbae, 2, none⟩) (Kd.S_far (p := ⟨gbae, 1, none⟩) (Kd.S_far (p := ⟨gbae, 0, none⟩) (Kd.S_types HObR.out BKae.out Zq7) (fun _ hk => hk.2) (.string tba)) (fun _ hk => hk.2) (.slice Ao28 tbm.length co28)) (fun _ hk => hk.2) (.slice Ao30 tbs.length co30)) (fun _ h_ => h_.1)))); (case side2 => exact (Kd.S_reads' HObR.out).2.1); (case side3 => refine (Kd.R_reads' (e := 30) (base := w.heap.size) (ok := fun k_ => (some k_ ≠ (.slice Ao28 tbm.length co28 : Value).ownBlock ∧ (some k_ ≠ (.slice Ao37 xaM_1.length co37 : Value).ownBlock ∧ (some k_ ≠ (.slice Ao38 xaN_1.length co38 : Value).ownBlock ∧ (k_ ≠ gbal ∧ k_ ≠ gbae))))) (n := tbs.length) (c := co30) ?_).2.2; exact (by (with_reducible repeat (first | apply Kd.R_alloc | apply Kd.R_drewN | apply Kd.R_drew)); exact (Kd.R_mono (Kd.R_far (p := ⟨gbae, 2, none⟩) (Kd.R_far (p := ⟨gbae, 1, none⟩) (Kd.R_far (p := ⟨gbae, 0, none⟩) (Kd.R_mono HObS.out (fun k_ hk => (⟨hk, hk.2.2.2.2⟩ : _ ∧ k_ ≠ gbae))) (fun _ hk => hk.2) (.string tba)) (fun _ hk => hk.2) (.slice Ao28 tbm.length co28)) (fun _ hk => hk.2) (.slice Ao30 tbs.length co30)) (fun _ h_ => h_.1)))); (case side4 => exact (Kd.R_reads' HObS.out).2.1); (case side5 => refine (Kd.S_reads' (e := 77) (base := w.heap.size) (ok := fun k_ => some k_ ≠ (.slice Ao28 tbm.length co28 : Value).ownBlock) (n := xaM_1.length) (c := co37) ?_).2.2; exact (by (with_reducible repeat (first | apply Kd.S_alloc | apply Kd.S_drewN | apply Kd.S_drew)); exact (Kd.S_mono (Kd.S_far (p := ⟨gbae, 2, none⟩) (Kd.S_far (p := ⟨gbae, 1, none⟩) (Kd.S_far (p := ⟨gbae, 0, none⟩) (Kd.S_types HO_aM.out BKae.out Zq7) (fun _ hk => hk.2) (.string tba)) (fun _ hk => hk.2) (.slice Ao28 tbm.length co28)) (fun _ hk => hk.2) (.slice Ao30 tbs.length co30)) (fun _ h_ => h_.1)))); (case side6 => exact (Kd.S_reads' HO_aM.out).2.1); (case side7 => refine (Kd.R_reads' (e := 30) (base := w.heap.size) (ok := fun k_ => (some k_ ≠ (.slice Ao28 tbm.length co28 : Value).ownBlock ∧ (some k_ ≠ (.slice Ao30 tbs.length co30 : Value).ownBlock ∧ (some k_ ≠ (.slice Ao37 xaM_1.length co37 : Value).ownBlock ∧ (k_ ≠ gbal ∧ k_ ≠ gbae))))) (n := xaN_1.length) (c := co38) ?_).2.2; exact (by (with_reducible repeat (first | apply Kd.R_alloc | apply Kd.R_drewN | apply Kd.R_drew)); exact (Kd.R_mono (Kd.R_far (p := ⟨gbae, 2, none⟩) (Kd.R_far (p := ⟨gbae, 1, none⟩) (Kd.R_far (p := ⟨gbae, 0, none⟩) (Kd.R_mono HO_aN.out (fun k_ hk => (⟨hk, hk.2.2.2.2⟩ : _ ∧ k_ ≠ gbae))) (fun _ hk => hk.2) (.string tba)) (fun _ hk => hk.2) (.slice Ao28 tbm.length co28)) (fun _ hk => hk.2) (.slice Ao30 tbs.length co30)) (fun _ h_ => h_.1)))); (case side8 => exact (Kd.R_reads' HO_aN.out).2.1); rintro e w39 ⟨rfl, hb⟩; refine ⟨_, rfl, ?_⟩; have n0_ := Ak (Kd.S_below (by (with_reducible repeat (first | apply Kd.S_alloc | apply Kd.S_drewN | apply Kd.S_drew)); exact (Kd.S_mono (Kd.S_far (p := ⟨gbae, 2, none⟩) (Kd.S_far (p := ⟨gbae, 1, none⟩) (Kd.S_far (p := ⟨gbae, 0, none⟩) (Kd.S_types HO_aM.out BKae.out Zq7) (fun _ hk => hk.2) (.string tba)) (fun _ hk => hk.2) (.slice Ao28 tbm.length co28)) (fun _ hk => hk.2) (.slice Ao30 tbs.length co30)) (fun _ h_ => h_.1))) hb); have n1_ := Ak (Kd.R_below (by (with_reducible repeat (first | apply Kd.R_alloc | apply Kd.R_drewN | apply Kd.R_drew)); exact (Kd.R_mono (Kd.R_far (p := ⟨gbae, 2, none⟩) (Kd.R_far (p := ⟨gbae, 1, none⟩) (Kd.R_far (p := ⟨gbae, 0, none⟩) (Kd.R_mono HO_aN.out (fun k_ hk => (⟨hk, hk.2.2.2.2⟩ : _ ∧ k_ ≠ gbae))) (fun _ hk => hk.2) (.string tba)) (fun _ hk => hk.2) (.slice Ao28 tbm.length co28)) (fun _ hk => hk.2) (.slice Ao30 tbs.length co30)) (fun _ h_ => h_.1))) hb); have n2_ := Ak (Kd.S_below (by (with_reducible repeat (first | apply Kd.S_alloc | apply Kd.S_drewN | apply Kd.S_drew)); exact (Kd.S_mono (Kd.S_far (p := ⟨gbae, 2, none⟩) (Kd.S_far (p := ⟨gbae, 1, none⟩) (Kd.S_far (p := ⟨gbae, 0, none⟩) (Kd.S_types HObR.out BKae.out Zq7) (fun _ hk => hk.2) (.string tba)) (fun _ hk => hk.2) (.slice Ao28 tbm.length co28)) (fun _ hk => hk.2) (.slice Ao30 tbs.length co30)) (fun _ h_ => h_.1))) hb); have n3_ := Ak (Kd.R_below (by (with_reducible repeat (first | apply Kd.R_alloc | apply Kd.R_drewN | apply Kd.R_drew)); exact (Kd.R_mono (Kd.R_far (p := ⟨gbae, 2, none⟩) (Kd.R_far (p := ⟨gbae, 1, none⟩) (Kd.R_far (p := ⟨gbae, 0, none⟩) (Kd.R_mono HObS.out (fun k_ hk => (⟨hk, hk.2.2.2.2⟩ : _ ∧ k_ ≠ gbae))) (fun _ hk => hk.2) (.string tba)) (fun _ hk => hk.2) (.slice Ao28 tbm.length co28)) (fun _ hk => hk.2) (.slice Ao30 tbs.length co30)) (fun _ h_ => h_.1))) hb); have n4_ := Ak (blk_below (g := gbag) (o := .cells #[.int .u32 a0_0, .slice A0_1 l0_1.length c0_1, .string a0_2, .slice A0_3 l0_3.length c0_3, .slice A0_4 l0_4.length c0_4] 35 (0, 0)) (by (with_reducible repeat (first | refine blk_drewN ?_ _ | refine blk_drew ?_ | refine blk_alloc ?_ _)); refine blk_far ?_ NB250_269.out _; (with_reducible repeat (first | refine blk_drewN ?_ _ | refine blk_drew ?_ | refine blk_alloc ?_ _)); refine blk_far ?_ NB250_269.out _; (with_reducible repeat (first | refine blk_drewN ?_ _ | refine blk_drew ?_ | refine blk_alloc ?_ _)); refine blk_far ?_ NB250_269.out _; (with_reducible repeat (first | refine blk_drewN ?_ _ | refine blk_drew ?_ | refine blk_alloc ?_ _)); exact BKag.out) hb); have n5_ := Ak (blk_below (g := gbal) (o := .cells #[.string xbO_1, .slice Ao37 xaM_1.length co37, .slice Ao38 xaN_1.length co38] 30 (0, 0)) (by (with_reducible repeat (first | refine blk_drewN ?_ _ | refine blk_drew ?_ | refine blk_alloc ?_ _)); refine blk_far ?_ NB259_269.out _; (with_reducible repeat (first | refine blk_drewN ?_ _ | refine blk_drew ?_ | refine blk_alloc ?_ _)); refine blk_far ?_ NB259_269.out _; (with_reducible repeat (first | refine blk_drewN ?_ _ | refine blk_drew ?_ | refine blk_alloc ?_ _)); refine blk_far ?_ NB259_269.out _; (with_reducible repeat (first | refine blk_drewN ?_ _ | refine blk_drew ?_ | refine blk_alloc ?_ _)); exact BKal.out) hb); have n6_ := Ak (blk_below (g := gbae) (o := .cells #[.string tba, .slice Ao28 tbm.length co28, .slice Ao30 tbs.length co30] 30 (0, 0)) (by (with_reducible repeat (first | refine blk_drewN ?_ _ | refine blk_drew ?_ | refine blk_alloc ?_ _)); refine blk_put (cs := #[.string tba, .slice Ao28 tbm.length co28, .slice none 0 0]) ?_ 2 _ rfl; (with_reducible repeat (first | refine blk_drewN ?_ _ | refine blk_drew ?_ | refine blk_alloc ?_ _)); refine blk_put (cs := #[.string tba, .slice none 0 0, .slice none 0 0]) ?_ 1 _ rfl; (with_reducible repeat (first | refine blk_drewN ?_ _ | refine blk_drew ?_ | refine blk_alloc ?_ _)); refine blk_put (cs := #[.string (⟨#[]⟩ : ByteArray), .slice none 0 0, .slice none 0 0]) ?_ 0 _ rfl; (with_reducible repeat (first | refine blk_drewN ?_ _ | refine blk_drew ?_ | refine blk_alloc ?_ _)); exact BKae.out) hb); have n7_ := Ak (below_step Zq37 hb); clear HO_aM HO_aN HObR HObS BKag BKal BKae HB; have HO_aM := n0_; have HO_aN := n1_; have HObR := n2_; have HObS := n3_; have BKag := n4_; have BKal := n5_; have BKae := n6_; have HB := n7_; clear n0_ n1_ n2_ n3_ n4_ n5_ n6_ n7_; (try clear hb); (try clear hb2); (try clear hk); (try clear hi); have hcz40_0 : w39.cell? ⟨gbae, 0, none⟩ = some (.string tba) := (blk_cell BKae.out 0).trans rfl; have hcz40_1 : w39.cell? ⟨gbae, 1, none⟩ = some (.slice Ao28 tbm.length co28) := (blk_cell BKae.out 1).trans rfl; have hcz40_2 : w39.cell? ⟨gbae, 2, none⟩ = some (.slice Ao30 tbs.length co30) := (blk_cell BKae.out 2).trans rfl; have hfz40_0 := blk_frozen BKae.out 0; have hfz40_1 := blk_frozen BKae.out 1; have hfz40_2 := blk_frozen BKae.out 2; have hcz41_0 : w39.cell? ⟨gbal, 0, none⟩ = some (.string xbO_1) := (blk_cell BKal.out 0).trans rfl; have hcz41_1 : w39.cell? ⟨gbal, 1, none⟩ = some (.slice Ao37 xaM_1.length co37) := (blk_cell BKal.out 1).trans rfl; have hcz41_2 : w39.cell? ⟨gbal, 2, none⟩ = some (.slice Ao38 xaN_1.length co38) := (blk_cell BKal.out 2).trans rfl; have hfz41_0 := blk_frozen BKal.out 0; have hfz41_1 := blk_frozen BKal.out 1; have hfz41_2 := blk_frozen BKal.out 2))
        first | (go_roundg k1) | ((try subst hji16); go_roundg k1)
        case measure => have := HK1.out; omega
        case rel => exact ⟨(tcv), (ji16), (tba), (tbm), (tbs), (.slice Ao28 tbm.length co28), (.slice Ao30 tbs.length co30), Zq6, (by first | rfl | (simp; done) | (simp only [← hji16] <;> (first | rfl | simp)) | (simp [*]; done)), H', ⟨Zq31⟩, ⟨by (with_reducible repeat (first | apply Kd.S_alloc | apply Kd.S_drewN | apply Kd.S_drew)); exact Kd.S_mono (Kd.S_far (p := ⟨gbal, 2, none⟩) (Kd.S_far (p := ⟨gbal, 1, none⟩) (Kd.S_far (p := ⟨gbal, 0, none⟩) (Kd.S_types HObR.out BKal.out Zq7) (fun _ hk => hk.2) (.string tba)) (fun _ hk => hk.2) (.slice Ao28 tbm.length co28)) (fun _ hk => hk.2) (.slice Ao30 tbs.length co30)) (fun _ hk => trivial)⟩, ⟨by (with_reducible repeat (first | apply Kd.R_alloc | apply Kd.R_drewN | apply Kd.R_drew)); exact Kd.R_mono (Kd.R_far (p := ⟨gbal, 2, none⟩) (Kd.R_far (p := ⟨gbal, 1, none⟩) (Kd.R_far (p := ⟨gbal, 0, none⟩) (Kd.R_mono HObS.out (fun k_ hk => (⟨hk, hk.2.2.2.1⟩ : _ ∧ k_ ≠ gbal))) (fun _ hk => hk.2) (.string tba)) (fun _ hk => hk.2) (.slice Ao28 tbm.length co28)) (fun _ hk => hk.2) (.slice Ao30 tbs.length co30)) (fun _ hk => ⟨hk.1.1, hk.1.2.2.2.1⟩)⟩, ⟨by (with_reducible repeat (first | refine blk_drewN ?_ _ | refine blk_drew ?_ | refine blk_alloc ?_ _)); refine blk_far ?_ NB250_259.out _; (with_reducible repeat (first | refine blk_drewN ?_ _ | refine blk_drew ?_ | refine blk_alloc ?_ _)); refine blk_far ?_ NB250_259.out _; (with_reducible repeat (first | refine blk_drewN ?_ _ | refine blk_drew ?_ | refine blk_alloc ?_ _)); refine blk_far ?_ NB250_259.out _; (with_reducible repeat (first | refine blk_drewN ?_ _ | refine blk_drew ?_ | refine blk_alloc ?_ _)); exact BKag.out⟩, ⟨by (with_reducible repeat (first | refine blk_drewN ?_ _ | refine blk_drew ?_ | refine blk_alloc ?_ _)); refine blk_put (cs := #[.string tba, .slice Ao28 tbm.length co28, .slice Ao38 xaN_1.length co38]) ?_ 2 _ rfl; (with_reducible repeat (first | refine blk_drewN ?_ _ | refine blk_drew ?_ | refine blk_alloc ?_ _)); refine blk_put (cs := #[.string tba, .slice Ao37 xaM_1.length co37, .slice Ao38 xaN_1.length co38]) ?_ 1 _ rfl; (with_reducible repeat (first | refine blk_drewN ?_ _ | refine blk_drew ?_ | refine blk_alloc ?_ _)); refine blk_put (cs := #[.string xbO_1, .slice Ao37 xaM_1.length co37, .slice Ao38 xaN_1.length co38]) ?_ 0 _ rfl; (with_reducible repeat (first | refine blk_drewN ?_ _ | refine blk_drew ?_ | refine blk_alloc ?_ _)); exact BKal.out⟩, ⟨Zq37⟩⟩
       ·rw [if_neg c21] at H; have c21b0 : (tdJ == 0) = false := beq_eq_false_iff_ne.mpr c21; have c21b1 : (tdJ != 0) = true := bne_iff_ne.mpr c21; simp only [Option.some.injEq, Prod.mk.injEq] at H; obtain ⟨rfl, rfl⟩ := H
        try go_wp2
        have n0_ := Ak (Kd.S_drew HO_aM.out); have n1_ := Ak (Kd.R_drew HO_aN.out); have n2_ := Ak (blk_drew BKag.out); have n3_ := Ak (blk_drew BKal.out); have n4_ := Zq178; clear HO_aM HO_aN BKag BKal HB; have HO_aM := n0_; have HO_aN := n1_; have BKag := n2_; have BKal := n3_; have HB := n4_; clear n0_ n1_ n2_ n3_ n4_; obtain ⟨i043, hi043, _, hsz43, _⟩ := info_parts info3; obtain ⟨hcut43, hA43, hC43⟩ := print_take_of (P := Try.prog) (Value.int .i64) 0 48 3 .i64 Try.underlying48 hi043 hsz43 A1 c1 l1 (ji16) (of_decide_eq_true Zq4) (of_decide_eq_true Zq4) HC1.out; have HRcw := Ak (Kd.C_of_reads (h1 := fun _ => rfl) (hA43 _ (Kd.reads_of_C HR1.out))); have HCcw := Ak hC43; clear hA43 hC43 hi043 hsz43; refine start_ (n := 12) (S := fun w' => w'.cell? ⟨gbag, 0, none⟩ = some (.int .u32 a0_0) ∧ w'.cell? ⟨gbag, 1, none⟩ = some (.slice A0_1 l0_1.length c0_1) ∧ w'.cell? ⟨gbag, 2, none⟩ = some (.string a0_2) ∧ w'.cell? ⟨gbag, 3, none⟩ = some (.slice A0_3 l0_3.length c0_3) ∧ w'.cell? ⟨gbag, 4, none⟩ = some (.slice A0_4 l0_4.length c0_4)) (ds := []) #[false, false, false, false, false, false, false, false, false, false, false, false] Zq2 rfl rfl ⟨(blk_cell BKag.out 0).trans rfl, (blk_cell BKag.out 1).trans rfl, (blk_cell BKag.out 2).trans rfl, (blk_cell BKag.out 3).trans rfl, (blk_cell BKag.out 4).trans rfl⟩ (fun hHeld => ?_); refine with_tabW xlate_Up.tab7 xlate_Up.bits7 (fun HT_ HW_ => ?_); generalize wr.drew = w42 at HO_aM HO_aN BKag BKal HB HRcw hHeld ⊢; refine pure_ (i := 1) (N := some 31) (v := ?_) (a' := ?_) #[false, true, false, false, false, false, false, false, false, false, false, false] rfl rfl (any_of HT_.out Zq2) (fun _ _ _ h => h) (Or.inl ⟨Zq3, ?_⟩) ?_ ?_
        rotate_left
        ·intro w'
         go_simp
         with_reducible rfl
        rotate_left
        ·simp only [Sx]
         rfl
        refine pure_ (i := 2) (N := some 32) (v := ?_) (a' := ?_) #[false, true, true, false, false, false, false, false, false, false, false, false] rfl rfl (any_of HT_.out Zq2) (fun _ _ _ h => h) (Or.inl ⟨Zq3, ?_⟩) ?_ ?_
        rotate_left
        ·intro w'
         go_simp
         with_reducible rfl
        rotate_left
        ·simp only [Sx]
         rfl
        refine pure_ (i := 3) (N := some 33) (v := ?_) (a' := ?_) #[false, true, true, true, false, false, false, false, false, false, false, false] rfl rfl (any_of HT_.out Zq2) (fun _ _ _ h => h) (Or.inl ⟨Zq3, ?_⟩) ?_ ?_
        rotate_left
        ·intro w'
         go_simp
         with_reducible rfl
        rotate_left
        ·simp only [Sx]
         rfl
        refine pure_ (i := 4) (N := some 34) (v := ?_) (a' := ?_) #[false, true, true, true, true, false, false, false, false, false, false, false] rfl rfl (any_of HT_.out Zq2) (fun _ _ _ h => h) (Or.inl ⟨Zq3, ?_⟩) ?_ ?_
        rotate_left
        ·intro w'
         go_simp
         with_reducible rfl
        rotate_left
        ·simp only [Sx]
         rfl
        refine take_ (i := 0) (N := some 30) (v := ?_) (a' := ?_) #[true, true, true, true, true, false, false, false, false, false, false, false] rfl rfl (take_ofW HT_.out HW_.out Zq2) (fun _ _ _ h => h) (Or.inl ⟨Zq3, ?_⟩) hHeld ?_ ?_
        rotate_left
        ·rintro w' ⟨s0, s1, s2, s3, s4⟩
         go_simp
         with_reducible rfl
        rotate_left
        ·simp only [Sx]
         rfl
        refine join_ (σ := Value × Value × Nat) 2 #[true, true, true, true, true, true, true, true, true, true, false, false] (fun s_ => [(35, .tuple #[.agg #[.string tba, s_.1, s_.2.1], .int .i64 tdp]), (13, .pointer (some ⟨s_.2.2, 0, none⟩)), (29, .tuple #[.agg #[.string tba, s_.1, s_.2.1], .int .i64 tdp]), (36, .agg #[.string tba, s_.1, s_.2.1]), (37, .int .i64 tdp)]) (fun s_ w' => (w'.cell? ⟨gbag, 0, none⟩ = some (.int .u32 a0_0) ∧ w'.cell? ⟨gbag, 1, none⟩ = some (.slice A0_1 l0_1.length c0_1) ∧ w'.cell? ⟨gbag, 2, none⟩ = some (.string a0_2) ∧ w'.cell? ⟨gbag, 3, none⟩ = some (.slice A0_3 l0_3.length c0_3) ∧ w'.cell? ⟨gbag, 4, none⟩ = some (.slice A0_4 l0_4.length c0_4)) ∧ (Kd.S k77 77 w' w.heap.size (fun k_ => some k_ ≠ (u260001 : Value).ownBlock) s_.1 tbm) ∧ (Kd.R k30 30 w' w.heap.size (fun k_ => some k_ ≠ (s_.1 : Value).ownBlock ∧ some k_ ≠ (u260001 : Value).ownBlock ∧ some k_ ≠ (u260002 : Value).ownBlock ∧ k_ ≠ gbal ∧ k_ ≠ s_.2.2) s_.2.1 tbs) ∧ (Kd.S k77 77 w' w.heap.size (fun k_ => some k_ ≠ (s_.1 : Value).ownBlock) u260001 xaM_1) ∧ (Kd.R k30 30 w' w.heap.size (fun k_ => some k_ ≠ (s_.1 : Value).ownBlock ∧ some k_ ≠ (s_.2.1 : Value).ownBlock ∧ some k_ ≠ (u260001 : Value).ownBlock ∧ k_ ≠ gbal ∧ k_ ≠ s_.2.2) u260002 xaN_1) ∧ (w'.heap[gbag]? = some (.cells #[.int .u32 a0_0, .slice A0_1 l0_1.length c0_1, .string a0_2, .slice A0_3 l0_3.length c0_3, .slice A0_4 l0_4.length c0_4] 35 (0, 0))) ∧ (w'.heap[gbal]? = some (.cells #[.string xbO_1, u260001, u260002] 30 (0, 0))) ∧ (w'.heap[s_.2.2]? = some (.cells #[.string (⟨#[]⟩ : ByteArray), .slice none 0 0, .slice none 0 0] 30 (0, 0))) ∧ (w.heap.size ≤ s_.2.2) ∧ (w.heap.size ≤ s_.2.2) ∧ (gbag ≠ s_.2.2) ∧ (s_.2.2 ≠ gbag) ∧ (gbal ≠ s_.2.2) ∧ (s_.2.2 ≠ gbal) ∧ (Below w.heap.size w w')) ?_ ?_
        rotate_left
        ·intro hCont; refine two_ (i := 5) (j := 9) (Ni := some 35) (Nj := some 13) #[true, true, true, true, true, true, false, false, false, false, false, false] #[true, true, true, true, true, false, false, false, false, true, false, false] rfl rfl rfl rfl (two_of HT_.out Zq2) Zq7 Zq7 (fun K hK => ?_) (fun K hK => ?_)
         ·skip
          refine goes_ Try.func48 Zq2 rfl #[.agg #[.int .u32 a0_0, .slice A0_1 l0_1.length c0_1, .string a0_2, .slice A0_3 l0_3.length c0_3, .slice A0_4 l0_4.length c0_4], .slice A1 (l1.take ((ji16) : Int).toNat).length c1] Zq3 rfl rfl Zq128 ?_; with_reducible refine (path_Get.calls k1 a0_0 _ _ l0_1 a0_2 (fun k_ => k_ < w.heap.size) _ _ l0_3 (fun k_ => k_ < w.heap.size) _ _ l0_4 _ _ (l1.take ((ji16) : Int).toNat) tba tbm tbs tdp _ ?side1 ?side2 ?side3 ?side4 ?side5 ?side6 A19.out).mono ?_
          (case side1 => repeat (first | exact Zq142 | (with_reducible refine Kd.C_alloc ?_ _) | (with_reducible refine Kd.C_drewN ?_ _) | (with_reducible refine Kd.C_drew ?_)))
          (case side2 => exact HC0_1.out)
          (case side3 => exact Kd.V_mk HC0_3.out (Kd.F_below (Kd.C_F k77_heap HR0_3.out) Zq26))
          (case side4 => exact Kd.V_mk HC0_4.out (Kd.F_below (Kd.C_F k30_heap HR0_4.out) Zq26))
          (case side5 => repeat (first | exact (Kd.C_below HRcw.out HB.out) | (with_reducible refine Kd.C_alloc ?_ _) | (with_reducible refine Kd.C_drewN ?_ _) | (with_reducible refine Kd.C_drew ?_)))
          (case side6 => exact HCcw.out)
          rintro e w44 ⟨v263, v266, rfl, ho0, ho1, hb⟩
          refine ⟨_, rfl, ?_⟩; have n0_ := Zq250; have n1_ := Zq203; have n2_ := Zq260; have n3_ := Zq212; have n4_ := Zq138; have n5_ := Zq159; have n6_ := Zq244; clear HO_aM HO_aN BKag BKal HB; have HO_aM := n0_; have HO_aN := n1_; have HObR := n2_; have HObS := n3_; have BKag := n4_; have BKal := n5_; have HB := n6_; clear n0_ n1_ n2_ n3_ n4_ n5_ n6_
          (try clear hb)
          (try clear hb2)
          (try clear hk)
          (try clear hi)
          (try clear ho0)
          (try clear ho1)
          refine hK.out _ _ ⟨(blk_cell BKag.out 0).trans rfl, (blk_cell BKag.out 1).trans rfl, (blk_cell BKag.out 2).trans rfl, (blk_cell BKag.out 3).trans rfl, (blk_cell BKag.out 4).trans rfl⟩ (fun hHeld => ?_); clear hK K; refine norm_ (a' := ?_) ?_ ?_
          rotate_left
          ·show Act.put _ (some 35) _ = _
           simp only [Sx]
           rfl
          refine pure_ (i := 6) (N := some 29) (v := ?_) (a' := ?_) #[true, true, true, true, true, true, true, false, false, false, false, false] rfl rfl (any_of HT_.out Zq2) (fun _ _ _ h => h) (Or.inl ⟨Zq3, ?_⟩) ?_ ?_
          rotate_left
          ·intro w'
           go_simp
           with_reducible rfl
          rotate_left
          ·simp only [Sx]
           rfl
          refine pure_ (i := 7) (N := some 36) (v := ?_) (a' := ?_) #[true, true, true, true, true, true, true, true, false, false, false, false] rfl rfl (any_of HT_.out Zq2) (fun _ _ _ h => h) (Or.inl ⟨Zq3, ?_⟩) ?_ ?_
          rotate_left
          ·intro w'
           go_simp
           with_reducible rfl
          rotate_left
          ·simp only [Sx]
           rfl
          refine pure_ (i := 8) (N := some 37) (v := ?_) (a' := ?_) #[true, true, true, true, true, true, true, true, true, false, false, false] rfl rfl (any_of HT_.out Zq2) (fun _ _ _ h => h) (Or.inl ⟨Zq3, ?_⟩) ?_ ?_
          rotate_left
          ·intro w'
           go_simp
           with_reducible rfl
          rotate_left
          ·simp only [Sx]
           rfl
          refine one_ (i := 9) (N := some 13) #[true, true, true, true, true, true, true, true, true, true, false, false] rfl rfl (one_of HT_.out Zq2) Zq7 (fun K hK => ?_); refine box_step ?hg (N := 13) ?hd (cs := #[.string (⟨#[]⟩ : ByteArray), .slice none 0 0, .slice none 0 0]) (t := 30) ?hr ?_; (case hd | hg => rfl); (case hr => first | (go_simp; done) | (go_simp; rfl)); intro gbae hg w45 hbox hb; have n0_ := Ak (Kd.S_below Zq44 hb); have n1_ := Zq214; have n2_ := Zq252; have n3_ := Zq236; have n4_ := Zq138; have n5_ := Zq159; have n6_ := Zq244; have n7_ := Ak (hbox); have n8_ := Zq172; have n9_ := Zq172; have n10_ := Zq274; have n11_ := Zq275; have n12_ := Zq276; have n13_ := Zq277; clear HO_aM HO_aN HObR HObS BKag BKal HB; have HO_aM := n0_; have HO_aN := n1_; have HObR := n2_; have HObS := n3_; have BKag := n4_; have BKal := n5_; have HB := n6_; have BKae := n7_; have GWae := n8_; have GEae := n9_; have NB250_269 := n10_; have NB269_250 := n11_; have NB259_269 := n12_; have NB269_259 := n13_; clear n0_ n1_ n2_ n3_ n4_ n5_ n6_ n7_ n8_ n9_ n10_ n11_ n12_ n13_ hb hbox hg; refine hK.out _ _ ⟨(blk_cell BKag.out 0).trans rfl, (blk_cell BKag.out 1).trans rfl, (blk_cell BKag.out 2).trans rfl, (blk_cell BKag.out 3).trans rfl, (blk_cell BKag.out 4).trans rfl⟩ (fun hHeld => ?_); clear hK K; refine norm_ (a' := ?_) ?_ ?_
          rotate_left
          ·show Act.put _ (some 13) _ = _
           simp only [Sx]
           rfl
          exact norm_ Zq55 (hCont (v263, v266, gbae) _ ⟨hHeld, Zq114, Zq115, Zq116, (by (with_reducible repeat (first | apply Kd.R_alloc | apply Kd.R_drewN | apply Kd.R_drew)); exact Kd.R_mono HO_aN.out (fun _ hk => ⟨hk.1.1.2, ⟨hk.1.2, ⟨hk.1.1.1.1, ⟨hk.1.1.1.2, hk.2⟩⟩⟩⟩)), Zq24, Zq27, Zq72, GWae.out, GEae.out, NB250_269.out, NB269_250.out, NB259_269.out, NB269_259.out, Zq37⟩)
         ·skip
          refine box_step ?hg (N := 13) ?hd (cs := #[.string (⟨#[]⟩ : ByteArray), .slice none 0 0, .slice none 0 0]) (t := 30) ?hr ?_; (case hd | hg => rfl); (case hr => first | (go_simp; done) | (go_simp; rfl)); intro gbae hg w44 hbox hb; have n0_ := Ak (Kd.S_below Zq44 hb); have n1_ := Zq214; have n2_ := Zq138; have n3_ := Zq159; have n4_ := Zq244; have n5_ := Ak (hbox); have n6_ := Zq172; have n7_ := Zq172; have n8_ := Zq274; have n9_ := Zq275; have n10_ := Zq276; have n11_ := Zq277; clear HO_aM HO_aN BKag BKal HB; have HO_aM := n0_; have HO_aN := n1_; have BKag := n2_; have BKal := n3_; have HB := n4_; have BKae := n5_; have GWae := n6_; have GEae := n7_; have NB250_269 := n8_; have NB269_250 := n9_; have NB259_269 := n10_; have NB269_259 := n11_; clear n0_ n1_ n2_ n3_ n4_ n5_ n6_ n7_ n8_ n9_ n10_ n11_ hb hbox hg; refine hK.out _ _ ⟨(blk_cell BKag.out 0).trans rfl, (blk_cell BKag.out 1).trans rfl, (blk_cell BKag.out 2).trans rfl, (blk_cell BKag.out 3).trans rfl, (blk_cell BKag.out 4).trans rfl⟩ (fun hHeld => ?_); clear hK K; refine norm_ (a' := ?_) ?_ ?_
          rotate_left
          ·show Act.put _ (some 13) _ = _
           simp only [Sx]
           rfl
          refine one_ (i := 5) (N := some 35) #[true, true, true, true, true, true, false, false, false, true, false, false] rfl rfl (one_of HT_.out Zq2) Zq7 (fun K hK => ?_); refine goes_ Try.func48 Zq2 rfl #[.agg #[.int .u32 a0_0, .slice A0_1 l0_1.length c0_1, .string a0_2, .slice A0_3 l0_3.length c0_3, .slice A0_4 l0_4.length c0_4], .slice A1 (l1.take ((ji16) : Int).toNat).length c1] Zq3 rfl rfl Zq128 ?_; with_reducible refine (path_Get.calls k1 a0_0 _ _ l0_1 a0_2 (fun k_ => k_ < w.heap.size) _ _ l0_3 (fun k_ => k_ < w.heap.size) _ _ l0_4 _ _ (l1.take ((ji16) : Int).toNat) tba tbm tbs tdp _ ?side1 ?side2 ?side3 ?side4 ?side5 ?side6 A19.out).mono ?_
          (case side1 => repeat (first | exact Zq142 | (with_reducible refine Kd.C_alloc ?_ _) | (with_reducible refine Kd.C_drewN ?_ _) | (with_reducible refine Kd.C_drew ?_)))
          (case side2 => exact HC0_1.out)
          (case side3 => exact Kd.V_mk HC0_3.out (Kd.F_below (Kd.C_F k77_heap HR0_3.out) Zq37))
          (case side4 => exact Kd.V_mk HC0_4.out (Kd.F_below (Kd.C_F k30_heap HR0_4.out) Zq37))
          (case side5 => repeat (first | exact (Kd.C_below HRcw.out HB.out) | (with_reducible refine Kd.C_alloc ?_ _) | (with_reducible refine Kd.C_drewN ?_ _) | (with_reducible refine Kd.C_drew ?_)))
          (case side6 => exact HCcw.out)
          rintro e w45 ⟨v263, v266, rfl, ho0, ho1, hb⟩
          refine ⟨_, rfl, ?_⟩; have n0_ := Zq250; have n1_ := Zq203; have n2_ := Zq261; have n3_ := Zq192; have n4_ := Zq138; have n5_ := Zq159; have n6_ := Zq256; have n7_ := Ak (below_step Zq37 hb); clear HO_aM HO_aN BKag BKal BKae HB; have HO_aM := n0_; have HO_aN := n1_; have HObR := n2_; have HObS := n3_; have BKag := n4_; have BKal := n5_; have BKae := n6_; have HB := n7_; clear n0_ n1_ n2_ n3_ n4_ n5_ n6_ n7_
          (try clear hb)
          (try clear hb2)
          (try clear hk)
          (try clear hi)
          (try clear ho0)
          (try clear ho1)
          refine hK.out _ _ ⟨(blk_cell BKag.out 0).trans rfl, (blk_cell BKag.out 1).trans rfl, (blk_cell BKag.out 2).trans rfl, (blk_cell BKag.out 3).trans rfl, (blk_cell BKag.out 4).trans rfl⟩ (fun hHeld => ?_); clear hK K; refine norm_ (a' := ?_) ?_ ?_
          rotate_left
          ·show Act.put _ (some 35) _ = _
           simp only [Sx]
           rfl
          refine pure_ (i := 6) (N := some 29) (v := ?_) (a' := ?_) #[true, true, true, true, true, true, true, false, false, true, false, false] rfl rfl (any_of HT_.out Zq2) (fun _ _ _ h => h) (Or.inl ⟨Zq3, ?_⟩) ?_ ?_
          rotate_left
          ·intro w'
           go_simp
           with_reducible rfl
          rotate_left
          ·simp only [Sx]
           rfl
          refine pure_ (i := 7) (N := some 36) (v := ?_) (a' := ?_) #[true, true, true, true, true, true, true, true, false, true, false, false] rfl rfl (any_of HT_.out Zq2) (fun _ _ _ h => h) (Or.inl ⟨Zq3, ?_⟩) ?_ ?_
          rotate_left
          ·intro w'
           go_simp
           with_reducible rfl
          rotate_left
          ·simp only [Sx]
           rfl
          refine pure_ (i := 8) (N := some 37) (v := ?_) (a' := ?_) #[true, true, true, true, true, true, true, true, true, true, false, false] rfl rfl (any_of HT_.out Zq2) (fun _ _ _ h => h) (Or.inl ⟨Zq3, ?_⟩) ?_ ?_
          rotate_left
          ·intro w'
           go_simp
           with_reducible rfl
          rotate_left
          ·simp only [Sx]
           rfl
          exact norm_ Zq55 (hCont (v263, v266, gbae) _ ⟨hHeld, Zq114, Zq115, Zq116, (by (with_reducible repeat (first | apply Kd.R_alloc | apply Kd.R_drewN | apply Kd.R_drew)); exact Kd.R_mono HO_aN.out (fun _ hk => ⟨hk.1.2, ⟨hk.2, ⟨hk.1.1.1.1, ⟨hk.1.1.1.2, hk.1.1.2⟩⟩⟩⟩)), Zq24, Zq27, Zq72, GWae.out, GEae.out, NB250_269.out, NB269_250.out, NB259_269.out, NB269_259.out, Zq37⟩)
        rintro ⟨v263, v266, gbae⟩ w46 ⟨hS_, h0_, h1_, h2_, h3_, h4_, h5_, h6_, h7_, h8_, h9_, h10_, h11_, h12_, h13_⟩
        have n0_ : Aside0 (Kd.S k77 77 w46 w.heap.size (fun k_ => some k_ ≠ (u260001 : Value).ownBlock) v263 tbm) := ⟨h0_⟩
        have n1_ : Aside0 (Kd.R k30 30 w46 w.heap.size (fun k_ => some k_ ≠ (v263 : Value).ownBlock ∧ some k_ ≠ (u260001 : Value).ownBlock ∧ some k_ ≠ (u260002 : Value).ownBlock ∧ k_ ≠ gbal ∧ k_ ≠ gbae) v266 tbs) := ⟨h1_⟩
        have n2_ : Aside0 (Kd.S k77 77 w46 w.heap.size (fun k_ => some k_ ≠ (v263 : Value).ownBlock) u260001 xaM_1) := ⟨h2_⟩
        have n3_ : Aside0 (Kd.R k30 30 w46 w.heap.size (fun k_ => some k_ ≠ (v263 : Value).ownBlock ∧ some k_ ≠ (v266 : Value).ownBlock ∧ some k_ ≠ (u260001 : Value).ownBlock ∧ k_ ≠ gbal ∧ k_ ≠ gbae) u260002 xaN_1) := ⟨h3_⟩
        have n4_ : Aside0 (w46.heap[gbag]? = some (.cells #[.int .u32 a0_0, .slice A0_1 l0_1.length c0_1, .string a0_2, .slice A0_3 l0_3.length c0_3, .slice A0_4 l0_4.length c0_4] 35 (0, 0))) := ⟨h4_⟩
        have n5_ : Aside0 (w46.heap[gbal]? = some (.cells #[.string xbO_1, u260001, u260002] 30 (0, 0))) := ⟨h5_⟩
        have n6_ : Aside0 (w46.heap[gbae]? = some (.cells #[.string (⟨#[]⟩ : ByteArray), .slice none 0 0, .slice none 0 0] 30 (0, 0))) := ⟨h6_⟩
        have n7_ : Aside0 (w.heap.size ≤ gbae) := ⟨h7_⟩
        have n8_ : Aside0 (w.heap.size ≤ gbae) := ⟨h8_⟩
        have n9_ : Aside0 (gbag ≠ gbae) := ⟨h9_⟩
        have n10_ : Aside0 (gbae ≠ gbag) := ⟨h10_⟩
        have n11_ : Aside0 (gbal ≠ gbae) := ⟨h11_⟩
        have n12_ : Aside0 (gbae ≠ gbal) := ⟨h12_⟩
        have n13_ : Aside0 (Below w.heap.size w w46) := ⟨h13_⟩
        clear HO_aM HO_aN BKag BKal HB h0_ h1_ h2_ h3_ h4_ h5_ h6_ h7_ h8_ h9_ h10_ h11_ h12_ h13_; have HObR := n0_; have HObS := n1_; have HO_aM := n2_; have HO_aN := n3_; have BKag := n4_; have BKal := n5_; have BKae := n6_; have GWae := n7_; have GEae := n8_; have NB250_269 := n9_; have NB269_250 := n10_; have NB259_269 := n11_; have NB269_259 := n12_; have HB := n13_; clear n0_ n1_ n2_ n3_ n4_ n5_ n6_ n7_ n8_ n9_ n10_ n11_ n12_ n13_; have hHeld : w46.cell? ⟨gbag, 0, none⟩ = some (.int .u32 a0_0) ∧ w46.cell? ⟨gbag, 1, none⟩ = some (.slice A0_1 l0_1.length c0_1) ∧ w46.cell? ⟨gbag, 2, none⟩ = some (.string a0_2) ∧ w46.cell? ⟨gbag, 3, none⟩ = some (.slice A0_3 l0_3.length c0_3) ∧ w46.cell? ⟨gbag, 4, none⟩ = some (.slice A0_4 l0_4.length c0_4) := hS_; obtain ⟨Ao48, co48, eo48⟩ := Kd.S_slice HObR.out
        (first | subst eo48 | (injection eo48 with f1_ f2_ f3_; have f4_ := f1_.symm; have f5_ := f3_.symm; clear f1_ f2_ f3_; subst f4_; subst f5_))
        obtain ⟨Ao50, co50, eo50⟩ := Kd.R_slice HObS.out
        (first | subst eo50 | (injection eo50 with f1_ f2_ f3_; have f4_ := f1_.symm; have f5_ := f3_.symm; clear f1_ f2_ f3_; subst f4_; subst f5_))
        refine norm_ (a' := ?_) ?_ ?_
        rotate_left
        ·simp only [putAll, Act.put, List.setIfInBounds_toArray, List.set_cons_zero, List.set_cons_succ]
         rfl
        refine one_ (i := 10) (N := none) #[true, true, true, true, true, true, true, true, true, true, true, false] rfl rfl (one_of HT_.out Zq2) Zq7 (fun K hK => ?_); have hs47 : w46.cell? ⟨gbae, 0, none⟩ = some (.string (⟨#[]⟩ : ByteArray)) := (blk_cell BKae.out 0).trans rfl; have hfs47 := blk_frozen BKae.out 0; have hns47_0 := NB250_269.out; have hns47_1 := NB259_269.out; have hms47_0 := NB269_250.out; have hms47_1 := NB269_259.out; have hs49 : w46.cell? ⟨gbae, 1, none⟩ = some (.slice none 0 0) := (blk_cell BKae.out 1).trans rfl; have hfs49 := blk_frozen BKae.out 1; have hns49_0 := NB250_269.out; have hns49_1 := NB259_269.out; have hms49_0 := NB269_250.out; have hms49_1 := NB269_259.out; have hs51 : w46.cell? ⟨gbae, 2, none⟩ = some (.slice none 0 0) := (blk_cell BKae.out 2).trans rfl; have hfs51 := blk_frozen BKae.out 2; have hns51_0 := NB250_269.out; have hns51_1 := NB259_269.out; have hms51_0 := NB269_250.out; have hms51_1 := NB269_259.out; refine skip_ (w1 := ?_) Zq3 rfl ?_ ?_
        rotate_left
        ·go_simp
         rfl
        refine hK.out _ _ ⟨((cell_far (p := ⟨gbae, _, none⟩) NB250_269.out _).trans (((cell_far (p := ⟨gbae, _, none⟩) NB250_269.out _).trans (((cell_far (p := ⟨gbae, _, none⟩) NB250_269.out _).trans (hHeld.1)))))), ((cell_far (p := ⟨gbae, _, none⟩) NB250_269.out _).trans (((cell_far (p := ⟨gbae, _, none⟩) NB250_269.out _).trans (((cell_far (p := ⟨gbae, _, none⟩) NB250_269.out _).trans (hHeld.2.1)))))), ((cell_far (p := ⟨gbae, _, none⟩) NB250_269.out _).trans (((cell_far (p := ⟨gbae, _, none⟩) NB250_269.out _).trans (((cell_far (p := ⟨gbae, _, none⟩) NB250_269.out _).trans (hHeld.2.2.1)))))), ((cell_far (p := ⟨gbae, _, none⟩) NB250_269.out _).trans (((cell_far (p := ⟨gbae, _, none⟩) NB250_269.out _).trans (((cell_far (p := ⟨gbae, _, none⟩) NB250_269.out _).trans (hHeld.2.2.2.1)))))), ((cell_far (p := ⟨gbae, _, none⟩) NB250_269.out _).trans (((cell_far (p := ⟨gbae, _, none⟩) NB250_269.out _).trans (((cell_far (p := ⟨gbae, _, none⟩) NB250_269.out _).trans (hHeld.2.2.2.2))))))⟩ (fun hHeld => ?_); clear hK K; refine pure_ (i := 11) (N := some 14) (v := ?_) (a' := ?_) #[true, true, true, true, true, true, true, true, true, true, true, true] rfl rfl (any_of HT_.out Zq2) (fun _ _ _ h => h) (Or.inl ⟨Zq3, ?_⟩) ?_ ?_
        rotate_left
        ·intro w'
         go_simp
         with_reducible rfl
        rotate_left
        ·simp only [Sx]
         rfl
        refine done_ (done_of HT_.out Zq2) ?_; have hnb52 := NB269_250.out; have hnc52 := NB250_269.out; have hnb53 := NB269_259.out; have hnc53 := NB259_269.out; have hcz54_0 : w46.cell? ⟨gbae, 0, none⟩ = some (.string (⟨#[]⟩ : ByteArray)) := (blk_cell BKae.out 0).trans rfl; have hcz54_1 : w46.cell? ⟨gbae, 1, none⟩ = some (.slice none 0 0) := (blk_cell BKae.out 1).trans rfl; have hcz54_2 : w46.cell? ⟨gbae, 2, none⟩ = some (.slice none 0 0) := (blk_cell BKae.out 2).trans rfl; have hfz54_0 := blk_frozen BKae.out 0; have hfz54_1 := blk_frozen BKae.out 1; have hfz54_2 := blk_frozen BKae.out 2; have hnb55 := NB259_250.out; have hnc55 := NB250_259.out; have hcz56_0 : w46.cell? ⟨gbal, 0, none⟩ = some (.string xbO_1) := (blk_cell BKal.out 0).trans rfl; have hcz56_1 : w46.cell? ⟨gbal, 1, none⟩ = some (u260001) := (blk_cell BKal.out 1).trans rfl; have hcz56_2 : w46.cell? ⟨gbal, 2, none⟩ = some (u260002) := (blk_cell BKal.out 2).trans rfl; have hfz56_0 := blk_frozen BKal.out 0; have hfz56_1 := blk_frozen BKal.out 1; have hfz56_2 := blk_frozen BKal.out 2; obtain ⟨Ao57, co57, eo57⟩ := Kd.S_slice HO_aM.out; subst eo57; obtain ⟨Ao58, co58, eo58⟩ := Kd.R_slice HO_aN.out; subst eo58
        try go_wp2_with (first | ((with_reducible refine gate_callee (f := 49) rfl ?_); refine goesL_ (some 43) rfl rfl Try.func49 Zq2 rfl #[.agg #[.string tba, .slice Ao48 tbm.length co48, .slice Ao50 tbs.length co50], .agg #[.string xbO_1, .slice Ao57 xaM_1.length co57, .slice Ao58 xaN_1.length co58], .int .u64 x2_1, .int .u64 a3] rfl Zq8 ?_; (with_reducible refine (xlate_step.calls k1 tba _ _ tbm _ _ tbs xbO_1 _ _ xaM_1 _ _ xaN_1 x2_1 a3 tcv tdJ _ ?side1 ?side2 ?side3 ?side4 ?side5 ?side6 ?side7 ?side8 A20.out).mono ?_); (case side1 => refine (Kd.S_reads' (e := 77) (base := w.heap.size) (ok := fun k_ => some k_ ≠ (.slice Ao57 xaM_1.length co57 : Value).ownBlock) (n := tbm.length) (c := co48) ?_).2.2; exact (by (with_reducible repeat (first | apply Kd.S_alloc | apply Kd.S_drewN | apply Kd.S_drew)); exact (Kd.S_mono (Kd.S_far (p := ⟨gbae, 2, none⟩) (Kd.S_far (p := ⟨gbae, 1, none⟩) (Kd.S_far (p := ⟨gbae, 0, none⟩) (Kd.S_types HObR.out BKae.out Zq7) (fun _ hk => hk.2) (.string tba)) (fun _ hk => hk.2) (.slice Ao48 tbm.length co48)) (fun _ hk => hk.2) (.slice Ao50 tbs.length co50)) (fun _ h_ => h_.1)))); (case side2 => exact (Kd.S_reads' HObR.out).2.1); (case side3 => refine (Kd.R_reads' (e := 30) (base := w.heap.size) (ok := fun k_ => (some k_ ≠ (.slice Ao48 tbm.length co48 : Value).ownBlock ∧ (some k_ ≠ (.slice Ao57 xaM_1.length co57 : Value).ownBlock ∧ (some k_ ≠ (.slice Ao58 xaN_1.length co58 : Value).ownBlock ∧ (k_ ≠ gbal ∧ k_ ≠ gbae))))) (n := tbs.length) (c := co50) ?_).2.2; exact (by (with_reducible repeat (first | apply Kd.R_alloc | apply Kd.R_drewN | apply Kd.R_drew)); exact (Kd.R_mono (Kd.R_far (p := ⟨gbae, 2, none⟩) (Kd.R_far (p := ⟨gbae, 1, none⟩) (Kd.R_far (p := ⟨gbae, 0, none⟩) (Kd.R_mono HObS.out (fun k_ hk => (⟨hk, hk.2.2.2.2⟩ : _ ∧ k_ ≠ gbae))) (fun _ hk => hk.2) (.string tba)) (fun _ hk => hk.2) (.slice Ao48 tbm.length co48)) (fun _ hk => hk.2) (.slice Ao50 tbs.length co50)) (fun _ h_ => h_.1)))); (case side4 => exact (Kd.R_reads' HObS.out).2.1); (case side5 => refine (Kd.S_reads' (e := 77) (base := w.heap.size) (ok := fun k_ => some k_ ≠ (.slice Ao48 tbm.length co48 : Value).ownBlock) (n := xaM_1.length) (c := co57) ?_).2.2; exact (by (with_reducible repeat (first | apply Kd.S_alloc | apply Kd.S_drewN | apply Kd.S_drew)); exact (Kd.S_mono (Kd.S_far (p := ⟨gbae, 2, none⟩) (Kd.S_far (p := ⟨gbae, 1, none⟩) (Kd.S_far (p := ⟨gbae, 0, none⟩) (Kd.S_types HO_aM.out BKae.out Zq7) (fun _ hk => hk.2) (.string tba)) (fun _ hk => hk.2) (.slice Ao48 tbm.length co48)) (fun _ hk => hk.2) (.slice Ao50 tbs.length co50)) (fun _ h_ => h_.1)))); (case side6 => exact (Kd.S_reads' HO_aM.out).2.1); (case side7 => refine (Kd.R_reads' (e := 30) (base := w.heap.size) (ok := fun k_ => (some k_ ≠ (.slice Ao48 tbm.length co48 : Value).ownBlock ∧ (some k_ ≠ (.slice Ao50 tbs.length co50 : Value).ownBlock ∧ (some k_ ≠ (.slice Ao57 xaM_1.length co57 : Value).ownBlock ∧ (k_ ≠ gbal ∧ k_ ≠ gbae))))) (n := xaN_1.length) (c := co58) ?_).2.2; exact (by (with_reducible repeat (first | apply Kd.R_alloc | apply Kd.R_drewN | apply Kd.R_drew)); exact (Kd.R_mono (Kd.R_far (p := ⟨gbae, 2, none⟩) (Kd.R_far (p := ⟨gbae, 1, none⟩) (Kd.R_far (p := ⟨gbae, 0, none⟩) (Kd.R_mono HO_aN.out (fun k_ hk => (⟨hk, hk.2.2.2.2⟩ : _ ∧ k_ ≠ gbae))) (fun _ hk => hk.2) (.string tba)) (fun _ hk => hk.2) (.slice Ao48 tbm.length co48)) (fun _ hk => hk.2) (.slice Ao50 tbs.length co50)) (fun _ h_ => h_.1)))); (case side8 => exact (Kd.R_reads' HO_aN.out).2.1); rintro e w59 ⟨rfl, hb⟩; refine ⟨_, rfl, ?_⟩; have n0_ := Ak (Kd.S_below (by (with_reducible repeat (first | apply Kd.S_alloc | apply Kd.S_drewN | apply Kd.S_drew)); exact (Kd.S_mono (Kd.S_far (p := ⟨gbae, 2, none⟩) (Kd.S_far (p := ⟨gbae, 1, none⟩) (Kd.S_far (p := ⟨gbae, 0, none⟩) (Kd.S_types HO_aM.out BKae.out Zq7) (fun _ hk => hk.2) (.string tba)) (fun _ hk => hk.2) (.slice Ao48 tbm.length co48)) (fun _ hk => hk.2) (.slice Ao50 tbs.length co50)) (fun _ h_ => h_.1))) hb); have n1_ := Ak (Kd.R_below (by (with_reducible repeat (first | apply Kd.R_alloc | apply Kd.R_drewN | apply Kd.R_drew)); exact (Kd.R_mono (Kd.R_far (p := ⟨gbae, 2, none⟩) (Kd.R_far (p := ⟨gbae, 1, none⟩) (Kd.R_far (p := ⟨gbae, 0, none⟩) (Kd.R_mono HO_aN.out (fun k_ hk => (⟨hk, hk.2.2.2.2⟩ : _ ∧ k_ ≠ gbae))) (fun _ hk => hk.2) (.string tba)) (fun _ hk => hk.2) (.slice Ao48 tbm.length co48)) (fun _ hk => hk.2) (.slice Ao50 tbs.length co50)) (fun _ h_ => h_.1))) hb); have n2_ := Ak (Kd.S_below (by (with_reducible repeat (first | apply Kd.S_alloc | apply Kd.S_drewN | apply Kd.S_drew)); exact (Kd.S_mono (Kd.S_far (p := ⟨gbae, 2, none⟩) (Kd.S_far (p := ⟨gbae, 1, none⟩) (Kd.S_far (p := ⟨gbae, 0, none⟩) (Kd.S_types HObR.out BKae.out Zq7) (fun _ hk => hk.2) (.string tba)) (fun _ hk => hk.2) (.slice Ao48 tbm.length co48)) (fun _ hk => hk.2) (.slice Ao50 tbs.length co50)) (fun _ h_ => h_.1))) hb); have n3_ := Ak (Kd.R_below (by (with_reducible repeat (first | apply Kd.R_alloc | apply Kd.R_drewN | apply Kd.R_drew)); exact (Kd.R_mono (Kd.R_far (p := ⟨gbae, 2, none⟩) (Kd.R_far (p := ⟨gbae, 1, none⟩) (Kd.R_far (p := ⟨gbae, 0, none⟩) (Kd.R_mono HObS.out (fun k_ hk => (⟨hk, hk.2.2.2.2⟩ : _ ∧ k_ ≠ gbae))) (fun _ hk => hk.2) (.string tba)) (fun _ hk => hk.2) (.slice Ao48 tbm.length co48)) (fun _ hk => hk.2) (.slice Ao50 tbs.length co50)) (fun _ h_ => h_.1))) hb); have n4_ := Ak (blk_below (g := gbag) (o := .cells #[.int .u32 a0_0, .slice A0_1 l0_1.length c0_1, .string a0_2, .slice A0_3 l0_3.length c0_3, .slice A0_4 l0_4.length c0_4] 35 (0, 0)) (by (with_reducible repeat (first | refine blk_drewN ?_ _ | refine blk_drew ?_ | refine blk_alloc ?_ _)); refine blk_far ?_ NB250_269.out _; (with_reducible repeat (first | refine blk_drewN ?_ _ | refine blk_drew ?_ | refine blk_alloc ?_ _)); refine blk_far ?_ NB250_269.out _; (with_reducible repeat (first | refine blk_drewN ?_ _ | refine blk_drew ?_ | refine blk_alloc ?_ _)); refine blk_far ?_ NB250_269.out _; (with_reducible repeat (first | refine blk_drewN ?_ _ | refine blk_drew ?_ | refine blk_alloc ?_ _)); exact BKag.out) hb); have n5_ := Ak (blk_below (g := gbal) (o := .cells #[.string xbO_1, .slice Ao57 xaM_1.length co57, .slice Ao58 xaN_1.length co58] 30 (0, 0)) (by (with_reducible repeat (first | refine blk_drewN ?_ _ | refine blk_drew ?_ | refine blk_alloc ?_ _)); refine blk_far ?_ NB259_269.out _; (with_reducible repeat (first | refine blk_drewN ?_ _ | refine blk_drew ?_ | refine blk_alloc ?_ _)); refine blk_far ?_ NB259_269.out _; (with_reducible repeat (first | refine blk_drewN ?_ _ | refine blk_drew ?_ | refine blk_alloc ?_ _)); refine blk_far ?_ NB259_269.out _; (with_reducible repeat (first | refine blk_drewN ?_ _ | refine blk_drew ?_ | refine blk_alloc ?_ _)); exact BKal.out) hb); have n6_ := Ak (blk_below (g := gbae) (o := .cells #[.string tba, .slice Ao48 tbm.length co48, .slice Ao50 tbs.length co50] 30 (0, 0)) (by (with_reducible repeat (first | refine blk_drewN ?_ _ | refine blk_drew ?_ | refine blk_alloc ?_ _)); refine blk_put (cs := #[.string tba, .slice Ao48 tbm.length co48, .slice none 0 0]) ?_ 2 _ rfl; (with_reducible repeat (first | refine blk_drewN ?_ _ | refine blk_drew ?_ | refine blk_alloc ?_ _)); refine blk_put (cs := #[.string tba, .slice none 0 0, .slice none 0 0]) ?_ 1 _ rfl; (with_reducible repeat (first | refine blk_drewN ?_ _ | refine blk_drew ?_ | refine blk_alloc ?_ _)); refine blk_put (cs := #[.string (⟨#[]⟩ : ByteArray), .slice none 0 0, .slice none 0 0]) ?_ 0 _ rfl; (with_reducible repeat (first | refine blk_drewN ?_ _ | refine blk_drew ?_ | refine blk_alloc ?_ _)); exact BKae.out) hb); have n7_ := Ak (below_step Zq37 hb); clear HO_aM HO_aN HObR HObS BKag BKal BKae HB; have HO_aM := n0_; have HO_aN := n1_; have HObR := n2_; have HObS := n3_; have BKag := n4_; have BKal := n5_; have BKae := n6_; have HB := n7_; clear n0_ n1_ n2_ n3_ n4_ n5_ n6_ n7_; (try clear hb); (try clear hb2); (try clear hk); (try clear hi)))
        go_ret2
        exact ⟨by first | rfl | (simp [errW_none, errW_some] <;> rfl) | (simp only [← hji16]; first | rfl | (simp [errW_none, errW_some] <;> rfl)) | (simp [*, errW_none, errW_some] <;> rfl), Zq37⟩
      ·rw [if_neg c18] at H; exact absurd H Zq9
     ·rw [if_neg c17] at H; exact absurd H Zq9
    ·rw [if_neg c15] at H; have c15b0 : decide (0 < x12_1) = false := decide_eq_false c15; clear c15; simp only [Option.some.injEq, Prod.mk.injEq] at H; obtain ⟨rfl, rfl⟩ := H
     go_wp2
     go_ret2
     exact ⟨Zq11, Zq26⟩
 ·rw [if_neg c6] at H; have c6b0 : (tdT == 0) = false := beq_eq_false_iff_ne.mpr c6; have c6b1 : (tdT != 0) = true := bne_iff_ne.mpr c6; simp only [Option.some.injEq, Prod.mk.injEq] at H; obtain ⟨rfl, rfl⟩ := H
  go_enter Try.func20, Try.ntmps20
  go_wp2_with (first | ((with_reducible refine gate_dst (N := 4) rfl ?_); refine box_event ?hg (N := 4) ?hd (cs := #[.int .u32 a0_0, .slice A0_1 l0_1.length c0_1, .string a0_2, .slice A0_3 l0_3.length c0_3, .slice A0_4 l0_4.length c0_4]) (t := 35) ?hr ?_; (case hd | hg => rfl); (case hr => first | (go_simp; done) | (go_simp; rfl)); intro gbag hg w60 hbox hb; have n0_ := Zq140; have n1_ := Ak (hbox); have n2_ := Zq225; have n3_ := Zq225; clear HB; have HB := n0_; have BKag := n1_; have GWag := n2_; have GEag := n3_; clear n0_ n1_ n2_ n3_ hb hbox hg; have hcz61_0 : w60.cell? ⟨gbag, 0, none⟩ = some (.int .u32 a0_0) := (blk_cell BKag.out 0).trans rfl; have hcz61_1 : w60.cell? ⟨gbag, 1, none⟩ = some (.slice A0_1 l0_1.length c0_1) := (blk_cell BKag.out 1).trans rfl; have hcz61_2 : w60.cell? ⟨gbag, 2, none⟩ = some (.string a0_2) := (blk_cell BKag.out 2).trans rfl; have hcz61_3 : w60.cell? ⟨gbag, 3, none⟩ = some (.slice A0_3 l0_3.length c0_3) := (blk_cell BKag.out 3).trans rfl; have hcz61_4 : w60.cell? ⟨gbag, 4, none⟩ = some (.slice A0_4 l0_4.length c0_4) := (blk_cell BKag.out 4).trans rfl; have hfz61_0 := blk_frozen BKag.out 0; have hfz61_1 := blk_frozen BKag.out 1; have hfz61_2 := blk_frozen BKag.out 2; have hfz61_3 := blk_frozen BKag.out 3; have hfz61_4 := blk_frozen BKag.out 4) | ((with_reducible refine gate_callee (f := 48) rfl ?_); refine goesL_ (some 18) rfl rfl Try.func48 Zq2 rfl #[.agg #[.int .u32 a0_0, .slice A0_1 l0_1.length c0_1, .string a0_2, .slice A0_3 l0_3.length c0_3, .slice A0_4 l0_4.length c0_4], .slice A1 l1.length c1] rfl Zq8 ?_; (with_reducible refine (path_Get.calls k a0_0 _ _ l0_1 a0_2 (fun k_ => k_ < w.heap.size) _ _ l0_3 (fun k_ => k_ < w.heap.size) _ _ l0_4 _ _ l1 tck tdS tec tdT _ ?side1 ?side2 ?side3 ?side4 ?side5 ?side6 A5.out).mono ?_); (case side1 => repeat (first | exact Zq142 | (with_reducible refine Kd.C_alloc ?_ _) | (with_reducible refine Kd.C_drewN ?_ _) | (with_reducible refine Kd.C_drew ?_))); (case side2 => exact HC0_1.out); (case side3 => exact Kd.V_mk HC0_3.out (Kd.F_below (Kd.C_F k77_heap HR0_3.out) Zq43)); (case side4 => exact Kd.V_mk HC0_4.out (Kd.F_below (Kd.C_F k30_heap HR0_4.out) Zq43)); (case side5 => repeat (first | exact (Kd.C_below HR1.out HB.out) | (with_reducible refine Kd.C_alloc ?_ _) | (with_reducible refine Kd.C_drewN ?_ _) | (with_reducible refine Kd.C_drew ?_))); (case side6 => exact HC1.out); rintro e w62 ⟨v253, v256, rfl, ho0, ho1, hb⟩; refine ⟨_, rfl, ?_⟩; have n0_ := Ak (Kd.S_lower (Kd.S_mono (ok' := fun k_ => True) ho0 (fun _ hk_ => trivial)) (below_size Zq43)); have n1_ := Zq259; have n2_ := Zq138; have n3_ := Ak (below_step Zq43 hb); clear BKag HB; have HOdH := n0_; have HOdI := n1_; have BKag := n2_; have HB := n3_; clear n0_ n1_ n2_ n3_; (try clear hb); (try clear hb2); (try clear hk); (try clear hi); (try clear ho0); (try clear ho1)) | ((with_reducible refine gate_dst (N := 10) rfl ?_); refine box_event ?hg (N := 10) ?hd (cs := #[.string (⟨#[]⟩ : ByteArray), .slice none 0 0, .slice none 0 0]) (t := 30) ?hr ?_; (case hd | hg => rfl); (case hr => first | (go_simp; done) | (go_simp; rfl)); intro gbal hg w63 hbox hb; have n0_ := Zq251; have n1_ := Zq235; have n2_ := Zq138; have n3_ := Ak (below_step Zq43 hb); have n4_ := Ak (hbox); have n5_ := Zq220; have n6_ := Zq220; have n7_ := Ak ((by rw [hg]; exact Nat.ne_of_lt Zq141 : gbag ≠ gbal)); have n8_ := Ak ((by rw [hg]; exact Nat.ne_of_gt Zq141 : gbal ≠ gbag)); clear HOdH HOdI BKag HB; have HOdH := n0_; have HOdI := n1_; have BKag := n2_; have HB := n3_; have BKal := n4_; have GWal := n5_; have GEal := n6_; have NB250_259 := n7_; have NB259_250 := n8_; clear n0_ n1_ n2_ n3_ n4_ n5_ n6_ n7_ n8_ hb hbox hg; have hnb64 := NB259_250.out; have hnc64 := NB250_259.out; have hcz65_0 : w63.cell? ⟨gbal, 0, none⟩ = some (.string (⟨#[]⟩ : ByteArray)) := (blk_cell BKal.out 0).trans rfl; have hcz65_1 : w63.cell? ⟨gbal, 1, none⟩ = some (.slice none 0 0) := (blk_cell BKal.out 1).trans rfl; have hcz65_2 : w63.cell? ⟨gbal, 2, none⟩ = some (.slice none 0 0) := (blk_cell BKal.out 2).trans rfl; have hfz65_0 := blk_frozen BKal.out 0; have hfz65_1 := blk_frozen BKal.out 1; have hfz65_2 := blk_frozen BKal.out 2; obtain ⟨Ao66, co66, eo66⟩ := Kd.S_slice HOdH.out; subst eo66; obtain ⟨Ao67, co67, eo67⟩ := Kd.R_slice HOdI.out; subst eo67))
  go_ret2
  exact ⟨Zq11, Zq26⟩
end Go.Proofs.Yteejaaeglfpcmab.PX

namespace Go.Proofs.Yteejaaeglfpcmab.PX
open Go.RowKit Go.Proofs.YteejaaeglfpcmabW.PrintWords Go.Proofs.YteejaaeglfpcmabW.PrintLast Go.Proofs.YteejaaeglfpcmabW.PrintMore
attribute [local go_sem] max2_int min2_int max_two min_two max_three min_three max_four min_four
def arboretlaw13_awake.f (k : Nat)  : Option (Bool) := (xlate_Up.f k 0 ([] : List (S94)) (⟨#[]⟩ : ByteArray) ([] : List (S77)) ([] : List (S30)) ([] : List Int) 5 1).bind fun btdK => (if btdK.2 = 0 then (some (btdK.1 == 5)) else (some false))
theorem arboretlaw13_awake.mono : ∀ k, LeO (arboretlaw13_awake.f k ) (arboretlaw13_awake.f (k + 1) ) := by
 intro  k; unfold arboretlaw13_awake.f
 repeat' first | (with_reducible first | exact xlate_Up.mono _ _ _ _ _ _ _ _ _ | exact LeO.refl _ | exact LeO.none _ | refine LeO.ite ?_ ?_ | refine LeO.bind ?_ (fun _ => ?_))
set_option maxHeartbeats 8000000 in
set_option maxRecDepth 100000 in
theorem arboretlaw13_awake.calls (k : Nat)  (r : Bool) (w : World) (h : arboretlaw13_awake.f k  = some r) :
  Calls Try.prog 15 #[] w fun e w' => e = .returned (.bool r) ∧ Below w.heap.size w w' := by
 have hu35 := Try.underlying35; have HB := Zq145; have H : ((xlate_Up.f k 0 ([] : List (S94)) (⟨#[]⟩ : ByteArray) ([] : List (S77)) ([] : List (S30)) ([] : List Int) 5 1).bind fun btdK => (if btdK.2 = 0 then (some (btdK.1 == 5)) else (some false))) = some r := h; clear h; replace H := Option.bind_eq_some_iff.mp H; obtain ⟨⟨tdK, tdU⟩, A10, H⟩ := H; replace H : (if tdU = 0 then (some (tdK == 5)) else (some false)) = some r := H; have A1 := Ak A10; clear A10
 by_cases c2 : tdU = 0
 ·rw [if_pos c2] at H; have c2b0 : (tdU == 0) = true := beq_iff_eq.mpr c2; have c2b1 : (tdU != 0) = false := bne_eq_false_iff_eq.mpr c2; clear c2; obtain rfl := Option.some.inj H
  go_enter Try.func15, Try.ntmps15
  go_wp2_with (first | ((with_reducible refine gate_callee (f := 20) rfl ?_); refine goesL_ (some 5) rfl rfl Try.func20 Zq2 rfl #[.agg #[.int .u32 0, .slice none 0 0, .string (⟨#[]⟩ : ByteArray), .slice none 0 0, .slice none 0 0], .slice none 0 0, .int .u64 5, .int .u64 1] rfl Zq8 ?_; (refine (xlate_Up.calls k 0 _ _ ([] : List (S94)) (⟨#[]⟩ : ByteArray) _ _ ([] : List (S77)) _ _ ([] : List (S30)) _ _ ([] : List Int) 5 1 tdK tdU _ ?side1 ?side2 ?side3 ?side4 ?side5 ?side6 ?side7 ?side8 A1.out).mono ?_); (case side1 => exact Kd.C_nil _ _); (case side2 => exact Nat.le_refl _); (case side3 => exact Kd.C_nil _ _); (case side4 => exact Nat.le_refl _); (case side5 => exact Kd.C_nil _ _); (case side6 => exact Nat.le_refl _); (case side7 => exact Kd.C_nil _ _); (case side8 => exact Nat.le_refl _); rintro e w3 ⟨rfl, hb⟩; refine ⟨_, rfl, ?_⟩; have n0_ := Zq140; clear HB; have HB := n0_; clear n0_; (try clear hb); (try clear hb2); (try clear hk); (try clear hi)))
  go_ret
  exact ⟨Zq11, Zq5⟩
 ·rw [if_neg c2] at H; have c2b0 : (tdU == 0) = false := beq_eq_false_iff_ne.mpr c2; have c2b1 : (tdU != 0) = true := bne_iff_ne.mpr c2; obtain rfl := Option.some.inj H
  go_enter Try.func15, Try.ntmps15
  go_wp2_with (first | ((with_reducible refine gate_callee (f := 20) rfl ?_); refine goesL_ (some 5) rfl rfl Try.func20 Zq2 rfl #[.agg #[.int .u32 0, .slice none 0 0, .string (⟨#[]⟩ : ByteArray), .slice none 0 0, .slice none 0 0], .slice none 0 0, .int .u64 5, .int .u64 1] rfl Zq8 ?_; (refine (xlate_Up.calls k 0 _ _ ([] : List (S94)) (⟨#[]⟩ : ByteArray) _ _ ([] : List (S77)) _ _ ([] : List (S30)) _ _ ([] : List Int) 5 1 tdK tdU _ ?side1 ?side2 ?side3 ?side4 ?side5 ?side6 ?side7 ?side8 A1.out).mono ?_); (case side1 => exact Kd.C_nil _ _); (case side2 => exact Nat.le_refl _); (case side3 => exact Kd.C_nil _ _); (case side4 => exact Nat.le_refl _); (case side5 => exact Kd.C_nil _ _); (case side6 => exact Nat.le_refl _); (case side7 => exact Kd.C_nil _ _); (case side8 => exact Nat.le_refl _); rintro e w4 ⟨rfl, hb⟩; refine ⟨_, rfl, ?_⟩; have n0_ := Zq140; clear HB; have HB := n0_; clear n0_; (try clear hb); (try clear hb2); (try clear hk); (try clear hi)))
  go_ret
  exact ⟨Zq11, Zq5⟩
mutual
def arboretlaw03_size.l0 : Nat → Int → Int → Int → Int → ByteArray → List (S77) → List (S30) → Option (Int)
 | 0, _, _, _, _, _, _, _ => none
 | k + 1, x1, x5, x14, x15, xeU, xed, xdL => if x15 < x14 then (if 0 ≤ x15 then (if x15 < (xed.length : Int) then (arboretlaw03_size.l0 k x1 (wrap64 ((wrap64 ((wrap64 (x5 + 1)) + (((rd_T77 xed x15).f0).size : Int))) + (((rd_T77 xed x15).f1).length : Int))) x14 (wrap64 (x15 + 1)) xeU xed xdL) else (none)) else (none)) else (arboretlaw03_size.l1 k x1 x5 (xdL.length : Int) 0 xeU xed xdL)
def arboretlaw03_size.l1 : Nat → Int → Int → Int → Int → ByteArray → List (S77) → List (S30) → Option (Int)
 | 0, _, _, _, _, _, _, _ => none
 | k + 1, x1, x5, x39, x40, xeU, xed, xdL => if x40 < x39 then (if x1 > 20 then (some 1048576) else (if x5 > 100000 then (some 1048576) else (if 0 ≤ x40 then (if x40 < (xdL.length : Int) then ((arboretlaw03_size.f k ((rd_T30 xdL x40).f0) ((rd_T30 xdL x40).f1) ((rd_T30 xdL x40).f2) (wrap64 (x1 + 1))).bind fun tee => (arboretlaw03_size.l1 k x1 (wrap64 (x5 + tee)) x39 (wrap64 (x40 + 1)) xeU xed xdL)) else (none)) else (none)))) else (some x5)
def arboretlaw03_size.f : Nat → ByteArray → List (S77) → List (S30) → Int → Option (Int)
 | 0, _, _, _, _ => none
 | k + 1, a0_0, l0_1, l0_2, a1 => arboretlaw03_size.l0 k a1 (wrap64 (1 + (a0_0.size : Int))) (l0_1.length : Int) 0 a0_0 l0_1 l0_2
end
theorem arboretlaw03_size.mono_l : ∀ k, (∀ y0 y1 y2 y3, LeO (arboretlaw03_size.f k y0 y1 y2 y3) (arboretlaw03_size.f (k + 1) y0 y1 y2 y3)) ∧ (∀ y0 y1 y2 y3 y4 y5 y6, LeO (arboretlaw03_size.l0 k y0 y1 y2 y3 y4 y5 y6) (arboretlaw03_size.l0 (k + 1) y0 y1 y2 y3 y4 y5 y6)) ∧ (∀ y0 y1 y2 y3 y4 y5 y6, LeO (arboretlaw03_size.l1 k y0 y1 y2 y3 y4 y5 y6) (arboretlaw03_size.l1 (k + 1) y0 y1 y2 y3 y4 y5 y6))
 | 0 => ⟨fun _ _ _ _ r h => by simp [arboretlaw03_size.f] at h, fun _ _ _ _ _ _ _ r h => by simp [arboretlaw03_size.l0] at h, fun _ _ _ _ _ _ _ r h => by simp [arboretlaw03_size.l1] at h⟩
 | k + 1 => by
  obtain ⟨ih0, ih1, ih2⟩ := arboretlaw03_size.mono_l k; refine ⟨?_, ?_, ?_⟩
  ·intro y0 y1 y2 y3; unfold arboretlaw03_size.f
   repeat' first | (with_reducible first | exact ih0 _ _ _ _ | exact ih1 _ _ _ _ _ _ _ | exact ih2 _ _ _ _ _ _ _ | exact LeO.refl _ | exact LeO.none _ | refine LeO.ite ?_ ?_ | refine LeO.bind ?_ (fun _ => ?_))
  ·intro y0 y1 y2 y3 y4 y5 y6; unfold arboretlaw03_size.l0
   repeat' first | (with_reducible first | exact ih0 _ _ _ _ | exact ih1 _ _ _ _ _ _ _ | exact ih2 _ _ _ _ _ _ _ | exact LeO.refl _ | exact LeO.none _ | refine LeO.ite ?_ ?_ | refine LeO.bind ?_ (fun _ => ?_))
  ·intro y0 y1 y2 y3 y4 y5 y6; unfold arboretlaw03_size.l1
   repeat' first | (with_reducible first | exact ih0 _ _ _ _ | exact ih1 _ _ _ _ _ _ _ | exact ih2 _ _ _ _ _ _ _ | exact LeO.refl _ | exact LeO.none _ | refine LeO.ite ?_ ?_ | refine LeO.bind ?_ (fun _ => ?_))
theorem arboretlaw03_size.mono : ∀ a0 a1 a2 a3 k, LeO (arboretlaw03_size.f k a0 a1 a2 a3) (arboretlaw03_size.f (k + 1) a0 a1 a2 a3) := by
 intro a0 a1 a2 a3 k; obtain ⟨ih0, ih1, ih2⟩ := arboretlaw03_size.mono_l k
 exact ih0 a0 a1 a2 a3
set_option maxHeartbeats 8000000 in
set_option maxRecDepth 100000 in
theorem arboretlaw03_size.calls (k : Nat) : ∀ (a0_0 : ByteArray) (A0_1 : Option Addr) (c0_1 : Nat) (l0_1 : List (S77)) (A0_2 : Option Addr) (c0_2 : Nat) (l0_2 : List (S30)) (a1 : Int) (r : Int) (w : World) (hr0_1 : Kd.C k77 w A0_1 l0_1.length l0_1) (hc0_1 : l0_1.length ≤ c0_1) (hr0_2 : Kd.C k30 w A0_2 l0_2.length l0_2) (hc0_2 : l0_2.length ≤ c0_2) (h : arboretlaw03_size.f k a0_0 l0_1 l0_2 a1 = some r),
  Calls Try.prog 28 #[.agg #[.string a0_0, .slice A0_1 l0_1.length c0_1, .slice A0_2 l0_2.length c0_2], .int .i64 a1] w fun e w' => e = .returned (.int .i64 r) ∧ Below w.heap.size w w' := by
 induction k using Nat.strongRecOn with
 | _ k ih =>
 intro a0_0 A0_1 c0_1 l0_1 A0_2 c0_2 l0_2 a1 r w hr0_1 hc0_1 hr0_2 hc0_2 h
 cases k with
 | zero => exact absurd h (by simp [arboretlaw03_size.f])
 | succ k =>
 simp only [arboretlaw03_size.f] at h; have hu30 := Try.underlying30; have HR0_1 := Ak hr0_1; have HC0_1 := Ak hc0_1; clear hr0_1 hc0_1; have HR0_2 := Ak hr0_2; have HC0_2 := Ak hc0_2; clear hr0_2 hc0_2; have HB := Zq145; have H : (arboretlaw03_size.l0 k a1 (wrap64 (1 + (a0_0.size : Int))) (l0_1.length : Int) 0 a0_0 l0_1 l0_2) = some r := h; clear h; have H' := Ak H; clear H
 go_enter Try.func28, Try.ntmps28
 go_wp2_with (first | ((with_reducible refine gate_dst (N := 2) rfl ?_); refine box_event ?hg (N := 2) ?hd (cs := #[.string a0_0, .slice A0_1 l0_1.length c0_1, .slice A0_2 l0_2.length c0_2]) (t := 30) ?hr ?_; (case hd | hg => rfl); (case hr => first | (go_simp; done) | (go_simp; rfl)); intro gbaI hg w3 hbox hb; have n0_ := Zq140; have n1_ := Ak (hbox); have n2_ := Zq201; have n3_ := Zq201; clear HB; have HB := n0_; have BKaI := n1_; have GWaI := n2_; have GEaI := n3_; clear n0_ n1_ n2_ n3_ hb hbox hg; have hcz4_0 : w3.cell? ⟨gbaI, 0, none⟩ = some (.string a0_0) := (blk_cell BKaI.out 0).trans rfl; have hcz4_1 : w3.cell? ⟨gbaI, 1, none⟩ = some (.slice A0_1 l0_1.length c0_1) := (blk_cell BKaI.out 1).trans rfl; have hcz4_2 : w3.cell? ⟨gbaI, 2, none⟩ = some (.slice A0_2 l0_2.length c0_2) := (blk_cell BKaI.out 2).trans rfl; have hfz4_0 := blk_frozen BKaI.out 0; have hfz4_1 := blk_frozen BKaI.out 1; have hfz4_2 := blk_frozen BKaI.out 2))
 repeat (go_quiet (first | ((with_reducible refine gate_dst (N := 2) rfl ?_); refine box_event ?hg (N := 2) ?hd (cs := #[.string a0_0, .slice A0_1 l0_1.length c0_1, .slice A0_2 l0_2.length c0_2]) (t := 30) ?hr ?_; (case hd | hg => rfl); (case hr => first | (go_simp; done) | (go_simp; rfl)); intro gbaI hg w3 hbox hb; have n0_ := Zq140; have n1_ := Ak (hbox); have n2_ := Zq201; have n3_ := Zq201; clear HB; have HB := n0_; have BKaI := n1_; have GWaI := n2_; have GEaI := n3_; clear n0_ n1_ n2_ n3_ hb hbox hg; have hcz4_0 : w3.cell? ⟨gbaI, 0, none⟩ = some (.string a0_0) := (blk_cell BKaI.out 0).trans rfl; have hcz4_1 : w3.cell? ⟨gbaI, 1, none⟩ = some (.slice A0_1 l0_1.length c0_1) := (blk_cell BKaI.out 1).trans rfl; have hcz4_2 : w3.cell? ⟨gbaI, 2, none⟩ = some (.slice A0_2 l0_2.length c0_2) := (blk_cell BKaI.out 2).trans rfl; have hfz4_0 := blk_frozen BKaI.out 0; have hfz4_1 := blk_frozen BKaI.out 1; have hfz4_2 := blk_frozen BKaI.out 2)); try go_wp2_with (first | ((with_reducible refine gate_dst (N := 2) rfl ?_); refine box_event ?hg (N := 2) ?hd (cs := #[.string a0_0, .slice A0_1 l0_1.length c0_1, .slice A0_2 l0_2.length c0_2]) (t := 30) ?hr ?_; (case hd | hg => rfl); (case hr => first | (go_simp; done) | (go_simp; rfl)); intro gbaI hg w3 hbox hb; have n0_ := Zq140; have n1_ := Ak (hbox); have n2_ := Zq201; have n3_ := Zq201; clear HB; have HB := n0_; have BKaI := n1_; have GWaI := n2_; have GEaI := n3_; clear n0_ n1_ n2_ n3_ hb hbox hg; have hcz4_0 : w3.cell? ⟨gbaI, 0, none⟩ = some (.string a0_0) := (blk_cell BKaI.out 0).trans rfl; have hcz4_1 : w3.cell? ⟨gbaI, 1, none⟩ = some (.slice A0_1 l0_1.length c0_1) := (blk_cell BKaI.out 1).trans rfl; have hcz4_2 : w3.cell? ⟨gbaI, 2, none⟩ = some (.slice A0_2 l0_2.length c0_2) := (blk_cell BKaI.out 2).trans rfl; have hfz4_0 := blk_frozen BKaI.out 0; have hfz4_1 := blk_frozen BKaI.out 1; have hfz4_2 := blk_frozen BKaI.out 2)))
 go_loopg [5, 15] k (fun kq v5 v15 w' => ∃ (x5_1 : Int) (x15_1 : Int), v5 = .int .i64 x5_1 ∧ v15 = .int .i64 x15_1 ∧ Aside0 (arboretlaw03_size.l0 kq a1 x5_1 (l0_1.length : Int) x15_1 a0_0 l0_1 l0_2 = some r) ∧ Aside0 (kq ≤ k) ∧ Aside0 (w'.heap[gbaI]? = some (.cells #[.string a0_0, (.slice A0_1 l0_1.length c0_1), (.slice A0_2 l0_2.length c0_2)] 30 (0, 0))) ∧ Aside0 (Below w.heap.size w w'))
 case atStart => exact ⟨(wrap64 (1 + (a0_0.size : Int))), (0), Zq6, Zq6, H', ⟨Nat.le_refl _⟩, ⟨Zq76⟩, ⟨Zq60⟩⟩
 case round =>
  clear H'
  try clear c2
  try clear p2
  try clear hcz4_0
  try clear hcz4_1
  try clear hcz4_2
  try clear hfz4_0
  try clear hfz4_1
  try clear hfz4_2
  obtain ⟨x5_1, x15_1, rfl, rfl, HA, HK1, BKaI, HB⟩ := hrel
  cases gk with
  | zero => exact absurd HA.out (by simp [arboretlaw03_size.l0])
  | succ k1 =>
   have H := HA.out; clear HA; simp only [arboretlaw03_size.l0] at H
   by_cases c5 : x15_1 < (l0_1.length : Int)
   ·rw [if_pos c5] at H; have c5b0 : decide (x15_1 < (l0_1.length : Int)) = true := decide_eq_true c5; clear c5
    by_cases c6 : 0 ≤ x15_1
    ·rw [if_pos c6] at H; have c6b0 : decide (0 ≤ x15_1) = true := decide_eq_true c6; clear c6
     by_cases c7 : x15_1 < (l0_1.length : Int)
     ·rw [if_pos c7] at H; have c7b0 : decide (x15_1 < (l0_1.length : Int)) = true := decide_eq_true c7; clear c7; have H' := Ak H; clear H; have hcz8_0 : wr.cell? ⟨gbaI, 0, none⟩ = some (.string a0_0) := (blk_cell BKaI.out 0).trans rfl; have hcz8_1 : wr.cell? ⟨gbaI, 1, none⟩ = some (.slice A0_1 l0_1.length c0_1) := (blk_cell BKaI.out 1).trans rfl; have hcz8_2 : wr.cell? ⟨gbaI, 2, none⟩ = some (.slice A0_2 l0_2.length c0_2) := (blk_cell BKaI.out 2).trans rfl; have hfz8_0 := blk_frozen BKaI.out 0; have hfz8_1 := blk_frozen BKaI.out 1; have hfz8_2 := blk_frozen BKaI.out 2; have p275 : 0 ≤ (x15_1 : Int) := of_decide_eq_true Zq4; have q275 : x15_1 < (l0_1.length : Int) := of_decide_eq_true Zq4; obtain ⟨adeG, AeG_1, ceG_1, e275, hx275_0, hx275_1, hl275_1, hi275_1⟩ := at_T77 HR0_1.out x15_1 p275 q275
      cases e275
      replace hx275_0 := (HB.out.cell (World.block_lt_of_cell? w _ hx275_0)).trans hx275_0; replace hx275_1 := (HB.out.cell (World.block_lt_of_cell? w _ hx275_1)).trans hx275_1; have HReG_1 := Ak hi275_1; have HCeG_1 := Ak hl275_1; clear hi275_1 hl275_1; replace p275 := eq_true p275; replace q275 := eq_true q275; have p276 : 0 ≤ (x15_1 : Int) := of_decide_eq_true Zq4; have q276 : x15_1 < (l0_1.length : Int) := of_decide_eq_true Zq4; obtain ⟨adeH, AeH_1, ceH_1, e276, hx276_0, hx276_1, hl276_1, hi276_1⟩ := at_T77 HR0_1.out x15_1 p276 q276
      obtain rfl : adeG = adeH := (by injection e276)
      replace hx276_0 := (HB.out.cell (World.block_lt_of_cell? w _ hx276_0)).trans hx276_0; replace hx276_1 := (HB.out.cell (World.block_lt_of_cell? w _ hx276_1)).trans hx276_1; have HReH_1 := Ak hi276_1; have HCeH_1 := Ak hl276_1; clear hi276_1 hl276_1; replace p276 := eq_true p276; replace q276 := eq_true q276; have ea_ := Option.some.inj (hx275_1.symm.trans hx276_1); injection ea_ with ea_ en_ ec_; subst ea_; subst ec_; clear en_
      go_wp2
      repeat (go_quiet (fail); try go_wp2)
      go_roundg k1
      case measure => have := HK1.out; omega
      case rel => exact ⟨(wrap64 ((wrap64 ((wrap64 (x5_1 + 1)) + (((rd_T77 l0_1 x15_1).f0).size : Int))) + (((rd_T77 l0_1 x15_1).f1).length : Int))), (wrap64 (x15_1 + 1)), Zq6, Zq6, H', ⟨Zq31⟩, ⟨Zq76⟩, ⟨Zq60⟩⟩
     ·rw [if_neg c7] at H; exact absurd H Zq9
    ·rw [if_neg c6] at H; exact absurd H Zq9
   ·rw [if_neg c5] at H; have c5b0 : decide (x15_1 < (l0_1.length : Int)) = false := decide_eq_false c5; clear c5; have H' := Ak H; clear H; have hcz9_0 : wr.cell? ⟨gbaI, 0, none⟩ = some (.string a0_0) := (blk_cell BKaI.out 0).trans rfl; have hcz9_1 : wr.cell? ⟨gbaI, 1, none⟩ = some (.slice A0_1 l0_1.length c0_1) := (blk_cell BKaI.out 1).trans rfl; have hcz9_2 : wr.cell? ⟨gbaI, 2, none⟩ = some (.slice A0_2 l0_2.length c0_2) := (blk_cell BKaI.out 2).trans rfl; have hfz9_0 := blk_frozen BKaI.out 0; have hfz9_1 := blk_frozen BKaI.out 1; have hfz9_2 := blk_frozen BKaI.out 2
    go_wp2
    repeat (go_quiet (fail); try go_wp2)
    go_loopg [5, 40] k1 (fun kq v5 v40 w' => ∃ (x5_2 : Int) (x40_2 : Int), v5 = .int .i64 x5_2 ∧ v40 = .int .i64 x40_2 ∧ Aside0 (arboretlaw03_size.l1 kq a1 x5_2 (l0_2.length : Int) x40_2 a0_0 l0_1 l0_2 = some r) ∧ Aside0 (kq ≤ k1) ∧ Aside0 (w'.heap[gbaI]? = some (.cells #[.string a0_0, (.slice A0_1 l0_1.length c0_1), (.slice A0_2 l0_2.length c0_2)] 30 (0, 0))) ∧ Aside0 (Below w.heap.size w w'))
    case atStart => exact ⟨(x5_1), (0), Zq6, Zq6, H', ⟨Nat.le_refl _⟩, ⟨Zq76⟩, ⟨Zq60⟩⟩
    case round =>
     clear H'
     try clear c2
     try clear p2
     try clear q2
     try clear hx2
     try clear c5
     try clear c5b0
     try clear c6
     try clear c6b0
     try clear p6
     try clear c7
     try clear c7b0
     try clear hcz4_0
     try clear hcz4_1
     try clear hcz4_2
     try clear hcz8_0
     try clear hcz8_1
     try clear hcz8_2
     try clear hcz9_0
     try clear hcz9_1
     try clear hcz9_2
     try clear hfz4_0
     try clear hfz4_1
     try clear hfz4_2
     try clear hfz8_0
     try clear hfz8_1
     try clear hfz8_2
     try clear hfz9_0
     try clear hfz9_1
     try clear hfz9_2
     try clear hx275_0
     try clear hx275_1
     try clear hx276_0
     try clear hx276_1
     try clear p2
     try clear p275
     try clear p276
     try clear q275
     try clear q276
     obtain ⟨x5_2, x40_2, rfl, rfl, HA, HK2, BKaI, HB⟩ := hrel
     cases gk with
     | zero => exact absurd HA.out (by simp [arboretlaw03_size.l1])
     | succ k2 =>
      have H := HA.out; clear HA; simp only [arboretlaw03_size.l1] at H
      by_cases c10 : x40_2 < (l0_2.length : Int)
      ·rw [if_pos c10] at H; have c10b0 : decide (x40_2 < (l0_2.length : Int)) = true := decide_eq_true c10; clear c10
       by_cases c11 : a1 > 20
       ·rw [if_pos c11] at H; have c11b0 : decide (20 < a1) = true := decide_eq_true c11; clear c11; obtain rfl := Option.some.inj H
        go_wp2
        repeat (go_quiet (fail); try go_wp2)
        go_ret
        exact ⟨Zq11, Zq60⟩
       ·rw [if_neg c11] at H; have c11b0 : decide (20 < a1) = false := decide_eq_false c11; clear c11
        by_cases c12 : x5_2 > 100000
        ·rw [if_pos c12] at H; have c12b0 : decide (100000 < x5_2) = true := decide_eq_true c12; clear c12; obtain rfl := Option.some.inj H
         go_wp2
         repeat (go_quiet (fail); try go_wp2)
         go_ret
         exact ⟨Zq11, Zq60⟩
        ·rw [if_neg c12] at H; have c12b0 : decide (100000 < x5_2) = false := decide_eq_false c12; clear c12
         by_cases c13 : 0 ≤ x40_2
         ·rw [if_pos c13] at H; have c13b0 : decide (0 ≤ x40_2) = true := decide_eq_true c13; clear c13
          by_cases c14 : x40_2 < (l0_2.length : Int)
          ·rw [if_pos c14] at H; have c14b0 : decide (x40_2 < (l0_2.length : Int)) = true := decide_eq_true c14; clear c14; replace H := Option.bind_eq_some_iff.mp H; obtain ⟨tee, Add, H⟩ := H; replace H : (arboretlaw03_size.l1 k2 a1 (wrap64 (x5_2 + tee)) (l0_2.length : Int) (wrap64 (x40_2 + 1)) a0_0 l0_1 l0_2) = some r := H; have A15 := Ak Add; clear Add; have H' := Ak H; clear H; have hcz16_0 : wr.cell? ⟨gbaI, 0, none⟩ = some (.string a0_0) := (blk_cell BKaI.out 0).trans rfl; have hcz16_1 : wr.cell? ⟨gbaI, 1, none⟩ = some (.slice A0_1 l0_1.length c0_1) := (blk_cell BKaI.out 1).trans rfl; have hcz16_2 : wr.cell? ⟨gbaI, 2, none⟩ = some (.slice A0_2 l0_2.length c0_2) := (blk_cell BKaI.out 2).trans rfl; have hfz16_0 := blk_frozen BKaI.out 0; have hfz16_1 := blk_frozen BKaI.out 1; have hfz16_2 := blk_frozen BKaI.out 2; have p277 : 0 ≤ (x40_2 : Int) := of_decide_eq_true Zq4; have q277 : x40_2 < (l0_2.length : Int) := of_decide_eq_true Zq4; obtain ⟨adcc, Acc_1, ccc_1, Acc_2, ccc_2, e277, hx277_0, hx277_1, hx277_2, hl277_1, hi277_1, hl277_2, hi277_2⟩ := at_T30 HR0_2.out x40_2 p277 q277
           cases e277
           replace hx277_0 := (HB.out.cell (World.block_lt_of_cell? w _ hx277_0)).trans hx277_0; replace hx277_1 := (HB.out.cell (World.block_lt_of_cell? w _ hx277_1)).trans hx277_1; replace hx277_2 := (HB.out.cell (World.block_lt_of_cell? w _ hx277_2)).trans hx277_2; have HRcc_1 := Ak hi277_1; have HCcc_1 := Ak hl277_1; clear hi277_1 hl277_1; have HRcc_2 := Ak hi277_2; have HCcc_2 := Ak hl277_2; clear hi277_2 hl277_2; replace p277 := eq_true p277; replace q277 := eq_true q277
           go_wp2_with (first | (go_at_call 28; (with_reducible refine (ih k2 Zq74 ((rd_T30 l0_2 x40_2).f0) _ _ ((rd_T30 l0_2 x40_2).f1) _ _ ((rd_T30 l0_2 x40_2).f2) (wrap64 (a1 + 1)) tee _ ?side1 ?side2 ?side3 ?side4 A15.out).mono ?_); (case side1 => repeat (first | exact (Kd.C_below HRcc_1.out HB.out) | (with_reducible refine Kd.C_alloc ?_ _) | (with_reducible refine Kd.C_drewN ?_ _) | (with_reducible refine Kd.C_drew ?_))); (case side2 => exact HCcc_1.out); (case side3 => repeat (first | exact (Kd.C_below HRcc_2.out HB.out) | (with_reducible refine Kd.C_alloc ?_ _) | (with_reducible refine Kd.C_drewN ?_ _) | (with_reducible refine Kd.C_drew ?_))); (case side4 => exact HCcc_2.out); rintro e w17 ⟨rfl, hb⟩; have n0_ := Zq208; have n1_ := Ak (below_step Zq60 hb); clear BKaI HB; have BKaI := n0_; have HB := n1_; clear n0_ n1_; (try clear hb); (try clear hb2); (try clear hk); (try clear hi)))
           repeat (go_quiet (first | (go_at_call 28; (with_reducible refine (ih k2 Zq74 ((rd_T30 l0_2 x40_2).f0) _ _ ((rd_T30 l0_2 x40_2).f1) _ _ ((rd_T30 l0_2 x40_2).f2) (wrap64 (a1 + 1)) tee _ ?side1 ?side2 ?side3 ?side4 A15.out).mono ?_); (case side1 => repeat (first | exact (Kd.C_below HRcc_1.out HB.out) | (with_reducible refine Kd.C_alloc ?_ _) | (with_reducible refine Kd.C_drewN ?_ _) | (with_reducible refine Kd.C_drew ?_))); (case side2 => exact HCcc_1.out); (case side3 => repeat (first | exact (Kd.C_below HRcc_2.out HB.out) | (with_reducible refine Kd.C_alloc ?_ _) | (with_reducible refine Kd.C_drewN ?_ _) | (with_reducible refine Kd.C_drew ?_))); (case side4 => exact HCcc_2.out); rintro e w17 ⟨rfl, hb⟩; have n0_ := Zq208; have n1_ := Ak (below_step Zq60 hb); clear BKaI HB; have BKaI := n0_; have HB := n1_; clear n0_ n1_; (try clear hb); (try clear hb2); (try clear hk); (try clear hi))); try go_wp2_with (first | (go_at_call 28; (with_reducible refine (ih k2 Zq74 ((rd_T30 l0_2 x40_2).f0) _ _ ((rd_T30 l0_2 x40_2).f1) _ _ ((rd_T30 l0_2 x40_2).f2) (wrap64 (a1 + 1)) tee _ ?side1 ?side2 ?side3 ?side4 A15.out).mono ?_); (case side1 => repeat (first | exact (Kd.C_below HRcc_1.out HB.out) | (with_reducible refine Kd.C_alloc ?_ _) | (with_reducible refine Kd.C_drewN ?_ _) | (with_reducible refine Kd.C_drew ?_))); (case side2 => exact HCcc_1.out); (case side3 => repeat (first | exact (Kd.C_below HRcc_2.out HB.out) | (with_reducible refine Kd.C_alloc ?_ _) | (with_reducible refine Kd.C_drewN ?_ _) | (with_reducible refine Kd.C_drew ?_))); (case side4 => exact HCcc_2.out); rintro e w17 ⟨rfl, hb⟩; have n0_ := Zq208; have n1_ := Ak (below_step Zq60 hb); clear BKaI HB; have BKaI := n0_; have HB := n1_; clear n0_ n1_; (try clear hb); (try clear hb2); (try clear hk); (try clear hi))))
           go_roundg k2
           case measure => have := HK1.out; have := HK2.out; omega
           case rel => exact ⟨(wrap64 (x5_2 + tee)), (wrap64 (x40_2 + 1)), Zq6, Zq6, H', ⟨Zq74⟩, ⟨Zq76⟩, ⟨Zq60⟩⟩
          ·rw [if_neg c14] at H; exact absurd H Zq9
         ·rw [if_neg c13] at H; exact absurd H Zq9
      ·rw [if_neg c10] at H; have c10b0 : decide (x40_2 < (l0_2.length : Int)) = false := decide_eq_false c10; clear c10; obtain rfl := Option.some.inj H
       go_wp2
       repeat (go_quiet (fail); try go_wp2)
       go_ret
       exact ⟨Zq11, Zq60⟩
def arboretlaw03_Few.f (k : Nat) (a0_0 : Int) (l0_1 : List (S94)) (a0_2 : ByteArray) (l0_3 : List (S77)) (l0_4 : List (S30)) : Option (Bool) := (arboretlaw03_size.f k a0_2 l0_3 l0_4 0).bind fun tcu => (if tcu ≤ 100000 then (some (decide ((l0_1.length : Int) ≤ 200))) else (some false))
theorem arboretlaw03_Few.mono : ∀ a0 a1 a2 a3 a4 k, LeO (arboretlaw03_Few.f k a0 a1 a2 a3 a4) (arboretlaw03_Few.f (k + 1) a0 a1 a2 a3 a4) := by
 intro a0 a1 a2 a3 a4 k; unfold arboretlaw03_Few.f
 repeat' first | (with_reducible first | exact arboretlaw03_size.mono _ _ _ _ _ | exact LeO.refl _ | exact LeO.none _ | refine LeO.ite ?_ ?_ | refine LeO.bind ?_ (fun _ => ?_))
set_option maxHeartbeats 8000000 in
set_option maxRecDepth 100000 in
theorem arboretlaw03_Few.calls (k : Nat) (a0_0 : Int) (A0_1 : Option Addr) (c0_1 : Nat) (l0_1 : List (S94)) (a0_2 : ByteArray) (A0_3 : Option Addr) (c0_3 : Nat) (l0_3 : List (S77)) (A0_4 : Option Addr) (c0_4 : Nat) (l0_4 : List (S30)) (r : Bool) (w : World) (hr0_1 : Kd.C k94 w A0_1 l0_1.length l0_1) (hc0_1 : l0_1.length ≤ c0_1) (hr0_3 : Kd.C k77 w A0_3 l0_3.length l0_3) (hc0_3 : l0_3.length ≤ c0_3) (hr0_4 : Kd.C k30 w A0_4 l0_4.length l0_4) (hc0_4 : l0_4.length ≤ c0_4) (h : arboretlaw03_Few.f k a0_0 l0_1 a0_2 l0_3 l0_4 = some r) :
  Calls Try.prog 16 #[.agg #[.int .u32 a0_0, .slice A0_1 l0_1.length c0_1, .string a0_2, .slice A0_3 l0_3.length c0_3, .slice A0_4 l0_4.length c0_4]] w fun e w' => e = .returned (.bool r) ∧ Below w.heap.size w w' := by
 have hu35 := Try.underlying35; have hu30 := Try.underlying30; have HR0_1 := Ak hr0_1; have HC0_1 := Ak hc0_1; clear hr0_1 hc0_1; have HR0_3 := Ak hr0_3; have HC0_3 := Ak hc0_3; clear hr0_3 hc0_3; have HR0_4 := Ak hr0_4; have HC0_4 := Ak hc0_4; clear hr0_4 hc0_4; have HB := Zq145; have H : ((arboretlaw03_size.f k a0_2 l0_3 l0_4 0).bind fun tcu => (if tcu ≤ 100000 then (some (decide ((l0_1.length : Int) ≤ 200))) else (some false))) = some r := h; clear h; replace H := Option.bind_eq_some_iff.mp H; obtain ⟨tcu, A20, H⟩ := H; replace H : (if tcu ≤ 100000 then (some (decide ((l0_1.length : Int) ≤ 200))) else (some false)) = some r := H; have A2 := Ak A20; clear A20
 by_cases c3 : tcu ≤ 100000
 ·rw [if_pos c3] at H; have c3b0 : decide (tcu ≤ 100000) = true := decide_eq_true c3; clear c3; obtain rfl := Option.some.inj H
  go_enter Try.func16, Try.ntmps16
  go_wp2_with (first | ((with_reducible refine gate_dst (N := 1) rfl ?_); (try (refine gate_guard Zq3 ?_; dsimp only)); refine box_event ?hg (N := 1) ?hd (cs := #[.int .u32 a0_0, .slice A0_1 l0_1.length c0_1, .string a0_2, .slice A0_3 l0_3.length c0_3, .slice A0_4 l0_4.length c0_4]) (t := 35) ?hr ?_; (case hd | hg => rfl); (case hr => first | (go_simp; done) | (go_simp; rfl)); intro gbaX hg w4 hbox hb; have n0_ := Zq140; have n1_ := Ak (hbox); have n2_ := Zq226; have n3_ := Zq226; clear HB; have HB := n0_; have BKaX := n1_; have GWaX := n2_; have GEaX := n3_; clear n0_ n1_ n2_ n3_ hb hbox hg; have hcz5_0 : w4.cell? ⟨gbaX, 0, none⟩ = some (.int .u32 a0_0) := (blk_cell BKaX.out 0).trans rfl; have hcz5_1 : w4.cell? ⟨gbaX, 1, none⟩ = some (.slice A0_1 l0_1.length c0_1) := (blk_cell BKaX.out 1).trans rfl; have hcz5_2 : w4.cell? ⟨gbaX, 2, none⟩ = some (.string a0_2) := (blk_cell BKaX.out 2).trans rfl; have hcz5_3 : w4.cell? ⟨gbaX, 3, none⟩ = some (.slice A0_3 l0_3.length c0_3) := (blk_cell BKaX.out 3).trans rfl; have hcz5_4 : w4.cell? ⟨gbaX, 4, none⟩ = some (.slice A0_4 l0_4.length c0_4) := (blk_cell BKaX.out 4).trans rfl; have hfz5_0 := blk_frozen BKaX.out 0; have hfz5_1 := blk_frozen BKaX.out 1; have hfz5_2 := blk_frozen BKaX.out 2; have hfz5_3 := blk_frozen BKaX.out 3; have hfz5_4 := blk_frozen BKaX.out 4) | ((with_reducible refine gate_callee (f := 28) rfl ?_); refine goesL_ (some 5) rfl rfl Try.func28 Zq2 rfl #[.agg #[.string a0_2, .slice A0_3 l0_3.length c0_3, .slice A0_4 l0_4.length c0_4], .int .i64 0] rfl Zq8 ?_; (with_reducible refine (arboretlaw03_size.calls k a0_2 _ _ l0_3 _ _ l0_4 0 tcu _ ?side1 ?side2 ?side3 ?side4 A2.out).mono ?_); (case side1 => repeat (first | exact Zq181 | (with_reducible refine Kd.C_alloc ?_ _) | (with_reducible refine Kd.C_drewN ?_ _) | (with_reducible refine Kd.C_drew ?_))); (case side2 => exact HC0_3.out); (case side3 => repeat (first | exact Zq182 | (with_reducible refine Kd.C_alloc ?_ _) | (with_reducible refine Kd.C_drewN ?_ _) | (with_reducible refine Kd.C_drew ?_))); (case side4 => exact HC0_4.out); rintro e w6 ⟨rfl, hb⟩; refine ⟨_, rfl, ?_⟩; have n0_ := Ak (blk_below (g := gbaX) (o := .cells #[.int .u32 a0_0, .slice A0_1 l0_1.length c0_1, .string a0_2, .slice A0_3 l0_3.length c0_3, .slice A0_4 l0_4.length c0_4] 35 (0, 0)) (by (with_reducible repeat (first | refine blk_drewN ?_ _ | refine blk_drew ?_ | refine blk_alloc ?_ _)); exact BKaX.out) hb); have n1_ := Ak (below_step Zq117 hb); clear BKaX HB; have BKaX := n0_; have HB := n1_; clear n0_ n1_; (try clear hb); (try clear hb2); (try clear hk); (try clear hi); have hcz7_0 : w6.cell? ⟨gbaX, 0, none⟩ = some (.int .u32 a0_0) := (blk_cell BKaX.out 0).trans rfl; have hcz7_1 : w6.cell? ⟨gbaX, 1, none⟩ = some (.slice A0_1 l0_1.length c0_1) := (blk_cell BKaX.out 1).trans rfl; have hcz7_2 : w6.cell? ⟨gbaX, 2, none⟩ = some (.string a0_2) := (blk_cell BKaX.out 2).trans rfl; have hcz7_3 : w6.cell? ⟨gbaX, 3, none⟩ = some (.slice A0_3 l0_3.length c0_3) := (blk_cell BKaX.out 3).trans rfl; have hcz7_4 : w6.cell? ⟨gbaX, 4, none⟩ = some (.slice A0_4 l0_4.length c0_4) := (blk_cell BKaX.out 4).trans rfl; have hfz7_0 := blk_frozen BKaX.out 0; have hfz7_1 := blk_frozen BKaX.out 1; have hfz7_2 := blk_frozen BKaX.out 2; have hfz7_3 := blk_frozen BKaX.out 3; have hfz7_4 := blk_frozen BKaX.out 4))
  go_ret
  exact ⟨Zq11, Zq117⟩
 ·rw [if_neg c3] at H; have c3b0 : decide (tcu ≤ 100000) = false := decide_eq_false c3; clear c3; obtain rfl := Option.some.inj H
  go_enter Try.func16, Try.ntmps16
  go_wp2_with (first | ((with_reducible refine gate_dst (N := 1) rfl ?_); (try (refine gate_guard Zq3 ?_; dsimp only)); refine box_event ?hg (N := 1) ?hd (cs := #[.int .u32 a0_0, .slice A0_1 l0_1.length c0_1, .string a0_2, .slice A0_3 l0_3.length c0_3, .slice A0_4 l0_4.length c0_4]) (t := 35) ?hr ?_; (case hd | hg => rfl); (case hr => first | (go_simp; done) | (go_simp; rfl)); intro gbaX hg w8 hbox hb; have n0_ := Zq140; have n1_ := Ak (hbox); have n2_ := Zq226; have n3_ := Zq226; clear HB; have HB := n0_; have BKaX := n1_; have GWaX := n2_; have GEaX := n3_; clear n0_ n1_ n2_ n3_ hb hbox hg; have hcz9_0 : w8.cell? ⟨gbaX, 0, none⟩ = some (.int .u32 a0_0) := (blk_cell BKaX.out 0).trans rfl; have hcz9_1 : w8.cell? ⟨gbaX, 1, none⟩ = some (.slice A0_1 l0_1.length c0_1) := (blk_cell BKaX.out 1).trans rfl; have hcz9_2 : w8.cell? ⟨gbaX, 2, none⟩ = some (.string a0_2) := (blk_cell BKaX.out 2).trans rfl; have hcz9_3 : w8.cell? ⟨gbaX, 3, none⟩ = some (.slice A0_3 l0_3.length c0_3) := (blk_cell BKaX.out 3).trans rfl; have hcz9_4 : w8.cell? ⟨gbaX, 4, none⟩ = some (.slice A0_4 l0_4.length c0_4) := (blk_cell BKaX.out 4).trans rfl; have hfz9_0 := blk_frozen BKaX.out 0; have hfz9_1 := blk_frozen BKaX.out 1; have hfz9_2 := blk_frozen BKaX.out 2; have hfz9_3 := blk_frozen BKaX.out 3; have hfz9_4 := blk_frozen BKaX.out 4) | ((with_reducible refine gate_callee (f := 28) rfl ?_); refine goesL_ (some 5) rfl rfl Try.func28 Zq2 rfl #[.agg #[.string a0_2, .slice A0_3 l0_3.length c0_3, .slice A0_4 l0_4.length c0_4], .int .i64 0] rfl Zq8 ?_; (with_reducible refine (arboretlaw03_size.calls k a0_2 _ _ l0_3 _ _ l0_4 0 tcu _ ?side1 ?side2 ?side3 ?side4 A2.out).mono ?_); (case side1 => repeat (first | exact Zq181 | (with_reducible refine Kd.C_alloc ?_ _) | (with_reducible refine Kd.C_drewN ?_ _) | (with_reducible refine Kd.C_drew ?_))); (case side2 => exact HC0_3.out); (case side3 => repeat (first | exact Zq182 | (with_reducible refine Kd.C_alloc ?_ _) | (with_reducible refine Kd.C_drewN ?_ _) | (with_reducible refine Kd.C_drew ?_))); (case side4 => exact HC0_4.out); rintro e w10 ⟨rfl, hb⟩; refine ⟨_, rfl, ?_⟩; have n0_ := Ak (blk_below (g := gbaX) (o := .cells #[.int .u32 a0_0, .slice A0_1 l0_1.length c0_1, .string a0_2, .slice A0_3 l0_3.length c0_3, .slice A0_4 l0_4.length c0_4] 35 (0, 0)) (by (with_reducible repeat (first | refine blk_drewN ?_ _ | refine blk_drew ?_ | refine blk_alloc ?_ _)); exact BKaX.out) hb); have n1_ := Ak (below_step Zq117 hb); clear BKaX HB; have BKaX := n0_; have HB := n1_; clear n0_ n1_; (try clear hb); (try clear hb2); (try clear hk); (try clear hi)))
  go_ret
  exact ⟨Zq11, Zq117⟩
mutual
def arboretref01_Count.l0 : Nat → Int → Int → Int → Int → ByteArray → List (S77) → List (S30) → Option (Int × Int)
 | 0, _, _, _, _, _, _, _ => none
 | k + 1, x4, x5, x14, x15, xgo, xgp, xeI => if x15 < x14 then (if 0 ≤ x15 then (if x15 < (xeI.length : Int) then ((arboretref01_Count.f k ((rd_T30 xeI x15).f0) ((rd_T30 xeI x15).f1) ((rd_T30 xeI x15).f2)).bind fun btdV => (arboretref01_Count.l0 k (wrap64 (x4 + btdV.1)) (wrap64 (x5 + btdV.2)) x14 (wrap64 (x15 + 1)) xgo xgp xeI)) else (none)) else (none)) else (some (x4, x5))
def arboretref01_Count.f : Nat → ByteArray → List (S77) → List (S30) → Option (Int × Int)
 | 0, _, _, _ => none
 | k + 1, a0_0, l0_1, l0_2 => arboretref01_Count.l0 k 1 (l0_1.length : Int) (l0_2.length : Int) 0 a0_0 l0_1 l0_2
end
theorem arboretref01_Count.mono_l : ∀ k, (∀ y0 y1 y2, LeO (arboretref01_Count.f k y0 y1 y2) (arboretref01_Count.f (k + 1) y0 y1 y2)) ∧ (∀ y0 y1 y2 y3 y4 y5 y6, LeO (arboretref01_Count.l0 k y0 y1 y2 y3 y4 y5 y6) (arboretref01_Count.l0 (k + 1) y0 y1 y2 y3 y4 y5 y6))
 | 0 => ⟨fun _ _ _ r h => by simp [arboretref01_Count.f] at h, fun _ _ _ _ _ _ _ r h => by simp [arboretref01_Count.l0] at h⟩
 | k + 1 => by
  obtain ⟨ih0, ih1⟩ := arboretref01_Count.mono_l k; refine ⟨?_, ?_⟩
  ·intro y0 y1 y2; unfold arboretref01_Count.f
   repeat' first | (with_reducible first | exact ih0 _ _ _ | exact ih1 _ _ _ _ _ _ _ | exact LeO.refl _ | exact LeO.none _ | refine LeO.ite ?_ ?_ | refine LeO.bind ?_ (fun _ => ?_))
  ·intro y0 y1 y2 y3 y4 y5 y6; unfold arboretref01_Count.l0
   repeat' first | (with_reducible first | exact ih0 _ _ _ | exact ih1 _ _ _ _ _ _ _ | exact LeO.refl _ | exact LeO.none _ | refine LeO.ite ?_ ?_ | refine LeO.bind ?_ (fun _ => ?_))
theorem arboretref01_Count.mono : ∀ a0 a1 a2 k, LeO (arboretref01_Count.f k a0 a1 a2) (arboretref01_Count.f (k + 1) a0 a1 a2) := by
 intro a0 a1 a2 k; obtain ⟨ih0, ih1⟩ := arboretref01_Count.mono_l k
 exact ih0 a0 a1 a2
set_option maxHeartbeats 8000000 in
set_option maxRecDepth 100000 in
theorem arboretref01_Count.calls (k : Nat) : ∀ (a0_0 : ByteArray) (A0_1 : Option Addr) (c0_1 : Nat) (l0_1 : List (S77)) (A0_2 : Option Addr) (c0_2 : Nat) (l0_2 : List (S30)) (r1 : Int) (r2 : Int) (w : World) (hr0_1 : Kd.C k77 w A0_1 l0_1.length l0_1) (hc0_1 : l0_1.length ≤ c0_1) (hr0_2 : Kd.C k30 w A0_2 l0_2.length l0_2) (hc0_2 : l0_2.length ≤ c0_2) (h : arboretref01_Count.f k a0_0 l0_1 l0_2 = some (r1, r2)),
  Calls Try.prog 30 #[.agg #[.string a0_0, .slice A0_1 l0_1.length c0_1, .slice A0_2 l0_2.length c0_2]] w fun e w' => e = .returned (.tuple #[.int .i64 r1, .int .i64 r2]) ∧ Below w.heap.size w w' := by
 induction k using Nat.strongRecOn with
 | _ k ih =>
 intro a0_0 A0_1 c0_1 l0_1 A0_2 c0_2 l0_2 r1 r2 w hr0_1 hc0_1 hr0_2 hc0_2 h
 cases k with
 | zero => exact absurd h (by simp [arboretref01_Count.f])
 | succ k =>
 simp only [arboretref01_Count.f] at h; have hu30 := Try.underlying30; have HR0_1 := Ak hr0_1; have HC0_1 := Ak hc0_1; clear hr0_1 hc0_1; have HR0_2 := Ak hr0_2; have HC0_2 := Ak hc0_2; clear hr0_2 hc0_2; have HB := Zq145; have H : (arboretref01_Count.l0 k 1 (l0_1.length : Int) (l0_2.length : Int) 0 a0_0 l0_1 l0_2) = some (r1, r2) := h; clear h; have H' := Ak H; clear H
 go_enter Try.func30, Try.ntmps30
 go_wp2_with (first | ((with_reducible refine gate_dst (N := 1) rfl ?_); refine box_event ?hg (N := 1) ?hd (cs := #[.string a0_0, .slice A0_1 l0_1.length c0_1, .slice A0_2 l0_2.length c0_2]) (t := 30) ?hr ?_; (case hd | hg => rfl); (case hr => first | (go_simp; done) | (go_simp; rfl)); intro gbbb hg w2 hbox hb; have n0_ := Zq140; have n1_ := Ak (hbox); have n2_ := Zq202; have n3_ := Zq202; clear HB; have HB := n0_; have BKbb := n1_; have GWbb := n2_; have GEbb := n3_; clear n0_ n1_ n2_ n3_ hb hbox hg; have hcz3_0 : w2.cell? ⟨gbbb, 0, none⟩ = some (.string a0_0) := (blk_cell BKbb.out 0).trans rfl; have hcz3_1 : w2.cell? ⟨gbbb, 1, none⟩ = some (.slice A0_1 l0_1.length c0_1) := (blk_cell BKbb.out 1).trans rfl; have hcz3_2 : w2.cell? ⟨gbbb, 2, none⟩ = some (.slice A0_2 l0_2.length c0_2) := (blk_cell BKbb.out 2).trans rfl; have hfz3_0 := blk_frozen BKbb.out 0; have hfz3_1 := blk_frozen BKbb.out 1; have hfz3_2 := blk_frozen BKbb.out 2))
 repeat (go_quiet (first | ((with_reducible refine gate_dst (N := 1) rfl ?_); refine box_event ?hg (N := 1) ?hd (cs := #[.string a0_0, .slice A0_1 l0_1.length c0_1, .slice A0_2 l0_2.length c0_2]) (t := 30) ?hr ?_; (case hd | hg => rfl); (case hr => first | (go_simp; done) | (go_simp; rfl)); intro gbbb hg w2 hbox hb; have n0_ := Zq140; have n1_ := Ak (hbox); have n2_ := Zq202; have n3_ := Zq202; clear HB; have HB := n0_; have BKbb := n1_; have GWbb := n2_; have GEbb := n3_; clear n0_ n1_ n2_ n3_ hb hbox hg; have hcz3_0 : w2.cell? ⟨gbbb, 0, none⟩ = some (.string a0_0) := (blk_cell BKbb.out 0).trans rfl; have hcz3_1 : w2.cell? ⟨gbbb, 1, none⟩ = some (.slice A0_1 l0_1.length c0_1) := (blk_cell BKbb.out 1).trans rfl; have hcz3_2 : w2.cell? ⟨gbbb, 2, none⟩ = some (.slice A0_2 l0_2.length c0_2) := (blk_cell BKbb.out 2).trans rfl; have hfz3_0 := blk_frozen BKbb.out 0; have hfz3_1 := blk_frozen BKbb.out 1; have hfz3_2 := blk_frozen BKbb.out 2)); try go_wp2_with (first | ((with_reducible refine gate_dst (N := 1) rfl ?_); refine box_event ?hg (N := 1) ?hd (cs := #[.string a0_0, .slice A0_1 l0_1.length c0_1, .slice A0_2 l0_2.length c0_2]) (t := 30) ?hr ?_; (case hd | hg => rfl); (case hr => first | (go_simp; done) | (go_simp; rfl)); intro gbbb hg w2 hbox hb; have n0_ := Zq140; have n1_ := Ak (hbox); have n2_ := Zq202; have n3_ := Zq202; clear HB; have HB := n0_; have BKbb := n1_; have GWbb := n2_; have GEbb := n3_; clear n0_ n1_ n2_ n3_ hb hbox hg; have hcz3_0 : w2.cell? ⟨gbbb, 0, none⟩ = some (.string a0_0) := (blk_cell BKbb.out 0).trans rfl; have hcz3_1 : w2.cell? ⟨gbbb, 1, none⟩ = some (.slice A0_1 l0_1.length c0_1) := (blk_cell BKbb.out 1).trans rfl; have hcz3_2 : w2.cell? ⟨gbbb, 2, none⟩ = some (.slice A0_2 l0_2.length c0_2) := (blk_cell BKbb.out 2).trans rfl; have hfz3_0 := blk_frozen BKbb.out 0; have hfz3_1 := blk_frozen BKbb.out 1; have hfz3_2 := blk_frozen BKbb.out 2)))
 go_loopg [4, 5, 15] k (fun kq v4 v5 v15 w' => ∃ (x4_1 : Int) (x5_1 : Int) (x15_1 : Int), v4 = .int .i64 x4_1 ∧ v5 = .int .i64 x5_1 ∧ v15 = .int .i64 x15_1 ∧ Aside0 (arboretref01_Count.l0 kq x4_1 x5_1 (l0_2.length : Int) x15_1 a0_0 l0_1 l0_2 = some (r1, r2)) ∧ Aside0 (kq ≤ k) ∧ Aside0 (w'.heap[gbbb]? = some (.cells #[.string a0_0, (.slice A0_1 l0_1.length c0_1), (.slice A0_2 l0_2.length c0_2)] 30 (0, 0))) ∧ Aside0 (Below w.heap.size w w'))
 case atStart => exact ⟨(1), ((l0_1.length : Int)), (0), Zq6, Zq6, Zq6, H', ⟨Nat.le_refl _⟩, ⟨Zq95⟩, ⟨Zq86⟩⟩
 case round =>
  clear H'
  try clear p2
  try clear c3
  try clear hcz3_0
  try clear hcz3_1
  try clear hcz3_2
  try clear hfz3_0
  try clear hfz3_1
  try clear hfz3_2
  obtain ⟨x4_1, x5_1, x15_1, rfl, rfl, rfl, HA, HK1, BKbb, HB⟩ := hrel
  cases gk with
  | zero => exact absurd HA.out (by simp [arboretref01_Count.l0])
  | succ k1 =>
   have H := HA.out; clear HA; simp only [arboretref01_Count.l0] at H
   by_cases c4 : x15_1 < (l0_2.length : Int)
   ·rw [if_pos c4] at H; have c4b0 : decide (x15_1 < (l0_2.length : Int)) = true := decide_eq_true c4; clear c4
    by_cases c5 : 0 ≤ x15_1
    ·rw [if_pos c5] at H; have c5b0 : decide (0 ≤ x15_1) = true := decide_eq_true c5; clear c5
     by_cases c6 : x15_1 < (l0_2.length : Int)
     ·rw [if_pos c6] at H; have c6b0 : decide (x15_1 < (l0_2.length : Int)) = true := decide_eq_true c6; clear c6; replace H := Option.bind_eq_some_iff.mp H; obtain ⟨⟨tdV, teJ⟩, A70, H⟩ := H; replace H : (arboretref01_Count.l0 k1 (wrap64 (x4_1 + tdV)) (wrap64 (x5_1 + teJ)) (l0_2.length : Int) (wrap64 (x15_1 + 1)) a0_0 l0_1 l0_2) = some (r1, r2) := H; have A7 := Ak A70; clear A70; have H' := Ak H; clear H; have hcz8_0 : wr.cell? ⟨gbbb, 0, none⟩ = some (.string a0_0) := (blk_cell BKbb.out 0).trans rfl; have hcz8_1 : wr.cell? ⟨gbbb, 1, none⟩ = some (.slice A0_1 l0_1.length c0_1) := (blk_cell BKbb.out 1).trans rfl; have hcz8_2 : wr.cell? ⟨gbbb, 2, none⟩ = some (.slice A0_2 l0_2.length c0_2) := (blk_cell BKbb.out 2).trans rfl; have hfz8_0 := blk_frozen BKbb.out 0; have hfz8_1 := blk_frozen BKbb.out 1; have hfz8_2 := blk_frozen BKbb.out 2; have p348 : 0 ≤ (x15_1 : Int) := of_decide_eq_true Zq4; have q348 : x15_1 < (l0_2.length : Int) := of_decide_eq_true Zq4; obtain ⟨adcd, Acd_1, ccd_1, Acd_2, ccd_2, e348, hx348_0, hx348_1, hx348_2, hl348_1, hi348_1, hl348_2, hi348_2⟩ := at_T30 HR0_2.out x15_1 p348 q348
      cases e348
      replace hx348_0 := (HB.out.cell (World.block_lt_of_cell? w _ hx348_0)).trans hx348_0; replace hx348_1 := (HB.out.cell (World.block_lt_of_cell? w _ hx348_1)).trans hx348_1; replace hx348_2 := (HB.out.cell (World.block_lt_of_cell? w _ hx348_2)).trans hx348_2; have HRcd_1 := Ak hi348_1; have HCcd_1 := Ak hl348_1; clear hi348_1 hl348_1; have HRcd_2 := Ak hi348_2; have HCcd_2 := Ak hl348_2; clear hi348_2 hl348_2; replace p348 := eq_true p348; replace q348 := eq_true q348
      go_wp2_with (first | (go_at_call 30; (with_reducible refine (ih k1 Zq31 ((rd_T30 l0_2 x15_1).f0) _ _ ((rd_T30 l0_2 x15_1).f1) _ _ ((rd_T30 l0_2 x15_1).f2) tdV teJ _ ?side1 ?side2 ?side3 ?side4 A7.out).mono ?_); (case side1 => repeat (first | exact (Kd.C_below HRcd_1.out HB.out) | (with_reducible refine Kd.C_alloc ?_ _) | (with_reducible refine Kd.C_drewN ?_ _) | (with_reducible refine Kd.C_drew ?_))); (case side2 => exact HCcd_1.out); (case side3 => repeat (first | exact (Kd.C_below HRcd_2.out HB.out) | (with_reducible refine Kd.C_alloc ?_ _) | (with_reducible refine Kd.C_drewN ?_ _) | (with_reducible refine Kd.C_drew ?_))); (case side4 => exact HCcd_2.out); rintro e w9 ⟨rfl, hb⟩; have n0_ := Zq209; have n1_ := Ak (below_step Zq86 hb); clear BKbb HB; have BKbb := n0_; have HB := n1_; clear n0_ n1_; (try clear hb); (try clear hb2); (try clear hk); (try clear hi)))
      repeat (go_quiet (first | (go_at_call 30; (with_reducible refine (ih k1 Zq31 ((rd_T30 l0_2 x15_1).f0) _ _ ((rd_T30 l0_2 x15_1).f1) _ _ ((rd_T30 l0_2 x15_1).f2) tdV teJ _ ?side1 ?side2 ?side3 ?side4 A7.out).mono ?_); (case side1 => repeat (first | exact (Kd.C_below HRcd_1.out HB.out) | (with_reducible refine Kd.C_alloc ?_ _) | (with_reducible refine Kd.C_drewN ?_ _) | (with_reducible refine Kd.C_drew ?_))); (case side2 => exact HCcd_1.out); (case side3 => repeat (first | exact (Kd.C_below HRcd_2.out HB.out) | (with_reducible refine Kd.C_alloc ?_ _) | (with_reducible refine Kd.C_drewN ?_ _) | (with_reducible refine Kd.C_drew ?_))); (case side4 => exact HCcd_2.out); rintro e w9 ⟨rfl, hb⟩; have n0_ := Zq209; have n1_ := Ak (below_step Zq86 hb); clear BKbb HB; have BKbb := n0_; have HB := n1_; clear n0_ n1_; (try clear hb); (try clear hb2); (try clear hk); (try clear hi))); try go_wp2_with (first | (go_at_call 30; (with_reducible refine (ih k1 Zq31 ((rd_T30 l0_2 x15_1).f0) _ _ ((rd_T30 l0_2 x15_1).f1) _ _ ((rd_T30 l0_2 x15_1).f2) tdV teJ _ ?side1 ?side2 ?side3 ?side4 A7.out).mono ?_); (case side1 => repeat (first | exact (Kd.C_below HRcd_1.out HB.out) | (with_reducible refine Kd.C_alloc ?_ _) | (with_reducible refine Kd.C_drewN ?_ _) | (with_reducible refine Kd.C_drew ?_))); (case side2 => exact HCcd_1.out); (case side3 => repeat (first | exact (Kd.C_below HRcd_2.out HB.out) | (with_reducible refine Kd.C_alloc ?_ _) | (with_reducible refine Kd.C_drewN ?_ _) | (with_reducible refine Kd.C_drew ?_))); (case side4 => exact HCcd_2.out); rintro e w9 ⟨rfl, hb⟩; have n0_ := Zq209; have n1_ := Ak (below_step Zq86 hb); clear BKbb HB; have BKbb := n0_; have HB := n1_; clear n0_ n1_; (try clear hb); (try clear hb2); (try clear hk); (try clear hi))))
      go_roundg k1
      case measure => have := HK1.out; omega
      case rel => exact ⟨(wrap64 (x4_1 + tdV)), (wrap64 (x5_1 + teJ)), (wrap64 (x15_1 + 1)), Zq6, Zq6, Zq6, H', ⟨Zq31⟩, ⟨Zq95⟩, ⟨Zq86⟩⟩
     ·rw [if_neg c6] at H; exact absurd H Zq9
    ·rw [if_neg c5] at H; exact absurd H Zq9
   ·rw [if_neg c4] at H; have c4b0 : decide (x15_1 < (l0_2.length : Int)) = false := decide_eq_false c4; clear c4; simp only [Option.some.injEq, Prod.mk.injEq] at H; obtain ⟨rfl, rfl⟩ := H
    go_wp2
    repeat (go_quiet (fail); try go_wp2)
    go_ret2
    exact ⟨Zq11, Zq86⟩
def arboretref01_Cut.l0 : Nat → ByteArray → Int → Int → Option (Int)
 | 0, _, _, _ => none
 | k + 1, x0, x5, x6 => if x6 < x5 then (if 0 ≤ x6 then (if x6 < (x0.size : Int) then (if (bt x0 x6) = 64 then (some x6) else (arboretref01_Cut.l0 k x0 x5 (wrap64 (x6 + 1)))) else (none)) else (none)) else (some (-1))
def arboretref01_Cut.f (k : Nat) (a0 : ByteArray) : Option (Int) := arboretref01_Cut.l0 k a0 (a0.size : Int) 0
theorem arboretref01_Cut.mono_l : ∀ k, (∀ y0 y1 y2, LeO (arboretref01_Cut.l0 k y0 y1 y2) (arboretref01_Cut.l0 (k + 1) y0 y1 y2))
 | 0 => fun _ _ _ r h => by simp [arboretref01_Cut.l0] at h
 | k + 1 => by
  have ih0 := arboretref01_Cut.mono_l k
  ·intro y0 y1 y2; unfold arboretref01_Cut.l0
   repeat' first | (with_reducible first | exact ih0 _ _ _ | exact LeO.refl _ | exact LeO.none _ | refine LeO.ite ?_ ?_ | refine LeO.bind ?_ (fun _ => ?_))
theorem arboretref01_Cut.mono : ∀ a0 k, LeO (arboretref01_Cut.f k a0) (arboretref01_Cut.f (k + 1) a0) := by
 intro a0 k; have ih0 := arboretref01_Cut.mono_l k; unfold arboretref01_Cut.f
 repeat' first | (with_reducible first | exact ih0 _ _ _ | exact LeO.refl _ | exact LeO.none _ | refine LeO.ite ?_ ?_ | refine LeO.bind ?_ (fun _ => ?_))
set_option maxHeartbeats 8000000 in
set_option maxRecDepth 100000 in
theorem arboretref01_Cut.calls (k : Nat) (a0 : ByteArray) (r : Int) (w : World) (h : arboretref01_Cut.f k a0 = some r) :
  Calls Try.prog 14 #[.string a0] w fun e w' => e = .returned (.int .i64 r) ∧ Drawn0 w w' := by
 have H : (arboretref01_Cut.l0 k a0 (a0.size : Int) 0) = some r := h; clear h; have H' := Ak H; clear H
 go_enter Try.func14, Try.ntmps14
 go_wp2
 go_loopg [6] k (fun kq v6 w' => ∃ (x6_1 : Int), v6 = .int .i64 x6_1 ∧ Aside0 (arboretref01_Cut.l0 kq a0 (a0.size : Int) x6_1 = some r) ∧ Aside0 (kq ≤ k) ∧ Drawn0 w w')
 case atStart => exact ⟨(0), Zq6, H', ⟨Nat.le_refl _⟩, Zq10⟩
 case round =>
  clear H'
  try clear c1
  obtain ⟨x6_1, rfl, HA, HK1, ⟨m1, rfl⟩⟩ := hrel
  cases gk with
  | zero => exact absurd HA.out (by simp [arboretref01_Cut.l0])
  | succ k1 =>
   have H := HA.out; clear HA; simp only [arboretref01_Cut.l0] at H
   by_cases c2 : x6_1 < (a0.size : Int)
   ·rw [if_pos c2] at H; have c2b0 : decide (x6_1 < (a0.size : Int)) = true := decide_eq_true c2; clear c2
    by_cases c3 : 0 ≤ x6_1
    ·rw [if_pos c3] at H; have c3b0 : decide (0 ≤ x6_1) = true := decide_eq_true c3; clear c3
     by_cases c4 : x6_1 < (a0.size : Int)
     ·rw [if_pos c4] at H; have c4b0 : decide (x6_1 < (a0.size : Int)) = true := decide_eq_true c4; clear c4
      by_cases c6 : (bt a0 x6_1) = 64
      ·rw [if_pos c6] at H; have c6b0 : ((bt a0 x6_1) == 64) = true := beq_iff_eq.mpr c6; have c6b1 : ((bt a0 x6_1) != 64) = false := bne_eq_false_iff_eq.mpr c6; clear c6; obtain rfl := Option.some.inj H; have p5 : 0 ≤ (x6_1 : Int) := of_decide_eq_true Zq4; have q5 : x6_1 < (a0.size : Int) := of_decide_eq_true Zq4; have hx5 := bt_at a0 x6_1; replace p5 := eq_true p5; replace q5 := eq_true q5
       go_wp2
       go_ret
       exact ⟨Zq6, Zq10⟩
      ·rw [if_neg c6] at H; have c6b0 : ((bt a0 x6_1) == 64) = false := beq_eq_false_iff_ne.mpr c6; have c6b1 : ((bt a0 x6_1) != 64) = true := bne_iff_ne.mpr c6; have H' := Ak H; clear H; have p5 : 0 ≤ (x6_1 : Int) := of_decide_eq_true Zq4; have q5 : x6_1 < (a0.size : Int) := of_decide_eq_true Zq4; have hx5 := bt_at a0 x6_1; replace p5 := eq_true p5; replace q5 := eq_true q5
       go_wp2
       go_roundg k1
       case measure => have := HK1.out; omega
       case rel => exact ⟨(wrap64 (x6_1 + 1)), Zq6, H', ⟨Zq31⟩, Zq10⟩
     ·rw [if_neg c4] at H; exact absurd H Zq9
    ·rw [if_neg c3] at H; exact absurd H Zq9
   ·rw [if_neg c2] at H; have c2b0 : decide (x6_1 < (a0.size : Int)) = false := decide_eq_false c2; clear c2; obtain rfl := Option.some.inj H
    go_wp2
    go_ret
    exact ⟨Zq6, Zq10⟩
def arboretref01_stands.f (a0 : Int) : Option (Bool) := if a0 ≥ 48 then (if a0 ≤ 57 then (some true) else (if a0 ≥ 97 then (if a0 ≤ 122 then (some true) else (if a0 ≥ 65 then (if a0 ≤ 90 then (some true) else (if a0 = 44 then (some true) else (if a0 = 46 then (some true) else (if a0 = 95 then (some true) else (if a0 = 43 then (some true) else (some (a0 == 45))))))) else (if a0 = 44 then (some true) else (if a0 = 46 then (some true) else (if a0 = 95 then (some true) else (if a0 = 43 then (some true) else (some (a0 == 45)))))))) else (if a0 ≥ 65 then (if a0 ≤ 90 then (some true) else (if a0 = 44 then (some true) else (if a0 = 46 then (some true) else (if a0 = 95 then (some true) else (if a0 = 43 then (some true) else (some (a0 == 45))))))) else (if a0 = 44 then (some true) else (if a0 = 46 then (some true) else (if a0 = 95 then (some true) else (if a0 = 43 then (some true) else (some (a0 == 45))))))))) else (if a0 ≥ 97 then (if a0 ≤ 122 then (some true) else (if a0 ≥ 65 then (if a0 ≤ 90 then (some true) else (if a0 = 44 then (some true) else (if a0 = 46 then (some true) else (if a0 = 95 then (some true) else (if a0 = 43 then (some true) else (some (a0 == 45))))))) else (if a0 = 44 then (some true) else (if a0 = 46 then (some true) else (if a0 = 95 then (some true) else (if a0 = 43 then (some true) else (some (a0 == 45)))))))) else (if a0 ≥ 65 then (if a0 ≤ 90 then (some true) else (if a0 = 44 then (some true) else (if a0 = 46 then (some true) else (if a0 = 95 then (some true) else (if a0 = 43 then (some true) else (some (a0 == 45))))))) else (if a0 = 44 then (some true) else (if a0 = 46 then (some true) else (if a0 = 95 then (some true) else (if a0 = 43 then (some true) else (some (a0 == 45))))))))
end Go.Proofs.Yteejaaeglfpcmab.PX
