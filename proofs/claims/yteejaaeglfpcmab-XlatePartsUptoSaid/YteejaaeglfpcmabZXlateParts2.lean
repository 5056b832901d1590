/- XlateParts: texts of this session's, and what the kit's print laid for this seat, as far as the law's row uses them (PXx0, PXx0, PXx0, PXx0, PXx0). -/
import Derived.Test.YteejaaeglfpcmabZXlateParts1
set_option linter.unusedVariables false
set_option linter.unusedSimpArgs false
namespace Go.Proofs.Yteejaaeglfpcmab.PX
open Go.RowKit Go.Proofs.YteejaaeglfpcmabW.PrintWords Go.Proofs.YteejaaeglfpcmabW.PrintLast Go.Proofs.YteejaaeglfpcmabW.PrintMore
attribute [local go_sem] max2_int min2_int max_two min_two max_three min_three max_four min_four
set_option maxHeartbeats 8000000 in
set_option maxRecDepth 100000 in
theorem xlate_Ranges.calls (k : Nat) (a0_0 : ByteArray) (A0_1 : Option Addr) (c0_1 : Nat) (l0_1 : List (S77)) (A0_2 : Option Addr) (c0_2 : Nat) (l0_2 : List (S30)) (a1_0 : ByteArray) (A1_1 : Option Addr) (c1_1 : Nat) (l1_1 : List (S77)) (A1_2 : Option Addr) (c1_2 : Nat) (l1_2 : List (S30)) (r1 : List (S46)) (r2 : Bool) (r3 : Int) (w : World) (hr0_1 : Kd.C k77 w A0_1 l0_1.length l0_1) (hc0_1 : l0_1.length ≤ c0_1) (hr0_2 : Kd.C k30 w A0_2 l0_2.length l0_2) (hc0_2 : l0_2.length ≤ c0_2) (hr1_1 : Kd.C k77 w A1_1 l1_1.length l1_1) (hc1_1 : l1_1.length ≤ c1_1) (hr1_2 : Kd.C k30 w A1_2 l1_2.length l1_2) (hc1_2 : l1_2.length ≤ c1_2) (h : xlate_Ranges.f k a0_0 l0_1 l0_2 a1_0 l1_1 l1_2 = some (r1, r2, r3)) :
  Calls Try.prog 17 #[.agg #[.string a0_0, .slice A0_1 l0_1.length c0_1, .slice A0_2 l0_2.length c0_2], .agg #[.string a1_0, .slice A1_1 l1_1.length c1_1, .slice A1_2 l1_2.length c1_2]] w fun e w' => ∃ v0_ : Value, e = .returned (.tuple #[v0_, .bool r2, .int .i64 r3]) ∧ Kd.R k46 46 w' w.heap.size (fun _ => True) v0_ r1 ∧ Below w.heap.size w w' := by
 have hu30 := Try.underlying30; have hu46 := Try.underlying46; have HR0_1 := Ak hr0_1; have HC0_1 := Ak hc0_1; clear hr0_1 hc0_1; have HR0_2 := Ak hr0_2; have HC0_2 := Ak hc0_2; clear hr0_2 hc0_2; have HR1_1 := Ak hr1_1; have HC1_1 := Ak hc1_1; clear hr1_1 hc1_1; have HR1_2 := Ak hr1_2; have HC1_2 := Ak hc1_2; clear hr1_2 hc1_2; have HB := Zq129; have H : ((tree_Find.f k a1_0 l1_1 l1_2 (⟨#[114, 97, 110, 103, 101, 115]⟩ : ByteArray)).bind fun btbh => (if btbh.2 = true then ((region_Counts.f k a1_0 l1_1 l1_2).bind fun btag => (if btag.2.2 = 0 then ((region_Counts.f k a0_0 l0_1 l0_2).bind fun btao => (if btao.2.2 = 0 then (if btag.1 = 0 then (xlate_Ranges.j0 k btbh.1 btag.1 btag.2.1 btao.1 true) else (if btao.1 = 0 then (xlate_Ranges.j0 k btbh.1 btag.1 btag.2.1 btao.1 true) else (if (wrap64 (4 * (wrap64 ((wrap64 (btag.1 + btao.1)) + btag.2.1)))) = 0 then (none) else (xlate_Ranges.j0 k btbh.1 btag.1 btag.2.1 btao.1 (((btbh.1.length : Int) % (wrap64 (4 * (wrap64 ((wrap64 (btag.1 + btao.1)) + btag.2.1))))) != 0))))) else (some (([] : List (S46)), false, btao.2.2)))) else (some (([] : List (S46)), false, btag.2.2)))) else (some (([] : List (S46)), false, 0)))) = some (r1, r2, r3) := h; clear h; replace H := Option.bind_eq_some_iff.mp H; obtain ⟨⟨tbh, tfB⟩, A30, H⟩ := H; replace H : (if tfB = true then ((region_Counts.f k a1_0 l1_1 l1_2).bind fun btag => (if btag.2.2 = 0 then ((region_Counts.f k a0_0 l0_1 l0_2).bind fun btao => (if btao.2.2 = 0 then (if btag.1 = 0 then (xlate_Ranges.j0 k tbh btag.1 btag.2.1 btao.1 true) else (if btao.1 = 0 then (xlate_Ranges.j0 k tbh btag.1 btag.2.1 btao.1 true) else (if (wrap64 (4 * (wrap64 ((wrap64 (btag.1 + btao.1)) + btag.2.1)))) = 0 then (none) else (xlate_Ranges.j0 k tbh btag.1 btag.2.1 btao.1 (((tbh.length : Int) % (wrap64 (4 * (wrap64 ((wrap64 (btag.1 + btao.1)) + btag.2.1))))) != 0))))) else (some (([] : List (S46)), false, btao.2.2)))) else (some (([] : List (S46)), false, btag.2.2)))) else (some (([] : List (S46)), false, 0))) = some (r1, r2, r3) := H; have A3 := Ak A30; clear A30
 by_cases c4 : tfB = true
 ·subst c4
  have H1 : ((region_Counts.f k a1_0 l1_1 l1_2).bind fun btag => (if btag.2.2 = 0 then ((region_Counts.f k a0_0 l0_1 l0_2).bind fun btao => (if btao.2.2 = 0 then (if btag.1 = 0 then (xlate_Ranges.j0 k tbh btag.1 btag.2.1 btao.1 true) else (if btao.1 = 0 then (xlate_Ranges.j0 k tbh btag.1 btag.2.1 btao.1 true) else (if (wrap64 (4 * (wrap64 ((wrap64 (btag.1 + btao.1)) + btag.2.1)))) = 0 then (none) else (xlate_Ranges.j0 k tbh btag.1 btag.2.1 btao.1 (((tbh.length : Int) % (wrap64 (4 * (wrap64 ((wrap64 (btag.1 + btao.1)) + btag.2.1))))) != 0))))) else (some (([] : List (S46)), false, btao.2.2)))) else (some (([] : List (S46)), false, btag.2.2)))) = some (r1, r2, r3) := by rw [if_pos rfl] at H; exact H
  clear H; have H := H1; clear H1; replace H := Option.bind_eq_some_iff.mp H; obtain ⟨⟨tag, taK, tcU⟩, A50, H⟩ := H; replace H : (if tcU = 0 then ((region_Counts.f k a0_0 l0_1 l0_2).bind fun btao => (if btao.2.2 = 0 then (if tag = 0 then (xlate_Ranges.j0 k tbh tag taK btao.1 true) else (if btao.1 = 0 then (xlate_Ranges.j0 k tbh tag taK btao.1 true) else (if (wrap64 (4 * (wrap64 ((wrap64 (tag + btao.1)) + taK)))) = 0 then (none) else (xlate_Ranges.j0 k tbh tag taK btao.1 (((tbh.length : Int) % (wrap64 (4 * (wrap64 ((wrap64 (tag + btao.1)) + taK))))) != 0))))) else (some (([] : List (S46)), false, btao.2.2)))) else (some (([] : List (S46)), false, tcU))) = some (r1, r2, r3) := H; have A5 := Ak A50; clear A50
  by_cases c6 : tcU = 0
  ·rw [if_pos c6] at H; have c6b0 : (tcU == 0) = true := beq_iff_eq.mpr c6; have c6b1 : (tcU != 0) = false := bne_eq_false_iff_eq.mpr c6; clear c6; replace H := Option.bind_eq_some_iff.mp H; obtain ⟨⟨tao, tfC, tdl⟩, A70, H⟩ := H; replace H : (if tdl = 0 then (if tag = 0 then (xlate_Ranges.j0 k tbh tag taK tao true) else (if tao = 0 then (xlate_Ranges.j0 k tbh tag taK tao true) else (if (wrap64 (4 * (wrap64 ((wrap64 (tag + tao)) + taK)))) = 0 then (none) else (xlate_Ranges.j0 k tbh tag taK tao (((tbh.length : Int) % (wrap64 (4 * (wrap64 ((wrap64 (tag + tao)) + taK))))) != 0))))) else (some (([] : List (S46)), false, tdl))) = some (r1, r2, r3) := H; have A7 := Ak A70; clear A70
   by_cases c8 : tdl = 0
   ·rw [if_pos c8] at H; have c8b0 : (tdl == 0) = true := beq_iff_eq.mpr c8; have c8b1 : (tdl != 0) = false := bne_eq_false_iff_eq.mpr c8; clear c8; have HC9 := Ak H; clear H
    go_enter Try.func17, Try.ntmps17
    go_upto_region 10 with (first | ((with_reducible refine gate_dst (N := 2) rfl ?_); (try (refine gate_guard Zq3 ?_; dsimp only)); refine box_event ?hg (N := 2) ?hd (cs := #[.string a0_0, .slice A0_1 l0_1.length c0_1, .slice A0_2 l0_2.length c0_2]) (t := 30) ?hr ?_; (case hd | hg => rfl); (case hr => first | (go_simp; done) | (go_simp; rfl)); intro gbaG hg w10 hbox hb; have n0_ := Zq122; have n1_ := Ak (hbox); have n2_ := Zq154; have n3_ := Zq154; clear HB; have HB := n0_; have BKaG := n1_; have GWaG := n2_; have GEaG := n3_; clear n0_ n1_ n2_ n3_ hb hbox hg) | ((with_reducible refine gate_dst (N := 3) rfl ?_); (try (refine gate_guard Zq3 ?_; dsimp only)); refine box_event ?hg (N := 3) ?hd (cs := #[.string a1_0, .slice A1_1 l1_1.length c1_1, .slice A1_2 l1_2.length c1_2]) (t := 30) ?hr ?_; (case hd | hg => rfl); (case hr => first | (go_simp; done) | (go_simp; rfl)); intro gbap hg w11 hbox hb; have n0_ := Zq120; have n1_ := Ak (below_step Zq47 hb); have n2_ := Ak (hbox); have n3_ := Zq150; have n4_ := Zq150; have n5_ := Zq232; have n6_ := Zq233; clear BKaG HB; have BKaG := n0_; have HB := n1_; have BKap := n2_; have GWap := n3_; have GEap := n4_; have NB193_194 := n5_; have NB194_193 := n6_; clear n0_ n1_ n2_ n3_ n4_ n5_ n6_ hb hbox hg; have hnb12 := NB194_193.out; have hnc12 := NB193_194.out; have hcz13_0 : w11.cell? ⟨gbap, 0, none⟩ = some (.string a1_0) := (blk_cell BKap.out 0).trans rfl; have hcz13_1 : w11.cell? ⟨gbap, 1, none⟩ = some (.slice A1_1 l1_1.length c1_1) := (blk_cell BKap.out 1).trans rfl; have hcz13_2 : w11.cell? ⟨gbap, 2, none⟩ = some (.slice A1_2 l1_2.length c1_2) := (blk_cell BKap.out 2).trans rfl; have hfz13_0 := blk_frozen BKap.out 0; have hfz13_1 := blk_frozen BKap.out 1; have hfz13_2 := blk_frozen BKap.out 2) | ((with_reducible refine gate_callee (f := 31) rfl ?_); refine goesL_ (some 25) rfl rfl Try.func31 Zq2 rfl #[.agg #[.string a1_0, .slice A1_1 l1_1.length c1_1, .slice A1_2 l1_2.length c1_2], .string (⟨#[114, 97, 110, 103, 101, 115]⟩ : ByteArray)] rfl Zq9 ?_; (with_reducible refine (tree_Find.calls k a1_0 _ _ l1_1 _ _ l1_2 (⟨#[114, 97, 110, 103, 101, 115]⟩ : ByteArray) tbh true _ ?side1 ?side2 ?side3 ?side4 A3.out).mono ?_); (case side1 => repeat (first | exact Zq176 | (with_reducible refine Kd.C_alloc ?_ _) | (with_reducible refine Kd.C_drewN ?_ _) | (with_reducible refine Kd.C_drew ?_))); (case side2 => exact HC1_1.out); (case side3 => repeat (first | exact Zq177 | (with_reducible refine Kd.C_alloc ?_ _) | (with_reducible refine Kd.C_drewN ?_ _) | (with_reducible refine Kd.C_drew ?_))); (case side4 => exact HC1_2.out); rintro e w14 ⟨v196, rfl, ho0, hb⟩; refine ⟨_, rfl, ?_⟩; have n0_ := Zq208; have n1_ := Zq120; have n2_ := Zq124; have n3_ := Zq178; clear BKaG BKap HB; have HOco := n0_; have BKaG := n1_; have BKap := n2_; have HB := n3_; clear n0_ n1_ n2_ n3_; (try clear hb); (try clear hb2); (try clear hk); (try clear hi); (try clear ho0); have hcz15_0 : w14.cell? ⟨gbap, 0, none⟩ = some (.string a1_0) := (blk_cell BKap.out 0).trans rfl; have hcz15_1 : w14.cell? ⟨gbap, 1, none⟩ = some (.slice A1_1 l1_1.length c1_1) := (blk_cell BKap.out 1).trans rfl; have hcz15_2 : w14.cell? ⟨gbap, 2, none⟩ = some (.slice A1_2 l1_2.length c1_2) := (blk_cell BKap.out 2).trans rfl; have hfz15_0 := blk_frozen BKap.out 0; have hfz15_1 := blk_frozen BKap.out 1; have hfz15_2 := blk_frozen BKap.out 2) | ((with_reducible refine gate_callee (f := 42) rfl ?_); refine goesL_ (some 32) rfl rfl Try.func42 Zq2 rfl #[.agg #[.string a1_0, .slice A1_1 l1_1.length c1_1, .slice A1_2 l1_2.length c1_2]] rfl Zq9 ?_; (with_reducible refine (region_Counts.calls k a1_0 _ _ l1_1 _ _ l1_2 tag taK tcU _ ?side1 ?side2 ?side3 ?side4 A5.out).mono ?_); (case side1 => repeat (first | exact Zq176 | (with_reducible refine Kd.C_alloc ?_ _) | (with_reducible refine Kd.C_drewN ?_ _) | (with_reducible refine Kd.C_drew ?_))); (case side2 => exact HC1_1.out); (case side3 => repeat (first | exact Zq177 | (with_reducible refine Kd.C_alloc ?_ _) | (with_reducible refine Kd.C_drewN ?_ _) | (with_reducible refine Kd.C_drew ?_))); (case side4 => exact HC1_2.out); rintro e w16 ⟨rfl, hb⟩; refine ⟨_, rfl, ?_⟩; have n0_ := Ak (Kd.R_below Zq64 hb); have n1_ := Zq120; have n2_ := Zq124; have n3_ := Zq178; clear HOco BKaG BKap HB; have HOco := n0_; have BKaG := n1_; have BKap := n2_; have HB := n3_; clear n0_ n1_ n2_ n3_; (try clear hb); (try clear hb2); (try clear hk); (try clear hi); have hcz17_0 : w16.cell? ⟨gbaG, 0, none⟩ = some (.string a0_0) := (blk_cell BKaG.out 0).trans rfl; have hcz17_1 : w16.cell? ⟨gbaG, 1, none⟩ = some (.slice A0_1 l0_1.length c0_1) := (blk_cell BKaG.out 1).trans rfl; have hcz17_2 : w16.cell? ⟨gbaG, 2, none⟩ = some (.slice A0_2 l0_2.length c0_2) := (blk_cell BKaG.out 2).trans rfl; have hfz17_0 := blk_frozen BKaG.out 0; have hfz17_1 := blk_frozen BKaG.out 1; have hfz17_2 := blk_frozen BKaG.out 2) | ((with_reducible refine gate_callee (f := 42) rfl ?_); refine goesL_ (some 41) rfl rfl Try.func42 Zq2 rfl #[.agg #[.string a0_0, .slice A0_1 l0_1.length c0_1, .slice A0_2 l0_2.length c0_2]] rfl Zq9 ?_; (with_reducible refine (region_Counts.calls k a0_0 _ _ l0_1 _ _ l0_2 tao tfC tdl _ ?side1 ?side2 ?side3 ?side4 A7.out).mono ?_); (case side1 => repeat (first | exact Zq126 | (with_reducible refine Kd.C_alloc ?_ _) | (with_reducible refine Kd.C_drewN ?_ _) | (with_reducible refine Kd.C_drew ?_))); (case side2 => exact HC0_1.out); (case side3 => repeat (first | exact Zq142 | (with_reducible refine Kd.C_alloc ?_ _) | (with_reducible refine Kd.C_drewN ?_ _) | (with_reducible refine Kd.C_drew ?_))); (case side4 => exact HC0_2.out); rintro e w18 ⟨rfl, hb⟩; refine ⟨_, rfl, ?_⟩; have n0_ := Ak (Kd.R_below Zq64 hb); have n1_ := Zq120; have n2_ := Zq124; have n3_ := Zq178; clear HOco BKaG BKap HB; have HOco := n0_; have BKaG := n1_; have BKap := n2_; have HB := n3_; clear n0_ n1_ n2_ n3_; (try clear hb); (try clear hb2); (try clear hk); (try clear hi)))
    (try simp only [Act.put, List.setIfInBounds_toArray, List.set_cons_zero, List.set_cons_succ])
    go_cut [49] (fun v49 wc => ∃ (kq : Nat) (x49_8 : Bool), v49 = .bool x49_8 ∧ Aside0 (xlate_Ranges.j0 kq tbh tag taK tao x49_8 = some (r1, r2, r3)) ∧ Aside0 (kq ≤ k) ∧ Aside0 (Kd.R (Kd.int .u8) 5 wc w.heap.size (fun _ => True) v196 tbh) ∧ Aside0 (wc.heap[gbaG]? = some (.cells #[.string a0_0, (.slice A0_1 l0_1.length c0_1), (.slice A0_2 l0_2.length c0_2)] 30 (0, 0))) ∧ Aside0 (wc.heap[gbap]? = some (.cells #[.string a1_0, (.slice A1_1 l1_1.length c1_1), (.slice A1_2 l1_2.length c1_2)] 30 (0, 0))) ∧ Aside0 (Below w.heap.size w wc))
    case first =>
     have H := HC9.out; clear HC9
     by_cases c19 : tag = 0
     ·rw [if_pos c19] at H; have c19b0 : (tag == 0) = true := beq_iff_eq.mpr c19; have c19b1 : (tag != 0) = false := bne_eq_false_iff_eq.mpr c19; clear c19
      (first | rw [c19b0] | (simp only [i64_w, i32_w]; rw [c19b0]) | skip)
      have H' := Ak H; clear H
      go_wp2
      go_meet
      case rel => exact ⟨_, (true), Zq6, H', ⟨Zq13⟩, ⟨Zq64⟩, ⟨Zq16⟩, ⟨Zq33⟩, ⟨Zq14⟩⟩
     ·rw [if_neg c19] at H; have c19b0 : (tag == 0) = false := beq_eq_false_iff_ne.mpr c19; have c19b1 : (tag != 0) = true := bne_iff_ne.mpr c19
      (first | rw [c19b0] | (simp only [i64_w, i32_w]; rw [c19b0]) | skip)
      by_cases c20 : tao = 0
      ·rw [if_pos c20] at H; have c20b0 : (tao == 0) = true := beq_iff_eq.mpr c20; have c20b1 : (tao != 0) = false := bne_eq_false_iff_eq.mpr c20; clear c20; have H' := Ak H; clear H
       go_wp2
       go_meet
       case rel => exact ⟨_, (true), Zq6, H', ⟨Zq13⟩, ⟨Zq64⟩, ⟨Zq16⟩, ⟨Zq33⟩, ⟨Zq14⟩⟩
      ·rw [if_neg c20] at H; have c20b0 : (tao == 0) = false := beq_eq_false_iff_ne.mpr c20; have c20b1 : (tao != 0) = true := bne_iff_ne.mpr c20
       by_cases c21 : (wrap64 (4 * (wrap64 ((wrap64 (tag + tao)) + taK)))) = 0
       ·rw [if_pos c21] at H; exact absurd H Zq8
       ·rw [if_neg c21] at H; have c21b0 : ((wrap64 (4 * (wrap64 ((wrap64 (tag + tao)) + taK)))) == 0) = false := beq_eq_false_iff_ne.mpr c21; have c21b1 : ((wrap64 (4 * (wrap64 ((wrap64 (tag + tao)) + taK)))) != 0) = true := bne_iff_ne.mpr c21; have H' := Ak H; clear H; obtain ⟨Ao22, co22, eo22⟩ := Kd.R_slice HOco.out; subst eo22
        go_wp2
        go_meet
        case rel => exact ⟨_, ((((tbh.length : Int) % (wrap64 (4 * (wrap64 ((wrap64 (tag + tao)) + taK))))) != 0)), Zq6, H', ⟨Zq13⟩, ⟨Zq64⟩, ⟨Zq16⟩, ⟨Zq33⟩, ⟨Zq14⟩⟩
    case rest =>
     clear HC9
     try clear c1
     try clear c2
     try clear p2
     try clear c3
     try clear c4
     try clear c6
     try clear c6b0
     try clear c6b1
     try clear p6
     try clear c8
     try clear c8b0
     try clear c8b1
     try clear c12
     try clear c17
     try clear c19
     try clear c19b0
     try clear c19b1
     try clear c20
     try clear c20b0
     try clear c20b1
     try clear c21
     try clear c21b0
     try clear c21b1
     try clear hcz13_0
     try clear hcz13_1
     try clear hcz13_2
     try clear hcz15_0
     try clear hcz15_1
     try clear hcz15_2
     try clear hcz17_0
     try clear hcz17_1
     try clear hcz17_2
     try clear hfz13_0
     try clear hfz13_1
     try clear hfz13_2
     try clear hfz15_0
     try clear hfz15_1
     try clear hfz15_2
     try clear hfz17_0
     try clear hfz17_1
     try clear hfz17_2
     obtain ⟨kq, x49_8, rfl, HA, HJ8, HO_7, BKaG, BKap, HB⟩ := hcut
     cases kq with
     | zero => exact absurd HA.out (by simp [xlate_Ranges.j0])
     | succ kj8 =>
      have H := HA.out; clear HA; simp only [xlate_Ranges.j0] at H
      by_cases c23 : x49_8 = true
      ·subst c23
       have H1 : (some (([] : List (S46)), false, 10)) = some (r1, r2, r3) := by rw [if_pos rfl] at H; exact H
       clear H; have H := H1; clear H1; simp only [Option.some.injEq, Prod.mk.injEq] at H; obtain ⟨rfl, rfl, rfl⟩ := H
       go_wp2
       go_ret3
       exact ⟨_, Zq10, Zq32, Zq14⟩
      ·replace c23 := Bool.eq_false_iff.mpr c23; subst c23
       have H1 : (if (tbh.length : Int) = 0 then (some ((([(⟨0, 0, 18446744073709551615⟩ : S46)] : List (S46))), true, 0)) else ((prop_Cells.f kj8 tbh).bind fun btdQ => (xlate_Ranges.l0 kj8 tag taK tao btdQ.1 ([] : List (S46))))) = some (r1, r2, r3) := by rw [if_neg (show ¬ (false = true) by decide)] at H; exact H
       clear H; have H := H1; clear H1
       by_cases c24 : (tbh.length : Int) = 0
       ·rw [if_pos c24] at H; have c24b0 : ((tbh.length : Int) == 0) = true := beq_iff_eq.mpr c24; have c24b1 : ((tbh.length : Int) != 0) = false := bne_eq_false_iff_eq.mpr c24; clear c24
        obtain ⟨ycV, hycV⟩ : ∃ y_ : List (S46), y_ = (([(⟨0, 0, 18446744073709551615⟩ : S46)] : List (S46))) := ⟨_, rfl⟩
        replace H : (some (ycV, true, 0)) = some (r1, r2, r3) := by first | (rw [hycV]; with_reducible exact H) | (have H2_ := (Option.bind_some _ _).symm.trans H; rw [hycV]; with_reducible exact H2_) | (have H2_ := (Option.bind_some _ _).symm.trans H; with_reducible exact H2_) | with_reducible exact H | (rw [hycV]; exact H) | exact H
        have NycV := Ak hycV; clear hycV; simp only [Option.some.injEq, Prod.mk.injEq] at H; obtain ⟨rfl, rfl, rfl⟩ := H; obtain ⟨Ao25, co25, eo25⟩ := Kd.R_slice HO_7.out; subst eo25
        go_wp2_with (first | ((with_reducible refine gate_dst (N := 73) rfl ?_); (try (refine gate_guard Zq3 ?_; dsimp only)); refine Kd.R_lit k46 _ 46 ?hg (N := 73) ?hd (xs := ([(⟨0, 0, 18446744073709551615⟩ : S46)] : List (S46))) (inner := [.int .u64 0, .int .u64 0, .int .u64 18446744073709551615]) (ok := fun _ => True) (okp := fun _ => True) ?hr ?hp (fun _ hk => hk) trivial (Below.refl _ _) (Nat.le_refl _) Zq8 ?_; (case hd | hg => rfl); (case hr => first | (go_simp; done) | (go_simp; rfl)); (case hp => exact (Reps.c3 (show Kd.M k46 _ _ _ (⟨0, 0, 18446744073709551615⟩ : S46) [.int .u64 0, .int .u64 0, .int .u64 18446744073709551615] from (k46_mkM _ _ _ (⟨0, 0, 18446744073709551615⟩ : S46) )) (Reps.none _ _))); intro v206 w26 ho27 hb hg_ hnew_; clear hg_ hnew_; (first | rw [← NycV.out] at ho27 | (simp only [Int.reduceToNat] at ho27; rw [← NycV.out] at ho27)); have n0_ := Zq225; have n1_ := Ak (Kd.R_lower ho27 (below_size Zq14)); have n2_ := Zq120; have n3_ := Zq124; have n4_ := Zq178; clear HO_7 BKaG BKap HB; have HO_7 := n0_; have HOfV := n1_; have BKaG := n2_; have BKap := n3_; have HB := n4_; clear n0_ n1_ n2_ n3_ n4_ hb ho27))
        go_ret3
        exact ⟨_, Zq10, by (with_reducible repeat (first | apply Kd.R_alloc | apply Kd.R_drewN | apply Kd.R_drew)); exact HOfV.out, Zq14⟩
       ·rw [if_neg c24] at H; have c24b0 : ((tbh.length : Int) == 0) = false := beq_eq_false_iff_ne.mpr c24; have c24b1 : ((tbh.length : Int) != 0) = true := bne_iff_ne.mpr c24
        have c24b2 : ¬ (tbh = []) := fun h_ => c24 (by rw [h_]; rfl)
        replace H := Option.bind_eq_some_iff.mp H; obtain ⟨⟨tdQ, tfW⟩, AcF, H⟩ := H; replace H : (xlate_Ranges.l0 kj8 tag taK tao tdQ ([] : List (S46))) = some (r1, r2, r3) := H; have A28 := Ak AcF; clear AcF; have H' := Ak H; clear H; obtain ⟨Ao29, co29, eo29⟩ := Kd.R_slice HO_7.out; subst eo29
        go_wp2_with (first | ((with_reducible refine gate_callee (f := 43) rfl ?_); refine goesL_ (some 76) rfl rfl Try.func43 Zq2 rfl #[.slice Ao29 tbh.length co29] rfl Zq9 ?_; (with_reducible refine (prop_Cells.calls kj8 _ _ tbh tdQ tfW _ ?side1 ?side2 A28.out).mono ?_); (case side1 => repeat (first | exact (Kd.R_reads' HO_7.out).2.2 | (with_reducible refine Kd.C_alloc ?_ _) | (with_reducible refine Kd.C_drewN ?_ _) | (with_reducible refine Kd.C_drew ?_))); (case side2 => exact (Kd.R_reads' HO_7.out).2.1); rintro e w30 ⟨v210, rfl, ho0, hb⟩; refine ⟨_, rfl, ?_⟩; have n0_ := Zq225; have n1_ := Zq208; have n2_ := Zq120; have n3_ := Zq124; have n4_ := Zq178; clear HO_7 BKaG BKap HB; have HO_7 := n0_; have HOfX := n1_; have BKaG := n2_; have BKap := n3_; have HB := n4_; clear n0_ n1_ n2_ n3_ n4_; (try clear hb); (try clear hb2); (try clear hk); (try clear hi); (try clear ho0)))
        go_loopg [14, 16] kj8 (fun kq v14 v16 w' => ∃ (x14_2 : List Int) (x16_2 : List (S46)), Aside0 (xlate_Ranges.l0 kq tag taK tao x14_2 x16_2 = some (r1, r2, r3)) ∧ Aside0 (kq ≤ kj8) ∧ Aside0 (Kd.Q (Kd.int .u32) 32 w' w.heap.size (fun _ => True) v14 x14_2) ∧ Aside0 (Kd.R k46 46 w' w.heap.size (fun _ => True) v16 x16_2) ∧ Aside0 (w'.heap[gbaG]? = some (.cells #[.string a0_0, (.slice A0_1 l0_1.length c0_1), (.slice A0_2 l0_2.length c0_2)] 30 (0, 0))) ∧ Aside0 (w'.heap[gbap]? = some (.cells #[.string a1_0, (.slice A1_1 l1_1.length c1_1), (.slice A1_2 l1_2.length c1_2)] 30 (0, 0))) ∧ Aside0 (Below w.heap.size w w'))
        case atStart => exact ⟨(tdQ), (([] : List (S46))), H', ⟨Nat.le_refl _⟩, ⟨Kd.Q_of_R (by (with_reducible repeat (first | apply Kd.R_alloc | apply Kd.R_drewN | apply Kd.R_drew)); exact HOfX.out)⟩, ⟨Zq32⟩, ⟨Zq16⟩, ⟨Zq33⟩, ⟨Zq14⟩⟩
        case round =>
         clear H'
         try clear c1
         try clear c2
         try clear p2
         try clear c3
         try clear c4
         try clear c6
         try clear c6b0
         try clear c6b1
         try clear p6
         try clear c8
         try clear c8b0
         try clear c8b1
         try clear c12
         try clear c17
         try clear c19
         try clear c19b0
         try clear c19b1
         try clear c20
         try clear c20b0
         try clear c20b1
         try clear c21
         try clear c21b0
         try clear c21b1
         try clear c23
         try clear c24
         try clear c24b0
         try clear c24b1
         try clear c24b2
         try clear hcz13_0
         try clear hcz13_1
         try clear hcz13_2
         try clear hcz15_0
         try clear hcz15_1
         try clear hcz15_2
         try clear hcz17_0
         try clear hcz17_1
         try clear hcz17_2
         try clear hfz13_0
         try clear hfz13_1
         try clear hfz13_2
         try clear hfz15_0
         try clear hfz15_1
         try clear hfz15_2
         try clear hfz17_0
         try clear hfz17_1
         try clear hfz17_2
         try clear p2
         try clear p6
         obtain ⟨x14_2, x16_2, HA, HK2, HO_14, HO_16, BKaG, BKap, HB⟩ := hrel
         cases gk with
         | zero => exact absurd HA.out (by simp [xlate_Ranges.l0])
         | succ k2 =>
          have H := HA.out; clear HA; simp only [xlate_Ranges.l0] at H
          by_cases c31 : (x14_2.length : Int) > 0
          ·rw [if_pos c31] at H; have c31b0 : decide (0 < (x14_2.length : Int)) = true := decide_eq_true c31; have c31b1 : decide (0 < x14_2.length) = true := decide_eq_true Zq1; clear c31
           by_cases c32 : 0 ≤ tag
           ·rw [if_pos c32] at H; have c32b0 := eq_true c32; have c32b1 : decide (0 ≤ tag) = true := decide_eq_true c32; clear c32
            by_cases c33 : tag ≤ (x14_2.length : Int)
            ·rw [if_pos c33] at H; have c33b0 := eq_true c33; have c33b1 : decide (tag ≤ (x14_2.length : Int)) = true := decide_eq_true c33; clear c33
             obtain ⟨yce, hyce⟩ : ∃ y_ : List Int, y_ = (x14_2.take (tag : Int).toNat) := ⟨_, rfl⟩
             replace H : ((prop_Wide.f k2 yce).bind fun btcn => (if tag ≤ (wrap64 (tag + tao)) then (if (wrap64 (tag + tao)) ≤ (x14_2.length : Int) then ((prop_Wide.f k2 ((x14_2.take ((wrap64 (tag + tao)) : Int).toNat).drop (tag : Int).toNat)).bind fun btcd => (if 0 ≤ (wrap64 (tag + tao)) then (if (wrap64 (tag + tao)) ≤ (wrap64 ((wrap64 (tag + tao)) + taK)) then (if (wrap64 ((wrap64 (tag + tao)) + taK)) ≤ (x14_2.length : Int) then ((prop_Wide.f k2 ((x14_2.take ((wrap64 ((wrap64 (tag + tao)) + taK)) : Int).toNat).drop ((wrap64 (tag + tao)) : Int).toNat)).bind fun btbS => (if x16_2.length < 5864062014805 then (if 0 ≤ (wrap64 ((wrap64 (tag + tao)) + taK)) then (xlate_Ranges.l0 k2 tag taK tao (x14_2.drop ((wrap64 ((wrap64 (tag + tao)) + taK)) : Int).toNat) (x16_2 ++ [(⟨btcn.1, btcd.1, btbS.1⟩ : S46)])) else (none)) else (none))) else (none)) else (none)) else (none))) else (none)) else (none))) = some (r1, r2, r3) := by first | (rw [hyce]; with_reducible exact H) | (have H2_ := (Option.bind_some _ _).symm.trans H; rw [hyce]; with_reducible exact H2_) | (have H2_ := (Option.bind_some _ _).symm.trans H; with_reducible exact H2_) | with_reducible exact H | (rw [hyce]; exact H) | exact H
             have Nyce := Ak hyce; clear hyce; replace H := Option.bind_eq_some_iff.mp H; obtain ⟨⟨tcn, tfY⟩, Aex, H⟩ := H; replace H : (if tag ≤ (wrap64 (tag + tao)) then (if (wrap64 (tag + tao)) ≤ (x14_2.length : Int) then ((prop_Wide.f k2 ((x14_2.take ((wrap64 (tag + tao)) : Int).toNat).drop (tag : Int).toNat)).bind fun btcd => (if 0 ≤ (wrap64 (tag + tao)) then (if (wrap64 (tag + tao)) ≤ (wrap64 ((wrap64 (tag + tao)) + taK)) then (if (wrap64 ((wrap64 (tag + tao)) + taK)) ≤ (x14_2.length : Int) then ((prop_Wide.f k2 ((x14_2.take ((wrap64 ((wrap64 (tag + tao)) + taK)) : Int).toNat).drop ((wrap64 (tag + tao)) : Int).toNat)).bind fun btbS => (if x16_2.length < 5864062014805 then (if 0 ≤ (wrap64 ((wrap64 (tag + tao)) + taK)) then (xlate_Ranges.l0 k2 tag taK tao (x14_2.drop ((wrap64 ((wrap64 (tag + tao)) + taK)) : Int).toNat) (x16_2 ++ [(⟨tcn, btcd.1, btbS.1⟩ : S46)])) else (none)) else (none))) else (none)) else (none)) else (none))) else (none)) else (none)) = some (r1, r2, r3) := H; have A34 := Ak Aex; clear Aex; have c35b0 := eq_true (of_decide_eq_true Zq4 : 0 ≤ tag)
             by_cases c36 : tag ≤ (wrap64 (tag + tao))
             ·rw [if_pos c36] at H; have c36b0 := eq_true c36; have c36b1 : decide (tag ≤ (wrap64 (tag + tao))) = true := decide_eq_true c36
              by_cases c37 : (wrap64 (tag + tao)) ≤ (x14_2.length : Int)
              ·rw [if_pos c37] at H; have c37b0 := eq_true c37; have c37b1 : decide ((wrap64 (tag + tao)) ≤ (x14_2.length : Int)) = true := decide_eq_true c37
               obtain ⟨ybO, hybO⟩ : ∃ y_ : List Int, y_ = ((x14_2.take ((wrap64 (tag + tao)) : Int).toNat).drop (tag : Int).toNat) := ⟨_, rfl⟩
               replace H : ((prop_Wide.f k2 ybO).bind fun btcd => (if 0 ≤ (wrap64 (tag + tao)) then (if (wrap64 (tag + tao)) ≤ (wrap64 ((wrap64 (tag + tao)) + taK)) then (if (wrap64 ((wrap64 (tag + tao)) + taK)) ≤ (x14_2.length : Int) then ((prop_Wide.f k2 ((x14_2.take ((wrap64 ((wrap64 (tag + tao)) + taK)) : Int).toNat).drop ((wrap64 (tag + tao)) : Int).toNat)).bind fun btbS => (if x16_2.length < 5864062014805 then (if 0 ≤ (wrap64 ((wrap64 (tag + tao)) + taK)) then (xlate_Ranges.l0 k2 tag taK tao (x14_2.drop ((wrap64 ((wrap64 (tag + tao)) + taK)) : Int).toNat) (x16_2 ++ [(⟨tcn, btcd.1, btbS.1⟩ : S46)])) else (none)) else (none))) else (none)) else (none)) else (none))) = some (r1, r2, r3) := by first | (rw [hybO]; with_reducible exact H) | (have H2_ := (Option.bind_some _ _).symm.trans H; rw [hybO]; with_reducible exact H2_) | (have H2_ := (Option.bind_some _ _).symm.trans H; with_reducible exact H2_) | with_reducible exact H | (rw [hybO]; exact H) | exact H
               have NybO := Ak hybO; clear hybO; replace H := Option.bind_eq_some_iff.mp H; obtain ⟨⟨tcd, tfZ⟩, AdR, H⟩ := H; replace H : (if 0 ≤ (wrap64 (tag + tao)) then (if (wrap64 (tag + tao)) ≤ (wrap64 ((wrap64 (tag + tao)) + taK)) then (if (wrap64 ((wrap64 (tag + tao)) + taK)) ≤ (x14_2.length : Int) then ((prop_Wide.f k2 ((x14_2.take ((wrap64 ((wrap64 (tag + tao)) + taK)) : Int).toNat).drop ((wrap64 (tag + tao)) : Int).toNat)).bind fun btbS => (if x16_2.length < 5864062014805 then (if 0 ≤ (wrap64 ((wrap64 (tag + tao)) + taK)) then (xlate_Ranges.l0 k2 tag taK tao (x14_2.drop ((wrap64 ((wrap64 (tag + tao)) + taK)) : Int).toNat) (x16_2 ++ [(⟨tcn, tcd, btbS.1⟩ : S46)])) else (none)) else (none))) else (none)) else (none)) else (none)) = some (r1, r2, r3) := H; have A38 := Ak AdR; clear AdR
               obtain ⟨ji39, hji39⟩ : ∃ j_ : Int, (wrap64 (tag + tao)) = j_ := ⟨_, rfl⟩
               replace H : (if 0 ≤ (ji39) then (if (ji39) ≤ (wrap64 ((ji39) + taK)) then (if (wrap64 ((ji39) + taK)) ≤ (x14_2.length : Int) then ((prop_Wide.f k2 ((x14_2.take ((wrap64 ((ji39) + taK)) : Int).toNat).drop ((ji39) : Int).toNat)).bind fun btbS => (if x16_2.length < 5864062014805 then (if 0 ≤ (wrap64 ((ji39) + taK)) then (xlate_Ranges.l0 k2 tag taK tao (x14_2.drop ((wrap64 ((ji39) + taK)) : Int).toNat) (x16_2 ++ [(⟨tcn, tcd, btbS.1⟩ : S46)])) else (none)) else (none))) else (none)) else (none)) else (none)) = some (r1, r2, r3) := by first | (rw [hji39] at H; exact H) | (simp only [hji39] at H ⊢; exact H)
               (try rw [hji39] at c36b0)
               (try rw [hji39] at c36b1)
               (try rw [hji39] at c36)
               (try rw [hji39] at c37b0)
               (try rw [hji39] at c37b1)
               (try rw [hji39] at c37)
               (try rw [hji39] at A34)
               (try rw [hji39] at NybO)
               (try rw [hji39] at A38)
               have hji39w : (IntKind.i64.wrap (tag + tao)) = ji39 := (i64_w _).trans hji39
               by_cases c40 : 0 ≤ (ji39)
               ·rw [if_pos c40] at H; have c40b0 := eq_true c40; have c40b1 : decide (0 ≤ (ji39)) = true := decide_eq_true c40; clear c40
                by_cases c41 : (ji39) ≤ (wrap64 ((ji39) + taK))
                ·rw [if_pos c41] at H; have c41b0 := eq_true c41; have c41b1 : decide ((ji39) ≤ (wrap64 ((ji39) + taK))) = true := decide_eq_true c41
                 by_cases c42 : (wrap64 ((ji39) + taK)) ≤ (x14_2.length : Int)
                 ·rw [if_pos c42] at H; have c42b0 := eq_true c42; have c42b1 : decide ((wrap64 ((ji39) + taK)) ≤ (x14_2.length : Int)) = true := decide_eq_true c42
                  obtain ⟨ybP, hybP⟩ : ∃ y_ : List Int, y_ = ((x14_2.take ((wrap64 ((ji39) + taK)) : Int).toNat).drop ((ji39) : Int).toNat) := ⟨_, rfl⟩
                  replace H : ((prop_Wide.f k2 ybP).bind fun btbS => (if x16_2.length < 5864062014805 then (if 0 ≤ (wrap64 ((ji39) + taK)) then (xlate_Ranges.l0 k2 tag taK tao (x14_2.drop ((wrap64 ((ji39) + taK)) : Int).toNat) (x16_2 ++ [(⟨tcn, tcd, btbS.1⟩ : S46)])) else (none)) else (none))) = some (r1, r2, r3) := by first | (rw [hybP]; with_reducible exact H) | (have H2_ := (Option.bind_some _ _).symm.trans H; rw [hybP]; with_reducible exact H2_) | (have H2_ := (Option.bind_some _ _).symm.trans H; with_reducible exact H2_) | with_reducible exact H | (rw [hybP]; exact H) | exact H
                  have NybP := Ak hybP; clear hybP; replace H := Option.bind_eq_some_iff.mp H; obtain ⟨⟨tbS, tga⟩, AfD, H⟩ := H; replace H : (if x16_2.length < 5864062014805 then (if 0 ≤ (wrap64 ((ji39) + taK)) then (xlate_Ranges.l0 k2 tag taK tao (x14_2.drop ((wrap64 ((ji39) + taK)) : Int).toNat) (x16_2 ++ [(⟨tcn, tcd, tbS⟩ : S46)])) else (none)) else (none)) = some (r1, r2, r3) := H; have A43 := Ak AfD; clear AfD
                  by_cases c44 : x16_2.length < 5864062014805
                  ·rw [if_pos c44] at H; have LMc44 := Ak c44; clear c44
                   obtain ⟨ycK, hycK⟩ : ∃ y_ : List (S46), y_ = (x16_2 ++ [(⟨tcn, tcd, tbS⟩ : S46)]) := ⟨_, rfl⟩
                   replace H : (if 0 ≤ (wrap64 ((ji39) + taK)) then (xlate_Ranges.l0 k2 tag taK tao (x14_2.drop ((wrap64 ((ji39) + taK)) : Int).toNat) ycK) else (none)) = some (r1, r2, r3) := by first | (rw [hycK]; with_reducible exact H) | (have H2_ := (Option.bind_some _ _).symm.trans H; rw [hycK]; with_reducible exact H2_) | (have H2_ := (Option.bind_some _ _).symm.trans H; with_reducible exact H2_) | with_reducible exact H | (rw [hycK]; exact H) | exact H
                   have NycK := Ak hycK; clear hycK
                   obtain ⟨ji45, hji45⟩ : ∃ j_ : Int, (wrap64 ((ji39) + taK)) = j_ := ⟨_, rfl⟩
                   replace H : (if 0 ≤ (ji45) then (xlate_Ranges.l0 k2 tag taK tao (x14_2.drop ((ji45) : Int).toNat) ycK) else (none)) = some (r1, r2, r3) := by first | (rw [hji45] at H; exact H) | (simp only [hji45] at H ⊢; exact H)
                   (try rw [hji45] at c41b0)
                   (try rw [hji45] at c41b1)
                   (try rw [hji45] at c41)
                   (try rw [hji45] at c42b0)
                   (try rw [hji45] at c42b1)
                   (try rw [hji45] at c42)
                   (try rw [hji45] at A34)
                   (try rw [hji45] at A38)
                   (try rw [hji45] at NybP)
                   (try rw [hji45] at A43)
                   have hji45w : (IntKind.i64.wrap ((ji39) + taK)) = ji45 := (i64_w _).trans hji45
                   by_cases c46 : 0 ≤ (ji45)
                   ·rw [if_pos c46] at H; have c46b0 := eq_true c46; have c46b1 : decide (0 ≤ (ji45)) = true := decide_eq_true c46; clear c46; have c47b0 := eq_true (of_decide_eq_true Zq4 : (ji45) ≤ (x14_2.length : Int))
                    obtain ⟨ycp, hycp⟩ : ∃ y_ : List Int, y_ = (x14_2.drop ((ji45) : Int).toNat) := ⟨_, rfl⟩
                    replace H : (xlate_Ranges.l0 k2 tag taK tao ycp ycK) = some (r1, r2, r3) := by first | (rw [hycp]; with_reducible exact H) | (have H2_ := (Option.bind_some _ _).symm.trans H; rw [hycp]; with_reducible exact H2_) | (have H2_ := (Option.bind_some _ _).symm.trans H; with_reducible exact H2_) | with_reducible exact H | (rw [hycp]; exact H) | exact H
                    have Nycp := Ak hycp; clear hycp; have H' := Ak H; clear H; obtain ⟨Ao48, co48, eo48, _⟩ := Kd.Q_slice HO_14.out; subst eo48; have q49 : (tag : Int) ≤ ((x14_2.length : Int) : Int) := of_decide_eq_true Zq4; obtain ⟨i049, hi049, _, hsz49, _⟩ := info_parts info32; have hroom49 : x14_2.length ≤ co48 := (Kd.Q_reads' HO_14.out).2.1; have hC49 : Kd.C (Kd.int .u32) _ Ao48 x14_2.length x14_2 := (Kd.Q_reads' HO_14.out).2.2; have hcut49 := cut_to (P := Try.prog) 86 32 .i64 Try.underlying86 hi049 Ao48 x14_2.length co48 tag (of_decide_eq_true Zq4) q49 hroom49; have hr49 := Kd.C_take (m := (tag : Int).toNat) hC49 Zq1
                    have hy49 : yce.length = (tag : Int).toNat := (by rw [Nyce.out, List.length_take]; omega)
                    rw [← Nyce.out] at hr49; rw [← hy49] at hcut49; have HRek := Ak hr49; have HCek := Ak (show yce.length ≤ co48 from by omega); clear hr49 hC49 hroom49 hi049 hsz49; have KY49 := Ak hy49; clear hy49; have KL49 := Ak (show (tag : Int).toNat ≤ x14_2.length from by omega); replace q49 := eq_true q49
                    go_wp2_with (first | ((with_reducible refine gate_callee (f := 44) rfl ?_); refine goesL_ (some 93) rfl rfl Try.func44 Zq2 rfl #[.slice Ao48 yce.length co48] rfl Zq9 ?_; (with_reducible refine (prop_Wide.calls k2 _ _ yce tcn tfY _ ?side1 ?side2 A34.out).mono ?_); (case side1 => repeat (first | exact (by repeat (first | (with_reducible exact HRek.out) | (with_reducible refine Kd.C_alloc ?_ _) | (with_reducible refine Kd.C_drewN ?_ _) | (with_reducible refine Kd.C_drew ?_) | exact HRek.out)) | (with_reducible refine Kd.C_alloc ?_ _) | (with_reducible refine Kd.C_drewN ?_ _) | (with_reducible refine Kd.C_drew ?_))); (case side2 => exact HCek.out); rintro e w' ⟨rfl, ⟨nd, rfl⟩⟩; refine ⟨_, rfl, ?_⟩; have q50 : ((ji39) : Int) ≤ ((x14_2.length : Int) : Int) := of_decide_eq_true Zq4; obtain ⟨i050, hi050, _, hsz50, _⟩ := info_parts info32; have hroom50 : x14_2.length ≤ co48 := (Kd.Q_reads' HO_14.out).2.1; have hC50 : Kd.C (Kd.int .u32) _ Ao48 x14_2.length x14_2 := (Kd.Q_reads' HO_14.out).2.2; have ql50 : (tag : Int) ≤ ((ji39) : Int) := of_decide_eq_true Zq4; have q050 : (0 : Int) ≤ (tag : Int) := of_decide_eq_true Zq4; have hcut50 := cut_mid (P := Try.prog) 86 32 .i64 .i64 Try.underlying86 hi050 1 hsz50 Ao48 x14_2.length co48 tag (ji39) q050 ql50 q50 hroom50; have hr50 := Kd.C_mid (lo := (tag : Int).toNat) (hi := ((ji39) : Int).toNat) (c := co48) hC50 Zq1 Zq1 hroom50; obtain ⟨A50, hA50⟩ : ∃ A1, A1 = (if co48 = (tag : Int).toNat then Ao48 else (Ao48 : Option Addr).map (·.add ((tag : Int).toNat * 1))) := ⟨_, rfl⟩; obtain ⟨c50, hc50⟩ : ∃ c1, c1 = co48 - (tag : Int).toNat := ⟨_, rfl⟩; have hy50 : ybO.length = ((ji39) : Int).toNat - (tag : Int).toNat := (by rw [NybO.out, List.length_drop, List.length_take] <;> omega); rw [show ((x14_2).take ((ji39) : Int).toNat).drop (tag : Int).toNat = ybO from NybO.out.symm] at hr50; replace hr50 : Kd.C (Kd.int .u32) _ A50 ybO.length ybO := (by rw [hA50]; exact hr50); rw [← hy50, ← hA50, ← hc50] at hcut50; have HRel := Ak hr50; have HCel := Ak (show ybO.length ≤ c50 from by rw [hy50, hc50]; exact Nat.sub_le_sub_right (Nat.le_trans Zq1 hroom50) _); clear hr50 hC50 hroom50 hi050 hsz50 hc50; have KY50 := Ak hy50; have KA50 := Ak hA50; clear hy50 hA50; have KL50 := Ak (show ((ji39) : Int).toNat ≤ x14_2.length from by omega); have KM50 := Ak (show (tag : Int).toNat ≤ ((ji39) : Int).toNat from by omega); replace q50 := eq_true q50) | ((with_reducible refine gate_callee (f := 44) rfl ?_); refine goesL_ (some 103) rfl rfl Try.func44 Zq2 rfl #[.slice A50 ybO.length c50] rfl Zq9 ?_; (with_reducible refine (prop_Wide.calls k2 _ _ ybO tcd tfZ _ ?side1 ?side2 A38.out).mono ?_); (case side1 => repeat (first | exact (by repeat (first | (with_reducible exact HRel.out) | (with_reducible refine Kd.C_alloc ?_ _) | (with_reducible refine Kd.C_drewN ?_ _) | (with_reducible refine Kd.C_drew ?_) | exact HRel.out)) | (with_reducible refine Kd.C_alloc ?_ _) | (with_reducible refine Kd.C_drewN ?_ _) | (with_reducible refine Kd.C_drew ?_))); (case side2 => exact HCel.out); rintro e w' ⟨rfl, ⟨nd, rfl⟩⟩; refine ⟨_, rfl, ?_⟩; have q51 : ((ji45) : Int) ≤ ((x14_2.length : Int) : Int) := of_decide_eq_true Zq4; obtain ⟨i051, hi051, _, hsz51, _⟩ := info_parts info32; have hroom51 : x14_2.length ≤ co48 := (Kd.Q_reads' HO_14.out).2.1; have hC51 : Kd.C (Kd.int .u32) _ Ao48 x14_2.length x14_2 := (Kd.Q_reads' HO_14.out).2.2; have ql51 : ((ji39) : Int) ≤ ((ji45) : Int) := of_decide_eq_true Zq4; have q051 : (0 : Int) ≤ ((ji39) : Int) := of_decide_eq_true Zq4; have hcut51 := cut_mid (P := Try.prog) 86 32 .i64 .i64 Try.underlying86 hi051 1 hsz51 Ao48 x14_2.length co48 (ji39) (ji45) q051 ql51 q51 hroom51; have hr51 := Kd.C_mid (lo := ((ji39) : Int).toNat) (hi := ((ji45) : Int).toNat) (c := co48) hC51 Zq1 Zq1 hroom51; obtain ⟨A51, hA51⟩ : ∃ A1, A1 = (if co48 = ((ji39) : Int).toNat then Ao48 else (Ao48 : Option Addr).map (·.add (((ji39) : Int).toNat * 1))) := ⟨_, rfl⟩; obtain ⟨c51, hc51⟩ : ∃ c1, c1 = co48 - ((ji39) : Int).toNat := ⟨_, rfl⟩; have hy51 : ybP.length = ((ji45) : Int).toNat - ((ji39) : Int).toNat := (by rw [NybP.out, List.length_drop, List.length_take] <;> omega); rw [show ((x14_2).take ((ji45) : Int).toNat).drop ((ji39) : Int).toNat = ybP from NybP.out.symm] at hr51; replace hr51 : Kd.C (Kd.int .u32) _ A51 ybP.length ybP := (by rw [hA51]; exact hr51); rw [← hy51, ← hA51, ← hc51] at hcut51; have HRem := Ak hr51; have HCem := Ak (show ybP.length ≤ c51 from by rw [hy51, hc51]; exact Nat.sub_le_sub_right (Nat.le_trans Zq1 hroom51) _); clear hr51 hC51 hroom51 hi051 hsz51 hc51; have KY51 := Ak hy51; have KA51 := Ak hA51; clear hy51 hA51; have KL51 := Ak (show ((ji45) : Int).toNat ≤ x14_2.length from by omega); have KM51 := Ak (show ((ji39) : Int).toNat ≤ ((ji45) : Int).toNat from by omega); replace q51 := eq_true q51) | ((with_reducible refine gate_callee (f := 44) rfl ?_); refine goesL_ (some 117) rfl rfl Try.func44 Zq2 rfl #[.slice A51 ybP.length c51] rfl Zq9 ?_; (with_reducible refine (prop_Wide.calls k2 _ _ ybP tbS tga _ ?side1 ?side2 A43.out).mono ?_); (case side1 => repeat (first | exact (by repeat (first | (with_reducible exact HRem.out) | (with_reducible refine Kd.C_alloc ?_ _) | (with_reducible refine Kd.C_drewN ?_ _) | (with_reducible refine Kd.C_drew ?_) | exact HRem.out)) | (with_reducible refine Kd.C_alloc ?_ _) | (with_reducible refine Kd.C_drewN ?_ _) | (with_reducible refine Kd.C_drew ?_))); (case side2 => exact HCem.out); rintro e w' ⟨rfl, ⟨nd, rfl⟩⟩; refine ⟨_, rfl, ?_⟩) | ((with_reducible refine gate_builtin (b := .append) (xs := #[.tmp 120, .tmp 125]) rfl ?_); (try (refine gate_guard Zq3 ?_; dsimp only)); at_builtin; refine Kd.R_append k46 (w0 := w) w.heap.size rfl (.tmp 120) (.tmp 125) 36 46 (.agg #[(.int .u64 0), (.int .u64 0), (.int .u64 0)]) 24 rfl Try.underlying36 info46 rfl Zq7 Zq1 u16 x16_2 (⟨tcn, tcd, tbS⟩ : S46) [.int .u64 tcn, .int .u64 tcd, .int .u64 tbS] (fun _ => True) (fun _ => False) rfl rfl ?aP (fun _ hk => hk.elim) ?aF ?aO ?aB ?aS ?aL ?_; (case aP => exact k46_mkM _ _ _ (⟨tcn, tcd, tbS⟩ : S46)); (case aB => exact Zq14); (case aF => exact (fun _ _ => trivial)); (case aO => exact Zq65); (case aS => exact (below_size Zq14)); (case aL => have := LMc44.out; omega); intro v231 w52 ho hb hg hat; rw [← NycK.out] at ho; have n0_ := Ak (Kd.Q_over' Zq79 (Kd.R_typed Zq65) Zq7 hg); have n1_ := Ak (blk_grown (g := gbaG) (o := .cells #[.string a0_0, .slice A0_1 l0_1.length c0_1, .slice A0_2 l0_2.length c0_2] 30 (0, 0)) Zq16 hg (Kd.R_ne HO_16.out BKaG.out Zq7)); have n2_ := Ak (blk_grown (g := gbap) (o := .cells #[.string a1_0, .slice A1_1 l1_1.length c1_1, .slice A1_2 l1_2.length c1_2] 30 (0, 0)) Zq33 hg (Kd.R_ne HO_16.out BKap.out Zq7)); have n3_ := Ak (hb); have n4_ := Ak ((show Kd.C (Kd.int .u32) w52 Ao48 yce.length yce from by rw [Nyce.out]; exact Kd.C_take (m := (tag : Int).toNat) ((Kd.Q_reads' (Kd.Q_over' Zq79 (Kd.R_typed Zq65) Zq7 hg)).2.2) KL49.out)); have n5_ := Ak ((show Kd.C (Kd.int .u32) w52 A50 ybO.length ybO from by rw [NybO.out, KA50.out]; exact Kd.C_mid (lo := (tag : Int).toNat) (hi := ((ji39) : Int).toNat) (c := co48) ((Kd.Q_reads' (Kd.Q_over' Zq79 (Kd.R_typed Zq65) Zq7 hg)).2.2) KM50.out KL50.out ((Kd.Q_reads' (Kd.Q_over' Zq79 (Kd.R_typed Zq65) Zq7 hg)).2.1))); have n6_ := Ak ((show Kd.C (Kd.int .u32) w52 A51 ybP.length ybP from by rw [NybP.out, KA51.out]; exact Kd.C_mid (lo := ((ji39) : Int).toNat) (hi := ((ji45) : Int).toNat) (c := co48) ((Kd.Q_reads' (Kd.Q_over' Zq79 (Kd.R_typed Zq65) Zq7 hg)).2.2) KM51.out KL51.out ((Kd.Q_reads' (Kd.Q_over' Zq79 (Kd.R_typed Zq65) Zq7 hg)).2.1))); have n7_ := Ak (ho); clear HO_14 BKaG BKap HB HRek HRel HRem HO_16; have HO_14 := n0_; have BKaG := n1_; have BKap := n2_; have HB := n3_; have HRek := n4_; have HRel := n5_; have HRem := n6_; have HOgb := n7_; clear n0_ n1_ n2_ n3_ n4_ n5_ n6_ n7_ ho hb hg hat; have q53 : ((ji45) : Int) ≤ ((x14_2.length : Int) : Int) := of_decide_eq_true Zq4; obtain ⟨i053, hi053, _, hsz53, _⟩ := info_parts info32; have hcut53 := cut_from (P := Try.prog) 86 32 .i64 Try.underlying86 hi053 1 hsz53 Ao48 x14_2.length co48 (ji45) (of_decide_eq_true Zq4) q53; have hr53 := Kd.Q_drop (k := ((ji45) : Int).toNat) HO_14.out Zq1; obtain ⟨A53, hA53⟩ : ∃ A1, A1 = (if co48 = ((ji45) : Int).toNat then Ao48 else (Ao48 : Option Addr).map (·.add (((ji45) : Int).toNat * 1))) := ⟨_, rfl⟩; obtain ⟨c53, hc53⟩ : ∃ c1, c1 = co48 - ((ji45) : Int).toNat := ⟨_, rfl⟩; have hy53 : ycp.length = x14_2.length - ((ji45) : Int).toNat := (by rw [Nycp.out, List.length_drop]); rw [← Nycp.out] at hr53; rw [← hy53, ← hA53, ← hc53] at hcut53; replace hr53 : Kd.Q (Kd.int .u32) 32 w52 w.heap.size (fun _ => True) (.slice A53 ycp.length c53) ycp := (by rw [hA53, hc53, hy53]; exact hr53); have HE53 : Aside0 ((Value.slice A53 ycp.length c53).ownBlock = (.slice Ao48 x14_2.length co48 : Value).ownBlock) := ⟨by rw [hA53]; split <;> (cases (Ao48 : Option Addr) <;> first | rfl | (simp only [Option.map_some, Option.map_none, Value.ownBlock]; done) | (simp only [Option.map_some, Value.ownBlock]; unfold Addr.add; split <;> rfl))⟩; clear hy53 hi053 hsz53 HO_14 hA53 hc53; have HOgc := Ak hr53; clear hr53; replace q53 := eq_true q53))
                    first | (go_roundg k2) | ((try subst hji39); (try subst hji45); go_roundg k2)
                    case measure => have := HJ8.out; have := HK2.out; omega
                    case rel => exact ⟨(ycp), (ycK), H', ⟨by have := HJ8.out; have := HK2.out; omega⟩, ⟨by (with_reducible repeat (first | apply Kd.Q_alloc | apply Kd.Q_drewN | apply Kd.Q_drew)); exact HOgc.out⟩, ⟨by (with_reducible repeat (first | apply Kd.R_alloc | apply Kd.R_drewN | apply Kd.R_drew)); exact HOgb.out⟩, ⟨Zq16⟩, ⟨Zq33⟩, ⟨Zq14⟩⟩
                   ·rw [if_neg c46] at H; exact absurd H Zq8
                  ·rw [if_neg c44] at H; exact absurd H Zq8
                 ·rw [if_neg c42] at H; exact absurd H Zq8
                ·rw [if_neg c41] at H; exact absurd H Zq8
               ·rw [if_neg c40] at H; exact absurd H Zq8
              ·rw [if_neg c37] at H; exact absurd H Zq8
             ·rw [if_neg c36] at H; exact absurd H Zq8
            ·rw [if_neg c33] at H; exact absurd H Zq8
           ·rw [if_neg c32] at H; exact absurd H Zq8
          ·rw [if_neg c31] at H; have c31b0 : decide (0 < (x14_2.length : Int)) = false := decide_eq_false c31; have c31b1 : decide (0 < x14_2.length) = false := decide_eq_false Zq1; clear c31; simp only [Option.some.injEq, Prod.mk.injEq] at H; obtain ⟨rfl, rfl, rfl⟩ := H; obtain ⟨Ao54, co54, eo54, _⟩ := Kd.Q_slice HO_14.out; subst eo54
           go_wp2
           go_ret3
           exact ⟨_, Zq10, Zq65, Zq14⟩
   ·rw [if_neg c8] at H; have c8b0 : (tdl == 0) = false := beq_eq_false_iff_ne.mpr c8; have c8b1 : (tdl != 0) = true := bne_iff_ne.mpr c8; simp only [Option.some.injEq, Prod.mk.injEq] at H; obtain ⟨rfl, rfl, rfl⟩ := H
    go_enter Try.func17, Try.ntmps17
    go_wp2_with (first | ((with_reducible refine gate_dst (N := 2) rfl ?_); (try (refine gate_guard Zq3 ?_; dsimp only)); refine box_event ?hg (N := 2) ?hd (cs := #[.string a0_0, .slice A0_1 l0_1.length c0_1, .slice A0_2 l0_2.length c0_2]) (t := 30) ?hr ?_; (case hd | hg => rfl); (case hr => first | (go_simp; done) | (go_simp; rfl)); intro gbaG hg w55 hbox hb; have n0_ := Zq122; have n1_ := Ak (hbox); have n2_ := Zq154; have n3_ := Zq154; clear HB; have HB := n0_; have BKaG := n1_; have GWaG := n2_; have GEaG := n3_; clear n0_ n1_ n2_ n3_ hb hbox hg) | ((with_reducible refine gate_dst (N := 3) rfl ?_); (try (refine gate_guard Zq3 ?_; dsimp only)); refine box_event ?hg (N := 3) ?hd (cs := #[.string a1_0, .slice A1_1 l1_1.length c1_1, .slice A1_2 l1_2.length c1_2]) (t := 30) ?hr ?_; (case hd | hg => rfl); (case hr => first | (go_simp; done) | (go_simp; rfl)); intro gbap hg w56 hbox hb; have n0_ := Zq120; have n1_ := Ak (below_step Zq47 hb); have n2_ := Ak (hbox); have n3_ := Zq150; have n4_ := Zq150; have n5_ := Zq232; have n6_ := Zq233; clear BKaG HB; have BKaG := n0_; have HB := n1_; have BKap := n2_; have GWap := n3_; have GEap := n4_; have NB193_194 := n5_; have NB194_193 := n6_; clear n0_ n1_ n2_ n3_ n4_ n5_ n6_ hb hbox hg; have hnb57 := NB194_193.out; have hnc57 := NB193_194.out; have hcz58_0 : w56.cell? ⟨gbap, 0, none⟩ = some (.string a1_0) := (blk_cell BKap.out 0).trans rfl; have hcz58_1 : w56.cell? ⟨gbap, 1, none⟩ = some (.slice A1_1 l1_1.length c1_1) := (blk_cell BKap.out 1).trans rfl; have hcz58_2 : w56.cell? ⟨gbap, 2, none⟩ = some (.slice A1_2 l1_2.length c1_2) := (blk_cell BKap.out 2).trans rfl; have hfz58_0 := blk_frozen BKap.out 0; have hfz58_1 := blk_frozen BKap.out 1; have hfz58_2 := blk_frozen BKap.out 2) | ((with_reducible refine gate_callee (f := 31) rfl ?_); refine goesL_ (some 25) rfl rfl Try.func31 Zq2 rfl #[.agg #[.string a1_0, .slice A1_1 l1_1.length c1_1, .slice A1_2 l1_2.length c1_2], .string (⟨#[114, 97, 110, 103, 101, 115]⟩ : ByteArray)] rfl Zq9 ?_; (with_reducible refine (tree_Find.calls k a1_0 _ _ l1_1 _ _ l1_2 (⟨#[114, 97, 110, 103, 101, 115]⟩ : ByteArray) tbh true _ ?side1 ?side2 ?side3 ?side4 A3.out).mono ?_); (case side1 => repeat (first | exact Zq176 | (with_reducible refine Kd.C_alloc ?_ _) | (with_reducible refine Kd.C_drewN ?_ _) | (with_reducible refine Kd.C_drew ?_))); (case side2 => exact HC1_1.out); (case side3 => repeat (first | exact Zq177 | (with_reducible refine Kd.C_alloc ?_ _) | (with_reducible refine Kd.C_drewN ?_ _) | (with_reducible refine Kd.C_drew ?_))); (case side4 => exact HC1_2.out); rintro e w59 ⟨v196, rfl, ho0, hb⟩; refine ⟨_, rfl, ?_⟩; have n0_ := Zq208; have n1_ := Zq120; have n2_ := Zq124; have n3_ := Zq178; clear BKaG BKap HB; have HOco := n0_; have BKaG := n1_; have BKap := n2_; have HB := n3_; clear n0_ n1_ n2_ n3_; (try clear hb); (try clear hb2); (try clear hk); (try clear hi); (try clear ho0); have hcz60_0 : w59.cell? ⟨gbap, 0, none⟩ = some (.string a1_0) := (blk_cell BKap.out 0).trans rfl; have hcz60_1 : w59.cell? ⟨gbap, 1, none⟩ = some (.slice A1_1 l1_1.length c1_1) := (blk_cell BKap.out 1).trans rfl; have hcz60_2 : w59.cell? ⟨gbap, 2, none⟩ = some (.slice A1_2 l1_2.length c1_2) := (blk_cell BKap.out 2).trans rfl; have hfz60_0 := blk_frozen BKap.out 0; have hfz60_1 := blk_frozen BKap.out 1; have hfz60_2 := blk_frozen BKap.out 2) | ((with_reducible refine gate_callee (f := 42) rfl ?_); refine goesL_ (some 32) rfl rfl Try.func42 Zq2 rfl #[.agg #[.string a1_0, .slice A1_1 l1_1.length c1_1, .slice A1_2 l1_2.length c1_2]] rfl Zq9 ?_; (with_reducible refine (region_Counts.calls k a1_0 _ _ l1_1 _ _ l1_2 tag taK tcU _ ?side1 ?side2 ?side3 ?side4 A5.out).mono ?_); (case side1 => repeat (first | exact Zq176 | (with_reducible refine Kd.C_alloc ?_ _) | (with_reducible refine Kd.C_drewN ?_ _) | (with_reducible refine Kd.C_drew ?_))); (case side2 => exact HC1_1.out); (case side3 => repeat (first | exact Zq177 | (with_reducible refine Kd.C_alloc ?_ _) | (with_reducible refine Kd.C_drewN ?_ _) | (with_reducible refine Kd.C_drew ?_))); (case side4 => exact HC1_2.out); rintro e w61 ⟨rfl, hb⟩; refine ⟨_, rfl, ?_⟩; have n0_ := Ak (Kd.R_below Zq64 hb); have n1_ := Zq120; have n2_ := Zq124; have n3_ := Zq178; clear HOco BKaG BKap HB; have HOco := n0_; have BKaG := n1_; have BKap := n2_; have HB := n3_; clear n0_ n1_ n2_ n3_; (try clear hb); (try clear hb2); (try clear hk); (try clear hi); have hcz62_0 : w61.cell? ⟨gbaG, 0, none⟩ = some (.string a0_0) := (blk_cell BKaG.out 0).trans rfl; have hcz62_1 : w61.cell? ⟨gbaG, 1, none⟩ = some (.slice A0_1 l0_1.length c0_1) := (blk_cell BKaG.out 1).trans rfl; have hcz62_2 : w61.cell? ⟨gbaG, 2, none⟩ = some (.slice A0_2 l0_2.length c0_2) := (blk_cell BKaG.out 2).trans rfl; have hfz62_0 := blk_frozen BKaG.out 0; have hfz62_1 := blk_frozen BKaG.out 1; have hfz62_2 := blk_frozen BKaG.out 2) | ((with_reducible refine gate_callee (f := 42) rfl ?_); refine goesL_ (some 41) rfl rfl Try.func42 Zq2 rfl #[.agg #[.string a0_0, .slice A0_1 l0_1.length c0_1, .slice A0_2 l0_2.length c0_2]] rfl Zq9 ?_; (with_reducible refine (region_Counts.calls k a0_0 _ _ l0_1 _ _ l0_2 tao tfC tdl _ ?side1 ?side2 ?side3 ?side4 A7.out).mono ?_); (case side1 => repeat (first | exact Zq126 | (with_reducible refine Kd.C_alloc ?_ _) | (with_reducible refine Kd.C_drewN ?_ _) | (with_reducible refine Kd.C_drew ?_))); (case side2 => exact HC0_1.out); (case side3 => repeat (first | exact Zq142 | (with_reducible refine Kd.C_alloc ?_ _) | (with_reducible refine Kd.C_drewN ?_ _) | (with_reducible refine Kd.C_drew ?_))); (case side4 => exact HC0_2.out); rintro e w63 ⟨rfl, hb⟩; refine ⟨_, rfl, ?_⟩; have n0_ := Ak (Kd.R_below Zq64 hb); have n1_ := Zq120; have n2_ := Zq124; have n3_ := Zq178; clear HOco BKaG BKap HB; have HOco := n0_; have BKaG := n1_; have BKap := n2_; have HB := n3_; clear n0_ n1_ n2_ n3_; (try clear hb); (try clear hb2); (try clear hk); (try clear hi)))
    go_ret3
    exact ⟨_, Zq10, Zq32, Zq14⟩
  ·rw [if_neg c6] at H; have c6b0 : (tcU == 0) = false := beq_eq_false_iff_ne.mpr c6; have c6b1 : (tcU != 0) = true := bne_iff_ne.mpr c6; simp only [Option.some.injEq, Prod.mk.injEq] at H; obtain ⟨rfl, rfl, rfl⟩ := H
   go_enter Try.func17, Try.ntmps17
   go_wp2_with (first | ((with_reducible refine gate_dst (N := 2) rfl ?_); (try (refine gate_guard Zq3 ?_; dsimp only)); refine box_event ?hg (N := 2) ?hd (cs := #[.string a0_0, .slice A0_1 l0_1.length c0_1, .slice A0_2 l0_2.length c0_2]) (t := 30) ?hr ?_; (case hd | hg => rfl); (case hr => first | (go_simp; done) | (go_simp; rfl)); intro gbaG hg w64 hbox hb; have n0_ := Zq122; have n1_ := Ak (hbox); have n2_ := Zq154; have n3_ := Zq154; clear HB; have HB := n0_; have BKaG := n1_; have GWaG := n2_; have GEaG := n3_; clear n0_ n1_ n2_ n3_ hb hbox hg) | ((with_reducible refine gate_dst (N := 3) rfl ?_); (try (refine gate_guard Zq3 ?_; dsimp only)); refine box_event ?hg (N := 3) ?hd (cs := #[.string a1_0, .slice A1_1 l1_1.length c1_1, .slice A1_2 l1_2.length c1_2]) (t := 30) ?hr ?_; (case hd | hg => rfl); (case hr => first | (go_simp; done) | (go_simp; rfl)); intro gbap hg w65 hbox hb; have n0_ := Zq120; have n1_ := Ak (below_step Zq47 hb); have n2_ := Ak (hbox); have n3_ := Zq150; have n4_ := Zq150; have n5_ := Zq232; have n6_ := Zq233; clear BKaG HB; have BKaG := n0_; have HB := n1_; have BKap := n2_; have GWap := n3_; have GEap := n4_; have NB193_194 := n5_; have NB194_193 := n6_; clear n0_ n1_ n2_ n3_ n4_ n5_ n6_ hb hbox hg; have hnb66 := NB194_193.out; have hnc66 := NB193_194.out; have hcz67_0 : w65.cell? ⟨gbap, 0, none⟩ = some (.string a1_0) := (blk_cell BKap.out 0).trans rfl; have hcz67_1 : w65.cell? ⟨gbap, 1, none⟩ = some (.slice A1_1 l1_1.length c1_1) := (blk_cell BKap.out 1).trans rfl; have hcz67_2 : w65.cell? ⟨gbap, 2, none⟩ = some (.slice A1_2 l1_2.length c1_2) := (blk_cell BKap.out 2).trans rfl; have hfz67_0 := blk_frozen BKap.out 0; have hfz67_1 := blk_frozen BKap.out 1; have hfz67_2 := blk_frozen BKap.out 2) | ((with_reducible refine gate_callee (f := 31) rfl ?_); refine goesL_ (some 25) rfl rfl Try.func31 Zq2 rfl #[.agg #[.string a1_0, .slice A1_1 l1_1.length c1_1, .slice A1_2 l1_2.length c1_2], .string (⟨#[114, 97, 110, 103, 101, 115]⟩ : ByteArray)] rfl Zq9 ?_; (with_reducible refine (tree_Find.calls k a1_0 _ _ l1_1 _ _ l1_2 (⟨#[114, 97, 110, 103, 101, 115]⟩ : ByteArray) tbh true _ ?side1 ?side2 ?side3 ?side4 A3.out).mono ?_); (case side1 => repeat (first | exact Zq176 | (with_reducible refine Kd.C_alloc ?_ _) | (with_reducible refine Kd.C_drewN ?_ _) | (with_reducible refine Kd.C_drew ?_))); (case side2 => exact HC1_1.out); (case side3 => repeat (first | exact Zq177 | (with_reducible refine Kd.C_alloc ?_ _) | (with_reducible refine Kd.C_drewN ?_ _) | (with_reducible refine Kd.C_drew ?_))); (case side4 => exact HC1_2.out); rintro e w68 ⟨v196, rfl, ho0, hb⟩; refine ⟨_, rfl, ?_⟩; have n0_ := Zq208; have n1_ := Zq120; have n2_ := Zq124; have n3_ := Zq178; clear BKaG BKap HB; have HOco := n0_; have BKaG := n1_; have BKap := n2_; have HB := n3_; clear n0_ n1_ n2_ n3_; (try clear hb); (try clear hb2); (try clear hk); (try clear hi); (try clear ho0); have hcz69_0 : w68.cell? ⟨gbap, 0, none⟩ = some (.string a1_0) := (blk_cell BKap.out 0).trans rfl; have hcz69_1 : w68.cell? ⟨gbap, 1, none⟩ = some (.slice A1_1 l1_1.length c1_1) := (blk_cell BKap.out 1).trans rfl; have hcz69_2 : w68.cell? ⟨gbap, 2, none⟩ = some (.slice A1_2 l1_2.length c1_2) := (blk_cell BKap.out 2).trans rfl; have hfz69_0 := blk_frozen BKap.out 0; have hfz69_1 := blk_frozen BKap.out 1; have hfz69_2 := blk_frozen BKap.out 2) | ((with_reducible refine gate_callee (f := 42) rfl ?_); refine goesL_ (some 32) rfl rfl Try.func42 Zq2 rfl #[.agg #[.string a1_0, .slice A1_1 l1_1.length c1_1, .slice A1_2 l1_2.length c1_2]] rfl Zq9 ?_; (with_reducible refine (region_Counts.calls k a1_0 _ _ l1_1 _ _ l1_2 tag taK tcU _ ?side1 ?side2 ?side3 ?side4 A5.out).mono ?_); (case side1 => repeat (first | exact Zq176 | (with_reducible refine Kd.C_alloc ?_ _) | (with_reducible refine Kd.C_drewN ?_ _) | (with_reducible refine Kd.C_drew ?_))); (case side2 => exact HC1_1.out); (case side3 => repeat (first | exact Zq177 | (with_reducible refine Kd.C_alloc ?_ _) | (with_reducible refine Kd.C_drewN ?_ _) | (with_reducible refine Kd.C_drew ?_))); (case side4 => exact HC1_2.out); rintro e w70 ⟨rfl, hb⟩; refine ⟨_, rfl, ?_⟩; have n0_ := Ak (Kd.R_below Zq64 hb); have n1_ := Zq120; have n2_ := Zq124; have n3_ := Zq178; clear HOco BKaG BKap HB; have HOco := n0_; have BKaG := n1_; have BKap := n2_; have HB := n3_; clear n0_ n1_ n2_ n3_; (try clear hb); (try clear hb2); (try clear hk); (try clear hi)))
   go_ret3
   exact ⟨_, Zq10, Zq32, Zq14⟩
 ·replace c4 := Bool.eq_false_iff.mpr c4; subst c4
  have H1 : (some (([] : List (S46)), false, 0)) = some (r1, r2, r3) := by rw [if_neg (show ¬ (false = true) by decide)] at H; exact H
  clear H; have H := H1; clear H1; simp only [Option.some.injEq, Prod.mk.injEq] at H; obtain ⟨rfl, rfl, rfl⟩ := H
  go_enter Try.func17, Try.ntmps17
  go_wp2_with (first | ((with_reducible refine gate_dst (N := 2) rfl ?_); (try (refine gate_guard Zq3 ?_; dsimp only)); refine box_event ?hg (N := 2) ?hd (cs := #[.string a0_0, .slice A0_1 l0_1.length c0_1, .slice A0_2 l0_2.length c0_2]) (t := 30) ?hr ?_; (case hd | hg => rfl); (case hr => first | (go_simp; done) | (go_simp; rfl)); intro gbaG hg w71 hbox hb; have n0_ := Zq122; have n1_ := Ak (hbox); have n2_ := Zq154; have n3_ := Zq154; clear HB; have HB := n0_; have BKaG := n1_; have GWaG := n2_; have GEaG := n3_; clear n0_ n1_ n2_ n3_ hb hbox hg) | ((with_reducible refine gate_dst (N := 3) rfl ?_); (try (refine gate_guard Zq3 ?_; dsimp only)); refine box_event ?hg (N := 3) ?hd (cs := #[.string a1_0, .slice A1_1 l1_1.length c1_1, .slice A1_2 l1_2.length c1_2]) (t := 30) ?hr ?_; (case hd | hg => rfl); (case hr => first | (go_simp; done) | (go_simp; rfl)); intro gbap hg w72 hbox hb; have n0_ := Zq120; have n1_ := Ak (below_step Zq47 hb); have n2_ := Ak (hbox); have n3_ := Zq150; have n4_ := Zq150; have n5_ := Zq232; have n6_ := Zq233; clear BKaG HB; have BKaG := n0_; have HB := n1_; have BKap := n2_; have GWap := n3_; have GEap := n4_; have NB193_194 := n5_; have NB194_193 := n6_; clear n0_ n1_ n2_ n3_ n4_ n5_ n6_ hb hbox hg; have hnb73 := NB194_193.out; have hnc73 := NB193_194.out; have hcz74_0 : w72.cell? ⟨gbap, 0, none⟩ = some (.string a1_0) := (blk_cell BKap.out 0).trans rfl; have hcz74_1 : w72.cell? ⟨gbap, 1, none⟩ = some (.slice A1_1 l1_1.length c1_1) := (blk_cell BKap.out 1).trans rfl; have hcz74_2 : w72.cell? ⟨gbap, 2, none⟩ = some (.slice A1_2 l1_2.length c1_2) := (blk_cell BKap.out 2).trans rfl; have hfz74_0 := blk_frozen BKap.out 0; have hfz74_1 := blk_frozen BKap.out 1; have hfz74_2 := blk_frozen BKap.out 2) | ((with_reducible refine gate_callee (f := 31) rfl ?_); refine goesL_ (some 25) rfl rfl Try.func31 Zq2 rfl #[.agg #[.string a1_0, .slice A1_1 l1_1.length c1_1, .slice A1_2 l1_2.length c1_2], .string (⟨#[114, 97, 110, 103, 101, 115]⟩ : ByteArray)] rfl Zq9 ?_; (with_reducible refine (tree_Find.calls k a1_0 _ _ l1_1 _ _ l1_2 (⟨#[114, 97, 110, 103, 101, 115]⟩ : ByteArray) tbh false _ ?side1 ?side2 ?side3 ?side4 A3.out).mono ?_); (case side1 => repeat (first | exact Zq176 | (with_reducible refine Kd.C_alloc ?_ _) | (with_reducible refine Kd.C_drewN ?_ _) | (with_reducible refine Kd.C_drew ?_))); (case side2 => exact HC1_1.out); (case side3 => repeat (first | exact Zq177 | (with_reducible refine Kd.C_alloc ?_ _) | (with_reducible refine Kd.C_drewN ?_ _) | (with_reducible refine Kd.C_drew ?_))); (case side4 => exact HC1_2.out); rintro e w75 ⟨v196, rfl, ho0, hb⟩; refine ⟨_, rfl, ?_⟩; have n0_ := Zq208; have n1_ := Zq120; have n2_ := Zq124; have n3_ := Zq178; clear BKaG BKap HB; have HOco := n0_; have BKaG := n1_; have BKap := n2_; have HB := n3_; clear n0_ n1_ n2_ n3_; (try clear hb); (try clear hb2); (try clear hk); (try clear hi); (try clear ho0)))
  go_ret3
  exact ⟨_, Zq10, Zq32, Zq14⟩
def region_whole.f (a0_0 : Int) (a0_1 : Int) : Option (Bool) := if a0_1 = 0 then (some true) else (some (decide ((IntKind.u64.wrap (a0_1 - 1)) ≤ (IntKind.u64.wrap (18446744073709551615 - a0_0)))))
end Go.Proofs.Yteejaaeglfpcmab.PX

namespace Go.Proofs.Yteejaaeglfpcmab.PX
open Go.RowKit Go.Proofs.YteejaaeglfpcmabW.PrintWords Go.Proofs.YteejaaeglfpcmabW.PrintLast Go.Proofs.YteejaaeglfpcmabW.PrintMore
attribute [local go_sem] max2_int min2_int max_two min_two max_three min_three max_four min_four
set_option maxHeartbeats 8000000 in
set_option maxRecDepth 100000 in
theorem region_whole.calls (a0_0 : Int) (a0_1 : Int) (r : Bool) (w : World) (h : region_whole.f a0_0 a0_1 = some r) :
  Calls Try.prog 91 #[.agg #[.int .u64 a0_0, .int .u64 a0_1]] w fun e w' => e = .returned (.bool r) ∧ Below w.heap.size w w' := by
 have hu67 := Try.underlying67; have HB := Zq129; have H : (if a0_1 = 0 then (some true) else (some (decide ((IntKind.u64.wrap (a0_1 - 1)) ≤ (IntKind.u64.wrap (18446744073709551615 - a0_0)))))) = some r := h; clear h
 by_cases c2 : a0_1 = 0
 ·rw [if_pos c2] at H; have c2b0 : (a0_1 == 0) = true := beq_iff_eq.mpr c2; have c2b1 : (a0_1 != 0) = false := bne_eq_false_iff_eq.mpr c2; clear c2; obtain rfl := Option.some.inj H
  go_enter Try.func91, Try.ntmps91
  go_wp2_with (first | ((with_reducible refine gate_dst (N := 1) rfl ?_); refine box_event ?hg (N := 1) ?hd (cs := #[.int .u64 a0_0, .int .u64 a0_1]) (t := 67) ?hr ?_; (case hd | hg => rfl); (case hr => first | (go_simp; done) | (go_simp; rfl)); intro gbbM hg w3 hbox hb; have n0_ := Zq122; have n1_ := Ak (hbox); have n2_ := Zq195; have n3_ := Zq195; clear HB; have HB := n0_; have BKbM := n1_; have GWbM := n2_; have GEbM := n3_; clear n0_ n1_ n2_ n3_ hb hbox hg; have hcz4_0 : w3.cell? ⟨gbbM, 0, none⟩ = some (.int .u64 a0_0) := (blk_cell BKbM.out 0).trans rfl; have hcz4_1 : w3.cell? ⟨gbbM, 1, none⟩ = some (.int .u64 a0_1) := (blk_cell BKbM.out 1).trans rfl; have hfz4_0 := blk_frozen BKbM.out 0; have hfz4_1 := blk_frozen BKbM.out 1))
  go_ret
  exact ⟨Zq10, by repeat (first | (with_reducible first | exact HB.out | apply below_alloc | apply pw_below_drewN | apply below_drew1 | refine below_set ?_ GEbM.out) | exact HB.out)⟩
 ·rw [if_neg c2] at H; have c2b0 : (a0_1 == 0) = false := beq_eq_false_iff_ne.mpr c2; have c2b1 : (a0_1 != 0) = true := bne_iff_ne.mpr c2; obtain rfl := Option.some.inj H
  go_enter Try.func91, Try.ntmps91
  go_wp2_with (first | ((with_reducible refine gate_dst (N := 1) rfl ?_); refine box_event ?hg (N := 1) ?hd (cs := #[.int .u64 a0_0, .int .u64 a0_1]) (t := 67) ?hr ?_; (case hd | hg => rfl); (case hr => first | (go_simp; done) | (go_simp; rfl)); intro gbbM hg w5 hbox hb; have n0_ := Zq122; have n1_ := Ak (hbox); have n2_ := Zq195; have n3_ := Zq195; clear HB; have HB := n0_; have BKbM := n1_; have GWbM := n2_; have GEbM := n3_; clear n0_ n1_ n2_ n3_ hb hbox hg; have hcz6_0 : w5.cell? ⟨gbbM, 0, none⟩ = some (.int .u64 a0_0) := (blk_cell BKbM.out 0).trans rfl; have hcz6_1 : w5.cell? ⟨gbbM, 1, none⟩ = some (.int .u64 a0_1) := (blk_cell BKbM.out 1).trans rfl; have hfz6_0 := blk_frozen BKbM.out 0; have hfz6_1 := blk_frozen BKbM.out 1))
  go_ret
  exact ⟨Zq10, by repeat (first | (with_reducible first | exact HB.out | apply below_alloc | apply pw_below_drewN | apply below_drew1 | refine below_set ?_ GEbM.out) | exact HB.out)⟩
def region_Inside.f (a0_0 : Int) (a0_1 : Int) (a1 : Int) (a2 : Int) : Option (Bool) := (region_whole.f a0_0 a0_1).bind fun ten => (if ten = true then ((region_whole.f a1 a2).bind fun tcW => (if tcW = true then (if a2 > 0 then (if a1 ≥ a0_0 then (if (IntKind.u64.wrap (a1 - a0_0)) < a0_1 then (some (decide (a2 ≤ (IntKind.u64.wrap (a0_1 - (IntKind.u64.wrap (a1 - a0_0))))))) else (some false)) else (some false)) else (some false)) else (some false))) else (some false))
set_option maxHeartbeats 8000000 in
set_option maxRecDepth 100000 in
theorem region_Inside.calls (a0_0 : Int) (a0_1 : Int) (a1 : Int) (a2 : Int) (r : Bool) (w : World) (h : region_Inside.f a0_0 a0_1 a1 a2 = some r) :
  Calls Try.prog 76 #[.agg #[.int .u64 a0_0, .int .u64 a0_1], .int .u64 a1, .int .u64 a2] w fun e w' => e = .returned (.bool r) ∧ Below w.heap.size w w' := by
 have hu67 := Try.underlying67; have HB := Zq129; have H : ((region_whole.f a0_0 a0_1).bind fun ten => (if ten = true then ((region_whole.f a1 a2).bind fun tcW => (if tcW = true then (if a2 > 0 then (if a1 ≥ a0_0 then (if (IntKind.u64.wrap (a1 - a0_0)) < a0_1 then (some (decide (a2 ≤ (IntKind.u64.wrap (a0_1 - (IntKind.u64.wrap (a1 - a0_0))))))) else (some false)) else (some false)) else (some false)) else (some false))) else (some false))) = some r := h; clear h; replace H := Option.bind_eq_some_iff.mp H; obtain ⟨ten, A40, H⟩ := H; replace H : (if ten = true then ((region_whole.f a1 a2).bind fun tcW => (if tcW = true then (if a2 > 0 then (if a1 ≥ a0_0 then (if (IntKind.u64.wrap (a1 - a0_0)) < a0_1 then (some (decide (a2 ≤ (IntKind.u64.wrap (a0_1 - (IntKind.u64.wrap (a1 - a0_0))))))) else (some false)) else (some false)) else (some false)) else (some false))) else (some false)) = some r := H; have A4 := Ak A40; clear A40
 by_cases c5 : ten = true
 ·subst c5
  have H1 : ((region_whole.f a1 a2).bind fun tcW => (if tcW = true then (if a2 > 0 then (if a1 ≥ a0_0 then (if (IntKind.u64.wrap (a1 - a0_0)) < a0_1 then (some (decide (a2 ≤ (IntKind.u64.wrap (a0_1 - (IntKind.u64.wrap (a1 - a0_0))))))) else (some false)) else (some false)) else (some false)) else (some false))) = some r := by rw [if_pos rfl] at H; exact H
  clear H; have H := H1; clear H1; replace H := Option.bind_eq_some_iff.mp H; obtain ⟨tcW, A60, H⟩ := H; replace H : (if tcW = true then (if a2 > 0 then (if a1 ≥ a0_0 then (if (IntKind.u64.wrap (a1 - a0_0)) < a0_1 then (some (decide (a2 ≤ (IntKind.u64.wrap (a0_1 - (IntKind.u64.wrap (a1 - a0_0))))))) else (some false)) else (some false)) else (some false)) else (some false)) = some r := H; have A6 := Ak A60; clear A60
  by_cases c7 : tcW = true
  ·subst c7
   have H1 : (if a2 > 0 then (if a1 ≥ a0_0 then (if (IntKind.u64.wrap (a1 - a0_0)) < a0_1 then (some (decide (a2 ≤ (IntKind.u64.wrap (a0_1 - (IntKind.u64.wrap (a1 - a0_0))))))) else (some false)) else (some false)) else (some false)) = some r := by rw [if_pos rfl] at H; exact H
   clear H; have H := H1; clear H1
   by_cases c8 : a2 > 0
   ·rw [if_pos c8] at H; have c8b0 : decide (0 < a2) = true := decide_eq_true c8; clear c8
    by_cases c9 : a1 ≥ a0_0
    ·rw [if_pos c9] at H; have c9b0 : decide (a0_0 ≤ a1) = true := decide_eq_true c9; clear c9
     by_cases c10 : (IntKind.u64.wrap (a1 - a0_0)) < a0_1
     ·rw [if_pos c10] at H; have c10b0 : decide ((IntKind.u64.wrap (a1 - a0_0)) < a0_1) = true := decide_eq_true c10; clear c10; obtain rfl := Option.some.inj H
      go_enter Try.func76, Try.ntmps76
      go_wp2_with (first | ((with_reducible refine gate_dst (N := 3) rfl ?_); refine box_event ?hg (N := 3) ?hd (cs := #[.int .u64 a0_0, .int .u64 a0_1]) (t := 67) ?hr ?_; (case hd | hg => rfl); (case hr => first | (go_simp; done) | (go_simp; rfl)); intro gbau hg w11 hbox hb; have n0_ := Zq122; have n1_ := Ak (hbox); have n2_ := Zq136; have n3_ := Zq136; clear HB; have HB := n0_; have BKau := n1_; have GWau := n2_; have GEau := n3_; clear n0_ n1_ n2_ n3_ hb hbox hg; have hcz12_0 : w11.cell? ⟨gbau, 0, none⟩ = some (.int .u64 a0_0) := (blk_cell BKau.out 0).trans rfl; have hcz12_1 : w11.cell? ⟨gbau, 1, none⟩ = some (.int .u64 a0_1) := (blk_cell BKau.out 1).trans rfl; have hfz12_0 := blk_frozen BKau.out 0; have hfz12_1 := blk_frozen BKau.out 1) | ((with_reducible refine gate_callee (f := 91) rfl ?_); refine goesL_ (some 8) rfl rfl Try.func91 Zq2 rfl #[.agg #[.int .u64 a0_0, .int .u64 a0_1]] rfl Zq9 ?_; (with_reducible refine (region_whole.calls a0_0 a0_1 true _ A4.out).mono ?_); rintro e w13 ⟨rfl, hb⟩; refine ⟨_, rfl, ?_⟩; have n0_ := Zq130; have n1_ := Zq179; clear BKau HB; have BKau := n0_; have HB := n1_; clear n0_ n1_; (try clear hb); (try clear hb2); (try clear hk); (try clear hi)) | (go_at_call 91; (with_reducible refine (region_whole.calls a1 a2 true _ A6.out).mono ?_); rintro e w14 ⟨rfl, hb⟩; have n0_ := Zq130; have n1_ := Zq179; clear BKau HB; have BKau := n0_; have HB := n1_; clear n0_ n1_; (try clear hb); (try clear hb2); (try clear hk); (try clear hi); have hcz15_0 : w14.cell? ⟨gbau, 0, none⟩ = some (.int .u64 a0_0) := (blk_cell BKau.out 0).trans rfl; have hcz15_1 : w14.cell? ⟨gbau, 1, none⟩ = some (.int .u64 a0_1) := (blk_cell BKau.out 1).trans rfl; have hfz15_0 := blk_frozen BKau.out 0; have hfz15_1 := blk_frozen BKau.out 1))
      go_ret
      exact ⟨Zq10, Zq34⟩
     ·rw [if_neg c10] at H; have c10b0 : decide ((IntKind.u64.wrap (a1 - a0_0)) < a0_1) = false := decide_eq_false c10; clear c10; obtain rfl := Option.some.inj H
      go_enter Try.func76, Try.ntmps76
      go_wp2_with (first | ((with_reducible refine gate_dst (N := 3) rfl ?_); refine box_event ?hg (N := 3) ?hd (cs := #[.int .u64 a0_0, .int .u64 a0_1]) (t := 67) ?hr ?_; (case hd | hg => rfl); (case hr => first | (go_simp; done) | (go_simp; rfl)); intro gbau hg w16 hbox hb; have n0_ := Zq122; have n1_ := Ak (hbox); have n2_ := Zq136; have n3_ := Zq136; clear HB; have HB := n0_; have BKau := n1_; have GWau := n2_; have GEau := n3_; clear n0_ n1_ n2_ n3_ hb hbox hg; have hcz17_0 : w16.cell? ⟨gbau, 0, none⟩ = some (.int .u64 a0_0) := (blk_cell BKau.out 0).trans rfl; have hcz17_1 : w16.cell? ⟨gbau, 1, none⟩ = some (.int .u64 a0_1) := (blk_cell BKau.out 1).trans rfl; have hfz17_0 := blk_frozen BKau.out 0; have hfz17_1 := blk_frozen BKau.out 1) | ((with_reducible refine gate_callee (f := 91) rfl ?_); refine goesL_ (some 8) rfl rfl Try.func91 Zq2 rfl #[.agg #[.int .u64 a0_0, .int .u64 a0_1]] rfl Zq9 ?_; (with_reducible refine (region_whole.calls a0_0 a0_1 true _ A4.out).mono ?_); rintro e w18 ⟨rfl, hb⟩; refine ⟨_, rfl, ?_⟩; have n0_ := Zq130; have n1_ := Zq179; clear BKau HB; have BKau := n0_; have HB := n1_; clear n0_ n1_; (try clear hb); (try clear hb2); (try clear hk); (try clear hi)) | (go_at_call 91; (with_reducible refine (region_whole.calls a1 a2 true _ A6.out).mono ?_); rintro e w19 ⟨rfl, hb⟩; have n0_ := Zq130; have n1_ := Zq179; clear BKau HB; have BKau := n0_; have HB := n1_; clear n0_ n1_; (try clear hb); (try clear hb2); (try clear hk); (try clear hi); have hcz20_0 : w19.cell? ⟨gbau, 0, none⟩ = some (.int .u64 a0_0) := (blk_cell BKau.out 0).trans rfl; have hcz20_1 : w19.cell? ⟨gbau, 1, none⟩ = some (.int .u64 a0_1) := (blk_cell BKau.out 1).trans rfl; have hfz20_0 := blk_frozen BKau.out 0; have hfz20_1 := blk_frozen BKau.out 1))
      go_ret
      exact ⟨Zq10, Zq34⟩
    ·rw [if_neg c9] at H; have c9b0 : decide (a0_0 ≤ a1) = false := decide_eq_false c9; clear c9; obtain rfl := Option.some.inj H
     go_enter Try.func76, Try.ntmps76
     go_wp2_with (first | ((with_reducible refine gate_dst (N := 3) rfl ?_); refine box_event ?hg (N := 3) ?hd (cs := #[.int .u64 a0_0, .int .u64 a0_1]) (t := 67) ?hr ?_; (case hd | hg => rfl); (case hr => first | (go_simp; done) | (go_simp; rfl)); intro gbau hg w21 hbox hb; have n0_ := Zq122; have n1_ := Ak (hbox); have n2_ := Zq136; have n3_ := Zq136; clear HB; have HB := n0_; have BKau := n1_; have GWau := n2_; have GEau := n3_; clear n0_ n1_ n2_ n3_ hb hbox hg; have hcz22_0 : w21.cell? ⟨gbau, 0, none⟩ = some (.int .u64 a0_0) := (blk_cell BKau.out 0).trans rfl; have hcz22_1 : w21.cell? ⟨gbau, 1, none⟩ = some (.int .u64 a0_1) := (blk_cell BKau.out 1).trans rfl; have hfz22_0 := blk_frozen BKau.out 0; have hfz22_1 := blk_frozen BKau.out 1) | ((with_reducible refine gate_callee (f := 91) rfl ?_); refine goesL_ (some 8) rfl rfl Try.func91 Zq2 rfl #[.agg #[.int .u64 a0_0, .int .u64 a0_1]] rfl Zq9 ?_; (with_reducible refine (region_whole.calls a0_0 a0_1 true _ A4.out).mono ?_); rintro e w23 ⟨rfl, hb⟩; refine ⟨_, rfl, ?_⟩; have n0_ := Zq130; have n1_ := Zq179; clear BKau HB; have BKau := n0_; have HB := n1_; clear n0_ n1_; (try clear hb); (try clear hb2); (try clear hk); (try clear hi)) | (go_at_call 91; (with_reducible refine (region_whole.calls a1 a2 true _ A6.out).mono ?_); rintro e w24 ⟨rfl, hb⟩; have n0_ := Zq130; have n1_ := Zq179; clear BKau HB; have BKau := n0_; have HB := n1_; clear n0_ n1_; (try clear hb); (try clear hb2); (try clear hk); (try clear hi); have hcz25_0 : w24.cell? ⟨gbau, 0, none⟩ = some (.int .u64 a0_0) := (blk_cell BKau.out 0).trans rfl; have hcz25_1 : w24.cell? ⟨gbau, 1, none⟩ = some (.int .u64 a0_1) := (blk_cell BKau.out 1).trans rfl; have hfz25_0 := blk_frozen BKau.out 0; have hfz25_1 := blk_frozen BKau.out 1))
     go_ret
     exact ⟨Zq10, Zq34⟩
   ·rw [if_neg c8] at H; have c8b0 : decide (0 < a2) = false := decide_eq_false c8; clear c8; obtain rfl := Option.some.inj H
    go_enter Try.func76, Try.ntmps76
    go_wp2_with (first | ((with_reducible refine gate_dst (N := 3) rfl ?_); refine box_event ?hg (N := 3) ?hd (cs := #[.int .u64 a0_0, .int .u64 a0_1]) (t := 67) ?hr ?_; (case hd | hg => rfl); (case hr => first | (go_simp; done) | (go_simp; rfl)); intro gbau hg w26 hbox hb; have n0_ := Zq122; have n1_ := Ak (hbox); have n2_ := Zq136; have n3_ := Zq136; clear HB; have HB := n0_; have BKau := n1_; have GWau := n2_; have GEau := n3_; clear n0_ n1_ n2_ n3_ hb hbox hg; have hcz27_0 : w26.cell? ⟨gbau, 0, none⟩ = some (.int .u64 a0_0) := (blk_cell BKau.out 0).trans rfl; have hcz27_1 : w26.cell? ⟨gbau, 1, none⟩ = some (.int .u64 a0_1) := (blk_cell BKau.out 1).trans rfl; have hfz27_0 := blk_frozen BKau.out 0; have hfz27_1 := blk_frozen BKau.out 1) | ((with_reducible refine gate_callee (f := 91) rfl ?_); refine goesL_ (some 8) rfl rfl Try.func91 Zq2 rfl #[.agg #[.int .u64 a0_0, .int .u64 a0_1]] rfl Zq9 ?_; (with_reducible refine (region_whole.calls a0_0 a0_1 true _ A4.out).mono ?_); rintro e w28 ⟨rfl, hb⟩; refine ⟨_, rfl, ?_⟩; have n0_ := Zq130; have n1_ := Zq179; clear BKau HB; have BKau := n0_; have HB := n1_; clear n0_ n1_; (try clear hb); (try clear hb2); (try clear hk); (try clear hi)) | (go_at_call 91; (with_reducible refine (region_whole.calls a1 a2 true _ A6.out).mono ?_); rintro e w29 ⟨rfl, hb⟩; have n0_ := Zq130; have n1_ := Zq179; clear BKau HB; have BKau := n0_; have HB := n1_; clear n0_ n1_; (try clear hb); (try clear hb2); (try clear hk); (try clear hi)))
    go_ret
    exact ⟨Zq10, Zq34⟩
  ·replace c7 := Bool.eq_false_iff.mpr c7; subst c7
   have H1 : (some false) = some r := by rw [if_neg (show ¬ (false = true) by decide)] at H; exact H
   clear H; have H := H1; clear H1; obtain rfl := Option.some.inj H
   go_enter Try.func76, Try.ntmps76
   go_wp2_with (first | ((with_reducible refine gate_dst (N := 3) rfl ?_); refine box_event ?hg (N := 3) ?hd (cs := #[.int .u64 a0_0, .int .u64 a0_1]) (t := 67) ?hr ?_; (case hd | hg => rfl); (case hr => first | (go_simp; done) | (go_simp; rfl)); intro gbau hg w30 hbox hb; have n0_ := Zq122; have n1_ := Ak (hbox); have n2_ := Zq136; have n3_ := Zq136; clear HB; have HB := n0_; have BKau := n1_; have GWau := n2_; have GEau := n3_; clear n0_ n1_ n2_ n3_ hb hbox hg; have hcz31_0 : w30.cell? ⟨gbau, 0, none⟩ = some (.int .u64 a0_0) := (blk_cell BKau.out 0).trans rfl; have hcz31_1 : w30.cell? ⟨gbau, 1, none⟩ = some (.int .u64 a0_1) := (blk_cell BKau.out 1).trans rfl; have hfz31_0 := blk_frozen BKau.out 0; have hfz31_1 := blk_frozen BKau.out 1) | ((with_reducible refine gate_callee (f := 91) rfl ?_); refine goesL_ (some 8) rfl rfl Try.func91 Zq2 rfl #[.agg #[.int .u64 a0_0, .int .u64 a0_1]] rfl Zq9 ?_; (with_reducible refine (region_whole.calls a0_0 a0_1 true _ A4.out).mono ?_); rintro e w32 ⟨rfl, hb⟩; refine ⟨_, rfl, ?_⟩; have n0_ := Zq130; have n1_ := Zq179; clear BKau HB; have BKau := n0_; have HB := n1_; clear n0_ n1_; (try clear hb); (try clear hb2); (try clear hk); (try clear hi)) | (go_at_call 91; (with_reducible refine (region_whole.calls a1 a2 false _ A6.out).mono ?_); rintro e w33 ⟨rfl, hb⟩; have n0_ := Zq130; have n1_ := Zq179; clear BKau HB; have BKau := n0_; have HB := n1_; clear n0_ n1_; (try clear hb); (try clear hb2); (try clear hk); (try clear hi)))
   go_ret
   exact ⟨Zq10, Zq34⟩
 ·replace c5 := Bool.eq_false_iff.mpr c5; subst c5
  have H1 : (some false) = some r := by rw [if_neg (show ¬ (false = true) by decide)] at H; exact H
  clear H; have H := H1; clear H1; obtain rfl := Option.some.inj H
  go_enter Try.func76, Try.ntmps76
  go_wp2_with (first | ((with_reducible refine gate_dst (N := 3) rfl ?_); refine box_event ?hg (N := 3) ?hd (cs := #[.int .u64 a0_0, .int .u64 a0_1]) (t := 67) ?hr ?_; (case hd | hg => rfl); (case hr => first | (go_simp; done) | (go_simp; rfl)); intro gbau hg w34 hbox hb; have n0_ := Zq122; have n1_ := Ak (hbox); have n2_ := Zq136; have n3_ := Zq136; clear HB; have HB := n0_; have BKau := n1_; have GWau := n2_; have GEau := n3_; clear n0_ n1_ n2_ n3_ hb hbox hg; have hcz35_0 : w34.cell? ⟨gbau, 0, none⟩ = some (.int .u64 a0_0) := (blk_cell BKau.out 0).trans rfl; have hcz35_1 : w34.cell? ⟨gbau, 1, none⟩ = some (.int .u64 a0_1) := (blk_cell BKau.out 1).trans rfl; have hfz35_0 := blk_frozen BKau.out 0; have hfz35_1 := blk_frozen BKau.out 1) | ((with_reducible refine gate_callee (f := 91) rfl ?_); refine goesL_ (some 8) rfl rfl Try.func91 Zq2 rfl #[.agg #[.int .u64 a0_0, .int .u64 a0_1]] rfl Zq9 ?_; (with_reducible refine (region_whole.calls a0_0 a0_1 false _ A4.out).mono ?_); rintro e w36 ⟨rfl, hb⟩; refine ⟨_, rfl, ?_⟩; have n0_ := Zq130; have n1_ := Zq179; clear BKau HB; have BKau := n0_; have HB := n1_; clear n0_ n1_; (try clear hb); (try clear hb2); (try clear hk); (try clear hi)))
  go_ret
  exact ⟨Zq10, Zq34⟩
def xlate_step.l0 : Nat → Int → Int → List (S46) → Int → Int → Option (Int × Int)
 | 0, _, _, _, _, _ => none
 | k + 1, x2, x3, x26, x27, x28 => if x28 < x27 then (if 0 ≤ x28 then (if x28 < (x26.length : Int) then ((region_Inside.f ((rd_T46 x26 x28).f0) ((rd_T46 x26 x28).f2) x2 x3).bind fun teN => (if teN = true then (if (IntKind.u64.wrap (x2 - ((rd_T46 x26 x28).f0))) > (IntKind.u64.wrap (18446744073709551615 - ((rd_T46 x26 x28).f1))) then (some (0, 12)) else (if (IntKind.u64.wrap (x3 - 1)) > (IntKind.u64.wrap (18446744073709551615 - (IntKind.u64.wrap (((rd_T46 x26 x28).f1) + (IntKind.u64.wrap (x2 - ((rd_T46 x26 x28).f0))))))) then (some (0, 12)) else (some (IntKind.u64.wrap (((rd_T46 x26 x28).f1) + (IntKind.u64.wrap (x2 - ((rd_T46 x26 x28).f0)))), 0)))) else (xlate_step.l0 k x2 x3 x26 x27 (wrap64 (x28 + 1))))) else (none)) else (none)) else (some (0, 12))
def xlate_step.f (k : Nat) (a0_0 : ByteArray) (l0_1 : List (S77)) (l0_2 : List (S30)) (a1_0 : ByteArray) (l1_1 : List (S77)) (l1_2 : List (S30)) (a2 : Int) (a3 : Int) : Option (Int × Int) := (xlate_Ranges.f k a0_0 l0_1 l0_2 a1_0 l1_1 l1_2).bind fun btaE => (if btaE.2.2 = 0 then (xlate_step.l0 k a2 a3 btaE.1 (btaE.1.length : Int) 0) else (some (0, btaE.2.2)))
theorem xlate_step.mono_l : ∀ k, (∀ y0 y1 y2 y3 y4, LeO (xlate_step.l0 k y0 y1 y2 y3 y4) (xlate_step.l0 (k + 1) y0 y1 y2 y3 y4))
 | 0 => fun _ _ _ _ _ r h => by simp [xlate_step.l0] at h
 | k + 1 => by
  have ih0 := xlate_step.mono_l k
  ·intro y0 y1 y2 y3 y4; unfold xlate_step.l0
   repeat' first | (with_reducible first | exact ih0 _ _ _ _ _ | exact xlate_Ranges.mono _ _ _ _ _ _ _ | exact LeO.refl _ | exact LeO.none _ | refine LeO.ite ?_ ?_ | refine LeO.bind ?_ (fun _ => ?_))
theorem xlate_step.mono : ∀ a0 a1 a2 a3 a4 a5 a6 a7 k, LeO (xlate_step.f k a0 a1 a2 a3 a4 a5 a6 a7) (xlate_step.f (k + 1) a0 a1 a2 a3 a4 a5 a6 a7) := by
 intro a0 a1 a2 a3 a4 a5 a6 a7 k; have ih0 := xlate_step.mono_l k; unfold xlate_step.f
 repeat' first | (with_reducible first | exact ih0 _ _ _ _ _ | exact xlate_Ranges.mono _ _ _ _ _ _ _ | exact LeO.refl _ | exact LeO.none _ | refine LeO.ite ?_ ?_ | refine LeO.bind ?_ (fun _ => ?_))
set_option maxHeartbeats 8000000 in
set_option maxRecDepth 100000 in
theorem xlate_step.calls (k : Nat) (a0_0 : ByteArray) (A0_1 : Option Addr) (c0_1 : Nat) (l0_1 : List (S77)) (A0_2 : Option Addr) (c0_2 : Nat) (l0_2 : List (S30)) (a1_0 : ByteArray) (A1_1 : Option Addr) (c1_1 : Nat) (l1_1 : List (S77)) (A1_2 : Option Addr) (c1_2 : Nat) (l1_2 : List (S30)) (a2 : Int) (a3 : Int) (r1 : Int) (r2 : Int) (w : World) (hr0_1 : Kd.C k77 w A0_1 l0_1.length l0_1) (hc0_1 : l0_1.length ≤ c0_1) (hr0_2 : Kd.C k30 w A0_2 l0_2.length l0_2) (hc0_2 : l0_2.length ≤ c0_2) (hr1_1 : Kd.C k77 w A1_1 l1_1.length l1_1) (hc1_1 : l1_1.length ≤ c1_1) (hr1_2 : Kd.C k30 w A1_2 l1_2.length l1_2) (hc1_2 : l1_2.length ≤ c1_2) (h : xlate_step.f k a0_0 l0_1 l0_2 a1_0 l1_1 l1_2 a2 a3 = some (r1, r2)) :
  Calls Try.prog 49 #[.agg #[.string a0_0, .slice A0_1 l0_1.length c0_1, .slice A0_2 l0_2.length c0_2], .agg #[.string a1_0, .slice A1_1 l1_1.length c1_1, .slice A1_2 l1_2.length c1_2], .int .u64 a2, .int .u64 a3] w fun e w' => e = .returned (.tuple #[.int .u64 r1, .int .i64 r2]) ∧ Below w.heap.size w w' := by
 have hu30 := Try.underlying30; have hu46 := Try.underlying46; have hu67 := Try.underlying67; have HR0_1 := Ak hr0_1; have HC0_1 := Ak hc0_1; clear hr0_1 hc0_1; have HR0_2 := Ak hr0_2; have HC0_2 := Ak hc0_2; clear hr0_2 hc0_2; have HR1_1 := Ak hr1_1; have HC1_1 := Ak hc1_1; clear hr1_1 hc1_1; have HR1_2 := Ak hr1_2; have HC1_2 := Ak hc1_2; clear hr1_2 hc1_2; have HB := Zq129; have H : ((xlate_Ranges.f k a0_0 l0_1 l0_2 a1_0 l1_1 l1_2).bind fun btaE => (if btaE.2.2 = 0 then (xlate_step.l0 k a2 a3 btaE.1 (btaE.1.length : Int) 0) else (some (0, btaE.2.2)))) = some (r1, r2) := h; clear h; replace H := Option.bind_eq_some_iff.mp H; obtain ⟨⟨taE, tfE, tdm⟩, A50, H⟩ := H; replace H : (if tdm = 0 then (xlate_step.l0 k a2 a3 taE (taE.length : Int) 0) else (some (0, tdm))) = some (r1, r2) := H; have A5 := Ak A50; clear A50
 by_cases c6 : tdm = 0
 ·rw [if_pos c6] at H; have c6b0 : (tdm == 0) = true := beq_iff_eq.mpr c6; have c6b1 : (tdm != 0) = false := bne_eq_false_iff_eq.mpr c6; clear c6; have H' := Ak H; clear H
  go_enter Try.func49, Try.ntmps49
  go_wp2_with (first | ((with_reducible refine gate_dst (N := 4) rfl ?_); refine box_event ?hg (N := 4) ?hd (cs := #[.string a0_0, .slice A0_1 l0_1.length c0_1, .slice A0_2 l0_2.length c0_2]) (t := 30) ?hr ?_; (case hd | hg => rfl); (case hr => first | (go_simp; done) | (go_simp; rfl)); intro gbaP hg w7 hbox hb; have n0_ := Zq122; have n1_ := Ak (hbox); have n2_ := Zq196; have n3_ := Zq196; clear HB; have HB := n0_; have BKaP := n1_; have GWaP := n2_; have GEaP := n3_; clear n0_ n1_ n2_ n3_ hb hbox hg) | ((with_reducible refine gate_dst (N := 5) rfl ?_); refine box_event ?hg (N := 5) ?hd (cs := #[.string a1_0, .slice A1_1 l1_1.length c1_1, .slice A1_2 l1_2.length c1_2]) (t := 30) ?hr ?_; (case hd | hg => rfl); (case hr => first | (go_simp; done) | (go_simp; rfl)); intro gbaW hg w8 hbox hb; have n0_ := Zq131; have n1_ := Ak (below_step Zq80 hb); have n2_ := Ak (hbox); have n3_ := Zq189; have n4_ := Zq189; have n5_ := Ak ((by rw [hg]; exact Nat.ne_of_lt Zq125 : gbaP ≠ gbaW)); have n6_ := Ak ((by rw [hg]; exact Nat.ne_of_gt Zq125 : gbaW ≠ gbaP)); clear BKaP HB; have BKaP := n0_; have HB := n1_; have BKaW := n2_; have GWaW := n3_; have GEaW := n4_; have NB240_241 := n5_; have NB241_240 := n6_; clear n0_ n1_ n2_ n3_ n4_ n5_ n6_ hb hbox hg; have hnb9 := NB240_241.out; have hnc9 := NB241_240.out; have hcz10_0 : w8.cell? ⟨gbaP, 0, none⟩ = some (.string a0_0) := (blk_cell BKaP.out 0).trans rfl; have hcz10_1 : w8.cell? ⟨gbaP, 1, none⟩ = some (.slice A0_1 l0_1.length c0_1) := (blk_cell BKaP.out 1).trans rfl; have hcz10_2 : w8.cell? ⟨gbaP, 2, none⟩ = some (.slice A0_2 l0_2.length c0_2) := (blk_cell BKaP.out 2).trans rfl; have hfz10_0 := blk_frozen BKaP.out 0; have hfz10_1 := blk_frozen BKaP.out 1; have hfz10_2 := blk_frozen BKaP.out 2; have hcz11_0 : w8.cell? ⟨gbaW, 0, none⟩ = some (.string a1_0) := (blk_cell BKaW.out 0).trans rfl; have hcz11_1 : w8.cell? ⟨gbaW, 1, none⟩ = some (.slice A1_1 l1_1.length c1_1) := (blk_cell BKaW.out 1).trans rfl; have hcz11_2 : w8.cell? ⟨gbaW, 2, none⟩ = some (.slice A1_2 l1_2.length c1_2) := (blk_cell BKaW.out 2).trans rfl; have hfz11_0 := blk_frozen BKaW.out 0; have hfz11_1 := blk_frozen BKaW.out 1; have hfz11_2 := blk_frozen BKaW.out 2) | ((with_reducible refine gate_callee (f := 17) rfl ?_); refine goesL_ (some 19) rfl rfl Try.func17 Zq2 rfl #[.agg #[.string a0_0, .slice A0_1 l0_1.length c0_1, .slice A0_2 l0_2.length c0_2], .agg #[.string a1_0, .slice A1_1 l1_1.length c1_1, .slice A1_2 l1_2.length c1_2]] rfl Zq9 ?_; (with_reducible refine (xlate_Ranges.calls k a0_0 _ _ l0_1 _ _ l0_2 a1_0 _ _ l1_1 _ _ l1_2 taE tfE tdm _ ?side1 ?side2 ?side3 ?side4 ?side5 ?side6 ?side7 ?side8 A5.out).mono ?_); (case side1 => repeat (first | exact Zq126 | (with_reducible refine Kd.C_alloc ?_ _) | (with_reducible refine Kd.C_drewN ?_ _) | (with_reducible refine Kd.C_drew ?_))); (case side2 => exact HC0_1.out); (case side3 => repeat (first | exact Zq142 | (with_reducible refine Kd.C_alloc ?_ _) | (with_reducible refine Kd.C_drewN ?_ _) | (with_reducible refine Kd.C_drew ?_))); (case side4 => exact HC0_2.out); (case side5 => repeat (first | exact Zq176 | (with_reducible refine Kd.C_alloc ?_ _) | (with_reducible refine Kd.C_drewN ?_ _) | (with_reducible refine Kd.C_drew ?_))); (case side6 => exact HC1_1.out); (case side7 => repeat (first | exact Zq177 | (with_reducible refine Kd.C_alloc ?_ _) | (with_reducible refine Kd.C_drewN ?_ _) | (with_reducible refine Kd.C_drew ?_))); (case side8 => exact HC1_2.out); rintro e w12 ⟨v243, rfl, ho0, hb⟩; refine ⟨_, rfl, ?_⟩; have n0_ := Ak (Kd.R_lower ho0 (below_size Zq28)); have n1_ := Zq131; have n2_ := Zq140; have n3_ := Zq214; clear BKaP BKaW HB; have HOfj := n0_; have BKaP := n1_; have BKaW := n2_; have HB := n3_; clear n0_ n1_ n2_ n3_; (try clear hb); (try clear hb2); (try clear hk); (try clear hi); (try clear ho0); obtain ⟨Ao13, co13, eo13⟩ := Kd.R_slice HOfj.out; subst eo13))
  go_loopg [28] k (fun kq v28 w' => ∃ (x28_1 : Int), v28 = .int .i64 x28_1 ∧ Aside0 (xlate_step.l0 kq a2 a3 taE (taE.length : Int) x28_1 = some (r1, r2)) ∧ Aside0 (kq ≤ k) ∧ Aside0 (Kd.R k46 46 w' w.heap.size (fun _ => True) (.slice Ao13 taE.length co13) taE) ∧ Aside0 (w'.heap[gbaP]? = some (.cells #[.string a0_0, (.slice A0_1 l0_1.length c0_1), (.slice A0_2 l0_2.length c0_2)] 30 (0, 0))) ∧ Aside0 (w'.heap[gbaW]? = some (.cells #[.string a1_0, (.slice A1_1 l1_1.length c1_1), (.slice A1_2 l1_2.length c1_2)] 30 (0, 0))) ∧ Aside0 (Below w.heap.size w w'))
  case atStart => exact ⟨(0), Zq6, H', ⟨Nat.le_refl _⟩, ⟨by (with_reducible repeat (first | apply Kd.R_alloc | apply Kd.R_drewN | apply Kd.R_drew)); exact HOfj.out⟩, ⟨Zq24⟩, ⟨Zq37⟩, ⟨Zq28⟩⟩
  case round =>
   clear H'
   try clear c1
   try clear p2
   try clear c4
   try clear c6
   try clear c6b0
   try clear c6b1
   try clear c9
   try clear hcz10_0
   try clear hcz10_1
   try clear hcz10_2
   try clear hcz11_0
   try clear hcz11_1
   try clear hcz11_2
   try clear hfz10_0
   try clear hfz10_1
   try clear hfz10_2
   try clear hfz11_0
   try clear hfz11_1
   try clear hfz11_2
   obtain ⟨x28_1, rfl, HA, HK1, HO_26, BKaP, BKaW, HB⟩ := hrel
   cases gk with
   | zero => exact absurd HA.out (by simp [xlate_step.l0])
   | succ k1 =>
    have H := HA.out; clear HA; simp only [xlate_step.l0] at H
    by_cases c14 : x28_1 < (taE.length : Int)
    ·rw [if_pos c14] at H; have c14b0 : decide (x28_1 < (taE.length : Int)) = true := decide_eq_true c14; clear c14
     by_cases c15 : 0 ≤ x28_1
     ·rw [if_pos c15] at H; have c15b0 : decide (0 ≤ x28_1) = true := decide_eq_true c15; clear c15
      by_cases c16 : x28_1 < (taE.length : Int)
      ·rw [if_pos c16] at H; have c16b0 : decide (x28_1 < (taE.length : Int)) = true := decide_eq_true c16; clear c16; replace H := Option.bind_eq_some_iff.mp H; obtain ⟨teN, Afi, H⟩ := H; replace H : (if teN = true then (if (IntKind.u64.wrap (a2 - ((rd_T46 taE x28_1).f0))) > (IntKind.u64.wrap (18446744073709551615 - ((rd_T46 taE x28_1).f1))) then (some (0, 12)) else (if (IntKind.u64.wrap (a3 - 1)) > (IntKind.u64.wrap (18446744073709551615 - (IntKind.u64.wrap (((rd_T46 taE x28_1).f1) + (IntKind.u64.wrap (a2 - ((rd_T46 taE x28_1).f0))))))) then (some (0, 12)) else (some (IntKind.u64.wrap (((rd_T46 taE x28_1).f1) + (IntKind.u64.wrap (a2 - ((rd_T46 taE x28_1).f0)))), 0)))) else (xlate_step.l0 k1 a2 a3 taE (taE.length : Int) (wrap64 (x28_1 + 1)))) = some (r1, r2) := H; have A17 := Ak Afi; clear Afi
       by_cases c18 : teN = true
       ·subst c18
        have H1 : (if (IntKind.u64.wrap (a2 - ((rd_T46 taE x28_1).f0))) > (IntKind.u64.wrap (18446744073709551615 - ((rd_T46 taE x28_1).f1))) then (some (0, 12)) else (if (IntKind.u64.wrap (a3 - 1)) > (IntKind.u64.wrap (18446744073709551615 - (IntKind.u64.wrap (((rd_T46 taE x28_1).f1) + (IntKind.u64.wrap (a2 - ((rd_T46 taE x28_1).f0))))))) then (some (0, 12)) else (some (IntKind.u64.wrap (((rd_T46 taE x28_1).f1) + (IntKind.u64.wrap (a2 - ((rd_T46 taE x28_1).f0)))), 0)))) = some (r1, r2) := by rw [if_pos rfl] at H; exact H
        clear H; have H := H1; clear H1
        by_cases c19 : (IntKind.u64.wrap (a2 - ((rd_T46 taE x28_1).f0))) > (IntKind.u64.wrap (18446744073709551615 - ((rd_T46 taE x28_1).f1)))
        ·rw [if_pos c19] at H; have c19b0 : decide ((IntKind.u64.wrap (18446744073709551615 - ((rd_T46 taE x28_1).f1))) < (IntKind.u64.wrap (a2 - ((rd_T46 taE x28_1).f0)))) = true := decide_eq_true c19; clear c19; simp only [Option.some.injEq, Prod.mk.injEq] at H; obtain ⟨rfl, rfl⟩ := H; have p247 : 0 ≤ (x28_1 : Int) := of_decide_eq_true Zq4; have q247 : x28_1 < (taE.length : Int) := of_decide_eq_true Zq4; obtain ⟨adfk, e247, hx247_0, hx247_1, hx247_2⟩ := at_T46 (Kd.R_reads' HO_26.out).2.2 x28_1 p247 q247
         cases e247
         replace p247 := eq_true p247; replace q247 := eq_true q247
         go_wp2_with (first | ((with_reducible refine gate_dst (N := 14) rfl ?_); refine box_event ?hg (N := 14) ?hd (cs := #[.int .u64 0, .int .u64 0, .int .u64 0]) (t := 46) ?hr ?_; (case hd | hg => rfl); (case hr => first | (go_simp; done) | (go_simp; rfl)); intro gbav hg w20 hbox hb; have n0_ := Zq185; have n1_ := Zq131; have n2_ := Zq140; have n3_ := Zq214; have n4_ := Ak (hbox); have n5_ := Zq151; have n6_ := Zq151; have n7_ := Zq234; have n8_ := Zq235; have n9_ := Zq236; have n10_ := Zq237; clear HO_26 BKaP BKaW HB; have HO_26 := n0_; have BKaP := n1_; have BKaW := n2_; have HB := n3_; have BKav := n4_; have GWav := n5_; have GEav := n6_; have NB240_248 := n7_; have NB248_240 := n8_; have NB241_248 := n9_; have NB248_241 := n10_; clear n0_ n1_ n2_ n3_ n4_ n5_ n6_ n7_ n8_ n9_ n10_ hb hbox hg; have hnb21 := NB248_240.out; have hnc21 := NB240_248.out; have hnb22 := NB248_241.out; have hnc22 := NB241_248.out; have hcz23_0 : w20.cell? ⟨gbav, 0, none⟩ = some (.int .u64 0) := (blk_cell BKav.out 0).trans rfl; have hcz23_1 : w20.cell? ⟨gbav, 1, none⟩ = some (.int .u64 0) := (blk_cell BKav.out 1).trans rfl; have hcz23_2 : w20.cell? ⟨gbav, 2, none⟩ = some (.int .u64 0) := (blk_cell BKav.out 2).trans rfl; have hfz23_0 := blk_frozen BKav.out 0; have hfz23_1 := blk_frozen BKav.out 1; have hfz23_2 := blk_frozen BKav.out 2) | ((with_reducible refine gate_callee (f := 76) rfl ?_); refine goesL_ (some 39) rfl rfl Try.func76 Zq2 rfl #[.agg #[.int .u64 ((rd_T46 taE x28_1).f0), .int .u64 ((rd_T46 taE x28_1).f2)], .int .u64 a2, .int .u64 a3] rfl Zq9 ?_; (with_reducible refine (region_Inside.calls ((rd_T46 taE x28_1).f0) ((rd_T46 taE x28_1).f2) a2 a3 true _ A17.out).mono ?_); rintro e w24 ⟨rfl, hb⟩; refine ⟨_, rfl, ?_⟩; have n0_ := Ak (Kd.R_below Zq104 hb); have n1_ := Zq160; have n2_ := Zq161; have n3_ := Zq147; have n4_ := Ak (below_step Zq66 hb); clear HO_26 BKaP BKaW BKav HB; have HO_26 := n0_; have BKaP := n1_; have BKaW := n2_; have BKav := n3_; have HB := n4_; clear n0_ n1_ n2_ n3_ n4_; (try clear hb); (try clear hb2); (try clear hk); (try clear hi); have hcz25_0 : w24.cell? ⟨gbav, 0, none⟩ = some (.int .u64 ((rd_T46 taE x28_1).f0)) := (blk_cell BKav.out 0).trans rfl; have hcz25_1 : w24.cell? ⟨gbav, 1, none⟩ = some (.int .u64 ((rd_T46 taE x28_1).f1)) := (blk_cell BKav.out 1).trans rfl; have hcz25_2 : w24.cell? ⟨gbav, 2, none⟩ = some (.int .u64 ((rd_T46 taE x28_1).f2)) := (blk_cell BKav.out 2).trans rfl; have hfz25_0 := blk_frozen BKav.out 0; have hfz25_1 := blk_frozen BKav.out 1; have hfz25_2 := blk_frozen BKav.out 2))
         go_ret2
         exact ⟨Zq10, Zq66⟩
        ·rw [if_neg c19] at H; have c19b0 : decide ((IntKind.u64.wrap (18446744073709551615 - ((rd_T46 taE x28_1).f1))) < (IntKind.u64.wrap (a2 - ((rd_T46 taE x28_1).f0)))) = false := decide_eq_false c19; clear c19
         by_cases c26 : (IntKind.u64.wrap (a3 - 1)) > (IntKind.u64.wrap (18446744073709551615 - (IntKind.u64.wrap (((rd_T46 taE x28_1).f1) + (IntKind.u64.wrap (a2 - ((rd_T46 taE x28_1).f0)))))))
         ·rw [if_pos c26] at H; have c26b0 : decide ((IntKind.u64.wrap (18446744073709551615 - (IntKind.u64.wrap (((rd_T46 taE x28_1).f1) + (IntKind.u64.wrap (a2 - ((rd_T46 taE x28_1).f0))))))) < (IntKind.u64.wrap (a3 - 1))) = true := decide_eq_true c26; clear c26; simp only [Option.some.injEq, Prod.mk.injEq] at H; obtain ⟨rfl, rfl⟩ := H; have p247 : 0 ≤ (x28_1 : Int) := of_decide_eq_true Zq4; have q247 : x28_1 < (taE.length : Int) := of_decide_eq_true Zq4; obtain ⟨adfk, e247, hx247_0, hx247_1, hx247_2⟩ := at_T46 (Kd.R_reads' HO_26.out).2.2 x28_1 p247 q247
          cases e247
          replace p247 := eq_true p247; replace q247 := eq_true q247
          go_wp2_with (first | ((with_reducible refine gate_dst (N := 14) rfl ?_); refine box_event ?hg (N := 14) ?hd (cs := #[.int .u64 0, .int .u64 0, .int .u64 0]) (t := 46) ?hr ?_; (case hd | hg => rfl); (case hr => first | (go_simp; done) | (go_simp; rfl)); intro gbav hg w27 hbox hb; have n0_ := Zq185; have n1_ := Zq131; have n2_ := Zq140; have n3_ := Zq214; have n4_ := Ak (hbox); have n5_ := Zq151; have n6_ := Zq151; have n7_ := Zq234; have n8_ := Zq235; have n9_ := Zq236; have n10_ := Zq237; clear HO_26 BKaP BKaW HB; have HO_26 := n0_; have BKaP := n1_; have BKaW := n2_; have HB := n3_; have BKav := n4_; have GWav := n5_; have GEav := n6_; have NB240_248 := n7_; have NB248_240 := n8_; have NB241_248 := n9_; have NB248_241 := n10_; clear n0_ n1_ n2_ n3_ n4_ n5_ n6_ n7_ n8_ n9_ n10_ hb hbox hg; have hnb28 := NB248_240.out; have hnc28 := NB240_248.out; have hnb29 := NB248_241.out; have hnc29 := NB241_248.out; have hcz30_0 : w27.cell? ⟨gbav, 0, none⟩ = some (.int .u64 0) := (blk_cell BKav.out 0).trans rfl; have hcz30_1 : w27.cell? ⟨gbav, 1, none⟩ = some (.int .u64 0) := (blk_cell BKav.out 1).trans rfl; have hcz30_2 : w27.cell? ⟨gbav, 2, none⟩ = some (.int .u64 0) := (blk_cell BKav.out 2).trans rfl; have hfz30_0 := blk_frozen BKav.out 0; have hfz30_1 := blk_frozen BKav.out 1; have hfz30_2 := blk_frozen BKav.out 2) | ((with_reducible refine gate_callee (f := 76) rfl ?_); refine goesL_ (some 39) rfl rfl Try.func76 Zq2 rfl #[.agg #[.int .u64 ((rd_T46 taE x28_1).f0), .int .u64 ((rd_T46 taE x28_1).f2)], .int .u64 a2, .int .u64 a3] rfl Zq9 ?_; (with_reducible refine (region_Inside.calls ((rd_T46 taE x28_1).f0) ((rd_T46 taE x28_1).f2) a2 a3 true _ A17.out).mono ?_); rintro e w31 ⟨rfl, hb⟩; refine ⟨_, rfl, ?_⟩; have n0_ := Ak (Kd.R_below Zq104 hb); have n1_ := Zq160; have n2_ := Zq161; have n3_ := Zq147; have n4_ := Ak (below_step Zq66 hb); clear HO_26 BKaP BKaW BKav HB; have HO_26 := n0_; have BKaP := n1_; have BKaW := n2_; have BKav := n3_; have HB := n4_; clear n0_ n1_ n2_ n3_ n4_; (try clear hb); (try clear hb2); (try clear hk); (try clear hi); have hcz32_0 : w31.cell? ⟨gbav, 0, none⟩ = some (.int .u64 ((rd_T46 taE x28_1).f0)) := (blk_cell BKav.out 0).trans rfl; have hcz32_1 : w31.cell? ⟨gbav, 1, none⟩ = some (.int .u64 ((rd_T46 taE x28_1).f1)) := (blk_cell BKav.out 1).trans rfl; have hcz32_2 : w31.cell? ⟨gbav, 2, none⟩ = some (.int .u64 ((rd_T46 taE x28_1).f2)) := (blk_cell BKav.out 2).trans rfl; have hfz32_0 := blk_frozen BKav.out 0; have hfz32_1 := blk_frozen BKav.out 1; have hfz32_2 := blk_frozen BKav.out 2))
          go_ret2
          exact ⟨Zq10, Zq66⟩
         ·rw [if_neg c26] at H; have c26b0 : decide ((IntKind.u64.wrap (18446744073709551615 - (IntKind.u64.wrap (((rd_T46 taE x28_1).f1) + (IntKind.u64.wrap (a2 - ((rd_T46 taE x28_1).f0))))))) < (IntKind.u64.wrap (a3 - 1))) = false := decide_eq_false c26; clear c26; simp only [Option.some.injEq, Prod.mk.injEq] at H; obtain ⟨rfl, rfl⟩ := H; have p247 : 0 ≤ (x28_1 : Int) := of_decide_eq_true Zq4; have q247 : x28_1 < (taE.length : Int) := of_decide_eq_true Zq4; obtain ⟨adfk, e247, hx247_0, hx247_1, hx247_2⟩ := at_T46 (Kd.R_reads' HO_26.out).2.2 x28_1 p247 q247
          cases e247
          replace p247 := eq_true p247; replace q247 := eq_true q247
          go_wp2_with (first | ((with_reducible refine gate_dst (N := 14) rfl ?_); refine box_event ?hg (N := 14) ?hd (cs := #[.int .u64 0, .int .u64 0, .int .u64 0]) (t := 46) ?hr ?_; (case hd | hg => rfl); (case hr => first | (go_simp; done) | (go_simp; rfl)); intro gbav hg w33 hbox hb; have n0_ := Zq185; have n1_ := Zq131; have n2_ := Zq140; have n3_ := Zq214; have n4_ := Ak (hbox); have n5_ := Zq151; have n6_ := Zq151; have n7_ := Zq234; have n8_ := Zq235; have n9_ := Zq236; have n10_ := Zq237; clear HO_26 BKaP BKaW HB; have HO_26 := n0_; have BKaP := n1_; have BKaW := n2_; have HB := n3_; have BKav := n4_; have GWav := n5_; have GEav := n6_; have NB240_248 := n7_; have NB248_240 := n8_; have NB241_248 := n9_; have NB248_241 := n10_; clear n0_ n1_ n2_ n3_ n4_ n5_ n6_ n7_ n8_ n9_ n10_ hb hbox hg; have hnb34 := NB248_240.out; have hnc34 := NB240_248.out; have hnb35 := NB248_241.out; have hnc35 := NB241_248.out; have hcz36_0 : w33.cell? ⟨gbav, 0, none⟩ = some (.int .u64 0) := (blk_cell BKav.out 0).trans rfl; have hcz36_1 : w33.cell? ⟨gbav, 1, none⟩ = some (.int .u64 0) := (blk_cell BKav.out 1).trans rfl; have hcz36_2 : w33.cell? ⟨gbav, 2, none⟩ = some (.int .u64 0) := (blk_cell BKav.out 2).trans rfl; have hfz36_0 := blk_frozen BKav.out 0; have hfz36_1 := blk_frozen BKav.out 1; have hfz36_2 := blk_frozen BKav.out 2) | ((with_reducible refine gate_callee (f := 76) rfl ?_); refine goesL_ (some 39) rfl rfl Try.func76 Zq2 rfl #[.agg #[.int .u64 ((rd_T46 taE x28_1).f0), .int .u64 ((rd_T46 taE x28_1).f2)], .int .u64 a2, .int .u64 a3] rfl Zq9 ?_; (with_reducible refine (region_Inside.calls ((rd_T46 taE x28_1).f0) ((rd_T46 taE x28_1).f2) a2 a3 true _ A17.out).mono ?_); rintro e w37 ⟨rfl, hb⟩; refine ⟨_, rfl, ?_⟩; have n0_ := Ak (Kd.R_below Zq104 hb); have n1_ := Zq160; have n2_ := Zq161; have n3_ := Zq147; have n4_ := Ak (below_step Zq66 hb); clear HO_26 BKaP BKaW BKav HB; have HO_26 := n0_; have BKaP := n1_; have BKaW := n2_; have BKav := n3_; have HB := n4_; clear n0_ n1_ n2_ n3_ n4_; (try clear hb); (try clear hb2); (try clear hk); (try clear hi); have hcz38_0 : w37.cell? ⟨gbav, 0, none⟩ = some (.int .u64 ((rd_T46 taE x28_1).f0)) := (blk_cell BKav.out 0).trans rfl; have hcz38_1 : w37.cell? ⟨gbav, 1, none⟩ = some (.int .u64 ((rd_T46 taE x28_1).f1)) := (blk_cell BKav.out 1).trans rfl; have hcz38_2 : w37.cell? ⟨gbav, 2, none⟩ = some (.int .u64 ((rd_T46 taE x28_1).f2)) := (blk_cell BKav.out 2).trans rfl; have hfz38_0 := blk_frozen BKav.out 0; have hfz38_1 := blk_frozen BKav.out 1; have hfz38_2 := blk_frozen BKav.out 2))
          go_ret2
          exact ⟨Zq10, Zq66⟩
       ·replace c18 := Bool.eq_false_iff.mpr c18; subst c18
        have H1 : (xlate_step.l0 k1 a2 a3 taE (taE.length : Int) (wrap64 (x28_1 + 1))) = some (r1, r2) := by rw [if_neg (show ¬ (false = true) by decide)] at H; exact H
        clear H; have H := H1; clear H1; have H' := Ak H; clear H; have p247 : 0 ≤ (x28_1 : Int) := of_decide_eq_true Zq4; have q247 : x28_1 < (taE.length : Int) := of_decide_eq_true Zq4; obtain ⟨adfk, e247, hx247_0, hx247_1, hx247_2⟩ := at_T46 (Kd.R_reads' HO_26.out).2.2 x28_1 p247 q247
        cases e247
        replace p247 := eq_true p247; replace q247 := eq_true q247
        go_wp2_with (first | ((with_reducible refine gate_dst (N := 14) rfl ?_); refine box_event ?hg (N := 14) ?hd (cs := #[.int .u64 0, .int .u64 0, .int .u64 0]) (t := 46) ?hr ?_; (case hd | hg => rfl); (case hr => first | (go_simp; done) | (go_simp; rfl)); intro gbav hg w39 hbox hb; have n0_ := Zq185; have n1_ := Zq131; have n2_ := Zq140; have n3_ := Zq214; have n4_ := Ak (hbox); have n5_ := Zq151; have n6_ := Zq151; have n7_ := Zq234; have n8_ := Zq235; have n9_ := Zq236; have n10_ := Zq237; clear HO_26 BKaP BKaW HB; have HO_26 := n0_; have BKaP := n1_; have BKaW := n2_; have HB := n3_; have BKav := n4_; have GWav := n5_; have GEav := n6_; have NB240_248 := n7_; have NB248_240 := n8_; have NB241_248 := n9_; have NB248_241 := n10_; clear n0_ n1_ n2_ n3_ n4_ n5_ n6_ n7_ n8_ n9_ n10_ hb hbox hg; have hnb40 := NB248_240.out; have hnc40 := NB240_248.out; have hnb41 := NB248_241.out; have hnc41 := NB241_248.out; have hcz42_0 : w39.cell? ⟨gbav, 0, none⟩ = some (.int .u64 0) := (blk_cell BKav.out 0).trans rfl; have hcz42_1 : w39.cell? ⟨gbav, 1, none⟩ = some (.int .u64 0) := (blk_cell BKav.out 1).trans rfl; have hcz42_2 : w39.cell? ⟨gbav, 2, none⟩ = some (.int .u64 0) := (blk_cell BKav.out 2).trans rfl; have hfz42_0 := blk_frozen BKav.out 0; have hfz42_1 := blk_frozen BKav.out 1; have hfz42_2 := blk_frozen BKav.out 2) | ((with_reducible refine gate_callee (f := 76) rfl ?_); refine goesL_ (some 39) rfl rfl Try.func76 Zq2 rfl #[.agg #[.int .u64 ((rd_T46 taE x28_1).f0), .int .u64 ((rd_T46 taE x28_1).f2)], .int .u64 a2, .int .u64 a3] rfl Zq9 ?_; (with_reducible refine (region_Inside.calls ((rd_T46 taE x28_1).f0) ((rd_T46 taE x28_1).f2) a2 a3 false _ A17.out).mono ?_); rintro e w43 ⟨rfl, hb⟩; refine ⟨_, rfl, ?_⟩; have n0_ := Ak (Kd.R_below Zq104 hb); have n1_ := Zq160; have n2_ := Zq161; have n3_ := Zq147; have n4_ := Ak (below_step Zq66 hb); clear HO_26 BKaP BKaW BKav HB; have HO_26 := n0_; have BKaP := n1_; have BKaW := n2_; have BKav := n3_; have HB := n4_; clear n0_ n1_ n2_ n3_ n4_; (try clear hb); (try clear hb2); (try clear hk); (try clear hi)))
        go_roundg k1
        case measure => have := HK1.out; omega
        case rel => exact ⟨(wrap64 (x28_1 + 1)), Zq6, H', ⟨Zq26⟩, ⟨by (with_reducible repeat (first | apply Kd.R_alloc | apply Kd.R_drewN | apply Kd.R_drew)); exact Kd.R_mono HO_26.out (fun _ hk => trivial)⟩, ⟨Zq24⟩, ⟨Zq37⟩, ⟨Zq66⟩⟩
      ·rw [if_neg c16] at H; exact absurd H Zq8
     ·rw [if_neg c15] at H; exact absurd H Zq8
    ·rw [if_neg c14] at H; have c14b0 : decide (x28_1 < (taE.length : Int)) = false := decide_eq_false c14; clear c14; simp only [Option.some.injEq, Prod.mk.injEq] at H; obtain ⟨rfl, rfl⟩ := H
     go_wp2
     go_ret2
     exact ⟨Zq10, Zq28⟩
 ·rw [if_neg c6] at H; have c6b0 : (tdm == 0) = false := beq_eq_false_iff_ne.mpr c6; have c6b1 : (tdm != 0) = true := bne_iff_ne.mpr c6; simp only [Option.some.injEq, Prod.mk.injEq] at H; obtain ⟨rfl, rfl⟩ := H
  go_enter Try.func49, Try.ntmps49
  go_wp2_with (first | ((with_reducible refine gate_dst (N := 4) rfl ?_); refine box_event ?hg (N := 4) ?hd (cs := #[.string a0_0, .slice A0_1 l0_1.length c0_1, .slice A0_2 l0_2.length c0_2]) (t := 30) ?hr ?_; (case hd | hg => rfl); (case hr => first | (go_simp; done) | (go_simp; rfl)); intro gbaP hg w44 hbox hb; have n0_ := Zq122; have n1_ := Ak (hbox); have n2_ := Zq196; have n3_ := Zq196; clear HB; have HB := n0_; have BKaP := n1_; have GWaP := n2_; have GEaP := n3_; clear n0_ n1_ n2_ n3_ hb hbox hg) | ((with_reducible refine gate_dst (N := 5) rfl ?_); refine box_event ?hg (N := 5) ?hd (cs := #[.string a1_0, .slice A1_1 l1_1.length c1_1, .slice A1_2 l1_2.length c1_2]) (t := 30) ?hr ?_; (case hd | hg => rfl); (case hr => first | (go_simp; done) | (go_simp; rfl)); intro gbaW hg w45 hbox hb; have n0_ := Zq131; have n1_ := Ak (below_step Zq80 hb); have n2_ := Ak (hbox); have n3_ := Zq189; have n4_ := Zq189; have n5_ := Ak ((by rw [hg]; exact Nat.ne_of_lt Zq125 : gbaP ≠ gbaW)); have n6_ := Ak ((by rw [hg]; exact Nat.ne_of_gt Zq125 : gbaW ≠ gbaP)); clear BKaP HB; have BKaP := n0_; have HB := n1_; have BKaW := n2_; have GWaW := n3_; have GEaW := n4_; have NB240_241 := n5_; have NB241_240 := n6_; clear n0_ n1_ n2_ n3_ n4_ n5_ n6_ hb hbox hg; have hnb46 := NB240_241.out; have hnc46 := NB241_240.out; have hcz47_0 : w45.cell? ⟨gbaP, 0, none⟩ = some (.string a0_0) := (blk_cell BKaP.out 0).trans rfl; have hcz47_1 : w45.cell? ⟨gbaP, 1, none⟩ = some (.slice A0_1 l0_1.length c0_1) := (blk_cell BKaP.out 1).trans rfl; have hcz47_2 : w45.cell? ⟨gbaP, 2, none⟩ = some (.slice A0_2 l0_2.length c0_2) := (blk_cell BKaP.out 2).trans rfl; have hfz47_0 := blk_frozen BKaP.out 0; have hfz47_1 := blk_frozen BKaP.out 1; have hfz47_2 := blk_frozen BKaP.out 2; have hcz48_0 : w45.cell? ⟨gbaW, 0, none⟩ = some (.string a1_0) := (blk_cell BKaW.out 0).trans rfl; have hcz48_1 : w45.cell? ⟨gbaW, 1, none⟩ = some (.slice A1_1 l1_1.length c1_1) := (blk_cell BKaW.out 1).trans rfl; have hcz48_2 : w45.cell? ⟨gbaW, 2, none⟩ = some (.slice A1_2 l1_2.length c1_2) := (blk_cell BKaW.out 2).trans rfl; have hfz48_0 := blk_frozen BKaW.out 0; have hfz48_1 := blk_frozen BKaW.out 1; have hfz48_2 := blk_frozen BKaW.out 2) | ((with_reducible refine gate_callee (f := 17) rfl ?_); refine goesL_ (some 19) rfl rfl Try.func17 Zq2 rfl #[.agg #[.string a0_0, .slice A0_1 l0_1.length c0_1, .slice A0_2 l0_2.length c0_2], .agg #[.string a1_0, .slice A1_1 l1_1.length c1_1, .slice A1_2 l1_2.length c1_2]] rfl Zq9 ?_; (with_reducible refine (xlate_Ranges.calls k a0_0 _ _ l0_1 _ _ l0_2 a1_0 _ _ l1_1 _ _ l1_2 taE tfE tdm _ ?side1 ?side2 ?side3 ?side4 ?side5 ?side6 ?side7 ?side8 A5.out).mono ?_); (case side1 => repeat (first | exact Zq126 | (with_reducible refine Kd.C_alloc ?_ _) | (with_reducible refine Kd.C_drewN ?_ _) | (with_reducible refine Kd.C_drew ?_))); (case side2 => exact HC0_1.out); (case side3 => repeat (first | exact Zq142 | (with_reducible refine Kd.C_alloc ?_ _) | (with_reducible refine Kd.C_drewN ?_ _) | (with_reducible refine Kd.C_drew ?_))); (case side4 => exact HC0_2.out); (case side5 => repeat (first | exact Zq176 | (with_reducible refine Kd.C_alloc ?_ _) | (with_reducible refine Kd.C_drewN ?_ _) | (with_reducible refine Kd.C_drew ?_))); (case side6 => exact HC1_1.out); (case side7 => repeat (first | exact Zq177 | (with_reducible refine Kd.C_alloc ?_ _) | (with_reducible refine Kd.C_drewN ?_ _) | (with_reducible refine Kd.C_drew ?_))); (case side8 => exact HC1_2.out); rintro e w49 ⟨v243, rfl, ho0, hb⟩; refine ⟨_, rfl, ?_⟩; have n0_ := Ak (Kd.R_lower ho0 (below_size Zq28)); have n1_ := Zq131; have n2_ := Zq140; have n3_ := Zq214; clear BKaP BKaW HB; have HOfj := n0_; have BKaP := n1_; have BKaW := n2_; have HB := n3_; clear n0_ n1_ n2_ n3_; (try clear hb); (try clear hb2); (try clear hk); (try clear hi); (try clear ho0)))
  go_ret2
  exact ⟨Zq10, Zq28⟩
def xlate_Up.l0 : Nat → List Int → Int → Int → Int → Int → List (S94) → ByteArray → List (S77) → List (S30) → ByteArray → List (S77) → List (S30) → Option (Int × Int)
 | 0, _, _, _, _, _, _, _, _, _, _, _, _ => none
 | k + 1, x1, x2, x3, x12, xfF, xfG, xfH, xfI, xfJ, xbE, xaL, xaM => if x12 > 0 then (if 0 ≤ (wrap64 (x12 - 1)) then (if (wrap64 (x12 - 1)) ≤ (x1.length : Int) then ((path_Get.f k xfF xfG xfH xfI xfJ (x1.take ((wrap64 (x12 - 1)) : Int).toNat)).bind fun btaX => ((xlate_step.f k btaX.1 btaX.2.1 btaX.2.2.1 xbE xaL xaM x2 x3).bind fun btbT => (if btbT.2 = 0 then (xlate_Up.l0 k x1 btbT.1 x3 (wrap64 (x12 - 1)) xfF xfG xfH xfI xfJ btaX.1 btaX.2.1 btaX.2.2.1) else (some (0, btbT.2))))) else (none)) else (none)) else (some (x2, 0))
def xlate_Up.f (k : Nat) (a0_0 : Int) (l0_1 : List (S94)) (a0_2 : ByteArray) (l0_3 : List (S77)) (l0_4 : List (S30)) (l1 : List Int) (a2 : Int) (a3 : Int) : Option (Int × Int) := (path_Get.f k a0_0 l0_1 a0_2 l0_3 l0_4 l1).bind fun btca => (if btca.2.2.2 = 0 then (xlate_Up.l0 k l1 a2 a3 (l1.length : Int) a0_0 l0_1 a0_2 l0_3 l0_4 btca.1 btca.2.1 btca.2.2.1) else (some (0, 8)))
theorem xlate_Up.mono_l : ∀ k, (∀ y0 y1 y2 y3 y4 y5 y6 y7 y8 y9 y10 y11, LeO (xlate_Up.l0 k y0 y1 y2 y3 y4 y5 y6 y7 y8 y9 y10 y11) (xlate_Up.l0 (k + 1) y0 y1 y2 y3 y4 y5 y6 y7 y8 y9 y10 y11))
 | 0 => fun _ _ _ _ _ _ _ _ _ _ _ _ r h => by simp [xlate_Up.l0] at h
 | k + 1 => by
  have ih0 := xlate_Up.mono_l k
  ·intro y0 y1 y2 y3 y4 y5 y6 y7 y8 y9 y10 y11; unfold xlate_Up.l0
   repeat' first | (with_reducible first | exact ih0 _ _ _ _ _ _ _ _ _ _ _ _ | exact path_Get.mono _ _ _ _ _ _ _ | exact xlate_step.mono _ _ _ _ _ _ _ _ _ | exact LeO.refl _ | exact LeO.none _ | refine LeO.ite ?_ ?_ | refine LeO.bind ?_ (fun _ => ?_))
theorem xlate_Up.mono : ∀ a0 a1 a2 a3 a4 a5 a6 a7 k, LeO (xlate_Up.f k a0 a1 a2 a3 a4 a5 a6 a7) (xlate_Up.f (k + 1) a0 a1 a2 a3 a4 a5 a6 a7) := by
 intro a0 a1 a2 a3 a4 a5 a6 a7 k; have ih0 := xlate_Up.mono_l k; unfold xlate_Up.f
 repeat' first | (with_reducible first | exact ih0 _ _ _ _ _ _ _ _ _ _ _ _ | exact path_Get.mono _ _ _ _ _ _ _ | exact xlate_step.mono _ _ _ _ _ _ _ _ _ | exact LeO.refl _ | exact LeO.none _ | refine LeO.ite ?_ ?_ | refine LeO.bind ?_ (fun _ => ?_))
def xlate_Up.T7 : Bool × List (List Nat × List Nat) := (true, [([], []), ([], []), ([], []), ([2], [2]), ([1, 3], [1, 3]), ([0, 4], [0, 4]), ([5], [5]), ([6], [6]), ([6], [6]), ([], []), ([9, 7, 5, 0, 1, 2, 3, 4, 5, 6, 7, 9], [7, 9]), ([8, 10, 0, 1, 2, 3, 4, 5, 6, 7, 8, 9, 10], [8])])
def xlate_Up.B7 : List Nat := [0, 0, 0, 4, 14, 31, 63, 127, 127, 0, 767, 2047]
theorem xlate_Up.tab7 : rtab .any (opsOf Try.f20 7) = xlate_Up.T7 := by kernel_rfl
theorem xlate_Up.bits7 : waitsOk xlate_Up.T7.2 xlate_Up.B7 = true := by kernel_rfl
end Go.Proofs.Yteejaaeglfpcmab.PX

namespace Go.Proofs.Yteejaaeglfpcmab.PX
open Go.RowKit Go.Proofs.YteejaaeglfpcmabW.PrintWords Go.Proofs.YteejaaeglfpcmabW.PrintLast Go.Proofs.YteejaaeglfpcmabW.PrintMore
attribute [local go_sem] max2_int min2_int max_two min_two max_three min_three max_four min_four
set_option maxHeartbeats 8000000 in
set_option maxRecDepth 100000 in
theorem xlate_Up.calls (k : Nat) (a0_0 : Int) (A0_1 : Option Addr) (c0_1 : Nat) (l0_1 : List (S94)) (a0_2 : ByteArray) (A0_3 : Option Addr) (c0_3 : Nat) (l0_3 : List (S77)) (A0_4 : Option Addr) (c0_4 : Nat) (l0_4 : List (S30)) (A1 : Option Addr) (c1 : Nat) (l1 : List Int) (a2 : Int) (a3 : Int) (r1 : Int) (r2 : Int) (w : World) (hr0_1 : Kd.C k94 w A0_1 l0_1.length l0_1) (hc0_1 : l0_1.length ≤ c0_1) (hr0_3 : Kd.C k77 w A0_3 l0_3.length l0_3) (hc0_3 : l0_3.length ≤ c0_3) (hr0_4 : Kd.C k30 w A0_4 l0_4.length l0_4) (hc0_4 : l0_4.length ≤ c0_4) (hr1 : Kd.C (Kd.int .i64) w A1 l1.length l1) (hc1 : l1.length ≤ c1) (h : xlate_Up.f k a0_0 l0_1 a0_2 l0_3 l0_4 l1 a2 a3 = some (r1, r2)) :
  Calls Try.prog 20 #[.agg #[.int .u32 a0_0, .slice A0_1 l0_1.length c0_1, .string a0_2, .slice A0_3 l0_3.length c0_3, .slice A0_4 l0_4.length c0_4], .slice A1 l1.length c1, .int .u64 a2, .int .u64 a3] w fun e w' => e = .returned (.tuple #[.int .u64 r1, .int .i64 r2]) ∧ Below w.heap.size w w' := by
 have hu35 := Try.underlying35; have hu30 := Try.underlying30; have HR0_1 := Ak hr0_1; have HC0_1 := Ak hc0_1; clear hr0_1 hc0_1; have HR0_3 := Ak hr0_3; have HC0_3 := Ak hc0_3; clear hr0_3 hc0_3; have HR0_4 := Ak hr0_4; have HC0_4 := Ak hc0_4; clear hr0_4 hc0_4; have HR1 := Ak hr1; have HC1 := Ak hc1; clear hr1 hc1; have HB := Zq129; have H : ((path_Get.f k a0_0 l0_1 a0_2 l0_3 l0_4 l1).bind fun btca => (if btca.2.2.2 = 0 then (xlate_Up.l0 k l1 a2 a3 (l1.length : Int) a0_0 l0_1 a0_2 l0_3 l0_4 btca.1 btca.2.1 btca.2.2.1) else (some (0, 8)))) = some (r1, r2) := h; clear h; replace H := Option.bind_eq_some_iff.mp H; obtain ⟨⟨tca, tdF, tdS, tdG⟩, A50, H⟩ := H; replace H : (if tdG = 0 then (xlate_Up.l0 k l1 a2 a3 (l1.length : Int) a0_0 l0_1 a0_2 l0_3 l0_4 tca tdF tdS) else (some (0, 8))) = some (r1, r2) := H; have A5 := Ak A50; clear A50
 by_cases c6 : tdG = 0
 ·rw [if_pos c6] at H; have c6b0 : (tdG == 0) = true := beq_iff_eq.mpr c6; have c6b1 : (tdG != 0) = false := bne_eq_false_iff_eq.mpr c6; clear c6; have H' := Ak H; clear H
  go_enter Try.func20, Try.ntmps20
  go_wp2_with (first | ((with_reducible refine gate_dst (N := 4) rfl ?_); refine box_event ?hg (N := 4) ?hd (cs := #[.int .u32 a0_0, .slice A0_1 l0_1.length c0_1, .string a0_2, .slice A0_3 l0_3.length c0_3, .slice A0_4 l0_4.length c0_4]) (t := 35) ?hr ?_; (case hd | hg => rfl); (case hr => first | (go_simp; done) | (go_simp; rfl)); intro gbae hg w7 hbox hb; have n0_ := Zq122; have n1_ := Ak (hbox); have n2_ := Zq197; have n3_ := Zq197; clear HB; have HB := n0_; have BKae := n1_; have GWae := n2_; have GEae := n3_; clear n0_ n1_ n2_ n3_ hb hbox hg; have hcz8_0 : w7.cell? ⟨gbae, 0, none⟩ = some (.int .u32 a0_0) := (blk_cell BKae.out 0).trans rfl; have hcz8_1 : w7.cell? ⟨gbae, 1, none⟩ = some (.slice A0_1 l0_1.length c0_1) := (blk_cell BKae.out 1).trans rfl; have hcz8_2 : w7.cell? ⟨gbae, 2, none⟩ = some (.string a0_2) := (blk_cell BKae.out 2).trans rfl; have hcz8_3 : w7.cell? ⟨gbae, 3, none⟩ = some (.slice A0_3 l0_3.length c0_3) := (blk_cell BKae.out 3).trans rfl; have hcz8_4 : w7.cell? ⟨gbae, 4, none⟩ = some (.slice A0_4 l0_4.length c0_4) := (blk_cell BKae.out 4).trans rfl; have hfz8_0 := blk_frozen BKae.out 0; have hfz8_1 := blk_frozen BKae.out 1; have hfz8_2 := blk_frozen BKae.out 2; have hfz8_3 := blk_frozen BKae.out 3; have hfz8_4 := blk_frozen BKae.out 4) | ((with_reducible refine gate_callee (f := 48) rfl ?_); refine goesL_ (some 18) rfl rfl Try.func48 Zq2 rfl #[.agg #[.int .u32 a0_0, .slice A0_1 l0_1.length c0_1, .string a0_2, .slice A0_3 l0_3.length c0_3, .slice A0_4 l0_4.length c0_4], .slice A1 l1.length c1] rfl Zq9 ?_; (with_reducible refine (path_Get.calls k a0_0 _ _ l0_1 a0_2 (fun k_ => k_ < w.heap.size) _ _ l0_3 (fun k_ => k_ < w.heap.size) _ _ l0_4 _ _ l1 tca tdF tdS tdG _ ?side1 ?side2 ?side3 ?side4 ?side5 ?side6 A5.out).mono ?_); (case side1 => repeat (first | exact Zq126 | (with_reducible refine Kd.C_alloc ?_ _) | (with_reducible refine Kd.C_drewN ?_ _) | (with_reducible refine Kd.C_drew ?_))); (case side2 => exact HC0_1.out); (case side3 => exact Kd.V_mk HC0_3.out (Kd.F_below (Kd.C_F k77_heap HR0_3.out) Zq38)); (case side4 => exact Kd.V_mk HC0_4.out (Kd.F_below (Kd.C_F k30_heap HR0_4.out) Zq38)); (case side5 => repeat (first | exact (Kd.C_below HR1.out HB.out) | (with_reducible refine Kd.C_alloc ?_ _) | (with_reducible refine Kd.C_drewN ?_ _) | (with_reducible refine Kd.C_drew ?_))); (case side6 => exact HC1.out); rintro e w9 ⟨v253, v256, rfl, ho0, ho1, hb⟩; refine ⟨_, rfl, ?_⟩; have n0_ := Ak (Kd.S_lower (Kd.S_mono (ok' := fun k_ => True) ho0 (fun _ hk_ => trivial)) (below_size Zq38)); have n1_ := Zq227; have n2_ := Zq119; have n3_ := Ak (below_step Zq38 hb); clear BKae HB; have HOdn := n0_; have HOdp := n1_; have BKae := n2_; have HB := n3_; clear n0_ n1_ n2_ n3_; (try clear hb); (try clear hb2); (try clear hk); (try clear hi); (try clear ho0); (try clear ho1)) | ((with_reducible refine gate_dst (N := 10) rfl ?_); refine box_event ?hg (N := 10) ?hd (cs := #[.string (⟨#[]⟩ : ByteArray), .slice none 0 0, .slice none 0 0]) (t := 30) ?hr ?_; (case hd | hg => rfl); (case hr => first | (go_simp; done) | (go_simp; rfl)); intro gbak hg w10 hbox hb; have n0_ := Zq221; have n1_ := Zq206; have n2_ := Zq119; have n3_ := Ak (below_step Zq38 hb); have n4_ := Ak (hbox); have n5_ := Zq190; have n6_ := Zq190; have n7_ := Ak ((by rw [hg]; exact Nat.ne_of_lt Zq121 : gbae ≠ gbak)); have n8_ := Ak ((by rw [hg]; exact Nat.ne_of_gt Zq121 : gbak ≠ gbae)); clear HOdn HOdp BKae HB; have HOdn := n0_; have HOdp := n1_; have BKae := n2_; have HB := n3_; have BKak := n4_; have GWak := n5_; have GEak := n6_; have NB250_259 := n7_; have NB259_250 := n8_; clear n0_ n1_ n2_ n3_ n4_ n5_ n6_ n7_ n8_ hb hbox hg; have hnb11 := NB259_250.out; have hnc11 := NB250_259.out; have hcz12_0 : w10.cell? ⟨gbak, 0, none⟩ = some (.string (⟨#[]⟩ : ByteArray)) := (blk_cell BKak.out 0).trans rfl; have hcz12_1 : w10.cell? ⟨gbak, 1, none⟩ = some (.slice none 0 0) := (blk_cell BKak.out 1).trans rfl; have hcz12_2 : w10.cell? ⟨gbak, 2, none⟩ = some (.slice none 0 0) := (blk_cell BKak.out 2).trans rfl; have hfz12_0 := blk_frozen BKak.out 0; have hfz12_1 := blk_frozen BKak.out 1; have hfz12_2 := blk_frozen BKak.out 2; obtain ⟨Ao13, co13, eo13⟩ := Kd.S_slice HOdn.out; subst eo13; obtain ⟨Ao14, co14, eo14⟩ := Kd.R_slice HOdp.out; subst eo14))
  go_loopg [2, 12] k (fun kq v2 v12 w' => ∃ (x2_1 : Int) (x12_1 : Int) (xbE_1 : ByteArray) (xaL_1 : List (S77)) (xaM_1 : List (S30)) (u260001 : Value) (u260002 : Value), v2 = .int .u64 x2_1 ∧ v12 = .int .i64 x12_1 ∧ Aside0 (xlate_Up.l0 kq l1 x2_1 a3 x12_1 a0_0 l0_1 a0_2 l0_3 l0_4 xbE_1 xaL_1 xaM_1 = some (r1, r2)) ∧ Aside0 (kq ≤ k) ∧ Aside0 (Kd.S k77 77 w' w.heap.size (fun _ => True) u260001 xaL_1) ∧ Aside0 (Kd.R k30 30 w' w.heap.size (fun k_ => some k_ ≠ (u260001 : Value).ownBlock ∧ k_ ≠ gbak) u260002 xaM_1) ∧ Aside0 (w'.heap[gbae]? = some (.cells #[.int .u32 a0_0, (.slice A0_1 l0_1.length c0_1), .string a0_2, (.slice A0_3 l0_3.length c0_3), (.slice A0_4 l0_4.length c0_4)] 35 (0, 0))) ∧ Aside0 (w'.heap[gbak]? = some (.cells #[.string xbE_1, u260001, u260002] 30 (0, 0))) ∧ Aside0 (Below w.heap.size w w'))
  case atStart => exact ⟨(a2), ((l1.length : Int)), (tca), (tdF), (tdS), (.slice Ao13 tdF.length co13), (.slice Ao14 tdS.length co14), Zq6, Zq6, H', ⟨Nat.le_refl _⟩, ⟨by (with_reducible repeat (first | apply Kd.S_alloc | apply Kd.S_drewN | apply Kd.S_drew)); exact Kd.S_mono (Kd.S_far (p := ⟨gbak, 2, none⟩) (Kd.S_far (p := ⟨gbak, 1, none⟩) (Kd.S_far (p := ⟨gbak, 0, none⟩) (Kd.S_types HOdn.out BKak.out Zq7) (fun _ hk => hk.2) (.string tca)) (fun _ hk => hk.2) (.slice Ao13 tdF.length co13)) (fun _ hk => hk.2) (.slice Ao14 tdS.length co14)) (fun _ hk => trivial)⟩, ⟨by (with_reducible repeat (first | apply Kd.R_alloc | apply Kd.R_drewN | apply Kd.R_drew)); exact Kd.R_mono (Kd.R_far (p := ⟨gbak, 2, none⟩) (Kd.R_far (p := ⟨gbak, 1, none⟩) (Kd.R_far (p := ⟨gbak, 0, none⟩) (Kd.R_mono HOdp.out (fun k_ hk => (⟨hk, hk.2⟩ : _ ∧ k_ ≠ gbak))) (fun _ hk => hk.2) (.string tca)) (fun _ hk => hk.2) (.slice Ao13 tdF.length co13)) (fun _ hk => hk.2) (.slice Ao14 tdS.length co14)) (fun _ hk => ⟨hk.1.1, hk.1.2⟩)⟩, ⟨by (with_reducible repeat (first | refine blk_drewN ?_ _ | refine blk_drew ?_ | refine blk_alloc ?_ _)); refine blk_far ?_ NB250_259.out _; (with_reducible repeat (first | refine blk_drewN ?_ _ | refine blk_drew ?_ | refine blk_alloc ?_ _)); refine blk_far ?_ NB250_259.out _; (with_reducible repeat (first | refine blk_drewN ?_ _ | refine blk_drew ?_ | refine blk_alloc ?_ _)); refine blk_far ?_ NB250_259.out _; (with_reducible repeat (first | refine blk_drewN ?_ _ | refine blk_drew ?_ | refine blk_alloc ?_ _)); exact BKae.out⟩, ⟨by (with_reducible repeat (first | refine blk_drewN ?_ _ | refine blk_drew ?_ | refine blk_alloc ?_ _)); refine blk_put (cs := #[.string tca, .slice Ao13 tdF.length co13, .slice none 0 0]) ?_ 2 _ rfl; (with_reducible repeat (first | refine blk_drewN ?_ _ | refine blk_drew ?_ | refine blk_alloc ?_ _)); refine blk_put (cs := #[.string tca, .slice none 0 0, .slice none 0 0]) ?_ 1 _ rfl; (with_reducible repeat (first | refine blk_drewN ?_ _ | refine blk_drew ?_ | refine blk_alloc ?_ _)); refine blk_put (cs := #[.string (⟨#[]⟩ : ByteArray), .slice none 0 0, .slice none 0 0]) ?_ 0 _ rfl; (with_reducible repeat (first | refine blk_drewN ?_ _ | refine blk_drew ?_ | refine blk_alloc ?_ _)); exact BKak.out⟩, ⟨Zq19⟩⟩
  case round =>
   clear H'
   try clear c1
   try clear c2
   try clear p2
   try clear c4
   try clear c6
   try clear c6b0
   try clear c6b1
   try clear c11
   try clear hcz12_0
   try clear hcz12_1
   try clear hcz12_2
   try clear hcz8_0
   try clear hcz8_1
   try clear hcz8_2
   try clear hcz8_3
   try clear hcz8_4
   try clear hfz12_0
   try clear hfz12_1
   try clear hfz12_2
   try clear hfz8_0
   try clear hfz8_1
   try clear hfz8_2
   try clear hfz8_3
   try clear hfz8_4
   obtain ⟨x2_1, x12_1, xbE_1, xaL_1, xaM_1, u260001, u260002, rfl, rfl, HA, HK1, HO_aL, HO_aM, BKae, BKak, HB⟩ := hrel
   cases gk with
   | zero => exact absurd HA.out (by simp [xlate_Up.l0])
   | succ k1 =>
    have H := HA.out; clear HA; simp only [xlate_Up.l0] at H
    by_cases c15 : x12_1 > 0
    ·rw [if_pos c15] at H; have c15b0 : decide (0 < x12_1) = true := decide_eq_true c15; clear c15
     obtain ⟨ji16, hji16⟩ : ∃ j_ : Int, (wrap64 (x12_1 - 1)) = j_ := ⟨_, rfl⟩
     replace H : (if 0 ≤ (ji16) then (if (ji16) ≤ (l1.length : Int) then ((path_Get.f k1 a0_0 l0_1 a0_2 l0_3 l0_4 (l1.take ((ji16) : Int).toNat)).bind fun btaX => ((xlate_step.f k1 btaX.1 btaX.2.1 btaX.2.2.1 xbE_1 xaL_1 xaM_1 x2_1 a3).bind fun btbT => (if btbT.2 = 0 then (xlate_Up.l0 k1 l1 btbT.1 a3 ji16 a0_0 l0_1 a0_2 l0_3 l0_4 btaX.1 btaX.2.1 btaX.2.2.1) else (some (0, btbT.2))))) else (none)) else (none)) = some (r1, r2) := by first | (rw [hji16] at H; exact H) | (simp only [hji16] at H ⊢; exact H)
     have hji16w : (IntKind.i64.wrap (x12_1 - 1)) = ji16 := (i64_w _).trans hji16
     by_cases c17 : 0 ≤ (ji16)
     ·rw [if_pos c17] at H; have c17b0 := eq_true c17; have c17b1 : decide (0 ≤ (ji16)) = true := decide_eq_true c17; clear c17
      by_cases c18 : (ji16) ≤ (l1.length : Int)
      ·rw [if_pos c18] at H; have c18b0 := eq_true c18; have c18b1 : decide ((ji16) ≤ (l1.length : Int)) = true := decide_eq_true c18; clear c18; replace H := Option.bind_eq_some_iff.mp H; obtain ⟨⟨taX, tbe, tbj, tcX⟩, AfK, H⟩ := H; replace H : ((xlate_step.f k1 taX tbe tbj xbE_1 xaL_1 xaM_1 x2_1 a3).bind fun btbT => (if btbT.2 = 0 then (xlate_Up.l0 k1 l1 btbT.1 a3 ji16 a0_0 l0_1 a0_2 l0_3 l0_4 taX tbe tbj) else (some (0, btbT.2)))) = some (r1, r2) := H; have A19 := Ak AfK; clear AfK; replace H := Option.bind_eq_some_iff.mp H; obtain ⟨⟨tbT, tdq⟩, AaK, H⟩ := H; replace H : (if tdq = 0 then (xlate_Up.l0 k1 l1 tbT a3 ji16 a0_0 l0_1 a0_2 l0_3 l0_4 taX tbe tbj) else (some (0, tdq))) = some (r1, r2) := H; have A20 := Ak AaK; clear AaK
       by_cases c21 : tdq = 0
       ·rw [if_pos c21] at H; have c21b0 : (tdq == 0) = true := beq_iff_eq.mpr c21; have c21b1 : (tdq != 0) = false := bne_eq_false_iff_eq.mpr c21; clear c21; have H' := Ak H; clear H
        try go_wp2
        have n0_ := Ak (Kd.S_drew HO_aL.out); have n1_ := Ak (Kd.R_drew HO_aM.out); have n2_ := Ak (blk_drew BKae.out); have n3_ := Ak (blk_drew BKak.out); have n4_ := Zq164; clear HO_aL HO_aM BKae BKak HB; have HO_aL := n0_; have HO_aM := n1_; have BKae := n2_; have BKak := n3_; have HB := n4_; clear n0_ n1_ n2_ n3_ n4_; obtain ⟨i023, hi023, _, hsz23, _⟩ := info_parts info3; obtain ⟨hcut23, hA23, hC23⟩ := print_take_of (P := Try.prog) (Value.int .i64) 0 48 3 .i64 Try.underlying48 hi023 hsz23 A1 c1 l1 (ji16) (of_decide_eq_true Zq4) (of_decide_eq_true Zq4) HC1.out; have HRcG := Ak (Kd.C_of_reads (h1 := fun _ => rfl) (hA23 _ (Kd.reads_of_C HR1.out))); have HCcG := Ak hC23; clear hA23 hC23 hi023 hsz23; refine start_ (n := 12) (S := fun w' => w'.cell? ⟨gbae, 0, none⟩ = some (.int .u32 a0_0) ∧ w'.cell? ⟨gbae, 1, none⟩ = some (.slice A0_1 l0_1.length c0_1) ∧ w'.cell? ⟨gbae, 2, none⟩ = some (.string a0_2) ∧ w'.cell? ⟨gbae, 3, none⟩ = some (.slice A0_3 l0_3.length c0_3) ∧ w'.cell? ⟨gbae, 4, none⟩ = some (.slice A0_4 l0_4.length c0_4)) (ds := []) #[false, false, false, false, false, false, false, false, false, false, false, false] Zq2 rfl rfl ⟨(blk_cell BKae.out 0).trans rfl, (blk_cell BKae.out 1).trans rfl, (blk_cell BKae.out 2).trans rfl, (blk_cell BKae.out 3).trans rfl, (blk_cell BKae.out 4).trans rfl⟩ (fun hHeld => ?_); refine with_tabW xlate_Up.tab7 xlate_Up.bits7 (fun HT_ HW_ => ?_); generalize wr.drew = w22 at HO_aL HO_aM BKae BKak HB HRcG hHeld ⊢; refine pure_ (i := 1) (N := some 31) (v := ?_) (a' := ?_) #[false, true, false, false, false, false, false, false, false, false, false, false] rfl rfl (any_of HT_.out Zq2) (fun _ _ _ h => h) (Or.inl ⟨Zq3, ?_⟩) ?_ ?_
        rotate_left
        ·intro w'
         go_simp
         with_reducible rfl
        rotate_left
        ·simp only [Sx]
         rfl
        refine pure_ (i := 2) (N := some 32) (v := ?_) (a' := ?_) #[false, true, true, false, false, false, false, false, false, false, false, false] rfl rfl (any_of HT_.out Zq2) (fun _ _ _ h => h) (Or.inl ⟨Zq3, ?_⟩) ?_ ?_
        rotate_left
        ·intro w'
         go_simp
         with_reducible rfl
        rotate_left
        ·simp only [Sx]
         rfl
        refine pure_ (i := 3) (N := some 33) (v := ?_) (a' := ?_) #[false, true, true, true, false, false, false, false, false, false, false, false] rfl rfl (any_of HT_.out Zq2) (fun _ _ _ h => h) (Or.inl ⟨Zq3, ?_⟩) ?_ ?_
        rotate_left
        ·intro w'
         go_simp
         with_reducible rfl
        rotate_left
        ·simp only [Sx]
         rfl
        refine pure_ (i := 4) (N := some 34) (v := ?_) (a' := ?_) #[false, true, true, true, true, false, false, false, false, false, false, false] rfl rfl (any_of HT_.out Zq2) (fun _ _ _ h => h) (Or.inl ⟨Zq3, ?_⟩) ?_ ?_
        rotate_left
        ·intro w'
         go_simp
         with_reducible rfl
        rotate_left
        ·simp only [Sx]
         rfl
        refine take_ (i := 0) (N := some 30) (v := ?_) (a' := ?_) #[true, true, true, true, true, false, false, false, false, false, false, false] rfl rfl (take_ofW HT_.out HW_.out Zq2) (fun _ _ _ h => h) (Or.inl ⟨Zq3, ?_⟩) hHeld ?_ ?_
        rotate_left
        ·rintro w' ⟨s0, s1, s2, s3, s4⟩
         go_simp
         with_reducible rfl
        rotate_left
        ·simp only [Sx]
         rfl
        refine join_ (σ := Value × Value × Nat) 2 #[true, true, true, true, true, true, true, true, true, true, false, false] (fun s_ => [(35, .tuple #[.agg #[.string taX, s_.1, s_.2.1], .int .i64 tcX]), (13, .pointer (some ⟨s_.2.2, 0, none⟩)), (29, .tuple #[.agg #[.string taX, s_.1, s_.2.1], .int .i64 tcX]), (36, .agg #[.string taX, s_.1, s_.2.1]), (37, .int .i64 tcX)]) (fun s_ w' => (w'.cell? ⟨gbae, 0, none⟩ = some (.int .u32 a0_0) ∧ w'.cell? ⟨gbae, 1, none⟩ = some (.slice A0_1 l0_1.length c0_1) ∧ w'.cell? ⟨gbae, 2, none⟩ = some (.string a0_2) ∧ w'.cell? ⟨gbae, 3, none⟩ = some (.slice A0_3 l0_3.length c0_3) ∧ w'.cell? ⟨gbae, 4, none⟩ = some (.slice A0_4 l0_4.length c0_4)) ∧ (Kd.S k77 77 w' w.heap.size (fun k_ => some k_ ≠ (u260001 : Value).ownBlock) s_.1 tbe) ∧ (Kd.R k30 30 w' w.heap.size (fun k_ => some k_ ≠ (s_.1 : Value).ownBlock ∧ some k_ ≠ (u260001 : Value).ownBlock ∧ some k_ ≠ (u260002 : Value).ownBlock ∧ k_ ≠ gbak ∧ k_ ≠ s_.2.2) s_.2.1 tbj) ∧ (Kd.S k77 77 w' w.heap.size (fun k_ => some k_ ≠ (s_.1 : Value).ownBlock) u260001 xaL_1) ∧ (Kd.R k30 30 w' w.heap.size (fun k_ => some k_ ≠ (s_.1 : Value).ownBlock ∧ some k_ ≠ (s_.2.1 : Value).ownBlock ∧ some k_ ≠ (u260001 : Value).ownBlock ∧ k_ ≠ gbak ∧ k_ ≠ s_.2.2) u260002 xaM_1) ∧ (w'.heap[gbae]? = some (.cells #[.int .u32 a0_0, .slice A0_1 l0_1.length c0_1, .string a0_2, .slice A0_3 l0_3.length c0_3, .slice A0_4 l0_4.length c0_4] 35 (0, 0))) ∧ (w'.heap[gbak]? = some (.cells #[.string xbE_1, u260001, u260002] 30 (0, 0))) ∧ (w'.heap[s_.2.2]? = some (.cells #[.string (⟨#[]⟩ : ByteArray), .slice none 0 0, .slice none 0 0] 30 (0, 0))) ∧ (w.heap.size ≤ s_.2.2) ∧ (w.heap.size ≤ s_.2.2) ∧ (gbae ≠ s_.2.2) ∧ (s_.2.2 ≠ gbae) ∧ (gbak ≠ s_.2.2) ∧ (s_.2.2 ≠ gbak) ∧ (Below w.heap.size w w')) ?_ ?_
        rotate_left
        ·intro hCont; refine two_ (i := 5) (j := 9) (Ni := some 35) (Nj := some 13) #[true, true, true, true, true, true, false, false, false, false, false, false] #[true, true, true, true, true, false, false, false, false, true, false, false] rfl rfl rfl rfl (two_of HT_.out Zq2) Zq7 Zq7 (fun K hK => ?_) (fun K hK => ?_)
         ·skip
          refine goes_ Try.func48 Zq2 rfl #[.agg #[.int .u32 a0_0, .slice A0_1 l0_1.length c0_1, .string a0_2, .slice A0_3 l0_3.length c0_3, .slice A0_4 l0_4.length c0_4], .slice A1 (l1.take ((ji16) : Int).toNat).length c1] Zq3 rfl rfl Zq117 ?_; with_reducible refine (path_Get.calls k1 a0_0 _ _ l0_1 a0_2 (fun k_ => k_ < w.heap.size) _ _ l0_3 (fun k_ => k_ < w.heap.size) _ _ l0_4 _ _ (l1.take ((ji16) : Int).toNat) taX tbe tbj tcX _ ?side1 ?side2 ?side3 ?side4 ?side5 ?side6 A19.out).mono ?_
          (case side1 => repeat (first | exact Zq126 | (with_reducible refine Kd.C_alloc ?_ _) | (with_reducible refine Kd.C_drewN ?_ _) | (with_reducible refine Kd.C_drew ?_)))
          (case side2 => exact HC0_1.out)
          (case side3 => exact Kd.V_mk HC0_3.out (Kd.F_below (Kd.C_F k77_heap HR0_3.out) Zq19))
          (case side4 => exact Kd.V_mk HC0_4.out (Kd.F_below (Kd.C_F k30_heap HR0_4.out) Zq19))
          (case side5 => repeat (first | exact (Kd.C_below HRcG.out HB.out) | (with_reducible refine Kd.C_alloc ?_ _) | (with_reducible refine Kd.C_drewN ?_ _) | (with_reducible refine Kd.C_drew ?_)))
          (case side6 => exact HCcG.out)
          rintro e w24 ⟨v263, v266, rfl, ho0, ho1, hb⟩
          refine ⟨_, rfl, ?_⟩; have n0_ := Zq220; have n1_ := Zq175; have n2_ := Zq228; have n3_ := Zq184; have n4_ := Zq119; have n5_ := Zq139; have n6_ := Zq215; clear HO_aL HO_aM BKae BKak HB; have HO_aL := n0_; have HO_aM := n1_; have HObG := n2_; have HObH := n3_; have BKae := n4_; have BKak := n5_; have HB := n6_; clear n0_ n1_ n2_ n3_ n4_ n5_ n6_
          (try clear hb)
          (try clear hb2)
          (try clear hk)
          (try clear hi)
          (try clear ho0)
          (try clear ho1)
          refine hK.out _ _ ⟨(blk_cell BKae.out 0).trans rfl, (blk_cell BKae.out 1).trans rfl, (blk_cell BKae.out 2).trans rfl, (blk_cell BKae.out 3).trans rfl, (blk_cell BKae.out 4).trans rfl⟩ (fun hHeld => ?_); clear hK K; refine norm_ (a' := ?_) ?_ ?_
          rotate_left
          ·show Act.put _ (some 35) _ = _
           simp only [Sx]
           rfl
          refine pure_ (i := 6) (N := some 29) (v := ?_) (a' := ?_) #[true, true, true, true, true, true, true, false, false, false, false, false] rfl rfl (any_of HT_.out Zq2) (fun _ _ _ h => h) (Or.inl ⟨Zq3, ?_⟩) ?_ ?_
          rotate_left
          ·intro w'
           go_simp
           with_reducible rfl
          rotate_left
          ·simp only [Sx]
           rfl
          refine pure_ (i := 7) (N := some 36) (v := ?_) (a' := ?_) #[true, true, true, true, true, true, true, true, false, false, false, false] rfl rfl (any_of HT_.out Zq2) (fun _ _ _ h => h) (Or.inl ⟨Zq3, ?_⟩) ?_ ?_
          rotate_left
          ·intro w'
           go_simp
           with_reducible rfl
          rotate_left
          ·simp only [Sx]
           rfl
          refine pure_ (i := 8) (N := some 37) (v := ?_) (a' := ?_) #[true, true, true, true, true, true, true, true, true, false, false, false] rfl rfl (any_of HT_.out Zq2) (fun _ _ _ h => h) (Or.inl ⟨Zq3, ?_⟩) ?_ ?_
          rotate_left
          ·intro w'
           go_simp
           with_reducible rfl
          rotate_left
          ·simp only [Sx]
           rfl
          refine one_ (i := 9) (N := some 13) #[true, true, true, true, true, true, true, true, true, true, false, false] rfl rfl (one_of HT_.out Zq2) Zq7 (fun K hK => ?_); refine box_step ?hg (N := 13) ?hd (cs := #[.string (⟨#[]⟩ : ByteArray), .slice none 0 0, .slice none 0 0]) (t := 30) ?hr ?_; (case hd | hg => rfl); (case hr => first | (go_simp; done) | (go_simp; rfl)); intro gbaa hg w25 hbox hb; have n0_ := Ak (Kd.S_below Zq39 hb); have n1_ := Zq186; have n2_ := Zq222; have n3_ := Zq207; have n4_ := Zq119; have n5_ := Zq139; have n6_ := Zq215; have n7_ := Ak (hbox); have n8_ := Zq152; have n9_ := Zq152; have n10_ := Zq238; have n11_ := Zq239; have n12_ := Zq240; have n13_ := Zq241; clear HO_aL HO_aM HObG HObH BKae BKak HB; have HO_aL := n0_; have HO_aM := n1_; have HObG := n2_; have HObH := n3_; have BKae := n4_; have BKak := n5_; have HB := n6_; have BKaa := n7_; have GWaa := n8_; have GEaa := n9_; have NB250_269 := n10_; have NB269_250 := n11_; have NB259_269 := n12_; have NB269_259 := n13_; clear n0_ n1_ n2_ n3_ n4_ n5_ n6_ n7_ n8_ n9_ n10_ n11_ n12_ n13_ hb hbox hg; refine hK.out _ _ ⟨(blk_cell BKae.out 0).trans rfl, (blk_cell BKae.out 1).trans rfl, (blk_cell BKae.out 2).trans rfl, (blk_cell BKae.out 3).trans rfl, (blk_cell BKae.out 4).trans rfl⟩ (fun hHeld => ?_); clear hK K; refine norm_ (a' := ?_) ?_ ?_
          rotate_left
          ·show Act.put _ (some 13) _ = _
           simp only [Sx]
           rfl
          exact norm_ Zq67 (hCont (v263, v266, gbaa) _ ⟨hHeld, Zq108, Zq109, Zq110, (by (with_reducible repeat (first | apply Kd.R_alloc | apply Kd.R_drewN | apply Kd.R_drew)); exact Kd.R_mono HO_aM.out (fun _ hk => ⟨hk.1.1.2, ⟨hk.1.2, ⟨hk.1.1.1.1, ⟨hk.1.1.1.2, hk.2⟩⟩⟩⟩)), Zq17, Zq21, Zq68, GWaa.out, GEaa.out, NB250_269.out, NB269_250.out, NB259_269.out, NB269_259.out, Zq31⟩)
         ·skip
          refine box_step ?hg (N := 13) ?hd (cs := #[.string (⟨#[]⟩ : ByteArray), .slice none 0 0, .slice none 0 0]) (t := 30) ?hr ?_; (case hd | hg => rfl); (case hr => first | (go_simp; done) | (go_simp; rfl)); intro gbaa hg w24 hbox hb; have n0_ := Ak (Kd.S_below Zq39 hb); have n1_ := Zq186; have n2_ := Zq119; have n3_ := Zq139; have n4_ := Zq215; have n5_ := Ak (hbox); have n6_ := Zq152; have n7_ := Zq152; have n8_ := Zq238; have n9_ := Zq239; have n10_ := Zq240; have n11_ := Zq241; clear HO_aL HO_aM BKae BKak HB; have HO_aL := n0_; have HO_aM := n1_; have BKae := n2_; have BKak := n3_; have HB := n4_; have BKaa := n5_; have GWaa := n6_; have GEaa := n7_; have NB250_269 := n8_; have NB269_250 := n9_; have NB259_269 := n10_; have NB269_259 := n11_; clear n0_ n1_ n2_ n3_ n4_ n5_ n6_ n7_ n8_ n9_ n10_ n11_ hb hbox hg; refine hK.out _ _ ⟨(blk_cell BKae.out 0).trans rfl, (blk_cell BKae.out 1).trans rfl, (blk_cell BKae.out 2).trans rfl, (blk_cell BKae.out 3).trans rfl, (blk_cell BKae.out 4).trans rfl⟩ (fun hHeld => ?_); clear hK K; refine norm_ (a' := ?_) ?_ ?_
          rotate_left
          ·show Act.put _ (some 13) _ = _
           simp only [Sx]
           rfl
          refine one_ (i := 5) (N := some 35) #[true, true, true, true, true, true, false, false, false, true, false, false] rfl rfl (one_of HT_.out Zq2) Zq7 (fun K hK => ?_); refine goes_ Try.func48 Zq2 rfl #[.agg #[.int .u32 a0_0, .slice A0_1 l0_1.length c0_1, .string a0_2, .slice A0_3 l0_3.length c0_3, .slice A0_4 l0_4.length c0_4], .slice A1 (l1.take ((ji16) : Int).toNat).length c1] Zq3 rfl rfl Zq117 ?_; with_reducible refine (path_Get.calls k1 a0_0 _ _ l0_1 a0_2 (fun k_ => k_ < w.heap.size) _ _ l0_3 (fun k_ => k_ < w.heap.size) _ _ l0_4 _ _ (l1.take ((ji16) : Int).toNat) taX tbe tbj tcX _ ?side1 ?side2 ?side3 ?side4 ?side5 ?side6 A19.out).mono ?_
          (case side1 => repeat (first | exact Zq126 | (with_reducible refine Kd.C_alloc ?_ _) | (with_reducible refine Kd.C_drewN ?_ _) | (with_reducible refine Kd.C_drew ?_)))
          (case side2 => exact HC0_1.out)
          (case side3 => exact Kd.V_mk HC0_3.out (Kd.F_below (Kd.C_F k77_heap HR0_3.out) Zq31))
          (case side4 => exact Kd.V_mk HC0_4.out (Kd.F_below (Kd.C_F k30_heap HR0_4.out) Zq31))
          (case side5 => repeat (first | exact (Kd.C_below HRcG.out HB.out) | (with_reducible refine Kd.C_alloc ?_ _) | (with_reducible refine Kd.C_drewN ?_ _) | (with_reducible refine Kd.C_drew ?_)))
          (case side6 => exact HCcG.out)
          rintro e w25 ⟨v263, v266, rfl, ho0, ho1, hb⟩
          refine ⟨_, rfl, ?_⟩; have n0_ := Zq220; have n1_ := Zq175; have n2_ := Zq229; have n3_ := Zq167; have n4_ := Zq119; have n5_ := Zq139; have n6_ := Zq226; have n7_ := Ak (below_step Zq31 hb); clear HO_aL HO_aM BKae BKak BKaa HB; have HO_aL := n0_; have HO_aM := n1_; have HObG := n2_; have HObH := n3_; have BKae := n4_; have BKak := n5_; have BKaa := n6_; have HB := n7_; clear n0_ n1_ n2_ n3_ n4_ n5_ n6_ n7_
          (try clear hb)
          (try clear hb2)
          (try clear hk)
          (try clear hi)
          (try clear ho0)
          (try clear ho1)
          refine hK.out _ _ ⟨(blk_cell BKae.out 0).trans rfl, (blk_cell BKae.out 1).trans rfl, (blk_cell BKae.out 2).trans rfl, (blk_cell BKae.out 3).trans rfl, (blk_cell BKae.out 4).trans rfl⟩ (fun hHeld => ?_); clear hK K; refine norm_ (a' := ?_) ?_ ?_
          rotate_left
          ·show Act.put _ (some 35) _ = _
           simp only [Sx]
           rfl
          refine pure_ (i := 6) (N := some 29) (v := ?_) (a' := ?_) #[true, true, true, true, true, true, true, false, false, true, false, false] rfl rfl (any_of HT_.out Zq2) (fun _ _ _ h => h) (Or.inl ⟨Zq3, ?_⟩) ?_ ?_
          rotate_left
          ·intro w'
           go_simp
           with_reducible rfl
          rotate_left
          ·simp only [Sx]
           rfl
          refine pure_ (i := 7) (N := some 36) (v := ?_) (a' := ?_) #[true, true, true, true, true, true, true, true, false, true, false, false] rfl rfl (any_of HT_.out Zq2) (fun _ _ _ h => h) (Or.inl ⟨Zq3, ?_⟩) ?_ ?_
          rotate_left
          ·intro w'
           go_simp
           with_reducible rfl
          rotate_left
          ·simp only [Sx]
           rfl
          refine pure_ (i := 8) (N := some 37) (v := ?_) (a' := ?_) #[true, true, true, true, true, true, true, true, true, true, false, false] rfl rfl (any_of HT_.out Zq2) (fun _ _ _ h => h) (Or.inl ⟨Zq3, ?_⟩) ?_ ?_
          rotate_left
          ·intro w'
           go_simp
           with_reducible rfl
          rotate_left
          ·simp only [Sx]
           rfl
          exact norm_ Zq67 (hCont (v263, v266, gbaa) _ ⟨hHeld, Zq108, Zq109, Zq110, (by (with_reducible repeat (first | apply Kd.R_alloc | apply Kd.R_drewN | apply Kd.R_drew)); exact Kd.R_mono HO_aM.out (fun _ hk => ⟨hk.1.2, ⟨hk.2, ⟨hk.1.1.1.1, ⟨hk.1.1.1.2, hk.1.1.2⟩⟩⟩⟩)), Zq17, Zq21, Zq68, GWaa.out, GEaa.out, NB250_269.out, NB269_250.out, NB259_269.out, NB269_259.out, Zq31⟩)
        rintro ⟨v263, v266, gbaa⟩ w26 ⟨hS_, h0_, h1_, h2_, h3_, h4_, h5_, h6_, h7_, h8_, h9_, h10_, h11_, h12_, h13_⟩
        have n0_ : Aside0 (Kd.S k77 77 w26 w.heap.size (fun k_ => some k_ ≠ (u260001 : Value).ownBlock) v263 tbe) := ⟨h0_⟩
        have n1_ : Aside0 (Kd.R k30 30 w26 w.heap.size (fun k_ => some k_ ≠ (v263 : Value).ownBlock ∧ some k_ ≠ (u260001 : Value).ownBlock ∧ some k_ ≠ (u260002 : Value).ownBlock ∧ k_ ≠ gbak ∧ k_ ≠ gbaa) v266 tbj) := ⟨h1_⟩
        have n2_ : Aside0 (Kd.S k77 77 w26 w.heap.size (fun k_ => some k_ ≠ (v263 : Value).ownBlock) u260001 xaL_1) := ⟨h2_⟩
        have n3_ : Aside0 (Kd.R k30 30 w26 w.heap.size (fun k_ => some k_ ≠ (v263 : Value).ownBlock ∧ some k_ ≠ (v266 : Value).ownBlock ∧ some k_ ≠ (u260001 : Value).ownBlock ∧ k_ ≠ gbak ∧ k_ ≠ gbaa) u260002 xaM_1) := ⟨h3_⟩
        have n4_ : Aside0 (w26.heap[gbae]? = some (.cells #[.int .u32 a0_0, .slice A0_1 l0_1.length c0_1, .string a0_2, .slice A0_3 l0_3.length c0_3, .slice A0_4 l0_4.length c0_4] 35 (0, 0))) := ⟨h4_⟩
        have n5_ : Aside0 (w26.heap[gbak]? = some (.cells #[.string xbE_1, u260001, u260002] 30 (0, 0))) := ⟨h5_⟩
        have n6_ : Aside0 (w26.heap[gbaa]? = some (.cells #[.string (⟨#[]⟩ : ByteArray), .slice none 0 0, .slice none 0 0] 30 (0, 0))) := ⟨h6_⟩
        have n7_ : Aside0 (w.heap.size ≤ gbaa) := ⟨h7_⟩
        have n8_ : Aside0 (w.heap.size ≤ gbaa) := ⟨h8_⟩
        have n9_ : Aside0 (gbae ≠ gbaa) := ⟨h9_⟩
        have n10_ : Aside0 (gbaa ≠ gbae) := ⟨h10_⟩
        have n11_ : Aside0 (gbak ≠ gbaa) := ⟨h11_⟩
        have n12_ : Aside0 (gbaa ≠ gbak) := ⟨h12_⟩
        have n13_ : Aside0 (Below w.heap.size w w26) := ⟨h13_⟩
        clear HO_aL HO_aM BKae BKak HB h0_ h1_ h2_ h3_ h4_ h5_ h6_ h7_ h8_ h9_ h10_ h11_ h12_ h13_; have HObG := n0_; have HObH := n1_; have HO_aL := n2_; have HO_aM := n3_; have BKae := n4_; have BKak := n5_; have BKaa := n6_; have GWaa := n7_; have GEaa := n8_; have NB250_269 := n9_; have NB269_250 := n10_; have NB259_269 := n11_; have NB269_259 := n12_; have HB := n13_; clear n0_ n1_ n2_ n3_ n4_ n5_ n6_ n7_ n8_ n9_ n10_ n11_ n12_ n13_; have hHeld : w26.cell? ⟨gbae, 0, none⟩ = some (.int .u32 a0_0) ∧ w26.cell? ⟨gbae, 1, none⟩ = some (.slice A0_1 l0_1.length c0_1) ∧ w26.cell? ⟨gbae, 2, none⟩ = some (.string a0_2) ∧ w26.cell? ⟨gbae, 3, none⟩ = some (.slice A0_3 l0_3.length c0_3) ∧ w26.cell? ⟨gbae, 4, none⟩ = some (.slice A0_4 l0_4.length c0_4) := hS_; obtain ⟨Ao28, co28, eo28⟩ := Kd.S_slice HObG.out
        (first | subst eo28 | (injection eo28 with f1_ f2_ f3_; have f4_ := f1_.symm; have f5_ := f3_.symm; clear f1_ f2_ f3_; subst f4_; subst f5_))
        obtain ⟨Ao30, co30, eo30⟩ := Kd.R_slice HObH.out
        (first | subst eo30 | (injection eo30 with f1_ f2_ f3_; have f4_ := f1_.symm; have f5_ := f3_.symm; clear f1_ f2_ f3_; subst f4_; subst f5_))
        refine norm_ (a' := ?_) ?_ ?_
        rotate_left
        ·simp only [putAll, Act.put, List.setIfInBounds_toArray, List.set_cons_zero, List.set_cons_succ]
         rfl
        refine one_ (i := 10) (N := none) #[true, true, true, true, true, true, true, true, true, true, true, false] rfl rfl (one_of HT_.out Zq2) Zq7 (fun K hK => ?_); have hs27 : w26.cell? ⟨gbaa, 0, none⟩ = some (.string (⟨#[]⟩ : ByteArray)) := (blk_cell BKaa.out 0).trans rfl; have hfs27 := blk_frozen BKaa.out 0; have hns27_0 := NB250_269.out; have hns27_1 := NB259_269.out; have hms27_0 := NB269_250.out; have hms27_1 := NB269_259.out; have hs29 : w26.cell? ⟨gbaa, 1, none⟩ = some (.slice none 0 0) := (blk_cell BKaa.out 1).trans rfl; have hfs29 := blk_frozen BKaa.out 1; have hns29_0 := NB250_269.out; have hns29_1 := NB259_269.out; have hms29_0 := NB269_250.out; have hms29_1 := NB269_259.out; have hs31 : w26.cell? ⟨gbaa, 2, none⟩ = some (.slice none 0 0) := (blk_cell BKaa.out 2).trans rfl; have hfs31 := blk_frozen BKaa.out 2; have hns31_0 := NB250_269.out; have hns31_1 := NB259_269.out; have hms31_0 := NB269_250.out; have hms31_1 := NB269_259.out; refine skip_ (w1 := ?_) Zq3 rfl ?_ ?_
        rotate_left
        ·go_simp
         rfl
        refine hK.out _ _ ⟨((cell_far (p := ⟨gbaa, _, none⟩) NB250_269.out _).trans (((cell_far (p := ⟨gbaa, _, none⟩) NB250_269.out _).trans (((cell_far (p := ⟨gbaa, _, none⟩) NB250_269.out _).trans (hHeld.1)))))), ((cell_far (p := ⟨gbaa, _, none⟩) NB250_269.out _).trans (((cell_far (p := ⟨gbaa, _, none⟩) NB250_269.out _).trans (((cell_far (p := ⟨gbaa, _, none⟩) NB250_269.out _).trans (hHeld.2.1)))))), ((cell_far (p := ⟨gbaa, _, none⟩) NB250_269.out _).trans (((cell_far (p := ⟨gbaa, _, none⟩) NB250_269.out _).trans (((cell_far (p := ⟨gbaa, _, none⟩) NB250_269.out _).trans (hHeld.2.2.1)))))), ((cell_far (p := ⟨gbaa, _, none⟩) NB250_269.out _).trans (((cell_far (p := ⟨gbaa, _, none⟩) NB250_269.out _).trans (((cell_far (p := ⟨gbaa, _, none⟩) NB250_269.out _).trans (hHeld.2.2.2.1)))))), ((cell_far (p := ⟨gbaa, _, none⟩) NB250_269.out _).trans (((cell_far (p := ⟨gbaa, _, none⟩) NB250_269.out _).trans (((cell_far (p := ⟨gbaa, _, none⟩) NB250_269.out _).trans (hHeld.2.2.2.2))))))⟩ (fun hHeld => ?_); clear hK K; refine pure_ (i := 11) (N := some 14) (v := ?_) (a' := ?_) #[true, true, true, true, true, true, true, true, true, true, true, true] rfl rfl (any_of HT_.out Zq2) (fun _ _ _ h => h) (Or.inl ⟨Zq3, ?_⟩) ?_ ?_
        rotate_left
        ·intro w'
         go_simp
         with_reducible rfl
        rotate_left
        ·simp only [Sx]
         rfl
        refine done_ (done_of HT_.out Zq2) ?_; have hnb32 := NB269_250.out; have hnc32 := NB250_269.out; have hnb33 := NB269_259.out; have hnc33 := NB259_269.out; have hcz34_0 : w26.cell? ⟨gbaa, 0, none⟩ = some (.string (⟨#[]⟩ : ByteArray)) := (blk_cell BKaa.out 0).trans rfl; have hcz34_1 : w26.cell? ⟨gbaa, 1, none⟩ = some (.slice none 0 0) := (blk_cell BKaa.out 1).trans rfl; have hcz34_2 : w26.cell? ⟨gbaa, 2, none⟩ = some (.slice none 0 0) := (blk_cell BKaa.out 2).trans rfl; have hfz34_0 := blk_frozen BKaa.out 0; have hfz34_1 := blk_frozen BKaa.out 1; have hfz34_2 := blk_frozen BKaa.out 2; have hnb35 := NB259_250.out; have hnc35 := NB250_259.out; have hcz36_0 : w26.cell? ⟨gbak, 0, none⟩ = some (.string xbE_1) := (blk_cell BKak.out 0).trans rfl; have hcz36_1 : w26.cell? ⟨gbak, 1, none⟩ = some (u260001) := (blk_cell BKak.out 1).trans rfl; have hcz36_2 : w26.cell? ⟨gbak, 2, none⟩ = some (u260002) := (blk_cell BKak.out 2).trans rfl; have hfz36_0 := blk_frozen BKak.out 0; have hfz36_1 := blk_frozen BKak.out 1; have hfz36_2 := blk_frozen BKak.out 2; obtain ⟨Ao37, co37, eo37⟩ := Kd.S_slice HO_aL.out; subst eo37; obtain ⟨Ao38, co38, eo38⟩ := Kd.R_slice HO_aM.out; subst eo38
        try go_wp2_with (first | ((with_reducible refine gate_callee (f := 49) rfl ?_); refine goesL_ (some 43) rfl rfl Try.func49 Zq2 rfl #[.agg #[.string taX, .slice Ao28 tbe.length co28, .slice Ao30 tbj.length co30], .agg #[.string xbE_1, .slice Ao37 xaL_1.length co37, .slice Ao38 xaM_1.length co38], .int .u64 x2_1, .int .u64 a3] rfl Zq9 ?_; (with_reducible refine (xlate_step.calls k1 taX _ _ tbe _ _ tbj xbE_1 _ _ xaL_1 _ _ xaM_1 x2_1 a3 tbT tdq _ ?side1 ?side2 ?side3 ?side4 ?side5 ?side6 ?side7 ?side8 A20.out).mono ?_); (case side1 => refine (Kd.S_reads' (e := 77) (base := w.heap.size) (ok := fun k_ => some k_ ≠ (.slice Ao37 xaL_1.length co37 : Value).ownBlock) (n := tbe.length) (c := co28) ?_).2.2; exact (by (with_reducible repeat (first | apply Kd.S_alloc | apply Kd.S_drewN | apply Kd.S_drew)); exact (Kd.S_mono (Kd.S_far (p := ⟨gbaa, 2, none⟩) (Kd.S_far (p := ⟨gbaa, 1, none⟩) (Kd.S_far (p := ⟨gbaa, 0, none⟩) (Kd.S_types HObG.out BKaa.out Zq7) (fun _ hk => hk.2) (.string taX)) (fun _ hk => hk.2) (.slice Ao28 tbe.length co28)) (fun _ hk => hk.2) (.slice Ao30 tbj.length co30)) (fun _ h_ => h_.1)))); (case side2 => exact (Kd.S_reads' HObG.out).2.1); (case side3 => refine (Kd.R_reads' (e := 30) (base := w.heap.size) (ok := fun k_ => (some k_ ≠ (.slice Ao28 tbe.length co28 : Value).ownBlock ∧ (some k_ ≠ (.slice Ao37 xaL_1.length co37 : Value).ownBlock ∧ (some k_ ≠ (.slice Ao38 xaM_1.length co38 : Value).ownBlock ∧ (k_ ≠ gbak ∧ k_ ≠ gbaa))))) (n := tbj.length) (c := co30) ?_).2.2; exact (by (with_reducible repeat (first | apply Kd.R_alloc | apply Kd.R_drewN | apply Kd.R_drew)); exact (Kd.R_mono (Kd.R_far (p := ⟨gbaa, 2, none⟩) (Kd.R_far (p := ⟨gbaa, 1, none⟩) (Kd.R_far (p := ⟨gbaa, 0, none⟩) (Kd.R_mono HObH.out (fun k_ hk => (⟨hk, hk.2.2.2.2⟩ : _ ∧ k_ ≠ gbaa))) (fun _ hk => hk.2) (.string taX)) (fun _ hk => hk.2) (.slice Ao28 tbe.length co28)) (fun _ hk => hk.2) (.slice Ao30 tbj.length co30)) (fun _ h_ => h_.1)))); (case side4 => exact (Kd.R_reads' HObH.out).2.1); (case side5 => refine (Kd.S_reads' (e := 77) (base := w.heap.size) (ok := fun k_ => some k_ ≠ (.slice Ao28 tbe.length co28 : Value).ownBlock) (n := xaL_1.length) (c := co37) ?_).2.2; exact (by (with_reducible repeat (first | apply Kd.S_alloc | apply Kd.S_drewN | apply Kd.S_drew)); exact (Kd.S_mono (Kd.S_far (p := ⟨gbaa, 2, none⟩) (Kd.S_far (p := ⟨gbaa, 1, none⟩) (Kd.S_far (p := ⟨gbaa, 0, none⟩) (Kd.S_types HO_aL.out BKaa.out Zq7) (fun _ hk => hk.2) (.string taX)) (fun _ hk => hk.2) (.slice Ao28 tbe.length co28)) (fun _ hk => hk.2) (.slice Ao30 tbj.length co30)) (fun _ h_ => h_.1)))); (case side6 => exact (Kd.S_reads' HO_aL.out).2.1); (case side7 => refine (Kd.R_reads' (e := 30) (base := w.heap.size) (ok := fun k_ => (some k_ ≠ (.slice Ao28 tbe.length co28 : Value).ownBlock ∧ (some k_ ≠ (.slice Ao30 tbj.length co30 : Value).ownBlock ∧ (some k_ ≠ (.slice Ao37 xaL_1.length co37 : Value).ownBlock ∧ (k_ ≠ gbak ∧ k_ ≠ gbaa))))) (n := xaM_1.length) (c := co38) ?_).2.2; exact (by (with_reducible repeat (first | apply Kd.R_alloc | apply Kd.R_drewN | apply Kd.R_drew)); exact (Kd.R_mono (Kd.R_far (p := ⟨gbaa, 2, none⟩) (Kd.R_far (p := ⟨gbaa, 1, none⟩) (Kd.R_far (p := ⟨gbaa, 0, none⟩) (Kd.R_mono HO_aM.out (fun k_ hk => (⟨hk, hk.2.2.2.2⟩ : _ ∧ k_ ≠ gbaa))) (fun _ hk => hk.2) (.string taX)) (fun _ hk => hk.2) (.slice Ao28 tbe.length co28)) (fun _ hk => hk.2) (.slice Ao30 tbj.length co30)) (fun _ h_ => h_.1)))); (case side8 => exact (Kd.R_reads' HO_aM.out).2.1); rintro e w39 ⟨rfl, hb⟩; refine ⟨_, rfl, ?_⟩; have n0_ := Ak (Kd.S_below (by (with_reducible repeat (first | apply Kd.S_alloc | apply Kd.S_drewN | apply Kd.S_drew)); exact (Kd.S_mono (Kd.S_far (p := ⟨gbaa, 2, none⟩) (Kd.S_far (p := ⟨gbaa, 1, none⟩) (Kd.S_far (p := ⟨gbaa, 0, none⟩) (Kd.S_types HO_aL.out BKaa.out Zq7) (fun _ hk => hk.2) (.string taX)) (fun _ hk => hk.2) (.slice Ao28 tbe.length co28)) (fun _ hk => hk.2) (.slice Ao30 tbj.length co30)) (fun _ h_ => h_.1))) hb); have n1_ := Ak (Kd.R_below (by (with_reducible repeat (first | apply Kd.R_alloc | apply Kd.R_drewN | apply Kd.R_drew)); exact (Kd.R_mono (Kd.R_far (p := ⟨gbaa, 2, none⟩) (Kd.R_far (p := ⟨gbaa, 1, none⟩) (Kd.R_far (p := ⟨gbaa, 0, none⟩) (Kd.R_mono HO_aM.out (fun k_ hk => (⟨hk, hk.2.2.2.2⟩ : _ ∧ k_ ≠ gbaa))) (fun _ hk => hk.2) (.string taX)) (fun _ hk => hk.2) (.slice Ao28 tbe.length co28)) (fun _ hk => hk.2) (.slice Ao30 tbj.length co30)) (fun _ h_ => h_.1))) hb); have n2_ := Ak (Kd.S_below (by (with_reducible repeat (first | apply Kd.S_alloc | apply Kd.S_drewN | apply Kd.S_drew)); exact (Kd.S_mono (Kd.S_far (p := ⟨gbaa, 2, none⟩) (Kd.S_far (p := ⟨gbaa, 1, none⟩) (Kd.S_far (p := ⟨gbaa, 0, none⟩) (Kd.S_types HObG.out BKaa.out Zq7) (fun _ hk => hk.2) (.string taX)) (fun _ hk => hk.2) (.slice Ao28 tbe.length co28)) (fun _ hk => hk.2) (.slice Ao30 tbj.length co30)) (fun _ h_ => h_.1))) hb); have n3_ := Ak (Kd.R_below (by (with_reducible repeat (first | apply Kd.R_alloc | apply Kd.R_drewN | apply Kd.R_drew)); exact (Kd.R_mono (Kd.R_far (p := ⟨gbaa, 2, none⟩) (Kd.R_far (p := ⟨gbaa, 1, none⟩) (Kd.R_far (p := ⟨gbaa, 0, none⟩) (Kd.R_mono HObH.out (fun k_ hk => (⟨hk, hk.2.2.2.2⟩ : _ ∧ k_ ≠ gbaa))) (fun _ hk => hk.2) (.string taX)) (fun _ hk => hk.2) (.slice Ao28 tbe.length co28)) (fun _ hk => hk.2) (.slice Ao30 tbj.length co30)) (fun _ h_ => h_.1))) hb); have n4_ := Ak (blk_below (g := gbae) (o := .cells #[.int .u32 a0_0, .slice A0_1 l0_1.length c0_1, .string a0_2, .slice A0_3 l0_3.length c0_3, .slice A0_4 l0_4.length c0_4] 35 (0, 0)) (by (with_reducible repeat (first | refine blk_drewN ?_ _ | refine blk_drew ?_ | refine blk_alloc ?_ _)); refine blk_far ?_ NB250_269.out _; (with_reducible repeat (first | refine blk_drewN ?_ _ | refine blk_drew ?_ | refine blk_alloc ?_ _)); refine blk_far ?_ NB250_269.out _; (with_reducible repeat (first | refine blk_drewN ?_ _ | refine blk_drew ?_ | refine blk_alloc ?_ _)); refine blk_far ?_ NB250_269.out _; (with_reducible repeat (first | refine blk_drewN ?_ _ | refine blk_drew ?_ | refine blk_alloc ?_ _)); exact BKae.out) hb); have n5_ := Ak (blk_below (g := gbak) (o := .cells #[.string xbE_1, .slice Ao37 xaL_1.length co37, .slice Ao38 xaM_1.length co38] 30 (0, 0)) (by (with_reducible repeat (first | refine blk_drewN ?_ _ | refine blk_drew ?_ | refine blk_alloc ?_ _)); refine blk_far ?_ NB259_269.out _; (with_reducible repeat (first | refine blk_drewN ?_ _ | refine blk_drew ?_ | refine blk_alloc ?_ _)); refine blk_far ?_ NB259_269.out _; (with_reducible repeat (first | refine blk_drewN ?_ _ | refine blk_drew ?_ | refine blk_alloc ?_ _)); refine blk_far ?_ NB259_269.out _; (with_reducible repeat (first | refine blk_drewN ?_ _ | refine blk_drew ?_ | refine blk_alloc ?_ _)); exact BKak.out) hb); have n6_ := Ak (blk_below (g := gbaa) (o := .cells #[.string taX, .slice Ao28 tbe.length co28, .slice Ao30 tbj.length co30] 30 (0, 0)) (by (with_reducible repeat (first | refine blk_drewN ?_ _ | refine blk_drew ?_ | refine blk_alloc ?_ _)); refine blk_put (cs := #[.string taX, .slice Ao28 tbe.length co28, .slice none 0 0]) ?_ 2 _ rfl; (with_reducible repeat (first | refine blk_drewN ?_ _ | refine blk_drew ?_ | refine blk_alloc ?_ _)); refine blk_put (cs := #[.string taX, .slice none 0 0, .slice none 0 0]) ?_ 1 _ rfl; (with_reducible repeat (first | refine blk_drewN ?_ _ | refine blk_drew ?_ | refine blk_alloc ?_ _)); refine blk_put (cs := #[.string (⟨#[]⟩ : ByteArray), .slice none 0 0, .slice none 0 0]) ?_ 0 _ rfl; (with_reducible repeat (first | refine blk_drewN ?_ _ | refine blk_drew ?_ | refine blk_alloc ?_ _)); exact BKaa.out) hb); have n7_ := Ak (below_step Zq31 hb); clear HO_aL HO_aM HObG HObH BKae BKak BKaa HB; have HO_aL := n0_; have HO_aM := n1_; have HObG := n2_; have HObH := n3_; have BKae := n4_; have BKak := n5_; have BKaa := n6_; have HB := n7_; clear n0_ n1_ n2_ n3_ n4_ n5_ n6_ n7_; (try clear hb); (try clear hb2); (try clear hk); (try clear hi); have hcz40_0 : w39.cell? ⟨gbaa, 0, none⟩ = some (.string taX) := (blk_cell BKaa.out 0).trans rfl; have hcz40_1 : w39.cell? ⟨gbaa, 1, none⟩ = some (.slice Ao28 tbe.length co28) := (blk_cell BKaa.out 1).trans rfl; have hcz40_2 : w39.cell? ⟨gbaa, 2, none⟩ = some (.slice Ao30 tbj.length co30) := (blk_cell BKaa.out 2).trans rfl; have hfz40_0 := blk_frozen BKaa.out 0; have hfz40_1 := blk_frozen BKaa.out 1; have hfz40_2 := blk_frozen BKaa.out 2; have hcz41_0 : w39.cell? ⟨gbak, 0, none⟩ = some (.string xbE_1) := (blk_cell BKak.out 0).trans rfl; have hcz41_1 : w39.cell? ⟨gbak, 1, none⟩ = some (.slice Ao37 xaL_1.length co37) := (blk_cell BKak.out 1).trans rfl; have hcz41_2 : w39.cell? ⟨gbak, 2, none⟩ = some (.slice Ao38 xaM_1.length co38) := (blk_cell BKak.out 2).trans rfl; have hfz41_0 := blk_frozen BKak.out 0; have hfz41_1 := blk_frozen BKak.out 1; have hfz41_2 := blk_frozen BKak.out 2))
        first | (go_roundg k1) | ((try subst hji16); go_roundg k1)
        case measure => have := HK1.out; omega
        case rel => exact ⟨(tbT), (ji16), (taX), (tbe), (tbj), (.slice Ao28 tbe.length co28), (.slice Ao30 tbj.length co30), Zq6, (by first | rfl | (simp; done) | (simp only [← hji16] <;> (first | rfl | simp)) | (simp [*]; done)), H', ⟨Zq26⟩, ⟨by (with_reducible repeat (first | apply Kd.S_alloc | apply Kd.S_drewN | apply Kd.S_drew)); exact Kd.S_mono (Kd.S_far (p := ⟨gbak, 2, none⟩) (Kd.S_far (p := ⟨gbak, 1, none⟩) (Kd.S_far (p := ⟨gbak, 0, none⟩) (Kd.S_types HObG.out BKak.out Zq7) (fun _ hk => hk.2) (.string taX)) (fun _ hk => hk.2) (.slice Ao28 tbe.length co28)) (fun _ hk => hk.2) (.slice Ao30 tbj.length co30)) (fun _ hk => trivial)⟩, ⟨by (with_reducible repeat (first | apply Kd.R_alloc | apply Kd.R_drewN | apply Kd.R_drew)); exact Kd.R_mono (Kd.R_far (p := ⟨gbak, 2, none⟩) (Kd.R_far (p := ⟨gbak, 1, none⟩) (Kd.R_far (p := ⟨gbak, 0, none⟩) (Kd.R_mono HObH.out (fun k_ hk => (⟨hk, hk.2.2.2.1⟩ : _ ∧ k_ ≠ gbak))) (fun _ hk => hk.2) (.string taX)) (fun _ hk => hk.2) (.slice Ao28 tbe.length co28)) (fun _ hk => hk.2) (.slice Ao30 tbj.length co30)) (fun _ hk => ⟨hk.1.1, hk.1.2.2.2.1⟩)⟩, ⟨by (with_reducible repeat (first | refine blk_drewN ?_ _ | refine blk_drew ?_ | refine blk_alloc ?_ _)); refine blk_far ?_ NB250_259.out _; (with_reducible repeat (first | refine blk_drewN ?_ _ | refine blk_drew ?_ | refine blk_alloc ?_ _)); refine blk_far ?_ NB250_259.out _; (with_reducible repeat (first | refine blk_drewN ?_ _ | refine blk_drew ?_ | refine blk_alloc ?_ _)); refine blk_far ?_ NB250_259.out _; (with_reducible repeat (first | refine blk_drewN ?_ _ | refine blk_drew ?_ | refine blk_alloc ?_ _)); exact BKae.out⟩, ⟨by (with_reducible repeat (first | refine blk_drewN ?_ _ | refine blk_drew ?_ | refine blk_alloc ?_ _)); refine blk_put (cs := #[.string taX, .slice Ao28 tbe.length co28, .slice Ao38 xaM_1.length co38]) ?_ 2 _ rfl; (with_reducible repeat (first | refine blk_drewN ?_ _ | refine blk_drew ?_ | refine blk_alloc ?_ _)); refine blk_put (cs := #[.string taX, .slice Ao37 xaL_1.length co37, .slice Ao38 xaM_1.length co38]) ?_ 1 _ rfl; (with_reducible repeat (first | refine blk_drewN ?_ _ | refine blk_drew ?_ | refine blk_alloc ?_ _)); refine blk_put (cs := #[.string xbE_1, .slice Ao37 xaL_1.length co37, .slice Ao38 xaM_1.length co38]) ?_ 0 _ rfl; (with_reducible repeat (first | refine blk_drewN ?_ _ | refine blk_drew ?_ | refine blk_alloc ?_ _)); exact BKak.out⟩, ⟨Zq31⟩⟩
       ·rw [if_neg c21] at H; have c21b0 : (tdq == 0) = false := beq_eq_false_iff_ne.mpr c21; have c21b1 : (tdq != 0) = true := bne_iff_ne.mpr c21; simp only [Option.some.injEq, Prod.mk.injEq] at H; obtain ⟨rfl, rfl⟩ := H
        try go_wp2
        have n0_ := Ak (Kd.S_drew HO_aL.out); have n1_ := Ak (Kd.R_drew HO_aM.out); have n2_ := Ak (blk_drew BKae.out); have n3_ := Ak (blk_drew BKak.out); have n4_ := Zq164; clear HO_aL HO_aM BKae BKak HB; have HO_aL := n0_; have HO_aM := n1_; have BKae := n2_; have BKak := n3_; have HB := n4_; clear n0_ n1_ n2_ n3_ n4_; obtain ⟨i043, hi043, _, hsz43, _⟩ := info_parts info3; obtain ⟨hcut43, hA43, hC43⟩ := print_take_of (P := Try.prog) (Value.int .i64) 0 48 3 .i64 Try.underlying48 hi043 hsz43 A1 c1 l1 (ji16) (of_decide_eq_true Zq4) (of_decide_eq_true Zq4) HC1.out; have HRcG := Ak (Kd.C_of_reads (h1 := fun _ => rfl) (hA43 _ (Kd.reads_of_C HR1.out))); have HCcG := Ak hC43; clear hA43 hC43 hi043 hsz43; refine start_ (n := 12) (S := fun w' => w'.cell? ⟨gbae, 0, none⟩ = some (.int .u32 a0_0) ∧ w'.cell? ⟨gbae, 1, none⟩ = some (.slice A0_1 l0_1.length c0_1) ∧ w'.cell? ⟨gbae, 2, none⟩ = some (.string a0_2) ∧ w'.cell? ⟨gbae, 3, none⟩ = some (.slice A0_3 l0_3.length c0_3) ∧ w'.cell? ⟨gbae, 4, none⟩ = some (.slice A0_4 l0_4.length c0_4)) (ds := []) #[false, false, false, false, false, false, false, false, false, false, false, false] Zq2 rfl rfl ⟨(blk_cell BKae.out 0).trans rfl, (blk_cell BKae.out 1).trans rfl, (blk_cell BKae.out 2).trans rfl, (blk_cell BKae.out 3).trans rfl, (blk_cell BKae.out 4).trans rfl⟩ (fun hHeld => ?_); refine with_tabW xlate_Up.tab7 xlate_Up.bits7 (fun HT_ HW_ => ?_); generalize wr.drew = w42 at HO_aL HO_aM BKae BKak HB HRcG hHeld ⊢; refine pure_ (i := 1) (N := some 31) (v := ?_) (a' := ?_) #[false, true, false, false, false, false, false, false, false, false, false, false] rfl rfl (any_of HT_.out Zq2) (fun _ _ _ h => h) (Or.inl ⟨Zq3, ?_⟩) ?_ ?_
        rotate_left
        ·intro w'
         go_simp
         with_reducible rfl
        rotate_left
        ·simp only [Sx]
         rfl
        refine pure_ (i := 2) (N := some 32) (v := ?_) (a' := ?_) #[false, true, true, false, false, false, false, false, false, false, false, false] rfl rfl (any_of HT_.out Zq2) (fun _ _ _ h => h) (Or.inl ⟨Zq3, ?_⟩) ?_ ?_
        rotate_left
        ·intro w'
         go_simp
         with_reducible rfl
        rotate_left
        ·simp only [Sx]
         rfl
        refine pure_ (i := 3) (N := some 33) (v := ?_) (a' := ?_) #[false, true, true, true, false, false, false, false, false, false, false, false] rfl rfl (any_of HT_.out Zq2) (fun _ _ _ h => h) (Or.inl ⟨Zq3, ?_⟩) ?_ ?_
        rotate_left
        ·intro w'
         go_simp
         with_reducible rfl
        rotate_left
        ·simp only [Sx]
         rfl
        refine pure_ (i := 4) (N := some 34) (v := ?_) (a' := ?_) #[false, true, true, true, true, false, false, false, false, false, false, false] rfl rfl (any_of HT_.out Zq2) (fun _ _ _ h => h) (Or.inl ⟨Zq3, ?_⟩) ?_ ?_
        rotate_left
        ·intro w'
         go_simp
         with_reducible rfl
        rotate_left
        ·simp only [Sx]
         rfl
        refine take_ (i := 0) (N := some 30) (v := ?_) (a' := ?_) #[true, true, true, true, true, false, false, false, false, false, false, false] rfl rfl (take_ofW HT_.out HW_.out Zq2) (fun _ _ _ h => h) (Or.inl ⟨Zq3, ?_⟩) hHeld ?_ ?_
        rotate_left
        ·rintro w' ⟨s0, s1, s2, s3, s4⟩
         go_simp
         with_reducible rfl
        rotate_left
        ·simp only [Sx]
         rfl
        refine join_ (σ := Value × Value × Nat) 2 #[true, true, true, true, true, true, true, true, true, true, false, false] (fun s_ => [(35, .tuple #[.agg #[.string taX, s_.1, s_.2.1], .int .i64 tcX]), (13, .pointer (some ⟨s_.2.2, 0, none⟩)), (29, .tuple #[.agg #[.string taX, s_.1, s_.2.1], .int .i64 tcX]), (36, .agg #[.string taX, s_.1, s_.2.1]), (37, .int .i64 tcX)]) (fun s_ w' => (w'.cell? ⟨gbae, 0, none⟩ = some (.int .u32 a0_0) ∧ w'.cell? ⟨gbae, 1, none⟩ = some (.slice A0_1 l0_1.length c0_1) ∧ w'.cell? ⟨gbae, 2, none⟩ = some (.string a0_2) ∧ w'.cell? ⟨gbae, 3, none⟩ = some (.slice A0_3 l0_3.length c0_3) ∧ w'.cell? ⟨gbae, 4, none⟩ = some (.slice A0_4 l0_4.length c0_4)) ∧ (Kd.S k77 77 w' w.heap.size (fun k_ => some k_ ≠ (u260001 : Value).ownBlock) s_.1 tbe) ∧ (Kd.R k30 30 w' w.heap.size (fun k_ => some k_ ≠ (s_.1 : Value).ownBlock ∧ some k_ ≠ (u260001 : Value).ownBlock ∧ some k_ ≠ (u260002 : Value).ownBlock ∧ k_ ≠ gbak ∧ k_ ≠ s_.2.2) s_.2.1 tbj) ∧ (Kd.S k77 77 w' w.heap.size (fun k_ => some k_ ≠ (s_.1 : Value).ownBlock) u260001 xaL_1) ∧ (Kd.R k30 30 w' w.heap.size (fun k_ => some k_ ≠ (s_.1 : Value).ownBlock ∧ some k_ ≠ (s_.2.1 : Value).ownBlock ∧ some k_ ≠ (u260001 : Value).ownBlock ∧ k_ ≠ gbak ∧ k_ ≠ s_.2.2) u260002 xaM_1) ∧ (w'.heap[gbae]? = some (.cells #[.int .u32 a0_0, .slice A0_1 l0_1.length c0_1, .string a0_2, .slice A0_3 l0_3.length c0_3, .slice A0_4 l0_4.length c0_4] 35 (0, 0))) ∧ (w'.heap[gbak]? = some (.cells #[.string xbE_1, u260001, u260002] 30 (0, 0))) ∧ (w'.heap[s_.2.2]? = some (.cells #[.string (⟨#[]⟩ : ByteArray), .slice none 0 0, .slice none 0 0] 30 (0, 0))) ∧ (w.heap.size ≤ s_.2.2) ∧ (w.heap.size ≤ s_.2.2) ∧ (gbae ≠ s_.2.2) ∧ (s_.2.2 ≠ gbae) ∧ (gbak ≠ s_.2.2) ∧ (s_.2.2 ≠ gbak) ∧ (Below w.heap.size w w')) ?_ ?_
        rotate_left
        ·intro hCont; refine two_ (i := 5) (j := 9) (Ni := some 35) (Nj := some 13) #[true, true, true, true, true, true, false, false, false, false, false, false] #[true, true, true, true, true, false, false, false, false, true, false, false] rfl rfl rfl rfl (two_of HT_.out Zq2) Zq7 Zq7 (fun K hK => ?_) (fun K hK => ?_)
         ·skip
          refine goes_ Try.func48 Zq2 rfl #[.agg #[.int .u32 a0_0, .slice A0_1 l0_1.length c0_1, .string a0_2, .slice A0_3 l0_3.length c0_3, .slice A0_4 l0_4.length c0_4], .slice A1 (l1.take ((ji16) : Int).toNat).length c1] Zq3 rfl rfl Zq117 ?_; with_reducible refine (path_Get.calls k1 a0_0 _ _ l0_1 a0_2 (fun k_ => k_ < w.heap.size) _ _ l0_3 (fun k_ => k_ < w.heap.size) _ _ l0_4 _ _ (l1.take ((ji16) : Int).toNat) taX tbe tbj tcX _ ?side1 ?side2 ?side3 ?side4 ?side5 ?side6 A19.out).mono ?_
          (case side1 => repeat (first | exact Zq126 | (with_reducible refine Kd.C_alloc ?_ _) | (with_reducible refine Kd.C_drewN ?_ _) | (with_reducible refine Kd.C_drew ?_)))
          (case side2 => exact HC0_1.out)
          (case side3 => exact Kd.V_mk HC0_3.out (Kd.F_below (Kd.C_F k77_heap HR0_3.out) Zq19))
          (case side4 => exact Kd.V_mk HC0_4.out (Kd.F_below (Kd.C_F k30_heap HR0_4.out) Zq19))
          (case side5 => repeat (first | exact (Kd.C_below HRcG.out HB.out) | (with_reducible refine Kd.C_alloc ?_ _) | (with_reducible refine Kd.C_drewN ?_ _) | (with_reducible refine Kd.C_drew ?_)))
          (case side6 => exact HCcG.out)
          rintro e w44 ⟨v263, v266, rfl, ho0, ho1, hb⟩
          refine ⟨_, rfl, ?_⟩; have n0_ := Zq220; have n1_ := Zq175; have n2_ := Zq228; have n3_ := Zq184; have n4_ := Zq119; have n5_ := Zq139; have n6_ := Zq215; clear HO_aL HO_aM BKae BKak HB; have HO_aL := n0_; have HO_aM := n1_; have HObG := n2_; have HObH := n3_; have BKae := n4_; have BKak := n5_; have HB := n6_; clear n0_ n1_ n2_ n3_ n4_ n5_ n6_
          (try clear hb)
          (try clear hb2)
          (try clear hk)
          (try clear hi)
          (try clear ho0)
          (try clear ho1)
          refine hK.out _ _ ⟨(blk_cell BKae.out 0).trans rfl, (blk_cell BKae.out 1).trans rfl, (blk_cell BKae.out 2).trans rfl, (blk_cell BKae.out 3).trans rfl, (blk_cell BKae.out 4).trans rfl⟩ (fun hHeld => ?_); clear hK K; refine norm_ (a' := ?_) ?_ ?_
          rotate_left
          ·show Act.put _ (some 35) _ = _
           simp only [Sx]
           rfl
          refine pure_ (i := 6) (N := some 29) (v := ?_) (a' := ?_) #[true, true, true, true, true, true, true, false, false, false, false, false] rfl rfl (any_of HT_.out Zq2) (fun _ _ _ h => h) (Or.inl ⟨Zq3, ?_⟩) ?_ ?_
          rotate_left
          ·intro w'
           go_simp
           with_reducible rfl
          rotate_left
          ·simp only [Sx]
           rfl
          refine pure_ (i := 7) (N := some 36) (v := ?_) (a' := ?_) #[true, true, true, true, true, true, true, true, false, false, false, false] rfl rfl (any_of HT_.out Zq2) (fun _ _ _ h => h) (Or.inl ⟨Zq3, ?_⟩) ?_ ?_
          rotate_left
          ·intro w'
           go_simp
           with_reducible rfl
          rotate_left
          ·simp only [Sx]
           rfl
          refine pure_ (i := 8) (N := some 37) (v := ?_) (a' := ?_) #[true, true, true, true, true, true, true, true, true, false, false, false] rfl rfl (any_of HT_.out Zq2) (fun _ _ _ h => h) (Or.inl ⟨Zq3, ?_⟩) ?_ ?_
          rotate_left
          ·intro w'
           go_simp
           with_reducible rfl
          rotate_left
          ·simp only [Sx]
           rfl
          refine one_ (i := 9) (N := some 13) #[true, true, true, true, true, true, true, true, true, true, false, false] rfl rfl (one_of HT_.out Zq2) Zq7 (fun K hK => ?_); refine box_step ?hg (N := 13) ?hd (cs := #[.string (⟨#[]⟩ : ByteArray), .slice none 0 0, .slice none 0 0]) (t := 30) ?hr ?_; (case hd | hg => rfl); (case hr => first | (go_simp; done) | (go_simp; rfl)); intro gbaa hg w45 hbox hb; have n0_ := Ak (Kd.S_below Zq39 hb); have n1_ := Zq186; have n2_ := Zq222; have n3_ := Zq207; have n4_ := Zq119; have n5_ := Zq139; have n6_ := Zq215; have n7_ := Ak (hbox); have n8_ := Zq152; have n9_ := Zq152; have n10_ := Zq238; have n11_ := Zq239; have n12_ := Zq240; have n13_ := Zq241; clear HO_aL HO_aM HObG HObH BKae BKak HB; have HO_aL := n0_; have HO_aM := n1_; have HObG := n2_; have HObH := n3_; have BKae := n4_; have BKak := n5_; have HB := n6_; have BKaa := n7_; have GWaa := n8_; have GEaa := n9_; have NB250_269 := n10_; have NB269_250 := n11_; have NB259_269 := n12_; have NB269_259 := n13_; clear n0_ n1_ n2_ n3_ n4_ n5_ n6_ n7_ n8_ n9_ n10_ n11_ n12_ n13_ hb hbox hg; refine hK.out _ _ ⟨(blk_cell BKae.out 0).trans rfl, (blk_cell BKae.out 1).trans rfl, (blk_cell BKae.out 2).trans rfl, (blk_cell BKae.out 3).trans rfl, (blk_cell BKae.out 4).trans rfl⟩ (fun hHeld => ?_); clear hK K; refine norm_ (a' := ?_) ?_ ?_
          rotate_left
          ·show Act.put _ (some 13) _ = _
           simp only [Sx]
           rfl
          exact norm_ Zq67 (hCont (v263, v266, gbaa) _ ⟨hHeld, Zq108, Zq109, Zq110, (by (with_reducible repeat (first | apply Kd.R_alloc | apply Kd.R_drewN | apply Kd.R_drew)); exact Kd.R_mono HO_aM.out (fun _ hk => ⟨hk.1.1.2, ⟨hk.1.2, ⟨hk.1.1.1.1, ⟨hk.1.1.1.2, hk.2⟩⟩⟩⟩)), Zq17, Zq21, Zq68, GWaa.out, GEaa.out, NB250_269.out, NB269_250.out, NB259_269.out, NB269_259.out, Zq31⟩)
         ·skip
          refine box_step ?hg (N := 13) ?hd (cs := #[.string (⟨#[]⟩ : ByteArray), .slice none 0 0, .slice none 0 0]) (t := 30) ?hr ?_; (case hd | hg => rfl); (case hr => first | (go_simp; done) | (go_simp; rfl)); intro gbaa hg w44 hbox hb; have n0_ := Ak (Kd.S_below Zq39 hb); have n1_ := Zq186; have n2_ := Zq119; have n3_ := Zq139; have n4_ := Zq215; have n5_ := Ak (hbox); have n6_ := Zq152; have n7_ := Zq152; have n8_ := Zq238; have n9_ := Zq239; have n10_ := Zq240; have n11_ := Zq241; clear HO_aL HO_aM BKae BKak HB; have HO_aL := n0_; have HO_aM := n1_; have BKae := n2_; have BKak := n3_; have HB := n4_; have BKaa := n5_; have GWaa := n6_; have GEaa := n7_; have NB250_269 := n8_; have NB269_250 := n9_; have NB259_269 := n10_; have NB269_259 := n11_; clear n0_ n1_ n2_ n3_ n4_ n5_ n6_ n7_ n8_ n9_ n10_ n11_ hb hbox hg; refine hK.out _ _ ⟨(blk_cell BKae.out 0).trans rfl, (blk_cell BKae.out 1).trans rfl, (blk_cell BKae.out 2).trans rfl, (blk_cell BKae.out 3).trans rfl, (blk_cell BKae.out 4).trans rfl⟩ (fun hHeld => ?_); clear hK K; refine norm_ (a' := ?_) ?_ ?_
          rotate_left
          ·show Act.put _ (some 13) _ = _
           simp only [Sx]
           rfl
          refine one_ (i := 5) (N := some 35) #[true, true, true, true, true, true, false, false, false, true, false, false] rfl rfl (one_of HT_.out Zq2) Zq7 (fun K hK => ?_); refine goes_ Try.func48 Zq2 rfl #[.agg #[.int .u32 a0_0, .slice A0_1 l0_1.length c0_1, .string a0_2, .slice A0_3 l0_3.length c0_3, .slice A0_4 l0_4.length c0_4], .slice A1 (l1.take ((ji16) : Int).toNat).length c1] Zq3 rfl rfl Zq117 ?_; with_reducible refine (path_Get.calls k1 a0_0 _ _ l0_1 a0_2 (fun k_ => k_ < w.heap.size) _ _ l0_3 (fun k_ => k_ < w.heap.size) _ _ l0_4 _ _ (l1.take ((ji16) : Int).toNat) taX tbe tbj tcX _ ?side1 ?side2 ?side3 ?side4 ?side5 ?side6 A19.out).mono ?_
          (case side1 => repeat (first | exact Zq126 | (with_reducible refine Kd.C_alloc ?_ _) | (with_reducible refine Kd.C_drewN ?_ _) | (with_reducible refine Kd.C_drew ?_)))
          (case side2 => exact HC0_1.out)
          (case side3 => exact Kd.V_mk HC0_3.out (Kd.F_below (Kd.C_F k77_heap HR0_3.out) Zq31))
          (case side4 => exact Kd.V_mk HC0_4.out (Kd.F_below (Kd.C_F k30_heap HR0_4.out) Zq31))
          (case side5 => repeat (first | exact (Kd.C_below HRcG.out HB.out) | (with_reducible refine Kd.C_alloc ?_ _) | (with_reducible refine Kd.C_drewN ?_ _) | (with_reducible refine Kd.C_drew ?_)))
          (case side6 => exact HCcG.out)
          rintro e w45 ⟨v263, v266, rfl, ho0, ho1, hb⟩
          refine ⟨_, rfl, ?_⟩; have n0_ := Zq220; have n1_ := Zq175; have n2_ := Zq229; have n3_ := Zq167; have n4_ := Zq119; have n5_ := Zq139; have n6_ := Zq226; have n7_ := Ak (below_step Zq31 hb); clear HO_aL HO_aM BKae BKak BKaa HB; have HO_aL := n0_; have HO_aM := n1_; have HObG := n2_; have HObH := n3_; have BKae := n4_; have BKak := n5_; have BKaa := n6_; have HB := n7_; clear n0_ n1_ n2_ n3_ n4_ n5_ n6_ n7_
          (try clear hb)
          (try clear hb2)
          (try clear hk)
          (try clear hi)
          (try clear ho0)
          (try clear ho1)
          refine hK.out _ _ ⟨(blk_cell BKae.out 0).trans rfl, (blk_cell BKae.out 1).trans rfl, (blk_cell BKae.out 2).trans rfl, (blk_cell BKae.out 3).trans rfl, (blk_cell BKae.out 4).trans rfl⟩ (fun hHeld => ?_); clear hK K; refine norm_ (a' := ?_) ?_ ?_
          rotate_left
          ·show Act.put _ (some 35) _ = _
           simp only [Sx]
           rfl
          refine pure_ (i := 6) (N := some 29) (v := ?_) (a' := ?_) #[true, true, true, true, true, true, true, false, false, true, false, false] rfl rfl (any_of HT_.out Zq2) (fun _ _ _ h => h) (Or.inl ⟨Zq3, ?_⟩) ?_ ?_
          rotate_left
          ·intro w'
           go_simp
           with_reducible rfl
          rotate_left
          ·simp only [Sx]
           rfl
          refine pure_ (i := 7) (N := some 36) (v := ?_) (a' := ?_) #[true, true, true, true, true, true, true, true, false, true, false, false] rfl rfl (any_of HT_.out Zq2) (fun _ _ _ h => h) (Or.inl ⟨Zq3, ?_⟩) ?_ ?_
          rotate_left
          ·intro w'
           go_simp
           with_reducible rfl
          rotate_left
          ·simp only [Sx]
           rfl
          refine pure_ (i := 8) (N := some 37) (v := ?_) (a' := ?_) #[true, true, true, true, true, true, true, true, true, true, false, false] rfl rfl (any_of HT_.out Zq2) (fun _ _ _ h => h) (Or.inl ⟨Zq3, ?_⟩) ?_ ?_
          rotate_left
          ·intro w'
           go_simp
           with_reducible rfl
          rotate_left
          ·simp only [Sx]
           rfl
          exact norm_ Zq67 (hCont (v263, v266, gbaa) _ ⟨hHeld, Zq108, Zq109, Zq110, (by (with_reducible repeat (first | apply Kd.R_alloc | apply Kd.R_drewN | apply Kd.R_drew)); exact Kd.R_mono HO_aM.out (fun _ hk => ⟨hk.1.2, ⟨hk.2, ⟨hk.1.1.1.1, ⟨hk.1.1.1.2, hk.1.1.2⟩⟩⟩⟩)), Zq17, Zq21, Zq68, GWaa.out, GEaa.out, NB250_269.out, NB269_250.out, NB259_269.out, NB269_259.out, Zq31⟩)
        rintro ⟨v263, v266, gbaa⟩ w46 ⟨hS_, h0_, h1_, h2_, h3_, h4_, h5_, h6_, h7_, h8_, h9_, h10_, h11_, h12_, h13_⟩
        have n0_ : Aside0 (Kd.S k77 77 w46 w.heap.size (fun k_ => some k_ ≠ (u260001 : Value).ownBlock) v263 tbe) := ⟨h0_⟩
        have n1_ : Aside0 (Kd.R k30 30 w46 w.heap.size (fun k_ => some k_ ≠ (v263 : Value).ownBlock ∧ some k_ ≠ (u260001 : Value).ownBlock ∧ some k_ ≠ (u260002 : Value).ownBlock ∧ k_ ≠ gbak ∧ k_ ≠ gbaa) v266 tbj) := ⟨h1_⟩
        have n2_ : Aside0 (Kd.S k77 77 w46 w.heap.size (fun k_ => some k_ ≠ (v263 : Value).ownBlock) u260001 xaL_1) := ⟨h2_⟩
        have n3_ : Aside0 (Kd.R k30 30 w46 w.heap.size (fun k_ => some k_ ≠ (v263 : Value).ownBlock ∧ some k_ ≠ (v266 : Value).ownBlock ∧ some k_ ≠ (u260001 : Value).ownBlock ∧ k_ ≠ gbak ∧ k_ ≠ gbaa) u260002 xaM_1) := ⟨h3_⟩
        have n4_ : Aside0 (w46.heap[gbae]? = some (.cells #[.int .u32 a0_0, .slice A0_1 l0_1.length c0_1, .string a0_2, .slice A0_3 l0_3.length c0_3, .slice A0_4 l0_4.length c0_4] 35 (0, 0))) := ⟨h4_⟩
        have n5_ : Aside0 (w46.heap[gbak]? = some (.cells #[.string xbE_1, u260001, u260002] 30 (0, 0))) := ⟨h5_⟩
        have n6_ : Aside0 (w46.heap[gbaa]? = some (.cells #[.string (⟨#[]⟩ : ByteArray), .slice none 0 0, .slice none 0 0] 30 (0, 0))) := ⟨h6_⟩
        have n7_ : Aside0 (w.heap.size ≤ gbaa) := ⟨h7_⟩
        have n8_ : Aside0 (w.heap.size ≤ gbaa) := ⟨h8_⟩
        have n9_ : Aside0 (gbae ≠ gbaa) := ⟨h9_⟩
        have n10_ : Aside0 (gbaa ≠ gbae) := ⟨h10_⟩
        have n11_ : Aside0 (gbak ≠ gbaa) := ⟨h11_⟩
        have n12_ : Aside0 (gbaa ≠ gbak) := ⟨h12_⟩
        have n13_ : Aside0 (Below w.heap.size w w46) := ⟨h13_⟩
        clear HO_aL HO_aM BKae BKak HB h0_ h1_ h2_ h3_ h4_ h5_ h6_ h7_ h8_ h9_ h10_ h11_ h12_ h13_; have HObG := n0_; have HObH := n1_; have HO_aL := n2_; have HO_aM := n3_; have BKae := n4_; have BKak := n5_; have BKaa := n6_; have GWaa := n7_; have GEaa := n8_; have NB250_269 := n9_; have NB269_250 := n10_; have NB259_269 := n11_; have NB269_259 := n12_; have HB := n13_; clear n0_ n1_ n2_ n3_ n4_ n5_ n6_ n7_ n8_ n9_ n10_ n11_ n12_ n13_; have hHeld : w46.cell? ⟨gbae, 0, none⟩ = some (.int .u32 a0_0) ∧ w46.cell? ⟨gbae, 1, none⟩ = some (.slice A0_1 l0_1.length c0_1) ∧ w46.cell? ⟨gbae, 2, none⟩ = some (.string a0_2) ∧ w46.cell? ⟨gbae, 3, none⟩ = some (.slice A0_3 l0_3.length c0_3) ∧ w46.cell? ⟨gbae, 4, none⟩ = some (.slice A0_4 l0_4.length c0_4) := hS_; obtain ⟨Ao48, co48, eo48⟩ := Kd.S_slice HObG.out
        (first | subst eo48 | (injection eo48 with f1_ f2_ f3_; have f4_ := f1_.symm; have f5_ := f3_.symm; clear f1_ f2_ f3_; subst f4_; subst f5_))
        obtain ⟨Ao50, co50, eo50⟩ := Kd.R_slice HObH.out
        (first | subst eo50 | (injection eo50 with f1_ f2_ f3_; have f4_ := f1_.symm; have f5_ := f3_.symm; clear f1_ f2_ f3_; subst f4_; subst f5_))
        refine norm_ (a' := ?_) ?_ ?_
        rotate_left
        ·simp only [putAll, Act.put, List.setIfInBounds_toArray, List.set_cons_zero, List.set_cons_succ]
         rfl
        refine one_ (i := 10) (N := none) #[true, true, true, true, true, true, true, true, true, true, true, false] rfl rfl (one_of HT_.out Zq2) Zq7 (fun K hK => ?_); have hs47 : w46.cell? ⟨gbaa, 0, none⟩ = some (.string (⟨#[]⟩ : ByteArray)) := (blk_cell BKaa.out 0).trans rfl; have hfs47 := blk_frozen BKaa.out 0; have hns47_0 := NB250_269.out; have hns47_1 := NB259_269.out; have hms47_0 := NB269_250.out; have hms47_1 := NB269_259.out; have hs49 : w46.cell? ⟨gbaa, 1, none⟩ = some (.slice none 0 0) := (blk_cell BKaa.out 1).trans rfl; have hfs49 := blk_frozen BKaa.out 1; have hns49_0 := NB250_269.out; have hns49_1 := NB259_269.out; have hms49_0 := NB269_250.out; have hms49_1 := NB269_259.out; have hs51 : w46.cell? ⟨gbaa, 2, none⟩ = some (.slice none 0 0) := (blk_cell BKaa.out 2).trans rfl; have hfs51 := blk_frozen BKaa.out 2; have hns51_0 := NB250_269.out; have hns51_1 := NB259_269.out; have hms51_0 := NB269_250.out; have hms51_1 := NB269_259.out; refine skip_ (w1 := ?_) Zq3 rfl ?_ ?_
        rotate_left
        ·go_simp
         rfl
        refine hK.out _ _ ⟨((cell_far (p := ⟨gbaa, _, none⟩) NB250_269.out _).trans (((cell_far (p := ⟨gbaa, _, none⟩) NB250_269.out _).trans (((cell_far (p := ⟨gbaa, _, none⟩) NB250_269.out _).trans (hHeld.1)))))), ((cell_far (p := ⟨gbaa, _, none⟩) NB250_269.out _).trans (((cell_far (p := ⟨gbaa, _, none⟩) NB250_269.out _).trans (((cell_far (p := ⟨gbaa, _, none⟩) NB250_269.out _).trans (hHeld.2.1)))))), ((cell_far (p := ⟨gbaa, _, none⟩) NB250_269.out _).trans (((cell_far (p := ⟨gbaa, _, none⟩) NB250_269.out _).trans (((cell_far (p := ⟨gbaa, _, none⟩) NB250_269.out _).trans (hHeld.2.2.1)))))), ((cell_far (p := ⟨gbaa, _, none⟩) NB250_269.out _).trans (((cell_far (p := ⟨gbaa, _, none⟩) NB250_269.out _).trans (((cell_far (p := ⟨gbaa, _, none⟩) NB250_269.out _).trans (hHeld.2.2.2.1)))))), ((cell_far (p := ⟨gbaa, _, none⟩) NB250_269.out _).trans (((cell_far (p := ⟨gbaa, _, none⟩) NB250_269.out _).trans (((cell_far (p := ⟨gbaa, _, none⟩) NB250_269.out _).trans (hHeld.2.2.2.2))))))⟩ (fun hHeld => ?_); clear hK K; refine pure_ (i := 11) (N := some 14) (v := ?_) (a' := ?_) #[true, true, true, true, true, true, true, true, true, true, true, true] rfl rfl (any_of HT_.out Zq2) (fun _ _ _ h => h) (Or.inl ⟨Zq3, ?_⟩) ?_ ?_
        rotate_left
        ·intro w'
         go_simp
         with_reducible rfl
        rotate_left
        ·simp only [Sx]
         rfl
        refine done_ (done_of HT_.out Zq2) ?_; have hnb52 := NB269_250.out; have hnc52 := NB250_269.out; have hnb53 := NB269_259.out; have hnc53 := NB259_269.out; have hcz54_0 : w46.cell? ⟨gbaa, 0, none⟩ = some (.string (⟨#[]⟩ : ByteArray)) := (blk_cell BKaa.out 0).trans rfl; have hcz54_1 : w46.cell? ⟨gbaa, 1, none⟩ = some (.slice none 0 0) := (blk_cell BKaa.out 1).trans rfl; have hcz54_2 : w46.cell? ⟨gbaa, 2, none⟩ = some (.slice none 0 0) := (blk_cell BKaa.out 2).trans rfl; have hfz54_0 := blk_frozen BKaa.out 0; have hfz54_1 := blk_frozen BKaa.out 1; have hfz54_2 := blk_frozen BKaa.out 2; have hnb55 := NB259_250.out; have hnc55 := NB250_259.out; have hcz56_0 : w46.cell? ⟨gbak, 0, none⟩ = some (.string xbE_1) := (blk_cell BKak.out 0).trans rfl; have hcz56_1 : w46.cell? ⟨gbak, 1, none⟩ = some (u260001) := (blk_cell BKak.out 1).trans rfl; have hcz56_2 : w46.cell? ⟨gbak, 2, none⟩ = some (u260002) := (blk_cell BKak.out 2).trans rfl; have hfz56_0 := blk_frozen BKak.out 0; have hfz56_1 := blk_frozen BKak.out 1; have hfz56_2 := blk_frozen BKak.out 2; obtain ⟨Ao57, co57, eo57⟩ := Kd.S_slice HO_aL.out; subst eo57; obtain ⟨Ao58, co58, eo58⟩ := Kd.R_slice HO_aM.out; subst eo58
        try go_wp2_with (first | ((with_reducible refine gate_callee (f := 49) rfl ?_); refine goesL_ (some 43) rfl rfl Try.func49 Zq2 rfl #[.agg #[.string taX, .slice Ao48 tbe.length co48, .slice Ao50 tbj.length co50], .agg #[.string xbE_1, .slice Ao57 xaL_1.length co57, .slice Ao58 xaM_1.length co58], .int .u64 x2_1, .int .u64 a3] rfl Zq9 ?_; (with_reducible refine (xlate_step.calls k1 taX _ _ tbe _ _ tbj xbE_1 _ _ xaL_1 _ _ xaM_1 x2_1 a3 tbT tdq _ ?side1 ?side2 ?side3 ?side4 ?side5 ?side6 ?side7 ?side8 A20.out).mono ?_); (case side1 => refine (Kd.S_reads' (e := 77) (base := w.heap.size) (ok := fun k_ => some k_ ≠ (.slice Ao57 xaL_1.length co57 : Value).ownBlock) (n := tbe.length) (c := co48) ?_).2.2; exact (by (with_reducible repeat (first | apply Kd.S_alloc | apply Kd.S_drewN | apply Kd.S_drew)); exact (Kd.S_mono (Kd.S_far (p := ⟨gbaa, 2, none⟩) (Kd.S_far (p := ⟨gbaa, 1, none⟩) (Kd.S_far (p := ⟨gbaa, 0, none⟩) (Kd.S_types HObG.out BKaa.out Zq7) (fun _ hk => hk.2) (.string taX)) (fun _ hk => hk.2) (.slice Ao48 tbe.length co48)) (fun _ hk => hk.2) (.slice Ao50 tbj.length co50)) (fun _ h_ => h_.1)))); (case side2 => exact (Kd.S_reads' HObG.out).2.1); (case side3 => refine (Kd.R_reads' (e := 30) (base := w.heap.size) (ok := fun k_ => (some k_ ≠ (.slice Ao48 tbe.length co48 : Value).ownBlock ∧ (some k_ ≠ (.slice Ao57 xaL_1.length co57 : Value).ownBlock ∧ (some k_ ≠ (.slice Ao58 xaM_1.length co58 : Value).ownBlock ∧ (k_ ≠ gbak ∧ k_ ≠ gbaa))))) (n := tbj.length) (c := co50) ?_).2.2; exact (by (with_reducible repeat (first | apply Kd.R_alloc | apply Kd.R_drewN | apply Kd.R_drew)); exact (Kd.R_mono (Kd.R_far (p := ⟨gbaa, 2, none⟩) (Kd.R_far (p := ⟨gbaa, 1, none⟩) (Kd.R_far (p := ⟨gbaa, 0, none⟩) (Kd.R_mono HObH.out (fun k_ hk => (⟨hk, hk.2.2.2.2⟩ : _ ∧ k_ ≠ gbaa))) (fun _ hk => hk.2) (.string taX)) (fun _ hk => hk.2) (.slice Ao48 tbe.length co48)) (fun _ hk => hk.2) (.slice Ao50 tbj.length co50)) (fun _ h_ => h_.1)))); (case side4 => exact (Kd.R_reads' HObH.out).2.1); (case side5 => refine (Kd.S_reads' (e := 77) (base := w.heap.size) (ok := fun k_ => some k_ ≠ (.slice Ao48 tbe.length co48 : Value).ownBlock) (n := xaL_1.length) (c := co57) ?_).2.2; exact (by (with_reducible repeat (first | apply Kd.S_alloc | apply Kd.S_drewN | apply Kd.S_drew)); exact (Kd.S_mono (Kd.S_far (p := ⟨gbaa, 2, none⟩) (Kd.S_far (p := ⟨gbaa, 1, none⟩) (Kd.S_far (p := ⟨gbaa, 0, none⟩) (Kd.S_types HO_aL.out BKaa.out Zq7) (fun _ hk => hk.2) (.string taX)) (fun _ hk => hk.2) (.slice Ao48 tbe.length co48)) (fun _ hk => hk.2) (.slice Ao50 tbj.length co50)) (fun _ h_ => h_.1)))); (case side6 => exact (Kd.S_reads' HO_aL.out).2.1); (case side7 => refine (Kd.R_reads' (e := 30) (base := w.heap.size) (ok := fun k_ => (some k_ ≠ (.slice Ao48 tbe.length co48 : Value).ownBlock ∧ (some k_ ≠ (.slice Ao50 tbj.length co50 : Value).ownBlock ∧ (some k_ ≠ (.slice Ao57 xaL_1.length co57 : Value).ownBlock ∧ (k_ ≠ gbak ∧ k_ ≠ gbaa))))) (n := xaM_1.length) (c := co58) ?_).2.2; exact (by (with_reducible repeat (first | apply Kd.R_alloc | apply Kd.R_drewN | apply Kd.R_drew)); exact (Kd.R_mono (Kd.R_far (p := ⟨gbaa, 2, none⟩) (Kd.R_far (p := ⟨gbaa, 1, none⟩) (Kd.R_far (p := ⟨gbaa, 0, none⟩) (Kd.R_mono HO_aM.out (fun k_ hk => (⟨hk, hk.2.2.2.2⟩ : _ ∧ k_ ≠ gbaa))) (fun _ hk => hk.2) (.string taX)) (fun _ hk => hk.2) (.slice Ao48 tbe.length co48)) (fun _ hk => hk.2) (.slice Ao50 tbj.length co50)) (fun _ h_ => h_.1)))); (case side8 => exact (Kd.R_reads' HO_aM.out).2.1); rintro e w59 ⟨rfl, hb⟩; refine ⟨_, rfl, ?_⟩; have n0_ := Ak (Kd.S_below (by (with_reducible repeat (first | apply Kd.S_alloc | apply Kd.S_drewN | apply Kd.S_drew)); exact (Kd.S_mono (Kd.S_far (p := ⟨gbaa, 2, none⟩) (Kd.S_far (p := ⟨gbaa, 1, none⟩) (Kd.S_far (p := ⟨gbaa, 0, none⟩) (Kd.S_types HO_aL.out BKaa.out Zq7) (fun _ hk => hk.2) (.string taX)) (fun _ hk => hk.2) (.slice Ao48 tbe.length co48)) (fun _ hk => hk.2) (.slice Ao50 tbj.length co50)) (fun _ h_ => h_.1))) hb); have n1_ := Ak (Kd.R_below (by (with_reducible repeat (first | apply Kd.R_alloc | apply Kd.R_drewN | apply Kd.R_drew)); exact (Kd.R_mono (Kd.R_far (p := ⟨gbaa, 2, none⟩) (Kd.R_far (p := ⟨gbaa, 1, none⟩) (Kd.R_far (p := ⟨gbaa, 0, none⟩) (Kd.R_mono HO_aM.out (fun k_ hk => (⟨hk, hk.2.2.2.2⟩ : _ ∧ k_ ≠ gbaa))) (fun _ hk => hk.2) (.string taX)) (fun _ hk => hk.2) (.slice Ao48 tbe.length co48)) (fun _ hk => hk.2) (.slice Ao50 tbj.length co50)) (fun _ h_ => h_.1))) hb); have n2_ := Ak (Kd.S_below (by (with_reducible repeat (first | apply Kd.S_alloc | apply Kd.S_drewN | apply Kd.S_drew)); exact (Kd.S_mono (Kd.S_far (p := ⟨gbaa, 2, none⟩) (Kd.S_far (p := ⟨gbaa, 1, none⟩) (Kd.S_far (p := ⟨gbaa, 0, none⟩) (Kd.S_types HObG.out BKaa.out Zq7) (fun _ hk => hk.2) (.string taX)) (fun _ hk => hk.2) (.slice Ao48 tbe.length co48)) (fun _ hk => hk.2) (.slice Ao50 tbj.length co50)) (fun _ h_ => h_.1))) hb); have n3_ := Ak (Kd.R_below (by (with_reducible repeat (first | apply Kd.R_alloc | apply Kd.R_drewN | apply Kd.R_drew)); exact (Kd.R_mono (Kd.R_far (p := ⟨gbaa, 2, none⟩) (Kd.R_far (p := ⟨gbaa, 1, none⟩) (Kd.R_far (p := ⟨gbaa, 0, none⟩) (Kd.R_mono HObH.out (fun k_ hk => (⟨hk, hk.2.2.2.2⟩ : _ ∧ k_ ≠ gbaa))) (fun _ hk => hk.2) (.string taX)) (fun _ hk => hk.2) (.slice Ao48 tbe.length co48)) (fun _ hk => hk.2) (.slice Ao50 tbj.length co50)) (fun _ h_ => h_.1))) hb); have n4_ := Ak (blk_below (g := gbae) (o := .cells #[.int .u32 a0_0, .slice A0_1 l0_1.length c0_1, .string a0_2, .slice A0_3 l0_3.length c0_3, .slice A0_4 l0_4.length c0_4] 35 (0, 0)) (by (with_reducible repeat (first | refine blk_drewN ?_ _ | refine blk_drew ?_ | refine blk_alloc ?_ _)); refine blk_far ?_ NB250_269.out _; (with_reducible repeat (first | refine blk_drewN ?_ _ | refine blk_drew ?_ | refine blk_alloc ?_ _)); refine blk_far ?_ NB250_269.out _; (with_reducible repeat (first | refine blk_drewN ?_ _ | refine blk_drew ?_ | refine blk_alloc ?_ _)); refine blk_far ?_ NB250_269.out _; (with_reducible repeat (first | refine blk_drewN ?_ _ | refine blk_drew ?_ | refine blk_alloc ?_ _)); exact BKae.out) hb); have n5_ := Ak (blk_below (g := gbak) (o := .cells #[.string xbE_1, .slice Ao57 xaL_1.length co57, .slice Ao58 xaM_1.length co58] 30 (0, 0)) (by (with_reducible repeat (first | refine blk_drewN ?_ _ | refine blk_drew ?_ | refine blk_alloc ?_ _)); refine blk_far ?_ NB259_269.out _; (with_reducible repeat (first | refine blk_drewN ?_ _ | refine blk_drew ?_ | refine blk_alloc ?_ _)); refine blk_far ?_ NB259_269.out _; (with_reducible repeat (first | refine blk_drewN ?_ _ | refine blk_drew ?_ | refine blk_alloc ?_ _)); refine blk_far ?_ NB259_269.out _; (with_reducible repeat (first | refine blk_drewN ?_ _ | refine blk_drew ?_ | refine blk_alloc ?_ _)); exact BKak.out) hb); have n6_ := Ak (blk_below (g := gbaa) (o := .cells #[.string taX, .slice Ao48 tbe.length co48, .slice Ao50 tbj.length co50] 30 (0, 0)) (by (with_reducible repeat (first | refine blk_drewN ?_ _ | refine blk_drew ?_ | refine blk_alloc ?_ _)); refine blk_put (cs := #[.string taX, .slice Ao48 tbe.length co48, .slice none 0 0]) ?_ 2 _ rfl; (with_reducible repeat (first | refine blk_drewN ?_ _ | refine blk_drew ?_ | refine blk_alloc ?_ _)); refine blk_put (cs := #[.string taX, .slice none 0 0, .slice none 0 0]) ?_ 1 _ rfl; (with_reducible repeat (first | refine blk_drewN ?_ _ | refine blk_drew ?_ | refine blk_alloc ?_ _)); refine blk_put (cs := #[.string (⟨#[]⟩ : ByteArray), .slice none 0 0, .slice none 0 0]) ?_ 0 _ rfl; (with_reducible repeat (first | refine blk_drewN ?_ _ | refine blk_drew ?_ | refine blk_alloc ?_ _)); exact BKaa.out) hb); have n7_ := Ak (below_step Zq31 hb); clear HO_aL HO_aM HObG HObH BKae BKak BKaa HB; have HO_aL := n0_; have HO_aM := n1_; have HObG := n2_; have HObH := n3_; have BKae := n4_; have BKak := n5_; have BKaa := n6_; have HB := n7_; clear n0_ n1_ n2_ n3_ n4_ n5_ n6_ n7_; (try clear hb); (try clear hb2); (try clear hk); (try clear hi)))
        go_ret2
        exact ⟨by first | rfl | (simp [errW_none, errW_some] <;> rfl) | (simp only [← hji16]; first | rfl | (simp [errW_none, errW_some] <;> rfl)) | (simp [*, errW_none, errW_some] <;> rfl), Zq31⟩
      ·rw [if_neg c18] at H; exact absurd H Zq8
     ·rw [if_neg c17] at H; exact absurd H Zq8
    ·rw [if_neg c15] at H; have c15b0 : decide (0 < x12_1) = false := decide_eq_false c15; clear c15; simp only [Option.some.injEq, Prod.mk.injEq] at H; obtain ⟨rfl, rfl⟩ := H
     go_wp2
     go_ret2
     exact ⟨Zq10, Zq19⟩
 ·rw [if_neg c6] at H; have c6b0 : (tdG == 0) = false := beq_eq_false_iff_ne.mpr c6; have c6b1 : (tdG != 0) = true := bne_iff_ne.mpr c6; simp only [Option.some.injEq, Prod.mk.injEq] at H; obtain ⟨rfl, rfl⟩ := H
  go_enter Try.func20, Try.ntmps20
  go_wp2_with (first | ((with_reducible refine gate_dst (N := 4) rfl ?_); refine box_event ?hg (N := 4) ?hd (cs := #[.int .u32 a0_0, .slice A0_1 l0_1.length c0_1, .string a0_2, .slice A0_3 l0_3.length c0_3, .slice A0_4 l0_4.length c0_4]) (t := 35) ?hr ?_; (case hd | hg => rfl); (case hr => first | (go_simp; done) | (go_simp; rfl)); intro gbae hg w60 hbox hb; have n0_ := Zq122; have n1_ := Ak (hbox); have n2_ := Zq197; have n3_ := Zq197; clear HB; have HB := n0_; have BKae := n1_; have GWae := n2_; have GEae := n3_; clear n0_ n1_ n2_ n3_ hb hbox hg; have hcz61_0 : w60.cell? ⟨gbae, 0, none⟩ = some (.int .u32 a0_0) := (blk_cell BKae.out 0).trans rfl; have hcz61_1 : w60.cell? ⟨gbae, 1, none⟩ = some (.slice A0_1 l0_1.length c0_1) := (blk_cell BKae.out 1).trans rfl; have hcz61_2 : w60.cell? ⟨gbae, 2, none⟩ = some (.string a0_2) := (blk_cell BKae.out 2).trans rfl; have hcz61_3 : w60.cell? ⟨gbae, 3, none⟩ = some (.slice A0_3 l0_3.length c0_3) := (blk_cell BKae.out 3).trans rfl; have hcz61_4 : w60.cell? ⟨gbae, 4, none⟩ = some (.slice A0_4 l0_4.length c0_4) := (blk_cell BKae.out 4).trans rfl; have hfz61_0 := blk_frozen BKae.out 0; have hfz61_1 := blk_frozen BKae.out 1; have hfz61_2 := blk_frozen BKae.out 2; have hfz61_3 := blk_frozen BKae.out 3; have hfz61_4 := blk_frozen BKae.out 4) | ((with_reducible refine gate_callee (f := 48) rfl ?_); refine goesL_ (some 18) rfl rfl Try.func48 Zq2 rfl #[.agg #[.int .u32 a0_0, .slice A0_1 l0_1.length c0_1, .string a0_2, .slice A0_3 l0_3.length c0_3, .slice A0_4 l0_4.length c0_4], .slice A1 l1.length c1] rfl Zq9 ?_; (with_reducible refine (path_Get.calls k a0_0 _ _ l0_1 a0_2 (fun k_ => k_ < w.heap.size) _ _ l0_3 (fun k_ => k_ < w.heap.size) _ _ l0_4 _ _ l1 tca tdF tdS tdG _ ?side1 ?side2 ?side3 ?side4 ?side5 ?side6 A5.out).mono ?_); (case side1 => repeat (first | exact Zq126 | (with_reducible refine Kd.C_alloc ?_ _) | (with_reducible refine Kd.C_drewN ?_ _) | (with_reducible refine Kd.C_drew ?_))); (case side2 => exact HC0_1.out); (case side3 => exact Kd.V_mk HC0_3.out (Kd.F_below (Kd.C_F k77_heap HR0_3.out) Zq38)); (case side4 => exact Kd.V_mk HC0_4.out (Kd.F_below (Kd.C_F k30_heap HR0_4.out) Zq38)); (case side5 => repeat (first | exact (Kd.C_below HR1.out HB.out) | (with_reducible refine Kd.C_alloc ?_ _) | (with_reducible refine Kd.C_drewN ?_ _) | (with_reducible refine Kd.C_drew ?_))); (case side6 => exact HC1.out); rintro e w62 ⟨v253, v256, rfl, ho0, ho1, hb⟩; refine ⟨_, rfl, ?_⟩; have n0_ := Ak (Kd.S_lower (Kd.S_mono (ok' := fun k_ => True) ho0 (fun _ hk_ => trivial)) (below_size Zq38)); have n1_ := Zq227; have n2_ := Zq119; have n3_ := Ak (below_step Zq38 hb); clear BKae HB; have HOdn := n0_; have HOdp := n1_; have BKae := n2_; have HB := n3_; clear n0_ n1_ n2_ n3_; (try clear hb); (try clear hb2); (try clear hk); (try clear hi); (try clear ho0); (try clear ho1)) | ((with_reducible refine gate_dst (N := 10) rfl ?_); refine box_event ?hg (N := 10) ?hd (cs := #[.string (⟨#[]⟩ : ByteArray), .slice none 0 0, .slice none 0 0]) (t := 30) ?hr ?_; (case hd | hg => rfl); (case hr => first | (go_simp; done) | (go_simp; rfl)); intro gbak hg w63 hbox hb; have n0_ := Zq221; have n1_ := Zq206; have n2_ := Zq119; have n3_ := Ak (below_step Zq38 hb); have n4_ := Ak (hbox); have n5_ := Zq190; have n6_ := Zq190; have n7_ := Ak ((by rw [hg]; exact Nat.ne_of_lt Zq121 : gbae ≠ gbak)); have n8_ := Ak ((by rw [hg]; exact Nat.ne_of_gt Zq121 : gbak ≠ gbae)); clear HOdn HOdp BKae HB; have HOdn := n0_; have HOdp := n1_; have BKae := n2_; have HB := n3_; have BKak := n4_; have GWak := n5_; have GEak := n6_; have NB250_259 := n7_; have NB259_250 := n8_; clear n0_ n1_ n2_ n3_ n4_ n5_ n6_ n7_ n8_ hb hbox hg; have hnb64 := NB259_250.out; have hnc64 := NB250_259.out; have hcz65_0 : w63.cell? ⟨gbak, 0, none⟩ = some (.string (⟨#[]⟩ : ByteArray)) := (blk_cell BKak.out 0).trans rfl; have hcz65_1 : w63.cell? ⟨gbak, 1, none⟩ = some (.slice none 0 0) := (blk_cell BKak.out 1).trans rfl; have hcz65_2 : w63.cell? ⟨gbak, 2, none⟩ = some (.slice none 0 0) := (blk_cell BKak.out 2).trans rfl; have hfz65_0 := blk_frozen BKak.out 0; have hfz65_1 := blk_frozen BKak.out 1; have hfz65_2 := blk_frozen BKak.out 2; obtain ⟨Ao66, co66, eo66⟩ := Kd.S_slice HOdn.out; subst eo66; obtain ⟨Ao67, co67, eo67⟩ := Kd.R_slice HOdp.out; subst eo67))
  go_ret2
  exact ⟨Zq10, Zq19⟩
end Go.Proofs.Yteejaaeglfpcmab.PX

namespace Go.Proofs.Yteejaaeglfpcmab.PX
open Go.RowKit Go.Proofs.YteejaaeglfpcmabW.PrintWords Go.Proofs.YteejaaeglfpcmabW.PrintLast Go.Proofs.YteejaaeglfpcmabW.PrintMore
attribute [local go_sem] max2_int min2_int max_two min_two max_three min_three max_four min_four
def arboretlaw13_awake.f (k : Nat)  : Option (Bool) := (xlate_Up.f k 0 ([] : List (S94)) (⟨#[]⟩ : ByteArray) ([] : List (S77)) ([] : List (S30)) ([] : List Int) 5 1).bind fun btdr => (if btdr.2 = 0 then (some (btdr.1 == 5)) else (some false))
theorem arboretlaw13_awake.mono : ∀ k, LeO (arboretlaw13_awake.f k ) (arboretlaw13_awake.f (k + 1) ) := by
 intro  k; unfold arboretlaw13_awake.f
 repeat' first | (with_reducible first | exact xlate_Up.mono _ _ _ _ _ _ _ _ _ | exact LeO.refl _ | exact LeO.none _ | refine LeO.ite ?_ ?_ | refine LeO.bind ?_ (fun _ => ?_))
set_option maxHeartbeats 8000000 in
set_option maxRecDepth 100000 in
theorem arboretlaw13_awake.calls (k : Nat)  (r : Bool) (w : World) (h : arboretlaw13_awake.f k  = some r) :
  Calls Try.prog 15 #[] w fun e w' => e = .returned (.bool r) ∧ Below w.heap.size w w' := by
 have hu35 := Try.underlying35; have HB := Zq129; have H : ((xlate_Up.f k 0 ([] : List (S94)) (⟨#[]⟩ : ByteArray) ([] : List (S77)) ([] : List (S30)) ([] : List Int) 5 1).bind fun btdr => (if btdr.2 = 0 then (some (btdr.1 == 5)) else (some false))) = some r := h; clear h; replace H := Option.bind_eq_some_iff.mp H; obtain ⟨⟨tdr, tdH⟩, A10, H⟩ := H; replace H : (if tdH = 0 then (some (tdr == 5)) else (some false)) = some r := H; have A1 := Ak A10; clear A10
 by_cases c2 : tdH = 0
 ·rw [if_pos c2] at H; have c2b0 : (tdH == 0) = true := beq_iff_eq.mpr c2; have c2b1 : (tdH != 0) = false := bne_eq_false_iff_eq.mpr c2; clear c2; obtain rfl := Option.some.inj H
  go_enter Try.func15, Try.ntmps15
  go_wp2_with (first | ((with_reducible refine gate_callee (f := 20) rfl ?_); refine goesL_ (some 5) rfl rfl Try.func20 Zq2 rfl #[.agg #[.int .u32 0, .slice none 0 0, .string (⟨#[]⟩ : ByteArray), .slice none 0 0, .slice none 0 0], .slice none 0 0, .int .u64 5, .int .u64 1] rfl Zq9 ?_; (refine (xlate_Up.calls k 0 _ _ ([] : List (S94)) (⟨#[]⟩ : ByteArray) _ _ ([] : List (S77)) _ _ ([] : List (S30)) _ _ ([] : List Int) 5 1 tdr tdH _ ?side1 ?side2 ?side3 ?side4 ?side5 ?side6 ?side7 ?side8 A1.out).mono ?_); (case side1 => exact Kd.C_nil _ _); (case side2 => exact Nat.le_refl _); (case side3 => exact Kd.C_nil _ _); (case side4 => exact Nat.le_refl _); (case side5 => exact Kd.C_nil _ _); (case side6 => exact Nat.le_refl _); (case side7 => exact Kd.C_nil _ _); (case side8 => exact Nat.le_refl _); rintro e w3 ⟨rfl, hb⟩; refine ⟨_, rfl, ?_⟩; have n0_ := Zq122; clear HB; have HB := n0_; clear n0_; (try clear hb); (try clear hb2); (try clear hk); (try clear hi)))
  go_ret
  exact ⟨Zq10, Zq5⟩
 ·rw [if_neg c2] at H; have c2b0 : (tdH == 0) = false := beq_eq_false_iff_ne.mpr c2; have c2b1 : (tdH != 0) = true := bne_iff_ne.mpr c2; obtain rfl := Option.some.inj H
  go_enter Try.func15, Try.ntmps15
  go_wp2_with (first | ((with_reducible refine gate_callee (f := 20) rfl ?_); refine goesL_ (some 5) rfl rfl Try.func20 Zq2 rfl #[.agg #[.int .u32 0, .slice none 0 0, .string (⟨#[]⟩ : ByteArray), .slice none 0 0, .slice none 0 0], .slice none 0 0, .int .u64 5, .int .u64 1] rfl Zq9 ?_; (refine (xlate_Up.calls k 0 _ _ ([] : List (S94)) (⟨#[]⟩ : ByteArray) _ _ ([] : List (S77)) _ _ ([] : List (S30)) _ _ ([] : List Int) 5 1 tdr tdH _ ?side1 ?side2 ?side3 ?side4 ?side5 ?side6 ?side7 ?side8 A1.out).mono ?_); (case side1 => exact Kd.C_nil _ _); (case side2 => exact Nat.le_refl _); (case side3 => exact Kd.C_nil _ _); (case side4 => exact Nat.le_refl _); (case side5 => exact Kd.C_nil _ _); (case side6 => exact Nat.le_refl _); (case side7 => exact Kd.C_nil _ _); (case side8 => exact Nat.le_refl _); rintro e w4 ⟨rfl, hb⟩; refine ⟨_, rfl, ?_⟩; have n0_ := Zq122; clear HB; have HB := n0_; clear n0_; (try clear hb); (try clear hb2); (try clear hk); (try clear hi)))
  go_ret
  exact ⟨Zq10, Zq5⟩
mutual
def arboretlaw03_size.l0 : Nat → Int → Int → Int → Int → ByteArray → List (S77) → List (S30) → Option (Int)
 | 0, _, _, _, _, _, _, _ => none
 | k + 1, x1, x5, x14, x15, xeO, xdT, xds => if x15 < x14 then (if 0 ≤ x15 then (if x15 < (xdT.length : Int) then (arboretlaw03_size.l0 k x1 (wrap64 ((wrap64 ((wrap64 (x5 + 1)) + (((rd_T77 xdT x15).f0).size : Int))) + (((rd_T77 xdT x15).f1).length : Int))) x14 (wrap64 (x15 + 1)) xeO xdT xds) else (none)) else (none)) else (arboretlaw03_size.l1 k x1 x5 (xds.length : Int) 0 xeO xdT xds)
def arboretlaw03_size.l1 : Nat → Int → Int → Int → Int → ByteArray → List (S77) → List (S30) → Option (Int)
 | 0, _, _, _, _, _, _, _ => none
 | k + 1, x1, x5, x39, x40, xeO, xdT, xds => if x40 < x39 then (if x1 > 20 then (some 1048576) else (if x5 > 100000 then (some 1048576) else (if 0 ≤ x40 then (if x40 < (xds.length : Int) then ((arboretlaw03_size.f k ((rd_T30 xds x40).f0) ((rd_T30 xds x40).f1) ((rd_T30 xds x40).f2) (wrap64 (x1 + 1))).bind fun tdU => (arboretlaw03_size.l1 k x1 (wrap64 (x5 + tdU)) x39 (wrap64 (x40 + 1)) xeO xdT xds)) else (none)) else (none)))) else (some x5)
def arboretlaw03_size.f : Nat → ByteArray → List (S77) → List (S30) → Int → Option (Int)
 | 0, _, _, _, _ => none
 | k + 1, a0_0, l0_1, l0_2, a1 => arboretlaw03_size.l0 k a1 (wrap64 (1 + (a0_0.size : Int))) (l0_1.length : Int) 0 a0_0 l0_1 l0_2
end
set_option maxHeartbeats 8000000 in
set_option maxRecDepth 100000 in
theorem arboretlaw03_size.calls (k : Nat) : ∀ (a0_0 : ByteArray) (A0_1 : Option Addr) (c0_1 : Nat) (l0_1 : List (S77)) (A0_2 : Option Addr) (c0_2 : Nat) (l0_2 : List (S30)) (a1 : Int) (r : Int) (w : World) (hr0_1 : Kd.C k77 w A0_1 l0_1.length l0_1) (hc0_1 : l0_1.length ≤ c0_1) (hr0_2 : Kd.C k30 w A0_2 l0_2.length l0_2) (hc0_2 : l0_2.length ≤ c0_2) (h : arboretlaw03_size.f k a0_0 l0_1 l0_2 a1 = some r),
  Calls Try.prog 28 #[.agg #[.string a0_0, .slice A0_1 l0_1.length c0_1, .slice A0_2 l0_2.length c0_2], .int .i64 a1] w fun e w' => e = .returned (.int .i64 r) ∧ Below w.heap.size w w' := by
 induction k using Nat.strongRecOn with
 | _ k ih =>
 intro a0_0 A0_1 c0_1 l0_1 A0_2 c0_2 l0_2 a1 r w hr0_1 hc0_1 hr0_2 hc0_2 h
 cases k with
 | zero => exact absurd h (by simp [arboretlaw03_size.f])
 | succ k =>
 simp only [arboretlaw03_size.f] at h; have hu30 := Try.underlying30; have HR0_1 := Ak hr0_1; have HC0_1 := Ak hc0_1; clear hr0_1 hc0_1; have HR0_2 := Ak hr0_2; have HC0_2 := Ak hc0_2; clear hr0_2 hc0_2; have HB := Zq129; have H : (arboretlaw03_size.l0 k a1 (wrap64 (1 + (a0_0.size : Int))) (l0_1.length : Int) 0 a0_0 l0_1 l0_2) = some r := h; clear h; have H' := Ak H; clear H
 go_enter Try.func28, Try.ntmps28
 go_wp2_with (first | ((with_reducible refine gate_dst (N := 2) rfl ?_); refine box_event ?hg (N := 2) ?hd (cs := #[.string a0_0, .slice A0_1 l0_1.length c0_1, .slice A0_2 l0_2.length c0_2]) (t := 30) ?hr ?_; (case hd | hg => rfl); (case hr => first | (go_simp; done) | (go_simp; rfl)); intro gbaH hg w3 hbox hb; have n0_ := Zq122; have n1_ := Ak (hbox); have n2_ := Zq173; have n3_ := Zq173; clear HB; have HB := n0_; have BKaH := n1_; have GWaH := n2_; have GEaH := n3_; clear n0_ n1_ n2_ n3_ hb hbox hg; have hcz4_0 : w3.cell? ⟨gbaH, 0, none⟩ = some (.string a0_0) := (blk_cell BKaH.out 0).trans rfl; have hcz4_1 : w3.cell? ⟨gbaH, 1, none⟩ = some (.slice A0_1 l0_1.length c0_1) := (blk_cell BKaH.out 1).trans rfl; have hcz4_2 : w3.cell? ⟨gbaH, 2, none⟩ = some (.slice A0_2 l0_2.length c0_2) := (blk_cell BKaH.out 2).trans rfl; have hfz4_0 := blk_frozen BKaH.out 0; have hfz4_1 := blk_frozen BKaH.out 1; have hfz4_2 := blk_frozen BKaH.out 2))
 repeat (go_quiet (first | ((with_reducible refine gate_dst (N := 2) rfl ?_); refine box_event ?hg (N := 2) ?hd (cs := #[.string a0_0, .slice A0_1 l0_1.length c0_1, .slice A0_2 l0_2.length c0_2]) (t := 30) ?hr ?_; (case hd | hg => rfl); (case hr => first | (go_simp; done) | (go_simp; rfl)); intro gbaH hg w3 hbox hb; have n0_ := Zq122; have n1_ := Ak (hbox); have n2_ := Zq173; have n3_ := Zq173; clear HB; have HB := n0_; have BKaH := n1_; have GWaH := n2_; have GEaH := n3_; clear n0_ n1_ n2_ n3_ hb hbox hg; have hcz4_0 : w3.cell? ⟨gbaH, 0, none⟩ = some (.string a0_0) := (blk_cell BKaH.out 0).trans rfl; have hcz4_1 : w3.cell? ⟨gbaH, 1, none⟩ = some (.slice A0_1 l0_1.length c0_1) := (blk_cell BKaH.out 1).trans rfl; have hcz4_2 : w3.cell? ⟨gbaH, 2, none⟩ = some (.slice A0_2 l0_2.length c0_2) := (blk_cell BKaH.out 2).trans rfl; have hfz4_0 := blk_frozen BKaH.out 0; have hfz4_1 := blk_frozen BKaH.out 1; have hfz4_2 := blk_frozen BKaH.out 2)); try go_wp2_with (first | ((with_reducible refine gate_dst (N := 2) rfl ?_); refine box_event ?hg (N := 2) ?hd (cs := #[.string a0_0, .slice A0_1 l0_1.length c0_1, .slice A0_2 l0_2.length c0_2]) (t := 30) ?hr ?_; (case hd | hg => rfl); (case hr => first | (go_simp; done) | (go_simp; rfl)); intro gbaH hg w3 hbox hb; have n0_ := Zq122; have n1_ := Ak (hbox); have n2_ := Zq173; have n3_ := Zq173; clear HB; have HB := n0_; have BKaH := n1_; have GWaH := n2_; have GEaH := n3_; clear n0_ n1_ n2_ n3_ hb hbox hg; have hcz4_0 : w3.cell? ⟨gbaH, 0, none⟩ = some (.string a0_0) := (blk_cell BKaH.out 0).trans rfl; have hcz4_1 : w3.cell? ⟨gbaH, 1, none⟩ = some (.slice A0_1 l0_1.length c0_1) := (blk_cell BKaH.out 1).trans rfl; have hcz4_2 : w3.cell? ⟨gbaH, 2, none⟩ = some (.slice A0_2 l0_2.length c0_2) := (blk_cell BKaH.out 2).trans rfl; have hfz4_0 := blk_frozen BKaH.out 0; have hfz4_1 := blk_frozen BKaH.out 1; have hfz4_2 := blk_frozen BKaH.out 2)))
 go_loopg [5, 15] k (fun kq v5 v15 w' => ∃ (x5_1 : Int) (x15_1 : Int), v5 = .int .i64 x5_1 ∧ v15 = .int .i64 x15_1 ∧ Aside0 (arboretlaw03_size.l0 kq a1 x5_1 (l0_1.length : Int) x15_1 a0_0 l0_1 l0_2 = some r) ∧ Aside0 (kq ≤ k) ∧ Aside0 (w'.heap[gbaH]? = some (.cells #[.string a0_0, (.slice A0_1 l0_1.length c0_1), (.slice A0_2 l0_2.length c0_2)] 30 (0, 0))) ∧ Aside0 (Below w.heap.size w w'))
 case atStart => exact ⟨(wrap64 (1 + (a0_0.size : Int))), (0), Zq6, Zq6, H', ⟨Nat.le_refl _⟩, ⟨Zq72⟩, ⟨Zq55⟩⟩
 case round =>
  clear H'
  try clear c2
  try clear p2
  try clear hcz4_0
  try clear hcz4_1
  try clear hcz4_2
  try clear hfz4_0
  try clear hfz4_1
  try clear hfz4_2
  obtain ⟨x5_1, x15_1, rfl, rfl, HA, HK1, BKaH, HB⟩ := hrel
  cases gk with
  | zero => exact absurd HA.out (by simp [arboretlaw03_size.l0])
  | succ k1 =>
   have H := HA.out; clear HA; simp only [arboretlaw03_size.l0] at H
   by_cases c5 : x15_1 < (l0_1.length : Int)
   ·rw [if_pos c5] at H; have c5b0 : decide (x15_1 < (l0_1.length : Int)) = true := decide_eq_true c5; clear c5
    by_cases c6 : 0 ≤ x15_1
    ·rw [if_pos c6] at H; have c6b0 : decide (0 ≤ x15_1) = true := decide_eq_true c6; clear c6
     by_cases c7 : x15_1 < (l0_1.length : Int)
     ·rw [if_pos c7] at H; have c7b0 : decide (x15_1 < (l0_1.length : Int)) = true := decide_eq_true c7; clear c7; have H' := Ak H; clear H; have hcz8_0 : wr.cell? ⟨gbaH, 0, none⟩ = some (.string a0_0) := (blk_cell BKaH.out 0).trans rfl; have hcz8_1 : wr.cell? ⟨gbaH, 1, none⟩ = some (.slice A0_1 l0_1.length c0_1) := (blk_cell BKaH.out 1).trans rfl; have hcz8_2 : wr.cell? ⟨gbaH, 2, none⟩ = some (.slice A0_2 l0_2.length c0_2) := (blk_cell BKaH.out 2).trans rfl; have hfz8_0 := blk_frozen BKaH.out 0; have hfz8_1 := blk_frozen BKaH.out 1; have hfz8_2 := blk_frozen BKaH.out 2; have p275 : 0 ≤ (x15_1 : Int) := of_decide_eq_true Zq4; have q275 : x15_1 < (l0_1.length : Int) := of_decide_eq_true Zq4; obtain ⟨adeA, AeA_1, ceA_1, e275, hx275_0, hx275_1, hl275_1, hi275_1⟩ := at_T77 HR0_1.out x15_1 p275 q275
      cases e275
      replace hx275_0 := (HB.out.cell (World.block_lt_of_cell? w _ hx275_0)).trans hx275_0; replace hx275_1 := (HB.out.cell (World.block_lt_of_cell? w _ hx275_1)).trans hx275_1; have HReA_1 := Ak hi275_1; have HCeA_1 := Ak hl275_1; clear hi275_1 hl275_1; replace p275 := eq_true p275; replace q275 := eq_true q275; have p276 : 0 ≤ (x15_1 : Int) := of_decide_eq_true Zq4; have q276 : x15_1 < (l0_1.length : Int) := of_decide_eq_true Zq4; obtain ⟨adeB, AeB_1, ceB_1, e276, hx276_0, hx276_1, hl276_1, hi276_1⟩ := at_T77 HR0_1.out x15_1 p276 q276
      obtain rfl : adeA = adeB := (by injection e276)
      replace hx276_0 := (HB.out.cell (World.block_lt_of_cell? w _ hx276_0)).trans hx276_0; replace hx276_1 := (HB.out.cell (World.block_lt_of_cell? w _ hx276_1)).trans hx276_1; have HReB_1 := Ak hi276_1; have HCeB_1 := Ak hl276_1; clear hi276_1 hl276_1; replace p276 := eq_true p276; replace q276 := eq_true q276; have ea_ := Option.some.inj (hx275_1.symm.trans hx276_1); injection ea_ with ea_ en_ ec_; subst ea_; subst ec_; clear en_
      go_wp2
      repeat (go_quiet (fail); try go_wp2)
      go_roundg k1
      case measure => have := HK1.out; omega
      case rel => exact ⟨(wrap64 ((wrap64 ((wrap64 (x5_1 + 1)) + (((rd_T77 l0_1 x15_1).f0).size : Int))) + (((rd_T77 l0_1 x15_1).f1).length : Int))), (wrap64 (x15_1 + 1)), Zq6, Zq6, H', ⟨Zq26⟩, ⟨Zq72⟩, ⟨Zq55⟩⟩
     ·rw [if_neg c7] at H; exact absurd H Zq8
    ·rw [if_neg c6] at H; exact absurd H Zq8
   ·rw [if_neg c5] at H; have c5b0 : decide (x15_1 < (l0_1.length : Int)) = false := decide_eq_false c5; clear c5; have H' := Ak H; clear H; have hcz9_0 : wr.cell? ⟨gbaH, 0, none⟩ = some (.string a0_0) := (blk_cell BKaH.out 0).trans rfl; have hcz9_1 : wr.cell? ⟨gbaH, 1, none⟩ = some (.slice A0_1 l0_1.length c0_1) := (blk_cell BKaH.out 1).trans rfl; have hcz9_2 : wr.cell? ⟨gbaH, 2, none⟩ = some (.slice A0_2 l0_2.length c0_2) := (blk_cell BKaH.out 2).trans rfl; have hfz9_0 := blk_frozen BKaH.out 0; have hfz9_1 := blk_frozen BKaH.out 1; have hfz9_2 := blk_frozen BKaH.out 2
    go_wp2
    repeat (go_quiet (fail); try go_wp2)
    go_loopg [5, 40] k1 (fun kq v5 v40 w' => ∃ (x5_2 : Int) (x40_2 : Int), v5 = .int .i64 x5_2 ∧ v40 = .int .i64 x40_2 ∧ Aside0 (arboretlaw03_size.l1 kq a1 x5_2 (l0_2.length : Int) x40_2 a0_0 l0_1 l0_2 = some r) ∧ Aside0 (kq ≤ k1) ∧ Aside0 (w'.heap[gbaH]? = some (.cells #[.string a0_0, (.slice A0_1 l0_1.length c0_1), (.slice A0_2 l0_2.length c0_2)] 30 (0, 0))) ∧ Aside0 (Below w.heap.size w w'))
    case atStart => exact ⟨(x5_1), (0), Zq6, Zq6, H', ⟨Nat.le_refl _⟩, ⟨Zq72⟩, ⟨Zq55⟩⟩
    case round =>
     clear H'
     try clear c2
     try clear p2
     try clear q2
     try clear hx2
     try clear c5
     try clear c5b0
     try clear c6
     try clear c6b0
     try clear p6
     try clear c7
     try clear c7b0
     try clear hcz4_0
     try clear hcz4_1
     try clear hcz4_2
     try clear hcz8_0
     try clear hcz8_1
     try clear hcz8_2
     try clear hcz9_0
     try clear hcz9_1
     try clear hcz9_2
     try clear hfz4_0
     try clear hfz4_1
     try clear hfz4_2
     try clear hfz8_0
     try clear hfz8_1
     try clear hfz8_2
     try clear hfz9_0
     try clear hfz9_1
     try clear hfz9_2
     try clear hx275_0
     try clear hx275_1
     try clear hx276_0
     try clear hx276_1
     try clear p2
     try clear p275
     try clear p276
     try clear q275
     try clear q276
     obtain ⟨x5_2, x40_2, rfl, rfl, HA, HK2, BKaH, HB⟩ := hrel
     cases gk with
     | zero => exact absurd HA.out (by simp [arboretlaw03_size.l1])
     | succ k2 =>
      have H := HA.out; clear HA; simp only [arboretlaw03_size.l1] at H
      by_cases c10 : x40_2 < (l0_2.length : Int)
      ·rw [if_pos c10] at H; have c10b0 : decide (x40_2 < (l0_2.length : Int)) = true := decide_eq_true c10; clear c10
       by_cases c11 : a1 > 20
       ·rw [if_pos c11] at H; have c11b0 : decide (20 < a1) = true := decide_eq_true c11; clear c11; obtain rfl := Option.some.inj H
        go_wp2
        repeat (go_quiet (fail); try go_wp2)
        go_ret
        exact ⟨Zq10, Zq55⟩
       ·rw [if_neg c11] at H; have c11b0 : decide (20 < a1) = false := decide_eq_false c11; clear c11
        by_cases c12 : x5_2 > 100000
        ·rw [if_pos c12] at H; have c12b0 : decide (100000 < x5_2) = true := decide_eq_true c12; clear c12; obtain rfl := Option.some.inj H
         go_wp2
         repeat (go_quiet (fail); try go_wp2)
         go_ret
         exact ⟨Zq10, Zq55⟩
        ·rw [if_neg c12] at H; have c12b0 : decide (100000 < x5_2) = false := decide_eq_false c12; clear c12
         by_cases c13 : 0 ≤ x40_2
         ·rw [if_pos c13] at H; have c13b0 : decide (0 ≤ x40_2) = true := decide_eq_true c13; clear c13
          by_cases c14 : x40_2 < (l0_2.length : Int)
          ·rw [if_pos c14] at H; have c14b0 : decide (x40_2 < (l0_2.length : Int)) = true := decide_eq_true c14; clear c14; replace H := Option.bind_eq_some_iff.mp H; obtain ⟨tdU, AdI, H⟩ := H; replace H : (arboretlaw03_size.l1 k2 a1 (wrap64 (x5_2 + tdU)) (l0_2.length : Int) (wrap64 (x40_2 + 1)) a0_0 l0_1 l0_2) = some r := H; have A15 := Ak AdI; clear AdI; have H' := Ak H; clear H; have hcz16_0 : wr.cell? ⟨gbaH, 0, none⟩ = some (.string a0_0) := (blk_cell BKaH.out 0).trans rfl; have hcz16_1 : wr.cell? ⟨gbaH, 1, none⟩ = some (.slice A0_1 l0_1.length c0_1) := (blk_cell BKaH.out 1).trans rfl; have hcz16_2 : wr.cell? ⟨gbaH, 2, none⟩ = some (.slice A0_2 l0_2.length c0_2) := (blk_cell BKaH.out 2).trans rfl; have hfz16_0 := blk_frozen BKaH.out 0; have hfz16_1 := blk_frozen BKaH.out 1; have hfz16_2 := blk_frozen BKaH.out 2; have p277 : 0 ≤ (x40_2 : Int) := of_decide_eq_true Zq4; have q277 : x40_2 < (l0_2.length : Int) := of_decide_eq_true Zq4; obtain ⟨adbQ, AbQ_1, cbQ_1, AbQ_2, cbQ_2, e277, hx277_0, hx277_1, hx277_2, hl277_1, hi277_1, hl277_2, hi277_2⟩ := at_T30 HR0_2.out x40_2 p277 q277
           cases e277
           replace hx277_0 := (HB.out.cell (World.block_lt_of_cell? w _ hx277_0)).trans hx277_0; replace hx277_1 := (HB.out.cell (World.block_lt_of_cell? w _ hx277_1)).trans hx277_1; replace hx277_2 := (HB.out.cell (World.block_lt_of_cell? w _ hx277_2)).trans hx277_2; have HRbQ_1 := Ak hi277_1; have HCbQ_1 := Ak hl277_1; clear hi277_1 hl277_1; have HRbQ_2 := Ak hi277_2; have HCbQ_2 := Ak hl277_2; clear hi277_2 hl277_2; replace p277 := eq_true p277; replace q277 := eq_true q277
           go_wp2_with (first | (go_at_call 28; (with_reducible refine (ih k2 Zq70 ((rd_T30 l0_2 x40_2).f0) _ _ ((rd_T30 l0_2 x40_2).f1) _ _ ((rd_T30 l0_2 x40_2).f2) (wrap64 (a1 + 1)) tdU _ ?side1 ?side2 ?side3 ?side4 A15.out).mono ?_); (case side1 => repeat (first | exact (Kd.C_below HRbQ_1.out HB.out) | (with_reducible refine Kd.C_alloc ?_ _) | (with_reducible refine Kd.C_drewN ?_ _) | (with_reducible refine Kd.C_drew ?_))); (case side2 => exact HCbQ_1.out); (case side3 => repeat (first | exact (Kd.C_below HRbQ_2.out HB.out) | (with_reducible refine Kd.C_alloc ?_ _) | (with_reducible refine Kd.C_drewN ?_ _) | (with_reducible refine Kd.C_drew ?_))); (case side4 => exact HCbQ_2.out); rintro e w17 ⟨rfl, hb⟩; have n0_ := Zq180; have n1_ := Ak (below_step Zq55 hb); clear BKaH HB; have BKaH := n0_; have HB := n1_; clear n0_ n1_; (try clear hb); (try clear hb2); (try clear hk); (try clear hi)))
           repeat (go_quiet (first | (go_at_call 28; (with_reducible refine (ih k2 Zq70 ((rd_T30 l0_2 x40_2).f0) _ _ ((rd_T30 l0_2 x40_2).f1) _ _ ((rd_T30 l0_2 x40_2).f2) (wrap64 (a1 + 1)) tdU _ ?side1 ?side2 ?side3 ?side4 A15.out).mono ?_); (case side1 => repeat (first | exact (Kd.C_below HRbQ_1.out HB.out) | (with_reducible refine Kd.C_alloc ?_ _) | (with_reducible refine Kd.C_drewN ?_ _) | (with_reducible refine Kd.C_drew ?_))); (case side2 => exact HCbQ_1.out); (case side3 => repeat (first | exact (Kd.C_below HRbQ_2.out HB.out) | (with_reducible refine Kd.C_alloc ?_ _) | (with_reducible refine Kd.C_drewN ?_ _) | (with_reducible refine Kd.C_drew ?_))); (case side4 => exact HCbQ_2.out); rintro e w17 ⟨rfl, hb⟩; have n0_ := Zq180; have n1_ := Ak (below_step Zq55 hb); clear BKaH HB; have BKaH := n0_; have HB := n1_; clear n0_ n1_; (try clear hb); (try clear hb2); (try clear hk); (try clear hi))); try go_wp2_with (first | (go_at_call 28; (with_reducible refine (ih k2 Zq70 ((rd_T30 l0_2 x40_2).f0) _ _ ((rd_T30 l0_2 x40_2).f1) _ _ ((rd_T30 l0_2 x40_2).f2) (wrap64 (a1 + 1)) tdU _ ?side1 ?side2 ?side3 ?side4 A15.out).mono ?_); (case side1 => repeat (first | exact (Kd.C_below HRbQ_1.out HB.out) | (with_reducible refine Kd.C_alloc ?_ _) | (with_reducible refine Kd.C_drewN ?_ _) | (with_reducible refine Kd.C_drew ?_))); (case side2 => exact HCbQ_1.out); (case side3 => repeat (first | exact (Kd.C_below HRbQ_2.out HB.out) | (with_reducible refine Kd.C_alloc ?_ _) | (with_reducible refine Kd.C_drewN ?_ _) | (with_reducible refine Kd.C_drew ?_))); (case side4 => exact HCbQ_2.out); rintro e w17 ⟨rfl, hb⟩; have n0_ := Zq180; have n1_ := Ak (below_step Zq55 hb); clear BKaH HB; have BKaH := n0_; have HB := n1_; clear n0_ n1_; (try clear hb); (try clear hb2); (try clear hk); (try clear hi))))
           go_roundg k2
           case measure => have := HK1.out; have := HK2.out; omega
           case rel => exact ⟨(wrap64 (x5_2 + tdU)), (wrap64 (x40_2 + 1)), Zq6, Zq6, H', ⟨Zq70⟩, ⟨Zq72⟩, ⟨Zq55⟩⟩
          ·rw [if_neg c14] at H; exact absurd H Zq8
         ·rw [if_neg c13] at H; exact absurd H Zq8
      ·rw [if_neg c10] at H; have c10b0 : decide (x40_2 < (l0_2.length : Int)) = false := decide_eq_false c10; clear c10; obtain rfl := Option.some.inj H
       go_wp2
       repeat (go_quiet (fail); try go_wp2)
       go_ret
       exact ⟨Zq10, Zq55⟩
def arboretlaw03_Few.f (k : Nat) (a0_0 : Int) (l0_1 : List (S94)) (a0_2 : ByteArray) (l0_3 : List (S77)) (l0_4 : List (S30)) : Option (Bool) := (arboretlaw03_size.f k a0_2 l0_3 l0_4 0).bind fun tcF => (if tcF ≤ 100000 then (some (decide ((l0_1.length : Int) ≤ 200))) else (some false))
set_option maxHeartbeats 8000000 in
set_option maxRecDepth 100000 in
theorem arboretlaw03_Few.calls (k : Nat) (a0_0 : Int) (A0_1 : Option Addr) (c0_1 : Nat) (l0_1 : List (S94)) (a0_2 : ByteArray) (A0_3 : Option Addr) (c0_3 : Nat) (l0_3 : List (S77)) (A0_4 : Option Addr) (c0_4 : Nat) (l0_4 : List (S30)) (r : Bool) (w : World) (hr0_1 : Kd.C k94 w A0_1 l0_1.length l0_1) (hc0_1 : l0_1.length ≤ c0_1) (hr0_3 : Kd.C k77 w A0_3 l0_3.length l0_3) (hc0_3 : l0_3.length ≤ c0_3) (hr0_4 : Kd.C k30 w A0_4 l0_4.length l0_4) (hc0_4 : l0_4.length ≤ c0_4) (h : arboretlaw03_Few.f k a0_0 l0_1 a0_2 l0_3 l0_4 = some r) :
  Calls Try.prog 16 #[.agg #[.int .u32 a0_0, .slice A0_1 l0_1.length c0_1, .string a0_2, .slice A0_3 l0_3.length c0_3, .slice A0_4 l0_4.length c0_4]] w fun e w' => e = .returned (.bool r) ∧ Below w.heap.size w w' := by
 have hu35 := Try.underlying35; have hu30 := Try.underlying30; have HR0_1 := Ak hr0_1; have HC0_1 := Ak hc0_1; clear hr0_1 hc0_1; have HR0_3 := Ak hr0_3; have HC0_3 := Ak hc0_3; clear hr0_3 hc0_3; have HR0_4 := Ak hr0_4; have HC0_4 := Ak hc0_4; clear hr0_4 hc0_4; have HB := Zq129; have H : ((arboretlaw03_size.f k a0_2 l0_3 l0_4 0).bind fun tcF => (if tcF ≤ 100000 then (some (decide ((l0_1.length : Int) ≤ 200))) else (some false))) = some r := h; clear h; replace H := Option.bind_eq_some_iff.mp H; obtain ⟨tcF, A20, H⟩ := H; replace H : (if tcF ≤ 100000 then (some (decide ((l0_1.length : Int) ≤ 200))) else (some false)) = some r := H; have A2 := Ak A20; clear A20
 by_cases c3 : tcF ≤ 100000
 ·rw [if_pos c3] at H; have c3b0 : decide (tcF ≤ 100000) = true := decide_eq_true c3; clear c3; obtain rfl := Option.some.inj H
  go_enter Try.func16, Try.ntmps16
  go_wp2_with (first | ((with_reducible refine gate_dst (N := 1) rfl ?_); (try (refine gate_guard Zq3 ?_; dsimp only)); refine box_event ?hg (N := 1) ?hd (cs := #[.int .u32 a0_0, .slice A0_1 l0_1.length c0_1, .string a0_2, .slice A0_3 l0_3.length c0_3, .slice A0_4 l0_4.length c0_4]) (t := 35) ?hr ?_; (case hd | hg => rfl); (case hr => first | (go_simp; done) | (go_simp; rfl)); intro gbaU hg w4 hbox hb; have n0_ := Zq122; have n1_ := Ak (hbox); have n2_ := Zq198; have n3_ := Zq198; clear HB; have HB := n0_; have BKaU := n1_; have GWaU := n2_; have GEaU := n3_; clear n0_ n1_ n2_ n3_ hb hbox hg; have hcz5_0 : w4.cell? ⟨gbaU, 0, none⟩ = some (.int .u32 a0_0) := (blk_cell BKaU.out 0).trans rfl; have hcz5_1 : w4.cell? ⟨gbaU, 1, none⟩ = some (.slice A0_1 l0_1.length c0_1) := (blk_cell BKaU.out 1).trans rfl; have hcz5_2 : w4.cell? ⟨gbaU, 2, none⟩ = some (.string a0_2) := (blk_cell BKaU.out 2).trans rfl; have hcz5_3 : w4.cell? ⟨gbaU, 3, none⟩ = some (.slice A0_3 l0_3.length c0_3) := (blk_cell BKaU.out 3).trans rfl; have hcz5_4 : w4.cell? ⟨gbaU, 4, none⟩ = some (.slice A0_4 l0_4.length c0_4) := (blk_cell BKaU.out 4).trans rfl; have hfz5_0 := blk_frozen BKaU.out 0; have hfz5_1 := blk_frozen BKaU.out 1; have hfz5_2 := blk_frozen BKaU.out 2; have hfz5_3 := blk_frozen BKaU.out 3; have hfz5_4 := blk_frozen BKaU.out 4) | ((with_reducible refine gate_callee (f := 28) rfl ?_); refine goesL_ (some 5) rfl rfl Try.func28 Zq2 rfl #[.agg #[.string a0_2, .slice A0_3 l0_3.length c0_3, .slice A0_4 l0_4.length c0_4], .int .i64 0] rfl Zq9 ?_; (with_reducible refine (arboretlaw03_size.calls k a0_2 _ _ l0_3 _ _ l0_4 0 tcF _ ?side1 ?side2 ?side3 ?side4 A2.out).mono ?_); (case side1 => repeat (first | exact Zq157 | (with_reducible refine Kd.C_alloc ?_ _) | (with_reducible refine Kd.C_drewN ?_ _) | (with_reducible refine Kd.C_drew ?_))); (case side2 => exact HC0_3.out); (case side3 => repeat (first | exact Zq158 | (with_reducible refine Kd.C_alloc ?_ _) | (with_reducible refine Kd.C_drewN ?_ _) | (with_reducible refine Kd.C_drew ?_))); (case side4 => exact HC0_4.out); rintro e w6 ⟨rfl, hb⟩; refine ⟨_, rfl, ?_⟩; have n0_ := Ak (blk_below (g := gbaU) (o := .cells #[.int .u32 a0_0, .slice A0_1 l0_1.length c0_1, .string a0_2, .slice A0_3 l0_3.length c0_3, .slice A0_4 l0_4.length c0_4] 35 (0, 0)) (by (with_reducible repeat (first | refine blk_drewN ?_ _ | refine blk_drew ?_ | refine blk_alloc ?_ _)); exact BKaU.out) hb); have n1_ := Ak (below_step Zq111 hb); clear BKaU HB; have BKaU := n0_; have HB := n1_; clear n0_ n1_; (try clear hb); (try clear hb2); (try clear hk); (try clear hi); have hcz7_0 : w6.cell? ⟨gbaU, 0, none⟩ = some (.int .u32 a0_0) := (blk_cell BKaU.out 0).trans rfl; have hcz7_1 : w6.cell? ⟨gbaU, 1, none⟩ = some (.slice A0_1 l0_1.length c0_1) := (blk_cell BKaU.out 1).trans rfl; have hcz7_2 : w6.cell? ⟨gbaU, 2, none⟩ = some (.string a0_2) := (blk_cell BKaU.out 2).trans rfl; have hcz7_3 : w6.cell? ⟨gbaU, 3, none⟩ = some (.slice A0_3 l0_3.length c0_3) := (blk_cell BKaU.out 3).trans rfl; have hcz7_4 : w6.cell? ⟨gbaU, 4, none⟩ = some (.slice A0_4 l0_4.length c0_4) := (blk_cell BKaU.out 4).trans rfl; have hfz7_0 := blk_frozen BKaU.out 0; have hfz7_1 := blk_frozen BKaU.out 1; have hfz7_2 := blk_frozen BKaU.out 2; have hfz7_3 := blk_frozen BKaU.out 3; have hfz7_4 := blk_frozen BKaU.out 4))
  go_ret
  exact ⟨Zq10, Zq111⟩
 ·rw [if_neg c3] at H; have c3b0 : decide (tcF ≤ 100000) = false := decide_eq_false c3; clear c3; obtain rfl := Option.some.inj H
  go_enter Try.func16, Try.ntmps16
  go_wp2_with (first | ((with_reducible refine gate_dst (N := 1) rfl ?_); (try (refine gate_guard Zq3 ?_; dsimp only)); refine box_event ?hg (N := 1) ?hd (cs := #[.int .u32 a0_0, .slice A0_1 l0_1.length c0_1, .string a0_2, .slice A0_3 l0_3.length c0_3, .slice A0_4 l0_4.length c0_4]) (t := 35) ?hr ?_; (case hd | hg => rfl); (case hr => first | (go_simp; done) | (go_simp; rfl)); intro gbaU hg w8 hbox hb; have n0_ := Zq122; have n1_ := Ak (hbox); have n2_ := Zq198; have n3_ := Zq198; clear HB; have HB := n0_; have BKaU := n1_; have GWaU := n2_; have GEaU := n3_; clear n0_ n1_ n2_ n3_ hb hbox hg; have hcz9_0 : w8.cell? ⟨gbaU, 0, none⟩ = some (.int .u32 a0_0) := (blk_cell BKaU.out 0).trans rfl; have hcz9_1 : w8.cell? ⟨gbaU, 1, none⟩ = some (.slice A0_1 l0_1.length c0_1) := (blk_cell BKaU.out 1).trans rfl; have hcz9_2 : w8.cell? ⟨gbaU, 2, none⟩ = some (.string a0_2) := (blk_cell BKaU.out 2).trans rfl; have hcz9_3 : w8.cell? ⟨gbaU, 3, none⟩ = some (.slice A0_3 l0_3.length c0_3) := (blk_cell BKaU.out 3).trans rfl; have hcz9_4 : w8.cell? ⟨gbaU, 4, none⟩ = some (.slice A0_4 l0_4.length c0_4) := (blk_cell BKaU.out 4).trans rfl; have hfz9_0 := blk_frozen BKaU.out 0; have hfz9_1 := blk_frozen BKaU.out 1; have hfz9_2 := blk_frozen BKaU.out 2; have hfz9_3 := blk_frozen BKaU.out 3; have hfz9_4 := blk_frozen BKaU.out 4) | ((with_reducible refine gate_callee (f := 28) rfl ?_); refine goesL_ (some 5) rfl rfl Try.func28 Zq2 rfl #[.agg #[.string a0_2, .slice A0_3 l0_3.length c0_3, .slice A0_4 l0_4.length c0_4], .int .i64 0] rfl Zq9 ?_; (with_reducible refine (arboretlaw03_size.calls k a0_2 _ _ l0_3 _ _ l0_4 0 tcF _ ?side1 ?side2 ?side3 ?side4 A2.out).mono ?_); (case side1 => repeat (first | exact Zq157 | (with_reducible refine Kd.C_alloc ?_ _) | (with_reducible refine Kd.C_drewN ?_ _) | (with_reducible refine Kd.C_drew ?_))); (case side2 => exact HC0_3.out); (case side3 => repeat (first | exact Zq158 | (with_reducible refine Kd.C_alloc ?_ _) | (with_reducible refine Kd.C_drewN ?_ _) | (with_reducible refine Kd.C_drew ?_))); (case side4 => exact HC0_4.out); rintro e w10 ⟨rfl, hb⟩; refine ⟨_, rfl, ?_⟩; have n0_ := Ak (blk_below (g := gbaU) (o := .cells #[.int .u32 a0_0, .slice A0_1 l0_1.length c0_1, .string a0_2, .slice A0_3 l0_3.length c0_3, .slice A0_4 l0_4.length c0_4] 35 (0, 0)) (by (with_reducible repeat (first | refine blk_drewN ?_ _ | refine blk_drew ?_ | refine blk_alloc ?_ _)); exact BKaU.out) hb); have n1_ := Ak (below_step Zq111 hb); clear BKaU HB; have BKaU := n0_; have HB := n1_; clear n0_ n1_; (try clear hb); (try clear hb2); (try clear hk); (try clear hi)))
  go_ret
  exact ⟨Zq10, Zq111⟩
mutual
def arboretref01_Count.l0 : Nat → Int → Int → Int → Int → ByteArray → List (S77) → List (S30) → Option (Int × Int)
 | 0, _, _, _, _, _, _, _ => none
 | k + 1, x4, x5, x14, x15, xgd, xge, xeC => if x15 < x14 then (if 0 ≤ x15 then (if x15 < (xeC.length : Int) then ((arboretref01_Count.f k ((rd_T30 xeC x15).f0) ((rd_T30 xeC x15).f1) ((rd_T30 xeC x15).f2)).bind fun btdJ => (arboretref01_Count.l0 k (wrap64 (x4 + btdJ.1)) (wrap64 (x5 + btdJ.2)) x14 (wrap64 (x15 + 1)) xgd xge xeC)) else (none)) else (none)) else (some (x4, x5))
def arboretref01_Count.f : Nat → ByteArray → List (S77) → List (S30) → Option (Int × Int)
 | 0, _, _, _ => none
 | k + 1, a0_0, l0_1, l0_2 => arboretref01_Count.l0 k 1 (l0_1.length : Int) (l0_2.length : Int) 0 a0_0 l0_1 l0_2
end
set_option maxHeartbeats 8000000 in
set_option maxRecDepth 100000 in
theorem arboretref01_Count.calls (k : Nat) : ∀ (a0_0 : ByteArray) (A0_1 : Option Addr) (c0_1 : Nat) (l0_1 : List (S77)) (A0_2 : Option Addr) (c0_2 : Nat) (l0_2 : List (S30)) (r1 : Int) (r2 : Int) (w : World) (hr0_1 : Kd.C k77 w A0_1 l0_1.length l0_1) (hc0_1 : l0_1.length ≤ c0_1) (hr0_2 : Kd.C k30 w A0_2 l0_2.length l0_2) (hc0_2 : l0_2.length ≤ c0_2) (h : arboretref01_Count.f k a0_0 l0_1 l0_2 = some (r1, r2)),
  Calls Try.prog 30 #[.agg #[.string a0_0, .slice A0_1 l0_1.length c0_1, .slice A0_2 l0_2.length c0_2]] w fun e w' => e = .returned (.tuple #[.int .i64 r1, .int .i64 r2]) ∧ Below w.heap.size w w' := by
 induction k using Nat.strongRecOn with
 | _ k ih =>
 intro a0_0 A0_1 c0_1 l0_1 A0_2 c0_2 l0_2 r1 r2 w hr0_1 hc0_1 hr0_2 hc0_2 h
 cases k with
 | zero => exact absurd h (by simp [arboretref01_Count.f])
 | succ k =>
 simp only [arboretref01_Count.f] at h; have hu30 := Try.underlying30; have HR0_1 := Ak hr0_1; have HC0_1 := Ak hc0_1; clear hr0_1 hc0_1; have HR0_2 := Ak hr0_2; have HC0_2 := Ak hc0_2; clear hr0_2 hc0_2; have HB := Zq129; have H : (arboretref01_Count.l0 k 1 (l0_1.length : Int) (l0_2.length : Int) 0 a0_0 l0_1 l0_2) = some (r1, r2) := h; clear h; have H' := Ak H; clear H
 go_enter Try.func30, Try.ntmps30
 go_wp2_with (first | ((with_reducible refine gate_dst (N := 1) rfl ?_); refine box_event ?hg (N := 1) ?hd (cs := #[.string a0_0, .slice A0_1 l0_1.length c0_1, .slice A0_2 l0_2.length c0_2]) (t := 30) ?hr ?_; (case hd | hg => rfl); (case hr => first | (go_simp; done) | (go_simp; rfl)); intro gbaY hg w2 hbox hb; have n0_ := Zq122; have n1_ := Ak (hbox); have n2_ := Zq174; have n3_ := Zq174; clear HB; have HB := n0_; have BKaY := n1_; have GWaY := n2_; have GEaY := n3_; clear n0_ n1_ n2_ n3_ hb hbox hg; have hcz3_0 : w2.cell? ⟨gbaY, 0, none⟩ = some (.string a0_0) := (blk_cell BKaY.out 0).trans rfl; have hcz3_1 : w2.cell? ⟨gbaY, 1, none⟩ = some (.slice A0_1 l0_1.length c0_1) := (blk_cell BKaY.out 1).trans rfl; have hcz3_2 : w2.cell? ⟨gbaY, 2, none⟩ = some (.slice A0_2 l0_2.length c0_2) := (blk_cell BKaY.out 2).trans rfl; have hfz3_0 := blk_frozen BKaY.out 0; have hfz3_1 := blk_frozen BKaY.out 1; have hfz3_2 := blk_frozen BKaY.out 2))
 repeat (go_quiet (first | ((with_reducible refine gate_dst (N := 1) rfl ?_); refine box_event ?hg (N := 1) ?hd (cs := #[.string a0_0, .slice A0_1 l0_1.length c0_1, .slice A0_2 l0_2.length c0_2]) (t := 30) ?hr ?_; (case hd | hg => rfl); (case hr => first | (go_simp; done) | (go_simp; rfl)); intro gbaY hg w2 hbox hb; have n0_ := Zq122; have n1_ := Ak (hbox); have n2_ := Zq174; have n3_ := Zq174; clear HB; have HB := n0_; have BKaY := n1_; have GWaY := n2_; have GEaY := n3_; clear n0_ n1_ n2_ n3_ hb hbox hg; have hcz3_0 : w2.cell? ⟨gbaY, 0, none⟩ = some (.string a0_0) := (blk_cell BKaY.out 0).trans rfl; have hcz3_1 : w2.cell? ⟨gbaY, 1, none⟩ = some (.slice A0_1 l0_1.length c0_1) := (blk_cell BKaY.out 1).trans rfl; have hcz3_2 : w2.cell? ⟨gbaY, 2, none⟩ = some (.slice A0_2 l0_2.length c0_2) := (blk_cell BKaY.out 2).trans rfl; have hfz3_0 := blk_frozen BKaY.out 0; have hfz3_1 := blk_frozen BKaY.out 1; have hfz3_2 := blk_frozen BKaY.out 2)); try go_wp2_with (first | ((with_reducible refine gate_dst (N := 1) rfl ?_); refine box_event ?hg (N := 1) ?hd (cs := #[.string a0_0, .slice A0_1 l0_1.length c0_1, .slice A0_2 l0_2.length c0_2]) (t := 30) ?hr ?_; (case hd | hg => rfl); (case hr => first | (go_simp; done) | (go_simp; rfl)); intro gbaY hg w2 hbox hb; have n0_ := Zq122; have n1_ := Ak (hbox); have n2_ := Zq174; have n3_ := Zq174; clear HB; have HB := n0_; have BKaY := n1_; have GWaY := n2_; have GEaY := n3_; clear n0_ n1_ n2_ n3_ hb hbox hg; have hcz3_0 : w2.cell? ⟨gbaY, 0, none⟩ = some (.string a0_0) := (blk_cell BKaY.out 0).trans rfl; have hcz3_1 : w2.cell? ⟨gbaY, 1, none⟩ = some (.slice A0_1 l0_1.length c0_1) := (blk_cell BKaY.out 1).trans rfl; have hcz3_2 : w2.cell? ⟨gbaY, 2, none⟩ = some (.slice A0_2 l0_2.length c0_2) := (blk_cell BKaY.out 2).trans rfl; have hfz3_0 := blk_frozen BKaY.out 0; have hfz3_1 := blk_frozen BKaY.out 1; have hfz3_2 := blk_frozen BKaY.out 2)))
 go_loopg [4, 5, 15] k (fun kq v4 v5 v15 w' => ∃ (x4_1 : Int) (x5_1 : Int) (x15_1 : Int), v4 = .int .i64 x4_1 ∧ v5 = .int .i64 x5_1 ∧ v15 = .int .i64 x15_1 ∧ Aside0 (arboretref01_Count.l0 kq x4_1 x5_1 (l0_2.length : Int) x15_1 a0_0 l0_1 l0_2 = some (r1, r2)) ∧ Aside0 (kq ≤ k) ∧ Aside0 (w'.heap[gbaY]? = some (.cells #[.string a0_0, (.slice A0_1 l0_1.length c0_1), (.slice A0_2 l0_2.length c0_2)] 30 (0, 0))) ∧ Aside0 (Below w.heap.size w w'))
 case atStart => exact ⟨(1), ((l0_1.length : Int)), (0), Zq6, Zq6, Zq6, H', ⟨Nat.le_refl _⟩, ⟨Zq89⟩, ⟨Zq81⟩⟩
 case round =>
  clear H'
  try clear p2
  try clear c3
  try clear hcz3_0
  try clear hcz3_1
  try clear hcz3_2
  try clear hfz3_0
  try clear hfz3_1
  try clear hfz3_2
  obtain ⟨x4_1, x5_1, x15_1, rfl, rfl, rfl, HA, HK1, BKaY, HB⟩ := hrel
  cases gk with
  | zero => exact absurd HA.out (by simp [arboretref01_Count.l0])
  | succ k1 =>
   have H := HA.out; clear HA; simp only [arboretref01_Count.l0] at H
   by_cases c4 : x15_1 < (l0_2.length : Int)
   ·rw [if_pos c4] at H; have c4b0 : decide (x15_1 < (l0_2.length : Int)) = true := decide_eq_true c4; clear c4
    by_cases c5 : 0 ≤ x15_1
    ·rw [if_pos c5] at H; have c5b0 : decide (0 ≤ x15_1) = true := decide_eq_true c5; clear c5
     by_cases c6 : x15_1 < (l0_2.length : Int)
     ·rw [if_pos c6] at H; have c6b0 : decide (x15_1 < (l0_2.length : Int)) = true := decide_eq_true c6; clear c6; replace H := Option.bind_eq_some_iff.mp H; obtain ⟨⟨tdJ, teD⟩, A70, H⟩ := H; replace H : (arboretref01_Count.l0 k1 (wrap64 (x4_1 + tdJ)) (wrap64 (x5_1 + teD)) (l0_2.length : Int) (wrap64 (x15_1 + 1)) a0_0 l0_1 l0_2) = some (r1, r2) := H; have A7 := Ak A70; clear A70; have H' := Ak H; clear H; have hcz8_0 : wr.cell? ⟨gbaY, 0, none⟩ = some (.string a0_0) := (blk_cell BKaY.out 0).trans rfl; have hcz8_1 : wr.cell? ⟨gbaY, 1, none⟩ = some (.slice A0_1 l0_1.length c0_1) := (blk_cell BKaY.out 1).trans rfl; have hcz8_2 : wr.cell? ⟨gbaY, 2, none⟩ = some (.slice A0_2 l0_2.length c0_2) := (blk_cell BKaY.out 2).trans rfl; have hfz8_0 := blk_frozen BKaY.out 0; have hfz8_1 := blk_frozen BKaY.out 1; have hfz8_2 := blk_frozen BKaY.out 2; have p348 : 0 ≤ (x15_1 : Int) := of_decide_eq_true Zq4; have q348 : x15_1 < (l0_2.length : Int) := of_decide_eq_true Zq4; obtain ⟨adbR, AbR_1, cbR_1, AbR_2, cbR_2, e348, hx348_0, hx348_1, hx348_2, hl348_1, hi348_1, hl348_2, hi348_2⟩ := at_T30 HR0_2.out x15_1 p348 q348
      cases e348
      replace hx348_0 := (HB.out.cell (World.block_lt_of_cell? w _ hx348_0)).trans hx348_0; replace hx348_1 := (HB.out.cell (World.block_lt_of_cell? w _ hx348_1)).trans hx348_1; replace hx348_2 := (HB.out.cell (World.block_lt_of_cell? w _ hx348_2)).trans hx348_2; have HRbR_1 := Ak hi348_1; have HCbR_1 := Ak hl348_1; clear hi348_1 hl348_1; have HRbR_2 := Ak hi348_2; have HCbR_2 := Ak hl348_2; clear hi348_2 hl348_2; replace p348 := eq_true p348; replace q348 := eq_true q348
      go_wp2_with (first | (go_at_call 30; (with_reducible refine (ih k1 Zq26 ((rd_T30 l0_2 x15_1).f0) _ _ ((rd_T30 l0_2 x15_1).f1) _ _ ((rd_T30 l0_2 x15_1).f2) tdJ teD _ ?side1 ?side2 ?side3 ?side4 A7.out).mono ?_); (case side1 => repeat (first | exact (Kd.C_below HRbR_1.out HB.out) | (with_reducible refine Kd.C_alloc ?_ _) | (with_reducible refine Kd.C_drewN ?_ _) | (with_reducible refine Kd.C_drew ?_))); (case side2 => exact HCbR_1.out); (case side3 => repeat (first | exact (Kd.C_below HRbR_2.out HB.out) | (with_reducible refine Kd.C_alloc ?_ _) | (with_reducible refine Kd.C_drewN ?_ _) | (with_reducible refine Kd.C_drew ?_))); (case side4 => exact HCbR_2.out); rintro e w9 ⟨rfl, hb⟩; have n0_ := Zq181; have n1_ := Ak (below_step Zq81 hb); clear BKaY HB; have BKaY := n0_; have HB := n1_; clear n0_ n1_; (try clear hb); (try clear hb2); (try clear hk); (try clear hi)))
      repeat (go_quiet (first | (go_at_call 30; (with_reducible refine (ih k1 Zq26 ((rd_T30 l0_2 x15_1).f0) _ _ ((rd_T30 l0_2 x15_1).f1) _ _ ((rd_T30 l0_2 x15_1).f2) tdJ teD _ ?side1 ?side2 ?side3 ?side4 A7.out).mono ?_); (case side1 => repeat (first | exact (Kd.C_below HRbR_1.out HB.out) | (with_reducible refine Kd.C_alloc ?_ _) | (with_reducible refine Kd.C_drewN ?_ _) | (with_reducible refine Kd.C_drew ?_))); (case side2 => exact HCbR_1.out); (case side3 => repeat (first | exact (Kd.C_below HRbR_2.out HB.out) | (with_reducible refine Kd.C_alloc ?_ _) | (with_reducible refine Kd.C_drewN ?_ _) | (with_reducible refine Kd.C_drew ?_))); (case side4 => exact HCbR_2.out); rintro e w9 ⟨rfl, hb⟩; have n0_ := Zq181; have n1_ := Ak (below_step Zq81 hb); clear BKaY HB; have BKaY := n0_; have HB := n1_; clear n0_ n1_; (try clear hb); (try clear hb2); (try clear hk); (try clear hi))); try go_wp2_with (first | (go_at_call 30; (with_reducible refine (ih k1 Zq26 ((rd_T30 l0_2 x15_1).f0) _ _ ((rd_T30 l0_2 x15_1).f1) _ _ ((rd_T30 l0_2 x15_1).f2) tdJ teD _ ?side1 ?side2 ?side3 ?side4 A7.out).mono ?_); (case side1 => repeat (first | exact (Kd.C_below HRbR_1.out HB.out) | (with_reducible refine Kd.C_alloc ?_ _) | (with_reducible refine Kd.C_drewN ?_ _) | (with_reducible refine Kd.C_drew ?_))); (case side2 => exact HCbR_1.out); (case side3 => repeat (first | exact (Kd.C_below HRbR_2.out HB.out) | (with_reducible refine Kd.C_alloc ?_ _) | (with_reducible refine Kd.C_drewN ?_ _) | (with_reducible refine Kd.C_drew ?_))); (case side4 => exact HCbR_2.out); rintro e w9 ⟨rfl, hb⟩; have n0_ := Zq181; have n1_ := Ak (below_step Zq81 hb); clear BKaY HB; have BKaY := n0_; have HB := n1_; clear n0_ n1_; (try clear hb); (try clear hb2); (try clear hk); (try clear hi))))
      go_roundg k1
      case measure => have := HK1.out; omega
      case rel => exact ⟨(wrap64 (x4_1 + tdJ)), (wrap64 (x5_1 + teD)), (wrap64 (x15_1 + 1)), Zq6, Zq6, Zq6, H', ⟨Zq26⟩, ⟨Zq89⟩, ⟨Zq81⟩⟩
     ·rw [if_neg c6] at H; exact absurd H Zq8
    ·rw [if_neg c5] at H; exact absurd H Zq8
   ·rw [if_neg c4] at H; have c4b0 : decide (x15_1 < (l0_2.length : Int)) = false := decide_eq_false c4; clear c4; simp only [Option.some.injEq, Prod.mk.injEq] at H; obtain ⟨rfl, rfl⟩ := H
    go_wp2
    repeat (go_quiet (fail); try go_wp2)
    go_ret2
    exact ⟨Zq10, Zq81⟩
def arboretref01_Cut.l0 : Nat → ByteArray → Int → Int → Option (Int)
 | 0, _, _, _ => none
 | k + 1, x0, x5, x6 => if x6 < x5 then (if 0 ≤ x6 then (if x6 < (x0.size : Int) then (if (bt x0 x6) = 64 then (some x6) else (arboretref01_Cut.l0 k x0 x5 (wrap64 (x6 + 1)))) else (none)) else (none)) else (some (-1))
def arboretref01_Cut.f (k : Nat) (a0 : ByteArray) : Option (Int) := arboretref01_Cut.l0 k a0 (a0.size : Int) 0
set_option maxHeartbeats 8000000 in
set_option maxRecDepth 100000 in
theorem arboretref01_Cut.calls (k : Nat) (a0 : ByteArray) (r : Int) (w : World) (h : arboretref01_Cut.f k a0 = some r) :
  Calls Try.prog 14 #[.string a0] w fun e w' => e = .returned (.int .i64 r) ∧ Drawn0 w w' := by
 have H : (arboretref01_Cut.l0 k a0 (a0.size : Int) 0) = some r := h; clear h; have H' := Ak H; clear H
 go_enter Try.func14, Try.ntmps14
 go_wp2
 go_loopg [6] k (fun kq v6 w' => ∃ (x6_1 : Int), v6 = .int .i64 x6_1 ∧ Aside0 (arboretref01_Cut.l0 kq a0 (a0.size : Int) x6_1 = some r) ∧ Aside0 (kq ≤ k) ∧ Drawn0 w w')
 case atStart => exact ⟨(0), Zq6, H', ⟨Nat.le_refl _⟩, Zq11⟩
 case round =>
  clear H'
  try clear c1
  obtain ⟨x6_1, rfl, HA, HK1, ⟨m1, rfl⟩⟩ := hrel
  cases gk with
  | zero => exact absurd HA.out (by simp [arboretref01_Cut.l0])
  | succ k1 =>
   have H := HA.out; clear HA; simp only [arboretref01_Cut.l0] at H
   by_cases c2 : x6_1 < (a0.size : Int)
   ·rw [if_pos c2] at H; have c2b0 : decide (x6_1 < (a0.size : Int)) = true := decide_eq_true c2; clear c2
    by_cases c3 : 0 ≤ x6_1
    ·rw [if_pos c3] at H; have c3b0 : decide (0 ≤ x6_1) = true := decide_eq_true c3; clear c3
     by_cases c4 : x6_1 < (a0.size : Int)
     ·rw [if_pos c4] at H; have c4b0 : decide (x6_1 < (a0.size : Int)) = true := decide_eq_true c4; clear c4
      by_cases c6 : (bt a0 x6_1) = 64
      ·rw [if_pos c6] at H; have c6b0 : ((bt a0 x6_1) == 64) = true := beq_iff_eq.mpr c6; have c6b1 : ((bt a0 x6_1) != 64) = false := bne_eq_false_iff_eq.mpr c6; clear c6; obtain rfl := Option.some.inj H; have p5 : 0 ≤ (x6_1 : Int) := of_decide_eq_true Zq4; have q5 : x6_1 < (a0.size : Int) := of_decide_eq_true Zq4; have hx5 := bt_at a0 x6_1; replace p5 := eq_true p5; replace q5 := eq_true q5
       go_wp2
       go_ret
       exact ⟨Zq6, Zq11⟩
      ·rw [if_neg c6] at H; have c6b0 : ((bt a0 x6_1) == 64) = false := beq_eq_false_iff_ne.mpr c6; have c6b1 : ((bt a0 x6_1) != 64) = true := bne_iff_ne.mpr c6; have H' := Ak H; clear H; have p5 : 0 ≤ (x6_1 : Int) := of_decide_eq_true Zq4; have q5 : x6_1 < (a0.size : Int) := of_decide_eq_true Zq4; have hx5 := bt_at a0 x6_1; replace p5 := eq_true p5; replace q5 := eq_true q5
       go_wp2
       go_roundg k1
       case measure => have := HK1.out; omega
       case rel => exact ⟨(wrap64 (x6_1 + 1)), Zq6, H', ⟨Zq26⟩, Zq11⟩
     ·rw [if_neg c4] at H; exact absurd H Zq8
    ·rw [if_neg c3] at H; exact absurd H Zq8
   ·rw [if_neg c2] at H; have c2b0 : decide (x6_1 < (a0.size : Int)) = false := decide_eq_false c2; clear c2; obtain rfl := Option.some.inj H
    go_wp2
    go_ret
    exact ⟨Zq6, Zq11⟩
def arboretref01_stands.f (a0 : Int) : Option (Bool) := if a0 ≥ 48 then (if a0 ≤ 57 then (some true) else (if a0 ≥ 97 then (if a0 ≤ 122 then (some true) else (if a0 ≥ 65 then (if a0 ≤ 90 then (some true) else (if a0 = 44 then (some true) else (if a0 = 46 then (some true) else (if a0 = 95 then (some true) else (if a0 = 43 then (some true) else (some (a0 == 45))))))) else (if a0 = 44 then (some true) else (if a0 = 46 then (some true) else (if a0 = 95 then (some true) else (if a0 = 43 then (some true) else (some (a0 == 45)))))))) else (if a0 ≥ 65 then (if a0 ≤ 90 then (some true) else (if a0 = 44 then (some true) else (if a0 = 46 then (some true) else (if a0 = 95 then (some true) else (if a0 = 43 then (some true) else (some (a0 == 45))))))) else (if a0 = 44 then (some true) else (if a0 = 46 then (some true) else (if a0 = 95 then (some true) else (if a0 = 43 then (some true) else (some (a0 == 45))))))))) else (if a0 ≥ 97 then (if a0 ≤ 122 then (some true) else (if a0 ≥ 65 then (if a0 ≤ 90 then (some true) else (if a0 = 44 then (some true) else (if a0 = 46 then (some true) else (if a0 = 95 then (some true) else (if a0 = 43 then (some true) else (some (a0 == 45))))))) else (if a0 = 44 then (some true) else (if a0 = 46 then (some true) else (if a0 = 95 then (some true) else (if a0 = 43 then (some true) else (some (a0 == 45)))))))) else (if a0 ≥ 65 then (if a0 ≤ 90 then (some true) else (if a0 = 44 then (some true) else (if a0 = 46 then (some true) else (if a0 = 95 then (some true) else (if a0 = 43 then (some true) else (some (a0 == 45))))))) else (if a0 = 44 then (some true) else (if a0 = 46 then (some true) else (if a0 = 95 then (some true) else (if a0 = 43 then (some true) else (some (a0 == 45))))))))
end Go.Proofs.Yteejaaeglfpcmab.PX

namespace Go.Proofs.Yteejaaeglfpcmab.PX
open Go.RowKit Go.Proofs.YteejaaeglfpcmabW.PrintWords Go.Proofs.YteejaaeglfpcmabW.PrintLast Go.Proofs.YteejaaeglfpcmabW.PrintMore
attribute [local go_sem] max2_int min2_int max_two min_two max_three min_three max_four min_four
set_option maxHeartbeats 8000000 in
set_option maxRecDepth 100000 in
theorem arboretref01_stands.calls (a0 : Int) (r : Bool) (w : World) (h : arboretref01_stands.f a0 = some r) :
  Calls Try.prog 90 #[.int .u8 a0] w fun e w' => e = .returned (.bool r) ∧ Drawn0 w w' := by
 have H : (if a0 ≥ 48 then (if a0 ≤ 57 then (some true) else (if a0 ≥ 97 then (if a0 ≤ 122 then (some true) else (if a0 ≥ 65 then (if a0 ≤ 90 then (some true) else (if a0 = 44 then (some true) else (if a0 = 46 then (some true) else (if a0 = 95 then (some true) else (if a0 = 43 then (some true) else (some (a0 == 45))))))) else (if a0 = 44 then (some true) else (if a0 = 46 then (some true) else (if a0 = 95 then (some true) else (if a0 = 43 then (some true) else (some (a0 == 45)))))))) else (if a0 ≥ 65 then (if a0 ≤ 90 then (some true) else (if a0 = 44 then (some true) else (if a0 = 46 then (some true) else (if a0 = 95 then (some true) else (if a0 = 43 then (some true) else (some (a0 == 45))))))) else (if a0 = 44 then (some true) else (if a0 = 46 then (some true) else (if a0 = 95 then (some true) else (if a0 = 43 then (some true) else (some (a0 == 45))))))))) else (if a0 ≥ 97 then (if a0 ≤ 122 then (some true) else (if a0 ≥ 65 then (if a0 ≤ 90 then (some true) else (if a0 = 44 then (some true) else (if a0 = 46 then (some true) else (if a0 = 95 then (some true) else (if a0 = 43 then (some true) else (some (a0 == 45))))))) else (if a0 = 44 then (some true) else (if a0 = 46 then (some true) else (if a0 = 95 then (some true) else (if a0 = 43 then (some true) else (some (a0 == 45)))))))) else (if a0 ≥ 65 then (if a0 ≤ 90 then (some true) else (if a0 = 44 then (some true) else (if a0 = 46 then (some true) else (if a0 = 95 then (some true) else (if a0 = 43 then (some true) else (some (a0 == 45))))))) else (if a0 = 44 then (some true) else (if a0 = 46 then (some true) else (if a0 = 95 then (some true) else (if a0 = 43 then (some true) else (some (a0 == 45))))))))) = some r := h; clear h
 by_cases c2 : a0 ≥ 48
 ·rw [if_pos c2] at H; have c2b0 : decide (48 ≤ a0) = true := decide_eq_true c2; clear c2
  by_cases c3 : a0 ≤ 57
  ·rw [if_pos c3] at H; have c3b0 : decide (a0 ≤ 57) = true := decide_eq_true c3; clear c3; obtain rfl := Option.some.inj H
   go_enter Try.func90, Try.ntmps90
   go_wp2
   go_ret
   exact ⟨Zq6, Zq11⟩
  ·rw [if_neg c3] at H; have c3b0 : decide (a0 ≤ 57) = false := decide_eq_false c3; clear c3
   by_cases c4 : a0 ≥ 97
   ·rw [if_pos c4] at H; have c4b0 : decide (97 ≤ a0) = true := decide_eq_true c4; clear c4
    by_cases c5 : a0 ≤ 122
    ·rw [if_pos c5] at H; have c5b0 : decide (a0 ≤ 122) = true := decide_eq_true c5; clear c5; obtain rfl := Option.some.inj H
     go_enter Try.func90, Try.ntmps90
     go_wp2
     go_ret
     exact ⟨Zq6, Zq11⟩
    ·rw [if_neg c5] at H; have c5b0 : decide (a0 ≤ 122) = false := decide_eq_false c5; clear c5
     by_cases c6 : a0 ≥ 65
     ·rw [if_pos c6] at H; have c6b0 : decide (65 ≤ a0) = true := decide_eq_true c6; clear c6
      by_cases c7 : a0 ≤ 90
      ·rw [if_pos c7] at H; have c7b0 : decide (a0 ≤ 90) = true := decide_eq_true c7; clear c7; obtain rfl := Option.some.inj H
       go_enter Try.func90, Try.ntmps90
       go_wp2
       go_ret
       exact ⟨Zq6, Zq11⟩
      ·rw [if_neg c7] at H; have c7b0 : decide (a0 ≤ 90) = false := decide_eq_false c7; clear c7
       by_cases c8 : a0 = 44
       ·rw [if_pos c8] at H; have c8b0 : (a0 == 44) = true := beq_iff_eq.mpr c8; have c8b1 : (a0 != 44) = false := bne_eq_false_iff_eq.mpr c8; clear c8; obtain rfl := Option.some.inj H
        go_enter Try.func90, Try.ntmps90
        go_wp2
        go_ret
        exact ⟨Zq6, Zq11⟩
       ·rw [if_neg c8] at H; have c8b0 : (a0 == 44) = false := beq_eq_false_iff_ne.mpr c8; have c8b1 : (a0 != 44) = true := bne_iff_ne.mpr c8
        by_cases c9 : a0 = 46
        ·rw [if_pos c9] at H; have c9b0 : (a0 == 46) = true := beq_iff_eq.mpr c9; have c9b1 : (a0 != 46) = false := bne_eq_false_iff_eq.mpr c9; clear c9; obtain rfl := Option.some.inj H
         go_enter Try.func90, Try.ntmps90
         go_wp2
         go_ret
         exact ⟨Zq6, Zq11⟩
        ·rw [if_neg c9] at H; have c9b0 : (a0 == 46) = false := beq_eq_false_iff_ne.mpr c9; have c9b1 : (a0 != 46) = true := bne_iff_ne.mpr c9
         by_cases c10 : a0 = 95
         ·rw [if_pos c10] at H; have c10b0 : (a0 == 95) = true := beq_iff_eq.mpr c10; have c10b1 : (a0 != 95) = false := bne_eq_false_iff_eq.mpr c10; clear c10; obtain rfl := Option.some.inj H
          go_enter Try.func90, Try.ntmps90
          go_wp2
          go_ret
          exact ⟨Zq6, Zq11⟩
         ·rw [if_neg c10] at H; have c10b0 : (a0 == 95) = false := beq_eq_false_iff_ne.mpr c10; have c10b1 : (a0 != 95) = true := bne_iff_ne.mpr c10
          by_cases c11 : a0 = 43
          ·rw [if_pos c11] at H; have c11b0 : (a0 == 43) = true := beq_iff_eq.mpr c11; have c11b1 : (a0 != 43) = false := bne_eq_false_iff_eq.mpr c11; clear c11; obtain rfl := Option.some.inj H
           go_enter Try.func90, Try.ntmps90
           go_wp2
           go_ret
           exact ⟨Zq6, Zq11⟩
          ·rw [if_neg c11] at H; have c11b0 : (a0 == 43) = false := beq_eq_false_iff_ne.mpr c11; have c11b1 : (a0 != 43) = true := bne_iff_ne.mpr c11; obtain rfl := Option.some.inj H
           go_enter Try.func90, Try.ntmps90
           go_wp2
           go_ret
           exact ⟨Zq6, Zq11⟩
     ·rw [if_neg c6] at H; have c6b0 : decide (65 ≤ a0) = false := decide_eq_false c6; clear c6
      by_cases c12 : a0 = 44
      ·rw [if_pos c12] at H; have c12b0 : (a0 == 44) = true := beq_iff_eq.mpr c12; have c12b1 : (a0 != 44) = false := bne_eq_false_iff_eq.mpr c12; clear c12; obtain rfl := Option.some.inj H
       go_enter Try.func90, Try.ntmps90
       go_wp2
       go_ret
       exact ⟨Zq6, Zq11⟩
      ·rw [if_neg c12] at H; have c12b0 : (a0 == 44) = false := beq_eq_false_iff_ne.mpr c12; have c12b1 : (a0 != 44) = true := bne_iff_ne.mpr c12
       by_cases c13 : a0 = 46
       ·rw [if_pos c13] at H; have c13b0 : (a0 == 46) = true := beq_iff_eq.mpr c13; have c13b1 : (a0 != 46) = false := bne_eq_false_iff_eq.mpr c13; clear c13; obtain rfl := Option.some.inj H
        go_enter Try.func90, Try.ntmps90
        go_wp2
        go_ret
        exact ⟨Zq6, Zq11⟩
       ·rw [if_neg c13] at H; have c13b0 : (a0 == 46) = false := beq_eq_false_iff_ne.mpr c13; have c13b1 : (a0 != 46) = true := bne_iff_ne.mpr c13
        by_cases c14 : a0 = 95
        ·rw [if_pos c14] at H; have c14b0 : (a0 == 95) = true := beq_iff_eq.mpr c14; have c14b1 : (a0 != 95) = false := bne_eq_false_iff_eq.mpr c14; clear c14; obtain rfl := Option.some.inj H
         go_enter Try.func90, Try.ntmps90
         go_wp2
         go_ret
         exact ⟨Zq6, Zq11⟩
        ·rw [if_neg c14] at H; have c14b0 : (a0 == 95) = false := beq_eq_false_iff_ne.mpr c14; have c14b1 : (a0 != 95) = true := bne_iff_ne.mpr c14
         by_cases c15 : a0 = 43
         ·rw [if_pos c15] at H; have c15b0 : (a0 == 43) = true := beq_iff_eq.mpr c15; have c15b1 : (a0 != 43) = false := bne_eq_false_iff_eq.mpr c15; clear c15; obtain rfl := Option.some.inj H
          go_enter Try.func90, Try.ntmps90
          go_wp2
          go_ret
          exact ⟨Zq6, Zq11⟩
         ·rw [if_neg c15] at H; have c15b0 : (a0 == 43) = false := beq_eq_false_iff_ne.mpr c15; have c15b1 : (a0 != 43) = true := bne_iff_ne.mpr c15; obtain rfl := Option.some.inj H
          go_enter Try.func90, Try.ntmps90
          go_wp2
          go_ret
          exact ⟨Zq6, Zq11⟩
   ·rw [if_neg c4] at H; have c4b0 : decide (97 ≤ a0) = false := decide_eq_false c4; clear c4
    by_cases c16 : a0 ≥ 65
    ·rw [if_pos c16] at H; have c16b0 : decide (65 ≤ a0) = true := decide_eq_true c16; clear c16
     by_cases c17 : a0 ≤ 90
     ·rw [if_pos c17] at H; have c17b0 : decide (a0 ≤ 90) = true := decide_eq_true c17; clear c17; obtain rfl := Option.some.inj H
      go_enter Try.func90, Try.ntmps90
      go_wp2
      go_ret
      exact ⟨Zq6, Zq11⟩
     ·rw [if_neg c17] at H; have c17b0 : decide (a0 ≤ 90) = false := decide_eq_false c17; clear c17
      by_cases c18 : a0 = 44
      ·rw [if_pos c18] at H; have c18b0 : (a0 == 44) = true := beq_iff_eq.mpr c18; have c18b1 : (a0 != 44) = false := bne_eq_false_iff_eq.mpr c18; clear c18; obtain rfl := Option.some.inj H
       go_enter Try.func90, Try.ntmps90
       go_wp2
       go_ret
       exact ⟨Zq6, Zq11⟩
      ·rw [if_neg c18] at H; have c18b0 : (a0 == 44) = false := beq_eq_false_iff_ne.mpr c18; have c18b1 : (a0 != 44) = true := bne_iff_ne.mpr c18
       by_cases c19 : a0 = 46
       ·rw [if_pos c19] at H; have c19b0 : (a0 == 46) = true := beq_iff_eq.mpr c19; have c19b1 : (a0 != 46) = false := bne_eq_false_iff_eq.mpr c19; clear c19; obtain rfl := Option.some.inj H
        go_enter Try.func90, Try.ntmps90
        go_wp2
        go_ret
        exact ⟨Zq6, Zq11⟩
       ·rw [if_neg c19] at H; have c19b0 : (a0 == 46) = false := beq_eq_false_iff_ne.mpr c19; have c19b1 : (a0 != 46) = true := bne_iff_ne.mpr c19
        by_cases c20 : a0 = 95
        ·rw [if_pos c20] at H; have c20b0 : (a0 == 95) = true := beq_iff_eq.mpr c20; have c20b1 : (a0 != 95) = false := bne_eq_false_iff_eq.mpr c20; clear c20; obtain rfl := Option.some.inj H
         go_enter Try.func90, Try.ntmps90
         go_wp2
         go_ret
         exact ⟨Zq6, Zq11⟩
        ·rw [if_neg c20] at H; have c20b0 : (a0 == 95) = false := beq_eq_false_iff_ne.mpr c20; have c20b1 : (a0 != 95) = true := bne_iff_ne.mpr c20
         by_cases c21 : a0 = 43
         ·rw [if_pos c21] at H; have c21b0 : (a0 == 43) = true := beq_iff_eq.mpr c21; have c21b1 : (a0 != 43) = false := bne_eq_false_iff_eq.mpr c21; clear c21; obtain rfl := Option.some.inj H
          go_enter Try.func90, Try.ntmps90
          go_wp2
          go_ret
          exact ⟨Zq6, Zq11⟩
         ·rw [if_neg c21] at H; have c21b0 : (a0 == 43) = false := beq_eq_false_iff_ne.mpr c21; have c21b1 : (a0 != 43) = true := bne_iff_ne.mpr c21; obtain rfl := Option.some.inj H
          go_enter Try.func90, Try.ntmps90
          go_wp2
          go_ret
          exact ⟨Zq6, Zq11⟩
    ·rw [if_neg c16] at H; have c16b0 : decide (65 ≤ a0) = false := decide_eq_false c16; clear c16
     by_cases c22 : a0 = 44
     ·rw [if_pos c22] at H; have c22b0 : (a0 == 44) = true := beq_iff_eq.mpr c22; have c22b1 : (a0 != 44) = false := bne_eq_false_iff_eq.mpr c22; clear c22; obtain rfl := Option.some.inj H
      go_enter Try.func90, Try.ntmps90
      go_wp2
      go_ret
      exact ⟨Zq6, Zq11⟩
     ·rw [if_neg c22] at H; have c22b0 : (a0 == 44) = false := beq_eq_false_iff_ne.mpr c22; have c22b1 : (a0 != 44) = true := bne_iff_ne.mpr c22
      by_cases c23 : a0 = 46
      ·rw [if_pos c23] at H; have c23b0 : (a0 == 46) = true := beq_iff_eq.mpr c23; have c23b1 : (a0 != 46) = false := bne_eq_false_iff_eq.mpr c23; clear c23; obtain rfl := Option.some.inj H
       go_enter Try.func90, Try.ntmps90
       go_wp2
       go_ret
       exact ⟨Zq6, Zq11⟩
      ·rw [if_neg c23] at H; have c23b0 : (a0 == 46) = false := beq_eq_false_iff_ne.mpr c23; have c23b1 : (a0 != 46) = true := bne_iff_ne.mpr c23
       by_cases c24 : a0 = 95
       ·rw [if_pos c24] at H; have c24b0 : (a0 == 95) = true := beq_iff_eq.mpr c24; have c24b1 : (a0 != 95) = false := bne_eq_false_iff_eq.mpr c24; clear c24; obtain rfl := Option.some.inj H
        go_enter Try.func90, Try.ntmps90
        go_wp2
        go_ret
        exact ⟨Zq6, Zq11⟩
       ·rw [if_neg c24] at H; have c24b0 : (a0 == 95) = false := beq_eq_false_iff_ne.mpr c24; have c24b1 : (a0 != 95) = true := bne_iff_ne.mpr c24
        by_cases c25 : a0 = 43
        ·rw [if_pos c25] at H; have c25b0 : (a0 == 43) = true := beq_iff_eq.mpr c25; have c25b1 : (a0 != 43) = false := bne_eq_false_iff_eq.mpr c25; clear c25; obtain rfl := Option.some.inj H
         go_enter Try.func90, Try.ntmps90
         go_wp2
         go_ret
         exact ⟨Zq6, Zq11⟩
        ·rw [if_neg c25] at H; have c25b0 : (a0 == 43) = false := beq_eq_false_iff_ne.mpr c25; have c25b1 : (a0 != 43) = true := bne_iff_ne.mpr c25; obtain rfl := Option.some.inj H
         go_enter Try.func90, Try.ntmps90
         go_wp2
         go_ret
         exact ⟨Zq6, Zq11⟩
 ·rw [if_neg c2] at H; have c2b0 : decide (48 ≤ a0) = false := decide_eq_false c2; clear c2
  by_cases c26 : a0 ≥ 97
  ·rw [if_pos c26] at H; have c26b0 : decide (97 ≤ a0) = true := decide_eq_true c26; clear c26
   by_cases c27 : a0 ≤ 122
   ·rw [if_pos c27] at H; have c27b0 : decide (a0 ≤ 122) = true := decide_eq_true c27; clear c27; obtain rfl := Option.some.inj H
    go_enter Try.func90, Try.ntmps90
    go_wp2
    go_ret
    exact ⟨Zq6, Zq11⟩
   ·rw [if_neg c27] at H; have c27b0 : decide (a0 ≤ 122) = false := decide_eq_false c27; clear c27
    by_cases c28 : a0 ≥ 65
    ·rw [if_pos c28] at H; have c28b0 : decide (65 ≤ a0) = true := decide_eq_true c28; clear c28
     by_cases c29 : a0 ≤ 90
     ·rw [if_pos c29] at H; have c29b0 : decide (a0 ≤ 90) = true := decide_eq_true c29; clear c29; obtain rfl := Option.some.inj H
      go_enter Try.func90, Try.ntmps90
      go_wp2
      go_ret
      exact ⟨Zq6, Zq11⟩
     ·rw [if_neg c29] at H; have c29b0 : decide (a0 ≤ 90) = false := decide_eq_false c29; clear c29
      by_cases c30 : a0 = 44
      ·rw [if_pos c30] at H; have c30b0 : (a0 == 44) = true := beq_iff_eq.mpr c30; have c30b1 : (a0 != 44) = false := bne_eq_false_iff_eq.mpr c30; clear c30; obtain rfl := Option.some.inj H
       go_enter Try.func90, Try.ntmps90
       go_wp2
       go_ret
       exact ⟨Zq6, Zq11⟩
      ·rw [if_neg c30] at H; have c30b0 : (a0 == 44) = false := beq_eq_false_iff_ne.mpr c30; have c30b1 : (a0 != 44) = true := bne_iff_ne.mpr c30
       by_cases c31 : a0 = 46
       ·rw [if_pos c31] at H; have c31b0 : (a0 == 46) = true := beq_iff_eq.mpr c31; have c31b1 : (a0 != 46) = false := bne_eq_false_iff_eq.mpr c31; clear c31; obtain rfl := Option.some.inj H
        go_enter Try.func90, Try.ntmps90
        go_wp2
        go_ret
        exact ⟨Zq6, Zq11⟩
       ·rw [if_neg c31] at H; have c31b0 : (a0 == 46) = false := beq_eq_false_iff_ne.mpr c31; have c31b1 : (a0 != 46) = true := bne_iff_ne.mpr c31
        by_cases c32 : a0 = 95
        ·rw [if_pos c32] at H; have c32b0 : (a0 == 95) = true := beq_iff_eq.mpr c32; have c32b1 : (a0 != 95) = false := bne_eq_false_iff_eq.mpr c32; clear c32; obtain rfl := Option.some.inj H
         go_enter Try.func90, Try.ntmps90
         go_wp2
         go_ret
         exact ⟨Zq6, Zq11⟩
        ·rw [if_neg c32] at H; have c32b0 : (a0 == 95) = false := beq_eq_false_iff_ne.mpr c32; have c32b1 : (a0 != 95) = true := bne_iff_ne.mpr c32
         by_cases c33 : a0 = 43
         ·rw [if_pos c33] at H; have c33b0 : (a0 == 43) = true := beq_iff_eq.mpr c33; have c33b1 : (a0 != 43) = false := bne_eq_false_iff_eq.mpr c33; clear c33; obtain rfl := Option.some.inj H
          go_enter Try.func90, Try.ntmps90
          go_wp2
          go_ret
          exact ⟨Zq6, Zq11⟩
         ·rw [if_neg c33] at H; have c33b0 : (a0 == 43) = false := beq_eq_false_iff_ne.mpr c33; have c33b1 : (a0 != 43) = true := bne_iff_ne.mpr c33; obtain rfl := Option.some.inj H
          go_enter Try.func90, Try.ntmps90
          go_wp2
          go_ret
          exact ⟨Zq6, Zq11⟩
    ·rw [if_neg c28] at H; have c28b0 : decide (65 ≤ a0) = false := decide_eq_false c28; clear c28
     by_cases c34 : a0 = 44
     ·rw [if_pos c34] at H; have c34b0 : (a0 == 44) = true := beq_iff_eq.mpr c34; have c34b1 : (a0 != 44) = false := bne_eq_false_iff_eq.mpr c34; clear c34; obtain rfl := Option.some.inj H
      go_enter Try.func90, Try.ntmps90
      go_wp2
      go_ret
      exact ⟨Zq6, Zq11⟩
     ·rw [if_neg c34] at H; have c34b0 : (a0 == 44) = false := beq_eq_false_iff_ne.mpr c34; have c34b1 : (a0 != 44) = true := bne_iff_ne.mpr c34
      by_cases c35 : a0 = 46
      ·rw [if_pos c35] at H; have c35b0 : (a0 == 46) = true := beq_iff_eq.mpr c35; have c35b1 : (a0 != 46) = false := bne_eq_false_iff_eq.mpr c35; clear c35; obtain rfl := Option.some.inj H
       go_enter Try.func90, Try.ntmps90
       go_wp2
       go_ret
       exact ⟨Zq6, Zq11⟩
      ·rw [if_neg c35] at H; have c35b0 : (a0 == 46) = false := beq_eq_false_iff_ne.mpr c35; have c35b1 : (a0 != 46) = true := bne_iff_ne.mpr c35
       by_cases c36 : a0 = 95
       ·rw [if_pos c36] at H; have c36b0 : (a0 == 95) = true := beq_iff_eq.mpr c36; have c36b1 : (a0 != 95) = false := bne_eq_false_iff_eq.mpr c36; clear c36; obtain rfl := Option.some.inj H
        go_enter Try.func90, Try.ntmps90
        go_wp2
        go_ret
        exact ⟨Zq6, Zq11⟩
       ·rw [if_neg c36] at H; have c36b0 : (a0 == 95) = false := beq_eq_false_iff_ne.mpr c36; have c36b1 : (a0 != 95) = true := bne_iff_ne.mpr c36
        by_cases c37 : a0 = 43
        ·rw [if_pos c37] at H; have c37b0 : (a0 == 43) = true := beq_iff_eq.mpr c37; have c37b1 : (a0 != 43) = false := bne_eq_false_iff_eq.mpr c37; clear c37; obtain rfl := Option.some.inj H
         go_enter Try.func90, Try.ntmps90
         go_wp2
         go_ret
         exact ⟨Zq6, Zq11⟩
        ·rw [if_neg c37] at H; have c37b0 : (a0 == 43) = false := beq_eq_false_iff_ne.mpr c37; have c37b1 : (a0 != 43) = true := bne_iff_ne.mpr c37; obtain rfl := Option.some.inj H
         go_enter Try.func90, Try.ntmps90
         go_wp2
         go_ret
         exact ⟨Zq6, Zq11⟩
  ·rw [if_neg c26] at H; have c26b0 : decide (97 ≤ a0) = false := decide_eq_false c26; clear c26
   by_cases c38 : a0 ≥ 65
   ·rw [if_pos c38] at H; have c38b0 : decide (65 ≤ a0) = true := decide_eq_true c38; clear c38
    by_cases c39 : a0 ≤ 90
    ·rw [if_pos c39] at H; have c39b0 : decide (a0 ≤ 90) = true := decide_eq_true c39; clear c39; obtain rfl := Option.some.inj H
     go_enter Try.func90, Try.ntmps90
     go_wp2
     go_ret
     exact ⟨Zq6, Zq11⟩
    ·rw [if_neg c39] at H; have c39b0 : decide (a0 ≤ 90) = false := decide_eq_false c39; clear c39
     by_cases c40 : a0 = 44
     ·rw [if_pos c40] at H; have c40b0 : (a0 == 44) = true := beq_iff_eq.mpr c40; have c40b1 : (a0 != 44) = false := bne_eq_false_iff_eq.mpr c40; clear c40; obtain rfl := Option.some.inj H
      go_enter Try.func90, Try.ntmps90
      go_wp2
      go_ret
      exact ⟨Zq6, Zq11⟩
     ·rw [if_neg c40] at H; have c40b0 : (a0 == 44) = false := beq_eq_false_iff_ne.mpr c40; have c40b1 : (a0 != 44) = true := bne_iff_ne.mpr c40
      by_cases c41 : a0 = 46
      ·rw [if_pos c41] at H; have c41b0 : (a0 == 46) = true := beq_iff_eq.mpr c41; have c41b1 : (a0 != 46) = false := bne_eq_false_iff_eq.mpr c41; clear c41; obtain rfl := Option.some.inj H
       go_enter Try.func90, Try.ntmps90
       go_wp2
       go_ret
       exact ⟨Zq6, Zq11⟩
      ·rw [if_neg c41] at H; have c41b0 : (a0 == 46) = false := beq_eq_false_iff_ne.mpr c41; have c41b1 : (a0 != 46) = true := bne_iff_ne.mpr c41
       by_cases c42 : a0 = 95
       ·rw [if_pos c42] at H; have c42b0 : (a0 == 95) = true := beq_iff_eq.mpr c42; have c42b1 : (a0 != 95) = false := bne_eq_false_iff_eq.mpr c42; clear c42; obtain rfl := Option.some.inj H
        go_enter Try.func90, Try.ntmps90
        go_wp2
        go_ret
        exact ⟨Zq6, Zq11⟩
       ·rw [if_neg c42] at H; have c42b0 : (a0 == 95) = false := beq_eq_false_iff_ne.mpr c42; have c42b1 : (a0 != 95) = true := bne_iff_ne.mpr c42
        by_cases c43 : a0 = 43
        ·rw [if_pos c43] at H; have c43b0 : (a0 == 43) = true := beq_iff_eq.mpr c43; have c43b1 : (a0 != 43) = false := bne_eq_false_iff_eq.mpr c43; clear c43; obtain rfl := Option.some.inj H
         go_enter Try.func90, Try.ntmps90
         go_wp2
         go_ret
         exact ⟨Zq6, Zq11⟩
        ·rw [if_neg c43] at H; have c43b0 : (a0 == 43) = false := beq_eq_false_iff_ne.mpr c43; have c43b1 : (a0 != 43) = true := bne_iff_ne.mpr c43; obtain rfl := Option.some.inj H
         go_enter Try.func90, Try.ntmps90
         go_wp2
         go_ret
         exact ⟨Zq6, Zq11⟩
   ·rw [if_neg c38] at H; have c38b0 : decide (65 ≤ a0) = false := decide_eq_false c38; clear c38
    by_cases c44 : a0 = 44
    ·rw [if_pos c44] at H; have c44b0 : (a0 == 44) = true := beq_iff_eq.mpr c44; have c44b1 : (a0 != 44) = false := bne_eq_false_iff_eq.mpr c44; clear c44; obtain rfl := Option.some.inj H
     go_enter Try.func90, Try.ntmps90
     go_wp2
     go_ret
     exact ⟨Zq6, Zq11⟩
    ·rw [if_neg c44] at H; have c44b0 : (a0 == 44) = false := beq_eq_false_iff_ne.mpr c44; have c44b1 : (a0 != 44) = true := bne_iff_ne.mpr c44
     by_cases c45 : a0 = 46
     ·rw [if_pos c45] at H; have c45b0 : (a0 == 46) = true := beq_iff_eq.mpr c45; have c45b1 : (a0 != 46) = false := bne_eq_false_iff_eq.mpr c45; clear c45; obtain rfl := Option.some.inj H
      go_enter Try.func90, Try.ntmps90
      go_wp2
      go_ret
      exact ⟨Zq6, Zq11⟩
     ·rw [if_neg c45] at H; have c45b0 : (a0 == 46) = false := beq_eq_false_iff_ne.mpr c45; have c45b1 : (a0 != 46) = true := bne_iff_ne.mpr c45
      by_cases c46 : a0 = 95
      ·rw [if_pos c46] at H; have c46b0 : (a0 == 95) = true := beq_iff_eq.mpr c46; have c46b1 : (a0 != 95) = false := bne_eq_false_iff_eq.mpr c46; clear c46; obtain rfl := Option.some.inj H
       go_enter Try.func90, Try.ntmps90
       go_wp2
       go_ret
       exact ⟨Zq6, Zq11⟩
      ·rw [if_neg c46] at H; have c46b0 : (a0 == 95) = false := beq_eq_false_iff_ne.mpr c46; have c46b1 : (a0 != 95) = true := bne_iff_ne.mpr c46
       by_cases c47 : a0 = 43
       ·rw [if_pos c47] at H; have c47b0 : (a0 == 43) = true := beq_iff_eq.mpr c47; have c47b1 : (a0 != 43) = false := bne_eq_false_iff_eq.mpr c47; clear c47; obtain rfl := Option.some.inj H
        go_enter Try.func90, Try.ntmps90
        go_wp2
        go_ret
        exact ⟨Zq6, Zq11⟩
       ·rw [if_neg c47] at H; have c47b0 : (a0 == 43) = false := beq_eq_false_iff_ne.mpr c47; have c47b1 : (a0 != 43) = true := bne_iff_ne.mpr c47; obtain rfl := Option.some.inj H
        go_enter Try.func90, Try.ntmps90
        go_wp2
        go_ret
        exact ⟨Zq6, Zq11⟩
mutual
def arboretref01_Node.j0 : Nat → ByteArray → Int → ByteArray → Option (Bool)
 | 0, _, _, _ => none
 | k + 1, x0, x3, x4 => arboretref01_Node.l0 k x0 x3 x4 (x0.size : Int) 0
def arboretref01_Node.l0 : Nat → ByteArray → Int → ByteArray → Int → Int → Option (Bool)
 | 0, _, _, _, _, _ => none
 | k + 1, x0, x3, x4, x29, x30 => if x30 < x29 then (if x30 = x3 then (arboretref01_Node.l0 k x0 x3 x4 x29 (wrap64 (x30 + 1))) else (if 0 ≤ x30 then (if x30 < (x0.size : Int) then ((arboretref01_stands.f (bt x0 x30)).bind fun teP => (if teP = true then (arboretref01_Node.l0 k x0 x3 x4 x29 (wrap64 (x30 + 1))) else (some false))) else (none)) else (none))) else (if (x4.size : Int) ≥ 1 then (if (x4.size : Int) ≤ 31 then (if 0 < (x4.size : Int) then (if (bt x4 0) = 95 then (some true) else (if (bt x4 0) ≥ 97 then (if (bt x4 0) ≤ 122 then (some true) else (if (bt x4 0) ≥ 65 then (some (decide ((bt x4 0) ≤ 90))) else (some false))) else (if (bt x4 0) ≥ 65 then (some (decide ((bt x4 0) ≤ 90))) else (some false)))) else (none)) else (some false)) else (some false))
end
def arboretref01_Node.f (k : Nat) (a0 : ByteArray) : Option (Bool) := (arboretref01_Cut.f k a0).bind fun tbd => (if tbd ≥ 0 then (if 0 ≤ tbd then (if tbd ≤ (a0.size : Int) then (if (wrap64 ((wrap64 ((a0.size : Int) - tbd)) - 1)) < 1 then (some false) else (if (wrap64 ((wrap64 ((a0.size : Int) - tbd)) - 1)) > 31 then (some false) else (arboretref01_Node.j0 k a0 tbd (a0.extract 0 (tbd : Int).toNat)))) else (none)) else (none)) else (arboretref01_Node.j0 k a0 tbd a0))
set_option maxHeartbeats 8000000 in
set_option maxRecDepth 100000 in
theorem arboretref01_Node.calls (k : Nat) (a0 : ByteArray) (r : Bool) (w : World) (h : arboretref01_Node.f k a0 = some r) :
  Calls Try.prog 74 #[.string a0] w fun e w' => e = .returned (.bool r) ∧ Drawn0 w w' := by
 have H : ((arboretref01_Cut.f k a0).bind fun tbd => (if tbd ≥ 0 then (if 0 ≤ tbd then (if tbd ≤ (a0.size : Int) then (if (wrap64 ((wrap64 ((a0.size : Int) - tbd)) - 1)) < 1 then (some false) else (if (wrap64 ((wrap64 ((a0.size : Int) - tbd)) - 1)) > 31 then (some false) else (arboretref01_Node.j0 k a0 tbd (a0.extract 0 (tbd : Int).toNat)))) else (none)) else (none)) else (arboretref01_Node.j0 k a0 tbd a0))) = some r := h; clear h; replace H := Option.bind_eq_some_iff.mp H; obtain ⟨tbd, A20, H⟩ := H; replace H : (if tbd ≥ 0 then (if 0 ≤ tbd then (if tbd ≤ (a0.size : Int) then (if (wrap64 ((wrap64 ((a0.size : Int) - tbd)) - 1)) < 1 then (some false) else (if (wrap64 ((wrap64 ((a0.size : Int) - tbd)) - 1)) > 31 then (some false) else (arboretref01_Node.j0 k a0 tbd (a0.extract 0 (tbd : Int).toNat)))) else (none)) else (none)) else (arboretref01_Node.j0 k a0 tbd a0)) = some r := H; have A2 := Ak A20; clear A20; have HC3 := Ak H; clear H
 go_enter Try.func74, Try.ntmps74
 go_upto_if 10 with (first | ((with_reducible refine gate_callee (f := 14) rfl ?_); refine goesL_ (some 7) rfl rfl Try.func14 Zq2 rfl #[.string a0] rfl Zq9 ?_; (with_reducible refine (arboretref01_Cut.calls k a0 tbd _ A2.out).mono ?_); rintro e w' ⟨rfl, ⟨nd, rfl⟩⟩; refine ⟨_, rfl, ?_⟩))
 (try simp only [Act.put, List.setIfInBounds_toArray, List.set_cons_zero, List.set_cons_succ])
 go_cut [4] (fun v4 wc => ∃ (kq : Nat) (x4_2 : ByteArray), v4 = .string x4_2 ∧ Aside0 (arboretref01_Node.j0 kq a0 tbd x4_2 = some r) ∧ Aside0 (kq ≤ k) ∧ Drawn0 w wc)
 case first =>
  have H := HC3.out; clear HC3
  by_cases c4 : tbd ≥ 0
  ·rw [if_pos c4] at H; have c4b0 : decide (0 ≤ tbd) = true := decide_eq_true c4; clear c4
   (first | rw [c4b0] | (simp only [i64_w, i32_w]; rw [c4b0]) | skip)
   by_cases c5 : 0 ≤ tbd
   ·rw [if_pos c5] at H; have c5b0 := eq_true c5; have c5b1 : decide (0 ≤ tbd) = true := decide_eq_true c5; clear c5
    by_cases c6 : tbd ≤ (a0.size : Int)
    ·rw [if_pos c6] at H; have c6b0 := eq_true c6; have c6b1 : decide (tbd ≤ (a0.size : Int)) = true := decide_eq_true c6; clear c6
     by_cases c7 : (wrap64 ((wrap64 ((a0.size : Int) - tbd)) - 1)) < 1
     ·rw [if_pos c7] at H; have c7b0 : decide ((wrap64 ((wrap64 ((a0.size : Int) - tbd)) - 1)) < 1) = true := decide_eq_true c7; clear c7; obtain rfl := Option.some.inj H
      go_wp2
      go_ret
      exact ⟨Zq6, Zq11⟩
     ·rw [if_neg c7] at H; have c7b0 : decide ((wrap64 ((wrap64 ((a0.size : Int) - tbd)) - 1)) < 1) = false := decide_eq_false c7; clear c7
      by_cases c8 : (wrap64 ((wrap64 ((a0.size : Int) - tbd)) - 1)) > 31
      ·rw [if_pos c8] at H; have c8b0 : decide (31 < (wrap64 ((wrap64 ((a0.size : Int) - tbd)) - 1))) = true := decide_eq_true c8; clear c8; obtain rfl := Option.some.inj H
       go_wp2
       go_ret
       exact ⟨Zq6, Zq11⟩
      ·rw [if_neg c8] at H; have c8b0 : decide (31 < (wrap64 ((wrap64 ((a0.size : Int) - tbd)) - 1))) = false := decide_eq_false c8; clear c8; have H' := Ak H; clear H
       go_wp2
       go_meet
       case rel => exact ⟨_, (a0.extract 0 (tbd : Int).toNat), Zq6, H', ⟨Zq13⟩, Zq11⟩
    ·rw [if_neg c6] at H; exact absurd H Zq8
   ·rw [if_neg c5] at H; exact absurd H Zq8
  ·rw [if_neg c4] at H; have c4b0 : decide (0 ≤ tbd) = false := decide_eq_false c4; clear c4
   (first | rw [c4b0] | (simp only [i64_w, i32_w]; rw [c4b0]) | skip)
   have H' := Ak H; clear H
   go_wp2
   go_meet
   case rel => exact ⟨_, (a0), Zq6, H', ⟨Zq13⟩, Zq11⟩
 case rest =>
  clear HC3
  try clear c1
  try clear p2
  try clear c4
  try clear c4b0
  try clear c5
  try clear c5b0
  try clear c5b1
  try clear c6
  try clear c6b0
  try clear c6b1
  try clear p6
  try clear c7
  try clear c7b0
  try clear c8
  try clear c8b0
  obtain ⟨kq, x4_2, rfl, HA, HJ2, ⟨mc2, rfl⟩⟩ := hcut
  cases kq with
  | zero => exact absurd HA.out (by simp [arboretref01_Node.j0])
  | succ kj2 =>
   have H := HA.out; clear HA; simp only [arboretref01_Node.j0] at H; have H' := Ak H; clear H
   go_wp2
   go_loopg [30] kj2 (fun kq v30 w' => ∃ (x30_2 : Int), v30 = .int .i64 x30_2 ∧ Aside0 (arboretref01_Node.l0 kq a0 tbd x4_2 (a0.size : Int) x30_2 = some r) ∧ Aside0 (kq ≤ kj2) ∧ Drawn0 w w')
   case atStart => exact ⟨(0), Zq6, H', ⟨Nat.le_refl _⟩, Zq11⟩
   case round =>
    clear H'
    try clear c1
    try clear c2
    try clear p2
    try clear c4
    try clear c4b0
    try clear c5
    try clear c5b0
    try clear c5b1
    try clear c6
    try clear c6b0
    try clear c6b1
    try clear p6
    try clear c7
    try clear c7b0
    try clear c8
    try clear c8b0
    try clear p2
    try clear p6
    obtain ⟨x30_2, rfl, HA, HK2, ⟨m2, rfl⟩⟩ := hrel
    cases gk with
    | zero => exact absurd HA.out (by simp [arboretref01_Node.l0])
    | succ k2 =>
     have H := HA.out; clear HA; simp only [arboretref01_Node.l0] at H
     by_cases c9 : x30_2 < (a0.size : Int)
     ·rw [if_pos c9] at H; have c9b0 : decide (x30_2 < (a0.size : Int)) = true := decide_eq_true c9; clear c9
      by_cases c10 : x30_2 = tbd
      ·rw [if_pos c10] at H; have c10b0 : (x30_2 == tbd) = true := beq_iff_eq.mpr c10; have c10b1 : (x30_2 != tbd) = false := bne_eq_false_iff_eq.mpr c10; clear c10; have H' := Ak H; clear H
       go_wp2
       go_roundg k2
       case measure => have := HJ2.out; have := HK2.out; omega
       case rel => exact ⟨(wrap64 (x30_2 + 1)), Zq6, H', ⟨by have := HJ2.out; have := HK2.out; omega⟩, Zq11⟩
      ·rw [if_neg c10] at H; have c10b0 : (x30_2 == tbd) = false := beq_eq_false_iff_ne.mpr c10; have c10b1 : (x30_2 != tbd) = true := bne_iff_ne.mpr c10
       by_cases c11 : 0 ≤ x30_2
       ·rw [if_pos c11] at H; have c11b0 : decide (0 ≤ x30_2) = true := decide_eq_true c11; clear c11
        by_cases c12 : x30_2 < (a0.size : Int)
        ·rw [if_pos c12] at H; have c12b0 : decide (x30_2 < (a0.size : Int)) = true := decide_eq_true c12; clear c12; replace H := Option.bind_eq_some_iff.mp H; obtain ⟨teP, Aay, H⟩ := H; replace H : (if teP = true then (arboretref01_Node.l0 k2 a0 tbd x4_2 (a0.size : Int) (wrap64 (x30_2 + 1))) else (some false)) = some r := H; have A14 := Ak Aay; clear Aay
         by_cases c15 : teP = true
         ·subst c15
          have H1 : (arboretref01_Node.l0 k2 a0 tbd x4_2 (a0.size : Int) (wrap64 (x30_2 + 1))) = some r := by rw [if_pos rfl] at H; exact H
          clear H; have H := H1; clear H1; have H' := Ak H; clear H; have p13 : 0 ≤ (x30_2 : Int) := of_decide_eq_true Zq4; have q13 : x30_2 < (a0.size : Int) := of_decide_eq_true Zq4; have hx13 := bt_at a0 x30_2; replace p13 := eq_true p13; replace q13 := eq_true q13
          go_wp2_with (first | (go_at_call 90; (with_reducible refine (arboretref01_stands.calls (bt a0 x30_2) true _ A14.out).mono ?_); rintro e w' ⟨rfl, ⟨nd, rfl⟩⟩))
          go_roundg k2
          case measure => have := HJ2.out; have := HK2.out; omega
          case rel => exact ⟨(wrap64 (x30_2 + 1)), Zq6, H', ⟨by have := HJ2.out; have := HK2.out; omega⟩, Zq11⟩
         ·replace c15 := Bool.eq_false_iff.mpr c15; subst c15
          have H1 : (some false) = some r := by rw [if_neg (show ¬ (false = true) by decide)] at H; exact H
          clear H; have H := H1; clear H1; obtain rfl := Option.some.inj H; have p13 : 0 ≤ (x30_2 : Int) := of_decide_eq_true Zq4; have q13 : x30_2 < (a0.size : Int) := of_decide_eq_true Zq4; have hx13 := bt_at a0 x30_2; replace p13 := eq_true p13; replace q13 := eq_true q13
          go_wp2_with (first | (go_at_call 90; (with_reducible refine (arboretref01_stands.calls (bt a0 x30_2) false _ A14.out).mono ?_); rintro e w' ⟨rfl, ⟨nd, rfl⟩⟩))
          go_ret
          exact ⟨Zq6, Zq11⟩
        ·rw [if_neg c12] at H; exact absurd H Zq8
       ·rw [if_neg c11] at H; exact absurd H Zq8
     ·rw [if_neg c9] at H; have c9b0 : decide (x30_2 < (a0.size : Int)) = false := decide_eq_false c9; clear c9
      by_cases c16 : (x4_2.size : Int) ≥ 1
      ·rw [if_pos c16] at H; have c16b0 : decide (1 ≤ (x4_2.size : Int)) = true := decide_eq_true c16; have c16b1 : decide (1 ≤ x4_2.size) = true := decide_eq_true Zq1; clear c16
       by_cases c17 : (x4_2.size : Int) ≤ 31
       ·rw [if_pos c17] at H; have c17b0 : decide ((x4_2.size : Int) ≤ 31) = true := decide_eq_true c17; have c17b1 : decide (x4_2.size ≤ 31) = true := decide_eq_true Zq1; clear c17
        by_cases c18 : 0 < (x4_2.size : Int)
        ·rw [if_pos c18] at H; have c18b0 : decide (0 < (x4_2.size : Int)) = true := decide_eq_true c18; have c18b1 : decide (0 < x4_2.size) = true := decide_eq_true Zq1; clear c18
         by_cases c20 : (bt x4_2 0) = 95
         ·rw [if_pos c20] at H; have c20b0 : ((bt x4_2 0) == 95) = true := beq_iff_eq.mpr c20; have c20b1 : ((bt x4_2 0) != 95) = false := bne_eq_false_iff_eq.mpr c20; clear c20; obtain rfl := Option.some.inj H; have p19 : 0 ≤ (0 : Int) := Zq1
          have q19 : 0 < x4_2.size := (by have : (0 : Int) < (x4_2.size : Int) := of_decide_eq_true Zq4; omega)
          have hx19 : ∀ h : 0 < x4_2.size, ((x4_2[0]'h).toNat : Int) = bt x4_2 0 := bt_at x4_2 0; clear p19; have qi19 : (0 < (x4_2.size : Int)) = True := eq_true (of_decide_eq_true Zq4); replace q19 := eq_true q19
          go_wp2
          go_ret
          exact ⟨Zq6, Zq11⟩
         ·rw [if_neg c20] at H; have c20b0 : ((bt x4_2 0) == 95) = false := beq_eq_false_iff_ne.mpr c20; have c20b1 : ((bt x4_2 0) != 95) = true := bne_iff_ne.mpr c20
          by_cases c22 : (bt x4_2 0) ≥ 97
          ·rw [if_pos c22] at H; have c22b0 : decide (97 ≤ (bt x4_2 0)) = true := decide_eq_true c22; clear c22
           by_cases c24 : (bt x4_2 0) ≤ 122
           ·rw [if_pos c24] at H; have c24b0 : decide ((bt x4_2 0) ≤ 122) = true := decide_eq_true c24; clear c24; obtain rfl := Option.some.inj H; have p19 : 0 ≤ (0 : Int) := Zq1
            have q19 : 0 < x4_2.size := (by have : (0 : Int) < (x4_2.size : Int) := of_decide_eq_true Zq4; omega)
            have hx19 : ∀ h : 0 < x4_2.size, ((x4_2[0]'h).toNat : Int) = bt x4_2 0 := bt_at x4_2 0; clear p19; have qi19 : (0 < (x4_2.size : Int)) = True := eq_true (of_decide_eq_true Zq4); replace q19 := eq_true q19; have p21 : 0 ≤ (0 : Int) := Zq1
            have q21 : 0 < x4_2.size := (by have : (0 : Int) < (x4_2.size : Int) := of_decide_eq_true Zq4; omega)
            have hx21 : ∀ h : 0 < x4_2.size, ((x4_2[0]'h).toNat : Int) = bt x4_2 0 := bt_at x4_2 0; clear p21; have qi21 : (0 < (x4_2.size : Int)) = True := eq_true (of_decide_eq_true Zq4); replace q21 := eq_true q21; have p23 : 0 ≤ (0 : Int) := Zq1
            have q23 : 0 < x4_2.size := (by have : (0 : Int) < (x4_2.size : Int) := of_decide_eq_true Zq4; omega)
            have hx23 : ∀ h : 0 < x4_2.size, ((x4_2[0]'h).toNat : Int) = bt x4_2 0 := bt_at x4_2 0; clear p23; have qi23 : (0 < (x4_2.size : Int)) = True := eq_true (of_decide_eq_true Zq4); replace q23 := eq_true q23
            go_wp2
            go_ret
            exact ⟨Zq6, Zq11⟩
           ·rw [if_neg c24] at H; have c24b0 : decide ((bt x4_2 0) ≤ 122) = false := decide_eq_false c24; clear c24
            by_cases c26 : (bt x4_2 0) ≥ 65
            ·rw [if_pos c26] at H; have c26b0 : decide (65 ≤ (bt x4_2 0)) = true := decide_eq_true c26; clear c26; obtain rfl := Option.some.inj H; have p19 : 0 ≤ (0 : Int) := Zq1
             have q19 : 0 < x4_2.size := (by have : (0 : Int) < (x4_2.size : Int) := of_decide_eq_true Zq4; omega)
             have hx19 : ∀ h : 0 < x4_2.size, ((x4_2[0]'h).toNat : Int) = bt x4_2 0 := bt_at x4_2 0; clear p19; have qi19 : (0 < (x4_2.size : Int)) = True := eq_true (of_decide_eq_true Zq4); replace q19 := eq_true q19; have p21 : 0 ≤ (0 : Int) := Zq1
             have q21 : 0 < x4_2.size := (by have : (0 : Int) < (x4_2.size : Int) := of_decide_eq_true Zq4; omega)
             have hx21 : ∀ h : 0 < x4_2.size, ((x4_2[0]'h).toNat : Int) = bt x4_2 0 := bt_at x4_2 0; clear p21; have qi21 : (0 < (x4_2.size : Int)) = True := eq_true (of_decide_eq_true Zq4); replace q21 := eq_true q21; have p23 : 0 ≤ (0 : Int) := Zq1
             have q23 : 0 < x4_2.size := (by have : (0 : Int) < (x4_2.size : Int) := of_decide_eq_true Zq4; omega)
             have hx23 : ∀ h : 0 < x4_2.size, ((x4_2[0]'h).toNat : Int) = bt x4_2 0 := bt_at x4_2 0; clear p23; have qi23 : (0 < (x4_2.size : Int)) = True := eq_true (of_decide_eq_true Zq4); replace q23 := eq_true q23; have p25 : 0 ≤ (0 : Int) := Zq1
             have q25 : 0 < x4_2.size := (by have : (0 : Int) < (x4_2.size : Int) := of_decide_eq_true Zq4; omega)
             have hx25 : ∀ h : 0 < x4_2.size, ((x4_2[0]'h).toNat : Int) = bt x4_2 0 := bt_at x4_2 0; clear p25; have qi25 : (0 < (x4_2.size : Int)) = True := eq_true (of_decide_eq_true Zq4); replace q25 := eq_true q25; have p27 : 0 ≤ (0 : Int) := Zq1
             have q27 : 0 < x4_2.size := (by have : (0 : Int) < (x4_2.size : Int) := of_decide_eq_true Zq4; omega)
             have hx27 : ∀ h : 0 < x4_2.size, ((x4_2[0]'h).toNat : Int) = bt x4_2 0 := bt_at x4_2 0; clear p27; have qi27 : (0 < (x4_2.size : Int)) = True := eq_true (of_decide_eq_true Zq4); replace q27 := eq_true q27
             go_wp2
             go_ret
             exact ⟨Zq6, Zq11⟩
            ·rw [if_neg c26] at H; have c26b0 : decide (65 ≤ (bt x4_2 0)) = false := decide_eq_false c26; clear c26; obtain rfl := Option.some.inj H; have p19 : 0 ≤ (0 : Int) := Zq1
             have q19 : 0 < x4_2.size := (by have : (0 : Int) < (x4_2.size : Int) := of_decide_eq_true Zq4; omega)
             have hx19 : ∀ h : 0 < x4_2.size, ((x4_2[0]'h).toNat : Int) = bt x4_2 0 := bt_at x4_2 0; clear p19; have qi19 : (0 < (x4_2.size : Int)) = True := eq_true (of_decide_eq_true Zq4); replace q19 := eq_true q19; have p21 : 0 ≤ (0 : Int) := Zq1
             have q21 : 0 < x4_2.size := (by have : (0 : Int) < (x4_2.size : Int) := of_decide_eq_true Zq4; omega)
             have hx21 : ∀ h : 0 < x4_2.size, ((x4_2[0]'h).toNat : Int) = bt x4_2 0 := bt_at x4_2 0; clear p21; have qi21 : (0 < (x4_2.size : Int)) = True := eq_true (of_decide_eq_true Zq4); replace q21 := eq_true q21; have p23 : 0 ≤ (0 : Int) := Zq1
             have q23 : 0 < x4_2.size := (by have : (0 : Int) < (x4_2.size : Int) := of_decide_eq_true Zq4; omega)
             have hx23 : ∀ h : 0 < x4_2.size, ((x4_2[0]'h).toNat : Int) = bt x4_2 0 := bt_at x4_2 0; clear p23; have qi23 : (0 < (x4_2.size : Int)) = True := eq_true (of_decide_eq_true Zq4); replace q23 := eq_true q23; have p25 : 0 ≤ (0 : Int) := Zq1
             have q25 : 0 < x4_2.size := (by have : (0 : Int) < (x4_2.size : Int) := of_decide_eq_true Zq4; omega)
             have hx25 : ∀ h : 0 < x4_2.size, ((x4_2[0]'h).toNat : Int) = bt x4_2 0 := bt_at x4_2 0; clear p25; have qi25 : (0 < (x4_2.size : Int)) = True := eq_true (of_decide_eq_true Zq4); replace q25 := eq_true q25
             go_wp2
             go_ret
             exact ⟨Zq6, Zq11⟩
          ·rw [if_neg c22] at H; have c22b0 : decide (97 ≤ (bt x4_2 0)) = false := decide_eq_false c22; clear c22
           by_cases c29 : (bt x4_2 0) ≥ 65
           ·rw [if_pos c29] at H; have c29b0 : decide (65 ≤ (bt x4_2 0)) = true := decide_eq_true c29; clear c29; obtain rfl := Option.some.inj H; have p19 : 0 ≤ (0 : Int) := Zq1
            have q19 : 0 < x4_2.size := (by have : (0 : Int) < (x4_2.size : Int) := of_decide_eq_true Zq4; omega)
            have hx19 : ∀ h : 0 < x4_2.size, ((x4_2[0]'h).toNat : Int) = bt x4_2 0 := bt_at x4_2 0; clear p19; have qi19 : (0 < (x4_2.size : Int)) = True := eq_true (of_decide_eq_true Zq4); replace q19 := eq_true q19; have p21 : 0 ≤ (0 : Int) := Zq1
            have q21 : 0 < x4_2.size := (by have : (0 : Int) < (x4_2.size : Int) := of_decide_eq_true Zq4; omega)
            have hx21 : ∀ h : 0 < x4_2.size, ((x4_2[0]'h).toNat : Int) = bt x4_2 0 := bt_at x4_2 0; clear p21; have qi21 : (0 < (x4_2.size : Int)) = True := eq_true (of_decide_eq_true Zq4); replace q21 := eq_true q21; have p28 : 0 ≤ (0 : Int) := Zq1
            have q28 : 0 < x4_2.size := (by have : (0 : Int) < (x4_2.size : Int) := of_decide_eq_true Zq4; omega)
            have hx28 : ∀ h : 0 < x4_2.size, ((x4_2[0]'h).toNat : Int) = bt x4_2 0 := bt_at x4_2 0; clear p28; have qi28 : (0 < (x4_2.size : Int)) = True := eq_true (of_decide_eq_true Zq4); replace q28 := eq_true q28; have p30 : 0 ≤ (0 : Int) := Zq1
            have q30 : 0 < x4_2.size := (by have : (0 : Int) < (x4_2.size : Int) := of_decide_eq_true Zq4; omega)
            have hx30 : ∀ h : 0 < x4_2.size, ((x4_2[0]'h).toNat : Int) = bt x4_2 0 := bt_at x4_2 0; clear p30; have qi30 : (0 < (x4_2.size : Int)) = True := eq_true (of_decide_eq_true Zq4); replace q30 := eq_true q30
            go_wp2
            go_ret
            exact ⟨Zq6, Zq11⟩
           ·rw [if_neg c29] at H; have c29b0 : decide (65 ≤ (bt x4_2 0)) = false := decide_eq_false c29; clear c29; obtain rfl := Option.some.inj H; have p19 : 0 ≤ (0 : Int) := Zq1
            have q19 : 0 < x4_2.size := (by have : (0 : Int) < (x4_2.size : Int) := of_decide_eq_true Zq4; omega)
            have hx19 : ∀ h : 0 < x4_2.size, ((x4_2[0]'h).toNat : Int) = bt x4_2 0 := bt_at x4_2 0; clear p19; have qi19 : (0 < (x4_2.size : Int)) = True := eq_true (of_decide_eq_true Zq4); replace q19 := eq_true q19; have p21 : 0 ≤ (0 : Int) := Zq1
            have q21 : 0 < x4_2.size := (by have : (0 : Int) < (x4_2.size : Int) := of_decide_eq_true Zq4; omega)
            have hx21 : ∀ h : 0 < x4_2.size, ((x4_2[0]'h).toNat : Int) = bt x4_2 0 := bt_at x4_2 0; clear p21; have qi21 : (0 < (x4_2.size : Int)) = True := eq_true (of_decide_eq_true Zq4); replace q21 := eq_true q21; have p28 : 0 ≤ (0 : Int) := Zq1
            have q28 : 0 < x4_2.size := (by have : (0 : Int) < (x4_2.size : Int) := of_decide_eq_true Zq4; omega)
            have hx28 : ∀ h : 0 < x4_2.size, ((x4_2[0]'h).toNat : Int) = bt x4_2 0 := bt_at x4_2 0; clear p28; have qi28 : (0 < (x4_2.size : Int)) = True := eq_true (of_decide_eq_true Zq4); replace q28 := eq_true q28
            go_wp2
            go_ret
            exact ⟨Zq6, Zq11⟩
        ·rw [if_neg c18] at H; exact absurd H Zq8
       ·rw [if_neg c17] at H; have c17b0 : decide ((x4_2.size : Int) ≤ 31) = false := decide_eq_false c17; have c17b1 : decide (x4_2.size ≤ 31) = false := decide_eq_false Zq1; clear c17; obtain rfl := Option.some.inj H
        go_wp2
        go_ret
        exact ⟨Zq6, Zq11⟩
      ·rw [if_neg c16] at H; have c16b0 : decide (1 ≤ (x4_2.size : Int)) = false := decide_eq_false c16; have c16b1 : decide (1 ≤ x4_2.size) = false := decide_eq_false Zq1; clear c16; obtain rfl := Option.some.inj H
       go_wp2
       go_ret
       exact ⟨Zq6, Zq11⟩
def arboretref01_Prop.l0 : Nat → ByteArray → Int → Int → Option (Bool)
 | 0, _, _, _ => none
 | k + 1, x0, x5, x6 => if x6 < x5 then (if 0 ≤ x6 then (if x6 < (x0.size : Int) then ((arboretref01_stands.f (bt x0 x6)).bind fun teQ => (if teQ = true then (arboretref01_Prop.l0 k x0 x5 (wrap64 (x6 + 1))) else (if (bt x0 x6) = 63 then (arboretref01_Prop.l0 k x0 x5 (wrap64 (x6 + 1))) else (if (bt x0 x6) = 35 then (arboretref01_Prop.l0 k x0 x5 (wrap64 (x6 + 1))) else (some false))))) else (none)) else (none)) else (if (x0.size : Int) ≥ 1 then (some (decide ((x0.size : Int) ≤ 31))) else (some false))
def arboretref01_Prop.f (k : Nat) (a0 : ByteArray) : Option (Bool) := arboretref01_Prop.l0 k a0 (a0.size : Int) 0
set_option maxHeartbeats 8000000 in
set_option maxRecDepth 100000 in
theorem arboretref01_Prop.calls (k : Nat) (a0 : ByteArray) (r : Bool) (w : World) (h : arboretref01_Prop.f k a0 = some r) :
  Calls Try.prog 75 #[.string a0] w fun e w' => e = .returned (.bool r) ∧ Drawn0 w w' := by
 have H : (arboretref01_Prop.l0 k a0 (a0.size : Int) 0) = some r := h; clear h; have H' := Ak H; clear H
 go_enter Try.func75, Try.ntmps75
 go_wp2
 go_loopg [6] k (fun kq v6 w' => ∃ (x6_1 : Int), v6 = .int .i64 x6_1 ∧ Aside0 (arboretref01_Prop.l0 kq a0 (a0.size : Int) x6_1 = some r) ∧ Aside0 (kq ≤ k) ∧ Drawn0 w w')
 case atStart => exact ⟨(0), Zq6, H', ⟨Nat.le_refl _⟩, Zq11⟩
 case round =>
  clear H'; obtain ⟨x6_1, rfl, HA, HK1, ⟨m1, rfl⟩⟩ := hrel
  cases gk with
  | zero => exact absurd HA.out (by simp [arboretref01_Prop.l0])
  | succ k1 =>
   have H := HA.out; clear HA; simp only [arboretref01_Prop.l0] at H
   by_cases c2 : x6_1 < (a0.size : Int)
   ·rw [if_pos c2] at H; have c2b0 : decide (x6_1 < (a0.size : Int)) = true := decide_eq_true c2; clear c2
    by_cases c3 : 0 ≤ x6_1
    ·rw [if_pos c3] at H; have c3b0 : decide (0 ≤ x6_1) = true := decide_eq_true c3; clear c3
     by_cases c4 : x6_1 < (a0.size : Int)
     ·rw [if_pos c4] at H; have c4b0 : decide (x6_1 < (a0.size : Int)) = true := decide_eq_true c4; clear c4; replace H := Option.bind_eq_some_iff.mp H; obtain ⟨teQ, A60, H⟩ := H; replace H : (if teQ = true then (arboretref01_Prop.l0 k1 a0 (a0.size : Int) (wrap64 (x6_1 + 1))) else (if (bt a0 x6_1) = 63 then (arboretref01_Prop.l0 k1 a0 (a0.size : Int) (wrap64 (x6_1 + 1))) else (if (bt a0 x6_1) = 35 then (arboretref01_Prop.l0 k1 a0 (a0.size : Int) (wrap64 (x6_1 + 1))) else (some false)))) = some r := H; have A6 := Ak A60; clear A60
      by_cases c7 : teQ = true
      ·subst c7
       have H1 : (arboretref01_Prop.l0 k1 a0 (a0.size : Int) (wrap64 (x6_1 + 1))) = some r := by rw [if_pos rfl] at H; exact H
       clear H; have H := H1; clear H1; have H' := Ak H; clear H; have p5 : 0 ≤ (x6_1 : Int) := of_decide_eq_true Zq4; have q5 : x6_1 < (a0.size : Int) := of_decide_eq_true Zq4; have hx5 := bt_at a0 x6_1; replace p5 := eq_true p5; replace q5 := eq_true q5
       go_wp2_with (first | ((with_reducible refine gate_callee (f := 90) rfl ?_); refine goesL_ (some 12) rfl rfl Try.func90 Zq2 rfl #[.int .u8 (bt a0 x6_1)] rfl Zq9 ?_; (with_reducible refine (arboretref01_stands.calls (bt a0 x6_1) true _ A6.out).mono ?_); rintro e w' ⟨rfl, ⟨nd, rfl⟩⟩; refine ⟨_, rfl, ?_⟩))
       go_roundg k1
       case measure => have := HK1.out; omega
       case rel => exact ⟨(wrap64 (x6_1 + 1)), Zq6, H', ⟨Zq26⟩, Zq11⟩
      ·replace c7 := Bool.eq_false_iff.mpr c7; subst c7
       have H1 : (if (bt a0 x6_1) = 63 then (arboretref01_Prop.l0 k1 a0 (a0.size : Int) (wrap64 (x6_1 + 1))) else (if (bt a0 x6_1) = 35 then (arboretref01_Prop.l0 k1 a0 (a0.size : Int) (wrap64 (x6_1 + 1))) else (some false))) = some r := by rw [if_neg (show ¬ (false = true) by decide)] at H; exact H
       clear H; have H := H1; clear H1
       by_cases c9 : (bt a0 x6_1) = 63
       ·rw [if_pos c9] at H; have c9b0 : ((bt a0 x6_1) == 63) = true := beq_iff_eq.mpr c9; have c9b1 : ((bt a0 x6_1) != 63) = false := bne_eq_false_iff_eq.mpr c9; clear c9; have H' := Ak H; clear H; have p5 : 0 ≤ (x6_1 : Int) := of_decide_eq_true Zq4; have q5 : x6_1 < (a0.size : Int) := of_decide_eq_true Zq4; have hx5 := bt_at a0 x6_1; replace p5 := eq_true p5; replace q5 := eq_true q5
        go_wp2_with (first | ((with_reducible refine gate_callee (f := 90) rfl ?_); refine goesL_ (some 12) rfl rfl Try.func90 Zq2 rfl #[.int .u8 (bt a0 x6_1)] rfl Zq9 ?_; (with_reducible refine (arboretref01_stands.calls (bt a0 x6_1) false _ A6.out).mono ?_); rintro e w' ⟨rfl, ⟨nd, rfl⟩⟩; refine ⟨_, rfl, ?_⟩; have p8 : 0 ≤ (x6_1 : Int) := of_decide_eq_true Zq4; have q8 : x6_1 < (a0.size : Int) := of_decide_eq_true Zq4; have hx8 := bt_at a0 x6_1; replace p8 := eq_true p8; replace q8 := eq_true q8))
        go_roundg k1
        case measure => have := HK1.out; omega
        case rel => exact ⟨(wrap64 (x6_1 + 1)), Zq6, H', ⟨Zq26⟩, Zq11⟩
       ·rw [if_neg c9] at H; have c9b0 : ((bt a0 x6_1) == 63) = false := beq_eq_false_iff_ne.mpr c9; have c9b1 : ((bt a0 x6_1) != 63) = true := bne_iff_ne.mpr c9
        by_cases c11 : (bt a0 x6_1) = 35
        ·rw [if_pos c11] at H; have c11b0 : ((bt a0 x6_1) == 35) = true := beq_iff_eq.mpr c11; have c11b1 : ((bt a0 x6_1) != 35) = false := bne_eq_false_iff_eq.mpr c11; clear c11; have H' := Ak H; clear H; have p5 : 0 ≤ (x6_1 : Int) := of_decide_eq_true Zq4; have q5 : x6_1 < (a0.size : Int) := of_decide_eq_true Zq4; have hx5 := bt_at a0 x6_1; replace p5 := eq_true p5; replace q5 := eq_true q5
         go_wp2_with (first | ((with_reducible refine gate_callee (f := 90) rfl ?_); refine goesL_ (some 12) rfl rfl Try.func90 Zq2 rfl #[.int .u8 (bt a0 x6_1)] rfl Zq9 ?_; (with_reducible refine (arboretref01_stands.calls (bt a0 x6_1) false _ A6.out).mono ?_); rintro e w' ⟨rfl, ⟨nd, rfl⟩⟩; refine ⟨_, rfl, ?_⟩; have p8 : 0 ≤ (x6_1 : Int) := of_decide_eq_true Zq4; have q8 : x6_1 < (a0.size : Int) := of_decide_eq_true Zq4; have hx8 := bt_at a0 x6_1; replace p8 := eq_true p8; replace q8 := eq_true q8; have p10 : 0 ≤ (x6_1 : Int) := of_decide_eq_true Zq4; have q10 : x6_1 < (a0.size : Int) := of_decide_eq_true Zq4; have hx10 := bt_at a0 x6_1; replace p10 := eq_true p10; replace q10 := eq_true q10))
         go_roundg k1
         case measure => have := HK1.out; omega
         case rel => exact ⟨(wrap64 (x6_1 + 1)), Zq6, H', ⟨Zq26⟩, Zq11⟩
        ·rw [if_neg c11] at H; have c11b0 : ((bt a0 x6_1) == 35) = false := beq_eq_false_iff_ne.mpr c11; have c11b1 : ((bt a0 x6_1) != 35) = true := bne_iff_ne.mpr c11; obtain rfl := Option.some.inj H; have p5 : 0 ≤ (x6_1 : Int) := of_decide_eq_true Zq4; have q5 : x6_1 < (a0.size : Int) := of_decide_eq_true Zq4; have hx5 := bt_at a0 x6_1; replace p5 := eq_true p5; replace q5 := eq_true q5
         go_wp2_with (first | ((with_reducible refine gate_callee (f := 90) rfl ?_); refine goesL_ (some 12) rfl rfl Try.func90 Zq2 rfl #[.int .u8 (bt a0 x6_1)] rfl Zq9 ?_; (with_reducible refine (arboretref01_stands.calls (bt a0 x6_1) false _ A6.out).mono ?_); rintro e w' ⟨rfl, ⟨nd, rfl⟩⟩; refine ⟨_, rfl, ?_⟩; have p8 : 0 ≤ (x6_1 : Int) := of_decide_eq_true Zq4; have q8 : x6_1 < (a0.size : Int) := of_decide_eq_true Zq4; have hx8 := bt_at a0 x6_1; replace p8 := eq_true p8; replace q8 := eq_true q8; have p10 : 0 ≤ (x6_1 : Int) := of_decide_eq_true Zq4; have q10 : x6_1 < (a0.size : Int) := of_decide_eq_true Zq4; have hx10 := bt_at a0 x6_1; replace p10 := eq_true p10; replace q10 := eq_true q10))
         go_ret
         exact ⟨Zq6, Zq11⟩
     ·rw [if_neg c4] at H; exact absurd H Zq8
    ·rw [if_neg c3] at H; exact absurd H Zq8
   ·rw [if_neg c2] at H; have c2b0 : decide (x6_1 < (a0.size : Int)) = false := decide_eq_false c2; clear c2
    by_cases c12 : (a0.size : Int) ≥ 1
    ·rw [if_pos c12] at H; have c12b0 : decide (1 ≤ (a0.size : Int)) = true := decide_eq_true c12; have c12b1 : decide (1 ≤ a0.size) = true := decide_eq_true Zq1; clear c12; obtain rfl := Option.some.inj H
     go_wp2
     go_ret
     exact ⟨Zq6, Zq11⟩
    ·rw [if_neg c12] at H; have c12b0 : decide (1 ≤ (a0.size : Int)) = false := decide_eq_false c12; have c12b1 : decide (1 ≤ a0.size) = false := decide_eq_false Zq1; clear c12; obtain rfl := Option.some.inj H
     go_wp2
     go_ret
     exact ⟨Zq6, Zq11⟩
mutual
def arboretref01_wrong.j0 : Nat → Int → Bool → ByteArray → List (S77) → List (S30) → Option (Int)
 | 0, _, _, _, _, _ => none
 | k + 1, x1, x30, xcb, xbD, xbA => if x30 = true then (some 5) else (arboretref01_wrong.l0 k x1 (xbD.length : Int) 0 xcb xbD xbA)
def arboretref01_wrong.l0 : Nat → Int → Int → Int → ByteArray → List (S77) → List (S30) → Option (Int)
 | 0, _, _, _, _, _, _ => none
 | k + 1, x1, x33, x34, xcb, xbD, xbA => if x34 < x33 then (if 0 ≤ x34 then (if x34 < (xbD.length : Int) then ((arboretref01_Prop.f k ((rd_T77 xbD x34).f0)).bind fun teR => (if teR = true then (arboretref01_wrong.l0 k x1 x33 (wrap64 (x34 + 1)) xcb xbD xbA) else (some 5))) else (none)) else (none)) else (arboretref01_wrong.l1 k x1 (xbD.length : Int) 0 xcb xbD xbA)
def arboretref01_wrong.l1 : Nat → Int → Int → Int → ByteArray → List (S77) → List (S30) → Option (Int)
 | 0, _, _, _, _, _, _ => none
 | k + 1, x1, x48, x49, xcb, xbD, xbA => if x49 < x48 then (arboretref01_wrong.l2 k x1 x49 x48 x49 x49 0 xcb xbD xbA) else (arboretref01_wrong.l3 k x1 (xbA.length : Int) 0 xcb xbD xbA)
def arboretref01_wrong.l2 : Nat → Int → Int → Int → Int → Int → Int → ByteArray → List (S77) → List (S30) → Option (Int)
 | 0, _, _, _, _, _, _, _, _, _ => none
 | k + 1, x1, x6, x48, x49, x52, x53, xcb, xbD, xbA => if x53 < x52 then (if 0 ≤ x53 then (if x53 < (xbD.length : Int) then (if 0 ≤ x6 then (if x6 < (xbD.length : Int) then (if ((rd_T77 xbD x53).f0).toList = ((rd_T77 xbD x6).f0).toList then (some 9) else (arboretref01_wrong.l2 k x1 x6 x48 x49 x52 (wrap64 (x53 + 1)) xcb xbD xbA)) else (none)) else (none)) else (none)) else (none)) else (arboretref01_wrong.l1 k x1 x48 (wrap64 (x49 + 1)) xcb xbD xbA)
def arboretref01_wrong.l3 : Nat → Int → Int → Int → ByteArray → List (S77) → List (S30) → Option (Int)
 | 0, _, _, _, _, _, _ => none
 | k + 1, x1, x73, x74, xcb, xbD, xbA => if x74 < x73 then (arboretref01_wrong.l4 k x1 x74 x73 x74 x74 0 xcb xbD xbA) else (arboretref01_wrong.l5 k x1 (xbA.length : Int) 0 xcb xbD xbA)
def arboretref01_wrong.l4 : Nat → Int → Int → Int → Int → Int → Int → ByteArray → List (S77) → List (S30) → Option (Int)
 | 0, _, _, _, _, _, _, _, _, _ => none
 | k + 1, x1, x8, x73, x74, x77, x78, xcb, xbD, xbA => if x78 < x77 then (if 0 ≤ x78 then (if x78 < (xbA.length : Int) then (if 0 ≤ x8 then (if x8 < (xbA.length : Int) then (if ((rd_T30 xbA x78).f0).toList = ((rd_T30 xbA x8).f0).toList then (some 9) else (arboretref01_wrong.l4 k x1 x8 x73 x74 x77 (wrap64 (x78 + 1)) xcb xbD xbA)) else (none)) else (none)) else (none)) else (none)) else (arboretref01_wrong.l3 k x1 x73 (wrap64 (x74 + 1)) xcb xbD xbA)
def arboretref01_wrong.l5 : Nat → Int → Int → Int → ByteArray → List (S77) → List (S30) → Option (Int)
 | 0, _, _, _, _, _, _ => none
 | k + 1, x1, x98, x99, xcb, xbD, xbA => if x99 < x98 then (if 0 ≤ x99 then (if x99 < (xbA.length : Int) then ((arboretref01_wrong.f k ((rd_T30 xbA x99).f0) ((rd_T30 xbA x99).f1) ((rd_T30 xbA x99).f2) (wrap64 (x1 + 1))).bind fun tcj => (if tcj = 0 then (arboretref01_wrong.l5 k x1 x98 (wrap64 (x99 + 1)) xcb xbD xbA) else (some tcj))) else (none)) else (none)) else (some 0)
def arboretref01_wrong.f : Nat → ByteArray → List (S77) → List (S30) → Int → Option (Int)
 | 0, _, _, _, _ => none
 | k + 1, a0_0, l0_1, l0_2, a1 => if a1 > 16 then (some 6) else (if a1 = 1 then (if a0_0.toList = ([] : List UInt8) then (if a1 > 1 then ((arboretref01_Node.f k a0_0).bind fun tdt => (arboretref01_wrong.j0 k a1 (!tdt) a0_0 l0_1 l0_2)) else (arboretref01_wrong.j0 k a1 false a0_0 l0_1 l0_2)) else (arboretref01_wrong.j0 k a1 true a0_0 l0_1 l0_2)) else (if a1 > 1 then ((arboretref01_Node.f k a0_0).bind fun tdu => (arboretref01_wrong.j0 k a1 (!tdu) a0_0 l0_1 l0_2)) else (arboretref01_wrong.j0 k a1 false a0_0 l0_1 l0_2)))
end
end Go.Proofs.Yteejaaeglfpcmab.PX
