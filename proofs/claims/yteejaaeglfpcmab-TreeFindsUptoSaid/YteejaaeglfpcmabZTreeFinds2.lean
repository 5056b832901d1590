/- TreeFinds: texts of this session's, and what the kit's print laid for this seat, as far as the law's row uses them (PXx0, Rdr, PXKinds, Aid, PXx_arboretlaw03_Few, Tree, PXx_words_part, PXx_words_number, Num, PXx_prop_One, One, PureTreeFinds, LawTreeFinds). -/
import Derived.Test.YteejaaeglfpcmabZTreeFinds1
set_option linter.unusedVariables false
set_option linter.unusedSimpArgs false
namespace Go.Proofs.Yteejaaeglfpcmab.PX
open Go.RowKit Go.Proofs.YteejaaeglfpcmabW.PrintWords Go.Proofs.YteejaaeglfpcmabW.PrintLast Go.Proofs.YteejaaeglfpcmabW.PrintMore
attribute [local go_sem] max2_int min2_int max_two min_two max_three min_three max_four min_four
set_option maxHeartbeats 8000000 in
set_option maxRecDepth 100000 in
theorem arboretlaw03_TreeFinds.calls (k : Nat) (a0_0 : ByteArray) (A0_1 : Option Addr) (c0_1 : Nat) (l0_1 : List (S77)) (A0_2 : Option Addr) (c0_2 : Nat) (l0_2 : List (S30)) (a1 : ByteArray) (r : Bool) (w : World) (hr0_1 : Kd.C k77 w A0_1 l0_1.length l0_1) (hc0_1 : l0_1.length ≤ c0_1) (hr0_2 : Kd.C k30 w A0_2 l0_2.length l0_2) (hc0_2 : l0_2.length ≤ c0_2) (h : arboretlaw03_TreeFinds.f k a0_0 l0_1 l0_2 a1 = some r) :
  Calls Try.prog 10 #[.agg #[.string a0_0, .slice A0_1 l0_1.length c0_1, .slice A0_2 l0_2.length c0_2], .string a1] w fun e w' => e = .returned (.bool r) ∧ Below w.heap.size w w' := by
 have hu30 := Try.underlying30; have HR0_1 := Ak hr0_1; have HC0_1 := Ak hc0_1; clear hr0_1 hc0_1; have HR0_2 := Ak hr0_2; have HC0_2 := Ak hc0_2; clear hr0_2 hc0_2; have HB := Zq54; have H : ((arboretlaw03_awake.f).bind fun taT => (if taT = true then ((arboretlaw03_size.f k a0_0 l0_1 l0_2 0).bind fun taG => (arboretlaw03_TreeFinds.j0 k a1 (decide (taG > 100000)) a0_0 l0_1 l0_2)) else (arboretlaw03_TreeFinds.j0 k a1 true a0_0 l0_1 l0_2))) = some r := h; clear h; have HC3 := Ak H; clear H
 go_enter Try.func10, Try.ntmps10
 go_upto_region 1 with (first | ((with_reducible refine gate_dst (N := 2) rfl ?_); (try (refine gate_guard Zq2 ?_; dsimp only)); refine box_event ?hg (N := 2) ?hd (cs := #[.string a0_0, .slice A0_1 l0_1.length c0_1, .slice A0_2 l0_2.length c0_2]) (t := 30) ?hr ?_; (case hd | hg => rfl); (case hr => first | (go_simp; done) | (go_simp; rfl)); intro gbaa hg w4 hbox hb; have n0_ := Zq40; have n1_ := Ak (hbox); have n2_ := Ak ((by rw [hg]; exact (below_size Zq6) : w.heap.size ≤ gbaa)); have n3_ := Ak ((by rw [hg]; exact (below_size Zq6) : w.heap.size ≤ gbaa)); clear HB; have HB := n0_; have BKaa := n1_; have GWaa := n2_; have GEaa := n3_; clear n0_ n1_ n2_ n3_ hb hbox hg))
 (try simp only [Act.put, List.setIfInBounds_toArray, List.set_cons_zero, List.set_cons_succ])
 go_cut [18] (fun v18 wc => ∃ (kq : Nat) (x18_2 : Bool), v18 = .bool x18_2 ∧ Aside0 (arboretlaw03_TreeFinds.j0 kq a1 x18_2 a0_0 l0_1 l0_2 = some r) ∧ Aside0 (kq ≤ k) ∧ Aside0 (wc.heap[gbaa]? = some (.cells #[.string a0_0, (.slice A0_1 l0_1.length c0_1), (.slice A0_2 l0_2.length c0_2)] 30 (0, 0))) ∧ Aside0 (Below w.heap.size w wc))
 case first =>
  have H := HC3.out; clear HC3; replace H := Option.bind_eq_some_iff.mp H; obtain ⟨taT, A50, H⟩ := H; replace H : (if taT = true then ((arboretlaw03_size.f k a0_0 l0_1 l0_2 0).bind fun taG => (arboretlaw03_TreeFinds.j0 k a1 (decide (taG > 100000)) a0_0 l0_1 l0_2)) else (arboretlaw03_TreeFinds.j0 k a1 true a0_0 l0_1 l0_2)) = some r := H; have A5 := Ak A50; clear A50
  by_cases c6 : taT = true
  ·subst c6
   have H1 : ((arboretlaw03_size.f k a0_0 l0_1 l0_2 0).bind fun taG => (arboretlaw03_TreeFinds.j0 k a1 (decide (taG > 100000)) a0_0 l0_1 l0_2)) = some r := by rw [if_pos rfl] at H; exact H
   clear H; have H := H1; clear H1; replace H := Option.bind_eq_some_iff.mp H; obtain ⟨taG, A70, H⟩ := H; replace H : (arboretlaw03_TreeFinds.j0 k a1 (decide (taG > 100000)) a0_0 l0_1 l0_2) = some r := H; have A7 := Ak A70; clear A70; have H' := Ak H; clear H
   go_wp2_with (first | ((with_reducible refine gate_callee (f := 26) rfl ?_); refine goesL_ (some 12) rfl rfl Try.func26 Zq1 rfl #[] rfl Zq7 ?_; (with_reducible refine (arboretlaw03_awake.calls  true _ A5.out).mono ?_); rintro e w8 ⟨rfl, hb⟩; refine ⟨_, rfl, ?_⟩; have n0_ := Zq33; have n1_ := Zq34; clear BKaa HB; have BKaa := n0_; have HB := n1_; clear n0_ n1_; (try clear hb); (try clear hb2); (try clear hk); (try clear hi); have hcz9_0 : w8.cell? ⟨gbaa, 0, none⟩ = some (.string a0_0) := (blk_cell BKaa.out 0).trans rfl; have hcz9_1 : w8.cell? ⟨gbaa, 1, none⟩ = some (.slice A0_1 l0_1.length c0_1) := (blk_cell BKaa.out 1).trans rfl; have hcz9_2 : w8.cell? ⟨gbaa, 2, none⟩ = some (.slice A0_2 l0_2.length c0_2) := (blk_cell BKaa.out 2).trans rfl; have hfz9_0 := blk_frozen BKaa.out 0; have hfz9_1 := blk_frozen BKaa.out 1; have hfz9_2 := blk_frozen BKaa.out 2) | (go_at_call 28; (with_reducible refine (arboretlaw03_size.calls k a0_0 _ _ l0_1 _ _ l0_2 0 taG _ ?side1 ?side2 ?side3 ?side4 A7.out).mono ?_); (case side1 => repeat (first | exact Zq35 | (with_reducible refine Kd.C_alloc ?_ _) | (with_reducible refine Kd.C_drewN ?_ _) | (with_reducible refine Kd.C_drew ?_))); (case side2 => exact HC0_1.out); (case side3 => repeat (first | exact Zq36 | (with_reducible refine Kd.C_alloc ?_ _) | (with_reducible refine Kd.C_drewN ?_ _) | (with_reducible refine Kd.C_drew ?_))); (case side4 => exact HC0_2.out); rintro e w10 ⟨rfl, hb⟩; have n0_ := Zq33; have n1_ := Zq34; clear BKaa HB; have BKaa := n0_; have HB := n1_; clear n0_ n1_; (try clear hb); (try clear hb2); (try clear hk); (try clear hi)))
   go_meet
   case rel => exact ⟨_, (decide (taG > 100000)), Zq8, H', ⟨by first | omega | exact Nat.le_refl _⟩, ⟨Zq5⟩, ⟨Zq4⟩⟩
  ·replace c6 := Bool.eq_false_iff.mpr c6; subst c6
   have H1 : (arboretlaw03_TreeFinds.j0 k a1 true a0_0 l0_1 l0_2) = some r := by rw [if_neg (show ¬ (false = true) by decide)] at H; exact H
   clear H; have H := H1; clear H1; have H' := Ak H; clear H
   go_wp2_with (first | ((with_reducible refine gate_callee (f := 26) rfl ?_); refine goesL_ (some 12) rfl rfl Try.func26 Zq1 rfl #[] rfl Zq7 ?_; (with_reducible refine (arboretlaw03_awake.calls  false _ A5.out).mono ?_); rintro e w11 ⟨rfl, hb⟩; refine ⟨_, rfl, ?_⟩; have n0_ := Zq33; have n1_ := Zq34; clear BKaa HB; have BKaa := n0_; have HB := n1_; clear n0_ n1_; (try clear hb); (try clear hb2); (try clear hk); (try clear hi)))
   go_meet
   case rel => exact ⟨_, (true), Zq8, H', ⟨by first | omega | exact Nat.le_refl _⟩, ⟨Zq5⟩, ⟨Zq4⟩⟩
 case rest =>
  clear HC3
  try clear c1
  try clear c2
  try clear p2
  try clear c6
  try clear c10
  try clear hcz9_0
  try clear hcz9_1
  try clear hcz9_2
  try clear hfz9_0
  try clear hfz9_1
  try clear hfz9_2
  obtain ⟨kq, x18_2, rfl, HA, HJ2, BKaa, HB⟩ := hcut
  cases kq with
  | zero => exact absurd HA.out (by simp [arboretlaw03_TreeFinds.j0])
  | succ kj2 =>
   have H := HA.out; clear HA; simp only [arboretlaw03_TreeFinds.j0] at H
   by_cases c12 : x18_2 = true
   ·subst c12
    have H1 : ((arboretlaw03_awake.f).bind fun taS => (some taS)) = some r := by rw [if_pos rfl] at H; exact H
    clear H; have H := H1; clear H1; replace H := Option.bind_eq_some_iff.mp H; obtain ⟨taS, Abh, H⟩ := H; replace H : (some taS) = some r := H; have A13 := Ak Abh; clear Abh; obtain rfl := Option.some.inj H
    go_wp2_with (first | ((with_reducible refine gate_callee (f := 26) rfl ?_); refine goesL_ (some 19) rfl rfl Try.func26 Zq1 rfl #[] rfl Zq7 ?_; (with_reducible refine (arboretlaw03_awake.calls  taS _ A13.out).mono ?_); rintro e w14 ⟨rfl, hb⟩; refine ⟨_, rfl, ?_⟩; have n0_ := Zq33; have n1_ := Zq34; clear BKaa HB; have BKaa := n0_; have HB := n1_; clear n0_ n1_; (try clear hb); (try clear hb2); (try clear hk); (try clear hi)))
    go_ret
    exact ⟨Zq10, Zq4⟩
   ·replace c12 := Bool.eq_false_iff.mpr c12; subst c12
    have H1 : ((tree_Count.f kj2 a0_0 l0_1 l0_2).bind fun btaw => ((arboretref01_Count.f kj2 a0_0 l0_1 l0_2).bind fun btar => ((tree_Find.f kj2 a0_0 l0_1 l0_2 a1).bind fun btai => ((arboretref01_Find.f kj2 a0_0 l0_1 l0_2 a1).bind fun tab => (if btaw.1 = btar.1 then (if btaw.2 = btar.2 then (if (btai.2 != (decide (tab ≥ 0))) = true then (some false) else ((tree_Kid.f a0_0 l0_1 l0_2 a1).bind fun tav => ((arboretref01_Kid.f kj2 a0_0 l0_1 l0_2 a1).bind fun tau => (if tav = tau then (if tab < 0 then (if (btai.1.length : Int) = 0 then (some true) else (if tab ≥ 0 then (if 0 ≤ tab then (if tab < (l0_1.length : Int) then (some ((strOfNums btai.1).toList == (strOfNums ((rd_T77 l0_1 tab).f1)).toList)) else (none)) else (none)) else (some false))) else (if tab ≥ 0 then (if 0 ≤ tab then (if tab < (l0_1.length : Int) then (some ((strOfNums btai.1).toList == (strOfNums ((rd_T77 l0_1 tab).f1)).toList)) else (none)) else (none)) else (some false))) else (some false))))) else (some false)) else (some false)))))) = some r := by rw [if_neg (show ¬ (false = true) by decide)] at H; exact H
    clear H; have H := H1; clear H1; replace H := Option.bind_eq_some_iff.mp H; obtain ⟨⟨taw, taC⟩, AaW, H⟩ := H; replace H : ((arboretref01_Count.f kj2 a0_0 l0_1 l0_2).bind fun btar => ((tree_Find.f kj2 a0_0 l0_1 l0_2 a1).bind fun btai => ((arboretref01_Find.f kj2 a0_0 l0_1 l0_2 a1).bind fun tab => (if taw = btar.1 then (if taC = btar.2 then (if (btai.2 != (decide (tab ≥ 0))) = true then (some false) else ((tree_Kid.f a0_0 l0_1 l0_2 a1).bind fun tav => ((arboretref01_Kid.f kj2 a0_0 l0_1 l0_2 a1).bind fun tau => (if tav = tau then (if tab < 0 then (if (btai.1.length : Int) = 0 then (some true) else (if tab ≥ 0 then (if 0 ≤ tab then (if tab < (l0_1.length : Int) then (some ((strOfNums btai.1).toList == (strOfNums ((rd_T77 l0_1 tab).f1)).toList)) else (none)) else (none)) else (some false))) else (if tab ≥ 0 then (if 0 ≤ tab then (if tab < (l0_1.length : Int) then (some ((strOfNums btai.1).toList == (strOfNums ((rd_T77 l0_1 tab).f1)).toList)) else (none)) else (none)) else (some false))) else (some false))))) else (some false)) else (some false))))) = some r := H; have A15 := Ak AaW; clear AaW; replace H := Option.bind_eq_some_iff.mp H; obtain ⟨⟨tar, taD⟩, Abv, H⟩ := H; replace H : ((tree_Find.f kj2 a0_0 l0_1 l0_2 a1).bind fun btai => ((arboretref01_Find.f kj2 a0_0 l0_1 l0_2 a1).bind fun tab => (if taw = tar then (if taC = taD then (if (btai.2 != (decide (tab ≥ 0))) = true then (some false) else ((tree_Kid.f a0_0 l0_1 l0_2 a1).bind fun tav => ((arboretref01_Kid.f kj2 a0_0 l0_1 l0_2 a1).bind fun tau => (if tav = tau then (if tab < 0 then (if (btai.1.length : Int) = 0 then (some true) else (if tab ≥ 0 then (if 0 ≤ tab then (if tab < (l0_1.length : Int) then (some ((strOfNums btai.1).toList == (strOfNums ((rd_T77 l0_1 tab).f1)).toList)) else (none)) else (none)) else (some false))) else (if tab ≥ 0 then (if 0 ≤ tab then (if tab < (l0_1.length : Int) then (some ((strOfNums btai.1).toList == (strOfNums ((rd_T77 l0_1 tab).f1)).toList)) else (none)) else (none)) else (some false))) else (some false))))) else (some false)) else (some false)))) = some r := H; have A16 := Ak Abv; clear Abv; replace H := Option.bind_eq_some_iff.mp H; obtain ⟨⟨tai, taj⟩, Abw, H⟩ := H; replace H : ((arboretref01_Find.f kj2 a0_0 l0_1 l0_2 a1).bind fun tab => (if taw = tar then (if taC = taD then (if (taj != (decide (tab ≥ 0))) = true then (some false) else ((tree_Kid.f a0_0 l0_1 l0_2 a1).bind fun tav => ((arboretref01_Kid.f kj2 a0_0 l0_1 l0_2 a1).bind fun tau => (if tav = tau then (if tab < 0 then (if (tai.length : Int) = 0 then (some true) else (if tab ≥ 0 then (if 0 ≤ tab then (if tab < (l0_1.length : Int) then (some ((strOfNums tai).toList == (strOfNums ((rd_T77 l0_1 tab).f1)).toList)) else (none)) else (none)) else (some false))) else (if tab ≥ 0 then (if 0 ≤ tab then (if tab < (l0_1.length : Int) then (some ((strOfNums tai).toList == (strOfNums ((rd_T77 l0_1 tab).f1)).toList)) else (none)) else (none)) else (some false))) else (some false))))) else (some false)) else (some false))) = some r := H; have A17 := Ak Abw; clear Abw; replace H := Option.bind_eq_some_iff.mp H; obtain ⟨tab, Abx, H⟩ := H
    replace H : (if taw = tar then (if taC = taD then (if (taj != (decide (tab ≥ 0))) = true then (some false) else ((tree_Kid.f a0_0 l0_1 l0_2 a1).bind fun tav => ((arboretref01_Kid.f kj2 a0_0 l0_1 l0_2 a1).bind fun tau => (if tav = tau then (if tab < 0 then (if (tai.length : Int) = 0 then (some true) else (if tab ≥ 0 then (if 0 ≤ tab then (if tab < (l0_1.length : Int) then (some ((strOfNums tai).toList == (strOfNums ((rd_T77 l0_1 tab).f1)).toList)) else (none)) else (none)) else (some false))) else (if tab ≥ 0 then (if 0 ≤ tab then (if tab < (l0_1.length : Int) then (some ((strOfNums tai).toList == (strOfNums ((rd_T77 l0_1 tab).f1)).toList)) else (none)) else (none)) else (some false))) else (some false))))) else (some false)) else (some false)) = some r := H; have A18 := Ak Abx; clear Abx
    by_cases c19 : taw = tar
    ·rw [if_pos c19] at H; have c19b0 : (taw == tar) = true := beq_iff_eq.mpr c19; have c19b1 : (taw != tar) = false := bne_eq_false_iff_eq.mpr c19; clear c19
     by_cases c20 : taC = taD
     ·rw [if_pos c20] at H; have c20b0 : (taC == taD) = true := beq_iff_eq.mpr c20; have c20b1 : (taC != taD) = false := bne_eq_false_iff_eq.mpr c20; clear c20
      by_cases c21 : (taj != (decide (tab ≥ 0))) = true
      ·rw [if_pos c21] at H; have c21b0 : (taj != (decide (tab ≥ 0))) = true := c21; have c21b0g := c21b0
       (try simp only [ge_iff_le, gt_iff_lt] at c21b0g)
       (try (have c21b1 : decide (taj = (decide (tab ≥ 0))) = false := by simpa using c21))
       (try (have c21b2 : (taj == (decide (tab ≥ 0))) = false := by simpa using c21))
       (try (have c21b3 : ¬ (taj = (decide (tab ≥ 0))) := by simpa using c21))
       clear c21; obtain rfl := Option.some.inj H; have hcz22_0 : wc.cell? ⟨gbaa, 0, none⟩ = some (.string a0_0) := (blk_cell BKaa.out 0).trans rfl; have hcz22_1 : wc.cell? ⟨gbaa, 1, none⟩ = some (.slice A0_1 l0_1.length c0_1) := (blk_cell BKaa.out 1).trans rfl; have hcz22_2 : wc.cell? ⟨gbaa, 2, none⟩ = some (.slice A0_2 l0_2.length c0_2) := (blk_cell BKaa.out 2).trans rfl; have hfz22_0 := blk_frozen BKaa.out 0; have hfz22_1 := blk_frozen BKaa.out 1; have hfz22_2 := blk_frozen BKaa.out 2
       try go_wp2_with (first | ((with_reducible refine gate_callee (f := 29) rfl ?_); refine goesL_ (some 22) rfl rfl Try.func29 Zq1 rfl #[.agg #[.string a0_0, .slice A0_1 l0_1.length c0_1, .slice A0_2 l0_2.length c0_2]] rfl Zq7 ?_; (with_reducible refine (tree_Count.calls kj2 a0_0 _ _ l0_1 _ _ l0_2 taw taC _ ?side1 ?side2 ?side3 ?side4 A15.out).mono ?_); (case side1 => repeat (first | exact Zq35 | (with_reducible refine Kd.C_alloc ?_ _) | (with_reducible refine Kd.C_drewN ?_ _) | (with_reducible refine Kd.C_drew ?_))); (case side2 => exact HC0_1.out); (case side3 => repeat (first | exact Zq36 | (with_reducible refine Kd.C_alloc ?_ _) | (with_reducible refine Kd.C_drewN ?_ _) | (with_reducible refine Kd.C_drew ?_))); (case side4 => exact HC0_2.out); rintro e w23 ⟨rfl, hb⟩; refine ⟨_, rfl, ?_⟩; have n0_ := Zq33; have n1_ := Zq34; clear BKaa HB; have BKaa := n0_; have HB := n1_; clear n0_ n1_; (try clear hb); (try clear hb2); (try clear hk); (try clear hi); have hcz24_0 : w23.cell? ⟨gbaa, 0, none⟩ = some (.string a0_0) := (blk_cell BKaa.out 0).trans rfl; have hcz24_1 : w23.cell? ⟨gbaa, 1, none⟩ = some (.slice A0_1 l0_1.length c0_1) := (blk_cell BKaa.out 1).trans rfl; have hcz24_2 : w23.cell? ⟨gbaa, 2, none⟩ = some (.slice A0_2 l0_2.length c0_2) := (blk_cell BKaa.out 2).trans rfl; have hfz24_0 := blk_frozen BKaa.out 0; have hfz24_1 := blk_frozen BKaa.out 1; have hfz24_2 := blk_frozen BKaa.out 2) | ((with_reducible refine gate_callee (f := 30) rfl ?_); refine goesL_ (some 27) rfl rfl Try.func30 Zq1 rfl #[.agg #[.string a0_0, .slice A0_1 l0_1.length c0_1, .slice A0_2 l0_2.length c0_2]] rfl Zq7 ?_; (with_reducible refine (arboretref01_Count.calls kj2 a0_0 _ _ l0_1 _ _ l0_2 tar taD _ ?side1 ?side2 ?side3 ?side4 A16.out).mono ?_); (case side1 => repeat (first | exact Zq35 | (with_reducible refine Kd.C_alloc ?_ _) | (with_reducible refine Kd.C_drewN ?_ _) | (with_reducible refine Kd.C_drew ?_))); (case side2 => exact HC0_1.out); (case side3 => repeat (first | exact Zq36 | (with_reducible refine Kd.C_alloc ?_ _) | (with_reducible refine Kd.C_drewN ?_ _) | (with_reducible refine Kd.C_drew ?_))); (case side4 => exact HC0_2.out); rintro e w25 ⟨rfl, hb⟩; refine ⟨_, rfl, ?_⟩; have n0_ := Zq33; have n1_ := Zq34; clear BKaa HB; have BKaa := n0_; have HB := n1_; clear n0_ n1_; (try clear hb); (try clear hb2); (try clear hk); (try clear hi); have hcz26_0 : w25.cell? ⟨gbaa, 0, none⟩ = some (.string a0_0) := (blk_cell BKaa.out 0).trans rfl; have hcz26_1 : w25.cell? ⟨gbaa, 1, none⟩ = some (.slice A0_1 l0_1.length c0_1) := (blk_cell BKaa.out 1).trans rfl; have hcz26_2 : w25.cell? ⟨gbaa, 2, none⟩ = some (.slice A0_2 l0_2.length c0_2) := (blk_cell BKaa.out 2).trans rfl; have hfz26_0 := blk_frozen BKaa.out 0; have hfz26_1 := blk_frozen BKaa.out 1; have hfz26_2 := blk_frozen BKaa.out 2) | ((with_reducible refine gate_callee (f := 31) rfl ?_); refine goesL_ (some 33) rfl rfl Try.func31 Zq1 rfl #[.agg #[.string a0_0, .slice A0_1 l0_1.length c0_1, .slice A0_2 l0_2.length c0_2], .string a1] rfl Zq7 ?_; (with_reducible refine (tree_Find.calls kj2 a0_0 _ _ l0_1 _ _ l0_2 a1 tai taj _ ?side1 ?side2 ?side3 ?side4 A17.out).mono ?_); (case side1 => repeat (first | exact Zq35 | (with_reducible refine Kd.C_alloc ?_ _) | (with_reducible refine Kd.C_drewN ?_ _) | (with_reducible refine Kd.C_drew ?_))); (case side2 => exact HC0_1.out); (case side3 => repeat (first | exact Zq36 | (with_reducible refine Kd.C_alloc ?_ _) | (with_reducible refine Kd.C_drewN ?_ _) | (with_reducible refine Kd.C_drew ?_))); (case side4 => exact HC0_2.out); rintro e w27 ⟨v786, rfl, ho0, hb⟩; refine ⟨_, rfl, ?_⟩; have n0_ := Zq49; have n1_ := Zq33; have n2_ := Zq34; clear BKaa HB; have HOac := n0_; have BKaa := n1_; have HB := n2_; clear n0_ n1_ n2_; (try clear hb); (try clear hb2); (try clear hk); (try clear hi); (try clear ho0); have hcz28_0 : w27.cell? ⟨gbaa, 0, none⟩ = some (.string a0_0) := (blk_cell BKaa.out 0).trans rfl; have hcz28_1 : w27.cell? ⟨gbaa, 1, none⟩ = some (.slice A0_1 l0_1.length c0_1) := (blk_cell BKaa.out 1).trans rfl; have hcz28_2 : w27.cell? ⟨gbaa, 2, none⟩ = some (.slice A0_2 l0_2.length c0_2) := (blk_cell BKaa.out 2).trans rfl; have hfz28_0 := blk_frozen BKaa.out 0; have hfz28_1 := blk_frozen BKaa.out 1; have hfz28_2 := blk_frozen BKaa.out 2) | ((with_reducible refine gate_callee (f := 32) rfl ?_); refine goesL_ (some 38) rfl rfl Try.func32 Zq1 rfl #[.agg #[.string a0_0, .slice A0_1 l0_1.length c0_1, .slice A0_2 l0_2.length c0_2], .string a1] rfl Zq7 ?_; (with_reducible refine (arboretref01_Find.calls kj2 a0_0 _ _ l0_1 _ _ l0_2 a1 tab _ ?side1 ?side2 ?side3 ?side4 A18.out).mono ?_); (case side1 => repeat (first | exact Zq35 | (with_reducible refine Kd.C_alloc ?_ _) | (with_reducible refine Kd.C_drewN ?_ _) | (with_reducible refine Kd.C_drew ?_))); (case side2 => exact HC0_1.out); (case side3 => repeat (first | exact Zq36 | (with_reducible refine Kd.C_alloc ?_ _) | (with_reducible refine Kd.C_drewN ?_ _) | (with_reducible refine Kd.C_drew ?_))); (case side4 => exact HC0_2.out); rintro e w29 ⟨rfl, hb⟩; refine ⟨_, rfl, ?_⟩; have n0_ := Zq38; have n1_ := Zq33; have n2_ := Zq34; clear HOac BKaa HB; have HOac := n0_; have BKaa := n1_; have HB := n2_; clear n0_ n1_ n2_; (try clear hb); (try clear hb2); (try clear hk); (try clear hi)))
       have n0_ := Zq46; have n1_ := Zq47; have n2_ := Zq48; clear HOac BKaa HB; have HOac := n0_; have BKaa := n1_; have HB := n2_; clear n0_ n1_ n2_
       (try (have ec_ : decide (0 ≤ tab) = false := by rw [decide_eq_false_iff_not]; have q3_ := of_decide_eq_true (by assumption : decide (tab < 0) = true); omega))
       (try (have eb_ : (!taj) = false := by have q1_ := c21b0; have q2_ : decide (tab ≥ 0) = true := Zq13; rw [q2_] at q1_; simpa using q1_))
       (try (have eb_ : taj = false := by have q1_ := c21b0; have q2_ : decide (tab ≥ 0) = false := Zq14; rw [q2_] at q1_; simpa using q1_))
       refine start_ (n := 23) (S := fun w' => True) (ds := []) #[false, false, false, false, false, false, false, false, false, false, false, false, false, false, false, false, false, false, false, false, false, false, false] Zq1 rfl rfl trivial (fun hHeld => ?_); refine with_tabW arboretlaw03_TreeFinds.tab7 arboretlaw03_TreeFinds.bits7 (fun HT_ HW_ => ?_); generalize w29.drew = w30 at HOac BKaa HB hHeld ⊢; refine pure_ (i := 0) (N := some 39) (v := ?_) (a' := ?_) #[true, false, false, false, false, false, false, false, false, false, false, false, false, false, false, false, false, false, false, false, false, false, false] rfl rfl (any_of HT_.out Zq1) (fun _ _ _ h => h) (Or.inl ⟨Zq2, ?_⟩) ?_ ?_
       rotate_left
       ·intro w'
        go_simp
        with_reducible rfl
       rotate_left
       ·simp only [Sx]
        rfl
       refine pure_ (i := 1) (N := some 40) (v := ?_) (a' := ?_) #[true, true, false, false, false, false, false, false, false, false, false, false, false, false, false, false, false, false, false, false, false, false, false] rfl rfl (any_of HT_.out Zq1) (fun _ _ _ h => h) (Or.inl ⟨Zq2, ?_⟩) ?_ ?_
       rotate_left
       ·intro w'
        go_simp
        with_reducible rfl
       rotate_left
       ·simp only [Sx]
        rfl
       refine pure_ (i := 2) (N := some 41) (v := ?_) (a' := ?_) #[true, true, true, false, false, false, false, false, false, false, false, false, false, false, false, false, false, false, false, false, false, false, false] rfl rfl (any_of HT_.out Zq1) (fun _ _ _ h => h) (Or.inl ⟨Zq2, ?_⟩) ?_ ?_
       rotate_left
       ·intro w'
        go_simp
        with_reducible rfl
       rotate_left
       ·simp only [Sx]
        rfl
       refine pure_ (i := 3) (N := some 42) (v := ?_) (a' := ?_) #[true, true, true, true, false, false, false, false, false, false, false, false, false, false, false, false, false, false, false, false, false, false, false] rfl rfl (any_of HT_.out Zq1) (fun _ _ _ h => h) (Or.inl ⟨Zq2, ?_⟩) ?_ ?_
       rotate_left
       ·intro w'
        go_simp
        with_reducible rfl
       rotate_left
       ·simp only [Sx]
        rfl
       refine pure_ (i := 4) (N := some 43) (v := ?_) (a' := ?_) #[true, true, true, true, true, false, false, false, false, false, false, false, false, false, false, false, false, false, false, false, false, false, false] rfl rfl (any_of HT_.out Zq1) (fun _ _ _ h => h) (Or.inl ⟨Zq2, ?_⟩) ?_ ?_
       rotate_left
       ·intro w'
        go_simp
        with_reducible rfl
       rotate_left
       ·simp only [Sx]
        rfl
       refine pure_ (i := 5) (N := some 44) (v := ?_) (a' := ?_) #[true, true, true, true, true, true, false, false, false, false, false, false, false, false, false, false, false, false, false, false, false, false, false] rfl rfl (any_of HT_.out Zq1) (fun _ _ _ h => h) (Or.inl ⟨Zq2, ?_⟩) ?_ ?_
       rotate_left
       ·intro w'
        go_simp
        with_reducible rfl
       rotate_left
       ·simp only [Sx]
        rfl
       refine pure_ (i := 6) (N := some 45) (v := ?_) (a' := ?_) #[true, true, true, true, true, true, true, false, false, false, false, false, false, false, false, false, false, false, false, false, false, false, false] rfl rfl (any_of HT_.out Zq1) (fun _ _ _ h => h) (Or.inl ⟨Zq2, ?_⟩) ?_ ?_
       rotate_left
       ·intro w'
        go_simp
        with_reducible rfl
       rotate_left
       ·simp only [Sx]
        rfl
       refine pure_ (i := 7) (N := some 46) (v := ?_) (a' := ?_) #[true, true, true, true, true, true, true, true, false, false, false, false, false, false, false, false, false, false, false, false, false, false, false] rfl rfl (any_of HT_.out Zq1) (fun _ _ _ h => h) (Or.inl ⟨Zq2, ?_⟩) ?_ ?_
       rotate_left
       ·intro w'
        go_simp
        with_reducible rfl
       rotate_left
       ·simp only [Sx]
        rfl
       refine pure_ (i := 8) (N := some 47) (v := ?_) (a' := ?_) #[true, true, true, true, true, true, true, true, true, false, false, false, false, false, false, false, false, false, false, false, false, false, false] rfl rfl (any_of HT_.out Zq1) (fun _ _ _ h => h) (Or.inl ⟨Zq2, ?_⟩) ?_ ?_
       rotate_left
       ·intro w'
        go_simp
        with_reducible rfl
       rotate_left
       ·simp only [Sx]
        rfl
       refine pure_ (i := 9) (N := some 48) (v := ?_) (a' := ?_) #[true, true, true, true, true, true, true, true, true, true, false, false, false, false, false, false, false, false, false, false, false, false, false] rfl rfl (any_of HT_.out Zq1) (fun _ _ _ h => h) (Or.inl ⟨Zq2, ?_⟩) ?_ ?_
       rotate_left
       ·intro w'
        go_simp
        with_reducible rfl
       rotate_left
       ·simp only [Sx]
        rfl
       refine pure_ (i := 10) (N := some 49) (v := ?_) (a' := ?_) #[true, true, true, true, true, true, true, true, true, true, true, false, false, false, false, false, false, false, false, false, false, false, false] rfl rfl (any_of HT_.out Zq1) (fun _ _ _ h => h) (Or.inl ⟨Zq2, ?_⟩) ?_ ?_
       rotate_left
       ·intro w'
        go_simp
        with_reducible rfl
       rotate_left
       ·simp only [Sx]
        rfl
       refine pure_ (i := 11) (N := some 50) (v := ?_) (a' := ?_) #[true, true, true, true, true, true, true, true, true, true, true, true, false, false, false, false, false, false, false, false, false, false, false] rfl rfl (any_of HT_.out Zq1) (fun _ _ _ h => h) (Or.inl ⟨Zq2, ?_⟩) ?_ ?_
       rotate_left
       ·intro w'
        go_simp
        with_reducible rfl
       rotate_left
       ·simp only [Sx]
        rfl
       refine pure_ (i := 12) (N := some 51) (v := ?_) (a' := ?_) #[true, true, true, true, true, true, true, true, true, true, true, true, true, false, false, false, false, false, false, false, false, false, false] rfl rfl (any_of HT_.out Zq1) (fun _ _ _ h => h) (Or.inl ⟨Zq2, ?_⟩) ?_ ?_
       rotate_left
       ·intro w'
        go_simp
        with_reducible rfl
       rotate_left
       ·simp only [Sx]
        rfl
       refine pure_ (i := 13) (N := some 52) (v := ?_) (a' := ?_) #[true, true, true, true, true, true, true, true, true, true, true, true, true, true, false, false, false, false, false, false, false, false, false] rfl rfl (any_of HT_.out Zq1) (fun _ _ _ h => h) (Or.inl ⟨Zq2, ?_⟩) ?_ ?_
       rotate_left
       ·intro w'
        go_simp
        with_reducible rfl
       rotate_left
       ·simp only [Sx]
        rfl
       refine pure_ (i := 14) (N := some 53) (v := ?_) (a' := ?_) #[true, true, true, true, true, true, true, true, true, true, true, true, true, true, true, false, false, false, false, false, false, false, false] rfl rfl (any_of HT_.out Zq1) (fun _ _ _ h => h) (Or.inl ⟨Zq2, ?_⟩) ?_ ?_
       rotate_left
       ·intro w'
        go_simp
        with_reducible rfl
       rotate_left
       ·simp only [Sx]
        rfl
       refine pure_ (i := 15) (N := some 54) (v := undef) (a' := ?_) #[true, true, true, true, true, true, true, true, true, true, true, true, true, true, true, true, false, false, false, false, false, false, false] rfl rfl (any_of HT_.out Zq1) (fun _ _ _ h => h) (Or.inr ⟨Zq2, rfl⟩) ?_ ?_
       rotate_left
       ·simp only [Sx]
        rfl
       refine pure_ (i := 16) (N := some 55) (v := undef) (a' := ?_) #[true, true, true, true, true, true, true, true, true, true, true, true, true, true, true, true, true, false, false, false, false, false, false] rfl rfl (any_of HT_.out Zq1) (fun _ _ _ h => h) (Or.inr ⟨Zq2, rfl⟩) ?_ ?_
       rotate_left
       ·simp only [Sx]
        rfl
       refine pure_ (i := 17) (N := some 56) (v := undef) (a' := ?_) #[true, true, true, true, true, true, true, true, true, true, true, true, true, true, true, true, true, true, false, false, false, false, false] rfl rfl (any_of HT_.out Zq1) (fun _ _ _ h => h) (Or.inr ⟨Zq2, rfl⟩) ?_ ?_
       rotate_left
       ·simp only [Sx]
        rfl
       refine pure_ (i := 18) (N := some 57) (v := undef) (a' := ?_) #[true, true, true, true, true, true, true, true, true, true, true, true, true, true, true, true, true, true, true, false, false, false, false] rfl rfl (any_of HT_.out Zq1) (fun _ _ _ h => h) (Or.inr ⟨Zq2, rfl⟩) ?_ ?_
       rotate_left
       ·simp only [Sx]
        rfl
       refine pure_ (i := 19) (N := some 58) (v := undef) (a' := ?_) #[true, true, true, true, true, true, true, true, true, true, true, true, true, true, true, true, true, true, true, true, false, false, false] rfl rfl (any_of HT_.out Zq1) (fun _ _ _ h => h) (Or.inr ⟨Zq2, rfl⟩) ?_ ?_
       rotate_left
       ·simp only [Sx]
        rfl
       refine pure_ (i := 20) (N := some 59) (v := undef) (a' := ?_) #[true, true, true, true, true, true, true, true, true, true, true, true, true, true, true, true, true, true, true, true, true, false, false] rfl rfl (any_of HT_.out Zq1) (fun _ _ _ h => h) (Or.inr ⟨Zq2, rfl⟩) ?_ ?_
       rotate_left
       ·simp only [Sx]
        rfl
       refine pure_ (i := 21) (N := some 60) (v := undef) (a' := ?_) #[true, true, true, true, true, true, true, true, true, true, true, true, true, true, true, true, true, true, true, true, true, true, false] rfl rfl (any_of HT_.out Zq1) (fun _ _ _ h => h) (Or.inr ⟨Zq2, rfl⟩) ?_ ?_
       rotate_left
       ·simp only [Sx]
        rfl
       refine pure_ (i := 22) (N := some 61) (v := ?_) (a' := ?_) #[true, true, true, true, true, true, true, true, true, true, true, true, true, true, true, true, true, true, true, true, true, true, true] rfl rfl (any_of HT_.out Zq1) (fun _ _ _ h => h) (Or.inl ⟨Zq2, ?_⟩) ?_ ?_
       rotate_left
       ·intro w'
        go_simp
        with_reducible rfl
       rotate_left
       ·simp only [Sx]
        rfl
       refine done_ (done_of HT_.out Zq1) ?_
       try go_wp2
       go_ret
       exact ⟨Zq10, Zq4⟩
      ·rw [if_neg c21] at H
       have c21b0 : (taj != (decide (tab ≥ 0))) = false := by simpa using c21
       have c21b0g := c21b0
       (try simp only [ge_iff_le, gt_iff_lt] at c21b0g)
       (try (have c21b1 : decide (taj = (decide (tab ≥ 0))) = true := by simpa using c21))
       (try (have c21b2 : (taj == (decide (tab ≥ 0))) = true := by simpa using c21))
       clear c21; replace H := Option.bind_eq_some_iff.mp H; obtain ⟨tav, Abz, H⟩ := H; replace H : ((arboretref01_Kid.f kj2 a0_0 l0_1 l0_2 a1).bind fun tau => (if tav = tau then (if tab < 0 then (if (tai.length : Int) = 0 then (some true) else (if tab ≥ 0 then (if 0 ≤ tab then (if tab < (l0_1.length : Int) then (some ((strOfNums tai).toList == (strOfNums ((rd_T77 l0_1 tab).f1)).toList)) else (none)) else (none)) else (some false))) else (if tab ≥ 0 then (if 0 ≤ tab then (if tab < (l0_1.length : Int) then (some ((strOfNums tai).toList == (strOfNums ((rd_T77 l0_1 tab).f1)).toList)) else (none)) else (none)) else (some false))) else (some false))) = some r := H; have A31 := Ak Abz; clear Abz; replace H := Option.bind_eq_some_iff.mp H; obtain ⟨tau, AbA, H⟩ := H; replace H : (if tav = tau then (if tab < 0 then (if (tai.length : Int) = 0 then (some true) else (if tab ≥ 0 then (if 0 ≤ tab then (if tab < (l0_1.length : Int) then (some ((strOfNums tai).toList == (strOfNums ((rd_T77 l0_1 tab).f1)).toList)) else (none)) else (none)) else (some false))) else (if tab ≥ 0 then (if 0 ≤ tab then (if tab < (l0_1.length : Int) then (some ((strOfNums tai).toList == (strOfNums ((rd_T77 l0_1 tab).f1)).toList)) else (none)) else (none)) else (some false))) else (some false)) = some r := H; have A32 := Ak AbA; clear AbA
       by_cases c33 : tav = tau
       ·rw [if_pos c33] at H; have c33b0 : (tav == tau) = true := beq_iff_eq.mpr c33; have c33b1 : (tav != tau) = false := bne_eq_false_iff_eq.mpr c33; clear c33
        by_cases c34 : tab < 0
        ·rw [if_pos c34] at H; have c34b0 : decide (tab < 0) = true := decide_eq_true c34; clear c34
         by_cases c35 : (tai.length : Int) = 0
         ·rw [if_pos c35] at H; have c35b0 : ((tai.length : Int) == 0) = true := beq_iff_eq.mpr c35; have c35b1 : ((tai.length : Int) != 0) = false := bne_eq_false_iff_eq.mpr c35; clear c35; obtain rfl := Option.some.inj H; have hcz36_0 : wc.cell? ⟨gbaa, 0, none⟩ = some (.string a0_0) := (blk_cell BKaa.out 0).trans rfl; have hcz36_1 : wc.cell? ⟨gbaa, 1, none⟩ = some (.slice A0_1 l0_1.length c0_1) := (blk_cell BKaa.out 1).trans rfl; have hcz36_2 : wc.cell? ⟨gbaa, 2, none⟩ = some (.slice A0_2 l0_2.length c0_2) := (blk_cell BKaa.out 2).trans rfl; have hfz36_0 := blk_frozen BKaa.out 0; have hfz36_1 := blk_frozen BKaa.out 1; have hfz36_2 := blk_frozen BKaa.out 2
          try go_wp2_with (first | ((with_reducible refine gate_callee (f := 29) rfl ?_); refine goesL_ (some 22) rfl rfl Try.func29 Zq1 rfl #[.agg #[.string a0_0, .slice A0_1 l0_1.length c0_1, .slice A0_2 l0_2.length c0_2]] rfl Zq7 ?_; (with_reducible refine (tree_Count.calls kj2 a0_0 _ _ l0_1 _ _ l0_2 taw taC _ ?side1 ?side2 ?side3 ?side4 A15.out).mono ?_); (case side1 => repeat (first | exact Zq35 | (with_reducible refine Kd.C_alloc ?_ _) | (with_reducible refine Kd.C_drewN ?_ _) | (with_reducible refine Kd.C_drew ?_))); (case side2 => exact HC0_1.out); (case side3 => repeat (first | exact Zq36 | (with_reducible refine Kd.C_alloc ?_ _) | (with_reducible refine Kd.C_drewN ?_ _) | (with_reducible refine Kd.C_drew ?_))); (case side4 => exact HC0_2.out); rintro e w37 ⟨rfl, hb⟩; refine ⟨_, rfl, ?_⟩; have n0_ := Zq33; have n1_ := Zq34; clear BKaa HB; have BKaa := n0_; have HB := n1_; clear n0_ n1_; (try clear hb); (try clear hb2); (try clear hk); (try clear hi); have hcz38_0 : w37.cell? ⟨gbaa, 0, none⟩ = some (.string a0_0) := (blk_cell BKaa.out 0).trans rfl; have hcz38_1 : w37.cell? ⟨gbaa, 1, none⟩ = some (.slice A0_1 l0_1.length c0_1) := (blk_cell BKaa.out 1).trans rfl; have hcz38_2 : w37.cell? ⟨gbaa, 2, none⟩ = some (.slice A0_2 l0_2.length c0_2) := (blk_cell BKaa.out 2).trans rfl; have hfz38_0 := blk_frozen BKaa.out 0; have hfz38_1 := blk_frozen BKaa.out 1; have hfz38_2 := blk_frozen BKaa.out 2) | ((with_reducible refine gate_callee (f := 30) rfl ?_); refine goesL_ (some 27) rfl rfl Try.func30 Zq1 rfl #[.agg #[.string a0_0, .slice A0_1 l0_1.length c0_1, .slice A0_2 l0_2.length c0_2]] rfl Zq7 ?_; (with_reducible refine (arboretref01_Count.calls kj2 a0_0 _ _ l0_1 _ _ l0_2 tar taD _ ?side1 ?side2 ?side3 ?side4 A16.out).mono ?_); (case side1 => repeat (first | exact Zq35 | (with_reducible refine Kd.C_alloc ?_ _) | (with_reducible refine Kd.C_drewN ?_ _) | (with_reducible refine Kd.C_drew ?_))); (case side2 => exact HC0_1.out); (case side3 => repeat (first | exact Zq36 | (with_reducible refine Kd.C_alloc ?_ _) | (with_reducible refine Kd.C_drewN ?_ _) | (with_reducible refine Kd.C_drew ?_))); (case side4 => exact HC0_2.out); rintro e w39 ⟨rfl, hb⟩; refine ⟨_, rfl, ?_⟩; have n0_ := Zq33; have n1_ := Zq34; clear BKaa HB; have BKaa := n0_; have HB := n1_; clear n0_ n1_; (try clear hb); (try clear hb2); (try clear hk); (try clear hi); have hcz40_0 : w39.cell? ⟨gbaa, 0, none⟩ = some (.string a0_0) := (blk_cell BKaa.out 0).trans rfl; have hcz40_1 : w39.cell? ⟨gbaa, 1, none⟩ = some (.slice A0_1 l0_1.length c0_1) := (blk_cell BKaa.out 1).trans rfl; have hcz40_2 : w39.cell? ⟨gbaa, 2, none⟩ = some (.slice A0_2 l0_2.length c0_2) := (blk_cell BKaa.out 2).trans rfl; have hfz40_0 := blk_frozen BKaa.out 0; have hfz40_1 := blk_frozen BKaa.out 1; have hfz40_2 := blk_frozen BKaa.out 2) | ((with_reducible refine gate_callee (f := 31) rfl ?_); refine goesL_ (some 33) rfl rfl Try.func31 Zq1 rfl #[.agg #[.string a0_0, .slice A0_1 l0_1.length c0_1, .slice A0_2 l0_2.length c0_2], .string a1] rfl Zq7 ?_; (with_reducible refine (tree_Find.calls kj2 a0_0 _ _ l0_1 _ _ l0_2 a1 tai taj _ ?side1 ?side2 ?side3 ?side4 A17.out).mono ?_); (case side1 => repeat (first | exact Zq35 | (with_reducible refine Kd.C_alloc ?_ _) | (with_reducible refine Kd.C_drewN ?_ _) | (with_reducible refine Kd.C_drew ?_))); (case side2 => exact HC0_1.out); (case side3 => repeat (first | exact Zq36 | (with_reducible refine Kd.C_alloc ?_ _) | (with_reducible refine Kd.C_drewN ?_ _) | (with_reducible refine Kd.C_drew ?_))); (case side4 => exact HC0_2.out); rintro e w41 ⟨v786, rfl, ho0, hb⟩; refine ⟨_, rfl, ?_⟩; have n0_ := Zq49; have n1_ := Zq33; have n2_ := Zq34; clear BKaa HB; have HOac := n0_; have BKaa := n1_; have HB := n2_; clear n0_ n1_ n2_; (try clear hb); (try clear hb2); (try clear hk); (try clear hi); (try clear ho0); have hcz42_0 : w41.cell? ⟨gbaa, 0, none⟩ = some (.string a0_0) := (blk_cell BKaa.out 0).trans rfl; have hcz42_1 : w41.cell? ⟨gbaa, 1, none⟩ = some (.slice A0_1 l0_1.length c0_1) := (blk_cell BKaa.out 1).trans rfl; have hcz42_2 : w41.cell? ⟨gbaa, 2, none⟩ = some (.slice A0_2 l0_2.length c0_2) := (blk_cell BKaa.out 2).trans rfl; have hfz42_0 := blk_frozen BKaa.out 0; have hfz42_1 := blk_frozen BKaa.out 1; have hfz42_2 := blk_frozen BKaa.out 2) | ((with_reducible refine gate_callee (f := 32) rfl ?_); refine goesL_ (some 38) rfl rfl Try.func32 Zq1 rfl #[.agg #[.string a0_0, .slice A0_1 l0_1.length c0_1, .slice A0_2 l0_2.length c0_2], .string a1] rfl Zq7 ?_; (with_reducible refine (arboretref01_Find.calls kj2 a0_0 _ _ l0_1 _ _ l0_2 a1 tab _ ?side1 ?side2 ?side3 ?side4 A18.out).mono ?_); (case side1 => repeat (first | exact Zq35 | (with_reducible refine Kd.C_alloc ?_ _) | (with_reducible refine Kd.C_drewN ?_ _) | (with_reducible refine Kd.C_drew ?_))); (case side2 => exact HC0_1.out); (case side3 => repeat (first | exact Zq36 | (with_reducible refine Kd.C_alloc ?_ _) | (with_reducible refine Kd.C_drewN ?_ _) | (with_reducible refine Kd.C_drew ?_))); (case side4 => exact HC0_2.out); rintro e w43 ⟨rfl, hb⟩; refine ⟨_, rfl, ?_⟩; have n0_ := Zq38; have n1_ := Zq33; have n2_ := Zq34; clear HOac BKaa HB; have HOac := n0_; have BKaa := n1_; have HB := n2_; clear n0_ n1_ n2_; (try clear hb); (try clear hb2); (try clear hk); (try clear hi)))
          have n0_ := Zq46; have n1_ := Zq47; have n2_ := Zq48; clear HOac BKaa HB; have HOac := n0_; have BKaa := n1_; have HB := n2_; clear n0_ n1_ n2_
          (try (have ec_ : decide (0 ≤ tab) = false := by rw [decide_eq_false_iff_not]; have q3_ := of_decide_eq_true (by assumption : decide (tab < 0) = true); omega))
          (try (have eb_ : (!taj) = false := by have q1_ := c21b0; have q2_ : decide (tab ≥ 0) = true := Zq13; rw [q2_] at q1_; simpa using q1_))
          (try (have eb_ : taj = false := by have q1_ := c21b0; have q2_ : decide (tab ≥ 0) = false := Zq14; rw [q2_] at q1_; simpa using q1_))
          refine start_ (n := 23) (S := fun w' => w'.cell? ⟨gbaa, 0, none⟩ = some (.string a0_0) ∧ w'.cell? ⟨gbaa, 1, none⟩ = some (.slice A0_1 l0_1.length c0_1) ∧ w'.cell? ⟨gbaa, 2, none⟩ = some (.slice A0_2 l0_2.length c0_2)) (ds := []) #[false, false, false, false, false, false, false, false, false, false, false, false, false, false, false, false, false, false, false, false, false, false, false] Zq1 rfl rfl ⟨(blk_cell BKaa.out 0).trans rfl, (blk_cell BKaa.out 1).trans rfl, (blk_cell BKaa.out 2).trans rfl⟩ (fun hHeld => ?_); refine with_tabW arboretlaw03_TreeFinds.tab7 arboretlaw03_TreeFinds.bits7 (fun HT_ HW_ => ?_); generalize w43.drew = w44 at HOac BKaa HB hHeld ⊢; refine pure_ (i := 0) (N := some 39) (v := ?_) (a' := ?_) #[true, false, false, false, false, false, false, false, false, false, false, false, false, false, false, false, false, false, false, false, false, false, false] rfl rfl (any_of HT_.out Zq1) (fun _ _ _ h => h) (Or.inl ⟨Zq2, ?_⟩) ?_ ?_
          rotate_left
          ·intro w'
           go_simp
           with_reducible rfl
          rotate_left
          ·simp only [Sx]
           rfl
          refine pure_ (i := 1) (N := some 40) (v := ?_) (a' := ?_) #[true, true, false, false, false, false, false, false, false, false, false, false, false, false, false, false, false, false, false, false, false, false, false] rfl rfl (any_of HT_.out Zq1) (fun _ _ _ h => h) (Or.inl ⟨Zq2, ?_⟩) ?_ ?_
          rotate_left
          ·intro w'
           go_simp
           with_reducible rfl
          rotate_left
          ·simp only [Sx]
           rfl
          refine pure_ (i := 2) (N := some 41) (v := ?_) (a' := ?_) #[true, true, true, false, false, false, false, false, false, false, false, false, false, false, false, false, false, false, false, false, false, false, false] rfl rfl (any_of HT_.out Zq1) (fun _ _ _ h => h) (Or.inl ⟨Zq2, ?_⟩) ?_ ?_
          rotate_left
          ·intro w'
           go_simp
           with_reducible rfl
          rotate_left
          ·simp only [Sx]
           rfl
          refine pure_ (i := 3) (N := some 42) (v := ?_) (a' := ?_) #[true, true, true, true, false, false, false, false, false, false, false, false, false, false, false, false, false, false, false, false, false, false, false] rfl rfl (any_of HT_.out Zq1) (fun _ _ _ h => h) (Or.inl ⟨Zq2, ?_⟩) ?_ ?_
          rotate_left
          ·intro w'
           go_simp
           with_reducible rfl
          rotate_left
          ·simp only [Sx]
           rfl
          refine pure_ (i := 4) (N := some 43) (v := ?_) (a' := ?_) #[true, true, true, true, true, false, false, false, false, false, false, false, false, false, false, false, false, false, false, false, false, false, false] rfl rfl (any_of HT_.out Zq1) (fun _ _ _ h => h) (Or.inl ⟨Zq2, ?_⟩) ?_ ?_
          rotate_left
          ·intro w'
           go_simp
           with_reducible rfl
          rotate_left
          ·simp only [Sx]
           rfl
          refine pure_ (i := 5) (N := some 44) (v := ?_) (a' := ?_) #[true, true, true, true, true, true, false, false, false, false, false, false, false, false, false, false, false, false, false, false, false, false, false] rfl rfl (any_of HT_.out Zq1) (fun _ _ _ h => h) (Or.inl ⟨Zq2, ?_⟩) ?_ ?_
          rotate_left
          ·intro w'
           go_simp
           with_reducible rfl
          rotate_left
          ·simp only [Sx]
           rfl
          refine pure_ (i := 6) (N := some 45) (v := ?_) (a' := ?_) #[true, true, true, true, true, true, true, false, false, false, false, false, false, false, false, false, false, false, false, false, false, false, false] rfl rfl (any_of HT_.out Zq1) (fun _ _ _ h => h) (Or.inl ⟨Zq2, ?_⟩) ?_ ?_
          rotate_left
          ·intro w'
           go_simp
           with_reducible rfl
          rotate_left
          ·simp only [Sx]
           rfl
          refine pure_ (i := 7) (N := some 46) (v := ?_) (a' := ?_) #[true, true, true, true, true, true, true, true, false, false, false, false, false, false, false, false, false, false, false, false, false, false, false] rfl rfl (any_of HT_.out Zq1) (fun _ _ _ h => h) (Or.inl ⟨Zq2, ?_⟩) ?_ ?_
          rotate_left
          ·intro w'
           go_simp
           with_reducible rfl
          rotate_left
          ·simp only [Sx]
           rfl
          refine pure_ (i := 8) (N := some 47) (v := ?_) (a' := ?_) #[true, true, true, true, true, true, true, true, true, false, false, false, false, false, false, false, false, false, false, false, false, false, false] rfl rfl (any_of HT_.out Zq1) (fun _ _ _ h => h) (Or.inl ⟨Zq2, ?_⟩) ?_ ?_
          rotate_left
          ·intro w'
           go_simp
           with_reducible rfl
          rotate_left
          ·simp only [Sx]
           rfl
          refine pure_ (i := 9) (N := some 48) (v := ?_) (a' := ?_) #[true, true, true, true, true, true, true, true, true, true, false, false, false, false, false, false, false, false, false, false, false, false, false] rfl rfl (any_of HT_.out Zq1) (fun _ _ _ h => h) (Or.inl ⟨Zq2, ?_⟩) ?_ ?_
          rotate_left
          ·intro w'
           go_simp
           with_reducible rfl
          rotate_left
          ·simp only [Sx]
           rfl
          refine pure_ (i := 10) (N := some 49) (v := ?_) (a' := ?_) #[true, true, true, true, true, true, true, true, true, true, true, false, false, false, false, false, false, false, false, false, false, false, false] rfl rfl (any_of HT_.out Zq1) (fun _ _ _ h => h) (Or.inl ⟨Zq2, ?_⟩) ?_ ?_
          rotate_left
          ·intro w'
           go_simp
           with_reducible rfl
          rotate_left
          ·simp only [Sx]
           rfl
          refine pure_ (i := 11) (N := some 50) (v := ?_) (a' := ?_) #[true, true, true, true, true, true, true, true, true, true, true, true, false, false, false, false, false, false, false, false, false, false, false] rfl rfl (any_of HT_.out Zq1) (fun _ _ _ h => h) (Or.inl ⟨Zq2, ?_⟩) ?_ ?_
          rotate_left
          ·intro w'
           go_simp
           with_reducible rfl
          rotate_left
          ·simp only [Sx]
           rfl
          refine pure_ (i := 12) (N := some 51) (v := ?_) (a' := ?_) #[true, true, true, true, true, true, true, true, true, true, true, true, true, false, false, false, false, false, false, false, false, false, false] rfl rfl (any_of HT_.out Zq1) (fun _ _ _ h => h) (Or.inl ⟨Zq2, ?_⟩) ?_ ?_
          rotate_left
          ·intro w'
           go_simp
           with_reducible rfl
          rotate_left
          ·simp only [Sx]
           rfl
          refine pure_ (i := 13) (N := some 52) (v := ?_) (a' := ?_) #[true, true, true, true, true, true, true, true, true, true, true, true, true, true, false, false, false, false, false, false, false, false, false] rfl rfl (any_of HT_.out Zq1) (fun _ _ _ h => h) (Or.inl ⟨Zq2, ?_⟩) ?_ ?_
          rotate_left
          ·intro w'
           go_simp
           with_reducible rfl
          rotate_left
          ·simp only [Sx]
           rfl
          refine pure_ (i := 14) (N := some 53) (v := ?_) (a' := ?_) #[true, true, true, true, true, true, true, true, true, true, true, true, true, true, true, false, false, false, false, false, false, false, false] rfl rfl (any_of HT_.out Zq1) (fun _ _ _ h => h) (Or.inl ⟨Zq2, ?_⟩) ?_ ?_
          rotate_left
          ·intro w'
           go_simp
           with_reducible rfl
          rotate_left
          ·simp only [Sx]
           rfl
          refine pure_ (i := 16) (N := some 55) (v := ?_) (a' := ?_) #[true, true, true, true, true, true, true, true, true, true, true, true, true, true, true, false, true, false, false, false, false, false, false] rfl rfl (any_of HT_.out Zq1) (fun _ _ _ h => h) (Or.inl ⟨Zq2, ?_⟩) ?_ ?_
          rotate_left
          ·intro w'
           go_simp
           with_reducible rfl
          rotate_left
          ·simp only [Sx]
           rfl
          refine pure_ (i := 19) (N := some 58) (v := ?_) (a' := ?_) #[true, true, true, true, true, true, true, true, true, true, true, true, true, true, true, false, true, false, false, true, false, false, false] rfl rfl (any_of HT_.out Zq1) (fun _ _ _ h => h) (Or.inl ⟨Zq2, ?_⟩) ?_ ?_
          rotate_left
          ·intro w'
           go_simp
           with_reducible rfl
          rotate_left
          ·simp only [Sx]
           rfl
          refine take_ (i := 15) (N := some 54) (v := ?_) (a' := ?_) #[true, true, true, true, true, true, true, true, true, true, true, true, true, true, true, true, true, false, false, true, false, false, false] rfl rfl (take_ofW HT_.out HW_.out Zq1) (fun _ _ _ h => h) (Or.inl ⟨Zq2, ?_⟩) hHeld ?_ ?_
          rotate_left
          ·rintro w' ⟨s0, s1, s2⟩
           go_simp
           with_reducible rfl
          rotate_left
          ·simp only [Sx]
           rfl
          refine take_ (i := 18) (N := some 57) (v := ?_) (a' := ?_) #[true, true, true, true, true, true, true, true, true, true, true, true, true, true, true, true, true, false, true, true, false, false, false] rfl rfl (take_ofW HT_.out HW_.out Zq1) (fun _ _ _ h => h) (Or.inl ⟨Zq2, ?_⟩) hHeld ?_ ?_
          rotate_left
          ·rintro w' ⟨s0, s1, s2⟩
           go_simp
           with_reducible rfl
          rotate_left
          ·simp only [Sx]
           rfl
          refine one_ (i := 17) (N := some 56) #[true, true, true, true, true, true, true, true, true, true, true, true, true, true, true, true, true, true, true, true, false, false, false] rfl rfl (one_of HT_.out Zq1) (by decide) (fun K hK => ?_); refine goes_ Try.func33 Zq1 rfl #[.agg #[.string a0_0, .slice A0_1 l0_1.length c0_1, .slice A0_2 l0_2.length c0_2], .string a1] Zq2 rfl rfl Zq7 ?_; with_reducible refine (tree_Kid.calls a0_0 _ _ l0_1 _ _ l0_2 a1 tav _ ?side1 ?side2 ?side3 ?side4 A31.out).mono ?_
          (case side1 => repeat (first | exact Zq35 | (with_reducible refine Kd.C_alloc ?_ _) | (with_reducible refine Kd.C_drewN ?_ _) | (with_reducible refine Kd.C_drew ?_)))
          (case side2 => exact HC0_1.out)
          (case side3 => repeat (first | exact Zq36 | (with_reducible refine Kd.C_alloc ?_ _) | (with_reducible refine Kd.C_drewN ?_ _) | (with_reducible refine Kd.C_drew ?_)))
          (case side4 => exact HC0_2.out)
          rintro e w45 ⟨rfl, hb⟩
          refine ⟨_, rfl, ?_⟩; have n0_ := Zq38; have n1_ := Zq33; have n2_ := Zq34; clear HOac BKaa HB; have HOac := n0_; have BKaa := n1_; have HB := n2_; clear n0_ n1_ n2_
          (try clear hb)
          (try clear hb2)
          (try clear hk)
          (try clear hi)
          refine hK.out _ _ ⟨(blk_cell BKaa.out 0).trans rfl, (blk_cell BKaa.out 1).trans rfl, (blk_cell BKaa.out 2).trans rfl⟩ (fun hHeld => ?_); clear hK K; refine norm_ (a' := ?_) ?_ ?_
          rotate_left
          ·show Act.put _ (some 56) _ = _
           simp only [Sx]
           rfl
          refine one_ (i := 20) (N := some 59) #[true, true, true, true, true, true, true, true, true, true, true, true, true, true, true, true, true, true, true, true, true, false, false] rfl rfl (one_of HT_.out Zq1) (by decide) (fun K hK => ?_); refine goes_ Try.func34 Zq1 rfl #[.agg #[.string a0_0, .slice A0_1 l0_1.length c0_1, .slice A0_2 l0_2.length c0_2], .string a1] Zq2 rfl rfl Zq7 ?_; with_reducible refine (arboretref01_Kid.calls kj2 a0_0 _ _ l0_1 _ _ l0_2 a1 tau _ ?side1 ?side2 ?side3 ?side4 A32.out).mono ?_
          (case side1 => repeat (first | exact Zq35 | (with_reducible refine Kd.C_alloc ?_ _) | (with_reducible refine Kd.C_drewN ?_ _) | (with_reducible refine Kd.C_drew ?_)))
          (case side2 => exact HC0_1.out)
          (case side3 => repeat (first | exact Zq36 | (with_reducible refine Kd.C_alloc ?_ _) | (with_reducible refine Kd.C_drewN ?_ _) | (with_reducible refine Kd.C_drew ?_)))
          (case side4 => exact HC0_2.out)
          rintro e w46 ⟨rfl, hb⟩
          refine ⟨_, rfl, ?_⟩; have n0_ := Zq38; have n1_ := Zq33; have n2_ := Zq34; clear HOac BKaa HB; have HOac := n0_; have BKaa := n1_; have HB := n2_; clear n0_ n1_ n2_
          (try clear hb)
          (try clear hb2)
          (try clear hk)
          (try clear hi)
          refine hK.out _ _ ⟨(blk_cell BKaa.out 0).trans rfl, (blk_cell BKaa.out 1).trans rfl, (blk_cell BKaa.out 2).trans rfl⟩ (fun hHeld => ?_); clear hK K; refine norm_ (a' := ?_) ?_ ?_
          rotate_left
          ·show Act.put _ (some 59) _ = _
           simp only [Sx]
           rfl
          refine pure_ (i := 21) (N := some 60) (v := ?_) (a' := ?_) #[true, true, true, true, true, true, true, true, true, true, true, true, true, true, true, true, true, true, true, true, true, true, false] rfl rfl (any_of HT_.out Zq1) (fun _ _ _ h => h) (Or.inl ⟨Zq2, ?_⟩) ?_ ?_
          rotate_left
          ·intro w'
           go_simp
           with_reducible rfl
          rotate_left
          ·simp only [Sx]
           rfl
          refine pure_ (i := 22) (N := some 61) (v := ?_) (a' := ?_) #[true, true, true, true, true, true, true, true, true, true, true, true, true, true, true, true, true, true, true, true, true, true, true] rfl rfl (any_of HT_.out Zq1) (fun _ _ _ h => h) (Or.inl ⟨Zq2, ?_⟩) ?_ ?_
          rotate_left
          ·intro w'
           go_simp
           with_reducible rfl
          rotate_left
          ·simp only [Sx]
           rfl
          refine done_ (done_of HT_.out Zq1) ?_
          try go_wp2
          have n0_ := Zq46; have n1_ := Zq47; have n2_ := Zq48; clear HOac BKaa HB; have HOac := n0_; have BKaa := n1_; have HB := n2_; clear n0_ n1_ n2_; obtain ⟨Ao48, co48, eo48⟩ := Kd.R_slice HOac.out
          (first | subst eo48 | (injection eo48 with f1_ f2_ f3_; have f4_ := f1_.symm; have f5_ := f3_.symm; clear f1_ f2_ f3_; subst f4_; subst f5_))
          (try (have ec_ : decide (0 ≤ tab) = false := by rw [decide_eq_false_iff_not]; have q3_ := of_decide_eq_true (by assumption : decide (tab < 0) = true); omega))
          (try (have eb_ : (!taj) = false := by have q1_ := c21b0; have q2_ : decide (tab ≥ 0) = true := Zq13; rw [q2_] at q1_; simpa using q1_))
          (try (have eb_ : taj = false := by have q1_ := c21b0; have q2_ : decide (tab ≥ 0) = false := Zq14; rw [q2_] at q1_; simpa using q1_))
          refine start_ (n := 24) (S := fun w' => True) (ds := []) #[false, false, false, false, false, false, false, false, false, false, false, false, false, false, false, false, false, false, false, false, false, false, false, false] Zq1 rfl rfl trivial (fun hHeld => ?_); refine with_tabW arboretlaw03_TreeFinds.tab9 arboretlaw03_TreeFinds.bits9 (fun HT_ HW_ => ?_); generalize w46.drew = w47 at HOac BKaa HB hHeld ⊢; refine pure_ (i := 0) (N := some 62) (v := ?_) (a' := ?_) #[true, false, false, false, false, false, false, false, false, false, false, false, false, false, false, false, false, false, false, false, false, false, false, false] rfl rfl (any_of HT_.out Zq1) (fun _ _ _ h => h) (Or.inl ⟨Zq2, ?_⟩) ?_ ?_
          rotate_left
          ·intro w'
           go_simp
           with_reducible rfl
          rotate_left
          ·simp only [Sx]
           rfl
          refine pure_ (i := 1) (N := some 63) (v := ?_) (a' := ?_) #[true, true, false, false, false, false, false, false, false, false, false, false, false, false, false, false, false, false, false, false, false, false, false, false] rfl rfl (any_of HT_.out Zq1) (fun _ _ _ h => h) (Or.inl ⟨Zq2, ?_⟩) ?_ ?_
          rotate_left
          ·intro w'
           go_simp
           with_reducible rfl
          rotate_left
          ·simp only [Sx]
           rfl
          refine pure_ (i := 2) (N := some 64) (v := ?_) (a' := ?_) #[true, true, true, false, false, false, false, false, false, false, false, false, false, false, false, false, false, false, false, false, false, false, false, false] rfl rfl (any_of HT_.out Zq1) (fun _ _ _ h => h) (Or.inl ⟨Zq2, ?_⟩) ?_ ?_
          rotate_left
          ·intro w'
           go_simp
           with_reducible rfl
          rotate_left
          ·simp only [Sx]
           rfl
          refine pure_ (i := 3) (N := some 65) (v := ?_) (a' := ?_) #[true, true, true, true, false, false, false, false, false, false, false, false, false, false, false, false, false, false, false, false, false, false, false, false] rfl rfl (any_of HT_.out Zq1) (fun _ _ _ h => h) (Or.inl ⟨Zq2, ?_⟩) ?_ ?_
          rotate_left
          ·intro w'
           go_simp
           with_reducible rfl
          rotate_left
          ·simp only [Sx]
           rfl
          refine pure_ (i := 4) (N := some 66) (v := ?_) (a' := ?_) #[true, true, true, true, true, false, false, false, false, false, false, false, false, false, false, false, false, false, false, false, false, false, false, false] rfl rfl (any_of HT_.out Zq1) (fun _ _ _ h => h) (Or.inl ⟨Zq2, ?_⟩) ?_ ?_
          rotate_left
          ·intro w'
           go_simp
           with_reducible rfl
          rotate_left
          ·simp only [Sx]
           rfl
          refine pure_ (i := 5) (N := some 67) (v := ?_) (a' := ?_) #[true, true, true, true, true, true, false, false, false, false, false, false, false, false, false, false, false, false, false, false, false, false, false, false] rfl rfl (any_of HT_.out Zq1) (fun _ _ _ h => h) (Or.inl ⟨Zq2, ?_⟩) ?_ ?_
          rotate_left
          ·intro w'
           go_simp
           with_reducible rfl
          rotate_left
          ·simp only [Sx]
           rfl
          refine pure_ (i := 6) (N := some 68) (v := ?_) (a' := ?_) #[true, true, true, true, true, true, true, false, false, false, false, false, false, false, false, false, false, false, false, false, false, false, false, false] rfl rfl (any_of HT_.out Zq1) (fun _ _ _ h => h) (Or.inl ⟨Zq2, ?_⟩) ?_ ?_
          rotate_left
          ·intro w'
           go_simp
           with_reducible rfl
          rotate_left
          ·simp only [Sx]
           rfl
          refine pure_ (i := 7) (N := some 69) (v := ?_) (a' := ?_) #[true, true, true, true, true, true, true, true, false, false, false, false, false, false, false, false, false, false, false, false, false, false, false, false] rfl rfl (any_of HT_.out Zq1) (fun _ _ _ h => h) (Or.inl ⟨Zq2, ?_⟩) ?_ ?_
          rotate_left
          ·intro w'
           go_simp
           with_reducible rfl
          rotate_left
          ·simp only [Sx]
           rfl
          refine pure_ (i := 8) (N := some 70) (v := undef) (a' := ?_) #[true, true, true, true, true, true, true, true, true, false, false, false, false, false, false, false, false, false, false, false, false, false, false, false] rfl rfl (any_of HT_.out Zq1) (fun _ _ _ h => h) (Or.inr ⟨Zq2, rfl⟩) ?_ ?_
          rotate_left
          ·simp only [Sx]
           rfl
          refine pure_ (i := 9) (N := some 71) (v := undef) (a' := ?_) #[true, true, true, true, true, true, true, true, true, true, false, false, false, false, false, false, false, false, false, false, false, false, false, false] rfl rfl (any_of HT_.out Zq1) (fun _ _ _ h => h) (Or.inr ⟨Zq2, rfl⟩) ?_ ?_
          rotate_left
          ·simp only [Sx]
           rfl
          refine pure_ (i := 10) (N := some 72) (v := undef) (a' := ?_) #[true, true, true, true, true, true, true, true, true, true, true, false, false, false, false, false, false, false, false, false, false, false, false, false] rfl rfl (any_of HT_.out Zq1) (fun _ _ _ h => h) (Or.inr ⟨Zq2, rfl⟩) ?_ ?_
          rotate_left
          ·simp only [Sx]
           rfl
          refine pure_ (i := 11) (N := some 73) (v := undef) (a' := ?_) #[true, true, true, true, true, true, true, true, true, true, true, true, false, false, false, false, false, false, false, false, false, false, false, false] rfl rfl (any_of HT_.out Zq1) (fun _ _ _ h => h) (Or.inr ⟨Zq2, rfl⟩) ?_ ?_
          rotate_left
          ·simp only [Sx]
           rfl
          refine pure_ (i := 12) (N := some 74) (v := undef) (a' := ?_) #[true, true, true, true, true, true, true, true, true, true, true, true, true, false, false, false, false, false, false, false, false, false, false, false] rfl rfl (any_of HT_.out Zq1) (fun _ _ _ h => h) (Or.inr ⟨Zq2, rfl⟩) ?_ ?_
          rotate_left
          ·simp only [Sx]
           rfl
          refine pure_ (i := 13) (N := some 75) (v := undef) (a' := ?_) #[true, true, true, true, true, true, true, true, true, true, true, true, true, true, false, false, false, false, false, false, false, false, false, false] rfl rfl (any_of HT_.out Zq1) (fun _ _ _ h => h) (Or.inr ⟨Zq2, rfl⟩) ?_ ?_
          rotate_left
          ·simp only [Sx]
           rfl
          refine pure_ (i := 14) (N := some 76) (v := undef) (a' := ?_) #[true, true, true, true, true, true, true, true, true, true, true, true, true, true, true, false, false, false, false, false, false, false, false, false] rfl rfl (any_of HT_.out Zq1) (fun _ _ _ h => h) (Or.inr ⟨Zq2, rfl⟩) ?_ ?_
          rotate_left
          ·simp only [Sx]
           rfl
          refine pure_ (i := 15) (N := some 77) (v := undef) (a' := ?_) #[true, true, true, true, true, true, true, true, true, true, true, true, true, true, true, true, false, false, false, false, false, false, false, false] rfl rfl (any_of HT_.out Zq1) (fun _ _ _ h => h) (Or.inr ⟨Zq2, rfl⟩) ?_ ?_
          rotate_left
          ·simp only [Sx]
           rfl
          refine pure_ (i := 16) (N := some 78) (v := undef) (a' := ?_) #[true, true, true, true, true, true, true, true, true, true, true, true, true, true, true, true, true, false, false, false, false, false, false, false] rfl rfl (any_of HT_.out Zq1) (fun _ _ _ h => h) (Or.inr ⟨Zq2, rfl⟩) ?_ ?_
          rotate_left
          ·simp only [Sx]
           rfl
          refine pure_ (i := 17) (N := some 79) (v := undef) (a' := ?_) #[true, true, true, true, true, true, true, true, true, true, true, true, true, true, true, true, true, true, false, false, false, false, false, false] rfl rfl (any_of HT_.out Zq1) (fun _ _ _ h => h) (Or.inr ⟨Zq2, rfl⟩) ?_ ?_
          rotate_left
          ·simp only [Sx]
           rfl
          refine pure_ (i := 18) (N := some 80) (v := undef) (a' := ?_) #[true, true, true, true, true, true, true, true, true, true, true, true, true, true, true, true, true, true, true, false, false, false, false, false] rfl rfl (any_of HT_.out Zq1) (fun _ _ _ h => h) (Or.inr ⟨Zq2, rfl⟩) ?_ ?_
          rotate_left
          ·simp only [Sx]
           rfl
          refine pure_ (i := 19) (N := some 81) (v := undef) (a' := ?_) #[true, true, true, true, true, true, true, true, true, true, true, true, true, true, true, true, true, true, true, true, false, false, false, false] rfl rfl (any_of HT_.out Zq1) (fun _ _ _ h => h) (Or.inr ⟨Zq2, rfl⟩) ?_ ?_
          rotate_left
          ·simp only [Sx]
           rfl
          refine pure_ (i := 20) (N := some 82) (v := undef) (a' := ?_) #[true, true, true, true, true, true, true, true, true, true, true, true, true, true, true, true, true, true, true, true, true, false, false, false] rfl rfl (any_of HT_.out Zq1) (fun _ _ _ h => h) (Or.inr ⟨Zq2, rfl⟩) ?_ ?_
          rotate_left
          ·simp only [Sx]
           rfl
          refine pure_ (i := 21) (N := some 83) (v := undef) (a' := ?_) #[true, true, true, true, true, true, true, true, true, true, true, true, true, true, true, true, true, true, true, true, true, true, false, false] rfl rfl (any_of HT_.out Zq1) (fun _ _ _ h => h) (Or.inr ⟨Zq2, rfl⟩) ?_ ?_
          rotate_left
          ·simp only [Sx]
           rfl
          refine pure_ (i := 22) (N := some 84) (v := ?_) (a' := ?_) #[true, true, true, true, true, true, true, true, true, true, true, true, true, true, true, true, true, true, true, true, true, true, true, false] rfl rfl (any_of HT_.out Zq1) (fun _ _ _ h => h) (Or.inl ⟨Zq2, ?_⟩) ?_ ?_
          rotate_left
          ·intro w'
           go_simp
           with_reducible rfl
          rotate_left
          ·simp only [Sx]
           rfl
          refine pure_ (i := 23) (N := some 4) (v := ?_) (a' := ?_) #[true, true, true, true, true, true, true, true, true, true, true, true, true, true, true, true, true, true, true, true, true, true, true, true] rfl rfl (any_of HT_.out Zq1) (fun _ _ _ h => h) (Or.inl ⟨Zq2, ?_⟩) ?_ ?_
          rotate_left
          ·intro w'
           go_simp
           with_reducible rfl
          rotate_left
          ·simp only [Sx]
           rfl
          refine done_ (done_of HT_.out Zq1) ?_
          try go_wp2
          go_ret
          exact ⟨Zq10, Zq4⟩
         ·rw [if_neg c35] at H; have c35b0 : ((tai.length : Int) == 0) = false := beq_eq_false_iff_ne.mpr c35; have c35b1 : ((tai.length : Int) != 0) = true := bne_iff_ne.mpr c35
          have c35b2 : ¬ (tai = []) := fun h_ => c35 (by rw [h_]; rfl)
          by_cases c49 : tab ≥ 0
          ·exact absurd c49 (by have q3_ := of_decide_eq_true c34b0; omega)
          ·rw [if_neg c49] at H; have c49b0 : decide (0 ≤ tab) = false := decide_eq_false c49; clear c49; obtain rfl := Option.some.inj H; have hcz68_0 : wc.cell? ⟨gbaa, 0, none⟩ = some (.string a0_0) := (blk_cell BKaa.out 0).trans rfl; have hcz68_1 : wc.cell? ⟨gbaa, 1, none⟩ = some (.slice A0_1 l0_1.length c0_1) := (blk_cell BKaa.out 1).trans rfl; have hcz68_2 : wc.cell? ⟨gbaa, 2, none⟩ = some (.slice A0_2 l0_2.length c0_2) := (blk_cell BKaa.out 2).trans rfl; have hfz68_0 := blk_frozen BKaa.out 0; have hfz68_1 := blk_frozen BKaa.out 1; have hfz68_2 := blk_frozen BKaa.out 2
           try go_wp2_with (first | ((with_reducible refine gate_callee (f := 29) rfl ?_); refine goesL_ (some 22) rfl rfl Try.func29 Zq1 rfl #[.agg #[.string a0_0, .slice A0_1 l0_1.length c0_1, .slice A0_2 l0_2.length c0_2]] rfl Zq7 ?_; (with_reducible refine (tree_Count.calls kj2 a0_0 _ _ l0_1 _ _ l0_2 taw taC _ ?side1 ?side2 ?side3 ?side4 A15.out).mono ?_); (case side1 => repeat (first | exact Zq35 | (with_reducible refine Kd.C_alloc ?_ _) | (with_reducible refine Kd.C_drewN ?_ _) | (with_reducible refine Kd.C_drew ?_))); (case side2 => exact HC0_1.out); (case side3 => repeat (first | exact Zq36 | (with_reducible refine Kd.C_alloc ?_ _) | (with_reducible refine Kd.C_drewN ?_ _) | (with_reducible refine Kd.C_drew ?_))); (case side4 => exact HC0_2.out); rintro e w69 ⟨rfl, hb⟩; refine ⟨_, rfl, ?_⟩; have n0_ := Zq33; have n1_ := Zq34; clear BKaa HB; have BKaa := n0_; have HB := n1_; clear n0_ n1_; (try clear hb); (try clear hb2); (try clear hk); (try clear hi); have hcz70_0 : w69.cell? ⟨gbaa, 0, none⟩ = some (.string a0_0) := (blk_cell BKaa.out 0).trans rfl; have hcz70_1 : w69.cell? ⟨gbaa, 1, none⟩ = some (.slice A0_1 l0_1.length c0_1) := (blk_cell BKaa.out 1).trans rfl; have hcz70_2 : w69.cell? ⟨gbaa, 2, none⟩ = some (.slice A0_2 l0_2.length c0_2) := (blk_cell BKaa.out 2).trans rfl; have hfz70_0 := blk_frozen BKaa.out 0; have hfz70_1 := blk_frozen BKaa.out 1; have hfz70_2 := blk_frozen BKaa.out 2) | ((with_reducible refine gate_callee (f := 30) rfl ?_); refine goesL_ (some 27) rfl rfl Try.func30 Zq1 rfl #[.agg #[.string a0_0, .slice A0_1 l0_1.length c0_1, .slice A0_2 l0_2.length c0_2]] rfl Zq7 ?_; (with_reducible refine (arboretref01_Count.calls kj2 a0_0 _ _ l0_1 _ _ l0_2 tar taD _ ?side1 ?side2 ?side3 ?side4 A16.out).mono ?_); (case side1 => repeat (first | exact Zq35 | (with_reducible refine Kd.C_alloc ?_ _) | (with_reducible refine Kd.C_drewN ?_ _) | (with_reducible refine Kd.C_drew ?_))); (case side2 => exact HC0_1.out); (case side3 => repeat (first | exact Zq36 | (with_reducible refine Kd.C_alloc ?_ _) | (with_reducible refine Kd.C_drewN ?_ _) | (with_reducible refine Kd.C_drew ?_))); (case side4 => exact HC0_2.out); rintro e w71 ⟨rfl, hb⟩; refine ⟨_, rfl, ?_⟩; have n0_ := Zq33; have n1_ := Zq34; clear BKaa HB; have BKaa := n0_; have HB := n1_; clear n0_ n1_; (try clear hb); (try clear hb2); (try clear hk); (try clear hi); have hcz72_0 : w71.cell? ⟨gbaa, 0, none⟩ = some (.string a0_0) := (blk_cell BKaa.out 0).trans rfl; have hcz72_1 : w71.cell? ⟨gbaa, 1, none⟩ = some (.slice A0_1 l0_1.length c0_1) := (blk_cell BKaa.out 1).trans rfl; have hcz72_2 : w71.cell? ⟨gbaa, 2, none⟩ = some (.slice A0_2 l0_2.length c0_2) := (blk_cell BKaa.out 2).trans rfl; have hfz72_0 := blk_frozen BKaa.out 0; have hfz72_1 := blk_frozen BKaa.out 1; have hfz72_2 := blk_frozen BKaa.out 2) | ((with_reducible refine gate_callee (f := 31) rfl ?_); refine goesL_ (some 33) rfl rfl Try.func31 Zq1 rfl #[.agg #[.string a0_0, .slice A0_1 l0_1.length c0_1, .slice A0_2 l0_2.length c0_2], .string a1] rfl Zq7 ?_; (with_reducible refine (tree_Find.calls kj2 a0_0 _ _ l0_1 _ _ l0_2 a1 tai taj _ ?side1 ?side2 ?side3 ?side4 A17.out).mono ?_); (case side1 => repeat (first | exact Zq35 | (with_reducible refine Kd.C_alloc ?_ _) | (with_reducible refine Kd.C_drewN ?_ _) | (with_reducible refine Kd.C_drew ?_))); (case side2 => exact HC0_1.out); (case side3 => repeat (first | exact Zq36 | (with_reducible refine Kd.C_alloc ?_ _) | (with_reducible refine Kd.C_drewN ?_ _) | (with_reducible refine Kd.C_drew ?_))); (case side4 => exact HC0_2.out); rintro e w73 ⟨v786, rfl, ho0, hb⟩; refine ⟨_, rfl, ?_⟩; have n0_ := Zq49; have n1_ := Zq33; have n2_ := Zq34; clear BKaa HB; have HOac := n0_; have BKaa := n1_; have HB := n2_; clear n0_ n1_ n2_; (try clear hb); (try clear hb2); (try clear hk); (try clear hi); (try clear ho0); have hcz74_0 : w73.cell? ⟨gbaa, 0, none⟩ = some (.string a0_0) := (blk_cell BKaa.out 0).trans rfl; have hcz74_1 : w73.cell? ⟨gbaa, 1, none⟩ = some (.slice A0_1 l0_1.length c0_1) := (blk_cell BKaa.out 1).trans rfl; have hcz74_2 : w73.cell? ⟨gbaa, 2, none⟩ = some (.slice A0_2 l0_2.length c0_2) := (blk_cell BKaa.out 2).trans rfl; have hfz74_0 := blk_frozen BKaa.out 0; have hfz74_1 := blk_frozen BKaa.out 1; have hfz74_2 := blk_frozen BKaa.out 2) | ((with_reducible refine gate_callee (f := 32) rfl ?_); refine goesL_ (some 38) rfl rfl Try.func32 Zq1 rfl #[.agg #[.string a0_0, .slice A0_1 l0_1.length c0_1, .slice A0_2 l0_2.length c0_2], .string a1] rfl Zq7 ?_; (with_reducible refine (arboretref01_Find.calls kj2 a0_0 _ _ l0_1 _ _ l0_2 a1 tab _ ?side1 ?side2 ?side3 ?side4 A18.out).mono ?_); (case side1 => repeat (first | exact Zq35 | (with_reducible refine Kd.C_alloc ?_ _) | (with_reducible refine Kd.C_drewN ?_ _) | (with_reducible refine Kd.C_drew ?_))); (case side2 => exact HC0_1.out); (case side3 => repeat (first | exact Zq36 | (with_reducible refine Kd.C_alloc ?_ _) | (with_reducible refine Kd.C_drewN ?_ _) | (with_reducible refine Kd.C_drew ?_))); (case side4 => exact HC0_2.out); rintro e w75 ⟨rfl, hb⟩; refine ⟨_, rfl, ?_⟩; have n0_ := Zq38; have n1_ := Zq33; have n2_ := Zq34; clear HOac BKaa HB; have HOac := n0_; have BKaa := n1_; have HB := n2_; clear n0_ n1_ n2_; (try clear hb); (try clear hb2); (try clear hk); (try clear hi)))
           have n0_ := Zq46; have n1_ := Zq47; have n2_ := Zq48; clear HOac BKaa HB; have HOac := n0_; have BKaa := n1_; have HB := n2_; clear n0_ n1_ n2_
           (try (have ec_ : decide (0 ≤ tab) = false := by rw [decide_eq_false_iff_not]; have q3_ := of_decide_eq_true (by assumption : decide (tab < 0) = true); omega))
           (try (have eb_ : (!taj) = false := by have q1_ := c21b0; have q2_ : decide (tab ≥ 0) = true := Zq13; rw [q2_] at q1_; simpa using q1_))
           (try (have eb_ : taj = false := by have q1_ := c21b0; have q2_ : decide (tab ≥ 0) = false := Zq14; rw [q2_] at q1_; simpa using q1_))
           refine start_ (n := 23) (S := fun w' => w'.cell? ⟨gbaa, 0, none⟩ = some (.string a0_0) ∧ w'.cell? ⟨gbaa, 1, none⟩ = some (.slice A0_1 l0_1.length c0_1) ∧ w'.cell? ⟨gbaa, 2, none⟩ = some (.slice A0_2 l0_2.length c0_2)) (ds := []) #[false, false, false, false, false, false, false, false, false, false, false, false, false, false, false, false, false, false, false, false, false, false, false] Zq1 rfl rfl ⟨(blk_cell BKaa.out 0).trans rfl, (blk_cell BKaa.out 1).trans rfl, (blk_cell BKaa.out 2).trans rfl⟩ (fun hHeld => ?_); refine with_tabW arboretlaw03_TreeFinds.tab7 arboretlaw03_TreeFinds.bits7 (fun HT_ HW_ => ?_); generalize w75.drew = w76 at HOac BKaa HB hHeld ⊢; refine pure_ (i := 0) (N := some 39) (v := ?_) (a' := ?_) #[true, false, false, false, false, false, false, false, false, false, false, false, false, false, false, false, false, false, false, false, false, false, false] rfl rfl (any_of HT_.out Zq1) (fun _ _ _ h => h) (Or.inl ⟨Zq2, ?_⟩) ?_ ?_
           rotate_left
           ·intro w'
            go_simp
            with_reducible rfl
           rotate_left
           ·simp only [Sx]
            rfl
           refine pure_ (i := 1) (N := some 40) (v := ?_) (a' := ?_) #[true, true, false, false, false, false, false, false, false, false, false, false, false, false, false, false, false, false, false, false, false, false, false] rfl rfl (any_of HT_.out Zq1) (fun _ _ _ h => h) (Or.inl ⟨Zq2, ?_⟩) ?_ ?_
           rotate_left
           ·intro w'
            go_simp
            with_reducible rfl
           rotate_left
           ·simp only [Sx]
            rfl
           refine pure_ (i := 2) (N := some 41) (v := ?_) (a' := ?_) #[true, true, true, false, false, false, false, false, false, false, false, false, false, false, false, false, false, false, false, false, false, false, false] rfl rfl (any_of HT_.out Zq1) (fun _ _ _ h => h) (Or.inl ⟨Zq2, ?_⟩) ?_ ?_
           rotate_left
           ·intro w'
            go_simp
            with_reducible rfl
           rotate_left
           ·simp only [Sx]
            rfl
           refine pure_ (i := 3) (N := some 42) (v := ?_) (a' := ?_) #[true, true, true, true, false, false, false, false, false, false, false, false, false, false, false, false, false, false, false, false, false, false, false] rfl rfl (any_of HT_.out Zq1) (fun _ _ _ h => h) (Or.inl ⟨Zq2, ?_⟩) ?_ ?_
           rotate_left
           ·intro w'
            go_simp
            with_reducible rfl
           rotate_left
           ·simp only [Sx]
            rfl
           refine pure_ (i := 4) (N := some 43) (v := ?_) (a' := ?_) #[true, true, true, true, true, false, false, false, false, false, false, false, false, false, false, false, false, false, false, false, false, false, false] rfl rfl (any_of HT_.out Zq1) (fun _ _ _ h => h) (Or.inl ⟨Zq2, ?_⟩) ?_ ?_
           rotate_left
           ·intro w'
            go_simp
            with_reducible rfl
           rotate_left
           ·simp only [Sx]
            rfl
           refine pure_ (i := 5) (N := some 44) (v := ?_) (a' := ?_) #[true, true, true, true, true, true, false, false, false, false, false, false, false, false, false, false, false, false, false, false, false, false, false] rfl rfl (any_of HT_.out Zq1) (fun _ _ _ h => h) (Or.inl ⟨Zq2, ?_⟩) ?_ ?_
           rotate_left
           ·intro w'
            go_simp
            with_reducible rfl
           rotate_left
           ·simp only [Sx]
            rfl
           refine pure_ (i := 6) (N := some 45) (v := ?_) (a' := ?_) #[true, true, true, true, true, true, true, false, false, false, false, false, false, false, false, false, false, false, false, false, false, false, false] rfl rfl (any_of HT_.out Zq1) (fun _ _ _ h => h) (Or.inl ⟨Zq2, ?_⟩) ?_ ?_
           rotate_left
           ·intro w'
            go_simp
            with_reducible rfl
           rotate_left
           ·simp only [Sx]
            rfl
           refine pure_ (i := 7) (N := some 46) (v := ?_) (a' := ?_) #[true, true, true, true, true, true, true, true, false, false, false, false, false, false, false, false, false, false, false, false, false, false, false] rfl rfl (any_of HT_.out Zq1) (fun _ _ _ h => h) (Or.inl ⟨Zq2, ?_⟩) ?_ ?_
           rotate_left
           ·intro w'
            go_simp
            with_reducible rfl
           rotate_left
           ·simp only [Sx]
            rfl
           refine pure_ (i := 8) (N := some 47) (v := ?_) (a' := ?_) #[true, true, true, true, true, true, true, true, true, false, false, false, false, false, false, false, false, false, false, false, false, false, false] rfl rfl (any_of HT_.out Zq1) (fun _ _ _ h => h) (Or.inl ⟨Zq2, ?_⟩) ?_ ?_
           rotate_left
           ·intro w'
            go_simp
            with_reducible rfl
           rotate_left
           ·simp only [Sx]
            rfl
           refine pure_ (i := 9) (N := some 48) (v := ?_) (a' := ?_) #[true, true, true, true, true, true, true, true, true, true, false, false, false, false, false, false, false, false, false, false, false, false, false] rfl rfl (any_of HT_.out Zq1) (fun _ _ _ h => h) (Or.inl ⟨Zq2, ?_⟩) ?_ ?_
           rotate_left
           ·intro w'
            go_simp
            with_reducible rfl
           rotate_left
           ·simp only [Sx]
            rfl
           refine pure_ (i := 10) (N := some 49) (v := ?_) (a' := ?_) #[true, true, true, true, true, true, true, true, true, true, true, false, false, false, false, false, false, false, false, false, false, false, false] rfl rfl (any_of HT_.out Zq1) (fun _ _ _ h => h) (Or.inl ⟨Zq2, ?_⟩) ?_ ?_
           rotate_left
           ·intro w'
            go_simp
            with_reducible rfl
           rotate_left
           ·simp only [Sx]
            rfl
           refine pure_ (i := 11) (N := some 50) (v := ?_) (a' := ?_) #[true, true, true, true, true, true, true, true, true, true, true, true, false, false, false, false, false, false, false, false, false, false, false] rfl rfl (any_of HT_.out Zq1) (fun _ _ _ h => h) (Or.inl ⟨Zq2, ?_⟩) ?_ ?_
           rotate_left
           ·intro w'
            go_simp
            with_reducible rfl
           rotate_left
           ·simp only [Sx]
            rfl
           refine pure_ (i := 12) (N := some 51) (v := ?_) (a' := ?_) #[true, true, true, true, true, true, true, true, true, true, true, true, true, false, false, false, false, false, false, false, false, false, false] rfl rfl (any_of HT_.out Zq1) (fun _ _ _ h => h) (Or.inl ⟨Zq2, ?_⟩) ?_ ?_
           rotate_left
           ·intro w'
            go_simp
            with_reducible rfl
           rotate_left
           ·simp only [Sx]
            rfl
           refine pure_ (i := 13) (N := some 52) (v := ?_) (a' := ?_) #[true, true, true, true, true, true, true, true, true, true, true, true, true, true, false, false, false, false, false, false, false, false, false] rfl rfl (any_of HT_.out Zq1) (fun _ _ _ h => h) (Or.inl ⟨Zq2, ?_⟩) ?_ ?_
           rotate_left
           ·intro w'
            go_simp
            with_reducible rfl
           rotate_left
           ·simp only [Sx]
            rfl
           refine pure_ (i := 14) (N := some 53) (v := ?_) (a' := ?_) #[true, true, true, true, true, true, true, true, true, true, true, true, true, true, true, false, false, false, false, false, false, false, false] rfl rfl (any_of HT_.out Zq1) (fun _ _ _ h => h) (Or.inl ⟨Zq2, ?_⟩) ?_ ?_
           rotate_left
           ·intro w'
            go_simp
            with_reducible rfl
           rotate_left
           ·simp only [Sx]
            rfl
           refine pure_ (i := 16) (N := some 55) (v := ?_) (a' := ?_) #[true, true, true, true, true, true, true, true, true, true, true, true, true, true, true, false, true, false, false, false, false, false, false] rfl rfl (any_of HT_.out Zq1) (fun _ _ _ h => h) (Or.inl ⟨Zq2, ?_⟩) ?_ ?_
           rotate_left
           ·intro w'
            go_simp
            with_reducible rfl
           rotate_left
           ·simp only [Sx]
            rfl
           refine pure_ (i := 19) (N := some 58) (v := ?_) (a' := ?_) #[true, true, true, true, true, true, true, true, true, true, true, true, true, true, true, false, true, false, false, true, false, false, false] rfl rfl (any_of HT_.out Zq1) (fun _ _ _ h => h) (Or.inl ⟨Zq2, ?_⟩) ?_ ?_
           rotate_left
           ·intro w'
            go_simp
            with_reducible rfl
           rotate_left
           ·simp only [Sx]
            rfl
           refine take_ (i := 15) (N := some 54) (v := ?_) (a' := ?_) #[true, true, true, true, true, true, true, true, true, true, true, true, true, true, true, true, true, false, false, true, false, false, false] rfl rfl (take_ofW HT_.out HW_.out Zq1) (fun _ _ _ h => h) (Or.inl ⟨Zq2, ?_⟩) hHeld ?_ ?_
           rotate_left
           ·rintro w' ⟨s0, s1, s2⟩
            go_simp
            with_reducible rfl
           rotate_left
           ·simp only [Sx]
            rfl
           refine take_ (i := 18) (N := some 57) (v := ?_) (a' := ?_) #[true, true, true, true, true, true, true, true, true, true, true, true, true, true, true, true, true, false, true, true, false, false, false] rfl rfl (take_ofW HT_.out HW_.out Zq1) (fun _ _ _ h => h) (Or.inl ⟨Zq2, ?_⟩) hHeld ?_ ?_
           rotate_left
           ·rintro w' ⟨s0, s1, s2⟩
            go_simp
            with_reducible rfl
           rotate_left
           ·simp only [Sx]
            rfl
           refine one_ (i := 17) (N := some 56) #[true, true, true, true, true, true, true, true, true, true, true, true, true, true, true, true, true, true, true, true, false, false, false] rfl rfl (one_of HT_.out Zq1) (by decide) (fun K hK => ?_); refine goes_ Try.func33 Zq1 rfl #[.agg #[.string a0_0, .slice A0_1 l0_1.length c0_1, .slice A0_2 l0_2.length c0_2], .string a1] Zq2 rfl rfl Zq7 ?_; with_reducible refine (tree_Kid.calls a0_0 _ _ l0_1 _ _ l0_2 a1 tav _ ?side1 ?side2 ?side3 ?side4 A31.out).mono ?_
           (case side1 => repeat (first | exact Zq35 | (with_reducible refine Kd.C_alloc ?_ _) | (with_reducible refine Kd.C_drewN ?_ _) | (with_reducible refine Kd.C_drew ?_)))
           (case side2 => exact HC0_1.out)
           (case side3 => repeat (first | exact Zq36 | (with_reducible refine Kd.C_alloc ?_ _) | (with_reducible refine Kd.C_drewN ?_ _) | (with_reducible refine Kd.C_drew ?_)))
           (case side4 => exact HC0_2.out)
           rintro e w77 ⟨rfl, hb⟩
           refine ⟨_, rfl, ?_⟩; have n0_ := Zq38; have n1_ := Zq33; have n2_ := Zq34; clear HOac BKaa HB; have HOac := n0_; have BKaa := n1_; have HB := n2_; clear n0_ n1_ n2_
           (try clear hb)
           (try clear hb2)
           (try clear hk)
           (try clear hi)
           refine hK.out _ _ ⟨(blk_cell BKaa.out 0).trans rfl, (blk_cell BKaa.out 1).trans rfl, (blk_cell BKaa.out 2).trans rfl⟩ (fun hHeld => ?_); clear hK K; refine norm_ (a' := ?_) ?_ ?_
           rotate_left
           ·show Act.put _ (some 56) _ = _
            simp only [Sx]
            rfl
           refine one_ (i := 20) (N := some 59) #[true, true, true, true, true, true, true, true, true, true, true, true, true, true, true, true, true, true, true, true, true, false, false] rfl rfl (one_of HT_.out Zq1) (by decide) (fun K hK => ?_); refine goes_ Try.func34 Zq1 rfl #[.agg #[.string a0_0, .slice A0_1 l0_1.length c0_1, .slice A0_2 l0_2.length c0_2], .string a1] Zq2 rfl rfl Zq7 ?_; with_reducible refine (arboretref01_Kid.calls kj2 a0_0 _ _ l0_1 _ _ l0_2 a1 tau _ ?side1 ?side2 ?side3 ?side4 A32.out).mono ?_
           (case side1 => repeat (first | exact Zq35 | (with_reducible refine Kd.C_alloc ?_ _) | (with_reducible refine Kd.C_drewN ?_ _) | (with_reducible refine Kd.C_drew ?_)))
           (case side2 => exact HC0_1.out)
           (case side3 => repeat (first | exact Zq36 | (with_reducible refine Kd.C_alloc ?_ _) | (with_reducible refine Kd.C_drewN ?_ _) | (with_reducible refine Kd.C_drew ?_)))
           (case side4 => exact HC0_2.out)
           rintro e w78 ⟨rfl, hb⟩
           refine ⟨_, rfl, ?_⟩; have n0_ := Zq38; have n1_ := Zq33; have n2_ := Zq34; clear HOac BKaa HB; have HOac := n0_; have BKaa := n1_; have HB := n2_; clear n0_ n1_ n2_
           (try clear hb)
           (try clear hb2)
           (try clear hk)
           (try clear hi)
           refine hK.out _ _ ⟨(blk_cell BKaa.out 0).trans rfl, (blk_cell BKaa.out 1).trans rfl, (blk_cell BKaa.out 2).trans rfl⟩ (fun hHeld => ?_); clear hK K; refine norm_ (a' := ?_) ?_ ?_
           rotate_left
           ·show Act.put _ (some 59) _ = _
            simp only [Sx]
            rfl
           refine pure_ (i := 21) (N := some 60) (v := ?_) (a' := ?_) #[true, true, true, true, true, true, true, true, true, true, true, true, true, true, true, true, true, true, true, true, true, true, false] rfl rfl (any_of HT_.out Zq1) (fun _ _ _ h => h) (Or.inl ⟨Zq2, ?_⟩) ?_ ?_
           rotate_left
           ·intro w'
            go_simp
            with_reducible rfl
           rotate_left
           ·simp only [Sx]
            rfl
           refine pure_ (i := 22) (N := some 61) (v := ?_) (a' := ?_) #[true, true, true, true, true, true, true, true, true, true, true, true, true, true, true, true, true, true, true, true, true, true, true] rfl rfl (any_of HT_.out Zq1) (fun _ _ _ h => h) (Or.inl ⟨Zq2, ?_⟩) ?_ ?_
           rotate_left
           ·intro w'
            go_simp
            with_reducible rfl
           rotate_left
           ·simp only [Sx]
            rfl
           refine done_ (done_of HT_.out Zq1) ?_
           try go_wp2
           have n0_ := Zq46; have n1_ := Zq47; have n2_ := Zq48; clear HOac BKaa HB; have HOac := n0_; have BKaa := n1_; have HB := n2_; clear n0_ n1_ n2_; obtain ⟨Ao80, co80, eo80⟩ := Kd.R_slice HOac.out
           (first | subst eo80 | (injection eo80 with f1_ f2_ f3_; have f4_ := f1_.symm; have f5_ := f3_.symm; clear f1_ f2_ f3_; subst f4_; subst f5_))
           (try (have ec_ : decide (0 ≤ tab) = false := by rw [decide_eq_false_iff_not]; have q3_ := of_decide_eq_true (by assumption : decide (tab < 0) = true); omega))
           (try (have eb_ : (!taj) = false := by have q1_ := c21b0; have q2_ : decide (tab ≥ 0) = true := Zq13; rw [q2_] at q1_; simpa using q1_))
           (try (have eb_ : taj = false := by have q1_ := c21b0; have q2_ : decide (tab ≥ 0) = false := Zq14; rw [q2_] at q1_; simpa using q1_))
           refine start_ (n := 24) (S := fun w' => True) (ds := []) #[false, false, false, false, false, false, false, false, false, false, false, false, false, false, false, false, false, false, false, false, false, false, false, false] Zq1 rfl rfl trivial (fun hHeld => ?_); refine with_tabW arboretlaw03_TreeFinds.tab9 arboretlaw03_TreeFinds.bits9 (fun HT_ HW_ => ?_); generalize w78.drew = w79 at HOac BKaa HB hHeld ⊢; refine pure_ (i := 0) (N := some 62) (v := ?_) (a' := ?_) #[true, false, false, false, false, false, false, false, false, false, false, false, false, false, false, false, false, false, false, false, false, false, false, false] rfl rfl (any_of HT_.out Zq1) (fun _ _ _ h => h) (Or.inl ⟨Zq2, ?_⟩) ?_ ?_
           rotate_left
           ·intro w'
            go_simp
            with_reducible rfl
           rotate_left
           ·simp only [Sx]
            rfl
           refine pure_ (i := 1) (N := some 63) (v := ?_) (a' := ?_) #[true, true, false, false, false, false, false, false, false, false, false, false, false, false, false, false, false, false, false, false, false, false, false, false] rfl rfl (any_of HT_.out Zq1) (fun _ _ _ h => h) (Or.inl ⟨Zq2, ?_⟩) ?_ ?_
           rotate_left
           ·intro w'
            go_simp
            with_reducible rfl
           rotate_left
           ·simp only [Sx]
            rfl
           refine pure_ (i := 2) (N := some 64) (v := ?_) (a' := ?_) #[true, true, true, false, false, false, false, false, false, false, false, false, false, false, false, false, false, false, false, false, false, false, false, false] rfl rfl (any_of HT_.out Zq1) (fun _ _ _ h => h) (Or.inl ⟨Zq2, ?_⟩) ?_ ?_
           rotate_left
           ·intro w'
            go_simp
            with_reducible rfl
           rotate_left
           ·simp only [Sx]
            rfl
           refine pure_ (i := 3) (N := some 65) (v := ?_) (a' := ?_) #[true, true, true, true, false, false, false, false, false, false, false, false, false, false, false, false, false, false, false, false, false, false, false, false] rfl rfl (any_of HT_.out Zq1) (fun _ _ _ h => h) (Or.inl ⟨Zq2, ?_⟩) ?_ ?_
           rotate_left
           ·intro w'
            go_simp
            with_reducible rfl
           rotate_left
           ·simp only [Sx]
            rfl
           refine pure_ (i := 4) (N := some 66) (v := ?_) (a' := ?_) #[true, true, true, true, true, false, false, false, false, false, false, false, false, false, false, false, false, false, false, false, false, false, false, false] rfl rfl (any_of HT_.out Zq1) (fun _ _ _ h => h) (Or.inl ⟨Zq2, ?_⟩) ?_ ?_
           rotate_left
           ·intro w'
            go_simp
            with_reducible rfl
           rotate_left
           ·simp only [Sx]
            rfl
           refine pure_ (i := 5) (N := some 67) (v := ?_) (a' := ?_) #[true, true, true, true, true, true, false, false, false, false, false, false, false, false, false, false, false, false, false, false, false, false, false, false] rfl rfl (any_of HT_.out Zq1) (fun _ _ _ h => h) (Or.inl ⟨Zq2, ?_⟩) ?_ ?_
           rotate_left
           ·intro w'
            go_simp
            with_reducible rfl
           rotate_left
           ·simp only [Sx]
            rfl
           refine pure_ (i := 6) (N := some 68) (v := ?_) (a' := ?_) #[true, true, true, true, true, true, true, false, false, false, false, false, false, false, false, false, false, false, false, false, false, false, false, false] rfl rfl (any_of HT_.out Zq1) (fun _ _ _ h => h) (Or.inl ⟨Zq2, ?_⟩) ?_ ?_
           rotate_left
           ·intro w'
            go_simp
            with_reducible rfl
           rotate_left
           ·simp only [Sx]
            rfl
           refine pure_ (i := 7) (N := some 69) (v := ?_) (a' := ?_) #[true, true, true, true, true, true, true, true, false, false, false, false, false, false, false, false, false, false, false, false, false, false, false, false] rfl rfl (any_of HT_.out Zq1) (fun _ _ _ h => h) (Or.inl ⟨Zq2, ?_⟩) ?_ ?_
           rotate_left
           ·intro w'
            go_simp
            with_reducible rfl
           rotate_left
           ·simp only [Sx]
            rfl
           refine pure_ (i := 8) (N := some 70) (v := ?_) (a' := ?_) #[true, true, true, true, true, true, true, true, true, false, false, false, false, false, false, false, false, false, false, false, false, false, false, false] rfl rfl (any_of HT_.out Zq1) (fun _ _ _ h => h) (Or.inl ⟨Zq2, ?_⟩) ?_ ?_
           rotate_left
           ·intro w'
            go_simp
            with_reducible rfl
           rotate_left
           ·simp only [Sx]
            rfl
           refine pure_ (i := 9) (N := some 71) (v := ?_) (a' := ?_) #[true, true, true, true, true, true, true, true, true, true, false, false, false, false, false, false, false, false, false, false, false, false, false, false] rfl rfl (any_of HT_.out Zq1) (fun _ _ _ h => h) (Or.inl ⟨Zq2, ?_⟩) ?_ ?_
           rotate_left
           ·intro w'
            go_simp
            with_reducible rfl
           rotate_left
           ·simp only [Sx]
            rfl
           refine pure_ (i := 10) (N := some 72) (v := ?_) (a' := ?_) #[true, true, true, true, true, true, true, true, true, true, true, false, false, false, false, false, false, false, false, false, false, false, false, false] rfl rfl (any_of HT_.out Zq1) (fun _ _ _ h => h) (Or.inl ⟨Zq2, ?_⟩) ?_ ?_
           rotate_left
           ·intro w'
            go_simp
            with_reducible rfl
           rotate_left
           ·simp only [Sx]
            rfl
           refine pure_ (i := 11) (N := some 73) (v := undef) (a' := ?_) #[true, true, true, true, true, true, true, true, true, true, true, true, false, false, false, false, false, false, false, false, false, false, false, false] rfl rfl (any_of HT_.out Zq1) (fun _ _ _ h => h) (Or.inr ⟨Zq2, rfl⟩) ?_ ?_
           rotate_left
           ·simp only [Sx]
            rfl
           refine pure_ (i := 12) (N := some 74) (v := undef) (a' := ?_) #[true, true, true, true, true, true, true, true, true, true, true, true, true, false, false, false, false, false, false, false, false, false, false, false] rfl rfl (any_of HT_.out Zq1) (fun _ _ _ h => h) (Or.inr ⟨Zq2, rfl⟩) ?_ ?_
           rotate_left
           ·simp only [Sx]
            rfl
           refine pure_ (i := 13) (N := some 75) (v := undef) (a' := ?_) #[true, true, true, true, true, true, true, true, true, true, true, true, true, true, false, false, false, false, false, false, false, false, false, false] rfl rfl (any_of HT_.out Zq1) (fun _ _ _ h => h) (Or.inr ⟨Zq2, rfl⟩) ?_ ?_
           rotate_left
           ·simp only [Sx]
            rfl
           refine pure_ (i := 14) (N := some 76) (v := undef) (a' := ?_) #[true, true, true, true, true, true, true, true, true, true, true, true, true, true, true, false, false, false, false, false, false, false, false, false] rfl rfl (any_of HT_.out Zq1) (fun _ _ _ h => h) (Or.inr ⟨Zq2, rfl⟩) ?_ ?_
           rotate_left
           ·simp only [Sx]
            rfl
           refine pure_ (i := 15) (N := some 77) (v := undef) (a' := ?_) #[true, true, true, true, true, true, true, true, true, true, true, true, true, true, true, true, false, false, false, false, false, false, false, false] rfl rfl (any_of HT_.out Zq1) (fun _ _ _ h => h) (Or.inr ⟨Zq2, rfl⟩) ?_ ?_
           rotate_left
           ·simp only [Sx]
            rfl
           refine pure_ (i := 16) (N := some 78) (v := undef) (a' := ?_) #[true, true, true, true, true, true, true, true, true, true, true, true, true, true, true, true, true, false, false, false, false, false, false, false] rfl rfl (any_of HT_.out Zq1) (fun _ _ _ h => h) (Or.inr ⟨Zq2, rfl⟩) ?_ ?_
           rotate_left
           ·simp only [Sx]
            rfl
           refine pure_ (i := 17) (N := some 79) (v := undef) (a' := ?_) #[true, true, true, true, true, true, true, true, true, true, true, true, true, true, true, true, true, true, false, false, false, false, false, false] rfl rfl (any_of HT_.out Zq1) (fun _ _ _ h => h) (Or.inr ⟨Zq2, rfl⟩) ?_ ?_
           rotate_left
           ·simp only [Sx]
            rfl
           refine pure_ (i := 18) (N := some 80) (v := undef) (a' := ?_) #[true, true, true, true, true, true, true, true, true, true, true, true, true, true, true, true, true, true, true, false, false, false, false, false] rfl rfl (any_of HT_.out Zq1) (fun _ _ _ h => h) (Or.inr ⟨Zq2, rfl⟩) ?_ ?_
           rotate_left
           ·simp only [Sx]
            rfl
           refine pure_ (i := 19) (N := some 81) (v := undef) (a' := ?_) #[true, true, true, true, true, true, true, true, true, true, true, true, true, true, true, true, true, true, true, true, false, false, false, false] rfl rfl (any_of HT_.out Zq1) (fun _ _ _ h => h) (Or.inr ⟨Zq2, rfl⟩) ?_ ?_
           rotate_left
           ·simp only [Sx]
            rfl
           refine pure_ (i := 20) (N := some 82) (v := undef) (a' := ?_) #[true, true, true, true, true, true, true, true, true, true, true, true, true, true, true, true, true, true, true, true, true, false, false, false] rfl rfl (any_of HT_.out Zq1) (fun _ _ _ h => h) (Or.inr ⟨Zq2, rfl⟩) ?_ ?_
           rotate_left
           ·simp only [Sx]
            rfl
           refine pure_ (i := 21) (N := some 83) (v := ?_) (a' := ?_) #[true, true, true, true, true, true, true, true, true, true, true, true, true, true, true, true, true, true, true, true, true, true, false, false] rfl rfl (any_of HT_.out Zq1) (fun _ _ _ h => h) (Or.inl ⟨Zq2, ?_⟩) ?_ ?_
           rotate_left
           ·intro w'
            go_simp
            with_reducible rfl
           rotate_left
           ·simp only [Sx]
            rfl
           refine pure_ (i := 22) (N := some 84) (v := ?_) (a' := ?_) #[true, true, true, true, true, true, true, true, true, true, true, true, true, true, true, true, true, true, true, true, true, true, true, false] rfl rfl (any_of HT_.out Zq1) (fun _ _ _ h => h) (Or.inl ⟨Zq2, ?_⟩) ?_ ?_
           rotate_left
           ·intro w'
            go_simp
            with_reducible rfl
           rotate_left
           ·simp only [Sx]
            rfl
           refine pure_ (i := 23) (N := some 4) (v := ?_) (a' := ?_) #[true, true, true, true, true, true, true, true, true, true, true, true, true, true, true, true, true, true, true, true, true, true, true, true] rfl rfl (any_of HT_.out Zq1) (fun _ _ _ h => h) (Or.inl ⟨Zq2, ?_⟩) ?_ ?_
           rotate_left
           ·intro w'
            go_simp
            with_reducible rfl
           rotate_left
           ·simp only [Sx]
            rfl
           refine done_ (done_of HT_.out Zq1) ?_
           try go_wp2
           go_ret
           exact ⟨Zq10, Zq4⟩
        ·rw [if_neg c34] at H; have c34b0 : decide (tab < 0) = false := decide_eq_false c34; clear c34
         by_cases c81 : tab ≥ 0
         ·rw [if_pos c81] at H; have c81b0 : decide (0 ≤ tab) = true := decide_eq_true c81; clear c81
          by_cases c82 : 0 ≤ tab
          ·rw [if_pos c82] at H; have c82b0 : decide (0 ≤ tab) = true := decide_eq_true c82; clear c82
           by_cases c83 : tab < (l0_1.length : Int)
           ·rw [if_pos c83] at H; have c83b0 : decide (tab < (l0_1.length : Int)) = true := decide_eq_true c83; clear c83; obtain rfl := Option.some.inj H; have hcz84_0 : wc.cell? ⟨gbaa, 0, none⟩ = some (.string a0_0) := (blk_cell BKaa.out 0).trans rfl; have hcz84_1 : wc.cell? ⟨gbaa, 1, none⟩ = some (.slice A0_1 l0_1.length c0_1) := (blk_cell BKaa.out 1).trans rfl; have hcz84_2 : wc.cell? ⟨gbaa, 2, none⟩ = some (.slice A0_2 l0_2.length c0_2) := (blk_cell BKaa.out 2).trans rfl; have hfz84_0 := blk_frozen BKaa.out 0; have hfz84_1 := blk_frozen BKaa.out 1; have hfz84_2 := blk_frozen BKaa.out 2
            try go_wp2_with (first | ((with_reducible refine gate_callee (f := 29) rfl ?_); refine goesL_ (some 22) rfl rfl Try.func29 Zq1 rfl #[.agg #[.string a0_0, .slice A0_1 l0_1.length c0_1, .slice A0_2 l0_2.length c0_2]] rfl Zq7 ?_; (with_reducible refine (tree_Count.calls kj2 a0_0 _ _ l0_1 _ _ l0_2 taw taC _ ?side1 ?side2 ?side3 ?side4 A15.out).mono ?_); (case side1 => repeat (first | exact Zq35 | (with_reducible refine Kd.C_alloc ?_ _) | (with_reducible refine Kd.C_drewN ?_ _) | (with_reducible refine Kd.C_drew ?_))); (case side2 => exact HC0_1.out); (case side3 => repeat (first | exact Zq36 | (with_reducible refine Kd.C_alloc ?_ _) | (with_reducible refine Kd.C_drewN ?_ _) | (with_reducible refine Kd.C_drew ?_))); (case side4 => exact HC0_2.out); rintro e w85 ⟨rfl, hb⟩; refine ⟨_, rfl, ?_⟩; have n0_ := Zq33; have n1_ := Zq34; clear BKaa HB; have BKaa := n0_; have HB := n1_; clear n0_ n1_; (try clear hb); (try clear hb2); (try clear hk); (try clear hi); have hcz86_0 : w85.cell? ⟨gbaa, 0, none⟩ = some (.string a0_0) := (blk_cell BKaa.out 0).trans rfl; have hcz86_1 : w85.cell? ⟨gbaa, 1, none⟩ = some (.slice A0_1 l0_1.length c0_1) := (blk_cell BKaa.out 1).trans rfl; have hcz86_2 : w85.cell? ⟨gbaa, 2, none⟩ = some (.slice A0_2 l0_2.length c0_2) := (blk_cell BKaa.out 2).trans rfl; have hfz86_0 := blk_frozen BKaa.out 0; have hfz86_1 := blk_frozen BKaa.out 1; have hfz86_2 := blk_frozen BKaa.out 2) | ((with_reducible refine gate_callee (f := 30) rfl ?_); refine goesL_ (some 27) rfl rfl Try.func30 Zq1 rfl #[.agg #[.string a0_0, .slice A0_1 l0_1.length c0_1, .slice A0_2 l0_2.length c0_2]] rfl Zq7 ?_; (with_reducible refine (arboretref01_Count.calls kj2 a0_0 _ _ l0_1 _ _ l0_2 tar taD _ ?side1 ?side2 ?side3 ?side4 A16.out).mono ?_); (case side1 => repeat (first | exact Zq35 | (with_reducible refine Kd.C_alloc ?_ _) | (with_reducible refine Kd.C_drewN ?_ _) | (with_reducible refine Kd.C_drew ?_))); (case side2 => exact HC0_1.out); (case side3 => repeat (first | exact Zq36 | (with_reducible refine Kd.C_alloc ?_ _) | (with_reducible refine Kd.C_drewN ?_ _) | (with_reducible refine Kd.C_drew ?_))); (case side4 => exact HC0_2.out); rintro e w87 ⟨rfl, hb⟩; refine ⟨_, rfl, ?_⟩; have n0_ := Zq33; have n1_ := Zq34; clear BKaa HB; have BKaa := n0_; have HB := n1_; clear n0_ n1_; (try clear hb); (try clear hb2); (try clear hk); (try clear hi); have hcz88_0 : w87.cell? ⟨gbaa, 0, none⟩ = some (.string a0_0) := (blk_cell BKaa.out 0).trans rfl; have hcz88_1 : w87.cell? ⟨gbaa, 1, none⟩ = some (.slice A0_1 l0_1.length c0_1) := (blk_cell BKaa.out 1).trans rfl; have hcz88_2 : w87.cell? ⟨gbaa, 2, none⟩ = some (.slice A0_2 l0_2.length c0_2) := (blk_cell BKaa.out 2).trans rfl; have hfz88_0 := blk_frozen BKaa.out 0; have hfz88_1 := blk_frozen BKaa.out 1; have hfz88_2 := blk_frozen BKaa.out 2) | ((with_reducible refine gate_callee (f := 31) rfl ?_); refine goesL_ (some 33) rfl rfl Try.func31 Zq1 rfl #[.agg #[.string a0_0, .slice A0_1 l0_1.length c0_1, .slice A0_2 l0_2.length c0_2], .string a1] rfl Zq7 ?_; (with_reducible refine (tree_Find.calls kj2 a0_0 _ _ l0_1 _ _ l0_2 a1 tai taj _ ?side1 ?side2 ?side3 ?side4 A17.out).mono ?_); (case side1 => repeat (first | exact Zq35 | (with_reducible refine Kd.C_alloc ?_ _) | (with_reducible refine Kd.C_drewN ?_ _) | (with_reducible refine Kd.C_drew ?_))); (case side2 => exact HC0_1.out); (case side3 => repeat (first | exact Zq36 | (with_reducible refine Kd.C_alloc ?_ _) | (with_reducible refine Kd.C_drewN ?_ _) | (with_reducible refine Kd.C_drew ?_))); (case side4 => exact HC0_2.out); rintro e w89 ⟨v786, rfl, ho0, hb⟩; refine ⟨_, rfl, ?_⟩; have n0_ := Zq49; have n1_ := Zq33; have n2_ := Zq34; clear BKaa HB; have HOac := n0_; have BKaa := n1_; have HB := n2_; clear n0_ n1_ n2_; (try clear hb); (try clear hb2); (try clear hk); (try clear hi); (try clear ho0); have hcz90_0 : w89.cell? ⟨gbaa, 0, none⟩ = some (.string a0_0) := (blk_cell BKaa.out 0).trans rfl; have hcz90_1 : w89.cell? ⟨gbaa, 1, none⟩ = some (.slice A0_1 l0_1.length c0_1) := (blk_cell BKaa.out 1).trans rfl; have hcz90_2 : w89.cell? ⟨gbaa, 2, none⟩ = some (.slice A0_2 l0_2.length c0_2) := (blk_cell BKaa.out 2).trans rfl; have hfz90_0 := blk_frozen BKaa.out 0; have hfz90_1 := blk_frozen BKaa.out 1; have hfz90_2 := blk_frozen BKaa.out 2) | ((with_reducible refine gate_callee (f := 32) rfl ?_); refine goesL_ (some 38) rfl rfl Try.func32 Zq1 rfl #[.agg #[.string a0_0, .slice A0_1 l0_1.length c0_1, .slice A0_2 l0_2.length c0_2], .string a1] rfl Zq7 ?_; (with_reducible refine (arboretref01_Find.calls kj2 a0_0 _ _ l0_1 _ _ l0_2 a1 tab _ ?side1 ?side2 ?side3 ?side4 A18.out).mono ?_); (case side1 => repeat (first | exact Zq35 | (with_reducible refine Kd.C_alloc ?_ _) | (with_reducible refine Kd.C_drewN ?_ _) | (with_reducible refine Kd.C_drew ?_))); (case side2 => exact HC0_1.out); (case side3 => repeat (first | exact Zq36 | (with_reducible refine Kd.C_alloc ?_ _) | (with_reducible refine Kd.C_drewN ?_ _) | (with_reducible refine Kd.C_drew ?_))); (case side4 => exact HC0_2.out); rintro e w91 ⟨rfl, hb⟩; refine ⟨_, rfl, ?_⟩; have n0_ := Zq38; have n1_ := Zq33; have n2_ := Zq34; clear HOac BKaa HB; have HOac := n0_; have BKaa := n1_; have HB := n2_; clear n0_ n1_ n2_; (try clear hb); (try clear hb2); (try clear hk); (try clear hi)))
            have n0_ := Zq46; have n1_ := Zq47; have n2_ := Zq48; clear HOac BKaa HB; have HOac := n0_; have BKaa := n1_; have HB := n2_; clear n0_ n1_ n2_
            (try (have ec_ : decide (0 ≤ tab) = false := by rw [decide_eq_false_iff_not]; have q3_ := of_decide_eq_true (by assumption : decide (tab < 0) = true); omega))
            (try (have eb_ : (!taj) = false := by have q1_ := c21b0; have q2_ : decide (tab ≥ 0) = true := Zq13; rw [q2_] at q1_; simpa using q1_))
            (try (have eb_ : taj = false := by have q1_ := c21b0; have q2_ : decide (tab ≥ 0) = false := Zq14; rw [q2_] at q1_; simpa using q1_))
            refine start_ (n := 23) (S := fun w' => w'.cell? ⟨gbaa, 0, none⟩ = some (.string a0_0) ∧ w'.cell? ⟨gbaa, 1, none⟩ = some (.slice A0_1 l0_1.length c0_1) ∧ w'.cell? ⟨gbaa, 2, none⟩ = some (.slice A0_2 l0_2.length c0_2)) (ds := []) #[false, false, false, false, false, false, false, false, false, false, false, false, false, false, false, false, false, false, false, false, false, false, false] Zq1 rfl rfl ⟨(blk_cell BKaa.out 0).trans rfl, (blk_cell BKaa.out 1).trans rfl, (blk_cell BKaa.out 2).trans rfl⟩ (fun hHeld => ?_); refine with_tabW arboretlaw03_TreeFinds.tab7 arboretlaw03_TreeFinds.bits7 (fun HT_ HW_ => ?_); generalize w91.drew = w92 at HOac BKaa HB hHeld ⊢; refine pure_ (i := 0) (N := some 39) (v := ?_) (a' := ?_) #[true, false, false, false, false, false, false, false, false, false, false, false, false, false, false, false, false, false, false, false, false, false, false] rfl rfl (any_of HT_.out Zq1) (fun _ _ _ h => h) (Or.inl ⟨Zq2, ?_⟩) ?_ ?_
            rotate_left
            ·intro w'
             go_simp
             with_reducible rfl
            rotate_left
            ·simp only [Sx]
             rfl
            refine pure_ (i := 1) (N := some 40) (v := ?_) (a' := ?_) #[true, true, false, false, false, false, false, false, false, false, false, false, false, false, false, false, false, false, false, false, false, false, false] rfl rfl (any_of HT_.out Zq1) (fun _ _ _ h => h) (Or.inl ⟨Zq2, ?_⟩) ?_ ?_
            rotate_left
            ·intro w'
             go_simp
             with_reducible rfl
            rotate_left
            ·simp only [Sx]
             rfl
            refine pure_ (i := 2) (N := some 41) (v := ?_) (a' := ?_) #[true, true, true, false, false, false, false, false, false, false, false, false, false, false, false, false, false, false, false, false, false, false, false] rfl rfl (any_of HT_.out Zq1) (fun _ _ _ h => h) (Or.inl ⟨Zq2, ?_⟩) ?_ ?_
            rotate_left
            ·intro w'
             go_simp
             with_reducible rfl
            rotate_left
            ·simp only [Sx]
             rfl
            refine pure_ (i := 3) (N := some 42) (v := ?_) (a' := ?_) #[true, true, true, true, false, false, false, false, false, false, false, false, false, false, false, false, false, false, false, false, false, false, false] rfl rfl (any_of HT_.out Zq1) (fun _ _ _ h => h) (Or.inl ⟨Zq2, ?_⟩) ?_ ?_
            rotate_left
            ·intro w'
             go_simp
             with_reducible rfl
            rotate_left
            ·simp only [Sx]
             rfl
            refine pure_ (i := 4) (N := some 43) (v := ?_) (a' := ?_) #[true, true, true, true, true, false, false, false, false, false, false, false, false, false, false, false, false, false, false, false, false, false, false] rfl rfl (any_of HT_.out Zq1) (fun _ _ _ h => h) (Or.inl ⟨Zq2, ?_⟩) ?_ ?_
            rotate_left
            ·intro w'
             go_simp
             with_reducible rfl
            rotate_left
            ·simp only [Sx]
             rfl
            refine pure_ (i := 5) (N := some 44) (v := ?_) (a' := ?_) #[true, true, true, true, true, true, false, false, false, false, false, false, false, false, false, false, false, false, false, false, false, false, false] rfl rfl (any_of HT_.out Zq1) (fun _ _ _ h => h) (Or.inl ⟨Zq2, ?_⟩) ?_ ?_
            rotate_left
            ·intro w'
             go_simp
             with_reducible rfl
            rotate_left
            ·simp only [Sx]
             rfl
            refine pure_ (i := 6) (N := some 45) (v := ?_) (a' := ?_) #[true, true, true, true, true, true, true, false, false, false, false, false, false, false, false, false, false, false, false, false, false, false, false] rfl rfl (any_of HT_.out Zq1) (fun _ _ _ h => h) (Or.inl ⟨Zq2, ?_⟩) ?_ ?_
            rotate_left
            ·intro w'
             go_simp
             with_reducible rfl
            rotate_left
            ·simp only [Sx]
             rfl
            refine pure_ (i := 7) (N := some 46) (v := ?_) (a' := ?_) #[true, true, true, true, true, true, true, true, false, false, false, false, false, false, false, false, false, false, false, false, false, false, false] rfl rfl (any_of HT_.out Zq1) (fun _ _ _ h => h) (Or.inl ⟨Zq2, ?_⟩) ?_ ?_
            rotate_left
            ·intro w'
             go_simp
             with_reducible rfl
            rotate_left
            ·simp only [Sx]
             rfl
            refine pure_ (i := 8) (N := some 47) (v := ?_) (a' := ?_) #[true, true, true, true, true, true, true, true, true, false, false, false, false, false, false, false, false, false, false, false, false, false, false] rfl rfl (any_of HT_.out Zq1) (fun _ _ _ h => h) (Or.inl ⟨Zq2, ?_⟩) ?_ ?_
            rotate_left
            ·intro w'
             go_simp
             with_reducible rfl
            rotate_left
            ·simp only [Sx]
             rfl
            refine pure_ (i := 9) (N := some 48) (v := ?_) (a' := ?_) #[true, true, true, true, true, true, true, true, true, true, false, false, false, false, false, false, false, false, false, false, false, false, false] rfl rfl (any_of HT_.out Zq1) (fun _ _ _ h => h) (Or.inl ⟨Zq2, ?_⟩) ?_ ?_
            rotate_left
            ·intro w'
             go_simp
             with_reducible rfl
            rotate_left
            ·simp only [Sx]
             rfl
            refine pure_ (i := 10) (N := some 49) (v := ?_) (a' := ?_) #[true, true, true, true, true, true, true, true, true, true, true, false, false, false, false, false, false, false, false, false, false, false, false] rfl rfl (any_of HT_.out Zq1) (fun _ _ _ h => h) (Or.inl ⟨Zq2, ?_⟩) ?_ ?_
            rotate_left
            ·intro w'
             go_simp
             with_reducible rfl
            rotate_left
            ·simp only [Sx]
             rfl
            refine pure_ (i := 11) (N := some 50) (v := ?_) (a' := ?_) #[true, true, true, true, true, true, true, true, true, true, true, true, false, false, false, false, false, false, false, false, false, false, false] rfl rfl (any_of HT_.out Zq1) (fun _ _ _ h => h) (Or.inl ⟨Zq2, ?_⟩) ?_ ?_
            rotate_left
            ·intro w'
             go_simp
             with_reducible rfl
            rotate_left
            ·simp only [Sx]
             rfl
            refine pure_ (i := 12) (N := some 51) (v := ?_) (a' := ?_) #[true, true, true, true, true, true, true, true, true, true, true, true, true, false, false, false, false, false, false, false, false, false, false] rfl rfl (any_of HT_.out Zq1) (fun _ _ _ h => h) (Or.inl ⟨Zq2, ?_⟩) ?_ ?_
            rotate_left
            ·intro w'
             go_simp
             with_reducible rfl
            rotate_left
            ·simp only [Sx]
             rfl
            refine pure_ (i := 13) (N := some 52) (v := ?_) (a' := ?_) #[true, true, true, true, true, true, true, true, true, true, true, true, true, true, false, false, false, false, false, false, false, false, false] rfl rfl (any_of HT_.out Zq1) (fun _ _ _ h => h) (Or.inl ⟨Zq2, ?_⟩) ?_ ?_
            rotate_left
            ·intro w'
             go_simp
             with_reducible rfl
            rotate_left
            ·simp only [Sx]
             rfl
            refine pure_ (i := 14) (N := some 53) (v := ?_) (a' := ?_) #[true, true, true, true, true, true, true, true, true, true, true, true, true, true, true, false, false, false, false, false, false, false, false] rfl rfl (any_of HT_.out Zq1) (fun _ _ _ h => h) (Or.inl ⟨Zq2, ?_⟩) ?_ ?_
            rotate_left
            ·intro w'
             go_simp
             with_reducible rfl
            rotate_left
            ·simp only [Sx]
             rfl
            refine pure_ (i := 16) (N := some 55) (v := ?_) (a' := ?_) #[true, true, true, true, true, true, true, true, true, true, true, true, true, true, true, false, true, false, false, false, false, false, false] rfl rfl (any_of HT_.out Zq1) (fun _ _ _ h => h) (Or.inl ⟨Zq2, ?_⟩) ?_ ?_
            rotate_left
            ·intro w'
             go_simp
             with_reducible rfl
            rotate_left
            ·simp only [Sx]
             rfl
            refine pure_ (i := 19) (N := some 58) (v := ?_) (a' := ?_) #[true, true, true, true, true, true, true, true, true, true, true, true, true, true, true, false, true, false, false, true, false, false, false] rfl rfl (any_of HT_.out Zq1) (fun _ _ _ h => h) (Or.inl ⟨Zq2, ?_⟩) ?_ ?_
            rotate_left
            ·intro w'
             go_simp
             with_reducible rfl
            rotate_left
            ·simp only [Sx]
             rfl
            refine take_ (i := 15) (N := some 54) (v := ?_) (a' := ?_) #[true, true, true, true, true, true, true, true, true, true, true, true, true, true, true, true, true, false, false, true, false, false, false] rfl rfl (take_ofW HT_.out HW_.out Zq1) (fun _ _ _ h => h) (Or.inl ⟨Zq2, ?_⟩) hHeld ?_ ?_
            rotate_left
            ·rintro w' ⟨s0, s1, s2⟩
             go_simp
             with_reducible rfl
            rotate_left
            ·simp only [Sx]
             rfl
            refine take_ (i := 18) (N := some 57) (v := ?_) (a' := ?_) #[true, true, true, true, true, true, true, true, true, true, true, true, true, true, true, true, true, false, true, true, false, false, false] rfl rfl (take_ofW HT_.out HW_.out Zq1) (fun _ _ _ h => h) (Or.inl ⟨Zq2, ?_⟩) hHeld ?_ ?_
            rotate_left
            ·rintro w' ⟨s0, s1, s2⟩
             go_simp
             with_reducible rfl
            rotate_left
            ·simp only [Sx]
             rfl
            refine one_ (i := 17) (N := some 56) #[true, true, true, true, true, true, true, true, true, true, true, true, true, true, true, true, true, true, true, true, false, false, false] rfl rfl (one_of HT_.out Zq1) (by decide) (fun K hK => ?_); refine goes_ Try.func33 Zq1 rfl #[.agg #[.string a0_0, .slice A0_1 l0_1.length c0_1, .slice A0_2 l0_2.length c0_2], .string a1] Zq2 rfl rfl Zq7 ?_; with_reducible refine (tree_Kid.calls a0_0 _ _ l0_1 _ _ l0_2 a1 tav _ ?side1 ?side2 ?side3 ?side4 A31.out).mono ?_
            (case side1 => repeat (first | exact Zq35 | (with_reducible refine Kd.C_alloc ?_ _) | (with_reducible refine Kd.C_drewN ?_ _) | (with_reducible refine Kd.C_drew ?_)))
            (case side2 => exact HC0_1.out)
            (case side3 => repeat (first | exact Zq36 | (with_reducible refine Kd.C_alloc ?_ _) | (with_reducible refine Kd.C_drewN ?_ _) | (with_reducible refine Kd.C_drew ?_)))
            (case side4 => exact HC0_2.out)
            rintro e w93 ⟨rfl, hb⟩
            refine ⟨_, rfl, ?_⟩; have n0_ := Zq38; have n1_ := Zq33; have n2_ := Zq34; clear HOac BKaa HB; have HOac := n0_; have BKaa := n1_; have HB := n2_; clear n0_ n1_ n2_
            (try clear hb)
            (try clear hb2)
            (try clear hk)
            (try clear hi)
            refine hK.out _ _ ⟨(blk_cell BKaa.out 0).trans rfl, (blk_cell BKaa.out 1).trans rfl, (blk_cell BKaa.out 2).trans rfl⟩ (fun hHeld => ?_); clear hK K; refine norm_ (a' := ?_) ?_ ?_
            rotate_left
            ·show Act.put _ (some 56) _ = _
             simp only [Sx]
             rfl
            refine one_ (i := 20) (N := some 59) #[true, true, true, true, true, true, true, true, true, true, true, true, true, true, true, true, true, true, true, true, true, false, false] rfl rfl (one_of HT_.out Zq1) (by decide) (fun K hK => ?_); refine goes_ Try.func34 Zq1 rfl #[.agg #[.string a0_0, .slice A0_1 l0_1.length c0_1, .slice A0_2 l0_2.length c0_2], .string a1] Zq2 rfl rfl Zq7 ?_; with_reducible refine (arboretref01_Kid.calls kj2 a0_0 _ _ l0_1 _ _ l0_2 a1 tau _ ?side1 ?side2 ?side3 ?side4 A32.out).mono ?_
            (case side1 => repeat (first | exact Zq35 | (with_reducible refine Kd.C_alloc ?_ _) | (with_reducible refine Kd.C_drewN ?_ _) | (with_reducible refine Kd.C_drew ?_)))
            (case side2 => exact HC0_1.out)
            (case side3 => repeat (first | exact Zq36 | (with_reducible refine Kd.C_alloc ?_ _) | (with_reducible refine Kd.C_drewN ?_ _) | (with_reducible refine Kd.C_drew ?_)))
            (case side4 => exact HC0_2.out)
            rintro e w94 ⟨rfl, hb⟩
            refine ⟨_, rfl, ?_⟩; have n0_ := Zq38; have n1_ := Zq33; have n2_ := Zq34; clear HOac BKaa HB; have HOac := n0_; have BKaa := n1_; have HB := n2_; clear n0_ n1_ n2_
            (try clear hb)
            (try clear hb2)
            (try clear hk)
            (try clear hi)
            refine hK.out _ _ ⟨(blk_cell BKaa.out 0).trans rfl, (blk_cell BKaa.out 1).trans rfl, (blk_cell BKaa.out 2).trans rfl⟩ (fun hHeld => ?_); clear hK K; refine norm_ (a' := ?_) ?_ ?_
            rotate_left
            ·show Act.put _ (some 59) _ = _
             simp only [Sx]
             rfl
            refine pure_ (i := 21) (N := some 60) (v := ?_) (a' := ?_) #[true, true, true, true, true, true, true, true, true, true, true, true, true, true, true, true, true, true, true, true, true, true, false] rfl rfl (any_of HT_.out Zq1) (fun _ _ _ h => h) (Or.inl ⟨Zq2, ?_⟩) ?_ ?_
            rotate_left
            ·intro w'
             go_simp
             with_reducible rfl
            rotate_left
            ·simp only [Sx]
             rfl
            refine pure_ (i := 22) (N := some 61) (v := ?_) (a' := ?_) #[true, true, true, true, true, true, true, true, true, true, true, true, true, true, true, true, true, true, true, true, true, true, true] rfl rfl (any_of HT_.out Zq1) (fun _ _ _ h => h) (Or.inl ⟨Zq2, ?_⟩) ?_ ?_
            rotate_left
            ·intro w'
             go_simp
             with_reducible rfl
            rotate_left
            ·simp only [Sx]
             rfl
            refine done_ (done_of HT_.out Zq1) ?_
            try go_wp2
            have n0_ := Zq46; have n1_ := Zq47; have n2_ := Zq48; clear HOac BKaa HB; have HOac := n0_; have BKaa := n1_; have HB := n2_; clear n0_ n1_ n2_; have p793 : 0 ≤ (tab : Int) := of_decide_eq_true Zq9; have q793 : tab < (l0_1.length : Int) := of_decide_eq_true Zq9; obtain ⟨adaE, AaE_1, caE_1, e793, hx793_0, hx793_1, hl793_1, hi793_1⟩ := at_T77 HR0_1.out tab p793 q793; have hw793_1 := hx793_1; have hw793_0 := hx793_0
            cases e793
            replace hx793_0 := (HB.out.cell (World.block_lt_of_cell? w _ hx793_0)).trans hx793_0; replace hx793_1 := (HB.out.cell (World.block_lt_of_cell? w _ hx793_1)).trans hx793_1; have HRaE_1 := Ak hi793_1; have HCaE_1 := Ak hl793_1; clear hi793_1 hl793_1; replace p793 := eq_true p793; replace q793 := eq_true q793; have hcv96 := own_string (P := Try.prog) Try.underlying72 Try.underlying5 Try.underlying9 (Kd.own_of_R HOac.out); have hcv97 := Kd.C_string (P := Try.prog) (A := AaE_1) (c := caE_1) Try.underlying72 Try.underlying5 Try.underlying9 (Kd.C_below HRaE_1.out HB.out)
            (try (have ec_ : decide (0 ≤ tab) = false := by rw [decide_eq_false_iff_not]; have q3_ := of_decide_eq_true (by assumption : decide (tab < 0) = true); omega))
            (try (have eb_ : (!taj) = false := by have q1_ := c21b0; have q2_ : decide (tab ≥ 0) = true := Zq13; rw [q2_] at q1_; simpa using q1_))
            (try (have eb_ : taj = false := by have q1_ := c21b0; have q2_ : decide (tab ≥ 0) = false := Zq14; rw [q2_] at q1_; simpa using q1_))
            refine start_ (n := 24) (S := fun w' => w'.cell? ⟨gbaa, 0, none⟩ = some (.string a0_0) ∧ w'.cell? ⟨gbaa, 1, none⟩ = some (.slice (some adaE) l0_1.length c0_1) ∧ w'.cell? ⟨gbaa, 2, none⟩ = some (.slice A0_2 l0_2.length c0_2) ∧ w'.cell? (adaE.add ((tab).toNat * 2)) = some (.string ((rd_T77 l0_1 tab).f0)) ∧ w'.cell? ⟨(adaE.add ((tab).toNat * 2)).block, (adaE.add ((tab).toNat * 2)).off + 1, none⟩ = some (.slice AaE_1 ((rd_T77 l0_1 tab).f1).length caE_1) ∧ (convert 72 9 v786).run Try.prog w' = .ok (.string (strOfNums tai)) w' ∧ (convert 72 9 (.slice AaE_1 ((rd_T77 l0_1 tab).f1).length caE_1)).run Try.prog w' = .ok (.string (strOfNums ((rd_T77 l0_1 tab).f1))) w') (ds := []) #[false, false, false, false, false, false, false, false, false, false, false, false, false, false, false, false, false, false, false, false, false, false, false, false] Zq1 rfl rfl ⟨(blk_cell BKaa.out 0).trans rfl, (blk_cell BKaa.out 1).trans rfl, (blk_cell BKaa.out 2).trans rfl, ((HB.out.cell (World.block_lt_of_cell? w _ hw793_0)).trans hw793_0), ((HB.out.cell (World.block_lt_of_cell? w _ hw793_1)).trans hw793_1), hcv96, hcv97⟩ (fun hHeld => ?_); refine with_tabW arboretlaw03_TreeFinds.tab9 arboretlaw03_TreeFinds.bits9 (fun HT_ HW_ => ?_); generalize w94.drew = w95 at HOac BKaa HB HRaE_1 hx793_0 hx793_1 hHeld ⊢; refine pure_ (i := 0) (N := some 62) (v := ?_) (a' := ?_) #[true, false, false, false, false, false, false, false, false, false, false, false, false, false, false, false, false, false, false, false, false, false, false, false] rfl rfl (any_of HT_.out Zq1) (fun _ _ _ h => h) (Or.inl ⟨Zq2, ?_⟩) ?_ ?_
            rotate_left
            ·intro w'
             go_simp
             with_reducible rfl
            rotate_left
            ·simp only [Sx]
             rfl
            refine pure_ (i := 1) (N := some 63) (v := ?_) (a' := ?_) #[true, true, false, false, false, false, false, false, false, false, false, false, false, false, false, false, false, false, false, false, false, false, false, false] rfl rfl (any_of HT_.out Zq1) (fun _ _ _ h => h) (Or.inl ⟨Zq2, ?_⟩) ?_ ?_
            rotate_left
            ·intro w'
             go_simp
             with_reducible rfl
            rotate_left
            ·simp only [Sx]
             rfl
            refine pure_ (i := 2) (N := some 64) (v := ?_) (a' := ?_) #[true, true, true, false, false, false, false, false, false, false, false, false, false, false, false, false, false, false, false, false, false, false, false, false] rfl rfl (any_of HT_.out Zq1) (fun _ _ _ h => h) (Or.inl ⟨Zq2, ?_⟩) ?_ ?_
            rotate_left
            ·intro w'
             go_simp
             with_reducible rfl
            rotate_left
            ·simp only [Sx]
             rfl
            refine pure_ (i := 3) (N := some 65) (v := undef) (a' := ?_) #[true, true, true, true, false, false, false, false, false, false, false, false, false, false, false, false, false, false, false, false, false, false, false, false] rfl rfl (any_of HT_.out Zq1) (fun _ _ _ h => h) (Or.inr ⟨Zq2, rfl⟩) ?_ ?_
            rotate_left
            ·simp only [Sx]
             rfl
            refine pure_ (i := 4) (N := some 66) (v := undef) (a' := ?_) #[true, true, true, true, true, false, false, false, false, false, false, false, false, false, false, false, false, false, false, false, false, false, false, false] rfl rfl (any_of HT_.out Zq1) (fun _ _ _ h => h) (Or.inr ⟨Zq2, rfl⟩) ?_ ?_
            rotate_left
            ·simp only [Sx]
             rfl
            refine pure_ (i := 5) (N := some 67) (v := undef) (a' := ?_) #[true, true, true, true, true, true, false, false, false, false, false, false, false, false, false, false, false, false, false, false, false, false, false, false] rfl rfl (any_of HT_.out Zq1) (fun _ _ _ h => h) (Or.inr ⟨Zq2, rfl⟩) ?_ ?_
            rotate_left
            ·simp only [Sx]
             rfl
            refine pure_ (i := 6) (N := some 68) (v := ?_) (a' := ?_) #[true, true, true, true, true, true, true, false, false, false, false, false, false, false, false, false, false, false, false, false, false, false, false, false] rfl rfl (any_of HT_.out Zq1) (fun _ _ _ h => h) (Or.inl ⟨Zq2, ?_⟩) ?_ ?_
            rotate_left
            ·intro w'
             go_simp
             with_reducible rfl
            rotate_left
            ·simp only [Sx]
             rfl
            refine pure_ (i := 7) (N := some 69) (v := ?_) (a' := ?_) #[true, true, true, true, true, true, true, true, false, false, false, false, false, false, false, false, false, false, false, false, false, false, false, false] rfl rfl (any_of HT_.out Zq1) (fun _ _ _ h => h) (Or.inl ⟨Zq2, ?_⟩) ?_ ?_
            rotate_left
            ·intro w'
             go_simp
             with_reducible rfl
            rotate_left
            ·simp only [Sx]
             rfl
            refine pure_ (i := 8) (N := some 70) (v := ?_) (a' := ?_) #[true, true, true, true, true, true, true, true, true, false, false, false, false, false, false, false, false, false, false, false, false, false, false, false] rfl rfl (any_of HT_.out Zq1) (fun _ _ _ h => h) (Or.inl ⟨Zq2, ?_⟩) ?_ ?_
            rotate_left
            ·intro w'
             go_simp
             with_reducible rfl
            rotate_left
            ·simp only [Sx]
             rfl
            refine pure_ (i := 9) (N := some 71) (v := ?_) (a' := ?_) #[true, true, true, true, true, true, true, true, true, true, false, false, false, false, false, false, false, false, false, false, false, false, false, false] rfl rfl (any_of HT_.out Zq1) (fun _ _ _ h => h) (Or.inl ⟨Zq2, ?_⟩) ?_ ?_
            rotate_left
            ·intro w'
             go_simp
             with_reducible rfl
            rotate_left
            ·simp only [Sx]
             rfl
            refine pure_ (i := 10) (N := some 72) (v := ?_) (a' := ?_) #[true, true, true, true, true, true, true, true, true, true, true, false, false, false, false, false, false, false, false, false, false, false, false, false] rfl rfl (any_of HT_.out Zq1) (fun _ _ _ h => h) (Or.inl ⟨Zq2, ?_⟩) ?_ ?_
            rotate_left
            ·intro w'
             go_simp
             with_reducible rfl
            rotate_left
            ·simp only [Sx]
             rfl
            refine pure_ (i := 11) (N := some 73) (v := ?_) (a' := ?_) #[true, true, true, true, true, true, true, true, true, true, true, true, false, false, false, false, false, false, false, false, false, false, false, false] rfl rfl (any_of HT_.out Zq1) (fun _ _ _ h => h) (Or.inl ⟨Zq2, ?_⟩) ?_ ?_
            rotate_left
            ·intro w'
             go_simp
             with_reducible rfl
            rotate_left
            ·simp only [Sx]
             rfl
            refine take_ (i := 12) (N := some 74) (v := ?_) (a' := ?_) #[true, true, true, true, true, true, true, true, true, true, true, true, true, false, false, false, false, false, false, false, false, false, false, false] rfl rfl (take_ofW HT_.out HW_.out Zq1) (fun _ _ _ h => h) (Or.inl ⟨Zq2, ?_⟩) hHeld ?_ ?_
            rotate_left
            ·rintro w' ⟨s0, s1, s2, s3, s4, s5, s6⟩
             go_simp
             with_reducible rfl
            rotate_left
            ·simp only [Sx]
             rfl
            refine pure_ (i := 13) (N := some 75) (v := ?_) (a' := ?_) #[true, true, true, true, true, true, true, true, true, true, true, true, true, true, false, false, false, false, false, false, false, false, false, false] rfl rfl (any_of HT_.out Zq1) (fun _ _ _ h => h) (Or.inl ⟨Zq2, ?_⟩) ?_ ?_
            rotate_left
            ·intro w'
             go_simp
             with_reducible rfl
            rotate_left
            ·simp only [Sx]
             rfl
            refine pure_ (i := 15) (N := some 77) (v := ?_) (a' := ?_) #[true, true, true, true, true, true, true, true, true, true, true, true, true, true, false, true, false, false, false, false, false, false, false, false] rfl rfl (any_of HT_.out Zq1) (fun _ _ _ h => h) (Or.inl ⟨Zq2, ?_⟩) ?_ ?_
            rotate_left
            ·intro w'
             go_simp
             with_reducible rfl
            rotate_left
            ·simp only [Sx]
             rfl
            refine take_ (i := 14) (N := some 76) (v := ?_) (a' := ?_) #[true, true, true, true, true, true, true, true, true, true, true, true, true, true, true, true, false, false, false, false, false, false, false, false] rfl rfl (take_ofW HT_.out HW_.out Zq1) (fun _ _ _ h => h) (Or.inl ⟨Zq2, ?_⟩) hHeld ?_ ?_
            rotate_left
            ·rintro w' ⟨s0, s1, s2, s3, s4, s5, s6⟩
             go_simp
             with_reducible rfl
            rotate_left
            ·simp only [Sx]
             rfl
            refine pure_ (i := 16) (N := some 78) (v := ?_) (a' := ?_) #[true, true, true, true, true, true, true, true, true, true, true, true, true, true, true, true, true, false, false, false, false, false, false, false] rfl rfl (any_of HT_.out Zq1) (fun _ _ _ h => h) (Or.inl ⟨Zq2, ?_⟩) ?_ ?_
            rotate_left
            ·intro w'
             go_simp
             with_reducible rfl
            rotate_left
            ·simp only [Sx]
             rfl
            refine pure_ (i := 17) (N := some 79) (v := ?_) (a' := ?_) #[true, true, true, true, true, true, true, true, true, true, true, true, true, true, true, true, true, true, false, false, false, false, false, false] rfl rfl (any_of HT_.out Zq1) (fun _ _ _ h => h) (Or.inl ⟨Zq2, ?_⟩) ?_ ?_
            rotate_left
            ·intro w'
             go_simp
             with_reducible rfl
            rotate_left
            ·simp only [Sx]
             rfl
            refine take_ (i := 18) (N := some 80) (v := ?_) (a' := ?_) #[true, true, true, true, true, true, true, true, true, true, true, true, true, true, true, true, true, true, true, false, false, false, false, false] rfl rfl (take_ofW HT_.out HW_.out Zq1) (fun _ _ _ h => h) (Or.inl ⟨Zq2, ?_⟩) hHeld ?_ ?_
            rotate_left
            ·rintro w' ⟨s0, s1, s2, s3, s4, s5, s6⟩
             go_simp
             with_reducible rfl
            rotate_left
            ·simp only [Sx]
             rfl
            refine take_ (i := 19) (N := some 81) (v := ?_) (a' := ?_) #[true, true, true, true, true, true, true, true, true, true, true, true, true, true, true, true, true, true, true, true, false, false, false, false] rfl rfl (take_ofW HT_.out HW_.out Zq1) (fun _ _ _ h => h) (Or.inl ⟨Zq2, ?_⟩) hHeld ?_ ?_
            rotate_left
            ·rintro w' ⟨s0, s1, s2, s3, s4, s5, s6⟩
             go_simp
             with_reducible rfl
            rotate_left
            ·simp only [Sx]
             rfl
            refine pure_ (i := 20) (N := some 82) (v := ?_) (a' := ?_) #[true, true, true, true, true, true, true, true, true, true, true, true, true, true, true, true, true, true, true, true, true, false, false, false] rfl rfl (any_of HT_.out Zq1) (fun _ _ _ h => h) (Or.inl ⟨Zq2, ?_⟩) ?_ ?_
            rotate_left
            ·intro w'
             go_simp
             with_reducible rfl
            rotate_left
            ·simp only [Sx]
             rfl
            refine pure_ (i := 21) (N := some 83) (v := ?_) (a' := ?_) #[true, true, true, true, true, true, true, true, true, true, true, true, true, true, true, true, true, true, true, true, true, true, false, false] rfl rfl (any_of HT_.out Zq1) (fun _ _ _ h => h) (Or.inl ⟨Zq2, ?_⟩) ?_ ?_
            rotate_left
            ·intro w'
             go_simp
             with_reducible rfl
            rotate_left
            ·simp only [Sx]
             rfl
            refine pure_ (i := 22) (N := some 84) (v := ?_) (a' := ?_) #[true, true, true, true, true, true, true, true, true, true, true, true, true, true, true, true, true, true, true, true, true, true, true, false] rfl rfl (any_of HT_.out Zq1) (fun _ _ _ h => h) (Or.inl ⟨Zq2, ?_⟩) ?_ ?_
            rotate_left
            ·intro w'
             go_simp
             with_reducible rfl
            rotate_left
            ·simp only [Sx]
             rfl
            refine pure_ (i := 23) (N := some 4) (v := ?_) (a' := ?_) #[true, true, true, true, true, true, true, true, true, true, true, true, true, true, true, true, true, true, true, true, true, true, true, true] rfl rfl (any_of HT_.out Zq1) (fun _ _ _ h => h) (Or.inl ⟨Zq2, ?_⟩) ?_ ?_
            rotate_left
            ·intro w'
             go_simp
             with_reducible rfl
            rotate_left
            ·simp only [Sx]
             rfl
            refine done_ (done_of HT_.out Zq1) ?_
            try go_wp2
            go_ret
            exact ⟨Zq10, Zq4⟩
           ·rw [if_neg c83] at H; exact absurd H (by simp)
          ·rw [if_neg c82] at H; exact absurd H (by simp)
         ·rw [if_neg c81] at H; have c81b0 : decide (0 ≤ tab) = false := decide_eq_false c81; clear c81; obtain rfl := Option.some.inj H; have hcz99_0 : wc.cell? ⟨gbaa, 0, none⟩ = some (.string a0_0) := (blk_cell BKaa.out 0).trans rfl; have hcz99_1 : wc.cell? ⟨gbaa, 1, none⟩ = some (.slice A0_1 l0_1.length c0_1) := (blk_cell BKaa.out 1).trans rfl; have hcz99_2 : wc.cell? ⟨gbaa, 2, none⟩ = some (.slice A0_2 l0_2.length c0_2) := (blk_cell BKaa.out 2).trans rfl; have hfz99_0 := blk_frozen BKaa.out 0; have hfz99_1 := blk_frozen BKaa.out 1; have hfz99_2 := blk_frozen BKaa.out 2
          try go_wp2_with (first | ((with_reducible refine gate_callee (f := 29) rfl ?_); refine goesL_ (some 22) rfl rfl Try.func29 Zq1 rfl #[.agg #[.string a0_0, .slice A0_1 l0_1.length c0_1, .slice A0_2 l0_2.length c0_2]] rfl Zq7 ?_; (with_reducible refine (tree_Count.calls kj2 a0_0 _ _ l0_1 _ _ l0_2 taw taC _ ?side1 ?side2 ?side3 ?side4 A15.out).mono ?_); (case side1 => repeat (first | exact Zq35 | (with_reducible refine Kd.C_alloc ?_ _) | (with_reducible refine Kd.C_drewN ?_ _) | (with_reducible refine Kd.C_drew ?_))); (case side2 => exact HC0_1.out); (case side3 => repeat (first | exact Zq36 | (with_reducible refine Kd.C_alloc ?_ _) | (with_reducible refine Kd.C_drewN ?_ _) | (with_reducible refine Kd.C_drew ?_))); (case side4 => exact HC0_2.out); rintro e wbi ⟨rfl, hb⟩; refine ⟨_, rfl, ?_⟩; have n0_ := Zq33; have n1_ := Zq34; clear BKaa HB; have BKaa := n0_; have HB := n1_; clear n0_ n1_; (try clear hb); (try clear hb2); (try clear hk); (try clear hi); have hcz101_0 : wbi.cell? ⟨gbaa, 0, none⟩ = some (.string a0_0) := (blk_cell BKaa.out 0).trans rfl; have hcz101_1 : wbi.cell? ⟨gbaa, 1, none⟩ = some (.slice A0_1 l0_1.length c0_1) := (blk_cell BKaa.out 1).trans rfl; have hcz101_2 : wbi.cell? ⟨gbaa, 2, none⟩ = some (.slice A0_2 l0_2.length c0_2) := (blk_cell BKaa.out 2).trans rfl; have hfz101_0 := blk_frozen BKaa.out 0; have hfz101_1 := blk_frozen BKaa.out 1; have hfz101_2 := blk_frozen BKaa.out 2) | ((with_reducible refine gate_callee (f := 30) rfl ?_); refine goesL_ (some 27) rfl rfl Try.func30 Zq1 rfl #[.agg #[.string a0_0, .slice A0_1 l0_1.length c0_1, .slice A0_2 l0_2.length c0_2]] rfl Zq7 ?_; (with_reducible refine (arboretref01_Count.calls kj2 a0_0 _ _ l0_1 _ _ l0_2 tar taD _ ?side1 ?side2 ?side3 ?side4 A16.out).mono ?_); (case side1 => repeat (first | exact Zq35 | (with_reducible refine Kd.C_alloc ?_ _) | (with_reducible refine Kd.C_drewN ?_ _) | (with_reducible refine Kd.C_drew ?_))); (case side2 => exact HC0_1.out); (case side3 => repeat (first | exact Zq36 | (with_reducible refine Kd.C_alloc ?_ _) | (with_reducible refine Kd.C_drewN ?_ _) | (with_reducible refine Kd.C_drew ?_))); (case side4 => exact HC0_2.out); rintro e wbj ⟨rfl, hb⟩; refine ⟨_, rfl, ?_⟩; have n0_ := Zq33; have n1_ := Zq34; clear BKaa HB; have BKaa := n0_; have HB := n1_; clear n0_ n1_; (try clear hb); (try clear hb2); (try clear hk); (try clear hi); have hcz103_0 : wbj.cell? ⟨gbaa, 0, none⟩ = some (.string a0_0) := (blk_cell BKaa.out 0).trans rfl; have hcz103_1 : wbj.cell? ⟨gbaa, 1, none⟩ = some (.slice A0_1 l0_1.length c0_1) := (blk_cell BKaa.out 1).trans rfl; have hcz103_2 : wbj.cell? ⟨gbaa, 2, none⟩ = some (.slice A0_2 l0_2.length c0_2) := (blk_cell BKaa.out 2).trans rfl; have hfz103_0 := blk_frozen BKaa.out 0; have hfz103_1 := blk_frozen BKaa.out 1; have hfz103_2 := blk_frozen BKaa.out 2) | ((with_reducible refine gate_callee (f := 31) rfl ?_); refine goesL_ (some 33) rfl rfl Try.func31 Zq1 rfl #[.agg #[.string a0_0, .slice A0_1 l0_1.length c0_1, .slice A0_2 l0_2.length c0_2], .string a1] rfl Zq7 ?_; (with_reducible refine (tree_Find.calls kj2 a0_0 _ _ l0_1 _ _ l0_2 a1 tai taj _ ?side1 ?side2 ?side3 ?side4 A17.out).mono ?_); (case side1 => repeat (first | exact Zq35 | (with_reducible refine Kd.C_alloc ?_ _) | (with_reducible refine Kd.C_drewN ?_ _) | (with_reducible refine Kd.C_drew ?_))); (case side2 => exact HC0_1.out); (case side3 => repeat (first | exact Zq36 | (with_reducible refine Kd.C_alloc ?_ _) | (with_reducible refine Kd.C_drewN ?_ _) | (with_reducible refine Kd.C_drew ?_))); (case side4 => exact HC0_2.out); rintro e wbk ⟨v786, rfl, ho0, hb⟩; refine ⟨_, rfl, ?_⟩; have n0_ := Zq49; have n1_ := Zq33; have n2_ := Zq34; clear BKaa HB; have HOac := n0_; have BKaa := n1_; have HB := n2_; clear n0_ n1_ n2_; (try clear hb); (try clear hb2); (try clear hk); (try clear hi); (try clear ho0); have hcz105_0 : wbk.cell? ⟨gbaa, 0, none⟩ = some (.string a0_0) := (blk_cell BKaa.out 0).trans rfl; have hcz105_1 : wbk.cell? ⟨gbaa, 1, none⟩ = some (.slice A0_1 l0_1.length c0_1) := (blk_cell BKaa.out 1).trans rfl; have hcz105_2 : wbk.cell? ⟨gbaa, 2, none⟩ = some (.slice A0_2 l0_2.length c0_2) := (blk_cell BKaa.out 2).trans rfl; have hfz105_0 := blk_frozen BKaa.out 0; have hfz105_1 := blk_frozen BKaa.out 1; have hfz105_2 := blk_frozen BKaa.out 2) | ((with_reducible refine gate_callee (f := 32) rfl ?_); refine goesL_ (some 38) rfl rfl Try.func32 Zq1 rfl #[.agg #[.string a0_0, .slice A0_1 l0_1.length c0_1, .slice A0_2 l0_2.length c0_2], .string a1] rfl Zq7 ?_; (with_reducible refine (arboretref01_Find.calls kj2 a0_0 _ _ l0_1 _ _ l0_2 a1 tab _ ?side1 ?side2 ?side3 ?side4 A18.out).mono ?_); (case side1 => repeat (first | exact Zq35 | (with_reducible refine Kd.C_alloc ?_ _) | (with_reducible refine Kd.C_drewN ?_ _) | (with_reducible refine Kd.C_drew ?_))); (case side2 => exact HC0_1.out); (case side3 => repeat (first | exact Zq36 | (with_reducible refine Kd.C_alloc ?_ _) | (with_reducible refine Kd.C_drewN ?_ _) | (with_reducible refine Kd.C_drew ?_))); (case side4 => exact HC0_2.out); rintro e wbN ⟨rfl, hb⟩; refine ⟨_, rfl, ?_⟩; have n0_ := Zq38; have n1_ := Zq33; have n2_ := Zq34; clear HOac BKaa HB; have HOac := n0_; have BKaa := n1_; have HB := n2_; clear n0_ n1_ n2_; (try clear hb); (try clear hb2); (try clear hk); (try clear hi)))
          have n0_ := Zq46; have n1_ := Zq47; have n2_ := Zq48; clear HOac BKaa HB; have HOac := n0_; have BKaa := n1_; have HB := n2_; clear n0_ n1_ n2_
          (try (have ec_ : decide (0 ≤ tab) = false := by rw [decide_eq_false_iff_not]; have q3_ := of_decide_eq_true (by assumption : decide (tab < 0) = true); omega))
          (try (have eb_ : (!taj) = false := by have q1_ := c21b0; have q2_ : decide (tab ≥ 0) = true := Zq13; rw [q2_] at q1_; simpa using q1_))
          (try (have eb_ : taj = false := by have q1_ := c21b0; have q2_ : decide (tab ≥ 0) = false := Zq14; rw [q2_] at q1_; simpa using q1_))
          refine start_ (n := 23) (S := fun w' => w'.cell? ⟨gbaa, 0, none⟩ = some (.string a0_0) ∧ w'.cell? ⟨gbaa, 1, none⟩ = some (.slice A0_1 l0_1.length c0_1) ∧ w'.cell? ⟨gbaa, 2, none⟩ = some (.slice A0_2 l0_2.length c0_2)) (ds := []) #[false, false, false, false, false, false, false, false, false, false, false, false, false, false, false, false, false, false, false, false, false, false, false] Zq1 rfl rfl ⟨(blk_cell BKaa.out 0).trans rfl, (blk_cell BKaa.out 1).trans rfl, (blk_cell BKaa.out 2).trans rfl⟩ (fun hHeld => ?_); refine with_tabW arboretlaw03_TreeFinds.tab7 arboretlaw03_TreeFinds.bits7 (fun HT_ HW_ => ?_); generalize wbN.drew = wbU at HOac BKaa HB hHeld ⊢; refine pure_ (i := 0) (N := some 39) (v := ?_) (a' := ?_) #[true, false, false, false, false, false, false, false, false, false, false, false, false, false, false, false, false, false, false, false, false, false, false] rfl rfl (any_of HT_.out Zq1) (fun _ _ _ h => h) (Or.inl ⟨Zq2, ?_⟩) ?_ ?_
          rotate_left
          ·intro w'
           go_simp
           with_reducible rfl
          rotate_left
          ·simp only [Sx]
           rfl
          refine pure_ (i := 1) (N := some 40) (v := ?_) (a' := ?_) #[true, true, false, false, false, false, false, false, false, false, false, false, false, false, false, false, false, false, false, false, false, false, false] rfl rfl (any_of HT_.out Zq1) (fun _ _ _ h => h) (Or.inl ⟨Zq2, ?_⟩) ?_ ?_
          rotate_left
          ·intro w'
           go_simp
           with_reducible rfl
          rotate_left
          ·simp only [Sx]
           rfl
          refine pure_ (i := 2) (N := some 41) (v := ?_) (a' := ?_) #[true, true, true, false, false, false, false, false, false, false, false, false, false, false, false, false, false, false, false, false, false, false, false] rfl rfl (any_of HT_.out Zq1) (fun _ _ _ h => h) (Or.inl ⟨Zq2, ?_⟩) ?_ ?_
          rotate_left
          ·intro w'
           go_simp
           with_reducible rfl
          rotate_left
          ·simp only [Sx]
           rfl
          refine pure_ (i := 3) (N := some 42) (v := ?_) (a' := ?_) #[true, true, true, true, false, false, false, false, false, false, false, false, false, false, false, false, false, false, false, false, false, false, false] rfl rfl (any_of HT_.out Zq1) (fun _ _ _ h => h) (Or.inl ⟨Zq2, ?_⟩) ?_ ?_
          rotate_left
          ·intro w'
           go_simp
           with_reducible rfl
          rotate_left
          ·simp only [Sx]
           rfl
          refine pure_ (i := 4) (N := some 43) (v := ?_) (a' := ?_) #[true, true, true, true, true, false, false, false, false, false, false, false, false, false, false, false, false, false, false, false, false, false, false] rfl rfl (any_of HT_.out Zq1) (fun _ _ _ h => h) (Or.inl ⟨Zq2, ?_⟩) ?_ ?_
          rotate_left
          ·intro w'
           go_simp
           with_reducible rfl
          rotate_left
          ·simp only [Sx]
           rfl
          refine pure_ (i := 5) (N := some 44) (v := ?_) (a' := ?_) #[true, true, true, true, true, true, false, false, false, false, false, false, false, false, false, false, false, false, false, false, false, false, false] rfl rfl (any_of HT_.out Zq1) (fun _ _ _ h => h) (Or.inl ⟨Zq2, ?_⟩) ?_ ?_
          rotate_left
          ·intro w'
           go_simp
           with_reducible rfl
          rotate_left
          ·simp only [Sx]
           rfl
          refine pure_ (i := 6) (N := some 45) (v := ?_) (a' := ?_) #[true, true, true, true, true, true, true, false, false, false, false, false, false, false, false, false, false, false, false, false, false, false, false] rfl rfl (any_of HT_.out Zq1) (fun _ _ _ h => h) (Or.inl ⟨Zq2, ?_⟩) ?_ ?_
          rotate_left
          ·intro w'
           go_simp
           with_reducible rfl
          rotate_left
          ·simp only [Sx]
           rfl
          refine pure_ (i := 7) (N := some 46) (v := ?_) (a' := ?_) #[true, true, true, true, true, true, true, true, false, false, false, false, false, false, false, false, false, false, false, false, false, false, false] rfl rfl (any_of HT_.out Zq1) (fun _ _ _ h => h) (Or.inl ⟨Zq2, ?_⟩) ?_ ?_
          rotate_left
          ·intro w'
           go_simp
           with_reducible rfl
          rotate_left
          ·simp only [Sx]
           rfl
          refine pure_ (i := 8) (N := some 47) (v := ?_) (a' := ?_) #[true, true, true, true, true, true, true, true, true, false, false, false, false, false, false, false, false, false, false, false, false, false, false] rfl rfl (any_of HT_.out Zq1) (fun _ _ _ h => h) (Or.inl ⟨Zq2, ?_⟩) ?_ ?_
          rotate_left
          ·intro w'
           go_simp
           with_reducible rfl
          rotate_left
          ·simp only [Sx]
           rfl
          refine pure_ (i := 9) (N := some 48) (v := ?_) (a' := ?_) #[true, true, true, true, true, true, true, true, true, true, false, false, false, false, false, false, false, false, false, false, false, false, false] rfl rfl (any_of HT_.out Zq1) (fun _ _ _ h => h) (Or.inl ⟨Zq2, ?_⟩) ?_ ?_
          rotate_left
          ·intro w'
           go_simp
           with_reducible rfl
          rotate_left
          ·simp only [Sx]
           rfl
          refine pure_ (i := 10) (N := some 49) (v := ?_) (a' := ?_) #[true, true, true, true, true, true, true, true, true, true, true, false, false, false, false, false, false, false, false, false, false, false, false] rfl rfl (any_of HT_.out Zq1) (fun _ _ _ h => h) (Or.inl ⟨Zq2, ?_⟩) ?_ ?_
          rotate_left
          ·intro w'
           go_simp
           with_reducible rfl
          rotate_left
          ·simp only [Sx]
           rfl
          refine pure_ (i := 11) (N := some 50) (v := ?_) (a' := ?_) #[true, true, true, true, true, true, true, true, true, true, true, true, false, false, false, false, false, false, false, false, false, false, false] rfl rfl (any_of HT_.out Zq1) (fun _ _ _ h => h) (Or.inl ⟨Zq2, ?_⟩) ?_ ?_
          rotate_left
          ·intro w'
           go_simp
           with_reducible rfl
          rotate_left
          ·simp only [Sx]
           rfl
          refine pure_ (i := 12) (N := some 51) (v := ?_) (a' := ?_) #[true, true, true, true, true, true, true, true, true, true, true, true, true, false, false, false, false, false, false, false, false, false, false] rfl rfl (any_of HT_.out Zq1) (fun _ _ _ h => h) (Or.inl ⟨Zq2, ?_⟩) ?_ ?_
          rotate_left
          ·intro w'
           go_simp
           with_reducible rfl
          rotate_left
          ·simp only [Sx]
           rfl
          refine pure_ (i := 13) (N := some 52) (v := ?_) (a' := ?_) #[true, true, true, true, true, true, true, true, true, true, true, true, true, true, false, false, false, false, false, false, false, false, false] rfl rfl (any_of HT_.out Zq1) (fun _ _ _ h => h) (Or.inl ⟨Zq2, ?_⟩) ?_ ?_
          rotate_left
          ·intro w'
           go_simp
           with_reducible rfl
          rotate_left
          ·simp only [Sx]
           rfl
          refine pure_ (i := 14) (N := some 53) (v := ?_) (a' := ?_) #[true, true, true, true, true, true, true, true, true, true, true, true, true, true, true, false, false, false, false, false, false, false, false] rfl rfl (any_of HT_.out Zq1) (fun _ _ _ h => h) (Or.inl ⟨Zq2, ?_⟩) ?_ ?_
          rotate_left
          ·intro w'
           go_simp
           with_reducible rfl
          rotate_left
          ·simp only [Sx]
           rfl
          refine pure_ (i := 16) (N := some 55) (v := ?_) (a' := ?_) #[true, true, true, true, true, true, true, true, true, true, true, true, true, true, true, false, true, false, false, false, false, false, false] rfl rfl (any_of HT_.out Zq1) (fun _ _ _ h => h) (Or.inl ⟨Zq2, ?_⟩) ?_ ?_
          rotate_left
          ·intro w'
           go_simp
           with_reducible rfl
          rotate_left
          ·simp only [Sx]
           rfl
          refine pure_ (i := 19) (N := some 58) (v := ?_) (a' := ?_) #[true, true, true, true, true, true, true, true, true, true, true, true, true, true, true, false, true, false, false, true, false, false, false] rfl rfl (any_of HT_.out Zq1) (fun _ _ _ h => h) (Or.inl ⟨Zq2, ?_⟩) ?_ ?_
          rotate_left
          ·intro w'
           go_simp
           with_reducible rfl
          rotate_left
          ·simp only [Sx]
           rfl
          refine take_ (i := 15) (N := some 54) (v := ?_) (a' := ?_) #[true, true, true, true, true, true, true, true, true, true, true, true, true, true, true, true, true, false, false, true, false, false, false] rfl rfl (take_ofW HT_.out HW_.out Zq1) (fun _ _ _ h => h) (Or.inl ⟨Zq2, ?_⟩) hHeld ?_ ?_
          rotate_left
          ·rintro w' ⟨s0, s1, s2⟩
           go_simp
           with_reducible rfl
          rotate_left
          ·simp only [Sx]
           rfl
          refine take_ (i := 18) (N := some 57) (v := ?_) (a' := ?_) #[true, true, true, true, true, true, true, true, true, true, true, true, true, true, true, true, true, false, true, true, false, false, false] rfl rfl (take_ofW HT_.out HW_.out Zq1) (fun _ _ _ h => h) (Or.inl ⟨Zq2, ?_⟩) hHeld ?_ ?_
          rotate_left
          ·rintro w' ⟨s0, s1, s2⟩
           go_simp
           with_reducible rfl
          rotate_left
          ·simp only [Sx]
           rfl
          refine one_ (i := 17) (N := some 56) #[true, true, true, true, true, true, true, true, true, true, true, true, true, true, true, true, true, true, true, true, false, false, false] rfl rfl (one_of HT_.out Zq1) (by decide) (fun K hK => ?_); refine goes_ Try.func33 Zq1 rfl #[.agg #[.string a0_0, .slice A0_1 l0_1.length c0_1, .slice A0_2 l0_2.length c0_2], .string a1] Zq2 rfl rfl Zq7 ?_; with_reducible refine (tree_Kid.calls a0_0 _ _ l0_1 _ _ l0_2 a1 tav _ ?side1 ?side2 ?side3 ?side4 A31.out).mono ?_
          (case side1 => repeat (first | exact Zq35 | (with_reducible refine Kd.C_alloc ?_ _) | (with_reducible refine Kd.C_drewN ?_ _) | (with_reducible refine Kd.C_drew ?_)))
          (case side2 => exact HC0_1.out)
          (case side3 => repeat (first | exact Zq36 | (with_reducible refine Kd.C_alloc ?_ _) | (with_reducible refine Kd.C_drewN ?_ _) | (with_reducible refine Kd.C_drew ?_)))
          (case side4 => exact HC0_2.out)
          rintro e wbV ⟨rfl, hb⟩
          refine ⟨_, rfl, ?_⟩; have n0_ := Zq38; have n1_ := Zq33; have n2_ := Zq34; clear HOac BKaa HB; have HOac := n0_; have BKaa := n1_; have HB := n2_; clear n0_ n1_ n2_
          (try clear hb)
          (try clear hb2)
          (try clear hk)
          (try clear hi)
          refine hK.out _ _ ⟨(blk_cell BKaa.out 0).trans rfl, (blk_cell BKaa.out 1).trans rfl, (blk_cell BKaa.out 2).trans rfl⟩ (fun hHeld => ?_); clear hK K; refine norm_ (a' := ?_) ?_ ?_
          rotate_left
          ·show Act.put _ (some 56) _ = _
           simp only [Sx]
           rfl
          refine one_ (i := 20) (N := some 59) #[true, true, true, true, true, true, true, true, true, true, true, true, true, true, true, true, true, true, true, true, true, false, false] rfl rfl (one_of HT_.out Zq1) (by decide) (fun K hK => ?_); refine goes_ Try.func34 Zq1 rfl #[.agg #[.string a0_0, .slice A0_1 l0_1.length c0_1, .slice A0_2 l0_2.length c0_2], .string a1] Zq2 rfl rfl Zq7 ?_; with_reducible refine (arboretref01_Kid.calls kj2 a0_0 _ _ l0_1 _ _ l0_2 a1 tau _ ?side1 ?side2 ?side3 ?side4 A32.out).mono ?_
          (case side1 => repeat (first | exact Zq35 | (with_reducible refine Kd.C_alloc ?_ _) | (with_reducible refine Kd.C_drewN ?_ _) | (with_reducible refine Kd.C_drew ?_)))
          (case side2 => exact HC0_1.out)
          (case side3 => repeat (first | exact Zq36 | (with_reducible refine Kd.C_alloc ?_ _) | (with_reducible refine Kd.C_drewN ?_ _) | (with_reducible refine Kd.C_drew ?_)))
          (case side4 => exact HC0_2.out)
          rintro e wbO ⟨rfl, hb⟩
          refine ⟨_, rfl, ?_⟩; have n0_ := Zq38; have n1_ := Zq33; have n2_ := Zq34; clear HOac BKaa HB; have HOac := n0_; have BKaa := n1_; have HB := n2_; clear n0_ n1_ n2_
          (try clear hb)
          (try clear hb2)
          (try clear hk)
          (try clear hi)
          refine hK.out _ _ ⟨(blk_cell BKaa.out 0).trans rfl, (blk_cell BKaa.out 1).trans rfl, (blk_cell BKaa.out 2).trans rfl⟩ (fun hHeld => ?_); clear hK K; refine norm_ (a' := ?_) ?_ ?_
          rotate_left
          ·show Act.put _ (some 59) _ = _
           simp only [Sx]
           rfl
          refine pure_ (i := 21) (N := some 60) (v := ?_) (a' := ?_) #[true, true, true, true, true, true, true, true, true, true, true, true, true, true, true, true, true, true, true, true, true, true, false] rfl rfl (any_of HT_.out Zq1) (fun _ _ _ h => h) (Or.inl ⟨Zq2, ?_⟩) ?_ ?_
          rotate_left
          ·intro w'
           go_simp
           with_reducible rfl
          rotate_left
          ·simp only [Sx]
           rfl
          refine pure_ (i := 22) (N := some 61) (v := ?_) (a' := ?_) #[true, true, true, true, true, true, true, true, true, true, true, true, true, true, true, true, true, true, true, true, true, true, true] rfl rfl (any_of HT_.out Zq1) (fun _ _ _ h => h) (Or.inl ⟨Zq2, ?_⟩) ?_ ?_
          rotate_left
          ·intro w'
           go_simp
           with_reducible rfl
          rotate_left
          ·simp only [Sx]
           rfl
          refine done_ (done_of HT_.out Zq1) ?_
          try go_wp2
          have n0_ := Zq46; have n1_ := Zq47; have n2_ := Zq48; clear HOac BKaa HB; have HOac := n0_; have BKaa := n1_; have HB := n2_; clear n0_ n1_ n2_
          (try (have ec_ : decide (0 ≤ tab) = false := by rw [decide_eq_false_iff_not]; have q3_ := of_decide_eq_true (by assumption : decide (tab < 0) = true); omega))
          (try (have eb_ : (!taj) = false := by have q1_ := c21b0; have q2_ : decide (tab ≥ 0) = true := Zq13; rw [q2_] at q1_; simpa using q1_))
          (try (have eb_ : taj = false := by have q1_ := c21b0; have q2_ : decide (tab ≥ 0) = false := Zq14; rw [q2_] at q1_; simpa using q1_))
          refine start_ (n := 24) (S := fun w' => True) (ds := []) #[false, false, false, false, false, false, false, false, false, false, false, false, false, false, false, false, false, false, false, false, false, false, false, false] Zq1 rfl rfl trivial (fun hHeld => ?_); refine with_tabW arboretlaw03_TreeFinds.tab9 arboretlaw03_TreeFinds.bits9 (fun HT_ HW_ => ?_); generalize wbO.drew = wbW at HOac BKaa HB hHeld ⊢; refine pure_ (i := 0) (N := some 62) (v := ?_) (a' := ?_) #[true, false, false, false, false, false, false, false, false, false, false, false, false, false, false, false, false, false, false, false, false, false, false, false] rfl rfl (any_of HT_.out Zq1) (fun _ _ _ h => h) (Or.inl ⟨Zq2, ?_⟩) ?_ ?_
          rotate_left
          ·intro w'
           go_simp
           with_reducible rfl
          rotate_left
          ·simp only [Sx]
           rfl
          refine pure_ (i := 1) (N := some 63) (v := ?_) (a' := ?_) #[true, true, false, false, false, false, false, false, false, false, false, false, false, false, false, false, false, false, false, false, false, false, false, false] rfl rfl (any_of HT_.out Zq1) (fun _ _ _ h => h) (Or.inl ⟨Zq2, ?_⟩) ?_ ?_
          rotate_left
          ·intro w'
           go_simp
           with_reducible rfl
          rotate_left
          ·simp only [Sx]
           rfl
          refine pure_ (i := 2) (N := some 64) (v := ?_) (a' := ?_) #[true, true, true, false, false, false, false, false, false, false, false, false, false, false, false, false, false, false, false, false, false, false, false, false] rfl rfl (any_of HT_.out Zq1) (fun _ _ _ h => h) (Or.inl ⟨Zq2, ?_⟩) ?_ ?_
          rotate_left
          ·intro w'
           go_simp
           with_reducible rfl
          rotate_left
          ·simp only [Sx]
           rfl
          refine pure_ (i := 3) (N := some 65) (v := undef) (a' := ?_) #[true, true, true, true, false, false, false, false, false, false, false, false, false, false, false, false, false, false, false, false, false, false, false, false] rfl rfl (any_of HT_.out Zq1) (fun _ _ _ h => h) (Or.inr ⟨Zq2, rfl⟩) ?_ ?_
          rotate_left
          ·simp only [Sx]
           rfl
          refine pure_ (i := 4) (N := some 66) (v := undef) (a' := ?_) #[true, true, true, true, true, false, false, false, false, false, false, false, false, false, false, false, false, false, false, false, false, false, false, false] rfl rfl (any_of HT_.out Zq1) (fun _ _ _ h => h) (Or.inr ⟨Zq2, rfl⟩) ?_ ?_
          rotate_left
          ·simp only [Sx]
           rfl
          refine pure_ (i := 5) (N := some 67) (v := undef) (a' := ?_) #[true, true, true, true, true, true, false, false, false, false, false, false, false, false, false, false, false, false, false, false, false, false, false, false] rfl rfl (any_of HT_.out Zq1) (fun _ _ _ h => h) (Or.inr ⟨Zq2, rfl⟩) ?_ ?_
          rotate_left
          ·simp only [Sx]
           rfl
          refine pure_ (i := 6) (N := some 68) (v := ?_) (a' := ?_) #[true, true, true, true, true, true, true, false, false, false, false, false, false, false, false, false, false, false, false, false, false, false, false, false] rfl rfl (any_of HT_.out Zq1) (fun _ _ _ h => h) (Or.inl ⟨Zq2, ?_⟩) ?_ ?_
          rotate_left
          ·intro w'
           go_simp
           with_reducible rfl
          rotate_left
          ·simp only [Sx]
           rfl
          refine pure_ (i := 7) (N := some 69) (v := ?_) (a' := ?_) #[true, true, true, true, true, true, true, true, false, false, false, false, false, false, false, false, false, false, false, false, false, false, false, false] rfl rfl (any_of HT_.out Zq1) (fun _ _ _ h => h) (Or.inl ⟨Zq2, ?_⟩) ?_ ?_
          rotate_left
          ·intro w'
           go_simp
           with_reducible rfl
          rotate_left
          ·simp only [Sx]
           rfl
          refine pure_ (i := 8) (N := some 70) (v := ?_) (a' := ?_) #[true, true, true, true, true, true, true, true, true, false, false, false, false, false, false, false, false, false, false, false, false, false, false, false] rfl rfl (any_of HT_.out Zq1) (fun _ _ _ h => h) (Or.inl ⟨Zq2, ?_⟩) ?_ ?_
          rotate_left
          ·intro w'
           go_simp
           with_reducible rfl
          rotate_left
          ·simp only [Sx]
           rfl
          refine pure_ (i := 9) (N := some 71) (v := ?_) (a' := ?_) #[true, true, true, true, true, true, true, true, true, true, false, false, false, false, false, false, false, false, false, false, false, false, false, false] rfl rfl (any_of HT_.out Zq1) (fun _ _ _ h => h) (Or.inl ⟨Zq2, ?_⟩) ?_ ?_
          rotate_left
          ·intro w'
           go_simp
           with_reducible rfl
          rotate_left
          ·simp only [Sx]
           rfl
          refine pure_ (i := 10) (N := some 72) (v := ?_) (a' := ?_) #[true, true, true, true, true, true, true, true, true, true, true, false, false, false, false, false, false, false, false, false, false, false, false, false] rfl rfl (any_of HT_.out Zq1) (fun _ _ _ h => h) (Or.inl ⟨Zq2, ?_⟩) ?_ ?_
          rotate_left
          ·intro w'
           go_simp
           with_reducible rfl
          rotate_left
          ·simp only [Sx]
           rfl
          refine pure_ (i := 11) (N := some 73) (v := undef) (a' := ?_) #[true, true, true, true, true, true, true, true, true, true, true, true, false, false, false, false, false, false, false, false, false, false, false, false] rfl rfl (any_of HT_.out Zq1) (fun _ _ _ h => h) (Or.inr ⟨Zq2, rfl⟩) ?_ ?_
          rotate_left
          ·simp only [Sx]
           rfl
          refine pure_ (i := 12) (N := some 74) (v := undef) (a' := ?_) #[true, true, true, true, true, true, true, true, true, true, true, true, true, false, false, false, false, false, false, false, false, false, false, false] rfl rfl (any_of HT_.out Zq1) (fun _ _ _ h => h) (Or.inr ⟨Zq2, rfl⟩) ?_ ?_
          rotate_left
          ·simp only [Sx]
           rfl
          refine pure_ (i := 13) (N := some 75) (v := undef) (a' := ?_) #[true, true, true, true, true, true, true, true, true, true, true, true, true, true, false, false, false, false, false, false, false, false, false, false] rfl rfl (any_of HT_.out Zq1) (fun _ _ _ h => h) (Or.inr ⟨Zq2, rfl⟩) ?_ ?_
          rotate_left
          ·simp only [Sx]
           rfl
          refine pure_ (i := 14) (N := some 76) (v := undef) (a' := ?_) #[true, true, true, true, true, true, true, true, true, true, true, true, true, true, true, false, false, false, false, false, false, false, false, false] rfl rfl (any_of HT_.out Zq1) (fun _ _ _ h => h) (Or.inr ⟨Zq2, rfl⟩) ?_ ?_
          rotate_left
          ·simp only [Sx]
           rfl
          refine pure_ (i := 15) (N := some 77) (v := undef) (a' := ?_) #[true, true, true, true, true, true, true, true, true, true, true, true, true, true, true, true, false, false, false, false, false, false, false, false] rfl rfl (any_of HT_.out Zq1) (fun _ _ _ h => h) (Or.inr ⟨Zq2, rfl⟩) ?_ ?_
          rotate_left
          ·simp only [Sx]
           rfl
          refine pure_ (i := 16) (N := some 78) (v := undef) (a' := ?_) #[true, true, true, true, true, true, true, true, true, true, true, true, true, true, true, true, true, false, false, false, false, false, false, false] rfl rfl (any_of HT_.out Zq1) (fun _ _ _ h => h) (Or.inr ⟨Zq2, rfl⟩) ?_ ?_
          rotate_left
          ·simp only [Sx]
           rfl
          refine pure_ (i := 17) (N := some 79) (v := undef) (a' := ?_) #[true, true, true, true, true, true, true, true, true, true, true, true, true, true, true, true, true, true, false, false, false, false, false, false] rfl rfl (any_of HT_.out Zq1) (fun _ _ _ h => h) (Or.inr ⟨Zq2, rfl⟩) ?_ ?_
          rotate_left
          ·simp only [Sx]
           rfl
          refine pure_ (i := 18) (N := some 80) (v := undef) (a' := ?_) #[true, true, true, true, true, true, true, true, true, true, true, true, true, true, true, true, true, true, true, false, false, false, false, false] rfl rfl (any_of HT_.out Zq1) (fun _ _ _ h => h) (Or.inr ⟨Zq2, rfl⟩) ?_ ?_
          rotate_left
          ·simp only [Sx]
           rfl
          refine pure_ (i := 19) (N := some 81) (v := undef) (a' := ?_) #[true, true, true, true, true, true, true, true, true, true, true, true, true, true, true, true, true, true, true, true, false, false, false, false] rfl rfl (any_of HT_.out Zq1) (fun _ _ _ h => h) (Or.inr ⟨Zq2, rfl⟩) ?_ ?_
          rotate_left
          ·simp only [Sx]
           rfl
          refine pure_ (i := 20) (N := some 82) (v := undef) (a' := ?_) #[true, true, true, true, true, true, true, true, true, true, true, true, true, true, true, true, true, true, true, true, true, false, false, false] rfl rfl (any_of HT_.out Zq1) (fun _ _ _ h => h) (Or.inr ⟨Zq2, rfl⟩) ?_ ?_
          rotate_left
          ·simp only [Sx]
           rfl
          refine pure_ (i := 21) (N := some 83) (v := ?_) (a' := ?_) #[true, true, true, true, true, true, true, true, true, true, true, true, true, true, true, true, true, true, true, true, true, true, false, false] rfl rfl (any_of HT_.out Zq1) (fun _ _ _ h => h) (Or.inl ⟨Zq2, ?_⟩) ?_ ?_
          rotate_left
          ·intro w'
           go_simp
           with_reducible rfl
          rotate_left
          ·simp only [Sx]
           rfl
          refine pure_ (i := 22) (N := some 84) (v := ?_) (a' := ?_) #[true, true, true, true, true, true, true, true, true, true, true, true, true, true, true, true, true, true, true, true, true, true, true, false] rfl rfl (any_of HT_.out Zq1) (fun _ _ _ h => h) (Or.inl ⟨Zq2, ?_⟩) ?_ ?_
          rotate_left
          ·intro w'
           go_simp
           with_reducible rfl
          rotate_left
          ·simp only [Sx]
           rfl
          refine pure_ (i := 23) (N := some 4) (v := ?_) (a' := ?_) #[true, true, true, true, true, true, true, true, true, true, true, true, true, true, true, true, true, true, true, true, true, true, true, true] rfl rfl (any_of HT_.out Zq1) (fun _ _ _ h => h) (Or.inl ⟨Zq2, ?_⟩) ?_ ?_
          rotate_left
          ·intro w'
           go_simp
           with_reducible rfl
          rotate_left
          ·simp only [Sx]
           rfl
          refine done_ (done_of HT_.out Zq1) ?_
          try go_wp2
          go_ret
          exact ⟨Zq10, Zq4⟩
       ·rw [if_neg c33] at H; have c33b0 : (tav == tau) = false := beq_eq_false_iff_ne.mpr c33; have c33b1 : (tav != tau) = true := bne_iff_ne.mpr c33; obtain rfl := Option.some.inj H; have hcz111_0 : wc.cell? ⟨gbaa, 0, none⟩ = some (.string a0_0) := (blk_cell BKaa.out 0).trans rfl; have hcz111_1 : wc.cell? ⟨gbaa, 1, none⟩ = some (.slice A0_1 l0_1.length c0_1) := (blk_cell BKaa.out 1).trans rfl; have hcz111_2 : wc.cell? ⟨gbaa, 2, none⟩ = some (.slice A0_2 l0_2.length c0_2) := (blk_cell BKaa.out 2).trans rfl; have hfz111_0 := blk_frozen BKaa.out 0; have hfz111_1 := blk_frozen BKaa.out 1; have hfz111_2 := blk_frozen BKaa.out 2
        try go_wp2_with (first | ((with_reducible refine gate_callee (f := 29) rfl ?_); refine goesL_ (some 22) rfl rfl Try.func29 Zq1 rfl #[.agg #[.string a0_0, .slice A0_1 l0_1.length c0_1, .slice A0_2 l0_2.length c0_2]] rfl Zq7 ?_; (with_reducible refine (tree_Count.calls kj2 a0_0 _ _ l0_1 _ _ l0_2 taw taC _ ?side1 ?side2 ?side3 ?side4 A15.out).mono ?_); (case side1 => repeat (first | exact Zq35 | (with_reducible refine Kd.C_alloc ?_ _) | (with_reducible refine Kd.C_drewN ?_ _) | (with_reducible refine Kd.C_drew ?_))); (case side2 => exact HC0_1.out); (case side3 => repeat (first | exact Zq36 | (with_reducible refine Kd.C_alloc ?_ _) | (with_reducible refine Kd.C_drewN ?_ _) | (with_reducible refine Kd.C_drew ?_))); (case side4 => exact HC0_2.out); rintro e wbl ⟨rfl, hb⟩; refine ⟨_, rfl, ?_⟩; have n0_ := Zq33; have n1_ := Zq34; clear BKaa HB; have BKaa := n0_; have HB := n1_; clear n0_ n1_; (try clear hb); (try clear hb2); (try clear hk); (try clear hi); have hcz113_0 : wbl.cell? ⟨gbaa, 0, none⟩ = some (.string a0_0) := (blk_cell BKaa.out 0).trans rfl; have hcz113_1 : wbl.cell? ⟨gbaa, 1, none⟩ = some (.slice A0_1 l0_1.length c0_1) := (blk_cell BKaa.out 1).trans rfl; have hcz113_2 : wbl.cell? ⟨gbaa, 2, none⟩ = some (.slice A0_2 l0_2.length c0_2) := (blk_cell BKaa.out 2).trans rfl; have hfz113_0 := blk_frozen BKaa.out 0; have hfz113_1 := blk_frozen BKaa.out 1; have hfz113_2 := blk_frozen BKaa.out 2) | ((with_reducible refine gate_callee (f := 30) rfl ?_); refine goesL_ (some 27) rfl rfl Try.func30 Zq1 rfl #[.agg #[.string a0_0, .slice A0_1 l0_1.length c0_1, .slice A0_2 l0_2.length c0_2]] rfl Zq7 ?_; (with_reducible refine (arboretref01_Count.calls kj2 a0_0 _ _ l0_1 _ _ l0_2 tar taD _ ?side1 ?side2 ?side3 ?side4 A16.out).mono ?_); (case side1 => repeat (first | exact Zq35 | (with_reducible refine Kd.C_alloc ?_ _) | (with_reducible refine Kd.C_drewN ?_ _) | (with_reducible refine Kd.C_drew ?_))); (case side2 => exact HC0_1.out); (case side3 => repeat (first | exact Zq36 | (with_reducible refine Kd.C_alloc ?_ _) | (with_reducible refine Kd.C_drewN ?_ _) | (with_reducible refine Kd.C_drew ?_))); (case side4 => exact HC0_2.out); rintro e wbm ⟨rfl, hb⟩; refine ⟨_, rfl, ?_⟩; have n0_ := Zq33; have n1_ := Zq34; clear BKaa HB; have BKaa := n0_; have HB := n1_; clear n0_ n1_; (try clear hb); (try clear hb2); (try clear hk); (try clear hi); have hcz115_0 : wbm.cell? ⟨gbaa, 0, none⟩ = some (.string a0_0) := (blk_cell BKaa.out 0).trans rfl; have hcz115_1 : wbm.cell? ⟨gbaa, 1, none⟩ = some (.slice A0_1 l0_1.length c0_1) := (blk_cell BKaa.out 1).trans rfl; have hcz115_2 : wbm.cell? ⟨gbaa, 2, none⟩ = some (.slice A0_2 l0_2.length c0_2) := (blk_cell BKaa.out 2).trans rfl; have hfz115_0 := blk_frozen BKaa.out 0; have hfz115_1 := blk_frozen BKaa.out 1; have hfz115_2 := blk_frozen BKaa.out 2) | ((with_reducible refine gate_callee (f := 31) rfl ?_); refine goesL_ (some 33) rfl rfl Try.func31 Zq1 rfl #[.agg #[.string a0_0, .slice A0_1 l0_1.length c0_1, .slice A0_2 l0_2.length c0_2], .string a1] rfl Zq7 ?_; (with_reducible refine (tree_Find.calls kj2 a0_0 _ _ l0_1 _ _ l0_2 a1 tai taj _ ?side1 ?side2 ?side3 ?side4 A17.out).mono ?_); (case side1 => repeat (first | exact Zq35 | (with_reducible refine Kd.C_alloc ?_ _) | (with_reducible refine Kd.C_drewN ?_ _) | (with_reducible refine Kd.C_drew ?_))); (case side2 => exact HC0_1.out); (case side3 => repeat (first | exact Zq36 | (with_reducible refine Kd.C_alloc ?_ _) | (with_reducible refine Kd.C_drewN ?_ _) | (with_reducible refine Kd.C_drew ?_))); (case side4 => exact HC0_2.out); rintro e wbn ⟨v786, rfl, ho0, hb⟩; refine ⟨_, rfl, ?_⟩; have n0_ := Zq49; have n1_ := Zq33; have n2_ := Zq34; clear BKaa HB; have HOac := n0_; have BKaa := n1_; have HB := n2_; clear n0_ n1_ n2_; (try clear hb); (try clear hb2); (try clear hk); (try clear hi); (try clear ho0); have hcz117_0 : wbn.cell? ⟨gbaa, 0, none⟩ = some (.string a0_0) := (blk_cell BKaa.out 0).trans rfl; have hcz117_1 : wbn.cell? ⟨gbaa, 1, none⟩ = some (.slice A0_1 l0_1.length c0_1) := (blk_cell BKaa.out 1).trans rfl; have hcz117_2 : wbn.cell? ⟨gbaa, 2, none⟩ = some (.slice A0_2 l0_2.length c0_2) := (blk_cell BKaa.out 2).trans rfl; have hfz117_0 := blk_frozen BKaa.out 0; have hfz117_1 := blk_frozen BKaa.out 1; have hfz117_2 := blk_frozen BKaa.out 2) | ((with_reducible refine gate_callee (f := 32) rfl ?_); refine goesL_ (some 38) rfl rfl Try.func32 Zq1 rfl #[.agg #[.string a0_0, .slice A0_1 l0_1.length c0_1, .slice A0_2 l0_2.length c0_2], .string a1] rfl Zq7 ?_; (with_reducible refine (arboretref01_Find.calls kj2 a0_0 _ _ l0_1 _ _ l0_2 a1 tab _ ?side1 ?side2 ?side3 ?side4 A18.out).mono ?_); (case side1 => repeat (first | exact Zq35 | (with_reducible refine Kd.C_alloc ?_ _) | (with_reducible refine Kd.C_drewN ?_ _) | (with_reducible refine Kd.C_drew ?_))); (case side2 => exact HC0_1.out); (case side3 => repeat (first | exact Zq36 | (with_reducible refine Kd.C_alloc ?_ _) | (with_reducible refine Kd.C_drewN ?_ _) | (with_reducible refine Kd.C_drew ?_))); (case side4 => exact HC0_2.out); rintro e wbP ⟨rfl, hb⟩; refine ⟨_, rfl, ?_⟩; have n0_ := Zq38; have n1_ := Zq33; have n2_ := Zq34; clear HOac BKaa HB; have HOac := n0_; have BKaa := n1_; have HB := n2_; clear n0_ n1_ n2_; (try clear hb); (try clear hb2); (try clear hk); (try clear hi)))
        have n0_ := Zq46; have n1_ := Zq47; have n2_ := Zq48; clear HOac BKaa HB; have HOac := n0_; have BKaa := n1_; have HB := n2_; clear n0_ n1_ n2_
        (try (have ec_ : decide (0 ≤ tab) = false := by rw [decide_eq_false_iff_not]; have q3_ := of_decide_eq_true (by assumption : decide (tab < 0) = true); omega))
        (try (have eb_ : (!taj) = false := by have q1_ := c21b0; have q2_ : decide (tab ≥ 0) = true := Zq13; rw [q2_] at q1_; simpa using q1_))
        (try (have eb_ : taj = false := by have q1_ := c21b0; have q2_ : decide (tab ≥ 0) = false := Zq14; rw [q2_] at q1_; simpa using q1_))
        refine start_ (n := 23) (S := fun w' => w'.cell? ⟨gbaa, 0, none⟩ = some (.string a0_0) ∧ w'.cell? ⟨gbaa, 1, none⟩ = some (.slice A0_1 l0_1.length c0_1) ∧ w'.cell? ⟨gbaa, 2, none⟩ = some (.slice A0_2 l0_2.length c0_2)) (ds := []) #[false, false, false, false, false, false, false, false, false, false, false, false, false, false, false, false, false, false, false, false, false, false, false] Zq1 rfl rfl ⟨(blk_cell BKaa.out 0).trans rfl, (blk_cell BKaa.out 1).trans rfl, (blk_cell BKaa.out 2).trans rfl⟩ (fun hHeld => ?_); refine with_tabW arboretlaw03_TreeFinds.tab7 arboretlaw03_TreeFinds.bits7 (fun HT_ HW_ => ?_); generalize wbP.drew = wbX at HOac BKaa HB hHeld ⊢; refine pure_ (i := 0) (N := some 39) (v := ?_) (a' := ?_) #[true, false, false, false, false, false, false, false, false, false, false, false, false, false, false, false, false, false, false, false, false, false, false] rfl rfl (any_of HT_.out Zq1) (fun _ _ _ h => h) (Or.inl ⟨Zq2, ?_⟩) ?_ ?_
        rotate_left
        ·intro w'
         go_simp
         with_reducible rfl
        rotate_left
        ·simp only [Sx]
         rfl
        refine pure_ (i := 1) (N := some 40) (v := ?_) (a' := ?_) #[true, true, false, false, false, false, false, false, false, false, false, false, false, false, false, false, false, false, false, false, false, false, false] rfl rfl (any_of HT_.out Zq1) (fun _ _ _ h => h) (Or.inl ⟨Zq2, ?_⟩) ?_ ?_
        rotate_left
        ·intro w'
         go_simp
         with_reducible rfl
        rotate_left
        ·simp only [Sx]
         rfl
        refine pure_ (i := 2) (N := some 41) (v := ?_) (a' := ?_) #[true, true, true, false, false, false, false, false, false, false, false, false, false, false, false, false, false, false, false, false, false, false, false] rfl rfl (any_of HT_.out Zq1) (fun _ _ _ h => h) (Or.inl ⟨Zq2, ?_⟩) ?_ ?_
        rotate_left
        ·intro w'
         go_simp
         with_reducible rfl
        rotate_left
        ·simp only [Sx]
         rfl
        refine pure_ (i := 3) (N := some 42) (v := ?_) (a' := ?_) #[true, true, true, true, false, false, false, false, false, false, false, false, false, false, false, false, false, false, false, false, false, false, false] rfl rfl (any_of HT_.out Zq1) (fun _ _ _ h => h) (Or.inl ⟨Zq2, ?_⟩) ?_ ?_
        rotate_left
        ·intro w'
         go_simp
         with_reducible rfl
        rotate_left
        ·simp only [Sx]
         rfl
        refine pure_ (i := 4) (N := some 43) (v := ?_) (a' := ?_) #[true, true, true, true, true, false, false, false, false, false, false, false, false, false, false, false, false, false, false, false, false, false, false] rfl rfl (any_of HT_.out Zq1) (fun _ _ _ h => h) (Or.inl ⟨Zq2, ?_⟩) ?_ ?_
        rotate_left
        ·intro w'
         go_simp
         with_reducible rfl
        rotate_left
        ·simp only [Sx]
         rfl
        refine pure_ (i := 5) (N := some 44) (v := ?_) (a' := ?_) #[true, true, true, true, true, true, false, false, false, false, false, false, false, false, false, false, false, false, false, false, false, false, false] rfl rfl (any_of HT_.out Zq1) (fun _ _ _ h => h) (Or.inl ⟨Zq2, ?_⟩) ?_ ?_
        rotate_left
        ·intro w'
         go_simp
         with_reducible rfl
        rotate_left
        ·simp only [Sx]
         rfl
        refine pure_ (i := 6) (N := some 45) (v := ?_) (a' := ?_) #[true, true, true, true, true, true, true, false, false, false, false, false, false, false, false, false, false, false, false, false, false, false, false] rfl rfl (any_of HT_.out Zq1) (fun _ _ _ h => h) (Or.inl ⟨Zq2, ?_⟩) ?_ ?_
        rotate_left
        ·intro w'
         go_simp
         with_reducible rfl
        rotate_left
        ·simp only [Sx]
         rfl
        refine pure_ (i := 7) (N := some 46) (v := ?_) (a' := ?_) #[true, true, true, true, true, true, true, true, false, false, false, false, false, false, false, false, false, false, false, false, false, false, false] rfl rfl (any_of HT_.out Zq1) (fun _ _ _ h => h) (Or.inl ⟨Zq2, ?_⟩) ?_ ?_
        rotate_left
        ·intro w'
         go_simp
         with_reducible rfl
        rotate_left
        ·simp only [Sx]
         rfl
        refine pure_ (i := 8) (N := some 47) (v := ?_) (a' := ?_) #[true, true, true, true, true, true, true, true, true, false, false, false, false, false, false, false, false, false, false, false, false, false, false] rfl rfl (any_of HT_.out Zq1) (fun _ _ _ h => h) (Or.inl ⟨Zq2, ?_⟩) ?_ ?_
        rotate_left
        ·intro w'
         go_simp
         with_reducible rfl
        rotate_left
        ·simp only [Sx]
         rfl
        refine pure_ (i := 9) (N := some 48) (v := ?_) (a' := ?_) #[true, true, true, true, true, true, true, true, true, true, false, false, false, false, false, false, false, false, false, false, false, false, false] rfl rfl (any_of HT_.out Zq1) (fun _ _ _ h => h) (Or.inl ⟨Zq2, ?_⟩) ?_ ?_
        rotate_left
        ·intro w'
         go_simp
         with_reducible rfl
        rotate_left
        ·simp only [Sx]
         rfl
        refine pure_ (i := 10) (N := some 49) (v := ?_) (a' := ?_) #[true, true, true, true, true, true, true, true, true, true, true, false, false, false, false, false, false, false, false, false, false, false, false] rfl rfl (any_of HT_.out Zq1) (fun _ _ _ h => h) (Or.inl ⟨Zq2, ?_⟩) ?_ ?_
        rotate_left
        ·intro w'
         go_simp
         with_reducible rfl
        rotate_left
        ·simp only [Sx]
         rfl
        refine pure_ (i := 11) (N := some 50) (v := ?_) (a' := ?_) #[true, true, true, true, true, true, true, true, true, true, true, true, false, false, false, false, false, false, false, false, false, false, false] rfl rfl (any_of HT_.out Zq1) (fun _ _ _ h => h) (Or.inl ⟨Zq2, ?_⟩) ?_ ?_
        rotate_left
        ·intro w'
         go_simp
         with_reducible rfl
        rotate_left
        ·simp only [Sx]
         rfl
        refine pure_ (i := 12) (N := some 51) (v := ?_) (a' := ?_) #[true, true, true, true, true, true, true, true, true, true, true, true, true, false, false, false, false, false, false, false, false, false, false] rfl rfl (any_of HT_.out Zq1) (fun _ _ _ h => h) (Or.inl ⟨Zq2, ?_⟩) ?_ ?_
        rotate_left
        ·intro w'
         go_simp
         with_reducible rfl
        rotate_left
        ·simp only [Sx]
         rfl
        refine pure_ (i := 13) (N := some 52) (v := ?_) (a' := ?_) #[true, true, true, true, true, true, true, true, true, true, true, true, true, true, false, false, false, false, false, false, false, false, false] rfl rfl (any_of HT_.out Zq1) (fun _ _ _ h => h) (Or.inl ⟨Zq2, ?_⟩) ?_ ?_
        rotate_left
        ·intro w'
         go_simp
         with_reducible rfl
        rotate_left
        ·simp only [Sx]
         rfl
        refine pure_ (i := 14) (N := some 53) (v := ?_) (a' := ?_) #[true, true, true, true, true, true, true, true, true, true, true, true, true, true, true, false, false, false, false, false, false, false, false] rfl rfl (any_of HT_.out Zq1) (fun _ _ _ h => h) (Or.inl ⟨Zq2, ?_⟩) ?_ ?_
        rotate_left
        ·intro w'
         go_simp
         with_reducible rfl
        rotate_left
        ·simp only [Sx]
         rfl
        refine pure_ (i := 16) (N := some 55) (v := ?_) (a' := ?_) #[true, true, true, true, true, true, true, true, true, true, true, true, true, true, true, false, true, false, false, false, false, false, false] rfl rfl (any_of HT_.out Zq1) (fun _ _ _ h => h) (Or.inl ⟨Zq2, ?_⟩) ?_ ?_
        rotate_left
        ·intro w'
         go_simp
         with_reducible rfl
        rotate_left
        ·simp only [Sx]
         rfl
        refine pure_ (i := 19) (N := some 58) (v := ?_) (a' := ?_) #[true, true, true, true, true, true, true, true, true, true, true, true, true, true, true, false, true, false, false, true, false, false, false] rfl rfl (any_of HT_.out Zq1) (fun _ _ _ h => h) (Or.inl ⟨Zq2, ?_⟩) ?_ ?_
        rotate_left
        ·intro w'
         go_simp
         with_reducible rfl
        rotate_left
        ·simp only [Sx]
         rfl
        refine take_ (i := 15) (N := some 54) (v := ?_) (a' := ?_) #[true, true, true, true, true, true, true, true, true, true, true, true, true, true, true, true, true, false, false, true, false, false, false] rfl rfl (take_ofW HT_.out HW_.out Zq1) (fun _ _ _ h => h) (Or.inl ⟨Zq2, ?_⟩) hHeld ?_ ?_
        rotate_left
        ·rintro w' ⟨s0, s1, s2⟩
         go_simp
         with_reducible rfl
        rotate_left
        ·simp only [Sx]
         rfl
        refine take_ (i := 18) (N := some 57) (v := ?_) (a' := ?_) #[true, true, true, true, true, true, true, true, true, true, true, true, true, true, true, true, true, false, true, true, false, false, false] rfl rfl (take_ofW HT_.out HW_.out Zq1) (fun _ _ _ h => h) (Or.inl ⟨Zq2, ?_⟩) hHeld ?_ ?_
        rotate_left
        ·rintro w' ⟨s0, s1, s2⟩
         go_simp
         with_reducible rfl
        rotate_left
        ·simp only [Sx]
         rfl
        refine one_ (i := 17) (N := some 56) #[true, true, true, true, true, true, true, true, true, true, true, true, true, true, true, true, true, true, true, true, false, false, false] rfl rfl (one_of HT_.out Zq1) (by decide) (fun K hK => ?_); refine goes_ Try.func33 Zq1 rfl #[.agg #[.string a0_0, .slice A0_1 l0_1.length c0_1, .slice A0_2 l0_2.length c0_2], .string a1] Zq2 rfl rfl Zq7 ?_; with_reducible refine (tree_Kid.calls a0_0 _ _ l0_1 _ _ l0_2 a1 tav _ ?side1 ?side2 ?side3 ?side4 A31.out).mono ?_
        (case side1 => repeat (first | exact Zq35 | (with_reducible refine Kd.C_alloc ?_ _) | (with_reducible refine Kd.C_drewN ?_ _) | (with_reducible refine Kd.C_drew ?_)))
        (case side2 => exact HC0_1.out)
        (case side3 => repeat (first | exact Zq36 | (with_reducible refine Kd.C_alloc ?_ _) | (with_reducible refine Kd.C_drewN ?_ _) | (with_reducible refine Kd.C_drew ?_)))
        (case side4 => exact HC0_2.out)
        rintro e wbY ⟨rfl, hb⟩
        refine ⟨_, rfl, ?_⟩; have n0_ := Zq38; have n1_ := Zq33; have n2_ := Zq34; clear HOac BKaa HB; have HOac := n0_; have BKaa := n1_; have HB := n2_; clear n0_ n1_ n2_
        (try clear hb)
        (try clear hb2)
        (try clear hk)
        (try clear hi)
        refine hK.out _ _ ⟨(blk_cell BKaa.out 0).trans rfl, (blk_cell BKaa.out 1).trans rfl, (blk_cell BKaa.out 2).trans rfl⟩ (fun hHeld => ?_); clear hK K; refine norm_ (a' := ?_) ?_ ?_
        rotate_left
        ·show Act.put _ (some 56) _ = _
         simp only [Sx]
         rfl
        refine one_ (i := 20) (N := some 59) #[true, true, true, true, true, true, true, true, true, true, true, true, true, true, true, true, true, true, true, true, true, false, false] rfl rfl (one_of HT_.out Zq1) (by decide) (fun K hK => ?_); refine goes_ Try.func34 Zq1 rfl #[.agg #[.string a0_0, .slice A0_1 l0_1.length c0_1, .slice A0_2 l0_2.length c0_2], .string a1] Zq2 rfl rfl Zq7 ?_; with_reducible refine (arboretref01_Kid.calls kj2 a0_0 _ _ l0_1 _ _ l0_2 a1 tau _ ?side1 ?side2 ?side3 ?side4 A32.out).mono ?_
        (case side1 => repeat (first | exact Zq35 | (with_reducible refine Kd.C_alloc ?_ _) | (with_reducible refine Kd.C_drewN ?_ _) | (with_reducible refine Kd.C_drew ?_)))
        (case side2 => exact HC0_1.out)
        (case side3 => repeat (first | exact Zq36 | (with_reducible refine Kd.C_alloc ?_ _) | (with_reducible refine Kd.C_drewN ?_ _) | (with_reducible refine Kd.C_drew ?_)))
        (case side4 => exact HC0_2.out)
        rintro e wbZ ⟨rfl, hb⟩
        refine ⟨_, rfl, ?_⟩; have n0_ := Zq38; have n1_ := Zq33; have n2_ := Zq34; clear HOac BKaa HB; have HOac := n0_; have BKaa := n1_; have HB := n2_; clear n0_ n1_ n2_
        (try clear hb)
        (try clear hb2)
        (try clear hk)
        (try clear hi)
        refine hK.out _ _ ⟨(blk_cell BKaa.out 0).trans rfl, (blk_cell BKaa.out 1).trans rfl, (blk_cell BKaa.out 2).trans rfl⟩ (fun hHeld => ?_); clear hK K; refine norm_ (a' := ?_) ?_ ?_
        rotate_left
        ·show Act.put _ (some 59) _ = _
         simp only [Sx]
         rfl
        refine pure_ (i := 21) (N := some 60) (v := ?_) (a' := ?_) #[true, true, true, true, true, true, true, true, true, true, true, true, true, true, true, true, true, true, true, true, true, true, false] rfl rfl (any_of HT_.out Zq1) (fun _ _ _ h => h) (Or.inl ⟨Zq2, ?_⟩) ?_ ?_
        rotate_left
        ·intro w'
         go_simp
         with_reducible rfl
        rotate_left
        ·simp only [Sx]
         rfl
        refine pure_ (i := 22) (N := some 61) (v := ?_) (a' := ?_) #[true, true, true, true, true, true, true, true, true, true, true, true, true, true, true, true, true, true, true, true, true, true, true] rfl rfl (any_of HT_.out Zq1) (fun _ _ _ h => h) (Or.inl ⟨Zq2, ?_⟩) ?_ ?_
        rotate_left
        ·intro w'
         go_simp
         with_reducible rfl
        rotate_left
        ·simp only [Sx]
         rfl
        refine done_ (done_of HT_.out Zq1) ?_
        try go_wp2
        go_ret
        exact ⟨Zq10, Zq4⟩
     ·rw [if_neg c20] at H; have c20b0 : (taC == taD) = false := beq_eq_false_iff_ne.mpr c20; have c20b1 : (taC != taD) = true := bne_iff_ne.mpr c20; obtain rfl := Option.some.inj H; have hcz122_0 : wc.cell? ⟨gbaa, 0, none⟩ = some (.string a0_0) := (blk_cell BKaa.out 0).trans rfl; have hcz122_1 : wc.cell? ⟨gbaa, 1, none⟩ = some (.slice A0_1 l0_1.length c0_1) := (blk_cell BKaa.out 1).trans rfl; have hcz122_2 : wc.cell? ⟨gbaa, 2, none⟩ = some (.slice A0_2 l0_2.length c0_2) := (blk_cell BKaa.out 2).trans rfl; have hfz122_0 := blk_frozen BKaa.out 0; have hfz122_1 := blk_frozen BKaa.out 1; have hfz122_2 := blk_frozen BKaa.out 2
      try go_wp2_with (first | ((with_reducible refine gate_callee (f := 29) rfl ?_); refine goesL_ (some 22) rfl rfl Try.func29 Zq1 rfl #[.agg #[.string a0_0, .slice A0_1 l0_1.length c0_1, .slice A0_2 l0_2.length c0_2]] rfl Zq7 ?_; (with_reducible refine (tree_Count.calls kj2 a0_0 _ _ l0_1 _ _ l0_2 taw taC _ ?side1 ?side2 ?side3 ?side4 A15.out).mono ?_); (case side1 => repeat (first | exact Zq35 | (with_reducible refine Kd.C_alloc ?_ _) | (with_reducible refine Kd.C_drewN ?_ _) | (with_reducible refine Kd.C_drew ?_))); (case side2 => exact HC0_1.out); (case side3 => repeat (first | exact Zq36 | (with_reducible refine Kd.C_alloc ?_ _) | (with_reducible refine Kd.C_drewN ?_ _) | (with_reducible refine Kd.C_drew ?_))); (case side4 => exact HC0_2.out); rintro e wbo ⟨rfl, hb⟩; refine ⟨_, rfl, ?_⟩; have n0_ := Zq33; have n1_ := Zq34; clear BKaa HB; have BKaa := n0_; have HB := n1_; clear n0_ n1_; (try clear hb); (try clear hb2); (try clear hk); (try clear hi); have hcz124_0 : wbo.cell? ⟨gbaa, 0, none⟩ = some (.string a0_0) := (blk_cell BKaa.out 0).trans rfl; have hcz124_1 : wbo.cell? ⟨gbaa, 1, none⟩ = some (.slice A0_1 l0_1.length c0_1) := (blk_cell BKaa.out 1).trans rfl; have hcz124_2 : wbo.cell? ⟨gbaa, 2, none⟩ = some (.slice A0_2 l0_2.length c0_2) := (blk_cell BKaa.out 2).trans rfl; have hfz124_0 := blk_frozen BKaa.out 0; have hfz124_1 := blk_frozen BKaa.out 1; have hfz124_2 := blk_frozen BKaa.out 2) | ((with_reducible refine gate_callee (f := 30) rfl ?_); refine goesL_ (some 27) rfl rfl Try.func30 Zq1 rfl #[.agg #[.string a0_0, .slice A0_1 l0_1.length c0_1, .slice A0_2 l0_2.length c0_2]] rfl Zq7 ?_; (with_reducible refine (arboretref01_Count.calls kj2 a0_0 _ _ l0_1 _ _ l0_2 tar taD _ ?side1 ?side2 ?side3 ?side4 A16.out).mono ?_); (case side1 => repeat (first | exact Zq35 | (with_reducible refine Kd.C_alloc ?_ _) | (with_reducible refine Kd.C_drewN ?_ _) | (with_reducible refine Kd.C_drew ?_))); (case side2 => exact HC0_1.out); (case side3 => repeat (first | exact Zq36 | (with_reducible refine Kd.C_alloc ?_ _) | (with_reducible refine Kd.C_drewN ?_ _) | (with_reducible refine Kd.C_drew ?_))); (case side4 => exact HC0_2.out); rintro e wbp ⟨rfl, hb⟩; refine ⟨_, rfl, ?_⟩; have n0_ := Zq33; have n1_ := Zq34; clear BKaa HB; have BKaa := n0_; have HB := n1_; clear n0_ n1_; (try clear hb); (try clear hb2); (try clear hk); (try clear hi); have hcz126_0 : wbp.cell? ⟨gbaa, 0, none⟩ = some (.string a0_0) := (blk_cell BKaa.out 0).trans rfl; have hcz126_1 : wbp.cell? ⟨gbaa, 1, none⟩ = some (.slice A0_1 l0_1.length c0_1) := (blk_cell BKaa.out 1).trans rfl; have hcz126_2 : wbp.cell? ⟨gbaa, 2, none⟩ = some (.slice A0_2 l0_2.length c0_2) := (blk_cell BKaa.out 2).trans rfl; have hfz126_0 := blk_frozen BKaa.out 0; have hfz126_1 := blk_frozen BKaa.out 1; have hfz126_2 := blk_frozen BKaa.out 2) | ((with_reducible refine gate_callee (f := 31) rfl ?_); refine goesL_ (some 33) rfl rfl Try.func31 Zq1 rfl #[.agg #[.string a0_0, .slice A0_1 l0_1.length c0_1, .slice A0_2 l0_2.length c0_2], .string a1] rfl Zq7 ?_; (with_reducible refine (tree_Find.calls kj2 a0_0 _ _ l0_1 _ _ l0_2 a1 tai taj _ ?side1 ?side2 ?side3 ?side4 A17.out).mono ?_); (case side1 => repeat (first | exact Zq35 | (with_reducible refine Kd.C_alloc ?_ _) | (with_reducible refine Kd.C_drewN ?_ _) | (with_reducible refine Kd.C_drew ?_))); (case side2 => exact HC0_1.out); (case side3 => repeat (first | exact Zq36 | (with_reducible refine Kd.C_alloc ?_ _) | (with_reducible refine Kd.C_drewN ?_ _) | (with_reducible refine Kd.C_drew ?_))); (case side4 => exact HC0_2.out); rintro e wbq ⟨v786, rfl, ho0, hb⟩; refine ⟨_, rfl, ?_⟩; have n0_ := Zq49; have n1_ := Zq33; have n2_ := Zq34; clear BKaa HB; have HOac := n0_; have BKaa := n1_; have HB := n2_; clear n0_ n1_ n2_; (try clear hb); (try clear hb2); (try clear hk); (try clear hi); (try clear ho0); have hcz128_0 : wbq.cell? ⟨gbaa, 0, none⟩ = some (.string a0_0) := (blk_cell BKaa.out 0).trans rfl; have hcz128_1 : wbq.cell? ⟨gbaa, 1, none⟩ = some (.slice A0_1 l0_1.length c0_1) := (blk_cell BKaa.out 1).trans rfl; have hcz128_2 : wbq.cell? ⟨gbaa, 2, none⟩ = some (.slice A0_2 l0_2.length c0_2) := (blk_cell BKaa.out 2).trans rfl; have hfz128_0 := blk_frozen BKaa.out 0; have hfz128_1 := blk_frozen BKaa.out 1; have hfz128_2 := blk_frozen BKaa.out 2) | ((with_reducible refine gate_callee (f := 32) rfl ?_); refine goesL_ (some 38) rfl rfl Try.func32 Zq1 rfl #[.agg #[.string a0_0, .slice A0_1 l0_1.length c0_1, .slice A0_2 l0_2.length c0_2], .string a1] rfl Zq7 ?_; (with_reducible refine (arboretref01_Find.calls kj2 a0_0 _ _ l0_1 _ _ l0_2 a1 tab _ ?side1 ?side2 ?side3 ?side4 A18.out).mono ?_); (case side1 => repeat (first | exact Zq35 | (with_reducible refine Kd.C_alloc ?_ _) | (with_reducible refine Kd.C_drewN ?_ _) | (with_reducible refine Kd.C_drew ?_))); (case side2 => exact HC0_1.out); (case side3 => repeat (first | exact Zq36 | (with_reducible refine Kd.C_alloc ?_ _) | (with_reducible refine Kd.C_drewN ?_ _) | (with_reducible refine Kd.C_drew ?_))); (case side4 => exact HC0_2.out); rintro e wbQ ⟨rfl, hb⟩; refine ⟨_, rfl, ?_⟩; have n0_ := Zq38; have n1_ := Zq33; have n2_ := Zq34; clear HOac BKaa HB; have HOac := n0_; have BKaa := n1_; have HB := n2_; clear n0_ n1_ n2_; (try clear hb); (try clear hb2); (try clear hk); (try clear hi)))
      have n0_ := Zq46; have n1_ := Zq47; have n2_ := Zq48; clear HOac BKaa HB; have HOac := n0_; have BKaa := n1_; have HB := n2_; clear n0_ n1_ n2_
      (try (have ec_ : decide (0 ≤ tab) = false := by rw [decide_eq_false_iff_not]; have q3_ := of_decide_eq_true (by assumption : decide (tab < 0) = true); omega))
      (try (have eb_ : (!taj) = false := by have q1_ := c21b0; have q2_ : decide (tab ≥ 0) = true := Zq13; rw [q2_] at q1_; simpa using q1_))
      (try (have eb_ : taj = false := by have q1_ := c21b0; have q2_ : decide (tab ≥ 0) = false := Zq14; rw [q2_] at q1_; simpa using q1_))
      refine start_ (n := 23) (S := fun w' => True) (ds := []) #[false, false, false, false, false, false, false, false, false, false, false, false, false, false, false, false, false, false, false, false, false, false, false] Zq1 rfl rfl trivial (fun hHeld => ?_); refine with_tabW arboretlaw03_TreeFinds.tab7 arboretlaw03_TreeFinds.bits7 (fun HT_ HW_ => ?_); generalize wbQ.drew = wbh at HOac BKaa HB hHeld ⊢; refine pure_ (i := 0) (N := some 39) (v := ?_) (a' := ?_) #[true, false, false, false, false, false, false, false, false, false, false, false, false, false, false, false, false, false, false, false, false, false, false] rfl rfl (any_of HT_.out Zq1) (fun _ _ _ h => h) (Or.inl ⟨Zq2, ?_⟩) ?_ ?_
      rotate_left
      ·intro w'
       go_simp
       with_reducible rfl
      rotate_left
      ·simp only [Sx]
       rfl
      refine pure_ (i := 1) (N := some 40) (v := ?_) (a' := ?_) #[true, true, false, false, false, false, false, false, false, false, false, false, false, false, false, false, false, false, false, false, false, false, false] rfl rfl (any_of HT_.out Zq1) (fun _ _ _ h => h) (Or.inl ⟨Zq2, ?_⟩) ?_ ?_
      rotate_left
      ·intro w'
       go_simp
       with_reducible rfl
      rotate_left
      ·simp only [Sx]
       rfl
      refine pure_ (i := 2) (N := some 41) (v := ?_) (a' := ?_) #[true, true, true, false, false, false, false, false, false, false, false, false, false, false, false, false, false, false, false, false, false, false, false] rfl rfl (any_of HT_.out Zq1) (fun _ _ _ h => h) (Or.inl ⟨Zq2, ?_⟩) ?_ ?_
      rotate_left
      ·intro w'
       go_simp
       with_reducible rfl
      rotate_left
      ·simp only [Sx]
       rfl
      refine pure_ (i := 3) (N := some 42) (v := ?_) (a' := ?_) #[true, true, true, true, false, false, false, false, false, false, false, false, false, false, false, false, false, false, false, false, false, false, false] rfl rfl (any_of HT_.out Zq1) (fun _ _ _ h => h) (Or.inl ⟨Zq2, ?_⟩) ?_ ?_
      rotate_left
      ·intro w'
       go_simp
       with_reducible rfl
      rotate_left
      ·simp only [Sx]
       rfl
      refine pure_ (i := 4) (N := some 43) (v := ?_) (a' := ?_) #[true, true, true, true, true, false, false, false, false, false, false, false, false, false, false, false, false, false, false, false, false, false, false] rfl rfl (any_of HT_.out Zq1) (fun _ _ _ h => h) (Or.inl ⟨Zq2, ?_⟩) ?_ ?_
      rotate_left
      ·intro w'
       go_simp
       with_reducible rfl
      rotate_left
      ·simp only [Sx]
       rfl
      refine pure_ (i := 5) (N := some 44) (v := ?_) (a' := ?_) #[true, true, true, true, true, true, false, false, false, false, false, false, false, false, false, false, false, false, false, false, false, false, false] rfl rfl (any_of HT_.out Zq1) (fun _ _ _ h => h) (Or.inl ⟨Zq2, ?_⟩) ?_ ?_
      rotate_left
      ·intro w'
       go_simp
       with_reducible rfl
      rotate_left
      ·simp only [Sx]
       rfl
      refine pure_ (i := 6) (N := some 45) (v := ?_) (a' := ?_) #[true, true, true, true, true, true, true, false, false, false, false, false, false, false, false, false, false, false, false, false, false, false, false] rfl rfl (any_of HT_.out Zq1) (fun _ _ _ h => h) (Or.inl ⟨Zq2, ?_⟩) ?_ ?_
      rotate_left
      ·intro w'
       go_simp
       with_reducible rfl
      rotate_left
      ·simp only [Sx]
       rfl
      refine pure_ (i := 7) (N := some 46) (v := ?_) (a' := ?_) #[true, true, true, true, true, true, true, true, false, false, false, false, false, false, false, false, false, false, false, false, false, false, false] rfl rfl (any_of HT_.out Zq1) (fun _ _ _ h => h) (Or.inl ⟨Zq2, ?_⟩) ?_ ?_
      rotate_left
      ·intro w'
       go_simp
       with_reducible rfl
      rotate_left
      ·simp only [Sx]
       rfl
      refine pure_ (i := 8) (N := some 47) (v := ?_) (a' := ?_) #[true, true, true, true, true, true, true, true, true, false, false, false, false, false, false, false, false, false, false, false, false, false, false] rfl rfl (any_of HT_.out Zq1) (fun _ _ _ h => h) (Or.inl ⟨Zq2, ?_⟩) ?_ ?_
      rotate_left
      ·intro w'
       go_simp
       with_reducible rfl
      rotate_left
      ·simp only [Sx]
       rfl
      refine pure_ (i := 9) (N := some 48) (v := undef) (a' := ?_) #[true, true, true, true, true, true, true, true, true, true, false, false, false, false, false, false, false, false, false, false, false, false, false] rfl rfl (any_of HT_.out Zq1) (fun _ _ _ h => h) (Or.inr ⟨Zq2, rfl⟩) ?_ ?_
      rotate_left
      ·simp only [Sx]
       rfl
      refine pure_ (i := 10) (N := some 49) (v := undef) (a' := ?_) #[true, true, true, true, true, true, true, true, true, true, true, false, false, false, false, false, false, false, false, false, false, false, false] rfl rfl (any_of HT_.out Zq1) (fun _ _ _ h => h) (Or.inr ⟨Zq2, rfl⟩) ?_ ?_
      rotate_left
      ·simp only [Sx]
       rfl
      refine pure_ (i := 11) (N := some 50) (v := undef) (a' := ?_) #[true, true, true, true, true, true, true, true, true, true, true, true, false, false, false, false, false, false, false, false, false, false, false] rfl rfl (any_of HT_.out Zq1) (fun _ _ _ h => h) (Or.inr ⟨Zq2, rfl⟩) ?_ ?_
      rotate_left
      ·simp only [Sx]
       rfl
      refine pure_ (i := 12) (N := some 51) (v := undef) (a' := ?_) #[true, true, true, true, true, true, true, true, true, true, true, true, true, false, false, false, false, false, false, false, false, false, false] rfl rfl (any_of HT_.out Zq1) (fun _ _ _ h => h) (Or.inr ⟨Zq2, rfl⟩) ?_ ?_
      rotate_left
      ·simp only [Sx]
       rfl
      refine pure_ (i := 13) (N := some 52) (v := ?_) (a' := ?_) #[true, true, true, true, true, true, true, true, true, true, true, true, true, true, false, false, false, false, false, false, false, false, false] rfl rfl (any_of HT_.out Zq1) (fun _ _ _ h => h) (Or.inl ⟨Zq2, ?_⟩) ?_ ?_
      rotate_left
      ·intro w'
       go_simp
       with_reducible rfl
      rotate_left
      ·simp only [Sx]
       rfl
      refine pure_ (i := 14) (N := some 53) (v := ?_) (a' := ?_) #[true, true, true, true, true, true, true, true, true, true, true, true, true, true, true, false, false, false, false, false, false, false, false] rfl rfl (any_of HT_.out Zq1) (fun _ _ _ h => h) (Or.inl ⟨Zq2, ?_⟩) ?_ ?_
      rotate_left
      ·intro w'
       go_simp
       with_reducible rfl
      rotate_left
      ·simp only [Sx]
       rfl
      refine pure_ (i := 15) (N := some 54) (v := undef) (a' := ?_) #[true, true, true, true, true, true, true, true, true, true, true, true, true, true, true, true, false, false, false, false, false, false, false] rfl rfl (any_of HT_.out Zq1) (fun _ _ _ h => h) (Or.inr ⟨Zq2, rfl⟩) ?_ ?_
      rotate_left
      ·simp only [Sx]
       rfl
      refine pure_ (i := 16) (N := some 55) (v := undef) (a' := ?_) #[true, true, true, true, true, true, true, true, true, true, true, true, true, true, true, true, true, false, false, false, false, false, false] rfl rfl (any_of HT_.out Zq1) (fun _ _ _ h => h) (Or.inr ⟨Zq2, rfl⟩) ?_ ?_
      rotate_left
      ·simp only [Sx]
       rfl
      refine pure_ (i := 17) (N := some 56) (v := undef) (a' := ?_) #[true, true, true, true, true, true, true, true, true, true, true, true, true, true, true, true, true, true, false, false, false, false, false] rfl rfl (any_of HT_.out Zq1) (fun _ _ _ h => h) (Or.inr ⟨Zq2, rfl⟩) ?_ ?_
      rotate_left
      ·simp only [Sx]
       rfl
      refine pure_ (i := 18) (N := some 57) (v := undef) (a' := ?_) #[true, true, true, true, true, true, true, true, true, true, true, true, true, true, true, true, true, true, true, false, false, false, false] rfl rfl (any_of HT_.out Zq1) (fun _ _ _ h => h) (Or.inr ⟨Zq2, rfl⟩) ?_ ?_
      rotate_left
      ·simp only [Sx]
       rfl
      refine pure_ (i := 19) (N := some 58) (v := undef) (a' := ?_) #[true, true, true, true, true, true, true, true, true, true, true, true, true, true, true, true, true, true, true, true, false, false, false] rfl rfl (any_of HT_.out Zq1) (fun _ _ _ h => h) (Or.inr ⟨Zq2, rfl⟩) ?_ ?_
      rotate_left
      ·simp only [Sx]
       rfl
      refine pure_ (i := 20) (N := some 59) (v := undef) (a' := ?_) #[true, true, true, true, true, true, true, true, true, true, true, true, true, true, true, true, true, true, true, true, true, false, false] rfl rfl (any_of HT_.out Zq1) (fun _ _ _ h => h) (Or.inr ⟨Zq2, rfl⟩) ?_ ?_
      rotate_left
      ·simp only [Sx]
       rfl
      refine pure_ (i := 21) (N := some 60) (v := undef) (a' := ?_) #[true, true, true, true, true, true, true, true, true, true, true, true, true, true, true, true, true, true, true, true, true, true, false] rfl rfl (any_of HT_.out Zq1) (fun _ _ _ h => h) (Or.inr ⟨Zq2, rfl⟩) ?_ ?_
      rotate_left
      ·simp only [Sx]
       rfl
      refine pure_ (i := 22) (N := some 61) (v := ?_) (a' := ?_) #[true, true, true, true, true, true, true, true, true, true, true, true, true, true, true, true, true, true, true, true, true, true, true] rfl rfl (any_of HT_.out Zq1) (fun _ _ _ h => h) (Or.inl ⟨Zq2, ?_⟩) ?_ ?_
      rotate_left
      ·intro w'
       go_simp
       with_reducible rfl
      rotate_left
      ·simp only [Sx]
       rfl
      refine done_ (done_of HT_.out Zq1) ?_
      try go_wp2
      go_ret
      exact ⟨Zq10, Zq4⟩
    ·rw [if_neg c19] at H; have c19b0 : (taw == tar) = false := beq_eq_false_iff_ne.mpr c19; have c19b1 : (taw != tar) = true := bne_iff_ne.mpr c19; obtain rfl := Option.some.inj H; have hcz131_0 : wc.cell? ⟨gbaa, 0, none⟩ = some (.string a0_0) := (blk_cell BKaa.out 0).trans rfl; have hcz131_1 : wc.cell? ⟨gbaa, 1, none⟩ = some (.slice A0_1 l0_1.length c0_1) := (blk_cell BKaa.out 1).trans rfl; have hcz131_2 : wc.cell? ⟨gbaa, 2, none⟩ = some (.slice A0_2 l0_2.length c0_2) := (blk_cell BKaa.out 2).trans rfl; have hfz131_0 := blk_frozen BKaa.out 0; have hfz131_1 := blk_frozen BKaa.out 1; have hfz131_2 := blk_frozen BKaa.out 2
     try go_wp2_with (first | ((with_reducible refine gate_callee (f := 29) rfl ?_); refine goesL_ (some 22) rfl rfl Try.func29 Zq1 rfl #[.agg #[.string a0_0, .slice A0_1 l0_1.length c0_1, .slice A0_2 l0_2.length c0_2]] rfl Zq7 ?_; (with_reducible refine (tree_Count.calls kj2 a0_0 _ _ l0_1 _ _ l0_2 taw taC _ ?side1 ?side2 ?side3 ?side4 A15.out).mono ?_); (case side1 => repeat (first | exact Zq35 | (with_reducible refine Kd.C_alloc ?_ _) | (with_reducible refine Kd.C_drewN ?_ _) | (with_reducible refine Kd.C_drew ?_))); (case side2 => exact HC0_1.out); (case side3 => repeat (first | exact Zq36 | (with_reducible refine Kd.C_alloc ?_ _) | (with_reducible refine Kd.C_drewN ?_ _) | (with_reducible refine Kd.C_drew ?_))); (case side4 => exact HC0_2.out); rintro e wbr ⟨rfl, hb⟩; refine ⟨_, rfl, ?_⟩; have n0_ := Zq33; have n1_ := Zq34; clear BKaa HB; have BKaa := n0_; have HB := n1_; clear n0_ n1_; (try clear hb); (try clear hb2); (try clear hk); (try clear hi); have hcz133_0 : wbr.cell? ⟨gbaa, 0, none⟩ = some (.string a0_0) := (blk_cell BKaa.out 0).trans rfl; have hcz133_1 : wbr.cell? ⟨gbaa, 1, none⟩ = some (.slice A0_1 l0_1.length c0_1) := (blk_cell BKaa.out 1).trans rfl; have hcz133_2 : wbr.cell? ⟨gbaa, 2, none⟩ = some (.slice A0_2 l0_2.length c0_2) := (blk_cell BKaa.out 2).trans rfl; have hfz133_0 := blk_frozen BKaa.out 0; have hfz133_1 := blk_frozen BKaa.out 1; have hfz133_2 := blk_frozen BKaa.out 2) | ((with_reducible refine gate_callee (f := 30) rfl ?_); refine goesL_ (some 27) rfl rfl Try.func30 Zq1 rfl #[.agg #[.string a0_0, .slice A0_1 l0_1.length c0_1, .slice A0_2 l0_2.length c0_2]] rfl Zq7 ?_; (with_reducible refine (arboretref01_Count.calls kj2 a0_0 _ _ l0_1 _ _ l0_2 tar taD _ ?side1 ?side2 ?side3 ?side4 A16.out).mono ?_); (case side1 => repeat (first | exact Zq35 | (with_reducible refine Kd.C_alloc ?_ _) | (with_reducible refine Kd.C_drewN ?_ _) | (with_reducible refine Kd.C_drew ?_))); (case side2 => exact HC0_1.out); (case side3 => repeat (first | exact Zq36 | (with_reducible refine Kd.C_alloc ?_ _) | (with_reducible refine Kd.C_drewN ?_ _) | (with_reducible refine Kd.C_drew ?_))); (case side4 => exact HC0_2.out); rintro e wbs ⟨rfl, hb⟩; refine ⟨_, rfl, ?_⟩; have n0_ := Zq33; have n1_ := Zq34; clear BKaa HB; have BKaa := n0_; have HB := n1_; clear n0_ n1_; (try clear hb); (try clear hb2); (try clear hk); (try clear hi); have hcz135_0 : wbs.cell? ⟨gbaa, 0, none⟩ = some (.string a0_0) := (blk_cell BKaa.out 0).trans rfl; have hcz135_1 : wbs.cell? ⟨gbaa, 1, none⟩ = some (.slice A0_1 l0_1.length c0_1) := (blk_cell BKaa.out 1).trans rfl; have hcz135_2 : wbs.cell? ⟨gbaa, 2, none⟩ = some (.slice A0_2 l0_2.length c0_2) := (blk_cell BKaa.out 2).trans rfl; have hfz135_0 := blk_frozen BKaa.out 0; have hfz135_1 := blk_frozen BKaa.out 1; have hfz135_2 := blk_frozen BKaa.out 2) | ((with_reducible refine gate_callee (f := 31) rfl ?_); refine goesL_ (some 33) rfl rfl Try.func31 Zq1 rfl #[.agg #[.string a0_0, .slice A0_1 l0_1.length c0_1, .slice A0_2 l0_2.length c0_2], .string a1] rfl Zq7 ?_; (with_reducible refine (tree_Find.calls kj2 a0_0 _ _ l0_1 _ _ l0_2 a1 tai taj _ ?side1 ?side2 ?side3 ?side4 A17.out).mono ?_); (case side1 => repeat (first | exact Zq35 | (with_reducible refine Kd.C_alloc ?_ _) | (with_reducible refine Kd.C_drewN ?_ _) | (with_reducible refine Kd.C_drew ?_))); (case side2 => exact HC0_1.out); (case side3 => repeat (first | exact Zq36 | (with_reducible refine Kd.C_alloc ?_ _) | (with_reducible refine Kd.C_drewN ?_ _) | (with_reducible refine Kd.C_drew ?_))); (case side4 => exact HC0_2.out); rintro e wbt ⟨v786, rfl, ho0, hb⟩; refine ⟨_, rfl, ?_⟩; have n0_ := Zq49; have n1_ := Zq33; have n2_ := Zq34; clear BKaa HB; have HOac := n0_; have BKaa := n1_; have HB := n2_; clear n0_ n1_ n2_; (try clear hb); (try clear hb2); (try clear hk); (try clear hi); (try clear ho0); have hcz137_0 : wbt.cell? ⟨gbaa, 0, none⟩ = some (.string a0_0) := (blk_cell BKaa.out 0).trans rfl; have hcz137_1 : wbt.cell? ⟨gbaa, 1, none⟩ = some (.slice A0_1 l0_1.length c0_1) := (blk_cell BKaa.out 1).trans rfl; have hcz137_2 : wbt.cell? ⟨gbaa, 2, none⟩ = some (.slice A0_2 l0_2.length c0_2) := (blk_cell BKaa.out 2).trans rfl; have hfz137_0 := blk_frozen BKaa.out 0; have hfz137_1 := blk_frozen BKaa.out 1; have hfz137_2 := blk_frozen BKaa.out 2) | ((with_reducible refine gate_callee (f := 32) rfl ?_); refine goesL_ (some 38) rfl rfl Try.func32 Zq1 rfl #[.agg #[.string a0_0, .slice A0_1 l0_1.length c0_1, .slice A0_2 l0_2.length c0_2], .string a1] rfl Zq7 ?_; (with_reducible refine (arboretref01_Find.calls kj2 a0_0 _ _ l0_1 _ _ l0_2 a1 tab _ ?side1 ?side2 ?side3 ?side4 A18.out).mono ?_); (case side1 => repeat (first | exact Zq35 | (with_reducible refine Kd.C_alloc ?_ _) | (with_reducible refine Kd.C_drewN ?_ _) | (with_reducible refine Kd.C_drew ?_))); (case side2 => exact HC0_1.out); (case side3 => repeat (first | exact Zq36 | (with_reducible refine Kd.C_alloc ?_ _) | (with_reducible refine Kd.C_drewN ?_ _) | (with_reducible refine Kd.C_drew ?_))); (case side4 => exact HC0_2.out); rintro e wbR ⟨rfl, hb⟩; refine ⟨_, rfl, ?_⟩; have n0_ := Zq38; have n1_ := Zq33; have n2_ := Zq34; clear HOac BKaa HB; have HOac := n0_; have BKaa := n1_; have HB := n2_; clear n0_ n1_ n2_; (try clear hb); (try clear hb2); (try clear hk); (try clear hi)))
     have n0_ := Zq46; have n1_ := Zq47; have n2_ := Zq48; clear HOac BKaa HB; have HOac := n0_; have BKaa := n1_; have HB := n2_; clear n0_ n1_ n2_
     (try (have ec_ : decide (0 ≤ tab) = false := by rw [decide_eq_false_iff_not]; have q3_ := of_decide_eq_true (by assumption : decide (tab < 0) = true); omega))
     (try (have eb_ : (!taj) = false := by have q1_ := c21b0; have q2_ : decide (tab ≥ 0) = true := Zq13; rw [q2_] at q1_; simpa using q1_))
     (try (have eb_ : taj = false := by have q1_ := c21b0; have q2_ : decide (tab ≥ 0) = false := Zq14; rw [q2_] at q1_; simpa using q1_))
     refine start_ (n := 23) (S := fun w' => True) (ds := []) #[false, false, false, false, false, false, false, false, false, false, false, false, false, false, false, false, false, false, false, false, false, false, false] Zq1 rfl rfl trivial (fun hHeld => ?_); refine with_tabW arboretlaw03_TreeFinds.tab7 arboretlaw03_TreeFinds.bits7 (fun HT_ HW_ => ?_); generalize wbR.drew = wca at HOac BKaa HB hHeld ⊢; refine pure_ (i := 0) (N := some 39) (v := ?_) (a' := ?_) #[true, false, false, false, false, false, false, false, false, false, false, false, false, false, false, false, false, false, false, false, false, false, false] rfl rfl (any_of HT_.out Zq1) (fun _ _ _ h => h) (Or.inl ⟨Zq2, ?_⟩) ?_ ?_
     rotate_left
     ·intro w'
      go_simp
      with_reducible rfl
     rotate_left
     ·simp only [Sx]
      rfl
     refine pure_ (i := 1) (N := some 40) (v := ?_) (a' := ?_) #[true, true, false, false, false, false, false, false, false, false, false, false, false, false, false, false, false, false, false, false, false, false, false] rfl rfl (any_of HT_.out Zq1) (fun _ _ _ h => h) (Or.inl ⟨Zq2, ?_⟩) ?_ ?_
     rotate_left
     ·intro w'
      go_simp
      with_reducible rfl
     rotate_left
     ·simp only [Sx]
      rfl
     refine pure_ (i := 2) (N := some 41) (v := ?_) (a' := ?_) #[true, true, true, false, false, false, false, false, false, false, false, false, false, false, false, false, false, false, false, false, false, false, false] rfl rfl (any_of HT_.out Zq1) (fun _ _ _ h => h) (Or.inl ⟨Zq2, ?_⟩) ?_ ?_
     rotate_left
     ·intro w'
      go_simp
      with_reducible rfl
     rotate_left
     ·simp only [Sx]
      rfl
     refine pure_ (i := 3) (N := some 42) (v := ?_) (a' := ?_) #[true, true, true, true, false, false, false, false, false, false, false, false, false, false, false, false, false, false, false, false, false, false, false] rfl rfl (any_of HT_.out Zq1) (fun _ _ _ h => h) (Or.inl ⟨Zq2, ?_⟩) ?_ ?_
     rotate_left
     ·intro w'
      go_simp
      with_reducible rfl
     rotate_left
     ·simp only [Sx]
      rfl
     refine pure_ (i := 4) (N := some 43) (v := undef) (a' := ?_) #[true, true, true, true, true, false, false, false, false, false, false, false, false, false, false, false, false, false, false, false, false, false, false] rfl rfl (any_of HT_.out Zq1) (fun _ _ _ h => h) (Or.inr ⟨Zq2, rfl⟩) ?_ ?_
     rotate_left
     ·simp only [Sx]
      rfl
     refine pure_ (i := 5) (N := some 44) (v := undef) (a' := ?_) #[true, true, true, true, true, true, false, false, false, false, false, false, false, false, false, false, false, false, false, false, false, false, false] rfl rfl (any_of HT_.out Zq1) (fun _ _ _ h => h) (Or.inr ⟨Zq2, rfl⟩) ?_ ?_
     rotate_left
     ·simp only [Sx]
      rfl
     refine pure_ (i := 6) (N := some 45) (v := undef) (a' := ?_) #[true, true, true, true, true, true, true, false, false, false, false, false, false, false, false, false, false, false, false, false, false, false, false] rfl rfl (any_of HT_.out Zq1) (fun _ _ _ h => h) (Or.inr ⟨Zq2, rfl⟩) ?_ ?_
     rotate_left
     ·simp only [Sx]
      rfl
     refine pure_ (i := 7) (N := some 46) (v := ?_) (a' := ?_) #[true, true, true, true, true, true, true, true, false, false, false, false, false, false, false, false, false, false, false, false, false, false, false] rfl rfl (any_of HT_.out Zq1) (fun _ _ _ h => h) (Or.inl ⟨Zq2, ?_⟩) ?_ ?_
     rotate_left
     ·intro w'
      go_simp
      with_reducible rfl
     rotate_left
     ·simp only [Sx]
      rfl
     refine pure_ (i := 8) (N := some 47) (v := ?_) (a' := ?_) #[true, true, true, true, true, true, true, true, true, false, false, false, false, false, false, false, false, false, false, false, false, false, false] rfl rfl (any_of HT_.out Zq1) (fun _ _ _ h => h) (Or.inl ⟨Zq2, ?_⟩) ?_ ?_
     rotate_left
     ·intro w'
      go_simp
      with_reducible rfl
     rotate_left
     ·simp only [Sx]
      rfl
     refine pure_ (i := 9) (N := some 48) (v := undef) (a' := ?_) #[true, true, true, true, true, true, true, true, true, true, false, false, false, false, false, false, false, false, false, false, false, false, false] rfl rfl (any_of HT_.out Zq1) (fun _ _ _ h => h) (Or.inr ⟨Zq2, rfl⟩) ?_ ?_
     rotate_left
     ·simp only [Sx]
      rfl
     refine pure_ (i := 10) (N := some 49) (v := undef) (a' := ?_) #[true, true, true, true, true, true, true, true, true, true, true, false, false, false, false, false, false, false, false, false, false, false, false] rfl rfl (any_of HT_.out Zq1) (fun _ _ _ h => h) (Or.inr ⟨Zq2, rfl⟩) ?_ ?_
     rotate_left
     ·simp only [Sx]
      rfl
     refine pure_ (i := 11) (N := some 50) (v := undef) (a' := ?_) #[true, true, true, true, true, true, true, true, true, true, true, true, false, false, false, false, false, false, false, false, false, false, false] rfl rfl (any_of HT_.out Zq1) (fun _ _ _ h => h) (Or.inr ⟨Zq2, rfl⟩) ?_ ?_
     rotate_left
     ·simp only [Sx]
      rfl
     refine pure_ (i := 12) (N := some 51) (v := undef) (a' := ?_) #[true, true, true, true, true, true, true, true, true, true, true, true, true, false, false, false, false, false, false, false, false, false, false] rfl rfl (any_of HT_.out Zq1) (fun _ _ _ h => h) (Or.inr ⟨Zq2, rfl⟩) ?_ ?_
     rotate_left
     ·simp only [Sx]
      rfl
     refine pure_ (i := 13) (N := some 52) (v := ?_) (a' := ?_) #[true, true, true, true, true, true, true, true, true, true, true, true, true, true, false, false, false, false, false, false, false, false, false] rfl rfl (any_of HT_.out Zq1) (fun _ _ _ h => h) (Or.inl ⟨Zq2, ?_⟩) ?_ ?_
     rotate_left
     ·intro w'
      go_simp
      with_reducible rfl
     rotate_left
     ·simp only [Sx]
      rfl
     refine pure_ (i := 14) (N := some 53) (v := ?_) (a' := ?_) #[true, true, true, true, true, true, true, true, true, true, true, true, true, true, true, false, false, false, false, false, false, false, false] rfl rfl (any_of HT_.out Zq1) (fun _ _ _ h => h) (Or.inl ⟨Zq2, ?_⟩) ?_ ?_
     rotate_left
     ·intro w'
      go_simp
      with_reducible rfl
     rotate_left
     ·simp only [Sx]
      rfl
     refine pure_ (i := 15) (N := some 54) (v := undef) (a' := ?_) #[true, true, true, true, true, true, true, true, true, true, true, true, true, true, true, true, false, false, false, false, false, false, false] rfl rfl (any_of HT_.out Zq1) (fun _ _ _ h => h) (Or.inr ⟨Zq2, rfl⟩) ?_ ?_
     rotate_left
     ·simp only [Sx]
      rfl
     refine pure_ (i := 16) (N := some 55) (v := undef) (a' := ?_) #[true, true, true, true, true, true, true, true, true, true, true, true, true, true, true, true, true, false, false, false, false, false, false] rfl rfl (any_of HT_.out Zq1) (fun _ _ _ h => h) (Or.inr ⟨Zq2, rfl⟩) ?_ ?_
     rotate_left
     ·simp only [Sx]
      rfl
     refine pure_ (i := 17) (N := some 56) (v := undef) (a' := ?_) #[true, true, true, true, true, true, true, true, true, true, true, true, true, true, true, true, true, true, false, false, false, false, false] rfl rfl (any_of HT_.out Zq1) (fun _ _ _ h => h) (Or.inr ⟨Zq2, rfl⟩) ?_ ?_
     rotate_left
     ·simp only [Sx]
      rfl
     refine pure_ (i := 18) (N := some 57) (v := undef) (a' := ?_) #[true, true, true, true, true, true, true, true, true, true, true, true, true, true, true, true, true, true, true, false, false, false, false] rfl rfl (any_of HT_.out Zq1) (fun _ _ _ h => h) (Or.inr ⟨Zq2, rfl⟩) ?_ ?_
     rotate_left
     ·simp only [Sx]
      rfl
     refine pure_ (i := 19) (N := some 58) (v := undef) (a' := ?_) #[true, true, true, true, true, true, true, true, true, true, true, true, true, true, true, true, true, true, true, true, false, false, false] rfl rfl (any_of HT_.out Zq1) (fun _ _ _ h => h) (Or.inr ⟨Zq2, rfl⟩) ?_ ?_
     rotate_left
     ·simp only [Sx]
      rfl
     refine pure_ (i := 20) (N := some 59) (v := undef) (a' := ?_) #[true, true, true, true, true, true, true, true, true, true, true, true, true, true, true, true, true, true, true, true, true, false, false] rfl rfl (any_of HT_.out Zq1) (fun _ _ _ h => h) (Or.inr ⟨Zq2, rfl⟩) ?_ ?_
     rotate_left
     ·simp only [Sx]
      rfl
     refine pure_ (i := 21) (N := some 60) (v := undef) (a' := ?_) #[true, true, true, true, true, true, true, true, true, true, true, true, true, true, true, true, true, true, true, true, true, true, false] rfl rfl (any_of HT_.out Zq1) (fun _ _ _ h => h) (Or.inr ⟨Zq2, rfl⟩) ?_ ?_
     rotate_left
     ·simp only [Sx]
      rfl
     refine pure_ (i := 22) (N := some 61) (v := ?_) (a' := ?_) #[true, true, true, true, true, true, true, true, true, true, true, true, true, true, true, true, true, true, true, true, true, true, true] rfl rfl (any_of HT_.out Zq1) (fun _ _ _ h => h) (Or.inl ⟨Zq2, ?_⟩) ?_ ?_
     rotate_left
     ·intro w'
      go_simp
      with_reducible rfl
     rotate_left
     ·simp only [Sx]
      rfl
     refine done_ (done_of HT_.out Zq1) ?_
     try go_wp2
     go_ret
     exact ⟨Zq10, Zq4⟩
end Go.Proofs.Yteejaaeglfpcmab.PX

namespace Go.Proofs.Yteejaaeglfpcmab.Rdr
open Go.RowKit Go.Proofs.YteejaaeglfpcmabW.PrintWords Go.ChangeShapes Go.WideShapes
def sumB {α : Type} (B : α → Nat) : List α → Nat
 | [] => 0
 | x :: r => B x + sumB B r
theorem sumB_le {α : Type} {H : Type} {B : α → Nat} : ∀ {xs : List α} {ds : List (DataW H)}, xs.length = ds.length → (∀ (i : Nat) (x : α) (d : DataW H), xs[i]? = some x → ds[i]? = some d → B x ≤ Rows.uptoBulk d) → sumB B xs ≤ Rows.uptoBulkAll ds
 | [], [], _, _ => Nat.le_refl _
 | x :: xs, d :: ds, hl, h => by
  have h0 := h 0 x d rfl rfl; have h1 := sumB_le (xs := xs) (ds := ds) (by simpa using hl) (fun i a b ha hb => h (i + 1) a b (by simpa using ha) (by simpa using hb)); simp only [sumB, Rows.uptoBulkAll]
  omega
 | [], _ :: _, hl, _ => by simp at hl
 | _ :: _, [], hl, _ => by simp at hl
theorem sumB_mem {α : Type} {B : α → Nat} {x : α} : ∀ {xs : List α}, x ∈ xs → B x ≤ sumB B xs
 | a :: r, h => by
  simp only [sumB]
  rcases List.mem_cons.1 h with rfl | h
  ·omega
  ·have := sumB_mem (B := B) h
   omega
theorem sumB_len {α : Type} {B : α → Nat} (h1 : ∀ x, 1 ≤ B x) : ∀ xs : List α, xs.length ≤ sumB B xs
 | [] => Nat.le_refl _
 | x :: r => by
  have := h1 x; have := sumB_len h1 r; simp only [sumB, List.length_cons]
  omega
theorem sumB_one {α : Type} (xs : List α) : sumB (fun _ => 1) xs = xs.length := by
 induction xs with
 | nil => rfl
 | cons x r ih => simp only [sumB, ih, List.length_cons]; omega
theorem list_of {α : Type} {n : Nat} {Q : Nat → α → Prop} (h : ∀ i, i < n → ∃ x, Q i x) : ∃ xs : List α, xs.length = n ∧ ∀ (i : Nat) (x : α), xs[i]? = some x → Q i x := by
 induction n with
 | zero => exact ⟨[], rfl, fun i x hx => by simp at hx⟩
 | succ n ih =>
  obtain ⟨xs, hl, hq⟩ := ih (fun i hi => h i Zq3); obtain ⟨y, hy⟩ := h n Zq3; refine ⟨xs ++ [y], by simp [hl], fun i x hx => ?_⟩
  rcases Nat.lt_trichotomy i xs.length with hi | hi | hi
  ·rw [List.getElem?_append_left hi] at hx
   exact hq i x hx
  ·subst hi; rw [List.getElem?_append_right (Nat.le_refl _)] at hx
   simp at hx
   subst hx; rw [hl]
   exact hy
  ·rw [List.getElem?_append_right Zq3, List.getElem?_eq_none (by simp; omega)] at hx
   cases hx
def RdF (P : Program) (W : World) (n : Nat) {α : Type} (d : Kd α) (t : TypeId) (B : α → Nat) (G : α → Prop) : Prop :=
 ∀ (H : Type) (enc : TypeId × Value → H) (fuel : Nat), fuel ≤ n → ∀ (cs : List Value) (x : DataW H × List MemPlace),
  DataW.trod enc P W 0 (fun _ => true) true fuel t cs = some x → ∃ a, d.K W a cs ∧ B a ≤ Rows.uptoBulk x.1 ∧ G a
section
variable {P : Program} {W : World} {n : Nat}
def wfI (k : IntKind) (x : Int) : Prop := (Lit.int k x).wf = true
theorem rd_int {t : TypeId} {k : IntKind} (ht : P.underlying t = some (.int k)) : RdF P W n (Kd.int k) t (fun _ => 1) (wfI k) := by
 intro H enc fuel hf cs x h
 cases fuel with
 | zero => simp [DataW.trod] at h
 | succ m =>
  unfold DataW.trod at h; rw [ht] at h
  split at h <;> simp_all
  rename_i k' y z
  obtain ⟨⟨rfl, hw⟩, rfl⟩ := h
  exact ⟨y, rfl, by simp [Rows.uptoBulk], hw⟩
theorem rd_string {t : TypeId} (ht : P.underlying t = some .string) : RdF P W n Kd.string t (fun s => s.size + 1) (fun _ => True) := by
 intro H enc fuel hf cs x h
 cases fuel with
 | zero => simp [DataW.trod] at h
 | succ m =>
  unfold DataW.trod at h; rw [ht] at h
  split at h <;> simp_all
  obtain ⟨_, rfl⟩ := h; refine ⟨_, rfl, ?_⟩
  simp [Rows.uptoBulk]
theorem rd_slice {t e : TypeId} {α : Type} {d : Kd α} {B : α → Nat} {G : α → Prop} (ht : P.underlying t = some (.slice e)) (hc : P.cellsOf e = d.sz) (h : RdF P W n d e B G) : RdF P W (n + 1) (Kd.slice e d) t (fun xs => sumB B xs + 1) (fun xs => ∀ x ∈ xs, G x) := by
 intro H enc fuel hf cs x hx
 rcases DataW.trod_slice ht hx with ⟨rfl, rfl⟩ | ⟨a, len, cap, elems, rest, m, rfl, rfl, rfl, hb, hl, hm, hlen, hel, _⟩
 ·exact ⟨[], ⟨none, 0, rfl, Nat.le_refl _, rfl, by simp, fun h0 => absurd h0 (by simp)⟩, by simp [sumB, Rows.uptoBulk], fun x hx => by simp at hx⟩
 ·have each : ∀ i, i < len → ∃ y : α, ∃ c : List Value, ∃ z, elems[i]? = some z ∧ W.cells? 0 (a.add (i * P.cellsOf e)) (P.cellsOf e) = some c ∧ d.K W y c ∧ B y ≤ Rows.uptoBulk z.1 ∧ G y := by
   intro i hi; have h1 := hel i hi
   obtain ⟨z, hz⟩ : ∃ z, elems[i]? = some z := ⟨_, List.getElem?_eq_getElem Zq3⟩
   rw [hz] at h1; obtain ⟨c, hc1, hc2⟩ := Option.bind_eq_some_iff.1 h1; obtain ⟨y, k1, k2, k3⟩ := h H enc m Zq3 c z hc2
   exact ⟨y, c, z, hz, hc1, k1, k2, k3⟩
  obtain ⟨ys, hyl, hy⟩ := list_of each; refine ⟨ys, ⟨some a, cap, by rw [hyl], Zq3, ?_⟩, ?_, ?_⟩
  ·refine ⟨rfl, ?_, fun _ => ⟨a, rfl, fun j p hj => ?_⟩⟩
   ·have : cap ≤ 9223372036854775807 := by simpa [maxLen] using hm
    omega
   ·obtain ⟨c, z, _, hcs, hk, _, _⟩ := hy j p hj; obtain ⟨_, hcl, hcc⟩ := World.cells?_some hcs; refine ⟨c, by rw [hcl, hc], hk, fun i u hu => ?_⟩
    have hi : i < P.cellsOf e := by
     rw [← hcl]
     exact (List.getElem?_eq_some_iff.1 hu).1
    have h2 := hcc i hi; rw [hu] at h2; rw [← h2, hc]; rw [Deep.add_add]
  ·have : sumB B ys ≤ Rows.uptoBulkAll (elems.map (·.1)) := by
    refine sumB_le (by simp [hyl, hlen]) (fun i y dd hyi hdi => ?_); obtain ⟨c, z, hz, _, _, hB, _⟩ := hy i y hyi; rw [List.getElem?_map, hz] at hdi
    simp at hdi
    rw [← hdi]
    exact hB
   simp only [Rows.uptoBulk]
   omega
  ·intro y hyy; obtain ⟨i, hi, he⟩ := List.getElem_of_mem hyy; obtain ⟨_, _, _, _, _, _, hg⟩ := hy i y (by rw [List.getElem?_eq_getElem hi, he])
   exact hg
end
theorem len_2 {α : Type} {l : List α} (h : l.length = 2) : ∃ a0 a1, l = [a0, a1] := by
 match l, h with
 | [b0, b1], _ => exact ⟨b0, b1, rfl⟩
theorem len_3 {α : Type} {l : List α} (h : l.length = 3) : ∃ a0 a1 a2, l = [a0, a1, a2] := by
 match l, h with
 | [b0, b1, b2], _ => exact ⟨b0, b1, b2, rfl⟩
theorem bound {H : Type} {l : List (DataW H)} (hk : Rows.uptoSmall H l = true) : Rows.uptoBulkAll l ≤ 1048576 := of_decide_eq_true hk
end Go.Proofs.Yteejaaeglfpcmab.Rdr

namespace Go.Proofs.Yteejaaeglfpcmab.PX
open Go.RowKit Go.Proofs.Yteejaaeglfpcmab.Rdr Go.Proofs.YteejaaeglfpcmabW.PrintWords Go.Proofs.YteejaaeglfpcmabW.PrintLast Go.Proofs.YteejaaeglfpcmabW.PrintMore
def bulk77 (x : S77) : Nat := (fun s => s.size + 1) x.f0 + (fun xs => sumB (fun _ => 1) xs + 1) x.f1 + 1
def good77 (x : S77) : Prop := (fun _ => True) x.f0 ∧ (fun xs => ∀ x ∈ xs, (wfI .u8) x) x.f1
theorem rd77 (W : World) (n : Nat) : RdF Try.prog W n k77 77 bulk77 good77 := by
 intro H enc fuel hfu cs x h
 cases n with
 | zero =>
  obtain rfl : fuel = 0 := by omega
  simp [DataW.trod] at h
 | succ n =>
 obtain ⟨xs, m, rfl, rfl, hl, hlen, hf⟩ := DataW.trod_struct Try.underlying77 h; have hl' : cs.length = 2 := hl.trans Zq1; clear hl; obtain ⟨u0, u1, rfl⟩ := len_2 hl'
 have z9 : Try.prog.cellsOf 9 = 1 := by kernel_rfl
 have z72 : Try.prog.cellsOf 72 = 1 := by kernel_rfl
 obtain ⟨y0, hy0⟩ : ∃ y, xs[0]? = some y := ⟨_, List.getElem?_eq_getElem (by rw [hlen]; decide)⟩
 have h0 := hf 0 _ rfl; rw [hy0] at h0; simp only [z9, List.getElem_toArray, List.getElem_cons_zero, List.getElem_cons_succ, List.drop_zero, List.drop_succ_cons, List.take_succ_cons, List.take_zero] at h0; have h0' : DataW.trod enc Try.prog W 0 (fun _ => true) true m 9 [u0] = some y0 := h0
 obtain ⟨y1, hy1⟩ : ∃ y, xs[1]? = some y := ⟨_, List.getElem?_eq_getElem (by rw [hlen]; decide)⟩
 have h1 := hf 1 _ rfl; rw [hy1] at h1; simp only [z72, List.getElem_toArray, List.getElem_cons_zero, List.getElem_cons_succ, List.drop_zero, List.drop_succ_cons, List.take_succ_cons, List.take_zero] at h1; have h1' : DataW.trod enc Try.prog W 0 (fun _ => true) true m 72 [u1] = some y1 := h1; obtain ⟨a0, k0, b0, g0⟩ := (rd_string (n := (n + 1)) Try.underlying9) H enc m Zq3 _ _ h0'; obtain ⟨a1, k1, b1, g1⟩ := (rd_slice (n := n) Try.underlying72 Zq1 (rd_int (n := n) Try.underlying5)) H enc m Zq3 _ _ h1'
 have hall : xs = [y0, y1] := by
  obtain ⟨q0, q1, rfl⟩ := len_2 (l := xs) hlen; simp only [List.getElem?_cons_zero, List.getElem?_cons_succ, Option.some.injEq] at hy0 hy1; rw [hy0, hy1]
 subst hall; refine ⟨⟨a0, a1⟩, ⟨[u0], [u1], rfl, k0, k1⟩, ?_, ?_⟩
 ·(try dsimp only at b0); (try dsimp only at b1); simp only [bulk77, Rows.uptoBulk, Rows.uptoBulkAll, List.map_cons, List.map_nil]; omega
 ·exact ⟨g0, g1⟩
mutual
def bulk30 : S30 → Nat
 | ⟨x0, x1, x2⟩ => (fun s => s.size + 1) x0 + (fun xs => sumB bulk77 xs + 1) x1 + (bulks30 x2 + 1) + 1
def bulks30 : List S30 → Nat
 | [] => 0
 | x :: r => bulk30 x + bulks30 r
end
theorem bulks30_eq (l : List S30) : bulks30 l = sumB bulk30 l := by
 induction l with
 | nil => rfl
 | cons x r ih => simp only [bulks30, sumB, ih]
mutual
def good30 : S30 → Prop
 | ⟨x0, x1, x2⟩ => (fun _ => True) x0 ∧ (fun xs => ∀ x ∈ xs, good77 x) x1 ∧ goods30 x2
def goods30 : List S30 → Prop
 | [] => True
 | x :: r => good30 x ∧ goods30 r
end
theorem goods30_iff (l : List S30) : goods30 l ↔ ∀ x ∈ l, good30 x := by
 induction l with
 | nil => simp [goods30]
 | cons x r ih => simp [goods30, ih]
theorem rd30 (W : World) (n : Nat) : RdF Try.prog W n k30 30 bulk30 good30 := by
 induction n with
 | zero =>
  intro H enc fuel hf cs x h
  obtain rfl : fuel = 0 := by omega
  simp [DataW.trod] at h
 | succ n ih =>
 intro H enc fuel hfu cs x h; obtain ⟨xs, m, rfl, rfl, hl, hlen, hf⟩ := DataW.trod_struct Try.underlying30 h; have hl' : cs.length = 3 := hl.trans Zq1; clear hl; obtain ⟨u0, u1, u2, rfl⟩ := len_3 hl'
 have z9 : Try.prog.cellsOf 9 = 1 := by kernel_rfl
 have z27 : Try.prog.cellsOf 27 = 1 := by kernel_rfl
 have z28 : Try.prog.cellsOf 28 = 1 := by kernel_rfl
 obtain ⟨y0, hy0⟩ : ∃ y, xs[0]? = some y := ⟨_, List.getElem?_eq_getElem (by rw [hlen]; decide)⟩
 have h0 := hf 0 _ rfl; rw [hy0] at h0; simp only [z9, List.getElem_toArray, List.getElem_cons_zero, List.getElem_cons_succ, List.drop_zero, List.drop_succ_cons, List.take_succ_cons, List.take_zero] at h0; have h0' : DataW.trod enc Try.prog W 0 (fun _ => true) true m 9 [u0] = some y0 := h0
 obtain ⟨y1, hy1⟩ : ∃ y, xs[1]? = some y := ⟨_, List.getElem?_eq_getElem (by rw [hlen]; decide)⟩
 have h1 := hf 1 _ rfl; rw [hy1] at h1; simp only [z27, List.getElem_toArray, List.getElem_cons_zero, List.getElem_cons_succ, List.drop_zero, List.drop_succ_cons, List.take_succ_cons, List.take_zero] at h1; have h1' : DataW.trod enc Try.prog W 0 (fun _ => true) true m 27 [u1] = some y1 := h1
 obtain ⟨y2, hy2⟩ : ∃ y, xs[2]? = some y := ⟨_, List.getElem?_eq_getElem (by rw [hlen]; decide)⟩
 have h2 := hf 2 _ rfl; rw [hy2] at h2; simp only [z28, List.getElem_toArray, List.getElem_cons_zero, List.getElem_cons_succ, List.drop_zero, List.drop_succ_cons, List.take_succ_cons, List.take_zero] at h2; have h2' : DataW.trod enc Try.prog W 0 (fun _ => true) true m 28 [u2] = some y2 := h2; obtain ⟨a0, k0, b0, g0⟩ := (rd_string (n := (n + 1)) Try.underlying9) H enc m Zq3 _ _ h0'; obtain ⟨a1, k1, b1, g1⟩ := (rd_slice (n := n) Try.underlying27 Zq1 (rd77 W n)) H enc m Zq3 _ _ h1'; obtain ⟨a2, k2, b2, g2⟩ := (rd_slice (n := n) Try.underlying28 Zq1 ih) H enc m Zq3 _ _ h2'
 have hall : xs = [y0, y1, y2] := by
  obtain ⟨q0, q1, q2, rfl⟩ := len_3 (l := xs) hlen; simp only [List.getElem?_cons_zero, List.getElem?_cons_succ, Option.some.injEq] at hy0 hy1 hy2; rw [hy0, hy1, hy2]
 subst hall
 cases k0
 obtain ⟨A1, c1, e1, l1, r1⟩ := k1
 cases e1
 obtain ⟨A2, c2, e2, l2, r2⟩ := k2
 cases e2
 refine ⟨⟨a0, a1, a2⟩, k30_mk W ⟨a0, a1, a2⟩ l1 r1 l2 r2, ?_, ?_⟩
 ·(try dsimp only at b0); (try dsimp only at b1); (try dsimp only at b2); simp only [bulk30, bulks30_eq, Rows.uptoBulk, Rows.uptoBulkAll, List.map_cons, List.map_nil]; omega
 ·exact ⟨g0, g1, (goods30_iff _).mpr g2⟩
def arboretlaw03_TreeFinds.Pure : Prop := ∀ (x0 : S30) (x1 : ByteArray), bulk30 x0 + (fun s => s.size + 1) x1 ≤ 1048576 → good30 x0 → ∃ k, arboretlaw03_TreeFinds.f k x0.f0 x0.f1 x0.f2 x1 = some true
end Go.Proofs.Yteejaaeglfpcmab.PX

namespace Go.Proofs.Yteejaaeglfpcmab.Aid
open Go.RowKit Go.Proofs.YteejaaeglfpcmabW.PrintWords
section
variable {α β : Type} {r : α}
theorem Ev.pos {c : Prop} [Decidable c] {A B : Nat → Option α} (h : c) (hA : Ev A r) : Ev (fun k => if c then A k else B k) r := by
 simp only [if_pos h]
 exact hA
theorem Ev.neg {c : Prop} [Decidable c] {A B : Nat → Option α} (h : ¬ c) (hB : Ev B r) : Ev (fun k => if c then A k else B k) r := by
 simp only [if_neg h]
 exact hB
theorem Ev.succ {g : Nat → Option α} (h : Ev (fun k => g (k + 1)) r) : Ev g r := Ev.step (fun _ => rfl) h
theorem Ev.some (r : α) : Ev (fun _ => some r) r := ⟨0, fun _ _ => rfl⟩
theorem Ev.fix {g : Option α} (h : g = Option.some r) : Ev (fun _ => g) r := ⟨0, fun _ _ => h⟩
theorem Ev.then {g : Nat → Option α} {f : Nat → α → Option β} {a : α} {b : β} (h : Ev g a) (k : Ev (fun n => f n a) b) : Ev (fun n => (g n).bind (f n)) b := Ev.bind h k
theorem Ev.out {g : Nat → Option α} (h : Ev g r) : ∃ k, g k = Option.some r := Ev.rounds h
end
theorem getD_at {α : Type} {l : List α} {d : α} {i : Nat} (h : i < l.length) : l.getD i d = l[i] := by simp [List.getD_eq_getElem?_getD, List.getElem?_eq_getElem h]
theorem drop_at {α : Type} {l : List α} {d : α} {i : Nat} (h : i < l.length) : l.drop i = l.getD i d :: l.drop (i + 1) := by rw [getD_at h]; exact List.drop_eq_getElem_cons h
end Go.Proofs.Yteejaaeglfpcmab.Aid

namespace Go.Proofs.Yteejaaeglfpcmab.PX
open Go.RowKit Go.Proofs.YteejaaeglfpcmabW.PrintWords Go.Proofs.YteejaaeglfpcmabW.PrintLast Go.Proofs.YteejaaeglfpcmabW.PrintMore
attribute [local go_sem] max2_int min2_int max_two min_two max_three min_three max_four min_four
def arboretlaw03_Few.f (k : Nat) (a0_0 : Int) (l0_1 : List (S94)) (a0_2 : ByteArray) (l0_3 : List (S77)) (l0_4 : List (S30)) : Option (Bool) := (arboretlaw03_size.f k a0_2 l0_3 l0_4 0).bind fun tbS => (if tbS ≤ 100000 then (some (decide ((l0_1.length : Int) ≤ 200))) else (some false))
end Go.Proofs.Yteejaaeglfpcmab.PX

namespace Go.Proofs.Yteejaaeglfpcmab.PX
open Go.RowKit Go.Proofs.Yteejaaeglfpcmab.Rdr Go.Proofs.Yteejaaeglfpcmab.Aid Go.Proofs.YteejaaeglfpcmabW.PrintWords
theorem rdN (xs : List S30) (i : Nat) : rd_T30 xs (i : Int) = xs.getD i z30 := by simp [rd_T30]
theorem rdP (xs : List S77) (i : Nat) : rd_T77 xs (i : Int) = xs.getD i z77 := by simp [rd_T77]
theorem getN {xs : List S30} {i : Nat} (h : i < xs.length) : xs.getD i z30 ∈ xs := by rw [getD_at h]; exact List.getElem_mem h
theorem getP {xs : List S77} {i : Nat} (h : i < xs.length) : xs.getD i z77 ∈ xs := by rw [getD_at h]; exact List.getElem_mem h
theorem bulk_pos (x : S30) : 1 ≤ bulk30 x := by
 cases x
 simp only [bulk30]
 omega
theorem bulk_eq (x : S30) : bulk30 x = x.f0.size + sumB bulk77 x.f1 + sumB bulk30 x.f2 + 4 := by
 cases x
 simp only [bulk30, bulks30_eq]
 omega
theorem bulk_kid {x k : S30} (h : k ∈ x.f2) : bulk30 k + 4 ≤ bulk30 x := by
 have := sumB_mem (B := bulk30) h; rw [bulk_eq x]
 omega
theorem bulk_prop {x : S30} {p : S77} (h : p ∈ x.f1) : bulk77 p + 4 ≤ bulk30 x := by
 have := sumB_mem (B := bulk77) h; rw [bulk_eq x]
 omega
theorem bulk_kids (x : S30) : x.f2.length + 4 ≤ bulk30 x := by
 have := sumB_len bulk_pos x.f2; rw [bulk_eq x]
 omega
theorem bulk_props (x : S30) : x.f1.length + 4 ≤ bulk30 x := by
 have := sumB_len (B := bulk77) (fun p => by unfold bulk77; omega) x.f1; rw [bulk_eq x]
 omega
theorem bulk_value (p : S77) : p.f0.size + p.f1.length + 3 ≤ bulk77 p := by
 unfold bulk77; simp only [sumB_one]
 omega
theorem step64 {i n : Nat} (h : i < n) (hn : n ≤ 1048576) : wrap64 ((i : Int) + 1) = ((i + 1 : Nat) : Int) := by unfold wrap64; omega
theorem size_ends (m : Nat) (hm : m ≤ 1048576) : ∀ x : S30, bulk30 x ≤ m → ∀ d : Int, ∃ v, Ev (fun k => arboretlaw03_size.f k x.f0 x.f1 x.f2 d) v := by
 induction m with
 | zero => intro x hx; have := bulk_pos x; omega
 | succ m ih =>
  intro x hx d; have hk := bulk_kids x; have hp := bulk_props x
  have kids : ∀ (j i : Nat) (acc : Int), i + j = x.f2.length → ∃ v, Ev (fun k => arboretlaw03_size.l1 k d acc (x.f2.length : Int) (i : Int) x.f0 x.f1 x.f2) v := by
   intro j
   induction j with
   | zero =>
    intro i acc hi; refine ⟨acc, Ev.succ ?_⟩; simp only [arboretlaw03_size.l1]
    exact Ev.neg Zq3 (Ev.some _)
   | succ j ihj =>
    intro i acc hi; have hw := step64 (i := i) (n := x.f2.length) Zq3 Zq3
    by_cases h1 : d > 20
    ·refine ⟨1048576, Ev.succ ?_⟩; simp only [arboretlaw03_size.l1]
     exact Ev.pos Zq3 (Ev.pos h1 (Ev.some _))
    by_cases h2 : acc > 100000
    ·refine ⟨1048576, Ev.succ ?_⟩; simp only [arboretlaw03_size.l1]
     exact Ev.pos Zq3 (Ev.neg h1 (Ev.pos h2 (Ev.some _)))
    have hmem := getN (xs := x.f2) (i := i) Zq3; obtain ⟨v, hv⟩ := ih Zq3 (x.f2.getD i z30) (by have := bulk_kid hmem; omega) (wrap64 (d + 1)); obtain ⟨r, hr⟩ := ihj (i + 1) (wrap64 (acc + v)) Zq3; refine ⟨r, Ev.succ ?_⟩; simp only [arboretlaw03_size.l1, rdN, hw]
    exact Ev.pos Zq3 (Ev.neg h1 (Ev.neg h2 (Ev.pos Zq3 (Ev.pos Zq3 (Ev.then hv hr)))))
  have props : ∀ (j i : Nat) (acc : Int), i + j = x.f1.length → ∃ v, Ev (fun k => arboretlaw03_size.l0 k d acc (x.f1.length : Int) (i : Int) x.f0 x.f1 x.f2) v := by
   intro j
   induction j with
   | zero =>
    intro i acc hi; obtain ⟨v, hv⟩ := kids x.f2.length 0 acc Zq3; refine ⟨v, Ev.succ ?_⟩; simp only [arboretlaw03_size.l0]
    exact Ev.neg Zq3 hv
   | succ j ihj =>
    intro i acc hi; have hw := step64 (i := i) (n := x.f1.length) Zq3 Zq3; obtain ⟨v, hv⟩ := ihj (i + 1) (wrap64 ((wrap64 ((wrap64 (acc + 1)) + (((rd_T77 x.f1 i).f0).size : Int))) + (((rd_T77 x.f1 i).f1).length : Int))) Zq3; refine ⟨v, Ev.succ ?_⟩; simp only [arboretlaw03_size.l0, hw]
    exact Ev.pos Zq3 (Ev.pos Zq3 (Ev.pos Zq3 hv))
  obtain ⟨v, hv⟩ := props x.f1.length 0 (wrap64 (1 + (x.f0.size : Int))) Zq3; refine ⟨v, Ev.succ ?_⟩; simp only [arboretlaw03_size.f]
  exact hv
end Go.Proofs.Yteejaaeglfpcmab.PX

namespace Go.Proofs.Yteejaaeglfpcmab.PX
end Go.Proofs.Yteejaaeglfpcmab.PX

namespace Go.Proofs.Yteejaaeglfpcmab.PX
open Go.RowKit Go.Proofs.YteejaaeglfpcmabW.PrintWords Go.Proofs.YteejaaeglfpcmabW.PrintLast Go.Proofs.YteejaaeglfpcmabW.PrintMore
attribute [local go_sem] max2_int min2_int max_two min_two max_three min_three max_four min_four
def words_number.l0 : Nat → Int → List Int → Int → Int → Option (Int)
 | 0, _, _, _, _ => none
 | k + 1, x3, x6, x7, x8 => if x8 < x7 then (if 0 ≤ x8 then (if x8 < (x6.length : Int) then (words_number.l0 k (Go.bits .or .u64 (IntKind.u64.wrap (x3 * 256)) (IntKind.u64.wrap (rd x6 x8))) x6 x7 (wrap64 (x8 + 1))) else (none)) else (none)) else (some x3)
def words_number.f (k : Nat) (l0 : List Int) : Option (Int) := words_number.l0 k 0 l0 (l0.length : Int) 0
def numb (l : List Int) : Int := l.foldl (fun v c => Go.bits .or .u64 (IntKind.u64.wrap (v * 256)) (IntKind.u64.wrap c)) 0
def words_Get.f (l0 : List Int) (a1 : Int) : Option (Int × Bool) := if 0 ≤ a1 ∧ 4 ≤ (l0.length : Int) - a1 then (some (numb ((l0.take (a1 + 4).toNat).drop a1.toNat) % 4294967296, true)) else (some (0, false))
end Go.Proofs.Yteejaaeglfpcmab.PX

namespace Go.Proofs.Yteejaaeglfpcmab.PX
open Go.RowKit Go.Proofs.Yteejaaeglfpcmab.Aid Go.Proofs.YteejaaeglfpcmabW.PrintWords
def isBytes (l : List Int) : Prop := ∀ b ∈ l, 0 ≤ b ∧ b ≤ 255
theorem isBytes.drop {l : List Int} (h : isBytes l) (i : Nat) : isBytes (l.drop i) := fun b hb => h b (List.mem_of_mem_drop hb)
theorem isBytes.take {l : List Int} (h : isBytes l) (i : Nat) : isBytes (l.take i) := fun b hb => h b (List.mem_of_mem_take hb)
end Go.Proofs.Yteejaaeglfpcmab.PX

namespace Go.Proofs.Yteejaaeglfpcmab.PX
open Go.RowKit Go.Proofs.YteejaaeglfpcmabW.PrintWords Go.Proofs.YteejaaeglfpcmabW.PrintLast Go.Proofs.YteejaaeglfpcmabW.PrintMore
attribute [local go_sem] max2_int min2_int max_two min_two max_three min_three max_four min_four
def prop_One.f (k : Nat) (a0_0 : ByteArray) (l0_1 : List (S77)) (l0_2 : List (S30)) (a1 : ByteArray) : Option (Int × Bool × Int) := (tree_Find.f k a0_0 l0_1 l0_2 a1).bind fun btbu => (if btbu.2 = true then ((words_Get.f btbu.1 0).bind fun btbB => (if btbB.2 = true then (if (btbu.1.length : Int) = 4 then (some (btbB.1, true, 0)) else (some (0, false, 4))) else (some (0, false, 4)))) else (some (0, false, 0)))
mutual
def arboretref01_Number.j0 : Nat → List Int → Int → Int → Bool → Option (Int × Bool)
 | 0, _, _, _, _ => none
 | k + 1, x0, x1, x2, x25 => if x25 = true then (some (0, false)) else (arboretref01_Number.l0 k x0 x1 0 x2 0)
def arboretref01_Number.l0 : Nat → List Int → Int → Int → Int → Int → Option (Int × Bool)
 | 0, _, _, _, _, _ => none
 | k + 1, x0, x1, x8, x26, x27 => if x27 < x26 then (if 0 ≤ (wrap64 (x1 + x27)) then (if (wrap64 (x1 + x27)) < (x0.length : Int) then (arboretref01_Number.l0 k x0 x1 (IntKind.u64.wrap ((IntKind.u64.wrap (x8 * 256)) + (IntKind.u64.wrap (rd x0 (wrap64 (x1 + x27)))))) x26 (wrap64 (x27 + 1))) else (none)) else (none)) else (some (x8, true))
end
def arboretref01_Number.f (k : Nat) (l0 : List Int) (a1 : Int) (a2 : Int) : Option (Int × Bool) := if a1 < 0 then (arboretref01_Number.j0 k l0 a1 a2 true) else (if a1 > (l0.length : Int) then (arboretref01_Number.j0 k l0 a1 a2 true) else (arboretref01_Number.j0 k l0 a1 a2 (decide ((wrap64 ((l0.length : Int) - a1)) < a2))))
def arboretref06_Cells.l0 : Nat → List Int → List Int → Int → Option (List Int × Int)
 | 0, _, _, _ => none
 | k + 1, x0, x4, x5 => if x5 < (x0.length : Int) then ((arboretref01_Number.f k x0 x5 4).bind fun btbT => (if x4.length < 35184372088832 then (arboretref06_Cells.l0 k x0 (x4 ++ [(btbT.1) % 4294967296]) (wrap64 (x5 + 4))) else (none))) else (some (x4, 0))
def arboretref06_Cells.f (k : Nat) (l0 : List Int) : Option (List Int × Int) := if ((l0.length : Int) % 4) = 0 then (arboretref06_Cells.l0 k l0 ([] : List Int) 0) else (some (([] : List Int), 4))
def arboretref06_One.f (k : Nat) (a0_0 : ByteArray) (l0_1 : List (S77)) (l0_2 : List (S30)) (a1 : ByteArray) : Option (Int × Bool × Int) := (arboretref01_Find.f k a0_0 l0_1 l0_2 a1).bind fun tbc => (if tbc < 0 then (some (0, false, 0)) else (if 0 ≤ tbc then (if tbc < (l0_1.length : Int) then ((arboretref06_Cells.f k ((rd_T77 l0_1 tbc).f1)).bind fun btbd => (if btbd.2 = 0 then (if (btbd.1.length : Int) = 1 then (if 0 < (btbd.1.length : Int) then (some (rd btbd.1 0, true, 0)) else (none)) else (some (0, false, 4))) else (some (0, false, 4)))) else (none)) else (none)))
end Go.Proofs.Yteejaaeglfpcmab.PX

namespace Go.Proofs.Yteejaaeglfpcmab.PX
open Go.RowKit Go.Proofs.Yteejaaeglfpcmab.Rdr Go.Proofs.Yteejaaeglfpcmab.Aid Go.Proofs.YteejaaeglfpcmabW.PrintWords
def ixP (s : List UInt8) : List S77 → Nat → Int
 | [], _ => -1
 | p :: r, i => if p.f0.toList = s then (i : Int) else ixP s r (i + 1)
def valP (s : List UInt8) : List S77 → Option (List Int)
 | [] => none
 | p :: r => if p.f0.toList = s then some p.f1 else valP s r
theorem ixP_val (s : List UInt8) : ∀ (l : List S77) (i : Nat), (valP s l = none ∧ ixP s l i = -1) ∨ ∃ j : Nat, j < l.length ∧ ixP s l i = ((i + j : Nat) : Int) ∧ valP s l = some (l.getD j z77).f1
 | [], i => .inl ⟨rfl, rfl⟩
 | p :: r, i => by
  simp only [valP, ixP]
  by_cases c : p.f0.toList = s
  ·rw [if_pos c, if_pos c]
   exact .inr ⟨0, by simp, by simp, by simp⟩
  ·rw [if_neg c, if_neg c]
   rcases ixP_val s r (i + 1) with ⟨h1, h2⟩ | ⟨j, h1, h2, h3⟩
   ·exact .inl ⟨h1, h2⟩
   ·exact .inr ⟨j + 1, by simp; omega, by rw [h2]; congr 1; omega, by rw [h3]; simp⟩
theorem clone_bytes (v : List Int) (h : v.length ≤ 1048576) : bytes_Clone.f v = some v := by
 unfold bytes_Clone.f; rw [if_pos Zq3]
def findN (s : List UInt8) (l : List S77) : List Int × Bool := match valP s l with
 | some v => (v, true)
 | none => ([], false)
theorem find_ev (x : S30) (s : ByteArray) (hx : bulk30 x ≤ 1048576) : Ev (fun k => tree_Find.f k x.f0 x.f1 x.f2 s) (findN s.toList x.f1) := by
 have hp := bulk_props x
 have key : ∀ (j i : Nat), i + j = x.f1.length → Ev (fun k => tree_Find.l0 k s x.f1 (x.f1.length : Int) (i : Int)) (findN s.toList (x.f1.drop i)) := by
  intro j
  induction j with
  | zero =>
   intro i hi; rw [List.drop_of_length_le Zq3]; refine Ev.succ ?_; simp only [tree_Find.l0, findN, valP]
   exact Ev.neg Zq3 (Ev.some _)
  | succ j ih =>
   intro i hi; have hw := step64 (i := i) (n := x.f1.length) Zq3 Zq3; have hm := getP (xs := x.f1) (i := i) Zq3; have hb := bulk_prop hm; have hv := bulk_value (x.f1.getD i z77); have hc := clone_bytes (x.f1.getD i z77).f1 Zq3; rw [drop_at (l := x.f1) (d := z77) (i := i) Zq3]; refine Ev.succ ?_; simp only [tree_Find.l0, rdP, hw, hc, Option.bind_some]; refine Ev.pos Zq3 (Ev.pos (Int.natCast_nonneg i) (Ev.pos Zq3 ?_))
   by_cases c : (x.f1.getD i z77).f0.toList = s.toList
   ·have e : findN s.toList (x.f1.getD i z77 :: x.f1.drop (i + 1)) = ((x.f1.getD i z77).f1, true) := by simp only [findN, valP, if_pos c]
    rw [e]
    exact Ev.pos c (Ev.some _)
   ·have e : findN s.toList (x.f1.getD i z77 :: x.f1.drop (i + 1)) = findN s.toList (x.f1.drop (i + 1)) := by simp only [findN, valP, if_neg c]
    rw [e]
    exact Ev.neg c (ih (i + 1) Zq3)
 have := key x.f1.length 0 Zq3; unfold tree_Find.f
 simpa using this
theorem reffind_ev (x : S30) (s : ByteArray) (hx : bulk30 x ≤ 1048576) : Ev (fun k => arboretref01_Find.f k x.f0 x.f1 x.f2 s) (ixP s.toList x.f1 0) := by
 have hp := bulk_props x
 have key : ∀ (j i : Nat), i + j = x.f1.length → Ev (fun k => arboretref01_Find.l0 k s (x.f1.length : Int) (i : Int) x.f0 x.f1 x.f2) (ixP s.toList (x.f1.drop i) i) := by
  intro j
  induction j with
  | zero =>
   intro i hi; rw [List.drop_of_length_le Zq3]; refine Ev.succ ?_; simp only [arboretref01_Find.l0, ixP]
   exact Ev.neg Zq3 (Ev.some _)
  | succ j ih =>
   intro i hi; have hw := step64 (i := i) (n := x.f1.length) Zq3 Zq3; rw [drop_at (l := x.f1) (d := z77) (i := i) Zq3]; refine Ev.succ ?_; simp only [arboretref01_Find.l0, rdP, hw, ixP]; refine Ev.pos Zq3 (Ev.pos (Int.natCast_nonneg i) (Ev.pos Zq3 ?_))
   by_cases c : (x.f1.getD i z77).f0.toList = s.toList
   ·rw [if_pos c]
    exact Ev.pos c (Ev.some _)
   ·rw [if_neg c]
    exact Ev.neg c (ih (i + 1) Zq3)
 have := key x.f1.length 0 Zq3; unfold arboretref01_Find.f
 simpa using this
end Go.Proofs.Yteejaaeglfpcmab.PX

namespace Go.Proofs.Yteejaaeglfpcmab.Pure
open Go.RowKit Go.Proofs.Yteejaaeglfpcmab.PX Go.Proofs.Yteejaaeglfpcmab.Rdr Go.Proofs.Yteejaaeglfpcmab.Aid Go.Proofs.YteejaaeglfpcmabW.PrintWords
theorem both_counts (m : Nat) (hm : m ≤ 1048576) : ∀ x : S30, bulk30 x ≤ m → ∃ v : Int × Int, Ev (fun k => tree_Count.f k x.f0 x.f1 x.f2) v ∧ Ev (fun k => arboretref01_Count.f k x.f0 x.f1 x.f2) v := by
 induction m with
 | zero => intro x hx; have := bulk_pos x; omega
 | succ m ih =>
  intro x hx; have hk := bulk_kids x
  have kids : ∀ (j i : Nat) (a b : Int), i + j = x.f2.length → ∃ v : Int × Int, Ev (fun k => tree_Count.l0 k a b x.f2 (x.f2.length : Int) (i : Int)) v ∧ Ev (fun k => arboretref01_Count.l0 k a b (x.f2.length : Int) (i : Int) x.f0 x.f1 x.f2) v := by
   intro j
   induction j with
   | zero =>
    intro i a b hi; refine ⟨(a, b), Ev.succ ?_, Ev.succ ?_⟩
    ·simp only [tree_Count.l0]
     exact Ev.neg Zq3 (Ev.some _)
    ·simp only [arboretref01_Count.l0]
     exact Ev.neg Zq3 (Ev.some _)
   | succ j ihj =>
    intro i a b hi; have hw := step64 (i := i) (n := x.f2.length) Zq3 Zq3; have hmem := getN (xs := x.f2) (i := i) Zq3; obtain ⟨v, hv, hv2⟩ := ih Zq3 (x.f2.getD i z30) (by have := bulk_kid hmem; omega); obtain ⟨r, hr, hr2⟩ := ihj (i + 1) (wrap64 (a + v.1)) (wrap64 (b + v.2)) Zq3; refine ⟨r, Ev.succ ?_, Ev.succ ?_⟩
    ·simp only [tree_Count.l0, rdN, hw]
     exact Ev.pos Zq3 (Ev.pos (Int.natCast_nonneg i) (Ev.pos Zq3 (Ev.then hv hr)))
    ·simp only [arboretref01_Count.l0, rdN, hw]
     exact Ev.pos Zq3 (Ev.pos (Int.natCast_nonneg i) (Ev.pos Zq3 (Ev.then hv2 hr2)))
  obtain ⟨v, hv, hv2⟩ := kids x.f2.length 0 1 (x.f1.length : Int) Zq3; refine ⟨v, Ev.succ ?_, Ev.succ ?_⟩
  ·simp only [tree_Count.f]
   exact hv
  ·simp only [arboretref01_Count.f]
   exact hv2
theorem refkid_ev (x : S30) (s : ByteArray) (hx : bulk30 x ≤ 1048576) : Ev (fun k => arboretref01_Kid.f k x.f0 x.f1 x.f2 s) (kidIx s.toList x.f2 0) := by
 have hk := bulk_kids x
 have key : ∀ (j i : Nat), i + j = x.f2.length → Ev (fun k => arboretref01_Kid.l0 k s (x.f2.length : Int) (i : Int) x.f0 x.f1 x.f2) (kidIx s.toList (x.f2.drop i) i) := by
  intro j
  induction j with
  | zero =>
   intro i hi; rw [List.drop_of_length_le Zq3]; refine Ev.succ ?_; simp only [arboretref01_Kid.l0, kidIx]
   exact Ev.neg Zq3 (Ev.some _)
  | succ j ih =>
   intro i hi; have hw := step64 (i := i) (n := x.f2.length) Zq3 Zq3; rw [drop_at (l := x.f2) (d := z30) (i := i) Zq3]; refine Ev.succ ?_; simp only [arboretref01_Kid.l0, rdN, hw, kidIx]; refine Ev.pos Zq3 (Ev.pos (Int.natCast_nonneg i) (Ev.pos Zq3 ?_))
   by_cases c : (x.f2.getD i z30).f0.toList = s.toList
   ·rw [if_pos c]
    exact Ev.pos c (Ev.some _)
   ·rw [if_neg c]
    exact Ev.neg c (ih (i + 1) Zq3)
 have := key x.f2.length 0 Zq3; unfold arboretref01_Kid.f
 simpa using this
theorem TreeFinds : arboretlaw03_TreeFinds.Pure := by
 intro x s hb gx
 have hx : bulk30 x ≤ 1048576 := by omega
 obtain ⟨v, hv⟩ := size_ends 1048576 Zq3 x hx 0; obtain ⟨c, hc1, hc2⟩ := both_counts 1048576 Zq3 x hx; have aw : Ev (fun _ => arboretlaw03_awake.f) true := Ev.fix rfl; refine Ev.out (?_ : Ev (fun k => arboretlaw03_TreeFinds.f k x.f0 x.f1 x.f2 s) true); unfold arboretlaw03_TreeFinds.f
 refine Ev.then aw (Ev.pos rfl (Ev.then hv (Ev.succ ?_)))
 simp only [arboretlaw03_TreeFinds.j0]
 by_cases h : v > 100000
 ·exact Ev.pos (decide_eq_true h) (Ev.then aw (Ev.some _))
 ·refine Ev.neg (by rw [decide_eq_true_eq]; exact h) ?_
  refine Ev.then hc1 (Ev.then hc2 (Ev.then (find_ev x s hx) (Ev.then (reffind_ev x s hx) (Ev.pos rfl (Ev.pos rfl ?_)))))
  rcases ixP_val s.toList x.f1 0 with ⟨h1, h2⟩ | ⟨j, hj, h2, h3⟩
  ·have hf : findN s.toList x.f1 = ([], false) := by unfold findN; rw [h1]
   rw [hf, h2]
   exact Ev.neg (by decide) (Ev.then (Ev.fix rfl) (Ev.then (refkid_ev x s hx) (Ev.pos rfl (Ev.pos (by decide) (Ev.pos rfl (Ev.some _))))))
  ·have hf : findN s.toList x.f1 = ((x.f1.getD j z77).f1, true) := by unfold findN; rw [h3]
   rw [hf, h2, Nat.zero_add]; have hd : decide ((j : Int) ≥ 0) = true := decide_eq_true (Int.natCast_nonneg j); simp only [hd, rdP]; refine Ev.neg (by decide) (Ev.then (Ev.fix rfl) (Ev.then (refkid_ev x s hx) (Ev.pos rfl (Ev.neg Zq3 (Ev.pos Zq3 (Ev.pos Zq3 (Ev.pos Zq3 (Ev.fix ?_))))))))
   simp
end Go.Proofs.Yteejaaeglfpcmab.Pure

namespace Go.Proofs.Yteejaaeglfpcmab.treeFinds
open Go.ChangeShapes Go.WideShapes Go.ChangeAt Go.RowKit Go.Proofs.Yteejaaeglfpcmab.Rdr Go.Proofs.Yteejaaeglfpcmab.PX
open Go.ChangeMaps (open_string shut_string)
theorem own : ownKnob Try.prog.godebug = none := by kernel_rfl
theorem laidOut : laidOutB Try.prog = true := by kernel_rfl
set_option maxRecDepth 100000 in
theorem contract (H : Type) (enc : TypeId × Value → H) (W : World) (base : Nat) (args : Array Value) (ds gs : List (DataW H)) (before : List MemPlace)
  (hval0 : ∀ (j : Nat) t v, Try.f10.params[j]? = some t → args[j]? = some v → Value.okWide Try.prog W .any base t v)
  (hW : DataW.Whole enc Try.prog Try.f10.params.toList Rows.treeFindsSpec.vars false W args.toList ds gs before) (hk : Rows.uptoSmall H (ds ++ gs) = true) :
  Calls Try.prog 10 args W fun e W' => ∃ v, e = .returned v ∧ Rows.treeFindsSpec.post enc Try.prog Try.f10 false true false false W args v W' := by
 have hval : ∀ (j : Nat) t v, Try.f10.params[j]? = some t → args[j]? = some v → Value.okWide Try.prog W .any base t v := hval0; have hW' := hW; obtain ⟨p, q, hA0, hV, rfl, hfz, hnd⟩ := hW; have hA : DataW.TrodAll enc Try.prog W 0 (fun _ => true) true Try.f10.params.toList args.toList ds p := hA0; rw [Try.params10] at hA hval; obtain ⟨v0, vs0, d0, ds0, p0, q0, hargs, rfl, rfl, h0, tr0⟩ := trodAll_cons hA; obtain ⟨v1, vs1, d1, ds1, p1, q1, rfl, rfl, rfl, h1, tr1⟩ := trodAll_cons tr0; obtain ⟨rfl, rfl, rfl⟩ := trodAll_nil tr1
 obtain rfl : args = #[v0, v1] := by cases args; simp_all
 obtain ⟨rfl, rfl⟩ := trodVars_none hV; have hb := bound hk; simp only [List.append_nil, Rows.uptoBulkAll, List.nil_append] at hb; have k0 := h0
 have lt0 : ∀ x ∈ p0, x.block < W.heap.size := by obtain ⟨m, hm⟩ := k0; exact DataW.trod_lt m _ _ _ hm
 have k1 := h1
 have lt1 : ∀ x ∈ p1, x.block < W.heap.size := by obtain ⟨m, hm⟩ := k1; exact DataW.trod_lt m _ _ _ hm
 obtain ⟨cs0, rfl, hcs0⟩ : ∃ cs, v0 = .agg cs ∧ True := by
  have z := (hval 0 30 v0 rfl rfl)
  simp only [Value.okWide, Try.underlying30] at z; obtain ⟨cs, hc, _⟩ := z
  exact ⟨cs, hc, trivial⟩
 obtain ⟨f0, hf0⟩ := h0; obtain ⟨x0, K0, b0, g0⟩ := rd30 W f0 H enc f0 (Nat.le_refl _) _ _ hf0; obtain ⟨A0_1, c0_1, A0_2, c0_2, e0, l0_1, r0_1, l0_2, r0_2⟩ := k30_open K0; obtain ⟨cl0⟩ := cs0; have e0' : cl0 = _ := e0; subst e0'; obtain ⟨x1, rfl, rfl, rfl, y1⟩ := open_string Try.underlying9 (hval 1 9 v1 rfl rfl) h1; obtain ⟨k, hk_⟩ := Pure.TreeFinds x0 x1 (by (try simp only [Rows.uptoBulk, Array.length_toList] at hb); first | omega | (simp only [ByteArray.size] at *; omega)) g0
 refine (arboretlaw03_TreeFinds.calls k x0.f0 A0_1 c0_1 x0.f1 A0_2 c0_2 x0.f2 x1 true W r0_1 l0_1 r0_2 l0_2 hk_).mono fun e W' ⟨he, bel0⟩ => ?_
 have bel : Below W.heap.size W W' := bel0; subst he
 exact ⟨_, rfl, _, _, _, [], _, [], hW', trodAll_mk1 (shut_bool Try.underlying4 _), (trodAll_cons_mk (Below.trod laidOut Zq1 (of_decide_eq_true Zq1) k0 bel lt0) (trodAll_cons_mk (Below.trod laidOut Zq1 (of_decide_eq_true Zq1) k1 bel lt1) trodAll_mk0)), rfl, bel.frame _, fun h => by cases h⟩
set_option maxRecDepth 100000 in
theorem lifted (os : Os) (started : os.Started) (H : Type) (enc : TypeId × Value → H) (F : Stop.Interp) :
  ReturnsInHanded {} Try.checked os 10 .any ((Rows.OpenSpec.upto Rows.treeFindsSpec).pre6 enc Try.prog Try.f10 Rows.treeFindsUptoRow.domain false) (((Rows.OpenSpec.upto Rows.treeFindsSpec).at F).post enc Try.prog Try.f10 false true false false) := by
 refine returnsInHanded_of_cond (C := Try.checked) (s := Rows.OpenSpec.upto Rows.treeFindsSpec) (k := Rows.uptoSmall) rfl own started Zq1 Try.func10
  (OpenSpec.witness (enc := enc) (C := Try.checked) (s := Rows.OpenSpec.upto Rows.treeFindsSpec) (k := Rows.uptoSmall) rfl false ⟨#[], #[.agg #[.string ByteArray.empty, .slice none 0 0, .slice none 0 0], .string ByteArray.empty], []⟩ 16 Zq1 Zq1 Zq1
   (x := ([.agg [.lit (.string []), .nil, .nil], .lit (.string [])], [], [])) Zq1 rfl Zq1) ?_
 intro W base args ds gs before hval hW _ hk _
 exact contract H enc W base args ds gs before hval hW hk
theorem over : Rows.treeFindsUptoRow.holds Try.pinned (Rows.OpenSpec.upto Rows.treeFindsSpec) :=
 OpenClaim.holds_of_cond 10 Try.f10 rfl rfl rfl rfl rfl rfl rfl ⟨rfl, rfl, rfl, rfl, rfl⟩ rfl rfl rfl rfl rfl Zq1 Try.func10 Zq1
  (of_decide_eq_true Zq1) (by unfold Func.isWrapper; first | (rw [if_pos (by decide +kernel)]; kernel_rfl) | (rw [if_neg (by decide +kernel)]; exact ⟨rfl, rfl⟩))
  (fun os started H enc _ F => lifted os started H enc F)
theorem proved : Rows.TreeFindsUptoSaid := over
end Go.Proofs.Yteejaaeglfpcmab.treeFinds
namespace Go.Proofs.Yteejaaeglfpcmab
theorem treeFinds_holds : Rows.TreeFindsUptoSaid := treeFinds.proved
end Go.Proofs.Yteejaaeglfpcmab
